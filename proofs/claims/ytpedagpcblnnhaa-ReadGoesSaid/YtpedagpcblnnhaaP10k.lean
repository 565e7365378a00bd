/- Rows of nodes, cell by cell. -/
import Derived.Test.YtpedagpcblnnhaaXK
import Derived.Test.YtpedagpcblnnhaaXreelkeeperlaw05Few
import Derived.Test.YtpedagpcblnnhaaYAll
import Derived.Test.YtpedagpcblnnhaaYAll
import Derived.Test.YtpedagpcblnnhaaYAll
import Derived.Test.YtpedagpcblnnhaaYAll
import Derived.Test.YtpedagpcblnnhaaPGA
import Derived.Laws.CopyOwn
import Derived.Laws.CopyRow
import Derived.Laws.EntriesVeiled
namespace Go.Proofs.Ytpedagpcblnnhaa.X
open Go.RowKit Go.Proofs.YtpedagpcblnnhaaW.PrintWords Go.Proofs.YtpedagpcblnnhaaW.PrintLast Go.Proofs.YtpedagpcblnnhaaW.PrintMore
attribute [local go_sem] max2_int min2_int max_two min_two
set_option linter.unusedVariables false
set_option linter.unusedSimpArgs false

open Go.Proofs.YtpedagpcblnnhaaY
abbrev kNd : Kd Nd := k31
/-! Rows of nodes, cell by cell. -/
def ndC (x : Nd) : List Value := [.string x.f0, .string x.f1, .int .u8 x.f2, .int .i64 x.f3, .int .i64 x.f4, .int .i64 x.f5, .int .i64 x.f6, .string x.f7]
theorem ndC_len (x : Nd) : (ndC x).length = 8 := rfl
def flatN : List Nd → List Value
  | [] => []
  | x :: l => ndC x ++ flatN l
theorem flatN_len : ∀ l : List Nd, (flatN l).length = 8 * l.length
  | [] => rfl
  | x :: l => by rw [flatN, List.length_append, flatN_len l, ndC_len, List.length_cons]; omega
theorem flatN_app : ∀ a b : List Nd, flatN (a ++ b) = flatN a ++ flatN b
  | [], b => rfl
  | x :: a, b => by rw [List.cons_append, flatN, flatN, flatN_app a b, List.append_assoc]
theorem flatN_one : ∀ (l : List Nd), ∀ v ∈ flatN l, v.oneCell' = true
  | [], v, h => by cases h
  | x :: l, v, h => by
    rw [flatN] at h
    rcases List.mem_append.1 h with h | h
    · unfold ndC at h
      simp only [List.mem_cons, List.not_mem_nil, or_false] at h
      rcases h with rfl | rfl | rfl | rfl | rfl | rfl | rfl | rfl <;> rfl
    · exact flatN_one l v h
theorem flatN_drop : ∀ (l : List Nd) (j : Nat), (flatN l).drop (j * 8) = flatN (l.drop j)
  | l, 0 => by simp
  | [], j + 1 => by simp [flatN]
  | x :: l, j + 1 => by
    rw [flatN, List.drop_succ_cons, ← flatN_drop l j, show (j + 1) * 8 = (ndC x).length + j * 8 by rw [ndC_len]; omega, ← List.drop_drop, List.drop_left]
theorem flatN_take : ∀ (l : List Nd) (j : Nat), (flatN l).take (j * 8) = flatN (l.take j)
  | l, 0 => by simp [flatN]
  | [], j + 1 => by simp [flatN]
  | x :: l, j + 1 => by
    rw [flatN, List.take_succ_cons, flatN, ← flatN_take l j, show (j + 1) * 8 = (ndC x).length + j * 8 by rw [ndC_len]; omega, List.take_length_add_append]
theorem flatN_at {l : List Nd} {j : Nat} {x : Nd} (h : l[j]? = some x) : ((flatN l).drop (j * 8)).take 8 = ndC x := by
  obtain ⟨hj, hx⟩ := List.getElem?_eq_some_iff.1 h
  rw [flatN_drop, ← List.getElem_cons_drop (h := hj), flatN, hx, ← ndC_len x, List.take_left]
theorem reps_flat {w : World} {base : Nat} {ok : Nat → Prop} (l : List Nd) : Reps (kNd.M w base ok) 8 l (flatN l) :=
  ⟨by rw [flatN_len]; omega, fun j p hp => by rw [flatN_at hp]; exact k31_mkM w base ok p⟩
theorem flat_reps {w : World} {base : Nat} {ok : Nat → Prop} {l : List Nd} {inner : List Value} (h : Reps (kNd.M w base ok) 8 l inner) : inner = flatN l := by
  obtain ⟨hl, hr⟩ := h
  induction l generalizing inner with
  | nil => exact List.eq_nil_of_length_eq_zero (by simpa using hl)
  | cons x l ih =>
    have h0 := hr 0 x rfl
    rw [Nat.zero_mul, List.drop_zero] at h0
    have h1 : inner.take 8 = ndC x := k31_openM h0
    have h2 : inner.drop 8 = flatN l := ih (by rw [List.length_drop, hl, List.length_cons]; omega) (fun j p hp => by
      have := hr (j + 1) p (by simpa using hp)
      rw [List.drop_drop, show 8 + j * 8 = (j + 1) * 8 by omega]
      exact this)
    rw [flatN, ← h1, ← h2, List.take_append_drop]
/-- A row of nodes of its own, known whole. -/
theorem R_of_raw {w : World} {base g cap : Nat} {l : List Nd} {rest : List Value} (hg : w.heap[g]? = some (.cells (flatN l ++ rest).toArray 31 (0, 0))) (hb : base ≤ g) (hl : l.length ≤ cap) (hm : cap ≤ maxLen) (hs : (flatN l ++ rest).length = cap * 8) :
    Kd.R kNd 31 w base (fun _ => True) (.slice (some ⟨g, 0, none⟩) l.length cap) l := by
  refine ⟨fun _ _ => trivial, flatN l, ⟨by show (flatN l).length = l.length * 8; rw [flatN_len]; omega, .inr ⟨g, cap, _, rfl, hb, hg, hl, hm, by show _ = cap * 8; simpa using hs, ?_⟩⟩, reps_flat l⟩
  show (flatN l ++ rest).take (l.length * 8) = flatN l
  rw [show l.length * 8 = (flatN l).length by rw [flatN_len]; omega, List.take_left]
theorem raw_of_R {w : World} {base g n cap : Nat} {l : List Nd} {ok : Nat → Prop} (h : Kd.R kNd 31 w base ok (.slice (some ⟨g, 0, none⟩) n cap) l) :
    ∃ rest, w.heap[g]? = some (.cells (flatN l ++ rest).toArray 31 (0, 0)) ∧ base ≤ g ∧ n = l.length ∧ l.length ≤ cap ∧ (flatN l ++ rest).length = cap * 8 := by
  obtain ⟨_, inner, ⟨hl, ho⟩, hr⟩ := h
  rcases ho with ⟨e, _⟩ | ⟨g', cap', cur, e, hb, hg, hn, hm, hs, ht⟩
  · cases e
  · injection e with e1 e2 e3
    injection e1 with e1
    injection e1 with e1
    subst e1 e3
    have hi : inner = flatN l := flat_reps hr
    have hcur : cur = (flatN l ++ cur.toList.drop (l.length * 8)).toArray := by
      apply Array.ext'
      simp only [List.toList_toArray]
      rw [← hi]
      have ht2 : cur.toList.take (l.length * 8) = inner := ht
      rw [← ht2, List.take_append_drop]
    refine ⟨cur.toList.drop (l.length * 8), by rw [← hcur]; exact hg, hb, e2, hn, ?_⟩
    have : (flatN l ++ cur.toList.drop (l.length * 8)).toArray.size = cap * 8 := by rw [← hcur]; exact hs
    simpa using this
/-- The cells of a row that is read. -/
theorem C_flat {w : World} {ad : Addr} {n : Nat} {l : List Nd} (h : Kd.C kNd w (some ad) n l) : ∀ j v, (flatN l)[j]? = some v → w.cell? (ad.add j) = some v := by
  intro j v hv
  have hjl : j < (flatN l).length := (List.getElem?_eq_some_iff.1 hv).1
  rw [flatN_len] at hjl
  obtain ⟨hl, _, hr⟩ := h
  obtain ⟨ad', e, hc⟩ := hr (by omega)
  injection e with e
  subst e
  have hq : j / 8 < l.length := by omega
  obtain ⟨c, hcl, hK, hcell⟩ := hc (j / 8) _ (List.getElem?_eq_getElem hq)
  have hcn : c = ndC l[j / 8] := k31_open hK
  have hat := flatN_at (l := l) (List.getElem?_eq_getElem hq)
  have hj2 : c[j % 8]? = some v := by
    rw [hcn, ← hat, List.getElem?_take, if_pos (by omega), List.getElem?_drop, show j / 8 * 8 + j % 8 = j by omega]
    exact hv
  have h3 : w.cell? (ad.add (j / 8 * 8 + j % 8)) = some v := hcell (j % 8) v hj2
  rwa [show j / 8 * 8 + j % 8 = j by omega] at h3
/-- copy, of elements of any size, into a row that is known whole. -/
theorem run_copyK {P : Program} (w : World) (dT sT ty elem : TypeId) (g o dLen dCap : Nat) (sp : Option Addr) (sLen sCap : Nat) (cur : List Value) (t : TypeId) (cs : List Value) (k : Nat)
    (hu : P.underlying dT = some (.slice elem)) (hs : (P.info? elem).map (·.size) = some k) (hg : w.heap[g]? = some (.cells cur.toArray t (0, 0))) (hn : cs.length = Nat.min sLen dLen * k)
    (hsrc : 0 < cs.length → ∃ ad, sp = some ad ∧ ∀ j v, cs[j]? = some v → w.cell? (ad.add j) = some v) (hfit : o + cs.length ≤ cur.length) (h1 : ∀ v ∈ cs, v.oneCell' = true) :
    (Builtin.copy_ #[dT, sT] ty #[.slice (some ⟨g, o, none⟩) dLen dCap, .slice sp sLen sCap]).run P w = .ok (goInt (Nat.min sLen dLen)) (w.setRow g (cur.take o ++ cs ++ cur.drop (o + cs.length)).toArray) := by
  have hst := run_storeCells_at P g o t cs 0 cur.toArray w hg (by simpa using hfit) h1
  simp only [List.toList_toArray, Nat.add_zero] at hst
  cases hq : P.info? elem with
  | none => simp [hq] at hs
  | some i =>
    have hi : i.size = k := by simpa [hq] using hs
    by_cases h0 : cs.length = 0
    · obtain rfl : cs = [] := List.eq_nil_of_length_eq_zero h0
      have hl : ∀ (x : Addr), (loadCells x 0).run P w = .ok #[] w := fun x => by simpa using run_loadCells_list (P := P) w x [] (by simp)
      have hn0 : Nat.min sLen dLen * k = 0 := by simpa using hn.symm
      have hself : w.setRow g cur.toArray = w := setRow_self w g _ t (0, 0) hg
      simp only [List.length_nil, Nat.add_zero, List.append_nil, List.take_append_drop] at hst ⊢
      cases sp <;> simp [Builtin.copy_, run_underlying hu, Builtin.lenOf, Builtin.firstCells, sizeOf, typeInfo, hq, hi, hn0, hl, storeCells, hself]
    · obtain ⟨ad, rfl, hsrc2⟩ := hsrc (by omega)
      have hl := run_loadCells_list (P := P) w ad cs hsrc2
      simp [Builtin.copy_, run_underlying hu, Builtin.lenOf, Builtin.firstCells, sizeOf, typeInfo, hq, hi, ← hn, hl, hst]
section
variable {P : Program} {ops : Array Oper} {rest : List Oper} {o : Oper} {a : Act} {Q : Exit → Act → World → Prop} {w : World}
theorem wpList_copyK (hgd : o.guard = none) (d s : Operand) (dT sT : TypeId)
    (ho : o.op = .call { callee := .builtin .copy, args := #[d, s], argTypes := #[dT, sT] }) (elem : TypeId) (k : Nat) (hu : P.underlying dT = some (.slice elem)) (hsz : (P.info? elem).map (·.size) = some k)
    (g off : Nat) (sp : Option Addr) (dLen dCap sLen sCap : Nat) (hd : a.eval d = .slice (some ⟨g, off, none⟩) dLen dCap) (hs : a.eval s = .slice sp sLen sCap)
    (cur : List Value) (t : TypeId) (hg : w.heap[g]? = some (.cells cur.toArray t (0, 0))) (cs : List Value) (hn : cs.length = Nat.min sLen dLen * k)
    (hsrc : 0 < cs.length → ∃ ad, sp = some ad ∧ ∀ j v, cs[j]? = some v → w.cell? (ad.add j) = some v)
    (hfit : off + cs.length ≤ cur.length) (h1 : ∀ v ∈ cs, v.oneCell' = true)
    (h : ∀ w', w'.heap[g]? = some (.cells (cur.take off ++ cs ++ cur.drop (off + cs.length)).toArray t (0, 0)) → Turn (fun k => k = g) w w' → wpList P ops Q rest (a.put o.dst (goInt (Nat.min sLen dLen))) w') :
    wpList P ops Q (o :: rest) a w := by
  refine wpList_plain hgd fun K hK => ?_
  have hr := run_copyK (P := P) w dT sT o.type elem g off dLen dCap sp sLen sCap cur t cs k hu hsz hg hn hsrc hfit h1
  unfold Oper.wp execOp
  simp only [ho, resolve, invoke, builtin, Sem.run_bind, Sem.run_pure, Result.andThen_ok, List.map_toArray, List.map_cons, List.map_nil, hd, hs, hr]
  exact hK _ _ (h _ (setRow_heap w g _ _ t _ hg) (Turn.setRow _ _ rfl))
end
theorem nd_sz : (Try.prog.info? 31).map (·.size) = some 8 := by kernel_rfl
theorem nd_cells {w : World} {A : Option Addr} {n : Nat} {t : List Nd} (h : Kd.C kNd w A n t) {i : Nat} (hi : i < n) (x : Nd) (hx : t[i]? = some x) : ∃ ad, A = some ad ∧ w.cell? (ad.add (i * 8)) = some (.string x.f0) ∧ w.cell? ⟨(ad.add (i * 8)).block, (ad.add (i * 8)).off + 1, none⟩ = some (.string x.f1) ∧ w.cell? ⟨(ad.add (i * 8)).block, (ad.add (i * 8)).off + 2, none⟩ = some (.int .u8 x.f2) ∧ w.cell? ⟨(ad.add (i * 8)).block, (ad.add (i * 8)).off + 3, none⟩ = some (.int .i64 x.f3) ∧ w.cell? ⟨(ad.add (i * 8)).block, (ad.add (i * 8)).off + 4, none⟩ = some (.int .i64 x.f4) ∧ w.cell? ⟨(ad.add (i * 8)).block, (ad.add (i * 8)).off + 5, none⟩ = some (.int .i64 x.f5) ∧ w.cell? ⟨(ad.add (i * 8)).block, (ad.add (i * 8)).off + 6, none⟩ = some (.int .i64 x.f6) ∧ w.cell? ⟨(ad.add (i * 8)).block, (ad.add (i * 8)).off + 7, none⟩ = some (.string x.f7) := by
  have h1 := at_T31 h (i : Int) (by omega) (by omega)
  have e : rd_T31 t (i : Int) = x := by unfold rd_T31; rw [Int.toNat_natCast, List.getD_eq_getElem?_getD, hx]; rfl
  rw [e, Int.toNat_natCast] at h1
  exact h1
theorem more_row {W : World} {g : Nat} (n : S31) (h : W.heap[g]? = some (.cells #[.string n.f0, .string n.f1, .int .u8 n.f2, .int .i64 n.f3, .int .i64 n.f4, .int .i64 n.f5, .int .i64 n.f6, .string n.f7] 31)) : Kd.C k31 W (some ⟨g, 0, none⟩) 1 [n] := by
  refine ⟨rfl, by simp, fun _ => ⟨_, rfl, fun j p hp => ?_⟩⟩
  cases j with
  | succ j => simp at hp
  | zero =>
    simp only [List.getElem?_cons_zero, Option.some.injEq] at hp
    subst hp
    refine ⟨[.string n.f0, .string n.f1, .int .u8 n.f2, .int .i64 n.f3, .int .i64 n.f4, .int .i64 n.f5, .int .i64 n.f6, .string n.f7], rfl, ?_, fun i u hu => ?_⟩
    · exact Kd.K_of_M (base := 0) (ok := fun _ => True) k31 (k31_mkM _ 0 (fun _ => True) n)
    · rw [add_plain, blk_cell h]
      rw [← hu]
      simp

end Go.Proofs.Ytpedagpcblnnhaa.X
