import Derived.Test.YtklbnfpjjcidiaaXK
import Derived.Test.YtklbnfpjjcidiaaXGfsa
import Derived.Test.YtklbnfpjjcidiaaYAll
import Derived.Test.YtklbnfpjjcidiaaPGA
import Derived.Laws.CopyOwn
import Derived.Laws.CopyRow
import Derived.Laws.EntriesVeiled
import Derived.Lib.AppendZeros
import Derived.WalkSpells
namespace Go.Proofs.Ytklbnfpjjcidiaa.X
open Go.RowKit Go.Proofs.YtklbnfpjjcidiaaW.PrintWords Go.Proofs.YtklbnfpjjcidiaaW.PrintLast Go.Proofs.YtklbnfpjjcidiaaW.PrintMore
attribute [local go_sem] max2_int min2_int max_two min_two
set_option linter.unusedVariables false
set_option linter.unusedSimpArgs false

open Go.Proofs.YtklbnfpjjcidiaaY
/-! Rows of nodes, cell by cell. -/
def ndC (x : Nd) : List Value := [.string x.f0, .string x.f1, .int .u8 x.f2, .int .i64 x.f3, .int .i64 x.f4, .int .i64 x.f5, .int .i64 x.f6, .string x.f7]
theorem ndC_len (x : Nd) : (ndC x).length = 8 := rfl
def flatN : List Nd → List Value
  | [] => []
  | x :: l => ndC x ++ flatN l
theorem flatN_len : ∀ l : List Nd, (flatN l).length = 8 * l.length
  | [] => rfl
  | x :: l => by rw [flatN, List.length_append, flatN_len l, ndC_len, List.length_cons]; omega
theorem flatN_app : ∀ a b : List Nd, flatN (a ++ b) = flatN a ++ flatN b
  | [], b => rfl
  | x :: a, b => by rw [List.cons_append, flatN, flatN, flatN_app a b, List.append_assoc]
theorem flatN_one : ∀ (l : List Nd), ∀ v ∈ flatN l, v.oneCell' = true
  | [], v, h => by cases h
  | x :: l, v, h => by
    rw [flatN] at h
    rcases List.mem_append.1 h with h | h
    · unfold ndC at h
      simp only [List.mem_cons, List.not_mem_nil, or_false] at h
      rcases h with rfl | rfl | rfl | rfl | rfl | rfl | rfl | rfl <;> rfl
    · exact flatN_one l v h
theorem flatN_drop : ∀ (l : List Nd) (j : Nat), (flatN l).drop (j * 8) = flatN (l.drop j)
  | l, 0 => by simp
  | [], j + 1 => by simp [flatN]
  | x :: l, j + 1 => by
    rw [flatN, List.drop_succ_cons, ← flatN_drop l j, show (j + 1) * 8 = (ndC x).length + j * 8 by rw [ndC_len]; omega, ← List.drop_drop, List.drop_left]
theorem flatN_take : ∀ (l : List Nd) (j : Nat), (flatN l).take (j * 8) = flatN (l.take j)
  | l, 0 => by simp [flatN]
  | [], j + 1 => by simp [flatN]
  | x :: l, j + 1 => by
    rw [flatN, List.take_succ_cons, flatN, ← flatN_take l j, show (j + 1) * 8 = (ndC x).length + j * 8 by rw [ndC_len]; omega, List.take_length_add_append]
theorem flatN_at {l : List Nd} {j : Nat} {x : Nd} (h : l[j]? = some x) : ((flatN l).drop (j * 8)).take 8 = ndC x := by
  obtain ⟨hj, hx⟩ := List.getElem?_eq_some_iff.1 h
  rw [flatN_drop, ← List.getElem_cons_drop (h := hj), flatN, hx, ← ndC_len x, List.take_left]
theorem reps_flat {w : World} {base : Nat} {ok : Nat → Prop} (l : List Nd) : Reps (kNd.M w base ok) 8 l (flatN l) :=
  ⟨by rw [flatN_len]; omega, fun j p hp => by rw [flatN_at hp]; exact k26_mkM w base ok p⟩
theorem flat_reps {w : World} {base : Nat} {ok : Nat → Prop} {l : List Nd} {inner : List Value} (h : Reps (kNd.M w base ok) 8 l inner) : inner = flatN l := by
  obtain ⟨hl, hr⟩ := h
  induction l generalizing inner with
  | nil => exact List.eq_nil_of_length_eq_zero (by simpa using hl)
  | cons x l ih =>
    have h0 := hr 0 x rfl
    rw [Nat.zero_mul, List.drop_zero] at h0
    have h1 : inner.take 8 = ndC x := k26_openM h0
    have h2 : inner.drop 8 = flatN l := ih (by rw [List.length_drop, hl, List.length_cons]; omega) (fun j p hp => by
      have := hr (j + 1) p (by simpa using hp)
      rw [List.drop_drop, show 8 + j * 8 = (j + 1) * 8 by omega]
      exact this)
    rw [flatN, ← h1, ← h2, List.take_append_drop]
/-- A row of nodes of its own, known whole. -/
theorem R_of_raw {w : World} {base g cap : Nat} {l : List Nd} {rest : List Value} (hg : w.heap[g]? = some (.cells (flatN l ++ rest).toArray 26 (0, 0))) (hb : base ≤ g) (hl : l.length ≤ cap) (hm : cap ≤ maxLen) (hs : (flatN l ++ rest).length = cap * 8) :
    Kd.R kNd 26 w base (fun _ => True) (.slice (some ⟨g, 0, none⟩) l.length cap) l := by
  refine ⟨fun _ _ => trivial, flatN l, ⟨by show (flatN l).length = l.length * 8; rw [flatN_len]; omega, .inr ⟨g, cap, _, rfl, hb, hg, hl, hm, by show _ = cap * 8; simpa using hs, ?_⟩⟩, reps_flat l⟩
  show (flatN l ++ rest).take (l.length * 8) = flatN l
  rw [show l.length * 8 = (flatN l).length by rw [flatN_len]; omega, List.take_left]
theorem raw_of_R {w : World} {base g n cap : Nat} {l : List Nd} {ok : Nat → Prop} (h : Kd.R kNd 26 w base ok (.slice (some ⟨g, 0, none⟩) n cap) l) :
    ∃ rest, w.heap[g]? = some (.cells (flatN l ++ rest).toArray 26 (0, 0)) ∧ base ≤ g ∧ n = l.length ∧ l.length ≤ cap ∧ (flatN l ++ rest).length = cap * 8 := by
  obtain ⟨_, inner, ⟨hl, ho⟩, hr⟩ := h
  rcases ho with ⟨e, _⟩ | ⟨g', cap', cur, e, hb, hg, hn, hm, hs, ht⟩
  · cases e
  · injection e with e1 e2 e3
    injection e1 with e1
    injection e1 with e1
    subst e1 e3
    have hi : inner = flatN l := flat_reps hr
    have hcur : cur = (flatN l ++ cur.toList.drop (l.length * 8)).toArray := by
      apply Array.ext'
      simp only [List.toList_toArray]
      rw [← hi]
      have ht2 : cur.toList.take (l.length * 8) = inner := ht
      rw [← ht2, List.take_append_drop]
    refine ⟨cur.toList.drop (l.length * 8), by rw [← hcur]; exact hg, hb, e2, hn, ?_⟩
    have : (flatN l ++ cur.toList.drop (l.length * 8)).toArray.size = cap * 8 := by rw [← hcur]; exact hs
    simpa using this
/-- The cells of a row that is read. -/
theorem C_flat {w : World} {ad : Addr} {n : Nat} {l : List Nd} (h : Kd.C kNd w (some ad) n l) : ∀ j v, (flatN l)[j]? = some v → w.cell? (ad.add j) = some v := by
  intro j v hv
  have hjl : j < (flatN l).length := (List.getElem?_eq_some_iff.1 hv).1
  rw [flatN_len] at hjl
  obtain ⟨hl, _, hr⟩ := h
  obtain ⟨ad', e, hc⟩ := hr (by omega)
  injection e with e
  subst e
  have hq : j / 8 < l.length := by omega
  obtain ⟨c, hcl, hK, hcell⟩ := hc (j / 8) _ (List.getElem?_eq_getElem hq)
  have hcn : c = ndC l[j / 8] := k26_open hK
  have hat := flatN_at (l := l) (List.getElem?_eq_getElem hq)
  have hj2 : c[j % 8]? = some v := by
    rw [hcn, ← hat, List.getElem?_take, if_pos (by omega), List.getElem?_drop, show j / 8 * 8 + j % 8 = j by omega]
    exact hv
  have h3 : w.cell? (ad.add (j / 8 * 8 + j % 8)) = some v := hcell (j % 8) v hj2
  rwa [show j / 8 * 8 + j % 8 = j by omega] at h3
/-- copy, of elements of any size, into a row that is known whole. -/
theorem run_copyK {P : Program} (w : World) (dT sT ty elem : TypeId) (g o dLen dCap : Nat) (sp : Option Addr) (sLen sCap : Nat) (cur : List Value) (t : TypeId) (cs : List Value) (k : Nat)
    (hu : P.underlying dT = some (.slice elem)) (hs : (P.info? elem).map (·.size) = some k) (hg : w.heap[g]? = some (.cells cur.toArray t (0, 0))) (hn : cs.length = Nat.min sLen dLen * k)
    (hsrc : 0 < cs.length → ∃ ad, sp = some ad ∧ ∀ j v, cs[j]? = some v → w.cell? (ad.add j) = some v) (hfit : o + cs.length ≤ cur.length) (h1 : ∀ v ∈ cs, v.oneCell' = true) :
    (Builtin.copy_ #[dT, sT] ty #[.slice (some ⟨g, o, none⟩) dLen dCap, .slice sp sLen sCap]).run P w = .ok (goInt (Nat.min sLen dLen)) (w.setRow g (cur.take o ++ cs ++ cur.drop (o + cs.length)).toArray) := by
  have hst := run_storeCells_at P g o t cs 0 cur.toArray w hg (by simpa using hfit) h1
  simp only [List.toList_toArray, Nat.add_zero] at hst
  cases hq : P.info? elem with
  | none => simp [hq] at hs
  | some i =>
    have hi : i.size = k := by simpa [hq] using hs
    by_cases h0 : cs.length = 0
    · obtain rfl : cs = [] := List.eq_nil_of_length_eq_zero h0
      have hl : ∀ (x : Addr), (loadCells x 0).run P w = .ok #[] w := fun x => by simpa using run_loadCells_list (P := P) w x [] (by simp)
      have hn0 : Nat.min sLen dLen * k = 0 := by simpa using hn.symm
      have hself : w.setRow g cur.toArray = w := setRow_self w g _ t (0, 0) hg
      simp only [List.length_nil, Nat.add_zero, List.append_nil, List.take_append_drop] at hst ⊢
      cases sp <;> simp [Builtin.copy_, run_underlying hu, Builtin.lenOf, Builtin.firstCells, sizeOf, typeInfo, hq, hi, hn0, hl, storeCells, hself]
    · obtain ⟨ad, rfl, hsrc2⟩ := hsrc (by omega)
      have hl := run_loadCells_list (P := P) w ad cs hsrc2
      simp [Builtin.copy_, run_underlying hu, Builtin.lenOf, Builtin.firstCells, sizeOf, typeInfo, hq, hi, ← hn, hl, hst]
section
variable {P : Program} {ops : Array Oper} {rest : List Oper} {o : Oper} {a : Act} {Q : Exit → Act → World → Prop} {w : World}
theorem wpList_copyK (hgd : o.guard = none) (d s : Operand) (dT sT : TypeId)
    (ho : o.op = .call { callee := .builtin .copy, args := #[d, s], argTypes := #[dT, sT] }) (elem : TypeId) (k : Nat) (hu : P.underlying dT = some (.slice elem)) (hsz : (P.info? elem).map (·.size) = some k)
    (g off : Nat) (sp : Option Addr) (dLen dCap sLen sCap : Nat) (hd : a.eval d = .slice (some ⟨g, off, none⟩) dLen dCap) (hs : a.eval s = .slice sp sLen sCap)
    (cur : List Value) (t : TypeId) (hg : w.heap[g]? = some (.cells cur.toArray t (0, 0))) (cs : List Value) (hn : cs.length = Nat.min sLen dLen * k)
    (hsrc : 0 < cs.length → ∃ ad, sp = some ad ∧ ∀ j v, cs[j]? = some v → w.cell? (ad.add j) = some v)
    (hfit : off + cs.length ≤ cur.length) (h1 : ∀ v ∈ cs, v.oneCell' = true)
    (h : ∀ w', w'.heap[g]? = some (.cells (cur.take off ++ cs ++ cur.drop (off + cs.length)).toArray t (0, 0)) → Turn (fun k => k = g) w w' → wpList P ops Q rest (a.put o.dst (goInt (Nat.min sLen dLen))) w') :
    wpList P ops Q (o :: rest) a w := by
  refine wpList_plain hgd fun K hK => ?_
  have hr := run_copyK (P := P) w dT sT o.type elem g off dLen dCap sp sLen sCap cur t cs k hu hsz hg hn hsrc hfit h1
  unfold Oper.wp execOp
  simp only [ho, resolve, invoke, builtin, Sem.run_bind, Sem.run_pure, Result.andThen_ok, List.map_toArray, List.map_cons, List.map_nil, hd, hs, hr]
  exact hK _ _ (h _ (setRow_heap w g _ _ t _ hg) (Turn.setRow _ _ rfl))
end
theorem fs_size : (Try.prog.info? 24).map (·.size) = some 1 := by kernel_rfl
theorem nd_sz : (Try.prog.info? 26).map (·.size) = some 8 := by kernel_rfl
set_option maxRecDepth 100000 in
set_option maxHeartbeats 1600000 in
theorem fs_own.at_ (A : Option Addr) (c : Nat) (l : List Nd) (w : World) (hC : Kd.C kNd w A l.length l) (hl : l.length ≤ 1000) :
    Calls Try.prog 31 #[.agg #[.slice A l.length c]] w fun e w' => ∃ g : Nat, e = .returned (.agg #[.slice (some ⟨g, 0, none⟩) l.length l.length]) ∧ Kd.R kNd 26 w' w.heap.size (fun _ => True) (.slice (some ⟨g, 0, none⟩) l.length l.length) l ∧ Below w.heap.size w w' := by
  obtain ⟨i0, hi, hz0', hz1, hz2⟩ := info_parts info26
  obtain ⟨Z, hZ⟩ : ∃ Z : Array Value, madeCells (Value.agg #[.string ⟨#[]⟩, .string ⟨#[]⟩, .int .u8 0, .int .i64 0, .int .i64 0, .int .i64 0, .int .i64 0, .string ⟨#[]⟩]).cells (l.length * 8) = Z := ⟨_, rfl⟩
  have hZl : Z.toList.length = l.length * 8 := by rw [← hZ]; simp [size_madeCells]
  have hmk : ∀ W : World, (Instr.makeSlice 22 (.int .i64 (l.length : Int)) (.int .i64 (l.length : Int))).run Try.prog W = .ok (.slice (some ⟨W.heap.size, 0, none⟩) l.length l.length) (W.alloc (.cells Z.toList.toArray 26)) := by
    intro W
    have := run_make (P := Try.prog) W 22 26 i0 _ Try.underlying22 hi hz0' .i64 .i64 (l.length : Int) (l.length : Int) (by omega) (by omega) (by rw [hz2]; omega) (by omega)
    rw [this, hz1]
    show Result.ok _ (W.alloc (.cells (madeCells _ _) _)) = _
    rw [Int.toNat_natCast, hZ]
  clear hi hz0' hz1 hz2 hZ
  have e1 := blk_alloc (heap_alloc_new w (.cells #[.slice A l.length c] 24)) (.cells #[.slice none 0 0] 24)
  have e2 := heap_alloc_new (w.alloc (.cells #[.slice A l.length c] 24)) (.cells #[.slice none 0 0] 24)
  have HB2 := below_alloc (below_alloc (Below.refl w.heap.size w) (.cells #[.slice A l.length c] 24)) (.cells #[.slice none 0 0] 24)
  rw [World.size_alloc] at e2
  have z0 := (blk_cell e1 0).trans (show _ = some (Value.slice A l.length c) from rfl)
  have HB2 := Aside0.mk HB2
  have E1 := Aside0.mk e1
  have E2 := Aside0.mk e2
  have HC := Aside0.mk hC
  have HZL := Aside0.mk hZl
  clear e1 e2 hC hZl
  go_enter Try.func31, Try.ntmps31
  go_upto_region 2 with (fail)
  have hs2 : ((w.alloc (.cells #[.slice A l.length c] 24)).alloc (.cells #[.slice none 0 0] 24)).heap.size = w.heap.size + 1 + 1 := by simp
  obtain ⟨W2, hW2⟩ : ∃ W2, (w.alloc (.cells #[.slice A l.length c] 24)).alloc (.cells #[.slice none 0 0] 24) = W2 := ⟨_, rfl⟩
  rw [hW2] at HB2 E1 E2 hs2 ⊢
  clear hW2 z0
  have HB3 := below_alloc HB2.out (.cells Z.toList.toArray 26)
  have E13 := blk_alloc E1.out (.cells Z.toList.toArray 26)
  have E23 := blk_alloc E2.out (.cells Z.toList.toArray 26)
  have G3 := heap_alloc_new W2 (.cells Z.toList.toArray 26)
  rw [hs2] at G3
  obtain ⟨W3, hW3⟩ : ∃ W3, W2.alloc (.cells Z.toList.toArray 26) = W3 := ⟨_, rfl⟩
  rw [hW3] at HB3 E13 E23 G3 ⊢
  clear hW3 HB2 E1 E2
  have z0 := (blk_cell E13 0).trans (show _ = some (Value.slice A l.length c) from rfl)
  have hC3 := Kd.C_below HC.out HB3
  have hcs : (flatN l).length = Nat.min l.length l.length * 8 := by show _ = min l.length l.length * 8; rw [flatN_len, Nat.min_self]; omega
  have hsrc : 0 < (flatN l).length → ∃ ad, A = some ad ∧ ∀ j v, (flatN l)[j]? = some v → W3.cell? (ad.add j) = some v := by
    intro hp
    rw [flatN_len] at hp
    obtain ⟨ad, rfl, _⟩ := hC3.2.2 (by omega)
    exact ⟨ad, rfl, C_flat hC3⟩
  have hfit : 0 + (flatN l).length ≤ Z.toList.length := by rw [HZL.out, flatN_len]; omega
  have HF := Aside0.mk (And.intro hcs (And.intro hsrc hfit))
  have G3 := Aside0.mk G3
  have HB3 := Aside0.mk HB3
  have E13 := Aside0.mk E13
  have E23 := Aside0.mk E23
  clear hcs hsrc hfit hC3
  go_upto_region 3 with ((with_reducible refine gate_builtin (b := .copy) (xs := #[.tmp 8, .tmp 10]) rfl ?_); go_must (refine wpList_copyK rfl (.tmp 8) (.tmp 10) 22 22 rfl 26 8 Try.underlying22 nd_sz (w.heap.size + 1 + 1) 0 A l.length l.length l.length c rfl rfl Z.toList 26 G3.out (flatN l) HF.out.1 HF.out.2.1 HF.out.2.2 (flatN_one l) ?_); intro w4 hg4 hT4; have HG4 := Aside0.mk hg4; have HT4 := Aside0.mk hT4; clear hg4 hT4)
  have E24 := (HT4.out.block _ (blk_lt E23.out) (by show w.heap.size + 1 ≠ w.heap.size + 1 + 1; omega)).trans E23.out
  have HB4 := HB3.out.trans (HT4.out.below (fun k hk => by omega) (by have := HB3.out.size; omega))
  have hg4 := HG4.out
  rw [List.take_zero, List.nil_append, Nat.zero_add, flatN_len, List.drop_of_length_le (by rw [HZL.out]; omega)] at hg4
  have HR4 := Aside0.mk (R_of_raw (base := w.heap.size) hg4 (by omega) (Nat.le_refl _) (by unfold maxLen; omega) (by rw [List.append_nil, flatN_len]; omega))
  have y0 := blk_frozen E24 0
  have x0 := (blk_cell E24 0).trans (show _ = some (Value.slice none 0 0) from rfl)
  have HB4 := Aside0.mk HB4
  have E24 := Aside0.mk E24
  clear HG4 HT4 HF G3 HB3 E13 E23 hg4 z0
  go_wp2_with (fail)
  refine bodyPost_ret (results_cell_row rfl _ _ (w.heap.size + 1) 24 #[.slice (some ⟨w.heap.size + 1 + 1, 0, none⟩) l.length l.length] (0, 0) _ rfl (blk_put E24.out 0 (.slice (some ⟨w.heap.size + 1 + 1, 0, none⟩) l.length l.length) rfl) Try.underlying24 rfl fs_size) rfl ?_
  exact ⟨_, rfl, Kd.R_far (Kd.R_mono (Kd.R_bound HR4.out) (ok' := fun k => k ≠ w.heap.size + 1) (fun k hk => fun he => by
    subst he
    obtain ⟨q, hq, cells, hc⟩ := hk.2.2.2
    rw [E24.out] at hc
    injection hc with hc
    injection hc with _ hc _
    subst hc
    revert hq
    decide)) (p := ⟨w.heap.size + 1, 0, none⟩) (fun k hk => hk) _ |> fun h => Kd.R_mono h (fun _ _ => trivial), HB4.out.setCell (p := ⟨w.heap.size + 1, 0, none⟩) (by show w.heap.size ≤ w.heap.size + 1; omega) _⟩
end Go.Proofs.Ytklbnfpjjcidiaa.X
namespace Go.Proofs.Ytklbnfpjjcidiaa.X
open Go.RowKit Go.Proofs.YtklbnfpjjcidiaaW.PrintWords Go.Proofs.YtklbnfpjjcidiaaW.PrintLast Go.Proofs.YtklbnfpjjcidiaaW.PrintMore
attribute [local go_sem] max2_int min2_int max_two min_two
set_option linter.unusedVariables false
set_option linter.unusedSimpArgs false

open Go.Proofs.YtklbnfpjjcidiaaY
theorem add_at (g o j : Nat) : (⟨g, o, none⟩ : Addr).add j = ⟨g, o + j, none⟩ := by unfold Addr.add; split <;> simp_all
/-- append(s, make([]T, m)...) where there is no room: a new row. -/
theorem run_zeros_grow {P : Program} (w : World) (t ti ty e : TypeId) (i : TypeInfo) (z : Value) (ht : P.underlying t = some (.slice e)) {k : IntKind} (hti : P.underlying ti = some (.int k)) (hi : P.info? e = some i) (hz : i.zero = some z)
    (hzs : z.cells.size = i.size) (hsz : 0 < i.size) (hb0 : 0 < i.bytes) (A : Option Addr) (n cap m : Nat) (kx : IntKind) (xs : List Value) (hx : xs.length = n * i.size) (hcap : cap < n + m) (hm : 0 < m)
    (hold : 0 < xs.length → ∃ ad, A = some ad ∧ ∀ j u, xs[j]? = some u → w.cell? (ad.add j) = some u) (hbytes : (n + m) * i.bytes ≤ 140737488355328) :
    (Builtin.append_ #[t, ti] ty #[.slice A n cap, .int kx m]).run P w =
      .ok (.slice (some ⟨w.heap.size, 0, none⟩) (n + m) (grownCap w (n + m) cap e)) (w.drew.alloc (.cells (xs ++ ((Builtin.zeroCells z.cells m).toList ++ (Builtin.zeroCells z.cells (grownCap w (n + m) cap e - (n + m))).toList)).toArray e)) := by
  have hfo : (Builtin.firstCells i.size n (.slice A n cap)).run P w.drew = .ok xs.toArray w.drew := by
    by_cases h0 : xs.length = 0
    · obtain rfl : xs = [] := List.eq_nil_of_length_eq_zero h0
      have hn0 : n * i.size = 0 := by simpa using hx.symm
      have hl : ∀ (x : Addr), (loadCells x 0).run P w.drew = .ok #[] w.drew := fun x => by simpa using run_loadCells_list (P := P) w.drew x [] (by simp)
      cases A <;> simp [Builtin.firstCells, hn0, hl]
    · obtain ⟨ad, rfl, h⟩ := hold (by omega)
      exact run_firstCells_some (P := P) w.drew i.size n _ n cap xs hx (by simpa using h)
  have hle : n + m ≤ 140737488355328 := Nat.le_trans (Nat.le_mul_of_pos_right _ hb0) hbytes
  have hw : IntKind.i64.wrap (m : Int) = m := by rw [IntKind.wrap_i64]; omega
  have hneg : ¬ ((m : Int) < 0) := by omega
  have hmb : m * i.bytes ≤ 140737488355328 := Nat.le_trans (Nat.mul_le_mul_right _ (Nat.le_add_left m n)) hbytes
  have hbig : ¬ (281474976710656 < (m : Int) * (i.bytes : Int)) := by
    rw [← Int.natCast_mul]
    omega
  have hsn : i.size ≠ 0 := by omega
  have hn : ¬ (n + m ≤ cap) := by omega
  have h63' : ¬ (9223372036854775807 < ((n : Int) + (m : Int))) := by omega
  have hfit := growslice_fits hcap hbytes
  have h48' : ¬ (281474976710656 < Builtin.nextslicecap (n + m) cap * i.bytes) := by omega
  have hmz : ¬ (m * i.size = 0) := Nat.mul_ne_zero (by omega) hsn
  simp [Builtin.append_, run_underlying ht, run_underlying hti, sizeOf, typeInfo, zeroValue, hi, hz, asInt, asIntOf, hw, hneg, hbig, hn, h63', h48', Question.forced, hfo, newRow, grownCap, hmz]
  congr 2
  apply Array.ext'
  simp [List.append_assoc]
section
variable {P : Program} {ops : Array Oper} {o : Oper} {a : Act} {w : World}
theorem step_copyK {K : Act → World → Prop} {Q : Exit → Act → World → Prop} {E : Prop} (hgd : o.guard = none) (d s : Operand) (dT sT : TypeId)
    (ho : o.op = .call { callee := .builtin .copy, args := #[d, s], argTypes := #[dT, sT] }) (elem : TypeId) (k : Nat) (hu : P.underlying dT = some (.slice elem)) (hsz : (P.info? elem).map (·.size) = some k)
    (g off : Nat) (sp : Option Addr) (dLen dCap sLen sCap : Nat) (hd : a.eval d = .slice (some ⟨g, off, none⟩) dLen dCap) (hs : a.eval s = .slice sp sLen sCap)
    (cur : List Value) (t : TypeId) (hg : w.heap[g]? = some (.cells cur.toArray t (0, 0))) (cs : List Value) (hn : cs.length = Nat.min sLen dLen * k)
    (hsrc : 0 < cs.length → ∃ ad, sp = some ad ∧ ∀ j v, cs[j]? = some v → w.cell? (ad.add j) = some v)
    (hfit : off + cs.length ≤ cur.length) (h1 : ∀ v ∈ cs, v.oneCell' = true)
    (h : ∀ w', w'.heap[g]? = some (.cells (cur.take off ++ cs ++ cur.drop (off + cs.length)).toArray t (0, 0)) → Turn (fun k => k = g) w w' → K (a.put o.dst (goInt (Nat.min sLen dLen))) w') :
    if Region.wanted o (yielded ops a.tmps) = true then Oper.wp P o a w K Q else E := by
  have hw : Region.wanted o (yielded ops a.tmps) = true := by simp [Region.wanted, hgd]
  rw [if_pos hw]
  have hr := run_copyK (P := P) w dT sT o.type elem g off dLen dCap sp sLen sCap cur t cs k hu hsz hg hn hsrc hfit h1
  unfold Oper.wp execOp
  simp only [ho, resolve, invoke, builtin, Sem.run_bind, Sem.run_pure, Result.andThen_ok, List.map_toArray, List.map_cons, List.map_nil, hd, hs, hr]
  exact h _ (setRow_heap w g _ _ t _ hg) (Turn.setRow _ _ rfl)
end
set_option maxRecDepth 100000 in
set_option maxHeartbeats 3200000 in
theorem insert.at_ (w0 w : World) (base g : Nat) (l : List Nd) (i : Nat) (x : Nd) (V : Option Addr) (vc : Nat) (hR : Kd.R kNd 26 w base (fun _ => True) (.slice (some ⟨g, 0, none⟩) l.length l.length) l) (hV : Kd.C kNd w V 1 [x]) (hi : i ≤ l.length) (hl : l.length ≤ 1000) (HB0 : Below base w0 w) (hbase : base ≤ w.heap.size) :
    Calls Try.prog 34 #[.slice (some ⟨g, 0, none⟩) l.length l.length, .int .i64 (i : Int), .slice V 1 vc] w fun e w' => ∃ v : Value, e = .returned v ∧ Kd.R kNd 26 w' base (fun _ => True) v (l.take i ++ x :: l.drop i) ∧ Below base w0 w' ∧ ∀ k, k < w.heap.size → k ≠ g → w'.heap[k]? = w.heap[k]? := by
  obtain ⟨i0, hi0, hz0', hz1, hz2⟩ := info_parts info26
  have hcut1 := cut_from (P := Try.prog) 22 26 .i64 Try.underlying22 hi0 8 hz1 (some ⟨g, 0, none⟩) l.length l.length (i : Int) (by omega) (by omega)
  rw [Int.toNat_natCast] at hcut1
  by_cases hin : i = l.length
  · subst hin
    have hb1 : ((l.length : Int) == (l.length : Int)) = true := beq_self_eq_true _
    have hs0 : (l.length + 1) * 88 ≤ 140737488355328 := by omega
    have HR := Aside0.mk hR
    have HV := Aside0.mk hV
    have HB := Aside0.mk HB0
    have hbs := Aside0.mk hbase
    clear hR hV HB0 hbase
    go_enter Try.func34, Try.ntmps34
    go_wp2_with ((with_reducible refine gate_builtin (b := .append) (xs := #[.tmp 23, .tmp 24]) rfl ?_); go_must (refine Kd.R_append_rows kNd (Rr := kNd.K w) (w0 := w0) base rfl (.tmp 23) (.tmp 24) 22 26 (.agg #[.string ⟨#[]⟩, .string ⟨#[]⟩, .int .u8 0, .int .i64 0, .int .i64 0, .int .i64 0, .int .i64 0, .string ⟨#[]⟩]) 88 rfl Try.underlying22 info26 rfl (by decide) (by decide) _ l [x] V 1 vc (fun _ => True) (fun _ => False) rfl rfl HR.out HV.out (fun y cs h => by rw [k26_open h]; exact k26_mkM _ _ _ _) (fun _ h => h.elim) (fun _ _ => trivial) HB.out hbs.out hs0 ?_); intro v1 w1 hO hB hg hat; have HO := Aside0.mk hO; have HB1 := Aside0.mk hB; have HG1 := Aside0.mk hg; clear hO hB hg hat)
    go_ret
    exact ⟨v1, rfl, by simpa using HO.out, HB1.out, fun k hk hne => HG1.out.5 k hk (by first | exact fun h_ => hne (Option.some.inj h_) | exact fun h_ => hne (Option.some.inj h_).symm)⟩
  · have hlt : i < l.length := by omega
    have hb1 : ((i : Int) == (l.length : Int)) = false := beq_eq_false_iff_ne.2 (by omega)
    have hb1n : (i == l.length) = false := beq_eq_false_iff_ne.2 hin
    have hb1d : decide (i = l.length) = false := decide_eq_false hin
    rw [if_neg (by omega)] at hcut1
    simp only [Option.map_some, add_plain, Nat.zero_add] at hcut1
    have hcut2 := cut_to (P := Try.prog) 22 26 .i64 Try.underlying22 hi0 (some ⟨g, 0, none⟩) l.length l.length (i : Int) (by omega) (by omega) (Nat.le_refl _)
    rw [Int.toNat_natCast] at hcut2
    obtain ⟨rest, hg, hbg, _, _, hrl⟩ := raw_of_R hR
    have hrest : rest = [] := List.eq_nil_of_length_eq_zero (by rw [List.length_append, flatN_len] at hrl; omega)
    rw [hrest, List.append_nil] at hg
    have hglt : g < w.heap.size := blk_lt hg
    have hcell : ∀ j u, (flatN l)[j]? = some u → w.cell? ⟨g, j, none⟩ = some u := fun j u hu => by
      rw [blk_cell hg j]; simpa using hu
    have f1 : IntKind.i64.wrap ((l.length : Int) + 1) = (l.length : Int) + 1 := by rw [i64_w]; exact wrap_id (by omega) (by omega)
    have f2 : IntKind.i64.wrap ((l.length : Int) + 1 - (i : Int)) = ((l.length + 1 - i : Nat) : Int) := by rw [i64_w, wrap_id (by omega) (by omega)]; omega
    have f3 : IntKind.i64.wrap ((i : Int) + 1) = (i : Int) + 1 := by rw [i64_w]; exact wrap_id (by omega) (by omega)
    have f4 : decide ((l.length : Int) < (l.length : Int) + 1) = true := decide_eq_true (by omega)
    have hrun := run_zeros_grow (P := Try.prog) w 22 3 22 26 i0 _ Try.underlying22 Try.underlying3 hi0 hz0' (by rw [hz1]; rfl) (by rw [hz1]; decide) (by rw [hz2]; decide) (some ⟨g, 0, none⟩) i l.length (l.length + 1 - i) .i64 (flatN (l.take i)) (by rw [flatN_len, hz1, List.length_take]; omega) (by omega) (by omega)
      (fun _ => ⟨_, rfl, fun j u hu => by
        rw [add_plain]
        refine hcell j u ?_
        rw [← flatN_take, List.getElem?_take] at hu
        split at hu
        · exact hu
        · cases hu⟩) (by rw [hz2]; omega)
    have hcge := grownCap_ge w (i + (l.length + 1 - i)) l.length 26
    have hcm := grownCap_le_maxLen w (i + (l.length + 1 - i)) l.length 26 (by unfold maxLen; omega)
    generalize grownCap w (i + (l.length + 1 - i)) l.length 26 = cap at hrun hcge hcm
    rw [show i + (l.length + 1 - i) = l.length + 1 by omega] at hrun hcge
    obtain ⟨ZZ, hZZ⟩ : ∃ ZZ, (Builtin.zeroCells (Value.agg #[.string ⟨#[]⟩, .string ⟨#[]⟩, .int .u8 0, .int .i64 0, .int .i64 0, .int .i64 0, .int .i64 0, .string ⟨#[]⟩]).cells (l.length + 1 - i)).toList ++ (Builtin.zeroCells (Value.agg #[.string ⟨#[]⟩, .string ⟨#[]⟩, .int .u8 0, .int .i64 0, .int .i64 0, .int .i64 0, .int .i64 0, .string ⟨#[]⟩]).cells (cap - (l.length + 1))).toList = ZZ := ⟨_, rfl⟩
    have hZl : ZZ.length = (cap - i) * 8 := by
      rw [← hZZ]
      simp only [List.length_append, Array.length_toList, size_zeroCells]
      show (l.length + 1 - i) * 8 + (cap - (l.length + 1)) * 8 = _
      omega
    rw [hZZ] at hrun
    clear hZZ
    have hcut3 := cut_from (P := Try.prog) 22 26 .i64 Try.underlying22 hi0 8 hz1 (some ⟨w.heap.size, 0, none⟩) (l.length + 1) cap (i : Int) (by omega) (by omega)
    rw [Int.toNat_natCast, if_neg (by omega)] at hcut3
    have hcut4 := cut_from (P := Try.prog) 22 26 .i64 Try.underlying22 hi0 8 hz1 (some ⟨w.heap.size, 0, none⟩) (l.length + 1) cap ((i : Int) + 1) (by omega) (by omega)
    rw [show ((i : Int) + 1).toNat = i + 1 by omega, if_neg (by omega)] at hcut4
    simp only [Option.map_some, add_plain, Nat.zero_add] at hcut3 hcut4
    have HB1 := (below_drew HB0).alloc hbase (.cells (flatN (l.take i) ++ ZZ).toArray 26)
    have hV1 := Kd.C_below hV (below_alloc (below_drew (Below.refl w.heap.size w)) (.cells (flatN (l.take i) ++ ZZ).toArray 26))
    have G1 := heap_alloc_new w.drew (.cells (flatN (l.take i) ++ ZZ).toArray 26)
    rw [show w.drew.heap.size = w.heap.size from rfl] at G1
    have hg1 := blk_alloc (blk_drew hg) (.cells (flatN (l.take i) ++ ZZ).toArray 26)
    have hti : (flatN (l.take i)).length = i * 8 := by rw [flatN_len, List.length_take]; omega
    have HOL : Aside0 (∀ k, k < w.heap.size → (w.drew.alloc (.cells (flatN (l.take i) ++ ZZ).toArray 26)).heap[k]? = w.heap[k]?) := ⟨fun k hk => heap_alloc_old w.drew _ hk⟩
    have HW : Aside0 (Below base w0 (w.drew.alloc (.cells (flatN (l.take i) ++ ZZ).toArray 26)) ∧ Kd.C kNd (w.drew.alloc (.cells (flatN (l.take i) ++ ZZ).toArray 26)) V 1 [x] ∧ (w.drew.alloc (.cells (flatN (l.take i) ++ ZZ).toArray 26)).heap[w.heap.size]? = some (.cells (flatN (l.take i) ++ ZZ).toArray 26 (0, 0)) ∧ (w.drew.alloc (.cells (flatN (l.take i) ++ ZZ).toArray 26)).heap[g]? = some (.cells (flatN l).toArray 26 (0, 0))) := ⟨HB1, hV1, G1, hg1⟩
    clear hR hV HB0 hg hcell HB1 hV1 G1 hg1 hi0 hz0' hz1 hz2 hrl
    go_enter Try.func34, Try.ntmps34
    go_upto_region 10 with ((with_reducible refine gate_builtin (b := .append) (xs := #[.tmp 34, .tmp 39]) rfl ?_); go_must (refine Lib.wpList_append_run w rfl (.tmp 34) (.tmp 39) 22 3 rfl _ _ rfl rfl _ _ hrun ?_))
    obtain ⟨W1, hW1⟩ : ∃ W1, (w.alloc (.cells (flatN (l.take i) ++ ZZ).toArray 26)).drew = W1 := ⟨_, rfl⟩
    rw [show w.drew.alloc (.cells (flatN (l.take i) ++ ZZ).toArray 26) = (w.alloc (.cells (flatN (l.take i) ++ ZZ).toArray 26)).drew from rfl, hW1] at HW HOL
    rw [hW1]
    clear hW1 hrun
    obtain ⟨HB1, hV1, G1, hg1⟩ := HW.out
    have hn1 : (flatN [x]).length = Nat.min 1 (l.length + 1 - i) * 8 := by rw [flatN_len]; show 8 * 1 = min 1 _ * 8; omega
    have hsrc1 : 0 < (flatN [x]).length → ∃ ad, V = some ad ∧ ∀ j v, (flatN [x])[j]? = some v → W1.cell? (ad.add j) = some v := by
      intro _
      obtain ⟨ad, rfl, _⟩ := hV1.2.2 (by decide)
      exact ⟨ad, rfl, C_flat hV1⟩
    have hfit1 : i * 8 + (flatN [x]).length ≤ (flatN (l.take i) ++ ZZ).length := by rw [flatN_len, List.length_append, hti, hZl, List.length_singleton]; omega
    have HF := Aside0.mk (And.intro hn1 (And.intro hsrc1 hfit1))
    have HX := Aside0.mk (And.intro HB1 (And.intro G1 hg1))
    clear hn1 hsrc1 hfit1 HW HB1 hV1 G1 hg1
    go_upto_region 11 with ((with_reducible refine gate_builtin (b := .copy) (xs := #[.tmp 43, .tmp 44]) rfl ?_); go_must (refine wpList_copyK rfl (.tmp 43) (.tmp 44) 22 22 rfl 26 8 Try.underlying22 nd_sz w.heap.size (i * 8) V _ _ 1 vc rfl rfl (flatN (l.take i) ++ ZZ) 26 HX.out.2.1 (flatN [x]) HF.out.1 HF.out.2.1 HF.out.2.2 (flatN_one _) ?_); intro w2 hg2 hT2; have HG2 := Aside0.mk hg2; have HT2 := Aside0.mk hT2; clear hg2 hT2)
    have HOL2 : Aside0 (∀ k, k < w.heap.size → w2.heap[k]? = w.heap[k]?) := ⟨fun k hk => (HT2.out.block k (by have := blk_lt HX.out.2.1; omega) (by show k ≠ w.heap.size; omega)).trans (HOL.out k hk)⟩
    clear HOL
    have G2 := HG2.out
    have hgs2 := (HT2.out.block _ (blk_lt HX.out.2.2) (by show g ≠ w.heap.size; omega)).trans HX.out.2.2
    have HB2 := HX.out.1.trans (HT2.out.below (fun k hk => by omega) (by have := blk_lt HX.out.2.1; omega))
    have h8 : (flatN [x]).length = 8 := by rw [flatN_len]; rfl
    have hE : (flatN (l.take i) ++ ZZ).take (i * 8) ++ flatN [x] ++ (flatN (l.take i) ++ ZZ).drop (i * 8 + (flatN [x]).length) = flatN (l.take i ++ [x]) ++ ZZ.drop 8 := by
      rw [h8, ← hti, List.take_left, ← List.drop_drop, List.drop_left, flatN_app]
    rw [hE] at G2
    have HL2 : Aside0 ((ZZ.drop 8).length = (cap - (i + 1)) * 8) := ⟨by rw [List.length_drop, hZl]; omega⟩
    generalize ZZ.drop 8 = Z2 at G2 HL2
    have HS2 : Aside0 (0 < (flatN (l.drop i)).length → ∃ ad, some (⟨g, i * 8, none⟩ : Addr) = some ad ∧ ∀ j v, (flatN (l.drop i))[j]? = some v → w2.drew.cell? (ad.add j) = some v) := ⟨fun _ => ⟨_, rfl, fun j v hv => by
      rw [add_at]
      rw [← flatN_drop, List.getElem?_drop] at hv
      have h_ := blk_cell (blk_drew hgs2) (i * 8 + j)
      rw [h_]
      simpa using hv⟩⟩
    have G2 := Aside0.mk (blk_drew G2)
    have HB2 := Aside0.mk HB2
    clear HF HX HG2 HT2 hE hgs2 hti h8 hZl
    refine start_ (n := 9) (S := fun w' => True) (ds := []) #[false, false, false, false, false, false, false, false, false] (by kernel_rfl) rfl rfl trivial (fun hHeld => ?_)
    refine pure_ (i := 0) (N := some 46) (v := ?_) (a' := ?_) #[true, false, false, false, false, false, false, false, false] rfl rfl (by kernel_rfl) (fun _ _ _ h => h) (Or.inl ⟨by rfl, ?_⟩) ?_ ?_
    rotate_left
    · intro w'
      go_simp
      with_reducible rfl
    rotate_left
    · simp only [Act.put, List.setIfInBounds_toArray, List.set_cons_zero, List.set_cons_succ, i64_w, i32_w]
      rfl
    refine pure_ (i := 1) (N := some 47) (v := ?_) (a' := ?_) #[true, true, false, false, false, false, false, false, false] rfl rfl (by kernel_rfl) (fun _ _ _ h => h) (Or.inl ⟨by rfl, ?_⟩) ?_ ?_
    rotate_left
    · intro w'
      go_simp
      with_reducible rfl
    rotate_left
    · simp only [Act.put, List.setIfInBounds_toArray, List.set_cons_zero, List.set_cons_succ, i64_w, i32_w]
      rfl
    refine pure_ (i := 2) (N := some 48) (v := ?_) (a' := ?_) #[true, true, true, false, false, false, false, false, false] rfl rfl (by kernel_rfl) (fun _ _ _ h => h) (Or.inl ⟨by rfl, ?_⟩) ?_ ?_
    rotate_left
    · intro w'
      go_simp
      with_reducible rfl
    rotate_left
    · simp only [Act.put, List.setIfInBounds_toArray, List.set_cons_zero, List.set_cons_succ, i64_w, i32_w]
      rfl
    refine pure_ (i := 3) (N := some 49) (v := ?_) (a' := ?_) #[true, true, true, true, false, false, false, false, false] rfl rfl (by kernel_rfl) (fun _ _ _ h => h) (Or.inl ⟨by rfl, ?_⟩) ?_ ?_
    rotate_left
    · intro w'
      go_simp
      with_reducible rfl
    rotate_left
    · simp only [Act.put, List.setIfInBounds_toArray, List.set_cons_zero, List.set_cons_succ, i64_w, i32_w]
      rfl
    refine pure_ (i := 4) (N := some 50) (v := ?_) (a' := ?_) #[true, true, true, true, true, false, false, false, false] rfl rfl (by kernel_rfl) (fun _ _ _ h => h) (Or.inl ⟨by rfl, ?_⟩) ?_ ?_
    rotate_left
    · intro w'
      go_simp
      with_reducible rfl
    rotate_left
    · simp only [Act.put, List.setIfInBounds_toArray, List.set_cons_zero, List.set_cons_succ, i64_w, i32_w]
      rfl
    refine pure_ (i := 5) (N := some 51) (v := ?_) (a' := ?_) #[true, true, true, true, true, true, false, false, false] rfl rfl (by kernel_rfl) (fun _ _ _ h => h) (Or.inl ⟨by rfl, ?_⟩) ?_ ?_
    rotate_left
    · intro w'
      go_simp
      with_reducible rfl
    rotate_left
    · simp only [Act.put, List.setIfInBounds_toArray, List.set_cons_zero, List.set_cons_succ, i64_w, i32_w]
      rfl
    refine pure_ (i := 6) (N := some 52) (v := ?_) (a' := ?_) #[true, true, true, true, true, true, true, false, false] rfl rfl (by kernel_rfl) (fun _ _ _ h => h) (Or.inl ⟨by rfl, ?_⟩) ?_ ?_
    rotate_left
    · intro w'
      go_simp
      with_reducible rfl
    rotate_left
    · simp only [Act.put, List.setIfInBounds_toArray, List.set_cons_zero, List.set_cons_succ, i64_w, i32_w]
      rfl
    refine pure_ (i := 7) (N := some 53) (v := ?_) (a' := ?_) #[true, true, true, true, true, true, true, true, false] rfl rfl (by kernel_rfl) (fun _ _ _ h => h) (Or.inl ⟨by rfl, ?_⟩) ?_ ?_
    rotate_left
    · intro w'
      go_simp
      with_reducible rfl
    rotate_left
    · simp only [Act.put, List.setIfInBounds_toArray, List.set_cons_zero, List.set_cons_succ, i64_w, i32_w]
      rfl
    refine one_ (i := 8) (N := some 54) #[true, true, true, true, true, true, true, true, true] rfl rfl (by kernel_rfl) (by decide) (fun K hK => ?_)
    refine step_copyK rfl _ _ 22 22 rfl 26 8 Try.underlying22 nd_sz w.heap.size ((i + 1) * 8) (some ⟨g, i * 8, none⟩) _ _ _ _ rfl rfl _ 26 G2.out (flatN (l.drop i)) ?_ HS2.out ?_ (flatN_one _) ?_
    · rw [flatN_len, List.length_drop]; show _ = min _ _ * 8; omega
    · rw [List.length_append, flatN_len, flatN_len, HL2.out, List.length_append, List.length_take, List.length_drop, List.length_singleton]; omega
    intro w4 hg4 hT4
    have HG4 := Aside0.mk hg4
    have HT4 := Aside0.mk hT4
    clear hg4 hT4
    refine hK.out _ _ trivial (fun hHeld => ?_)
    clear hK K
    refine norm_ (a' := ?_) ?_ ?_
    rotate_left
    · show Act.put _ (some 54) _ = _
      simp only [Act.put, List.setIfInBounds_toArray, List.set_cons_zero, List.set_cons_succ, i64_w, i32_w]
      rfl
    refine done_ (by kernel_rfl) ?_
    have HB4 := (below_drew1 HB2.out).trans (HT4.out.below (fun k hk => by omega) (by have := blk_lt G2.out; omega))
    have G4 := HG4.out
    have hE : (flatN (l.take i ++ [x]) ++ Z2).take ((i + 1) * 8) ++ flatN (l.drop i) ++ (flatN (l.take i ++ [x]) ++ Z2).drop ((i + 1) * 8 + (flatN (l.drop i)).length) = flatN (l.take i ++ x :: l.drop i) ++ Z2.drop (flatN (l.drop i)).length := by
      have h9 : (flatN (l.take i ++ [x])).length = (i + 1) * 8 := by rw [flatN_len, List.length_append, List.length_take, List.length_singleton]; omega
      rw [← h9, List.take_left, ← List.drop_drop, List.drop_left, ← flatN_app, List.append_assoc, List.singleton_append]
    rw [hE] at G4
    have hlen : (l.take i ++ x :: l.drop i).length = l.length + 1 := by rw [List.length_append, List.length_cons, List.length_take, List.length_drop]; omega
    have hR4 := R_of_raw (base := base) (cap := cap) G4 (by omega) (by rw [hlen]; exact hcge) hcm (by rw [List.length_append, flatN_len, hlen, List.length_drop, HL2.out, flatN_len, List.length_drop]; omega)
    rw [hlen] at hR4
    have HOL4 : Aside0 (∀ k, k < w.heap.size → w4.heap[k]? = w.heap[k]?) := ⟨fun k hk => (HT4.out.block k (by have := blk_lt G2.out; omega) (by show k ≠ w.heap.size; omega)).trans (HOL2.out k hk)⟩
    clear HOL2
    have HR4 := Aside0.mk hR4
    have HB4 := Aside0.mk HB4
    clear hR4 HG4 HT4 G4 G2 hE
    go_wp2_with (fail)
    go_ret
    exact ⟨_, rfl, HR4.out, HB4.out, fun k hk _ => HOL4.out k hk⟩

end Go.Proofs.Ytklbnfpjjcidiaa.X
