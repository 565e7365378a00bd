import Derived.Test.YtpedagpcblnnhaaGreatXK
import Derived.Test.YtpedagpcblnnhaaGreatXGpj
import Derived.Test.YtpedagpcblnnhaaGreatXGpmay
import Derived.Test.YtpedagpcblnnhaaGreatYAll
import Derived.Test.YtpedagpcblnnhaaGreatPGA
import Derived.Test.YtpedagpcblnnhaaGreatPGE
import Derived.Test.YtpedagpcblnnhaaGreatP04g
import Derived.Test.YtpedagpcblnnhaaGreatXreelkeeperlaw05Few
import Derived.Laws.CopyOwn
import Derived.Laws.CopyRow
import Derived.Laws.EntriesVeiled
namespace Go.Proofs.YtpedagpcblnnhaaGreat.X
open Go.RowKit Go.Proofs.YtpedagpcblnnhaaGreatW.PrintWords Go.Proofs.YtpedagpcblnnhaaGreatW.PrintLast Go.Proofs.YtpedagpcblnnhaaGreatW.PrintMore
attribute [local go_sem] max2_int min2_int max_two min_two
set_option linter.unusedVariables false
set_option linter.unusedSimpArgs false
section
open Go.Proofs.YtpedagpcblnnhaaGreatY
set_option maxRecDepth 100000
theorem bytes_eq9 {a b : ByteArray} (e : a.toList = b.toList) : a = b := by
  rw [ByteArray.toList_eq, ByteArray.toList_eq] at e
  exact ByteArray.ext (Array.ext' e)
theorem eqSt_iff {s t : Pst} : eqSt s t = true ↔ s = t := by
  obtain ⟨a0, ⟨a1, a2, a3, a4, a5, a6, a7, a8⟩, a9, a10, a11, a12, a13⟩ := s
  obtain ⟨b0, ⟨b1, b2, b3, b4, b5, b6, b7, b8⟩, b9, b10, b11, b12, b13⟩ := t
  unfold eqSt
  simp only [Bool.and_eq_true, beq_iff_eq]
  constructor
  · rintro ⟨rfl, ⟨h1, h2, rfl, rfl, rfl, rfl, rfl, h8⟩, rfl, rfl, h11, h12, h13⟩
    rw [bytes_eq9 h1, bytes_eq9 h2, bytes_eq9 h8, bytes_eq9 h11, bytes_eq9 h12, bytes_eq9 h13]
  · intro h; cases h; exact ⟨rfl, ⟨rfl, rfl, rfl, rfl, rfl, rfl, rfl, rfl⟩, rfl, rfl, rfl, rfl, rfl⟩
theorem noT_iff {s : ByteArray} : noT s = true ↔ s = ⟨#[]⟩ := by
  unfold noT
  rw [beq_iff_eq]
  exact ⟨fun h => bytes_eq9 (h.trans (by decide +kernel)), fun h => by rw [h]; decide +kernel⟩
theorem inB3_iff {n a b : Int} : inB3 n a b = true ↔ a ≤ n ∧ n ≤ b := by
  unfold inB3
  rw [Bool.and_eq_true, decide_eq_true_eq, decide_eq_true_eq]
def zst (k : Int) : Pst := ⟨k, nd00, 0, 0, ⟨#[]⟩, ⟨#[]⟩, ⟨#[]⟩⟩
theorem zst_may {k : Int} (h : k = 0 ∨ k = 4 ∨ k = 5) : mayS (zst k) = true := by
  rcases h with rfl | rfl | rfl <;> decide +kernel
theorem may_0i {s : Pst} (h0 : s.f0 = 0) : mayS s = true ↔ s = ⟨0, nd00, 0, 0, ⟨#[]⟩, s.f5, s.f6⟩ ∧ wordB s.f5 = true ∧ wordB s.f6 = true := by
  unfold mayS; rw [if_pos h0, Bool.and_eq_true, Bool.and_eq_true, eqSt_iff]
theorem may_1i {s : Pst} (h0 : s.f0 = 1) : mayS s = true ↔ s = ⟨1, nd00, s.f2, s.f2, ⟨#[]⟩, s.f5, s.f6⟩ ∧ noT s.f5 = true ∧ inB3 s.f2 2 301 = true ∧ wordB s.f5 = true ∧ wordB s.f6 = true := by
  unfold mayS; rw [if_neg (by omega), if_pos h0, Bool.and_eq_true, Bool.and_eq_true, Bool.and_eq_true, Bool.and_eq_true, eqSt_iff]
theorem may_2i {s : Pst} (h0 : s.f0 = 2) : mayS s = true ↔ s = ⟨2, nd00, s.f2, s.f2, ⟨#[]⟩, s.f5, s.f6⟩ ∧ noT s.f6 = true ∧ inB3 s.f2 2 301 = true ∧ wordB s.f5 = true ∧ wordB s.f6 = true := by
  unfold mayS; rw [if_neg (by omega), if_neg (by omega), if_pos h0, Bool.and_eq_true, Bool.and_eq_true, Bool.and_eq_true, Bool.and_eq_true, eqSt_iff]
theorem may_3i {s : Pst} (h0 : s.f0 = 3) : mayS s = true ↔ s = ⟨3, s.f1, s.f2, s.f3, ⟨#[]⟩, ⟨#[]⟩, ⟨#[]⟩⟩ ∧ s.f1.f2 = 48 ∧ noT s.f1.f7 = true ∧ oneB s.f1 = true ∧ inB3 s.f2 1 4000 = true ∧ inB3 s.f3 1 s.f2 = true ∧ (s.f2 - s.f3).tmod 512 = 0 := by
  unfold mayS; rw [if_neg (by omega), if_neg (by omega), if_neg (by omega), if_pos h0]
  simp only [Bool.and_eq_true, eqSt_iff, beq_iff_eq]
theorem word_text {s : ByteArray} (h : textB s = true) : wordB s = true := by unfold wordB; rw [h, Bool.or_true]
def z512 : List Int := List.replicate 512 0
theorem z512_len : z512.length = 512 := List.length_replicate
theorem z512_all : z512.all (fun c => c == 0) = true := by unfold z512; rw [List.all_replicate]; rfl
theorem headGet_z : (headGet z512).2 = 4 := by
  unfold headGet
  rw [if_neg (by rw [z512_len]; decide), if_pos z512_all]
theorem step_z0 : stepR (zst 0) z512 = (zst 4, [], 0) := by
  unfold stepR stepP
  rw [zst_may (.inl rfl), if_pos (by rw [z512_len]; rfl), if_pos (show (zst 0).f0 = 0 from rfl)]
  unfold headP
  rw [if_pos headGet_z, if_pos (by rw [show noT (zst 0).f5 = true from noT_iff.2 rfl, show noT (zst 0).f6 = true from noT_iff.2 rfl]; rfl)]
  rfl
theorem step_z4 : stepR (zst 4) z512 = (zst 5, [], 0) := by
  unfold stepR stepP
  rw [zst_may (.inr (.inl rfl)), if_pos (by rw [z512_len]; rfl), if_neg (by decide), if_neg (by decide), if_neg (by decide), if_neg (by decide), if_pos (show (zst 4).f0 = 4 from rfl)]
  unfold zeroP
  rw [if_pos z512_all]
  rfl
theorem run_z : runR (zst 0) [z512, z512, z512] = (zst 5, [], 2, 0) := by
  unfold runR
  simp only [runP, step_z0, step_z4]
  rfl
end
section
open Go.Proofs.YtpedagpcblnnhaaGreatY
set_option maxRecDepth 100000
theorem runP_ge : ∀ (L : List (List Int)) (s : Pst) (all : List Evt) (i : Nat), i ≤ (runP s L all i).2.2.1 ∧ ((runP s L all i).2.2.1 = i → (runP s L all i).1 = s)
  | [], s, all, i => ⟨Nat.le_refl _, fun _ => rfl⟩
  | x :: L, s, all, i => by
    unfold runP
    split
    · split
      · exact ⟨by show i ≤ i + 1; omega, fun h => absurd (show i + 1 = i from h) (by omega)⟩
      · have h := (runP_ge L (stepR s x).1 (all ++ (stepR s x).2.1) (i + 1)).1
        exact ⟨by omega, fun h2 => by omega⟩
    · exact ⟨Nat.le_refl _, fun _ => rfl⟩
theorem runP_append (b : List (List Int)) : ∀ (a : List (List Int)) (s : Pst) (all : List Evt) (i : Nat),
    runP s (a ++ b) all i = if (runP s a all i).2.2.2 ≠ 0 ∨ ((runP s a all i).1.f0 = 5 ∧ i < (runP s a all i).2.2.1) then runP s a all i else runP (runP s a all i).1 b (runP s a all i).2.1 (runP s a all i).2.2.1
  | [], s, all, i => by
    rw [List.nil_append, if_neg]
    · rfl
    · rintro (h | ⟨_, h⟩)
      · exact h rfl
      · exact absurd (show i < i from h) (by omega)
  | x :: a, s, all, i => by
    rw [List.cons_append]
    by_cases h0 : (stepR s x).2.2 = 0
    · by_cases h5 : (stepR s x).1.f0 = 5
      · have e : ∀ L, runP s (x :: L) all i = ((stepR s x).1, all ++ (stepR s x).2.1, i + 1, 0) := fun L => by rw [runP, if_pos h0, if_pos h5]
        rw [e, e, if_pos (.inr ⟨h5, by show i < i + 1; omega⟩)]
      · have e : ∀ L, runP s (x :: L) all i = runP (stepR s x).1 L (all ++ (stepR s x).2.1) (i + 1) := fun L => by rw [runP, if_pos h0, if_neg h5]
        rw [e, e, runP_append b a]
        have hg := runP_ge a (stepR s x).1 (all ++ (stepR s x).2.1) (i + 1)
        generalize runP (stepR s x).1 a (all ++ (stepR s x).2.1) (i + 1) = r at *
        have hc : (r.2.2.2 ≠ 0 ∨ (r.1.f0 = 5 ∧ i + 1 < r.2.2.1)) ↔ (r.2.2.2 ≠ 0 ∨ (r.1.f0 = 5 ∧ i < r.2.2.1)) := by
          constructor
          · rintro (h | ⟨h, h2⟩)
            · exact .inl h
            · exact .inr ⟨h, by omega⟩
          · rintro (h | ⟨h, h2⟩)
            · exact .inl h
            · refine .inr ⟨h, ?_⟩
              by_cases h3 : r.2.2.1 = i + 1
              · rw [hg.2 h3] at h; exact absurd h h5
              · omega
        by_cases c : r.2.2.2 ≠ 0 ∨ (r.1.f0 = 5 ∧ i + 1 < r.2.2.1)
        · rw [if_pos c, if_pos (hc.1 c)]
        · rw [if_neg c, if_neg (fun h => c (hc.2 h))]
    · have e : ∀ L, runP s (x :: L) all i = (s, all, i, (stepR s x).2.2) := fun L => by rw [runP, if_neg h0]
      rw [e, e, if_pos (.inl h0)]
theorem runP_shift : ∀ (L : List (List Int)) (s : Pst) (all : List Evt) (i : Nat) (all' : List Evt) (j : Nat), runP s L (all' ++ all) (j + i) = ((runP s L all i).1, all' ++ (runP s L all i).2.1, j + (runP s L all i).2.2.1, (runP s L all i).2.2.2)
  | [], s, all, i, all', j => rfl
  | x :: L, s, all, i, all', j => by
    by_cases h0 : (stepR s x).2.2 = 0
    · by_cases h5 : (stepR s x).1.f0 = 5
      · rw [runP, if_pos h0, if_pos h5, runP, if_pos h0, if_pos h5, List.append_assoc]; rfl
      · rw [runP, if_pos h0, if_neg h5, runP, if_pos h0, if_neg h5, List.append_assoc]
        exact runP_shift L (stepR s x).1 (all ++ (stepR s x).2.1) (i + 1) all' j
    · rw [runP, if_neg h0, runP, if_neg h0]
theorem runR_append (s : Pst) (a b : List (List Int)) : runR s (a ++ b) = if (runR s a).2.2.2 ≠ 0 ∨ ((runR s a).1.f0 = 5 ∧ 0 < (runR s a).2.2.1) then runR s a
    else ((runR (runR s a).1 b).1, (runR s a).2.1 ++ (runR (runR s a).1 b).2.1, (runR s a).2.2.1 + (runR (runR s a).1 b).2.2.1, (runR (runR s a).1 b).2.2.2) := by
  unfold runR
  rw [runP_append]
  split
  · rfl
  · have h := runP_shift b (runP s a [] 0).1 [] 0 (runP s a [] 0).2.1 (runP s a [] 0).2.2.1
    rw [List.append_nil, Nat.add_zero] at h
    exact h
end
section
open Go.Proofs.YtpedagpcblnnhaaGreatY
abbrev kNd : Kd Nd := k41
def ndC (x : Nd) : List Value := [.string x.f0, .string x.f1, .int .u8 x.f2, .int .i64 x.f3, .int .i64 x.f4, .int .i64 x.f5, .int .i64 x.f6, .string x.f7]
theorem ndC_len (x : Nd) : (ndC x).length = 8 := rfl
def flatN : List Nd → List Value
  | [] => []
  | x :: l => ndC x ++ flatN l
theorem flatN_len : ∀ l : List Nd, (flatN l).length = 8 * l.length
  | [] => rfl
  | x :: l => by rw [flatN, List.length_append, flatN_len l, ndC_len, List.length_cons]; omega
theorem flatN_one : ∀ (l : List Nd), ∀ v ∈ flatN l, v.oneCell' = true
  | [], v, h => by cases h
  | x :: l, v, h => by
    rw [flatN] at h
    rcases List.mem_append.1 h with h | h
    · unfold ndC at h
      simp only [List.mem_cons, List.not_mem_nil, or_false] at h
      rcases h with rfl | rfl | rfl | rfl | rfl | rfl | rfl | rfl <;> rfl
    · exact flatN_one l v h
theorem flatN_drop : ∀ (l : List Nd) (j : Nat), (flatN l).drop (j * 8) = flatN (l.drop j)
  | l, 0 => by simp
  | [], j + 1 => by simp [flatN]
  | x :: l, j + 1 => by
    rw [flatN, List.drop_succ_cons, ← flatN_drop l j, show (j + 1) * 8 = (ndC x).length + j * 8 by rw [ndC_len]; omega, ← List.drop_drop, List.drop_left]
theorem flatN_at {l : List Nd} {j : Nat} {x : Nd} (h : l[j]? = some x) : ((flatN l).drop (j * 8)).take 8 = ndC x := by
  obtain ⟨hj, hx⟩ := List.getElem?_eq_some_iff.1 h
  rw [flatN_drop, ← List.getElem_cons_drop (h := hj), flatN, hx, ← ndC_len x, List.take_left]
theorem reps_flat {w : World} {base : Nat} {ok : Nat → Prop} (l : List Nd) : Reps (kNd.M w base ok) 8 l (flatN l) :=
  ⟨by rw [flatN_len]; omega, fun j p hp => by rw [flatN_at hp]; exact k41_mkM w base ok p⟩
theorem R_of_raw {w : World} {base g cap : Nat} {l : List Nd} {rest : List Value} (hg : w.heap[g]? = some (.cells (flatN l ++ rest).toArray 41 (0, 0))) (hb : base ≤ g) (hl : l.length ≤ cap) (hm : cap ≤ maxLen) (hs : (flatN l ++ rest).length = cap * 8) :
    Kd.R kNd 41 w base (fun _ => True) (.slice (some ⟨g, 0, none⟩) l.length cap) l := by
  refine ⟨fun _ _ => trivial, flatN l, ⟨by show (flatN l).length = l.length * 8; rw [flatN_len]; omega, .inr ⟨g, cap, _, rfl, hb, hg, hl, hm, by show _ = cap * 8; simpa using hs, ?_⟩⟩, reps_flat l⟩
  show (flatN l ++ rest).take (l.length * 8) = flatN l
  rw [show l.length * 8 = (flatN l).length by rw [flatN_len]; omega, List.take_left]
theorem C_flat {w : World} {ad : Addr} {n : Nat} {l : List Nd} (h : Kd.C kNd w (some ad) n l) : ∀ j v, (flatN l)[j]? = some v → w.cell? (ad.add j) = some v := by
  intro j v hv
  have hjl : j < (flatN l).length := (List.getElem?_eq_some_iff.1 hv).1
  rw [flatN_len] at hjl
  obtain ⟨hl, _, hr⟩ := h
  obtain ⟨ad', e, hc⟩ := hr (by omega)
  injection e with e
  subst e
  have hq : j / 8 < l.length := by omega
  obtain ⟨c, hcl, hK, hcell⟩ := hc (j / 8) _ (List.getElem?_eq_getElem hq)
  have hcn : c = ndC l[j / 8] := k41_open hK
  have hat := flatN_at (l := l) (List.getElem?_eq_getElem hq)
  have hj2 : c[j % 8]? = some v := by
    rw [hcn, ← hat, List.getElem?_take, if_pos (by omega), List.getElem?_drop, show j / 8 * 8 + j % 8 = j by omega]
    exact hv
  have h3 : w.cell? (ad.add (j / 8 * 8 + j % 8)) = some v := hcell (j % 8) v hj2
  rwa [show j / 8 * 8 + j % 8 = j by omega] at h3
theorem run_copyK {P : Program} (w : World) (dT sT ty elem : TypeId) (g o dLen dCap : Nat) (sp : Option Addr) (sLen sCap : Nat) (cur : List Value) (t : TypeId) (cs : List Value) (k : Nat)
    (hu : P.underlying dT = some (.slice elem)) (hs : (P.info? elem).map (·.size) = some k) (hg : w.heap[g]? = some (.cells cur.toArray t (0, 0))) (hn : cs.length = Nat.min sLen dLen * k)
    (hsrc : 0 < cs.length → ∃ ad, sp = some ad ∧ ∀ j v, cs[j]? = some v → w.cell? (ad.add j) = some v) (hfit : o + cs.length ≤ cur.length) (h1 : ∀ v ∈ cs, v.oneCell' = true) :
    (Builtin.copy_ #[dT, sT] ty #[.slice (some ⟨g, o, none⟩) dLen dCap, .slice sp sLen sCap]).run P w = .ok (goInt (Nat.min sLen dLen)) (w.setRow g (cur.take o ++ cs ++ cur.drop (o + cs.length)).toArray) := by
  have hst := run_storeCells_at P g o t cs 0 cur.toArray w hg (by simpa using hfit) h1
  simp only [List.toList_toArray, Nat.add_zero] at hst
  cases hq : P.info? elem with
  | none => simp [hq] at hs
  | some i =>
    have hi : i.size = k := by simpa [hq] using hs
    by_cases h0 : cs.length = 0
    · obtain rfl : cs = [] := List.eq_nil_of_length_eq_zero h0
      have hl : ∀ (x : Addr), (loadCells x 0).run P w = .ok #[] w := fun x => by simpa using run_loadCells_list (P := P) w x [] (by simp)
      have hn0 : Nat.min sLen dLen * k = 0 := by simpa using hn.symm
      have hself : w.setRow g cur.toArray = w := setRow_self w g _ t (0, 0) hg
      simp only [List.length_nil, Nat.add_zero, List.append_nil, List.take_append_drop] at hst ⊢
      cases sp <;> simp [Builtin.copy_, run_underlying hu, Builtin.lenOf, Builtin.firstCells, sizeOf, typeInfo, hq, hi, hn0, hl, storeCells, hself]
    · obtain ⟨ad, rfl, hsrc2⟩ := hsrc (by omega)
      have hl := run_loadCells_list (P := P) w ad cs hsrc2
      simp [Builtin.copy_, run_underlying hu, Builtin.lenOf, Builtin.firstCells, sizeOf, typeInfo, hq, hi, ← hn, hl, hst]
section
variable {P : Program} {ops : Array Oper} {rest : List Oper} {o : Oper} {a : Act} {Q : Exit → Act → World → Prop} {w : World}
theorem wpList_copyK (hgd : o.guard = none) (d s : Operand) (dT sT : TypeId)
    (ho : o.op = .call { callee := .builtin .copy, args := #[d, s], argTypes := #[dT, sT] }) (elem : TypeId) (k : Nat) (hu : P.underlying dT = some (.slice elem)) (hsz : (P.info? elem).map (·.size) = some k)
    (g off : Nat) (sp : Option Addr) (dLen dCap sLen sCap : Nat) (hd : a.eval d = .slice (some ⟨g, off, none⟩) dLen dCap) (hs : a.eval s = .slice sp sLen sCap)
    (cur : List Value) (t : TypeId) (hg : w.heap[g]? = some (.cells cur.toArray t (0, 0))) (cs : List Value) (hn : cs.length = Nat.min sLen dLen * k)
    (hsrc : 0 < cs.length → ∃ ad, sp = some ad ∧ ∀ j v, cs[j]? = some v → w.cell? (ad.add j) = some v)
    (hfit : off + cs.length ≤ cur.length) (h1 : ∀ v ∈ cs, v.oneCell' = true)
    (h : ∀ w', w'.heap[g]? = some (.cells (cur.take off ++ cs ++ cur.drop (off + cs.length)).toArray t (0, 0)) → Turn (fun k => k = g) w w' → wpList P ops Q rest (a.put o.dst (goInt (Nat.min sLen dLen))) w') :
    wpList P ops Q (o :: rest) a w := by
  refine wpList_plain hgd fun K hK => ?_
  have hr := run_copyK (P := P) w dT sT o.type elem g off dLen dCap sp sLen sCap cur t cs k hu hsz hg hn hsrc hfit h1
  unfold Oper.wp execOp
  simp only [ho, resolve, invoke, builtin, Sem.run_bind, Sem.run_pure, Result.andThen_ok, List.map_toArray, List.map_cons, List.map_nil, hd, hs, hr]
  exact hK _ _ (h _ (setRow_heap w g _ _ t _ hg) (Turn.setRow _ _ rfl))
end
theorem nd_sz : (Tryz.prog.info? 41).map (·.size) = some 8 := by kernel_rfl
theorem nd_cells {w : World} {A : Option Addr} {n : Nat} {t : List Nd} (h : Kd.C kNd w A n t) {i : Nat} (hi : i < n) (x : Nd) (hx : t[i]? = some x) : ∃ ad, A = some ad ∧ w.cell? (ad.add (i * 8)) = some (.string x.f0) ∧ w.cell? ⟨(ad.add (i * 8)).block, (ad.add (i * 8)).off + 1, none⟩ = some (.string x.f1) ∧ w.cell? ⟨(ad.add (i * 8)).block, (ad.add (i * 8)).off + 2, none⟩ = some (.int .u8 x.f2) ∧ w.cell? ⟨(ad.add (i * 8)).block, (ad.add (i * 8)).off + 3, none⟩ = some (.int .i64 x.f3) ∧ w.cell? ⟨(ad.add (i * 8)).block, (ad.add (i * 8)).off + 4, none⟩ = some (.int .i64 x.f4) ∧ w.cell? ⟨(ad.add (i * 8)).block, (ad.add (i * 8)).off + 5, none⟩ = some (.int .i64 x.f5) ∧ w.cell? ⟨(ad.add (i * 8)).block, (ad.add (i * 8)).off + 6, none⟩ = some (.int .i64 x.f6) ∧ w.cell? ⟨(ad.add (i * 8)).block, (ad.add (i * 8)).off + 7, none⟩ = some (.string x.f7) := by
  have h1 := at_T41 h (i : Int) (by omega) (by omega)
  have e : rd_T41 t (i : Int) = x := by unfold rd_T41; rw [Int.toNat_natCast, List.getD_eq_getElem?_getD, hx]; rfl
  rw [e, Int.toNat_natCast] at h1
  exact h1
theorem more_row {W : World} {g : Nat} (n : S41) (h : W.heap[g]? = some (.cells #[.string n.f0, .string n.f1, .int .u8 n.f2, .int .i64 n.f3, .int .i64 n.f4, .int .i64 n.f5, .int .i64 n.f6, .string n.f7] 41)) : Kd.C k41 W (some ⟨g, 0, none⟩) 1 [n] := by
  refine ⟨rfl, by simp, fun _ => ⟨_, rfl, fun j p hp => ?_⟩⟩
  cases j with
  | succ j => simp at hp
  | zero =>
    simp only [List.getElem?_cons_zero, Option.some.injEq] at hp
    subst hp
    refine ⟨[.string n.f0, .string n.f1, .int .u8 n.f2, .int .i64 n.f3, .int .i64 n.f4, .int .i64 n.f5, .int .i64 n.f6, .string n.f7], rfl, ?_, fun i u hu => ?_⟩
    · exact Kd.K_of_M (base := 0) (ok := fun _ => True) k41 (k41_mkM _ 0 (fun _ => True) n)
    · rw [add_plain, blk_cell h]
      rw [← hu]
      simp
end
end Go.Proofs.YtpedagpcblnnhaaGreat.X
