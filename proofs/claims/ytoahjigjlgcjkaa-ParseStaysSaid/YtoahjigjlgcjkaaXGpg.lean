import Derived.Test.YtoahjigjlgcjkaaXK
import Derived.Test.YtoahjigjlgcjkaaXGget
import Derived.Test.YtoahjigjlgcjkaaXGheadGet
import Derived.Test.YtoahjigjlgcjkaaXGnum
import Derived.Test.YtoahjigjlgcjkaaXGpb
import Derived.Test.YtoahjigjlgcjkaaXGpd
import Derived.Test.YtoahjigjlgcjkaaXGpe
import Derived.Test.YtoahjigjlgcjkaaXGpmay
import Derived.Test.YtoahjigjlgcjkaaYAll
import Derived.Test.YtoahjigjlgcjkaaP04g
import Derived.Test.YtoahjigjlgcjkaaPGA
import Derived.Test.YtoahjigjlgcjkaaPGE
import Derived.Deep.RegionHeld3
import Derived.Laws.EntriesVeiled
import Derived.WalkSpells
namespace Go.Proofs.Ytoahjigjlgcjkaa.X
open Go.RowKit Go.Proofs.YtoahjigjlgcjkaaW.PrintWords Go.Proofs.YtoahjigjlgcjkaaW.PrintLast Go.Proofs.YtoahjigjlgcjkaaW.PrintMore
attribute [local go_sem] max2_int min2_int max_two min_two
set_option linter.unusedVariables false
set_option linter.unusedSimpArgs false

open Go.Proofs.YtoahjigjlgcjkaaY
set_option maxRecDepth 100000
theorem guess_sizes (x : List Int) : (guess x).f0.size ≤ 1000 ∧ (guess x).f1.size ≤ 1000 ∧ (guess x).f2.size ≤ 1000 := by
  have h : ∀ p n : Nat, n ≤ 155 → (strOfNums (uptoL (sub x p n))).size ≤ 1000 := fun p n hn => by
    rw [strOfNums_size]
    have h1 : (uptoL (sub x p n)).length ≤ (sub x p n).length := (List.takeWhile_sublist _).length_le
    have h2 : (sub x p n).length ≤ n := by unfold sub; rw [List.length_take]; omega
    omega
  unfold guess
  refine ⟨h _ _ (by decide), ?_, h _ _ (by decide)⟩
  simp only
  split
  · decide
  · exact h _ _ (by decide)
theorem headGet_sizes (x : List Int) : (headGet x).1.f0.size ≤ 1000 ∧ (headGet x).1.f1.size ≤ 1000 ∧ (headGet x).1.f2.size ≤ 1000 := by
  unfold headGet
  split
  · exact ⟨by decide, by decide, by decide⟩
  · split
    · exact ⟨by decide, by decide, by decide⟩
    · split
      · exact ⟨by decide, by decide, by decide⟩
      · split
        · exact guess_sizes x
        · exact ⟨by decide, by decide, by decide⟩
def headP (s : Pst) (x : List Int) (l : List Evt) : Except Int (Pst × List Evt) :=
  if (headGet x).2 = 4 then (if (noT s.f5 && noT s.f6) = true then .ok (⟨4, s.f1, s.f2, s.f3, s.f4, s.f5, s.f6⟩, l) else .error 2)
  else if (headGet x).2 = 0 then
    (if (headGet x).1.f8 = 76 then textP s (headGet x).1 s.f5 1 l
     else if (headGet x).1.f8 = 75 then textP s (headGet x).1 s.f6 2 l
     else if (headGet x).1.f8 = 77 ∨ (headGet x).1.f8 = 86 then .error 5
     else nodeP s (headGet x).1 l)
  else .error (headGet x).2
set_option maxHeartbeats 6400000 in
theorem phead.at_ (w0 : World) (b : Nat) (s : Pst) (l : List Evt) (A : Option Addr) (c : Nat) (B : Option Addr) (d : Nat) (x : List Int) (W : World) (hs : s.f5.size ≤ 1000 ∧ s.f6.size ≤ 1000) (hl : l.length ≤ 400) (G : PAt w0 b s l A c W) (hC : Kd.C (Kd.int .u8) W B x.length x) (hd : x.length ≤ d) (hx : x.length = 512) (hby : ∀ y ∈ x, 0 ≤ y ∧ y ≤ 255) :
    Calls Try.prog 26 #[.pointer (some ⟨b, 0, none⟩), .slice B x.length d] W fun e w' => PDone w0 b (headP s x l) e w' := by
  have HG := Aside0.mk G
  have HC := Aside0.mk hC
  have hz := headGet_sizes x
  obtain ⟨res, hres⟩ : ∃ res, headP s x l = res := ⟨_, rfl⟩
  rw [hres]
  unfold headP at hres
  obtain ⟨R, hR⟩ : ∃ R, headGet x = R := ⟨_, rfl⟩
  have hget := fun W hC => head_Get.at_ B d x W hC hd hby
  rw [hR] at hres hget hz
  obtain ⟨h, e0⟩ := R
  have hget : ∀ W, Kd.C (Kd.int .u8) W B x.length x → Calls Try.prog 48 #[.slice B x.length d] W fun e w' => e = .returned (.tuple #[.agg #[.string h.f0, .string h.f1, .string h.f2, .int .i64 h.f3, .int .i64 h.f4, .int .i64 h.f5, .int .i64 h.f6, .int .i64 h.f7, .int .u8 h.f8, .int .i64 h.f9, .int .i64 h.f10], .int .i64 e0]) ∧ Below W.heap.size W w' := hget
  simp only at hres hz
  have HSZ := Aside0.mk (And.intro hz hs)
  clear G hC hby hx hR hz hs
  go_enter Try.func26, Try.ntmps26
  go_upto_region 1 with (go_at_call 48; (refine (hget _ HC.out).mono ?_); rintro e_ w1 ⟨rfl, hb_⟩; have HG1 := Aside0.mk ((HG.out.step hb_).step (below_alloc (Below.refl _ _) (.cells #[.string h.f0, .string h.f1, .string h.f2, .int .i64 h.f3, .int .i64 h.f4, .int .i64 h.f5, .int .i64 h.f6, .int .i64 h.f7, .int .u8 h.f8, .int .i64 h.f9, .int .i64 h.f10] 70))); have HH1 := Aside0.mk (heap_alloc_new w1 (.cells #[.string h.f0, .string h.f1, .string h.f2, .int .i64 h.f3, .int .i64 h.f4, .int .i64 h.f5, .int .i64 h.f6, .int .i64 h.f7, .int .u8 h.f8, .int .i64 h.f9, .int .i64 h.f10] 70)); clear hb_)
  obtain ⟨W1, hW1⟩ : ∃ W', w1.alloc (.cells #[.string h.f0, .string h.f1, .string h.f2, .int .i64 h.f3, .int .i64 h.f4, .int .i64 h.f5, .int .i64 h.f6, .int .i64 h.f7, .int .u8 h.f8, .int .i64 h.f9, .int .i64 h.f10] 70) = W' := ⟨_, rfl⟩
  rw [hW1] at HG1 HH1 ⊢
  clear hW1
  obtain ⟨hb, hhb⟩ : ∃ k, w1.heap.size = k := ⟨_, rfl⟩
  rw [hhb] at HH1 ⊢
  clear hhb hget HG
  have z0 := (HG1.out.cell 0).trans (show _ = some (Value.int .i64 s.f0) from rfl)
  have z12 := (HG1.out.cell 12).trans (show _ = some (Value.string s.f5) from rfl)
  have z13 := (HG1.out.cell 13).trans (show _ = some (Value.string s.f6) from rfl)
  by_cases h4 : e0 = 4
  · rw [if_pos h4] at hres
    have b4 : (e0 == 4) = true := beq_iff_eq.2 h4
    clear h4
    obtain ⟨N, hN⟩ : ∃ N, noT s.f5 = N := ⟨_, rfl⟩
    obtain ⟨L, hL⟩ : ∃ L, noT s.f6 = L := ⟨_, rfl⟩
    rw [hN, hL] at hres
    have hN2 : (s.f5.toList == ([] : List UInt8)) = N := hN
    have hL2 : (s.f6.toList == ([] : List UInt8)) = L := hL
    clear hN hL
    cases N with
    | false =>
      rw [Bool.false_and, if_neg (by decide)] at hres
      go_wp2_with (first | (go_at_call 25; (with_reducible refine (must_no 2 _).mono ?_); rintro e_ w_ ⟨rfl, rfl⟩))
      subst hres
      exact ⟨rfl, PDone.err HG1.out.turn⟩
    | true =>
      cases L with
      | false =>
        rw [Bool.true_and, if_neg (by decide)] at hres
        go_wp2_with (first | (go_at_call 25; (with_reducible refine (must_no 2 _).mono ?_); rintro e_ w_ ⟨rfl, rfl⟩))
        subst hres
        exact ⟨rfl, PDone.err HG1.out.turn⟩
      | true =>
        rw [Bool.true_and, if_pos rfl] at hres
        go_upto_region 3 with (first | (go_at_call 25; (with_reducible refine (must_yes 2 _).mono ?_); rintro e_ w_ ⟨rfl, rfl⟩))
        have y0 := HG1.out.frozen 0
        go_wp2_with (fail)
        go_end0
        subst hres
        exact PDone.done (HG1.out.set 0 (.int .i64 4) ⟨4, s.f1, s.f2, s.f3, s.f4, s.f5, s.f6⟩ rfl)
  · rw [if_neg h4] at hres
    have b4 : (e0 == 4) = false := beq_eq_false_iff_ne.2 h4
    clear h4
    by_cases h0 : e0 = 0
    · rw [if_pos h0] at hres
      have b0 : (e0 == 0) = true := beq_iff_eq.2 h0
      clear h0
      go_upto_region 5 with (first | (go_at_call 25; (with_reducible refine (must_yes _ _).mono ?_); rintro e_ w_ ⟨rfl, rfl⟩))
      have q8 := (blk_cell HH1.out 8).trans (show _ = some (Value.int .u8 h.f8) from rfl)
      by_cases k1 : h.f8 = 76
      · rw [if_pos k1] at hres
        have c1 : (h.f8 == 76) = true := beq_iff_eq.2 k1
        clear k1
        have htx := fun W G => text.at_ w0 b s l A c h s.f5 1 W G
        go_upto_region 8 with (fail)
        clear z0 z13 q8 c1
        have q0 := (blk_cell HH1.out 0).trans (show _ = some (Value.string h.f0) from rfl)
        have q1 := (blk_cell HH1.out 1).trans (show _ = some (Value.string h.f1) from rfl)
        have q2 := (blk_cell HH1.out 2).trans (show _ = some (Value.string h.f2) from rfl)
        have q3 := (blk_cell HH1.out 3).trans (show _ = some (Value.int .i64 h.f3) from rfl)
        have q4 := (blk_cell HH1.out 4).trans (show _ = some (Value.int .i64 h.f4) from rfl)
        have q5 := (blk_cell HH1.out 5).trans (show _ = some (Value.int .i64 h.f5) from rfl)
        have q6 := (blk_cell HH1.out 6).trans (show _ = some (Value.int .i64 h.f6) from rfl)
        have q7 := (blk_cell HH1.out 7).trans (show _ = some (Value.int .i64 h.f7) from rfl)
        have q8 := (blk_cell HH1.out 8).trans (show _ = some (Value.int .u8 h.f8) from rfl)
        have q9 := (blk_cell HH1.out 9).trans (show _ = some (Value.int .i64 h.f9) from rfl)
        have q10 := (blk_cell HH1.out 10).trans (show _ = some (Value.int .i64 h.f10) from rfl)
        have HGd := Aside0.mk (HG1.out.step (below_drew (Below.refl _ _)))
        refine start_ (n := 8) (S := fun w' => w'.cell? ⟨hb, 0, none⟩ = some (.string h.f0) ∧ w'.cell? ⟨hb, 1, none⟩ = some (.string h.f1) ∧ w'.cell? ⟨hb, 2, none⟩ = some (.string h.f2) ∧ w'.cell? ⟨hb, 3, none⟩ = some (.int .i64 h.f3) ∧ w'.cell? ⟨hb, 4, none⟩ = some (.int .i64 h.f4) ∧ w'.cell? ⟨hb, 5, none⟩ = some (.int .i64 h.f5) ∧ w'.cell? ⟨hb, 6, none⟩ = some (.int .i64 h.f6) ∧ w'.cell? ⟨hb, 7, none⟩ = some (.int .i64 h.f7) ∧ w'.cell? ⟨hb, 8, none⟩ = some (.int .u8 h.f8) ∧ w'.cell? ⟨hb, 9, none⟩ = some (.int .i64 h.f9) ∧ w'.cell? ⟨hb, 10, none⟩ = some (.int .i64 h.f10) ∧ w'.cell? ⟨b, 12, none⟩ = some (.string s.f5)) (ds := [7]) #[false, false, false, false, false, false, false, false] (by kernel_rfl) rfl rfl ⟨q0, q1, q2, q3, q4, q5, q6, q7, q8, q9, q10, z12⟩ (fun hHeld => ?_)
        refine pure_ (i := 0) (N := some 43) (v := ?_) (a' := ?_) #[true, false, false, false, false, false, false, false] rfl rfl (by kernel_rfl) (fun _ _ _ h => h) (Or.inl ⟨by rfl, ?_⟩) ?_ ?_
        rotate_left
        · intro w'
          go_simp
          with_reducible rfl
        rotate_left
        · simp only [Act.put, List.setIfInBounds_toArray, List.set_cons_zero, List.set_cons_succ, i64_w, i32_w]
          rfl
        refine take_ (i := 1) (N := some 44) (v := ?_) (a' := ?_) #[true, true, false, false, false, false, false, false] rfl rfl (by kernel_rfl) (fun _ _ _ h => h) (Or.inl ⟨by rfl, ?_⟩) hHeld ?_ ?_
        rotate_left
        · rintro w' ⟨s0, s1, s2, s3, s4, s5, s6, s7, s8, s9, s10, s11⟩
          go_simp
          with_reducible rfl
        rotate_left
        · simp only [Act.put, List.setIfInBounds_toArray, List.set_cons_zero, List.set_cons_succ, i64_w, i32_w]
          rfl
        refine pure_ (i := 2) (N := some 45) (v := ?_) (a' := ?_) #[true, true, true, false, false, false, false, false] rfl rfl (by kernel_rfl) (fun _ _ _ h => h) (Or.inl ⟨by rfl, ?_⟩) ?_ ?_
        rotate_left
        · intro w'
          go_simp
          with_reducible rfl
        rotate_left
        · simp only [Act.put, List.setIfInBounds_toArray, List.set_cons_zero, List.set_cons_succ, i64_w, i32_w]
          rfl
        refine pure_ (i := 3) (N := some 46) (v := ?_) (a' := ?_) #[true, true, true, true, false, false, false, false] rfl rfl (by kernel_rfl) (fun _ _ _ h => h) (Or.inl ⟨by rfl, ?_⟩) ?_ ?_
        rotate_left
        · intro w'
          go_simp
          with_reducible rfl
        rotate_left
        · simp only [Act.put, List.setIfInBounds_toArray, List.set_cons_zero, List.set_cons_succ, i64_w, i32_w]
          rfl
        refine pure_ (i := 4) (N := some 47) (v := ?_) (a' := ?_) #[true, true, true, true, true, false, false, false] rfl rfl (by kernel_rfl) (fun _ _ _ h => h) (Or.inl ⟨by rfl, ?_⟩) ?_ ?_
        rotate_left
        · intro w'
          go_simp
          with_reducible rfl
        rotate_left
        · simp only [Act.put, List.setIfInBounds_toArray, List.set_cons_zero, List.set_cons_succ, i64_w, i32_w]
          rfl
        refine pure_ (i := 5) (N := some 48) (v := ?_) (a' := ?_) #[true, true, true, true, true, true, false, false] rfl rfl (by kernel_rfl) (fun _ _ _ h => h) (Or.inl ⟨by rfl, ?_⟩) ?_ ?_
        rotate_left
        · intro w'
          go_simp
          with_reducible rfl
        rotate_left
        · simp only [Act.put, List.setIfInBounds_toArray, List.set_cons_zero, List.set_cons_succ, i64_w, i32_w]
          rfl
        refine take_ (i := 6) (N := some 49) (v := ?_) (a' := ?_) #[true, true, true, true, true, true, true, false] rfl rfl (by kernel_rfl) (fun _ _ _ h => h) (Or.inl ⟨by rfl, ?_⟩) hHeld ?_ ?_
        rotate_left
        · rintro w' ⟨s0, s1, s2, s3, s4, s5, s6, s7, s8, s9, s10, s11⟩
          go_simp
          with_reducible rfl
        rotate_left
        · simp only [Act.put, List.setIfInBounds_toArray, List.set_cons_zero, List.set_cons_succ, i64_w, i32_w]
          rfl
        refine last_ (i := 7) (N := some 50) #[true, true, true, true, true, true, true, true] rfl rfl (by kernel_rfl) (by decide) (fun K hK => ?_)
        rw [if_pos (by rfl)]
        go_simp
        refine (htx _ HGd.out).mono ?_
        rw [hres]
        clear hres
        cases res with
        | error k =>
          rintro e_ w2 ⟨rfl, hT⟩
          exact ⟨rfl, PDone.err hT⟩
        | ok r =>
          obtain ⟨s2, l2⟩ := r
          rintro e_ w2 ⟨rfl, A2, c2, G2⟩
          refine hK.out _ _ ?_
          clear hK K
          refine done_ (by kernel_rfl) ?_
          go_wp2_with (fail)
          go_end0
          exact PDone.done G2
      · rw [if_neg k1] at hres
        have c1 : (h.f8 == 76) = false := beq_eq_false_iff_ne.2 k1
        clear k1
        by_cases k2 : h.f8 = 75
        · rw [if_pos k2] at hres
          have c2 : (h.f8 == 75) = true := beq_iff_eq.2 k2
          clear k2
          have htx := fun W G => text.at_ w0 b s l A c h s.f6 2 W G
          go_upto_region 10 with (fail)
          clear z0 z12 q8 c1 c2
          have q0 := (blk_cell HH1.out 0).trans (show _ = some (Value.string h.f0) from rfl)
          have q1 := (blk_cell HH1.out 1).trans (show _ = some (Value.string h.f1) from rfl)
          have q2 := (blk_cell HH1.out 2).trans (show _ = some (Value.string h.f2) from rfl)
          have q3 := (blk_cell HH1.out 3).trans (show _ = some (Value.int .i64 h.f3) from rfl)
          have q4 := (blk_cell HH1.out 4).trans (show _ = some (Value.int .i64 h.f4) from rfl)
          have q5 := (blk_cell HH1.out 5).trans (show _ = some (Value.int .i64 h.f5) from rfl)
          have q6 := (blk_cell HH1.out 6).trans (show _ = some (Value.int .i64 h.f6) from rfl)
          have q7 := (blk_cell HH1.out 7).trans (show _ = some (Value.int .i64 h.f7) from rfl)
          have q8 := (blk_cell HH1.out 8).trans (show _ = some (Value.int .u8 h.f8) from rfl)
          have q9 := (blk_cell HH1.out 9).trans (show _ = some (Value.int .i64 h.f9) from rfl)
          have q10 := (blk_cell HH1.out 10).trans (show _ = some (Value.int .i64 h.f10) from rfl)
          have HGd := Aside0.mk (HG1.out.step (below_drew (Below.refl _ _)))
          refine start_ (n := 8) (S := fun w' => w'.cell? ⟨hb, 0, none⟩ = some (.string h.f0) ∧ w'.cell? ⟨hb, 1, none⟩ = some (.string h.f1) ∧ w'.cell? ⟨hb, 2, none⟩ = some (.string h.f2) ∧ w'.cell? ⟨hb, 3, none⟩ = some (.int .i64 h.f3) ∧ w'.cell? ⟨hb, 4, none⟩ = some (.int .i64 h.f4) ∧ w'.cell? ⟨hb, 5, none⟩ = some (.int .i64 h.f5) ∧ w'.cell? ⟨hb, 6, none⟩ = some (.int .i64 h.f6) ∧ w'.cell? ⟨hb, 7, none⟩ = some (.int .i64 h.f7) ∧ w'.cell? ⟨hb, 8, none⟩ = some (.int .u8 h.f8) ∧ w'.cell? ⟨hb, 9, none⟩ = some (.int .i64 h.f9) ∧ w'.cell? ⟨hb, 10, none⟩ = some (.int .i64 h.f10) ∧ w'.cell? ⟨b, 13, none⟩ = some (.string s.f6)) (ds := [7]) #[false, false, false, false, false, false, false, false] (by kernel_rfl) rfl rfl ⟨q0, q1, q2, q3, q4, q5, q6, q7, q8, q9, q10, z13⟩ (fun hHeld => ?_)
          refine pure_ (i := 0) (N := some 53) (v := ?_) (a' := ?_) #[true, false, false, false, false, false, false, false] rfl rfl (by kernel_rfl) (fun _ _ _ h => h) (Or.inl ⟨by rfl, ?_⟩) ?_ ?_
          rotate_left
          · intro w'
            go_simp
            with_reducible rfl
          rotate_left
          · simp only [Act.put, List.setIfInBounds_toArray, List.set_cons_zero, List.set_cons_succ, i64_w, i32_w]
            rfl
          refine take_ (i := 1) (N := some 54) (v := ?_) (a' := ?_) #[true, true, false, false, false, false, false, false] rfl rfl (by kernel_rfl) (fun _ _ _ h => h) (Or.inl ⟨by rfl, ?_⟩) hHeld ?_ ?_
          rotate_left
          · rintro w' ⟨s0, s1, s2, s3, s4, s5, s6, s7, s8, s9, s10, s11⟩
            go_simp
            with_reducible rfl
          rotate_left
          · simp only [Act.put, List.setIfInBounds_toArray, List.set_cons_zero, List.set_cons_succ, i64_w, i32_w]
            rfl
          refine pure_ (i := 2) (N := some 55) (v := ?_) (a' := ?_) #[true, true, true, false, false, false, false, false] rfl rfl (by kernel_rfl) (fun _ _ _ h => h) (Or.inl ⟨by rfl, ?_⟩) ?_ ?_
          rotate_left
          · intro w'
            go_simp
            with_reducible rfl
          rotate_left
          · simp only [Act.put, List.setIfInBounds_toArray, List.set_cons_zero, List.set_cons_succ, i64_w, i32_w]
            rfl
          refine pure_ (i := 3) (N := some 56) (v := ?_) (a' := ?_) #[true, true, true, true, false, false, false, false] rfl rfl (by kernel_rfl) (fun _ _ _ h => h) (Or.inl ⟨by rfl, ?_⟩) ?_ ?_
          rotate_left
          · intro w'
            go_simp
            with_reducible rfl
          rotate_left
          · simp only [Act.put, List.setIfInBounds_toArray, List.set_cons_zero, List.set_cons_succ, i64_w, i32_w]
            rfl
          refine pure_ (i := 4) (N := some 57) (v := ?_) (a' := ?_) #[true, true, true, true, true, false, false, false] rfl rfl (by kernel_rfl) (fun _ _ _ h => h) (Or.inl ⟨by rfl, ?_⟩) ?_ ?_
          rotate_left
          · intro w'
            go_simp
            with_reducible rfl
          rotate_left
          · simp only [Act.put, List.setIfInBounds_toArray, List.set_cons_zero, List.set_cons_succ, i64_w, i32_w]
            rfl
          refine pure_ (i := 5) (N := some 58) (v := ?_) (a' := ?_) #[true, true, true, true, true, true, false, false] rfl rfl (by kernel_rfl) (fun _ _ _ h => h) (Or.inl ⟨by rfl, ?_⟩) ?_ ?_
          rotate_left
          · intro w'
            go_simp
            with_reducible rfl
          rotate_left
          · simp only [Act.put, List.setIfInBounds_toArray, List.set_cons_zero, List.set_cons_succ, i64_w, i32_w]
            rfl
          refine take_ (i := 6) (N := some 59) (v := ?_) (a' := ?_) #[true, true, true, true, true, true, true, false] rfl rfl (by kernel_rfl) (fun _ _ _ h => h) (Or.inl ⟨by rfl, ?_⟩) hHeld ?_ ?_
          rotate_left
          · rintro w' ⟨s0, s1, s2, s3, s4, s5, s6, s7, s8, s9, s10, s11⟩
            go_simp
            with_reducible rfl
          rotate_left
          · simp only [Act.put, List.setIfInBounds_toArray, List.set_cons_zero, List.set_cons_succ, i64_w, i32_w]
            rfl
          refine last_ (i := 7) (N := some 60) #[true, true, true, true, true, true, true, true] rfl rfl (by kernel_rfl) (by decide) (fun K hK => ?_)
          rw [if_pos (by rfl)]
          go_simp
          refine (htx _ HGd.out).mono ?_
          rw [hres]
          clear hres
          cases res with
          | error k =>
            rintro e_ w2 ⟨rfl, hT⟩
            exact ⟨rfl, PDone.err hT⟩
          | ok r =>
            obtain ⟨s2, l2⟩ := r
            rintro e_ w2 ⟨rfl, A2, c2, G2⟩
            refine hK.out _ _ ?_
            clear hK K
            refine done_ (by kernel_rfl) ?_
            go_wp2_with (fail)
            go_end0
            exact PDone.done G2
        · rw [if_neg k2] at hres
          have c2 : (h.f8 == 75) = false := beq_eq_false_iff_ne.2 k2
          clear k2
          by_cases k3 : h.f8 = 77
          · rw [if_pos (.inl k3)] at hres
            have c3 : (h.f8 == 77) = true := beq_iff_eq.2 k3
            clear k3
            subst hres
            go_wp2_with (first | (go_at_call 25; (with_reducible refine (must_no 5 _).mono ?_); rintro e_ w_ ⟨rfl, rfl⟩))
            exact ⟨rfl, PDone.err HG1.out.turn⟩
          · have c3 : (h.f8 == 77) = false := beq_eq_false_iff_ne.2 k3
            by_cases k4 : h.f8 = 86
            · rw [if_pos (.inr k4)] at hres
              have c4 : (h.f8 == 86) = true := beq_iff_eq.2 k4
              clear k3 k4
              subst hres
              go_wp2_with (first | (go_at_call 25; (with_reducible refine (must_no 5 _).mono ?_); rintro e_ w_ ⟨rfl, rfl⟩))
              exact ⟨rfl, PDone.err HG1.out.turn⟩
            · rw [if_neg (fun hh => hh.elim k3 k4)] at hres
              have c4 : (h.f8 == 86) = false := beq_eq_false_iff_ne.2 k4
              clear k3 k4
              have hno := fun W G => node.at_ w0 b s l A c h HSZ.out.1 HSZ.out.2 (by omega) W G
              rw [hres] at hno
              clear hres
              have q0 := (blk_cell HH1.out 0).trans (show _ = some (Value.string h.f0) from rfl)
              have q1 := (blk_cell HH1.out 1).trans (show _ = some (Value.string h.f1) from rfl)
              have q2 := (blk_cell HH1.out 2).trans (show _ = some (Value.string h.f2) from rfl)
              have q3 := (blk_cell HH1.out 3).trans (show _ = some (Value.int .i64 h.f3) from rfl)
              have q4 := (blk_cell HH1.out 4).trans (show _ = some (Value.int .i64 h.f4) from rfl)
              have q5 := (blk_cell HH1.out 5).trans (show _ = some (Value.int .i64 h.f5) from rfl)
              have q6 := (blk_cell HH1.out 6).trans (show _ = some (Value.int .i64 h.f6) from rfl)
              have q7 := (blk_cell HH1.out 7).trans (show _ = some (Value.int .i64 h.f7) from rfl)
              have q8 := (blk_cell HH1.out 8).trans (show _ = some (Value.int .u8 h.f8) from rfl)
              have q9 := (blk_cell HH1.out 9).trans (show _ = some (Value.int .i64 h.f9) from rfl)
              have q10 := (blk_cell HH1.out 10).trans (show _ = some (Value.int .i64 h.f10) from rfl)
              cases res with
              | error k =>
                go_wp2_with (go_at_call 50; (refine (hno _ HG1.out).mono ?_); rintro e_ w2 ⟨rfl, hT⟩)
                exact ⟨rfl, PDone.err hT⟩
              | ok r =>
                obtain ⟨s2, l2⟩ := r
                go_wp2_with (go_at_call 50; (refine (hno _ HG1.out).mono ?_); rintro e_ w2 ⟨rfl, A2, c2, G2⟩)
                go_end0
                exact PDone.done G2
    · rw [if_neg h0] at hres
      have b0 : (e0 == 0) = false := beq_eq_false_iff_ne.2 h0
      clear h0
      subst hres
      go_wp2_with (first | (go_at_call 25; (with_reducible refine (must_no _ _).mono ?_); rintro e_ w_ ⟨rfl, rfl⟩))
      exact ⟨rfl, PDone.err HG1.out.turn⟩

end Go.Proofs.Ytoahjigjlgcjkaa.X
