import Derived.Test.YtoahjigjlgcjkaaXK
import Derived.Test.YtoahjigjlgcjkaaXGhead
import Derived.Test.YtoahjigjlgcjkaaXGpb
import Derived.Test.YtoahjigjlgcjkaaXGpmay
import Derived.Test.YtoahjigjlgcjkaaXparsein
import Derived.Test.YtoahjigjlgcjkaaYAll
import Derived.Test.YtoahjigjlgcjkaaP04g
import Derived.Test.YtoahjigjlgcjkaaPGA
import Derived.Test.YtoahjigjlgcjkaaPGE
import Derived.Deep.RegionHeld3
import Derived.Laws.EntriesVeiled
import Derived.WalkSpells
namespace Go.Proofs.Ytoahjigjlgcjkaa.X
open Go.RowKit Go.Proofs.YtoahjigjlgcjkaaW.PrintWords Go.Proofs.YtoahjigjlgcjkaaW.PrintLast Go.Proofs.YtoahjigjlgcjkaaW.PrintMore
attribute [local go_sem] max2_int min2_int max_two min_two
set_option linter.unusedVariables false
set_option linter.unusedSimpArgs false

open Go.Proofs.YtoahjigjlgcjkaaY
set_option maxRecDepth 100000
/-- What a step of the parser leaves: the state, and what is told; or why not. -/
def PDone (w0 : World) (b : Nat) (r : Except Int (Pst × List Evt)) (e : Ending) (w' : World) : Prop := match r with
  | .ok (s, l) => e = .returned (.tuple #[]) ∧ ∃ A c, PAt w0 b s l A c w'
  | .error k => e = .panicked [{ v := .iface 52 (.agg #[.int .i64 k]), recovered := false }] ∧ Turn (fun i => i = b) w0 w'
theorem PDone.err {w0 : World} {b : Nat} {k : Int} {w' : World} (h : Turn (fun i => i = b) w0 w') : PDone w0 b (.error k) (.panicked [{ v := .iface 52 (.agg #[.int .i64 k]), recovered := false }]) w' := ⟨rfl, h⟩
theorem PDone.done {w0 : World} {b : Nat} {s : Pst} {l : List Evt} {A : Option Addr} {c : Nat} {w' : World} (h : PAt w0 b s l A c w') : PDone w0 b (.ok (s, l)) (.returned (.tuple #[])) w' := ⟨rfl, A, c, h⟩
def textP (s : Pst) (h : Hd) (own : ByteArray) (phase : Int) (l : List Evt) : Except Int (Pst × List Evt) :=
  if noT own = true then (if (eqHd h ⟨⟨#[46, 47, 46, 47, 64, 76, 111, 110, 103, 76, 105, 110, 107]⟩, ⟨#[]⟩, ⟨#[]⟩, 0, 0, 0, h.f6, 0, h.f8, 0, 0⟩ && inB3 h.f6 2 301) = true then .ok (⟨phase, s.f1, h.f6, h.f6, s.f4, s.f5, s.f6⟩, l) else .error 2) else .error 5
set_option maxHeartbeats 3200000 in
theorem text.at_ (w0 : World) (b : Nat) (s : Pst) (l : List Evt) (A : Option Addr) (c : Nat) (h : Hd) (own : ByteArray) (phase : Int) (W : World) (G : PAt w0 b s l A c W) :
    Calls Try.prog 49 #[.pointer (some ⟨b, 0, none⟩), .agg #[.string h.f0, .string h.f1, .string h.f2, .int .i64 h.f3, .int .i64 h.f4, .int .i64 h.f5, .int .i64 h.f6, .int .i64 h.f7, .int .u8 h.f8, .int .i64 h.f9, .int .i64 h.f10], .string own, .int .i64 phase] W fun e w' => PDone w0 b (textP s h own phase l) e w' := by
  have HG := Aside0.mk (G.step (below_alloc (Below.refl _ _) (.cells #[.string h.f0, .string h.f1, .string h.f2, .int .i64 h.f3, .int .i64 h.f4, .int .i64 h.f5, .int .i64 h.f6, .int .i64 h.f7, .int .u8 h.f8, .int .i64 h.f9, .int .i64 h.f10] 70)))
  have HH := Aside0.mk (heap_alloc_new W (.cells #[.string h.f0, .string h.f1, .string h.f2, .int .i64 h.f3, .int .i64 h.f4, .int .i64 h.f5, .int .i64 h.f6, .int .i64 h.f7, .int .u8 h.f8, .int .i64 h.f9, .int .i64 h.f10] 70))
  have HLT := Aside0.mk (show b ≠ W.heap.size from by have h1 := G.lt; have h2 := G.lt2; omega)
  have heq : ∀ (d : Nat) (W : World), (Op.equalIn (d + 2) 70 (.agg #[.string h.f0, .string h.f1, .string h.f2, .int .i64 h.f3, .int .i64 h.f4, .int .i64 h.f5, .int .i64 h.f6, .int .i64 h.f7, .int .u8 h.f8, .int .i64 h.f9, .int .i64 h.f10]) (.agg #[.string ⟨#[46, 47, 46, 47, 64, 76, 111, 110, 103, 76, 105, 110, 107]⟩, .string ⟨#[]⟩, .string ⟨#[]⟩, .int .i64 0, .int .i64 0, .int .i64 0, .int .i64 h.f6, .int .i64 0, .int .u8 h.f8, .int .i64 0, .int .i64 0])).run Try.prog W = .ok (eqHd h ⟨⟨#[46, 47, 46, 47, 64, 76, 111, 110, 103, 76, 105, 110, 107]⟩, ⟨#[]⟩, ⟨#[]⟩, 0, 0, 0, h.f6, 0, h.f8, 0, 0⟩) W := fun d W => hd_eq d W h ⟨⟨#[46, 47, 46, 47, 64, 76, 111, 110, 103, 76, 105, 110, 107]⟩, ⟨#[]⟩, ⟨#[]⟩, 0, 0, 0, h.f6, 0, h.f8, 0, 0⟩
  have hin := fun W => parse_in.calls h.f6 2 301 _ W (in_f h.f6 2 301)
  obtain ⟨res, hres⟩ : ∃ res, textP s h own phase l = res := ⟨_, rfl⟩
  rw [hres]
  unfold textP at hres
  generalize eqHd h _ = E at *
  generalize inB3 h.f6 2 301 = C at *
  obtain ⟨O, hO⟩ : ∃ O, noT own = O := ⟨_, rfl⟩
  rw [hO] at hres
  have hO2 : (own.toList == ([] : List UInt8)) = O := hO
  clear hO G
  go_enter Try.func49, Try.ntmps49
  cases O with
  | false =>
    rw [if_neg (by decide)] at hres
    go_wp2_with (first | (go_at_call 25; (with_reducible refine (must_no 5 _).mono ?_); rintro e_ w_ ⟨rfl, rfl⟩))
    subst hres
    exact ⟨rfl, PDone.err HG.out.turn⟩
  | true =>
    rw [if_pos rfl] at hres
    go_upto_region 2 with (first | (go_at_call 25; (with_reducible refine (must_yes 5 _).mono ?_); rintro e_ w_ ⟨rfl, rfl⟩))
    obtain ⟨W1, hW1⟩ : ∃ W', W.alloc (.cells #[.string h.f0, .string h.f1, .string h.f2, .int .i64 h.f3, .int .i64 h.f4, .int .i64 h.f5, .int .i64 h.f6, .int .i64 h.f7, .int .u8 h.f8, .int .i64 h.f9, .int .i64 h.f10] 70) = W' := ⟨_, rfl⟩
    rw [hW1] at HG HH ⊢
    clear hW1
    obtain ⟨hb, hhb⟩ : ∃ k, W.heap.size = k := ⟨_, rfl⟩
    rw [hhb] at HH HLT ⊢
    clear hhb
    have q0_1 := (blk_cell HH.out 0).trans (show _ = some (Value.string h.f0) from rfl)
    have q1_1 := (blk_cell HH.out 1).trans (show _ = some (Value.string h.f1) from rfl)
    have q2_1 := (blk_cell HH.out 2).trans (show _ = some (Value.string h.f2) from rfl)
    have q3_1 := (blk_cell HH.out 3).trans (show _ = some (Value.int .i64 h.f3) from rfl)
    have q4_1 := (blk_cell HH.out 4).trans (show _ = some (Value.int .i64 h.f4) from rfl)
    have q5_1 := (blk_cell HH.out 5).trans (show _ = some (Value.int .i64 h.f5) from rfl)
    have q6_1 := (blk_cell HH.out 6).trans (show _ = some (Value.int .i64 h.f6) from rfl)
    have q7_1 := (blk_cell HH.out 7).trans (show _ = some (Value.int .i64 h.f7) from rfl)
    have q8_1 := (blk_cell HH.out 8).trans (show _ = some (Value.int .u8 h.f8) from rfl)
    have q9_1 := (blk_cell HH.out 9).trans (show _ = some (Value.int .i64 h.f9) from rfl)
    have q10_1 := (blk_cell HH.out 10).trans (show _ = some (Value.int .i64 h.f10) from rfl)
    cases E with
    | false =>
      rw [Bool.false_and, if_neg (by decide)] at hres
      go_wp2_with (first | (go_at_call 25; (with_reducible refine (must_no 2 _).mono ?_); rintro e_ w_ ⟨rfl, rfl⟩))
      subst hres
      exact ⟨rfl, PDone.err HG.out.turn⟩
    | true =>
      rw [Bool.true_and] at hres
      cases C with
      | false =>
        rw [if_neg (by decide)] at hres
        go_wp2_with (first | (go_at_call 32; (with_reducible refine (hin _).mono ?_); rintro e_ w2 ⟨rfl, hd⟩; have hb_ := Drawn0.below hd; have HG2 := Aside0.mk (HG.out.step hb_); have HH2 := Aside0.mk (blk_below HH.out hb_); clear hd hb_) | (go_at_call 25; (with_reducible refine (must_no 2 _).mono ?_); rintro e_ w_ ⟨rfl, rfl⟩))
        subst hres
        exact ⟨rfl, PDone.err HG2.out.turn⟩
      | true =>
        rw [if_pos rfl] at hres
        go_upto_region 3 with (first | (go_at_call 32; (with_reducible refine (hin _).mono ?_); rintro e_ w2 ⟨rfl, hd⟩; have hb_ := Drawn0.below hd; have HG2 := Aside0.mk (HG.out.step hb_); have HH2 := Aside0.mk (blk_below HH.out hb_); clear hd hb_) | (go_at_call 25; (with_reducible refine (must_yes 2 _).mono ?_); rintro e_ w_ ⟨rfl, rfl⟩))
        have q6_2 := (blk_cell HH2.out 6).trans (show _ = some (Value.int .i64 h.f6) from rfl)
        refine start_ (n := 20) (S := fun w' => w'.cell? ⟨hb, 6, none⟩ = some (.int .i64 h.f6)) (ds := []) #[false, false, false, false, false, false, false, false, false, false, false, false, false, false, false, false, false, false, false, false] (by kernel_rfl) rfl rfl q6_2 (fun hHeld => ?_)
        have HG3 := Aside0.mk (HG2.out.step (below_drew (Below.refl _ _)))
        have HH3 := Aside0.mk (blk_drew HH2.out)
        obtain ⟨W3, hW3⟩ : ∃ W', w2.drew = W' := ⟨_, rfl⟩
        rw [hW3] at HG3 HH3 hHeld ⊢
        clear hW3 q6_2
        refine pure_ (i := 0) (N := some 24) (v := ?_) (a' := ?_) #[true, false, false, false, false, false, false, false, false, false, false, false, false, false, false, false, false, false, false, false] rfl rfl (by kernel_rfl) (fun _ _ _ h => h) (Or.inl ⟨by rfl, ?_⟩) ?_ ?_
        rotate_left
        · intro w'
          go_simp
          with_reducible rfl
        rotate_left
        · simp only [Act.put, List.setIfInBounds_toArray, List.set_cons_zero, List.set_cons_succ, i64_w, i32_w]
          rfl
        refine pure_ (i := 1) (N := some 25) (v := ?_) (a' := ?_) #[true, true, false, false, false, false, false, false, false, false, false, false, false, false, false, false, false, false, false, false] rfl rfl (by kernel_rfl) (fun _ _ _ h => h) (Or.inl ⟨by rfl, ?_⟩) ?_ ?_
        rotate_left
        · intro w'
          go_simp
          with_reducible rfl
        rotate_left
        · simp only [Act.put, List.setIfInBounds_toArray, List.set_cons_zero, List.set_cons_succ, i64_w, i32_w]
          rfl
        refine pure_ (i := 2) (N := some 26) (v := ?_) (a' := ?_) #[true, true, true, false, false, false, false, false, false, false, false, false, false, false, false, false, false, false, false, false] rfl rfl (by kernel_rfl) (fun _ _ _ h => h) (Or.inl ⟨by rfl, ?_⟩) ?_ ?_
        rotate_left
        · intro w'
          go_simp
          with_reducible rfl
        rotate_left
        · simp only [Act.put, List.setIfInBounds_toArray, List.set_cons_zero, List.set_cons_succ, i64_w, i32_w]
          rfl
        refine pure_ (i := 3) (N := some 27) (v := ?_) (a' := ?_) #[true, true, true, true, false, false, false, false, false, false, false, false, false, false, false, false, false, false, false, false] rfl rfl (by kernel_rfl) (fun _ _ _ h => h) (Or.inl ⟨by rfl, ?_⟩) ?_ ?_
        rotate_left
        · intro w'
          go_simp
          with_reducible rfl
        rotate_left
        · simp only [Act.put, List.setIfInBounds_toArray, List.set_cons_zero, List.set_cons_succ, i64_w, i32_w]
          rfl
        refine pure_ (i := 4) (N := some 28) (v := ?_) (a' := ?_) #[true, true, true, true, true, false, false, false, false, false, false, false, false, false, false, false, false, false, false, false] rfl rfl (by kernel_rfl) (fun _ _ _ h => h) (Or.inl ⟨by rfl, ?_⟩) ?_ ?_
        rotate_left
        · intro w'
          go_simp
          with_reducible rfl
        rotate_left
        · simp only [Act.put, List.setIfInBounds_toArray, List.set_cons_zero, List.set_cons_succ, i64_w, i32_w]
          rfl
        refine take_ (i := 5) (N := some 29) (v := ?_) (a' := ?_) #[true, true, true, true, true, true, false, false, false, false, false, false, false, false, false, false, false, false, false, false] rfl rfl (by kernel_rfl) (fun _ _ _ h => h) (Or.inl ⟨by rfl, ?_⟩) hHeld ?_ ?_
        rotate_left
        · rintro w' s0
          go_simp
          with_reducible rfl
        rotate_left
        · simp only [Act.put, List.setIfInBounds_toArray, List.set_cons_zero, List.set_cons_succ, i64_w, i32_w]
          rfl
        refine pure_ (i := 6) (N := some 30) (v := ?_) (a' := ?_) #[true, true, true, true, true, true, true, false, false, false, false, false, false, false, false, false, false, false, false, false] rfl rfl (by kernel_rfl) (fun _ _ _ h => h) (Or.inl ⟨by rfl, ?_⟩) ?_ ?_
        rotate_left
        · intro w'
          go_simp
          with_reducible rfl
        rotate_left
        · simp only [Act.put, List.setIfInBounds_toArray, List.set_cons_zero, List.set_cons_succ, i64_w, i32_w]
          rfl
        refine take_ (i := 7) (N := some 31) (v := ?_) (a' := ?_) #[true, true, true, true, true, true, true, true, false, false, false, false, false, false, false, false, false, false, false, false] rfl rfl (by kernel_rfl) (fun _ _ _ h => h) (Or.inl ⟨by rfl, ?_⟩) hHeld ?_ ?_
        rotate_left
        · rintro w' s0
          go_simp
          with_reducible rfl
        rotate_left
        · simp only [Act.put, List.setIfInBounds_toArray, List.set_cons_zero, List.set_cons_succ, i64_w, i32_w]
          rfl
        refine pure_ (i := 8) (N := some 32) (v := ?_) (a' := ?_) #[true, true, true, true, true, true, true, true, true, false, false, false, false, false, false, false, false, false, false, false] rfl rfl (by kernel_rfl) (fun _ _ _ h => h) (Or.inl ⟨by rfl, ?_⟩) ?_ ?_
        rotate_left
        · intro w'
          go_simp
          with_reducible rfl
        rotate_left
        · simp only [Act.put, List.setIfInBounds_toArray, List.set_cons_zero, List.set_cons_succ, i64_w, i32_w]
          rfl
        refine pure_ (i := 9) (N := some 33) (v := ?_) (a' := ?_) #[true, true, true, true, true, true, true, true, true, true, false, false, false, false, false, false, false, false, false, false] rfl rfl (by kernel_rfl) (fun _ _ _ h => h) (Or.inl ⟨by rfl, ?_⟩) ?_ ?_
        rotate_left
        · intro w'
          go_simp
          with_reducible rfl
        rotate_left
        · simp only [Act.put, List.setIfInBounds_toArray, List.set_cons_zero, List.set_cons_succ, i64_w, i32_w]
          rfl
        refine pure_ (i := 10) (N := some 34) (v := ?_) (a' := ?_) #[true, true, true, true, true, true, true, true, true, true, true, false, false, false, false, false, false, false, false, false] rfl rfl (by kernel_rfl) (fun _ _ _ h => h) (Or.inl ⟨by rfl, ?_⟩) ?_ ?_
        rotate_left
        · intro w'
          go_simp
          with_reducible rfl
        rotate_left
        · simp only [Act.put, List.setIfInBounds_toArray, List.set_cons_zero, List.set_cons_succ, i64_w, i32_w]
          rfl
        have z_ := (HG3.out.cell 0).trans (show _ = some (Value.int .i64 s.f0) from rfl)
        have y_ := HG3.out.frozen 0
        refine one_ (i := 11) (N := none) #[true, true, true, true, true, true, true, true, true, true, true, true, false, false, false, false, false, false, false, false] rfl rfl (by kernel_rfl) (by decide) (fun K hK => ?_)
        rw [if_pos (by rfl)]
        go_simp
        have HG4 := Aside0.mk (HG3.out.set 0 (.int .i64 phase) ⟨phase, s.f1, s.f2, s.f3, s.f4, s.f5, s.f6⟩ rfl)
        have HH4 := Aside0.mk (blk_far HH3.out (p := ⟨b, 0, none⟩) (fun h_ => HLT.out h_.symm) (.int .i64 phase))
        refine hK.out _ _ ((blk_cell HH4.out 6).trans rfl) (fun hHeld => ?_)
        clear hK K z_ y_
        refine pure_ (i := 12) (N := some 35) (v := ?_) (a' := ?_) #[true, true, true, true, true, true, true, true, true, true, true, true, true, false, false, false, false, false, false, false] rfl rfl (by kernel_rfl) (fun _ _ _ h => h) (Or.inl ⟨by rfl, ?_⟩) ?_ ?_
        rotate_left
        · intro w'
          go_simp
          with_reducible rfl
        rotate_left
        · simp only [Act.put, List.setIfInBounds_toArray, List.set_cons_zero, List.set_cons_succ, i64_w, i32_w]
          rfl
        refine pure_ (i := 13) (N := some 36) (v := ?_) (a' := ?_) #[true, true, true, true, true, true, true, true, true, true, true, true, true, true, false, false, false, false, false, false] rfl rfl (by kernel_rfl) (fun _ _ _ h => h) (Or.inl ⟨by rfl, ?_⟩) ?_ ?_
        rotate_left
        · intro w'
          go_simp
          with_reducible rfl
        rotate_left
        · simp only [Act.put, List.setIfInBounds_toArray, List.set_cons_zero, List.set_cons_succ, i64_w, i32_w]
          rfl
        refine pure_ (i := 14) (N := some 37) (v := ?_) (a' := ?_) #[true, true, true, true, true, true, true, true, true, true, true, true, true, true, true, false, false, false, false, false] rfl rfl (by kernel_rfl) (fun _ _ _ h => h) (Or.inl ⟨by rfl, ?_⟩) ?_ ?_
        rotate_left
        · intro w'
          go_simp
          with_reducible rfl
        rotate_left
        · simp only [Act.put, List.setIfInBounds_toArray, List.set_cons_zero, List.set_cons_succ, i64_w, i32_w]
          rfl
        have z_ := (HG4.out.cell 9).trans (show _ = some (Value.int .i64 s.f2) from rfl)
        have y_ := HG4.out.frozen 9
        refine one_ (i := 15) (N := none) #[true, true, true, true, true, true, true, true, true, true, true, true, true, true, true, true, false, false, false, false] rfl rfl (by kernel_rfl) (by decide) (fun K hK => ?_)
        rw [if_pos (by rfl)]
        go_simp
        have HG4b := Aside0.mk (HG4.out.set 9 (.int .i64 h.f6) ⟨phase, s.f1, h.f6, s.f3, s.f4, s.f5, s.f6⟩ rfl)
        have HH4b := Aside0.mk (blk_far HH4.out (p := ⟨b, 9, none⟩) (fun h_ => HLT.out h_.symm) (.int .i64 h.f6))
        refine hK.out _ _ ((blk_cell HH4b.out 6).trans rfl) (fun hHeld => ?_)
        clear hK K z_ y_
        refine pure_ (i := 16) (N := some 38) (v := ?_) (a' := ?_) #[true, true, true, true, true, true, true, true, true, true, true, true, true, true, true, true, true, false, false, false] rfl rfl (by kernel_rfl) (fun _ _ _ h => h) (Or.inl ⟨by rfl, ?_⟩) ?_ ?_
        rotate_left
        · intro w'
          go_simp
          with_reducible rfl
        rotate_left
        · simp only [Act.put, List.setIfInBounds_toArray, List.set_cons_zero, List.set_cons_succ, i64_w, i32_w]
          rfl
        refine pure_ (i := 17) (N := some 39) (v := ?_) (a' := ?_) #[true, true, true, true, true, true, true, true, true, true, true, true, true, true, true, true, true, true, false, false] rfl rfl (by kernel_rfl) (fun _ _ _ h => h) (Or.inl ⟨by rfl, ?_⟩) ?_ ?_
        rotate_left
        · intro w'
          go_simp
          with_reducible rfl
        rotate_left
        · simp only [Act.put, List.setIfInBounds_toArray, List.set_cons_zero, List.set_cons_succ, i64_w, i32_w]
          rfl
        refine pure_ (i := 18) (N := some 40) (v := ?_) (a' := ?_) #[true, true, true, true, true, true, true, true, true, true, true, true, true, true, true, true, true, true, true, false] rfl rfl (by kernel_rfl) (fun _ _ _ h => h) (Or.inl ⟨by rfl, ?_⟩) ?_ ?_
        rotate_left
        · intro w'
          go_simp
          with_reducible rfl
        rotate_left
        · simp only [Act.put, List.setIfInBounds_toArray, List.set_cons_zero, List.set_cons_succ, i64_w, i32_w]
          rfl
        have z_ := (HG4b.out.cell 10).trans (show _ = some (Value.int .i64 s.f3) from rfl)
        have y_ := HG4b.out.frozen 10
        refine one_ (i := 19) (N := none) #[true, true, true, true, true, true, true, true, true, true, true, true, true, true, true, true, true, true, true, true] rfl rfl (by kernel_rfl) (by decide) (fun K hK => ?_)
        rw [if_pos (by rfl)]
        go_simp
        have HG5 := Aside0.mk (HG4b.out.set 10 (.int .i64 h.f6) ⟨phase, s.f1, h.f6, h.f6, s.f4, s.f5, s.f6⟩ rfl)
        have HH5 := Aside0.mk (blk_far HH4b.out (p := ⟨b, 10, none⟩) (fun h_ => HLT.out h_.symm) (.int .i64 h.f6))
        refine hK.out _ _ ((blk_cell HH5.out 6).trans rfl) (fun hHeld => ?_)
        clear hK K z_ y_
        refine done_ (by kernel_rfl) ?_
        go_end0
        subst hres
        exact PDone.done (HG5.out)

end Go.Proofs.Ytoahjigjlgcjkaa.X
