import Derived.Test.YtpedagpcblnnhaaGreatXK
import Derived.Test.YtpedagpcblnnhaaGreatXGget
import Derived.Test.YtpedagpcblnnhaaGreatXGhead
import Derived.Test.YtpedagpcblnnhaaGreatXGlong
import Derived.Test.YtpedagpcblnnhaaGreatXGnum
import Derived.Test.YtpedagpcblnnhaaGreatXGpa
import Derived.Test.YtpedagpcblnnhaaGreatXGpath
import Derived.Test.YtpedagpcblnnhaaGreatXGpmay
import Derived.Test.YtpedagpcblnnhaaGreatXGtree
import Derived.Test.YtpedagpcblnnhaaGreatP02p
import Derived.Test.YtpedagpcblnnhaaGreatP06o
import Derived.Test.YtpedagpcblnnhaaGreatYAll
import Derived.Test.YtpedagpcblnnhaaGreatP04g
import Derived.Test.YtpedagpcblnnhaaGreatPGA
import Derived.Test.YtpedagpcblnnhaaGreatPGE
import Derived.Deep.RegionHeld3
import Derived.Laws.EntriesVeiled
import Derived.WalkSpells
namespace Go.Proofs.YtpedagpcblnnhaaGreat.X
open Go.RowKit Go.Proofs.YtpedagpcblnnhaaGreatW.PrintWords Go.Proofs.YtpedagpcblnnhaaGreatW.PrintLast Go.Proofs.YtpedagpcblnnhaaGreatW.PrintMore
attribute [local go_sem] max2_int min2_int max_two min_two
set_option linter.unusedVariables false
set_option linter.unusedSimpArgs false
section
open Go.Proofs.YtpedagpcblnnhaaGreatY
set_option maxRecDepth 100000
def PDone (w0 : World) (b : Nat) (r : Except Int (Pst × List Evt)) (e : Ending) (w' : World) : Prop := match r with
  | .ok (s, l) => e = .returned (.tuple #[]) ∧ ∃ A c, PAt w0 b s l A c w'
  | .error k => e = .panicked [{ v := .iface 67 (.agg #[.int .i64 k]), recovered := false }] ∧ Turn (fun i => i = b) w0 w'
theorem PDone.err {w0 : World} {b : Nat} {k : Int} {w' : World} (h : Turn (fun i => i = b) w0 w') : PDone w0 b (.error k) (.panicked [{ v := .iface 67 (.agg #[.int .i64 k]), recovered := false }]) w' := ⟨rfl, h⟩
theorem PDone.done {w0 : World} {b : Nat} {s : Pst} {l : List Evt} {A : Option Addr} {c : Nat} {w' : World} (h : PAt w0 b s l A c w') : PDone w0 b (.ok (s, l)) (.returned (.tuple #[])) w' := ⟨rfl, A, c, h⟩
def textP (s : Pst) (h : Hd) (own : ByteArray) (phase : Int) (l : List Evt) : Except Int (Pst × List Evt) :=
  if noT own = true then (if (eqHd h ⟨⟨#[46, 47, 46, 47, 64, 76, 111, 110, 103, 76, 105, 110, 107]⟩, ⟨#[]⟩, ⟨#[]⟩, 0, 0, 0, h.f6, 0, h.f8, 0, 0⟩ && inB3 h.f6 2 301) = true then .ok (⟨phase, s.f1, h.f6, h.f6, s.f4, s.f5, s.f6⟩, l) else .error 2) else .error 5
set_option maxHeartbeats 3200000 in
theorem text.at_ (w0 : World) (b : Nat) (s : Pst) (l : List Evt) (A : Option Addr) (c : Nat) (h : Hd) (own : ByteArray) (phase : Int) (W : World) (G : PAt w0 b s l A c W) :
    Calls Tryz.prog 60 #[.pointer (some ⟨b, 0, none⟩), .agg #[.string h.f0, .string h.f1, .string h.f2, .int .i64 h.f3, .int .i64 h.f4, .int .i64 h.f5, .int .i64 h.f6, .int .i64 h.f7, .int .u8 h.f8, .int .i64 h.f9, .int .i64 h.f10], .string own, .int .i64 phase] W fun e w' => PDone w0 b (textP s h own phase l) e w' := by
  have HG := Aside0.mk (G.step (below_alloc (Below.refl _ _) (.cells #[.string h.f0, .string h.f1, .string h.f2, .int .i64 h.f3, .int .i64 h.f4, .int .i64 h.f5, .int .i64 h.f6, .int .i64 h.f7, .int .u8 h.f8, .int .i64 h.f9, .int .i64 h.f10] 83)))
  have HH := Aside0.mk (heap_alloc_new W (.cells #[.string h.f0, .string h.f1, .string h.f2, .int .i64 h.f3, .int .i64 h.f4, .int .i64 h.f5, .int .i64 h.f6, .int .i64 h.f7, .int .u8 h.f8, .int .i64 h.f9, .int .i64 h.f10] 83))
  have HLT := Aside0.mk (show b ≠ W.heap.size from by have h1 := G.lt; have h2 := G.lt2; omega)
  have heq : ∀ (d : Nat) (W : World), (Op.equalIn (d + 2) 83 (.agg #[.string h.f0, .string h.f1, .string h.f2, .int .i64 h.f3, .int .i64 h.f4, .int .i64 h.f5, .int .i64 h.f6, .int .i64 h.f7, .int .u8 h.f8, .int .i64 h.f9, .int .i64 h.f10]) (.agg #[.string ⟨#[46, 47, 46, 47, 64, 76, 111, 110, 103, 76, 105, 110, 107]⟩, .string ⟨#[]⟩, .string ⟨#[]⟩, .int .i64 0, .int .i64 0, .int .i64 0, .int .i64 h.f6, .int .i64 0, .int .u8 h.f8, .int .i64 0, .int .i64 0])).run Tryz.prog W = .ok (eqHd h ⟨⟨#[46, 47, 46, 47, 64, 76, 111, 110, 103, 76, 105, 110, 107]⟩, ⟨#[]⟩, ⟨#[]⟩, 0, 0, 0, h.f6, 0, h.f8, 0, 0⟩) W := fun d W => hd_eq d W h ⟨⟨#[46, 47, 46, 47, 64, 76, 111, 110, 103, 76, 105, 110, 107]⟩, ⟨#[]⟩, ⟨#[]⟩, 0, 0, 0, h.f6, 0, h.f8, 0, 0⟩
  have hin := fun W => parse_in.calls h.f6 2 301 _ W (in_f h.f6 2 301)
  obtain ⟨res, hres⟩ : ∃ res, textP s h own phase l = res := ⟨_, rfl⟩
  rw [hres]
  unfold textP at hres
  generalize eqHd h _ = E at *
  generalize inB3 h.f6 2 301 = C at *
  obtain ⟨O, hO⟩ : ∃ O, noT own = O := ⟨_, rfl⟩
  rw [hO] at hres
  have hO2 : (own.toList == ([] : List UInt8)) = O := hO
  clear hO G
  go_enter Tryz.func60, Tryz.ntmps60
  cases O with
  | false =>
    rw [if_neg (by decide)] at hres
    go_wp2_with (first | (go_at_call 36; (with_reducible refine (must_no 5 _).mono ?_); rintro e_ w_ ⟨rfl, rfl⟩))
    subst hres
    exact ⟨rfl, PDone.err HG.out.turn⟩
  | true =>
    rw [if_pos rfl] at hres
    go_upto_region 2 with (first | (go_at_call 36; (with_reducible refine (must_yes 5 _).mono ?_); rintro e_ w_ ⟨rfl, rfl⟩))
    obtain ⟨W1, hW1⟩ : ∃ W', W.alloc (.cells #[.string h.f0, .string h.f1, .string h.f2, .int .i64 h.f3, .int .i64 h.f4, .int .i64 h.f5, .int .i64 h.f6, .int .i64 h.f7, .int .u8 h.f8, .int .i64 h.f9, .int .i64 h.f10] 83) = W' := ⟨_, rfl⟩
    rw [hW1] at HG HH ⊢
    clear hW1
    obtain ⟨hb, hhb⟩ : ∃ k, W.heap.size = k := ⟨_, rfl⟩
    rw [hhb] at HH HLT ⊢
    clear hhb
    have q0_1 := (blk_cell HH.out 0).trans (show _ = some (Value.string h.f0) from rfl)
    have q1_1 := (blk_cell HH.out 1).trans (show _ = some (Value.string h.f1) from rfl)
    have q2_1 := (blk_cell HH.out 2).trans (show _ = some (Value.string h.f2) from rfl)
    have q3_1 := (blk_cell HH.out 3).trans (show _ = some (Value.int .i64 h.f3) from rfl)
    have q4_1 := (blk_cell HH.out 4).trans (show _ = some (Value.int .i64 h.f4) from rfl)
    have q5_1 := (blk_cell HH.out 5).trans (show _ = some (Value.int .i64 h.f5) from rfl)
    have q6_1 := (blk_cell HH.out 6).trans (show _ = some (Value.int .i64 h.f6) from rfl)
    have q7_1 := (blk_cell HH.out 7).trans (show _ = some (Value.int .i64 h.f7) from rfl)
    have q8_1 := (blk_cell HH.out 8).trans (show _ = some (Value.int .u8 h.f8) from rfl)
    have q9_1 := (blk_cell HH.out 9).trans (show _ = some (Value.int .i64 h.f9) from rfl)
    have q10_1 := (blk_cell HH.out 10).trans (show _ = some (Value.int .i64 h.f10) from rfl)
    cases E with
    | false =>
      rw [Bool.false_and, if_neg (by decide)] at hres
      go_wp2_with (first | (go_at_call 36; (with_reducible refine (must_no 2 _).mono ?_); rintro e_ w_ ⟨rfl, rfl⟩))
      subst hres
      exact ⟨rfl, PDone.err HG.out.turn⟩
    | true =>
      rw [Bool.true_and] at hres
      cases C with
      | false =>
        rw [if_neg (by decide)] at hres
        go_wp2_with (first | (go_at_call 58; (with_reducible refine (hin _).mono ?_); rintro e_ w2 ⟨rfl, hd⟩; have hb_ := Drawn0.below hd; have HG2 := Aside0.mk (HG.out.step hb_); have HH2 := Aside0.mk (blk_below HH.out hb_); clear hd hb_) | (go_at_call 36; (with_reducible refine (must_no 2 _).mono ?_); rintro e_ w_ ⟨rfl, rfl⟩))
        subst hres
        exact ⟨rfl, PDone.err HG2.out.turn⟩
      | true =>
        rw [if_pos rfl] at hres
        go_upto_region 3 with (first | (go_at_call 58; (with_reducible refine (hin _).mono ?_); rintro e_ w2 ⟨rfl, hd⟩; have hb_ := Drawn0.below hd; have HG2 := Aside0.mk (HG.out.step hb_); have HH2 := Aside0.mk (blk_below HH.out hb_); clear hd hb_) | (go_at_call 36; (with_reducible refine (must_yes 2 _).mono ?_); rintro e_ w_ ⟨rfl, rfl⟩))
        have q6_2 := (blk_cell HH2.out 6).trans (show _ = some (Value.int .i64 h.f6) from rfl)
        refine start_ (n := 20) (S := fun w' => w'.cell? ⟨hb, 6, none⟩ = some (.int .i64 h.f6)) (ds := []) #[false, false, false, false, false, false, false, false, false, false, false, false, false, false, false, false, false, false, false, false] (by kernel_rfl) rfl rfl q6_2 (fun hHeld => ?_)
        have HG3 := Aside0.mk (HG2.out.step (below_drew (Below.refl _ _)))
        have HH3 := Aside0.mk (blk_drew HH2.out)
        obtain ⟨W3, hW3⟩ : ∃ W', w2.drew = W' := ⟨_, rfl⟩
        rw [hW3] at HG3 HH3 hHeld ⊢
        clear hW3 q6_2
        refine pure_ (i := 0) (N := some 24) (v := ?_) (a' := ?_) #[true, false, false, false, false, false, false, false, false, false, false, false, false, false, false, false, false, false, false, false] rfl rfl (by kernel_rfl) (fun _ _ _ h => h) (Or.inl ⟨by rfl, ?_⟩) ?_ ?_
        rotate_left
        · intro w'
          go_simp
          with_reducible rfl
        rotate_left
        · aput
          rfl
        refine pure_ (i := 1) (N := some 25) (v := ?_) (a' := ?_) #[true, true, false, false, false, false, false, false, false, false, false, false, false, false, false, false, false, false, false, false] rfl rfl (by kernel_rfl) (fun _ _ _ h => h) (Or.inl ⟨by rfl, ?_⟩) ?_ ?_
        rotate_left
        · intro w'
          go_simp
          with_reducible rfl
        rotate_left
        · aput
          rfl
        refine pure_ (i := 2) (N := some 26) (v := ?_) (a' := ?_) #[true, true, true, false, false, false, false, false, false, false, false, false, false, false, false, false, false, false, false, false] rfl rfl (by kernel_rfl) (fun _ _ _ h => h) (Or.inl ⟨by rfl, ?_⟩) ?_ ?_
        rotate_left
        · intro w'
          go_simp
          with_reducible rfl
        rotate_left
        · aput
          rfl
        refine pure_ (i := 3) (N := some 27) (v := ?_) (a' := ?_) #[true, true, true, true, false, false, false, false, false, false, false, false, false, false, false, false, false, false, false, false] rfl rfl (by kernel_rfl) (fun _ _ _ h => h) (Or.inl ⟨by rfl, ?_⟩) ?_ ?_
        rotate_left
        · intro w'
          go_simp
          with_reducible rfl
        rotate_left
        · aput
          rfl
        refine pure_ (i := 4) (N := some 28) (v := ?_) (a' := ?_) #[true, true, true, true, true, false, false, false, false, false, false, false, false, false, false, false, false, false, false, false] rfl rfl (by kernel_rfl) (fun _ _ _ h => h) (Or.inl ⟨by rfl, ?_⟩) ?_ ?_
        rotate_left
        · intro w'
          go_simp
          with_reducible rfl
        rotate_left
        · aput
          rfl
        refine take_ (i := 5) (N := some 29) (v := ?_) (a' := ?_) #[true, true, true, true, true, true, false, false, false, false, false, false, false, false, false, false, false, false, false, false] rfl rfl (by kernel_rfl) (fun _ _ _ h => h) (Or.inl ⟨by rfl, ?_⟩) hHeld ?_ ?_
        rotate_left
        · rintro w' s0
          go_simp
          with_reducible rfl
        rotate_left
        · aput
          rfl
        refine pure_ (i := 6) (N := some 30) (v := ?_) (a' := ?_) #[true, true, true, true, true, true, true, false, false, false, false, false, false, false, false, false, false, false, false, false] rfl rfl (by kernel_rfl) (fun _ _ _ h => h) (Or.inl ⟨by rfl, ?_⟩) ?_ ?_
        rotate_left
        · intro w'
          go_simp
          with_reducible rfl
        rotate_left
        · aput
          rfl
        refine take_ (i := 7) (N := some 31) (v := ?_) (a' := ?_) #[true, true, true, true, true, true, true, true, false, false, false, false, false, false, false, false, false, false, false, false] rfl rfl (by kernel_rfl) (fun _ _ _ h => h) (Or.inl ⟨by rfl, ?_⟩) hHeld ?_ ?_
        rotate_left
        · rintro w' s0
          go_simp
          with_reducible rfl
        rotate_left
        · aput
          rfl
        refine pure_ (i := 8) (N := some 32) (v := ?_) (a' := ?_) #[true, true, true, true, true, true, true, true, true, false, false, false, false, false, false, false, false, false, false, false] rfl rfl (by kernel_rfl) (fun _ _ _ h => h) (Or.inl ⟨by rfl, ?_⟩) ?_ ?_
        rotate_left
        · intro w'
          go_simp
          with_reducible rfl
        rotate_left
        · aput
          rfl
        refine pure_ (i := 9) (N := some 33) (v := ?_) (a' := ?_) #[true, true, true, true, true, true, true, true, true, true, false, false, false, false, false, false, false, false, false, false] rfl rfl (by kernel_rfl) (fun _ _ _ h => h) (Or.inl ⟨by rfl, ?_⟩) ?_ ?_
        rotate_left
        · intro w'
          go_simp
          with_reducible rfl
        rotate_left
        · aput
          rfl
        refine pure_ (i := 10) (N := some 34) (v := ?_) (a' := ?_) #[true, true, true, true, true, true, true, true, true, true, true, false, false, false, false, false, false, false, false, false] rfl rfl (by kernel_rfl) (fun _ _ _ h => h) (Or.inl ⟨by rfl, ?_⟩) ?_ ?_
        rotate_left
        · intro w'
          go_simp
          with_reducible rfl
        rotate_left
        · aput
          rfl
        have z_ := (HG3.out.cell 0).trans (show _ = some (Value.int .i64 s.f0) from rfl)
        have y_ := HG3.out.frozen 0
        refine one_ (i := 11) (N := none) #[true, true, true, true, true, true, true, true, true, true, true, true, false, false, false, false, false, false, false, false] rfl rfl (by kernel_rfl) (by decide) (fun K hK => ?_)
        rw [if_pos (by rfl)]
        go_simp
        have HG4 := Aside0.mk (HG3.out.set 0 (.int .i64 phase) ⟨phase, s.f1, s.f2, s.f3, s.f4, s.f5, s.f6⟩ rfl)
        have HH4 := Aside0.mk (blk_far HH3.out (p := ⟨b, 0, none⟩) (fun h_ => HLT.out h_.symm) (.int .i64 phase))
        refine hK.out _ _ ((blk_cell HH4.out 6).trans rfl) (fun hHeld => ?_)
        clear hK K z_ y_
        refine pure_ (i := 12) (N := some 35) (v := ?_) (a' := ?_) #[true, true, true, true, true, true, true, true, true, true, true, true, true, false, false, false, false, false, false, false] rfl rfl (by kernel_rfl) (fun _ _ _ h => h) (Or.inl ⟨by rfl, ?_⟩) ?_ ?_
        rotate_left
        · intro w'
          go_simp
          with_reducible rfl
        rotate_left
        · aput
          rfl
        refine pure_ (i := 13) (N := some 36) (v := ?_) (a' := ?_) #[true, true, true, true, true, true, true, true, true, true, true, true, true, true, false, false, false, false, false, false] rfl rfl (by kernel_rfl) (fun _ _ _ h => h) (Or.inl ⟨by rfl, ?_⟩) ?_ ?_
        rotate_left
        · intro w'
          go_simp
          with_reducible rfl
        rotate_left
        · aput
          rfl
        refine pure_ (i := 14) (N := some 37) (v := ?_) (a' := ?_) #[true, true, true, true, true, true, true, true, true, true, true, true, true, true, true, false, false, false, false, false] rfl rfl (by kernel_rfl) (fun _ _ _ h => h) (Or.inl ⟨by rfl, ?_⟩) ?_ ?_
        rotate_left
        · intro w'
          go_simp
          with_reducible rfl
        rotate_left
        · aput
          rfl
        have z_ := (HG4.out.cell 9).trans (show _ = some (Value.int .i64 s.f2) from rfl)
        have y_ := HG4.out.frozen 9
        refine one_ (i := 15) (N := none) #[true, true, true, true, true, true, true, true, true, true, true, true, true, true, true, true, false, false, false, false] rfl rfl (by kernel_rfl) (by decide) (fun K hK => ?_)
        rw [if_pos (by rfl)]
        go_simp
        have HG4b := Aside0.mk (HG4.out.set 9 (.int .i64 h.f6) ⟨phase, s.f1, h.f6, s.f3, s.f4, s.f5, s.f6⟩ rfl)
        have HH4b := Aside0.mk (blk_far HH4.out (p := ⟨b, 9, none⟩) (fun h_ => HLT.out h_.symm) (.int .i64 h.f6))
        refine hK.out _ _ ((blk_cell HH4b.out 6).trans rfl) (fun hHeld => ?_)
        clear hK K z_ y_
        refine pure_ (i := 16) (N := some 38) (v := ?_) (a' := ?_) #[true, true, true, true, true, true, true, true, true, true, true, true, true, true, true, true, true, false, false, false] rfl rfl (by kernel_rfl) (fun _ _ _ h => h) (Or.inl ⟨by rfl, ?_⟩) ?_ ?_
        rotate_left
        · intro w'
          go_simp
          with_reducible rfl
        rotate_left
        · aput
          rfl
        refine pure_ (i := 17) (N := some 39) (v := ?_) (a' := ?_) #[true, true, true, true, true, true, true, true, true, true, true, true, true, true, true, true, true, true, false, false] rfl rfl (by kernel_rfl) (fun _ _ _ h => h) (Or.inl ⟨by rfl, ?_⟩) ?_ ?_
        rotate_left
        · intro w'
          go_simp
          with_reducible rfl
        rotate_left
        · aput
          rfl
        refine pure_ (i := 18) (N := some 40) (v := ?_) (a' := ?_) #[true, true, true, true, true, true, true, true, true, true, true, true, true, true, true, true, true, true, true, false] rfl rfl (by kernel_rfl) (fun _ _ _ h => h) (Or.inl ⟨by rfl, ?_⟩) ?_ ?_
        rotate_left
        · intro w'
          go_simp
          with_reducible rfl
        rotate_left
        · aput
          rfl
        have z_ := (HG4b.out.cell 10).trans (show _ = some (Value.int .i64 s.f3) from rfl)
        have y_ := HG4b.out.frozen 10
        refine one_ (i := 19) (N := none) #[true, true, true, true, true, true, true, true, true, true, true, true, true, true, true, true, true, true, true, true] rfl rfl (by kernel_rfl) (by decide) (fun K hK => ?_)
        rw [if_pos (by rfl)]
        go_simp
        have HG5 := Aside0.mk (HG4b.out.set 10 (.int .i64 h.f6) ⟨phase, s.f1, h.f6, h.f6, s.f4, s.f5, s.f6⟩ rfl)
        have HH5 := Aside0.mk (blk_far HH4b.out (p := ⟨b, 10, none⟩) (fun h_ => HLT.out h_.symm) (.int .i64 h.f6))
        refine hK.out _ _ ((blk_cell HH5.out 6).trans rfl) (fun hHeld => ?_)
        clear hK K z_ y_
        refine done_ (by kernel_rfl) ?_
        go_end0
        subst hres
        exact PDone.done (HG5.out)
end
section
open Go.Proofs.YtpedagpcblnnhaaGreatY
set_option maxRecDepth 100000
def pjoinB (a b : ByteArray) : ByteArray := if a.toList = [] then b else (a ++ (⟨#[47]⟩ : ByteArray)) ++ b
theorem pjoin_f {a b : ByteArray} (ha : a.size ≤ 1000) (hb : b.size ≤ 1000) : path_Join.f a b = some (pjoinB a b) := by
  unfold path_Join.f pjoinB
  have h1 : (a ++ (⟨#[47]⟩ : ByteArray)).size = a.size + 1 := ByteArray.size_append
  by_cases h : a.toList = []
  · rw [if_pos h, if_pos h]
  · rw [if_neg h, if_neg h, if_pos (by omega), if_pos (by omega)]
theorem pjoin_size {a b : ByteArray} : (pjoinB a b).size ≤ a.size + b.size + 1 := by
  unfold pjoinB
  have h1 : (a ++ (⟨#[47]⟩ : ByteArray)).size = a.size + 1 := ByteArray.size_append
  split
  · omega
  · rw [ByteArray.size_append]; omega
def nodeOf (s : Pst) (h : Hd) : Nd := ⟨if noT s.f5 = true then pjoinB h.f1 h.f0 else s.f5, if noT s.f6 = true then h.f2 else s.f6, h.f8, h.f3, h.f4, h.f5, h.f7, ⟨#[]⟩⟩
def nodeP (s : Pst) (h : Hd) (l : List Evt) : Except Int (Pst × List Evt) :=
  if (noT s.f5 || (noT h.f1 && beginsB h.f0 s.f5)) = true then
    (if (noT s.f6 || beginsB h.f2 s.f6) = true then
      (if mayL (nodeOf s h).f0.data.toList = true then
        (if (oneB (nodeOf s h) && decide (h.f6 ≤ (if h.f8 = 48 then 4000 else 0))) = true then
          (if h.f6 = 0 then .ok (st0, (l ++ [⟨0, nodeOf s h, ⟨#[]⟩⟩]) ++ [evOver]) else .ok (⟨3, nodeOf s h, h.f6, h.f6, ⟨#[]⟩, ⟨#[]⟩, ⟨#[]⟩⟩, l ++ [⟨0, nodeOf s h, ⟨#[]⟩⟩]))
        else .error 2)
      else .error 6)
    else .error 2)
  else .error 2
structure NodeAt (w0 : World) (b : Nat) (s : Pst) (l : List Evt) (A : Option Addr) (c : Nat) (hb g : Nat) (h : Hd) (n : Nd) (W : World) : Prop where
  pat : PAt w0 b s l A c W
  hd : W.heap[hb]? = some (.cells #[.string h.f0, .string h.f1, .string h.f2, .int .i64 h.f3, .int .i64 h.f4, .int .i64 h.f5, .int .i64 h.f6, .int .i64 h.f7, .int .u8 h.f8, .int .i64 h.f9, .int .i64 h.f10] 83 (0, 0))
  nd : W.heap[g]? = some (.cells #[.string n.f0, .string n.f1, .int .u8 n.f2, .int .i64 n.f3, .int .i64 n.f4, .int .i64 n.f5, .int .i64 n.f6, .string n.f7] 41 (0, 0))
  le : w0.heap.size ≤ hb ∧ w0.heap.size ≤ g
theorem NodeAt.ne {w0 : World} {b : Nat} {s : Pst} {l : List Evt} {A : Option Addr} {c : Nat} {hb g : Nat} {h : Hd} {n : Nd} {W : World} (G : NodeAt w0 b s l A c hb g h n W) : hb ≠ g := fun e => by
  have h1 := G.hd; rw [e, G.nd] at h1; injection h1 with h1; injection h1 with _ h1 _; exact absurd h1 (by decide)
theorem NodeAt.step {w0 : World} {b : Nat} {s : Pst} {l : List Evt} {A : Option Addr} {c : Nat} {hb g : Nat} {h : Hd} {n : Nd} {W W' : World} (G : NodeAt w0 b s l A c hb g h n W) (k : Below W.heap.size W W') : NodeAt w0 b s l A c hb g h n W' :=
  ⟨G.pat.step k, blk_below G.hd k, blk_below G.nd k, G.le⟩
theorem R_other {W : World} {base g : Nat} {v : Value} {l : List Evt} {cs : Array Value} (hR : Kd.R k45 45 W base (fun _ => True) v l) (hZ : W.heap[g]? = some (.cells cs 41 (0, 0))) (j : Nat) (x : Value) : Kd.R k45 45 (W.setCell ⟨g, j, none⟩ x) base (fun _ => True) v l :=
  Kd.R_mono (Kd.R_far (Kd.R_mono (Kd.R_bound hR) (ok' := fun k => k ≠ g) (fun k hk => fun he => by
    subst he
    obtain ⟨q, hq, cells, hc⟩ := hk.2.2.2
    rw [hZ] at hc
    injection hc with hc
    injection hc with _ hc _
    subst hc
    revert hq
    decide)) (p := ⟨g, j, none⟩) (fun k hk => hk) x) (fun _ _ => trivial)
theorem Turn.setHigh {b : Nat} {w0 W : World} (h : Turn (fun k => k = b) w0 W) {g : Nat} (hg : w0.heap.size ≤ g) (j : Nat) (v : Value) : Turn (fun k => k = b) w0 (W.setCell ⟨g, j, none⟩ v) :=
  ⟨h.os, h.tape, h.output, by simpa [World.setCell] using h.size, fun i hi hn => (Below.heap_setCell W ⟨g, j, none⟩ v i (by show i ≠ g; omega)).trans (h.block i hi hn)⟩
theorem NodeAt.set {w0 : World} {b : Nat} {s : Pst} {l : List Evt} {A : Option Addr} {c : Nat} {hb g : Nat} {h : Hd} {n : Nd} {W : World} (G : NodeAt w0 b s l A c hb g h n W) (j : Nat) (v : Value) (n' : Nd) (e : (#[.string n.f0, .string n.f1, .int .u8 n.f2, .int .i64 n.f3, .int .i64 n.f4, .int .i64 n.f5, .int .i64 n.f6, .string n.f7] : Array Value).setIfInBounds j v = #[.string n'.f0, .string n'.f1, .int .u8 n'.f2, .int .i64 n'.f3, .int .i64 n'.f4, .int .i64 n'.f5, .int .i64 n'.f6, .string n'.f7]) : NodeAt w0 b s l A c hb g h n' (W.setCell ⟨g, j, none⟩ v) :=
  ⟨⟨Turn.setHigh G.pat.turn G.le.2 j v, G.pat.lt, blk_far G.pat.box (p := ⟨g, j, none⟩) (by have h1 := G.pat.lt; have h2 := G.le.2; show b ≠ g; omega) v, R_other G.pat.row G.nd j v⟩, blk_far G.hd (p := ⟨g, j, none⟩) G.ne v, blk_put G.nd j v e, G.le⟩
theorem NodeAt.store {w0 : World} {b : Nat} {s : Pst} {l : List Evt} {A : Option Addr} {c : Nat} {hb g : Nat} {h : Hd} {n : Nd} {W : World} (G : NodeAt w0 b s l A c hb g h n W) (n' : Nd) : NodeAt w0 b s l A c hb g h n' (((((((((W.setCell ⟨g, 0, none⟩ (.string n'.f0)).setCell ⟨g, 1, none⟩ (.string n'.f1)).setCell ⟨g, 2, none⟩ (.int .u8 n'.f2)).setCell ⟨g, 3, none⟩ (.int .i64 n'.f3)).setCell ⟨g, 4, none⟩ (.int .i64 n'.f4)).setCell ⟨g, 5, none⟩ (.int .i64 n'.f5)).setCell ⟨g, 6, none⟩ (.int .i64 n'.f6)).setCell ⟨g, 7, none⟩ (.string n'.f7))) :=
  (NodeAt.set (NodeAt.set (NodeAt.set (NodeAt.set (NodeAt.set (NodeAt.set (NodeAt.set (NodeAt.set G 0 (.string n'.f0) ⟨n'.f0, n.f1, n.f2, n.f3, n.f4, n.f5, n.f6, n.f7⟩ rfl) 1 (.string n'.f1) ⟨n'.f0, n'.f1, n.f2, n.f3, n.f4, n.f5, n.f6, n.f7⟩ rfl) 2 (.int .u8 n'.f2) ⟨n'.f0, n'.f1, n'.f2, n.f3, n.f4, n.f5, n.f6, n.f7⟩ rfl) 3 (.int .i64 n'.f3) ⟨n'.f0, n'.f1, n'.f2, n'.f3, n.f4, n.f5, n.f6, n.f7⟩ rfl) 4 (.int .i64 n'.f4) ⟨n'.f0, n'.f1, n'.f2, n'.f3, n'.f4, n.f5, n.f6, n.f7⟩ rfl) 5 (.int .i64 n'.f5) ⟨n'.f0, n'.f1, n'.f2, n'.f3, n'.f4, n'.f5, n.f6, n.f7⟩ rfl) 6 (.int .i64 n'.f6) ⟨n'.f0, n'.f1, n'.f2, n'.f3, n'.f4, n'.f5, n'.f6, n.f7⟩ rfl) 7 (.string n'.f7) ⟨n'.f0, n'.f1, n'.f2, n'.f3, n'.f4, n'.f5, n'.f6, n'.f7⟩ rfl)
set_option maxHeartbeats 6400000 in
theorem node.at_ (w0 : World) (b : Nat) (s : Pst) (l : List Evt) (A : Option Addr) (c : Nat) (h : Hd) (hh : h.f0.size ≤ 1000 ∧ h.f1.size ≤ 1000 ∧ h.f2.size ≤ 1000) (hs : s.f5.size ≤ 1000 ∧ s.f6.size ≤ 1000) (hl : l.length ≤ 500) (W : World) (G : PAt w0 b s l A c W) :
    Calls Tryz.prog 61 #[.pointer (some ⟨b, 0, none⟩), .agg #[.string h.f0, .string h.f1, .string h.f2, .int .i64 h.f3, .int .i64 h.f4, .int .i64 h.f5, .int .i64 h.f6, .int .i64 h.f7, .int .u8 h.f8, .int .i64 h.f9, .int .i64 h.f10]] W fun e w' => PDone w0 b (nodeP s h l) e w' := by
  have HG := Aside0.mk (G.step (below_alloc (Below.refl _ _) (.cells #[.string h.f0, .string h.f1, .string h.f2, .int .i64 h.f3, .int .i64 h.f4, .int .i64 h.f5, .int .i64 h.f6, .int .i64 h.f7, .int .u8 h.f8, .int .i64 h.f9, .int .i64 h.f10] 83)))
  have HH := Aside0.mk (heap_alloc_new W (.cells #[.string h.f0, .string h.f1, .string h.f2, .int .i64 h.f3, .int .i64 h.f4, .int .i64 h.f5, .int .i64 h.f6, .int .i64 h.f7, .int .u8 h.f8, .int .i64 h.f9, .int .i64 h.f10] 83))
  have HLE := Aside0.mk G.lt2
  have hjo := fun W => path_Join.calls h.f1 h.f0 _ W (pjoin_f hh.2.1 hh.1)
  obtain ⟨res, hres⟩ : ∃ res, nodeP s h l = res := ⟨_, rfl⟩
  rw [hres]
  have HRES := Aside0.mk hres
  have HSZ := Aside0.mk (And.intro hh hs)
  clear G hres hh hs
  go_enter Tryz.func61, Tryz.ntmps61
  go_upto_region 1 with (fail)
  obtain ⟨W1, hW1⟩ : ∃ W', W.alloc (.cells #[.string h.f0, .string h.f1, .string h.f2, .int .i64 h.f3, .int .i64 h.f4, .int .i64 h.f5, .int .i64 h.f6, .int .i64 h.f7, .int .u8 h.f8, .int .i64 h.f9, .int .i64 h.f10] 83) = W' := ⟨_, rfl⟩
  rw [hW1] at HG HH ⊢
  clear hW1
  obtain ⟨hb, hhb⟩ : ∃ k, W.heap.size = k := ⟨_, rfl⟩
  rw [hhb] at HH HLE ⊢
  clear hhb
  go_cut [4] (fun v4 wc => ∃ g : Nat, v4 = .pointer (some ⟨g, 0, none⟩) ∧ Aside0 (NodeAt w0 b s l A c hb g h ⟨pjoinB h.f1 h.f0, h.f2, h.f8, h.f3, h.f4, h.f5, h.f7, ⟨#[]⟩⟩ wc))
  case first =>
    refine start_ (n := 20) (S := fun w' => w'.heap[hb]? = some (.cells #[.string h.f0, .string h.f1, .string h.f2, .int .i64 h.f3, .int .i64 h.f4, .int .i64 h.f5, .int .i64 h.f6, .int .i64 h.f7, .int .u8 h.f8, .int .i64 h.f9, .int .i64 h.f10] 83 (0, 0))) (ds := [19]) #[false, false, false, false, false, false, false, false, false, false, false, false, false, false, false, false, false, false, false, false] (by kernel_rfl) rfl rfl HH.out (fun hHeld => ?_)
    refine pure_ (i := 0) (N := some 6) (v := ?_) (a' := ?_) #[true, false, false, false, false, false, false, false, false, false, false, false, false, false, false, false, false, false, false, false] rfl rfl (by kernel_rfl) (fun _ _ _ h => h) (Or.inl ⟨by rfl, ?_⟩) ?_ ?_
    rotate_left
    · intro w'
      go_simp
      with_reducible rfl
    rotate_left
    · aput
      rfl
    refine take_ (i := 1) (N := some 7) (v := ?_) (a' := ?_) #[true, true, false, false, false, false, false, false, false, false, false, false, false, false, false, false, false, false, false, false] rfl rfl (by kernel_rfl) (fun _ _ _ h => h) (Or.inl ⟨by rfl, ?_⟩) hHeld ?_ ?_
    rotate_left
    · intro w' hS_
      have q0_1 := (blk_cell hS_ 0).trans (show _ = some (Value.string h.f0) from rfl)
      have q1_1 := (blk_cell hS_ 1).trans (show _ = some (Value.string h.f1) from rfl)
      have q2_1 := (blk_cell hS_ 2).trans (show _ = some (Value.string h.f2) from rfl)
      have q3_1 := (blk_cell hS_ 3).trans (show _ = some (Value.int .i64 h.f3) from rfl)
      have q4_1 := (blk_cell hS_ 4).trans (show _ = some (Value.int .i64 h.f4) from rfl)
      have q5_1 := (blk_cell hS_ 5).trans (show _ = some (Value.int .i64 h.f5) from rfl)
      have q6_1 := (blk_cell hS_ 6).trans (show _ = some (Value.int .i64 h.f6) from rfl)
      have q7_1 := (blk_cell hS_ 7).trans (show _ = some (Value.int .i64 h.f7) from rfl)
      have q8_1 := (blk_cell hS_ 8).trans (show _ = some (Value.int .u8 h.f8) from rfl)
      have q9_1 := (blk_cell hS_ 9).trans (show _ = some (Value.int .i64 h.f9) from rfl)
      have q10_1 := (blk_cell hS_ 10).trans (show _ = some (Value.int .i64 h.f10) from rfl)
      go_simp
      with_reducible rfl
    rotate_left
    · aput
      rfl
    refine pure_ (i := 2) (N := some 8) (v := ?_) (a' := ?_) #[true, true, true, false, false, false, false, false, false, false, false, false, false, false, false, false, false, false, false, false] rfl rfl (by kernel_rfl) (fun _ _ _ h => h) (Or.inl ⟨by rfl, ?_⟩) ?_ ?_
    rotate_left
    · intro w'
      go_simp
      with_reducible rfl
    rotate_left
    · aput
      rfl
    refine take_ (i := 3) (N := some 9) (v := ?_) (a' := ?_) #[true, true, true, true, false, false, false, false, false, false, false, false, false, false, false, false, false, false, false, false] rfl rfl (by kernel_rfl) (fun _ _ _ h => h) (Or.inl ⟨by rfl, ?_⟩) hHeld ?_ ?_
    rotate_left
    · intro w' hS_
      have q0_1 := (blk_cell hS_ 0).trans (show _ = some (Value.string h.f0) from rfl)
      have q1_1 := (blk_cell hS_ 1).trans (show _ = some (Value.string h.f1) from rfl)
      have q2_1 := (blk_cell hS_ 2).trans (show _ = some (Value.string h.f2) from rfl)
      have q3_1 := (blk_cell hS_ 3).trans (show _ = some (Value.int .i64 h.f3) from rfl)
      have q4_1 := (blk_cell hS_ 4).trans (show _ = some (Value.int .i64 h.f4) from rfl)
      have q5_1 := (blk_cell hS_ 5).trans (show _ = some (Value.int .i64 h.f5) from rfl)
      have q6_1 := (blk_cell hS_ 6).trans (show _ = some (Value.int .i64 h.f6) from rfl)
      have q7_1 := (blk_cell hS_ 7).trans (show _ = some (Value.int .i64 h.f7) from rfl)
      have q8_1 := (blk_cell hS_ 8).trans (show _ = some (Value.int .u8 h.f8) from rfl)
      have q9_1 := (blk_cell hS_ 9).trans (show _ = some (Value.int .i64 h.f9) from rfl)
      have q10_1 := (blk_cell hS_ 10).trans (show _ = some (Value.int .i64 h.f10) from rfl)
      go_simp
      with_reducible rfl
    rotate_left
    · aput
      rfl
    refine pure_ (i := 5) (N := some 11) (v := ?_) (a' := ?_) #[true, true, true, true, false, true, false, false, false, false, false, false, false, false, false, false, false, false, false, false] rfl rfl (by kernel_rfl) (fun _ _ _ h => h) (Or.inl ⟨by rfl, ?_⟩) ?_ ?_
    rotate_left
    · intro w'
      go_simp
      with_reducible rfl
    rotate_left
    · aput
      rfl
    refine take_ (i := 6) (N := some 12) (v := ?_) (a' := ?_) #[true, true, true, true, false, true, true, false, false, false, false, false, false, false, false, false, false, false, false, false] rfl rfl (by kernel_rfl) (fun _ _ _ h => h) (Or.inl ⟨by rfl, ?_⟩) hHeld ?_ ?_
    rotate_left
    · intro w' hS_
      have q0_1 := (blk_cell hS_ 0).trans (show _ = some (Value.string h.f0) from rfl)
      have q1_1 := (blk_cell hS_ 1).trans (show _ = some (Value.string h.f1) from rfl)
      have q2_1 := (blk_cell hS_ 2).trans (show _ = some (Value.string h.f2) from rfl)
      have q3_1 := (blk_cell hS_ 3).trans (show _ = some (Value.int .i64 h.f3) from rfl)
      have q4_1 := (blk_cell hS_ 4).trans (show _ = some (Value.int .i64 h.f4) from rfl)
      have q5_1 := (blk_cell hS_ 5).trans (show _ = some (Value.int .i64 h.f5) from rfl)
      have q6_1 := (blk_cell hS_ 6).trans (show _ = some (Value.int .i64 h.f6) from rfl)
      have q7_1 := (blk_cell hS_ 7).trans (show _ = some (Value.int .i64 h.f7) from rfl)
      have q8_1 := (blk_cell hS_ 8).trans (show _ = some (Value.int .u8 h.f8) from rfl)
      have q9_1 := (blk_cell hS_ 9).trans (show _ = some (Value.int .i64 h.f9) from rfl)
      have q10_1 := (blk_cell hS_ 10).trans (show _ = some (Value.int .i64 h.f10) from rfl)
      go_simp
      with_reducible rfl
    rotate_left
    · aput
      rfl
    refine pure_ (i := 7) (N := some 13) (v := ?_) (a' := ?_) #[true, true, true, true, false, true, true, true, false, false, false, false, false, false, false, false, false, false, false, false] rfl rfl (by kernel_rfl) (fun _ _ _ h => h) (Or.inl ⟨by rfl, ?_⟩) ?_ ?_
    rotate_left
    · intro w'
      go_simp
      with_reducible rfl
    rotate_left
    · aput
      rfl
    refine take_ (i := 8) (N := some 14) (v := ?_) (a' := ?_) #[true, true, true, true, false, true, true, true, true, false, false, false, false, false, false, false, false, false, false, false] rfl rfl (by kernel_rfl) (fun _ _ _ h => h) (Or.inl ⟨by rfl, ?_⟩) hHeld ?_ ?_
    rotate_left
    · intro w' hS_
      have q0_1 := (blk_cell hS_ 0).trans (show _ = some (Value.string h.f0) from rfl)
      have q1_1 := (blk_cell hS_ 1).trans (show _ = some (Value.string h.f1) from rfl)
      have q2_1 := (blk_cell hS_ 2).trans (show _ = some (Value.string h.f2) from rfl)
      have q3_1 := (blk_cell hS_ 3).trans (show _ = some (Value.int .i64 h.f3) from rfl)
      have q4_1 := (blk_cell hS_ 4).trans (show _ = some (Value.int .i64 h.f4) from rfl)
      have q5_1 := (blk_cell hS_ 5).trans (show _ = some (Value.int .i64 h.f5) from rfl)
      have q6_1 := (blk_cell hS_ 6).trans (show _ = some (Value.int .i64 h.f6) from rfl)
      have q7_1 := (blk_cell hS_ 7).trans (show _ = some (Value.int .i64 h.f7) from rfl)
      have q8_1 := (blk_cell hS_ 8).trans (show _ = some (Value.int .u8 h.f8) from rfl)
      have q9_1 := (blk_cell hS_ 9).trans (show _ = some (Value.int .i64 h.f9) from rfl)
      have q10_1 := (blk_cell hS_ 10).trans (show _ = some (Value.int .i64 h.f10) from rfl)
      go_simp
      with_reducible rfl
    rotate_left
    · aput
      rfl
    refine pure_ (i := 9) (N := some 15) (v := ?_) (a' := ?_) #[true, true, true, true, false, true, true, true, true, true, false, false, false, false, false, false, false, false, false, false] rfl rfl (by kernel_rfl) (fun _ _ _ h => h) (Or.inl ⟨by rfl, ?_⟩) ?_ ?_
    rotate_left
    · intro w'
      go_simp
      with_reducible rfl
    rotate_left
    · aput
      rfl
    refine take_ (i := 10) (N := some 16) (v := ?_) (a' := ?_) #[true, true, true, true, false, true, true, true, true, true, true, false, false, false, false, false, false, false, false, false] rfl rfl (by kernel_rfl) (fun _ _ _ h => h) (Or.inl ⟨by rfl, ?_⟩) hHeld ?_ ?_
    rotate_left
    · intro w' hS_
      have q0_1 := (blk_cell hS_ 0).trans (show _ = some (Value.string h.f0) from rfl)
      have q1_1 := (blk_cell hS_ 1).trans (show _ = some (Value.string h.f1) from rfl)
      have q2_1 := (blk_cell hS_ 2).trans (show _ = some (Value.string h.f2) from rfl)
      have q3_1 := (blk_cell hS_ 3).trans (show _ = some (Value.int .i64 h.f3) from rfl)
      have q4_1 := (blk_cell hS_ 4).trans (show _ = some (Value.int .i64 h.f4) from rfl)
      have q5_1 := (blk_cell hS_ 5).trans (show _ = some (Value.int .i64 h.f5) from rfl)
      have q6_1 := (blk_cell hS_ 6).trans (show _ = some (Value.int .i64 h.f6) from rfl)
      have q7_1 := (blk_cell hS_ 7).trans (show _ = some (Value.int .i64 h.f7) from rfl)
      have q8_1 := (blk_cell hS_ 8).trans (show _ = some (Value.int .u8 h.f8) from rfl)
      have q9_1 := (blk_cell hS_ 9).trans (show _ = some (Value.int .i64 h.f9) from rfl)
      have q10_1 := (blk_cell hS_ 10).trans (show _ = some (Value.int .i64 h.f10) from rfl)
      go_simp
      with_reducible rfl
    rotate_left
    · aput
      rfl
    refine pure_ (i := 11) (N := some 17) (v := ?_) (a' := ?_) #[true, true, true, true, false, true, true, true, true, true, true, true, false, false, false, false, false, false, false, false] rfl rfl (by kernel_rfl) (fun _ _ _ h => h) (Or.inl ⟨by rfl, ?_⟩) ?_ ?_
    rotate_left
    · intro w'
      go_simp
      with_reducible rfl
    rotate_left
    · aput
      rfl
    refine take_ (i := 12) (N := some 18) (v := ?_) (a' := ?_) #[true, true, true, true, false, true, true, true, true, true, true, true, true, false, false, false, false, false, false, false] rfl rfl (by kernel_rfl) (fun _ _ _ h => h) (Or.inl ⟨by rfl, ?_⟩) hHeld ?_ ?_
    rotate_left
    · intro w' hS_
      have q0_1 := (blk_cell hS_ 0).trans (show _ = some (Value.string h.f0) from rfl)
      have q1_1 := (blk_cell hS_ 1).trans (show _ = some (Value.string h.f1) from rfl)
      have q2_1 := (blk_cell hS_ 2).trans (show _ = some (Value.string h.f2) from rfl)
      have q3_1 := (blk_cell hS_ 3).trans (show _ = some (Value.int .i64 h.f3) from rfl)
      have q4_1 := (blk_cell hS_ 4).trans (show _ = some (Value.int .i64 h.f4) from rfl)
      have q5_1 := (blk_cell hS_ 5).trans (show _ = some (Value.int .i64 h.f5) from rfl)
      have q6_1 := (blk_cell hS_ 6).trans (show _ = some (Value.int .i64 h.f6) from rfl)
      have q7_1 := (blk_cell hS_ 7).trans (show _ = some (Value.int .i64 h.f7) from rfl)
      have q8_1 := (blk_cell hS_ 8).trans (show _ = some (Value.int .u8 h.f8) from rfl)
      have q9_1 := (blk_cell hS_ 9).trans (show _ = some (Value.int .i64 h.f9) from rfl)
      have q10_1 := (blk_cell hS_ 10).trans (show _ = some (Value.int .i64 h.f10) from rfl)
      go_simp
      with_reducible rfl
    rotate_left
    · aput
      rfl
    refine pure_ (i := 13) (N := some 19) (v := ?_) (a' := ?_) #[true, true, true, true, false, true, true, true, true, true, true, true, true, true, false, false, false, false, false, false] rfl rfl (by kernel_rfl) (fun _ _ _ h => h) (Or.inl ⟨by rfl, ?_⟩) ?_ ?_
    rotate_left
    · intro w'
      go_simp
      with_reducible rfl
    rotate_left
    · aput
      rfl
    refine take_ (i := 14) (N := some 20) (v := ?_) (a' := ?_) #[true, true, true, true, false, true, true, true, true, true, true, true, true, true, true, false, false, false, false, false] rfl rfl (by kernel_rfl) (fun _ _ _ h => h) (Or.inl ⟨by rfl, ?_⟩) hHeld ?_ ?_
    rotate_left
    · intro w' hS_
      have q0_1 := (blk_cell hS_ 0).trans (show _ = some (Value.string h.f0) from rfl)
      have q1_1 := (blk_cell hS_ 1).trans (show _ = some (Value.string h.f1) from rfl)
      have q2_1 := (blk_cell hS_ 2).trans (show _ = some (Value.string h.f2) from rfl)
      have q3_1 := (blk_cell hS_ 3).trans (show _ = some (Value.int .i64 h.f3) from rfl)
      have q4_1 := (blk_cell hS_ 4).trans (show _ = some (Value.int .i64 h.f4) from rfl)
      have q5_1 := (blk_cell hS_ 5).trans (show _ = some (Value.int .i64 h.f5) from rfl)
      have q6_1 := (blk_cell hS_ 6).trans (show _ = some (Value.int .i64 h.f6) from rfl)
      have q7_1 := (blk_cell hS_ 7).trans (show _ = some (Value.int .i64 h.f7) from rfl)
      have q8_1 := (blk_cell hS_ 8).trans (show _ = some (Value.int .u8 h.f8) from rfl)
      have q9_1 := (blk_cell hS_ 9).trans (show _ = some (Value.int .i64 h.f9) from rfl)
      have q10_1 := (blk_cell hS_ 10).trans (show _ = some (Value.int .i64 h.f10) from rfl)
      go_simp
      with_reducible rfl
    rotate_left
    · aput
      rfl
    refine pure_ (i := 15) (N := some 21) (v := ?_) (a' := ?_) #[true, true, true, true, false, true, true, true, true, true, true, true, true, true, true, true, false, false, false, false] rfl rfl (by kernel_rfl) (fun _ _ _ h => h) (Or.inl ⟨by rfl, ?_⟩) ?_ ?_
    rotate_left
    · intro w'
      go_simp
      with_reducible rfl
    rotate_left
    · aput
      rfl
    refine take_ (i := 16) (N := some 22) (v := ?_) (a' := ?_) #[true, true, true, true, false, true, true, true, true, true, true, true, true, true, true, true, true, false, false, false] rfl rfl (by kernel_rfl) (fun _ _ _ h => h) (Or.inl ⟨by rfl, ?_⟩) hHeld ?_ ?_
    rotate_left
    · intro w' hS_
      have q0_1 := (blk_cell hS_ 0).trans (show _ = some (Value.string h.f0) from rfl)
      have q1_1 := (blk_cell hS_ 1).trans (show _ = some (Value.string h.f1) from rfl)
      have q2_1 := (blk_cell hS_ 2).trans (show _ = some (Value.string h.f2) from rfl)
      have q3_1 := (blk_cell hS_ 3).trans (show _ = some (Value.int .i64 h.f3) from rfl)
      have q4_1 := (blk_cell hS_ 4).trans (show _ = some (Value.int .i64 h.f4) from rfl)
      have q5_1 := (blk_cell hS_ 5).trans (show _ = some (Value.int .i64 h.f5) from rfl)
      have q6_1 := (blk_cell hS_ 6).trans (show _ = some (Value.int .i64 h.f6) from rfl)
      have q7_1 := (blk_cell hS_ 7).trans (show _ = some (Value.int .i64 h.f7) from rfl)
      have q8_1 := (blk_cell hS_ 8).trans (show _ = some (Value.int .u8 h.f8) from rfl)
      have q9_1 := (blk_cell hS_ 9).trans (show _ = some (Value.int .i64 h.f9) from rfl)
      have q10_1 := (blk_cell hS_ 10).trans (show _ = some (Value.int .i64 h.f10) from rfl)
      go_simp
      with_reducible rfl
    rotate_left
    · aput
      rfl
    refine two_ (i := 4) (Ni := some 10) (j := 18) (Nj := some 4) #[true, true, true, true, true, true, true, true, true, true, true, true, true, true, true, true, true, false, false, false] #[true, true, true, true, false, true, true, true, true, true, true, true, true, true, true, true, true, false, true, false] rfl rfl rfl rfl (by kernel_rfl) (by decide) (by decide) (fun K hK => ?_) (fun K hK => ?_)
    · skip
      have HGd := Aside0.mk (HG.out.step (below_drew (Below.refl W1.heap.size W1)))
      have HHd := Aside0.mk (blk_drew HH.out)
      refine goes_ Tryz.func95 (by kernel_rfl) rfl #[.string h.f1, .string h.f0] (by rfl) rfl rfl (by (try simp only [List.map_toArray, List.map_cons, List.map_nil]); first | done | rfl | (simp only [List.length_drop, List.length_take]; rfl)) ?_
      refine (hjo _).mono ?_
      rintro e_ wq ⟨rfl, hd⟩
      have hb_ := Drawn0.below hd
      have HGq := Aside0.mk (HGd.out.step hb_)
      have HHq := Aside0.mk (blk_below HHd.out hb_)
      clear hd hb_
      refine ⟨_, rfl, ?_⟩
      refine hK.out _ _ HHq.out (fun hHeld => ?_)
      clear hK K
      refine norm_ (a' := ?_) ?_ ?_
      rotate_left
      · show Act.put _ (some 10) _ = _
        aput
        rfl
      refine pure_ (i := 17) (N := some 23) (v := ?_) (a' := ?_) #[true, true, true, true, true, true, true, true, true, true, true, true, true, true, true, true, true, true, false, false] rfl rfl (by kernel_rfl) (fun _ _ _ h => h) (Or.inl ⟨by rfl, ?_⟩) ?_ ?_
      rotate_left
      · intro w'
        go_simp
        with_reducible rfl
      rotate_left
      · aput
        rfl
      refine one_ (i := 18) (N := some 4) #[true, true, true, true, true, true, true, true, true, true, true, true, true, true, true, true, true, true, true, false] rfl rfl (by kernel_rfl) (by decide) (fun K hK => ?_)
      rw [if_pos (by rfl)]
      go_simp
      have hb_ : Below wq.heap.size wq (wq.alloc (.cells #[.string ⟨#[]⟩, .string ⟨#[]⟩, .int .u8 0, .int .i64 0, .int .i64 0, .int .i64 0, .int .i64 0, .string ⟨#[]⟩] 41)) := below_alloc (Below.refl _ _) (.cells #[.string ⟨#[]⟩, .string ⟨#[]⟩, .int .u8 0, .int .i64 0, .int .i64 0, .int .i64 0, .int .i64 0, .string ⟨#[]⟩] 41)
      have HGg := Aside0.mk (HGq.out.step hb_)
      have HHg := Aside0.mk (blk_below HHq.out hb_)
      have HZg := Aside0.mk (heap_alloc_new wq (.cells #[.string ⟨#[]⟩, .string ⟨#[]⟩, .int .u8 0, .int .i64 0, .int .i64 0, .int .i64 0, .int .i64 0, .string ⟨#[]⟩] 41))
      clear hb_
      have HLg := Aside0.mk (show w0.heap.size ≤ wq.heap.size from HGq.out.lt2)
      refine hK.out _ _ HHg.out (fun hHeld => ?_)
      clear hK K
      obtain ⟨Wg, hW_⟩ : ∃ W', (wq.alloc (.cells #[.string ⟨#[]⟩, .string ⟨#[]⟩, .int .u8 0, .int .i64 0, .int .i64 0, .int .i64 0, .int .i64 0, .string ⟨#[]⟩] 41)) = W' := ⟨_, rfl⟩
      rw [hW_] at HGg HHg HZg hHeld ⊢
      clear hW_
      have z0 := (blk_cell HZg.out 0).trans rfl
      have y0 := blk_frozen HZg.out 0
      clear z0 y0
      have z0 := (blk_cell HZg.out 0).trans (show _ = some (Value.string ⟨#[]⟩) from rfl)
      have z1 := (blk_cell HZg.out 1).trans (show _ = some (Value.string ⟨#[]⟩) from rfl)
      have z2 := (blk_cell HZg.out 2).trans (show _ = some (Value.int .u8 0) from rfl)
      have z3 := (blk_cell HZg.out 3).trans (show _ = some (Value.int .i64 0) from rfl)
      have z4 := (blk_cell HZg.out 4).trans (show _ = some (Value.int .i64 0) from rfl)
      have z5 := (blk_cell HZg.out 5).trans (show _ = some (Value.int .i64 0) from rfl)
      have z6 := (blk_cell HZg.out 6).trans (show _ = some (Value.int .i64 0) from rfl)
      have z7 := (blk_cell HZg.out 7).trans (show _ = some (Value.string ⟨#[]⟩) from rfl)
      have y0 := blk_frozen HZg.out 0
      have y1 := blk_frozen HZg.out 1
      have y2 := blk_frozen HZg.out 2
      have y3 := blk_frozen HZg.out 3
      have y4 := blk_frozen HZg.out 4
      have y5 := blk_frozen HZg.out 5
      have y6 := blk_frozen HZg.out 6
      have y7 := blk_frozen HZg.out 7
      refine last_ (i := 19) (N := none) #[true, true, true, true, true, true, true, true, true, true, true, true, true, true, true, true, true, true, true, true] rfl rfl (by kernel_rfl) (by decide) (fun K hK => ?_)
      rw [if_pos (by rfl)]
      go_simp
      refine hK.out _ _ ?_
      clear hK K
      refine done_ (by kernel_rfl) ?_
      have HN := Aside0.mk (NodeAt.store (s := s) (l := l) (A := A) (c := c) (h := h) (n := nd00) ⟨HGg.out, HHg.out, HZg.out, HLE.out, HLg.out⟩ ⟨pjoinB h.f1 h.f0, h.f2, h.f8, h.f3, h.f4, h.f5, h.f7, ⟨#[]⟩⟩)
      go_wp2_with (fail)
      go_meet
      case rel => exact ⟨_, rfl, HN⟩
    · skip
      rw [if_pos (by rfl)]
      go_simp
      have hb_ : Below W1.heap.size W1 (W1.alloc (.cells #[.string ⟨#[]⟩, .string ⟨#[]⟩, .int .u8 0, .int .i64 0, .int .i64 0, .int .i64 0, .int .i64 0, .string ⟨#[]⟩] 41)).drew := below_drew (below_alloc (Below.refl _ _) (.cells #[.string ⟨#[]⟩, .string ⟨#[]⟩, .int .u8 0, .int .i64 0, .int .i64 0, .int .i64 0, .int .i64 0, .string ⟨#[]⟩] 41))
      have HGa := Aside0.mk (HG.out.step hb_)
      have HHa := Aside0.mk (blk_below HH.out hb_)
      have HZa := Aside0.mk (blk_drew (heap_alloc_new W1 (.cells #[.string ⟨#[]⟩, .string ⟨#[]⟩, .int .u8 0, .int .i64 0, .int .i64 0, .int .i64 0, .int .i64 0, .string ⟨#[]⟩] 41)))
      clear hb_
      have HLa := Aside0.mk (show w0.heap.size ≤ W1.heap.size from HG.out.lt2)
      refine hK.out _ _ HHa.out (fun hHeld => ?_)
      clear hK K
      obtain ⟨Wa, hW_⟩ : ∃ W', (W1.alloc (.cells #[.string ⟨#[]⟩, .string ⟨#[]⟩, .int .u8 0, .int .i64 0, .int .i64 0, .int .i64 0, .int .i64 0, .string ⟨#[]⟩] 41)).drew = W' := ⟨_, rfl⟩
      rw [hW_] at HGa HHa HZa hHeld ⊢
      clear hW_
      refine one_ (i := 4) (N := some 10) #[true, true, true, true, true, true, true, true, true, true, true, true, true, true, true, true, true, false, true, false] rfl rfl (by kernel_rfl) (by decide) (fun K hK => ?_)
      refine goes_ Tryz.func95 (by kernel_rfl) rfl #[.string h.f1, .string h.f0] (by rfl) rfl rfl (by (try simp only [List.map_toArray, List.map_cons, List.map_nil]); first | done | rfl | (simp only [List.length_drop, List.length_take]; rfl)) ?_
      refine (hjo _).mono ?_
      rintro e_ wq ⟨rfl, hd⟩
      have hb_ := Drawn0.below hd
      have HGq := Aside0.mk (HGa.out.step hb_)
      have HHq := Aside0.mk (blk_below HHa.out hb_)
      have HZq := Aside0.mk (blk_below HZa.out hb_)
      clear hd hb_
      refine ⟨_, rfl, ?_⟩
      refine hK.out _ _ HHq.out (fun hHeld => ?_)
      clear hK K
      refine norm_ (a' := ?_) ?_ ?_
      rotate_left
      · show Act.put _ (some 10) _ = _
        aput
        rfl
      refine pure_ (i := 17) (N := some 23) (v := ?_) (a' := ?_) #[true, true, true, true, true, true, true, true, true, true, true, true, true, true, true, true, true, true, true, false] rfl rfl (by kernel_rfl) (fun _ _ _ h => h) (Or.inl ⟨by rfl, ?_⟩) ?_ ?_
      rotate_left
      · intro w'
        go_simp
        with_reducible rfl
      rotate_left
      · aput
        rfl
      have z0 := (blk_cell HZq.out 0).trans rfl
      have y0 := blk_frozen HZq.out 0
      clear z0 y0
      have z0 := (blk_cell HZq.out 0).trans (show _ = some (Value.string ⟨#[]⟩) from rfl)
      have z1 := (blk_cell HZq.out 1).trans (show _ = some (Value.string ⟨#[]⟩) from rfl)
      have z2 := (blk_cell HZq.out 2).trans (show _ = some (Value.int .u8 0) from rfl)
      have z3 := (blk_cell HZq.out 3).trans (show _ = some (Value.int .i64 0) from rfl)
      have z4 := (blk_cell HZq.out 4).trans (show _ = some (Value.int .i64 0) from rfl)
      have z5 := (blk_cell HZq.out 5).trans (show _ = some (Value.int .i64 0) from rfl)
      have z6 := (blk_cell HZq.out 6).trans (show _ = some (Value.int .i64 0) from rfl)
      have z7 := (blk_cell HZq.out 7).trans (show _ = some (Value.string ⟨#[]⟩) from rfl)
      have y0 := blk_frozen HZq.out 0
      have y1 := blk_frozen HZq.out 1
      have y2 := blk_frozen HZq.out 2
      have y3 := blk_frozen HZq.out 3
      have y4 := blk_frozen HZq.out 4
      have y5 := blk_frozen HZq.out 5
      have y6 := blk_frozen HZq.out 6
      have y7 := blk_frozen HZq.out 7
      refine last_ (i := 19) (N := none) #[true, true, true, true, true, true, true, true, true, true, true, true, true, true, true, true, true, true, true, true] rfl rfl (by kernel_rfl) (by decide) (fun K hK => ?_)
      rw [if_pos (by rfl)]
      go_simp
      refine hK.out _ _ ?_
      clear hK K
      refine done_ (by kernel_rfl) ?_
      have HN := Aside0.mk (NodeAt.store (s := s) (l := l) (A := A) (c := c) (h := h) (n := nd00) ⟨HGq.out, HHq.out, HZq.out, HLE.out, HLa.out⟩ ⟨pjoinB h.f1 h.f0, h.f2, h.f8, h.f3, h.f4, h.f5, h.f7, ⟨#[]⟩⟩)
      go_wp2_with (fail)
      go_meet
      case rel => exact ⟨_, rfl, HN⟩
  case rest =>
  obtain ⟨g, rfl, HN⟩ := hcut
  clear HG HH hjo
  have z12 := (HN.out.pat.cell 12).trans (show _ = some (Value.string s.f5) from rfl)
  obtain ⟨N, hN⟩ : ∃ N, noT s.f5 = N := ⟨_, rfl⟩
  have hN2 : (s.f5.toList == ([] : List UInt8)) = N := hN
  have HNN := Aside0.mk hN
  clear hN
  go_upto_if 29 with (fail)
  go_cut [4] (fun v4 wd => v4 = .pointer (some ⟨g, 0, none⟩) ∧ Aside0 ((noT s.f5 || (noT h.f1 && beginsB h.f0 s.f5)) = true) ∧ Aside0 (NodeAt w0 b s l A c hb g h ⟨(if noT s.f5 = true then pjoinB h.f1 h.f0 else s.f5), h.f2, h.f8, h.f3, h.f4, h.f5, h.f7, ⟨#[]⟩⟩ wd))
  case first =>
    cases N with
    | true =>
      go_wp2_with (fail)
      go_meet
      case rel => exact ⟨rfl, ⟨by rw [HNN.out]; rfl⟩, by rw [HNN.out]; exact HN⟩
    | false =>
      have q0 := (blk_cell HN.out.hd 0).trans (show _ = some (Value.string h.f0) from rfl)
      have q1 := (blk_cell HN.out.hd 1).trans (show _ = some (Value.string h.f1) from rfl)
      obtain ⟨F, hF⟩ : ∃ F, noT h.f1 = F := ⟨_, rfl⟩
      have hF2 : (h.f1.toList == ([] : List UInt8)) = F := hF
      have hbe := fun W => begins.at_ h.f0 s.f5 W
      go_upto_region 3 with (fail)
      obtain ⟨B1, hB1⟩ : ∃ B1, beginsB h.f0 s.f5 = B1 := ⟨_, rfl⟩
      rw [hB1] at hbe
      have HND := Aside0.mk (HN.out.step (below_drew (Below.refl _ _)))
      cases F with
      | false =>
        refine start_ (n := 14) (S := fun w' => w'.cell? ⟨hb, 0, none⟩ = some (.string h.f0) ∧ w'.cell? ⟨hb, 1, none⟩ = some (.string h.f1) ∧ w'.cell? ⟨b, 12, none⟩ = some (.string s.f5)) (ds := []) #[false, false, false, false, false, false, false, false, false, false, false, false, false, false] (by kernel_rfl) rfl rfl ⟨q0, q1, z12⟩ (fun hHeld => ?_)
        refine pure_ (i := 0) (N := some 30) (v := ?_) (a' := ?_) #[true, false, false, false, false, false, false, false, false, false, false, false, false, false] rfl rfl (by kernel_rfl) (fun _ _ _ h => h) (Or.inl ⟨by rfl, ?_⟩) ?_ ?_
        rotate_left
        · intro w'
          go_simp
          with_reducible rfl
        rotate_left
        · aput
          rfl
        refine take_ (i := 1) (N := some 31) (v := ?_) (a' := ?_) #[true, true, false, false, false, false, false, false, false, false, false, false, false, false] rfl rfl (by kernel_rfl) (fun _ _ _ h => h) (Or.inl ⟨by rfl, ?_⟩) hHeld ?_ ?_
        rotate_left
        · rintro w' ⟨s0, s1, s2⟩
          go_simp
          with_reducible rfl
        rotate_left
        · aput
          rfl
        refine pure_ (i := 2) (N := some 32) (v := ?_) (a' := ?_) #[true, true, true, false, false, false, false, false, false, false, false, false, false, false] rfl rfl (by kernel_rfl) (fun _ _ _ h => h) (Or.inl ⟨by rfl, ?_⟩) ?_ ?_
        rotate_left
        · intro w'
          go_simp
          with_reducible rfl
        rotate_left
        · aput
          rfl
        refine pure_ (i := 3) (N := some 33) (v := ?_) (a' := ?_) #[true, true, true, true, false, false, false, false, false, false, false, false, false, false] rfl rfl (by kernel_rfl) (fun _ _ _ h => h) (Or.inl ⟨by rfl, ?_⟩) ?_ ?_
        rotate_left
        · intro w'
          go_simp
          with_reducible rfl
        rotate_left
        · aput
          rfl
        refine pure_ (i := 4) (N := some 34) (v := undef) (a' := ?_) #[true, true, true, true, true, false, false, false, false, false, false, false, false, false] rfl rfl (by kernel_rfl) (fun _ _ _ h => h) (Or.inr ⟨by rfl, rfl⟩) ?_ ?_
        rotate_left
        · aput
          rfl
        refine pure_ (i := 5) (N := some 35) (v := undef) (a' := ?_) #[true, true, true, true, true, true, false, false, false, false, false, false, false, false] rfl rfl (by kernel_rfl) (fun _ _ _ h => h) (Or.inr ⟨by rfl, rfl⟩) ?_ ?_
        rotate_left
        · aput
          rfl
        refine pure_ (i := 6) (N := some 36) (v := undef) (a' := ?_) #[true, true, true, true, true, true, true, false, false, false, false, false, false, false] rfl rfl (by kernel_rfl) (fun _ _ _ h => h) (Or.inr ⟨by rfl, rfl⟩) ?_ ?_
        rotate_left
        · aput
          rfl
        refine pure_ (i := 7) (N := some 37) (v := undef) (a' := ?_) #[true, true, true, true, true, true, true, true, false, false, false, false, false, false] rfl rfl (by kernel_rfl) (fun _ _ _ h => h) (Or.inr ⟨by rfl, rfl⟩) ?_ ?_
        rotate_left
        · aput
          rfl
        refine pure_ (i := 8) (N := some 38) (v := undef) (a' := ?_) #[true, true, true, true, true, true, true, true, true, false, false, false, false, false] rfl rfl (by kernel_rfl) (fun _ _ _ h => h) (Or.inr ⟨by rfl, rfl⟩) ?_ ?_
        rotate_left
        · aput
          rfl
        refine pure_ (i := 9) (N := some 39) (v := undef) (a' := ?_) #[true, true, true, true, true, true, true, true, true, true, false, false, false, false] rfl rfl (by kernel_rfl) (fun _ _ _ h => h) (Or.inr ⟨by rfl, rfl⟩) ?_ ?_
        rotate_left
        · aput
          rfl
        refine pure_ (i := 10) (N := some 40) (v := undef) (a' := ?_) #[true, true, true, true, true, true, true, true, true, true, true, false, false, false] rfl rfl (by kernel_rfl) (fun _ _ _ h => h) (Or.inr ⟨by rfl, rfl⟩) ?_ ?_
        rotate_left
        · aput
          rfl
        refine pure_ (i := 11) (N := some 41) (v := undef) (a' := ?_) #[true, true, true, true, true, true, true, true, true, true, true, true, false, false] rfl rfl (by kernel_rfl) (fun _ _ _ h => h) (Or.inr ⟨by rfl, rfl⟩) ?_ ?_
        rotate_left
        · aput
          rfl
        refine pure_ (i := 12) (N := some 42) (v := ?_) (a' := ?_) #[true, true, true, true, true, true, true, true, true, true, true, true, true, false] rfl rfl (by kernel_rfl) (fun _ _ _ h => h) (Or.inl ⟨by rfl, ?_⟩) ?_ ?_
        rotate_left
        · intro w'
          go_simp
          with_reducible rfl
        rotate_left
        · aput
          rfl
        refine one_ (i := 13) (N := some 43) #[true, true, true, true, true, true, true, true, true, true, true, true, true, true] rfl rfl (by kernel_rfl) (by decide) (fun K hK => ?_)
        rw [if_pos (by rfl)]
        go_simp
        refine (must_no 2 _).mono ?_
        rintro e_ w_ ⟨rfl, rfl⟩
        have hr := HRES.out
        unfold nodeP at hr
        rw [HNN.out, hF, Bool.false_or, Bool.false_and, if_neg (by decide)] at hr
        subst hr
        exact ⟨rfl, PDone.err HND.out.pat.turn⟩
      | true =>
        cases B1 with
        | false =>
          refine start_ (n := 14) (S := fun w' => w'.cell? ⟨hb, 0, none⟩ = some (.string h.f0) ∧ w'.cell? ⟨hb, 1, none⟩ = some (.string h.f1) ∧ w'.cell? ⟨b, 12, none⟩ = some (.string s.f5)) (ds := []) #[false, false, false, false, false, false, false, false, false, false, false, false, false, false] (by kernel_rfl) rfl rfl ⟨q0, q1, z12⟩ (fun hHeld => ?_)
          refine pure_ (i := 0) (N := some 30) (v := ?_) (a' := ?_) #[true, false, false, false, false, false, false, false, false, false, false, false, false, false] rfl rfl (by kernel_rfl) (fun _ _ _ h => h) (Or.inl ⟨by rfl, ?_⟩) ?_ ?_
          rotate_left
          · intro w'
            go_simp
            with_reducible rfl
          rotate_left
          · aput
            rfl
          refine take_ (i := 1) (N := some 31) (v := ?_) (a' := ?_) #[true, true, false, false, false, false, false, false, false, false, false, false, false, false] rfl rfl (by kernel_rfl) (fun _ _ _ h => h) (Or.inl ⟨by rfl, ?_⟩) hHeld ?_ ?_
          rotate_left
          · rintro w' ⟨s0, s1, s2⟩
            go_simp
            with_reducible rfl
          rotate_left
          · aput
            rfl
          refine pure_ (i := 2) (N := some 32) (v := ?_) (a' := ?_) #[true, true, true, false, false, false, false, false, false, false, false, false, false, false] rfl rfl (by kernel_rfl) (fun _ _ _ h => h) (Or.inl ⟨by rfl, ?_⟩) ?_ ?_
          rotate_left
          · intro w'
            go_simp
            with_reducible rfl
          rotate_left
          · aput
            rfl
          refine pure_ (i := 3) (N := some 33) (v := ?_) (a' := ?_) #[true, true, true, true, false, false, false, false, false, false, false, false, false, false] rfl rfl (by kernel_rfl) (fun _ _ _ h => h) (Or.inl ⟨by rfl, ?_⟩) ?_ ?_
          rotate_left
          · intro w'
            go_simp
            with_reducible rfl
          rotate_left
          · aput
            rfl
          refine pure_ (i := 4) (N := some 34) (v := ?_) (a' := ?_) #[true, true, true, true, true, false, false, false, false, false, false, false, false, false] rfl rfl (by kernel_rfl) (fun _ _ _ h => h) (Or.inl ⟨by rfl, ?_⟩) ?_ ?_
          rotate_left
          · intro w'
            go_simp
            with_reducible rfl
          rotate_left
          · aput
            rfl
          refine take_ (i := 5) (N := some 35) (v := ?_) (a' := ?_) #[true, true, true, true, true, true, false, false, false, false, false, false, false, false] rfl rfl (by kernel_rfl) (fun _ _ _ h => h) (Or.inl ⟨by rfl, ?_⟩) hHeld ?_ ?_
          rotate_left
          · rintro w' ⟨s0, s1, s2⟩
            go_simp
            with_reducible rfl
          rotate_left
          · aput
            rfl
          refine pure_ (i := 6) (N := some 36) (v := ?_) (a' := ?_) #[true, true, true, true, true, true, true, false, false, false, false, false, false, false] rfl rfl (by kernel_rfl) (fun _ _ _ h => h) (Or.inl ⟨by rfl, ?_⟩) ?_ ?_
          rotate_left
          · intro w'
            go_simp
            with_reducible rfl
          rotate_left
          · aput
            rfl
          refine pure_ (i := 7) (N := some 37) (v := ?_) (a' := ?_) #[true, true, true, true, true, true, true, true, false, false, false, false, false, false] rfl rfl (by kernel_rfl) (fun _ _ _ h => h) (Or.inl ⟨by rfl, ?_⟩) ?_ ?_
          rotate_left
          · intro w'
            go_simp
            with_reducible rfl
          rotate_left
          · aput
            rfl
          refine pure_ (i := 8) (N := some 38) (v := ?_) (a' := ?_) #[true, true, true, true, true, true, true, true, true, false, false, false, false, false] rfl rfl (by kernel_rfl) (fun _ _ _ h => h) (Or.inl ⟨by rfl, ?_⟩) ?_ ?_
          rotate_left
          · intro w'
            go_simp
            with_reducible rfl
          rotate_left
          · aput
            rfl
          refine pure_ (i := 9) (N := some 39) (v := ?_) (a' := ?_) #[true, true, true, true, true, true, true, true, true, true, false, false, false, false] rfl rfl (by kernel_rfl) (fun _ _ _ h => h) (Or.inl ⟨by rfl, ?_⟩) ?_ ?_
          rotate_left
          · intro w'
            go_simp
            with_reducible rfl
          rotate_left
          · aput
            rfl
          refine take_ (i := 10) (N := some 40) (v := ?_) (a' := ?_) #[true, true, true, true, true, true, true, true, true, true, true, false, false, false] rfl rfl (by kernel_rfl) (fun _ _ _ h => h) (Or.inl ⟨by rfl, ?_⟩) hHeld ?_ ?_
          rotate_left
          · rintro w' ⟨s0, s1, s2⟩
            go_simp
            with_reducible rfl
          rotate_left
          · aput
            rfl
          refine one_ (i := 11) (N := some 41) #[true, true, true, true, true, true, true, true, true, true, true, true, false, false] rfl rfl (by kernel_rfl) (by decide) (fun K hK => ?_)
          refine goes_ Tryz.func96 (by kernel_rfl) rfl #[.string h.f0, .string s.f5] (by rfl) rfl rfl (by (try simp only [List.map_toArray, List.map_cons, List.map_nil]); first | done | rfl | (simp only [List.length_drop, List.length_take]; rfl)) ?_
          refine (hbe _).mono ?_
          rintro e_ wq ⟨rfl, rfl⟩
          refine ⟨_, rfl, ?_⟩
          refine hK.out _ _ hHeld (fun hHeld => ?_)
          clear hK K
          refine norm_ (a' := ?_) ?_ ?_
          rotate_left
          · show Act.put _ (some 41) _ = _
            aput
            rfl
          refine pure_ (i := 12) (N := some 42) (v := ?_) (a' := ?_) #[true, true, true, true, true, true, true, true, true, true, true, true, true, false] rfl rfl (by kernel_rfl) (fun _ _ _ h => h) (Or.inl ⟨by rfl, ?_⟩) ?_ ?_
          rotate_left
          · intro w'
            go_simp
            with_reducible rfl
          rotate_left
          · aput
            rfl
          refine one_ (i := 13) (N := some 43) #[true, true, true, true, true, true, true, true, true, true, true, true, true, true] rfl rfl (by kernel_rfl) (by decide) (fun K hK => ?_)
          rw [if_pos (by rfl)]
          go_simp
          refine (must_no 2 _).mono ?_
          rintro e_ w_ ⟨rfl, rfl⟩
          have hr := HRES.out
          unfold nodeP at hr
          rw [HNN.out, hF, hB1, Bool.false_or, Bool.true_and, if_neg (by decide)] at hr
          subst hr
          exact ⟨rfl, PDone.err HND.out.pat.turn⟩
        | true =>
          refine start_ (n := 14) (S := fun w' => w'.cell? ⟨hb, 0, none⟩ = some (.string h.f0) ∧ w'.cell? ⟨hb, 1, none⟩ = some (.string h.f1) ∧ w'.cell? ⟨b, 12, none⟩ = some (.string s.f5)) (ds := []) #[false, false, false, false, false, false, false, false, false, false, false, false, false, false] (by kernel_rfl) rfl rfl ⟨q0, q1, z12⟩ (fun hHeld => ?_)
          refine pure_ (i := 0) (N := some 30) (v := ?_) (a' := ?_) #[true, false, false, false, false, false, false, false, false, false, false, false, false, false] rfl rfl (by kernel_rfl) (fun _ _ _ h => h) (Or.inl ⟨by rfl, ?_⟩) ?_ ?_
          rotate_left
          · intro w'
            go_simp
            with_reducible rfl
          rotate_left
          · aput
            rfl
          refine take_ (i := 1) (N := some 31) (v := ?_) (a' := ?_) #[true, true, false, false, false, false, false, false, false, false, false, false, false, false] rfl rfl (by kernel_rfl) (fun _ _ _ h => h) (Or.inl ⟨by rfl, ?_⟩) hHeld ?_ ?_
          rotate_left
          · rintro w' ⟨s0, s1, s2⟩
            go_simp
            with_reducible rfl
          rotate_left
          · aput
            rfl
          refine pure_ (i := 2) (N := some 32) (v := ?_) (a' := ?_) #[true, true, true, false, false, false, false, false, false, false, false, false, false, false] rfl rfl (by kernel_rfl) (fun _ _ _ h => h) (Or.inl ⟨by rfl, ?_⟩) ?_ ?_
          rotate_left
          · intro w'
            go_simp
            with_reducible rfl
          rotate_left
          · aput
            rfl
          refine pure_ (i := 3) (N := some 33) (v := ?_) (a' := ?_) #[true, true, true, true, false, false, false, false, false, false, false, false, false, false] rfl rfl (by kernel_rfl) (fun _ _ _ h => h) (Or.inl ⟨by rfl, ?_⟩) ?_ ?_
          rotate_left
          · intro w'
            go_simp
            with_reducible rfl
          rotate_left
          · aput
            rfl
          refine pure_ (i := 4) (N := some 34) (v := ?_) (a' := ?_) #[true, true, true, true, true, false, false, false, false, false, false, false, false, false] rfl rfl (by kernel_rfl) (fun _ _ _ h => h) (Or.inl ⟨by rfl, ?_⟩) ?_ ?_
          rotate_left
          · intro w'
            go_simp
            with_reducible rfl
          rotate_left
          · aput
            rfl
          refine take_ (i := 5) (N := some 35) (v := ?_) (a' := ?_) #[true, true, true, true, true, true, false, false, false, false, false, false, false, false] rfl rfl (by kernel_rfl) (fun _ _ _ h => h) (Or.inl ⟨by rfl, ?_⟩) hHeld ?_ ?_
          rotate_left
          · rintro w' ⟨s0, s1, s2⟩
            go_simp
            with_reducible rfl
          rotate_left
          · aput
            rfl
          refine pure_ (i := 6) (N := some 36) (v := ?_) (a' := ?_) #[true, true, true, true, true, true, true, false, false, false, false, false, false, false] rfl rfl (by kernel_rfl) (fun _ _ _ h => h) (Or.inl ⟨by rfl, ?_⟩) ?_ ?_
          rotate_left
          · intro w'
            go_simp
            with_reducible rfl
          rotate_left
          · aput
            rfl
          refine pure_ (i := 7) (N := some 37) (v := ?_) (a' := ?_) #[true, true, true, true, true, true, true, true, false, false, false, false, false, false] rfl rfl (by kernel_rfl) (fun _ _ _ h => h) (Or.inl ⟨by rfl, ?_⟩) ?_ ?_
          rotate_left
          · intro w'
            go_simp
            with_reducible rfl
          rotate_left
          · aput
            rfl
          refine pure_ (i := 8) (N := some 38) (v := ?_) (a' := ?_) #[true, true, true, true, true, true, true, true, true, false, false, false, false, false] rfl rfl (by kernel_rfl) (fun _ _ _ h => h) (Or.inl ⟨by rfl, ?_⟩) ?_ ?_
          rotate_left
          · intro w'
            go_simp
            with_reducible rfl
          rotate_left
          · aput
            rfl
          refine pure_ (i := 9) (N := some 39) (v := ?_) (a' := ?_) #[true, true, true, true, true, true, true, true, true, true, false, false, false, false] rfl rfl (by kernel_rfl) (fun _ _ _ h => h) (Or.inl ⟨by rfl, ?_⟩) ?_ ?_
          rotate_left
          · intro w'
            go_simp
            with_reducible rfl
          rotate_left
          · aput
            rfl
          refine take_ (i := 10) (N := some 40) (v := ?_) (a' := ?_) #[true, true, true, true, true, true, true, true, true, true, true, false, false, false] rfl rfl (by kernel_rfl) (fun _ _ _ h => h) (Or.inl ⟨by rfl, ?_⟩) hHeld ?_ ?_
          rotate_left
          · rintro w' ⟨s0, s1, s2⟩
            go_simp
            with_reducible rfl
          rotate_left
          · aput
            rfl
          refine one_ (i := 11) (N := some 41) #[true, true, true, true, true, true, true, true, true, true, true, true, false, false] rfl rfl (by kernel_rfl) (by decide) (fun K hK => ?_)
          refine goes_ Tryz.func96 (by kernel_rfl) rfl #[.string h.f0, .string s.f5] (by rfl) rfl rfl (by (try simp only [List.map_toArray, List.map_cons, List.map_nil]); first | done | rfl | (simp only [List.length_drop, List.length_take]; rfl)) ?_
          refine (hbe _).mono ?_
          rintro e_ wq ⟨rfl, rfl⟩
          refine ⟨_, rfl, ?_⟩
          refine hK.out _ _ hHeld (fun hHeld => ?_)
          clear hK K
          refine norm_ (a' := ?_) ?_ ?_
          rotate_left
          · show Act.put _ (some 41) _ = _
            aput
            rfl
          refine pure_ (i := 12) (N := some 42) (v := ?_) (a' := ?_) #[true, true, true, true, true, true, true, true, true, true, true, true, true, false] rfl rfl (by kernel_rfl) (fun _ _ _ h => h) (Or.inl ⟨by rfl, ?_⟩) ?_ ?_
          rotate_left
          · intro w'
            go_simp
            with_reducible rfl
          rotate_left
          · aput
            rfl
          refine one_ (i := 13) (N := some 43) #[true, true, true, true, true, true, true, true, true, true, true, true, true, true] rfl rfl (by kernel_rfl) (by decide) (fun K hK => ?_)
          refine goes_ Tryz.func36 (by kernel_rfl) rfl #[.bool true, .int .i64 2] (by rfl) rfl rfl (by (try simp only [List.map_toArray, List.map_cons, List.map_nil]); first | done | rfl | (simp only [List.length_drop, List.length_take]; rfl)) ?_
          refine (must_yes 2 _).mono ?_
          rintro e_ wq ⟨rfl, rfl⟩
          refine ⟨_, rfl, ?_⟩
          refine hK.out _ _ hHeld (fun hHeld => ?_)
          clear hK K
          refine norm_ (a' := ?_) ?_ ?_
          rotate_left
          · show Act.put _ (some 43) _ = _
            aput
            rfl
          refine done_ (by kernel_rfl) ?_
          clear q0 q1 z12
          have z12 := (HND.out.pat.cell 12).trans (show _ = some (Value.string s.f5) from rfl)
          have n0 := (blk_cell HND.out.nd 0).trans (show _ = some (Value.string (pjoinB h.f1 h.f0)) from rfl)
          have y0 := blk_frozen HND.out.nd 0
          go_wp2_with (fail)
          go_meet
          case rel => exact ⟨rfl, ⟨by rw [HNN.out, hF, hB1]; rfl⟩, by rw [HNN.out]; exact ⟨HND.out.set 0 (.string s.f5) ⟨s.f5, h.f2, h.f8, h.f3, h.f4, h.f5, h.f7, ⟨#[]⟩⟩ rfl⟩⟩
  case rest =>
  obtain ⟨rfl, HC1, HM⟩ := hcut
  clear HN z12 hN2 HNN
  have HP := Aside0.mk (show (nodeOf s h).f0 = (if noT s.f5 = true then pjoinB h.f1 h.f0 else s.f5) from rfl)
  generalize (if noT s.f5 = true then pjoinB h.f1 h.f0 else s.f5) = pa at *
  have z13 := (HM.out.pat.cell 13).trans (show _ = some (Value.string s.f6) from rfl)
  obtain ⟨N2, hN⟩ : ∃ N, noT s.f6 = N := ⟨_, rfl⟩
  have hN2 : (s.f6.toList == ([] : List UInt8)) = N2 := hN
  have HNN := Aside0.mk hN
  clear hN
  go_upto_if 55 with (fail)
  go_cut [4] (fun v4 we => v4 = .pointer (some ⟨g, 0, none⟩) ∧ Aside0 ((noT s.f6 || beginsB h.f2 s.f6) = true) ∧ Aside0 (NodeAt w0 b s l A c hb g h ⟨pa, (if noT s.f6 = true then h.f2 else s.f6), h.f8, h.f3, h.f4, h.f5, h.f7, ⟨#[]⟩⟩ we))
  case first =>
    cases N2 with
    | true =>
      go_wp2_with (fail)
      go_meet
      case rel => exact ⟨rfl, ⟨by rw [HNN.out]; rfl⟩, by rw [HNN.out]; exact HM⟩
    | false =>
      have q2 := (blk_cell HM.out.hd 2).trans (show _ = some (Value.string h.f2) from rfl)
      have hbe := fun W => begins.at_ h.f2 s.f6 W
      go_upto_region 6 with (fail)
      obtain ⟨B1, hB1⟩ : ∃ B1, beginsB h.f2 s.f6 = B1 := ⟨_, rfl⟩
      rw [hB1] at hbe
      have HND := Aside0.mk (HM.out.step (below_drew (Below.refl _ _)))
      cases B1 with
      | false =>
        refine start_ (n := 9) (S := fun w' => w'.cell? ⟨hb, 2, none⟩ = some (.string h.f2) ∧ w'.cell? ⟨b, 13, none⟩ = some (.string s.f6)) (ds := []) #[false, false, false, false, false, false, false, false, false] (by kernel_rfl) rfl rfl ⟨q2, z13⟩ (fun hHeld => ?_)
        refine pure_ (i := 0) (N := some 56) (v := ?_) (a' := ?_) #[true, false, false, false, false, false, false, false, false] rfl rfl (by kernel_rfl) (fun _ _ _ h => h) (Or.inl ⟨by rfl, ?_⟩) ?_ ?_
        rotate_left
        · intro w'
          go_simp
          with_reducible rfl
        rotate_left
        · aput
          rfl
        refine take_ (i := 1) (N := some 57) (v := ?_) (a' := ?_) #[true, true, false, false, false, false, false, false, false] rfl rfl (by kernel_rfl) (fun _ _ _ h => h) (Or.inl ⟨by rfl, ?_⟩) hHeld ?_ ?_
        rotate_left
        · rintro w' ⟨s0, s1⟩
          go_simp
          with_reducible rfl
        rotate_left
        · aput
          rfl
        refine pure_ (i := 2) (N := some 58) (v := ?_) (a' := ?_) #[true, true, true, false, false, false, false, false, false] rfl rfl (by kernel_rfl) (fun _ _ _ h => h) (Or.inl ⟨by rfl, ?_⟩) ?_ ?_
        rotate_left
        · intro w'
          go_simp
          with_reducible rfl
        rotate_left
        · aput
          rfl
        refine pure_ (i := 3) (N := some 59) (v := ?_) (a' := ?_) #[true, true, true, true, false, false, false, false, false] rfl rfl (by kernel_rfl) (fun _ _ _ h => h) (Or.inl ⟨by rfl, ?_⟩) ?_ ?_
        rotate_left
        · intro w'
          go_simp
          with_reducible rfl
        rotate_left
        · aput
          rfl
        refine pure_ (i := 4) (N := some 60) (v := ?_) (a' := ?_) #[true, true, true, true, true, false, false, false, false] rfl rfl (by kernel_rfl) (fun _ _ _ h => h) (Or.inl ⟨by rfl, ?_⟩) ?_ ?_
        rotate_left
        · intro w'
          go_simp
          with_reducible rfl
        rotate_left
        · aput
          rfl
        refine pure_ (i := 5) (N := some 61) (v := ?_) (a' := ?_) #[true, true, true, true, true, true, false, false, false] rfl rfl (by kernel_rfl) (fun _ _ _ h => h) (Or.inl ⟨by rfl, ?_⟩) ?_ ?_
        rotate_left
        · intro w'
          go_simp
          with_reducible rfl
        rotate_left
        · aput
          rfl
        refine take_ (i := 6) (N := some 62) (v := ?_) (a' := ?_) #[true, true, true, true, true, true, true, false, false] rfl rfl (by kernel_rfl) (fun _ _ _ h => h) (Or.inl ⟨by rfl, ?_⟩) hHeld ?_ ?_
        rotate_left
        · rintro w' ⟨s0, s1⟩
          go_simp
          with_reducible rfl
        rotate_left
        · aput
          rfl
        refine one_ (i := 7) (N := some 63) #[true, true, true, true, true, true, true, true, false] rfl rfl (by kernel_rfl) (by decide) (fun K hK => ?_)
        refine goes_ Tryz.func96 (by kernel_rfl) rfl #[.string h.f2, .string s.f6] (by rfl) rfl rfl (by (try simp only [List.map_toArray, List.map_cons, List.map_nil]); first | done | rfl | (simp only [List.length_drop, List.length_take]; rfl)) ?_
        refine (hbe _).mono ?_
        rintro e_ wq ⟨rfl, rfl⟩
        refine ⟨_, rfl, ?_⟩
        refine hK.out _ _ hHeld (fun hHeld => ?_)
        clear hK K
        refine norm_ (a' := ?_) ?_ ?_
        rotate_left
        · show Act.put _ (some 63) _ = _
          aput
          rfl
        refine one_ (i := 8) (N := some 64) #[true, true, true, true, true, true, true, true, true] rfl rfl (by kernel_rfl) (by decide) (fun K hK => ?_)
        rw [if_pos (by rfl)]
        go_simp
        refine (must_no 2 _).mono ?_
        rintro e_ w_ ⟨rfl, rfl⟩
        have hr := HRES.out
        unfold nodeP at hr
        rw [if_pos HC1.out, HNN.out, hB1, Bool.false_or, if_neg (by decide)] at hr
        subst hr
        exact ⟨rfl, PDone.err HND.out.pat.turn⟩
      | true =>
        refine start_ (n := 9) (S := fun w' => w'.cell? ⟨hb, 2, none⟩ = some (.string h.f2) ∧ w'.cell? ⟨b, 13, none⟩ = some (.string s.f6)) (ds := []) #[false, false, false, false, false, false, false, false, false] (by kernel_rfl) rfl rfl ⟨q2, z13⟩ (fun hHeld => ?_)
        refine pure_ (i := 0) (N := some 56) (v := ?_) (a' := ?_) #[true, false, false, false, false, false, false, false, false] rfl rfl (by kernel_rfl) (fun _ _ _ h => h) (Or.inl ⟨by rfl, ?_⟩) ?_ ?_
        rotate_left
        · intro w'
          go_simp
          with_reducible rfl
        rotate_left
        · aput
          rfl
        refine take_ (i := 1) (N := some 57) (v := ?_) (a' := ?_) #[true, true, false, false, false, false, false, false, false] rfl rfl (by kernel_rfl) (fun _ _ _ h => h) (Or.inl ⟨by rfl, ?_⟩) hHeld ?_ ?_
        rotate_left
        · rintro w' ⟨s0, s1⟩
          go_simp
          with_reducible rfl
        rotate_left
        · aput
          rfl
        refine pure_ (i := 2) (N := some 58) (v := ?_) (a' := ?_) #[true, true, true, false, false, false, false, false, false] rfl rfl (by kernel_rfl) (fun _ _ _ h => h) (Or.inl ⟨by rfl, ?_⟩) ?_ ?_
        rotate_left
        · intro w'
          go_simp
          with_reducible rfl
        rotate_left
        · aput
          rfl
        refine pure_ (i := 3) (N := some 59) (v := ?_) (a' := ?_) #[true, true, true, true, false, false, false, false, false] rfl rfl (by kernel_rfl) (fun _ _ _ h => h) (Or.inl ⟨by rfl, ?_⟩) ?_ ?_
        rotate_left
        · intro w'
          go_simp
          with_reducible rfl
        rotate_left
        · aput
          rfl
        refine pure_ (i := 4) (N := some 60) (v := ?_) (a' := ?_) #[true, true, true, true, true, false, false, false, false] rfl rfl (by kernel_rfl) (fun _ _ _ h => h) (Or.inl ⟨by rfl, ?_⟩) ?_ ?_
        rotate_left
        · intro w'
          go_simp
          with_reducible rfl
        rotate_left
        · aput
          rfl
        refine pure_ (i := 5) (N := some 61) (v := ?_) (a' := ?_) #[true, true, true, true, true, true, false, false, false] rfl rfl (by kernel_rfl) (fun _ _ _ h => h) (Or.inl ⟨by rfl, ?_⟩) ?_ ?_
        rotate_left
        · intro w'
          go_simp
          with_reducible rfl
        rotate_left
        · aput
          rfl
        refine take_ (i := 6) (N := some 62) (v := ?_) (a' := ?_) #[true, true, true, true, true, true, true, false, false] rfl rfl (by kernel_rfl) (fun _ _ _ h => h) (Or.inl ⟨by rfl, ?_⟩) hHeld ?_ ?_
        rotate_left
        · rintro w' ⟨s0, s1⟩
          go_simp
          with_reducible rfl
        rotate_left
        · aput
          rfl
        refine one_ (i := 7) (N := some 63) #[true, true, true, true, true, true, true, true, false] rfl rfl (by kernel_rfl) (by decide) (fun K hK => ?_)
        refine goes_ Tryz.func96 (by kernel_rfl) rfl #[.string h.f2, .string s.f6] (by rfl) rfl rfl (by (try simp only [List.map_toArray, List.map_cons, List.map_nil]); first | done | rfl | (simp only [List.length_drop, List.length_take]; rfl)) ?_
        refine (hbe _).mono ?_
        rintro e_ wq ⟨rfl, rfl⟩
        refine ⟨_, rfl, ?_⟩
        refine hK.out _ _ hHeld (fun hHeld => ?_)
        clear hK K
        refine norm_ (a' := ?_) ?_ ?_
        rotate_left
        · show Act.put _ (some 63) _ = _
          aput
          rfl
        refine one_ (i := 8) (N := some 64) #[true, true, true, true, true, true, true, true, true] rfl rfl (by kernel_rfl) (by decide) (fun K hK => ?_)
        refine goes_ Tryz.func36 (by kernel_rfl) rfl #[.bool true, .int .i64 2] (by rfl) rfl rfl (by (try simp only [List.map_toArray, List.map_cons, List.map_nil]); first | done | rfl | (simp only [List.length_drop, List.length_take]; rfl)) ?_
        refine (must_yes 2 _).mono ?_
        rintro e_ wq ⟨rfl, rfl⟩
        refine ⟨_, rfl, ?_⟩
        refine hK.out _ _ hHeld (fun hHeld => ?_)
        clear hK K
        refine norm_ (a' := ?_) ?_ ?_
        rotate_left
        · show Act.put _ (some 64) _ = _
          aput
          rfl
        refine done_ (by kernel_rfl) ?_
        clear q2 z13
        have z13 := (HND.out.pat.cell 13).trans (show _ = some (Value.string s.f6) from rfl)
        have n1 := (blk_cell HND.out.nd 1).trans (show _ = some (Value.string h.f2) from rfl)
        have y1 := blk_frozen HND.out.nd 1
        go_wp2_with (fail)
        go_meet
        case rel => exact ⟨rfl, ⟨by rw [HNN.out, hB1]; rfl⟩, by rw [HNN.out]; exact ⟨HND.out.set 1 (.string s.f6) ⟨pa, s.f6, h.f8, h.f3, h.f4, h.f5, h.f7, ⟨#[]⟩⟩ rfl⟩⟩
  case rest =>
  obtain ⟨rfl, HC2, HX⟩ := hcut
  clear HM z13 hN2 HNN
  have HLK := Aside0.mk (show (nodeOf s h).f1 = (if noT s.f6 = true then h.f2 else s.f6) from rfl)
  have hps : (nodeOf s h).f0.size ≤ 10000 := by
    show (if noT s.f5 = true then pjoinB h.f1 h.f0 else s.f5).size ≤ 10000
    have h1 := @pjoin_size h.f1 h.f0
    have h2 := HSZ.out
    split <;> omega
  have hls : (nodeOf s h).f1.size ≤ 10000 := by
    show (if noT s.f6 = true then h.f2 else s.f6).size ≤ 10000
    have h2 := HSZ.out
    split <;> omega
  generalize (if noT s.f6 = true then h.f2 else s.f6) = lk at *
  have HNO := Aside0.mk (show nodeOf s h = ⟨pa, lk, h.f8, h.f3, h.f4, h.f5, h.f7, ⟨#[]⟩⟩ from by
    have e1 := HP.out; have e2 := HLK.out
    rw [← e1, ← e2]; rfl)
  rw [HP.out] at hps
  rw [HLK.out] at hls
  clear HP HLK HSZ
  have hpm := fun W => path_May.calls pa _ W (may_f (Nat.le_trans hps (by decide)))
  have hone := fun W => tree_One.calls pa lk h.f8 h.f3 h.f4 h.f5 h.f7 ⟨#[]⟩ _ W (one_b ⟨pa, lk, h.f8, h.f3, h.f4, h.f5, h.f7, ⟨#[]⟩⟩ (Nat.le_trans hps (by decide)) (Nat.le_trans hls (by decide)))
  clear hps hls
  obtain ⟨PM, hPM⟩ : ∃ PM, mayL pa.data.toList = PM := ⟨_, rfl⟩
  rw [hPM] at hpm
  obtain ⟨OB, hOB⟩ : ∃ OB, oneB ⟨pa, lk, h.f8, h.f3, h.f4, h.f5, h.f7, ⟨#[]⟩⟩ = OB := ⟨_, rfl⟩
  rw [hOB] at hone
  have n0 := (blk_cell HX.out.nd 0).trans (show _ = some (Value.string pa) from rfl)
  cases PM with
  | false =>
    go_wp2_with (first | (go_at_call 49; (with_reducible refine (hpm _).mono ?_); rintro e_ w5 ⟨rfl, hb_⟩; have HX5 := Aside0.mk (HX.out.step hb_); clear hb_) | (go_at_call 36; (with_reducible refine (must_no 6 _).mono ?_); rintro e_ w_ ⟨rfl, rfl⟩))
    have hr := HRES.out
    unfold nodeP at hr
    rw [if_pos HC1.out, if_pos HC2.out, HNO.out, hPM, if_neg (by decide)] at hr
    subst hr
    exact ⟨rfl, PDone.err HX5.out.pat.turn⟩
  | true =>
    go_upto_region 10 with (first | (go_at_call 49; (with_reducible refine (hpm _).mono ?_); rintro e_ w5 ⟨rfl, hb_⟩; have HX5 := Aside0.mk (HX.out.step hb_); clear hb_) | (go_at_call 36; (with_reducible refine (must_yes 6 _).mono ?_); rintro e_ w_ ⟨rfl, rfl⟩))
    clear n0
    have n0 := (blk_cell HX5.out.nd 0).trans (show _ = some (Value.string pa) from rfl)
    have n1 := (blk_cell HX5.out.nd 1).trans (show _ = some (Value.string lk) from rfl)
    have n2 := (blk_cell HX5.out.nd 2).trans (show _ = some (Value.int .u8 h.f8) from rfl)
    have n3 := (blk_cell HX5.out.nd 3).trans (show _ = some (Value.int .i64 h.f3) from rfl)
    have n4 := (blk_cell HX5.out.nd 4).trans (show _ = some (Value.int .i64 h.f4) from rfl)
    have n5 := (blk_cell HX5.out.nd 5).trans (show _ = some (Value.int .i64 h.f5) from rfl)
    have n6 := (blk_cell HX5.out.nd 6).trans (show _ = some (Value.int .i64 h.f7) from rfl)
    have n7 := (blk_cell HX5.out.nd 7).trans (show _ = some (Value.string ⟨#[]⟩) from rfl)
    have q6 := (blk_cell HX5.out.hd 6).trans (show _ = some (Value.int .i64 h.f6) from rfl)
    go_upto_if 77 with (fail)
    obtain ⟨MX, hMX⟩ : ∃ MX : Int, (if h.f8 = 48 then 4000 else 0) = MX := ⟨_, rfl⟩
    go_cut [5] (fun v5 we => v5 = .int .i64 MX ∧ we = w5)
    case first =>
      by_cases h48 : h.f8 = 48
      · have b48 : (h.f8 == 48) = true := beq_iff_eq.2 h48
        have hMX2 : (4000 : Int) = MX := (if_pos h48).symm.trans hMX
        clear h48 hMX
        go_wp2_with (fail)
        go_meet
        case rel => exact ⟨by rw [hMX2], rfl⟩
      · have b48 : (h.f8 == 48) = false := beq_eq_false_iff_ne.2 h48
        have hMX2 : (0 : Int) = MX := (if_neg h48).symm.trans hMX
        clear h48 hMX
        go_wp2_with (fail)
        go_meet
        case rel => exact ⟨by rw [hMX2], rfl⟩
    case rest =>
      obtain ⟨rfl, rfl⟩ := hcut
      cases OB with
      | false =>
        go_wp2_with (first | (go_at_call 30; (with_reducible refine (hone _).mono ?_); rintro e_ w6 ⟨rfl, hb_⟩; have HX6 := Aside0.mk (HX5.out.step hb_); have q6b := (blk_cell HX6.out.hd 6).trans (show _ = some (Value.int .i64 h.f6) from rfl); clear hb_) | (go_at_call 36; (with_reducible refine (must_no 2 _).mono ?_); rintro e_ w_ ⟨rfl, rfl⟩))
        have hr := HRES.out
        unfold nodeP at hr
        rw [if_pos HC1.out, if_pos HC2.out, HNO.out, hPM, if_pos rfl, hOB, Bool.false_and, if_neg (by decide)] at hr
        subst hr
        exact ⟨rfl, PDone.err HX6.out.pat.turn⟩
      | true =>
        by_cases hle : h.f6 ≤ MX
        · have hl1 : decide (h.f6 ≤ MX) = true := decide_eq_true hle
          clear hle
          go_upto_region 13 with (first | (go_at_call 30; (with_reducible refine (hone _).mono ?_); rintro e_ w6 ⟨rfl, hb_⟩; have HX6 := Aside0.mk (HX5.out.step hb_); have q6b := (blk_cell HX6.out.hd 6).trans (show _ = some (Value.int .i64 h.f6) from rfl); clear hb_) | (go_at_call 36; (with_reducible refine (must_yes 2 _).mono ?_); rintro e_ w_ ⟨rfl, rfl⟩))
          clear n0 n1 n2 n3 n4 n5 n6 n7
          have n0 := (blk_cell HX6.out.nd 0).trans (show _ = some (Value.string pa) from rfl)
          have n1 := (blk_cell HX6.out.nd 1).trans (show _ = some (Value.string lk) from rfl)
          have n2 := (blk_cell HX6.out.nd 2).trans (show _ = some (Value.int .u8 h.f8) from rfl)
          have n3 := (blk_cell HX6.out.nd 3).trans (show _ = some (Value.int .i64 h.f3) from rfl)
          have n4 := (blk_cell HX6.out.nd 4).trans (show _ = some (Value.int .i64 h.f4) from rfl)
          have n5 := (blk_cell HX6.out.nd 5).trans (show _ = some (Value.int .i64 h.f5) from rfl)
          have n6 := (blk_cell HX6.out.nd 6).trans (show _ = some (Value.int .i64 h.f7) from rfl)
          have n7 := (blk_cell HX6.out.nd 7).trans (show _ = some (Value.string ⟨#[]⟩) from rfl)
          have hte := fun W G => tell.at_ w0 b s l A c ⟨0, ⟨pa, lk, h.f8, h.f3, h.f4, h.f5, h.f7, ⟨#[]⟩⟩, ⟨#[]⟩⟩ (by omega) W G
          go_upto_region 14 with (go_at_call 65; (refine (hte _ HX6.out.pat).mono ?_); rintro e_ w7 ⟨rfl, A7, c7, G7, K7⟩; have HG7 := Aside0.mk G7; have HH7 := Aside0.mk ((K7 hb (blk_lt HX6.out.hd) (by have h1 := HX6.out.le.1; have h2 := HX6.out.pat.lt; omega) (own_typed2 HX6.out.pat.row HX6.out.hd (by decide))).trans HX6.out.hd); have HN7 := Aside0.mk ((K7 g (blk_lt HX6.out.nd) (by have h1 := HX6.out.le.2; have h2 := HX6.out.pat.lt; omega) (own_typed2 HX6.out.pat.row HX6.out.nd (by decide))).trans HX6.out.nd); clear G7 K7)
          have hr := HRES.out
          unfold nodeP at hr
          rw [if_pos HC1.out, if_pos HC2.out, HNO.out, hPM, if_pos rfl, hOB, Bool.true_and, hMX, hl1, if_pos rfl] at hr
          clear n0 n1 n2 n3 n4 n5 n6 n7 q6 q6b HX5 HX6
          have n0 := (blk_cell HN7.out 0).trans (show _ = some (Value.string pa) from rfl)
          have n1 := (blk_cell HN7.out 1).trans (show _ = some (Value.string lk) from rfl)
          have n2 := (blk_cell HN7.out 2).trans (show _ = some (Value.int .u8 h.f8) from rfl)
          have n3 := (blk_cell HN7.out 3).trans (show _ = some (Value.int .i64 h.f3) from rfl)
          have n4 := (blk_cell HN7.out 4).trans (show _ = some (Value.int .i64 h.f4) from rfl)
          have n5 := (blk_cell HN7.out 5).trans (show _ = some (Value.int .i64 h.f5) from rfl)
          have n6 := (blk_cell HN7.out 6).trans (show _ = some (Value.int .i64 h.f7) from rfl)
          have n7 := (blk_cell HN7.out 7).trans (show _ = some (Value.string ⟨#[]⟩) from rfl)
          have q6 := (blk_cell HH7.out 6).trans (show _ = some (Value.int .i64 h.f6) from rfl)
          have y0 := HG7.out.frozen 0
          have y1 := HG7.out.frozen 1
          have y2 := HG7.out.frozen 2
          have y3 := HG7.out.frozen 3
          have y4 := HG7.out.frozen 4
          have y5 := HG7.out.frozen 5
          have y6 := HG7.out.frozen 6
          have y7 := HG7.out.frozen 7
          have y8 := HG7.out.frozen 8
          have y9 := HG7.out.frozen 9
          have y10 := HG7.out.frozen 10
          have y11 := HG7.out.frozen 11
          have y12 := HG7.out.frozen 12
          have y13 := HG7.out.frozen 13
          have z0 := (HG7.out.cell 0).trans (show _ = some (Value.int .i64 s.f0) from rfl)
          have z1 := (HG7.out.cell 1).trans (show _ = some (Value.string s.f1.f0) from rfl)
          have z2 := (HG7.out.cell 2).trans (show _ = some (Value.string s.f1.f1) from rfl)
          have z3 := (HG7.out.cell 3).trans (show _ = some (Value.int .u8 s.f1.f2) from rfl)
          have z4 := (HG7.out.cell 4).trans (show _ = some (Value.int .i64 s.f1.f3) from rfl)
          have z5 := (HG7.out.cell 5).trans (show _ = some (Value.int .i64 s.f1.f4) from rfl)
          have z6 := (HG7.out.cell 6).trans (show _ = some (Value.int .i64 s.f1.f5) from rfl)
          have z7 := (HG7.out.cell 7).trans (show _ = some (Value.int .i64 s.f1.f6) from rfl)
          have z8 := (HG7.out.cell 8).trans (show _ = some (Value.string s.f1.f7) from rfl)
          have z9 := (HG7.out.cell 9).trans (show _ = some (Value.int .i64 s.f2) from rfl)
          have z10 := (HG7.out.cell 10).trans (show _ = some (Value.int .i64 s.f3) from rfl)
          have z11 := (HG7.out.cell 11).trans (show _ = some (Value.string s.f4) from rfl)
          have z12 := (HG7.out.cell 12).trans (show _ = some (Value.string s.f5) from rfl)
          have z13 := (HG7.out.cell 13).trans (show _ = some (Value.string s.f6) from rfl)
          by_cases hz : h.f6 = 0
          · have b0 : (h.f6 == 0) = true := beq_iff_eq.2 hz
            rw [if_pos hz] at hr
            subst hr
            have hov := fun W G => over.at_ w0 b s (l ++ [⟨0, ⟨pa, lk, h.f8, h.f3, h.f4, h.f5, h.f7, ⟨#[]⟩⟩, ⟨#[]⟩⟩]) A7 c7 (by rw [List.length_append, List.length_singleton]; omega) W G
            clear hz y0 y1 y2 y3 y4 y5 y6 y7 y8 y9 y10 y11 y12 y13 z0 z1 z2 z3 z4 z5 z6 z7 z8 z9 z10 z11 z12 z13
            go_wp2_with (go_at_call 66; (refine (hov _ HG7.out).mono ?_); rintro e_ w8 ⟨rfl, A8, c8, G8⟩)
            go_end0
            exact PDone.done G8
          · have b0 : (h.f6 == 0) = false := beq_eq_false_iff_ne.2 hz
            rw [if_neg hz] at hr
            subst hr
            clear hz
            go_wp2_with (fail)
            go_end0
            exact PDone.done (HG7.out.store ⟨3, ⟨pa, lk, h.f8, h.f3, h.f4, h.f5, h.f7, ⟨#[]⟩⟩, h.f6, h.f6, ⟨#[]⟩, ⟨#[]⟩, ⟨#[]⟩⟩)
        · have hl1 : decide (h.f6 ≤ MX) = false := decide_eq_false hle
          clear hle
          go_wp2_with (first | (go_at_call 30; (with_reducible refine (hone _).mono ?_); rintro e_ w6 ⟨rfl, hb_⟩; have HX6 := Aside0.mk (HX5.out.step hb_); have q6b := (blk_cell HX6.out.hd 6).trans (show _ = some (Value.int .i64 h.f6) from rfl); clear hb_) | (go_at_call 36; (with_reducible refine (must_no 2 _).mono ?_); rintro e_ w_ ⟨rfl, rfl⟩))
          have hr := HRES.out
          unfold nodeP at hr
          rw [if_pos HC1.out, if_pos HC2.out, HNO.out, hPM, if_pos rfl, hOB, Bool.true_and, hMX, hl1, if_neg (by decide)] at hr
          subst hr
          exact ⟨rfl, PDone.err HX6.out.pat.turn⟩
end
section
open Go.Proofs.YtpedagpcblnnhaaGreatY
set_option maxRecDepth 100000
theorem bytes_take {w : World} {A : Option Addr} {l : List Int} (c : Nat) (h : Kd.C (Kd.int .u8) w A l.length l) (hc : l.length ≤ c) (m : Nat) (hm : m ≤ l.length) :
    (∀ W, (Instr.slice 43 (.slice A l.length c) none (some (.int .i64 (m : Int))) none).run Tryz.prog W = .ok (.slice A m c) W) ∧ Kd.C (Kd.int .u8) w A m (l.take m) := by
  obtain ⟨i0, hi0, _, hsz, _⟩ := info_parts info5
  have hcut := cut_to (P := Tryz.prog) 43 5 .i64 Tryz.underlying43 hi0 A l.length c (m : Int) (by omega) (by omega) hc
  have hC := Kd.C_take h hm
  have hl : (l.take m).length = m := by rw [List.length_take]; omega
  simp only [Int.toNat_natCast] at hcut
  rw [hl] at hC
  exact ⟨hcut, hC⟩
theorem bytes_drop {w : World} {A : Option Addr} {l : List Int} (c : Nat) (h : Kd.C (Kd.int .u8) w A l.length l) (hc : l.length ≤ c) (m : Nat) (hm : m ≤ l.length) :
    ∃ A2 c2, (∀ W, (Instr.slice 43 (.slice A l.length c) (some (.int .i64 (m : Int))) none none).run Tryz.prog W = .ok (.slice A2 (l.drop m).length c2) W) ∧ Kd.C (Kd.int .u8) w A2 (l.drop m).length (l.drop m) ∧ (l.drop m).length ≤ c2 := by
  obtain ⟨i0, hi0, _, hsz, _⟩ := info_parts info5
  have hcut := cut_from (P := Tryz.prog) 43 5 .i64 Tryz.underlying43 hi0 1 hsz A l.length c (m : Int) (by omega) (by omega)
  have hC := Kd.C_drop h hm hc
  simp only [Int.toNat_natCast] at hcut
  have hl : (l.drop m).length = l.length - m := List.length_drop
  refine ⟨_, c - m, ?_, hC, ?_⟩
  · rw [hl]; exact hcut
  · rw [hl]; omega
def dataP (s : Pst) (x : List Int) (l : List Evt) : Except Int (Pst × List Evt) :=
  if s.f3 ≤ 512 then .ok (st0, (l ++ [⟨1, nd00, strOfNums (x.take s.f3.toNat)⟩]) ++ [evOver])
  else .ok (⟨s.f0, s.f1, s.f2, s.f3 - 512, s.f4, s.f5, s.f6⟩, l ++ [⟨1, nd00, strOfNums (x.take 512)⟩])
set_option maxHeartbeats 3200000 in
theorem pdata.at_ (w0 : World) (b : Nat) (s : Pst) (l : List Evt) (A : Option Addr) (c : Nat) (B : Option Addr) (d : Nat) (x : List Int) (W : World) (hl : l.length ≤ 500) (h1 : 1 ≤ s.f3) (h2 : s.f3 ≤ 4000) (G : PAt w0 b s l A c W) (hC : Kd.C (Kd.int .u8) W B x.length x) (hd : x.length ≤ d) (hx : x.length = 512) (hby : ∀ y ∈ x, 0 ≤ y ∧ y ≤ 255) :
    Calls Tryz.prog 40 #[.pointer (some ⟨b, 0, none⟩), .slice B x.length d] W fun e w' => PDone w0 b (dataP s x l) e w' := by
  obtain ⟨f0, n, f2, f3, f4, f5, f6⟩ := s
  obtain ⟨m, rfl⟩ : ∃ m : Nat, f3 = (m : Int) := ⟨f3.toNat, by simp only at h1; omega⟩
  simp only at h1 h2
  have HG := Aside0.mk G
  have HC := Aside0.mk hC
  obtain ⟨res, hres⟩ : ∃ res, dataP ⟨f0, n, f2, (m : Int), f4, f5, f6⟩ x l = res := ⟨_, rfl⟩
  rw [hres]
  unfold dataP at hres
  simp only [Int.toNat_natCast] at hres
  clear hby
  by_cases h5 : m ≤ 512
  · have k1 : decide ((512 : Int) < (m : Int)) = false := decide_eq_false (by omega)
    have k2 : (m : Int) ≤ 512 := by omega
    obtain ⟨hs1, hs2⟩ := bytes_take d hC hd m (by omega)
    have hcv := fun n => Kd.C_string (P := Tryz.prog) (A := B) (c := d) Tryz.underlying43 Tryz.underlying5 Tryz.underlying9 (Kd.C_drewN hs2 n)
    have hcv0 := Kd.C_string (P := Tryz.prog) (A := B) (c := d) Tryz.underlying43 Tryz.underlying5 Tryz.underlying9 hs2
    have hte := fun W G => tell.at_ w0 b ⟨f0, n, f2, (m : Int), f4, f5, f6⟩ l A c ⟨1, nd00, strOfNums (x.take m)⟩ (by omega) W G
    have g1 : IntKind.i64.wrap ((m : Int) - (m : Int)) = 0 := by rw [i64_w, wrap_id (by omega) (by omega)]; omega
    rw [if_pos k2] at hres
    generalize strOfNums (x.take m) = T at *
    clear hC G h5
    have z10 := (HG.out.cell 10).trans (show _ = some (Value.int .i64 (m : Int)) from rfl)
    go_enter Tryz.func40, Tryz.ntmps40
    go_upto_region 2 with (first | (go_at_call 65; (refine (hte _ HG.out).mono ?_); rintro e_ w1 ⟨rfl, A1, c1, G1, _⟩; have HG1 := Aside0.mk G1; clear G1 z10))
    have z10 := (HG1.out.cell 10).trans (show _ = some (Value.int .i64 (m : Int)) from rfl)
    have y10 := HG1.out.frozen 10
    go_upto_region 3 with (fail)
    have HG2 := Aside0.mk (HG1.out.set 10 (.int .i64 0) ⟨f0, n, f2, 0, f4, f5, f6⟩ rfl)
    have hov := fun W G => over.at_ w0 b ⟨f0, n, f2, 0, f4, f5, f6⟩ (l ++ [⟨1, nd00, T⟩]) A1 c1 (by rw [List.length_append, List.length_singleton]; omega) W G
    go_wp2_with (first | (go_at_call 66; (with_reducible refine (hov _ HG2.out).mono ?_); rintro e_ w3 ⟨rfl, A3, c3, G3⟩))
    go_end0
    subst hres
    exact PDone.done (G3)
  · have k1 : decide ((512 : Int) < (m : Int)) = true := decide_eq_true (by omega)
    have k2 : ¬ (m : Int) ≤ 512 := by omega
    obtain ⟨hs1, hs2⟩ := bytes_take d hC hd 512 (by omega)
    have hcv0 := Kd.C_string (P := Tryz.prog) (A := B) (c := d) Tryz.underlying43 Tryz.underlying5 Tryz.underlying9 hs2
    have hte := fun W G => tell.at_ w0 b ⟨f0, n, f2, (m : Int), f4, f5, f6⟩ l A c ⟨1, nd00, strOfNums (x.take 512)⟩ (by omega) W G
    obtain ⟨q, hq⟩ : ∃ q : Int, (m : Int) - 512 = q := ⟨_, rfl⟩
    have g1 : IntKind.i64.wrap ((m : Int) - 512) = q := by rw [i64_w, wrap_id (by omega) (by omega)]; exact hq
    have g2 : (q == 0) = false := beq_eq_false_iff_ne.2 (by omega)
    rw [if_neg k2, hq] at hres
    generalize strOfNums (x.take 512) = T at *
    clear hC G h5 hq
    have z10 := (HG.out.cell 10).trans (show _ = some (Value.int .i64 (m : Int)) from rfl)
    go_enter Tryz.func40, Tryz.ntmps40
    go_upto_region 2 with (first | (go_at_call 65; (refine (hte _ HG.out).mono ?_); rintro e_ w1 ⟨rfl, A1, c1, G1, _⟩; have HG1 := Aside0.mk G1; clear G1 z10))
    have z10 := (HG1.out.cell 10).trans (show _ = some (Value.int .i64 (m : Int)) from rfl)
    have y10 := HG1.out.frozen 10
    go_wp2_with (fail)
    go_end0
    subst hres
    exact PDone.done (HG1.out.set 10 (.int .i64 q) ⟨f0, n, f2, q, f4, f5, f6⟩ rfl)
end
section
open Go.Proofs.YtpedagpcblnnhaaGreatY
set_option maxRecDepth 100000
def nameP (s : Pst) (x : List Int) (l : List Evt) : Except Int (Pst × List Evt) :=
  if (endsZ (strOfNums (x.take s.f2.toNat)) && (textB (cutZ (strOfNums (x.take s.f2.toNat))) && (x.drop s.f2.toNat).all (fun c => c == 0))) = true then
    (if s.f0 = 1 then .ok (⟨0, s.f1, 0, 0, s.f4, cutZ (strOfNums (x.take s.f2.toNat)), s.f6⟩, l) else .ok (⟨0, s.f1, 0, 0, s.f4, s.f5, cutZ (strOfNums (x.take s.f2.toNat))⟩, l))
  else .error 2
set_option maxHeartbeats 3200000 in
theorem pname.at_ (w0 : World) (b : Nat) (s : Pst) (l : List Evt) (A : Option Addr) (c : Nat) (B : Option Addr) (d : Nat) (x : List Int) (W : World) (h1 : 2 ≤ s.f2) (h2 : s.f2 ≤ 301) (G : PAt w0 b s l A c W) (hC : Kd.C (Kd.int .u8) W B x.length x) (hd : x.length ≤ d) (hx : x.length = 512) (hby : ∀ y ∈ x, 0 ≤ y ∧ y ≤ 255) :
    Calls Tryz.prog 39 #[.pointer (some ⟨b, 0, none⟩), .slice B x.length d] W fun e w' => PDone w0 b (nameP s x l) e w' := by
  obtain ⟨f0, n, f2, f3, f4, f5, f6⟩ := s
  obtain ⟨m, rfl⟩ : ∃ m : Nat, f2 = (m : Int) := ⟨f2.toNat, by simp only at h1; omega⟩
  simp only at h1 h2
  have HG := Aside0.mk G
  obtain ⟨res, hres⟩ : ∃ res, nameP ⟨f0, n, (m : Int), f3, f4, f5, f6⟩ x l = res := ⟨_, rfl⟩
  rw [hres]
  unfold nameP at hres
  simp only [Int.toNat_natCast] at hres
  clear hby
  obtain ⟨hs1, hs2⟩ := bytes_take d hC hd m (by omega)
  obtain ⟨B2, d2, ht1, ht2, ht3⟩ := bytes_drop d hC hd m (by omega)
  have hcv0 := Kd.C_string (P := Tryz.prog) (A := B) (c := d) Tryz.underlying43 Tryz.underlying5 Tryz.underlying9 hs2
  have hcu := fun W => CutSuffix_z.at_ (strOfNums (x.take m)) (by rw [strOfNums_size, List.length_take]; omega) W
  have hlt := fun W => long_Text.calls (cutZ (strOfNums (x.take m))) _ W (long_text _)
  have hz := fun W hC => block_Zero.calls B2 d2 (x.drop m) _ W hC ht3 (show block_Zero.f (x.drop m) = some ((x.drop m).all (fun c => c == 0)) from rfl)
  have HT := Aside0.mk ht2
  have HDL := Aside0.mk (show (x.drop m).length = x.length - m from List.length_drop)
  generalize endsZ (strOfNums (x.take m)) = E1 at *
  generalize cutZ (strOfNums (x.take m)) = T at *
  generalize strOfNums (x.take m) = T0 at *
  generalize textB T = E2 at *
  generalize x.drop m = y at *
  generalize y.all (fun c => c == 0) = E3 at *
  have m0 : (0 : Int) ≤ (m : Int) := by omega
  have z2 := (HG.out.cell 9).trans (show _ = some (Value.int .i64 (m : Int)) from rfl)
  clear hC G hs2 ht2 ht3 hx HDL
  go_enter Tryz.func39, Tryz.ntmps39
  go_upto_region 1 with (first | (go_at_call 62; (with_reducible refine (hcu _).mono ?_); rintro e_ w1 ⟨rfl, rfl⟩))
  cases E1 with
  | false =>
    rw [Bool.false_and, if_neg (by decide)] at hres
    go_wp2_with (first | (go_at_call 36; (with_reducible refine (must_no 2 _).mono ?_); rintro e_ w_ ⟨rfl, rfl⟩))
    subst hres
    exact ⟨rfl, PDone.err HG.out.turn⟩
  | true =>
    rw [Bool.true_and] at hres
    cases E2 with
    | false =>
      rw [Bool.false_and, if_neg (by decide)] at hres
      go_wp2_with (first | (go_at_call 63; (with_reducible refine (hlt _).mono ?_); rintro e_ w1 ⟨rfl, hd_⟩; have hb_ := Drawn0.below hd_; have HG1 := Aside0.mk (HG.out.step hb_); have HT1 := Aside0.mk (Kd.C_below HT.out hb_); have z2b := (HG1.out.cell 9).trans (show _ = some (Value.int .i64 (m : Int)) from rfl); clear hd_ hb_) | (go_at_call 36; (with_reducible refine (must_no 2 _).mono ?_); rintro e_ w_ ⟨rfl, rfl⟩))
      subst hres
      exact ⟨rfl, PDone.err HG1.out.turn⟩
    | true =>
      rw [Bool.true_and] at hres
      cases E3 with
      | false =>
        rw [if_neg (by decide)] at hres
        go_wp2_with (first | (go_at_call 63; (with_reducible refine (hlt _).mono ?_); rintro e_ w1 ⟨rfl, hd_⟩; have hb_ := Drawn0.below hd_; have HG1 := Aside0.mk (HG.out.step hb_); have HT1 := Aside0.mk (Kd.C_below HT.out hb_); have z2b := (HG1.out.cell 9).trans (show _ = some (Value.int .i64 (m : Int)) from rfl); clear hd_ hb_) | (go_at_call 64; (refine (hz _ HT1.out).mono ?_); rintro e_ w2 ⟨rfl, hd_⟩; have hb_ := Drawn0.below hd_; have HG2 := Aside0.mk (HG1.out.step hb_); clear hd_ hb_) | (go_at_call 36; (with_reducible refine (must_no 2 _).mono ?_); rintro e_ w_ ⟨rfl, rfl⟩))
        subst hres
        exact ⟨rfl, PDone.err HG2.out.turn⟩
      | true =>
        rw [if_pos rfl] at hres
        go_upto_region 2 with (first | (go_at_call 63; (with_reducible refine (hlt _).mono ?_); rintro e_ w1 ⟨rfl, hd_⟩; have hb_ := Drawn0.below hd_; have HG1 := Aside0.mk (HG.out.step hb_); have HT1 := Aside0.mk (Kd.C_below HT.out hb_); have z2b := (HG1.out.cell 9).trans (show _ = some (Value.int .i64 (m : Int)) from rfl); clear hd_ hb_) | (go_at_call 64; (refine (hz _ HT1.out).mono ?_); rintro e_ w2 ⟨rfl, hd_⟩; have hb_ := Drawn0.below hd_; have HG2 := Aside0.mk (HG1.out.step hb_); clear hd_ hb_) | (go_at_call 36; (with_reducible refine (must_yes 2 _).mono ?_); rintro e_ w_ ⟨rfl, rfl⟩))
        have z0 := (HG2.out.cell 0).trans (show _ = some (Value.int .i64 f0) from rfl)
        clear z2
        by_cases hp : f0 = 1
        · subst hp
          rw [if_pos rfl] at hres
          have z5 := (HG2.out.cell 12).trans (show _ = some (Value.string f5) from rfl)
          have y5 := HG2.out.frozen 12
          go_upto_region 5 with (fail)
          have HG3 := Aside0.mk (HG2.out.set 12 (.string T) ⟨1, n, (m : Int), f3, f4, T, f6⟩ rfl)
          clear z0 z5 y5
          obtain ⟨W3, hW3⟩ : ∃ W', w2.setCell ⟨b, 12, none⟩ (.string T) = W' := ⟨_, rfl⟩
          rw [hW3] at HG3 ⊢
          clear hW3
          have z0 := (HG3.out.cell 0).trans (show _ = some (Value.int .i64 1) from rfl)
          have z9 := (HG3.out.cell 9).trans (show _ = some (Value.int .i64 (m : Int)) from rfl)
          have z10 := (HG3.out.cell 10).trans (show _ = some (Value.int .i64 f3) from rfl)
          have y0 := HG3.out.frozen 0
          have y9 := HG3.out.frozen 9
          have y10 := HG3.out.frozen 10
          go_wp2_with (fail)
          go_end0
          subst hres
          exact PDone.done (((HG3.out.set 0 (.int .i64 0) ⟨0, n, (m : Int), f3, f4, T, f6⟩ rfl).set 9 (.int .i64 0) ⟨0, n, 0, f3, f4, T, f6⟩ rfl).set 10 (.int .i64 0) ⟨0, n, 0, 0, f4, T, f6⟩ rfl)
        · have hp1 : (f0 == 1) = false := beq_eq_false_iff_ne.2 hp
          rw [if_neg (show ¬ f0 = 1 from hp)] at hres
          have z5 := (HG2.out.cell 13).trans (show _ = some (Value.string f6) from rfl)
          have y5 := HG2.out.frozen 13
          clear hp
          go_upto_region 5 with (fail)
          have HG3 := Aside0.mk (HG2.out.set 13 (.string T) ⟨f0, n, (m : Int), f3, f4, f5, T⟩ rfl)
          clear z0 z5 y5
          obtain ⟨W3, hW3⟩ : ∃ W', w2.setCell ⟨b, 13, none⟩ (.string T) = W' := ⟨_, rfl⟩
          rw [hW3] at HG3 ⊢
          clear hW3
          have z0 := (HG3.out.cell 0).trans (show _ = some (Value.int .i64 f0) from rfl)
          have z9 := (HG3.out.cell 9).trans (show _ = some (Value.int .i64 (m : Int)) from rfl)
          have z10 := (HG3.out.cell 10).trans (show _ = some (Value.int .i64 f3) from rfl)
          have y0 := HG3.out.frozen 0
          have y9 := HG3.out.frozen 9
          have y10 := HG3.out.frozen 10
          go_wp2_with (fail)
          go_end0
          subst hres
          exact PDone.done (((HG3.out.set 0 (.int .i64 0) ⟨0, n, (m : Int), f3, f4, f5, T⟩ rfl).set 9 (.int .i64 0) ⟨0, n, 0, f3, f4, f5, T⟩ rfl).set 10 (.int .i64 0) ⟨0, n, 0, 0, f4, f5, T⟩ rfl)
end
section
open Go.Proofs.YtpedagpcblnnhaaGreatY
set_option maxRecDepth 100000
def zeroP (s : Pst) (x : List Int) (l : List Evt) : Except Int (Pst × List Evt) := if x.all (fun c => c == 0) = true then .ok (⟨5, s.f1, s.f2, s.f3, s.f4, s.f5, s.f6⟩, l) else .error 2
set_option maxHeartbeats 1600000 in
theorem pzero.at_ (w0 : World) (b : Nat) (s : Pst) (l : List Evt) (A : Option Addr) (c : Nat) (B : Option Addr) (d : Nat) (x : List Int) (W : World) (G : PAt w0 b s l A c W) (hC : Kd.C (Kd.int .u8) W B x.length x) (hd : x.length ≤ d) (hx : x.length = 512) (hby : ∀ y ∈ x, 0 ≤ y ∧ y ≤ 255) :
    Calls Tryz.prog 41 #[.pointer (some ⟨b, 0, none⟩), .slice B x.length d] W fun e w' => PDone w0 b (zeroP s x l) e w' := by
  have hz := fun W hC => block_Zero.calls B d x _ W hC hd (show block_Zero.f x = some (x.all (fun c => c == 0)) from rfl)
  have HG := Aside0.mk G
  have HC := Aside0.mk hC
  obtain ⟨res, hres⟩ : ∃ res, zeroP s x l = res := ⟨_, rfl⟩
  rw [hres]
  unfold zeroP at hres
  generalize x.all (fun c => c == 0) = Z at *
  clear G hC hby hx
  go_enter Tryz.func41, Tryz.ntmps41
  cases Z with
  | false =>
    rw [if_neg (by decide)] at hres
    go_wp2_with (first | (go_at_call 64; (with_reducible refine (hz _ HC.out).mono ?_); rintro e_ w1 ⟨rfl, hd_⟩; have hb_ := Drawn0.below hd_; have HG1 := Aside0.mk (HG.out.step hb_); clear hd_ hb_) | (go_at_call 36; (with_reducible refine (must_no 2 _).mono ?_); rintro e_ w_ ⟨rfl, rfl⟩))
    subst hres
    exact ⟨rfl, PDone.err HG1.out.turn⟩
  | true =>
    rw [if_pos rfl] at hres
    go_upto_region 1 with (first | (go_at_call 64; (with_reducible refine (hz _ HC.out).mono ?_); rintro e_ w1 ⟨rfl, hd_⟩; have hb_ := Drawn0.below hd_; have HG1 := Aside0.mk (HG.out.step hb_); clear hd_ hb_) | (go_at_call 36; (with_reducible refine (must_yes 2 _).mono ?_); rintro e_ w_ ⟨rfl, rfl⟩))
    have y0 := HG1.out.frozen 0
    have z0 := (HG1.out.cell 0).trans (show _ = some (Value.int .i64 s.f0) from rfl)
    go_wp2_with (fail)
    go_end0
    subst hres
    exact PDone.done (HG1.out.set 0 (.int .i64 5) ⟨5, s.f1, s.f2, s.f3, s.f4, s.f5, s.f6⟩ rfl)
end
section
open Go.Proofs.YtpedagpcblnnhaaGreatY
set_option maxRecDepth 100000
theorem pend.at_ (w0 : World) (b : Nat) (v : Value) (W : World) (hT : Turn (fun i => i = b) w0 W) :
    Calls Tryz.prog 42 #[.pointer (some ⟨b, 0, none⟩), v] W fun e w' => PDone w0 b (.error 17) e w' := by
  go_enter Tryz.func42, Tryz.ntmps42
  go_wp2_with (first | (go_at_call 36; (with_reducible refine (must_no 17 _).mono ?_); rintro e_ w_ ⟨rfl, rfl⟩))
  exact ⟨rfl, PDone.err hT⟩
end
end Go.Proofs.YtpedagpcblnnhaaGreat.X
