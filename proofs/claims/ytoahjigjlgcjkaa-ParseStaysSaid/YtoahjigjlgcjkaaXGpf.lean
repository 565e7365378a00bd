import Derived.Test.YtoahjigjlgcjkaaXK
import Derived.Test.YtoahjigjlgcjkaaXGget
import Derived.Test.YtoahjigjlgcjkaaXGlong
import Derived.Test.YtoahjigjlgcjkaaXGnum
import Derived.Test.YtoahjigjlgcjkaaXGpb
import Derived.Test.YtoahjigjlgcjkaaXGpc
import Derived.Test.YtoahjigjlgcjkaaXGpd
import Derived.Test.YtoahjigjlgcjkaaXGtrim
import Derived.Test.YtoahjigjlgcjkaaYAll
import Derived.Test.YtoahjigjlgcjkaaP04g
import Derived.Test.YtoahjigjlgcjkaaPGA
import Derived.Test.YtoahjigjlgcjkaaPGE
import Derived.Deep.RegionHeld3
import Derived.Laws.EntriesVeiled
import Derived.WalkSpells
namespace Go.Proofs.Ytoahjigjlgcjkaa.X
open Go.RowKit Go.Proofs.YtoahjigjlgcjkaaW.PrintWords Go.Proofs.YtoahjigjlgcjkaaW.PrintLast Go.Proofs.YtoahjigjlgcjkaaW.PrintMore
attribute [local go_sem] max2_int min2_int max_two min_two
set_option linter.unusedVariables false
set_option linter.unusedSimpArgs false

open Go.Proofs.YtoahjigjlgcjkaaY
set_option maxRecDepth 100000
theorem bytes_take {w : World} {A : Option Addr} {l : List Int} (c : Nat) (h : Kd.C (Kd.int .u8) w A l.length l) (hc : l.length ≤ c) (m : Nat) (hm : m ≤ l.length) :
    (∀ W, (Instr.slice 26 (.slice A l.length c) none (some (.int .i64 (m : Int))) none).run Try.prog W = .ok (.slice A m c) W) ∧ Kd.C (Kd.int .u8) w A m (l.take m) := by
  obtain ⟨i0, hi0, _, hsz, _⟩ := info_parts info5
  have hcut := cut_to (P := Try.prog) 26 5 .i64 Try.underlying26 hi0 A l.length c (m : Int) (by omega) (by omega) hc
  have hC := Kd.C_take h hm
  have hl : (l.take m).length = m := by rw [List.length_take]; omega
  simp only [Int.toNat_natCast] at hcut
  rw [hl] at hC
  exact ⟨hcut, hC⟩
theorem bytes_drop {w : World} {A : Option Addr} {l : List Int} (c : Nat) (h : Kd.C (Kd.int .u8) w A l.length l) (hc : l.length ≤ c) (m : Nat) (hm : m ≤ l.length) :
    ∃ A2 c2, (∀ W, (Instr.slice 26 (.slice A l.length c) (some (.int .i64 (m : Int))) none none).run Try.prog W = .ok (.slice A2 (l.drop m).length c2) W) ∧ Kd.C (Kd.int .u8) w A2 (l.drop m).length (l.drop m) ∧ (l.drop m).length ≤ c2 := by
  obtain ⟨i0, hi0, _, hsz, _⟩ := info_parts info5
  have hcut := cut_from (P := Try.prog) 26 5 .i64 Try.underlying26 hi0 1 hsz A l.length c (m : Int) (by omega) (by omega)
  have hC := Kd.C_drop h hm hc
  simp only [Int.toNat_natCast] at hcut
  have hl : (l.drop m).length = l.length - m := List.length_drop
  refine ⟨_, c - m, ?_, hC, ?_⟩
  · rw [hl]; exact hcut
  · rw [hl]; omega
def dataP (s : Pst) (x : List Int) (l : List Evt) : Except Int (Pst × List Evt) :=
  if s.f3 ≤ 512 then .ok (st0, (l ++ [⟨1, nd00, strOfNums (x.take s.f3.toNat)⟩]) ++ [evOver])
  else .ok (⟨s.f0, s.f1, s.f2, s.f3 - 512, s.f4, s.f5, s.f6⟩, l ++ [⟨1, nd00, strOfNums (x.take 512)⟩])
set_option maxHeartbeats 3200000 in
theorem pdata.at_ (w0 : World) (b : Nat) (s : Pst) (l : List Evt) (A : Option Addr) (c : Nat) (B : Option Addr) (d : Nat) (x : List Int) (W : World) (hl : l.length ≤ 500) (h1 : 1 ≤ s.f3) (h2 : s.f3 ≤ 4000) (G : PAt w0 b s l A c W) (hC : Kd.C (Kd.int .u8) W B x.length x) (hd : x.length ≤ d) (hx : x.length = 512) (hby : ∀ y ∈ x, 0 ≤ y ∧ y ≤ 255) :
    Calls Try.prog 28 #[.pointer (some ⟨b, 0, none⟩), .slice B x.length d] W fun e w' => PDone w0 b (dataP s x l) e w' := by
  obtain ⟨f0, n, f2, f3, f4, f5, f6⟩ := s
  obtain ⟨m, rfl⟩ : ∃ m : Nat, f3 = (m : Int) := ⟨f3.toNat, by simp only at h1; omega⟩
  simp only at h1 h2
  have HG := Aside0.mk G
  have HC := Aside0.mk hC
  obtain ⟨res, hres⟩ : ∃ res, dataP ⟨f0, n, f2, (m : Int), f4, f5, f6⟩ x l = res := ⟨_, rfl⟩
  rw [hres]
  unfold dataP at hres
  simp only [Int.toNat_natCast] at hres
  clear hby
  by_cases h5 : m ≤ 512
  · have k1 : decide ((512 : Int) < (m : Int)) = false := decide_eq_false (by omega)
    have k2 : (m : Int) ≤ 512 := by omega
    obtain ⟨hs1, hs2⟩ := bytes_take d hC hd m (by omega)
    have hcv := fun n => Kd.C_string (P := Try.prog) (A := B) (c := d) Try.underlying26 Try.underlying5 Try.underlying9 (Kd.C_drewN hs2 n)
    have hcv0 := Kd.C_string (P := Try.prog) (A := B) (c := d) Try.underlying26 Try.underlying5 Try.underlying9 hs2
    have hte := fun W G => tell.at_ w0 b ⟨f0, n, f2, (m : Int), f4, f5, f6⟩ l A c ⟨1, nd00, strOfNums (x.take m)⟩ (by omega) W G
    have g1 : IntKind.i64.wrap ((m : Int) - (m : Int)) = 0 := by rw [i64_w, wrap_id (by omega) (by omega)]; omega
    rw [if_pos k2] at hres
    generalize strOfNums (x.take m) = T at *
    clear hC G h5
    have z10 := (HG.out.cell 10).trans (show _ = some (Value.int .i64 (m : Int)) from rfl)
    go_enter Try.func28, Try.ntmps28
    go_upto_region 2 with (first | (go_at_call 53; (refine (hte _ HG.out).mono ?_); rintro e_ w1 ⟨rfl, A1, c1, G1, _⟩; have HG1 := Aside0.mk G1; clear G1 z10))
    have z10 := (HG1.out.cell 10).trans (show _ = some (Value.int .i64 (m : Int)) from rfl)
    have y10 := HG1.out.frozen 10
    go_upto_region 3 with (fail)
    have HG2 := Aside0.mk (HG1.out.set 10 (.int .i64 0) ⟨f0, n, f2, 0, f4, f5, f6⟩ rfl)
    have hov := fun W G => over.at_ w0 b ⟨f0, n, f2, 0, f4, f5, f6⟩ (l ++ [⟨1, nd00, T⟩]) A1 c1 (by rw [List.length_append, List.length_singleton]; omega) W G
    go_wp2_with (first | (go_at_call 54; (with_reducible refine (hov _ HG2.out).mono ?_); rintro e_ w3 ⟨rfl, A3, c3, G3⟩))
    go_end0
    subst hres
    exact PDone.done (G3)
  · have k1 : decide ((512 : Int) < (m : Int)) = true := decide_eq_true (by omega)
    have k2 : ¬ (m : Int) ≤ 512 := by omega
    obtain ⟨hs1, hs2⟩ := bytes_take d hC hd 512 (by omega)
    have hcv0 := Kd.C_string (P := Try.prog) (A := B) (c := d) Try.underlying26 Try.underlying5 Try.underlying9 hs2
    have hte := fun W G => tell.at_ w0 b ⟨f0, n, f2, (m : Int), f4, f5, f6⟩ l A c ⟨1, nd00, strOfNums (x.take 512)⟩ (by omega) W G
    obtain ⟨q, hq⟩ : ∃ q : Int, (m : Int) - 512 = q := ⟨_, rfl⟩
    have g1 : IntKind.i64.wrap ((m : Int) - 512) = q := by rw [i64_w, wrap_id (by omega) (by omega)]; exact hq
    have g2 : (q == 0) = false := beq_eq_false_iff_ne.2 (by omega)
    rw [if_neg k2, hq] at hres
    generalize strOfNums (x.take 512) = T at *
    clear hC G h5 hq
    have z10 := (HG.out.cell 10).trans (show _ = some (Value.int .i64 (m : Int)) from rfl)
    go_enter Try.func28, Try.ntmps28
    go_upto_region 2 with (first | (go_at_call 53; (refine (hte _ HG.out).mono ?_); rintro e_ w1 ⟨rfl, A1, c1, G1, _⟩; have HG1 := Aside0.mk G1; clear G1 z10))
    have z10 := (HG1.out.cell 10).trans (show _ = some (Value.int .i64 (m : Int)) from rfl)
    have y10 := HG1.out.frozen 10
    go_wp2_with (fail)
    go_end0
    subst hres
    exact PDone.done (HG1.out.set 10 (.int .i64 q) ⟨f0, n, f2, q, f4, f5, f6⟩ rfl)
end Go.Proofs.Ytoahjigjlgcjkaa.X
namespace Go.Proofs.Ytoahjigjlgcjkaa.X
open Go.RowKit Go.Proofs.YtoahjigjlgcjkaaW.PrintWords Go.Proofs.YtoahjigjlgcjkaaW.PrintLast Go.Proofs.YtoahjigjlgcjkaaW.PrintMore
attribute [local go_sem] max2_int min2_int max_two min_two
set_option linter.unusedVariables false
set_option linter.unusedSimpArgs false

open Go.Proofs.YtoahjigjlgcjkaaY
set_option maxRecDepth 100000
def nameP (s : Pst) (x : List Int) (l : List Evt) : Except Int (Pst × List Evt) :=
  if (endsZ (strOfNums (x.take s.f2.toNat)) && (textB (cutZ (strOfNums (x.take s.f2.toNat))) && (x.drop s.f2.toNat).all (fun c => c == 0))) = true then
    (if s.f0 = 1 then .ok (⟨0, s.f1, 0, 0, s.f4, cutZ (strOfNums (x.take s.f2.toNat)), s.f6⟩, l) else .ok (⟨0, s.f1, 0, 0, s.f4, s.f5, cutZ (strOfNums (x.take s.f2.toNat))⟩, l))
  else .error 2
set_option maxHeartbeats 3200000 in
theorem pname.at_ (w0 : World) (b : Nat) (s : Pst) (l : List Evt) (A : Option Addr) (c : Nat) (B : Option Addr) (d : Nat) (x : List Int) (W : World) (h1 : 2 ≤ s.f2) (h2 : s.f2 ≤ 301) (G : PAt w0 b s l A c W) (hC : Kd.C (Kd.int .u8) W B x.length x) (hd : x.length ≤ d) (hx : x.length = 512) (hby : ∀ y ∈ x, 0 ≤ y ∧ y ≤ 255) :
    Calls Try.prog 27 #[.pointer (some ⟨b, 0, none⟩), .slice B x.length d] W fun e w' => PDone w0 b (nameP s x l) e w' := by
  obtain ⟨f0, n, f2, f3, f4, f5, f6⟩ := s
  obtain ⟨m, rfl⟩ : ∃ m : Nat, f2 = (m : Int) := ⟨f2.toNat, by simp only at h1; omega⟩
  simp only at h1 h2
  have HG := Aside0.mk G
  obtain ⟨res, hres⟩ : ∃ res, nameP ⟨f0, n, (m : Int), f3, f4, f5, f6⟩ x l = res := ⟨_, rfl⟩
  rw [hres]
  unfold nameP at hres
  simp only [Int.toNat_natCast] at hres
  clear hby
  obtain ⟨hs1, hs2⟩ := bytes_take d hC hd m (by omega)
  obtain ⟨B2, d2, ht1, ht2, ht3⟩ := bytes_drop d hC hd m (by omega)
  have hcv0 := Kd.C_string (P := Try.prog) (A := B) (c := d) Try.underlying26 Try.underlying5 Try.underlying9 hs2
  have hcu := fun W => CutSuffix_z.at_ (strOfNums (x.take m)) (by rw [strOfNums_size, List.length_take]; omega) W
  have hlt := fun W => long_Text.calls (cutZ (strOfNums (x.take m))) _ W (long_text _)
  have hz := fun W hC => block_Zero.calls B2 d2 (x.drop m) _ W hC ht3 (show block_Zero.f (x.drop m) = some ((x.drop m).all (fun c => c == 0)) from rfl)
  have HT := Aside0.mk ht2
  have HDL := Aside0.mk (show (x.drop m).length = x.length - m from List.length_drop)
  generalize endsZ (strOfNums (x.take m)) = E1 at *
  generalize cutZ (strOfNums (x.take m)) = T at *
  generalize strOfNums (x.take m) = T0 at *
  generalize textB T = E2 at *
  generalize x.drop m = y at *
  generalize y.all (fun c => c == 0) = E3 at *
  have m0 : (0 : Int) ≤ (m : Int) := by omega
  have z2 := (HG.out.cell 9).trans (show _ = some (Value.int .i64 (m : Int)) from rfl)
  clear hC G hs2 ht2 ht3 hx HDL
  go_enter Try.func27, Try.ntmps27
  go_upto_region 1 with (first | (go_at_call 51; (with_reducible refine (hcu _).mono ?_); rintro e_ w1 ⟨rfl, rfl⟩))
  cases E1 with
  | false =>
    rw [Bool.false_and, if_neg (by decide)] at hres
    go_wp2_with (first | (go_at_call 25; (with_reducible refine (must_no 2 _).mono ?_); rintro e_ w_ ⟨rfl, rfl⟩))
    subst hres
    exact ⟨rfl, PDone.err HG.out.turn⟩
  | true =>
    rw [Bool.true_and] at hres
    cases E2 with
    | false =>
      rw [Bool.false_and, if_neg (by decide)] at hres
      go_wp2_with (first | (go_at_call 52; (with_reducible refine (hlt _).mono ?_); rintro e_ w1 ⟨rfl, hd_⟩; have hb_ := Drawn0.below hd_; have HG1 := Aside0.mk (HG.out.step hb_); have HT1 := Aside0.mk (Kd.C_below HT.out hb_); have z2b := (HG1.out.cell 9).trans (show _ = some (Value.int .i64 (m : Int)) from rfl); clear hd_ hb_) | (go_at_call 25; (with_reducible refine (must_no 2 _).mono ?_); rintro e_ w_ ⟨rfl, rfl⟩))
      subst hres
      exact ⟨rfl, PDone.err HG1.out.turn⟩
    | true =>
      rw [Bool.true_and] at hres
      cases E3 with
      | false =>
        rw [if_neg (by decide)] at hres
        go_wp2_with (first | (go_at_call 52; (with_reducible refine (hlt _).mono ?_); rintro e_ w1 ⟨rfl, hd_⟩; have hb_ := Drawn0.below hd_; have HG1 := Aside0.mk (HG.out.step hb_); have HT1 := Aside0.mk (Kd.C_below HT.out hb_); have z2b := (HG1.out.cell 9).trans (show _ = some (Value.int .i64 (m : Int)) from rfl); clear hd_ hb_) | (go_at_call 23; (refine (hz _ HT1.out).mono ?_); rintro e_ w2 ⟨rfl, hd_⟩; have hb_ := Drawn0.below hd_; have HG2 := Aside0.mk (HG1.out.step hb_); clear hd_ hb_) | (go_at_call 25; (with_reducible refine (must_no 2 _).mono ?_); rintro e_ w_ ⟨rfl, rfl⟩))
        subst hres
        exact ⟨rfl, PDone.err HG2.out.turn⟩
      | true =>
        rw [if_pos rfl] at hres
        go_upto_region 2 with (first | (go_at_call 52; (with_reducible refine (hlt _).mono ?_); rintro e_ w1 ⟨rfl, hd_⟩; have hb_ := Drawn0.below hd_; have HG1 := Aside0.mk (HG.out.step hb_); have HT1 := Aside0.mk (Kd.C_below HT.out hb_); have z2b := (HG1.out.cell 9).trans (show _ = some (Value.int .i64 (m : Int)) from rfl); clear hd_ hb_) | (go_at_call 23; (refine (hz _ HT1.out).mono ?_); rintro e_ w2 ⟨rfl, hd_⟩; have hb_ := Drawn0.below hd_; have HG2 := Aside0.mk (HG1.out.step hb_); clear hd_ hb_) | (go_at_call 25; (with_reducible refine (must_yes 2 _).mono ?_); rintro e_ w_ ⟨rfl, rfl⟩))
        have z0 := (HG2.out.cell 0).trans (show _ = some (Value.int .i64 f0) from rfl)
        clear z2
        by_cases hp : f0 = 1
        · subst hp
          rw [if_pos rfl] at hres
          have z5 := (HG2.out.cell 12).trans (show _ = some (Value.string f5) from rfl)
          have y5 := HG2.out.frozen 12
          go_upto_region 5 with (fail)
          have HG3 := Aside0.mk (HG2.out.set 12 (.string T) ⟨1, n, (m : Int), f3, f4, T, f6⟩ rfl)
          clear z0 z5 y5
          obtain ⟨W3, hW3⟩ : ∃ W', w2.setCell ⟨b, 12, none⟩ (.string T) = W' := ⟨_, rfl⟩
          rw [hW3] at HG3 ⊢
          clear hW3
          have z0 := (HG3.out.cell 0).trans (show _ = some (Value.int .i64 1) from rfl)
          have z9 := (HG3.out.cell 9).trans (show _ = some (Value.int .i64 (m : Int)) from rfl)
          have z10 := (HG3.out.cell 10).trans (show _ = some (Value.int .i64 f3) from rfl)
          have y0 := HG3.out.frozen 0
          have y9 := HG3.out.frozen 9
          have y10 := HG3.out.frozen 10
          go_wp2_with (fail)
          go_end0
          subst hres
          exact PDone.done (((HG3.out.set 0 (.int .i64 0) ⟨0, n, (m : Int), f3, f4, T, f6⟩ rfl).set 9 (.int .i64 0) ⟨0, n, 0, f3, f4, T, f6⟩ rfl).set 10 (.int .i64 0) ⟨0, n, 0, 0, f4, T, f6⟩ rfl)
        · have hp1 : (f0 == 1) = false := beq_eq_false_iff_ne.2 hp
          rw [if_neg (show ¬ f0 = 1 from hp)] at hres
          have z5 := (HG2.out.cell 13).trans (show _ = some (Value.string f6) from rfl)
          have y5 := HG2.out.frozen 13
          clear hp
          go_upto_region 5 with (fail)
          have HG3 := Aside0.mk (HG2.out.set 13 (.string T) ⟨f0, n, (m : Int), f3, f4, f5, T⟩ rfl)
          clear z0 z5 y5
          obtain ⟨W3, hW3⟩ : ∃ W', w2.setCell ⟨b, 13, none⟩ (.string T) = W' := ⟨_, rfl⟩
          rw [hW3] at HG3 ⊢
          clear hW3
          have z0 := (HG3.out.cell 0).trans (show _ = some (Value.int .i64 f0) from rfl)
          have z9 := (HG3.out.cell 9).trans (show _ = some (Value.int .i64 (m : Int)) from rfl)
          have z10 := (HG3.out.cell 10).trans (show _ = some (Value.int .i64 f3) from rfl)
          have y0 := HG3.out.frozen 0
          have y9 := HG3.out.frozen 9
          have y10 := HG3.out.frozen 10
          go_wp2_with (fail)
          go_end0
          subst hres
          exact PDone.done (((HG3.out.set 0 (.int .i64 0) ⟨0, n, (m : Int), f3, f4, f5, T⟩ rfl).set 9 (.int .i64 0) ⟨0, n, 0, f3, f4, f5, T⟩ rfl).set 10 (.int .i64 0) ⟨0, n, 0, 0, f4, f5, T⟩ rfl)

end Go.Proofs.Ytoahjigjlgcjkaa.X
namespace Go.Proofs.Ytoahjigjlgcjkaa.X
open Go.RowKit Go.Proofs.YtoahjigjlgcjkaaW.PrintWords Go.Proofs.YtoahjigjlgcjkaaW.PrintLast Go.Proofs.YtoahjigjlgcjkaaW.PrintMore
attribute [local go_sem] max2_int min2_int max_two min_two
set_option linter.unusedVariables false
set_option linter.unusedSimpArgs false

open Go.Proofs.YtoahjigjlgcjkaaY
set_option maxRecDepth 100000
def zeroP (s : Pst) (x : List Int) (l : List Evt) : Except Int (Pst × List Evt) := if x.all (fun c => c == 0) = true then .ok (⟨5, s.f1, s.f2, s.f3, s.f4, s.f5, s.f6⟩, l) else .error 2
set_option maxHeartbeats 1600000 in
theorem pzero.at_ (w0 : World) (b : Nat) (s : Pst) (l : List Evt) (A : Option Addr) (c : Nat) (B : Option Addr) (d : Nat) (x : List Int) (W : World) (G : PAt w0 b s l A c W) (hC : Kd.C (Kd.int .u8) W B x.length x) (hd : x.length ≤ d) (hx : x.length = 512) (hby : ∀ y ∈ x, 0 ≤ y ∧ y ≤ 255) :
    Calls Try.prog 29 #[.pointer (some ⟨b, 0, none⟩), .slice B x.length d] W fun e w' => PDone w0 b (zeroP s x l) e w' := by
  have hz := fun W hC => block_Zero.calls B d x _ W hC hd (show block_Zero.f x = some (x.all (fun c => c == 0)) from rfl)
  have HG := Aside0.mk G
  have HC := Aside0.mk hC
  obtain ⟨res, hres⟩ : ∃ res, zeroP s x l = res := ⟨_, rfl⟩
  rw [hres]
  unfold zeroP at hres
  generalize x.all (fun c => c == 0) = Z at *
  clear G hC hby hx
  go_enter Try.func29, Try.ntmps29
  cases Z with
  | false =>
    rw [if_neg (by decide)] at hres
    go_wp2_with (first | (go_at_call 23; (with_reducible refine (hz _ HC.out).mono ?_); rintro e_ w1 ⟨rfl, hd_⟩; have hb_ := Drawn0.below hd_; have HG1 := Aside0.mk (HG.out.step hb_); clear hd_ hb_) | (go_at_call 25; (with_reducible refine (must_no 2 _).mono ?_); rintro e_ w_ ⟨rfl, rfl⟩))
    subst hres
    exact ⟨rfl, PDone.err HG1.out.turn⟩
  | true =>
    rw [if_pos rfl] at hres
    go_upto_region 1 with (first | (go_at_call 23; (with_reducible refine (hz _ HC.out).mono ?_); rintro e_ w1 ⟨rfl, hd_⟩; have hb_ := Drawn0.below hd_; have HG1 := Aside0.mk (HG.out.step hb_); clear hd_ hb_) | (go_at_call 25; (with_reducible refine (must_yes 2 _).mono ?_); rintro e_ w_ ⟨rfl, rfl⟩))
    have y0 := HG1.out.frozen 0
    have z0 := (HG1.out.cell 0).trans (show _ = some (Value.int .i64 s.f0) from rfl)
    go_wp2_with (fail)
    go_end0
    subst hres
    exact PDone.done (HG1.out.set 0 (.int .i64 5) ⟨5, s.f1, s.f2, s.f3, s.f4, s.f5, s.f6⟩ rfl)
end Go.Proofs.Ytoahjigjlgcjkaa.X
namespace Go.Proofs.Ytoahjigjlgcjkaa.X
open Go.RowKit Go.Proofs.YtoahjigjlgcjkaaW.PrintWords Go.Proofs.YtoahjigjlgcjkaaW.PrintLast Go.Proofs.YtoahjigjlgcjkaaW.PrintMore
attribute [local go_sem] max2_int min2_int max_two min_two
set_option linter.unusedVariables false
set_option linter.unusedSimpArgs false

open Go.Proofs.YtoahjigjlgcjkaaY
set_option maxRecDepth 100000
theorem pend.at_ (w0 : World) (b : Nat) (v : Value) (W : World) (hT : Turn (fun i => i = b) w0 W) :
    Calls Try.prog 30 #[.pointer (some ⟨b, 0, none⟩), v] W fun e w' => PDone w0 b (.error 17) e w' := by
  go_enter Try.func30, Try.ntmps30
  go_wp2_with (first | (go_at_call 25; (with_reducible refine (must_no 17 _).mono ?_); rintro e_ w_ ⟨rfl, rfl⟩))
  exact ⟨rfl, PDone.err hT⟩
end Go.Proofs.Ytoahjigjlgcjkaa.X
