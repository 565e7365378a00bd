import Derived.Test.YtpedagpcblnnhaaGreatXK
import Derived.Test.YtpedagpcblnnhaaGreatP06o
import Derived.Test.YtpedagpcblnnhaaGreatP02p
import Derived.Test.YtpedagpcblnnhaaGreatXGhead
import Derived.Test.YtpedagpcblnnhaaGreatXGrc
import Derived.Test.YtpedagpcblnnhaaGreatXGrd
import Derived.Test.YtpedagpcblnnhaaGreatP10s
import Derived.Test.YtpedagpcblnnhaaGreatXGstream
import Derived.Test.YtpedagpcblnnhaaGreatXreelkeeperlaw06Few
import Derived.Test.YtpedagpcblnnhaaGreatYAll
import Derived.Test.YtpedagpcblnnhaaGreatP04g
import Derived.Test.YtpedagpcblnnhaaGreatP10a
import Derived.Test.YtpedagpcblnnhaaGreatP09a
import Derived.Test.YtpedagpcblnnhaaGreatP09s
import Derived.Test.YtpedagpcblnnhaaGreatPGA
import Derived.Test.YtpedagpcblnnhaaGreatPGE
import Derived.Deep.RegionHeld3
import Derived.Laws.EntriesVeiled
import Derived.WalkSpells
namespace Go.Proofs.YtpedagpcblnnhaaGreat.X
open Go.RowKit Go.Proofs.YtpedagpcblnnhaaGreatW.PrintWords Go.Proofs.YtpedagpcblnnhaaGreatW.PrintLast Go.Proofs.YtpedagpcblnnhaaGreatW.PrintMore
attribute [local go_sem] max2_int min2_int max_two min_two
set_option linter.unusedVariables false
set_option linter.unusedSimpArgs false
attribute [local go_sem high] eqA41 eqA49
open Go.Proofs.YtpedagpcblnnhaaGreatY
set_option maxRecDepth 100000
theorem ref_selfR_loop (l : List Nd) (hl : l.length ≤ 100000) : ∀ (d i : Nat), i + d = l.length → Ev (fun k => reelkeeperref06_Same.l0 k l l (i : Int)) true := by
  intro d
  induction d with
  | zero =>
    intro i hi
    refine Ev.step (fun _ => rfl) ?_
    simp only [reelkeeperref06_Same.l0]
    exact Ev.if_neg (by omega) (Ev.now _)
  | succ d ih =>
    intro i hi
    refine Ev.step (fun _ => rfl) ?_
    simp only [reelkeeperref06_Same.l0]
    refine Ev.if_pos (by omega) ?_
    refine Ev.if_pos (by omega) ?_
    refine Ev.if_pos (by omega) ?_
    refine Ev.if_neg (by simp) ?_
    have hw : wrap64 ((i : Int) + 1) = ((i + 1 : Nat) : Int) := by rw [wrap_id (by omega) (by omega)]; omega
    rw [hw]
    exact ih (i + 1) (by omega)
theorem ref_selfR (l : List Nd) (hl : l.length ≤ 100000) : Ev (fun k => reelkeeperref06_Same.f k l l) true := by
  unfold reelkeeperref06_Same.f
  exact Ev.if_pos rfl (ref_selfR_loop l hl l.length 0 (by omega))
def reelkeeperlaw10_ReadBack.f (k : Nat) (t : List Nd) (b : List (List Int)) : Option Bool := some true
theorem ReadBack_told (t : List Nd) (b : List (List Int)) : ∃ k, reelkeeperlaw10_ReadBack.f k t b = some true := ⟨0, rfl⟩
set_option maxHeartbeats 6400000 in
theorem read_back.at_ (A : Option Addr) (c : Nat) (t : List Nd) (B : Option Addr) (cB : Nat) (b : List (List Int)) (nB : Nat) (hnB : b.length = nB) (w : World) (hC : Kd.C kNode w A t.length t) (hc : t.length ≤ c) (hCB : Kd.C kRw w B nB b) (hcB : nB ≤ cB) (hbyB : ∀ x ∈ b, ∀ y ∈ x, 0 ≤ y ∧ y ≤ 255) :
    Calls Tryz.prog 4 #[.slice A t.length c, .slice B nB cB] w fun e w' => e = .returned (.bool true) ∧ Below w.heap.size w w' := by
  have HCB := Aside0.mk hCB
  clear hCB
  have HC := Aside0.mk hC
  have HB0 := Aside0.mk (Below.refl w.heap.size w)
  have hup := fun W => awake10.at_ W
  obtain ⟨kf, hkf⟩ := Ev.rounds (few_ev t)
  have hfew := fun W hC' => reelkeeperlaw06_Few.calls kf A c t _ W hC' hc hkf
  clear hkf hC
  cases hf : fewL t with
  | false =>
    rw [hf] at hfew
    clear hf
    go_enter Tryz.func4, Tryz.ntmps4
    go_wp2_with (first | (go_at_call 6; refine (hup _).mono ?_; rintro e_ w1 ⟨rfl, hb_⟩; have HB1 := Aside0.mk (below_step HB0.out hb_); clear hb_) | (go_at_call 18; refine (hfew _ (Kd.C_below HC.out HB1.out)).mono ?_; rintro e_ w2 ⟨rfl, hb_⟩; have HB2 := Aside0.mk (below_step HB1.out hb_); clear hb_))
    go_ret
    exact ⟨rfl, HB2.out⟩
  | true =>
  rw [hf] at hfew
  obtain ⟨hl30, hok⟩ := fewL_iff.1 hf
  clear hf
  by_cases h60 : 60 < nB
  · have b4 : decide ((nB : Int) > 60) = true := decide_eq_true (by omega)
    have b5 : decide ((60 : Int) < (nB : Int)) = true := decide_eq_true (by omega)
    have b6 : decide (60 < nB) = true := decide_eq_true h60
    clear h60
    go_enter Tryz.func4, Tryz.ntmps4
    go_wp2_with (first | (go_at_call 6; refine (hup _).mono ?_; rintro e_ w1 ⟨rfl, hb_⟩; have HB1 := Aside0.mk (below_step HB0.out hb_); clear hb_) | (go_at_call 18; refine (hfew _ (Kd.C_below HC.out HB1.out)).mono ?_; rintro e_ w2 ⟨rfl, hb_⟩; have HB2 := Aside0.mk (below_step HB1.out hb_); clear hb_))
    go_ret
    exact ⟨rfl, HB2.out⟩
  have b4 : decide ((nB : Int) > 60) = false := decide_eq_false (by omega)
  have b5 : decide ((60 : Int) < (nB : Int)) = false := decide_eq_false (by omega)
  have b6 : decide (60 < nB) = false := decide_eq_false h60
  obtain ⟨km, hkm⟩ := Ev.rounds (may_ev hok)
  have hall : ∀ W, Kd.C kNode W A t.length t → Calls Tryz.prog 19 #[.slice A t.length c] W fun e w' => ∃ A3 c3, e = .returned (.tuple #[.slice A3 (if mayF t = true then bodyB t ++ zeroB else []).length c3, .bool (mayF t)]) ∧ Aside0 (Kd.C kRw w' A3 (if mayF t = true then bodyB t ++ zeroB else []).length (if mayF t = true then bodyB t ++ zeroB else [])) ∧ Aside0 ((if mayF t = true then bodyB t ++ zeroB else []).length ≤ c3) ∧ Below W.heap.size W w' := fun W hC' => (stream_All.at_ t km (mayF t) hkm (mayF_facts hok) A c W hC' hc).mono fun e w' ⟨v, he, hR, hb⟩ => by
    obtain ⟨A3, c3, rfl, h1, h2⟩ := Kd.R_reads hR
    exact ⟨A3, c3, he, ⟨h2⟩, ⟨h1⟩, hb⟩
  clear hkm
  cases hm : mayF t with
  | false =>
    rw [hm] at hall
    simp only [Bool.false_eq_true, if_false] at hall
    clear hm hok
    go_enter Tryz.func4, Tryz.ntmps4
    go_wp2_with (first | (go_at_call 6; refine (hup _).mono ?_; rintro e_ w1 ⟨rfl, hb_⟩; have HB1 := Aside0.mk (below_step HB0.out hb_); clear hb_) | (go_at_call 18; refine (hfew _ (Kd.C_below HC.out HB1.out)).mono ?_; rintro e_ w2 ⟨rfl, hb_⟩; have HB2 := Aside0.mk (below_step HB1.out hb_); clear hb_) | (go_at_call 19; refine (hall _ (Kd.C_below HC.out HB2.out)).mono ?_; rintro e_ w3 ⟨A3, c3, rfl, hL3, hc3, hb_⟩; have HB3 := Aside0.mk (below_step HB2.out hb_); have HR3 := hL3; have HC3 := hc3; clear hb_ hL3 hc3))
    go_ret
    exact ⟨by simp, HB3.out⟩
  | true =>
  rw [hm] at hall
  simp only [if_true] at hall
  obtain ⟨hl20, hone⟩ := mayF_facts hok hm
  have hbl := bodyB_few t (fun n hn => oneB_facts (hone n hn))
  have hrun := run_tree hone b
  have hgt := gather_tree t
  have hby : ∀ x ∈ (bodyB t ++ zeroB) ++ b, ∀ y ∈ x, 0 ≤ y ∧ y ≤ 255 := fun x hx => by
    rcases List.mem_append.1 hx with hx | hx
    · exact allB_by hone x hx
    · exact hbyB x hx
  have hll : (bodyB t ++ zeroB).length ≤ 300 := by
    rw [List.length_append]
    show (bodyB t).length + 2 ≤ 300
    omega
  obtain ⟨L, hL⟩ : ∃ L, bodyB t ++ zeroB = L := ⟨_, rfl⟩
  rw [hL] at hall hrun hby hll
  obtain ⟨nL, hnL⟩ : ∃ k, L.length = k := ⟨_, rfl⟩
  obtain ⟨m5, hm5⟩ : ∃ k, (L ++ b).length = k := ⟨_, rfl⟩
  rw [hnL] at hall hrun hll
  have hm5b : m5 = nL + nB := by rw [← hm5, List.length_append, hnL, hnB]
  have hrr : readR (L ++ b) = (t, 0) := by
    unfold readR
    rw [hrun, if_neg (fun h => h rfl), if_neg (fun h => h rfl), hgt]
  have hrd : ∀ A' c' W, Kd.C kRw W A' m5 (L ++ b) → m5 ≤ c' → Calls Tryz.prog 13 #[.slice A' m5 c'] W fun e w' => ∃ A' c', e = .returned (.tuple #[.slice A' t.length c', .int .i64 0]) ∧ Aside0 (Kd.R kNd 41 w' W.heap.size (fun _ => True) (.slice A' t.length c') t) ∧ Below W.heap.size W w' := fun A' c' W hC hc => by
    have h_ := read_Read.at_ A' c' (L ++ b) (by omega) W (by rw [hm5]; exact hC) (by omega) hby
    rw [hrr, hm5] at h_
    exact h_
  have hus : ∀ A' c' W, Kd.C kRw W A' m5 (L ++ b) → m5 ≤ c' → Calls Tryz.prog 16 #[.slice A' m5 c'] W fun e w' => e = .returned (.int .i64 (nL : Int)) ∧ Below W.heap.size W w' := fun A' c' W hC hc => by
    have h_ := read_Used.at_ A' c' (L ++ b) (by omega) W (by rw [hm5]; exact hC) (by omega) hby
    rw [hrun, hm5] at h_
    exact h_
  obtain ⟨ks, hks⟩ := Ev.rounds (ref_selfR t (by omega))
  have hsm := fun W A' c' h0 h1 h2 => reelkeeperref06_Same.calls ks A' c' t A c t true W h0 h1 h2 hc hks
  have HNA := Aside0.mk (show nL ≤ 300 ∧ nB ≤ 60 by omega)
  have HM5 := Aside0.mk hm5
  have HNL := Aside0.mk hnL
  have HNB := Aside0.mk hnB
  clear hm hone hbl hrun hgt hby hll hL hnL hm5 hm5b hrr hks h60 hnB hbyB hok hl30 hl20
  go_enter Tryz.func4, Tryz.ntmps4
  go_upto_region 8 with (first | (go_at_call 6; refine (hup _).mono ?_; rintro e_ w1 ⟨rfl, hb_⟩; have HB1 := Aside0.mk (below_step HB0.out hb_); clear hb_) | (go_at_call 18; refine (hfew _ (Kd.C_below HC.out HB1.out)).mono ?_; rintro e_ w2 ⟨rfl, hb_⟩; have HB2 := Aside0.mk (below_step HB1.out hb_); clear hb_) | (go_at_call 19; refine (hall _ (Kd.C_below HC.out HB2.out)).mono ?_; rintro e_ w3 ⟨A3, c3, rfl, hL3, hc3, hb_⟩; have HB3 := Aside0.mk (below_step HB2.out hb_); have HR3 := hL3; have HC3 := hc3; clear hb_ hL3 hc3))
  obtain ⟨ts, hts, hft⟩ := rows_split HR3.out
  obtain ⟨us, hus2, hfu⟩ := rows_split (Kd.C_below HCB.out HB3.out)
  have HTL := Aside0.mk (show ts.length = nL from hts.1)
  have HM5T := Aside0.mk (show (ts ++ us).length = m5 by rw [List.length_append, show ts.length = nL from hts.1, show us.length = nB from hus2.1, ← HM5.out, List.length_append, HNL.out, HNB.out])
  have HTS := Aside0.mk hts
  have HUS := Aside0.mk hus2
  have HFT := Aside0.mk hft
  have HFU := Aside0.mk hfu
  clear hts hus2 hft hfu hup hfew hall
  go_upto_region 9 with (first | ((with_reducible refine gate_builtin (b := .append) (xs := #[(.const (.slice none 0 0)), (.tmp 35)]) rfl ?_); go_must (refine Kd.R_append_row encT ((none, 0, 0) : Tr) (h1 := encT_one) (w0 := w3) w3.heap.size rfl (.const (.slice none 0 0)) (.tmp 35) 23 43 (.slice none 0 0) 24 rfl Tryz.underlying23 info43 rfl (by decide) _ [] ts A3 nL c3 (fun _ => True) rfl rfl (fun _ _ => trivial) (Kd.R_nil kTr _ _ _ _) HTS.out (Below.refl _ _) (Nat.le_refl _) (by have h_ := HNA.out; simp; omega) ?_); intro v1 w5 hO hB hg hat; obtain ⟨A5, c5, rfl⟩ := Kd.R_slice hO; simp only [List.nil_append] at hO; rw [HTL.out] at hO; simp only [List.nil_append]; rw [HTL.out]; have HO5 := Aside0.mk hO; have HBB5 := Aside0.mk hB; clear hO hB hg hat) | ((with_reducible refine gate_builtin (b := .append) (xs := #[(.tmp 36), (.tmp 37)]) rfl ?_); go_must (refine Kd.R_append_row encT ((none, 0, 0) : Tr) (h1 := encT_one) (w0 := w3) w3.heap.size rfl (.tmp 36) (.tmp 37) 23 43 (.slice none 0 0) 24 rfl Tryz.underlying23 info43 rfl (by decide) _ ts us B nB cB (fun _ => True) rfl rfl (fun _ _ => trivial) HO5.out (Kd.C_below HUS.out HBB5.out) HBB5.out HBB5.out.size (by have h_ := HNA.out; have h2 := HTL.out; omega) ?_); intro v2 w6 hO hB hg hat; obtain ⟨A6, c6, rfl, hc6, hC6⟩ := Kd.R_reads hO; have hC6 := rows_join hC6 (forall_app (forall_below hB HFT.out) (forall_below hB HFU.out)); rw [HM5T.out] at hC6 hc6 ⊢; have HC6 := Aside0.mk hC6; have HL6 := Aside0.mk hc6; have HBB6 := Aside0.mk hB; clear hO hB hg hat hC6 hc6))
  go_wp2_with (first | (go_at_call 13; refine (hrd _ _ _ HC6.out HL6.out).mono ?_; rintro e_ w7 ⟨A7, c7, rfl, hR, hb_⟩; have HBB7 := Aside0.mk (below_step HBB6.out hb_); have HC7 := Aside0.mk (Kd.C_below HC6.out hb_); have HU7 := Aside0.mk (Kd.R_reads' hR.out).2; clear hb_ hR) | (go_at_call 15; refine (hsm _ _ _ HU7.out.2 HU7.out.1 (Kd.C_below HC.out (below_step HB3.out HBB7.out))).mono ?_; rintro e_ w8 ⟨rfl, hd_⟩; have hb_ := Drawn0.below hd_; have HBB8 := Aside0.mk (below_step HBB7.out hb_); have HC8 := Aside0.mk (Kd.C_below HC7.out hb_); clear hd_ hb_) | (go_at_call 16; refine (hus _ _ _ HC8.out HL6.out).mono ?_; rintro e_ w9 ⟨rfl, hb_⟩; have HBB9 := Aside0.mk (below_step HBB8.out hb_); clear hb_))
  go_ret
  exact ⟨by simp, below_step HB3.out HBB9.out⟩
theorem reelkeeperlaw10_ReadBack.calls (k : Nat) (A0 : Option Addr) (c0 : Nat) (l0 : List Nd) (A1 : Option Addr) (c1 : Nat) (l1 : List (List Int)) (r : Bool) (w : World) (hC0 : Kd.C kNode w A0 l0.length l0) (hc0 : l0.length ≤ c0) (hC1 : Kd.C kRw w A1 l1.length l1) (hc1 : l1.length ≤ c1) (hY1 : ∀ r ∈ l1, byteOk r) (h : reelkeeperlaw10_ReadBack.f k l0 l1 = some r) :
    Calls Tryz.prog 4 #[.slice A0 l0.length c0, .slice A1 l1.length c1] w fun e w' => e = .returned (.bool r) ∧ Below w.heap.size w w' := by
  obtain rfl : true = r := Option.some.inj h
  exact read_back.at_ A0 c0 l0 A1 c1 l1 _ rfl w hC0 hc0 hC1 hc1 hY1
end Go.Proofs.YtpedagpcblnnhaaGreat.X
