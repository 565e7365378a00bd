import Derived.Test.YtlecnodlnkanaaaXK
import Derived.Test.YtlecnodlnkanaaaXGstream
import Derived.Test.YtlecnodlnkanaaaXGtree
import Derived.Test.YtlecnodlnkanaaaXreelkeeperlaw06Two
import Derived.Test.YtlecnodlnkanaaaP08a
import Derived.Laws.EntriesVeiled
import Derived.WalkSpells
namespace Go.Proofs.Ytlecnodlnkanaaa.X
open Go.RowKit Go.Proofs.YtlecnodlnkanaaaW.PrintWords Go.Proofs.YtlecnodlnkanaaaW.PrintLast Go.Proofs.YtlecnodlnkanaaaW.PrintMore
attribute [local go_sem] max2_int min2_int max_two min_two
set_option linter.unusedVariables false
set_option linter.unusedSimpArgs false

def twoT : List Nd := [⟨⟨#[97]⟩, ⟨#[]⟩, 53, 493, 0, 0, 0, ⟨#[]⟩⟩, ⟨⟨#[97, 47, 98]⟩, ⟨#[]⟩, 48, 420, 0, 0, 7, ⟨#[104, 101, 108, 108, 111]⟩⟩]
theorem two_may : tree_May.f 40 twoT = some true := by decide +kernel
theorem nil_may : tree_May.f 40 [] = some true := by decide +kernel
theorem two_one : ∀ x ∈ twoT, oneB x = true := by
  intro x hx
  unfold twoT at hx
  simp only [List.mem_cons, List.not_mem_nil, or_false] at hx
  rcases hx with rfl | rfl <;> decide +kernel
theorem one_len {n : Nd} (h : oneB n = true) (c1 : n.f1.size ≤ 100) (c0 : n.f0.size < 100) : (entryB n).length = 1 + manyB n.f7.size := by
  have hf := oneB_facts h
  rw [entryB_length hf, aheadB_count hf, if_neg (by omega), if_neg (fun c => by have := needs_big hf c; omega)]
theorem two_body : bodyB twoT = entryB twoT[0] ++ entryB twoT[1] := by
  unfold twoT
  rw [bodyB, bodyB, bodyB, List.append_nil]
  rfl
theorem two_len0 : (entryB twoT[0]).length = 1 := by
  rw [one_len (two_one _ (List.getElem_mem (by decide))) (by decide) (by decide)]
  rfl
theorem two_len1 : (entryB twoT[1]).length = 2 := by
  rw [one_len (two_one _ (List.getElem_mem (by decide))) (by decide) (by decide)]
  rfl
theorem two_many : manyT twoT true = 5 := by
  unfold manyT
  rw [if_pos rfl, two_body, List.length_append, two_len0, two_len1]
theorem two_starts : startsL twoT = [0, 1, 3] := by
  have h0 : bodyB (twoT.take 0) = [] := rfl
  have h1 : (bodyB (twoT.take 1)).length = 1 := by
    have : bodyB (twoT.take 1) = entryB twoT[0] := by
      show bodyB [twoT[0]] = _
      rw [bodyB, bodyB, List.append_nil]
    rw [this, two_len0]
  have h2 : (bodyB (twoT.take 2)).length = 3 := by
    have : bodyB (twoT.take 2) = entryB twoT[0] ++ entryB twoT[1] := two_body
    rw [this, List.length_append, two_len0, two_len1]
  unfold startsL
  show [((bodyB (twoT.take 0)).length : Int), ((bodyB (twoT.take 1)).length : Int), ((bodyB (twoT.take 2)).length : Int)] = _
  rw [h0, h1, h2]
  rfl
theorem two_where : whereT twoT true 2 = (1, 0) := by
  unfold whereT
  have hi : idxBeyond 2 [0, 1, 3] = 2 := by decide
  have hr : rd [0, 1, 3] (2 : Int) = 3 := by decide
  have hd : manyB (twoT.getD ((2 : Int) - 1).toNat zNode).f7.size = 1 := by decide
  rw [two_many, two_starts, if_neg (by omega), hi, hr, hd]
  decide
theorem nil_starts : (startsL []).length = 1 := rfl
set_option maxHeartbeats 1600000 in
set_option maxRecDepth 100000 in
theorem awake8_walk (T : List Nd) (hall : ∀ W : World, Calls Try.prog 43 #[.slice none 0 0] W fun e w' => ∃ A c, e = .returned (.tuple #[.slice A 2 c, .bool true]) ∧ Below W.heap.size W w') (hsta : ∀ W : World, Calls Try.prog 46 #[.slice none 0 0] W fun e w' => ∃ A c, e = .returned (.slice A 1 c) ∧ Below W.heap.size W w') (htwo : ∀ W : World, Calls Try.prog 89 #[] W fun e w' => ∃ A c, e = .returned (.slice A T.length c) ∧ T.length ≤ c ∧ Aside0 (Kd.C kNode w' A T.length T) ∧ Below W.heap.size W w') (hwhere : ∀ (W : World) (A : Option Addr) (c : Nat), T.length ≤ c → Kd.C kNode W A T.length T → Calls Try.prog 44 #[.slice A T.length c, .int .i64 2] W fun e w' => e = .returned (.tuple #[.int .i64 1, .int .i64 0]) ∧ Below W.heap.size W w') (hmany : ∀ (W : World) (A : Option Addr) (c : Nat), T.length ≤ c → Kd.C kNode W A T.length T → Calls Try.prog 47 #[.slice A T.length c] W fun e w' => e = .returned (.int .i64 5) ∧ Below W.heap.size W w') (w : World) : Calls Try.prog 40 #[] w fun e w' => e = .returned (.bool true) ∧ Below w.heap.size w w' := by
  obtain ⟨n2, hn2⟩ : ∃ n2, T.length = n2 := ⟨_, rfl⟩
  rw [hn2] at htwo hwhere hmany
  have HB0 := Aside0.mk (Below.refl w.heap.size w)
  go_enter Try.func40, Try.ntmps40
  go_wp2_with (first
    | (go_at_call 43; refine (hall _).mono ?_; rintro e w1 ⟨A1, c1, rfl, hb⟩; have HBq := Aside0.mk (below_step HB0.out hb); clear HB0 hb; have HB0 := HBq; clear HBq)
    | (go_at_call 89; refine (htwo _).mono ?_; rintro e w2 ⟨A2, c2, rfl, hc2, HC2, hb⟩; have HBq := Aside0.mk (below_step HB0.out hb); clear HB0 hb; have HB0 := HBq; clear HBq)
    | (go_at_call 44; refine (hwhere _ _ _ hc2 HC2.out).mono ?_; rintro e w3 ⟨rfl, hb⟩; have HBq := Aside0.mk (below_step HB0.out hb); clear HB0 hb HC2 hc2; have HB0 := HBq; clear HBq)
    | (go_at_call 47; refine (hmany _ _ _ hc2 HC2.out).mono ?_; rintro e w4 ⟨rfl, hb⟩; have HBq := Aside0.mk (below_step HB0.out hb); clear HB0 hb HC2 hc2; have HB0 := HBq; clear HBq)
    | (go_at_call 46; refine (hsta _).mono ?_; rintro e w5 ⟨A5, c5, rfl, hb⟩; have HBq := Aside0.mk (below_step HB0.out hb); clear HB0 hb; have HB0 := HBq; clear HBq))
  go_ret
  exact ⟨rfl, HB0.out⟩
theorem awake8.at_ (w : World) : Calls Try.prog 40 #[] w fun e w' => e = .returned (.bool true) ∧ Below w.heap.size w w' := by
  have hnil : ∀ W : World, Kd.C kNode W none ([] : List Nd).length [] := fun W => (Kd.R_reads' (Kd.R_nil kNode 23 W 0 (fun _ => True))).2.2
  have hall : ∀ W : World, Calls Try.prog 43 #[.slice none 0 0] W fun e w' => ∃ A c, e = .returned (.tuple #[.slice A 2 c, .bool true]) ∧ Below W.heap.size W w' := fun W => (stream_All.at_ [] 40 true nil_may (fun _ => ⟨by decide, fun x hx => by cases hx⟩) none 0 W (hnil W) (Nat.le_refl _)).mono (by
    rintro e w' ⟨v, rfl, hR, hB⟩
    obtain ⟨A, c, rfl⟩ := Kd.R_slice hR
    exact ⟨A, c, rfl, hB⟩)
  have hsta : ∀ W : World, Calls Try.prog 46 #[.slice none 0 0] W fun e w' => ∃ A c, e = .returned (.slice A 1 c) ∧ Below W.heap.size W w' := fun W => (stream_Starts.at_ [] 40 true nil_may (fun _ => ⟨by decide, fun x hx => by cases hx⟩) none 0 W (hnil W) (Nat.le_refl _)).mono (by
    rintro e w' ⟨v, rfl, hR, hB⟩
    obtain ⟨A, c, rfl⟩ := Kd.R_slice hR
    exact ⟨A, c, rfl, hB⟩)
  have htwo : ∀ W : World, Calls Try.prog 89 #[] W fun e w' => ∃ A c, e = .returned (.slice A twoT.length c) ∧ twoT.length ≤ c ∧ Aside0 (Kd.C kNode w' A twoT.length twoT) ∧ Below W.heap.size W w' := fun W => (reelkeeperlaw06_Two.calls twoT W rfl).mono (by
    rintro e w' ⟨v, rfl, hR, hB⟩
    obtain ⟨A, c, rfl, hc, hC⟩ := Kd.R_reads hR
    exact ⟨A, c, rfl, hc, ⟨hC⟩, hB⟩)
  have hwhere : ∀ (W : World) (A : Option Addr) (c : Nat), twoT.length ≤ c → Kd.C kNode W A twoT.length twoT → Calls Try.prog 44 #[.slice A twoT.length c, .int .i64 2] W fun e w' => e = .returned (.tuple #[.int .i64 1, .int .i64 0]) ∧ Below W.heap.size W w' := fun W A c hc hC => (stream_Where.at_ twoT 2 40 true two_may (fun _ => ⟨by decide, two_one⟩) A c W hC hc).mono (by
    rintro e w' ⟨rfl, hB⟩
    rw [two_where]
    exact ⟨rfl, hB⟩)
  have hmany : ∀ (W : World) (A : Option Addr) (c : Nat), twoT.length ≤ c → Kd.C kNode W A twoT.length twoT → Calls Try.prog 47 #[.slice A twoT.length c] W fun e w' => e = .returned (.int .i64 5) ∧ Below W.heap.size W w' := fun W A c hc hC => (stream_Many.at_ twoT 40 true two_may (fun _ => ⟨by decide, two_one⟩) A c W hC hc).mono (by
    rintro e w' ⟨rfl, hB⟩
    rw [two_many]
    exact ⟨rfl, hB⟩)
  exact awake8_walk twoT hall hsta htwo hwhere hmany w

end Go.Proofs.Ytlecnodlnkanaaa.X
