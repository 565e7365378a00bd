import Derived.Test.YtpedagpcblnnhaaGreatXK
import Derived.Test.YtpedagpcblnnhaaGreatXGbytealg
import Derived.Test.YtpedagpcblnnhaaGreatYAll
import Derived.Laws.EntriesVeiled
namespace Go.Proofs.YtpedagpcblnnhaaGreat.X
open Go.RowKit Go.Proofs.YtpedagpcblnnhaaGreatW.PrintWords Go.Proofs.YtpedagpcblnnhaaGreatW.PrintLast Go.Proofs.YtpedagpcblnnhaaGreatW.PrintMore
attribute [local go_sem] max2_int min2_int max_two min_two
set_option linter.unusedVariables false
set_option linter.unusedSimpArgs false
section
open Go.Proofs.YtpedagpcblnnhaaGreatY Go.Shelf
attribute [local go_sem] Oper.semAt_some
theorem path_parts.at_ (p : ByteArray) (w : World) :
    Calls Tryz.prog 76 #[.string p] w fun e w' => e = .returned (.func (.func 107) #[] #[.pointer (some ⟨w.heap.size, 0, none⟩)]) ∧ w.alloc (.cells #[.string p] 9) = w' := by
  go_enter Tryz.func76, Tryz.ntmps76
  go_wp2
  go_ret
  exact ⟨rfl, rfl⟩
def path_parts.left (b : Nat) (m : Value) (W : World) : Nat := match m, W.cell? ⟨b, 0, none⟩ with
  | .bool true, some (.string q) => q.size + 1
  | _, _ => 0
theorem cut1_split (q : ByteArray) {x q' : ByteArray} {m' : Bool} (h : cut1 q 47 = (x, q', m')) :
    splitA q = x :: (if m' then splitA q' else []) ∧ q'.size ≤ q.size ∧ (m' = true → q'.size < q.size) := by
  unfold cut1 at h
  by_cases hi : 0 ≤ Lib.indexByte q.data.toList 47
  · rw [if_pos hi] at h
    obtain ⟨n, hn⟩ := Int.eq_ofNat_of_zero_le hi
    rw [hn] at h
    simp only [Int.toNat_natCast, Prod.mk.injEq] at h
    obtain ⟨rfl, rfl, rfl⟩ := h
    have hlt := indexByte_lt hn
    rw [Array.length_toList] at hlt
    have hl2 : n < q.size := hlt
    refine ⟨by simpa using splitA_found hn, ?_, fun _ => ?_⟩ <;> rw [ByteArray.size_extract] <;> omega
  · rw [if_neg hi] at h
    simp only [Prod.mk.injEq] at h
    obtain ⟨rfl, rfl, rfl⟩ := h
    exact ⟨by simpa using splitA_none hi, Nat.zero_le _, fun h => absurd h (by simp)⟩
set_option maxRecDepth 100000 in
set_option maxHeartbeats 2000000 in
theorem path_parts.yields (n : Nat) (hn : 1 ≤ n) (p : ByteArray) (hp : p.size ≤ 9223372036854775807) (b : Nat) (w : World) (hb : w.heap[b]? = some (.cells #[.string p] 9 (0, 0))) :
    HandsOn Fence.wide n Tryz.prog 107 #[.pointer (some ⟨b, 0, none⟩)] (fun x : ByteArray => #[Value.string x]) (splitA p) (fun k => k = b) w := by
  intro l J Jx W hT hJ hJx hY h0
  have hbW : W.heap[b]? = some (.cells #[.string p] 9 (0, 0)) := (hT.block b (blk_lt hb) (fun h => h)).trans hb
  clear hT hb
  refine callsIn_of_wp Tryz.func107 rfl trivial ?_ rfl
  simp only [Tryz.ntmps107, List.size_toArray, List.length_cons, List.length_nil, Nat.reduceAdd, Nat.reduceSub, Array.replicate_succ, Array.replicate_zero, List.push_toArray, List.append_toArray, List.nil_append, List.cons_append]
  gi_wp2
  gi_loopw [3] (fun m wr => ∃ (pre : List ByteArray) (q : ByteArray) (mb : Bool), m = .bool mb ∧ wr.heap[b]? = some (.cells #[.string q] 9 (0, 0)) ∧ q.size ≤ 9223372036854775807 ∧ splitA p = pre ++ (if mb then splitA q else []) ∧ J pre wr)
    (fun m wr => path_parts.left b m wr)
  case atStart => exact ⟨[], p, true, rfl, hbW, hp, rfl, h0⟩
  case round =>
    obtain ⟨pre, q, mb, rfl, hq, hqs, hx, hJs⟩ := hrel
    have hc := blk_cell hq 0
    simp only [List.size_toArray, List.length_cons, List.length_nil, Nat.zero_add, Nat.lt_one_iff, getElem?_pos, List.getElem_toArray, List.getElem_cons_zero] at hc
    have hf := blk_frozen hq 0
    cases mb with
    | false =>
      gi_wp2
      go_end0
      simp only [Bool.false_eq_true, if_false, List.append_nil] at hx
      rw [← hx] at hJs
      exact ⟨⟨_, rfl⟩, .inl hJs⟩
    | true =>
      simp only [if_true] at hx
      have HX := Aside0.mk hx
      clear hx
      obtain ⟨x, q', m', hcut⟩ : ∃ x q' m', cut1 q 47 = (x, q', m') := ⟨_, _, _, rfl⟩
      obtain ⟨hsp, hsz, hlt⟩ := cut1_split q hcut
      have hcall := strings_Cut1.at_ q 47 hqs wr
      rw [hcut] at hcall
      clear hcut
      gi_wp2_with (fail)
      refine ⟨trivial, ?_⟩
      refine (callsIn_wide.2 hcall).mono ?_
      rintro e w' ⟨rfl, ⟨nd, rfl⟩⟩
      have hx2 : splitA p = pre ++ x :: (if m' then splitA q' else []) := by rw [HX.out, hsp]
      have HM := Aside0.mk hx2
      have hlt2 := Aside0.mk hlt
      clear hx2 hsp hlt hcall
      have hJ2 : J pre ((wr.drewN nd).setCell ⟨b, 0, none⟩ (.string q')) := hJ _ _ _ (hJ _ _ _ hJs (Turn.drewN _ _)) (Turn.setCell _ _ rfl)
      have hb2 : ((wr.drewN nd).setCell ⟨b, 0, none⟩ (.string q')).heap[b]? = some (.cells #[.string q'] 9 (0, 0)) := by
        have := blk_set (w := wr.drewN nd) (g := b) (t := 9) (cs := #[.string q]) hq 0 (.string q')
        simpa using this
      obtain ⟨fn, tmps, assign, body, hy, hR⟩ := hY pre x _ _ HM.out hJ2
      gi_wp2
      refine hR.mono ?_
      rintro e W3 (⟨rfl, hJ3, hsz3, hk3⟩ | ⟨rfl, hJx3⟩)
      · have hb3 := (hk3 b rfl).trans hb2
        gi_wp2
        go_roundw
        case rel => exact ⟨pre ++ [x], q', m', rfl, hb3, by omega, by rw [HM.out]; simp, hJ3⟩
        case measure =>
          have hc3 := blk_cell hb3 0
          simp only [List.size_toArray, List.length_cons, List.length_nil, Nat.zero_add, Nat.lt_one_iff, getElem?_pos, List.getElem_toArray, List.getElem_cons_zero] at hc3
          unfold path_parts.left
          rw [hc, hc3]
          cases m' with
          | false => simp
          | true => have := hlt2.out rfl; simp; omega
      · gi_wp2
        refine bodyPost_ret (results_none rfl _ _ _) rfl ?_
        exact ⟨⟨_, rfl⟩, .inr hJx3⟩
end
section
open Go.Proofs.YtpedagpcblnnhaaGreatY Go.Shelf
attribute [local go_sem] Oper.semAt_some
def oddA (s : ByteArray) : Bool := oddL s.data.toList
def mayA (s : ByteArray) : Bool := (splitA s).all (fun x => !oddA x) && (decide (s.size ≤ 300) && decide (Lib.indexByte s.data.toList 0 < 0))
def path_May.f (a0 : ByteArray) : Option (Bool) := if a0.size ≤ 9223372036854775807 then some (mayA a0) else none
set_option maxHeartbeats 1000000 in
theorem path_May1.at_ (s : ByteArray) (w : World) :
    Calls Tryz.prog 75 #[.string s] w fun e w' => e = .returned (.bool (oddA s)) ∧ w = w' := by
  have e : oddA s = (s.toList == [] || (s.toList == [46] || s.toList == [46, 46])) := by
    unfold oddA oddL
    rw [Lib.toList_data, Bool.or_assoc]
  rw [e]
  cases h1 : s.toList == []
  all_goals cases h2 : s.toList == [46]
  all_goals cases h3 : s.toList == [46, 46]
  all_goals
    go_enter Tryz.func75, Tryz.ntmps75
    go_wp2
    go_ret
    first | exact ⟨rfl, rfl⟩ | (exact ⟨by simp [*], rfl⟩)
set_option maxRecDepth 100000 in
set_option maxHeartbeats 2000000 in
theorem path_May.calls (a0 : ByteArray) (r : Bool) (w : World) (h : path_May.f a0 = some r) :
    Calls Tryz.prog 49 #[.string a0] w fun e w' => e = .returned (.bool r) ∧ Below w.heap.size w w' := by
  unfold path_May.f at h
  by_cases hp : a0.size ≤ 9223372036854775807
  · rw [if_pos hp] at h
    obtain rfl := Option.some.inj h
    clear h
    refine (callsIn_wide (n := 10)).1 ?_
    refine callsIn_of_wp_marks Tryz.func49 rfl trivial ?_ rfl
    simp only [Tryz.ntmps49, List.size_toArray, List.length_cons, List.length_nil, Nat.reduceAdd, Nat.reduceSub, Array.replicate_succ, Array.replicate_zero, List.push_toArray, List.append_toArray, List.nil_append, List.cons_append]
    gi_wp2_with (fail)
    refine ⟨trivial, ?_⟩
    refine (callsIn_wide.2 (path_parts.at_ _ _)).mono ?_
    rintro e w' ⟨rfl, rfl⟩
    gi_wp2_with (fail)
    obtain ⟨W0, hW0⟩ : ∃ W0, (((w.alloc (.cells #[.bool false] 4)).alloc (.cells #[.func (.func 75) #[] #[]] 79)).alloc (.cells #[.string a0] 9)) = W0 := ⟨_, rfl⟩
    have hz : W0.heap.size = w.heap.size + 3 := by rw [← hW0]; simp
    have hBW : Below w.heap.size w W0 := by rw [← hW0]; exact ((Below.refl _ w).alloc (Nat.le_refl _) _).alloc (by simp) _ |>.alloc (by simp; omega) _
    have hc0 : W0.heap[w.heap.size]? = some (.cells #[.bool false] 4 (0, 0)) := by
      rw [← hW0]; exact (Below.heap_alloc _ _ _ (by simp; omega)).trans ((Below.heap_alloc _ _ _ (by simp)).trans (World.alloc_heap_new w _))
    have hc1 : W0.heap[w.heap.size + 1]? = some (.cells #[.func (.func 75) #[] #[]] 79 (0, 0)) := by
      rw [← hW0]; exact (Below.heap_alloc _ _ _ (by simp)).trans (by have := World.alloc_heap_new (w.alloc (.cells #[.bool false] 4)) (.cells #[.func (.func 75) #[] #[]] 79 (0, 0)); rwa [World.size_alloc] at this)
    have hc2 : W0.heap[w.heap.size + 1 + 1]? = some (.cells #[.string a0] 9 (0, 0)) := by
      rw [← hW0]; have := World.alloc_heap_new ((w.alloc (.cells #[.bool false] 4)).alloc (.cells #[.func (.func 75) #[] #[]] 79)) (.cells #[.string a0] 9 (0, 0)); rwa [World.size_alloc, World.size_alloc] at this
    rw [hW0]
    clear hW0
    refine range_list rfl (by omega) (gf := 107) (lb := #[.pointer (some ⟨w.heap.size + 1 + 1, 0, none⟩)]) rfl trivial (enters_of Tryz.func107 (by kernel_rfl) rfl)
      (S := fun k => k = w.heap.size + 1 + 1) (fun k hk => by omega) (path_parts.yields 9 (by omega) a0 hp (w.heap.size + 1 + 1) W0 hc2) (fun _ => rfl)
      (fun pre W => W.heap[w.heap.size]? = some (.cells #[.bool false] 4 (0, 0)) ∧ W.heap[w.heap.size + 1]? = some (.cells #[.func (.func 75) #[] #[]] 79 (0, 0)) ∧ pre.all (fun x => !oddA x) = true ∧ Below w.heap.size w W)
      (fun c W => c = .ret ∧ W.heap[w.heap.size]? = some (.cells #[.bool false] 4 (0, 0)) ∧ (splitA a0).all (fun x => !oddA x) = false ∧ Below w.heap.size w W)
      ?hI ?hIx ⟨hc0, hc1, rfl, hBW⟩
      (fun x => { tmps := #[.string a0, undef, .pointer (some ⟨w.heap.size, 0, none⟩), .pointer (some ⟨w.heap.size + 1, 0, none⟩), .string x, .string a0, .func (.func 107) #[] #[.pointer (some ⟨w.heap.size + 1 + 1, 0, none⟩)], .string x, undef, undef, undef, undef, undef, undef, undef, undef, undef, undef, undef], defers := [] }) ?assign ?body ?done ?stop
    case hI =>
      rintro pre A A' ⟨h1, h2, h3, h4⟩ ht
      have hA := h4.size
      exact ⟨(ht.block _ (blk_lt h1) (by omega)).trans h1, (ht.block _ (blk_lt h2) (by omega)).trans h2, h3, h4.trans (ht.below (fun k hk => by omega) hA)⟩
    case hIx =>
      rintro c A A' ⟨h0, h1, h3, h4⟩ ht
      have hA := h4.size
      exact ⟨h0, (ht.block _ (blk_lt h1) (by omega)).trans h1, h3, h4.trans (ht.below (fun k hk => by omega) hA)⟩
    case assign =>
      intro l x W K hK
      gi_wp2
      exact hK
    case body =>
      rintro l pre x post W hx ⟨h1, h2, h3, h4⟩ hsz
      have e1 := blk_cell h1 0
      have e2 := blk_cell h2 0
      simp only [List.size_toArray, List.length_cons, List.length_nil, Nat.zero_add, Nat.lt_one_iff, getElem?_pos, List.getElem_toArray, List.getElem_cons_zero] at e1 e2
      have e3 := blk_frozen h1 0
      have HX := Aside0.mk hx
      clear hx
      have hcall := path_May1.at_ x W
      cases ho : oddA x
      · rw [ho] at hcall
        gi_wp2_with (fail)
        refine ⟨trivial, ?_⟩
        refine (CallsIn.inRound l (callsIn_wide.2 hcall)).mono ?_
        rintro e w' ⟨rfl, rfl⟩
        gi_wp2
        exact ⟨⟨Nat.le_refl _, fun _ _ => rfl⟩, h1, h2, by simp [h3, ho], h4⟩
      · rw [ho] at hcall
        gi_wp2_with (fail)
        refine ⟨trivial, ?_⟩
        refine (CallsIn.inRound l (callsIn_wide.2 hcall)).mono ?_
        rintro e w' ⟨rfl, rfl⟩
        gi_wp2
        refine ⟨⟨by simp [World.setCell], fun k hk => Below.heap_setCell _ _ _ _ (by simp only; omega)⟩, rfl, ?_, ?_, h4.setCell (p := ⟨w.heap.size, 0, none⟩) (Nat.le_refl _) _⟩
        · simpa using blk_set h1 0 (.bool false)
        · rw [HX.out, List.all_append, List.all_cons, ho]; simp
    case done =>
      rintro W ⟨h1, h2, h3, h4⟩ hD
      have e1 := blk_cell h1 0
      simp only [List.size_toArray, List.length_cons, List.length_nil, Nat.zero_add, Nat.lt_one_iff, getElem?_pos, List.getElem_toArray, List.getElem_cons_zero] at e1
      have e3 := blk_frozen h1 0
      have HZ := Aside0.mk hz
      clear hz
      have em : mayA a0 = (decide (a0.size ≤ 300) && decide (Lib.indexByte a0.data.toList 0 < 0)) := by unfold mayA; rw [h3, Bool.true_and]
      have EM := Aside0.mk em
      clear em
      have hcall := strings_IndexByte.calls a0 0 _ W rfl
      by_cases hl : (a0.size : Int) ≤ 300
      · gi_wp2_with (fail)
        refine ⟨trivial, ?_⟩
        refine (callsIn_wide.2 hcall).mono ?_
        rintro e w' ⟨rfl, ⟨nd, rfl⟩⟩
        gi_wp2
        refine ⟨by simp, .inl ⟨_, _, rfl, run_takeDeferred ((Below.heap_setCell _ _ _ _ (by have := HZ.out; simp only; omega)).trans hD), ?_⟩⟩
        have f1 := blk_set (w := W.drewN nd) h1 0 (.bool (decide (Lib.indexByte a0.data.toList 0 < 0)))
        have f2 := (World.putObj_heap_other (w := (W.drewN nd).setCell ⟨w.heap.size, 0, none⟩ (.bool (decide (Lib.indexByte a0.data.toList 0 < 0)))) (r := W0.heap.size) (o := .deferred none) (k := w.heap.size) (by have := HZ.out; omega)).trans f1
        have f3 := blk_cell f2 0
        simp only [List.size_toArray, List.length_cons, List.length_nil, Nat.zero_add, Nat.lt_one_iff, getElem?_pos, Array.getElem?_setIfInBounds_self_of_lt] at f3
        refine ⟨.bool (decide (Lib.indexByte a0.data.toList 0 < 0)), by simp [results, Tryz.results49, go_sem, f3], ?_, ?_⟩
        · rw [EM.out, show decide (a0.size ≤ 300) = true from decide_eq_true (by omega), Bool.true_and]
        · have h5 : Below w.heap.size w ((W.drewN nd).setCell ⟨w.heap.size, 0, none⟩ (.bool (decide (Lib.indexByte a0.data.toList 0 < 0)))) := (h4.trans ((Turn.drewN (S := fun _ => False) W nd).below (fun k hk => hk.elim) h4.size)).setCell (p := ⟨w.heap.size, 0, none⟩) (Nat.le_refl _) _
          exact h5.trans ((Turn.putObj (S := fun k => k = W0.heap.size) _ _ rfl).below (fun k hk => by have := HZ.out; omega) h5.size)
      · gi_wp2_with (fail)
        refine ⟨trivial, ?_⟩
        gi_wp2
        refine ⟨by simp, .inl ⟨_, _, rfl, run_takeDeferred ((Below.heap_setCell _ _ _ _ (by have := HZ.out; simp only; omega)).trans hD), ?_⟩⟩
        have f1 := blk_set (w := W) h1 0 (.bool false)
        have f2 := (World.putObj_heap_other (w := W.setCell ⟨w.heap.size, 0, none⟩ (.bool false)) (r := W0.heap.size) (o := .deferred none) (k := w.heap.size) (by have := HZ.out; omega)).trans f1
        have f3 := blk_cell f2 0
        simp only [List.size_toArray, List.length_cons, List.length_nil, Nat.zero_add, Nat.lt_one_iff, getElem?_pos, Array.getElem?_setIfInBounds_self_of_lt] at f3
        refine ⟨.bool false, by simp [results, Tryz.results49, go_sem, f3], ?_, ?_⟩
        · rw [EM.out, show decide (a0.size ≤ 300) = false from decide_eq_false (by omega), Bool.false_and]
        · have h5 : Below w.heap.size w (W.setCell ⟨w.heap.size, 0, none⟩ (.bool false)) := h4.setCell (p := ⟨w.heap.size, 0, none⟩) (Nat.le_refl _) _
          exact h5.trans ((Turn.putObj (S := fun k => k = W0.heap.size) _ _ rfl).below (fun k hk => by have := HZ.out; omega) h5.size)
    case stop =>
      rintro c W ⟨rfl, h1, h3, h4⟩ hD
      have em : mayA a0 = false := by unfold mayA; rw [h3]; rfl
      have HZ := Aside0.mk hz
      clear hz
      gi_wp2
      refine ⟨by simp, .inl ⟨_, _, rfl, run_takeDeferred hD, ?_⟩⟩
      have f2 := (World.putObj_heap_other (w := W) (r := W0.heap.size) (o := .deferred none) (k := w.heap.size) (by have := HZ.out; omega)).trans h1
      have f3 := blk_cell f2 0
      simp only [List.size_toArray, List.length_cons, List.length_nil, Nat.zero_add, Nat.lt_one_iff, getElem?_pos, List.getElem_toArray, List.getElem_cons_zero] at f3
      refine ⟨.bool false, by simp [results, Tryz.results49, go_sem, f3], by rw [em], ?_⟩
      exact h4.trans ((Turn.putObj (S := fun k => k = W0.heap.size) W _ rfl).below (fun k hk => by have := HZ.out; omega) h4.size)
  · rw [if_neg hp] at h
    cases h
end
section
def path_Join.f (a0 : ByteArray) (a1 : ByteArray) : Option (ByteArray) := if a0.toList = ([] : List UInt8) then (some a1) else (if a0.size + 1 ≤ 9223372036854775807 then (if (a0 ++ (⟨#[47]⟩ : ByteArray)).size + a1.size ≤ 9223372036854775807 then (some ((a0 ++ (⟨#[47]⟩ : ByteArray)) ++ a1)) else (none)) else (none))
set_option maxHeartbeats 8000000 in
set_option maxRecDepth 100000 in
theorem path_Join.calls (a0 : ByteArray) (a1 : ByteArray) (r : ByteArray) (w : World) (h : path_Join.f a0 a1 = some r) :
    Calls Tryz.prog 95 #[.string a0, .string a1] w fun e w' => e = .returned (.string r) ∧ Drawn0 w w' := by
  have H : (if a0.toList = ([] : List UInt8) then (some a1) else (if a0.size + 1 ≤ 9223372036854775807 then (if (a0 ++ (⟨#[47]⟩ : ByteArray)).size + a1.size ≤ 9223372036854775807 then (some ((a0 ++ (⟨#[47]⟩ : ByteArray)) ++ a1)) else (none)) else (none))) = some r := h
  clear h
  by_cases c3 : a0.toList = ([] : List UInt8)
  · rw [if_pos c3] at H
    have c3b0 : (a0.toList == ([] : List UInt8)) = true := beq_iff_eq.mpr c3
    have c3b1 : (a0.toList != ([] : List UInt8)) = false := bne_eq_false_iff_eq.mpr c3
    clear c3
    obtain rfl := Option.some.inj H
    go_enter Tryz.func95, Tryz.ntmps95
    go_wp2
    go_ret
    exact ⟨by first | rfl | (simp; done) | (simp [*]; done), by repeat (first | exact Drawn0.refl _ | apply Drawn0.step)⟩
  · rw [if_neg c3] at H
    have c3b0 : (a0.toList == ([] : List UInt8)) = false := beq_eq_false_iff_ne.mpr c3
    have c3b1 : (a0.toList != ([] : List UInt8)) = true := bne_iff_ne.mpr c3
    by_cases c4 : a0.size + 1 ≤ 9223372036854775807
    · rw [if_pos c4] at H
      have c4b0 := eq_true c4
      have c4b1 : decide (a0.size + 1 ≤ 9223372036854775807) = true := decide_eq_true c4
      try have c4b2 : (9223372036854775807 < a0.size + 1) = False := eq_false (Nat.not_lt.2 c4)
      by_cases c5 : (a0 ++ (⟨#[47]⟩ : ByteArray)).size + a1.size ≤ 9223372036854775807
      · rw [if_pos c5] at H
        have c5b0 := eq_true c5
        have c5b1 : decide ((a0 ++ (⟨#[47]⟩ : ByteArray)).size + a1.size ≤ 9223372036854775807) = true := decide_eq_true c5
        try have c5b2 : (9223372036854775807 < (a0 ++ (⟨#[47]⟩ : ByteArray)).size + a1.size) = False := eq_false (Nat.not_lt.2 c5)
        obtain rfl := Option.some.inj H
        go_enter Tryz.func95, Tryz.ntmps95
        go_wp2
        go_ret
        exact ⟨by first | rfl | (simp; done) | (simp [*]; done), by repeat (first | exact Drawn0.refl _ | apply Drawn0.step)⟩
      · rw [if_neg c5] at H
        exact absurd H (by simp)
    · rw [if_neg c4] at H
      exact absurd H (by simp)
end
section
def path_Split.f (a0 : ByteArray) : Option (ByteArray × ByteArray × Bool) := (path_May.f a0).bind fun t101 => (if t101 = true then (if (a0.size : Int) ≤ 100 then (some ((⟨#[]⟩ : ByteArray), a0, true)) else (if 0 ≤ (wrap64 ((wrap64 ((a0.size : Int) - 100)) - 1)) then (if (wrap64 ((wrap64 ((a0.size : Int) - 100)) - 1)) ≤ (a0.size : Int) then ((strings_IndexByte.f (a0.extract ((wrap64 ((wrap64 ((a0.size : Int) - 100)) - 1)) : Int).toNat a0.size) 47).bind fun t102 => (if t102 < 0 then (some ((⟨#[]⟩ : ByteArray), (⟨#[]⟩ : ByteArray), false)) else (if (wrap64 ((wrap64 ((wrap64 ((a0.size : Int) - 100)) - 1)) + t102)) > 155 then (some ((⟨#[]⟩ : ByteArray), (⟨#[]⟩ : ByteArray), false)) else (if 0 ≤ (wrap64 ((wrap64 ((wrap64 ((a0.size : Int) - 100)) - 1)) + t102)) then (if (wrap64 ((wrap64 ((wrap64 ((a0.size : Int) - 100)) - 1)) + t102)) ≤ (a0.size : Int) then (if 0 ≤ (wrap64 ((wrap64 ((wrap64 ((wrap64 ((a0.size : Int) - 100)) - 1)) + t102)) + 1)) then (if (wrap64 ((wrap64 ((wrap64 ((wrap64 ((a0.size : Int) - 100)) - 1)) + t102)) + 1)) ≤ (a0.size : Int) then (some (a0.extract 0 ((wrap64 ((wrap64 ((wrap64 ((a0.size : Int) - 100)) - 1)) + t102)) : Int).toNat, a0.extract ((wrap64 ((wrap64 ((wrap64 ((wrap64 ((a0.size : Int) - 100)) - 1)) + t102)) + 1)) : Int).toNat a0.size, true)) else (none)) else (none)) else (none)) else (none))))) else (none)) else (none))) else (some ((⟨#[]⟩ : ByteArray), (⟨#[]⟩ : ByteArray), false)))
set_option maxHeartbeats 8000000 in
set_option maxRecDepth 100000 in
theorem path_Split.calls (a0 : ByteArray) (r1 : ByteArray) (r2 : ByteArray) (r3 : Bool) (w : World) (h : path_Split.f a0 = some (r1, r2, r3)) :
    Calls Tryz.prog 114 #[.string a0] w fun e w' => e = .returned (.tuple #[.string r1, .string r2, .bool r3]) ∧ Below w.heap.size w w' := by
  have HB := Aside0.mk (Below.refl w.heap.size w)
  have H : ((path_May.f a0).bind fun t101 => (if t101 = true then (if (a0.size : Int) ≤ 100 then (some ((⟨#[]⟩ : ByteArray), a0, true)) else (if 0 ≤ (wrap64 ((wrap64 ((a0.size : Int) - 100)) - 1)) then (if (wrap64 ((wrap64 ((a0.size : Int) - 100)) - 1)) ≤ (a0.size : Int) then ((strings_IndexByte.f (a0.extract ((wrap64 ((wrap64 ((a0.size : Int) - 100)) - 1)) : Int).toNat a0.size) 47).bind fun t102 => (if t102 < 0 then (some ((⟨#[]⟩ : ByteArray), (⟨#[]⟩ : ByteArray), false)) else (if (wrap64 ((wrap64 ((wrap64 ((a0.size : Int) - 100)) - 1)) + t102)) > 155 then (some ((⟨#[]⟩ : ByteArray), (⟨#[]⟩ : ByteArray), false)) else (if 0 ≤ (wrap64 ((wrap64 ((wrap64 ((a0.size : Int) - 100)) - 1)) + t102)) then (if (wrap64 ((wrap64 ((wrap64 ((a0.size : Int) - 100)) - 1)) + t102)) ≤ (a0.size : Int) then (if 0 ≤ (wrap64 ((wrap64 ((wrap64 ((wrap64 ((a0.size : Int) - 100)) - 1)) + t102)) + 1)) then (if (wrap64 ((wrap64 ((wrap64 ((wrap64 ((a0.size : Int) - 100)) - 1)) + t102)) + 1)) ≤ (a0.size : Int) then (some (a0.extract 0 ((wrap64 ((wrap64 ((wrap64 ((a0.size : Int) - 100)) - 1)) + t102)) : Int).toNat, a0.extract ((wrap64 ((wrap64 ((wrap64 ((wrap64 ((a0.size : Int) - 100)) - 1)) + t102)) + 1)) : Int).toNat a0.size, true)) else (none)) else (none)) else (none)) else (none))))) else (none)) else (none))) else (some ((⟨#[]⟩ : ByteArray), (⟨#[]⟩ : ByteArray), false)))) = some (r1, r2, r3) := h
  clear h
  replace H := Option.bind_eq_some_iff.mp H
  obtain ⟨t101, A20, H⟩ := H
  replace H : (if t101 = true then (if (a0.size : Int) ≤ 100 then (some ((⟨#[]⟩ : ByteArray), a0, true)) else (if 0 ≤ (wrap64 ((wrap64 ((a0.size : Int) - 100)) - 1)) then (if (wrap64 ((wrap64 ((a0.size : Int) - 100)) - 1)) ≤ (a0.size : Int) then ((strings_IndexByte.f (a0.extract ((wrap64 ((wrap64 ((a0.size : Int) - 100)) - 1)) : Int).toNat a0.size) 47).bind fun t102 => (if t102 < 0 then (some ((⟨#[]⟩ : ByteArray), (⟨#[]⟩ : ByteArray), false)) else (if (wrap64 ((wrap64 ((wrap64 ((a0.size : Int) - 100)) - 1)) + t102)) > 155 then (some ((⟨#[]⟩ : ByteArray), (⟨#[]⟩ : ByteArray), false)) else (if 0 ≤ (wrap64 ((wrap64 ((wrap64 ((a0.size : Int) - 100)) - 1)) + t102)) then (if (wrap64 ((wrap64 ((wrap64 ((a0.size : Int) - 100)) - 1)) + t102)) ≤ (a0.size : Int) then (if 0 ≤ (wrap64 ((wrap64 ((wrap64 ((wrap64 ((a0.size : Int) - 100)) - 1)) + t102)) + 1)) then (if (wrap64 ((wrap64 ((wrap64 ((wrap64 ((a0.size : Int) - 100)) - 1)) + t102)) + 1)) ≤ (a0.size : Int) then (some (a0.extract 0 ((wrap64 ((wrap64 ((wrap64 ((a0.size : Int) - 100)) - 1)) + t102)) : Int).toNat, a0.extract ((wrap64 ((wrap64 ((wrap64 ((wrap64 ((a0.size : Int) - 100)) - 1)) + t102)) + 1)) : Int).toNat a0.size, true)) else (none)) else (none)) else (none)) else (none))))) else (none)) else (none))) else (some ((⟨#[]⟩ : ByteArray), (⟨#[]⟩ : ByteArray), false))) = some (r1, r2, r3) := H
  have A2 := Aside0.mk A20
  clear A20
  by_cases c3 : t101 = true
  · subst c3
    have H1 : (if (a0.size : Int) ≤ 100 then (some ((⟨#[]⟩ : ByteArray), a0, true)) else (if 0 ≤ (wrap64 ((wrap64 ((a0.size : Int) - 100)) - 1)) then (if (wrap64 ((wrap64 ((a0.size : Int) - 100)) - 1)) ≤ (a0.size : Int) then ((strings_IndexByte.f (a0.extract ((wrap64 ((wrap64 ((a0.size : Int) - 100)) - 1)) : Int).toNat a0.size) 47).bind fun t102 => (if t102 < 0 then (some ((⟨#[]⟩ : ByteArray), (⟨#[]⟩ : ByteArray), false)) else (if (wrap64 ((wrap64 ((wrap64 ((a0.size : Int) - 100)) - 1)) + t102)) > 155 then (some ((⟨#[]⟩ : ByteArray), (⟨#[]⟩ : ByteArray), false)) else (if 0 ≤ (wrap64 ((wrap64 ((wrap64 ((a0.size : Int) - 100)) - 1)) + t102)) then (if (wrap64 ((wrap64 ((wrap64 ((a0.size : Int) - 100)) - 1)) + t102)) ≤ (a0.size : Int) then (if 0 ≤ (wrap64 ((wrap64 ((wrap64 ((wrap64 ((a0.size : Int) - 100)) - 1)) + t102)) + 1)) then (if (wrap64 ((wrap64 ((wrap64 ((wrap64 ((a0.size : Int) - 100)) - 1)) + t102)) + 1)) ≤ (a0.size : Int) then (some (a0.extract 0 ((wrap64 ((wrap64 ((wrap64 ((a0.size : Int) - 100)) - 1)) + t102)) : Int).toNat, a0.extract ((wrap64 ((wrap64 ((wrap64 ((wrap64 ((a0.size : Int) - 100)) - 1)) + t102)) + 1)) : Int).toNat a0.size, true)) else (none)) else (none)) else (none)) else (none))))) else (none)) else (none))) = some (r1, r2, r3) := by rw [if_pos rfl] at H; exact H
    clear H
    have H := H1
    clear H1
    by_cases c4 : (a0.size : Int) ≤ 100
    · rw [if_pos c4] at H
      have c4b0 : decide ((a0.size : Int) ≤ 100) = true := decide_eq_true c4
      have c4b1 : decide (a0.size ≤ 100) = true := decide_eq_true (by omega)
      clear c4
      simp only [Option.some.injEq, Prod.mk.injEq] at H
      obtain ⟨rfl, rfl, rfl⟩ := H
      go_enter Tryz.func114, Tryz.ntmps114
      go_wp2_with (first | (go_at_call 49; (with_reducible refine (path_May.calls a0 true _ A2.out).mono ?_); rintro e w5 ⟨rfl, hb⟩; have n0_ := Aside0.mk (below_step (by repeat (first | (with_reducible first | exact HB.out | apply below_alloc | apply pw_below_drewN | apply below_drew1) | exact HB.out)) hb); clear HB; have HB := n0_; clear n0_; (try clear hb); (try clear hb2); (try clear hk); (try clear hi)))
      repeat (go_quiet (first | (go_at_call 49; (with_reducible refine (path_May.calls a0 true _ A2.out).mono ?_); rintro e w5 ⟨rfl, hb⟩; have n0_ := Aside0.mk (below_step (by repeat (first | (with_reducible first | exact HB.out | apply below_alloc | apply pw_below_drewN | apply below_drew1) | exact HB.out)) hb); clear HB; have HB := n0_; clear n0_; (try clear hb); (try clear hb2); (try clear hk); (try clear hi))); try go_wp2_with (first | (go_at_call 49; (with_reducible refine (path_May.calls a0 true _ A2.out).mono ?_); rintro e w5 ⟨rfl, hb⟩; have n0_ := Aside0.mk (below_step (by repeat (first | (with_reducible first | exact HB.out | apply below_alloc | apply pw_below_drewN | apply below_drew1) | exact HB.out)) hb); clear HB; have HB := n0_; clear n0_; (try clear hb); (try clear hb2); (try clear hk); (try clear hi))))
      go_ret3
      exact ⟨by first | rfl | (simp [errW_none, errW_some] <;> rfl) | (simp [*, errW_none, errW_some] <;> rfl), by repeat (first | (with_reducible first | exact HB.out | apply below_alloc | apply pw_below_drewN | apply below_drew1) | exact HB.out)⟩
    · rw [if_neg c4] at H
      have c4b0 : decide ((a0.size : Int) ≤ 100) = false := decide_eq_false c4
      have c4b1 : decide (a0.size ≤ 100) = false := decide_eq_false (by omega)
      clear c4
      obtain ⟨ji6, hji6⟩ : ∃ j_ : Int, (wrap64 ((wrap64 ((a0.size : Int) - 100)) - 1)) = j_ := ⟨_, rfl⟩
      replace H : (if 0 ≤ (ji6) then (if (ji6) ≤ (a0.size : Int) then ((strings_IndexByte.f (a0.extract ((ji6) : Int).toNat a0.size) 47).bind fun t102 => (if t102 < 0 then (some ((⟨#[]⟩ : ByteArray), (⟨#[]⟩ : ByteArray), false)) else (if (wrap64 ((ji6) + t102)) > 155 then (some ((⟨#[]⟩ : ByteArray), (⟨#[]⟩ : ByteArray), false)) else (if 0 ≤ (wrap64 ((ji6) + t102)) then (if (wrap64 ((ji6) + t102)) ≤ (a0.size : Int) then (if 0 ≤ (wrap64 ((wrap64 ((ji6) + t102)) + 1)) then (if (wrap64 ((wrap64 ((ji6) + t102)) + 1)) ≤ (a0.size : Int) then (some (a0.extract 0 ((wrap64 ((ji6) + t102)) : Int).toNat, a0.extract ((wrap64 ((wrap64 ((ji6) + t102)) + 1)) : Int).toNat a0.size, true)) else (none)) else (none)) else (none)) else (none))))) else (none)) else (none)) = some (r1, r2, r3) := by first | (rw [hji6] at H; exact H) | (simp only [hji6] at H ⊢; exact H)
      (try rw [hji6] at A2)
      have hji6w : (IntKind.i64.wrap ((wrap64 ((a0.size : Int) - 100)) - 1)) = ji6 := (i64_w _).trans hji6
      by_cases c7 : 0 ≤ (ji6)
      · rw [if_pos c7] at H
        have c7b0 := eq_true c7
        have c7b1 : decide (0 ≤ (ji6)) = true := decide_eq_true c7
        clear c7
        by_cases c8 : (ji6) ≤ (a0.size : Int)
        · rw [if_pos c8] at H
          have c8b0 := eq_true c8
          have c8b1 : decide ((ji6) ≤ (a0.size : Int)) = true := decide_eq_true c8
          clear c8
          replace H := Option.bind_eq_some_iff.mp H
          obtain ⟨t102, A90, H⟩ := H
          replace H : (if t102 < 0 then (some ((⟨#[]⟩ : ByteArray), (⟨#[]⟩ : ByteArray), false)) else (if (wrap64 ((ji6) + t102)) > 155 then (some ((⟨#[]⟩ : ByteArray), (⟨#[]⟩ : ByteArray), false)) else (if 0 ≤ (wrap64 ((ji6) + t102)) then (if (wrap64 ((ji6) + t102)) ≤ (a0.size : Int) then (if 0 ≤ (wrap64 ((wrap64 ((ji6) + t102)) + 1)) then (if (wrap64 ((wrap64 ((ji6) + t102)) + 1)) ≤ (a0.size : Int) then (some (a0.extract 0 ((wrap64 ((ji6) + t102)) : Int).toNat, a0.extract ((wrap64 ((wrap64 ((ji6) + t102)) + 1)) : Int).toNat a0.size, true)) else (none)) else (none)) else (none)) else (none)))) = some (r1, r2, r3) := H
          have A9 := Aside0.mk A90
          clear A90
          by_cases c10 : t102 < 0
          · rw [if_pos c10] at H
            have c10b0 : decide (t102 < 0) = true := decide_eq_true c10
            clear c10
            simp only [Option.some.injEq, Prod.mk.injEq] at H
            obtain ⟨rfl, rfl, rfl⟩ := H
            go_enter Tryz.func114, Tryz.ntmps114
            go_wp2_with (first | (go_at_call 49; (with_reducible refine (path_May.calls a0 true _ A2.out).mono ?_); rintro e w11 ⟨rfl, hb⟩; have n0_ := Aside0.mk (below_step (by repeat (first | (with_reducible first | exact HB.out | apply below_alloc | apply pw_below_drewN | apply below_drew1) | exact HB.out)) hb); clear HB; have HB := n0_; clear n0_; (try clear hb); (try clear hb2); (try clear hk); (try clear hi)) | (go_at_call 77; (with_reducible refine (strings_IndexByte.calls (a0.extract ((ji6) : Int).toNat a0.size) 47 t102 _ A9.out).mono ?_); rintro e w' ⟨rfl, ⟨nd, rfl⟩⟩; (try first | exact ⟨rfl, _, World.drewN_drewN _ _ _⟩ | exact ⟨rfl, _, Eq.trans (World.drewN_drewN _ _ _) (congrArg (World.drewN _) (Nat.add_assoc _ _ _))⟩)))
            repeat (go_quiet (first | (go_at_call 49; (with_reducible refine (path_May.calls a0 true _ A2.out).mono ?_); rintro e w11 ⟨rfl, hb⟩; have n0_ := Aside0.mk (below_step (by repeat (first | (with_reducible first | exact HB.out | apply below_alloc | apply pw_below_drewN | apply below_drew1) | exact HB.out)) hb); clear HB; have HB := n0_; clear n0_; (try clear hb); (try clear hb2); (try clear hk); (try clear hi)) | (go_at_call 77; (with_reducible refine (strings_IndexByte.calls (a0.extract ((ji6) : Int).toNat a0.size) 47 t102 _ A9.out).mono ?_); rintro e w' ⟨rfl, ⟨nd, rfl⟩⟩; (try first | exact ⟨rfl, _, World.drewN_drewN _ _ _⟩ | exact ⟨rfl, _, Eq.trans (World.drewN_drewN _ _ _) (congrArg (World.drewN _) (Nat.add_assoc _ _ _))⟩))); try go_wp2_with (first | (go_at_call 49; (with_reducible refine (path_May.calls a0 true _ A2.out).mono ?_); rintro e w11 ⟨rfl, hb⟩; have n0_ := Aside0.mk (below_step (by repeat (first | (with_reducible first | exact HB.out | apply below_alloc | apply pw_below_drewN | apply below_drew1) | exact HB.out)) hb); clear HB; have HB := n0_; clear n0_; (try clear hb); (try clear hb2); (try clear hk); (try clear hi)) | (go_at_call 77; (with_reducible refine (strings_IndexByte.calls (a0.extract ((ji6) : Int).toNat a0.size) 47 t102 _ A9.out).mono ?_); rintro e w' ⟨rfl, ⟨nd, rfl⟩⟩; (try first | exact ⟨rfl, _, World.drewN_drewN _ _ _⟩ | exact ⟨rfl, _, Eq.trans (World.drewN_drewN _ _ _) (congrArg (World.drewN _) (Nat.add_assoc _ _ _))⟩))))
            go_ret3
            exact ⟨by first | rfl | (simp [errW_none, errW_some] <;> rfl) | (simp only [← hji6]; first | rfl | (simp [errW_none, errW_some] <;> rfl)) | (simp [*, errW_none, errW_some] <;> rfl), by repeat (first | (with_reducible first | exact HB.out | apply below_alloc | apply pw_below_drewN | apply below_drew1) | exact HB.out)⟩
          · rw [if_neg c10] at H
            have c10b0 : decide (t102 < 0) = false := decide_eq_false c10
            clear c10
            by_cases c12 : (wrap64 ((ji6) + t102)) > 155
            · rw [if_pos c12] at H
              have c12b0 : decide (155 < (wrap64 ((ji6) + t102))) = true := decide_eq_true c12
              clear c12
              simp only [Option.some.injEq, Prod.mk.injEq] at H
              obtain ⟨rfl, rfl, rfl⟩ := H
              go_enter Tryz.func114, Tryz.ntmps114
              go_wp2_with (first | (go_at_call 49; (with_reducible refine (path_May.calls a0 true _ A2.out).mono ?_); rintro e w13 ⟨rfl, hb⟩; have n0_ := Aside0.mk (below_step (by repeat (first | (with_reducible first | exact HB.out | apply below_alloc | apply pw_below_drewN | apply below_drew1) | exact HB.out)) hb); clear HB; have HB := n0_; clear n0_; (try clear hb); (try clear hb2); (try clear hk); (try clear hi)) | (go_at_call 77; (with_reducible refine (strings_IndexByte.calls (a0.extract ((ji6) : Int).toNat a0.size) 47 t102 _ A9.out).mono ?_); rintro e w' ⟨rfl, ⟨nd, rfl⟩⟩; (try first | exact ⟨rfl, _, World.drewN_drewN _ _ _⟩ | exact ⟨rfl, _, Eq.trans (World.drewN_drewN _ _ _) (congrArg (World.drewN _) (Nat.add_assoc _ _ _))⟩)))
              repeat (go_quiet (first | (go_at_call 49; (with_reducible refine (path_May.calls a0 true _ A2.out).mono ?_); rintro e w13 ⟨rfl, hb⟩; have n0_ := Aside0.mk (below_step (by repeat (first | (with_reducible first | exact HB.out | apply below_alloc | apply pw_below_drewN | apply below_drew1) | exact HB.out)) hb); clear HB; have HB := n0_; clear n0_; (try clear hb); (try clear hb2); (try clear hk); (try clear hi)) | (go_at_call 77; (with_reducible refine (strings_IndexByte.calls (a0.extract ((ji6) : Int).toNat a0.size) 47 t102 _ A9.out).mono ?_); rintro e w' ⟨rfl, ⟨nd, rfl⟩⟩; (try first | exact ⟨rfl, _, World.drewN_drewN _ _ _⟩ | exact ⟨rfl, _, Eq.trans (World.drewN_drewN _ _ _) (congrArg (World.drewN _) (Nat.add_assoc _ _ _))⟩))); try go_wp2_with (first | (go_at_call 49; (with_reducible refine (path_May.calls a0 true _ A2.out).mono ?_); rintro e w13 ⟨rfl, hb⟩; have n0_ := Aside0.mk (below_step (by repeat (first | (with_reducible first | exact HB.out | apply below_alloc | apply pw_below_drewN | apply below_drew1) | exact HB.out)) hb); clear HB; have HB := n0_; clear n0_; (try clear hb); (try clear hb2); (try clear hk); (try clear hi)) | (go_at_call 77; (with_reducible refine (strings_IndexByte.calls (a0.extract ((ji6) : Int).toNat a0.size) 47 t102 _ A9.out).mono ?_); rintro e w' ⟨rfl, ⟨nd, rfl⟩⟩; (try first | exact ⟨rfl, _, World.drewN_drewN _ _ _⟩ | exact ⟨rfl, _, Eq.trans (World.drewN_drewN _ _ _) (congrArg (World.drewN _) (Nat.add_assoc _ _ _))⟩))))
              go_ret3
              exact ⟨by first | rfl | (simp [errW_none, errW_some] <;> rfl) | (simp only [← hji6]; first | rfl | (simp [errW_none, errW_some] <;> rfl)) | (simp [*, errW_none, errW_some] <;> rfl), by repeat (first | (with_reducible first | exact HB.out | apply below_alloc | apply pw_below_drewN | apply below_drew1) | exact HB.out)⟩
            · rw [if_neg c12] at H
              have c12b0 : decide (155 < (wrap64 ((ji6) + t102))) = false := decide_eq_false c12
              clear c12
              obtain ⟨ji14, hji14⟩ : ∃ j_ : Int, (wrap64 ((ji6) + t102)) = j_ := ⟨_, rfl⟩
              replace H : (if 0 ≤ (ji14) then (if (ji14) ≤ (a0.size : Int) then (if 0 ≤ (wrap64 ((ji14) + 1)) then (if (wrap64 ((ji14) + 1)) ≤ (a0.size : Int) then (some (a0.extract 0 ((ji14) : Int).toNat, a0.extract ((wrap64 ((ji14) + 1)) : Int).toNat a0.size, true)) else (none)) else (none)) else (none)) else (none)) = some (r1, r2, r3) := by first | (rw [hji14] at H; exact H) | (simp only [hji14] at H ⊢; exact H)
              (try rw [hji14] at c12b0)
              (try rw [hji14] at A2)
              (try rw [hji14] at A9)
              have hji14w : (IntKind.i64.wrap ((ji6) + t102)) = ji14 := (i64_w _).trans hji14
              by_cases c15 : 0 ≤ (ji14)
              · rw [if_pos c15] at H
                have c15b0 := eq_true c15
                have c15b1 : decide (0 ≤ (ji14)) = true := decide_eq_true c15
                clear c15
                by_cases c16 : (ji14) ≤ (a0.size : Int)
                · rw [if_pos c16] at H
                  have c16b0 := eq_true c16
                  have c16b1 : decide ((ji14) ≤ (a0.size : Int)) = true := decide_eq_true c16
                  clear c16
                  obtain ⟨ji17, hji17⟩ : ∃ j_ : Int, (wrap64 ((ji14) + 1)) = j_ := ⟨_, rfl⟩
                  replace H : (if 0 ≤ (ji17) then (if (ji17) ≤ (a0.size : Int) then (some (a0.extract 0 ((ji14) : Int).toNat, a0.extract ((ji17) : Int).toNat a0.size, true)) else (none)) else (none)) = some (r1, r2, r3) := by first | (rw [hji17] at H; exact H) | (simp only [hji17] at H ⊢; exact H)
                  (try rw [hji17] at A2)
                  (try rw [hji17] at A9)
                  have hji17w : (IntKind.i64.wrap ((ji14) + 1)) = ji17 := (i64_w _).trans hji17
                  by_cases c18 : 0 ≤ (ji17)
                  · rw [if_pos c18] at H
                    have c18b0 := eq_true c18
                    have c18b1 : decide (0 ≤ (ji17)) = true := decide_eq_true c18
                    clear c18
                    by_cases c19 : (ji17) ≤ (a0.size : Int)
                    · rw [if_pos c19] at H
                      have c19b0 := eq_true c19
                      have c19b1 : decide ((ji17) ≤ (a0.size : Int)) = true := decide_eq_true c19
                      clear c19
                      simp only [Option.some.injEq, Prod.mk.injEq] at H
                      obtain ⟨rfl, rfl, rfl⟩ := H
                      go_enter Tryz.func114, Tryz.ntmps114
                      go_wp2_with (first | (go_at_call 49; (with_reducible refine (path_May.calls a0 true _ A2.out).mono ?_); rintro e w20 ⟨rfl, hb⟩; have n0_ := Aside0.mk (below_step (by repeat (first | (with_reducible first | exact HB.out | apply below_alloc | apply pw_below_drewN | apply below_drew1) | exact HB.out)) hb); clear HB; have HB := n0_; clear n0_; (try clear hb); (try clear hb2); (try clear hk); (try clear hi)) | (go_at_call 77; (with_reducible refine (strings_IndexByte.calls (a0.extract ((ji6) : Int).toNat a0.size) 47 t102 _ A9.out).mono ?_); rintro e w' ⟨rfl, ⟨nd, rfl⟩⟩; (try first | exact ⟨rfl, _, World.drewN_drewN _ _ _⟩ | exact ⟨rfl, _, Eq.trans (World.drewN_drewN _ _ _) (congrArg (World.drewN _) (Nat.add_assoc _ _ _))⟩)))
                      repeat (go_quiet (first | (go_at_call 49; (with_reducible refine (path_May.calls a0 true _ A2.out).mono ?_); rintro e w20 ⟨rfl, hb⟩; have n0_ := Aside0.mk (below_step (by repeat (first | (with_reducible first | exact HB.out | apply below_alloc | apply pw_below_drewN | apply below_drew1) | exact HB.out)) hb); clear HB; have HB := n0_; clear n0_; (try clear hb); (try clear hb2); (try clear hk); (try clear hi)) | (go_at_call 77; (with_reducible refine (strings_IndexByte.calls (a0.extract ((ji6) : Int).toNat a0.size) 47 t102 _ A9.out).mono ?_); rintro e w' ⟨rfl, ⟨nd, rfl⟩⟩; (try first | exact ⟨rfl, _, World.drewN_drewN _ _ _⟩ | exact ⟨rfl, _, Eq.trans (World.drewN_drewN _ _ _) (congrArg (World.drewN _) (Nat.add_assoc _ _ _))⟩))); try go_wp2_with (first | (go_at_call 49; (with_reducible refine (path_May.calls a0 true _ A2.out).mono ?_); rintro e w20 ⟨rfl, hb⟩; have n0_ := Aside0.mk (below_step (by repeat (first | (with_reducible first | exact HB.out | apply below_alloc | apply pw_below_drewN | apply below_drew1) | exact HB.out)) hb); clear HB; have HB := n0_; clear n0_; (try clear hb); (try clear hb2); (try clear hk); (try clear hi)) | (go_at_call 77; (with_reducible refine (strings_IndexByte.calls (a0.extract ((ji6) : Int).toNat a0.size) 47 t102 _ A9.out).mono ?_); rintro e w' ⟨rfl, ⟨nd, rfl⟩⟩; (try first | exact ⟨rfl, _, World.drewN_drewN _ _ _⟩ | exact ⟨rfl, _, Eq.trans (World.drewN_drewN _ _ _) (congrArg (World.drewN _) (Nat.add_assoc _ _ _))⟩))))
                      go_ret3
                      exact ⟨by first | rfl | (simp [errW_none, errW_some] <;> rfl) | (simp only [← hji6, ← hji14, ← hji17]; first | rfl | (simp [errW_none, errW_some] <;> rfl)) | (simp [*, errW_none, errW_some] <;> rfl), by repeat (first | (with_reducible first | exact HB.out | apply below_alloc | apply pw_below_drewN | apply below_drew1) | exact HB.out)⟩
                    · rw [if_neg c19] at H
                      exact absurd H (by simp)
                  · rw [if_neg c18] at H
                    exact absurd H (by simp)
                · rw [if_neg c16] at H
                  exact absurd H (by simp)
              · rw [if_neg c15] at H
                exact absurd H (by simp)
        · rw [if_neg c8] at H
          exact absurd H (by simp)
      · rw [if_neg c7] at H
        exact absurd H (by simp)
  · replace c3 := Bool.eq_false_iff.mpr c3
    subst c3
    have H1 : (some ((⟨#[]⟩ : ByteArray), (⟨#[]⟩ : ByteArray), false)) = some (r1, r2, r3) := by rw [if_neg (show ¬ (false = true) by decide)] at H; exact H
    clear H
    have H := H1
    clear H1
    simp only [Option.some.injEq, Prod.mk.injEq] at H
    obtain ⟨rfl, rfl, rfl⟩ := H
    go_enter Tryz.func114, Tryz.ntmps114
    go_wp2_with (first | (go_at_call 49; (with_reducible refine (path_May.calls a0 false _ A2.out).mono ?_); rintro e w21 ⟨rfl, hb⟩; have n0_ := Aside0.mk (below_step (by repeat (first | (with_reducible first | exact HB.out | apply below_alloc | apply pw_below_drewN | apply below_drew1) | exact HB.out)) hb); clear HB; have HB := n0_; clear n0_; (try clear hb); (try clear hb2); (try clear hk); (try clear hi)))
    repeat (go_quiet (first | (go_at_call 49; (with_reducible refine (path_May.calls a0 false _ A2.out).mono ?_); rintro e w21 ⟨rfl, hb⟩; have n0_ := Aside0.mk (below_step (by repeat (first | (with_reducible first | exact HB.out | apply below_alloc | apply pw_below_drewN | apply below_drew1) | exact HB.out)) hb); clear HB; have HB := n0_; clear n0_; (try clear hb); (try clear hb2); (try clear hk); (try clear hi))); try go_wp2_with (first | (go_at_call 49; (with_reducible refine (path_May.calls a0 false _ A2.out).mono ?_); rintro e w21 ⟨rfl, hb⟩; have n0_ := Aside0.mk (below_step (by repeat (first | (with_reducible first | exact HB.out | apply below_alloc | apply pw_below_drewN | apply below_drew1) | exact HB.out)) hb); clear HB; have HB := n0_; clear n0_; (try clear hb); (try clear hb2); (try clear hk); (try clear hi))))
    go_ret3
    exact ⟨by first | rfl | (simp [errW_none, errW_some] <;> rfl) | (simp [*, errW_none, errW_some] <;> rfl), by repeat (first | (with_reducible first | exact HB.out | apply below_alloc | apply pw_below_drewN | apply below_drew1) | exact HB.out)⟩
end
section
def path_Parent.f (k : Nat) (a0 : ByteArray) : Option (ByteArray × Bool) := (strings_LastIndexByte.f k a0 47).bind fun t101 => (if t101 < 0 then (some ((⟨#[]⟩ : ByteArray), false)) else ((path_May.f a0).bind fun t102 => (if t102 = true then (if 0 ≤ t101 then (if t101 ≤ (a0.size : Int) then (some (a0.extract 0 (t101 : Int).toNat, true)) else (none)) else (none)) else (some ((⟨#[]⟩ : ByteArray), false)))))
theorem path_Parent.mono : ∀ a0 k, LeO (path_Parent.f k a0) (path_Parent.f (k + 1) a0) := by
  intro a0 k
  unfold path_Parent.f
  repeat' first
      | (with_reducible exact strings_LastIndexByte.mono _ _ _)
      | (with_reducible exact LeO.refl _)
      | (with_reducible exact LeO.none _)
      | (with_reducible refine LeO.ite ?_ ?_)
      | (with_reducible refine LeO.bind ?_ (fun _ => ?_))
      | exact strings_LastIndexByte.mono _ _ _
      | exact LeO.none _
      | refine LeO.ite ?_ ?_
      | refine LeO.bind ?_ (fun _ => ?_)
set_option maxHeartbeats 8000000 in
set_option maxRecDepth 100000 in
theorem path_Parent.calls (k : Nat) (a0 : ByteArray) (r1 : ByteArray) (r2 : Bool) (w : World) (h : path_Parent.f k a0 = some (r1, r2)) :
    Calls Tryz.prog 31 #[.string a0] w fun e w' => e = .returned (.tuple #[.string r1, .bool r2]) ∧ Below w.heap.size w w' := by
  have HB := Aside0.mk (Below.refl w.heap.size w)
  have H : ((strings_LastIndexByte.f k a0 47).bind fun t101 => (if t101 < 0 then (some ((⟨#[]⟩ : ByteArray), false)) else ((path_May.f a0).bind fun t102 => (if t102 = true then (if 0 ≤ t101 then (if t101 ≤ (a0.size : Int) then (some (a0.extract 0 (t101 : Int).toNat, true)) else (none)) else (none)) else (some ((⟨#[]⟩ : ByteArray), false)))))) = some (r1, r2) := h
  clear h
  replace H := Option.bind_eq_some_iff.mp H
  obtain ⟨t101, A20, H⟩ := H
  replace H : (if t101 < 0 then (some ((⟨#[]⟩ : ByteArray), false)) else ((path_May.f a0).bind fun t102 => (if t102 = true then (if 0 ≤ t101 then (if t101 ≤ (a0.size : Int) then (some (a0.extract 0 (t101 : Int).toNat, true)) else (none)) else (none)) else (some ((⟨#[]⟩ : ByteArray), false))))) = some (r1, r2) := H
  have A2 := Aside0.mk A20
  clear A20
  by_cases c3 : t101 < 0
  · rw [if_pos c3] at H
    have c3b0 : decide (t101 < 0) = true := decide_eq_true c3
    clear c3
    simp only [Option.some.injEq, Prod.mk.injEq] at H
    obtain ⟨rfl, rfl⟩ := H
    go_enter Tryz.func31, Tryz.ntmps31
    go_wp2_with (first | ((with_reducible refine gate_callee (f := 51) rfl ?_); refine goesL_ (some 6) rfl rfl Tryz.func51 (by kernel_rfl) rfl #[.string a0, .int .u8 47] rfl (by (try simp only [List.map_toArray, List.map_cons, List.map_nil]); first | done | rfl | (simp only [List.length_drop, List.length_take]; rfl)) ?_; (with_reducible refine (strings_LastIndexByte.calls k a0 47 t101 _ A2.out).mono ?_); rintro e w' ⟨rfl, ⟨nd, rfl⟩⟩; refine ⟨_, rfl, ?_⟩))
    go_ret2
    exact ⟨by first | rfl | (simp [errW_none, errW_some] <;> rfl) | (simp [*, errW_none, errW_some] <;> rfl), by repeat (first | (with_reducible first | exact HB.out | apply below_alloc | apply pw_below_drewN | apply below_drew1) | exact HB.out)⟩
  · rw [if_neg c3] at H
    have c3b0 : decide (t101 < 0) = false := decide_eq_false c3
    clear c3
    replace H := Option.bind_eq_some_iff.mp H
    obtain ⟨t102, A40, H⟩ := H
    replace H : (if t102 = true then (if 0 ≤ t101 then (if t101 ≤ (a0.size : Int) then (some (a0.extract 0 (t101 : Int).toNat, true)) else (none)) else (none)) else (some ((⟨#[]⟩ : ByteArray), false))) = some (r1, r2) := H
    have A4 := Aside0.mk A40
    clear A40
    by_cases c5 : t102 = true
    · subst c5
      have H1 : (if 0 ≤ t101 then (if t101 ≤ (a0.size : Int) then (some (a0.extract 0 (t101 : Int).toNat, true)) else (none)) else (none)) = some (r1, r2) := by rw [if_pos rfl] at H; exact H
      clear H
      have H := H1
      clear H1
      by_cases c6 : 0 ≤ t101
      · rw [if_pos c6] at H
        have c6b0 := eq_true c6
        have c6b1 : decide (0 ≤ t101) = true := decide_eq_true c6
        clear c6
        by_cases c7 : t101 ≤ (a0.size : Int)
        · rw [if_pos c7] at H
          have c7b0 := eq_true c7
          have c7b1 : decide (t101 ≤ (a0.size : Int)) = true := decide_eq_true c7
          clear c7
          simp only [Option.some.injEq, Prod.mk.injEq] at H
          obtain ⟨rfl, rfl⟩ := H
          go_enter Tryz.func31, Tryz.ntmps31
          go_wp2_with (first | ((with_reducible refine gate_callee (f := 51) rfl ?_); refine goesL_ (some 6) rfl rfl Tryz.func51 (by kernel_rfl) rfl #[.string a0, .int .u8 47] rfl (by (try simp only [List.map_toArray, List.map_cons, List.map_nil]); first | done | rfl | (simp only [List.length_drop, List.length_take]; rfl)) ?_; (with_reducible refine (strings_LastIndexByte.calls k a0 47 t101 _ A2.out).mono ?_); rintro e w' ⟨rfl, ⟨nd, rfl⟩⟩; refine ⟨_, rfl, ?_⟩) | (go_at_call 49; (with_reducible refine (path_May.calls a0 true _ A4.out).mono ?_); rintro e w8 ⟨rfl, hb⟩; have n0_ := Aside0.mk (below_step (by repeat (first | (with_reducible first | exact HB.out | apply below_alloc | apply pw_below_drewN | apply below_drew1) | exact HB.out)) hb); clear HB; have HB := n0_; clear n0_; (try clear hb); (try clear hb2); (try clear hk); (try clear hi)))
          go_ret2
          exact ⟨by first | rfl | (simp [errW_none, errW_some] <;> rfl) | (simp [*, errW_none, errW_some] <;> rfl), by repeat (first | (with_reducible first | exact HB.out | apply below_alloc | apply pw_below_drewN | apply below_drew1) | exact HB.out)⟩
        · rw [if_neg c7] at H
          exact absurd H (by simp)
      · rw [if_neg c6] at H
        exact absurd H (by simp)
    · replace c5 := Bool.eq_false_iff.mpr c5
      subst c5
      have H1 : (some ((⟨#[]⟩ : ByteArray), false)) = some (r1, r2) := by rw [if_neg (show ¬ (false = true) by decide)] at H; exact H
      clear H
      have H := H1
      clear H1
      simp only [Option.some.injEq, Prod.mk.injEq] at H
      obtain ⟨rfl, rfl⟩ := H
      go_enter Tryz.func31, Tryz.ntmps31
      go_wp2_with (first | ((with_reducible refine gate_callee (f := 51) rfl ?_); refine goesL_ (some 6) rfl rfl Tryz.func51 (by kernel_rfl) rfl #[.string a0, .int .u8 47] rfl (by (try simp only [List.map_toArray, List.map_cons, List.map_nil]); first | done | rfl | (simp only [List.length_drop, List.length_take]; rfl)) ?_; (with_reducible refine (strings_LastIndexByte.calls k a0 47 t101 _ A2.out).mono ?_); rintro e w' ⟨rfl, ⟨nd, rfl⟩⟩; refine ⟨_, rfl, ?_⟩) | (go_at_call 49; (with_reducible refine (path_May.calls a0 false _ A4.out).mono ?_); rintro e w9 ⟨rfl, hb⟩; have n0_ := Aside0.mk (below_step (by repeat (first | (with_reducible first | exact HB.out | apply below_alloc | apply pw_below_drewN | apply below_drew1) | exact HB.out)) hb); clear HB; have HB := n0_; clear n0_; (try clear hb); (try clear hb2); (try clear hk); (try clear hi)))
      go_ret2
      exact ⟨by first | rfl | (simp [errW_none, errW_some] <;> rfl) | (simp [*, errW_none, errW_some] <;> rfl), by repeat (first | (with_reducible first | exact HB.out | apply below_alloc | apply pw_below_drewN | apply below_drew1) | exact HB.out)⟩
end
end Go.Proofs.YtpedagpcblnnhaaGreat.X
