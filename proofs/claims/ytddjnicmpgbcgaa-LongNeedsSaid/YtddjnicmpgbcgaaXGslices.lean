import Derived.Test.YtddjnicmpgbcgaaXK
import Derived.Test.YtddjnicmpgbcgaaXE23
import Derived.Test.YtddjnicmpgbcgaaYConv
import Derived.Test.YtddjnicmpgbcgaaYOwn
import Derived.Laws.EntriesVeiled
import Derived.WalkSpells
namespace Go.Proofs.Ytddjnicmpgbcgaa.X
open Go.RowKit Go.Proofs.YtddjnicmpgbcgaaW.PrintWords Go.Proofs.YtddjnicmpgbcgaaW.PrintLast Go.Proofs.YtddjnicmpgbcgaaW.PrintMore
attribute [local go_sem] max2_int min2_int max_two min_two max_three min_three max_four min_four
set_option linter.unusedVariables false
set_option linter.unusedSimpArgs false

def nodeV (x : S23) : Value := .agg #[.string x.f0, .string x.f1, .int .u8 x.f2, .int .i64 x.f3, .int .i64 x.f4, .int .i64 x.f5, .int .i64 x.f6, .string x.f7]
/-- What a function that is handed a node owes, where K holds: it tells pr, and leaves alone what was there. -/
def NodeAsk (gf : Nat) (lb : Array Value) (l : List S23) (pr : S23 → Bool) (K : World → Prop) : Prop :=
  (∀ A B, K A → Below A.heap.size A B → K B) ∧ (∀ args W, (callFunc gf args).run Try.prog W = .ok (.enter gf args) W) ∧ ∀ x, x ∈ l → ∀ W, K W → Calls Try.prog gf (#[nodeV x] ++ lb) W fun e w' => e = .returned (.bool (pr x)) ∧ Below W.heap.size W w'
def idxOf {α : Type} (pr : α → Bool) (l : List α) : Int := match l.findIdx? pr with
  | none => -1
  | some n => n
theorem idxOf_at {α : Type} {pr : α → Bool} {l : List α} {i : Nat} (hlt : i < l.length) (h : (l.take i).all (fun x => !pr x) = true) (hp : pr l[i] = true) : idxOf pr l = i := by
  have : l.findIdx? pr = some i := by
    rw [List.findIdx?_eq_some_iff_getElem]
    refine ⟨hlt, hp, fun j hj => ?_⟩
    have := List.all_eq_true.1 h l[j] (by rw [List.mem_take_iff_getElem]; exact ⟨j, by omega, rfl⟩)
    simpa using this
  unfold idxOf
  rw [this]
theorem idxOf_none {α : Type} {pr : α → Bool} {l : List α} (h : l.all (fun x => !pr x) = true) : idxOf pr l = -1 := by
  have : l.findIdx? pr = none := by
    rw [List.findIdx?_eq_none_iff]
    intro x hx
    have := List.all_eq_true.1 h x hx
    simpa using this
  unfold idxOf
  rw [this]
set_option maxHeartbeats 2000000 in
set_option maxRecDepth 100000 in
theorem slices_IndexFunc_Node.at_ (gf : Nat) (lb : Array Value) (pr : S23 → Bool) (K : World → Prop) (A : Option Addr) (c : Nat) (l : List S23) (hcb : NodeAsk gf lb l pr K) (w : World) (hr : Kd.C k23 w A l.length l) (hk : K w) :
    Calls Try.prog 57 #[.slice A l.length c, .func (.func gf) #[] lb] w fun e w' => e = .returned (.int .i64 (idxOf pr l)) ∧ Below w.heap.size w w' := by
  have hlm : l.length ≤ 9223372036854775807 := hr.2.1
  have HR := Aside0.mk hr
  clear hr
  have HK := Aside0.mk hk
  clear hk
  have HC := Aside0.mk hcb
  clear hcb
  go_enter Try.func57, Try.ntmps57
  go_wp2
  go_loopw [5, 8] (fun _ v8 wr => ∃ i : Nat, v8 = .int .i64 i ∧ i ≤ l.length ∧ Aside0 ((l.take i).all (fun x => !pr x) = true) ∧ Aside0 (Below w.heap.size w wr)) (fun _ v8 _ => l.length - (intOf v8).toNat)
  case atStart => exact ⟨0, rfl, Nat.zero_le _, ⟨rfl⟩, ⟨Below.refl _ _⟩⟩
  case round =>
    obtain ⟨i, rfl, hi, HP, HB⟩ := hrel
    by_cases hlt : i < l.length
    · have hnn : (0 : Int) ≤ (i : Int) := by omega
      have hlt2 : (i : Int) < (l.length : Int) := by omega
      obtain ⟨ad, rfl, x0, x1, x2, x3, x4, x5, x6, x7⟩ := at_T23 (Kd.C_below HR.out HB.out) (i : Int) (by omega) (by omega)
      simp only [Int.toNat_natCast] at x0 x1 x2 x3 x4 x5 x6 x7
      have heg := HC.out.2.1
      have hcall := HC.out.2.2 (rd_T23 l i) (by unfold rd_T23; simp [List.getD, List.getElem?_eq_getElem hlt]) wr (HC.out.1 _ _ HK.out HB.out)
      have hg : rd_T23 l (i : Int) = l[i] := by unfold rd_T23; simp [List.getD, List.getElem?_eq_getElem hlt]
      have htk : l.take (i + 1) = l.take i ++ [l[i]] := by rw [List.take_succ_eq_append_getElem hlt]
      have HG := Aside0.mk hg
      have HT := Aside0.mk htk
      clear hg htk
      cases hp : pr (rd_T23 l (i : Int))
      · rw [hp] at hcall
        have HP2 := Aside0.mk hp
        clear hp
        go_wp2_with (fail)
        refine hcall.mono ?_
        rintro e w2 ⟨rfl, hb⟩
        have HB2 := Aside0.mk (below_then HB.out HB.out.size hb)
        clear hb hcall heg x0 x1 x2 x3 x4 x5 x6 x7
        go_wp2
        go_roundw
        case rel => exact ⟨i + 1, by go_num, by omega, ⟨by rw [HT.out, List.all_append, HP.out, ← HG.out]; simp [HP2.out]⟩, HB2⟩
        case measure => simp [intOf]; omega
      · rw [hp] at hcall
        have HP2 := Aside0.mk hp
        clear hp
        go_wp2_with (fail)
        refine hcall.mono ?_
        rintro e w2 ⟨rfl, hb⟩
        have HB2 := Aside0.mk (below_then HB.out HB.out.size hb)
        clear hb hcall heg x0 x1 x2 x3 x4 x5 x6 x7
        go_wp2
        go_ret
        refine ⟨?_, HB2.out⟩
        rw [idxOf_at hlt HP.out (by rw [← HG.out]; exact HP2.out)]
        rfl
    · go_wp2
      go_ret
      refine ⟨?_, HB.out⟩
      rw [idxOf_none (by have := HP.out; rwa [List.take_of_length_le (by omega)] at this)]
      rfl
end Go.Proofs.Ytddjnicmpgbcgaa.X
namespace Go.Proofs.Ytddjnicmpgbcgaa.X
open Go.RowKit Go.Proofs.YtddjnicmpgbcgaaW.PrintWords Go.Proofs.YtddjnicmpgbcgaaW.PrintLast Go.Proofs.YtddjnicmpgbcgaaW.PrintMore
attribute [local go_sem] max2_int min2_int max_two min_two max_three min_three max_four min_four
set_option linter.unusedVariables false
set_option linter.unusedSimpArgs false

open Go.Proofs.YtddjnicmpgbcgaaY
def slices_Clone_Node.f (l0 : List (S23)) : Option (List (S23)) := if l0.length * 88 ≤ 140737488355328 then some l0 else none
set_option maxHeartbeats 2000000 in
set_option maxRecDepth 100000 in
theorem slices_Clone_Node.calls (A0 : Option Addr) (c0 : Nat) (l0 : List (S23)) (r : List (S23)) (w : World) (hr0 : Kd.C k23 w A0 l0.length l0) (hc0 : l0.length ≤ c0) (h : slices_Clone_Node.f l0 = some r) :
    Calls Try.prog 51 #[.slice A0 l0.length c0] w fun e w' => ∃ v0_ : Value, e = .returned (v0_) ∧ Kd.R k23 23 w' w.heap.size (fun _ => True) v0_ r ∧ Below w.heap.size w w' := by
  unfold slices_Clone_Node.f at h
  by_cases hz : l0.length * 88 ≤ 140737488355328
  · rw [if_pos hz] at h
    obtain rfl := Option.some.inj h
    clear h
    have HR := Aside0.mk hr0
    clear hr0
    have hnil : ∀ (w : World) (A : Option Addr) (n c : Nat), (binOp .eql 24 (.slice A n c) (.slice none 0 0)).run Try.prog w = .ok (.bool A.isNone) w := fun w A n c => Lib.run_eql_slice_nil (P := Try.prog) (w := w) (h := Try.underlying24) ..
    cases A0 with
    | none =>
      go_enter Try.func51, Try.ntmps51
      go_wp2
      go_ret
      have h0 : l0 = [] := by
        rcases Nat.eq_zero_or_pos l0.length with h0 | h0
        · exact List.eq_nil_of_length_eq_zero h0
        · obtain ⟨ad, h, _⟩ := HR.out.2.2 h0
          cases h
      subst h0
      exact ⟨_, rfl, Kd.R_nil _ _ _ _ _, Below.refl _ _⟩
    | some ad =>
      have HE := Aside0.mk (R_empty k23 23 w w.heap.size (Nat.le_refl _))
      have HB := Aside0.mk (below_alloc (Below.refl w.heap.size w) (.cells #[] 23))
      have HR2 := Aside0.mk (Kd.C_below HR.out HB.out)
      go_enter Try.func51, Try.ntmps51
      go_wp2_with (at_builtin; refine Kd.R_append_rows k23 (w0 := w) w.heap.size rfl (.tmp 5) (.tmp 6) 24 23 (.agg #[(.string ⟨#[]⟩), (.string ⟨#[]⟩), (.int .u8 0), (.int .i64 0), (.int .i64 0), (.int .i64 0), (.int .i64 0), (.string ⟨#[]⟩)]) 88 rfl Try.underlying24 info23 rfl (by decide) (by omega) _ [] l0 _ _ _ (fun _ => True) (fun _ => False) rfl rfl HE.out HR2.out (fun x cs hx => by rw [k23_open hx]; exact k23_mkM _ _ _ x) (fun _ hf => hf.elim) (fun _ _ => trivial) HB.out (by simp) (by simpa using hz) ?_; intro v1 w1 hown hb1 _ _; obtain ⟨A1, c1, rfl⟩ := Kd.R_slice hown)
      go_ret
      exact ⟨_, rfl, hown, hb1⟩
  · rw [if_neg hz] at h
    cases h
end Go.Proofs.Ytddjnicmpgbcgaa.X
namespace Go.Proofs.Ytddjnicmpgbcgaa.X
open Go.RowKit Go.Proofs.YtddjnicmpgbcgaaW.PrintWords Go.Proofs.YtddjnicmpgbcgaaW.PrintLast Go.Proofs.YtddjnicmpgbcgaaW.PrintMore
attribute [local go_sem] max2_int min2_int max_two min_two max_three min_three max_four min_four
set_option linter.unusedVariables false
set_option linter.unusedSimpArgs false

open Go.Proofs.YtddjnicmpgbcgaaY
theorem delete_start {α : Type} {pr : α → Bool} {l : List α} {i : Nat} (hi : i < l.length) (h : idxOf pr l = i) : l.take i = (l.take (i + 1)).filter (fun x => !pr x) := by
  unfold idxOf at h
  cases hf : l.findIdx? pr with
  | none => rw [hf] at h; simp only at h; omega
  | some q =>
    rw [hf] at h
    obtain rfl : q = i := by simp only at h; omega
    obtain ⟨h1, h2, h3⟩ := List.findIdx?_eq_some_iff_getElem.1 hf
    rw [List.take_succ_eq_append_getElem hi, List.filter_append]
    have : (l.take q).filter (fun x => !pr x) = l.take q := by
      rw [List.filter_eq_self]
      intro a ha
      obtain ⟨j, hj, rfl⟩ := List.mem_take_iff_getElem.1 ha
      have := h3 j (by omega)
      simpa using this
    rw [this]
    simp [h2]
theorem delete_keep {α : Type} {pr : α → Bool} {l m : List α} {i j : Nat} {x : α} (hij : i < j) (hm : i < m.length) (h : m.take i = (l.take j).filter (fun x => !pr x)) (ht : l.take (j + 1) = l.take j ++ [x]) (hp : pr x = false) :
    (m.set i x).take (i + 1) = (l.take (j + 1)).filter (fun x => !pr x) := by
  rw [ht, List.filter_append, ← h, List.take_succ_eq_append_getElem (by rw [List.length_set]; exact hm), List.take_set_of_le (Nat.le_refl i)]
  simp [hp]
set_option maxHeartbeats 4000000 in
set_option maxRecDepth 100000 in
theorem slices_DeleteFunc_Node.some_ (gf : Nat) (lb : Array Value) (pr : S23 → Bool) (K : World → Prop) (base : Nat) (w0 : World) (hKb : ∀ A B, K A → Below base A B → K B) (g cap : Nat) (l : List S23) (hcb : NodeAsk gf lb l pr K) (w : World)
    (ho : Kd.R k23 23 w base (fun _ => True) (.slice (some ⟨g, 0, none⟩) l.length cap) l) (hk : K w) (hB : Below base w0 w) (hbase : base ≤ w.heap.size) (i0 : Nat) (hi0 : idxOf pr l = i0) :
    Calls Try.prog 50 #[.slice (some ⟨g, 0, none⟩) l.length cap, .func (.func gf) #[] lb] w fun e w' => ∃ v0_ : Value, e = .returned (v0_) ∧ Kd.R k23 23 w' base (fun _ => True) v0_ (l.filter (fun x => !pr x)) ∧ Below base w0 w' := by
  obtain ⟨hn, hnc, hC⟩ := Kd.R_reads' ho
  have hcall := slices_IndexFunc_Node.at_ gf lb pr K (some ⟨g, 0, none⟩) cap l hcb w hC hk
  rw [hi0] at hcall
  have hlm : l.length ≤ 9223372036854775807 := hC.2.1
  have hlt0 : i0 < l.length := by
    unfold idxOf at hi0
    cases hf : l.findIdx? pr with
    | none => rw [hf] at hi0; simp only at hi0; omega
    | some q => rw [hf] at hi0; have := (List.findIdx?_eq_some_iff_getElem.1 hf).1; simp only at hi0; omega
  have HO := Aside0.mk ho
  have HK := Aside0.mk hk
  have HB := Aside0.mk hB
  have HC := Aside0.mk hcb
  have HI := Aside0.mk hi0
  clear ho hk hB hcb hi0 hC hn
  have hin : ((i0 : Int) == -1) = false := by rw [beq_eq_false_iff_ne]; omega
  go_enter Try.func50, Try.ntmps50
  go_wp2_with (first | (go_at_call 57; refine hcall.mono ?_; rintro e w1 ⟨rfl, hb1⟩))
  have HO1 := Aside0.mk (Kd.R_below HO.out hb1)
  have hb01 : Below base w0 w1 := below_then HB.out hbase hb1
  have HK1 := Aside0.mk (HC.out.1 _ _ HK.out hb1)
  have hbase1 : base ≤ w1.heap.size := Nat.le_trans hbase hb1.size
  have HB1 := Aside0.mk hb01
  clear hb1 hb01 hcall
  have hw : wrap64 ((i0 : Int) + 1) = ((i0 + 1 : Nat) : Int) := by unfold wrap64; omega
  go_loopw [5, 6] (fun v5 v6 wr => ∃ (i j : Nat) (m : List S23), v5 = .int .i64 i ∧ v6 = .int .i64 j ∧ i < j ∧ j ≤ l.length ∧ Aside0 (m.length = l.length) ∧ Aside0 (m.take i = (l.take j).filter (fun x => !pr x)) ∧ Aside0 (m.drop j = l.drop j) ∧ Aside0 (Kd.R k23 23 wr base (fun _ => True) (.slice (some ⟨g, 0, none⟩) l.length cap) m) ∧ Aside0 (Below base w0 wr) ∧ Aside0 (base ≤ wr.heap.size) ∧ Aside0 (K wr)) (fun _ v6 _ => l.length - (intOf v6).toNat)
  case atStart => exact ⟨i0, i0 + 1, l, rfl, by go_num, by omega, by omega, ⟨rfl⟩, ⟨delete_start hlt0 HI.out⟩, ⟨rfl⟩, HO1, HB1, ⟨hbase1⟩, HK1⟩
  case round =>
    obtain ⟨i, j, m, rfl, rfl, hij, hj, HL, HT, HD, HR, HBW, HBS, HKW⟩ := hrel
    clear HO1 HB1 HK1 HO HB HK
    by_cases hlt : j < l.length
    · have hmj : j < m.length := by rw [HL.out]; exact hlt
      obtain ⟨cs, hcl, hM, hcc, hff⟩ := Kd.R_elem HR.out z23 (j : Int) (by omega) (by omega)
      have hcs := k23_openM hM
      have hmg : m.getD (j : Int).toNat z23 = l[j] := by
        have h1 : m[j] = l[j] := by
          have h2 : (m.drop j)[0]? = (l.drop j)[0]? := by rw [HD.out]
          simp only [List.getElem?_drop, Nat.add_zero] at h2
          rw [List.getElem?_eq_getElem hmj, List.getElem?_eq_getElem hlt] at h2
          exact Option.some.inj h2
        simp [List.getD, List.getElem?_eq_getElem hmj, h1]
      rw [hmg] at hcs
      have x0 := hcc 0 _ (by rw [hcs]; rfl)
      have x1 := hcc 1 _ (by rw [hcs]; rfl)
      have x2 := hcc 2 _ (by rw [hcs]; rfl)
      have x3 := hcc 3 _ (by rw [hcs]; rfl)
      have x4 := hcc 4 _ (by rw [hcs]; rfl)
      have x5 := hcc 5 _ (by rw [hcs]; rfl)
      have x6 := hcc 6 _ (by rw [hcs]; rfl)
      have x7 := hcc 7 _ (by rw [hcs]; rfl)
      simp only [Int.toNat_natCast, Nat.add_zero, show k23.sz = 8 from rfl] at x0 x1 x2 x3 x4 x5 x6 x7
      clear hcc hff hM hcs hcl hmg cs
      have heg := HC.out.2.1
      have hlj : j < l.length := hlt
      generalize hx : l[j] = x at *
      have HX := Aside0.mk hx
      clear hx
      have hBW1 : Below wr.heap.size wr (wr.alloc (.cells #[.string x.f0, .string x.f1, .int .u8 x.f2, .int .i64 x.f3, .int .i64 x.f4, .int .i64 x.f5, .int .i64 x.f6, .string x.f7] 23)) := below_alloc (Below.refl _ _) _
      have hcall := HC.out.2.2 x (HX.out ▸ List.getElem_mem hlj) (wr.alloc (.cells #[.string x.f0, .string x.f1, .int .u8 x.f2, .int .i64 x.f3, .int .i64 x.f4, .int .i64 x.f5, .int .i64 x.f6, .string x.f7] 23)) (HC.out.1 _ _ HKW.out hBW1)
      have hbox : (wr.alloc (.cells #[.string x.f0, .string x.f1, .int .u8 x.f2, .int .i64 x.f3, .int .i64 x.f4, .int .i64 x.f5, .int .i64 x.f6, .string x.f7] 23)).heap[wr.heap.size]? = some (.cells #[.string x.f0, .string x.f1, .int .u8 x.f2, .int .i64 x.f3, .int .i64 x.f4, .int .i64 x.f5, .int .i64 x.f6, .string x.f7] 23 (0, 0)) := heap_alloc_new wr _
      have htk : l.take (j + 1) = l.take j ++ [x] := by rw [List.take_succ_eq_append_getElem hlj, HX.out]
      have hdr : m.drop (j + 1) = l.drop (j + 1) := by
        have := congrArg (List.drop 1) HD.out
        simpa [List.drop_drop, Nat.add_comm] using this
      cases hp : pr x
      · rw [hp] at hcall
        have HTK := Aside0.mk (show l.take (j + 1) = l.take j ++ [x] from htk)
        have HDR := Aside0.mk hdr
        have HP := Aside0.mk hp
        have HBX := Aside0.mk hbox
        have HB1 := Aside0.mk hBW1
        clear htk hdr hp hbox hBW1
        go_wp2_with (fail)
        refine hcall.mono ?_
        rintro e w2 ⟨rfl, hb⟩
        have hbx2 := (hb.block wr.heap.size (by simp)).trans HBX.out
        have hbw : Below wr.heap.size wr w2 := HB1.out.trans (hb.mono (by simp))
        have HR2 := Aside0.mk (Kd.R_below HR.out hbw)
        have HB2 := Aside0.mk (below_then HBW.out HBS.out hbw)
        have HS2 := Aside0.mk (Nat.le_trans HBS.out hbw.size)
        have HK2 := Aside0.mk (HC.out.1 _ _ HKW.out hbw)
        have y0 := blk_cell hbx2 0
        have y1 := blk_cell hbx2 1
        have y2 := blk_cell hbx2 2
        have y3 := blk_cell hbx2 3
        have y4 := blk_cell hbx2 4
        have y5 := blk_cell hbx2 5
        have y6 := blk_cell hbx2 6
        have y7 := blk_cell hbx2 7
        simp only [List.getElem?_toArray, List.getElem?_cons_succ, List.getElem?_cons_zero] at y0 y1 y2 y3 y4 y5 y6 y7
        obtain ⟨cs, hcl, hM, hcc, hff⟩ := Kd.R_elem HR2.out z23 (i : Int) (by omega) (by omega)
        have HCL := Aside0.mk hcl
        have HCC := Aside0.mk hcc
        clear hcl hM hcc hff hb hbw hbx2 hcall x0 x1 x2 x3 x4 x5 x6 x7 heg
        go_wp2_with (first | (with_reducible refine gate_ (.store 23 (.tmp 33) (.tmp 32)) rfl ?_; go_must (refine Kd.R_store k23 (w0 := w0) base rfl rfl 23 (.tmp 33) (.tmp 32) rfl 23 (i : Int) 0 m x _ [.string x.f0, .string x.f1, .int .u8 x.f2, .int .i64 x.f3, .int .i64 x.f4, .int .i64 x.f5, .int .i64 x.f6, .string x.f7] cs (fun _ => True) (fun _ => False) rfl ?coff rfl rfl (by kernel_rfl) ?c1 HR2.out (by omega) (by omega) HCL.out HCC.out ?c2 ?c3 (fun _ h => h.elim) HB2.out ?c4)))
        case coff => show i * 8 = (i : Int).toNat * 8 + 0; simp
        case c1 => intro q hq; simp only [List.mem_cons, List.not_mem_nil, or_false] at hq; rcases hq with rfl | rfl | rfl | rfl | rfl | rfl | rfl | rfl <;> rfl
        case c2 => exact Nat.le_refl 8
        case c3 =>
          rw [List.take_zero, List.nil_append, List.drop_of_length_le (by rw [HCL.out]; exact Nat.le_refl 8), List.append_nil]
          exact k23_mkM _ _ _ x
        case c4 =>
          intro w3 hR3 hB3 hg3
          have hbg : base ≤ g := Kd.R_base HR2.out g (by simp [Value.ownBlock])
          have HK3 := Aside0.mk (hKb _ _ HK2.out ((Below.refl base w2).grown hg3 HS2.out (fun k e => by cases e; exact hbg)))
          have HR3 := Aside0.mk hR3
          have HB3 := Aside0.mk hB3
          have HS3 := Aside0.mk (Nat.le_trans HS2.out hg3.size)
          clear hR3 hB3 hg3 y0 y1 y2 y3 y4 y5 y6 y7
          go_wp2
          go_roundw
          case rel =>
            refine ⟨i + 1, j + 1, _, by go_num, by go_num, by omega, by omega, ⟨?_⟩, ⟨?_⟩, ⟨?_⟩, HR3, HB3, HS3, HK3⟩
            · rw [List.length_set]; exact HL.out
            · simp only [Int.toNat_natCast]
              exact delete_keep (by omega) (by rw [HL.out]; omega) HT.out HTK.out HP.out
            · simp only [Int.toNat_natCast]
              rw [List.drop_set_of_lt (by omega)]
              exact HDR.out
          case measure => simp [intOf]; omega
      · rw [hp] at hcall
        have HTK := Aside0.mk (show l.take (j + 1) = l.take j ++ [x] from htk)
        have HDR := Aside0.mk hdr
        have HP := Aside0.mk hp
        have HB1 := Aside0.mk hBW1
        clear htk hdr hp hbox hBW1
        go_wp2_with (fail)
        refine hcall.mono ?_
        rintro e w2 ⟨rfl, hb⟩
        have hbw : Below wr.heap.size wr w2 := HB1.out.trans (hb.mono (by simp))
        have HR2 := Aside0.mk (Kd.R_below HR.out hbw)
        have HB2 := Aside0.mk (below_then HBW.out HBS.out hbw)
        have HS2 := Aside0.mk (Nat.le_trans HBS.out hbw.size)
        have HK2 := Aside0.mk (HC.out.1 _ _ HKW.out hbw)
        clear hb hbw hcall x0 x1 x2 x3 x4 x5 x6 x7 heg
        go_wp2
        go_roundw
        case rel =>
          refine ⟨i, j + 1, m, rfl, by go_num, by omega, by omega, HL, ⟨?_⟩, HDR, HR2, HB2, HS2, HK2⟩
          rw [HTK.out, List.filter_append, HT.out]
          simp [HP.out]
        case measure => simp [intOf]; omega
    · have hjl : j = l.length := by omega
      subst hjl
      have hci : ¬ cap = i := by omega
      have hil : i ≤ l.length := by omega
      have hzv : ∀ W : World, (zeroValue 23).run Try.prog W = .ok (.agg #[.string ⟨#[]⟩, .string ⟨#[]⟩, .int .u8 0, .int .i64 0, .int .i64 0, .int .i64 0, .int .i64 0, .string ⟨#[]⟩]) W := fun W => by kernel_rfl
      obtain ⟨_, inner, ⟨_, ho⟩, _⟩ := HR.out
      rcases ho with ⟨hv, _⟩ | ⟨g', cap', cur, hv, hg, hh, hc1, hc2, hc3, hc4⟩
      · cases hv
      injection hv with e1 e2 e3
      injection e1 with e1
      injection e1 with e1
      subst e1 e3
      clear hc4 e2
      have hsz : (Builtin.zeroCells (Value.agg #[.string ⟨#[]⟩, .string ⟨#[]⟩, .int .u8 0, .int .i64 0, .int .i64 0, .int .i64 0, .int .i64 0, .string ⟨#[]⟩]).cells (l.length - i)).size = (l.length - i) * 8 := by
        unfold Builtin.zeroCells; rw [Array.size_map, Array.size_range]; rfl
      have hone : ∀ v ∈ (Builtin.zeroCells (Value.agg #[.string ⟨#[]⟩, .string ⟨#[]⟩, .int .u8 0, .int .i64 0, .int .i64 0, .int .i64 0, .int .i64 0, .string ⟨#[]⟩]).cells (l.length - i)).toList, v.oneCell' = true := by
        intro v hv
        unfold Builtin.zeroCells at hv
        simp only [Array.toList_map, List.mem_map] at hv
        obtain ⟨q, _, rfl⟩ := hv
        have : q % (Value.agg #[.string ⟨#[]⟩, .string ⟨#[]⟩, .int .u8 0, .int .i64 0, .int .i64 0, .int .i64 0, .int .i64 0, .string ⟨#[]⟩]).cells.size < 8 := Nat.mod_lt _ (by decide)
        generalize q % (Value.agg #[.string ⟨#[]⟩, .string ⟨#[]⟩, .int .u8 0, .int .i64 0, .int .i64 0, .int .i64 0, .int .i64 0, .string ⟨#[]⟩]).cells.size = r at *
        match r, this with
        | 0, _ => rfl
        | 1, _ => rfl
        | 2, _ => rfl
        | 3, _ => rfl
        | 4, _ => rfl
        | 5, _ => rfl
        | 6, _ => rfl
        | 7, _ => rfl
      have hfit : i * 8 + (Builtin.zeroCells (Value.agg #[.string ⟨#[]⟩, .string ⟨#[]⟩, .int .u8 0, .int .i64 0, .int .i64 0, .int .i64 0, .int .i64 0, .string ⟨#[]⟩]).cells (l.length - i)).size ≤ cap * 8 := by rw [hsz]; omega
      have hclr := run_clear (P := Try.prog) wr 24 23 0 _ Try.underlying24 hzv hone g (i * 8) (cap - i) hh (by rw [hc3]; exact hfit)
      have HRF := Aside0.mk (R_first HR.out hil _ (by rw [Array.length_toList]; exact hfit))
      have HBF := Aside0.mk (below_setCells HBW.out (o := i * 8) (vs := (Builtin.zeroCells (Value.agg #[.string ⟨#[]⟩, .string ⟨#[]⟩, .int .u8 0, .int .i64 0, .int .i64 0, .int .i64 0, .int .i64 0, .string ⟨#[]⟩]).cells (l.length - i)).toList) hg)
      generalize (Builtin.zeroCells (Value.agg #[.string ⟨#[]⟩, .string ⟨#[]⟩, .int .u8 0, .int .i64 0, .int .i64 0, .int .i64 0, .int .i64 0, .string ⟨#[]⟩]).cells (l.length - i)).toList = vs at *
      clear hone hfit hsz hzv
      go_wp2
      go_ret
      refine ⟨_, rfl, ?_, HBF.out⟩
      have := HRF.out
      rw [HT.out, List.take_length] at this
      exact this
set_option maxHeartbeats 4000000 in
set_option maxRecDepth 100000 in
theorem slices_DeleteFunc_Node.none_ (gf : Nat) (lb : Array Value) (pr : S23 → Bool) (K : World → Prop) (base : Nat) (w0 : World) (A : Option Addr) (cap : Nat) (l : List S23) (hcb : NodeAsk gf lb l pr K) (w : World)
    (ho : Kd.R k23 23 w base (fun _ => True) (.slice A l.length cap) l) (hC : Kd.C k23 w A l.length l) (hk : K w) (hB : Below base w0 w) (hbase : base ≤ w.heap.size) (hi0 : idxOf pr l = -1) :
    Calls Try.prog 50 #[.slice A l.length cap, .func (.func gf) #[] lb] w fun e w' => ∃ v0_ : Value, e = .returned (v0_) ∧ Kd.R k23 23 w' base (fun _ => True) v0_ (l.filter (fun x => !pr x)) ∧ Below base w0 w' := by
  have hcall := slices_IndexFunc_Node.at_ gf lb pr K A cap l hcb w hC hk
  rw [hi0] at hcall
  have hf : l.filter (fun x => !pr x) = l := by
    unfold idxOf at hi0
    cases hf : l.findIdx? pr with
    | none =>
      rw [List.findIdx?_eq_none_iff] at hf
      rw [List.filter_eq_self]
      intro a ha
      simp [hf a ha]
    | some q => rw [hf] at hi0; simp only at hi0; omega
  rw [hf]
  have HO := Aside0.mk ho
  have HB := Aside0.mk hB
  clear ho hk hB hcb hi0 hC hf
  go_enter Try.func50, Try.ntmps50
  go_wp2_with (first | (go_at_call 57; refine hcall.mono ?_; rintro e w1 ⟨rfl, hb1⟩))
  go_ret
  exact ⟨_, rfl, Kd.R_below HO.out hb1, below_then HB.out hbase hb1⟩
end Go.Proofs.Ytddjnicmpgbcgaa.X
namespace Go.Proofs.Ytddjnicmpgbcgaa.X
open Go.RowKit Go.Proofs.YtddjnicmpgbcgaaW.PrintWords Go.Proofs.YtddjnicmpgbcgaaW.PrintLast Go.Proofs.YtddjnicmpgbcgaaW.PrintMore
attribute [local go_sem] max2_int min2_int max_two min_two max_three min_three max_four min_four
set_option linter.unusedVariables false
set_option linter.unusedSimpArgs false

attribute [local go_sem high] eqA23
/-! ### slices_Equal_Node: function 56 -/
def slices_Equal_Node.l0 : Nat → List (S23) → List (S23) → Int → Int → Option (Bool)
  | 0, _, _, _, _ => none
  | k + 1, x0, x1, x12, x13 => if x13 < x12 then (if 0 ≤ x13 then (if x13 < (x0.length : Int) then (if x13 < (x1.length : Int) then (if (!((((rd_T23 x0 x13).f0).toList) == (((rd_T23 x1 x13).f0).toList)) || (!((((rd_T23 x0 x13).f1).toList) == (((rd_T23 x1 x13).f1).toList)) || (!(((rd_T23 x0 x13).f2) == ((rd_T23 x1 x13).f2)) || (!(((rd_T23 x0 x13).f3) == ((rd_T23 x1 x13).f3)) || (!(((rd_T23 x0 x13).f4) == ((rd_T23 x1 x13).f4)) || (!(((rd_T23 x0 x13).f5) == ((rd_T23 x1 x13).f5)) || (!(((rd_T23 x0 x13).f6) == ((rd_T23 x1 x13).f6)) || (!((((rd_T23 x0 x13).f7).toList) == (((rd_T23 x1 x13).f7).toList)))))))))) = true then (some false) else (slices_Equal_Node.l0 k x0 x1 x12 (wrap64 (x13 + 1)))) else (none)) else (none)) else (none)) else (some true)
def slices_Equal_Node.f (k : Nat) (l0 : List (S23)) (l1 : List (S23)) : Option (Bool) := if (l0.length : Int) = (l1.length : Int) then (slices_Equal_Node.l0 k l0 l1 (l0.length : Int) 0) else (some false)
theorem slices_Equal_Node.mono_l : ∀ k, (∀ y0 y1 y2 y3, LeO (slices_Equal_Node.l0 k y0 y1 y2 y3) (slices_Equal_Node.l0 (k + 1) y0 y1 y2 y3))
  | 0 => fun _ _ _ _ r h => by simp [slices_Equal_Node.l0] at h
  | k + 1 => by
    have ih0 := slices_Equal_Node.mono_l k
    · intro y0 y1 y2 y3
      unfold slices_Equal_Node.l0
      repeat' first
      | (with_reducible exact ih0 _ _ _ _)
      | (with_reducible exact LeO.refl _)
      | (with_reducible exact LeO.none _)
      | (with_reducible refine LeO.ite ?_ ?_)
      | (with_reducible refine LeO.bind ?_ (fun _ => ?_))
      | exact ih0 _ _ _ _
      | exact LeO.none _
      | refine LeO.ite ?_ ?_
      | refine LeO.bind ?_ (fun _ => ?_)
theorem slices_Equal_Node.mono : ∀ a0 a1 k, LeO (slices_Equal_Node.f k a0 a1) (slices_Equal_Node.f (k + 1) a0 a1) := by
  intro a0 a1 k
  have ih0 := slices_Equal_Node.mono_l k
  unfold slices_Equal_Node.f
  repeat' first
      | (with_reducible exact ih0 _ _ _ _)
      | (with_reducible exact LeO.refl _)
      | (with_reducible exact LeO.none _)
      | (with_reducible refine LeO.ite ?_ ?_)
      | (with_reducible refine LeO.bind ?_ (fun _ => ?_))
      | exact ih0 _ _ _ _
      | exact LeO.none _
      | refine LeO.ite ?_ ?_
      | refine LeO.bind ?_ (fun _ => ?_)
set_option maxHeartbeats 8000000 in
set_option maxRecDepth 100000 in
theorem slices_Equal_Node.calls (k : Nat) (A0 : Option Addr) (c0 : Nat) (l0 : List (S23)) (A1 : Option Addr) (c1 : Nat) (l1 : List (S23)) (r : Bool) (w : World) (hr0 : Kd.C k23 w A0 l0.length l0) (hc0 : l0.length ≤ c0) (hr1 : Kd.C k23 w A1 l1.length l1) (hc1 : l1.length ≤ c1) (h : slices_Equal_Node.f k l0 l1 = some r) :
    Calls Try.prog 56 #[.slice A0 l0.length c0, .slice A1 l1.length c1] w fun e w' => e = .returned (.bool r) ∧ Drawn0 w w' := by
  have hu23 := Try.underlying23
  have HR0 := Aside0.mk hr0
  have HC0 := Aside0.mk hc0
  clear hr0 hc0
  have HR1 := Aside0.mk hr1
  have HC1 := Aside0.mk hc1
  clear hr1 hc1
  have H : (if (l0.length : Int) = (l1.length : Int) then (slices_Equal_Node.l0 k l0 l1 (l0.length : Int) 0) else (some false)) = some r := h
  clear h
  by_cases c3 : (l0.length : Int) = (l1.length : Int)
  · rw [if_pos c3] at H
    have c3b0 : ((l0.length : Int) == (l1.length : Int)) = true := beq_iff_eq.mpr c3
    have c3b1 : ((l0.length : Int) != (l1.length : Int)) = false := bne_eq_false_iff_eq.mpr c3
    have c3b2 : (l0.length == l1.length) = true := by first | simpa using c3 | (simp at c3 ⊢; omega)
    clear c3
    have H' := Aside0.mk H
    clear H
    go_enter Try.func56, Try.ntmps56
    go_wp2
    repeat (go_quiet (fail); try go_wp2)
    go_loopg [13] k (fun kq v13 w' => ∃ (x13_1 : Int), v13 = .int .i64 x13_1 ∧ Aside0 (slices_Equal_Node.l0 kq l0 l1 (l0.length : Int) x13_1 = some r) ∧ Aside0 (kq ≤ k) ∧ Drawn0 w w')
    case atStart => exact ⟨(0), (by first | rfl | (simp; done) | (simp [*]; done)), H', ⟨Nat.le_refl _⟩, by repeat (first | exact Drawn0.refl _ | apply Drawn0.step)⟩
    case round =>
      clear H'
      try clear c1
      try clear p2
      try clear c3
      try clear c3b0
      try clear c3b1
      try clear c3b2
      obtain ⟨x13_1, rfl, HA, HK1, ⟨m1, rfl⟩⟩ := hrel
      cases gk with
      | zero => exact absurd HA.out (by simp [slices_Equal_Node.l0])
      | succ k1 =>
        have H := HA.out
        clear HA
        simp only [slices_Equal_Node.l0] at H
        by_cases c4 : x13_1 < (l0.length : Int)
        · rw [if_pos c4] at H
          have c4b0 : decide (x13_1 < (l0.length : Int)) = true := decide_eq_true c4
          clear c4
          by_cases c5 : 0 ≤ x13_1
          · rw [if_pos c5] at H
            have c5b0 : decide (0 ≤ x13_1) = true := decide_eq_true c5
            clear c5
            by_cases c6 : x13_1 < (l0.length : Int)
            · rw [if_pos c6] at H
              have c6b0 : decide (x13_1 < (l0.length : Int)) = true := decide_eq_true c6
              clear c6
              by_cases c7 : x13_1 < (l1.length : Int)
              · rw [if_pos c7] at H
                have c7b0 : decide (x13_1 < (l1.length : Int)) = true := decide_eq_true c7
                clear c7
                by_cases c8 : (!((((rd_T23 l0 x13_1).f0).toList) == (((rd_T23 l1 x13_1).f0).toList)) || (!((((rd_T23 l0 x13_1).f1).toList) == (((rd_T23 l1 x13_1).f1).toList)) || (!(((rd_T23 l0 x13_1).f2) == ((rd_T23 l1 x13_1).f2)) || (!(((rd_T23 l0 x13_1).f3) == ((rd_T23 l1 x13_1).f3)) || (!(((rd_T23 l0 x13_1).f4) == ((rd_T23 l1 x13_1).f4)) || (!(((rd_T23 l0 x13_1).f5) == ((rd_T23 l1 x13_1).f5)) || (!(((rd_T23 l0 x13_1).f6) == ((rd_T23 l1 x13_1).f6)) || (!((((rd_T23 l0 x13_1).f7).toList) == (((rd_T23 l1 x13_1).f7).toList)))))))))) = true
                · rw [if_pos c8] at H
                  have c8b0 : (!((((rd_T23 l0 x13_1).f0).toList) == (((rd_T23 l1 x13_1).f0).toList)) || (!((((rd_T23 l0 x13_1).f1).toList) == (((rd_T23 l1 x13_1).f1).toList)) || (!(((rd_T23 l0 x13_1).f2) == ((rd_T23 l1 x13_1).f2)) || (!(((rd_T23 l0 x13_1).f3) == ((rd_T23 l1 x13_1).f3)) || (!(((rd_T23 l0 x13_1).f4) == ((rd_T23 l1 x13_1).f4)) || (!(((rd_T23 l0 x13_1).f5) == ((rd_T23 l1 x13_1).f5)) || (!(((rd_T23 l0 x13_1).f6) == ((rd_T23 l1 x13_1).f6)) || (!((((rd_T23 l0 x13_1).f7).toList) == (((rd_T23 l1 x13_1).f7).toList)))))))))) = true := c8
                  clear c8
                  obtain rfl := Option.some.inj H
                  have p101 : 0 ≤ (x13_1 : Int) := of_decide_eq_true (by first | (with_reducible assumption) | assumption)
                  have q101 : x13_1 < (l0.length : Int) := of_decide_eq_true (by first | (with_reducible assumption) | assumption)
                  obtain ⟨ad101, e101, hx101_0, hx101_1, hx101_2, hx101_3, hx101_4, hx101_5, hx101_6, hx101_7⟩ := at_T23 HR0.out x13_1 p101 q101
                  cases e101
                  replace p101 := eq_true p101
                  replace q101 := eq_true q101
                  have p102 : 0 ≤ (x13_1 : Int) := of_decide_eq_true (by first | (with_reducible assumption) | assumption)
                  have q102 : x13_1 < (l1.length : Int) := of_decide_eq_true (by first | (with_reducible assumption) | assumption)
                  obtain ⟨ad102, e102, hx102_0, hx102_1, hx102_2, hx102_3, hx102_4, hx102_5, hx102_6, hx102_7⟩ := at_T23 HR1.out x13_1 p102 q102
                  cases e102
                  replace p102 := eq_true p102
                  replace q102 := eq_true q102
                  go_wp2
                  repeat (go_quiet (fail); try go_wp2)
                  go_ret
                  exact ⟨by first | rfl | (simp; done) | (simp [*]; done), by repeat (first | exact Drawn0.refl _ | apply Drawn0.step)⟩
                · rw [if_neg c8] at H
                  have c8b0 : (!((((rd_T23 l0 x13_1).f0).toList) == (((rd_T23 l1 x13_1).f0).toList)) || (!((((rd_T23 l0 x13_1).f1).toList) == (((rd_T23 l1 x13_1).f1).toList)) || (!(((rd_T23 l0 x13_1).f2) == ((rd_T23 l1 x13_1).f2)) || (!(((rd_T23 l0 x13_1).f3) == ((rd_T23 l1 x13_1).f3)) || (!(((rd_T23 l0 x13_1).f4) == ((rd_T23 l1 x13_1).f4)) || (!(((rd_T23 l0 x13_1).f5) == ((rd_T23 l1 x13_1).f5)) || (!(((rd_T23 l0 x13_1).f6) == ((rd_T23 l1 x13_1).f6)) || (!((((rd_T23 l0 x13_1).f7).toList) == (((rd_T23 l1 x13_1).f7).toList)))))))))) = false := by simpa using c8
                  clear c8
                  have H' := Aside0.mk H
                  clear H
                  have p101 : 0 ≤ (x13_1 : Int) := of_decide_eq_true (by first | (with_reducible assumption) | assumption)
                  have q101 : x13_1 < (l0.length : Int) := of_decide_eq_true (by first | (with_reducible assumption) | assumption)
                  obtain ⟨ad101, e101, hx101_0, hx101_1, hx101_2, hx101_3, hx101_4, hx101_5, hx101_6, hx101_7⟩ := at_T23 HR0.out x13_1 p101 q101
                  cases e101
                  replace p101 := eq_true p101
                  replace q101 := eq_true q101
                  have p102 : 0 ≤ (x13_1 : Int) := of_decide_eq_true (by first | (with_reducible assumption) | assumption)
                  have q102 : x13_1 < (l1.length : Int) := of_decide_eq_true (by first | (with_reducible assumption) | assumption)
                  obtain ⟨ad102, e102, hx102_0, hx102_1, hx102_2, hx102_3, hx102_4, hx102_5, hx102_6, hx102_7⟩ := at_T23 HR1.out x13_1 p102 q102
                  cases e102
                  replace p102 := eq_true p102
                  replace q102 := eq_true q102
                  go_wp2
                  repeat (go_quiet (fail); try go_wp2)
                  go_roundg k1
                  case measure => have := HK1.out; omega
                  case rel => exact ⟨(wrap64 (x13_1 + 1)), (by first | rfl | (simp; done) | (simp [*]; done)), H', ⟨by have := HK1.out; omega⟩, by repeat (first | exact Drawn0.refl _ | apply Drawn0.step)⟩
              · rw [if_neg c7] at H
                exact absurd H (by simp)
            · rw [if_neg c6] at H
              exact absurd H (by simp)
          · rw [if_neg c5] at H
            exact absurd H (by simp)
        · rw [if_neg c4] at H
          have c4b0 : decide (x13_1 < (l0.length : Int)) = false := decide_eq_false c4
          clear c4
          obtain rfl := Option.some.inj H
          go_wp2
          repeat (go_quiet (fail); try go_wp2)
          go_ret
          exact ⟨by first | rfl | (simp; done) | (simp [*]; done), by repeat (first | exact Drawn0.refl _ | apply Drawn0.step)⟩
  · rw [if_neg c3] at H
    have c3b0 : ((l0.length : Int) == (l1.length : Int)) = false := beq_eq_false_iff_ne.mpr c3
    have c3b1 : ((l0.length : Int) != (l1.length : Int)) = true := bne_iff_ne.mpr c3
    have c3b2 : (l0.length == l1.length) = false := by first | simpa using c3 | (simp at c3 ⊢; omega)
    obtain rfl := Option.some.inj H
    go_enter Try.func56, Try.ntmps56
    go_wp2
    repeat (go_quiet (fail); try go_wp2)
    go_ret
    exact ⟨by first | rfl | (simp; done) | (simp [*]; done), by repeat (first | exact Drawn0.refl _ | apply Drawn0.step)⟩

end Go.Proofs.Ytddjnicmpgbcgaa.X
namespace Go.Proofs.Ytddjnicmpgbcgaa.X
open Go.RowKit Go.Proofs.YtddjnicmpgbcgaaW.PrintWords Go.Proofs.YtddjnicmpgbcgaaW.PrintLast Go.Proofs.YtddjnicmpgbcgaaW.PrintMore
attribute [local go_sem] max2_int min2_int max_two min_two max_three min_three max_four min_four
set_option linter.unusedVariables false
set_option linter.unusedSimpArgs false

open Go.Proofs.YtddjnicmpgbcgaaY
/-- A row of bytes. -/
abbrev kRow : Kd (List Int) := Kd.slice 5 (Kd.int .u8)
theorem kRow_M {w : World} {base : Nat} {ok : Nat → Prop} {x : List Int} {cs : List Value} (h : kRow.M w base ok x cs) : ∃ v, cs = [v] ∧ Kd.R (Kd.int .u8) 5 w base ok v x := h
set_option maxHeartbeats 1600000 in
set_option maxRecDepth 100000 in
theorem slices_Grow.at_ (n : Nat) (hn : n ≤ 1000000) (w : World) :
    Calls Try.prog 91 #[.slice none 0 0, .int .i64 n] w fun e w' => ∃ A c, e = .returned (.slice A 0 c) ∧ Kd.R kRow 50 w' w.heap.size (fun _ => True) (.slice A 0 c) [] ∧ Below w.heap.size w w' := by
  rcases Nat.eq_zero_or_pos n with rfl | hp
  · go_enter Try.func91, Try.ntmps91
    go_wp2
    go_ret
    exact ⟨none, 0, rfl, Kd.R_nil _ _ _ _ _, Below.refl _ _⟩
  · have h1 : decide ((n : Int) < 0) = false := decide_eq_false (by omega)
    have h2 : decide ((n : Int) > 0) = true := decide_eq_true (by omega)
    have h3 : decide (0 < n) = true := decide_eq_true hp
    clear hp
    go_enter Try.func91, Try.ntmps91
    go_wp2_with (at_builtin; refine Kd.R_append_zeros kRow (w0 := w) w.heap.size rfl (.tmp 20) (.tmp 21) 39 3 50 (.slice none 0 0) 24 rfl Try.underlying39 Try.underlying3 info50 rfl (by decide) (by decide) _ [] [] n (fun _ => True) rfl rfl ⟨_, rfl, Kd.R_nil _ _ _ _ _⟩ (fun _ _ => trivial) (Kd.R_nil _ _ _ _ _) (by omega) (Below.refl _ _) (Nat.le_refl _) (by simp; omega) ?_; intro v1 w1 ho hb hg hat; obtain ⟨A1, c1, rfl⟩ := Kd.R_slice ho; clear hg hat)
    go_ret
    exact ⟨A1, c1, rfl, Kd.R_take ho (m := 0) (Nat.zero_le _), hb⟩
/-- What is handed to Concat: each list a slice of rows that were made. -/
structure InRow (base : Nat) (w : World) (x : Option Addr × Nat × List (List Int)) : Prop where
  cap : x.2.2.length ≤ x.2.1
  row : ReadsRow (kRow.M w base (fun _ => True)) 1 w x.1 x.2.2.length x.2.2
theorem InRow.of_R {e base b : Nat} {ok : Nat → Prop} {w : World} {v : Value} {xs : List (List Int)} (h : Kd.R kRow e w base ok v xs) (hb : b ≤ base) : ∃ A c, v = .slice A xs.length c ∧ InRow b w (A, c, xs) := by
  obtain ⟨_, ho⟩ := h
  obtain ⟨A, c, hv, hl, hr⟩ := OwnRow.reads ho
  exact ⟨A, c, hv, hl, hr.imp_ (Below.refl _ _) (fun _ _ hp => kRow.M_lower hb (kRow.M_mono (fun _ _ => trivial) hp))⟩
theorem InRow.below {base : Nat} {w w' : World} {x : Option Addr × Nat × List (List Int)} (h : InRow base w x) (hb : Below w.heap.size w w') : InRow base w' x :=
  ⟨h.cap, h.row.imp_ hb (fun _ _ hp => Kd.M_below hp hb)⟩
def inV (x : Option Addr × Nat × List (List Int)) : Value := .slice x.1 x.2.2.length x.2.1
def totalL (xs : List (Option Addr × Nat × List (List Int))) : Nat := (xs.map (fun x => x.2.2.length)).sum
def flatL (xs : List (Option Addr × Nat × List (List Int))) : List (List Int) := (xs.map (fun x => x.2.2)).flatten
theorem totalL_flat (xs : List (Option Addr × Nat × List (List Int))) : (flatL xs).length = totalL xs := by
  unfold flatL totalL
  rw [List.length_flatten, List.map_map]
  rfl
theorem totalL_snoc (xs : List (Option Addr × Nat × List (List Int))) (x : Option Addr × Nat × List (List Int)) : totalL (xs ++ [x]) = totalL xs + x.2.2.length := by simp [totalL]
theorem flatL_snoc (xs : List (Option Addr × Nat × List (List Int))) (x : Option Addr × Nat × List (List Int)) : flatL (xs ++ [x]) = flatL xs ++ x.2.2 := by simp [flatL]
theorem totalL_take (xs : List (Option Addr × Nat × List (List Int))) (k : Nat) : totalL (xs.take k) ≤ totalL xs := by
  have := congrArg totalL (List.take_append_drop k xs)
  unfold totalL at this ⊢
  rw [List.map_append, List.sum_append] at this
  omega
set_option maxHeartbeats 1600000 in
set_option maxRecDepth 100000 in
theorem slices_Concat.at_ (base b : Nat) (xs : List (Option Addr × Nat × List (List Int))) (w : World) (hb : w.heap[b]? = some (.cells (xs.map inV).toArray 39 (0, 0))) (hxs : ∀ x ∈ xs, InRow base w x) (hl : totalL xs ≤ 100000) (hn : xs.length ≤ 1000) (hbase : base ≤ w.heap.size) :
    Calls Try.prog 63 #[.slice (some ⟨b, 0, none⟩) xs.length xs.length] w fun e w' => ∃ v, e = .returned v ∧ Kd.R kRow 50 w' base (fun _ => True) v (flatL xs) ∧ Below w.heap.size w w' := by
  have HB := Aside0.mk hb
  have HXS := Aside0.mk hxs
  have HBS := Aside0.mk hbase
  clear hb hxs hbase
  have hgrow := fun W => slices_Grow.at_ (totalL xs) (by omega) W
  obtain ⟨tot, htot⟩ : ∃ tot, totalL xs = tot := ⟨_, rfl⟩
  rw [htot] at hgrow hl
  have HTOT := Aside0.mk htot
  have HL := Aside0.mk hl
  clear htot
  go_enter Try.func63, Try.ntmps63
  go_wp2
  go_loop [3, 11] (fun v3 v11 => ∃ k : Nat, v11 = .int .i64 k ∧ k ≤ xs.length ∧ v3 = .int .i64 (totalL (xs.take k) : Nat)) (fun _ v11 => xs.length - (intOf v11).toNat)
  case atStart => exact ⟨0, rfl, Nat.zero_le _, rfl⟩
  case round =>
    obtain ⟨k, rfl, hk, rfl⟩ := hrel
    by_cases hlt : k < xs.length
    · have htk : totalL (xs.take (k + 1)) = totalL (xs.take k) + xs[k].2.2.length := by rw [List.take_succ_eq_append_getElem hlt, totalL_snoc]
      have htl := totalL_take xs (k + 1)
      have hcell : w.cell? ⟨b, k, none⟩ = some (inV xs[k]) := by rw [blk_cell HB.out k, List.getElem?_toArray, List.getElem?_map, List.getElem?_eq_getElem hlt]; rfl
      rw [HTOT.out] at htl
      generalize xs[k] = x at *
      obtain ⟨xa, xc, xl⟩ := x
      simp only [inV] at hcell htk
      obtain ⟨t, ht⟩ : ∃ t, totalL (xs.take k) = t := ⟨_, rfl⟩
      rw [ht] at htk ⊢
      have hb1 : t + xl.length ≤ 100000 := by omega
      have HTK := Aside0.mk htk
      have hlt2 : (k : Int) < (xs.length : Int) := by omega
      have hk0 : (0 : Int) ≤ (k : Int) := by omega
      have hnn : decide ((t : Int) + (xl.length : Int) < 0) = false := decide_eq_false (by omega)
      clear htk htl ht
      go_wp2
      go_round
      case rel => exact ⟨k + 1, by go_num, by omega, by rw [HTK.out]; go_num⟩
      case measure => simp [intOf]; omega
    · obtain rfl : k = xs.length := by omega
      have ht : totalL (xs.take xs.length) = tot := by rw [List.take_length]; exact HTOT.out
      rw [ht]
      clear ht
      go_wp2_with (first | (go_at_call 91; refine (hgrow _).mono ?_; rintro e w1 ⟨A1, c1, rfl, hR1, hb1⟩))
      have HR1 := Aside0.mk (Kd.R_lower (base' := base) hR1 HBS.out)
      have HB1 := Aside0.mk hb1
      have HO1 := Aside0.mk (Kd.R_base hR1)
      clear hR1 hb1 hgrow
      go_loopw [6, 27] (fun v6 v27 wr => ∃ k : Nat, v27 = .int .i64 k ∧ k ≤ xs.length ∧ (∃ A n c, v6 = .slice A n c) ∧ Aside0 (Kd.R kRow 50 wr base (fun _ => True) v6 (flatL (xs.take k))) ∧ Aside0 (∀ j, v6.ownBlock = some j → w.heap.size ≤ j) ∧ Aside0 (Below w.heap.size w wr)) (fun _ v27 _ => xs.length - (intOf v27).toNat)
      case atStart => exact ⟨0, rfl, Nat.zero_le _, ⟨_, _, _, rfl⟩, HR1, HO1, HB1⟩
      case round =>
        obtain ⟨k, rfl, hk, ⟨A6, n6, c6, rfl⟩, HR, HO, HBW⟩ := hrel
        clear HR1 HO1 HB1
        by_cases hlt : k < xs.length
        · have hcell : wr.cell? ⟨b, k, none⟩ = some (inV xs[k]) := by rw [blk_cell (blk_below HB.out HBW.out) k, List.getElem?_toArray, List.getElem?_map, List.getElem?_eq_getElem hlt]; rfl
          have hin := (HXS.out xs[k] (List.getElem_mem hlt))
          have htk : flatL (xs.take (k + 1)) = flatL (xs.take k) ++ xs[k].2.2 := by rw [List.take_succ_eq_append_getElem hlt, flatL_snoc]
          have htl := totalL_take xs (k + 1)
          rw [← totalL_flat, htk, List.length_append] at htl
          generalize xs[k] = x at *
          obtain ⟨xa, xc, xl⟩ := x
          simp only [inV] at hcell htk htl
          have hrow : ReadsRow (kRow.M wr base (fun k => k < w.heap.size)) 1 wr xa xl.length xl := hin.row.imp_ HBW.out (fun x cs hp => Kd.M_below (kRow.M_mono (fun _ hk => hk.2.2.1) (kRow.M_bound hp)) HBW.out)
          have HRW := Aside0.mk hrow
          have HTK := Aside0.mk htk
          have hbd : (flatL (xs.take k)).length + xl.length ≤ 100000 := by have := HTOT.out; have := HL.out; omega
          have HBD := Aside0.mk hbd
          have hlt2 : (k : Int) < (xs.length : Int) := by omega
          have hk0 : (0 : Int) ≤ (k : Int) := by omega
          have hbs : base ≤ wr.heap.size := Nat.le_trans HBS.out HBW.out.size
          have HKO := Aside0.mk (show ∀ j, j < w.heap.size → True ∧ some j ≠ (Value.slice A6 n6 c6).ownBlock from fun j hj => ⟨trivial, fun e => by have := HO.out j e.symm; omega⟩)
          clear hrow htk htl hin hbd
          go_wp2_with (at_builtin; refine Kd.R_append_rows kRow (w0 := w) base rfl (.tmp 31) (.tmp 32) 39 50 (.slice none 0 0) 24 rfl Try.underlying39 info50 rfl (by decide) (by decide) _ (flatL (xs.take k)) xl xa xl.length xc (fun _ => True) (fun k => k < w.heap.size) rfl rfl HR.out HRW.out (fun _ _ h => h) HKO.out (fun _ _ => trivial) (HBW.out.mono HBS.out) hbs (by have := HBD.out; omega) ?_; intro v1 w1 ho hb hg hat; obtain ⟨A7, c7, rfl⟩ := Kd.R_slice ho)
          go_roundw
          case rel =>
            refine ⟨k + 1, by go_num, by omega, ⟨_, _, _, rfl⟩, ⟨?_⟩, ⟨?_⟩, ⟨?_⟩⟩
            · rw [HTK.out]
              simpa using ho
            · intro j hj
              have hj2 : (Value.slice A7 (flatL (xs.take k) ++ xl).length c7).ownBlock = some j := by
                rw [← hj]; cases A7 <;> rfl
              rcases hat with hat | ⟨b', hb', hle⟩
              · rw [hat] at hj2; exact HO.out j hj2
              · rw [hb'] at hj2; injection hj2 with hj2; have := HBW.out.size; omega
            · exact HBW.out.grown hg HBW.out.size (fun j hj => HO.out j hj)
          case measure => simp [intOf]; omega
        · obtain rfl : k = xs.length := by omega
          have hR := HR.out
          rw [List.take_length] at hR
          have HRR := Aside0.mk hR
          clear hR
          go_wp2_with (fail)
          go_ret
          exact ⟨_, rfl, HRR.out, HBW.out⟩

end Go.Proofs.Ytddjnicmpgbcgaa.X
