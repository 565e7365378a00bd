import Derived.Test.YtlecnodlnkanaaaXK
import Derived.Test.YtlecnodlnkanaaaXGblock
import Derived.Test.YtlecnodlnkanaaaXGentry
import Derived.Test.YtlecnodlnkanaaaXGslices
import Derived.Test.YtlecnodlnkanaaaXGtree
import Derived.Test.YtlecnodlnkanaaaYAll
import Derived.Test.YtlecnodlnkanaaaYIterR
import Derived.Test.YtlecnodlnkanaaaP02p
import Derived.Test.YtlecnodlnkanaaaP06a
import Derived.Test.YtlecnodlnkanaaaP08a
import Derived.Test.YtlecnodlnkanaaaPGA
import Derived.Test.YtlecnodlnkanaaaPGE
import Derived.Deep.RegionHeld3
import Derived.Laws.EntriesVeiled
import Derived.RangeFuncBox
import Derived.WalkSpells
namespace Go.Proofs.Ytlecnodlnkanaaa.X
open Go.RowKit Go.Proofs.YtlecnodlnkanaaaW.PrintWords Go.Proofs.YtlecnodlnkanaaaW.PrintLast Go.Proofs.YtlecnodlnkanaaaW.PrintMore
attribute [local go_sem] max2_int min2_int max_two min_two
set_option linter.unusedVariables false
set_option linter.unusedSimpArgs false

open Go.Proofs.YtlecnodlnkanaaaY Go.Shelf
attribute [local go_sem] Oper.semAt_some
theorem stream_entries.at_ (A : Option Addr) (n c : Nat) (w : World) :
    Calls Try.prog 91 #[.slice A n c] w fun e w' => e = .returned (.func (.func 138) #[] #[.pointer (some ⟨w.heap.size, 0, none⟩)]) ∧ w.alloc (.cells #[.slice A n c] 48) = w' := by
  go_enter Try.func91, Try.ntmps91
  go_wp2
  go_ret
  exact ⟨rfl, rfl⟩
abbrev kNode : Kd Nd := k23
abbrev zNode : Nd := z23
/-- A node's number, its blocks, and the slice that hands them on. -/
abbrev Handed := Nat × Option Addr × Nat × Nat
def handV (y : Handed) : Array Value := #[.int .i64 (y.1 : Int), .slice y.2.1 y.2.2.1 y.2.2.2]
def HandIs (z : Nat) (x : Nat × List (List Int)) (y : Handed) (W : World) : Prop := y.1 = x.1 ∧ y.2.2.1 = x.2.length ∧ Kd.R kRow 42 W z (fun _ => True) (.slice y.2.1 y.2.2.1 y.2.2.2) x.2
/-- What is handed on. -/
def handL (t : List Nd) : List (Nat × List (List Int)) := (List.range t.length).map fun k => (k, entryB (t.getD k zNode))
theorem handL_length (t : List Nd) : (handL t).length = t.length := by unfold handL; rw [List.length_map, List.length_range]
theorem handL_get (t : List Nd) {k : Nat} (h : k < t.length) : (handL t)[k]'(by rw [handL_length]; exact h) = (k, entryB t[k]) := by
  unfold handL
  rw [List.getElem_map, List.getElem_range, List.getD_eq_getElem?_getD, List.getElem?_eq_getElem h]
  rfl
theorem handL_split (t : List Nd) {k : Nat} (h : k < t.length) : handL t = (handL t).take k ++ (k, entryB t[k]) :: (handL t).drop (k + 1) := by
  rw [← handL_get t h, ← List.drop_eq_getElem_cons (by rw [handL_length]; exact h)]
  exact (List.take_append_drop k _).symm
theorem handL_take (t : List Nd) {k : Nat} (h : k < t.length) : (handL t).take (k + 1) = (handL t).take k ++ [(k, entryB t[k])] := by
  rw [List.take_succ_eq_append_getElem (by rw [handL_length]; exact h), handL_get t h]
/-- Nodes whose block is as it was. -/
theorem nodes_keep {w w' : World} {A : Option Addr} {n : Nat} {t : List Nd} (h : Kd.C kNode w A n t) (hk : ∀ ad, A = some ad → 0 < n → w'.heap[ad.block]? = w.heap[ad.block]?) : Kd.C kNode w' A n t := by
  obtain ⟨h1, h2, h3⟩ := h
  refine ⟨h1, h2, fun hp => ?_⟩
  obtain ⟨ad, hA, hc⟩ := h3 hp
  refine ⟨ad, hA, fun j p hj => ?_⟩
  obtain ⟨cs, hl, hK, hcell⟩ := hc j p hj
  refine ⟨cs, hl, by rw [k23_open hK]; exact k23_mk _ _, fun i u hu => ?_⟩
  have h4 := hcell i u hu
  rw [← h4]
  have hb : (ad.add (j * kNode.sz + i)).block = ad.block := add_block _ _
  have h5 := hk ad hA hp
  unfold World.cell?
  rw [hb, h5]
theorem nodes_lt {w : World} {ad : Addr} {n : Nat} {t : List Nd} (h : Kd.C kNode w (some ad) n t) (hp : 0 < n) : ad.block < w.heap.size := by
  obtain ⟨h1, h2, h3⟩ := h
  obtain ⟨ad', hA, hc⟩ := h3 hp
  cases hA
  obtain ⟨cs, hl, hK, hcell⟩ := hc 0 (t[0]'(by omega)) (List.getElem?_eq_getElem _)
  have h4 := hcell 0 _ (by rw [k23_open hK]; rfl)
  have h5 := World.block_lt_of_cell? w _ h4
  rwa [add_block] at h5
theorem node_cells {w : World} {A : Option Addr} {n : Nat} {t : List Nd} (h : Kd.C kNode w A n t) {i : Nat} (hi : i < n) (x : Nd) (hx : t[i]? = some x) : ∃ ad, A = some ad ∧ w.cell? (ad.add (i * 8)) = some (.string x.f0) ∧ w.cell? ⟨(ad.add (i * 8)).block, (ad.add (i * 8)).off + 1, none⟩ = some (.string x.f1) ∧ w.cell? ⟨(ad.add (i * 8)).block, (ad.add (i * 8)).off + 2, none⟩ = some (.int .u8 x.f2) ∧ w.cell? ⟨(ad.add (i * 8)).block, (ad.add (i * 8)).off + 3, none⟩ = some (.int .i64 x.f3) ∧ w.cell? ⟨(ad.add (i * 8)).block, (ad.add (i * 8)).off + 4, none⟩ = some (.int .i64 x.f4) ∧ w.cell? ⟨(ad.add (i * 8)).block, (ad.add (i * 8)).off + 5, none⟩ = some (.int .i64 x.f5) ∧ w.cell? ⟨(ad.add (i * 8)).block, (ad.add (i * 8)).off + 6, none⟩ = some (.int .i64 x.f6) ∧ w.cell? ⟨(ad.add (i * 8)).block, (ad.add (i * 8)).off + 7, none⟩ = some (.string x.f7) := by
  have h1 := at_T23 h (i : Int) (by omega) (by omega)
  have e : rd_T23 t (i : Int) = x := by unfold rd_T23; rw [Int.toNat_natCast, List.getD_eq_getElem?_getD, hx]; rfl
  rw [e, Int.toNat_natCast] at h1
  exact h1
/-- What the iterator reads. -/
def entryN (A : Option Addr) (n : Nat) (k : Nat) : Prop := ∃ ad, A = some ad ∧ 0 < n ∧ k = ad.block
set_option maxRecDepth 100000 in
set_option maxHeartbeats 1600000 in
theorem stream_entries.yields (n : Nat) (hn : 1 ≤ n) (t : List Nd) (ht : ∀ x ∈ t, oneB x = true) (km : Nat) (hmay : tree_May.f km t = some true) (A : Option Addr) (c b : Nat) (w : World) (hb : w.heap[b]? = some (.cells #[.slice A t.length c] 48 (0, 0))) (hC : Kd.C kNode w A t.length t) (hc : t.length ≤ c) (z : Nat) :
    HandsOnR Fence.wide n Try.prog 138 #[.pointer (some ⟨b, 0, none⟩)] handV (HandIs z) (handL t) (fun k => k = b) (entryN A t.length) z w := by
  intro l J Jx W hT hz hJ hJx hY h0
  have hbW : W.heap[b]? = some (.cells #[.slice A t.length c] 48 (0, 0)) := (hT.block b (blk_lt hb) (fun h => h)).trans hb
  have hCW : Kd.C kNode W A t.length t := nodes_keep hC (fun ad e hp => hT.block _ (nodes_lt (e ▸ hC) hp) (fun h => h))
  have hcell := (blk_cell hbW 0).trans (show _ = some (Value.slice A t.length c) from rfl)
  have hm : t.length ≤ 9223372036854775807 := hC.2.1
  have HBW := Aside0.mk hbW
  have HCW := Aside0.mk hCW
  have HTO := Aside0.mk ht
  clear hT hb hC hbW hCW ht
  refine callsIn_of_wp Try.func138 rfl trivial ?_ rfl
  simp only [Try.ntmps138, List.size_toArray, List.length_cons, List.length_nil, Nat.reduceAdd, Nat.reduceSub, Array.replicate_succ, Array.replicate_zero, List.push_toArray, List.append_toArray, List.nil_append, List.cons_append]
  gi_wp2
  refine ⟨trivial, ?_⟩
  refine (callsIn_wide.2 (tree_May.calls km A c t true W HCW.out hc hmay)).mono ?_
  rintro e W1 ⟨rfl, hb1⟩
  have hcell1 := pw_cell_below hb1 hcell
  have HBX1 := Aside0.mk (blk_below HBW.out hb1)
  have HC1 := Aside0.mk (Kd.C_below HCW.out hb1)
  have HJ1 := Aside0.mk (hJ _ _ _ h0 (Turn.of_below hb1))
  have hz1 : z ≤ W1.heap.size := Nat.le_trans hz hb1.size
  clear hcell hb1 h0 hz
  gi_wp2
  gi_loopw [3, 4, 5, 6, 12] (fun v3 v4 v5 v6 v12 wr => ∃ k : Nat, v12 = .int .i64 k ∧ k ≤ t.length ∧ Aside0 (J ((handL t).take k) wr) ∧ Aside0 (wr.heap[b]? = some (.cells #[.slice A t.length c] 48 (0, 0))) ∧ Aside0 (Kd.C kNode wr A t.length t) ∧ z ≤ wr.heap.size) (fun _ _ _ _ v12 _ => t.length - (intOf v12).toNat)
  case atStart => exact ⟨0, rfl, Nat.zero_le _, HJ1, HBX1, HC1, hz1⟩
  case round =>
    obtain ⟨k, rfl, hk, HJ, HX, HC, hzr⟩ := hrel
    clear HJ1 HBX1 HC1 hcell1 hz1
    by_cases hlt : k < t.length
    · have hsp := handL_split t hlt
      have htk := handL_take t hlt
      have hone := HTO.out t[k] (List.getElem_mem hlt)
      obtain ⟨ad, rfl, k0, k1, k2, k3, k4, k5, k6, k7⟩ := node_cells HC.out hlt t[k] (List.getElem?_eq_getElem hlt)
      have hp := entryPut_yes hone
      have hlt2 : (k : Int) < (t.length : Int) := by omega
      have hk0 : (0 : Int) ≤ (k : Int) := by omega
      generalize t[k] = x at *
      obtain ⟨f0, f1, f2, f3, f4, f5, f6, f7⟩ := x
      simp only at k0 k1 k2 k3 k4 k5 k6 k7 hp
      have HSP := Aside0.mk hsp
      have HTK := Aside0.mk htk
      have hput := entry_Put.calls f0 f1 f2 f3 f4 f5 f6 f7 _ _ (wr.alloc (.cells #[.string f0, .string f1, .int .u8 f2, .int .i64 f3, .int .i64 f4, .int .i64 f5, .int .i64 f6, .string f7] 23)) hp
      have HBN := Aside0.mk (below_alloc (Below.refl wr.heap.size wr) (.cells #[.string f0, .string f1, .int .u8 f2, .int .i64 f3, .int .i64 f4, .int .i64 f5, .int .i64 f6, .string f7] 23))
      have HJal := Aside0.mk (hJ _ _ _ HJ.out (Turn.alloc wr (.cells #[.string f0, .string f1, .int .u8 f2, .int .i64 f3, .int .i64 f4, .int .i64 f5, .int .i64 f6, .string f7] 23)))
      have hsz1 := World.size_alloc wr (.cells #[.string f0, .string f1, .int .u8 f2, .int .i64 f3, .int .i64 f4, .int .i64 f5, .int .i64 f6, .string f7] 23)
      have hXal : (wr.alloc (.cells #[.string f0, .string f1, .int .u8 f2, .int .i64 f3, .int .i64 f4, .int .i64 f5, .int .i64 f6, .string f7] 23)).heap[b]? = some (.cells #[.slice (some ad) t.length c] 48 (0, 0)) := blk_alloc HX.out _
      have HCal := Aside0.mk (Kd.C_below HC.out HBN.out)
      have HXB := Aside0.mk (blk_cell hXal 0)
      have hxc := (blk_cell HX.out 0).trans (show _ = some (Value.slice (some ad) t.length c) from rfl)
      have HXAL := Aside0.mk hXal
      have HPUT := Aside0.mk hput
      have HSZ := Aside0.mk hsz1
      have hzal : z ≤ (wr.alloc (.cells #[.string f0, .string f1, .int .u8 f2, .int .i64 f3, .int .i64 f4, .int .i64 f5, .int .i64 f6, .string f7] 23)).heap.size := by rw [hsz1]; omega
      have HZAL := Aside0.mk hzal
      clear hsp htk hone hp hput hsz1 hXal hzal
      gi_wp2
      refine ⟨trivial, ?_⟩
      refine (callsIn_wide.2 HPUT.out).mono ?_
      rintro e W3 ⟨v, rfl, hR, hb3⟩
      obtain ⟨A', c', rfl⟩ := Kd.R_slice hR
      have HX3 := Aside0.mk (blk_below HXAL.out hb3)
      have HC3 := Aside0.mk (Kd.C_below HCal.out hb3)
      have HJ3 := Aside0.mk (hJ _ _ _ HJal.out (Turn.of_below hb3))
      have HSZ3 := Aside0.mk (Nat.le_trans HZAL.out hb3.size)
      have hE : HandIs z (k, entryB ⟨f0, f1, f2, f3, f4, f5, f6, f7⟩) (k, A', (entryB ⟨f0, f1, f2, f3, f4, f5, f6, f7⟩).length, c') W3 := ⟨rfl, rfl, Kd.R_lower hR HZAL.out⟩
      obtain ⟨fn, tmps, assign, body, hy, hRR⟩ := hY _ (k, entryB ⟨f0, f1, f2, f3, f4, f5, f6, f7⟩) (k, A', (entryB ⟨f0, f1, f2, f3, f4, f5, f6, f7⟩).length, c') _ W3 HSP.out HJ3.out hE
      replace hy : (Instr.yield l #[.int .i64 (k : Int), .slice A' (entryB ⟨f0, f1, f2, f3, f4, f5, f6, f7⟩).length c']).run Try.prog W3 = _ := hy
      clear hR hb3 hE
      gi_wp2
      refine hRR.mono ?_
      rintro e W4 (⟨rfl, hJ4, hsz4, hk4⟩ | ⟨rfl, hJx4⟩)
      · have HX4 := Aside0.mk ((hk4 b (.inl rfl)).trans HX3.out)
        have HC4 := Aside0.mk (nodes_keep HC3.out (fun ad' e hp => hk4 _ (.inr ⟨ad', e, hp, rfl⟩)))
        have HJ4 := Aside0.mk hJ4
        have HSZ4 := Aside0.mk (Nat.le_trans HSZ3.out hsz4)
        clear hJ4 hsz4 hk4
        gi_wp2
        go_roundw
        case rel => exact ⟨k + 1, by simp, by omega, Aside0.mk (by rw [HTK.out]; exact HJ4.out), HX4, HC4, HSZ4.out⟩
        case measure => simp [intOf]; omega
      · gi_wp2
        refine bodyPost_ret (results_none rfl _ _ _) rfl ?_
        exact ⟨⟨_, rfl⟩, .inr hJx4⟩
    · have hlt2 : ¬ ((k : Int) < (t.length : Int)) := by omega
      have hk2 : k = t.length := by omega
      have HJe := HJ.out
      rw [hk2, ← handL_length t, List.take_length] at HJe
      gi_wp2
      go_end0
      exact ⟨⟨_, rfl⟩, .inl HJe⟩

end Go.Proofs.Ytlecnodlnkanaaa.X
namespace Go.Proofs.Ytlecnodlnkanaaa.X
open Go.RowKit Go.Proofs.YtlecnodlnkanaaaW.PrintWords Go.Proofs.YtlecnodlnkanaaaW.PrintLast Go.Proofs.YtlecnodlnkanaaaW.PrintMore
attribute [local go_sem] max2_int min2_int max_two min_two
set_option linter.unusedVariables false
set_option linter.unusedSimpArgs false

open Go.Proofs.YtlecnodlnkanaaaY Go.Shelf
attribute [local go_sem] Oper.semAt_some
section
variable {F : Fence} {nF : Nat} {P : Program} {ops : Array Oper} {rest : List Oper} {o : Oper} {a : Act} {Q : Exit → Act → World → Prop} {α : Type}
/-- append(v, x...), within a round: x a row of the call's own, whose elements' rows are of other types than v's. -/
theorem RIn_append_rows (d : Kd α) {W : World} (base base' : Nat) (hgd : o.guard = none) (s x : Operand) (t e e' : TypeId) (z : Value) (bytes : Nat)
    (ho : o.op = .call { callee := .builtin .append, args := #[s, x], argTypes := #[t, t] })
    (ht : P.underlying t = some (.slice e)) (hinfo : (P.info? e).map (fun i => (i.zero, i.size, i.bytes)) = some (some z, d.sz, bytes)) (hz : z.cells.size = d.sz) (hs0 : 0 < d.sz) (hb0 : 0 < bytes) (hE : ∀ q ∈ d.E, q ≠ e)
    (v : Value) (xs ys : List α) (A : Option Addr) (c : Nat) (hs : a.eval s = v) (hx : a.eval x = .slice A ys.length c) (hpos : 0 < ys.length)
    (HO : d.R e W base (fun _ => True) v xs) (HX : d.R e' W base' (fun _ => True) (.slice A ys.length c) ys) (hbb : base ≤ base') (hbase : base ≤ W.heap.size) (hl : (xs.length + ys.length) * bytes ≤ 140737488355328)
    (h : ∀ v1 w1, d.R e w1 base (fun _ => True) v1 (xs ++ ys) → W.grownBy w1 v.ownBlock → wpListIn F nF P ops Q rest (a.put o.dst v1) w1) :
    wpListIn F nF P ops Q (o :: rest) a W := by
  obtain ⟨i0, hi, hzz⟩ := Option.map_eq_some_iff.1 hinfo
  simp only [Prod.mk.injEq] at hzz
  obtain ⟨hz0, hz1, hz2⟩ := hzz
  have hlen : xs.length + ys.length ≤ 140737488355328 := Nat.le_trans (Nat.le_mul_of_pos_right _ hb0) hl
  obtain ⟨_, inner, hown, hr⟩ := HO
  obtain ⟨_, news, hownX, hrX⟩ := HX
  obtain ⟨ad, rfl⟩ : ∃ g : Nat, A = some ⟨g, 0, none⟩ := by
    rcases hownX.2 with ⟨e, h0⟩ | ⟨g, cap, cur, e, _⟩
    · omega
    · injection e with e1 e2 e3
      exact ⟨g, e1⟩
  have hone : ∀ u ∈ news, u.oneCell' = true := by
    intro u hu
    obtain ⟨q, hq, rfl⟩ := List.mem_iff_getElem.1 hu
    have hql : q / d.sz < ys.length := by
      rw [Nat.div_lt_iff_lt_mul hs0, ← hrX.1]
      exact hq
    refine d.K_one (d.K_of_M (hrX.2 (q / d.sz) _ (List.getElem?_eq_getElem hql))) _ ?_
    rw [List.mem_iff_getElem?]
    exact ⟨q % d.sz, by rw [List.getElem?_take, if_pos (Nat.mod_lt _ hs0), List.getElem?_drop, Nat.mul_comm, Nat.div_add_mod, List.getElem?_eq_getElem hq]⟩
  refine Go.wpListIn_append_own_at (w := W) hgd s x t ho base e i0 z d.sz bytes ht hi hz0 hz1 hz2 hz hs0 v xs.length inner hs hown ⟨ad, 0, none⟩ ys.length c news hx (by rw [hrX.1])
    (hownX.cells rfl) hone (by simp only [maxLen]; omega) hl hbase ?_
  intro v1 w1 hown1 hg _ hat
  have hne : ∀ k, some k ≠ v.ownBlock → k < W.heap.size → some k ≠ v1.ownBlock := by
    intro k hk hlt
    rcases hat with hat | hat
    · rw [hat]; exact hk
    · rw [hat]
      intro he
      injection he with he
      omega
  have step : ∀ {q : α} {c : List Value} {o : Nat → Prop}, d.M W base o q c → (∀ k, o k → some k ≠ v.ownBlock) → d.M w1 base (fun k => True ∧ some k ≠ v1.ownBlock) q c := by
    intro q c o hq ho
    have h1 := d.M_move (w1 := w1) (fun k hk => hg.block k hk.2.2.1 (ho k hk.1)) (d.M_bound hq)
    exact d.M_mono (fun k hk => ⟨trivial, hne k (ho k hk.1) hk.2.2.1⟩) h1
  have hX2 : Reps (d.M w1 base (fun k => True ∧ some k ≠ v1.ownBlock)) d.sz ys news := hrX.imp_ (fun p c hp => by
    have h1 := d.M_bound (d.M_lower hbb hp)
    refine step h1 (fun k hk e1 => ?_)
    obtain ⟨_, _, _, q, hq, cells, hc⟩ := hk
    obtain ⟨cells', hc'⟩ := own_typed hown k e1.symm
    rw [hc'] at hc
    cases hc
    exact hE _ hq rfl)
  refine h v1 w1 ⟨fun _ _ => trivial, inner ++ news, by rw [List.length_append]; exact hown1, Kd.reps_append (hr.imp_ (fun _ _ hq => step hq (fun _ hk => hk.2))) hX2⟩ hg
end
/-- A region that does not panic. -/
def calm (Q : Exit → Act → World → Prop) : Exit → Act → World → Prop
  | .panic _, _, _ => False
  | e, a, w => Q e a w
theorem region_calm {P : Program} {c : Code} {Q : Exit → Act → World → Prop} {a : Act} {w : World} (h : c.wp P (calm Q) a w) : c.wp P Q a w :=
  wp_mono h fun e a w h => by cases e <;> first | exact h | exact h.elim
theorem kRow_E : ∀ q ∈ kRow.E, q ≠ 42 := by
  intro q hq
  have h_ : q = 5 := by simpa [kRow, Kd.slice, Kd.int, Kd.scalar] using hq
  subst h_
  decide
theorem zeros_two : block_Zeros.f 5 2 = some zeroB := by
  have h1 : wrap64 (0 + 1) = 1 := wrap_id (by omega) (by omega)
  have h2 : wrap64 (1 + 1) = 2 := wrap_id (by omega) (by omega)
  unfold block_Zeros.f
  rw [if_neg (by decide), show decide ((2 : Int) > 400) = false by decide, block_Zeros.j0, if_neg (by decide), block_Zeros.l0, if_pos (by decide), if_pos (by decide), if_pos (by decide), h1, block_Zeros.l0, if_pos (by decide), if_pos (by decide), if_pos (by rw [List.nil_append, List.length_singleton]; decide), h2, block_Zeros.l0, if_neg (by decide)]
  rfl
/-- What is handed on, all in one. -/
def bodyH (l : List (Nat × List (List Int))) : List (List Int) := (l.map Prod.snd).flatten
theorem bodyH_snoc (l : List (Nat × List (List Int))) (x : Nat × List (List Int)) : bodyH (l ++ [x]) = bodyH l ++ x.2 := by
  unfold bodyH
  rw [List.map_append, List.flatten_append]
  simp
theorem bodyH_take (t : List Nd) : ∀ k, k ≤ t.length → bodyH ((handL t).take k) = bodyB (t.take k)
  | 0, _ => by simp [bodyH, bodyB]
  | k + 1, h => by
    rw [handL_take t (by omega), bodyH_snoc, bodyH_take t k (by omega), List.take_succ_eq_append_getElem (by omega), bodyB_snoc]
theorem bodyH_all (t : List Nd) : bodyH (handL t) = bodyB t := by
  have h := bodyH_take t t.length (Nat.le_refl _)
  rw [← handL_length t, List.take_length, handL_length, List.take_length] at h
  exact h
theorem handL_mem {t : List Nd} {pre : List (Nat × List (List Int))} {x : Nat × List (List Int)} {post : List (Nat × List (List Int))} (h : handL t = pre ++ x :: post) : pre.length < t.length ∧ x.1 = pre.length ∧ ∃ n ∈ t, x.2 = entryB n ∧ n = t.getD pre.length zNode ∧ bodyH pre = bodyB (t.take pre.length) := by
  have hl : pre.length < t.length := by
    have := congrArg List.length h
    rw [handL_length, List.length_append, List.length_cons] at this
    omega
  have hx : (handL t)[pre.length]? = some x := by rw [h]; simp
  have hx2 : some (pre.length, entryB t[pre.length]) = some x := by
    rw [← hx, List.getElem?_eq_getElem (by rw [handL_length]; exact hl), handL_get t hl]
  cases hx2
  refine ⟨hl, rfl, t[pre.length], List.getElem_mem hl, rfl, by rw [List.getD_eq_getElem?_getD, List.getElem?_eq_getElem hl]; rfl, ?_⟩
  rw [← bodyH_take t pre.length (by omega), h, List.take_left']
  rfl
theorem entryB_pos {n : Nd} (h : OneFacts n) : 1 ≤ (entryB n).length := by
  rw [entryB_len2 h]
  omega
theorem bodyH_le (pre : List (Nat × List (List Int))) (x : Nat × List (List Int)) (post : List (Nat × List (List Int))) : (bodyH pre).length + x.2.length ≤ (bodyH (pre ++ x :: post)).length := by
  unfold bodyH
  rw [List.map_append, List.flatten_append, List.map_cons, List.flatten_cons, List.length_append, List.length_append]
  omega
set_option maxRecDepth 100000 in
set_option maxHeartbeats 3200000 in
theorem stream_All.at_ (t : List Nd) (km : Nat) (r : Bool) (hmay : tree_May.f km t = some r) (hfacts : r = true → t.length ≤ 20 ∧ ∀ x ∈ t, oneB x = true) (A : Option Addr) (c : Nat) (w : World) (hC : Kd.C kNode w A t.length t) (hc : t.length ≤ c) :
    Calls Try.prog 43 #[.slice A t.length c] w fun e w' => ∃ v : Value, e = .returned (.tuple #[v, .bool r]) ∧ Kd.R kRow 42 w' w.heap.size (fun _ => True) v (if r = true then bodyB t ++ zeroB else []) ∧ Below w.heap.size w w' := by
  have hmw := tree_May.calls km A c t r w hC hc hmay
  generalize hout : (if r = true then bodyB t ++ zeroB else []) = out
  have HOUT := Aside0.mk hout
  clear hout
  refine (callsIn_wide (n := 10)).1 ?_
  refine callsIn_of_wp_marks Try.func43 rfl trivial ?_ rfl
  simp only [Try.ntmps43, List.size_toArray, List.length_cons, List.length_nil, Nat.reduceAdd, Nat.reduceSub, Array.replicate_succ, Array.replicate_zero, List.push_toArray, List.append_toArray, List.nil_append, List.cons_append]
  gi_wp2_with (fail)
  refine ⟨trivial, ?_⟩
  refine (callsIn_wide.2 hmw).mono ?_
  rintro e w1 ⟨rfl, hb1⟩
  have HC1 := Aside0.mk (Kd.C_below hC hb1)
  have HB1 := Aside0.mk hb1
  have HF := Aside0.mk hfacts
  have HM := Aside0.mk hmay
  clear hmw hC hb1 hfacts hmay
  cases r with
  | false =>
    gi_wp2_with (fail)
    refine ⟨_, results_list (rs := [.tmp 2, .tmp 3]) rfl (by simp) (.tmp (.tmp .nil)), _, rfl, by rw [← HOUT.out]; exact Kd.R_nil _ _ _ _ _, HB1.out⟩
  | true =>
    obtain ⟨ht20, hone⟩ := HF.out rfl
    have hlt : (bodyH (handL t)).length ≤ 260 := by
      rw [bodyH_all]
      have := bodyB_few t (fun n hn => oneB_facts (hone n hn))
      omega
    have hpos : ∀ n ∈ t, 1 ≤ (entryB n).length := fun n hn => entryB_pos (oneB_facts (hone n hn))
    have HL := Aside0.mk hlt
    have HO := Aside0.mk hone
    have HP := Aside0.mk hpos
    have hout : bodyB t ++ zeroB = out := HOUT.out
    clear HOUT
    have HOUT := Aside0.mk hout
    clear ht20 hone hlt hpos HF hout
    gi_wp2_with (fail)
    refine ⟨trivial, ?_⟩
    refine (callsIn_wide.2 (stream_entries.at_ _ _ _ _)).mono ?_
    rintro e w2 ⟨rfl, rfl⟩
    gi_wp2_with (fail)
    obtain ⟨W0, hW0⟩ : ∃ W0, ((w1.alloc (.cells #[.slice none 0 0] 30)).alloc (.cells #[.slice A t.length c] 48)) = W0 := ⟨_, rfl⟩
    have hz : W0.heap.size = w1.heap.size + 2 := by rw [← hW0]; simp
    have hBW : Below w1.heap.size w1 W0 := by rw [← hW0]; exact ((Below.refl _ w1).alloc (Nat.le_refl _) _).alloc (by simp) _
    have hc0 : W0.heap[w1.heap.size]? = some (.cells #[.slice none 0 0] 30 (0, 0)) := by
      rw [← hW0]; exact (Below.heap_alloc _ _ _ (by simp)).trans (World.alloc_heap_new w1 _)
    have hc2 : W0.heap[w1.heap.size + 1]? = some (.cells #[.slice A t.length c] 48 (0, 0)) := by
      rw [← hW0]; have := World.alloc_heap_new (w1.alloc (.cells #[.slice none 0 0] 30)) (.cells #[.slice A t.length c] 48 (0, 0)); rwa [World.size_alloc] at this
    have hCW := Kd.C_below HC1.out hBW
    rw [hW0]
    clear hW0
    have HZ := Aside0.mk hz
    have HBW := Aside0.mk hBW
    clear hz hBW
    refine range_listR rfl (by omega) (gf := 138) (lb := #[.pointer (some ⟨w1.heap.size + 1, 0, none⟩)]) rfl trivial (enters_of Try.func138 (by kernel_rfl) rfl)
      (S := fun k => k = w1.heap.size + 1) (N := entryN A t.length) ?hSN (stream_entries.yields 9 (by omega) t HO.out km HM.out A c (w1.heap.size + 1) W0 hc2 hCW hc (W0.heap.size + 2)) (fun _ => rfl) ?hE
      (fun pre W => ∃ v, W.heap[w1.heap.size]? = some (.cells #[v] 30 (0, 0)) ∧ Kd.R kRow 42 W (W0.heap.size + 2) (fun _ => True) v (bodyH pre) ∧ Below w1.heap.size w1 W)
      (fun c W => False)
      ?hI ?hIx ⟨_, hc0, Kd.R_nil _ _ _ _ _, HBW.out⟩
      (fun y => { tmps := #[.slice A t.length c, undef, .slice none 0 0, .bool false, .pointer (some ⟨w1.heap.size, 0, none⟩), undef, .slice y.2.1 y.2.2.1 y.2.2.2, .slice A t.length c, .bool true, .bool false, .slice A t.length c, .func (.func 138) #[] #[.pointer (some ⟨w1.heap.size + 1, 0, none⟩)], .int .i64 y.1, .slice y.2.1 y.2.2.1 y.2.2.2, undef, undef, undef, undef, undef, undef, undef], defers := [] }) ?assign ?body ?done ?stop
    case hSN =>
      have hZ := HZ.out
      rintro k (rfl | ⟨ad, rfl, hp, rfl⟩)
      · omega
      · exact nodes_lt hCW hp
    case hE =>
      rintro x y B B' ⟨h1, h2, h3⟩ ht
      have hZ := HZ.out
      exact ⟨h1, h2, Kd.R_mono (Kd.R_move (Kd.R_bound h3) (fun k hk => ht.block k hk.2.2.1 (by have := hk.2.1; omega))) (fun _ hk => hk.1)⟩
    case hI =>
      rintro pre B B' ⟨v, h1, h2, h4⟩ ht
      have hA := h4.size
      have hZ := HZ.out
      refine ⟨v, (ht.block _ (blk_lt h1) (by omega)).trans h1, ?_, h4.trans (ht.below (fun k hk => by omega) hA)⟩
      exact Kd.R_mono (Kd.R_move (Kd.R_bound h2) (fun k hk => ht.block k hk.2.2.1 (by have := hk.2.1; omega))) (fun _ hk => hk.1)
    case hIx => rintro c A A' h; exact h.elim
    case assign =>
      intro l x W K hK
      unfold handV
      gi_wp2
      exact hK
    case body =>
      rintro l pre x y post W hx ⟨v, h1, h2, h4⟩ ⟨e1, e2, hR⟩ hsz
      obtain ⟨yk, yA, yn, yc⟩ := y
      obtain ⟨xk, xs⟩ := x
      simp only at e1 e2 hR ⊢
      subst e2
      have HX := Aside0.mk hx
      have hZ := HZ.out
      have hle := bodyH_le pre (xk, xs) post
      rw [← hx] at hle
      simp only at hle
      have hpl : (bodyH pre).length + xs.length ≤ 260 := by have := HL.out; omega
      have hxp : 0 < xs.length := by
        obtain ⟨_, _, n, hn, hxn, _⟩ := handL_mem hx
        have := HP.out n hn
        simp only at hxn
        rw [hxn]; omega
      have e3 := blk_cell h1 0
      simp only [List.size_toArray, List.length_cons, List.length_nil, Nat.zero_add, Nat.lt_one_iff, getElem?_pos, List.getElem_toArray, List.getElem_cons_zero] at e3
      have e4 := blk_frozen h1 0
      have H1 := Aside0.mk h1
      have H2 := Aside0.mk h2
      have H4 := Aside0.mk h4
      have HR := Aside0.mk hR
      have HPL := Aside0.mk hpl
      have HXP := Aside0.mk hxp
      have hltw : w1.heap.size < W.heap.size := blk_lt h1
      clear hx h1 h2 h4 hR hle hpl hxp e1
      gi_wp2_with (gi_at_builtin; go_must (refine RIn_append_rows kRow (W := W) (W0.heap.size + 2) (W0.heap.size + 2) rfl (.tmp 14) (.tmp 15) 30 42 42 (.slice none 0 0) 24 rfl Try.underlying30 info42 rfl (by decide) (by decide) kRow_E v (bodyH pre) xs yA yc rfl rfl HXP.out H2.out HR.out (Nat.le_refl _) hsz (by have := HPL.out; omega) ?_; intro v1 w1_ hR1 hg1; obtain ⟨A1, c1, rfl⟩ := Kd.R_slice hR1; have hbx : w1_.heap[w1.heap.size]? = some (.cells #[v] 30 (0, 0)) := (hg1.block _ hltw (fun e => by have := Kd.R_base H2.out _ e.symm; have := HZ.out; omega)).trans H1.out; have hbc : w1_.cell? ⟨w1.heap.size, 0, none⟩ = some v := (by have := blk_cell hbx 0; simpa using this); have hbf := blk_frozen hbx 0))
      have hZ := HZ.out
      have e5 : (bodyH pre ++ xs).length = (bodyH pre).length + xs.length := by simp
      rw [e5] at hR1
      have hst : ∀ k, k < W.heap.size → k ≠ w1.heap.size → (∀ j, v.ownBlock = some j → k ≠ j) → (w1_.setCell ⟨w1.heap.size, 0, none⟩ (.slice A1 ((bodyH pre).length + xs.length) c1)).heap[k]? = W.heap[k]? := fun k hk hne hj =>
        (Below.heap_setCell _ _ _ _ (by simpa using hne)).trans (hg1.block k hk (fun e => hj k e.symm rfl))
      refine ⟨⟨?_, fun k hk => ?_⟩, .slice A1 ((bodyH pre).length + xs.length) c1, ?_, ?_, ?_⟩
      · have := hg1.size; simp [World.setCell]; omega
      · have hkk : k < W0.heap.size + 2 ∧ k ≠ w1.heap.size := by
          rcases hk with (rfl | ⟨ad, rfl, hp, rfl⟩) | rfl | rfl
          · omega
          · have := nodes_lt HC1.out hp
            omega
          · omega
          · omega
        refine hst k (by omega) hkk.2 (fun j hj => ?_)
        have := Kd.R_base H2.out j hj
        omega
      · simpa using blk_set hbx 0 (.slice A1 ((bodyH pre).length + xs.length) c1)
      · rw [bodyH_snoc]
        exact Kd.R_mono (Kd.R_move (Kd.R_bound hR1) (fun k hk => Below.heap_setCell _ _ _ _ (by have := hk.2.1; simp only; omega))) (fun _ hk => hk.1)
      · have h5 : Below w1.heap.size w1 w1_ := H4.out.grown hg1 (by omega) (fun k e => by have := Kd.R_base H2.out k e; omega)
        exact h5.setCell (p := ⟨w1.heap.size, 0, none⟩) (Nat.le_refl _) _
    case done =>
      rintro W ⟨v, h1, h2, h4⟩ hD
      rw [bodyH_all] at h2
      have e3 := blk_cell h1 0
      simp only [List.size_toArray, List.length_cons, List.length_nil, Nat.zero_add, Nat.lt_one_iff, getElem?_pos, List.getElem_toArray, List.getElem_cons_zero] at e3
      have e4 := blk_frozen h1 0
      gi_wp2_with (fail)
      refine wpIn_wide.2 ?_
      refine region_calm ?_
      have hZ := HZ.out
      obtain ⟨A1, c1, rfl, hi1⟩ := InRow.of_R (Kd.R_drewN h2 1) (b := w.heap.size) (by have := HB1.out.size; omega)
      have HI1 := Aside0.mk hi1
      have HBd := Aside0.mk (below_drew1 (below_step HB1.out h4))
      have HXd := Aside0.mk (blk_drew h1)
      have HD := Aside0.mk hD
      have HTL : Aside0 (∀ (A1 A2 : Option Addr) (c1 c2 : Nat), totalL [(A1, c1, bodyB t), (A2, c2, zeroB)] ≤ 100000) := ⟨fun A1 A2 c1 c2 => by
        have := HL.out
        rw [bodyH_all] at this
        have h0 : zeroB.length = 2 := rfl
        simp only [totalL, List.map_cons, List.map_nil, List.sum_cons, List.sum_nil, h0]
        omega⟩
      clear h1 h2 h4 hD hi1 hZ
      refine start_ (n := 6) (S := fun w' => w'.cell? ⟨w1.heap.size, 0, none⟩ = some (.slice A1 (bodyB t).length c1)) (ds := []) #[false, false, false, false, false, false] (by kernel_rfl) rfl rfl ((blk_cell HXd.out 0).trans rfl) (fun hHeld => ?_)
      refine take_ (i := 0) (N := some 17) (v := ?_) (a' := ?_) #[true, false, false, false, false, false] rfl rfl (by kernel_rfl) (fun _ _ _ h => h) (Or.inl ⟨by rfl, ?_⟩) hHeld ?_ ?_
      rotate_left
      · rintro w' s0
        go_simp
        with_reducible rfl
      rotate_left
      · simp only [Act.put, List.setIfInBounds_toArray, List.set_cons_zero, List.set_cons_succ, i64_w, i32_w]
        rfl
      refine one_ (i := 1) (N := some 18) #[true, true, false, false, false, false] rfl rfl (by kernel_rfl) (by decide) (fun K hK => ?_)
      refine goes_ Try.func92 (by kernel_rfl) rfl #[.int .i64 2] (by rfl) rfl rfl (by (try simp only [List.map_toArray, List.map_cons, List.map_nil]); first | done | rfl | (simp only [List.length_drop, List.length_take]; rfl)) ?_
      refine (block_Zeros.calls 5 2 zeroB _ zeros_two).mono ?_
      rintro e w3 ⟨v2, rfl, hR2, hb3⟩
      obtain ⟨A2, c2, rfl, HI2⟩ := InRow.of_R hR2 (b := w.heap.size) (by have := HBd.out.size; exact this)
      have HB3 := below_step HBd.out hb3
      have HI3 := HI1.out.below hb3
      have HX3 := blk_below HXd.out hb3
      refine ⟨_, rfl, ?_⟩
      refine hK.out _ _ ((blk_cell HX3 0).trans rfl) (fun hHeld => ?_)
      clear hK K
      refine norm_ (a' := ?_) ?_ ?_
      rotate_left
      · show Act.put _ (some 18) _ = _
        simp only [Act.put, List.setIfInBounds_toArray, List.set_cons_zero, List.set_cons_succ, i64_w, i32_w]
        rfl
      refine one_ (i := 2) (N := some 19) #[true, true, true, false, false, false] rfl rfl (by kernel_rfl) (by decide) (fun K hK => ?_)
      go_simp
      have hbl := heap_alloc_new w3 (.cells #[.slice A1 (bodyB t).length c1, .slice A2 zeroB.length c2] 30)
      refine hK.out _ _ ((blk_cell (blk_alloc HX3 (.cells #[.slice A1 (bodyB t).length c1, .slice A2 zeroB.length c2] 30)) 0).trans rfl) (fun hHeld => ?_)
      clear hK K
      refine one_ (i := 3) (N := some 20) #[true, true, true, true, false, false] rfl rfl (by kernel_rfl) (by decide) (fun K hK => ?_)
      have hj := slices_Concat.at_ w.heap.size _ [(A1, c1, bodyB t), (A2, c2, zeroB)] _ hbl (by intro x hx; simp only [List.mem_cons, List.not_mem_nil, or_false] at hx; rcases hx with rfl | hx; exact (HI3.below (below_alloc (Below.refl _ _) _)); subst hx; exact (HI2.below (below_alloc (Below.refl _ _) _))) (HTL.out _ _ _ _) (by simp) (by have := HB3.size; simp at this ⊢; omega)
      refine goes_ Try.func77 (by kernel_rfl) rfl #[.slice (some ⟨w3.heap.size, 0, none⟩) 2 2] (by rfl) rfl rfl (by (try simp only [List.map_toArray, List.map_cons, List.map_nil]); first | done | rfl | (simp only [List.length_drop, List.length_take]; rfl)) ?_
      refine hj.mono ?_
      rintro e wz ⟨v, rfl, hR, hb⟩
      have HBz := Aside0.mk (below_step (below_alloc HB3 (.cells #[.slice A1 (bodyB t).length c1, .slice A2 zeroB.length c2] 30)) hb)
      have hXz := blk_below (blk_alloc HX3 (.cells #[.slice A1 (bodyB t).length c1, .slice A2 zeroB.length c2] 30)) hb
      have HDz := Aside0.mk (blk_below (blk_alloc (blk_below (blk_drew HD.out) hb3) (.cells #[.slice A1 (bodyB t).length c1, .slice A2 zeroB.length c2] 30)) hb)
      refine ⟨_, rfl, ?_⟩
      refine hK.out _ _ ((blk_cell hXz 0).trans rfl) (fun hHeld => ?_)
      clear hK K
      refine norm_ (a' := ?_) ?_ ?_
      rotate_left
      · show Act.put _ (some 20) _ = _
        simp only [Act.put, List.setIfInBounds_toArray, List.set_cons_zero, List.set_cons_succ, i64_w, i32_w]
        rfl
      refine pure_ (i := 4) (N := some 2) (v := ?_) (a' := ?_) #[true, true, true, true, true, false] rfl rfl (by kernel_rfl) (fun _ _ _ h => h) (Or.inl ⟨by rfl, ?_⟩) ?_ ?_
      rotate_left
      · intro w'
        go_simp
        with_reducible rfl
      rotate_left
      · simp only [Act.put, List.setIfInBounds_toArray, List.set_cons_zero, List.set_cons_succ, i64_w, i32_w]
        rfl
      refine pure_ (i := 5) (N := some 3) (v := ?_) (a' := ?_) #[true, true, true, true, true, true] rfl rfl (by kernel_rfl) (fun _ _ _ h => h) (Or.inl ⟨by rfl, ?_⟩) ?_ ?_
      rotate_left
      · intro w'
        go_simp
        with_reducible rfl
      rotate_left
      · simp only [Act.put, List.setIfInBounds_toArray, List.set_cons_zero, List.set_cons_succ, i64_w, i32_w]
        rfl
      refine done_ (by kernel_rfl) ?_
      simp only [calm]
      gi_wp2_with (fail)
      refine ⟨by simp, .inl ⟨_, _, rfl, run_takeDeferred HDz.out, ?_⟩⟩
      refine ⟨_, results_list (rs := [.tmp 2, .tmp 3]) rfl (by simp) (.tmp (.tmp .nil)), v, rfl, ?_, ?_⟩
      · rw [← HOUT.out]
        have hR2 : Kd.R kRow 42 wz w.heap.size (fun _ => True) v (bodyB t ++ zeroB) := by simpa [flatL] using hR
        refine Kd.R_mono (Kd.R_move (Kd.R_bound hR2) (fun k hk => World.putObj_heap_other ?_)) (fun _ hk => hk.1)
        obtain ⟨_, _, _, q, _, cells, hc⟩ := hk
        have hd := HDz.out
        rintro rfl
        rw [hd] at hc
        cases hc
      · exact HBz.out.trans ((Turn.putObj (S := fun k => k = W0.heap.size) _ _ rfl).below (fun k hk => by have := HZ.out; have := HB1.out.size; omega) HBz.out.size)
    case stop =>
      rintro c W h
      exact h.elim

end Go.Proofs.Ytlecnodlnkanaaa.X
namespace Go.Proofs.Ytlecnodlnkanaaa.X
open Go.RowKit Go.Proofs.YtlecnodlnkanaaaW.PrintWords Go.Proofs.YtlecnodlnkanaaaW.PrintLast Go.Proofs.YtlecnodlnkanaaaW.PrintMore
attribute [local go_sem] max2_int min2_int max_two min_two
set_option linter.unusedVariables false
set_option linter.unusedSimpArgs false

open Go.Proofs.YtlecnodlnkanaaaY Go.Shelf
attribute [local go_sem] Oper.semAt_some
section
variable {P : Program} {ops : Array Oper} {Q : Exit → Act → World → Prop} {md : Region.Mode} {S : World → Prop} {ds : List Nat}
theorem wpAnyIn_round (l n : Nat) (hnd : ∀ (i : Nat) (o : Oper), ops[i]? = some o → ∀ c, o.op ≠ Op.defer c) (hQ : ¬ LetsOut Q) : ∀ (fuel : Nat) (listed : Array Bool) (a : Act) (w : World), wpAny P md ops Q fuel listed a w → wpAnyIn (Fence.wide.inRound l) n P md ops Q fuel listed a w
  | 0, _, _, _, h => h
  | fuel + 1, listed, a, w, h => by
    refine ⟨h.1, fun i hi => ?_⟩
    have ih := wpAnyIn_round l n hnd hQ fuel (listed.setIfInBounds i true)
    have h2 := h.2 i hi
    unfold wpOp at h2
    unfold wpOpIn
    cases ho : ops[i]? with
    | none =>
      rw [ho] at h2
      exact ih _ _ h2
    | some o =>
      rw [ho] at h2
      simp only at h2 ⊢
      by_cases hw : Region.wanted o (yielded ops a.tmps) = true
      · rw [if_pos hw] at h2 ⊢
        rcases h2 with h2 | h2
        · refine ⟨fun _ _ => trivial, ?_⟩
          rw [Oper.semAt_eq _ _ _ (hnd i o ho)]
          unfold Oper.wp at h2
          generalize (execOp a.eval o).run P w = r at h2 ⊢
          cases r with
          | ok x w' =>
            cases x with
            | value v => exact ih _ _ h2
            | skip => exact ih _ _ h2
            | defer d => exact ih _ _ h2
            | enter f args =>
              refine ⟨(fun h => by simp [Fence.wide, Fence.inRound] at h), ?_⟩
              refine (callsIn_wide (n := n - 1)).2 (Calls.mono h2 fun e w'' he => ?_)
              cases e with
              | returned v => exact ih _ _ he
              | panicked c => exact he
              | outgrown => exact he
            | row row args =>
              refine ⟨(fun h => by simp [Fence.wide, Fence.inRound] at h), fun c cs hr => ?_⟩
              obtain ⟨v, w', h3, h4⟩ := h2 c cs
              exact ⟨v, w', ih _ _ h3, stepsIn_wide.2 h4⟩
            | _ => exact h2.elim
          | halt x w' =>
            cases x <;> exact h2
        · exact absurd h2.2 hQ
      · rw [if_neg hw] at h2 ⊢
        exact ⟨fun _ _ => trivial, ih _ _ h2⟩
/-- A drawn region within a round: walked as one outside. -/
theorem start_r {l m id n : Nat} {a : Act} {w : World} (lst : Array Bool) (hm : P.follows .mixedOrders = true) (hn : ops.size = n) (hl : Array.replicate n false = lst) (hnd : (ops.all fun o => match o.op with | .defer _ => false | _ => true) = true) (hQ : ¬ LetsOut Q) (hS : S w.drew)
    (h : S w.drew → wpAnyLast P .any ops Q S ds n lst a w.drew) : (Code.region id ops true).wpIn (Fence.wide.inRound l) m P Q a w := by
  subst hn
  subst hl
  refine wpIn_region_any hm (wpAnyIn_round l m (fun i o ho c e => ?_) hQ _ _ _ _ (wpAny_of_last _ _ _ _ (h hS)))
  have h1 := (Array.all_eq_true_iff_forall_mem.1 hnd) o (by rw [Array.mem_iff_getElem?]; exact ⟨i, ho⟩)
  rw [e] at h1
  cases h1
end
/-- Where what is handed on begins, and the end of all. -/
def startsH (l : List (Nat × List (List Int))) : List Int := (List.range (l.length + 1)).map fun k => ((bodyH (l.take k)).length : Int)
theorem startsH_length (l : List (Nat × List (List Int))) : (startsH l).length = l.length + 1 := by unfold startsH; rw [List.length_map, List.length_range]
theorem startsH_snoc (l : List (Nat × List (List Int))) (x : Nat × List (List Int)) : startsH (l ++ [x]) = startsH l ++ [((bodyH l).length : Int) + (x.2.length : Int)] := by
  unfold startsH
  rw [List.length_append, List.length_singleton, List.range_succ, List.map_append, List.map_singleton]
  congr 1
  · refine List.map_congr_left fun k hk => ?_
    rw [List.mem_range] at hk
    rw [List.take_append_of_le_length (by omega)]
  · rw [List.take_of_length_le (by rw [List.length_append, List.length_singleton]; omega), bodyH_snoc, List.length_append]
    rfl
theorem startsH_last (l : List (Nat × List (List Int))) : rd (startsH l) (l.length : Int) = ((bodyH l).length : Int) := by
  unfold rd startsH
  rw [Int.toNat_natCast, List.getD_eq_getElem?_getD, List.getElem?_map, List.getElem?_range (by omega)]
  simp
theorem startsH_all (t : List Nd) : startsH (handL t) = startsL t := by
  unfold startsH startsL
  rw [handL_length]
  refine List.map_congr_left fun k hk => ?_
  rw [List.mem_range] at hk
  rw [bodyH_take t k (by omega)]
theorem infoI : (Try.prog.info? 3).map (fun i => (i.zero, i.size, i.bytes)) = some (some (.int .i64 0), 1, 8) := by kernel_rfl
def okS (w1 W0 : World) (k : Nat) : Prop := k ≠ w1.heap.size + 1 ∧ k ≠ w1.heap.size + 2 ∧ k ≠ W0.heap.size ∧ k ≠ W0.heap.size + 1
theorem okS_new {w1 W0 W : World} (hz : W0.heap.size = w1.heap.size + 3) (hs : W0.heap.size + 2 ≤ W.heap.size) {k : Nat} (hk : W.heap.size ≤ k) : okS w1 W0 k := ⟨by omega, by omega, by omega, by omega⟩
set_option maxRecDepth 100000 in
set_option maxHeartbeats 3200000 in
theorem stream_Starts.at_ (t : List Nd) (km : Nat) (r : Bool) (hmay : tree_May.f km t = some r) (hfacts : r = true → t.length ≤ 20 ∧ ∀ x ∈ t, oneB x = true) (A : Option Addr) (c : Nat) (w : World) (hC : Kd.C kNode w A t.length t) (hc : t.length ≤ c) :
    Calls Try.prog 46 #[.slice A t.length c] w fun e w' => ∃ v : Value, e = .returned v ∧ Kd.R (Kd.int .i64) 3 w' w.heap.size (fun _ => True) v (if r = true then startsL t else []) ∧ Below w.heap.size w w' := by
  have hmw := tree_May.calls km A c t r w hC hc hmay
  generalize hout : (if r = true then startsL t else []) = out
  have HOUT := Aside0.mk hout
  clear hout
  refine (callsIn_wide (n := 10)).1 ?_
  refine callsIn_of_wp_marks Try.func46 rfl trivial ?_ rfl
  simp only [Try.ntmps46, List.size_toArray, List.length_cons, List.length_nil, Nat.reduceAdd, Nat.reduceSub, Array.replicate_succ, Array.replicate_zero, List.push_toArray, List.append_toArray, List.nil_append, List.cons_append]
  gi_wp2_with (fail)
  refine ⟨trivial, ?_⟩
  refine (callsIn_wide.2 hmw).mono ?_
  rintro e w1 ⟨rfl, hb1⟩
  have HC1 := Aside0.mk (Kd.C_below hC hb1)
  have HB1 := Aside0.mk hb1
  have HF := Aside0.mk hfacts
  have HM := Aside0.mk hmay
  clear hmw hC hb1 hfacts hmay
  cases r with
  | false =>
    gi_wp2_with (fail)
    refine ⟨_, results_tmp rfl _ _ _, _, rfl, by rw [← HOUT.out]; exact Kd.R_nil _ _ _ _ _, HB1.out⟩
  | true =>
    obtain ⟨ht20, hone⟩ := HF.out rfl
    have hlt : (bodyH (handL t)).length ≤ 260 := by
      rw [bodyH_all]
      have := bodyB_few t (fun n hn => oneB_facts (hone n hn))
      omega
    have HL := Aside0.mk hlt
    have HO := Aside0.mk hone
    have HT := Aside0.mk ht20
    have hout : startsL t = out := HOUT.out
    clear HOUT
    have HOUT := Aside0.mk hout
    clear ht20 hone hlt HF hout
    gi_wp2_with (fail)
    refine ⟨trivial, ?_⟩
    refine (callsIn_wide.2 (stream_entries.at_ _ _ _ _)).mono ?_
    rintro e w2 ⟨rfl, rfl⟩
    gi_wp2_with (fail)
    obtain ⟨W0, hW0⟩ : ∃ W0, (((w1.alloc (.cells #[.int .i64 0] 3)).alloc (.cells #[.slice (some ⟨w1.heap.size, 0, none⟩) 1 1] 55)).alloc (.cells #[.slice A t.length c] 48)) = W0 := ⟨_, rfl⟩
    have hz : W0.heap.size = w1.heap.size + 3 := by rw [← hW0]; simp
    have hBW : Below w1.heap.size w1 W0 := by rw [← hW0]; exact below_alloc (below_alloc (below_alloc (Below.refl _ w1) _) _) _
    have hcL : W0.heap[w1.heap.size]? = some (.cells #[.int .i64 0] 3 (0, 0)) := by rw [← hW0]; exact blk_alloc (blk_alloc (heap_alloc_new w1 _) _) _
    have hc0 : W0.heap[w1.heap.size + 1]? = some (.cells #[.slice (some ⟨w1.heap.size, 0, none⟩) 1 1] 55 (0, 0)) := by
      rw [← hW0]; refine blk_alloc ?_ _; have := heap_alloc_new (w1.alloc (.cells #[.int .i64 0] 3)) (.cells #[.slice (some ⟨w1.heap.size, 0, none⟩) 1 1] 55); rwa [World.size_alloc] at this
    have hc2 : W0.heap[w1.heap.size + 1 + 1]? = some (.cells #[.slice A t.length c] 48 (0, 0)) := by
      rw [← hW0]; have := heap_alloc_new ((w1.alloc (.cells #[.int .i64 0] 3)).alloc (.cells #[.slice (some ⟨w1.heap.size, 0, none⟩) 1 1] 55)) (.cells #[.slice A t.length c] 48); rwa [World.size_alloc, World.size_alloc] at this
    have hCW := Kd.C_below HC1.out hBW
    rw [hW0]
    clear hW0
    have hR0 : Kd.R (Kd.int .i64) 3 W0 w1.heap.size (okS w1 W0) (.slice (some ⟨w1.heap.size, 0, none⟩) 1 1) (startsH []) :=
      Kd.R_of_own (h1 := fun _ => rfl) (enc := Value.int .i64) ⟨rfl, .inr ⟨w1.heap.size, 1, _, rfl, Nat.le_refl _, hcL, Nat.le_refl _, by decide, rfl, rfl⟩⟩ (fun k hk => by
        have : w1.heap.size = k := by simpa [Value.ownBlock] using hk
        exact ⟨by omega, by omega, by omega, by omega⟩)
    have HZ := Aside0.mk hz
    have HBW := Aside0.mk hBW
    clear hz hBW hcL
    refine range_listR rfl (by omega) (gf := 138) (lb := #[.pointer (some ⟨w1.heap.size + 1 + 1, 0, none⟩)]) rfl trivial (enters_of Try.func138 (by kernel_rfl) rfl)
      (S := fun k => k = w1.heap.size + 1 + 1) (N := entryN A t.length) ?hSN (stream_entries.yields 9 (by omega) t HO.out km HM.out A c (w1.heap.size + 1 + 1) W0 hc2 hCW hc (W0.heap.size + 2)) (fun _ => rfl) ?hE
      (fun pre W => ∃ v, W.heap[w1.heap.size + 1]? = some (.cells #[v] 55 (0, 0)) ∧ Kd.R (Kd.int .i64) 3 W w1.heap.size (okS w1 W0) v (startsH pre) ∧ Below w1.heap.size w1 W)
      (fun c W => False)
      ?hI ?hIx ⟨_, hc0, hR0, HBW.out⟩
      (fun y => { tmps := #[.slice A t.length c, undef, .slice none 0 0, .pointer (some ⟨w1.heap.size + 1, 0, none⟩), .int .i64 y.1, .slice y.2.1 y.2.2.1 y.2.2.2, .slice A t.length c, .bool true, .bool false, .slice (some ⟨w1.heap.size, 0, none⟩) 1 1, .slice A t.length c, .func (.func 138) #[] #[.pointer (some ⟨w1.heap.size + 1 + 1, 0, none⟩)], .int .i64 y.1, .slice y.2.1 y.2.2.1 y.2.2.2, undef, undef, undef, undef, undef, undef, undef, undef, undef, undef, undef], defers := [] }) ?assign ?body ?done ?stop
    case hSN =>
      have hZ := HZ.out
      rintro k (rfl | ⟨ad, rfl, hp, rfl⟩)
      · omega
      · exact nodes_lt hCW hp
    case hE =>
      rintro x y B B' ⟨h1, h2, h3⟩ ht
      have hZ := HZ.out
      exact ⟨h1, h2, Kd.R_mono (Kd.R_move (Kd.R_bound h3) (fun k hk => ht.block k hk.2.2.1 (by have := hk.2.1; omega))) (fun _ hk => hk.1)⟩
    case hI =>
      rintro pre B B' ⟨v, h1, h2, h4⟩ ht
      have hA := h4.size
      have hZ := HZ.out
      refine ⟨v, (ht.block _ (blk_lt h1) (by omega)).trans h1, ?_, h4.trans (ht.below (fun k hk => by omega) hA)⟩
      exact Kd.R_mono (Kd.R_move (Kd.R_bound h2) (fun k hk => ht.block k hk.2.2.1 (by obtain ⟨q1, q2, q3, q4⟩ := hk.1; omega))) (fun _ hk => hk.1)
    case hIx => rintro c A A' h; exact h.elim
    case assign =>
      intro l x W K hK
      unfold handV
      gi_wp2
      exact hK
    case body =>
      rintro l pre x y post W hx ⟨v, h1, h2, h4⟩ ⟨e1, e2, hR⟩ hsz
      obtain ⟨yk, yA, yn, yc⟩ := y
      obtain ⟨xk, xs⟩ := x
      simp only at e1 e2 hR ⊢
      subst e2
      have hZ := HZ.out
      obtain ⟨hpt, hxk, _⟩ := handL_mem hx
      simp only at hxk
      subst hxk
      subst e1
      have hle := bodyH_le pre (pre.length, xs) post
      rw [← hx] at hle
      simp only at hle
      have ht20 := HT.out
      have hpl : (bodyH pre).length + xs.length ≤ 260 ∧ (startsH pre).length ≤ 21 := by have := HL.out; rw [startsH_length]; omega
      obtain ⟨A2, cc, rfl, hlc, hCv⟩ := Kd.R_reads h2
      obtain ⟨ad, rfl, hel⟩ := Kd.at_int hCv (pre.length : Int) (by omega) (by rw [startsH_length]; omega)
      rw [Int.toNat_natCast, startsH_last] at hel
      have e3 : W.cell? ⟨w1.heap.size + 1, 0, none⟩ = some (.slice (some ad) (startsH pre).length cc) := (blk_cell h1 0).trans rfl
      have hne1 : some (w1.heap.size + 1) ≠ (Value.slice (some ad) (startsH pre).length cc).ownBlock := fun e => (h2.1 _ e.symm).1 rfl
      have hbase := Kd.R_base h2
      have HBASE := Aside0.mk hbase
      have hk0 : (0 : Int) ≤ (pre.length : Int) := by omega
      have hkl : (pre.length : Int) < ((startsH pre).length : Int) := by rw [startsH_length]; omega
      have hw : IntKind.i64.wrap (((bodyH pre).length : Int) + (xs.length : Int)) = ((bodyH pre).length : Int) + (xs.length : Int) := by
        have h := wrap_id (x := ((bodyH pre).length : Int) + (xs.length : Int)) (by omega) (by omega)
        rw [i64_w]; exact h
      have H1 := Aside0.mk h1
      have H2 := Aside0.mk h2
      have H4 := Aside0.mk h4
      have HPL := Aside0.mk hpl
      have HNE := Aside0.mk hne1
      have hltw : w1.heap.size + 1 < W.heap.size := blk_lt h1
      clear hx h1 h2 h4 hle hpl hpt hlc hCv ht20 hbase
      gi_wp2_with (fail)
      refine start_r (n := 11) (S := fun w' => w'.cell? ⟨w1.heap.size + 1, 0, none⟩ = some (.slice (some ad) (startsH pre).length cc) ∧ w'.cell? (ad.add pre.length) = some (.int .i64 ((bodyH pre).length : Int))) (ds := [9, 10]) #[false, false, false, false, false, false, false, false, false, false, false] (by kernel_rfl) rfl rfl (by kernel_rfl) (by rintro ⟨_, _, h_⟩; exact h_) ⟨e3, hel⟩ (fun hHeld => ?_)
      refine take_ (i := 0) (N := some 14) (v := ?_) (a' := ?_) #[true, false, false, false, false, false, false, false, false, false, false] rfl rfl (by kernel_rfl) (fun _ _ _ h => h) (Or.inl ⟨by rfl, ?_⟩) hHeld ?_ ?_
      rotate_left
      · rintro w' ⟨s0, s1⟩
        go_simp
        with_reducible rfl
      rotate_left
      · simp only [Act.put, List.setIfInBounds_toArray, List.set_cons_zero, List.set_cons_succ, i64_w, i32_w]
        rfl
      refine take_ (i := 1) (N := some 15) (v := ?_) (a' := ?_) #[true, true, false, false, false, false, false, false, false, false, false] rfl rfl (by kernel_rfl) (fun _ _ _ h => h) (Or.inl ⟨by rfl, ?_⟩) hHeld ?_ ?_
      rotate_left
      · rintro w' ⟨s0, s1⟩
        go_simp
        with_reducible rfl
      rotate_left
      · simp only [Act.put, List.setIfInBounds_toArray, List.set_cons_zero, List.set_cons_succ, i64_w, i32_w]
        rfl
      refine pure_ (i := 2) (N := some 16) (v := ?_) (a' := ?_) #[true, true, true, false, false, false, false, false, false, false, false] rfl rfl (by kernel_rfl) (fun _ _ _ h => h) (Or.inl ⟨by rfl, ?_⟩) ?_ ?_
      rotate_left
      · intro w'
        go_simp
        with_reducible rfl
      rotate_left
      · simp only [Act.put, List.setIfInBounds_toArray, List.set_cons_zero, List.set_cons_succ, i64_w, i32_w]
        rfl
      refine pure_ (i := 3) (N := some 17) (v := ?_) (a' := ?_) #[true, true, true, true, false, false, false, false, false, false, false] rfl rfl (by kernel_rfl) (fun _ _ _ h => h) (Or.inl ⟨by rfl, ?_⟩) ?_ ?_
      rotate_left
      · intro w'
        go_simp
        with_reducible rfl
      rotate_left
      · simp only [Act.put, List.setIfInBounds_toArray, List.set_cons_zero, List.set_cons_succ, i64_w, i32_w]
        rfl
      refine take_ (i := 4) (N := some 18) (v := ?_) (a' := ?_) #[true, true, true, true, true, false, false, false, false, false, false] rfl rfl (by kernel_rfl) (fun _ _ _ h => h) (Or.inl ⟨by rfl, ?_⟩) hHeld ?_ ?_
      rotate_left
      · rintro w' ⟨s0, s1⟩
        go_simp
        with_reducible rfl
      rotate_left
      · simp only [Act.put, List.setIfInBounds_toArray, List.set_cons_zero, List.set_cons_succ, i64_w, i32_w]
        rfl
      refine pure_ (i := 5) (N := some 19) (v := ?_) (a' := ?_) #[true, true, true, true, true, true, false, false, false, false, false] rfl rfl (by kernel_rfl) (fun _ _ _ h => h) (Or.inl ⟨by rfl, ?_⟩) ?_ ?_
      rotate_left
      · intro w'
        go_simp
        with_reducible rfl
      rotate_left
      · simp only [Act.put, List.setIfInBounds_toArray, List.set_cons_zero, List.set_cons_succ, i64_w, i32_w]
        rfl
      refine pure_ (i := 6) (N := some 20) (v := ?_) (a' := ?_) #[true, true, true, true, true, true, true, false, false, false, false] rfl rfl (by kernel_rfl) (fun _ _ _ h => h) (Or.inl ⟨by rfl, ?_⟩) ?_ ?_
      rotate_left
      · intro w'
        go_simp
        with_reducible rfl
      rotate_left
      · simp only [Act.put, List.setIfInBounds_toArray, List.set_cons_zero, List.set_cons_succ, i64_w, i32_w]
        rfl
      refine pure_ (i := 7) (N := some 21) (v := ?_) (a' := ?_) #[true, true, true, true, true, true, true, true, false, false, false] rfl rfl (by kernel_rfl) (fun _ _ _ h => h) (Or.inl ⟨by rfl, ?_⟩) ?_ ?_
      rotate_left
      · intro w'
        go_simp
        with_reducible rfl
      rotate_left
      · simp only [Act.put, List.setIfInBounds_toArray, List.set_cons_zero, List.set_cons_succ, i64_w, i32_w]
        rfl
      refine one_ (i := 8) (N := some 22) #[true, true, true, true, true, true, true, true, true, false, false] rfl rfl (by kernel_rfl) (by decide) (fun K hK => ?_)
      go_simp
      refine hK.out _ _ ⟨(blk_cell (blk_alloc (blk_drew H1.out) (.cells #[.int .i64 (((bodyH pre).length : Int) + (xs.length : Int))] 3)) 0).trans rfl, pw_cell_below (below_alloc (Below.refl W.drew.heap.size W.drew) (.cells #[.int .i64 (((bodyH pre).length : Int) + (xs.length : Int))] 3)) hel⟩ (fun hHeld => ?_)
      clear hK K
      refine last_ (i := 9) (N := some 23) #[true, true, true, true, true, true, true, true, true, true, false] rfl rfl (by kernel_rfl) (by decide) (fun K hK => ?_)
      refine Kd.R_append_step (Kd.int .i64) (W := W.drew) (w0 := w1) w1.heap.size (by rfl) (.tmp 14) (.tmp 22) 55 3 (.int .i64 0) 8 rfl Try.underlying55 infoI rfl (by decide) (by decide) (.slice (some ad) (startsH pre).length cc) (startsH pre) (((bodyH pre).length : Int) + (xs.length : Int)) [.int .i64 (((bodyH pre).length : Int) + (xs.length : Int))] (okS w1 W0) (fun _ => False) rfl rfl rfl (fun _ h_ => h_.elim) (fun k hk => okS_new HZ.out hsz hk) (Kd.R_drewN H2.out 1) (below_drew1 H4.out) (by have := H4.out.size; exact this) (by have := HPL.out; omega) ?_
      intro v1 w3 hR1 hb3 hg3 hat3
      obtain ⟨A3, c3, rfl⟩ := Kd.R_slice hR1
      have HX3 : w3.heap[w1.heap.size + 1]? = some (.cells #[(.slice (some ad) (startsH pre).length cc)] 55 (0, 0)) := (hg3.block _ hltw hne1).trans (blk_drew H1.out)
      have hf3 := blk_frozen HX3 0
      have hc3 := (blk_cell HX3 0).trans (show _ = some (Value.slice (some ad) (startsH pre).length cc) from rfl)
      refine hK.out _ _ ?_
      clear hK K
      refine norm_ (a' := ?_) ?_ ?_
      rotate_left
      · show Act.put _ (some 23) _ = _
        simp only [Act.put, List.setIfInBounds_toArray, List.set_cons_zero, List.set_cons_succ, i64_w, i32_w]
        rfl
      refine last_ (i := 10) (N := none) #[true, true, true, true, true, true, true, true, true, true, true] rfl rfl (by kernel_rfl) (by decide) (fun K hK => ?_)
      go_simp
      refine hK.out _ _ ?_
      clear hK K
      refine done_ (by kernel_rfl) ?_
      simp only [Exit.inBlock, Exit.then]
      have hZ := HZ.out
      have e5 : (startsH pre ++ [((bodyH pre).length : Int) + (xs.length : Int)]).length = (startsH pre).length + 1 := by simp
      rw [e5] at hR1
      have hB2 := HBASE.out
      have hst : ∀ k, k < W.heap.size → k ≠ w1.heap.size + 1 → (∀ j, (Value.slice (some ad) (startsH pre).length cc).ownBlock = some j → k ≠ j) → (w3.setCell ⟨w1.heap.size + 1, 0, none⟩ (.slice A3 ((startsH pre).length + 1) c3)).heap[k]? = W.heap[k]? := fun k hk hne hj =>
        (Below.heap_setCell _ _ _ _ (by simpa using hne)).trans (hg3.block k hk (fun e => hj k e.symm rfl))
      refine ⟨⟨?_, fun k hk => ?_⟩, .slice A3 ((startsH pre).length + 1) c3, ?_, ?_, ?_⟩
      · have := hg3.size; simp [World.setCell] at this ⊢; omega
      · have hkk : k < W0.heap.size + 2 ∧ k ≠ w1.heap.size + 1 ∧ (∀ j, okS w1 W0 j → w1.heap.size ≤ j → k ≠ j) := by
          rcases hk with (rfl | ⟨ad, rfl, hp, rfl⟩) | rfl | rfl
          · exact ⟨by omega, by omega, fun j hj _ => by have := hj.2.1; omega⟩
          · have := nodes_lt HC1.out hp
            exact ⟨by omega, by omega, fun j hj h2 => by omega⟩
          · exact ⟨by omega, by omega, fun j hj _ => by have := hj.2.2.1; omega⟩
          · exact ⟨by omega, by omega, fun j hj _ => by have := hj.2.2.2; omega⟩
        exact hst k (by omega) hkk.2.1 (fun j hj => hkk.2.2 j (H2.out.1 j hj) (hB2 j hj))
      · simpa using blk_set HX3 0 (.slice A3 ((startsH pre).length + 1) c3)
      · rw [startsH_snoc]
        exact Kd.R_mono (Kd.R_move (Kd.R_bound hR1) (fun k hk => Below.heap_setCell _ _ _ _ (by have := hk.1.1; simpa using this))) (fun _ hk => hk.1)
      · exact hb3.setCell (p := ⟨w1.heap.size + 1, 0, none⟩) (by simp) _
    case done =>
      rintro W ⟨v, h1, h2, h4⟩ hD
      rw [startsH_all] at h2
      have e3 := blk_cell h1 0
      simp only [List.size_toArray, List.length_cons, List.length_nil, Nat.zero_add, Nat.lt_one_iff, getElem?_pos, List.getElem_toArray, List.getElem_cons_zero] at e3
      have e4 := blk_frozen h1 0
      have HD := Aside0.mk hD
      have H2 := Aside0.mk h2
      have H4 := Aside0.mk h4
      clear h2 h4 hD
      gi_wp2_with (fail)
      refine ⟨by simp, .inl ⟨_, _, rfl, run_takeDeferred HD.out, ?_⟩⟩
      refine ⟨_, results_tmp rfl _ _ _, v, rfl, ?_, ?_⟩
      · rw [← HOUT.out]
        refine Kd.R_lower (base := w1.heap.size) ?_ HB1.out.size
        refine Kd.R_mono (Kd.R_move (Kd.R_bound H2.out) (fun k hk => World.putObj_heap_other ?_)) (fun _ hk => trivial)
        obtain ⟨⟨_, _, h3, _⟩, _⟩ := hk
        exact h3
      · exact (below_step HB1.out H4.out).trans ((Turn.putObj (S := fun k => k = W0.heap.size) _ _ rfl).below (fun k hk => by have := HZ.out; have := HB1.out.size; omega) (below_step HB1.out H4.out).size)
    case stop =>
      rintro c W h
      exact h.elim

end Go.Proofs.Ytlecnodlnkanaaa.X
namespace Go.Proofs.Ytlecnodlnkanaaa.X
open Go.RowKit Go.Proofs.YtlecnodlnkanaaaW.PrintWords Go.Proofs.YtlecnodlnkanaaaW.PrintLast Go.Proofs.YtlecnodlnkanaaaW.PrintMore
attribute [local go_sem] max2_int min2_int max_two min_two
set_option linter.unusedVariables false
set_option linter.unusedSimpArgs false

def manyT (t : List Nd) (r : Bool) : Nat := if r = true then (bodyB t).length + 2 else 0
set_option maxRecDepth 100000 in
theorem stream_Many.at_ (t : List Nd) (km : Nat) (r : Bool) (hmay : tree_May.f km t = some r) (hfacts : r = true → t.length ≤ 20 ∧ ∀ x ∈ t, oneB x = true) (A : Option Addr) (c : Nat) (w : World) (hC : Kd.C kNode w A t.length t) (hc : t.length ≤ c) :
    Calls Try.prog 47 #[.slice A t.length c] w fun e w' => e = .returned (.int .i64 (manyT t r)) ∧ Below w.heap.size w w' := by
  have hall := stream_All.at_ t km r hmay hfacts A c w hC hc
  have hm : (if r = true then bodyB t ++ zeroB else []).length = manyT t r := by
    unfold manyT
    cases r
    · rfl
    · rw [if_pos rfl, if_pos rfl, List.length_append]; rfl
  generalize (if r = true then bodyB t ++ zeroB else []) = l at hall hm
  clear hmay hfacts hC
  go_enter Try.func47, Try.ntmps47
  go_wp2_with (first | (go_at_call 43; refine hall.mono ?_; rintro e w1 ⟨v, rfl, hR, hB⟩; obtain ⟨A1, c1, rfl⟩ := Kd.R_slice hR))
  go_ret
  exact ⟨rfl, hB⟩
end Go.Proofs.Ytlecnodlnkanaaa.X
namespace Go.Proofs.Ytlecnodlnkanaaa.X
open Go.RowKit Go.Proofs.YtlecnodlnkanaaaW.PrintWords Go.Proofs.YtlecnodlnkanaaaW.PrintLast Go.Proofs.YtlecnodlnkanaaaW.PrintMore
attribute [local go_sem] max2_int min2_int max_two min_two
set_option linter.unusedVariables false
set_option linter.unusedSimpArgs false

/-- Where the first number is that is beyond i. -/
def idxBeyond (i : Int) (l : List Int) : Int := match l.findIdx? (fun x => decide (x > i)) with
  | none => -1
  | some n => n
theorem idxBeyond_at {i : Int} {l : List Int} {k : Nat} (hlt : k < l.length) (h : ∀ j, j < k → rd l (j : Int) ≤ i) (hp : i < rd l (k : Int)) : idxBeyond i l = k := by
  have e : ∀ j (hj : j < l.length), rd l (j : Int) = l[j] := fun j hj => by unfold rd; rw [Int.toNat_natCast, List.getD_eq_getElem?_getD, List.getElem?_eq_getElem hj]; rfl
  have : l.findIdx? (fun x => decide (x > i)) = some k := by
    rw [List.findIdx?_eq_some_iff_getElem]
    refine ⟨hlt, by rw [decide_eq_true_eq, ← e k hlt]; exact hp, fun j hj => ?_⟩
    have h1 := h j hj
    rw [e j (by omega)] at h1
    rw [decide_eq_true_eq]
    omega
  unfold idxBeyond
  rw [this]
theorem idxBeyond_none {i : Int} {l : List Int} (h : ∀ j, j < l.length → rd l (j : Int) ≤ i) : idxBeyond i l = -1 := by
  have e : ∀ j (hj : j < l.length), rd l (j : Int) = l[j] := fun j hj => by unfold rd; rw [Int.toNat_natCast, List.getD_eq_getElem?_getD, List.getElem?_eq_getElem hj]; rfl
  have : l.findIdx? (fun x => decide (x > i)) = none := by
    rw [List.findIdx?_eq_none_iff]
    intro x hx
    obtain ⟨j, hj, rfl⟩ := List.mem_iff_getElem.1 hx
    have h1 := h j hj
    rw [e j hj] at h1
    rw [decide_eq_false_iff_not]
    omega
  unfold idxBeyond
  rw [this]
set_option maxRecDepth 100000 in
theorem stream_Where_1.at_ (x i : Int) (b : Nat) (w : World) (hb : w.cell? ⟨b, 0, none⟩ = some (.int .i64 i)) :
    Calls Try.prog 94 #[.int .i64 x, .pointer (some ⟨b, 0, none⟩)] w fun e w' => e = .returned (.bool (decide (x > i))) ∧ w = w' := by
  go_enter Try.func94, Try.ntmps94
  go_wp2
  go_ret
  exact ⟨rfl, rfl⟩
set_option maxHeartbeats 2000000 in
set_option maxRecDepth 100000 in
theorem slices_IndexFunc_ints.at_ (i : Int) (b : Nat) (A : Option Addr) (c : Nat) (l : List Int) (w : World) (hb : w.cell? ⟨b, 0, none⟩ = some (.int .i64 i)) (hr : Kd.C (Kd.int .i64) w A l.length l) (hc : l.length ≤ c) :
    Calls Try.prog 93 #[.slice A l.length c, .func (.func 94) #[] #[.pointer (some ⟨b, 0, none⟩)]] w fun e w' => e = .returned (.int .i64 (idxBeyond i l)) ∧ w = w' := by
  have hlm : l.length ≤ 9223372036854775807 := hr.2.1
  have HR := Aside0.mk hr
  have HC := Aside0.mk (fun x => stream_Where_1.at_ x i b w hb)
  have HE := Aside0.mk (enters_of (f := 94) Try.func94 (by kernel_rfl) rfl)
  clear hr hb
  go_enter Try.func93, Try.ntmps93
  go_wp2
  go_loop [5, 8] (fun _ v8 => ∃ k : Nat, v8 = .int .i64 k ∧ k ≤ l.length ∧ Aside0 (∀ j : Nat, j < k → rd l (j : Int) ≤ i)) (fun _ v8 => l.length - (intOf v8).toNat)
  case atStart => exact ⟨0, rfl, Nat.zero_le _, ⟨fun j hj => absurd hj (Nat.not_lt_zero _)⟩⟩
  case round =>
    obtain ⟨k, rfl, hi, HP⟩ := hrel
    by_cases hlt : k < l.length
    · obtain ⟨ad, rfl, hx⟩ := Kd.at_int HR.out (k : Int) (by omega) (by omega)
      rw [Int.toNat_natCast] at hx
      have hnn : (0 : Int) ≤ (k : Int) := by omega
      have hlt2 : (k : Int) < (l.length : Int) := by omega
      have hcall := HC.out (rd l (k : Int))
      have heg := HE.out
      generalize hg : rd l (k : Int) = x at hx hcall
      have HG := Aside0.mk hg
      clear hg
      by_cases hp : x > i
      · rw [decide_eq_true hp] at hcall
        have HP2 := Aside0.mk hp
        clear hp
        go_wp2_with (fail)
        refine hcall.mono ?_
        rintro e w2 ⟨rfl, rfl⟩
        clear hcall heg hx
        go_wp2
        go_ret
        refine ⟨?_, rfl⟩
        rw [idxBeyond_at hlt HP.out (by rw [HG.out]; exact HP2.out)]
        rfl
      · rw [decide_eq_false hp] at hcall
        have HP2 := Aside0.mk hp
        clear hp
        go_wp2_with (fail)
        refine hcall.mono ?_
        rintro e w2 ⟨rfl, rfl⟩
        clear hcall heg hx
        go_wp2
        go_round
        case rel => exact ⟨k + 1, by go_num, by omega, ⟨fun j hj => by
          rcases Nat.lt_or_ge j k with c1 | c1
          · exact HP.out j c1
          · obtain rfl : j = k := by omega
            rw [HG.out]; have := HP2.out; omega⟩⟩
        case measure => simp [intOf]; omega
    · go_wp2
      go_ret
      refine ⟨?_, rfl⟩
      rw [idxBeyond_none (fun j hj => HP.out j (by omega))]
      rfl

end Go.Proofs.Ytlecnodlnkanaaa.X
namespace Go.Proofs.Ytlecnodlnkanaaa.X
open Go.RowKit Go.Proofs.YtlecnodlnkanaaaW.PrintWords Go.Proofs.YtlecnodlnkanaaaW.PrintLast Go.Proofs.YtlecnodlnkanaaaW.PrintMore
attribute [local go_sem] max2_int min2_int max_two min_two
set_option linter.unusedVariables false
set_option linter.unusedSimpArgs false

theorem data_one {n : Nd} (h : oneB n = true) : entry_Data.f n.f0 n.f1 n.f2 n.f3 n.f4 n.f5 n.f6 n.f7 = some (manyB n.f7.size : Int) := by
  have hf := oneB_facts h
  have hz := mayL_pos hf.path
  have hl := hf.link
  have hd := hf.data
  unfold entry_Data.f
  rw [one_b n (by omega) (by omega), h]
  simp only [Option.bind_some, if_true]
  rw [many_f (by omega)]
  rfl
/-- Whose a block is, plainly. -/
def whereT (t : List Nd) (r : Bool) (i : Int) : Int × Int :=
  if i < 0 ∨ i ≥ (manyT t r : Int) then (-1, -1) else
  if idxBeyond i (startsL t) - 1 < 0 then ((t.length : Int), -1) else
  (idxBeyond i (startsL t) - 1, if -1 < i - rd (startsL t) (idxBeyond i (startsL t)) + (manyB (t.getD (idxBeyond i (startsL t) - 1).toNat zNode).f7.size : Int) then i - rd (startsL t) (idxBeyond i (startsL t)) + (manyB (t.getD (idxBeyond i (startsL t) - 1).toNat zNode).f7.size : Int) else -1)
theorem idxBeyond_lt {i : Int} {l : List Int} : -1 ≤ idxBeyond i l ∧ idxBeyond i l < l.length := by
  unfold idxBeyond
  cases h : l.findIdx? (fun x => decide (x > i)) with
  | none => exact ⟨by simp only; omega, by simp only; omega⟩
  | some n =>
    obtain ⟨hn, _⟩ := List.findIdx?_eq_some_iff_getElem.1 h
    exact ⟨by simp only; omega, by simp only; omega⟩
theorem startsL_length (t : List Nd) : (startsL t).length = t.length + 1 := by unfold startsL; rw [List.length_map, List.length_range]
theorem startsL_rd (t : List Nd) {k : Nat} (hk : k ≤ t.length) : rd (startsL t) (k : Int) = ((bodyB (t.take k)).length : Int) := by
  unfold rd startsL
  rw [Int.toNat_natCast, List.getD_eq_getElem?_getD, List.getElem?_map, List.getElem?_range (by omega)]
  rfl
theorem bodyB_take_le (t : List Nd) (k : Nat) : (bodyB (t.take k)).length ≤ (bodyB t).length := by
  have := congrArg List.length (bodyB_append (t.take k) (t.drop k))
  rw [List.take_append_drop, List.length_append] at this
  omega
set_option maxRecDepth 100000 in
set_option maxHeartbeats 3200000 in
theorem stream_Where.at_ (t : List Nd) (i : Int) (km : Nat) (r : Bool) (hmay : tree_May.f km t = some r) (hfacts : r = true → t.length ≤ 20 ∧ ∀ x ∈ t, oneB x = true) (A : Option Addr) (c : Nat) (w : World) (hC : Kd.C kNode w A t.length t) (hc : t.length ≤ c) :
    Calls Try.prog 44 #[.slice A t.length c, .int .i64 i] w fun e w' => e = .returned (.tuple #[.int .i64 (whereT t r i).1, .int .i64 (whereT t r i).2]) ∧ Below w.heap.size w w' := by
  have hstarts := fun W h => stream_Starts.at_ t km r hmay hfacts A c W h hc
  have hmany := fun W h => stream_Many.at_ t km r hmay hfacts A c W h hc
  obtain ⟨res, hres⟩ : ∃ res, whereT t r i = res := ⟨_, rfl⟩
  rw [hres]
  have HF := Aside0.mk hfacts
  have HB0 := Aside0.mk (below_alloc (Below.refl w.heap.size w) (.cells #[.int .i64 i] 3))
  have HX0 := Aside0.mk (heap_alloc_new w (.cells #[.int .i64 i] 3))
  have HC0 := Aside0.mk (Kd.C_alloc hC (.cells #[.int .i64 i] 3))
  clear hC hmay hfacts
  generalize hm : manyT t r = m at hmany
  generalize hst : (if r = true then startsL t else []) = st at hstarts
  go_enter Try.func44, Try.ntmps44
  go_upto_region 2 with (first | (go_at_call 46; refine (hstarts _ HC0.out).mono ?_; rintro e w1 ⟨v, rfl, hR, hb⟩; obtain ⟨A1, c1, hcc, rfl⟩ : ∃ A1 c1, st.length ≤ c1 ∧ v = .slice A1 st.length c1 := (by obtain ⟨A1, c1, e1, h1, _⟩ := Kd.R_reads hR; exact ⟨A1, c1, h1, e1⟩); have HB1 := Aside0.mk (below_step HB0.out hb); have HX1 := Aside0.mk (blk_below HX0.out hb); have HC1 := Aside0.mk (Kd.C_below HC0.out hb); have HR1 := Aside0.mk (Kd.R_lower hR HB0.out.size); clear hR hb))
  have e3 : w1.drew.cell? ⟨w.heap.size, 0, none⟩ = some (.int .i64 i) := (blk_cell (blk_drew HX1.out) 0).trans rfl
  have HRES := Aside0.mk hres
  have HM := Aside0.mk hm
  have HST := Aside0.mk hst
  clear hres hm hst hstarts HB0 HX0 HC0
  by_cases h1 : i < 0
  · have hr : res = (-1, -1) := by rw [← HRES.out]; unfold whereT; rw [if_pos (.inl h1)]
    subst hr
    have h1d := decide_eq_true h1
    refine start_ (n := 8) (S := fun w' => w'.cell? ⟨w.heap.size, 0, none⟩ = some (.int .i64 i)) (ds := []) #[false, false, false, false, false, false, false, false] (by kernel_rfl) rfl rfl e3 (fun hHeld => ?_)
    refine take_ (i := 0) (N := some 10) (v := ?_) (a' := ?_) #[true, false, false, false, false, false, false, false] rfl rfl (by kernel_rfl) (fun _ _ _ h => h) (Or.inl ⟨by rfl, ?_⟩) hHeld ?_ ?_
    rotate_left
    · rintro w' s0
      go_simp
      with_reducible rfl
    rotate_left
    · simp only [Act.put, List.setIfInBounds_toArray, List.set_cons_zero, List.set_cons_succ, i64_w, i32_w]
      rfl
    refine pure_ (i := 1) (N := some 11) (v := ?_) (a' := ?_) #[true, true, false, false, false, false, false, false] rfl rfl (by kernel_rfl) (fun _ _ _ h => h) (Or.inl ⟨by rfl, ?_⟩) ?_ ?_
    rotate_left
    · intro w'
      go_simp
      with_reducible rfl
    rotate_left
    · simp only [Act.put, List.setIfInBounds_toArray, List.set_cons_zero, List.set_cons_succ, i64_w, i32_w]
      rfl
    refine pure_ (i := 2) (N := some 12) (v := ?_) (a' := ?_) #[true, true, true, false, false, false, false, false] rfl rfl (by kernel_rfl) (fun _ _ _ h => h) (Or.inl ⟨by rfl, ?_⟩) ?_ ?_
    rotate_left
    · intro w'
      go_simp
      with_reducible rfl
    rotate_left
    · simp only [Act.put, List.setIfInBounds_toArray, List.set_cons_zero, List.set_cons_succ, i64_w, i32_w]
      rfl
    refine pure_ (i := 3) (N := some 13) (v := undef) (a' := ?_) #[true, true, true, true, false, false, false, false] rfl rfl (by kernel_rfl) (fun _ _ _ h => h) (Or.inr ⟨by rfl, rfl⟩) ?_ ?_
    rotate_left
    · simp only [Act.put, List.setIfInBounds_toArray, List.set_cons_zero, List.set_cons_succ, i64_w, i32_w]
      rfl
    refine pure_ (i := 4) (N := some 14) (v := undef) (a' := ?_) #[true, true, true, true, true, false, false, false] rfl rfl (by kernel_rfl) (fun _ _ _ h => h) (Or.inr ⟨by rfl, rfl⟩) ?_ ?_
    rotate_left
    · simp only [Act.put, List.setIfInBounds_toArray, List.set_cons_zero, List.set_cons_succ, i64_w, i32_w]
      rfl
    refine pure_ (i := 5) (N := some 15) (v := undef) (a' := ?_) #[true, true, true, true, true, true, false, false] rfl rfl (by kernel_rfl) (fun _ _ _ h => h) (Or.inr ⟨by rfl, rfl⟩) ?_ ?_
    rotate_left
    · simp only [Act.put, List.setIfInBounds_toArray, List.set_cons_zero, List.set_cons_succ, i64_w, i32_w]
      rfl
    refine pure_ (i := 6) (N := some 16) (v := undef) (a' := ?_) #[true, true, true, true, true, true, true, false] rfl rfl (by kernel_rfl) (fun _ _ _ h => h) (Or.inr ⟨by rfl, rfl⟩) ?_ ?_
    rotate_left
    · simp only [Act.put, List.setIfInBounds_toArray, List.set_cons_zero, List.set_cons_succ, i64_w, i32_w]
      rfl
    refine pure_ (i := 7) (N := some 17) (v := ?_) (a' := ?_) #[true, true, true, true, true, true, true, true] rfl rfl (by kernel_rfl) (fun _ _ _ h => h) (Or.inl ⟨by rfl, ?_⟩) ?_ ?_
    rotate_left
    · intro w'
      go_simp
      with_reducible rfl
    rotate_left
    · simp only [Act.put, List.setIfInBounds_toArray, List.set_cons_zero, List.set_cons_succ, i64_w, i32_w]
      rfl
    refine done_ (by kernel_rfl) ?_
    go_wp2_with (fail)
    go_ret2
    exact ⟨rfl, below_drew1 HB1.out⟩
  · by_cases h2 : i ≥ (m : Int)
    · have hr : res = (-1, -1) := by rw [← HRES.out]; unfold whereT; rw [if_pos (.inr (by rw [HM.out]; exact h2))]
      subst hr
      have h1d := decide_eq_false h1
      have h2d := decide_eq_true h2
      refine start_ (n := 8) (S := fun w' => w'.cell? ⟨w.heap.size, 0, none⟩ = some (.int .i64 i)) (ds := []) #[false, false, false, false, false, false, false, false] (by kernel_rfl) rfl rfl e3 (fun hHeld => ?_)
      refine take_ (i := 0) (N := some 10) (v := ?_) (a' := ?_) #[true, false, false, false, false, false, false, false] rfl rfl (by kernel_rfl) (fun _ _ _ h => h) (Or.inl ⟨by rfl, ?_⟩) hHeld ?_ ?_
      rotate_left
      · rintro w' s0
        go_simp
        with_reducible rfl
      rotate_left
      · simp only [Act.put, List.setIfInBounds_toArray, List.set_cons_zero, List.set_cons_succ, i64_w, i32_w]
        rfl
      refine pure_ (i := 1) (N := some 11) (v := ?_) (a' := ?_) #[true, true, false, false, false, false, false, false] rfl rfl (by kernel_rfl) (fun _ _ _ h => h) (Or.inl ⟨by rfl, ?_⟩) ?_ ?_
      rotate_left
      · intro w'
        go_simp
        with_reducible rfl
      rotate_left
      · simp only [Act.put, List.setIfInBounds_toArray, List.set_cons_zero, List.set_cons_succ, i64_w, i32_w]
        rfl
      refine pure_ (i := 2) (N := some 12) (v := ?_) (a' := ?_) #[true, true, true, false, false, false, false, false] rfl rfl (by kernel_rfl) (fun _ _ _ h => h) (Or.inl ⟨by rfl, ?_⟩) ?_ ?_
      rotate_left
      · intro w'
        go_simp
        with_reducible rfl
      rotate_left
      · simp only [Act.put, List.setIfInBounds_toArray, List.set_cons_zero, List.set_cons_succ, i64_w, i32_w]
        rfl
      refine take_ (i := 3) (N := some 13) (v := ?_) (a' := ?_) #[true, true, true, true, false, false, false, false] rfl rfl (by kernel_rfl) (fun _ _ _ h => h) (Or.inl ⟨by rfl, ?_⟩) hHeld ?_ ?_
      rotate_left
      · rintro w' s0
        go_simp
        with_reducible rfl
      rotate_left
      · simp only [Act.put, List.setIfInBounds_toArray, List.set_cons_zero, List.set_cons_succ, i64_w, i32_w]
        rfl
      refine pure_ (i := 4) (N := some 14) (v := ?_) (a' := ?_) #[true, true, true, true, true, false, false, false] rfl rfl (by kernel_rfl) (fun _ _ _ h => h) (Or.inl ⟨by rfl, ?_⟩) ?_ ?_
      rotate_left
      · intro w'
        go_simp
        with_reducible rfl
      rotate_left
      · simp only [Act.put, List.setIfInBounds_toArray, List.set_cons_zero, List.set_cons_succ, i64_w, i32_w]
        rfl
      refine one_ (i := 5) (N := some 15) #[true, true, true, true, true, true, false, false] rfl rfl (by kernel_rfl) (by decide) (fun K hK => ?_)
      refine goes_ Try.func47 (by kernel_rfl) rfl #[.slice A t.length c] (by rfl) rfl rfl (by (try simp only [List.map_toArray, List.map_cons, List.map_nil]); first | done | rfl | (simp only [List.length_drop, List.length_take]; rfl)) ?_
      refine (hmany w1.drew (Kd.C_drew HC1.out)).mono ?_
      rintro e w2 ⟨rfl, hb2⟩
      have HB2 := Aside0.mk (below_step (below_drew1 HB1.out) hb2)
      have HX2 := Aside0.mk (blk_below (blk_drew HX1.out) hb2)
      have HC2 := Aside0.mk (Kd.C_below (Kd.C_drew HC1.out) hb2)
      have HR2 := Aside0.mk (Kd.R_below (Kd.R_drewN HR1.out 1) hb2)
      clear hb2
      refine ⟨_, rfl, ?_⟩
      refine hK.out _ _ ((blk_cell HX2.out 0).trans rfl) (fun hHeld => ?_)
      clear hK K
      refine norm_ (a' := ?_) ?_ ?_
      rotate_left
      · show Act.put _ (some 15) _ = _
        simp only [Act.put, List.setIfInBounds_toArray, List.set_cons_zero, List.set_cons_succ, i64_w, i32_w]
        rfl
      refine pure_ (i := 6) (N := some 16) (v := ?_) (a' := ?_) #[true, true, true, true, true, true, true, false] rfl rfl (by kernel_rfl) (fun _ _ _ h => h) (Or.inl ⟨by rfl, ?_⟩) ?_ ?_
      rotate_left
      · intro w'
        go_simp
        with_reducible rfl
      rotate_left
      · simp only [Act.put, List.setIfInBounds_toArray, List.set_cons_zero, List.set_cons_succ, i64_w, i32_w]
        rfl
      refine pure_ (i := 7) (N := some 17) (v := ?_) (a' := ?_) #[true, true, true, true, true, true, true, true] rfl rfl (by kernel_rfl) (fun _ _ _ h => h) (Or.inl ⟨by rfl, ?_⟩) ?_ ?_
      rotate_left
      · intro w'
        go_simp
        with_reducible rfl
      rotate_left
      · simp only [Act.put, List.setIfInBounds_toArray, List.set_cons_zero, List.set_cons_succ, i64_w, i32_w]
        rfl
      refine done_ (by kernel_rfl) ?_
      go_wp2_with (fail)
      go_ret2
      exact ⟨rfl, HB2.out⟩
    · have h1d := decide_eq_false h1
      have h2d := decide_eq_false h2
      have hrt : r = true := by
        cases r with
        | true => rfl
        | false =>
          have := HM.out
          unfold manyT at this
          rw [if_neg (by decide)] at this
          omega
      subst hrt
      obtain ⟨ht20, hone⟩ := HF.out rfl
      obtain rfl : startsL t = st := HST.out
      have hres := HRES.out
      unfold whereT at hres
      rw [HM.out, if_neg (by rintro (h | h); exact h1 h; exact h2 h)] at hres
      have hil := idxBeyond_lt (i := i) (l := startsL t)
      have HM2 := Aside0.mk (show m = (bodyB t).length + 2 from HM.out.symm)
      have HBL := Aside0.mk (bodyB_few t (fun n hn => oneB_facts (hone n hn)))
      have HONE := Aside0.mk hone
      have HRS := Aside0.mk hres
      have HIL := Aside0.mk hil
      clear HRES HM HF HST hone hres hil
      refine start_ (n := 8) (S := fun w' => w'.cell? ⟨w.heap.size, 0, none⟩ = some (.int .i64 i)) (ds := []) #[false, false, false, false, false, false, false, false] (by kernel_rfl) rfl rfl e3 (fun hHeld => ?_)
      refine take_ (i := 0) (N := some 10) (v := ?_) (a' := ?_) #[true, false, false, false, false, false, false, false] rfl rfl (by kernel_rfl) (fun _ _ _ h => h) (Or.inl ⟨by rfl, ?_⟩) hHeld ?_ ?_
      rotate_left
      · rintro w' s0
        go_simp
        with_reducible rfl
      rotate_left
      · simp only [Act.put, List.setIfInBounds_toArray, List.set_cons_zero, List.set_cons_succ, i64_w, i32_w]
        rfl
      refine pure_ (i := 1) (N := some 11) (v := ?_) (a' := ?_) #[true, true, false, false, false, false, false, false] rfl rfl (by kernel_rfl) (fun _ _ _ h => h) (Or.inl ⟨by rfl, ?_⟩) ?_ ?_
      rotate_left
      · intro w'
        go_simp
        with_reducible rfl
      rotate_left
      · simp only [Act.put, List.setIfInBounds_toArray, List.set_cons_zero, List.set_cons_succ, i64_w, i32_w]
        rfl
      refine pure_ (i := 2) (N := some 12) (v := ?_) (a' := ?_) #[true, true, true, false, false, false, false, false] rfl rfl (by kernel_rfl) (fun _ _ _ h => h) (Or.inl ⟨by rfl, ?_⟩) ?_ ?_
      rotate_left
      · intro w'
        go_simp
        with_reducible rfl
      rotate_left
      · simp only [Act.put, List.setIfInBounds_toArray, List.set_cons_zero, List.set_cons_succ, i64_w, i32_w]
        rfl
      refine take_ (i := 3) (N := some 13) (v := ?_) (a' := ?_) #[true, true, true, true, false, false, false, false] rfl rfl (by kernel_rfl) (fun _ _ _ h => h) (Or.inl ⟨by rfl, ?_⟩) hHeld ?_ ?_
      rotate_left
      · rintro w' s0
        go_simp
        with_reducible rfl
      rotate_left
      · simp only [Act.put, List.setIfInBounds_toArray, List.set_cons_zero, List.set_cons_succ, i64_w, i32_w]
        rfl
      refine pure_ (i := 4) (N := some 14) (v := ?_) (a' := ?_) #[true, true, true, true, true, false, false, false] rfl rfl (by kernel_rfl) (fun _ _ _ h => h) (Or.inl ⟨by rfl, ?_⟩) ?_ ?_
      rotate_left
      · intro w'
        go_simp
        with_reducible rfl
      rotate_left
      · simp only [Act.put, List.setIfInBounds_toArray, List.set_cons_zero, List.set_cons_succ, i64_w, i32_w]
        rfl
      refine one_ (i := 5) (N := some 15) #[true, true, true, true, true, true, false, false] rfl rfl (by kernel_rfl) (by decide) (fun K hK => ?_)
      refine goes_ Try.func47 (by kernel_rfl) rfl #[.slice A t.length c] (by rfl) rfl rfl (by (try simp only [List.map_toArray, List.map_cons, List.map_nil]); first | done | rfl | (simp only [List.length_drop, List.length_take]; rfl)) ?_
      refine (hmany w1.drew (Kd.C_drew HC1.out)).mono ?_
      rintro e w2 ⟨rfl, hb2⟩
      have HB2 := Aside0.mk (below_step (below_drew1 HB1.out) hb2)
      have HX2 := Aside0.mk (blk_below (blk_drew HX1.out) hb2)
      have HC2 := Aside0.mk (Kd.C_below (Kd.C_drew HC1.out) hb2)
      have HR2 := Aside0.mk (Kd.R_below (Kd.R_drewN HR1.out 1) hb2)
      clear hb2
      refine ⟨_, rfl, ?_⟩
      refine hK.out _ _ ((blk_cell HX2.out 0).trans rfl) (fun hHeld => ?_)
      clear hK K
      refine norm_ (a' := ?_) ?_ ?_
      rotate_left
      · show Act.put _ (some 15) _ = _
        simp only [Act.put, List.setIfInBounds_toArray, List.set_cons_zero, List.set_cons_succ, i64_w, i32_w]
        rfl
      refine pure_ (i := 6) (N := some 16) (v := ?_) (a' := ?_) #[true, true, true, true, true, true, true, false] rfl rfl (by kernel_rfl) (fun _ _ _ h => h) (Or.inl ⟨by rfl, ?_⟩) ?_ ?_
      rotate_left
      · intro w'
        go_simp
        with_reducible rfl
      rotate_left
      · simp only [Act.put, List.setIfInBounds_toArray, List.set_cons_zero, List.set_cons_succ, i64_w, i32_w]
        rfl
      refine pure_ (i := 7) (N := some 17) (v := ?_) (a' := ?_) #[true, true, true, true, true, true, true, true] rfl rfl (by kernel_rfl) (fun _ _ _ h => h) (Or.inl ⟨by rfl, ?_⟩) ?_ ?_
      rotate_left
      · intro w'
        go_simp
        with_reducible rfl
      rotate_left
      · simp only [Act.put, List.setIfInBounds_toArray, List.set_cons_zero, List.set_cons_succ, i64_w, i32_w]
        rfl
      refine done_ (by kernel_rfl) ?_
      have e4 : w2.cell? ⟨w.heap.size, 0, none⟩ = some (.int .i64 i) := (blk_cell HX2.out 0).trans rfl
      have hfx := slices_IndexFunc_ints.at_ i w.heap.size A1 c1 (startsL t) w2 e4 (Kd.R_reads' HR2.out).2.2 hcc
      have hres := HRS.out
      have hil := HIL.out
      have hm2 := HM2.out
      have hbl := HBL.out
      generalize hix : idxBeyond i (startsL t) = ix at hfx hres hil
      have hsl := startsL_length t
      have hw0 : IntKind.i64.wrap (ix - 1) = ix - 1 := by rw [i64_w]; exact wrap_id (by omega) (by omega)
      clear hix
      by_cases h3 : ix - 1 < 0
      · rw [if_pos h3] at hres
        subst hres
        clear hil hsl hbl hm2 HM2 HBL HONE HRS HIL
        go_wp2_with (first | (go_at_call 93; refine hfx.mono ?_; rintro e wx ⟨rfl, rfl⟩))
        go_ret2
        exact ⟨rfl, HB2.out⟩
      · rw [if_neg h3] at hres
        obtain ⟨k, rfl⟩ : ∃ k : Nat, ix = (k : Int) + 1 := ⟨(ix - 1).toNat, by omega⟩
        have hkl : k < t.length := by omega
        have hw0 : IntKind.i64.wrap ((k : Int) + 1 - 1) = (k : Int) := by rw [hw0]; omega
        have hs1 : rd (startsL t) ((k : Int) + 1) = ((bodyB (t.take (k + 1))).length : Int) := startsL_rd t (k := k + 1) (by omega)
        have hsle := bodyB_take_le t (k + 1)
        obtain ⟨ad2, hA1, hel⟩ := Kd.at_int (Kd.R_reads' HR2.out).2.2 ((k : Int) + 1) (by omega) (by omega)
        subst hA1
        obtain ⟨ad, rfl, k0, k1, k2, k3, k4, k5, k6, k7⟩ := node_cells HC2.out hkl t[k] (List.getElem?_eq_getElem hkl)
        have hdata := fun W => entry_Data.calls _ _ _ _ _ _ _ _ _ W (data_one (HONE.out t[k] (List.getElem_mem hkl)))
        have hfew := (oneB_facts (HONE.out t[k] (List.getElem_mem hkl))).data
        have e5 : t.getD ((k : Int) + 1 - 1).toNat zNode = t[k] := by rw [show ((k : Int) + 1 - 1).toNat = k by omega, List.getD_eq_getElem?_getD, List.getElem?_eq_getElem hkl]; rfl
        rw [e5] at hres
        generalize t[k] = x at *
        obtain ⟨f0, f1, f2, f3, f4, f5, f6, f7⟩ := x
        simp only at k0 k1 k2 k3 k4 k5 k6 k7 hdata hfew hres
        rw [hs1] at hel hres
        rw [show ((k : Int) + 1).toNat = k + 1 by omega] at hel
        generalize (bodyB (t.take (k + 1))).length = s1 at hel hres hsle
        have hmd : manyB f7.size ≤ 8 := by unfold manyB; omega
        generalize manyB f7.size = d at hdata hres hmd
        have hw1 : IntKind.i64.wrap ((k : Int) + 1) = (k : Int) + 1 := by rw [i64_w]; exact wrap_id (by omega) (by omega)
        have hw2 : IntKind.i64.wrap (i - (s1 : Int)) = i - (s1 : Int) := by rw [i64_w]; exact wrap_id (by omega) (by omega)
        have hw3 : IntKind.i64.wrap (i - (s1 : Int) + (d : Int)) = i - (s1 : Int) + (d : Int) := by rw [i64_w]; exact wrap_id (by omega) (by omega)
        have hk0 : (0 : Int) ≤ (k : Int) := by omega
        have hk1 : (0 : Int) ≤ (k : Int) + 1 := by omega
        have hkl1 : (k : Int) < (t.length : Int) := by omega
        have hkl2 : (k : Int) + 1 < ((startsL t).length : Int) := by omega
        have h3d := decide_eq_false (p := (k : Int) < 0) (by omega)
        clear hsl hbl hm2 HM2 HBL HONE HRS HIL hil hsle hmd hfew e5 hs1 h3
        by_cases h4 : -1 < i - (s1 : Int) + (d : Int)
        · rw [if_pos h4] at hres
          have HH := Aside0.mk hres
          clear hres
          go_upto_region 7 with (first | (go_at_call 93; refine hfx.mono ?_; rintro e wx ⟨rfl, rfl⟩))
          refine start_ (n := 17) (S := fun w' => w'.cell? ⟨w.heap.size, 0, none⟩ = some (.int .i64 i) ∧ w'.cell? ⟨ad2.block, ad2.off + (k + 1), none⟩ = some (.int .i64 s1) ∧ w'.cell? (ad.add (k * 8)) = some (.string f0) ∧ w'.cell? ⟨(ad.add (k * 8)).block, (ad.add (k * 8)).off + 1, none⟩ = some (.string f1) ∧ w'.cell? ⟨(ad.add (k * 8)).block, (ad.add (k * 8)).off + 2, none⟩ = some (.int .u8 f2) ∧ w'.cell? ⟨(ad.add (k * 8)).block, (ad.add (k * 8)).off + 3, none⟩ = some (.int .i64 f3) ∧ w'.cell? ⟨(ad.add (k * 8)).block, (ad.add (k * 8)).off + 4, none⟩ = some (.int .i64 f4) ∧ w'.cell? ⟨(ad.add (k * 8)).block, (ad.add (k * 8)).off + 5, none⟩ = some (.int .i64 f5) ∧ w'.cell? ⟨(ad.add (k * 8)).block, (ad.add (k * 8)).off + 6, none⟩ = some (.int .i64 f6) ∧ w'.cell? ⟨(ad.add (k * 8)).block, (ad.add (k * 8)).off + 7, none⟩ = some (.string f7)) (ds := []) #[false, false, false, false, false, false, false, false, false, false, false, false, false, false, false, false, false] (by kernel_rfl) rfl rfl ⟨e4, hel, k0, k1, k2, k3, k4, k5, k6, k7⟩ (fun hHeld => ?_)
          refine pure_ (i := 0) (N := some 26) (v := ?_) (a' := ?_) #[true, false, false, false, false, false, false, false, false, false, false, false, false, false, false, false, false] rfl rfl (by kernel_rfl) (fun _ _ _ h => h) (Or.inl ⟨by rfl, ?_⟩) ?_ ?_
          rotate_left
          · intro w'
            go_simp
            with_reducible rfl
          rotate_left
          · simp only [Act.put, List.setIfInBounds_toArray, List.set_cons_zero, List.set_cons_succ, i64_w, i32_w]
            rfl
          refine take_ (i := 1) (N := some 27) (v := ?_) (a' := ?_) #[true, true, false, false, false, false, false, false, false, false, false, false, false, false, false, false, false] rfl rfl (by kernel_rfl) (fun _ _ _ h => h) (Or.inl ⟨by rfl, ?_⟩) hHeld ?_ ?_
          rotate_left
          · rintro w' ⟨s0, s1, s2, s3, s4, s5, s6, s7, s8, s9⟩
            go_simp
            with_reducible rfl
          rotate_left
          · simp only [Act.put, List.setIfInBounds_toArray, List.set_cons_zero, List.set_cons_succ, i64_w, i32_w]
            rfl
          refine pure_ (i := 2) (N := some 28) (v := ?_) (a' := ?_) #[true, true, true, false, false, false, false, false, false, false, false, false, false, false, false, false, false] rfl rfl (by kernel_rfl) (fun _ _ _ h => h) (Or.inl ⟨by rfl, ?_⟩) ?_ ?_
          rotate_left
          · intro w'
            go_simp
            with_reducible rfl
          rotate_left
          · simp only [Act.put, List.setIfInBounds_toArray, List.set_cons_zero, List.set_cons_succ, i64_w, i32_w]
            rfl
          refine pure_ (i := 3) (N := some 29) (v := ?_) (a' := ?_) #[true, true, true, true, false, false, false, false, false, false, false, false, false, false, false, false, false] rfl rfl (by kernel_rfl) (fun _ _ _ h => h) (Or.inl ⟨by rfl, ?_⟩) ?_ ?_
          rotate_left
          · intro w'
            go_simp
            with_reducible rfl
          rotate_left
          · simp only [Act.put, List.setIfInBounds_toArray, List.set_cons_zero, List.set_cons_succ, i64_w, i32_w]
            rfl
          refine pure_ (i := 4) (N := some 30) (v := ?_) (a' := ?_) #[true, true, true, true, true, false, false, false, false, false, false, false, false, false, false, false, false] rfl rfl (by kernel_rfl) (fun _ _ _ h => h) (Or.inl ⟨by rfl, ?_⟩) ?_ ?_
          rotate_left
          · intro w'
            go_simp
            with_reducible rfl
          rotate_left
          · simp only [Act.put, List.setIfInBounds_toArray, List.set_cons_zero, List.set_cons_succ, i64_w, i32_w]
            rfl
          refine pure_ (i := 5) (N := some 31) (v := ?_) (a' := ?_) #[true, true, true, true, true, true, false, false, false, false, false, false, false, false, false, false, false] rfl rfl (by kernel_rfl) (fun _ _ _ h => h) (Or.inl ⟨by rfl, ?_⟩) ?_ ?_
          rotate_left
          · intro w'
            go_simp
            with_reducible rfl
          rotate_left
          · simp only [Act.put, List.setIfInBounds_toArray, List.set_cons_zero, List.set_cons_succ, i64_w, i32_w]
            rfl
          refine take_ (i := 6) (N := some 32) (v := ?_) (a' := ?_) #[true, true, true, true, true, true, true, false, false, false, false, false, false, false, false, false, false] rfl rfl (by kernel_rfl) (fun _ _ _ h => h) (Or.inl ⟨by rfl, ?_⟩) hHeld ?_ ?_
          rotate_left
          · rintro w' ⟨s0, s1, s2, s3, s4, s5, s6, s7, s8, s9⟩
            go_simp
            with_reducible rfl
          rotate_left
          · simp only [Act.put, List.setIfInBounds_toArray, List.set_cons_zero, List.set_cons_succ, i64_w, i32_w]
            rfl
          refine pure_ (i := 7) (N := some 33) (v := ?_) (a' := ?_) #[true, true, true, true, true, true, true, true, false, false, false, false, false, false, false, false, false] rfl rfl (by kernel_rfl) (fun _ _ _ h => h) (Or.inl ⟨by rfl, ?_⟩) ?_ ?_
          rotate_left
          · intro w'
            go_simp
            with_reducible rfl
          rotate_left
          · simp only [Act.put, List.setIfInBounds_toArray, List.set_cons_zero, List.set_cons_succ, i64_w, i32_w]
            rfl
          refine pure_ (i := 8) (N := some 34) (v := ?_) (a' := ?_) #[true, true, true, true, true, true, true, true, true, false, false, false, false, false, false, false, false] rfl rfl (by kernel_rfl) (fun _ _ _ h => h) (Or.inl ⟨by rfl, ?_⟩) ?_ ?_
          rotate_left
          · intro w'
            go_simp
            with_reducible rfl
          rotate_left
          · simp only [Act.put, List.setIfInBounds_toArray, List.set_cons_zero, List.set_cons_succ, i64_w, i32_w]
            rfl
          refine pure_ (i := 9) (N := some 35) (v := ?_) (a' := ?_) #[true, true, true, true, true, true, true, true, true, true, false, false, false, false, false, false, false] rfl rfl (by kernel_rfl) (fun _ _ _ h => h) (Or.inl ⟨by rfl, ?_⟩) ?_ ?_
          rotate_left
          · intro w'
            go_simp
            with_reducible rfl
          rotate_left
          · simp only [Act.put, List.setIfInBounds_toArray, List.set_cons_zero, List.set_cons_succ, i64_w, i32_w]
            rfl
          refine pure_ (i := 10) (N := some 36) (v := ?_) (a' := ?_) #[true, true, true, true, true, true, true, true, true, true, true, false, false, false, false, false, false] rfl rfl (by kernel_rfl) (fun _ _ _ h => h) (Or.inl ⟨by rfl, ?_⟩) ?_ ?_
          rotate_left
          · intro w'
            go_simp
            with_reducible rfl
          rotate_left
          · simp only [Act.put, List.setIfInBounds_toArray, List.set_cons_zero, List.set_cons_succ, i64_w, i32_w]
            rfl
          refine take_ (i := 11) (N := some 37) (v := ?_) (a' := ?_) #[true, true, true, true, true, true, true, true, true, true, true, true, false, false, false, false, false] rfl rfl (by kernel_rfl) (fun _ _ _ h => h) (Or.inl ⟨by rfl, ?_⟩) hHeld ?_ ?_
          rotate_left
          · rintro w' ⟨s0, s1, s2, s3, s4, s5, s6, s7, s8, s9⟩
            go_simp
            with_reducible rfl
          rotate_left
          · simp only [Act.put, List.setIfInBounds_toArray, List.set_cons_zero, List.set_cons_succ, i64_w, i32_w]
            rfl
          refine one_ (i := 12) (N := some 38) #[true, true, true, true, true, true, true, true, true, true, true, true, true, false, false, false, false] rfl rfl (by kernel_rfl) (by decide) (fun K hK => ?_)
          refine goes_ Try.func30 (by kernel_rfl) rfl #[.agg #[.string f0, .string f1, .int .u8 f2, .int .i64 f3, .int .i64 f4, .int .i64 f5, .int .i64 f6, .string f7]] (by rfl) rfl rfl (by (try simp only [List.map_toArray, List.map_cons, List.map_nil]); first | done | rfl | (simp only [List.length_drop, List.length_take]; rfl)) ?_
          refine (hdata w2.drew).mono ?_
          rintro e w3 ⟨rfl, hb3⟩
          have HB3 := Aside0.mk (below_step (below_drew1 HB2.out) hb3)
          have hbk := fun {p v} (h : w2.drew.cell? p = some v) => pw_cell_below hb3 h
          clear hb3
          refine ⟨_, rfl, ?_⟩
          refine hK.out _ _ ⟨hbk e4, hbk hel, hbk k0, hbk k1, hbk k2, hbk k3, hbk k4, hbk k5, hbk k6, hbk k7⟩ (fun hHeld => ?_)
          clear hK K
          refine norm_ (a' := ?_) ?_ ?_
          rotate_left
          · show Act.put _ (some 38) _ = _
            simp only [Act.put, List.setIfInBounds_toArray, List.set_cons_zero, List.set_cons_succ, i64_w, i32_w]
            rfl
          refine pure_ (i := 13) (N := some 39) (v := ?_) (a' := ?_) #[true, true, true, true, true, true, true, true, true, true, true, true, true, true, false, false, false] rfl rfl (by kernel_rfl) (fun _ _ _ h => h) (Or.inl ⟨by rfl, ?_⟩) ?_ ?_
          rotate_left
          · intro w'
            go_simp
            with_reducible rfl
          rotate_left
          · simp only [Act.put, List.setIfInBounds_toArray, List.set_cons_zero, List.set_cons_succ, i64_w, i32_w]
            rfl
          refine pure_ (i := 14) (N := some 40) (v := ?_) (a' := ?_) #[true, true, true, true, true, true, true, true, true, true, true, true, true, true, true, false, false] rfl rfl (by kernel_rfl) (fun _ _ _ h => h) (Or.inl ⟨by rfl, ?_⟩) ?_ ?_
          rotate_left
          · intro w'
            go_simp
            with_reducible rfl
          rotate_left
          · simp only [Act.put, List.setIfInBounds_toArray, List.set_cons_zero, List.set_cons_succ, i64_w, i32_w]
            rfl
          refine pure_ (i := 15) (N := some 4) (v := ?_) (a' := ?_) #[true, true, true, true, true, true, true, true, true, true, true, true, true, true, true, true, false] rfl rfl (by kernel_rfl) (fun _ _ _ h => h) (Or.inl ⟨by rfl, ?_⟩) ?_ ?_
          rotate_left
          · intro w'
            go_simp
            with_reducible rfl
          rotate_left
          · simp only [Act.put, List.setIfInBounds_toArray, List.set_cons_zero, List.set_cons_succ, i64_w, i32_w]
            rfl
          refine pure_ (i := 16) (N := some 5) (v := ?_) (a' := ?_) #[true, true, true, true, true, true, true, true, true, true, true, true, true, true, true, true, true] rfl rfl (by kernel_rfl) (fun _ _ _ h => h) (Or.inl ⟨by rfl, ?_⟩) ?_ ?_
          rotate_left
          · intro w'
            go_simp
            with_reducible rfl
          rotate_left
          · simp only [Act.put, List.setIfInBounds_toArray, List.set_cons_zero, List.set_cons_succ, i64_w, i32_w]
            rfl
          refine done_ (by kernel_rfl) ?_
          go_wp2_with (fail)
          go_ret2
          exact ⟨by rw [← HH.out]; simp, HB3.out⟩
        · rw [if_neg h4] at hres
          have HH := Aside0.mk hres
          clear hres
          go_upto_region 7 with (first | (go_at_call 93; refine hfx.mono ?_; rintro e wx ⟨rfl, rfl⟩))
          refine start_ (n := 17) (S := fun w' => w'.cell? ⟨w.heap.size, 0, none⟩ = some (.int .i64 i) ∧ w'.cell? ⟨ad2.block, ad2.off + (k + 1), none⟩ = some (.int .i64 s1) ∧ w'.cell? (ad.add (k * 8)) = some (.string f0) ∧ w'.cell? ⟨(ad.add (k * 8)).block, (ad.add (k * 8)).off + 1, none⟩ = some (.string f1) ∧ w'.cell? ⟨(ad.add (k * 8)).block, (ad.add (k * 8)).off + 2, none⟩ = some (.int .u8 f2) ∧ w'.cell? ⟨(ad.add (k * 8)).block, (ad.add (k * 8)).off + 3, none⟩ = some (.int .i64 f3) ∧ w'.cell? ⟨(ad.add (k * 8)).block, (ad.add (k * 8)).off + 4, none⟩ = some (.int .i64 f4) ∧ w'.cell? ⟨(ad.add (k * 8)).block, (ad.add (k * 8)).off + 5, none⟩ = some (.int .i64 f5) ∧ w'.cell? ⟨(ad.add (k * 8)).block, (ad.add (k * 8)).off + 6, none⟩ = some (.int .i64 f6) ∧ w'.cell? ⟨(ad.add (k * 8)).block, (ad.add (k * 8)).off + 7, none⟩ = some (.string f7)) (ds := []) #[false, false, false, false, false, false, false, false, false, false, false, false, false, false, false, false, false] (by kernel_rfl) rfl rfl ⟨e4, hel, k0, k1, k2, k3, k4, k5, k6, k7⟩ (fun hHeld => ?_)
          refine pure_ (i := 0) (N := some 26) (v := ?_) (a' := ?_) #[true, false, false, false, false, false, false, false, false, false, false, false, false, false, false, false, false] rfl rfl (by kernel_rfl) (fun _ _ _ h => h) (Or.inl ⟨by rfl, ?_⟩) ?_ ?_
          rotate_left
          · intro w'
            go_simp
            with_reducible rfl
          rotate_left
          · simp only [Act.put, List.setIfInBounds_toArray, List.set_cons_zero, List.set_cons_succ, i64_w, i32_w]
            rfl
          refine take_ (i := 1) (N := some 27) (v := ?_) (a' := ?_) #[true, true, false, false, false, false, false, false, false, false, false, false, false, false, false, false, false] rfl rfl (by kernel_rfl) (fun _ _ _ h => h) (Or.inl ⟨by rfl, ?_⟩) hHeld ?_ ?_
          rotate_left
          · rintro w' ⟨s0, s1, s2, s3, s4, s5, s6, s7, s8, s9⟩
            go_simp
            with_reducible rfl
          rotate_left
          · simp only [Act.put, List.setIfInBounds_toArray, List.set_cons_zero, List.set_cons_succ, i64_w, i32_w]
            rfl
          refine pure_ (i := 2) (N := some 28) (v := ?_) (a' := ?_) #[true, true, true, false, false, false, false, false, false, false, false, false, false, false, false, false, false] rfl rfl (by kernel_rfl) (fun _ _ _ h => h) (Or.inl ⟨by rfl, ?_⟩) ?_ ?_
          rotate_left
          · intro w'
            go_simp
            with_reducible rfl
          rotate_left
          · simp only [Act.put, List.setIfInBounds_toArray, List.set_cons_zero, List.set_cons_succ, i64_w, i32_w]
            rfl
          refine pure_ (i := 3) (N := some 29) (v := ?_) (a' := ?_) #[true, true, true, true, false, false, false, false, false, false, false, false, false, false, false, false, false] rfl rfl (by kernel_rfl) (fun _ _ _ h => h) (Or.inl ⟨by rfl, ?_⟩) ?_ ?_
          rotate_left
          · intro w'
            go_simp
            with_reducible rfl
          rotate_left
          · simp only [Act.put, List.setIfInBounds_toArray, List.set_cons_zero, List.set_cons_succ, i64_w, i32_w]
            rfl
          refine pure_ (i := 4) (N := some 30) (v := ?_) (a' := ?_) #[true, true, true, true, true, false, false, false, false, false, false, false, false, false, false, false, false] rfl rfl (by kernel_rfl) (fun _ _ _ h => h) (Or.inl ⟨by rfl, ?_⟩) ?_ ?_
          rotate_left
          · intro w'
            go_simp
            with_reducible rfl
          rotate_left
          · simp only [Act.put, List.setIfInBounds_toArray, List.set_cons_zero, List.set_cons_succ, i64_w, i32_w]
            rfl
          refine pure_ (i := 5) (N := some 31) (v := ?_) (a' := ?_) #[true, true, true, true, true, true, false, false, false, false, false, false, false, false, false, false, false] rfl rfl (by kernel_rfl) (fun _ _ _ h => h) (Or.inl ⟨by rfl, ?_⟩) ?_ ?_
          rotate_left
          · intro w'
            go_simp
            with_reducible rfl
          rotate_left
          · simp only [Act.put, List.setIfInBounds_toArray, List.set_cons_zero, List.set_cons_succ, i64_w, i32_w]
            rfl
          refine take_ (i := 6) (N := some 32) (v := ?_) (a' := ?_) #[true, true, true, true, true, true, true, false, false, false, false, false, false, false, false, false, false] rfl rfl (by kernel_rfl) (fun _ _ _ h => h) (Or.inl ⟨by rfl, ?_⟩) hHeld ?_ ?_
          rotate_left
          · rintro w' ⟨s0, s1, s2, s3, s4, s5, s6, s7, s8, s9⟩
            go_simp
            with_reducible rfl
          rotate_left
          · simp only [Act.put, List.setIfInBounds_toArray, List.set_cons_zero, List.set_cons_succ, i64_w, i32_w]
            rfl
          refine pure_ (i := 7) (N := some 33) (v := ?_) (a' := ?_) #[true, true, true, true, true, true, true, true, false, false, false, false, false, false, false, false, false] rfl rfl (by kernel_rfl) (fun _ _ _ h => h) (Or.inl ⟨by rfl, ?_⟩) ?_ ?_
          rotate_left
          · intro w'
            go_simp
            with_reducible rfl
          rotate_left
          · simp only [Act.put, List.setIfInBounds_toArray, List.set_cons_zero, List.set_cons_succ, i64_w, i32_w]
            rfl
          refine pure_ (i := 8) (N := some 34) (v := ?_) (a' := ?_) #[true, true, true, true, true, true, true, true, true, false, false, false, false, false, false, false, false] rfl rfl (by kernel_rfl) (fun _ _ _ h => h) (Or.inl ⟨by rfl, ?_⟩) ?_ ?_
          rotate_left
          · intro w'
            go_simp
            with_reducible rfl
          rotate_left
          · simp only [Act.put, List.setIfInBounds_toArray, List.set_cons_zero, List.set_cons_succ, i64_w, i32_w]
            rfl
          refine pure_ (i := 9) (N := some 35) (v := ?_) (a' := ?_) #[true, true, true, true, true, true, true, true, true, true, false, false, false, false, false, false, false] rfl rfl (by kernel_rfl) (fun _ _ _ h => h) (Or.inl ⟨by rfl, ?_⟩) ?_ ?_
          rotate_left
          · intro w'
            go_simp
            with_reducible rfl
          rotate_left
          · simp only [Act.put, List.setIfInBounds_toArray, List.set_cons_zero, List.set_cons_succ, i64_w, i32_w]
            rfl
          refine pure_ (i := 10) (N := some 36) (v := ?_) (a' := ?_) #[true, true, true, true, true, true, true, true, true, true, true, false, false, false, false, false, false] rfl rfl (by kernel_rfl) (fun _ _ _ h => h) (Or.inl ⟨by rfl, ?_⟩) ?_ ?_
          rotate_left
          · intro w'
            go_simp
            with_reducible rfl
          rotate_left
          · simp only [Act.put, List.setIfInBounds_toArray, List.set_cons_zero, List.set_cons_succ, i64_w, i32_w]
            rfl
          refine take_ (i := 11) (N := some 37) (v := ?_) (a' := ?_) #[true, true, true, true, true, true, true, true, true, true, true, true, false, false, false, false, false] rfl rfl (by kernel_rfl) (fun _ _ _ h => h) (Or.inl ⟨by rfl, ?_⟩) hHeld ?_ ?_
          rotate_left
          · rintro w' ⟨s0, s1, s2, s3, s4, s5, s6, s7, s8, s9⟩
            go_simp
            with_reducible rfl
          rotate_left
          · simp only [Act.put, List.setIfInBounds_toArray, List.set_cons_zero, List.set_cons_succ, i64_w, i32_w]
            rfl
          refine one_ (i := 12) (N := some 38) #[true, true, true, true, true, true, true, true, true, true, true, true, true, false, false, false, false] rfl rfl (by kernel_rfl) (by decide) (fun K hK => ?_)
          refine goes_ Try.func30 (by kernel_rfl) rfl #[.agg #[.string f0, .string f1, .int .u8 f2, .int .i64 f3, .int .i64 f4, .int .i64 f5, .int .i64 f6, .string f7]] (by rfl) rfl rfl (by (try simp only [List.map_toArray, List.map_cons, List.map_nil]); first | done | rfl | (simp only [List.length_drop, List.length_take]; rfl)) ?_
          refine (hdata w2.drew).mono ?_
          rintro e w3 ⟨rfl, hb3⟩
          have HB3 := Aside0.mk (below_step (below_drew1 HB2.out) hb3)
          have hbk := fun {p v} (h : w2.drew.cell? p = some v) => pw_cell_below hb3 h
          clear hb3
          refine ⟨_, rfl, ?_⟩
          refine hK.out _ _ ⟨hbk e4, hbk hel, hbk k0, hbk k1, hbk k2, hbk k3, hbk k4, hbk k5, hbk k6, hbk k7⟩ (fun hHeld => ?_)
          clear hK K
          refine norm_ (a' := ?_) ?_ ?_
          rotate_left
          · show Act.put _ (some 38) _ = _
            simp only [Act.put, List.setIfInBounds_toArray, List.set_cons_zero, List.set_cons_succ, i64_w, i32_w]
            rfl
          refine pure_ (i := 13) (N := some 39) (v := ?_) (a' := ?_) #[true, true, true, true, true, true, true, true, true, true, true, true, true, true, false, false, false] rfl rfl (by kernel_rfl) (fun _ _ _ h => h) (Or.inl ⟨by rfl, ?_⟩) ?_ ?_
          rotate_left
          · intro w'
            go_simp
            with_reducible rfl
          rotate_left
          · simp only [Act.put, List.setIfInBounds_toArray, List.set_cons_zero, List.set_cons_succ, i64_w, i32_w]
            rfl
          refine pure_ (i := 14) (N := some 40) (v := ?_) (a' := ?_) #[true, true, true, true, true, true, true, true, true, true, true, true, true, true, true, false, false] rfl rfl (by kernel_rfl) (fun _ _ _ h => h) (Or.inl ⟨by rfl, ?_⟩) ?_ ?_
          rotate_left
          · intro w'
            go_simp
            with_reducible rfl
          rotate_left
          · simp only [Act.put, List.setIfInBounds_toArray, List.set_cons_zero, List.set_cons_succ, i64_w, i32_w]
            rfl
          refine pure_ (i := 15) (N := some 4) (v := ?_) (a' := ?_) #[true, true, true, true, true, true, true, true, true, true, true, true, true, true, true, true, false] rfl rfl (by kernel_rfl) (fun _ _ _ h => h) (Or.inl ⟨by rfl, ?_⟩) ?_ ?_
          rotate_left
          · intro w'
            go_simp
            with_reducible rfl
          rotate_left
          · simp only [Act.put, List.setIfInBounds_toArray, List.set_cons_zero, List.set_cons_succ, i64_w, i32_w]
            rfl
          refine pure_ (i := 16) (N := some 5) (v := ?_) (a' := ?_) #[true, true, true, true, true, true, true, true, true, true, true, true, true, true, true, true, true] rfl rfl (by kernel_rfl) (fun _ _ _ h => h) (Or.inl ⟨by rfl, ?_⟩) ?_ ?_
          rotate_left
          · intro w'
            go_simp
            with_reducible rfl
          rotate_left
          · simp only [Act.put, List.setIfInBounds_toArray, List.set_cons_zero, List.set_cons_succ, i64_w, i32_w]
            rfl
          refine done_ (by kernel_rfl) ?_
          go_wp2_with (fail)
          go_ret2
          exact ⟨by rw [← HH.out]; simp, HB3.out⟩
theorem bodyB_split (t : List Nd) {k : Nat} (hk : k < t.length) : bodyB t = bodyB (t.take k) ++ (entryB t[k] ++ bodyB (t.drop (k + 1))) := by
  have h : t = t.take k ++ t[k] :: t.drop (k + 1) := by rw [← List.drop_eq_getElem_cons hk, List.take_append_drop]
  have h2 := congrArg bodyB h
  rw [bodyB_append, bodyB] at h2
  exact h2
theorem starts_step (t : List Nd) {k : Nat} (hk : k < t.length) : (bodyB (t.take (k + 1))).length = (bodyB (t.take k)).length + (entryB t[k]).length := by
  rw [List.take_succ_eq_append_getElem hk, bodyB_snoc, List.length_append]
theorem starts_mono (t : List Nd) : ∀ (d k : Nat), k + d ≤ t.length → (bodyB (t.take k)).length ≤ (bodyB (t.take (k + d))).length
  | 0, k, _ => Nat.le_refl _
  | d + 1, k, h => by
    have h1 := starts_mono t d k (by omega)
    have h2 := starts_step t (k := k + d) (by omega)
    rw [show k + (d + 1) = k + d + 1 by omega]
    omega
/-- Where i is in the stream: in which node. -/
theorem in_body (t : List Nd) (i : Nat) (hi : i < (bodyB t).length) : ∃ (k : Nat) (hk : k < t.length), (bodyB (t.take k)).length ≤ i ∧ i < (bodyB (t.take (k + 1))).length ∧ idxBeyond (i : Int) (startsL t) = (k : Int) + 1 := by
  have hex : ∃ k, k ≤ t.length ∧ i < (bodyB (t.take k)).length := ⟨t.length, Nat.le_refl _, by rw [List.take_length]; exact hi⟩
  have hmin : ∃ k, (k ≤ t.length ∧ i < (bodyB (t.take k)).length) ∧ ∀ j, j < k → ¬ (i < (bodyB (t.take j)).length) := by
    have : ∀ (n k : Nat), n = k → k ≤ t.length → i < (bodyB (t.take k)).length → ∃ k, (k ≤ t.length ∧ i < (bodyB (t.take k)).length) ∧ ∀ j, j < k → ¬ (i < (bodyB (t.take j)).length) := by
      intro n
      induction n using Nat.strongRecOn with
      | _ n ih =>
      intro k hn hk h
      by_cases hall : ∀ j, j < k → ¬ (i < (bodyB (t.take j)).length)
      · exact ⟨k, ⟨hk, h⟩, hall⟩
      · rw [Classical.not_forall] at hall
        obtain ⟨j, hj⟩ := hall
        rw [Classical.not_imp, Classical.not_not] at hj
        exact ih j (by omega) j rfl (by omega) hj.2
    obtain ⟨k, hk, h⟩ := hex
    exact this k k rfl hk h
  obtain ⟨k, ⟨hk, h⟩, hall⟩ := hmin
  have h0 : 0 < k := by
    rcases Nat.eq_zero_or_pos k with rfl | h0
    · rw [List.take_zero, bodyB] at h
      cases h
    · exact h0
  obtain ⟨k, rfl⟩ : ∃ m, k = m + 1 := ⟨k - 1, by omega⟩
  refine ⟨k, by omega, by have := hall k (by omega); omega, h, ?_⟩
  refine idxBeyond_at (k := k + 1) (by rw [startsL_length]; omega) (fun j hj => ?_) ?_
  · rw [startsL_rd t (by omega)]
    have := hall j hj
    omega
  · rw [startsL_rd t hk]
    omega
theorem in_zero (t : List Nd) (i : Nat) (hi : (bodyB t).length ≤ i) : idxBeyond (i : Int) (startsL t) = -1 := by
  refine idxBeyond_none (fun j hj => ?_)
  rw [startsL_length] at hj
  rw [startsL_rd t (by omega)]
  have := bodyB_take_le t j
  omega
theorem cut_len {n : Nd} (h : OneFacts n) : (cutL n.f7).length = manyB n.f7.size := by
  have h1 := entryB_length h
  unfold entryB at h1
  rw [List.length_append, List.length_cons] at h1
  omega
/-- Of a block of a node's bytes: it is the one that is cut. -/
theorem data_block (t : List Nd) (hone : ∀ x ∈ t, oneB x = true) {i k : Nat} (hk : k < t.length) (h1 : (bodyB (t.take k)).length ≤ i) (h2 : i < (bodyB (t.take (k + 1))).length) (j : Nat) (hj : i + manyB t[k].f7.size = (bodyB (t.take (k + 1))).length + j) :
    j < (cutL t[k].f7).length ∧ (bodyB t ++ zeroB).getD i [] = (cutL t[k].f7).getD j [] := by
  have hf := oneB_facts (hone _ (List.getElem_mem hk))
  have hc := cut_len hf
  have hl := entryB_length hf
  have hs := starts_step t hk
  refine ⟨by omega, ?_⟩
  rw [bodyB_split t hk]
  rw [List.getD_eq_getElem?_getD, List.getD_eq_getElem?_getD, List.append_assoc, List.append_assoc, List.getElem?_append_right h1, List.getElem?_append_left (by omega)]
  unfold entryB
  rw [List.getElem?_append_right (by omega), show ∀ (x : List Int) (r : List (List Int)), x :: r = [x] ++ r from fun _ _ => rfl, List.getElem?_append_right (by rw [List.length_singleton]; omega), List.length_singleton]
  rw [show i - (bodyB (t.take k)).length - (aheadB t[k].f0 t[k].f1).length - 1 = j by omega]

end Go.Proofs.Ytlecnodlnkanaaa.X
