import Derived.Test.YtpedagpcblnnhaaGreatXK
import Derived.Test.YtpedagpcblnnhaaGreatXGblock
import Derived.Test.YtpedagpcblnnhaaGreatXGentry
import Derived.Test.YtpedagpcblnnhaaGreatXGslices
import Derived.Test.YtpedagpcblnnhaaGreatXGtree
import Derived.Test.YtpedagpcblnnhaaGreatYAll
import Derived.Test.YtpedagpcblnnhaaGreatYIterR
import Derived.Test.YtpedagpcblnnhaaGreatP02p
import Derived.Test.YtpedagpcblnnhaaGreatP04g
import Derived.Test.YtpedagpcblnnhaaGreatP10a
import Derived.Test.YtpedagpcblnnhaaGreatPGA
import Derived.Test.YtpedagpcblnnhaaGreatPGE
import Derived.Deep.RegionHeld3
import Derived.Laws.EntriesVeiled
import Derived.RangeFuncBox
import Derived.WalkSpells
namespace Go.Proofs.YtpedagpcblnnhaaGreat.X
open Go.RowKit Go.Proofs.YtpedagpcblnnhaaGreatW.PrintWords Go.Proofs.YtpedagpcblnnhaaGreatW.PrintLast Go.Proofs.YtpedagpcblnnhaaGreatW.PrintMore
attribute [local go_sem] max2_int min2_int max_two min_two
set_option linter.unusedVariables false
set_option linter.unusedSimpArgs false
section
open Go.Proofs.YtpedagpcblnnhaaGreatY Go.Shelf
attribute [local go_sem] Oper.semAt_some
theorem stream_entries.at_ (A : Option Addr) (n c : Nat) (w : World) :
    Calls Tryz.prog 25 #[.slice A n c] w fun e w' => e = .returned (.func (.func 32) #[] #[.pointer (some ⟨w.heap.size, 0, none⟩)]) ∧ w.alloc (.cells #[.slice A n c] 27) = w' := by
  go_enter Tryz.func25, Tryz.ntmps25
  go_wp2
  go_ret
  exact ⟨rfl, rfl⟩
abbrev kNode : Kd Nd := k41
abbrev zNode : Nd := z41
abbrev Handed := Nat × Option Addr × Nat × Nat
def handV (y : Handed) : Array Value := #[.int .i64 (y.1 : Int), .slice y.2.1 y.2.2.1 y.2.2.2]
def HandIs (z : Nat) (x : Nat × List (List Int)) (y : Handed) (W : World) : Prop := y.1 = x.1 ∧ y.2.2.1 = x.2.length ∧ Kd.R kRow 43 W z (fun _ => True) (.slice y.2.1 y.2.2.1 y.2.2.2) x.2
def handL (t : List Nd) : List (Nat × List (List Int)) := (List.range t.length).map fun k => (k, entryB (t.getD k zNode))
theorem handL_length (t : List Nd) : (handL t).length = t.length := by unfold handL; rw [List.length_map, List.length_range]
theorem handL_get (t : List Nd) {k : Nat} (h : k < t.length) : (handL t)[k]'(by rw [handL_length]; exact h) = (k, entryB t[k]) := by
  unfold handL
  rw [List.getElem_map, List.getElem_range, List.getD_eq_getElem?_getD, List.getElem?_eq_getElem h]
  rfl
theorem handL_split (t : List Nd) {k : Nat} (h : k < t.length) : handL t = (handL t).take k ++ (k, entryB t[k]) :: (handL t).drop (k + 1) := by
  rw [← handL_get t h, ← List.drop_eq_getElem_cons (by rw [handL_length]; exact h)]
  exact (List.take_append_drop k _).symm
theorem handL_take (t : List Nd) {k : Nat} (h : k < t.length) : (handL t).take (k + 1) = (handL t).take k ++ [(k, entryB t[k])] := by
  rw [List.take_succ_eq_append_getElem (by rw [handL_length]; exact h), handL_get t h]
theorem nodes_keep {w w' : World} {A : Option Addr} {n : Nat} {t : List Nd} (h : Kd.C kNode w A n t) (hk : ∀ ad, A = some ad → 0 < n → w'.heap[ad.block]? = w.heap[ad.block]?) : Kd.C kNode w' A n t := by
  obtain ⟨h1, h2, h3⟩ := h
  refine ⟨h1, h2, fun hp => ?_⟩
  obtain ⟨ad, hA, hc⟩ := h3 hp
  refine ⟨ad, hA, fun j p hj => ?_⟩
  obtain ⟨cs, hl, hK, hcell⟩ := hc j p hj
  refine ⟨cs, hl, by rw [k41_open hK]; exact k41_mk _ _, fun i u hu => ?_⟩
  have h4 := hcell i u hu
  rw [← h4]
  have hb : (ad.add (j * kNode.sz + i)).block = ad.block := add_block _ _
  have h5 := hk ad hA hp
  unfold World.cell?
  rw [hb, h5]
theorem nodes_lt {w : World} {ad : Addr} {n : Nat} {t : List Nd} (h : Kd.C kNode w (some ad) n t) (hp : 0 < n) : ad.block < w.heap.size := by
  obtain ⟨h1, h2, h3⟩ := h
  obtain ⟨ad', hA, hc⟩ := h3 hp
  cases hA
  obtain ⟨cs, hl, hK, hcell⟩ := hc 0 (t[0]'(by omega)) (List.getElem?_eq_getElem _)
  have h4 := hcell 0 _ (by rw [k41_open hK]; rfl)
  have h5 := World.block_lt_of_cell? w _ h4
  rwa [add_block] at h5
theorem node_cells {w : World} {A : Option Addr} {n : Nat} {t : List Nd} (h : Kd.C kNode w A n t) {i : Nat} (hi : i < n) (x : Nd) (hx : t[i]? = some x) : ∃ ad, A = some ad ∧ w.cell? (ad.add (i * 8)) = some (.string x.f0) ∧ w.cell? ⟨(ad.add (i * 8)).block, (ad.add (i * 8)).off + 1, none⟩ = some (.string x.f1) ∧ w.cell? ⟨(ad.add (i * 8)).block, (ad.add (i * 8)).off + 2, none⟩ = some (.int .u8 x.f2) ∧ w.cell? ⟨(ad.add (i * 8)).block, (ad.add (i * 8)).off + 3, none⟩ = some (.int .i64 x.f3) ∧ w.cell? ⟨(ad.add (i * 8)).block, (ad.add (i * 8)).off + 4, none⟩ = some (.int .i64 x.f4) ∧ w.cell? ⟨(ad.add (i * 8)).block, (ad.add (i * 8)).off + 5, none⟩ = some (.int .i64 x.f5) ∧ w.cell? ⟨(ad.add (i * 8)).block, (ad.add (i * 8)).off + 6, none⟩ = some (.int .i64 x.f6) ∧ w.cell? ⟨(ad.add (i * 8)).block, (ad.add (i * 8)).off + 7, none⟩ = some (.string x.f7) := by
  have h1 := at_T41 h (i : Int) (by omega) (by omega)
  have e : rd_T41 t (i : Int) = x := by unfold rd_T41; rw [Int.toNat_natCast, List.getD_eq_getElem?_getD, hx]; rfl
  rw [e, Int.toNat_natCast] at h1
  exact h1
def entryN (A : Option Addr) (n : Nat) (k : Nat) : Prop := ∃ ad, A = some ad ∧ 0 < n ∧ k = ad.block
set_option maxRecDepth 100000 in
set_option maxHeartbeats 1600000 in
theorem stream_entries.yields (n : Nat) (hn : 1 ≤ n) (t : List Nd) (ht : ∀ x ∈ t, oneB x = true) (km : Nat) (hmay : tree_May.f km t = some true) (A : Option Addr) (c b : Nat) (w : World) (hb : w.heap[b]? = some (.cells #[.slice A t.length c] 27 (0, 0))) (hC : Kd.C kNode w A t.length t) (hc : t.length ≤ c) (z : Nat) :
    HandsOnR Fence.wide n Tryz.prog 32 #[.pointer (some ⟨b, 0, none⟩)] handV (HandIs z) (handL t) (fun k => k = b) (entryN A t.length) z w := by
  intro l J Jx W hT hz hJ hJx hY h0
  have hbW : W.heap[b]? = some (.cells #[.slice A t.length c] 27 (0, 0)) := (hT.block b (blk_lt hb) (fun h => h)).trans hb
  have hCW : Kd.C kNode W A t.length t := nodes_keep hC (fun ad e hp => hT.block _ (nodes_lt (e ▸ hC) hp) (fun h => h))
  have hcell := (blk_cell hbW 0).trans (show _ = some (Value.slice A t.length c) from rfl)
  have hm : t.length ≤ 9223372036854775807 := hC.2.1
  have HBW := Aside0.mk hbW
  have HCW := Aside0.mk hCW
  have HTO := Aside0.mk ht
  clear hT hb hC hbW hCW ht
  refine callsIn_of_wp Tryz.func32 rfl trivial ?_ rfl
  simp only [Tryz.ntmps32, List.size_toArray, List.length_cons, List.length_nil, Nat.reduceAdd, Nat.reduceSub, Array.replicate_succ, Array.replicate_zero, List.push_toArray, List.append_toArray, List.nil_append, List.cons_append]
  gi_wp2
  refine ⟨trivial, ?_⟩
  refine (callsIn_wide.2 (tree_May.calls km A c t true W HCW.out hc hmay)).mono ?_
  rintro e W1 ⟨rfl, hb1⟩
  have hcell1 := pw_cell_below hb1 hcell
  have HBX1 := Aside0.mk (blk_below HBW.out hb1)
  have HC1 := Aside0.mk (Kd.C_below HCW.out hb1)
  have HJ1 := Aside0.mk (hJ _ _ _ h0 (Turn.of_below hb1))
  have hz1 : z ≤ W1.heap.size := Nat.le_trans hz hb1.size
  clear hcell hb1 h0 hz
  gi_wp2
  gi_loopw [3, 4, 5, 6, 12] (fun v3 v4 v5 v6 v12 wr => ∃ k : Nat, v12 = .int .i64 k ∧ k ≤ t.length ∧ Aside0 (J ((handL t).take k) wr) ∧ Aside0 (wr.heap[b]? = some (.cells #[.slice A t.length c] 27 (0, 0))) ∧ Aside0 (Kd.C kNode wr A t.length t) ∧ z ≤ wr.heap.size) (fun _ _ _ _ v12 _ => t.length - (intOf v12).toNat)
  case atStart => exact ⟨0, rfl, Nat.zero_le _, HJ1, HBX1, HC1, hz1⟩
  case round =>
    obtain ⟨k, rfl, hk, HJ, HX, HC, hzr⟩ := hrel
    clear HJ1 HBX1 HC1 hcell1 hz1
    by_cases hlt : k < t.length
    · have hsp := handL_split t hlt
      have htk := handL_take t hlt
      have hone := HTO.out t[k] (List.getElem_mem hlt)
      obtain ⟨ad, rfl, k0, k1, k2, k3, k4, k5, k6, k7⟩ := node_cells HC.out hlt t[k] (List.getElem?_eq_getElem hlt)
      have hp := entryPut_yes hone
      have hlt2 : (k : Int) < (t.length : Int) := by omega
      have hk0 : (0 : Int) ≤ (k : Int) := by omega
      generalize t[k] = x at *
      obtain ⟨f0, f1, f2, f3, f4, f5, f6, f7⟩ := x
      simp only at k0 k1 k2 k3 k4 k5 k6 k7 hp
      have HSP := Aside0.mk hsp
      have HTK := Aside0.mk htk
      have hput := entry_Put.calls f0 f1 f2 f3 f4 f5 f6 f7 _ _ (wr.alloc (.cells #[.string f0, .string f1, .int .u8 f2, .int .i64 f3, .int .i64 f4, .int .i64 f5, .int .i64 f6, .string f7] 41)) hp
      have HBN := Aside0.mk (below_alloc (Below.refl wr.heap.size wr) (.cells #[.string f0, .string f1, .int .u8 f2, .int .i64 f3, .int .i64 f4, .int .i64 f5, .int .i64 f6, .string f7] 41))
      have HJal := Aside0.mk (hJ _ _ _ HJ.out (Turn.alloc wr (.cells #[.string f0, .string f1, .int .u8 f2, .int .i64 f3, .int .i64 f4, .int .i64 f5, .int .i64 f6, .string f7] 41)))
      have hsz1 := World.size_alloc wr (.cells #[.string f0, .string f1, .int .u8 f2, .int .i64 f3, .int .i64 f4, .int .i64 f5, .int .i64 f6, .string f7] 41)
      have hXal : (wr.alloc (.cells #[.string f0, .string f1, .int .u8 f2, .int .i64 f3, .int .i64 f4, .int .i64 f5, .int .i64 f6, .string f7] 41)).heap[b]? = some (.cells #[.slice (some ad) t.length c] 27 (0, 0)) := blk_alloc HX.out _
      have HCal := Aside0.mk (Kd.C_below HC.out HBN.out)
      have HXB := Aside0.mk (blk_cell hXal 0)
      have hxc := (blk_cell HX.out 0).trans (show _ = some (Value.slice (some ad) t.length c) from rfl)
      have HXAL := Aside0.mk hXal
      have HPUT := Aside0.mk hput
      have HSZ := Aside0.mk hsz1
      have hzal : z ≤ (wr.alloc (.cells #[.string f0, .string f1, .int .u8 f2, .int .i64 f3, .int .i64 f4, .int .i64 f5, .int .i64 f6, .string f7] 41)).heap.size := by rw [hsz1]; omega
      have HZAL := Aside0.mk hzal
      clear hsp htk hone hp hput hsz1 hXal hzal
      gi_wp2
      refine ⟨trivial, ?_⟩
      refine (callsIn_wide.2 HPUT.out).mono ?_
      rintro e W3 ⟨v, rfl, hR, hb3⟩
      obtain ⟨A', c', rfl⟩ := Kd.R_slice hR
      have HX3 := Aside0.mk (blk_below HXAL.out hb3)
      have HC3 := Aside0.mk (Kd.C_below HCal.out hb3)
      have HJ3 := Aside0.mk (hJ _ _ _ HJal.out (Turn.of_below hb3))
      have HSZ3 := Aside0.mk (Nat.le_trans HZAL.out hb3.size)
      have hE : HandIs z (k, entryB ⟨f0, f1, f2, f3, f4, f5, f6, f7⟩) (k, A', (entryB ⟨f0, f1, f2, f3, f4, f5, f6, f7⟩).length, c') W3 := ⟨rfl, rfl, Kd.R_lower hR HZAL.out⟩
      obtain ⟨fn, tmps, assign, body, hy, hRR⟩ := hY _ (k, entryB ⟨f0, f1, f2, f3, f4, f5, f6, f7⟩) (k, A', (entryB ⟨f0, f1, f2, f3, f4, f5, f6, f7⟩).length, c') _ W3 HSP.out HJ3.out hE
      replace hy : (Instr.yield l #[.int .i64 (k : Int), .slice A' (entryB ⟨f0, f1, f2, f3, f4, f5, f6, f7⟩).length c']).run Tryz.prog W3 = _ := hy
      clear hR hb3 hE
      gi_wp2
      refine hRR.mono ?_
      rintro e W4 (⟨rfl, hJ4, hsz4, hk4⟩ | ⟨rfl, hJx4⟩)
      · have HX4 := Aside0.mk ((hk4 b (.inl rfl)).trans HX3.out)
        have HC4 := Aside0.mk (nodes_keep HC3.out (fun ad' e hp => hk4 _ (.inr ⟨ad', e, hp, rfl⟩)))
        have HJ4 := Aside0.mk hJ4
        have HSZ4 := Aside0.mk (Nat.le_trans HSZ3.out hsz4)
        clear hJ4 hsz4 hk4
        gi_wp2
        go_roundw
        case rel => exact ⟨k + 1, by simp, by omega, Aside0.mk (by rw [HTK.out]; exact HJ4.out), HX4, HC4, HSZ4.out⟩
        case measure => simp [intOf]; omega
      · gi_wp2
        refine bodyPost_ret (results_none rfl _ _ _) rfl ?_
        exact ⟨⟨_, rfl⟩, .inr hJx4⟩
    · have hlt2 : ¬ ((k : Int) < (t.length : Int)) := by omega
      have hk2 : k = t.length := by omega
      have HJe := HJ.out
      rw [hk2, ← handL_length t, List.take_length] at HJe
      gi_wp2
      go_end0
      exact ⟨⟨_, rfl⟩, .inl HJe⟩
end
section
open Go.Proofs.YtpedagpcblnnhaaGreatY Go.Shelf
attribute [local go_sem] Oper.semAt_some
section
variable {F : Fence} {nF : Nat} {P : Program} {ops : Array Oper} {rest : List Oper} {o : Oper} {a : Act} {Q : Exit → Act → World → Prop} {α : Type}
theorem RIn_append_rows (d : Kd α) {W : World} (base base' : Nat) (hgd : o.guard = none) (s x : Operand) (t e e' : TypeId) (z : Value) (bytes : Nat)
    (ho : o.op = .call { callee := .builtin .append, args := #[s, x], argTypes := #[t, t] })
    (ht : P.underlying t = some (.slice e)) (hinfo : (P.info? e).map (fun i => (i.zero, i.size, i.bytes)) = some (some z, d.sz, bytes)) (hz : z.cells.size = d.sz) (hs0 : 0 < d.sz) (hb0 : 0 < bytes) (hE : ∀ q ∈ d.E, q ≠ e)
    (v : Value) (xs ys : List α) (A : Option Addr) (c : Nat) (hs : a.eval s = v) (hx : a.eval x = .slice A ys.length c) (hpos : 0 < ys.length)
    (HO : d.R e W base (fun _ => True) v xs) (HX : d.R e' W base' (fun _ => True) (.slice A ys.length c) ys) (hbb : base ≤ base') (hbase : base ≤ W.heap.size) (hl : (xs.length + ys.length) * bytes ≤ 140737488355328)
    (h : ∀ v1 w1, d.R e w1 base (fun _ => True) v1 (xs ++ ys) → W.grownBy w1 v.ownBlock → wpListIn F nF P ops Q rest (a.put o.dst v1) w1) :
    wpListIn F nF P ops Q (o :: rest) a W := by
  obtain ⟨i0, hi, hzz⟩ := Option.map_eq_some_iff.1 hinfo
  simp only [Prod.mk.injEq] at hzz
  obtain ⟨hz0, hz1, hz2⟩ := hzz
  have hlen : xs.length + ys.length ≤ 140737488355328 := Nat.le_trans (Nat.le_mul_of_pos_right _ hb0) hl
  obtain ⟨_, inner, hown, hr⟩ := HO
  obtain ⟨_, news, hownX, hrX⟩ := HX
  obtain ⟨ad, rfl⟩ : ∃ g : Nat, A = some ⟨g, 0, none⟩ := by
    rcases hownX.2 with ⟨e, h0⟩ | ⟨g, cap, cur, e, _⟩
    · omega
    · injection e with e1 e2 e3
      exact ⟨g, e1⟩
  have hone : ∀ u ∈ news, u.oneCell' = true := by
    intro u hu
    obtain ⟨q, hq, rfl⟩ := List.mem_iff_getElem.1 hu
    have hql : q / d.sz < ys.length := by
      rw [Nat.div_lt_iff_lt_mul hs0, ← hrX.1]
      exact hq
    refine d.K_one (d.K_of_M (hrX.2 (q / d.sz) _ (List.getElem?_eq_getElem hql))) _ ?_
    rw [List.mem_iff_getElem?]
    exact ⟨q % d.sz, by rw [List.getElem?_take, if_pos (Nat.mod_lt _ hs0), List.getElem?_drop, Nat.mul_comm, Nat.div_add_mod, List.getElem?_eq_getElem hq]⟩
  refine Go.wpListIn_append_own_at (w := W) hgd s x t ho base e i0 z d.sz bytes ht hi hz0 hz1 hz2 hz hs0 v xs.length inner hs hown ⟨ad, 0, none⟩ ys.length c news hx (by rw [hrX.1])
    (hownX.cells rfl) hone (by simp only [maxLen]; omega) hl hbase ?_
  intro v1 w1 hown1 hg _ hat
  have hne : ∀ k, some k ≠ v.ownBlock → k < W.heap.size → some k ≠ v1.ownBlock := by
    intro k hk hlt
    rcases hat with hat | hat
    · rw [hat]; exact hk
    · rw [hat]
      intro he
      injection he with he
      omega
  have step : ∀ {q : α} {c : List Value} {o : Nat → Prop}, d.M W base o q c → (∀ k, o k → some k ≠ v.ownBlock) → d.M w1 base (fun k => True ∧ some k ≠ v1.ownBlock) q c := by
    intro q c o hq ho
    have h1 := d.M_move (w1 := w1) (fun k hk => hg.block k hk.2.2.1 (ho k hk.1)) (d.M_bound hq)
    exact d.M_mono (fun k hk => ⟨trivial, hne k (ho k hk.1) hk.2.2.1⟩) h1
  have hX2 : Reps (d.M w1 base (fun k => True ∧ some k ≠ v1.ownBlock)) d.sz ys news := hrX.imp_ (fun p c hp => by
    have h1 := d.M_bound (d.M_lower hbb hp)
    refine step h1 (fun k hk e1 => ?_)
    obtain ⟨_, _, _, q, hq, cells, hc⟩ := hk
    obtain ⟨cells', hc'⟩ := own_typed hown k e1.symm
    rw [hc'] at hc
    cases hc
    exact hE _ hq rfl)
  refine h v1 w1 ⟨fun _ _ => trivial, inner ++ news, by rw [List.length_append]; exact hown1, Kd.reps_append (hr.imp_ (fun _ _ hq => step hq (fun _ hk => hk.2))) hX2⟩ hg
end
def calm (Q : Exit → Act → World → Prop) : Exit → Act → World → Prop
  | .panic _, _, _ => False
  | e, a, w => Q e a w
theorem region_calm {P : Program} {c : Code} {Q : Exit → Act → World → Prop} {a : Act} {w : World} (h : c.wp P (calm Q) a w) : c.wp P Q a w :=
  wp_mono h fun e a w h => by cases e <;> first | exact h | exact h.elim
theorem kRow_E : ∀ q ∈ kRow.E, q ≠ 43 := by
  intro q hq
  have h_ : q = 5 := by simpa [kRow, Kd.slice, Kd.int, Kd.scalar] using hq
  subst h_
  decide
theorem zeros_two : block_Zeros.f 5 2 = some zeroB := by
  have h1 : wrap64 (0 + 1) = 1 := wrap_id (by omega) (by omega)
  have h2 : wrap64 (1 + 1) = 2 := wrap_id (by omega) (by omega)
  unfold block_Zeros.f
  rw [if_neg (by decide), show decide ((2 : Int) > 400) = false by decide, block_Zeros.j0, if_neg (by decide), block_Zeros.l0, if_pos (by decide), if_pos (by decide), if_pos (by decide), h1, block_Zeros.l0, if_pos (by decide), if_pos (by decide), if_pos (by rw [List.nil_append, List.length_singleton]; decide), h2, block_Zeros.l0, if_neg (by decide)]
  rfl
def bodyH (l : List (Nat × List (List Int))) : List (List Int) := (l.map Prod.snd).flatten
theorem bodyH_snoc (l : List (Nat × List (List Int))) (x : Nat × List (List Int)) : bodyH (l ++ [x]) = bodyH l ++ x.2 := by
  unfold bodyH
  rw [List.map_append, List.flatten_append]
  simp
theorem bodyH_take (t : List Nd) : ∀ k, k ≤ t.length → bodyH ((handL t).take k) = bodyB (t.take k)
  | 0, _ => by simp [bodyH, bodyB]
  | k + 1, h => by
    rw [handL_take t (by omega), bodyH_snoc, bodyH_take t k (by omega), List.take_succ_eq_append_getElem (by omega), bodyB_snoc]
theorem bodyH_all (t : List Nd) : bodyH (handL t) = bodyB t := by
  have h := bodyH_take t t.length (Nat.le_refl _)
  rw [← handL_length t, List.take_length, handL_length, List.take_length] at h
  exact h
theorem handL_mem {t : List Nd} {pre : List (Nat × List (List Int))} {x : Nat × List (List Int)} {post : List (Nat × List (List Int))} (h : handL t = pre ++ x :: post) : pre.length < t.length ∧ x.1 = pre.length ∧ ∃ n ∈ t, x.2 = entryB n ∧ n = t.getD pre.length zNode ∧ bodyH pre = bodyB (t.take pre.length) := by
  have hl : pre.length < t.length := by
    have := congrArg List.length h
    rw [handL_length, List.length_append, List.length_cons] at this
    omega
  have hx : (handL t)[pre.length]? = some x := by rw [h]; simp
  have hx2 : some (pre.length, entryB t[pre.length]) = some x := by
    rw [← hx, List.getElem?_eq_getElem (by rw [handL_length]; exact hl), handL_get t hl]
  cases hx2
  refine ⟨hl, rfl, t[pre.length], List.getElem_mem hl, rfl, by rw [List.getD_eq_getElem?_getD, List.getElem?_eq_getElem hl]; rfl, ?_⟩
  rw [← bodyH_take t pre.length (by omega), h, List.take_left']
  rfl
theorem entryB_pos {n : Nd} (h : OneFacts n) : 1 ≤ (entryB n).length := by
  rw [entryB_len2 h]
  omega
theorem bodyH_le (pre : List (Nat × List (List Int))) (x : Nat × List (List Int)) (post : List (Nat × List (List Int))) : (bodyH pre).length + x.2.length ≤ (bodyH (pre ++ x :: post)).length := by
  unfold bodyH
  rw [List.map_append, List.flatten_append, List.map_cons, List.flatten_cons, List.length_append, List.length_append]
  omega
set_option maxRecDepth 100000 in
set_option maxHeartbeats 3200000 in
theorem stream_All.at_ (t : List Nd) (km : Nat) (r : Bool) (hmay : tree_May.f km t = some r) (hfacts : r = true → t.length ≤ 20 ∧ ∀ x ∈ t, oneB x = true) (A : Option Addr) (c : Nat) (w : World) (hC : Kd.C kNode w A t.length t) (hc : t.length ≤ c) :
    Calls Tryz.prog 19 #[.slice A t.length c] w fun e w' => ∃ v : Value, e = .returned (.tuple #[v, .bool r]) ∧ Kd.R kRow 43 w' w.heap.size (fun _ => True) v (if r = true then bodyB t ++ zeroB else []) ∧ Below w.heap.size w w' := by
  have hmw := tree_May.calls km A c t r w hC hc hmay
  generalize hout : (if r = true then bodyB t ++ zeroB else []) = out
  have HOUT := Aside0.mk hout
  clear hout
  refine (callsIn_wide (n := 10)).1 ?_
  refine callsIn_of_wp_marks Tryz.func19 rfl trivial ?_ rfl
  simp only [Tryz.ntmps19, List.size_toArray, List.length_cons, List.length_nil, Nat.reduceAdd, Nat.reduceSub, Array.replicate_succ, Array.replicate_zero, List.push_toArray, List.append_toArray, List.nil_append, List.cons_append]
  gi_wp2_with (fail)
  refine ⟨trivial, ?_⟩
  refine (callsIn_wide.2 hmw).mono ?_
  rintro e w1 ⟨rfl, hb1⟩
  have HC1 := Aside0.mk (Kd.C_below hC hb1)
  have HB1 := Aside0.mk hb1
  have HF := Aside0.mk hfacts
  have HM := Aside0.mk hmay
  clear hmw hC hb1 hfacts hmay
  cases r with
  | false =>
    gi_wp2_with (fail)
    refine ⟨_, results_list (rs := [.tmp 2, .tmp 3]) rfl (by simp) (.tmp (.tmp .nil)), _, rfl, by rw [← HOUT.out]; exact Kd.R_nil _ _ _ _ _, HB1.out⟩
  | true =>
    obtain ⟨ht20, hone⟩ := HF.out rfl
    have hlt : (bodyH (handL t)).length ≤ 260 := by
      rw [bodyH_all]
      have := bodyB_few t (fun n hn => oneB_facts (hone n hn))
      omega
    have hpos : ∀ n ∈ t, 1 ≤ (entryB n).length := fun n hn => entryB_pos (oneB_facts (hone n hn))
    have HL := Aside0.mk hlt
    have HO := Aside0.mk hone
    have HP := Aside0.mk hpos
    have hout : bodyB t ++ zeroB = out := HOUT.out
    clear HOUT
    have HOUT := Aside0.mk hout
    clear ht20 hone hlt hpos HF hout
    gi_wp2_with (fail)
    refine ⟨trivial, ?_⟩
    refine (callsIn_wide.2 (stream_entries.at_ _ _ _ _)).mono ?_
    rintro e w2 ⟨rfl, rfl⟩
    gi_wp2_with (fail)
    obtain ⟨W0, hW0⟩ : ∃ W0, ((w1.alloc (.cells #[.slice none 0 0] 23)).alloc (.cells #[.slice A t.length c] 27)) = W0 := ⟨_, rfl⟩
    have hz : W0.heap.size = w1.heap.size + 2 := by rw [← hW0]; simp
    have hBW : Below w1.heap.size w1 W0 := by rw [← hW0]; exact ((Below.refl _ w1).alloc (Nat.le_refl _) _).alloc (by simp) _
    have hc0 : W0.heap[w1.heap.size]? = some (.cells #[.slice none 0 0] 23 (0, 0)) := by
      rw [← hW0]; exact (Below.heap_alloc _ _ _ (by simp)).trans (World.alloc_heap_new w1 _)
    have hc2 : W0.heap[w1.heap.size + 1]? = some (.cells #[.slice A t.length c] 27 (0, 0)) := by
      rw [← hW0]; have := World.alloc_heap_new (w1.alloc (.cells #[.slice none 0 0] 23)) (.cells #[.slice A t.length c] 27 (0, 0)); rwa [World.size_alloc] at this
    have hCW := Kd.C_below HC1.out hBW
    rw [hW0]
    clear hW0
    have HZ := Aside0.mk hz
    have HBW := Aside0.mk hBW
    clear hz hBW
    refine range_listR rfl (by omega) (gf := 32) (lb := #[.pointer (some ⟨w1.heap.size + 1, 0, none⟩)]) rfl trivial (enters_of Tryz.func32 (by kernel_rfl) rfl)
      (S := fun k => k = w1.heap.size + 1) (N := entryN A t.length) ?hSN (stream_entries.yields 9 (by omega) t HO.out km HM.out A c (w1.heap.size + 1) W0 hc2 hCW hc (W0.heap.size + 2)) (fun _ => rfl) ?hE
      (fun pre W => ∃ v, W.heap[w1.heap.size]? = some (.cells #[v] 23 (0, 0)) ∧ Kd.R kRow 43 W (W0.heap.size + 2) (fun _ => True) v (bodyH pre) ∧ Below w1.heap.size w1 W)
      (fun c W => False)
      ?hI ?hIx ⟨_, hc0, Kd.R_nil _ _ _ _ _, HBW.out⟩
      (fun y => { tmps := #[.slice A t.length c, undef, .slice none 0 0, .bool false, .pointer (some ⟨w1.heap.size, 0, none⟩), undef, .slice y.2.1 y.2.2.1 y.2.2.2, .slice A t.length c, .bool true, .bool false, .slice A t.length c, .func (.func 32) #[] #[.pointer (some ⟨w1.heap.size + 1, 0, none⟩)], .int .i64 y.1, .slice y.2.1 y.2.2.1 y.2.2.2, undef, undef, undef, undef, undef, undef, undef], defers := [] }) ?assign ?body ?done ?stop
    case hSN =>
      have hZ := HZ.out
      rintro k (rfl | ⟨ad, rfl, hp, rfl⟩)
      · omega
      · exact nodes_lt hCW hp
    case hE =>
      rintro x y B B' ⟨h1, h2, h3⟩ ht
      have hZ := HZ.out
      exact ⟨h1, h2, Kd.R_mono (Kd.R_move (Kd.R_bound h3) (fun k hk => ht.block k hk.2.2.1 (by have := hk.2.1; omega))) (fun _ hk => hk.1)⟩
    case hI =>
      rintro pre B B' ⟨v, h1, h2, h4⟩ ht
      have hA := h4.size
      have hZ := HZ.out
      refine ⟨v, (ht.block _ (blk_lt h1) (by omega)).trans h1, ?_, h4.trans (ht.below (fun k hk => by omega) hA)⟩
      exact Kd.R_mono (Kd.R_move (Kd.R_bound h2) (fun k hk => ht.block k hk.2.2.1 (by have := hk.2.1; omega))) (fun _ hk => hk.1)
    case hIx => rintro c A A' h; exact h.elim
    case assign =>
      intro l x W K hK
      unfold handV
      gi_wp2
      exact hK
    case body =>
      rintro l pre x y post W hx ⟨v, h1, h2, h4⟩ ⟨e1, e2, hR⟩ hsz
      obtain ⟨yk, yA, yn, yc⟩ := y
      obtain ⟨xk, xs⟩ := x
      simp only at e1 e2 hR ⊢
      subst e2
      have HX := Aside0.mk hx
      have hZ := HZ.out
      have hle := bodyH_le pre (xk, xs) post
      rw [← hx] at hle
      simp only at hle
      have hpl : (bodyH pre).length + xs.length ≤ 260 := by have := HL.out; omega
      have hxp : 0 < xs.length := by
        obtain ⟨_, _, n, hn, hxn, _⟩ := handL_mem hx
        have := HP.out n hn
        simp only at hxn
        rw [hxn]; omega
      have e3 := blk_cell h1 0
      simp only [List.size_toArray, List.length_cons, List.length_nil, Nat.zero_add, Nat.lt_one_iff, getElem?_pos, List.getElem_toArray, List.getElem_cons_zero] at e3
      have e4 := blk_frozen h1 0
      have H1 := Aside0.mk h1
      have H2 := Aside0.mk h2
      have H4 := Aside0.mk h4
      have HR := Aside0.mk hR
      have HPL := Aside0.mk hpl
      have HXP := Aside0.mk hxp
      have hltw : w1.heap.size < W.heap.size := blk_lt h1
      clear hx h1 h2 h4 hR hle hpl hxp e1
      gi_wp2_with (gi_at_builtin; go_must (refine RIn_append_rows kRow (W := W) (W0.heap.size + 2) (W0.heap.size + 2) rfl (.tmp 14) (.tmp 15) 23 43 43 (.slice none 0 0) 24 rfl Tryz.underlying23 info43 rfl (by decide) (by decide) kRow_E v (bodyH pre) xs yA yc rfl rfl HXP.out H2.out HR.out (Nat.le_refl _) hsz (by have := HPL.out; omega) ?_; intro v1 w1_ hR1 hg1; obtain ⟨A1, c1, rfl⟩ := Kd.R_slice hR1; have hbx : w1_.heap[w1.heap.size]? = some (.cells #[v] 23 (0, 0)) := (hg1.block _ hltw (fun e => by have := Kd.R_base H2.out _ e.symm; have := HZ.out; omega)).trans H1.out; have hbc : w1_.cell? ⟨w1.heap.size, 0, none⟩ = some v := (by have := blk_cell hbx 0; simpa using this); have hbf := blk_frozen hbx 0))
      have hZ := HZ.out
      have e5 : (bodyH pre ++ xs).length = (bodyH pre).length + xs.length := by simp
      rw [e5] at hR1
      have hst : ∀ k, k < W.heap.size → k ≠ w1.heap.size → (∀ j, v.ownBlock = some j → k ≠ j) → (w1_.setCell ⟨w1.heap.size, 0, none⟩ (.slice A1 ((bodyH pre).length + xs.length) c1)).heap[k]? = W.heap[k]? := fun k hk hne hj =>
        (Below.heap_setCell _ _ _ _ (by simpa using hne)).trans (hg1.block k hk (fun e => hj k e.symm rfl))
      refine ⟨⟨?_, fun k hk => ?_⟩, .slice A1 ((bodyH pre).length + xs.length) c1, ?_, ?_, ?_⟩
      · have := hg1.size; simp [World.setCell]; omega
      · have hkk : k < W0.heap.size + 2 ∧ k ≠ w1.heap.size := by
          rcases hk with (rfl | ⟨ad, rfl, hp, rfl⟩) | rfl | rfl
          · omega
          · have := nodes_lt HC1.out hp
            omega
          · omega
          · omega
        refine hst k (by omega) hkk.2 (fun j hj => ?_)
        have := Kd.R_base H2.out j hj
        omega
      · simpa using blk_set hbx 0 (.slice A1 ((bodyH pre).length + xs.length) c1)
      · rw [bodyH_snoc]
        exact Kd.R_mono (Kd.R_move (Kd.R_bound hR1) (fun k hk => Below.heap_setCell _ _ _ _ (by have := hk.2.1; simp only; omega))) (fun _ hk => hk.1)
      · have h5 : Below w1.heap.size w1 w1_ := H4.out.grown hg1 (by omega) (fun k e => by have := Kd.R_base H2.out k e; omega)
        exact h5.setCell (p := ⟨w1.heap.size, 0, none⟩) (Nat.le_refl _) _
    case done =>
      rintro W ⟨v, h1, h2, h4⟩ hD
      rw [bodyH_all] at h2
      have e3 := blk_cell h1 0
      simp only [List.size_toArray, List.length_cons, List.length_nil, Nat.zero_add, Nat.lt_one_iff, getElem?_pos, List.getElem_toArray, List.getElem_cons_zero] at e3
      have e4 := blk_frozen h1 0
      gi_wp2_with (fail)
      refine wpIn_wide.2 ?_
      refine region_calm ?_
      have hZ := HZ.out
      obtain ⟨A1, c1, rfl, hi1⟩ := InRow.of_R (Kd.R_drewN h2 1) (b := w.heap.size) (by have := HB1.out.size; omega)
      have HI1 := Aside0.mk hi1
      have HBd := Aside0.mk (below_drew1 (below_step HB1.out h4))
      have HXd := Aside0.mk (blk_drew h1)
      have HD := Aside0.mk hD
      have HTL : Aside0 (∀ (A1 A2 : Option Addr) (c1 c2 : Nat), totalL [(A1, c1, bodyB t), (A2, c2, zeroB)] ≤ 100000) := ⟨fun A1 A2 c1 c2 => by
        have := HL.out
        rw [bodyH_all] at this
        have h0 : zeroB.length = 2 := rfl
        simp only [totalL, List.map_cons, List.map_nil, List.sum_cons, List.sum_nil, h0]
        omega⟩
      clear h1 h2 h4 hD hi1 hZ
      refine start_ (n := 6) (S := fun w' => w'.cell? ⟨w1.heap.size, 0, none⟩ = some (.slice A1 (bodyB t).length c1)) (ds := []) #[false, false, false, false, false, false] (by kernel_rfl) rfl rfl ((blk_cell HXd.out 0).trans rfl) (fun hHeld => ?_)
      refine take_ (i := 0) (N := some 17) (v := ?_) (a' := ?_) #[true, false, false, false, false, false] rfl rfl (by kernel_rfl) (fun _ _ _ h => h) (Or.inl ⟨by rfl, ?_⟩) hHeld ?_ ?_
      rotate_left
      · rintro w' s0
        go_simp
        with_reducible rfl
      rotate_left
      · aput
        rfl
      refine one_ (i := 1) (N := some 18) #[true, true, false, false, false, false] rfl rfl (by kernel_rfl) (by decide) (fun K hK => ?_)
      refine goes_ Tryz.func27 (by kernel_rfl) rfl #[.int .i64 2] (by rfl) rfl rfl (by (try simp only [List.map_toArray, List.map_cons, List.map_nil]); first | done | rfl | (simp only [List.length_drop, List.length_take]; rfl)) ?_
      refine (block_Zeros.calls 5 2 zeroB _ zeros_two).mono ?_
      rintro e w3 ⟨v2, rfl, hR2, hb3⟩
      obtain ⟨A2, c2, rfl, HI2⟩ := InRow.of_R hR2 (b := w.heap.size) (by have := HBd.out.size; exact this)
      have HB3 := below_step HBd.out hb3
      have HI3 := HI1.out.below hb3
      have HX3 := blk_below HXd.out hb3
      refine ⟨_, rfl, ?_⟩
      refine hK.out _ _ ((blk_cell HX3 0).trans rfl) (fun hHeld => ?_)
      clear hK K
      refine norm_ (a' := ?_) ?_ ?_
      rotate_left
      · show Act.put _ (some 18) _ = _
        aput
        rfl
      refine one_ (i := 2) (N := some 19) #[true, true, true, false, false, false] rfl rfl (by kernel_rfl) (by decide) (fun K hK => ?_)
      go_simp
      have hbl := heap_alloc_new w3 (.cells #[.slice A1 (bodyB t).length c1, .slice A2 zeroB.length c2] 23)
      refine hK.out _ _ ((blk_cell (blk_alloc HX3 (.cells #[.slice A1 (bodyB t).length c1, .slice A2 zeroB.length c2] 23)) 0).trans rfl) (fun hHeld => ?_)
      clear hK K
      refine one_ (i := 3) (N := some 20) #[true, true, true, true, false, false] rfl rfl (by kernel_rfl) (by decide) (fun K hK => ?_)
      have hj := slices_Concat.at_ w.heap.size _ [(A1, c1, bodyB t), (A2, c2, zeroB)] _ hbl (by intro x hx; simp only [List.mem_cons, List.not_mem_nil, or_false] at hx; rcases hx with rfl | hx; exact (HI3.below (below_alloc (Below.refl _ _) _)); subst hx; exact (HI2.below (below_alloc (Below.refl _ _) _))) (HTL.out _ _ _ _) (by simp) (by have := HB3.size; simp at this ⊢; omega)
      refine goes_ Tryz.func26 (by kernel_rfl) rfl #[.slice (some ⟨w3.heap.size, 0, none⟩) 2 2] (by rfl) rfl rfl (by (try simp only [List.map_toArray, List.map_cons, List.map_nil]); first | done | rfl | (simp only [List.length_drop, List.length_take]; rfl)) ?_
      refine hj.mono ?_
      rintro e wz ⟨v, rfl, hR, hb⟩
      have HBz := Aside0.mk (below_step (below_alloc HB3 (.cells #[.slice A1 (bodyB t).length c1, .slice A2 zeroB.length c2] 23)) hb)
      have hXz := blk_below (blk_alloc HX3 (.cells #[.slice A1 (bodyB t).length c1, .slice A2 zeroB.length c2] 23)) hb
      have HDz := Aside0.mk (blk_below (blk_alloc (blk_below (blk_drew HD.out) hb3) (.cells #[.slice A1 (bodyB t).length c1, .slice A2 zeroB.length c2] 23)) hb)
      refine ⟨_, rfl, ?_⟩
      refine hK.out _ _ ((blk_cell hXz 0).trans rfl) (fun hHeld => ?_)
      clear hK K
      refine norm_ (a' := ?_) ?_ ?_
      rotate_left
      · show Act.put _ (some 20) _ = _
        aput
        rfl
      refine pure_ (i := 4) (N := some 2) (v := ?_) (a' := ?_) #[true, true, true, true, true, false] rfl rfl (by kernel_rfl) (fun _ _ _ h => h) (Or.inl ⟨by rfl, ?_⟩) ?_ ?_
      rotate_left
      · intro w'
        go_simp
        with_reducible rfl
      rotate_left
      · aput
        rfl
      refine pure_ (i := 5) (N := some 3) (v := ?_) (a' := ?_) #[true, true, true, true, true, true] rfl rfl (by kernel_rfl) (fun _ _ _ h => h) (Or.inl ⟨by rfl, ?_⟩) ?_ ?_
      rotate_left
      · intro w'
        go_simp
        with_reducible rfl
      rotate_left
      · aput
        rfl
      refine done_ (by kernel_rfl) ?_
      simp only [calm]
      gi_wp2_with (fail)
      refine ⟨by simp, .inl ⟨_, _, rfl, run_takeDeferred HDz.out, ?_⟩⟩
      refine ⟨_, results_list (rs := [.tmp 2, .tmp 3]) rfl (by simp) (.tmp (.tmp .nil)), v, rfl, ?_, ?_⟩
      · rw [← HOUT.out]
        have hR2 : Kd.R kRow 43 wz w.heap.size (fun _ => True) v (bodyB t ++ zeroB) := by simpa [flatL] using hR
        refine Kd.R_mono (Kd.R_move (Kd.R_bound hR2) (fun k hk => World.putObj_heap_other ?_)) (fun _ hk => hk.1)
        obtain ⟨_, _, _, q, _, cells, hc⟩ := hk
        have hd := HDz.out
        rintro rfl
        rw [hd] at hc
        cases hc
      · exact HBz.out.trans ((Turn.putObj (S := fun k => k = W0.heap.size) _ _ rfl).below (fun k hk => by have := HZ.out; have := HB1.out.size; omega) HBz.out.size)
    case stop =>
      rintro c W h
      exact h.elim
end
end Go.Proofs.YtpedagpcblnnhaaGreat.X
