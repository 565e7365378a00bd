import Derived.Test.YtpedagpcblnnhaaGreatXK
import Derived.Test.YtpedagpcblnnhaaGreatXGpa
import Derived.Test.YtpedagpcblnnhaaGreatXGra
import Derived.Test.YtpedagpcblnnhaaGreatYAll
import Derived.Test.YtpedagpcblnnhaaGreatP04g
import Derived.Test.YtpedagpcblnnhaaGreatP09a
import Derived.Test.YtpedagpcblnnhaaGreatP10a
import Derived.Test.YtpedagpcblnnhaaGreatPGA
import Derived.Test.YtpedagpcblnnhaaGreatPGE
import Derived.Deep.RegionHeld3
import Derived.Laws.EntriesVeiled
import Derived.WalkMore
import Derived.WalkSpells
namespace Go.Proofs.YtpedagpcblnnhaaGreat.X
open Go.RowKit Go.Proofs.YtpedagpcblnnhaaGreatW.PrintWords Go.Proofs.YtpedagpcblnnhaaGreatW.PrintLast Go.Proofs.YtpedagpcblnnhaaGreatW.PrintMore
attribute [local go_sem] max2_int min2_int max_two min_two
set_option linter.unusedVariables false
set_option linter.unusedSimpArgs false
open Go.Proofs.YtpedagpcblnnhaaGreatY
set_option maxRecDepth 100000
theorem ev_cellsG {w : World} {A : Option Addr} {n : Nat} {t : List Evt} (h : Kd.C k45 w A n t) {i : Nat} (hi : i < n) (x : Evt) (hx : t[i]? = some x) : ∃ ad, A = some ad ∧ w.cell? (ad.add (i * 10)) = some (.int .i64 x.f0) ∧ w.cell? ⟨(ad.add (i * 10)).block, (ad.add (i * 10)).off + 1, none⟩ = some (.string x.f1.f0) ∧ w.cell? ⟨(ad.add (i * 10)).block, (ad.add (i * 10)).off + 2, none⟩ = some (.string x.f1.f1) ∧ w.cell? ⟨(ad.add (i * 10)).block, (ad.add (i * 10)).off + 3, none⟩ = some (.int .u8 x.f1.f2) ∧ w.cell? ⟨(ad.add (i * 10)).block, (ad.add (i * 10)).off + 4, none⟩ = some (.int .i64 x.f1.f3) ∧ w.cell? ⟨(ad.add (i * 10)).block, (ad.add (i * 10)).off + 5, none⟩ = some (.int .i64 x.f1.f4) ∧ w.cell? ⟨(ad.add (i * 10)).block, (ad.add (i * 10)).off + 6, none⟩ = some (.int .i64 x.f1.f5) ∧ w.cell? ⟨(ad.add (i * 10)).block, (ad.add (i * 10)).off + 7, none⟩ = some (.int .i64 x.f1.f6) ∧ w.cell? ⟨(ad.add (i * 10)).block, (ad.add (i * 10)).off + 8, none⟩ = some (.string x.f1.f7) ∧ w.cell? ⟨(ad.add (i * 10)).block, (ad.add (i * 10)).off + 9, none⟩ = some (.string x.f2) := by
  have h1 := at_T45 h (i : Int) (by omega) (by omega)
  have e : rd_T45 t (i : Int) = x := by unfold rd_T45; rw [Int.toNat_natCast, List.getD_eq_getElem?_getD, hx]; rfl
  rw [e, Int.toNat_natCast] at h1
  exact h1
theorem make_nd (n : Nat) (hn : n ≤ 100000) (Z : Array Value) (hZ : madeCells (Value.agg #[.string ⟨#[]⟩, .string ⟨#[]⟩, .int .u8 0, .int .i64 0, .int .i64 0, .int .i64 0, .int .i64 0, .string ⟨#[]⟩]).cells (n * 8) = Z) (W : World) :
    (Instr.makeSlice 27 (.int .i64 (n : Int)) (.int .i64 (n : Int))).run Tryz.prog W = .ok (.slice (some ⟨W.heap.size, 0, none⟩) n n) (W.alloc (.cells Z.toList.toArray 41)) := by
  obtain ⟨i0, hi, hz0', hz1, hz2⟩ := info_parts info41
  have := run_make (P := Tryz.prog) W 27 41 i0 _ Tryz.underlying27 hi hz0' .i64 .i64 (n : Int) (n : Int) (by omega) (by omega) (by rw [hz2]; omega) (by omega)
  rw [this, hz1]
  show Result.ok _ (W.alloc (.cells (madeCells _ _) _)) = _
  rw [Int.toNat_natCast, hZ]
def gathO : List Evt → List Nd → Bool → (List Nd × Bool) × Bool
  | [], o, b => ((o, b), true)
  | v :: l, o, b => if (takeO o b v).2 = true then gathO l (takeO o b v).1.1 (takeO o b v).1.2 else ((o, b), false)
theorem takeO_len (o : List Nd) (b : Bool) (v : Evt) : (takeO o b v).1.1.length ≤ o.length + 1 := by
  unfold takeO
  split
  · split <;> simp
  · split
    · split
      · rcases nil_or_snoc o with rfl | ⟨p, n, rfl⟩ <;> simp
      · simp
    · split
      · split <;> simp
      · simp
theorem takeO_false {o : List Nd} {b : Bool} {v : Evt} (h : (takeO o b v).2 = false) : (takeO o b v).1 = (o, b) := by
  unfold takeO at h ⊢
  split
  · rename_i h0
    rw [if_pos h0] at h
    split
    · rename_i hb; rw [if_pos hb] at h; cases h
    · rfl
  · rename_i h0
    rw [if_neg h0] at h
    split
    · rename_i h1
      rw [if_pos h1] at h
      split
      · rename_i hb; rw [if_pos hb] at h; cases h
      · rfl
    · rename_i h1
      rw [if_neg h1] at h
      split
      · rename_i h2
        rw [if_pos h2] at h
        split
        · rename_i hb; rw [if_pos hb] at h; cases h
        · rfl
      · rfl
theorem takeO_open {o : List Nd} {b : Bool} {v : Evt} (h : b = true → o ≠ []) : (takeO o b v).1.2 = true → (takeO o b v).1.1 ≠ [] := by
  unfold takeO
  split
  · split
    · simp
    · exact h
  · split
    · split
      · rename_i hb
        intro _
        rcases nil_or_snoc o with rfl | ⟨p, n, rfl⟩
        · exact h hb
        · simp
      · exact h
    · split
      · split
        · simp
        · exact h
      · exact h
theorem takeO_size {o : List Nd} {b : Bool} {v : Evt} {m : Nat} (h : ∀ n ∈ o, n.f7.size ≤ m * 100000) (hv : v.f1.f7.size ≤ 100000 ∧ v.f2.size ≤ 100000) : ∀ n ∈ (takeO o b v).1.1, n.f7.size ≤ (m + 1) * 100000 := by
  have h' : ∀ n ∈ o, n.f7.size ≤ (m + 1) * 100000 := fun n hn => Nat.le_trans (h n hn) (Nat.mul_le_mul_right _ (Nat.le_succ m))
  unfold takeO
  split
  · split
    · intro n hn
      rcases List.mem_append.1 hn with hn | hn
      · exact h' n hn
      · rw [List.mem_singleton.1 hn]; exact Nat.le_trans hv.1 (Nat.le_mul_of_pos_left _ (Nat.succ_pos m))
    · exact h'
  · split
    · split
      · rcases nil_or_snoc o with rfl | ⟨p, x, rfl⟩
        · intro n hn; simp at hn
        · intro n hn
          have hn : n ∈ p ++ [addD x v.f2] := by simpa using hn
          rcases List.mem_append.1 hn with hn | hn
          · exact h' n (List.mem_append.2 (.inl hn))
          · rw [List.mem_singleton.1 hn]
            have := h x (by simp)
            show (x.f7 ++ v.f2).size ≤ _
            rw [ByteArray.size_append, Nat.succ_mul]; exact Nat.add_le_add this hv.2
      · exact h'
    · split
      · split <;> exact h'
      · exact h'
theorem takeO_E (q : List Nd) (c : Option Nd) (v : Evt) : takeO (outOf (q, c)) c.isSome v = match takeE q c v with | some r => ((outOf r, r.2.isSome), true) | none => ((outOf (q, c), c.isSome), false) := by
  unfold takeO takeE
  by_cases h0 : v.f0 = 0
  · rw [if_pos h0, if_pos h0]
    cases c <;> simp [outOf]
  rw [if_neg h0, if_neg h0]
  by_cases h1 : v.f0 = 1
  · rw [if_pos h1, if_pos h1]
    cases c <;> simp [outOf]
  rw [if_neg h1, if_neg h1]
  by_cases h2 : v.f0 = 2
  · rw [if_pos h2, if_pos h2]
    cases c <;> simp [outOf]
  rw [if_neg h2, if_neg h2]
theorem gathO_S : ∀ (l : List Evt) (q : List Nd) (c : Option Nd), gathO l (outOf (q, c)) c.isSome = ((outOf (gathS l q c).1, (gathS l q c).1.2.isSome), (gathS l q c).2)
  | [], q, c => rfl
  | v :: l, q, c => by
    show (if (takeO (outOf (q, c)) c.isSome v).2 = true then gathO l (takeO (outOf (q, c)) c.isSome v).1.1 (takeO (outOf (q, c)) c.isSome v).1.2 else ((outOf (q, c), c.isSome), false)) = ((outOf (match takeE q c v with | some r => gathS l r.1 r.2 | none => ((q, c), false)).1, (match takeE q c v with | some r => gathS l r.1 r.2 | none => ((q, c), false)).1.2.isSome), (match takeE q c v with | some r => gathS l r.1 r.2 | none => ((q, c), false)).2)
    rw [takeO_E]
    cases takeE q c v with
    | none => rfl
    | some r => exact gathO_S l r.1 r.2
theorem gathO_F (l : List Evt) : ((gathO l [] false).1.1, (gathO l [] false).2) = gatherF l := by
  have h := gathO_S l [] none
  have h' : gathO l [] false = ((outOf (gathS l [] none).1, (gathS l [] none).1.2.isSome), (gathS l [] none).2) := h
  rw [h']
  rfl
set_option maxHeartbeats 6400000 in
theorem read_Gather.at_ (A0 : Option Addr) (c0 : Nat) (l : List Evt) (hl : l.length ≤ 900) (hv : ∀ v ∈ l, v.f1.f7.size ≤ 100000 ∧ v.f2.size ≤ 100000) (w : World) (hC : Kd.C k45 w A0 l.length l) (hc : l.length ≤ c0) :
    Calls Tryz.prog 9 #[.slice A0 l.length c0] w fun e w' => ∃ g : Nat, e = .returned (.tuple #[.slice (some ⟨g, 0, none⟩) (gatherF l).1.length (gatherF l).1.length, .bool (gatherF l).2]) ∧ Aside0 (Kd.R kNd 41 w' w.heap.size (fun _ => True) (.slice (some ⟨g, 0, none⟩) (gatherF l).1.length (gatherF l).1.length) (gatherF l).1) ∧ Below w.heap.size w w' := by
  have HC := Aside0.mk hC
  have HV := Aside0.mk hv
  have HLL := Aside0.mk hl
  have HS0 : Aside0 (GathAt w [] false none 0 ((w.alloc (.cells #[.slice none 0 0] 27)).alloc (.cells #[.bool false] 4))) := by
    have a2 := heap_alloc_new (w.alloc (.cells #[.slice none 0 0] 27)) (.cells #[.bool false] 4)
    simp only [World.size_alloc] at a2
    exact ⟨⟨below_alloc (below_alloc (Below.refl _ _) _) _, blk_alloc (heap_alloc_new w _) _, a2, Kd.R_nil _ _ _ _ _⟩⟩
  have hG := gathO_F l
  obtain ⟨R, hR⟩ : ∃ R, gathO l [] false = R := ⟨_, rfl⟩
  rw [hR] at hG
  rw [← hG]
  have HRR := Aside0.mk hR
  clear hC hv hl hR hG
  go_enter Tryz.func9, Tryz.ntmps9
  go_wp2_with (fail)
  go_step3
  go_wp2_with (fail)
  go_step3
  go_wp2_with (fail)
  go_loopw [6, 14] (fun v6 v14 wr => ∃ (i : Nat) (o : List Nd) (b : Bool) (A : Option Addr) (cp : Nat), v14 = .int .i64 i ∧ v6 = .bool true ∧ i ≤ l.length ∧ Aside0 (gathO (l.drop i) o b = R) ∧ Aside0 (o.length ≤ i ∧ (b = true → o ≠ []) ∧ ∀ n ∈ o, n.f7.size ≤ i * 100000) ∧ Aside0 (GathAt w o b A cp wr)) (fun _ v14 _ => l.length - (intOf v14).toNat)
  case atStart => exact ⟨0, [], false, none, 0, rfl, rfl, Nat.zero_le _, HRR, ⟨Nat.le_refl _, (fun h => nomatch h), (fun n hn => nomatch hn)⟩, HS0⟩
  case round =>
    obtain ⟨i, o, b, A, cp, rfl, rfl, hi, HF, HBI, HS⟩ := hrel
    clear HS0 HRR
    have HBD := Aside0.mk (show o.length ≤ 1000 ∧ i ≤ 1000 by have h1 := HBI.out.1; have h2 := HLL.out; exact ⟨by omega, by omega⟩)
    by_cases hlt : i < l.length
    · have hx := List.getElem?_eq_getElem hlt
      have hxm := HV.out _ (List.getElem_mem hlt)
      have hdrop : l.drop i = l[i] :: l.drop (i + 1) := (List.getElem_cons_drop (h := hlt)).symm
      have hF := HF.out
      rw [hdrop] at hF
      unfold gathO at hF
      obtain ⟨ad, rfl, k0, k1, k2, k3, k4, k5, k6, k7, k8, k9⟩ := ev_cellsG (Kd.C_below HC.out HS.out.bel) hlt _ hx
      clear hx hdrop HF
      generalize l[i] = x at *
      obtain ⟨f0, ⟨g0, g1, g2, g3, g4, g5, g6, g7⟩, f2⟩ := x
      simp only at k0 k1 k2 k3 k4 k5 k6 k7 k8 k9 hxm
      have hi1 : (i : Int) < (l.length : Int) := by omega
      have hi0 : (0 : Int) ≤ (i : Int) := by omega
      have hw : IntKind.i64.wrap ((i : Int) + 1) = ((i + 1 : Nat) : Int) := by have h_ := HLL.out; rw [i64_w, wrap_id (by omega) (by omega)]; omega
      have htk := fun W G => take.at_ w o b A cp f0 g0 g1 g2 g3 g4 g5 g6 g7 f2 (by have h_ := HBD.out; omega) HBI.out.2.1 (fun n hn => by
        have h1 := HBI.out.2.2 n (List.mem_of_getLast? hn)
        have h2 := HBD.out
        omega) W G
      have h1 := takeO_len o b ⟨f0, ⟨g0, g1, g2, g3, g4, g5, g6, g7⟩, f2⟩
      have h2 := takeO_open (o := o) (b := b) (v := ⟨f0, ⟨g0, g1, g2, g3, g4, g5, g6, g7⟩, f2⟩) HBI.out.2.1
      have h3 := takeO_size (b := b) (v := ⟨f0, ⟨g0, g1, g2, g3, g4, g5, g6, g7⟩, f2⟩) HBI.out.2.2 hxm
      have h4 := takeO_false (o := o) (b := b) (v := ⟨f0, ⟨g0, g1, g2, g3, g4, g5, g6, g7⟩, f2⟩)
      obtain ⟨T, hT⟩ : ∃ T, takeO o b ⟨f0, ⟨g0, g1, g2, g3, g4, g5, g6, g7⟩, f2⟩ = T := ⟨_, rfl⟩
      rw [hT] at htk hF h1 h2 h3 h4
      obtain ⟨⟨o2, b2⟩, ok⟩ := T
      simp only at htk hF h1 h2 h3 h4
      have H4 := Aside0.mk h4
      have HN := Aside0.mk (show o2.length ≤ i + 1 ∧ (b2 = true → o2 ≠ []) ∧ ∀ n ∈ o2, n.f7.size ≤ (i + 1) * 100000 from ⟨by have h_ := HBI.out.1; omega, h2, h3⟩)
      have HF := Aside0.mk hF
      clear hT h1 h2 h3 h4 hxm hF
      go_upto_region 7 with (fail)
      have HS5 := Aside0.mk (HS.out.step (below_alloc (Below.refl _ _) (.cells #[.int .i64 f0, .string g0, .string g1, .int .u8 g2, .int .i64 g3, .int .i64 g4, .int .i64 g5, .int .i64 g6, .string g7, .string f2] 45)))
      have HX5 := Aside0.mk (heap_alloc_new wr (.cells #[.int .i64 f0, .string g0, .string g1, .int .u8 g2, .int .i64 g3, .int .i64 g4, .int .i64 g5, .int .i64 g6, .string g7, .string f2] 45))
      obtain ⟨W5, hW5⟩ : ∃ W', wr.alloc (.cells #[.int .i64 f0, .string g0, .string g1, .int .u8 g2, .int .i64 g3, .int .i64 g4, .int .i64 g5, .int .i64 g6, .string g7, .string f2] 45) = W' := ⟨_, rfl⟩
      rw [hW5] at HS5 HX5 ⊢
      obtain ⟨gx, hg_⟩ : ∃ k, wr.heap.size = k := ⟨_, rfl⟩
      rw [hg_] at HX5 ⊢
      clear hW5 hg_ HS k0 k1 k2 k3 k4 k5 k6 k7 k8 k9
      have x0 := (blk_cell HX5.out 0).trans (show _ = some (Value.int .i64 f0) from rfl)
      have x1 := (blk_cell HX5.out 1).trans (show _ = some (Value.string g0) from rfl)
      have x2 := (blk_cell HX5.out 2).trans (show _ = some (Value.string g1) from rfl)
      have x3 := (blk_cell HX5.out 3).trans (show _ = some (Value.int .u8 g2) from rfl)
      have x4 := (blk_cell HX5.out 4).trans (show _ = some (Value.int .i64 g3) from rfl)
      have x5 := (blk_cell HX5.out 5).trans (show _ = some (Value.int .i64 g4) from rfl)
      have x6 := (blk_cell HX5.out 6).trans (show _ = some (Value.int .i64 g5) from rfl)
      have x7 := (blk_cell HX5.out 7).trans (show _ = some (Value.int .i64 g6) from rfl)
      have x8 := (blk_cell HX5.out 8).trans (show _ = some (Value.string g7) from rfl)
      have x9 := (blk_cell HX5.out 9).trans (show _ = some (Value.string f2) from rfl)
      cases ok with
      | true =>
        go_wp2_with (go_at_call 21; refine (htk _ HS5.out).mono ?_; rintro e_ w6 ⟨A6, cp6, rfl, G6⟩; have HS6 := G6; clear G6)
        go_roundw
        case rel => exact ⟨i + 1, o2, b2, A6, cp6, by go_num, rfl, by omega, ⟨HF.out⟩, HN, HS6⟩
        case measure => simp [intOf]; omega
      | false =>
        have HRES : Aside0 (R = ((o, b), false)) := ⟨HF.out.symm⟩
        have h5 := (Prod.mk.inj (H4.out rfl)).1.symm
        have h6 := (Prod.mk.inj (H4.out rfl)).2.symm
        subst h5
        subst h6
        clear HF H4
        go_upto_region 10 with (go_at_call 21; refine (htk _ HS5.out).mono ?_; rintro e_ w6 ⟨A6, cp6, rfl, G6⟩; have HS6 := G6; clear G6)
        have HLO := Aside0.mk (show o.length ≤ 1000 by have h_ := HBD.out.1; omega)
        obtain ⟨Z, hZ⟩ : ∃ Z : Array Value, madeCells (Value.agg #[.string ⟨#[]⟩, .string ⟨#[]⟩, .int .u8 0, .int .i64 0, .int .i64 0, .int .i64 0, .int .i64 0, .string ⟨#[]⟩]).cells (o.length * 8) = Z := ⟨_, rfl⟩
        have hZl : Z.toList.length = o.length * 8 := by rw [← hZ]; simp [size_madeCells]
        have hmk := fun W => make_nd o.length (by have h_ := HLO.out; omega) Z hZ W
        have zo := (blk_cell HS6.out.out 0).trans (show _ = some (Value.slice A6 o.length cp6) from rfl)
        have hR2 := Kd.R_reads' HS6.out.row
        have G3 := Aside0.mk (heap_alloc_new w6 (.cells Z.toList.toArray 41))
        have HF3 := Aside0.mk (HS6.out.step (below_alloc (Below.refl _ _) (.cells Z.toList.toArray 41)))
        go_upto_region 11 with (fail)
        obtain ⟨W3, hW3⟩ : ∃ W3, w6.alloc (.cells Z.toList.toArray 41) = W3 := ⟨_, rfl⟩
        rw [hW3] at HF3 G3 ⊢
        clear hW3 hmk zo
        have HGZ := Aside0.mk HS6.out.bel.size
        obtain ⟨g3, hg3⟩ : ∃ k, w6.heap.size = k := ⟨_, rfl⟩
        rw [hg3] at G3 HGZ ⊢
        have zo := (blk_cell HF3.out.out 0).trans (show _ = some (Value.slice A6 o.length cp6) from rfl)
        have hC3 := (Kd.R_reads' HF3.out.row).2.2
        have hcs : (flatN o).length = Nat.min o.length o.length * 8 := by show _ = min o.length o.length * 8; rw [flatN_len, Nat.min_self]; omega
        have hsrc : 0 < (flatN o).length → ∃ ad, A6 = some ad ∧ ∀ j v, (flatN o)[j]? = some v → W3.cell? (ad.add j) = some v := by
          intro hp
          rw [flatN_len] at hp
          obtain ⟨ad, rfl, _⟩ := hC3.2.2 (by omega)
          exact ⟨ad, rfl, C_flat hC3⟩
        have hfit : 0 + (flatN o).length ≤ Z.toList.length := by rw [hZl, flatN_len]; omega
        have HCF := Aside0.mk (And.intro hcs (And.intro hsrc hfit))
        clear hcs hsrc hfit hC3 hR2 hg3
        go_upto_region 12 with ((with_reducible refine gate_builtin (b := .copy) (xs := #[.tmp 27, .tmp 28]) rfl ?_); go_must (refine wpList_copyK rfl (.tmp 27) (.tmp 28) 27 27 rfl 41 8 Tryz.underlying27 nd_sz g3 0 A6 o.length o.length o.length cp6 rfl rfl Z.toList 41 G3.out (flatN o) HCF.out.1 HCF.out.2.1 HCF.out.2.2 (flatN_one o) ?_); intro w4 hg4 hT4; have HG4 := Aside0.mk hg4; have HT4 := Aside0.mk hT4; clear hg4 hT4)
        have HB4 := Aside0.mk (HF3.out.bel.trans (HT4.out.below (fun k hk => by have h_ := HGZ.out; omega) HF3.out.bel.size))
        have hg4 := HG4.out
        rw [List.take_zero, List.nil_append, Nat.zero_add, flatN_len, List.drop_of_length_le (by rw [hZl]; omega)] at hg4
        have HR4 := Aside0.mk (R_of_raw (base := w.heap.size) hg4 HGZ.out (Nat.le_refl _) (by have h_ := HLO.out; unfold maxLen; omega) (by rw [List.append_nil, flatN_len]; omega))
        clear hg4
        go_wp2_with (fail)
        try rw [Exit.noGoto_ret]
        refine bodyPost_ret (results_list (rs := [.tmp 2, .tmp 3]) rfl (by simp) (.tmp (.tmp .nil))) rfl ?_
        exact ⟨g3, (by first | (rw [HRES.out]; done) | (rw [HRES.out]; rfl)), by rw [HRES.out]; exact HR4, HB4.out⟩
    · obtain rfl : i = l.length := by omega
      have hi1 : decide ((l.length : Int) < (l.length : Int)) = false := decide_eq_false (by omega)
      have HRES : Aside0 (R = ((o, b), true)) := ⟨by have h_ := HF.out; rw [List.drop_length] at h_; exact h_.symm⟩
      clear hlt HF
      go_upto_region 10 with (fail)
      have HLO := Aside0.mk (show o.length ≤ 1000 by have h_ := HBD.out.1; omega)
      obtain ⟨Z, hZ⟩ : ∃ Z : Array Value, madeCells (Value.agg #[.string ⟨#[]⟩, .string ⟨#[]⟩, .int .u8 0, .int .i64 0, .int .i64 0, .int .i64 0, .int .i64 0, .string ⟨#[]⟩]).cells (o.length * 8) = Z := ⟨_, rfl⟩
      have hZl : Z.toList.length = o.length * 8 := by rw [← hZ]; simp [size_madeCells]
      have hmk := fun W => make_nd o.length (by have h_ := HLO.out; omega) Z hZ W
      have zo := (blk_cell HS.out.out 0).trans (show _ = some (Value.slice A o.length cp) from rfl)
      have hR2 := Kd.R_reads' HS.out.row
      have G3 := Aside0.mk (heap_alloc_new wr (.cells Z.toList.toArray 41))
      have HF3 := Aside0.mk (HS.out.step (below_alloc (Below.refl _ _) (.cells Z.toList.toArray 41)))
      go_upto_region 11 with (fail)
      obtain ⟨W3, hW3⟩ : ∃ W3, wr.alloc (.cells Z.toList.toArray 41) = W3 := ⟨_, rfl⟩
      rw [hW3] at HF3 G3 ⊢
      clear hW3 hmk zo
      have HGZ := Aside0.mk HS.out.bel.size
      obtain ⟨g3, hg3⟩ : ∃ k, wr.heap.size = k := ⟨_, rfl⟩
      rw [hg3] at G3 HGZ ⊢
      have zo := (blk_cell HF3.out.out 0).trans (show _ = some (Value.slice A o.length cp) from rfl)
      have hC3 := (Kd.R_reads' HF3.out.row).2.2
      have hcs : (flatN o).length = Nat.min o.length o.length * 8 := by show _ = min o.length o.length * 8; rw [flatN_len, Nat.min_self]; omega
      have hsrc : 0 < (flatN o).length → ∃ ad, A = some ad ∧ ∀ j v, (flatN o)[j]? = some v → W3.cell? (ad.add j) = some v := by
        intro hp
        rw [flatN_len] at hp
        obtain ⟨ad, rfl, _⟩ := hC3.2.2 (by omega)
        exact ⟨ad, rfl, C_flat hC3⟩
      have hfit : 0 + (flatN o).length ≤ Z.toList.length := by rw [hZl, flatN_len]; omega
      have HCF := Aside0.mk (And.intro hcs (And.intro hsrc hfit))
      clear hcs hsrc hfit hC3 hR2 hg3
      go_upto_region 12 with ((with_reducible refine gate_builtin (b := .copy) (xs := #[.tmp 27, .tmp 28]) rfl ?_); go_must (refine wpList_copyK rfl (.tmp 27) (.tmp 28) 27 27 rfl 41 8 Tryz.underlying27 nd_sz g3 0 A o.length o.length o.length cp rfl rfl Z.toList 41 G3.out (flatN o) HCF.out.1 HCF.out.2.1 HCF.out.2.2 (flatN_one o) ?_); intro w4 hg4 hT4; have HG4 := Aside0.mk hg4; have HT4 := Aside0.mk hT4; clear hg4 hT4)
      have HB4 := Aside0.mk (HF3.out.bel.trans (HT4.out.below (fun k hk => by have h_ := HGZ.out; omega) HF3.out.bel.size))
      have hg4 := HG4.out
      rw [List.take_zero, List.nil_append, Nat.zero_add, flatN_len, List.drop_of_length_le (by rw [hZl]; omega)] at hg4
      have HR4 := Aside0.mk (R_of_raw (base := w.heap.size) hg4 HGZ.out (Nat.le_refl _) (by have h_ := HLO.out; unfold maxLen; omega) (by rw [List.append_nil, flatN_len]; omega))
      clear hg4
      go_wp2_with (fail)
      try rw [Exit.noGoto_ret]
      refine bodyPost_ret (results_list (rs := [.tmp 2, .tmp 3]) rfl (by simp) (.tmp (.tmp .nil))) rfl ?_
      exact ⟨g3, (by first | (rw [HRES.out]; done) | (rw [HRES.out]; rfl)), by rw [HRES.out]; exact HR4, HB4.out⟩
end Go.Proofs.YtpedagpcblnnhaaGreat.X
