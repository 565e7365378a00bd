import Derived.Test.YtpedagpcblnnhaaGreatXK
import Derived.Test.YtpedagpcblnnhaaGreatXGpa
import Derived.Test.YtpedagpcblnnhaaGreatYAll
import Derived.Test.YtpedagpcblnnhaaGreatP04g
import Derived.Test.YtpedagpcblnnhaaGreatP09a
import Derived.Test.YtpedagpcblnnhaaGreatP10a
import Derived.Test.YtpedagpcblnnhaaGreatPGA
import Derived.Test.YtpedagpcblnnhaaGreatPGE
import Derived.Deep.RegionHeld3
import Derived.Laws.EntriesVeiled
import Derived.WalkSpells
namespace Go.Proofs.YtpedagpcblnnhaaGreat.X
open Go.RowKit Go.Proofs.YtpedagpcblnnhaaGreatW.PrintWords Go.Proofs.YtpedagpcblnnhaaGreatW.PrintLast Go.Proofs.YtpedagpcblnnhaaGreatW.PrintMore
attribute [local go_sem] max2_int min2_int max_two min_two
set_option linter.unusedVariables false
set_option linter.unusedSimpArgs false
open Go.Proofs.YtpedagpcblnnhaaGreatY
set_option maxRecDepth 100000
structure GathAt (w : World) (o : List Nd) (b : Bool) (A : Option Addr) (cp : Nat) (W : World) : Prop where
  bel : Below w.heap.size w W
  out : W.heap[w.heap.size]? = some (.cells #[.slice A o.length cp] 27 (0, 0))
  opn : W.heap[w.heap.size + 1]? = some (.cells #[.bool b] 4 (0, 0))
  row : Kd.R kNd 41 W w.heap.size (fun _ => True) (.slice A o.length cp) o
theorem GathAt.step {w : World} {o : List Nd} {b : Bool} {A : Option Addr} {cp : Nat} {W W' : World} (G : GathAt w o b A cp W) (h : Below W.heap.size W W') : GathAt w o b A cp W' := ⟨below_step G.bel h, blk_below G.out h, blk_below G.opn h, Kd.R_below G.row h⟩
theorem nd_ne {q : TypeId} (h : q ∈ 41 :: kNd.E) (t : TypeId) (ht : t ≠ 41) (h9 : kNd.E = []) : q ≠ t := fun e => by
  subst e
  rw [h9] at h
  rcases List.mem_cons.1 h with h | h
  · exact ht h
  · cases h
theorem nd_E : kNd.E = [] := rfl
theorem own_nd {W : World} {base g : Nat} {v : Value} {l : List Nd} {cs : Array Value} {T : TypeId} (hR : Kd.R kNd 41 W base (fun _ => True) v l) (hZ : W.heap[g]? = some (.cells cs T (0, 0))) (hT : T ≠ 41) : some g ≠ v.ownBlock := fun e => by
  obtain ⟨_, _, _, q, hq, cells, hc⟩ := (Kd.R_bound hR).1 g e.symm
  rw [hZ] at hc
  injection hc with hc
  injection hc with _ hc _
  exact nd_ne hq T hT nd_E hc.symm
theorem GathAt.flag {w : World} {o : List Nd} {b : Bool} {A : Option Addr} {cp : Nat} {W : World} (G : GathAt w o b A cp W) (b' : Bool) : GathAt w o b' A cp (W.setCell ⟨w.heap.size + 1, 0, none⟩ (.bool b')) :=
  ⟨G.bel.setCell (p := ⟨w.heap.size + 1, 0, none⟩) (by show w.heap.size ≤ w.heap.size + 1; omega) _, blk_far G.out (p := ⟨w.heap.size + 1, 0, none⟩) (by show w.heap.size ≠ w.heap.size + 1; omega) _, blk_put G.opn 0 (.bool b') rfl, Kd.R_set G.row G.opn (fun q hq => nd_ne hq _ (by decide) nd_E) 0 _⟩
theorem GathAt.put {w : World} {o o' : List Nd} {b : Bool} {A A' : Option Addr} {cp cp' : Nat} {W : World} (hbel : Below w.heap.size w W) (hout : W.heap[w.heap.size]? = some (.cells #[.slice A o.length cp] 27 (0, 0))) (hopn : W.heap[w.heap.size + 1]? = some (.cells #[.bool b] 4 (0, 0)))
    (hR : Kd.R kNd 41 W w.heap.size (fun _ => True) (.slice A' o'.length cp') o') : GathAt w o' b A' cp' (W.setCell ⟨w.heap.size, 0, none⟩ (.slice A' o'.length cp')) :=
  ⟨hbel.setCell (p := ⟨w.heap.size, 0, none⟩) (Nat.le_refl _) _, blk_put hout 0 (.slice A' o'.length cp') rfl, blk_far hopn (p := ⟨w.heap.size, 0, none⟩) (by show w.heap.size + 1 ≠ w.heap.size; omega) _, Kd.R_set hR hout (fun q hq => nd_ne hq _ (by decide) nd_E) 0 _⟩
def takeO (o : List Nd) (b : Bool) (v : Evt) : (List Nd × Bool) × Bool :=
  if v.f0 = 0 then (if b = false then ((o ++ [v.f1], true), true) else ((o, b), false))
  else if v.f0 = 1 then (if b = true then ((match o.getLast? with | some n => o.dropLast ++ [addD n v.f2] | none => o, true), true) else ((o, b), false))
  else if v.f0 = 2 then (if b = true then ((o, false), true) else ((o, b), false))
  else ((o, b), false)
theorem takeO_0f {o : List Nd} {v : Evt} (h : v.f0 = 0) : takeO o false v = ((o ++ [v.f1], true), true) := by unfold takeO; rw [if_pos h, if_pos rfl]
theorem takeO_0t {o : List Nd} {v : Evt} (h : v.f0 = 0) : takeO o true v = ((o, true), false) := by unfold takeO; rw [if_pos h, if_neg (by decide)]
theorem takeO_1f {o : List Nd} {v : Evt} (h : v.f0 = 1) : takeO o false v = ((o, false), false) := by unfold takeO; rw [if_neg (by omega), if_pos h, if_neg (by decide)]
theorem takeO_1t {p : List Nd} {n : Nd} {v : Evt} (h : v.f0 = 1) : takeO (p ++ [n]) true v = ((p ++ [addD n v.f2], true), true) := by unfold takeO; rw [if_neg (by omega), if_pos h, if_pos rfl]; simp
theorem takeO_2f {o : List Nd} {v : Evt} (h : v.f0 = 2) : takeO o false v = ((o, false), false) := by unfold takeO; rw [if_neg (by omega), if_neg (by omega), if_pos h, if_neg (by decide)]
theorem takeO_2t {o : List Nd} {v : Evt} (h : v.f0 = 2) : takeO o true v = ((o, false), true) := by unfold takeO; rw [if_neg (by omega), if_neg (by omega), if_pos h, if_pos rfl]
theorem takeO_n {o : List Nd} {b : Bool} {v : Evt} (h0 : v.f0 ≠ 0) (h1 : v.f0 ≠ 1) (h2 : v.f0 ≠ 2) : takeO o b v = ((o, b), false) := by unfold takeO; rw [if_neg h0, if_neg h1, if_neg h2]
theorem seg_at {w : World} {p : List Nd} {n n' : Nd} {g cp : Nat} {W : World} {u : Value} (G : GathAt w (p ++ [n]) true (some ⟨g, 0, none⟩) cp W)
    (h : Kd.R kNd 41 (W.setCells g ((p.length : Int).toNat * 8 + 7) [u]) w.heap.size (fun _ => True) (.slice (some ⟨g, 0, none⟩) (p.length + 1) cp) ((p ++ [n]).set (p.length : Int).toNat n') ∧ W.grownBy (W.setCells g ((p.length : Int).toNat * 8 + 7) [u]) (some g))
    (hg : w.heap.size ≤ g ∧ some w.heap.size ≠ some g ∧ some (w.heap.size + 1) ≠ some g) : GathAt w (p ++ [n']) true (some ⟨g, 0, none⟩) cp (W.setCell ⟨g, p.length * 8 + 7, none⟩ u).drew := by
  obtain ⟨hR, hG⟩ := h
  rw [Int.toNat_natCast] at hR hG
  have e1 : (p ++ [n]).set p.length n' = p ++ [n'] := by simp
  have e2 : W.setCells g (p.length * 8 + 7) [u] = W.setCell ⟨g, p.length * 8 + 7, none⟩ u := rfl
  have e3 : (p ++ [n']).length = p.length + 1 := by simp
  have e4 : (p ++ [n]).length = p.length + 1 := by simp
  rw [e1, e2] at hR
  rw [e2] at hG
  have ho := G.out
  rw [e4] at ho
  refine ⟨below_drew1 (G.bel.setCell (p := ⟨g, p.length * 8 + 7, none⟩) hg.1 _), ?_, blk_drew ((hG.block _ (blk_lt G.opn) hg.2.2).trans G.opn), ?_⟩
  · rw [e3]; exact blk_drew ((hG.block _ (blk_lt ho) hg.2.1).trans ho)
  · rw [e3]; exact Kd.R_drew hR
set_option maxHeartbeats 3200000 in
theorem take.at_ (w : World) (o : List Nd) (b : Bool) (A : Option Addr) (cp : Nat) (f0 : Int) (g0 g1 : ByteArray) (g2 g3 g4 g5 g6 : Int) (g7 f2 : ByteArray) (hl : o.length ≤ 1000) (hb : b = true → o ≠ []) (hs : ∀ n, o.getLast? = some n → n.f7.size + f2.size ≤ 9223372036854775807) (W : World) (G : GathAt w o b A cp W) :
    Calls Tryz.prog 21 #[.agg #[.int .i64 f0, .string g0, .string g1, .int .u8 g2, .int .i64 g3, .int .i64 g4, .int .i64 g5, .int .i64 g6, .string g7, .string f2], .pointer (some ⟨w.heap.size + 1, 0, none⟩), .pointer (some ⟨w.heap.size, 0, none⟩)] W fun e w' => ∃ A' cp', e = .returned (.bool (takeO o b ⟨f0, ⟨g0, g1, g2, g3, g4, g5, g6, g7⟩, f2⟩).2) ∧ Aside0 (GathAt w (takeO o b ⟨f0, ⟨g0, g1, g2, g3, g4, g5, g6, g7⟩, f2⟩).1.1 (takeO o b ⟨f0, ⟨g0, g1, g2, g3, g4, g5, g6, g7⟩, f2⟩).1.2 A' cp' w') := by
  have GB := Aside0.mk (G.step (below_alloc (Below.refl _ _) (.cells #[.int .i64 f0, .string g0, .string g1, .int .u8 g2, .int .i64 g3, .int .i64 g4, .int .i64 g5, .int .i64 g6, .string g7, .string f2] 45)))
  have HX := Aside0.mk (heap_alloc_new W (.cells #[.int .i64 f0, .string g0, .string g1, .int .u8 g2, .int .i64 g3, .int .i64 g4, .int .i64 g5, .int .i64 g6, .string g7, .string f2] 45))
  have HLW := Aside0.mk (blk_lt G.opn)
  have x0 := (blk_cell HX.out 0).trans (show _ = some (Value.int .i64 f0) from rfl)
  have x1 := (blk_cell HX.out 1).trans (show _ = some (Value.string g0) from rfl)
  have x2 := (blk_cell HX.out 2).trans (show _ = some (Value.string g1) from rfl)
  have x3 := (blk_cell HX.out 3).trans (show _ = some (Value.int .u8 g2) from rfl)
  have x4 := (blk_cell HX.out 4).trans (show _ = some (Value.int .i64 g3) from rfl)
  have x5 := (blk_cell HX.out 5).trans (show _ = some (Value.int .i64 g4) from rfl)
  have x6 := (blk_cell HX.out 6).trans (show _ = some (Value.int .i64 g5) from rfl)
  have x7 := (blk_cell HX.out 7).trans (show _ = some (Value.int .i64 g6) from rfl)
  have x8 := (blk_cell HX.out 8).trans (show _ = some (Value.string g7) from rfl)
  have x9 := (blk_cell HX.out 9).trans (show _ = some (Value.string f2) from rfl)
  have zb := (blk_cell GB.out.opn 0).trans (show _ = some (Value.bool b) from rfl)
  have yb := blk_frozen GB.out.opn 0
  have zo := (blk_cell GB.out.out 0).trans (show _ = some (Value.slice A o.length cp) from rfl)
  have yo := blk_frozen GB.out.out 0
  clear G
  by_cases h0 : f0 = 0
  · have b0 : (f0 == 0) = true := beq_iff_eq.2 h0
    have b1 : (f0 == 1) = false := beq_eq_false_iff_ne.2 (by omega)
    have b2 : (f0 == 2) = false := beq_eq_false_iff_ne.2 (by omega)
    cases b with
    | true =>
      rw [takeO_0t h0]
      clear h0
      go_enter Tryz.func21, Tryz.ntmps21
      go_wp2_with (fail)
      go_ret
      first | exact ⟨rfl, A, cp, ⟨GB.out⟩⟩ | exact ⟨A, cp, rfl, ⟨GB.out⟩⟩
    | false =>
      rw [takeO_0f h0]
      clear h0
      have HL := Aside0.mk hl
      clear hb hs hl
      have GN := Aside0.mk (GB.out.step (below_alloc (Below.refl _ _) (.cells #[.string g0, .string g1, .int .u8 g2, .int .i64 g3, .int .i64 g4, .int .i64 g5, .int .i64 g6, .string g7] 41)))
      have hn_ := heap_alloc_new (W.alloc (.cells #[.int .i64 f0, .string g0, .string g1, .int .u8 g2, .int .i64 g3, .int .i64 g4, .int .i64 g5, .int .i64 g6, .string g7, .string f2] 45)) (.cells #[.string g0, .string g1, .int .u8 g2, .int .i64 g3, .int .i64 g4, .int .i64 g5, .int .i64 g6, .string g7] 41)
      rw [show (W.alloc (.cells #[.int .i64 f0, .string g0, .string g1, .int .u8 g2, .int .i64 g3, .int .i64 g4, .int .i64 g5, .int .i64 g6, .string g7, .string f2] 45)).heap.size = W.heap.size + 1 by simp] at hn_
      have HN := Aside0.mk hn_
      clear hn_
      go_enter Tryz.func21, Tryz.ntmps21
      go_wp2_with ((with_reducible refine gate_builtin (b := .append) (xs := #[(.tmp 13), (.tmp 16)]) rfl ?_); go_must (refine Kd.R_append_rows kNd (w0 := w) w.heap.size rfl (.tmp 13) (.tmp 16) 27 41 (.agg #[.string ⟨#[]⟩, .string ⟨#[]⟩, .int .u8 0, .int .i64 0, .int .i64 0, .int .i64 0, .int .i64 0, .string ⟨#[]⟩]) 88 rfl Tryz.underlying27 info41 rfl (by decide) (by decide) _ o [⟨g0, g1, g2, g3, g4, g5, g6, g7⟩] (some ⟨W.heap.size + 1, 0, none⟩) 1 1 (fun _ => True) (fun _ => False) rfl rfl GN.out.row (more_row ⟨g0, g1, g2, g3, g4, g5, g6, g7⟩ HN.out) (fun _ _ h => h) (fun _ h => h.elim) (fun _ _ => trivial) GN.out.bel GN.out.bel.size (by have h_ := HL.out; omega) ?_); intro v1 w3 hO hB hg hat; obtain ⟨A3, c3, rfl⟩ := Kd.R_slice hO; have HO3 := Aside0.mk hO; have HB3 := Aside0.mk hB; have HT3 := Aside0.mk ((hg.block _ (blk_lt GN.out.out) (own_nd GN.out.row GN.out.out (by decide))).trans GN.out.out); have HP3 := Aside0.mk ((hg.block _ (blk_lt GN.out.opn) (own_nd GN.out.row GN.out.opn (by decide))).trans GN.out.opn); clear hO hB hg hat; clear zb yb zo yo; have zb := (blk_cell HP3.out 0).trans (show _ = some (Value.bool false) from rfl); have yb := blk_frozen HP3.out 0; have zo := (blk_cell HT3.out 0).trans (show _ = some (Value.slice A o.length cp) from rfl); have yo := blk_frozen HT3.out 0)
      go_ret
      have hfin := (GathAt.put HB3.out HT3.out HP3.out HO3.out).flag true
      rw [show (o ++ [(⟨g0, g1, g2, g3, g4, g5, g6, g7⟩ : Nd)]).length = o.length + 1 by simp] at hfin
      first | exact ⟨rfl, A3, c3, ⟨hfin⟩⟩ | exact ⟨A3, c3, rfl, ⟨hfin⟩⟩
  have b0 : (f0 == 0) = false := beq_eq_false_iff_ne.2 h0
  by_cases h1 : f0 = 1
  · have b1 : (f0 == 1) = true := beq_iff_eq.2 h1
    have b2 : (f0 == 2) = false := beq_eq_false_iff_ne.2 (by omega)
    cases b with
    | false =>
      rw [takeO_1f h1]
      clear h0 h1
      go_enter Tryz.func21, Tryz.ntmps21
      go_wp2_with (fail)
      go_ret
      first | exact ⟨rfl, A, cp, ⟨GB.out⟩⟩ | exact ⟨A, cp, rfl, ⟨GB.out⟩⟩
    | true =>
    rcases nil_or_snoc o with rfl | ⟨p, n, rfl⟩
    · exact absurd rfl (hb rfl)
    rw [takeO_1t h1]
    have hsz := hs n (by simp)
    have hpl : (p ++ [n]).length = p.length + 1 := by simp
    have hR0 := GB.out.row
    obtain ⟨g, cur, hA, hgc⟩ : ∃ g cur, A = some ⟨g, 0, none⟩ ∧ (W.alloc (.cells #[.int .i64 f0, .string g0, .string g1, .int .u8 g2, .int .i64 g3, .int .i64 g4, .int .i64 g5, .int .i64 g6, .string g7, .string f2] 45)).heap[g]? = some (.cells cur 41 (0, 0)) := by
      obtain ⟨inner, hi, ho⟩ := Kd.R_own hR0
      rcases ho with ⟨e, _⟩ | ⟨g, cap, cur, e, _, hgc, _⟩
      · injection e with e1 e2; rw [hpl] at e2; omega
      · injection e with e1 _ _; exact ⟨g, cur, e1, hgc⟩
    subst hA
    have y7 := blk_frozen hgc (p.length * 8 + 7)
    clear hgc
    rw [hpl] at zo hR0
    have hcc := (nd_cells (Kd.R_reads' hR0).2.2 (i := p.length) (by rw [hpl]; omega) n (by simp))
    obtain ⟨ad, ea, e0, e1, e2, e3, e4, e5, e6, e7⟩ := hcc
    obtain rfl := Option.some.inj ea
    have e0 : (W.alloc (.cells #[.int .i64 f0, .string g0, .string g1, .int .u8 g2, .int .i64 g3, .int .i64 g4, .int .i64 g5, .int .i64 g6, .string g7, .string f2] 45)).cell? ⟨g, p.length * 8, none⟩ = some (.string n.f0) := by have h_ := e0; rw [add_plain] at h_; exact h_
    have e1 : (W.alloc (.cells #[.int .i64 f0, .string g0, .string g1, .int .u8 g2, .int .i64 g3, .int .i64 g4, .int .i64 g5, .int .i64 g6, .string g7, .string f2] 45)).cell? ⟨g, p.length * 8 + 1, none⟩ = some (.string n.f1) := by have h_ := e1; rw [add_plain] at h_; exact h_
    have e2 : (W.alloc (.cells #[.int .i64 f0, .string g0, .string g1, .int .u8 g2, .int .i64 g3, .int .i64 g4, .int .i64 g5, .int .i64 g6, .string g7, .string f2] 45)).cell? ⟨g, p.length * 8 + 2, none⟩ = some (.int .u8 n.f2) := by have h_ := e2; rw [add_plain] at h_; exact h_
    have e3 : (W.alloc (.cells #[.int .i64 f0, .string g0, .string g1, .int .u8 g2, .int .i64 g3, .int .i64 g4, .int .i64 g5, .int .i64 g6, .string g7, .string f2] 45)).cell? ⟨g, p.length * 8 + 3, none⟩ = some (.int .i64 n.f3) := by have h_ := e3; rw [add_plain] at h_; exact h_
    have e4 : (W.alloc (.cells #[.int .i64 f0, .string g0, .string g1, .int .u8 g2, .int .i64 g3, .int .i64 g4, .int .i64 g5, .int .i64 g6, .string g7, .string f2] 45)).cell? ⟨g, p.length * 8 + 4, none⟩ = some (.int .i64 n.f4) := by have h_ := e4; rw [add_plain] at h_; exact h_
    have e5 : (W.alloc (.cells #[.int .i64 f0, .string g0, .string g1, .int .u8 g2, .int .i64 g3, .int .i64 g4, .int .i64 g5, .int .i64 g6, .string g7, .string f2] 45)).cell? ⟨g, p.length * 8 + 5, none⟩ = some (.int .i64 n.f5) := by have h_ := e5; rw [add_plain] at h_; exact h_
    have e6 : (W.alloc (.cells #[.int .i64 f0, .string g0, .string g1, .int .u8 g2, .int .i64 g3, .int .i64 g4, .int .i64 g5, .int .i64 g6, .string g7, .string f2] 45)).cell? ⟨g, p.length * 8 + 6, none⟩ = some (.int .i64 n.f6) := by have h_ := e6; rw [add_plain] at h_; exact h_
    have e7 : (W.alloc (.cells #[.int .i64 f0, .string g0, .string g1, .int .u8 g2, .int .i64 g3, .int .i64 g4, .int .i64 g5, .int .i64 g6, .string g7, .string f2] 45)).cell? ⟨g, p.length * 8 + 7, none⟩ = some (.string n.f7) := by have h_ := e7; rw [add_plain] at h_; exact h_
    have hseg := Kd.R_seg (base := w.heap.size) (okp := fun k => False) hR0 (p.length : Int) (by omega) (by omega) (c := ndC n) (seg := [.string (n.f7 ++ f2)]) (j := 7) (x' := addD n f2) rfl (by
      intro j u hu
      rw [Int.toNat_natCast]
      match j, hu with
      | 0, hu => exact e0.trans (by simpa [ndC] using hu)
      | 1, hu => exact e1.trans (by simpa [ndC] using hu)
      | 2, hu => exact e2.trans (by simpa [ndC] using hu)
      | 3, hu => exact e3.trans (by simpa [ndC] using hu)
      | 4, hu => exact e4.trans (by simpa [ndC] using hu)
      | 5, hu => exact e5.trans (by simpa [ndC] using hu)
      | 6, hu => exact e6.trans (by simpa [ndC] using hu)
      | 7, hu => exact e7.trans (by simpa [ndC] using hu)
      | j + 8, hu => simp [ndC] at hu) (Nat.le_refl 8) (k41_mkM _ _ _ (addD n f2)) (fun k hk => hk.elim)
    have HSEG := Aside0.mk hseg
    have HGL := Aside0.mk (show w.heap.size ≤ g ∧ some w.heap.size ≠ some g ∧ some (w.heap.size + 1) ≠ some g from ⟨Kd.R_base hR0 g rfl, own_nd hR0 GB.out.out (by decide), own_nd hR0 GB.out.opn (by decide)⟩)
    have hw1 : IntKind.i64.wrap (((p.length + 1 : Nat) : Int) - 1) = (p.length : Int) := by rw [i64_w, wrap_id (by rw [hpl] at hl; omega) (by rw [hpl] at hl; omega)]; omega
    have hw2 : IntKind.i64.wrap ((p.length : Int) + 1 - 1) = (p.length : Int) := by rw [i64_w, wrap_id (by rw [hpl] at hl; omega) (by rw [hpl] at hl; omega)]; omega
    have hw3 : wrap64 (p.length : Int) = (p.length : Int) := wrap_id (by omega) (by rw [hpl] at hl; omega)
    have hp0 : (0 : Int) ≤ (p.length : Int) := by omega
    have hp1 : (p.length : Int) < ((p.length + 1 : Nat) : Int) := by omega
    have hp2 : (p.length : Int) < (p.length : Int) + 1 := by omega
    have hnb : ¬ 9223372036854775807 < n.f7.size + f2.size := by omega
    clear hseg hR0 hs hb hsz hl h0 h1
    go_enter Tryz.func21, Tryz.ntmps21
    go_upto_region 5 with (fail)
    refine start_ (n := 13) (S := fun w' => w'.cell? ⟨w.heap.size, 0, none⟩ = some (.slice (some ⟨g, 0, none⟩) (p.length + 1) cp) ∧ w'.cell? ⟨g, p.length * 8 + 7, none⟩ = some (.string n.f7) ∧ w'.cell? ⟨W.heap.size, 9, none⟩ = some (.string f2)) (ds := [12]) #[false, false, false, false, false, false, false, false, false, false, false, false, false] (by kernel_rfl) rfl rfl ⟨zo, e7, x9⟩ (fun hHeld => ?_)
    refine take_ (i := 0) (N := some 25) (v := ?_) (a' := ?_) #[true, false, false, false, false, false, false, false, false, false, false, false, false] rfl rfl (by kernel_rfl) (fun _ _ _ h => h) (Or.inl ⟨by rfl, ?_⟩) hHeld ?_ ?_
    rotate_left
    · rintro w' ⟨s0, s1, s2⟩
      go_simp
      with_reducible rfl
    rotate_left
    · aput
      rfl
    refine take_ (i := 1) (N := some 26) (v := ?_) (a' := ?_) #[true, true, false, false, false, false, false, false, false, false, false, false, false] rfl rfl (by kernel_rfl) (fun _ _ _ h => h) (Or.inl ⟨by rfl, ?_⟩) hHeld ?_ ?_
    rotate_left
    · rintro w' ⟨s0, s1, s2⟩
      go_simp
      with_reducible rfl
    rotate_left
    · aput
      rfl
    refine pure_ (i := 2) (N := some 27) (v := ?_) (a' := ?_) #[true, true, true, false, false, false, false, false, false, false, false, false, false] rfl rfl (by kernel_rfl) (fun _ _ _ h => h) (Or.inl ⟨by rfl, ?_⟩) ?_ ?_
    rotate_left
    · intro w'
      go_simp
      with_reducible rfl
    rotate_left
    · aput
      rfl
    refine pure_ (i := 3) (N := some 28) (v := ?_) (a' := ?_) #[true, true, true, true, false, false, false, false, false, false, false, false, false] rfl rfl (by kernel_rfl) (fun _ _ _ h => h) (Or.inl ⟨by rfl, ?_⟩) ?_ ?_
    rotate_left
    · intro w'
      go_simp
      with_reducible rfl
    rotate_left
    · aput
      rfl
    refine pure_ (i := 4) (N := some 29) (v := ?_) (a' := ?_) #[true, true, true, true, true, false, false, false, false, false, false, false, false] rfl rfl (by kernel_rfl) (fun _ _ _ h => h) (Or.inl ⟨by rfl, ?_⟩) ?_ ?_
    rotate_left
    · intro w'
      go_simp
      with_reducible rfl
    rotate_left
    · aput
      rfl
    refine pure_ (i := 5) (N := some 30) (v := ?_) (a' := ?_) #[true, true, true, true, true, true, false, false, false, false, false, false, false] rfl rfl (by kernel_rfl) (fun _ _ _ h => h) (Or.inl ⟨by rfl, ?_⟩) ?_ ?_
    rotate_left
    · intro w'
      go_simp
      with_reducible rfl
    rotate_left
    · aput
      rfl
    refine take_ (i := 6) (N := some 31) (v := ?_) (a' := ?_) #[true, true, true, true, true, true, true, false, false, false, false, false, false] rfl rfl (by kernel_rfl) (fun _ _ _ h => h) (Or.inl ⟨by rfl, ?_⟩) hHeld ?_ ?_
    rotate_left
    · rintro w' ⟨s0, s1, s2⟩
      go_simp
      with_reducible rfl
    rotate_left
    · aput
      rfl
    refine pure_ (i := 7) (N := some 32) (v := ?_) (a' := ?_) #[true, true, true, true, true, true, true, true, false, false, false, false, false] rfl rfl (by kernel_rfl) (fun _ _ _ h => h) (Or.inl ⟨by rfl, ?_⟩) ?_ ?_
    rotate_left
    · intro w'
      go_simp
      with_reducible rfl
    rotate_left
    · aput
      rfl
    refine take_ (i := 8) (N := some 33) (v := ?_) (a' := ?_) #[true, true, true, true, true, true, true, true, true, false, false, false, false] rfl rfl (by kernel_rfl) (fun _ _ _ h => h) (Or.inl ⟨by rfl, ?_⟩) hHeld ?_ ?_
    rotate_left
    · rintro w' ⟨s0, s1, s2⟩
      go_simp
      with_reducible rfl
    rotate_left
    · aput
      rfl
    refine pure_ (i := 9) (N := some 34) (v := ?_) (a' := ?_) #[true, true, true, true, true, true, true, true, true, true, false, false, false] rfl rfl (by kernel_rfl) (fun _ _ _ h => h) (Or.inl ⟨by rfl, ?_⟩) ?_ ?_
    rotate_left
    · intro w'
      go_simp
      with_reducible rfl
    rotate_left
    · aput
      rfl
    refine pure_ (i := 10) (N := some 35) (v := ?_) (a' := ?_) #[true, true, true, true, true, true, true, true, true, true, true, false, false] rfl rfl (by kernel_rfl) (fun _ _ _ h => h) (Or.inl ⟨by rfl, ?_⟩) ?_ ?_
    rotate_left
    · intro w'
      go_simp
      with_reducible rfl
    rotate_left
    · aput
      rfl
    refine pure_ (i := 11) (N := some 36) (v := ?_) (a' := ?_) #[true, true, true, true, true, true, true, true, true, true, true, true, false] rfl rfl (by kernel_rfl) (fun _ _ _ h => h) (Or.inl ⟨by rfl, ?_⟩) ?_ ?_
    rotate_left
    · intro w'
      go_simp
      with_reducible rfl
    rotate_left
    · aput
      rfl
    refine last_ (i := 12) (N := none) #[true, true, true, true, true, true, true, true, true, true, true, true, true] rfl rfl (by kernel_rfl) (by decide) (fun K hK => ?_)
    rw [if_pos (by rfl)]
    go_simp
    refine hK.out _ _ ?_
    clear hK K
    refine done_ (by kernel_rfl) ?_
    go_wp2_with (fail)
    go_ret
    first | exact ⟨rfl, some ⟨g, 0, none⟩, cp, ⟨seg_at GB.out HSEG.out HGL.out⟩⟩ | exact ⟨some ⟨g, 0, none⟩, cp, rfl, ⟨seg_at GB.out HSEG.out HGL.out⟩⟩
  have b1 : (f0 == 1) = false := beq_eq_false_iff_ne.2 h1
  by_cases h2 : f0 = 2
  · have b2 : (f0 == 2) = true := beq_iff_eq.2 h2
    cases b with
    | false =>
      rw [takeO_2f h2]
      clear h0 h1 h2
      go_enter Tryz.func21, Tryz.ntmps21
      go_wp2_with (fail)
      go_ret
      first | exact ⟨rfl, A, cp, ⟨GB.out⟩⟩ | exact ⟨A, cp, rfl, ⟨GB.out⟩⟩
    | true =>
      rw [takeO_2t h2]
      clear h0 h1 h2
      go_enter Tryz.func21, Tryz.ntmps21
      go_wp2_with (fail)
      go_ret
      first | exact ⟨rfl, A, cp, ⟨GB.out.flag false⟩⟩ | exact ⟨A, cp, rfl, ⟨GB.out.flag false⟩⟩
  · have b2 : (f0 == 2) = false := beq_eq_false_iff_ne.2 h2
    rw [takeO_n h0 h1 h2]
    clear h0 h1 h2
    go_enter Tryz.func21, Tryz.ntmps21
    go_wp2_with (fail)
    go_ret
    first | exact ⟨rfl, A, cp, ⟨GB.out⟩⟩ | exact ⟨A, cp, rfl, ⟨GB.out⟩⟩
end Go.Proofs.YtpedagpcblnnhaaGreat.X
