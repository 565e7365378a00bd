import Derived.Test.YtpedagpcblnnhaaGreatXK
import Derived.Test.YtpedagpcblnnhaaGreatP02p
import Derived.Test.YtpedagpcblnnhaaGreatXGlong
import Derived.Test.YtpedagpcblnnhaaGreatYAll
import Derived.Deep.RegionHeld3
import Derived.Laws.EntriesVeiled
import Derived.WalkSpells
namespace Go.Proofs.YtpedagpcblnnhaaGreat.X
open Go.RowKit Go.Proofs.YtpedagpcblnnhaaGreatW.PrintWords Go.Proofs.YtpedagpcblnnhaaGreatW.PrintLast Go.Proofs.YtpedagpcblnnhaaGreatW.PrintMore
attribute [local go_sem] max2_int min2_int max_two min_two
set_option linter.unusedVariables false
set_option linter.unusedSimpArgs false
section
open Go.Proofs.YtpedagpcblnnhaaGreatY
set_option maxRecDepth 100000
def wordO (s : ByteArray) : Option Bool := if s.toList = [] then some true else long_Text.f s
set_option maxHeartbeats 800000 in
theorem parse_words1.at_ (s : ByteArray) (r : Bool) (w : World) (h : wordO s = some r) :
    Calls Tryz.prog 91 #[.string s] w fun e w' => e = .returned (.bool r) ∧ Drawn0 w w' := by
  unfold wordO at h
  by_cases c : s.toList = []
  · rw [if_pos c] at h
    obtain rfl := Option.some.inj h
    have c1 : (s.toList == []) = true := beq_iff_eq.2 c
    go_enter Tryz.func91, Tryz.ntmps91
    go_wp2
    go_ret
    exact ⟨by first | rfl | simp [c], Drawn0.refl _⟩
  · rw [if_neg c] at h
    have hl := fun W => long_Text.calls s r W h
    have c1 : (s.toList == []) = false := beq_eq_false_iff_ne.2 c
    clear h
    go_enter Tryz.func91, Tryz.ntmps91
    go_wp2_with (first | (go_at_call 63; refine (hl _).mono ?_; rintro e w1 ⟨rfl, hb⟩; have HB1 := Aside0.mk hb; clear hb))
    go_ret
    exact ⟨rfl, HB1.out⟩
end
section
open Go.Proofs.YtpedagpcblnnhaaGreatY
set_option maxRecDepth 100000
def parse_words.f (a0_0 : Int) (a0_1 a0_2 : ByteArray) (a0_3 a0_4 a0_5 a0_6 a0_7 : Int) (a0_8 : ByteArray) (a0_9 a0_10 : Int) (a0_11 a0_12 a0_13 : ByteArray) : Option Bool := (wordO a0_12).bind fun t => if t = true then wordO a0_13 else some false
set_option maxHeartbeats 1600000 in
theorem parse_words.calls (a0_0 : Int) (a0_1 a0_2 : ByteArray) (a0_3 a0_4 a0_5 a0_6 a0_7 : Int) (a0_8 : ByteArray) (a0_9 a0_10 : Int) (a0_11 a0_12 a0_13 : ByteArray) (r : Bool) (w : World) (h : parse_words.f a0_0 a0_1 a0_2 a0_3 a0_4 a0_5 a0_6 a0_7 a0_8 a0_9 a0_10 a0_11 a0_12 a0_13 = some r) :
    Calls Tryz.prog 57 #[.agg #[.int .i64 a0_0, .string a0_1, .string a0_2, .int .u8 a0_3, .int .i64 a0_4, .int .i64 a0_5, .int .i64 a0_6, .int .i64 a0_7, .string a0_8, .int .i64 a0_9, .int .i64 a0_10, .string a0_11, .string a0_12, .string a0_13]] w fun e w' => e = .returned (.bool r) ∧ Below w.heap.size w w' := by
  unfold parse_words.f at h
  obtain ⟨t, h1, h⟩ := Option.bind_eq_some_iff.1 h
  have h1 := fun W => parse_words1.at_ a0_12 t W h1
  have HB0 := Aside0.mk (below_alloc (Below.refl w.heap.size w) (.cells #[.int .i64 a0_0, .string a0_1, .string a0_2, .int .u8 a0_3, .int .i64 a0_4, .int .i64 a0_5, .int .i64 a0_6, .int .i64 a0_7, .string a0_8, .int .i64 a0_9, .int .i64 a0_10, .string a0_11, .string a0_12, .string a0_13] 49))
  have HX0 := Aside0.mk (heap_alloc_new w (.cells #[.int .i64 a0_0, .string a0_1, .string a0_2, .int .u8 a0_3, .int .i64 a0_4, .int .i64 a0_5, .int .i64 a0_6, .int .i64 a0_7, .string a0_8, .int .i64 a0_9, .int .i64 a0_10, .string a0_11, .string a0_12, .string a0_13] 49))
  cases t with
  | false =>
    rw [if_neg (by decide)] at h
    obtain rfl := Option.some.inj h
    clear h
    go_enter Tryz.func57, Tryz.ntmps57
    go_wp2_with (first | (have _t := HB0; go_at_call 91; refine (h1 _).mono ?_; rintro e w1 ⟨rfl, hd⟩; have hb := Drawn0.below hd; have HB1 := Aside0.mk (below_step HB0.out hb); have HX1 := Aside0.mk (blk_below HX0.out hb); clear hb hd; have z12_1 := (blk_cell HX1.out 12).trans (show _ = some (Value.string a0_12) from rfl); have z13_1 := (blk_cell HX1.out 13).trans (show _ = some (Value.string a0_13) from rfl); clear HB0))
    go_ret
    exact ⟨rfl, HB1.out⟩
  | true =>
    rw [if_pos rfl] at h
    have h2 := fun W => parse_words1.at_ a0_13 r W h
    clear h
    go_enter Tryz.func57, Tryz.ntmps57
    go_wp2_with (first | (have _t := HB0; go_at_call 91; refine (h1 _).mono ?_; rintro e w1 ⟨rfl, hd⟩; have hb := Drawn0.below hd; have HB1 := Aside0.mk (below_step HB0.out hb); have HX1 := Aside0.mk (blk_below HX0.out hb); clear hb hd; have z12_1 := (blk_cell HX1.out 12).trans (show _ = some (Value.string a0_12) from rfl); have z13_1 := (blk_cell HX1.out 13).trans (show _ = some (Value.string a0_13) from rfl); clear HB0) | (have _t := HB1; go_at_call 91; refine (h2 _).mono ?_; rintro e w2 ⟨rfl, hd⟩; have hb := Drawn0.below hd; have HB2 := Aside0.mk (below_step HB1.out hb); have HX2 := Aside0.mk (blk_below HX1.out hb); clear hb hd; have z12_2 := (blk_cell HX2.out 12).trans (show _ = some (Value.string a0_12) from rfl); have z13_2 := (blk_cell HX2.out 13).trans (show _ = some (Value.string a0_13) from rfl); clear HB1))
    go_ret
    exact ⟨rfl, HB2.out⟩
end
section
attribute [local go_sem high] eqA49 eqA83
open Go.Proofs.YtpedagpcblnnhaaGreatY
set_option maxRecDepth 100000
def eqSt (s t : S49) : Bool := s.f0 == t.f0 && ((s.f1.f0.toList == t.f1.f0.toList && (s.f1.f1.toList == t.f1.f1.toList && (s.f1.f2 == t.f1.f2 && (s.f1.f3 == t.f1.f3 && (s.f1.f4 == t.f1.f4 && (s.f1.f5 == t.f1.f5 && (s.f1.f6 == t.f1.f6 && (s.f1.f7.toList == t.f1.f7.toList)))))))) && (s.f2 == t.f2 && (s.f3 == t.f3 && (s.f4.toList == t.f4.toList && (s.f5.toList == t.f5.toList && (s.f6.toList == t.f6.toList))))))
def eqHd (s t : S83) : Bool := (s.f0.toList == t.f0.toList && (s.f1.toList == t.f1.toList && (s.f2.toList == t.f2.toList && (s.f3 == t.f3 && (s.f4 == t.f4 && (s.f5 == t.f5 && (s.f6 == t.f6 && (s.f7 == t.f7 && (s.f8 == t.f8 && (s.f9 == t.f9 && (s.f10 == t.f10)))))))))))
theorem st_eq (d : Nat) (w : World) (s t : S49) : (Op.equalIn (d + 3) 49 (.agg #[.int .i64 s.f0, .string s.f1.f0, .string s.f1.f1, .int .u8 s.f1.f2, .int .i64 s.f1.f3, .int .i64 s.f1.f4, .int .i64 s.f1.f5, .int .i64 s.f1.f6, .string s.f1.f7, .int .i64 s.f2, .int .i64 s.f3, .string s.f4, .string s.f5, .string s.f6]) (.agg #[.int .i64 t.f0, .string t.f1.f0, .string t.f1.f1, .int .u8 t.f1.f2, .int .i64 t.f1.f3, .int .i64 t.f1.f4, .int .i64 t.f1.f5, .int .i64 t.f1.f6, .string t.f1.f7, .int .i64 t.f2, .int .i64 t.f3, .string t.f4, .string t.f5, .string t.f6])).run Tryz.prog w = .ok (eqSt s t) w := eqA49 d w _ _ _ _ _ _ _ _ _ _ _ _ _ _ _ _ _ _ _ _ _ _ _ _ _ _ _ _
theorem hd_eq (d : Nat) (w : World) (s t : S83) : (Op.equalIn (d + 2) 83 (.agg #[.string s.f0, .string s.f1, .string s.f2, .int .i64 s.f3, .int .i64 s.f4, .int .i64 s.f5, .int .i64 s.f6, .int .i64 s.f7, .int .u8 s.f8, .int .i64 s.f9, .int .i64 s.f10]) (.agg #[.string t.f0, .string t.f1, .string t.f2, .int .i64 t.f3, .int .i64 t.f4, .int .i64 t.f5, .int .i64 t.f6, .int .i64 t.f7, .int .u8 t.f8, .int .i64 t.f9, .int .i64 t.f10])).run Tryz.prog w = .ok (eqHd s t) w := eqA83 d w _ _ _ _ _ _ _ _ _ _ _ _ _ _ _ _ _ _ _ _ _ _
theorem must_yes (c : Int) (w : World) :
    Calls Tryz.prog 36 #[.bool true, .int .i64 c] w fun e w' => e = .returned (.tuple #[]) ∧ w = w' := by
  go_enter Tryz.func36, Tryz.ntmps36
  go_wp2
  go_end0
  exact ⟨rfl, rfl⟩
theorem must_no (c : Int) (w : World) :
    Calls Tryz.prog 36 #[.bool false, .int .i64 c] w fun e w' => e = .panicked [{ v := .iface 67 (.agg #[.int .i64 c]), recovered := false }] ∧ w = w' := by
  go_enter Tryz.func36, Tryz.ntmps36
  go_wp2
  exact ⟨rfl, rfl, rfl⟩
end
section
open Go.Proofs.YtpedagpcblnnhaaGreatY
set_option maxRecDepth 100000
abbrev Pst := S49
abbrev Evt := S45
theorem R_low {α : Type} {d : Kd α} {e base : Nat} {W : World} {v : Value} {xs : List α} (hR : Kd.R d e W base (fun _ => True) v xs) {p : Addr} (hp : p.block < base) (x : Value) : Kd.R d e (W.setCell p x) base (fun _ => True) v xs :=
  Kd.R_mono (Kd.R_far (Kd.R_mono (Kd.R_bound hR) (ok' := fun k => k ≠ p.block) (fun k hk he => by have := hk.2.1; omega)) (fun k hk => hk) x) (fun _ _ => trivial)
structure PAt (w0 : World) (b : Nat) (s : Pst) (l : List Evt) (A : Option Addr) (c : Nat) (W : World) : Prop where
  turn : Turn (fun k => k = b) w0 W
  lt : b < w0.heap.size
  box : W.heap[b]? = some (.cells #[.int .i64 s.f0, .string s.f1.f0, .string s.f1.f1, .int .u8 s.f1.f2, .int .i64 s.f1.f3, .int .i64 s.f1.f4, .int .i64 s.f1.f5, .int .i64 s.f1.f6, .string s.f1.f7, .int .i64 s.f2, .int .i64 s.f3, .string s.f4, .string s.f5, .string s.f6, .slice A l.length c] 72 (0, 0))
  row : Kd.R k45 45 W w0.heap.size (fun _ => True) (.slice A l.length c) l
theorem PAt.step {w0 : World} {b : Nat} {s : Pst} {l : List Evt} {A : Option Addr} {c : Nat} {W W' : World} (G : PAt w0 b s l A c W) (h : Below W.heap.size W W') : PAt w0 b s l A c W' :=
  ⟨G.turn.trans (Turn.of_below h), G.lt, blk_below G.box h, Kd.R_below G.row h⟩
theorem PAt.set {w0 : World} {b : Nat} {s : Pst} {l : List Evt} {A : Option Addr} {c : Nat} {W : World} (G : PAt w0 b s l A c W) (j : Nat) (v : Value) (s' : Pst) (h : (#[.int .i64 s.f0, .string s.f1.f0, .string s.f1.f1, .int .u8 s.f1.f2, .int .i64 s.f1.f3, .int .i64 s.f1.f4, .int .i64 s.f1.f5, .int .i64 s.f1.f6, .string s.f1.f7, .int .i64 s.f2, .int .i64 s.f3, .string s.f4, .string s.f5, .string s.f6, .slice A l.length c] : Array Value).setIfInBounds j v = #[.int .i64 s'.f0, .string s'.f1.f0, .string s'.f1.f1, .int .u8 s'.f1.f2, .int .i64 s'.f1.f3, .int .i64 s'.f1.f4, .int .i64 s'.f1.f5, .int .i64 s'.f1.f6, .string s'.f1.f7, .int .i64 s'.f2, .int .i64 s'.f3, .string s'.f4, .string s'.f5, .string s'.f6, .slice A l.length c]) : PAt w0 b s' l A c (W.setCell ⟨b, j, none⟩ v) :=
  ⟨G.turn.trans (Turn.setCell _ _ rfl), G.lt, blk_put G.box j v h, R_low G.row G.lt v⟩
theorem PAt.cell {w0 : World} {b : Nat} {s : Pst} {l : List Evt} {A : Option Addr} {c : Nat} {W : World} (G : PAt w0 b s l A c W) (j : Nat) : W.cell? ⟨b, j, none⟩ = (#[.int .i64 s.f0, .string s.f1.f0, .string s.f1.f1, .int .u8 s.f1.f2, .int .i64 s.f1.f3, .int .i64 s.f1.f4, .int .i64 s.f1.f5, .int .i64 s.f1.f6, .string s.f1.f7, .int .i64 s.f2, .int .i64 s.f3, .string s.f4, .string s.f5, .string s.f6, .slice A l.length c] : Array Value)[j]? := blk_cell G.box j
theorem PAt.lt2 {w0 : World} {b : Nat} {s : Pst} {l : List Evt} {A : Option Addr} {c : Nat} {W : World} (G : PAt w0 b s l A c W) : w0.heap.size ≤ W.heap.size := G.turn.size
theorem PAt.frozen {w0 : World} {b : Nat} {s : Pst} {l : List Evt} {A : Option Addr} {c : Nat} {W : World} (G : PAt w0 b s l A c W) (j : Nat) : W.frozen? ⟨b, j, none⟩ = false := blk_frozen G.box j
theorem turn_low {b : Nat} {w0 W W' : World} (h : Turn (fun k => k = b) w0 W) (k : Below w0.heap.size W W') (hs : W.heap.size ≤ W'.heap.size := k.size) : Turn (fun k => k = b) w0 W' :=
  ⟨k.os.trans h.os, k.tape.trans h.tape, k.output.trans h.output, Nat.le_trans h.size hs, fun i hi hn => (k.block i hi).trans (h.block i hi hn)⟩
def KeepB (b : Nat) (v : Value) (W W' : World) : Prop := ∀ g, g < W.heap.size → g ≠ b → some g ≠ v.ownBlock → W'.heap[g]? = W.heap[g]?
theorem own_typed2 {W : World} {base g : Nat} {v : Value} {l : List Evt} {cs : Array Value} {T : TypeId} (hR : Kd.R k45 45 W base (fun _ => True) v l) (hZ : W.heap[g]? = some (.cells cs T (0, 0))) (hT : T ≠ 45) : some g ≠ v.ownBlock := fun e => by
  obtain ⟨_, _, _, q, hq, cells, hc⟩ := (Kd.R_bound hR).1 g e.symm
  rw [hZ] at hc
  injection hc with hc
  injection hc with _ hc _
  have hE : k45.E = [] := by first | rfl | decide
  have : q = 45 := by simpa [hE] using hq
  exact hT (hc.trans this)
theorem info_ev : (Tryz.prog.info? 45).map (fun i => (i.zero, i.size, i.bytes)) = some (some (.agg #[.int .i64 0, .string ⟨#[]⟩, .string ⟨#[]⟩, .int .u8 0, .int .i64 0, .int .i64 0, .int .i64 0, .int .i64 0, .string ⟨#[]⟩, .string ⟨#[]⟩]), 10, 112) := by kernel_rfl
theorem ev_row {W : World} {g : Nat} (x : Evt) (h : W.heap[g]? = some (.cells #[.int .i64 x.f0, .string x.f1.f0, .string x.f1.f1, .int .u8 x.f1.f2, .int .i64 x.f1.f3, .int .i64 x.f1.f4, .int .i64 x.f1.f5, .int .i64 x.f1.f6, .string x.f1.f7, .string x.f2] 45 (0, 0))) : Kd.C k45 W (some ⟨g, 0, none⟩) 1 [x] := by
  refine ⟨rfl, by simp, fun _ => ⟨_, rfl, fun j p hp => ?_⟩⟩
  cases j with
  | succ j => simp at hp
  | zero =>
    simp only [List.getElem?_cons_zero, Option.some.injEq] at hp
    subst hp
    refine ⟨[.int .i64 x.f0, .string x.f1.f0, .string x.f1.f1, .int .u8 x.f1.f2, .int .i64 x.f1.f3, .int .i64 x.f1.f4, .int .i64 x.f1.f5, .int .i64 x.f1.f6, .string x.f1.f7, .string x.f2], rfl, ?_, fun i u hu => ?_⟩
    · exact Kd.K_of_M (base := 0) (ok := fun _ => True) k45 (k45_mkM _ 0 (fun _ => True) x)
    · rw [add_plain, blk_cell h]
      rw [← hu]
      simp
set_option maxHeartbeats 3200000 in
theorem tell.at_ (w0 : World) (b : Nat) (s : Pst) (l : List Evt) (A : Option Addr) (c : Nat) (x : Evt) (hl : l.length ≤ 1000) (W : World) (G : PAt w0 b s l A c W) :
    Calls Tryz.prog 65 #[.pointer (some ⟨b, 0, none⟩), .agg #[.int .i64 x.f0, .string x.f1.f0, .string x.f1.f1, .int .u8 x.f1.f2, .int .i64 x.f1.f3, .int .i64 x.f1.f4, .int .i64 x.f1.f5, .int .i64 x.f1.f6, .string x.f1.f7, .string x.f2]] W fun e w' => e = .returned (.tuple #[]) ∧ ∃ A' c', PAt w0 b s (l ++ [x]) A' c' w' ∧ KeepB b (.slice A l.length c) W w' := by
  have HS0 := Aside0.mk (show ∀ g, g < W.heap.size → (W.alloc (.cells #[.int .i64 x.f0, .string x.f1.f0, .string x.f1.f1, .int .u8 x.f1.f2, .int .i64 x.f1.f3, .int .i64 x.f1.f4, .int .i64 x.f1.f5, .int .i64 x.f1.f6, .string x.f1.f7, .string x.f2] 45)).heap[g]? = W.heap[g]? from fun g hg => Below.heap_alloc W _ g hg)
  have HG0 := Aside0.mk (G.step (below_alloc (Below.refl _ _) (.cells #[.int .i64 x.f0, .string x.f1.f0, .string x.f1.f1, .int .u8 x.f1.f2, .int .i64 x.f1.f3, .int .i64 x.f1.f4, .int .i64 x.f1.f5, .int .i64 x.f1.f6, .string x.f1.f7, .string x.f2] 45)))
  have HE0 := Aside0.mk (heap_alloc_new W (.cells #[.int .i64 x.f0, .string x.f1.f0, .string x.f1.f1, .int .u8 x.f1.f2, .int .i64 x.f1.f3, .int .i64 x.f1.f4, .int .i64 x.f1.f5, .int .i64 x.f1.f6, .string x.f1.f7, .string x.f2] 45))
  have HLE := Aside0.mk G.lt2
  clear G
  go_enter Tryz.func65, Tryz.ntmps65
  go_upto_region 1 with (fail)
  obtain ⟨W1, hW1⟩ : ∃ W', W.alloc (.cells #[.int .i64 x.f0, .string x.f1.f0, .string x.f1.f1, .int .u8 x.f1.f2, .int .i64 x.f1.f3, .int .i64 x.f1.f4, .int .i64 x.f1.f5, .int .i64 x.f1.f6, .string x.f1.f7, .string x.f2] 45) = W' := ⟨_, rfl⟩
  have HSZ := Aside0.mk (show W.heap.size ≤ W1.heap.size from by rw [← hW1]; simp)
  rw [hW1] at HG0 HE0 HS0 ⊢
  obtain ⟨g, hg_⟩ : ∃ g, W.heap.size = g := ⟨_, rfl⟩
  rw [hg_] at HE0 ⊢
  rw [hg_] at HSZ HS0
  have HGW := Aside0.mk hg_
  clear hW1
  have z14 := (HG0.out.cell 14).trans (show _ = some (Value.slice A l.length c) from rfl)
  have x0 := (blk_cell HE0.out 0).trans (show _ = some (Value.int .i64 x.f0) from rfl)
  have x1 := (blk_cell HE0.out 1).trans (show _ = some (Value.string x.f1.f0) from rfl)
  have x2 := (blk_cell HE0.out 2).trans (show _ = some (Value.string x.f1.f1) from rfl)
  have x3 := (blk_cell HE0.out 3).trans (show _ = some (Value.int .u8 x.f1.f2) from rfl)
  have x4 := (blk_cell HE0.out 4).trans (show _ = some (Value.int .i64 x.f1.f3) from rfl)
  have x5 := (blk_cell HE0.out 5).trans (show _ = some (Value.int .i64 x.f1.f4) from rfl)
  have x6 := (blk_cell HE0.out 6).trans (show _ = some (Value.int .i64 x.f1.f5) from rfl)
  have x7 := (blk_cell HE0.out 7).trans (show _ = some (Value.int .i64 x.f1.f6) from rfl)
  have x8 := (blk_cell HE0.out 8).trans (show _ = some (Value.string x.f1.f7) from rfl)
  have x9 := (blk_cell HE0.out 9).trans (show _ = some (Value.string x.f2) from rfl)
  refine start_ (n := 11) (S := fun w' => w'.cell? ⟨b, 14, none⟩ = some (.slice A l.length c) ∧ w'.cell? ⟨g, 0, none⟩ = some (.int .i64 x.f0) ∧ w'.cell? ⟨g, 1, none⟩ = some (.string x.f1.f0) ∧ w'.cell? ⟨g, 2, none⟩ = some (.string x.f1.f1) ∧ w'.cell? ⟨g, 3, none⟩ = some (.int .u8 x.f1.f2) ∧ w'.cell? ⟨g, 4, none⟩ = some (.int .i64 x.f1.f3) ∧ w'.cell? ⟨g, 5, none⟩ = some (.int .i64 x.f1.f4) ∧ w'.cell? ⟨g, 6, none⟩ = some (.int .i64 x.f1.f5) ∧ w'.cell? ⟨g, 7, none⟩ = some (.int .i64 x.f1.f6) ∧ w'.cell? ⟨g, 8, none⟩ = some (.string x.f1.f7) ∧ w'.cell? ⟨g, 9, none⟩ = some (.string x.f2)) (ds := [7, 10]) #[false, false, false, false, false, false, false, false, false, false, false] (by kernel_rfl) rfl rfl ⟨z14, x0, x1, x2, x3, x4, x5, x6, x7, x8, x9⟩ (fun hHeld => ?_)
  refine pure_ (i := 0) (N := some 4) (v := ?_) (a' := ?_) #[true, false, false, false, false, false, false, false, false, false, false] rfl rfl (by kernel_rfl) (fun _ _ _ h => h) (Or.inl ⟨by rfl, ?_⟩) ?_ ?_
  rotate_left
  · intro w'
    go_simp
    with_reducible rfl
  rotate_left
  · aput
    rfl
  refine pure_ (i := 1) (N := some 5) (v := ?_) (a' := ?_) #[true, true, false, false, false, false, false, false, false, false, false] rfl rfl (by kernel_rfl) (fun _ _ _ h => h) (Or.inl ⟨by rfl, ?_⟩) ?_ ?_
  rotate_left
  · intro w'
    go_simp
    with_reducible rfl
  rotate_left
  · aput
    rfl
  refine pure_ (i := 2) (N := some 6) (v := ?_) (a' := ?_) #[true, true, true, false, false, false, false, false, false, false, false] rfl rfl (by kernel_rfl) (fun _ _ _ h => h) (Or.inl ⟨by rfl, ?_⟩) ?_ ?_
  rotate_left
  · intro w'
    go_simp
    with_reducible rfl
  rotate_left
  · aput
    rfl
  refine pure_ (i := 3) (N := some 7) (v := ?_) (a' := ?_) #[true, true, true, true, false, false, false, false, false, false, false] rfl rfl (by kernel_rfl) (fun _ _ _ h => h) (Or.inl ⟨by rfl, ?_⟩) ?_ ?_
  rotate_left
  · intro w'
    go_simp
    with_reducible rfl
  rotate_left
  · aput
    rfl
  refine take_ (i := 4) (N := some 8) (v := ?_) (a' := ?_) #[true, true, true, true, true, false, false, false, false, false, false] rfl rfl (by kernel_rfl) (fun _ _ _ h => h) (Or.inl ⟨by rfl, ?_⟩) hHeld ?_ ?_
  rotate_left
  · rintro w' ⟨s0, s1, s2, s3, s4, s5, s6, s7, s8, s9, s10⟩
    go_simp
    with_reducible rfl
  rotate_left
  · aput
    rfl
  refine take_ (i := 5) (N := some 9) (v := ?_) (a' := ?_) #[true, true, true, true, true, true, false, false, false, false, false] rfl rfl (by kernel_rfl) (fun _ _ _ h => h) (Or.inl ⟨by rfl, ?_⟩) hHeld ?_ ?_
  rotate_left
  · rintro w' ⟨s0, s1, s2, s3, s4, s5, s6, s7, s8, s9, s10⟩
    go_simp
    with_reducible rfl
  rotate_left
  · aput
    rfl
  refine one_ (i := 6) (N := some 10) #[true, true, true, true, true, true, true, false, false, false, false] rfl rfl (by kernel_rfl) (by decide) (fun K hK => ?_)
  rw [if_pos (by rfl)]
  go_simp
  have HBA := below_drew (below_alloc (Below.refl W1.heap.size W1) (.cells #[.int .i64 x.f0, .string x.f1.f0, .string x.f1.f1, .int .u8 x.f1.f2, .int .i64 x.f1.f3, .int .i64 x.f1.f4, .int .i64 x.f1.f5, .int .i64 x.f1.f6, .string x.f1.f7, .string x.f2] 45))
  have HG2 := Aside0.mk (HG0.out.step HBA)
  have HE2 := Aside0.mk (blk_below HE0.out HBA)
  have HN2 := Aside0.mk (blk_drew (heap_alloc_new W1 (.cells #[.int .i64 x.f0, .string x.f1.f0, .string x.f1.f1, .int .u8 x.f1.f2, .int .i64 x.f1.f3, .int .i64 x.f1.f4, .int .i64 x.f1.f5, .int .i64 x.f1.f6, .string x.f1.f7, .string x.f2] 45)))
  have y14 := (HG2.out.cell 14).trans (show _ = some (Value.slice A l.length c) from rfl)
  have y0 := (blk_cell HE2.out 0).trans (show _ = some (Value.int .i64 x.f0) from rfl)
  have y1 := (blk_cell HE2.out 1).trans (show _ = some (Value.string x.f1.f0) from rfl)
  have y2 := (blk_cell HE2.out 2).trans (show _ = some (Value.string x.f1.f1) from rfl)
  have y3 := (blk_cell HE2.out 3).trans (show _ = some (Value.int .u8 x.f1.f2) from rfl)
  have y4 := (blk_cell HE2.out 4).trans (show _ = some (Value.int .i64 x.f1.f3) from rfl)
  have y5 := (blk_cell HE2.out 5).trans (show _ = some (Value.int .i64 x.f1.f4) from rfl)
  have y6 := (blk_cell HE2.out 6).trans (show _ = some (Value.int .i64 x.f1.f5) from rfl)
  have y7 := (blk_cell HE2.out 7).trans (show _ = some (Value.int .i64 x.f1.f6) from rfl)
  have y8 := (blk_cell HE2.out 8).trans (show _ = some (Value.string x.f1.f7) from rfl)
  have y9 := (blk_cell HE2.out 9).trans (show _ = some (Value.string x.f2) from rfl)
  refine hK.out _ _ ⟨y14, y0, y1, y2, y3, y4, y5, y6, y7, y8, y9⟩ (fun hHeld => ?_)
  clear hK K HBA z14 y14 x0 y0 x1 y1 x2 y2 x3 y3 x4 y4 x5 y5 x6 y6 x7 y7 x8 y8 x9 y9
  have HL2 := Aside0.mk (show (W1.alloc (.cells #[.int .i64 x.f0, .string x.f1.f0, .string x.f1.f1, .int .u8 x.f1.f2, .int .i64 x.f1.f3, .int .i64 x.f1.f4, .int .i64 x.f1.f5, .int .i64 x.f1.f6, .string x.f1.f7, .string x.f2] 45)).drew.heap.size = W1.heap.size + 1 by simp)
  obtain ⟨W2, hW2⟩ : ∃ W', (W1.alloc (.cells #[.int .i64 x.f0, .string x.f1.f0, .string x.f1.f1, .int .u8 x.f1.f2, .int .i64 x.f1.f3, .int .i64 x.f1.f4, .int .i64 x.f1.f5, .int .i64 x.f1.f6, .string x.f1.f7, .string x.f2] 45)).drew = W' := ⟨_, rfl⟩
  have HS2 := Aside0.mk (show ∀ i, i < g → W2.heap[i]? = W.heap[i]? from fun i hi => by rw [← hW2]; exact (Below.heap_alloc W1 _ i (by have h_ := HSZ.out; omega)).trans (HS0.out i hi))
  rw [hW2] at HG2 HE2 HN2 HL2 hHeld ⊢
  clear hW2
  refine last_ (i := 7) (N := some 11) #[true, true, true, true, true, true, true, true, false, false, false] rfl rfl (by kernel_rfl) (by decide) (fun K hK => ?_)
  refine Kd.R_append_rows_step k45 (w0 := W2) w0.heap.size (by rfl) (.tmp 8) (.tmp 10) 22 45 (.agg #[.int .i64 0, .string ⟨#[]⟩, .string ⟨#[]⟩, .int .u8 0, .int .i64 0, .int .i64 0, .int .i64 0, .int .i64 0, .string ⟨#[]⟩, .string ⟨#[]⟩]) 112 (by rfl) Tryz.underlying22 info_ev rfl (by decide) (by decide) _ l [x] (some ⟨W1.heap.size, 0, none⟩) 1 1 (fun _ => True) (fun _ => False) (by rfl) (by rfl) HG2.out.row (ev_row x HN2.out) (fun _ _ h => h) (fun _ h => h.elim) (fun _ _ => trivial) (Below.refl _ _) HG2.out.lt2 (by omega) ?_
  intro v1 w1 ho hb hg hat
  obtain ⟨A1, c1, rfl⟩ := Kd.R_slice ho
  refine hK.out _ _ ?_
  clear hK K
  have hbx := (hb.block b HG2.out.lt).trans HG2.out.box
  have HT3 := Aside0.mk (turn_low HG2.out.turn hb)
  have HR3 := Aside0.mk ho
  have HX3 := Aside0.mk hbx
  have HLT := Aside0.mk HG2.out.lt
  have HS3 := Aside0.mk (show ∀ i, i < g → some i ≠ (Value.slice A l.length c).ownBlock → w1.heap[i]? = W.heap[i]? from fun i hi hn => (hg.block i (by have h1 := HL2.out; have h2 := HSZ.out; omega) hn).trans (HS2.out i hi))
  clear ho hb hg hat hbx
  refine norm_ (a' := ?_) ?_ ?_
  rotate_left
  · show Act.put _ (some 11) _ = _
    aput
    rfl
  refine pure_ (i := 8) (N := some 12) (v := ?_) (a' := ?_) #[true, true, true, true, true, true, true, true, true, false, false] rfl rfl (by kernel_rfl) (fun _ _ _ h => h) (Or.inl ⟨by rfl, ?_⟩) ?_ ?_
  rotate_left
  · intro w'
    go_simp
    with_reducible rfl
  rotate_left
  · aput
    rfl
  refine pure_ (i := 9) (N := some 13) (v := ?_) (a' := ?_) #[true, true, true, true, true, true, true, true, true, true, false] rfl rfl (by kernel_rfl) (fun _ _ _ h => h) (Or.inl ⟨by rfl, ?_⟩) ?_ ?_
  rotate_left
  · intro w'
    go_simp
    with_reducible rfl
  rotate_left
  · aput
    rfl
  have z := (blk_cell HX3.out 14).trans (show _ = some (Value.slice A l.length c) from rfl)
  have yz := blk_frozen HX3.out 14
  refine last_ (i := 10) (N := none) #[true, true, true, true, true, true, true, true, true, true, true] rfl rfl (by kernel_rfl) (by decide) (fun K hK => ?_)
  rw [if_pos (by rfl)]
  go_simp
  refine hK.out _ _ ?_
  clear hK K
  refine done_ (by kernel_rfl) ?_
  go_end0
  refine ⟨rfl, A1, c1, ⟨HT3.out.trans (Turn.setCell _ _ rfl), HLT.out, ?_, ?_⟩, ?_⟩
  · have h_ := blk_put HX3.out 14 (.slice A1 (l ++ [x]).length c1) rfl
    have e_ : (l ++ [x]).length = l.length + 1 := by simp
    rw [e_] at h_ ⊢
    exact h_
  · exact R_low HR3.out HLT.out _
  · intro i hi hn ho
    exact (Below.heap_setCell w1 ⟨b, 14, none⟩ _ i hn).trans (HS3.out i (by have h_ := HGW.out; omega) ho)
end
section
open Go.Proofs.YtpedagpcblnnhaaGreatY
set_option maxRecDepth 100000
def nd00 : S41 := ⟨⟨#[]⟩, ⟨#[]⟩, 0, 0, 0, 0, 0, ⟨#[]⟩⟩
def st0 : Pst := ⟨0, nd00, 0, 0, ⟨#[]⟩, ⟨#[]⟩, ⟨#[]⟩⟩
def evOver : Evt := ⟨2, nd00, ⟨#[]⟩⟩
theorem PAt.store {w0 : World} {b : Nat} {s : Pst} {l : List Evt} {A : Option Addr} {c : Nat} {W : World} (G : PAt w0 b s l A c W) (s' : Pst) : PAt w0 b s' l A c (((((((((((((((W.setCell ⟨b, 0, none⟩ (.int .i64 s'.f0)).setCell ⟨b, 1, none⟩ (.string s'.f1.f0)).setCell ⟨b, 2, none⟩ (.string s'.f1.f1)).setCell ⟨b, 3, none⟩ (.int .u8 s'.f1.f2)).setCell ⟨b, 4, none⟩ (.int .i64 s'.f1.f3)).setCell ⟨b, 5, none⟩ (.int .i64 s'.f1.f4)).setCell ⟨b, 6, none⟩ (.int .i64 s'.f1.f5)).setCell ⟨b, 7, none⟩ (.int .i64 s'.f1.f6)).setCell ⟨b, 8, none⟩ (.string s'.f1.f7)).setCell ⟨b, 9, none⟩ (.int .i64 s'.f2)).setCell ⟨b, 10, none⟩ (.int .i64 s'.f3)).setCell ⟨b, 11, none⟩ (.string s'.f4)).setCell ⟨b, 12, none⟩ (.string s'.f5)).setCell ⟨b, 13, none⟩ (.string s'.f6))) :=
  ⟨(((((((((((((((G.turn).trans (Turn.setCell _ _ rfl)).trans (Turn.setCell _ _ rfl)).trans (Turn.setCell _ _ rfl)).trans (Turn.setCell _ _ rfl)).trans (Turn.setCell _ _ rfl)).trans (Turn.setCell _ _ rfl)).trans (Turn.setCell _ _ rfl)).trans (Turn.setCell _ _ rfl)).trans (Turn.setCell _ _ rfl)).trans (Turn.setCell _ _ rfl)).trans (Turn.setCell _ _ rfl)).trans (Turn.setCell _ _ rfl)).trans (Turn.setCell _ _ rfl)).trans (Turn.setCell _ _ rfl)), G.lt, by
    refine (blk_set (blk_set (blk_set (blk_set (blk_set (blk_set (blk_set (blk_set (blk_set (blk_set (blk_set (blk_set (blk_set (blk_set (G.box) 0 (.int .i64 s'.f0)) 1 (.string s'.f1.f0)) 2 (.string s'.f1.f1)) 3 (.int .u8 s'.f1.f2)) 4 (.int .i64 s'.f1.f3)) 5 (.int .i64 s'.f1.f4)) 6 (.int .i64 s'.f1.f5)) 7 (.int .i64 s'.f1.f6)) 8 (.string s'.f1.f7)) 9 (.int .i64 s'.f2)) 10 (.int .i64 s'.f3)) 11 (.string s'.f4)) 12 (.string s'.f5)) 13 (.string s'.f6)).trans ?_
    simp only [List.setIfInBounds_toArray, List.set_cons_zero, List.set_cons_succ], R_low (R_low (R_low (R_low (R_low (R_low (R_low (R_low (R_low (R_low (R_low (R_low (R_low (R_low (G.row) (p := ⟨b, 0, none⟩) G.lt _) (p := ⟨b, 1, none⟩) G.lt _) (p := ⟨b, 2, none⟩) G.lt _) (p := ⟨b, 3, none⟩) G.lt _) (p := ⟨b, 4, none⟩) G.lt _) (p := ⟨b, 5, none⟩) G.lt _) (p := ⟨b, 6, none⟩) G.lt _) (p := ⟨b, 7, none⟩) G.lt _) (p := ⟨b, 8, none⟩) G.lt _) (p := ⟨b, 9, none⟩) G.lt _) (p := ⟨b, 10, none⟩) G.lt _) (p := ⟨b, 11, none⟩) G.lt _) (p := ⟨b, 12, none⟩) G.lt _) (p := ⟨b, 13, none⟩) G.lt _⟩
set_option maxHeartbeats 3200000 in
theorem over.at_ (w0 : World) (b : Nat) (s : Pst) (l : List Evt) (A : Option Addr) (c : Nat) (hl : l.length ≤ 1000) (W : World) (G : PAt w0 b s l A c W) :
    Calls Tryz.prog 66 #[.pointer (some ⟨b, 0, none⟩)] W fun e w' => e = .returned (.tuple #[]) ∧ ∃ A' c', PAt w0 b st0 (l ++ [evOver]) A' c' w' := by
  have ht := fun W G => tell.at_ w0 b s l A c evOver hl W G
  have HG0 := Aside0.mk G
  clear G
  go_enter Tryz.func66, Tryz.ntmps66
  go_upto_region 1 with (first | (go_at_call 65; refine (ht _ HG0.out).mono ?_; rintro e w1 ⟨rfl, A1, c1, G1, _⟩; have HG1 := Aside0.mk G1; clear G1))
  have y0 := HG1.out.frozen 0
  have z0 := (HG1.out.cell 0).trans (show _ = some (Value.int .i64 s.f0) from rfl)
  have y1 := HG1.out.frozen 1
  have z1 := (HG1.out.cell 1).trans (show _ = some (Value.string s.f1.f0) from rfl)
  have y2 := HG1.out.frozen 2
  have z2 := (HG1.out.cell 2).trans (show _ = some (Value.string s.f1.f1) from rfl)
  have y3 := HG1.out.frozen 3
  have z3 := (HG1.out.cell 3).trans (show _ = some (Value.int .u8 s.f1.f2) from rfl)
  have y4 := HG1.out.frozen 4
  have z4 := (HG1.out.cell 4).trans (show _ = some (Value.int .i64 s.f1.f3) from rfl)
  have y5 := HG1.out.frozen 5
  have z5 := (HG1.out.cell 5).trans (show _ = some (Value.int .i64 s.f1.f4) from rfl)
  have y6 := HG1.out.frozen 6
  have z6 := (HG1.out.cell 6).trans (show _ = some (Value.int .i64 s.f1.f5) from rfl)
  have y7 := HG1.out.frozen 7
  have z7 := (HG1.out.cell 7).trans (show _ = some (Value.int .i64 s.f1.f6) from rfl)
  have y8 := HG1.out.frozen 8
  have z8 := (HG1.out.cell 8).trans (show _ = some (Value.string s.f1.f7) from rfl)
  have y9 := HG1.out.frozen 9
  have z9 := (HG1.out.cell 9).trans (show _ = some (Value.int .i64 s.f2) from rfl)
  have y10 := HG1.out.frozen 10
  have z10 := (HG1.out.cell 10).trans (show _ = some (Value.int .i64 s.f3) from rfl)
  have y11 := HG1.out.frozen 11
  have z11 := (HG1.out.cell 11).trans (show _ = some (Value.string s.f4) from rfl)
  have y12 := HG1.out.frozen 12
  have z12 := (HG1.out.cell 12).trans (show _ = some (Value.string s.f5) from rfl)
  have y13 := HG1.out.frozen 13
  have z13 := (HG1.out.cell 13).trans (show _ = some (Value.string s.f6) from rfl)
  go_wp2_with (fail)
  go_end0
  exact ⟨rfl, A1, c1, HG1.out.store st0⟩
end
section
open Go.Proofs.YtpedagpcblnnhaaGreatY
set_option maxRecDepth 100000
def beginsB (s whole : ByteArray) : Bool := s.toList == (whole.extract 0 (min whole.size 100)).toList
set_option maxHeartbeats 1600000 in
theorem begins.at_ (s t : ByteArray) (w : World) :
    Calls Tryz.prog 96 #[.string s, .string t] w fun e w' => e = .returned (.bool (beginsB s t)) ∧ w = w' := by
  unfold beginsB
  by_cases h : (t.size : Int) ≤ 100
  · have h1 : decide ((100 : Int) < (t.size : Int)) = false := decide_eq_false (by omega)
    have h2 : min t.size 100 = t.size := by omega
    have h3 : (t.size : Int) ≤ 100 := by omega
    rw [h2]
    go_enter Tryz.func96, Tryz.ntmps96
    go_wp2
    go_ret
    exact ⟨by first | rfl | simp, rfl⟩
  · have h1 : decide ((100 : Int) < (t.size : Int)) = true := decide_eq_true (by omega)
    have h2 : min t.size 100 = 100 := by omega
    have h3 : (100 : Int) ≤ (t.size : Int) := by omega
    have h4 : 100 ≤ t.size := by omega
    rw [h2]
    go_enter Tryz.func96, Tryz.ntmps96
    go_wp2
    go_ret
    exact ⟨by first | rfl | simp, rfl⟩
end
section
open Go.Proofs.YtpedagpcblnnhaaGreatY
set_option maxRecDepth 100000
def cutZ (s : ByteArray) : ByteArray := if endsZ s = true then s.extract 0 (s.size - 1) else s
set_option maxHeartbeats 1600000 in
theorem CutSuffixL_z.at_ (s : ByteArray) (hs : s.size ≤ 9223372036854775807) (w : World) :
    Calls Tryz.prog 97 #[.string s, .string ⟨#[0]⟩] w fun e w' => e = .returned (.tuple #[.string (cutZ s), .bool (endsZ s)]) ∧ w = w' := by
  have hh := fun W => HasSuffix_z.at_ s hs W
  have hz : endsZ s = true → 1 ≤ s.size := fun h => by
    unfold endsZ at h
    rw [Bool.and_eq_true, decide_eq_true_eq] at h
    exact h.1
  unfold cutZ
  cases he : endsZ s with
  | false =>
    rw [he] at hh
    rw [if_neg (by decide)]
    clear he hz
    go_enter Tryz.func97, Tryz.ntmps97
    go_wp2_with (first | (go_at_call 118; refine (hh _).mono ?_; rintro e w1 ⟨rfl, rfl⟩))
    go_ret2
    exact ⟨rfl, rfl⟩
  | true =>
    rw [he] at hh
    rw [if_pos rfl]
    have h1 := hz he
    have hw : IntKind.i64.wrap ((s.size : Int) - 1) = ((s.size - 1 : Nat) : Int) := by rw [i64_w]; unfold wrap64; omega
    have hb : s.size - 1 ≤ s.size := by omega
    generalize s.size - 1 = m at *
    clear he hz
    go_enter Tryz.func97, Tryz.ntmps97
    go_wp2_with (first | (go_at_call 118; refine (hh _).mono ?_; rintro e w1 ⟨rfl, rfl⟩))
    go_ret2
    exact ⟨rfl, rfl⟩
end
section
open Go.Proofs.YtpedagpcblnnhaaGreatY
set_option maxRecDepth 100000
theorem CutSuffix_z.at_ (s : ByteArray) (hs : s.size ≤ 9223372036854775807) (w : World) :
    Calls Tryz.prog 62 #[.string s, .string ⟨#[0]⟩] w fun e w' => e = .returned (.tuple #[.string (cutZ s), .bool (endsZ s)]) ∧ w = w' := by
  have hh := fun W => CutSuffixL_z.at_ s hs W
  go_enter Tryz.func62, Tryz.ntmps62
  go_wp2_with (first | (go_at_call 97; refine (hh _).mono ?_; rintro e w1 ⟨rfl, rfl⟩))
  go_ret2
  exact ⟨rfl, rfl⟩
end
end Go.Proofs.YtpedagpcblnnhaaGreat.X
