import Derived.Test.YtpedagpcblnnhaaGreatXK
import Derived.Test.YtpedagpcblnnhaaGreatXGpath
import Derived.Test.YtpedagpcblnnhaaGreatYAll
import Derived.Test.YtpedagpcblnnhaaGreatPGA
import Derived.Lib.IndexAny
import Derived.Test.YtpedagpcblnnhaaGreatP06o
import Derived.Test.YtpedagpcblnnhaaGreatXGnum
import Derived.Laws.EntriesVeiled
import Derived.WalkSpells
namespace Go.Proofs.YtpedagpcblnnhaaGreat.X
open Go.RowKit Go.Proofs.YtpedagpcblnnhaaGreatW.PrintWords Go.Proofs.YtpedagpcblnnhaaGreatW.PrintLast Go.Proofs.YtpedagpcblnnhaaGreatW.PrintMore
attribute [local go_sem] max2_int min2_int max_two min_two
set_option linter.unusedVariables false
set_option linter.unusedSimpArgs false
section
open Go.Proofs.YtpedagpcblnnhaaGreatY
theorem last_ev (s : ByteArray) (hs : s.size ≤ 9223372036854775807) (n : Nat) : n ≤ s.size → (47 : UInt8) ∉ s.data.toList.drop n →
    ∃ r, Ev (fun k => bytealg_LastIndexByteString.l0 k s 47 ((n : Int) - 1)) r ∧ ((r = -1 ∧ (47 : UInt8) ∉ s.data.toList) ∨
      ∃ m : Nat, r = m ∧ m < s.size ∧ s.data.toList[m]? = some 47 ∧ (47 : UInt8) ∉ s.data.toList.drop (m + 1)) := by
  induction n with
  | zero =>
    intro _ h
    refine ⟨-1, Ev.step (fun _ => rfl) ?_, .inl ⟨rfl, by simpa using h⟩⟩
    simp only [bytealg_LastIndexByteString.l0]
    exact Ev.congr (fun k => by rw [if_neg (by omega)]) (Ev.now _)
  | succ n ih =>
    intro hn h
    by_cases hc : bt s (n : Int) = 47
    · have hq : s.data.toList[n]? = some 47 := (bt_is (by omega) 47).1 hc
      refine ⟨n, Ev.step (fun _ => rfl) ?_, .inr ⟨n, rfl, by omega, hq, h⟩⟩
      simp only [bytealg_LastIndexByteString.l0]
      refine Ev.congr (fun k => ?_) (Ev.now _)
      rw [show (((n + 1 : Nat) : Int) - 1) = (n : Int) by omega, if_pos (by omega), if_pos (by omega), if_pos (by omega), if_pos hc]
    · obtain ⟨r, hr, h2⟩ := ih (by omega) (by
        obtain ⟨c, h1, h2⟩ := bt_some (s := s) (n := n) (by omega)
        have hlt := (List.getElem?_eq_some_iff.1 h1).1
        rw [List.drop_eq_getElem_cons hlt]
        intro hm
        rcases List.mem_cons.1 hm with e | hm
        · rw [List.getElem?_eq_getElem hlt, ← e] at h1
          exact hc ((bt_is (by omega) 47).2 (by rw [List.getElem?_eq_getElem hlt, ← e]))
        · exact h hm)
      refine ⟨r, Ev.step (fun _ => rfl) ?_, h2⟩
      simp only [bytealg_LastIndexByteString.l0]
      refine Ev.congr (fun k => ?_) hr
      rw [show (((n + 1 : Nat) : Int) - 1) = (n : Int) by omega, if_pos (by omega), if_pos (by omega), if_pos (by omega), if_neg hc, wrap_id (by omega) (by omega)]
def IsParent (s : ByteArray) (r : ByteArray × Bool) : Prop :=
  (r = (⟨#[]⟩, false) ∧ (mayL s.data.toList = true → (47 : UInt8) ∉ s.data.toList)) ∨
  (r.2 = true ∧ mayL s.data.toList = true ∧ ∃ y, s.data.toList = r.1.data.toList ++ 47 :: y ∧ (47 : UInt8) ∉ y)
theorem parent_ev (s : ByteArray) (hs : s.size ≤ 9223372036854775807) : ∃ r, Ev (fun k => path_Parent.f k s) r ∧ IsParent s r := by
  obtain ⟨i, h1, h2⟩ := last_ev s hs s.size (Nat.le_refl _) (by rw [List.drop_of_length_le (by rw [Array.length_toList]; exact Nat.le_refl _)]; simp)
  have h3 : Ev (fun k => strings_LastIndexByte.f k s 47) i := by
    unfold strings_LastIndexByte.f bytealg_LastIndexByteString.f
    rw [wrap_id (by omega) (by omega)]
    exact Ev.bind h1 (Ev.now _)
  unfold path_Parent.f
  cases hm : mayL s.data.toList
  · refine ⟨(⟨#[]⟩, false), Ev.bind h3 ?_, .inl ⟨rfl, fun h => by rw [hm] at h; cases h⟩⟩
    rw [may_f hs, hm]
    simp only [Option.bind_some]
    refine Ev.congr (fun k => ?_) (Ev.now _)
    simp
  · rcases h2 with ⟨rfl, hn⟩ | ⟨m, rfl, hlt, hq, hn⟩
    · exact ⟨(⟨#[]⟩, false), Ev.bind h3 (Ev.congr (fun k => by rw [if_pos (by omega)]) (Ev.now _)), .inl ⟨rfl, fun _ => hn⟩⟩
    · refine ⟨(s.extract 0 m, true), Ev.bind h3 ?_, .inr ⟨rfl, hm, s.data.toList.drop (m + 1), ?_, hn⟩⟩
      · rw [may_f hs, hm]
        simp only [Option.bind_some]
        exact Ev.congr (fun k => by rw [if_neg (by omega), if_pos trivial, if_pos (by omega), if_pos (by omega)]; simp) (Ev.now _)
      · have e : (s.extract 0 m).data.toList = s.data.toList.take m := by rw [Lib.extract_data]; simp
        rw [e]
        exact list_at hq
end
section
theorem eqA49 (d : Nat) (w : World) (x0 y0 : Int) (x1 y1 : ByteArray) (x2 y2 : ByteArray) (x3 y3 : Int) (x4 y4 : Int) (x5 y5 : Int) (x6 y6 : Int) (x7 y7 : Int) (x8 y8 : ByteArray) (x9 y9 : Int) (x10 y10 : Int) (x11 y11 : ByteArray) (x12 y12 : ByteArray) (x13 y13 : ByteArray) :
    (Op.equalIn (d + 3) 49 (.agg #[.int .i64 x0, .string x1, .string x2, .int .u8 x3, .int .i64 x4, .int .i64 x5, .int .i64 x6, .int .i64 x7, .string x8, .int .i64 x9, .int .i64 x10, .string x11, .string x12, .string x13]) (.agg #[.int .i64 y0, .string y1, .string y2, .int .u8 y3, .int .i64 y4, .int .i64 y5, .int .i64 y6, .int .i64 y7, .string y8, .int .i64 y9, .int .i64 y10, .string y11, .string y12, .string y13])).run Tryz.prog w = .ok (x0 == y0 && ((x1.toList == y1.toList && (x2.toList == y2.toList && (x3 == y3 && (x4 == y4 && (x5 == y5 && (x6 == y6 && (x7 == y7 && (x8.toList == y8.toList)))))))) && (x9 == y9 && (x10 == y10 && (x11.toList == y11.toList && (x12.toList == y12.toList && (x13.toList == y13.toList))))))) w := by
  refine eqA_of Tryz.underlying49 (by kernel_rfl) ?_
  refine eqf_cons (by rfl) (by go_simp; rfl) (by go_simp; rfl) (by go_simp) ?_
  refine eqf_cons (by rfl) (by go_simp) (by go_simp) (eqA41 (d + 0) w _ _ _ _ _ _ _ _ _ _ _ _ _ _ _ _) ?_
  refine eqf_cons (by rfl) (by go_simp; rfl) (by go_simp; rfl) (by go_simp) ?_
  refine eqf_cons (by rfl) (by go_simp; rfl) (by go_simp; rfl) (by go_simp) ?_
  refine eqf_cons (by rfl) (by go_simp; rfl) (by go_simp; rfl) (by go_simp) ?_
  refine eqf_cons (by rfl) (by go_simp; rfl) (by go_simp; rfl) (by go_simp) ?_
  exact eqf_last (by rfl) (by go_simp; rfl) (by go_simp; rfl) (by go_simp)
end
section
def bytes_Equal.f (l0 : List Int) (l1 : List Int) : Option (Bool) := some ((strOfNums l0).toList == (strOfNums l1).toList)
set_option maxHeartbeats 8000000 in
set_option maxRecDepth 100000 in
theorem bytes_Equal.calls (A0 : Option Addr) (c0 : Nat) (l0 : List Int) (A1 : Option Addr) (c1 : Nat) (l1 : List Int) (r : Bool) (w : World) (hr0 : Kd.C (Kd.int .u8) w A0 l0.length l0) (hc0 : l0.length ≤ c0) (hr1 : Kd.C (Kd.int .u8) w A1 l1.length l1) (hc1 : l1.length ≤ c1) (h : bytes_Equal.f l0 l1 = some r) :
    Calls Tryz.prog 92 #[.slice A0 l0.length c0, .slice A1 l1.length c1] w fun e w' => e = .returned (.bool r) ∧ Drawn0 w w' := by
  have HR0 := Aside0.mk hr0
  have HC0 := Aside0.mk hc0
  clear hr0 hc0
  have HR1 := Aside0.mk hr1
  have HC1 := Aside0.mk hc1
  clear hr1 hc1
  have H : (some ((strOfNums l0).toList == (strOfNums l1).toList)) = some r := h
  clear h
  obtain rfl := Option.some.inj H
  have hcv3 := Kd.C_string (P := Tryz.prog) (A := A0) (c := c0) Tryz.underlying43 Tryz.underlying5 Tryz.underlying9 HR0.out
  have hcv4 := Kd.C_string (P := Tryz.prog) (A := A1) (c := c1) Tryz.underlying43 Tryz.underlying5 Tryz.underlying9 HR1.out
  go_enter Tryz.func92, Tryz.ntmps92
  go_wp2
  go_ret
  exact ⟨by first | rfl | (simp; done) | (simp [*]; done), by repeat (first | exact Drawn0.refl _ | apply Drawn0.step)⟩
end
section
open Go.Proofs.YtpedagpcblnnhaaGreatY
def getL (b : Bool) : List Int → Int → Option Int
  | [], n => some n
  | c :: r, n => if (n ≥ 36028797018963968 ∧ b = false) ∨ n ≥ 1152921504606846976 then none else getL b r (wrap64 (wrap64 (n * (if b = true then 8 else 256)) + (if b = true then (c - 48) % 256 else c)))
def getV (l : List Int) : Option Int := if l.getD 0 0 = 128 then getL false l.tail 0 else getL true l.dropLast 0
def getN (l : List Int) : Int × Bool :=
  if l.length < 2 ∨ 20 < l.length then (0, false) else match getV l with
    | none => (0, false)
    | some n => if (putN n l.length).2 = true ∧ (putN n l.length).1 = l then (n, true) else (0, false)
end
section
def endsZ (s : ByteArray) : Bool := decide (1 ≤ s.size) && ((s.extract (s.size - 1) s.size).toList == [0])
set_option maxRecDepth 100000 in
set_option maxHeartbeats 1600000 in
theorem HasSuffix_z.at_ (s : ByteArray) (hs : s.size ≤ 9223372036854775807) (w : World) :
    Calls Tryz.prog 118 #[.string s, .string ⟨#[0]⟩] w fun e w' => e = .returned (.bool (endsZ s)) ∧ w = w' := by
  unfold endsZ
  by_cases h : 1 ≤ s.size
  · have h1 : decide ((1 : Int) ≤ (s.size : Int)) = true := decide_eq_true (by omega)
    have h1n : decide (1 ≤ s.size) = true := decide_eq_true h
    have hw : IntKind.i64.wrap ((s.size : Int) - 1) = ((s.size - 1 : Nat) : Int) := by rw [i64_w]; unfold wrap64; omega
    have hb : s.size - 1 ≤ s.size := by omega
    rw [h1n]
    generalize s.size - 1 = m at *
    go_enter Tryz.func118, Tryz.ntmps118
    go_wp2
    go_ret
    exact ⟨by simp, rfl⟩
  · have h1 : decide ((1 : Int) ≤ (s.size : Int)) = false := decide_eq_false (by omega)
    have h1n : decide (1 ≤ s.size) = false := decide_eq_false h
    rw [h1n]
    go_enter Tryz.func118, Tryz.ntmps118
    go_wp2
    go_ret
    exact ⟨by simp, rfl⟩
end
section
theorem eqA83 (d : Nat) (w : World) (x0 y0 : ByteArray) (x1 y1 : ByteArray) (x2 y2 : ByteArray) (x3 y3 : Int) (x4 y4 : Int) (x5 y5 : Int) (x6 y6 : Int) (x7 y7 : Int) (x8 y8 : Int) (x9 y9 : Int) (x10 y10 : Int) :
    (Op.equalIn (d + 2) 83 (.agg #[.string x0, .string x1, .string x2, .int .i64 x3, .int .i64 x4, .int .i64 x5, .int .i64 x6, .int .i64 x7, .int .u8 x8, .int .i64 x9, .int .i64 x10]) (.agg #[.string y0, .string y1, .string y2, .int .i64 y3, .int .i64 y4, .int .i64 y5, .int .i64 y6, .int .i64 y7, .int .u8 y8, .int .i64 y9, .int .i64 y10])).run Tryz.prog w = .ok (x0.toList == y0.toList && (x1.toList == y1.toList && (x2.toList == y2.toList && (x3 == y3 && (x4 == y4 && (x5 == y5 && (x6 == y6 && (x7 == y7 && (x8 == y8 && (x9 == y9 && (x10 == y10))))))))))) w := by
  refine eqA_of Tryz.underlying83 (by kernel_rfl) ?_
  refine eqf_cons (by rfl) (by go_simp; rfl) (by go_simp; rfl) (by go_simp) ?_
  refine eqf_cons (by rfl) (by go_simp; rfl) (by go_simp; rfl) (by go_simp) ?_
  refine eqf_cons (by rfl) (by go_simp; rfl) (by go_simp; rfl) (by go_simp) ?_
  refine eqf_cons (by rfl) (by go_simp; rfl) (by go_simp; rfl) (by go_simp) ?_
  refine eqf_cons (by rfl) (by go_simp; rfl) (by go_simp; rfl) (by go_simp) ?_
  refine eqf_cons (by rfl) (by go_simp; rfl) (by go_simp; rfl) (by go_simp) ?_
  refine eqf_cons (by rfl) (by go_simp; rfl) (by go_simp; rfl) (by go_simp) ?_
  refine eqf_cons (by rfl) (by go_simp; rfl) (by go_simp; rfl) (by go_simp) ?_
  refine eqf_cons (by rfl) (by go_simp; rfl) (by go_simp; rfl) (by go_simp) ?_
  refine eqf_cons (by rfl) (by go_simp; rfl) (by go_simp; rfl) (by go_simp) ?_
  exact eqf_last (by rfl) (by go_simp; rfl) (by go_simp; rfl) (by go_simp)
end
section
set_option maxRecDepth 100000 in
set_option maxHeartbeats 3200000 in
theorem slices_EqualB.at_ (A : Option Addr) (c : Nat) (x : List Int) (B : Option Addr) (d : Nat) (y : List Int) (w : World) (hx : Kd.C (Kd.int .u8) w A x.length x) (hc : x.length ≤ c) (hy : Kd.C (Kd.int .u8) w B y.length y) (hd : y.length ≤ d) :
    Calls Tryz.prog 117 #[.slice A x.length c, .slice B y.length d] w fun e w' => e = .returned (.bool (decide (x = y))) ∧ Drawn0 w w' := by
  have hm : x.length ≤ 9223372036854775807 := hx.2.1
  by_cases hl : x.length = y.length
  case neg =>
    rw [decide_eq_false (fun e => hl (by rw [e]))]
    have b1 : ((x.length : Int) == (y.length : Int)) = false := beq_false_of_ne (by omega)
    have b2 : ((x.length : Int) != (y.length : Int)) = true := by simp only [bne, b1]; rfl
    clear hl hx hy
    go_enter Tryz.func117, Tryz.ntmps117
    go_wp2
    go_ret
    exact ⟨rfl, Drawn0.refl _⟩
  case pos =>
    have b1 : ((x.length : Int) == (y.length : Int)) = true := beq_iff_eq.2 (by omega)
    have b2 : ((x.length : Int) != (y.length : Int)) = false := by simp only [bne, b1]; rfl
    have HX := Aside0.mk hx
    have HY := Aside0.mk hy
    have HL := Aside0.mk hl
    clear hx hy hl
    go_enter Tryz.func117, Tryz.ntmps117
    go_wp2
    clear b1 b2
    go_loopw [5, 13] (fun _ v13 wr => ∃ i : Nat, v13 = .int .i64 i ∧ i ≤ x.length ∧ Aside0 (∀ j : Nat, j < i → rd x (j : Int) = rd y (j : Int)) ∧ Aside0 (Drawn0 w wr)) (fun _ v13 _ => x.length - (intOf v13).toNat)
    case atStart => exact ⟨0, rfl, Nat.zero_le _, ⟨fun j hj => absurd hj (Nat.not_lt_zero _)⟩, ⟨Drawn0.refl _⟩⟩
    case round =>
      obtain ⟨i, rfl, hi, HP, HD⟩ := hrel
      obtain ⟨⟨n0, rfl⟩⟩ := HD.out
      by_cases hlt : i < x.length
      · obtain ⟨ad1, rfl, h1⟩ := Kd.at_int HX.out (i : Int) (by omega) (by omega)
        obtain ⟨ad2, rfl, h2⟩ := Kd.at_int HY.out (i : Int) (by omega) (by have := HL.out; omega)
        rw [Int.toNat_natCast] at h1 h2
        have hi0 : (0 : Int) ≤ (i : Int) := by omega
        have hi1 : (i : Int) < (x.length : Int) := by omega
        have hi2 : (i : Int) < (y.length : Int) := by have := HL.out; omega
        by_cases he : rd x (i : Int) = rd y (i : Int)
        · have f1 : (rd x (i : Int) == rd y (i : Int)) = true := beq_iff_eq.2 he
          have HE := Aside0.mk he
          clear he
          go_upto_region 6 with (fail)
          go_quiet (fail)
          go_wp2
          go_roundw
          case rel => exact ⟨i + 1, by go_num, by omega, ⟨fun j hj => by
            rcases Nat.lt_or_ge j i with c1 | c1
            · exact HP.out j c1
            · obtain rfl : j = i := by omega
              exact HE.out⟩, ⟨by repeat (first | exact Drawn0.refl _ | apply Drawn0.step)⟩⟩
          case measure => simp [intOf]; omega
        · have f1 : (rd x (i : Int) == rd y (i : Int)) = false := beq_eq_false_iff_ne.2 he
          have HE := Aside0.mk he
          clear he
          go_upto_region 6 with (fail)
          go_quiet (fail)
          go_wp2
          go_ret
          refine ⟨?_, by repeat (first | exact Drawn0.refl _ | apply Drawn0.step)⟩
          rw [decide_eq_false (fun e => HE.out (by rw [e]))]
          rfl
      · go_wp2
        go_ret
        refine ⟨?_, by repeat (first | exact Drawn0.refl _ | apply Drawn0.step)⟩
        have : x = y := by
          refine List.ext_getElem HL.out fun j g1 g2 => ?_
          have h_ := HP.out j (by omega)
          unfold rd at h_
          rw [Int.toNat_natCast, List.getD_eq_getElem?_getD, List.getD_eq_getElem?_getD, List.getElem?_eq_getElem g1, List.getElem?_eq_getElem g2] at h_
          exact h_
        rw [decide_eq_true this]
        rfl
end
end Go.Proofs.YtpedagpcblnnhaaGreat.X
