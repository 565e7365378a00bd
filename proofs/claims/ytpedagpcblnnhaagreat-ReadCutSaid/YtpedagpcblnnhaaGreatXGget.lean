import Derived.Test.YtpedagpcblnnhaaGreatXK
import Derived.Test.YtpedagpcblnnhaaGreatXGhead
import Derived.Test.YtpedagpcblnnhaaGreatXGnum
import Derived.Test.YtpedagpcblnnhaaGreatP02p
import Derived.Test.YtpedagpcblnnhaaGreatYAll
import Derived.BigQuiet
import Derived.Deep.QuietTactic
import Derived.Deep.RegionHeld3
import Derived.Laws.EntriesVeiled
import Derived.Lib.BytesEntry
import Derived.Lib.IndexAny
import Derived.WalkSpells
namespace Go.Proofs.YtpedagpcblnnhaaGreat.X
open Go.RowKit Go.Proofs.YtpedagpcblnnhaaGreatW.PrintWords Go.Proofs.YtpedagpcblnnhaaGreatW.PrintLast Go.Proofs.YtpedagpcblnnhaaGreatW.PrintMore
attribute [local go_sem] max2_int min2_int max_two min_two
set_option linter.unusedVariables false
set_option linter.unusedSimpArgs false
section
def idxB (l : List Int) (c : UInt8) : Int := Lib.indexByte (Lib.bytesOf l) c
theorem run_indexC {w : World} {A : Option Addr} {l : List Int} (c : Nat) (h : Kd.C (Kd.int .u8) w A l.length l) (cv : Int) :
    (Extern.BytealgIndexByte.indexByte #[.slice A l.length c, .int .u8 cv]).run Tryz.prog w = .ok (.int .i64 (idxB l cv.toNat.toUInt8)) w := by
  obtain ⟨hl, hm, hr⟩ := Kd.reads_of_C (enc := Value.int .u8) (d := (0 : Int)) (h1 := fun _ => rfl) h
  rcases Nat.eq_zero_or_pos l.length with h0 | hp
  · obtain rfl := List.eq_nil_of_length_eq_zero h0
    cases A with
    | none => exact Lib.run_indexByteNil (P := Tryz.prog) w _ c cv
    | some a =>
      have hs := Lib.run_indexByteString (P := Tryz.prog) .empty cv w
      exact hs
  · obtain ⟨a, rfl, hc⟩ := hr hp
    have hx := Lib.run_loadBytesX (P := Tryz.prog) w l a .empty (fun j x hj => by
      obtain ⟨hjl, hv⟩ := List.getElem?_eq_some_iff.1 hj
      rw [hc j hjl, ← hv]
      simp [List.getD_eq_getElem?_getD, List.getElem?_eq_getElem hjl])
    have hs := Lib.run_indexByteString (P := Tryz.prog) ⟨(Lib.bytesOf l).toArray⟩ cv w
    have he : (⟨ByteArray.empty.data ++ (Lib.bytesOf l).toArray⟩ : ByteArray) = ⟨(Lib.bytesOf l).toArray⟩ := by
      apply ByteArray.ext
      show (#[] : Array UInt8) ++ (Lib.bytesOf l).toArray = (Lib.bytesOf l).toArray
      simp
    rw [he] at hx
    change Sem.run Tryz.prog (do
      let b ← Extern.Bytes.bytesOf (.slice (some a) l.length c)
      let c ← Extern.Bytes.asByte (.int .u8 cv)
      match (List.range b.size).find? fun i => b[i]! == c with
      | some i => pure (goInt i)
      | none => pure (goInt (-1))) w = _
    change Sem.run Tryz.prog (do
      let b ← Extern.Bytes.bytesOf (.string ⟨(Lib.bytesOf l).toArray⟩)
      let c ← Extern.Bytes.asByte (.int .u8 cv)
      match (List.range b.size).find? fun i => b[i]! == c with
      | some i => pure (goInt i)
      | none => pure (goInt (-1))) w = _ at hs
    simp only [Extern.Bytes.bytesOf, Sem.run_bind, Sem.run_pure, hx, Result.andThen] at hs ⊢
    exact hs
set_option maxHeartbeats 1000000 in
set_option maxRecDepth 100000 in
theorem bytes_IndexByte.at_ (A : Option Addr) (c : Nat) (l : List Int) (cv : Int) (w : World) (h : Kd.C (Kd.int .u8) w A l.length l) :
    Calls Tryz.prog 131 #[.slice A l.length c, .int .u8 cv] w fun e w' => e = .returned (.int .i64 (idxB l cv.toNat.toUInt8)) ∧ w = w' := by
  have hr := run_indexC c h cv
  clear h
  go_enter Tryz.func131, Tryz.ntmps131
  go_wp2
  rw [run_callFunc_extern Tryz.func139 (by kernel_rfl) (by kernel_rfl) (by kernel_rfl) (e := Extern.BytealgIndexByte.indexByte) (by kernel_rfl), hr]
  simp only [Result.andThen]
  rw [Oper.upon_value]
  go_wp2
  go_ret
  exact ⟨rfl, rfl⟩
set_option maxHeartbeats 1000000 in
set_option maxRecDepth 100000 in
theorem bytes_Index0.at_ (A B : Option Addr) (c d : Nat) (l : List Int) (w : World) (h : Kd.C (Kd.int .u8) w A l.length l) (hs : Kd.C (Kd.int .u8) w B 1 [0]) :
    Calls Tryz.prog 116 #[.slice A l.length c, .slice B 1 d] w fun e w' => e = .returned (.int .i64 (idxB l 0)) ∧ w = w' := by
  obtain ⟨_, _, hr⟩ := Kd.reads_of_C (enc := Value.int .u8) (d := (0 : Int)) (h1 := fun _ => rfl) hs
  obtain ⟨ad, rfl, hc⟩ := hr (by decide)
  have h0 := hc 0 (by decide)
  simp only [List.getD_cons_zero] at h0
  have h0' : w.cell? ad = some (.int .u8 0) := by simpa [Addr.add] using h0
  have hix := bytes_IndexByte.at_ A c l 0 w h
  have e0 : (0 : Int).toNat.toUInt8 = 0 := rfl
  rw [e0] at hix
  clear h hs hr hc e0
  go_enter Tryz.func116, Tryz.ntmps116
  go_wp2_with (first | (go_at_call 131; refine hix.mono ?_; rintro e w' ⟨rfl, rfl⟩))
  go_ret
  exact ⟨rfl, rfl⟩
def uptoL (l : List Int) : List Int := l.takeWhile (fun c => c != 0)
theorem take_while_idx (p : Int → Bool) : ∀ (l : List Int) (n : Nat), l[n]?.any (fun x => !p x) = true → (∀ j, j < n → ∀ x, l[j]? = some x → p x = true) → l.takeWhile p = l.take n
  | [], n, h, _ => by simp at h
  | x :: l, 0, h, _ => by
    simp at h
    simp [List.takeWhile_cons, h]
  | x :: l, n + 1, h, hb => by
    have hx := hb 0 (by omega) x rfl
    rw [List.takeWhile_cons_of_pos hx, List.take_succ_cons, take_while_idx p l n (by simpa using h) (fun j hj y hy => hb (j + 1) (by omega) y (by simpa using hy))]
theorem take_while_all (p : Int → Bool) : ∀ (l : List Int), (∀ c ∈ l, p c = true) → l.takeWhile p = l
  | [], _ => rfl
  | x :: l, h => by rw [List.takeWhile_cons_of_pos (h x (.head _)), take_while_all p l (fun c hc => h c (.tail _ hc))]
theorem idxB_facts (l : List Int) (hl : ∀ c ∈ l, 0 ≤ c ∧ c ≤ 255) : (idxB l 0 = -1 ∧ uptoL l = l) ∨ ∃ n : Nat, idxB l 0 = n ∧ n < l.length ∧ uptoL l = l.take n := by
  have hge := Lib.indexByte_ge (Lib.bytesOf l) 0
  have hb : ∀ c : Int, 0 ≤ c ∧ c ≤ 255 → (UInt8.ofNat c.toNat = 0 ↔ c = 0) := by
    intro c hc
    constructor
    · intro h
      have := congrArg UInt8.toNat h
      simp at this
      omega
    · rintro rfl; rfl
  unfold idxB
  by_cases h : Lib.indexByte (Lib.bytesOf l) 0 = -1
  · refine .inl ⟨h, ?_⟩
    have hn : (0 : UInt8) ∉ Lib.bytesOf l := by
      intro hm
      have := Lib.contains_iff_indexByte (Lib.bytesOf l) 0
      simp [hm] at this
      omega
    refine take_while_all _ l fun c hc => ?_
    rw [bne_iff_ne]
    rintro rfl
    exact hn (List.mem_map.2 ⟨0, hc, rfl⟩)
  · obtain ⟨n, hn⟩ : ∃ n : Nat, Lib.indexByte (Lib.bytesOf l) 0 = n := ⟨(Lib.indexByte (Lib.bytesOf l) 0).toNat, by omega⟩
    obtain ⟨h1, h2⟩ := Lib.indexByte_some hn
    have hlt : n < l.length := by
      have := (List.getElem?_eq_some_iff.1 h1).1
      unfold Lib.bytesOf at this
      simpa using this
    refine .inr ⟨n, hn, hlt, ?_⟩
    unfold uptoL
    refine take_while_idx _ l n ?_ ?_
    · have h3 : (Lib.bytesOf l)[n]? = some (UInt8.ofNat l[n].toNat) := by unfold Lib.bytesOf; rw [List.getElem?_map, List.getElem?_eq_getElem hlt]; rfl
      rw [h3] at h1
      have h4 := (hb _ (hl _ (List.getElem_mem hlt))).1 (Option.some.inj h1)
      rw [List.getElem?_eq_getElem hlt, h4]
      rfl
    · intro j hj x hx
      rw [bne_iff_ne]
      rintro rfl
      have := h2 j hj
      unfold Lib.bytesOf at this
      rw [List.getElem?_map, hx] at this
      exact this rfl
set_option maxHeartbeats 1000000 in
set_option maxRecDepth 100000 in
theorem bytes_Cut0.at_ (A B : Option Addr) (c d : Nat) (l : List Int) (w : World) (h : Kd.C (Kd.int .u8) w A l.length l) (hc : l.length ≤ c) (hs : Kd.C (Kd.int .u8) w B 1 [0]) (hl : ∀ x ∈ l, 0 ≤ x ∧ x ≤ 255) :
    Calls Tryz.prog 93 #[.slice A l.length c, .slice B 1 d] w fun e w' => ∃ A2 c2 v2 b, e = .returned (.tuple #[.slice A2 (uptoL l).length c2, v2, .bool b]) ∧ Kd.C (Kd.int .u8) w A2 (uptoL l).length (uptoL l) ∧ Drawn0 w w' := by
  have hix := bytes_Index0.at_ A B c d l w h hs
  have hm : l.length ≤ 9223372036854775807 := h.2.1
  rcases idxB_facts l hl with ⟨h1, h2⟩ | ⟨n, h1, h2, h3⟩
  · rw [h1] at hix
    rw [h2]
    have HC := Aside0.mk h
    clear h h1 h2 hs hl
    go_enter Tryz.func93, Tryz.ntmps93
    go_wp2_with (first | (go_at_call 116; refine hix.mono ?_; rintro e w' ⟨rfl, rfl⟩))
    go_ret3
    exact ⟨A, c, _, false, rfl, HC.out, ⟨0, rfl⟩⟩
  · rw [h1] at hix
    rw [h3]
    have htk := Kd.C_take h (m := n) (by omega)
    have htl : (l.take n).length = n := by rw [List.length_take]; omega
    obtain ⟨i0, hi0, _, hsz, _⟩ := info_parts info5
    have hcut1 := cut_to (P := Tryz.prog) 43 5 .i64 Tryz.underlying43 hi0 A l.length c (n : Int) (by omega) (by omega) hc
    have hcut2 := cut_from (P := Tryz.prog) 43 5 .i64 Tryz.underlying43 hi0 1 hsz A l.length c ((n : Int) + 1) (by omega) (by omega)
    rw [Int.toNat_natCast] at hcut1
    generalize (Value.slice (if c = ((n : Int) + 1).toNat then A else A.map (·.add (((n : Int) + 1).toNat * 1))) (l.length - ((n : Int) + 1).toNat) (c - ((n : Int) + 1).toNat)) = v2 at hcut2
    have hn9 : (n : Int) + 1 ≤ 9223372036854775807 := by omega
    have HTK := Aside0.mk htk
    have HTL := Aside0.mk htl
    clear h h1 h3 hs hl htk htl
    go_enter Tryz.func93, Tryz.ntmps93
    go_wp2_with (first | (go_at_call 116; refine hix.mono ?_; rintro e w' ⟨rfl, rfl⟩))
    go_quiet (fail)
    go_wp2
    go_ret3
    rw [HTL.out]
    have := HTK.out
    rw [HTL.out] at this
    exact ⟨A, c, _, true, rfl, this, ⟨_, rfl⟩⟩
end
section
set_option maxHeartbeats 2000000 in
set_option maxRecDepth 100000 in
theorem slices_IndexFunc_zero.at_ (A : Option Addr) (c : Nat) (l : List Int) (w : World) (hcb : ∀ x : Int, Calls Tryz.prog 99 #[.int .u8 x] w fun e w' => e = .returned (.bool (x != 0)) ∧ w = w') (hr : Kd.C (Kd.int .u8) w A l.length l) :
    Calls Tryz.prog 119 #[.slice A l.length c, .func (.func 99) #[] #[]] w fun e w' => ∃ i, e = .returned (.int .i64 i) ∧ Aside0 (decide (i ≥ 0) = !(l.all (fun c => c == 0))) ∧ w = w' := by
  have hlm : l.length ≤ 9223372036854775807 := hr.2.1
  obtain ⟨_, _, hrd⟩ := Kd.reads_of_C (enc := Value.int .u8) (d := (0 : Int)) (h1 := fun _ => rfl) hr
  have HR := Aside0.mk hrd
  have HC := Aside0.mk hcb
  have heg := fun args W => enters_ Tryz.func99 rfl rfl args W
  clear hr hcb hrd
  go_enter Tryz.func119, Tryz.ntmps119
  go_wp2
  go_loop [5, 8] (fun _ v8 => ∃ i : Nat, v8 = .int .i64 i ∧ i ≤ l.length ∧ Aside0 (∀ j, j < i → l.getD j 0 = 0)) (fun _ v8 => l.length - (intOf v8).toNat)
  case atStart => exact ⟨0, rfl, Nat.zero_le _, ⟨fun j hj => absurd hj (Nat.not_lt_zero _)⟩⟩
  case round =>
    obtain ⟨i, rfl, hi, HP⟩ := hrel
    by_cases hlt : i < l.length
    · obtain ⟨ad, rfl, hcell⟩ := HR.out (by omega)
      have hx := hcell i hlt
      have hnn : (0 : Int) ≤ (i : Int) := by omega
      have hlt2 : (i : Int) < (l.length : Int) := by omega
      have hcall := HC.out (l.getD i 0)
      clear hcell
      have hmem : l.getD i 0 ∈ l := by rw [List.getD_eq_getElem?_getD, List.getElem?_eq_getElem hlt]; exact List.getElem_mem hlt
      generalize hg : l.getD i 0 = x at hx hcall hmem
      have HG := Aside0.mk hg
      have HM := Aside0.mk hmem
      clear hg hmem
      by_cases hp : x = 0
      · subst hp
        have e0 : ((0 : Int) != 0) = false := rfl
        rw [e0] at hcall
        go_wp2_with (fail)
        refine hcall.mono ?_
        rintro e w2 ⟨rfl, rfl⟩
        clear hcall hx
        go_wp2
        go_round
        case rel => exact ⟨i + 1, by go_num, by omega, ⟨fun j hj => by
          rcases Nat.lt_or_ge j i with c1 | c1
          · exact HP.out j c1
          · obtain rfl : j = i := by omega
            exact HG.out⟩⟩
        case measure => simp [intOf]; omega
      · rw [bne_iff_ne.2 hp] at hcall
        have HN := Aside0.mk hp
        clear hp
        go_wp2_with (fail)
        refine hcall.mono ?_
        rintro e w2 ⟨rfl, rfl⟩
        clear hcall hx
        go_wp2
        go_ret
        refine ⟨_, rfl, ⟨?_⟩, rfl⟩
        rw [decide_eq_true (by omega), Eq.comm, Bool.not_eq_true', List.all_eq_false]
        exact ⟨x, HM.out, by simpa using HN.out⟩
    · go_wp2
      go_ret
      refine ⟨_, rfl, ⟨?_⟩, rfl⟩
      have : l.all (fun c => c == 0) = true := by
        rw [List.all_eq_true]
        intro x hx
        obtain ⟨j, hj, rfl⟩ := List.mem_iff_getElem.1 hx
        have := HP.out j (by omega)
        rw [List.getD_eq_getElem?_getD, List.getElem?_eq_getElem hj] at this
        simpa using this
      rw [this]
      rfl
end
section
end
section
set_option maxRecDepth 100000 in
theorem block_Zero_1.at_ (x : Int) (w : World) :
    Calls Tryz.prog 99 #[.int .u8 x] w fun e w' => e = .returned (.bool (x != 0)) ∧ w = w' := by
  go_enter Tryz.func99, Tryz.ntmps99
  go_wp2
  go_ret
  exact ⟨rfl, rfl⟩
set_option maxRecDepth 100000 in
theorem slices_ContainsFunc_zero.at_ (A : Option Addr) (c : Nat) (l : List Int) (w : World) (hr : Kd.C (Kd.int .u8) w A l.length l) :
    Calls Tryz.prog 98 #[.slice A l.length c, .func (.func 99) #[] #[]] w fun e w' => e = .returned (.bool (!(l.all (fun c => c == 0)))) ∧ w = w' := by
  have hix := slices_IndexFunc_zero.at_ A c l w (fun x => block_Zero_1.at_ x w) hr
  generalize (l.all (fun c => c == 0)) = b at hix
  clear hr
  go_enter Tryz.func98, Tryz.ntmps98
  go_wp2_with (go_at_call 119; refine hix.mono ?_; rintro e w' ⟨i, rfl, HI, rfl⟩)
  go_ret
  exact ⟨by rw [← HI.out]; rfl, rfl⟩
def block_Zero.f (l0 : List Int) : Option Bool := some (l0.all (fun c => c == 0))
set_option maxRecDepth 100000 in
theorem block_Zero.calls (A0 : Option Addr) (c0 : Nat) (l0 : List Int) (r : Bool) (w : World) (hr0 : Kd.C (Kd.int .u8) w A0 l0.length l0) (hc0 : l0.length ≤ c0) (h : block_Zero.f l0 = some r) :
    Calls Tryz.prog 64 #[.slice A0 l0.length c0] w fun e w' => e = .returned (.bool r) ∧ Drawn0 w w' := by
  obtain rfl : (l0.all (fun c => c == 0)) = r := Option.some.inj h
  clear h
  have hct := slices_ContainsFunc_zero.at_ A0 c0 l0 w hr0
  generalize (l0.all (fun c => c == 0)) = b at hct
  clear hr0
  go_enter Tryz.func64, Tryz.ntmps64
  go_wp2_with (go_at_call 98; refine hct.mono ?_; rintro e w' ⟨rfl, rfl⟩)
  go_ret
  exact ⟨by simp, ⟨0, rfl⟩⟩
end
section
open Go.Proofs.YtpedagpcblnnhaaGreatY
theorem getD_eq {l : List Int} {i : Nat} (h : i < l.length) : l.getD i 0 = l[i] := by rw [List.getD_eq_getElem?_getD, List.getElem?_eq_getElem h]; rfl
theorem equal_at (A0 : Option Addr) (c0 : Nat) (a : List Int) (A1 : Option Addr) (c1 : Nat) (b : List Int) (w : World) (h0 : Kd.C (Kd.int .u8) w A0 a.length a) (hc0 : a.length ≤ c0) (h1 : Kd.C (Kd.int .u8) w A1 b.length b) (hc1 : b.length ≤ c1) (hm : a.length ≤ 1000000) :
    Calls Tryz.prog 117 #[.slice A0 a.length c0, .slice A1 b.length c1] w fun e w' => e = .returned (.bool (decide (a = b))) ∧ Drawn0 w w' := by
  exact slices_EqualB.at_ A0 c0 a A1 c1 b w h0 hc0 h1 hc1
theorem cut_bytes {w : World} {A : Option Addr} {l : List Int} (c : Nat) (h : Kd.C (Kd.int .u8) w A l.length l) (hc : l.length ≤ c) (lo hi : Nat) (h1 : lo ≤ hi) (h2 : hi ≤ l.length) :
    ∃ A2 c2, (∀ W, (Instr.slice 43 (.slice A l.length c) (some (.int .i64 (lo : Int))) (some (.int .i64 (hi : Int))) none).run Tryz.prog W = .ok (.slice A2 ((l.take hi).drop lo).length c2) W) ∧ Kd.C (Kd.int .u8) w A2 ((l.take hi).drop lo).length ((l.take hi).drop lo) ∧ ((l.take hi).drop lo).length ≤ c2 := by
  obtain ⟨i0, hi0, _, hsz, _⟩ := info_parts info5
  have hcut := cut_mid (P := Tryz.prog) 43 5 .i64 .i64 Tryz.underlying43 hi0 1 hsz A l.length c (lo : Int) (hi : Int) (by omega) (by omega) (by omega) hc
  have hC := Kd.C_mid h h1 h2 hc
  simp only [Int.toNat_natCast] at hcut
  have hl : ((l.take hi).drop lo).length = hi - lo := by rw [List.length_drop, List.length_take]; omega
  refine ⟨_, c - lo, ?_, hC, ?_⟩
  · rw [hl]; exact hcut
  · rw [hl]; omega
set_option maxHeartbeats 1000000 in
set_option maxRecDepth 100000 in
theorem num_Get.wide (A : Option Addr) (c : Nat) (l : List Int) (w : World) (h : l.length < 2 ∨ 20 < l.length) (hm : l.length ≤ 9223372036854775807) :
    Calls Tryz.prog 94 #[.slice A l.length c] w fun e w' => e = .returned (.tuple #[.int .i64 0, .bool false]) ∧ Below w.heap.size w w' := by
  have cw : (decide ((l.length : Int) ≥ 2) && decide ((l.length : Int) ≤ 20)) = false := by
    rw [Bool.and_eq_false_iff, decide_eq_false_iff_not, decide_eq_false_iff_not]; omega
  have hw := fun W => num_width.at_ (l.length : Int) W
  rw [cw] at hw
  clear h cw
  go_enter Tryz.func94, Tryz.ntmps94
  go_wp2_with (first | (go_at_call 111; refine (hw _).mono ?_; rintro e w' ⟨rfl, ⟨nd, rfl⟩⟩))
  go_ret2
  exact ⟨rfl, pw_below_drewN (Below.refl _ _) _⟩
def getEnd (l : List Int) : Option Int → Int × Bool
  | none => (0, false)
  | some n => if (putN n l.length).2 = true ∧ (putN n l.length).1 = l then (n, true) else (0, false)
theorem getN_end {l : List Int} (h : ¬ (l.length < 2 ∨ 20 < l.length)) : getN l = getEnd l (getV l) := by
  unfold getN getEnd
  rw [if_neg h]
  cases getV l <;> rfl
set_option maxHeartbeats 3200000 in
set_option maxRecDepth 100000 in
theorem num_Get.mark (A : Option Addr) (c : Nat) (l : List Int) (w : World) (hC : Kd.C (Kd.int .u8) w A l.length l) (hc : l.length ≤ c) (hby : ∀ x ∈ l, 0 ≤ x ∧ x ≤ 255) (h2 : 2 ≤ l.length) (h20 : l.length ≤ 20) (hmk : l.getD 0 0 = 128) :
    Calls Tryz.prog 94 #[.slice A l.length c] w fun e w' => e = .returned (.tuple #[.int .i64 (getEnd l (getL false l.tail 0)).1, .bool (getEnd l (getL false l.tail 0)).2]) ∧ Below w.heap.size w w' := by
  have cw : (decide ((l.length : Int) ≥ 2) && decide ((l.length : Int) ≤ 20)) = true := by
    rw [Bool.and_eq_true, decide_eq_true_iff, decide_eq_true_iff]; omega
  have hw := fun W => num_width.at_ (l.length : Int) W
  rw [cw] at hw
  have hel : l.tail = (l.take l.length).drop 1 := by rw [List.take_length, List.drop_one]
  have hby2 : ∀ x ∈ l.tail, 0 ≤ x ∧ x ≤ 255 := fun x hx => hby x (by rw [hel] at hx; exact List.mem_of_mem_take (List.mem_of_mem_drop hx))
  obtain ⟨_, _, hrd⟩ := Kd.reads_of_C (enc := Value.int .u8) (d := (0 : Int)) (h1 := fun _ => rfl) hC
  obtain ⟨ad, rfl, hcells⟩ := hrd (by omega)
  obtain ⟨A2, c2, hcut, hK, hc2⟩ := cut_bytes c hC hc 1 l.length (by omega) (by omega)
  rw [← hel] at hcut hK hc2
  have hll : l.tail.length + 1 = l.length := by rw [hel, List.length_drop, List.length_take]; omega
  have hi_ : ((l.length : Nat) : Int) = (l.length : Int) := by omega
  have lo_ : ((1 : Nat) : Int) = 1 := rfl
  rw [hi_, lo_] at hcut
  have hx0 := hcells 0 (by omega)
  have hx0' : w.cell? ad = some (.int .u8 (l.getD 0 0)) := by simpa [Addr.add] using hx0
  have hb0 : (l.getD 0 0 == 128) = true := by simpa using hmk
  generalize l.getD 0 0 = x0 at hx0' hb0
  generalize hls : l.tail = ls at hcut hK hll hc2 hby2
  obtain ⟨R, hR⟩ : ∃ R, getL false ls 0 = R := ⟨_, rfl⟩
  rw [hR]
  have HRR := Aside0.mk hR
  have HC := Aside0.mk hC
  have HK := Aside0.mk hK
  have HBY := Aside0.mk hby2
  have HCC := Aside0.mk hc
  have hz0 : (0 : Int) < (l.length : Int) := by omega
  have hlm : (l.length : Int) ≤ 20 := by omega
  have hll2 : (ls.length : Int) ≤ 20 := by omega
  clear hC hrd hcells hK hel hls hR hmk cw hby hby2 hi_ lo_ hx0 hc
  go_enter Tryz.func94, Tryz.ntmps94
  go_wp2_with (first | (go_at_call 111; refine (hw _).mono ?_; rintro e w' ⟨rfl, ⟨nd, rfl⟩⟩))
  clear hw
  go_loopw [4, 9, 30] (fun v4 v9 v30 wr => ∃ (i : Nat) (n : Int), v30 = .int .i64 i ∧ v4 = .int .i64 n ∧ i ≤ ls.length ∧ Aside0 (n ≤ 9223372036854775807) ∧ Aside0 (getL false (ls.drop i) n = R) ∧ wr = w.drewN nd) (fun _ _ v30 _ => ls.length - (intOf v30).toNat)
  case atStart => exact ⟨0, 0, rfl, rfl, Nat.zero_le _, ⟨by decide⟩, ⟨by rw [List.drop_zero]; exact HRR.out⟩, rfl⟩
  case round =>
    obtain ⟨i, n, rfl, rfl, hi, HN, HG, rfl⟩ := hrel
    by_cases hlt : i < ls.length
    · obtain ⟨_, _, hrd⟩ := Kd.reads_of_C (enc := Value.int .u8) (d := (0 : Int)) (h1 := fun _ => rfl) HK.out
      obtain ⟨ad2, rfl, hcells⟩ := hrd (by omega)
      have hx := hcells i hlt
      rw [getD_eq hlt] at hx
      have hbx := HBY.out _ (List.getElem_mem hlt)
      have hg := HG.out
      rw [List.drop_eq_getElem_cons hlt, getL] at hg
      generalize ls[i] = x at hx hbx hg
      have hnn : (0 : Int) ≤ (i : Int) := by omega
      have hlt2 : (i : Int) < (ls.length : Int) := by omega
      clear hcells hrd HG
      by_cases hbig : n ≥ 36028797018963968
      · rw [if_pos (.inl ⟨hbig, rfl⟩)] at hg
        have HG := Aside0.mk hg
        have hbb : decide (n ≥ 36028797018963968) = true := by exact decide_eq_true hbig
        skip
        clear hg hbig
        go_wp2_with (fail)
        all_goals
          go_ret2
          rw [← HG.out]
          exact ⟨rfl, pw_below_drewN (Below.refl _ _) _⟩
      · rw [if_neg (by rintro (⟨h', _⟩ | h'); exact hbig h'; omega)] at hg
        have HG := Aside0.mk hg
        have hb1 : decide (n ≥ 36028797018963968) = false := decide_eq_false hbig
        have hb2 : decide (n ≥ 1152921504606846976) = false := decide_eq_false (by omega)
        clear hg hbig
        all_goals
          go_wp2_with (fail)
          go_roundw
          case rel =>
            refine ⟨i + 1, wrap64 (wrap64 (n * 256) + x), by go_num, ?_, by omega, ⟨by unfold wrap64; omega⟩, ⟨HG.out⟩, by first | rfl | trivial⟩
            go_num
          case measure => simp [intOf]; omega
    · obtain rfl : i = ls.length := by omega
      have hg := HG.out
      rw [List.drop_length, getL] at hg
      obtain ⟨pl, pb, hput⟩ : ∃ p b, putN n l.length = (p, b) := ⟨_, _, rfl⟩
      have HPUT := Aside0.mk hput
      have HGE := Aside0.mk (show getEnd l R = if pb = true ∧ pl = l then (n, true) else (0, false) by rw [← hg]; unfold getEnd; simp only [hput])
      have HB0 := Aside0.mk (pw_below_drewN (Below.refl w.heap.size w) nd)
      clear hg HG hput
      cases pb with
      | false =>
        go_wp2_with (first | (go_at_call 84; refine (num_Put.at_ _ _ _ _ _ HN.out HPUT).mono ?_; rintro e w3 ⟨A3, c3, rfl, hc3, hC3, hb3, _⟩))
        go_ret2
        rw [HGE.out, if_neg (by simp)]
        exact ⟨by first | rfl | trivial, below_step HB0.out hb3⟩
      | true =>
        have hpl : pl.length ≤ 20 := by
          have h9 := putN_length (n := n) (w := l.length) (by rw [HPUT.out])
          have e9 : (putN n l.length).1 = pl := by rw [HPUT.out]
          rw [e9] at h9
          omega
        by_cases heq : pl = l
        · have HEQ := Aside0.mk heq
          have HQ := Aside0.mk (decide_eq_true heq)
          clear heq
          go_wp2_with (first | (go_at_call 84; refine (num_Put.at_ _ _ _ _ _ HN.out HPUT).mono ?_; rintro e w3 ⟨A3, c3, rfl, hc3, hC3, hb3, _⟩; have hq := equal_at A3 c3 pl (some ad) c l w3 hC3 hc3 (Kd.C_below HC.out (below_step HB0.out hb3)) HCC.out (by omega); rw [HQ.out] at hq) | (go_at_call 117; refine hq.mono ?_; rintro e w4 ⟨rfl, ⟨nd4, rfl⟩⟩))
          go_ret2
          rw [HGE.out, if_pos (by simp [HEQ.out])]
          exact ⟨by first | rfl | trivial, pw_below_drewN (below_step HB0.out hb3) _⟩
        · have HEQ := Aside0.mk heq
          have HQ := Aside0.mk (decide_eq_false heq)
          clear heq
          go_wp2_with (first | (go_at_call 84; refine (num_Put.at_ _ _ _ _ _ HN.out HPUT).mono ?_; rintro e w3 ⟨A3, c3, rfl, hc3, hC3, hb3, _⟩; have hq := equal_at A3 c3 pl (some ad) c l w3 hC3 hc3 (Kd.C_below HC.out (below_step HB0.out hb3)) HCC.out (by omega); rw [HQ.out] at hq) | (go_at_call 117; refine hq.mono ?_; rintro e w4 ⟨rfl, ⟨nd4, rfl⟩⟩))
          go_ret2
          rw [HGE.out, if_neg (by simp [HEQ.out])]
          exact ⟨by first | rfl | trivial, pw_below_drewN (below_step HB0.out hb3) _⟩
set_option maxHeartbeats 3200000 in
set_option maxRecDepth 100000 in
theorem num_Get.plain (A : Option Addr) (c : Nat) (l : List Int) (w : World) (hC : Kd.C (Kd.int .u8) w A l.length l) (hc : l.length ≤ c) (hby : ∀ x ∈ l, 0 ≤ x ∧ x ≤ 255) (h2 : 2 ≤ l.length) (h20 : l.length ≤ 20) (hmk : l.getD 0 0 ≠ 128) :
    Calls Tryz.prog 94 #[.slice A l.length c] w fun e w' => e = .returned (.tuple #[.int .i64 (getEnd l (getL true l.dropLast 0)).1, .bool (getEnd l (getL true l.dropLast 0)).2]) ∧ Below w.heap.size w w' := by
  have cw : (decide ((l.length : Int) ≥ 2) && decide ((l.length : Int) ≤ 20)) = true := by
    rw [Bool.and_eq_true, decide_eq_true_iff, decide_eq_true_iff]; omega
  have hw := fun W => num_width.at_ (l.length : Int) W
  rw [cw] at hw
  have hel : l.dropLast = (l.take (l.length - 1)).drop 0 := by rw [List.drop_zero, List.dropLast_eq_take]
  have hby2 : ∀ x ∈ l.dropLast, 0 ≤ x ∧ x ≤ 255 := fun x hx => hby x (by rw [hel] at hx; exact List.mem_of_mem_take (List.mem_of_mem_drop hx))
  obtain ⟨_, _, hrd⟩ := Kd.reads_of_C (enc := Value.int .u8) (d := (0 : Int)) (h1 := fun _ => rfl) hC
  obtain ⟨ad, rfl, hcells⟩ := hrd (by omega)
  obtain ⟨A2, c2, hcut, hK, hc2⟩ := cut_bytes c hC hc 0 (l.length - 1) (by omega) (by omega)
  rw [← hel] at hcut hK hc2
  have hll : l.dropLast.length + 1 = l.length := by rw [hel, List.length_drop, List.length_take]; omega
  have hi_ : (((l.length - 1) : Nat) : Int) = (l.length : Int) - 1 := by omega
  have lo_ : ((0 : Nat) : Int) = 0 := rfl
  rw [hi_, lo_] at hcut
  have hx0 := hcells 0 (by omega)
  have hx0' : w.cell? ad = some (.int .u8 (l.getD 0 0)) := by simpa [Addr.add] using hx0
  have hb0 : (l.getD 0 0 == 128) = false := by simpa using hmk
  generalize l.getD 0 0 = x0 at hx0' hb0
  generalize hls : l.dropLast = ls at hcut hK hll hc2 hby2
  obtain ⟨R, hR⟩ : ∃ R, getL true ls 0 = R := ⟨_, rfl⟩
  rw [hR]
  have HRR := Aside0.mk hR
  have HC := Aside0.mk hC
  have HK := Aside0.mk hK
  have HBY := Aside0.mk hby2
  have HCC := Aside0.mk hc
  have hz0 : (0 : Int) < (l.length : Int) := by omega
  have hlm : (l.length : Int) ≤ 20 := by omega
  have hll2 : (ls.length : Int) ≤ 20 := by omega
  clear hC hrd hcells hK hel hls hR hmk cw hby hby2 hi_ lo_ hx0 hc
  go_enter Tryz.func94, Tryz.ntmps94
  go_wp2_with (first | (go_at_call 111; refine (hw _).mono ?_; rintro e w' ⟨rfl, ⟨nd, rfl⟩⟩))
  clear hw
  go_loopw [4, 9, 30] (fun v4 v9 v30 wr => ∃ (i : Nat) (n : Int), v30 = .int .i64 i ∧ v4 = .int .i64 n ∧ i ≤ ls.length ∧ Aside0 (n ≤ 9223372036854775807) ∧ Aside0 (getL true (ls.drop i) n = R) ∧ wr = w.drewN nd) (fun _ _ v30 _ => ls.length - (intOf v30).toNat)
  case atStart => exact ⟨0, 0, rfl, rfl, Nat.zero_le _, ⟨by decide⟩, ⟨by rw [List.drop_zero]; exact HRR.out⟩, rfl⟩
  case round =>
    obtain ⟨i, n, rfl, rfl, hi, HN, HG, rfl⟩ := hrel
    by_cases hlt : i < ls.length
    · obtain ⟨_, _, hrd⟩ := Kd.reads_of_C (enc := Value.int .u8) (d := (0 : Int)) (h1 := fun _ => rfl) HK.out
      obtain ⟨ad2, rfl, hcells⟩ := hrd (by omega)
      have hx := hcells i hlt
      rw [getD_eq hlt] at hx
      have hbx := HBY.out _ (List.getElem_mem hlt)
      have hg := HG.out
      rw [List.drop_eq_getElem_cons hlt, getL] at hg
      generalize ls[i] = x at hx hbx hg
      have hnn : (0 : Int) ≤ (i : Int) := by omega
      have hlt2 : (i : Int) < (ls.length : Int) := by omega
      clear hcells hrd HG
      by_cases hbig : n ≥ 1152921504606846976
      · rw [if_pos (.inr hbig)] at hg
        have HG := Aside0.mk hg
        have hbb : decide (n ≥ 1152921504606846976) = true := by exact decide_eq_true hbig
        have hb3 : decide (n ≥ 36028797018963968) = true := decide_eq_true (by omega)
        clear hg hbig
        go_wp2_with (fail)
        all_goals
          go_ret2
          rw [← HG.out]
          exact ⟨rfl, pw_below_drewN (Below.refl _ _) _⟩
      · rw [if_neg (by rintro (⟨_, h'⟩ | h'); cases h'; exact hbig h')] at hg
        have HG := Aside0.mk hg
        have hb2 : decide (n ≥ 1152921504606846976) = false := decide_eq_false hbig
        obtain ⟨b3, hb3⟩ : ∃ b, decide (n ≥ 36028797018963968) = b := ⟨_, rfl⟩
        cases b3
        clear hg hbig
        all_goals
          go_wp2_with (fail)
          go_roundw
          case rel =>
            refine ⟨i + 1, wrap64 (wrap64 (n * 8) + (x - 48) % 256), by go_num, ?_, by omega, ⟨by unfold wrap64; omega⟩, ⟨HG.out⟩, by first | rfl | trivial⟩
            go_num
          case measure => simp [intOf]; omega
    · obtain rfl : i = ls.length := by omega
      have hg := HG.out
      rw [List.drop_length, getL] at hg
      obtain ⟨pl, pb, hput⟩ : ∃ p b, putN n l.length = (p, b) := ⟨_, _, rfl⟩
      have HPUT := Aside0.mk hput
      have HGE := Aside0.mk (show getEnd l R = if pb = true ∧ pl = l then (n, true) else (0, false) by rw [← hg]; unfold getEnd; simp only [hput])
      have HB0 := Aside0.mk (pw_below_drewN (Below.refl w.heap.size w) nd)
      clear hg HG hput
      cases pb with
      | false =>
        go_wp2_with (first | (go_at_call 84; refine (num_Put.at_ _ _ _ _ _ HN.out HPUT).mono ?_; rintro e w3 ⟨A3, c3, rfl, hc3, hC3, hb3, _⟩))
        go_ret2
        rw [HGE.out, if_neg (by simp)]
        exact ⟨by first | rfl | trivial, below_step HB0.out hb3⟩
      | true =>
        have hpl : pl.length ≤ 20 := by
          have h9 := putN_length (n := n) (w := l.length) (by rw [HPUT.out])
          have e9 : (putN n l.length).1 = pl := by rw [HPUT.out]
          rw [e9] at h9
          omega
        by_cases heq : pl = l
        · have HEQ := Aside0.mk heq
          have HQ := Aside0.mk (decide_eq_true heq)
          clear heq
          go_wp2_with (first | (go_at_call 84; refine (num_Put.at_ _ _ _ _ _ HN.out HPUT).mono ?_; rintro e w3 ⟨A3, c3, rfl, hc3, hC3, hb3, _⟩; have hq := equal_at A3 c3 pl (some ad) c l w3 hC3 hc3 (Kd.C_below HC.out (below_step HB0.out hb3)) HCC.out (by omega); rw [HQ.out] at hq) | (go_at_call 117; refine hq.mono ?_; rintro e w4 ⟨rfl, ⟨nd4, rfl⟩⟩))
          go_ret2
          rw [HGE.out, if_pos (by simp [HEQ.out])]
          exact ⟨by first | rfl | trivial, pw_below_drewN (below_step HB0.out hb3) _⟩
        · have HEQ := Aside0.mk heq
          have HQ := Aside0.mk (decide_eq_false heq)
          clear heq
          go_wp2_with (first | (go_at_call 84; refine (num_Put.at_ _ _ _ _ _ HN.out HPUT).mono ?_; rintro e w3 ⟨A3, c3, rfl, hc3, hC3, hb3, _⟩; have hq := equal_at A3 c3 pl (some ad) c l w3 hC3 hc3 (Kd.C_below HC.out (below_step HB0.out hb3)) HCC.out (by omega); rw [HQ.out] at hq) | (go_at_call 117; refine hq.mono ?_; rintro e w4 ⟨rfl, ⟨nd4, rfl⟩⟩))
          go_ret2
          rw [HGE.out, if_neg (by simp [HEQ.out])]
          exact ⟨by first | rfl | trivial, pw_below_drewN (below_step HB0.out hb3) _⟩
theorem num_Get.at_ (A : Option Addr) (c : Nat) (l : List Int) (w : World) (hC : Kd.C (Kd.int .u8) w A l.length l) (hc : l.length ≤ c) (hby : ∀ x ∈ l, 0 ≤ x ∧ x ≤ 255) :
    Calls Tryz.prog 94 #[.slice A l.length c] w fun e w' => e = .returned (.tuple #[.int .i64 (getN l).1, .bool (getN l).2]) ∧ Below w.heap.size w w' := by
  by_cases h : l.length < 2 ∨ 20 < l.length
  · have e : getN l = (0, false) := by unfold getN; rw [if_pos h]
    rw [e]
    exact num_Get.wide A c l w h hC.2.1
  · rw [getN_end h]
    unfold getV
    by_cases hmk : l.getD 0 0 = 128
    · rw [if_pos hmk]
      exact num_Get.mark A c l w hC hc hby (by omega) (by omega) hmk
    · rw [if_neg hmk]
      exact num_Get.plain A c l w hC hc hby (by omega) (by omega) hmk
end
end Go.Proofs.YtpedagpcblnnhaaGreat.X
