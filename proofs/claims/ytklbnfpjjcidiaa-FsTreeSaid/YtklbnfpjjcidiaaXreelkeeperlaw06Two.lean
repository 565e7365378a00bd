import Derived.Test.YtklbnfpjjcidiaaXK
namespace Go.Proofs.Ytklbnfpjjcidiaa.X
open Go.RowKit Go.Proofs.YtklbnfpjjcidiaaW.PrintWords Go.Proofs.YtklbnfpjjcidiaaW.PrintLast Go.Proofs.YtklbnfpjjcidiaaW.PrintMore
attribute [local go_sem] max2_int min2_int max_two min_two
set_option linter.unusedVariables false
set_option linter.unusedSimpArgs false

/-! ### reelkeeperlaw06_Two: function 30 -/
def reelkeeperlaw06_Two.f  : Option ((List (S26))) := some (([(⟨(⟨#[97]⟩ : ByteArray), (⟨#[]⟩ : ByteArray), 53, 493, 0, 0, 0, (⟨#[]⟩ : ByteArray)⟩ : S26), (⟨(⟨#[97, 47, 98]⟩ : ByteArray), (⟨#[]⟩ : ByteArray), 48, 420, 0, 0, 7, (⟨#[104, 101, 108, 108, 111]⟩ : ByteArray)⟩ : S26)] : List (S26)))
set_option maxHeartbeats 8000000 in
set_option maxRecDepth 100000 in
theorem reelkeeperlaw06_Two.calls  (r : List (S26)) (w : World) (h : reelkeeperlaw06_Two.f  = some r) :
    Calls Try.prog 30 #[] w fun e w' => ∃ v0_ : Value, e = .returned (v0_) ∧ Kd.R k26 26 w' w.heap.size (fun _ => True) v0_ r ∧ Below w.heap.size w w' := by
  have hu26 := Try.underlying26
  have HB := Aside0.mk (Below.refl w.heap.size w)
  have H : (some (([(⟨(⟨#[97]⟩ : ByteArray), (⟨#[]⟩ : ByteArray), 53, 493, 0, 0, 0, (⟨#[]⟩ : ByteArray)⟩ : S26), (⟨(⟨#[97, 47, 98]⟩ : ByteArray), (⟨#[]⟩ : ByteArray), 48, 420, 0, 0, 7, (⟨#[104, 101, 108, 108, 111]⟩ : ByteArray)⟩ : S26)] : List (S26)))) = some r := h
  clear h
  obtain ⟨y101, hy101⟩ : ∃ y_ : List (S26), y_ = (([(⟨(⟨#[97]⟩ : ByteArray), (⟨#[]⟩ : ByteArray), 53, 493, 0, 0, 0, (⟨#[]⟩ : ByteArray)⟩ : S26), (⟨(⟨#[97, 47, 98]⟩ : ByteArray), (⟨#[]⟩ : ByteArray), 48, 420, 0, 0, 7, (⟨#[104, 101, 108, 108, 111]⟩ : ByteArray)⟩ : S26)] : List (S26))) := ⟨_, rfl⟩
  replace H : (some y101) = some r := by first | (rw [hy101]; with_reducible exact H) | (have H2_ := (Option.bind_some _ _).symm.trans H; rw [hy101]; with_reducible exact H2_) | (have H2_ := (Option.bind_some _ _).symm.trans H; with_reducible exact H2_) | with_reducible exact H | (rw [hy101]; exact H) | exact H
  have Ny101 := Aside0.mk hy101
  clear hy101
  obtain rfl := Option.some.inj H
  go_enter Try.func30, Try.ntmps30
  go_wp2_with (first | ((with_reducible refine gate_dst (N := 3) rfl ?_); refine Kd.R_lit k26 _ 26 ?hg (N := 3) ?hd (xs := ([(⟨(⟨#[97]⟩ : ByteArray), (⟨#[]⟩ : ByteArray), 53, 493, 0, 0, 0, (⟨#[]⟩ : ByteArray)⟩ : S26), (⟨(⟨#[97, 47, 98]⟩ : ByteArray), (⟨#[]⟩ : ByteArray), 48, 420, 0, 0, 7, (⟨#[104, 101, 108, 108, 111]⟩ : ByteArray)⟩ : S26)] : List (S26))) (inner := [.string (⟨#[97]⟩ : ByteArray), .string (⟨#[]⟩ : ByteArray), .int .u8 53, .int .i64 493, .int .i64 0, .int .i64 0, .int .i64 0, .string (⟨#[]⟩ : ByteArray), .string (⟨#[97, 47, 98]⟩ : ByteArray), .string (⟨#[]⟩ : ByteArray), .int .u8 48, .int .i64 420, .int .i64 0, .int .i64 0, .int .i64 7, .string (⟨#[104, 101, 108, 108, 111]⟩ : ByteArray)]) (ok := fun _ => True) (okp := fun _ => True) ?hr ?hp (fun _ hk => hk) trivial (Below.refl _ _) (Nat.le_refl _) (by simp) ?_; (case hd => rfl); (case hg => rfl); (case hr => first | (go_simp; done) | (go_simp; rfl)); (case hp => exact (Reps.c8 (show Kd.M k26 _ _ _ (⟨(⟨#[97]⟩ : ByteArray), (⟨#[]⟩ : ByteArray), 53, 493, 0, 0, 0, (⟨#[]⟩ : ByteArray)⟩ : S26) [.string (⟨#[97]⟩ : ByteArray), .string (⟨#[]⟩ : ByteArray), .int .u8 53, .int .i64 493, .int .i64 0, .int .i64 0, .int .i64 0, .string (⟨#[]⟩ : ByteArray)] from (k26_mkM _ _ _ (⟨(⟨#[97]⟩ : ByteArray), (⟨#[]⟩ : ByteArray), 53, 493, 0, 0, 0, (⟨#[]⟩ : ByteArray)⟩ : S26) )) (Reps.c8 (show Kd.M k26 _ _ _ (⟨(⟨#[97, 47, 98]⟩ : ByteArray), (⟨#[]⟩ : ByteArray), 48, 420, 0, 0, 7, (⟨#[104, 101, 108, 108, 111]⟩ : ByteArray)⟩ : S26) [.string (⟨#[97, 47, 98]⟩ : ByteArray), .string (⟨#[]⟩ : ByteArray), .int .u8 48, .int .i64 420, .int .i64 0, .int .i64 0, .int .i64 7, .string (⟨#[104, 101, 108, 108, 111]⟩ : ByteArray)] from (k26_mkM _ _ _ (⟨(⟨#[97, 47, 98]⟩ : ByteArray), (⟨#[]⟩ : ByteArray), 48, 420, 0, 0, 7, (⟨#[104, 101, 108, 108, 111]⟩ : ByteArray)⟩ : S26) )) (Reps.none _ _)))); intro v102 w1 ho2 hb hg_ hnew_; clear hg_ hnew_; (first | rw [← Ny101.out] at ho2 | (simp only [Int.reduceToNat] at ho2; rw [← Ny101.out] at ho2)); have n0_ := Aside0.mk (Kd.R_lower ho2 (below_size (by repeat (first | (with_reducible first | exact HB.out | apply below_alloc | apply pw_below_drewN | apply below_drew1) | exact HB.out)))); have n1_ := Aside0.mk (below_step (by repeat (first | (with_reducible first | exact HB.out | apply below_alloc | apply pw_below_drewN | apply below_drew1) | exact HB.out)) hb); clear HB; have HO103 := n0_; have HB := n1_; clear n0_ n1_; clear hb ho2))
  go_ret
  exact ⟨_, by first | rfl | (simp [errW_none, errW_some] <;> rfl) | (simp [*, errW_none, errW_some] <;> rfl), by (with_reducible repeat (first | apply Kd.R_alloc | apply Kd.R_drewN | apply Kd.R_drew)); exact HO103.out, by repeat (first | (with_reducible first | exact HB.out | apply below_alloc | apply pw_below_drewN | apply below_drew1) | exact HB.out)⟩

end Go.Proofs.Ytklbnfpjjcidiaa.X
