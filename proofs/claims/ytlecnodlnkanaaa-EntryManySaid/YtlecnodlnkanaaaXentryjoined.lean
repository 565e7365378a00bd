import Derived.Test.YtlecnodlnkanaaaXK
import Derived.Test.YtlecnodlnkanaaaXGslices
import Derived.Laws.EntriesVeiled
import Derived.WalkSpells
namespace Go.Proofs.Ytlecnodlnkanaaa.X
open Go.RowKit Go.Proofs.YtlecnodlnkanaaaW.PrintWords Go.Proofs.YtlecnodlnkanaaaW.PrintLast Go.Proofs.YtlecnodlnkanaaaW.PrintMore
attribute [local go_sem] max2_int min2_int max_two min_two max_three min_three max_four min_four
set_option linter.unusedVariables false
set_option linter.unusedSimpArgs false

set_option maxHeartbeats 1600000 in
theorem entry_joined.at_ (base b : Nat) (xs : List (Option Addr × Nat × List (List Int))) (w : World) (hb : w.heap[b]? = some (.cells (xs.map inV).toArray 30 (0, 0))) (hxs : ∀ x ∈ xs, InRow base w x) (hl : totalL xs ≤ 100000) (hn : xs.length ≤ 1000) (hbase : base ≤ w.heap.size) :
    Calls Try.prog 64 #[.slice (some ⟨b, 0, none⟩) xs.length xs.length] w fun e w' => ∃ v, e = .returned v ∧ Kd.R kRow 42 w' base (fun _ => True) v (flatL xs) ∧ Below w.heap.size w w' := by
  have hcat := slices_Concat.at_ base b xs w hb hxs hl hn hbase
  clear hb hxs
  go_enter Try.func64, Try.ntmps64
  go_wp2_with (first | (go_at_call 77; refine hcat.mono ?_; rintro e w1 ⟨v, rfl, hR, hB⟩))
  go_ret
  exact ⟨v, rfl, hR, hB⟩
end Go.Proofs.Ytlecnodlnkanaaa.X
