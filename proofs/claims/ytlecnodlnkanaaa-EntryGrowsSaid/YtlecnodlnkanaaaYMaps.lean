/- A map with plain keys in a block known whole: a new key stored, a key looked up. -/
import Derived.WalkKit
import Derived.MapKept
import Derived.RangeFuncRecord
namespace Go.Proofs.YtlecnodlnkanaaaY
open Go.RowKit

theorem putObj_alloc (w : World) (o o' : Obj) : (w.alloc o).putObj w.heap.size o' = w.alloc o' := by
  have : (w.heap.push o).setIfInBounds w.heap.size o' = w.heap.push o' := by
    apply Array.ext_getElem?
    intro i
    rw [Array.getElem?_setIfInBounds]
    simp only [Array.getElem?_push, Array.size_push]
    by_cases h : i = w.heap.size
    · subst h; simp
    · have h2 : w.heap.size ≠ i := fun e => h e.symm
      simp [h, h2]
  unfold World.putObj World.alloc
  simp only [this]

section
variable {P : Program} {T K E : TypeId} {d : TypeDesc} {w : World} {b : Nat} {es : Array MapEntry} {clock : Nat} {k v : Value}

theorem run_mapUpdate_new (hT : P.underlying T = some (.map K E)) (hK : P.underlying K = some d) (hk : MapKept.IsKey d k) (hb : w.heap[b]? = some (.map es clock)) (hn : Instr.findNow d k es.toList 0 = some none) :
    (Instr.mapUpdate T (.map (some b)) k v).run P w = .ok () (w.putObj b (.map (es.push { key := k, val := v, born := clock }) (clock + 1))) := by
  have hc := MapKept.run_checkKey (w := w) hK hk false 9999
  simp only [Nat.reduceAdd] at hc
  have hf := MapKept.run_findKey (w := w) hK hn
  have hs := fun o => MapKept.run_setObj_map (P := P) o hb
  simp only [Instr.mapUpdate, Sem.run_bind, run_underlying hT, Result.andThen, MapKept.run_getObj_map hb, hc, hf, hs, World.putObj]

theorem run_lookup_found (c : Bool) (hT : P.underlying T = some (.map K E)) (hK : P.underlying K = some d) (hk : MapKept.IsKey d k) (hb : w.heap[b]? = some (.map es clock)) {i : Nat} (hn : Instr.findNow d k es.toList 0 = some (some (i, v))) :
    (Instr.lookup T (.map (some b)) k c).run P w = .ok (if c then .tuple #[v, .bool true] else v) w := by
  have hc := MapKept.run_checkKey (w := w) hK hk es.isEmpty 9999
  simp only [Nat.reduceAdd] at hc
  have hf := MapKept.run_findKey (w := w) hK hn
  simp only [Instr.lookup, Sem.run_bind, run_underlying hT, Result.andThen, MapKept.run_getObj_map hb, hc, hf, Sem.run_pure]

theorem run_lookup_lacks (c : Bool) (hT : P.underlying T = some (.map K E)) (hK : P.underlying K = some d) (hk : MapKept.IsKey d k) (hb : w.heap[b]? = some (.map es clock)) (hn : Instr.findNow d k es.toList 0 = some none) (hz : (zeroValue E).run P w = .ok v w) :
    (Instr.lookup T (.map (some b)) k c).run P w = .ok (if c then .tuple #[v, .bool false] else v) w := by
  have hc := MapKept.run_checkKey (w := w) hK hk es.isEmpty 9999
  simp only [Nat.reduceAdd] at hc
  have hf := MapKept.run_findKey (w := w) hK hn
  simp only [Instr.lookup, Sem.run_bind, run_underlying hT, Result.andThen, MapKept.run_getObj_map hb, hc, hf, Sem.run_pure, hz]
end

end Go.Proofs.YtlecnodlnkanaaaY
