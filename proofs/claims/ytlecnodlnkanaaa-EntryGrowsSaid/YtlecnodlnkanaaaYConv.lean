/- append onto the bytes of a text: '[]byte(s)' is a new row whose mark is its own; what is appended lies in it, or in another new row. -/
import Derived.Test.YtlecnodlnkanaaaWMore
import Derived.ArgAppend
namespace Go.Proofs.YtlecnodlnkanaaaY
open Go.RowKit Go.Proofs.YtlecnodlnkanaaaW.PrintWords

theorem C_of_cells {w : World} {g : Nat} {l : List Int} (hl : l.length ≤ 9223372036854775807) (h : ∀ j u, (nums .u8 l)[j]? = some u → w.cell? ⟨g, j, none⟩ = some u) : (Kd.int .u8).C w (some ⟨g, 0, none⟩) l.length l := by
  refine Kd.C_of_reads (enc := Value.int .u8) (d := (0 : Int)) (h1 := fun _ => rfl) ⟨rfl, hl, fun _ => ⟨_, rfl, fun j hj => ?_⟩⟩
  rw [add_plain]
  refine h j _ ?_
  unfold nums
  rw [List.getElem?_map, List.getElem?_eq_getElem hj]
  simp [List.getD_eq_getElem?_getD, List.getElem?_eq_getElem hj]

theorem bytes_cell {W : World} {e : TypeId} {s : ByteArray} {j : Nat} {u : Value} (h : (nums .u8 (bytesOf s))[j]? = some u) : (Lib.bytesWorld W e s).cell? ⟨W.heap.size, j, none⟩ = some u := by
  obtain ⟨hj, hv⟩ := List.getElem?_eq_some_iff.1 h
  have hj2 : j < s.size := by rw [nums_length, bytesOf_length] at hj; exact hj
  rw [Lib.bytesWorld_cell W e s j hj2, ← hv]
  have h' : j < s.data.toList.length := by rw [data_length]; exact hj2
  simp [nums, bytesOf, List.getD_eq_getElem?_getD, List.getElem?_eq_getElem h']

section
variable {P : Program} {ops : Array Oper} {rest : List Oper} {o : Oper} {a : Act} {Q : Exit → Act → World → Prop}
theorem wpList_append_bytes (W : World) (hgd : o.guard = none) (s x : Operand) (t e : TypeId) (hop : o.op = Op.call { callee := Callee.builtin Builtin.append, args := #[s, x], argTypes := #[t, t] })
    (ht : P.underlying t = some (.slice e)) (hinfo : (P.info? e).map (fun i => (i.zero, i.size, i.bytes)) = some (some (.int .u8 0), 1, 1)) (txt : ByteArray) (news : List Int) (h0 : 0 < news.length)
    (hs : a.eval s = .slice (some ⟨W.heap.size, 0, none⟩) txt.size (grownCap W txt.size 0 e)) (hx : a.eval x = .slice (some ⟨(Lib.bytesWorld W e txt).heap.size, 0, none⟩) news.length news.length)
    (hsz : txt.size + news.length ≤ 140737488355328)
    (h : ∀ g c w', W.heap.size ≤ g → (bytesOf txt ++ news).length ≤ c → (Kd.int .u8).C w' (some ⟨g, 0, none⟩) (bytesOf txt ++ news).length (bytesOf txt ++ news) → Below W.heap.size W w' → wpList P ops Q rest (a.put o.dst (.slice (some ⟨g, 0, none⟩) (txt.size + news.length) c)) w') :
    wpList P ops Q (o :: rest) a ((Lib.bytesWorld W e txt).alloc (.cells (nums .u8 news).toArray e)) := by
  obtain ⟨i0, hi, hz0, hz1, hz2⟩ := info_parts hinfo
  have hll : (bytesOf txt ++ news).length = txt.size + news.length := by rw [List.length_append, bytesOf_length]
  have hbs := Lib.bytesWorld_size W e txt
  have hB : Below W.heap.size W ((Lib.bytesWorld W e txt).alloc (.cells (nums .u8 news).toArray e)) := (bytes_below (Below.refl _ _) (Nat.le_refl _) e txt).alloc (by omega) _
  have hold : ∀ j u, (nums .u8 (bytesOf txt))[j]? = some u → ((Lib.bytesWorld W e txt).alloc (.cells (nums .u8 news).toArray e)).cell? ⟨W.heap.size, j, none⟩ = some u := by
    intro j u hj
    rw [← bytes_cell (W := W) (e := e) hj]
    unfold World.cell?
    simp only
    rw [Below.heap_alloc _ _ _ (by omega)]
  have hblk := Lib.bytesWorld_at_new W e txt
  have hblk2 : ((Lib.bytesWorld W e txt).alloc (.cells (nums .u8 news).toArray e)).heap[W.heap.size]? = some (.cells (Lib.bytesCells W e txt) e ((Lib.bytesCells W e txt).size, (Lib.bytesCells W e txt).size + 1)) := (Below.heap_alloc _ _ _ (by omega)).trans hblk
  have hcs : txt.size ≤ grownCap W txt.size 0 e → (Lib.bytesCells W e txt).size = grownCap W txt.size 0 e := by
    intro hle
    unfold Lib.bytesCells
    rw [Array.size_append, Array.size_map, Array.size_replicate]
    show txt.size + _ = _
    omega
  refine wpList_append_arg _ hgd s x t hop e i0 (.int .u8 0) 1 1 ht hi hz0 hz1 hz2 rfl (by decide) W.heap.size 0 txt.size (grownCap W txt.size 0 e) (nums .u8 (bytesOf txt)) hs (by rw [nums_length, bytesOf_length, Nat.mul_one])
    (fun j u hj => by rw [Nat.zero_add]; exact hold j u hj) ⟨(Lib.bytesWorld W e txt).heap.size, 0, none⟩ news.length news.length (nums .u8 news) hx (by rw [nums_length, Nat.mul_one]) (fun j u hj => ?hc)
    (fun u hu => by unfold nums at hu; obtain ⟨_, _, rfl⟩ := List.mem_map.1 hu; rfl) (fun hr j hj => ?hsp) (by simp only [maxLen]; omega) (by omega) (fun hr => ?room) (fun hg v' w' hown hgr => ?grow)
  case hc =>
    rw [add_plain]
    have := blk_cell (heap_alloc_new (Lib.bytesWorld W e txt) (.cells (nums .u8 news).toArray e)) j
    rw [this, List.getElem?_toArray]
    exact hj
  case hsp =>
    rw [nums_length] at hj
    have hc1 := hcs (by omega)
    refine ⟨?_, ?_⟩
    · unfold World.cell?
      simp only
      rw [hblk2]
      simp only [Nat.zero_add, Nat.mul_one]
      rw [Array.getElem?_eq_getElem (by omega)]
      rfl
    · unfold World.frozen?
      simp only
      rw [hblk2]
      simp only [Nat.zero_add, Nat.mul_one, Bool.and_eq_false_iff, decide_eq_false_iff_not]
      exact .inl (by omega)
  case room =>
    have hc1 := hcs (by omega)
    have hone : ∀ v ∈ nums .u8 news, v.oneCell' = true := fun u hu => by unfold nums at hu; obtain ⟨_, _, rfl⟩ := List.mem_map.1 hu; rfl
    refine h W.heap.size _ _ (Nat.le_refl _) (by rw [hll]; exact hr) ?_ ?_
    · refine C_of_cells (by rw [hll]; omega) ?_
      intro j u hj
      rw [nums_append] at hj
      rw [Nat.zero_add, Nat.mul_one]
      by_cases hjt : j < txt.size
      · rw [List.getElem?_append_left (by rw [nums_length, bytesOf_length]; exact hjt)] at hj
        rw [World.cell?_setCells_out _ _ _ _ _ (fun _ _ => .inl hjt)]
        exact hold j u hj
      · rw [List.getElem?_append_right (by rw [nums_length, bytesOf_length]; omega), nums_length, bytesOf_length] at hj
        obtain ⟨hjl, hv⟩ := List.getElem?_eq_some_iff.1 hj
        have := World.cell?_setCells_in W.heap.size (nums .u8 news) txt.size ((Lib.bytesWorld W e txt).alloc (.cells (nums .u8 news).toArray e)) (fun i hi => by
          rw [nums_length] at hi
          unfold World.cell?
          simp only
          rw [hblk2]
          simp only
          rw [Array.getElem?_eq_getElem (by omega)]
          rfl) (j - txt.size) hjl
        rw [hv] at this
        rw [show txt.size + (j - txt.size) = j by omega] at this
        exact this
    · obtain ⟨h1, h2, h3, h4⟩ := setCells_same W.heap.size (nums .u8 news) (0 + txt.size * 1) ((Lib.bytesWorld W e txt).alloc (.cells (nums .u8 news).toArray e))
      exact hB.trans ⟨h1, h2, h3, by rw [h4]; exact Nat.le_refl _, fun k hk => setCells_far (nums .u8 news) _ k (by omega)⟩
  case grow =>
    rw [← nums_append] at hown
    obtain ⟨A, c, hv, hle, hr⟩ := own_reads_of_le (enc := Value.int .u8) (d := (0 : Int)) (xs := bytesOf txt ++ news) hown
    obtain ⟨g, cap, hform, hg2, _⟩ := hown.form (by omega)
    rw [hv] at hform
    injection hform with e1 e2 e3
    subst e1 hv
    refine h g c w' ?_ (by rw [hll]; exact hle) (by rw [hll]; exact Kd.C_of_reads (h1 := fun _ => rfl) hr) ?_
    · rw [World.size_alloc] at hg2; omega
    · exact hB.grown hgr (by rw [World.size_alloc]; omega) (fun k e => by cases e)
end
end Go.Proofs.YtlecnodlnkanaaaY
