/- Headers of what goes on, plainly. -/
import Derived.Test.YtekfgmpldgoglaaXK
import Derived.Test.YtekfgmpldgoglaaXGtree
import Derived.Test.YtekfgmpldgoglaaXGhead
import Derived.Test.YtekfgmpldgoglaaXGnum
import Derived.Test.YtekfgmpldgoglaaXGlong
import Derived.Test.YtekfgmpldgoglaaXGlong
import Derived.Test.YtekfgmpldgoglaaXGblock
import Derived.Test.YtekfgmpldgoglaaYAll
import Derived.Test.YtekfgmpldgoglaaYAll
import Derived.Test.YtekfgmpldgoglaaYAll
import Derived.Test.YtekfgmpldgoglaaYAll
import Derived.Test.YtekfgmpldgoglaaPGA
import Derived.Test.YtekfgmpldgoglaaPGA
import Derived.Test.YtekfgmpldgoglaaPGA
import Derived.Test.YtekfgmpldgoglaaPGA
import Derived.Test.YtekfgmpldgoglaaPGA
import Derived.Test.YtekfgmpldgoglaaPGA
import Derived.Test.YtekfgmpldgoglaaPGA
import Derived.Test.YtekfgmpldgoglaaPGA
import Derived.Test.YtekfgmpldgoglaaPGA
import Derived.Test.YtekfgmpldgoglaaPGA
import Derived.Test.YtekfgmpldgoglaaPGA
import Derived.Test.YtekfgmpldgoglaaPGA
import Derived.Test.YtekfgmpldgoglaaPGE
import Derived.Test.YtekfgmpldgoglaaPGE
import Derived.Test.YtekfgmpldgoglaaPGE
import Derived.Test.YtekfgmpldgoglaaPGE
import Derived.Lib.IndexAny
namespace Go.Proofs.Ytekfgmpldgoglaa.X
open Go.RowKit Go.Proofs.YtekfgmpldgoglaaW.PrintWords Go.Proofs.YtekfgmpldgoglaaW.PrintLast Go.Proofs.YtekfgmpldgoglaaW.PrintMore
attribute [local go_sem] max2_int min2_int max_two min_two
set_option linter.unusedVariables false
set_option linter.unusedSimpArgs false

open Go.Proofs.YtekfgmpldgoglaaY
/-- The last header of a file that goes on. -/
def contHd (n : Nd) (off whole : Int) : Hd := ⟨n.f0.extract 0 (min n.f0.size 100), ⟨#[]⟩, ⟨#[]⟩, n.f3, n.f4, n.f5, whole - off, n.f6, 77, off, whole⟩
/-- Its headers. -/
def contB (n : Nd) (off whole : Int) : List (List Int) := (if 100 < n.f0.size then longL 76 n.f0 else []) ++ [hdBlk (contHd n off whole)]
theorem contHd_ok {n : Nd} (h : OneFacts n) {off whole : Int} (h0 : 0 ≤ off) (h1 : off ≤ whole) (h2 : whole ≤ 4000) : hdOk (contHd n off whole) = true := by
  have hz := mayL_pos h.path
  have hsz : (n.f0.extract 0 (min n.f0.size 100)).size ≤ 100 := by rw [ByteArray.size_extract]; omega
  have hpos : 0 < (n.f0.extract 0 (min n.f0.size 100)).size := by rw [ByteArray.size_extract]; omega
  have hnn : (0 : UInt8) ∉ (n.f0.extract 0 (min n.f0.size 100)).data.toList := by
    rw [Lib.extract_data]
    intro hm
    exact (mayL_nought h.path) (List.mem_of_mem_drop (List.mem_of_mem_take hm))
  have w0 : wordOk (n.f0.extract 0 (min n.f0.size 100)) 100 = true := wordOk_of hsz hnn
  have w2 : wordOk (⟨#[]⟩ : ByteArray) 100 = true := wordOk_of (by decide) (by simp)
  have n3 := putN_ok8 h.mode.1 (by have := h.mode; omega)
  have n4 := putN_ok8 h.uid.1 h.uid.2
  have n5 := putN_ok8 h.gid.1 h.gid.2
  have n6 := putN_ok12 (n := whole - off) (by omega) (by omega)
  have n7 := putN_ok12 h.time.1 h.time.2
  have n9 := putN_ok12 (n := off) (by omega) (by omega)
  have n10 := putN_ok12 (n := whole) (by omega) (by omega)
  have hne : ((n.f0.extract 0 (min n.f0.size 100)).toList == ([] : List UInt8)) = false := by rw [nil_size]; exact decide_eq_false (by omega)
  have ht : typeOk 77 = true := by decide +kernel
  have h77 : (contHd n off whole).f8 = 77 := rfl
  unfold hdOk hdA hdWords hdNumbers
  rw [if_pos h77, if_pos h77, if_pos h77]
  show ((!((n.f0.extract 0 (min n.f0.size 100)).toList == ([] : List UInt8)) && (typeOk 77 && ((⟨#[]⟩ : ByteArray).toList == ([] : List UInt8)))) && ((wordOk (n.f0.extract 0 (min n.f0.size 100)) 100 && (wordOk (⟨#[]⟩ : ByteArray) 100 && true)) && ((putN n.f3 8).2 && ((putN n.f4 8).2 && ((putN n.f5 8).2 && ((putN (whole - off) 12).2 && ((putN n.f6 12).2 && ((putN off 12).2 && ((putN whole 12).2 && true))))))))) = true
  have hnil : ((⟨#[]⟩ : ByteArray).toList == ([] : List UInt8)) = true := by rw [nil_size]; exact decide_eq_true rfl
  rw [hne, ht, hnil, w0, w2, n3, n4, n5, n6, n7, n9, n10]
  rfl
theorem contHd_in {n : Nd} (h : OneFacts n) {off whole : Int} (h0 : 0 ≤ off) (h1 : off ≤ whole) (h2 : whole ≤ 4000) : hdIn (contHd n off whole) := by
  obtain ⟨hm, hu, hg, ht⟩ := And.intro h.mode (And.intro h.uid (And.intro h.gid h.time))
  refine ⟨⟨by show (0 : Int) ≤ 77; omega, by show (77 : Int) ≤ 255; omega⟩, by show n.f3 ≤ _; omega, by show n.f4 ≤ _; omega, by show n.f5 ≤ _; omega, by show whole - off ≤ _; omega, by show n.f6 ≤ _; omega, by show off ≤ _; omega, by show whole ≤ _; omega⟩
theorem contPut_yes {n : Nd} (h : OneFacts n) {off whole : Int} (h0 : 0 ≤ off) (h1 : off ≤ whole) (h2 : whole ≤ 4000) : head_Put.f (n.f0.extract 0 (min n.f0.size 100)) ⟨#[]⟩ ⟨#[]⟩ n.f3 n.f4 n.f5 (whole - off) n.f6 77 off whole = some (hdBlk (contHd n off whole), true) :=
  headPut_yes (contHd_ok h h0 h1 h2) (contHd_in h h0 h1 h2)

end Go.Proofs.Ytekfgmpldgoglaa.X
