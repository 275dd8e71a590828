/- From the row's listed variables to what the walks ask, and a world in which they are listed so. No condition. -/
import Derived.Test.YthdccdbiichabaaDoorRows
import Derived.Test.YthdccdbiichabaaDoorGlob
import Derived.ProofKit
import Derived.LaidMore
import Derived.MakeChecks
import Derived.OpenShut
import Derived.Stop.Joined
import Derived.Stop.LaidErr
import Derived.KernelRfl
namespace Go.Proofs.YthdccdbiichabaaDoor.P
open Go.RowKit Go.Proofs.YthdccdbiichabaaDoorW.PrintWords
set_option linter.unusedVariables false

def laidList : List (String × DataW Unit) := [("math/bits.deBruijn32tab", Rows.laid_math_bits_deBruijn32tab), ("math/bits.deBruijn64tab", Rows.laid_math_bits_deBruijn64tab), ("internal/strconv.uint64pow10", Rows.laid_internal_strconv_uint64pow10), ("strconv.ErrRange", Rows.laid_strconv_ErrRange), ("strconv.ErrSyntax", Rows.laid_strconv_ErrSyntax)]

theorem gRange : Tryd.prog.globalNamed "strconv.ErrRange" = some 2 := by kernel_rfl
theorem tRange : (Tryd.prog.globals[2]?).map (·.type) = some 107 := by kernel_rfl
theorem starErr : "*" ++ "errors.errorString" = "*errors.errorString" := by decide
theorem rowErr (u : TypeId) (h : Tryd.prog.typeName? 3 u = some "*errors.errorString") : u = 132 :=
  typeName_ptr_named (nm := "errors.errorString") (by rw [starErr]; kernel_rfl) (by kernel_rfl) (by decide) u (by rw [starErr]; exact h)
theorem cStr : Tryd.prog.cellsOf 134 = 1 := by kernel_rfl
theorem cStr2 : Tryd.prog.cellsOf 9 = 1 := by kernel_rfl
theorem plainList : (laidList.all fun x => x.2.handleName?.isNone) = true := by kernel_rfl
theorem gPow : Tryd.prog.globalNamed "internal/strconv.uint64pow10" = some 3 := by kernel_rfl
theorem tPow : (Tryd.prog.globals[3]?).map (·.type) = some 142 := by kernel_rfl
theorem cPow : Tryd.prog.cellsOf 142 = 20 := by kernel_rfl
theorem cU64 : Tryd.prog.cellsOf 105 = 1 := by kernel_rfl

theorem GW_of_laid {W : World} (h : laidMetH Tryd.prog laidList W) : GW W := by
  rw [MakeChecks.laidMetH_plain _ _ _ plainList] at h
  have hL : laidMet Tryd.prog laidList W := h
  unfold laidList at hL
  exact {
    range := by
      have hT := hL.tail.tail.tail
      obtain ⟨a0, s0, hv0, hc0, hs0, hz0⟩ := laid_sentinel hT gRange tRange Tryd.underlying107 rowErr Tryd.underlying132 Tryd.underlying134 rfl rfl Tryd.underlying9 cStr cStr2
      refine ⟨_, _, (by simpa using World.var?_cell gRange hv0 0 : W.cell? ⟨2, 0, none⟩ = some _)⟩
    pow := Lib.tabIs_of_head gPow tPow Tryd.underlying142 Tryd.underlying105 cU64 cPow (show laidMet Tryd.prog (("internal/strconv.uint64pow10", Lib.tabData .u64 Lib.pow10Tab) :: _) W from hL.tail.tail)
    }

theorem door_met (os : Os) (args : Array Value) : laidMetH Tryd.prog laidList ((World.doorLaid Tryd.prog 400 os).forCall (fun _ _ => 0) ⟨#[], args, []⟩).memory :=
  laidMetH_of_parts3 (fuel := 8) (laidMet_of_run' 8 (by kernel_rfl) (by kernel_rfl)) (by kernel_rfl) (by kernel_rfl)
end Go.Proofs.YthdccdbiichabaaDoor.P
