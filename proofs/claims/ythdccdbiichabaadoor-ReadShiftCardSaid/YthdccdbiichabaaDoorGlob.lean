/- What the walks ask of the package-level variables of Go's library that lex.Lex comes to: the variable strconv.ErrRange holds an error (in each world behind the call's begin). No condition beside it. -/
import Derived.Test.YthdccdbiichabaaDoorProg
import Derived.Below
import Derived.LaidLaws
import Derived.Lib.LaidTab
import Derived.Lib.ItoaNum
import Derived.Test.YthdccdbiichabaaDoorV
namespace Go.Proofs.YthdccdbiichabaaDoor.P
open Go.RowKit Go.Proofs.YthdccdbiichabaaDoorW.PrintWords
set_option linter.unusedVariables false

/-- The library's variables, as the walks need them. -/
structure GW (w : World) : Prop where
  range : ∃ tp p, w.cell? ⟨2, 0, none⟩ = some (.iface tp p)
  pow : Lib.TabIs Tryd.prog w "internal/strconv.uint64pow10" .u64 Lib.pow10Tab

theorem var_below {P : Program} {w W : World} (hb : Below w.heap.size w W) {n : String} {cs : Array Value} (h : w.var? P n = some cs) : W.var? P n = some cs := by
  unfold World.var? at h ⊢
  cases hg : P.globalNamed n with
  | none => rw [hg] at h; cases h
  | some g =>
    rw [hg] at h
    simp only [Option.bind_some] at h ⊢
    cases ho : w.heap[g]? with
    | none => rw [ho] at h; cases h
    | some o => rw [hb.block g (Array.getElem?_eq_some_iff.1 ho).1, ho]; rw [ho] at h; exact h
theorem tab_below {P : Program} {w W : World} (hb : Below w.heap.size w W) {n : String} {k : IntKind} {zs : List Int} (h : Lib.TabIs P w n k zs) : Lib.TabIs P W n k zs := var_below hb h

theorem GW.below {w W : World} (h : GW w) (hb : Below w.heap.size w W) : GW W := {
  range := by
    obtain ⟨tp, p, hc⟩ := h.range
    exact ⟨tp, p, pw_cell_below hb hc⟩
  pow := tab_below hb h.pow
  }
theorem GW.belowA {w W : World} (h : Aside0 (GW w)) (hb : Below w.heap.size w W) : Aside0 (GW W) := ⟨h.out.below hb⟩
end Go.Proofs.YthdccdbiichabaaDoor.P
