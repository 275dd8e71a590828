/- Small words on tokens, in plain Lean. No condition. -/
import Derived.Test.YthdccdbiichabaaDoorLexL
import Derived.Test.YthdccdbiichabaaDoorLex
namespace Go.Proofs.YthdccdbiichabaaDoor.P
open Go.RowKit Go.Proofs.YthdccdbiichabaaDoorW.PrintWords
set_option linter.unusedVariables false

def shiftT (d : Int) (t : Tok) : Tok := ⟨t.kind, t.text, t.val, t.at' + d⟩

theorem rd_map (l : List Tok) (i : Nat) (h : i < l.length) : rd_T65 (l.map tokS) (i : Int) = tokS l[i] := by
  unfold rd_T65
  rw [Int.toNat_natCast, List.getD_eq_getElem?_getD, List.getElem?_eq_getElem (by rw [List.length_map]; exact h), List.getElem_map]
  rfl

/-- Texts with something between. -/
theorem ba_app (s t : ByteArray) : (s ++ t).data.toList = s.data.toList ++ t.data.toList := by simp
theorem lex_f (s : ByteArray) : lex_Lex.f s = some ((lexAll s.data.toList).1.map tokS, (lexAll s.data.toList).2.1, (lexAll s.data.toList).2.2) := rfl
end Go.Proofs.YthdccdbiichabaaDoor.P
