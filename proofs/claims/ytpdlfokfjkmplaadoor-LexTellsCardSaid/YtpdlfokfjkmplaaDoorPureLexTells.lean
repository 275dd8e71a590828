/- The tokens that lex.Lex tells of a text, or what is wrong and where, are the document's: the pure statement. No condition. -/
import Derived.Test.YtpdlfokfjkmplaaDoorRefC
import Derived.Test.YtpdlfokfjkmplaaDoorLexL
import Derived.Test.YtpdlfokfjkmplaaDoorSame
import Derived.Test.YtpdlfokfjkmplaaDoorHead04
import Derived.Test.YtpdlfokfjkmplaaDoorPx10
namespace Go.Proofs.YtpdlfokfjkmplaaDoor.Pure
open Go.RowKit Go.Proofs.YtpdlfokfjkmplaaDoor.P Go.Proofs.YtpdlfokfjkmplaaDoorW.PrintWords Go.Proofs.YtpdlfokfjkmplaaDoorW.PrintLast
set_option linter.unusedVariables false

theorem LexTells : sorrellaw04_LexTells.Pure := by
  intro s hs
  by_cases hbig : (s.size : Int) > 21000
  · exact ⟨40, by unfold sorrellaw04_LexTells.f; rw [head_true, Option.bind_some, if_pos hbig]⟩
  · obtain ⟨kr, hr⟩ := rlex s
    have hb := lexAll_bounds s.data.toList
    refine ⟨max (max 40 kr) 20001, ?_⟩
    have hk1 : 40 ≤ max (max 40 kr) 20001 := by omega
    have hk2 : kr ≤ max (max 40 kr) 20001 := by omega
    have hk3 : 20001 ≤ max (max 40 kr) 20001 := by omega
    generalize max (max 40 kr) 20001 = K at *
    have h2 : sorrelref04_Lex.f K s = lex_Lex.f s := by
      have e : lex_Lex.f s = some ((lexAll s.data.toList).1.map tokS, (lexAll s.data.toList).2.1, (lexAll s.data.toList).2.2) := rfl
      rw [e] at hr ⊢
      exact at_rounds (g := fun k => sorrelref04_Lex.f k s) (fun k => sorrelref04_Lex.mono s k) hk2 hr
    have h3 : sorrelref04_Same.f ((lexAll s.data.toList).1.map tokS) ((lexAll s.data.toList).1.map tokS) 0 = some true :=
      same_self (lexAll s.data.toList).1 (by omega) (fun t ht => by have := hb.2 t ht; omega)
    unfold sorrellaw04_LexTells.f
    rw [head_at K hk1, Option.bind_some, if_neg hbig, h2]
    have e : lex_Lex.f s = some ((lexAll s.data.toList).1.map tokS, (lexAll s.data.toList).2.1, (lexAll s.data.toList).2.2) := rfl
    rw [e, Option.bind_some, Option.bind_some]
    simp only [if_true]
    rw [h3, Option.bind_some]
    simp
end Go.Proofs.YtpdlfokfjkmplaaDoor.Pure
