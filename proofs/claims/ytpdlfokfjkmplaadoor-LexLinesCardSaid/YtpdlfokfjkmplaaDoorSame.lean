/- sorrelref04.Same and Alike of rows of tokens that are one, but for places. No program in sight. No condition but lengths. -/
import Derived.Test.YtpdlfokfjkmplaaDoorTok
import Derived.Test.YtpdlfokfjkmplaaDoorSameW
namespace Go.Proofs.YtpdlfokfjkmplaaDoor.P
open Go.RowKit Go.Proofs.YtpdlfokfjkmplaaDoorW.PrintWords
set_option linter.unusedVariables false

theorem same_from (l : List Tok) (e : Int) (he : -1000000 ≤ e ∧ e ≤ 1000000) (hat : ∀ x ∈ l, -1000000 ≤ x.at' ∧ x.at' ≤ 1000000) (d : Nat) : ∀ i : Nat, i + d = l.length → sameFrom (l.map tokS) ((l.map (shiftT e)).map tokS) e d i = true := by
  induction d with
  | zero => intro i hi; rfl
  | succ d ih =>
    intro i hi
    have hi' : i < l.length := by omega
    have hb := hat _ (List.getElem_mem hi')
    have hu : sameFrom (l.map tokS) ((l.map (shiftT e)).map tokS) e (d + 1) i = if tokNe (rd_T30 (l.map tokS) (i : Int)) (rd_T30 ((l.map (shiftT e)).map tokS) (i : Int)) e = true then false else sameFrom (l.map tokS) ((l.map (shiftT e)).map tokS) e d (i + 1) := rfl
    rw [hu, rd_map l i hi', rd_map (l.map (shiftT e)) i (by rw [List.length_map]; exact hi'), List.getElem_map]
    generalize l[i] = t at hb
    have e1 : wrap64 ((tokS t).f3 + e) = (tokS (shiftT e t)).f3 := wrapN (x := t.at' + e) (by omega) (by omega)
    have e3 : (tokS (shiftT e t)).f0 = (tokS t).f0 := rfl
    have e4 : (tokS (shiftT e t)).f1 = (tokS t).f1 := rfl
    have e5 : (tokS (shiftT e t)).f2 = (tokS t).f2 := rfl
    unfold tokNe
    rw [e1, e3, e4, e5]
    simp only [beq_self_eq_true, Bool.not_true, Bool.or_self, Bool.false_eq_true, if_false]
    exact ih (i + 1) (by omega)
theorem same_shift (l : List Tok) (e : Int) (he : -1000000 ≤ e ∧ e ≤ 1000000) (hl : l.length ≤ 1000000) (hat : ∀ x ∈ l, -1000000 ≤ x.at' ∧ x.at' ≤ 1000000) : sorrelref04_Same.f (l.map tokS) ((l.map (shiftT e)).map tokS) e = some true := by
  unfold sorrelref04_Same.f
  rw [if_pos (by simp), if_pos (by rw [List.length_map]; omega)]
  rw [same_from l e he hat _ 0 (by rw [List.length_map]; omega)]
theorem shiftT_zero (l : List Tok) : l.map (shiftT 0) = l := by
  have : shiftT 0 = id := by
    funext t
    cases t
    simp [shiftT]
  rw [this, List.map_id]
theorem same_self (l : List Tok) (hl : l.length ≤ 1000000) (hat : ∀ x ∈ l, -1000000 ≤ x.at' ∧ x.at' ≤ 1000000) : sorrelref04_Same.f (l.map tokS) (l.map tokS) 0 = some true := by
  have := same_shift l 0 (by omega) hl hat
  rwa [shiftT_zero] at this

theorem alike_from (l m : List Tok) (hlen : l.length = m.length) (h : ∀ i (h1 : i < l.length) (h2 : i < m.length), l[i].kind = m[i].kind ∧ l[i].text = m[i].text ∧ l[i].val = m[i].val) (d : Nat) : ∀ i : Nat, i + d = l.length → alikeFrom (l.map tokS) (m.map tokS) d i = true := by
  induction d with
  | zero => intro i hi; rfl
  | succ d ih =>
    intro i hi
    have hu : alikeFrom (l.map tokS) (m.map tokS) (d + 1) i = if tokNeA (rd_T30 (l.map tokS) (i : Int)) (rd_T30 (m.map tokS) (i : Int)) = true then false else alikeFrom (l.map tokS) (m.map tokS) d (i + 1) := rfl
    obtain ⟨h1, h2, h3⟩ := h i (by omega) (by omega)
    rw [hu, rd_map l i (by omega), rd_map m i (by omega)]
    have e1 : (tokS l[i]).f0 = (tokS m[i]).f0 := h1
    have e2 : (tokS l[i]).f1 = (tokS m[i]).f1 := by
      show (⟨l[i].text.toArray⟩ : ByteArray) = ⟨m[i].text.toArray⟩
      rw [h2]
    have e3 : (tokS l[i]).f2 = (tokS m[i]).f2 := h3
    unfold tokNeA
    rw [e1, e2, e3]
    simp only [beq_self_eq_true, Bool.not_true, Bool.or_self, Bool.false_eq_true, if_false]
    exact ih (i + 1) (by omega)
theorem alike_shift (ts us : List Tok) (d e : Int) (hl : ts.length + us.length ≤ 1000000) : sorrelref04_Alike.f ((ts ++ us.map (shiftT d)).map tokS) ((ts ++ us.map (shiftT e)).map tokS) = some true := by
  unfold sorrelref04_Alike.f
  rw [if_pos (by simp), if_pos (by simp only [List.length_append, List.length_map]; omega)]
  rw [alike_from _ _ (by simp) (fun i h1 h2 => ?_) _ 0 (by rw [List.length_map]; omega)]
  by_cases hi : i < ts.length
  · rw [List.getElem_append_left hi, List.getElem_append_left hi]
    exact ⟨rfl, rfl, rfl⟩
  · rw [List.getElem_append_right (by omega), List.getElem_append_right (by omega), List.getElem_map, List.getElem_map]
    exact ⟨rfl, rfl, rfl⟩
end Go.Proofs.YtpdlfokfjkmplaaDoor.P
