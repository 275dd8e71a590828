import Derived.Test.YthdccdbiichabaaDoorLexL
import Derived.Test.YthdccdbiichabaaDoorPx6
import Derived.Test.YthdccdbiichabaaDoorPx7
import Derived.Test.YthdccdbiichabaaDoorPx9
import Derived.Test.YthdccdbiichabaaDoorRdS
import Derived.Test.YthdccdbiichabaaDoorTok
import Derived.Test.YthdccdbiichabaaDoorRdZ
/- The document's comparisons tell that a thing is the same as itself. In plain Lean. No condition. -/
namespace Go.Proofs.YthdccdbiichabaaDoor.P
open Go.RowKit Go.Proofs.YthdccdbiichabaaDoorW.PrintWords Go.Proofs.YthdccdbiichabaaDoorW.PrintLast Go.Proofs.YthdccdbiichabaaDoorW.PrintMore
set_option linter.unusedVariables false
set_option linter.unusedSimpArgs false
theorem same_rf_l0 (l : List S41) (hl : l.length < 1000000) : ∀ (k : Nat) (i : Nat), i ≤ l.length → (l.length - i) < k → sorrelref01_Same.l0 k l l (i : Int) = some true
  | 0, _, _, h => absurd h (by omega)
  | k + 1, i, hi, hk => by
    simp only [sorrelref01_Same.l0]
    by_cases h : i < l.length
    · rw [if_pos (by omega), if_pos (by omega), if_pos (by omega)]
      have hw : wrap64 ((i : Int) + 1) = ((i + 1 : Nat) : Int) := by rw [wrapN (by omega) (by omega)]; omega
      have ih := same_rf_l0 l hl k (i + 1) (by omega) (by omega)
      rw [hw]
      simpa using ih
    · rw [if_neg (by omega)]
theorem same_rf (l : List S41) (hl : l.length < 1000000) (k : Nat) (hk : l.length < k) : sorrelref01_Same.f k l l = some true := by
  unfold sorrelref01_Same.f
  rw [if_pos rfl]
  exact same_rf_l0 l hl k 0 (by omega) (by omega)
theorem texts_rf_l0 (l : List ByteArray) (hl : l.length < 1000000) : ∀ (k : Nat) (i : Nat), i ≤ l.length → (l.length - i) < k → sorrelref05_Texts.l0 k l l (i : Int) = some true
  | 0, _, _, h => absurd h (by omega)
  | k + 1, i, hi, hk => by
    simp only [sorrelref05_Texts.l0]
    by_cases h : i < l.length
    · rw [if_pos (by omega), if_pos (by omega), if_pos (by omega)]
      have hw : wrap64 ((i : Int) + 1) = ((i + 1 : Nat) : Int) := by rw [wrapN (by omega) (by omega)]; omega
      have ih := texts_rf_l0 l hl k (i + 1) (by omega) (by omega)
      rw [hw]
      first | rw [if_pos trivial] | rw [if_pos rfl]
      exact ih
    · rw [if_neg (by omega)]
theorem texts_rf (l : List ByteArray) (hl : l.length < 1000000) (k : Nat) (hk : l.length < k) : sorrelref05_Texts.f k l l = some true := by
  unfold sorrelref05_Texts.f
  rw [if_pos rfl]
  exact texts_rf_l0 l hl k 0 (by omega) (by omega)
theorem lits_rf_l0 (l : List S43) (N : Nat) (hN : ∀ x ∈ l, x.f1.length < N) (hN1 : N < 1000000) (hl : l.length < 1000000) : ∀ (k : Nat) (i : Nat), i ≤ l.length → N + (l.length - i) < k → sorrelref05_SameLits.l0 k l l (i : Int) = some true
  | 0, _, _, h => absurd h (by omega)
  | k + 1, i, hi, hk => by
    simp only [sorrelref05_SameLits.l0]
    by_cases h : i < l.length
    · rw [if_pos (by omega), if_pos (by omega), if_pos (by omega)]
      have hw : wrap64 ((i : Int) + 1) = ((i + 1 : Nat) : Int) := by rw [wrapN (by omega) (by omega)]; omega
      have ih := lits_rf_l0 l N hN hN1 hl k (i + 1) (by omega) (by omega)
      rw [hw]
      have hx : rd_T43 l (i : Int) ∈ l := by
        unfold rd_T43
        rw [Int.toNat_natCast, List.getD_eq_getElem?_getD, List.getElem?_eq_getElem h]
        exact List.getElem_mem h
      have hs := same_rf (rd_T43 l (i : Int)).f1 (by have := hN _ hx; omega) k (by have := hN _ hx; omega)
      simp only [bne_self_eq_false, Bool.false_eq_true, if_false, hs, Option.bind_some, if_true]
      exact ih
    · rw [if_neg (by omega)]
theorem lits_rf (l : List S43) (N : Nat) (hN : ∀ x ∈ l, x.f1.length < N) (hN1 : N < 1000000) (hl : l.length < 1000000) (k : Nat) (hk : N + l.length < k) : sorrelref05_SameLits.f k l l = some true := by
  unfold sorrelref05_SameLits.f
  rw [if_pos rfl]
  exact lits_rf_l0 l N hN hN1 hl k 0 (by omega) (by omega)
end Go.Proofs.YthdccdbiichabaaDoor.P
/- The document's comparisons tell that a thing is the same as itself. In plain Lean. No condition. -/
namespace Go.Proofs.YthdccdbiichabaaDoor.P
open Go.RowKit Go.Proofs.YthdccdbiichabaaDoorW.PrintWords Go.Proofs.YthdccdbiichabaaDoorW.PrintLast Go.Proofs.YthdccdbiichabaaDoorW.PrintMore
set_option linter.unusedVariables false
set_option linter.unusedSimpArgs false
theorem clauses_rf_l0 (l : List S39) (N : Nat) (hH : ∀ x ∈ l, x.f0.length < N) (hB : ∀ x ∈ l, x.f1.length < N) (hN : ∀ x ∈ l, ∀ y ∈ x.f1, y.f1.length < N) (hN1 : N < 500000) (hl : l.length < 1000000) : ∀ (k : Nat) (i : Nat), i ≤ l.length → N + N + (l.length - i) < k → sorrelref05_Same.l0 k l l (i : Int) = some true
  | 0, _, _, h => absurd h (by omega)
  | k + 1, i, hi, hk => by
    simp only [sorrelref05_Same.l0]
    by_cases h : i < l.length
    · rw [if_pos (by omega), if_pos (by omega), if_pos (by omega)]
      have hw : wrap64 ((i : Int) + 1) = ((i + 1 : Nat) : Int) := by rw [wrapN (by omega) (by omega)]; omega
      have ih := clauses_rf_l0 l N hH hB hN hN1 hl k (i + 1) (by omega) (by omega)
      rw [hw]
      have hx : rd_T39 l (i : Int) ∈ l := by
        unfold rd_T39
        rw [Int.toNat_natCast, List.getD_eq_getElem?_getD, List.getElem?_eq_getElem h]
        exact List.getElem_mem h
      have b1 := hH _ hx
      have b2 := hB _ hx
      have hs := same_rf (rd_T39 l (i : Int)).f0 (by omega) k (by omega)
      have hb := lits_rf (rd_T39 l (i : Int)).f1 N (hN _ hx) (by omega) (by omega) k (by omega)
      simp only [hs, hb, Option.bind_some, if_true]
      exact ih
    · rw [if_neg (by omega)]
theorem clauses_rf (l : List S39) (N : Nat) (hH : ∀ x ∈ l, x.f0.length < N) (hB : ∀ x ∈ l, x.f1.length < N) (hN : ∀ x ∈ l, ∀ y ∈ x.f1, y.f1.length < N) (hN1 : N < 500000) (hl : l.length < 1000000) (k : Nat) (hk : N + N + l.length < k) : sorrelref05_Same.f k l l = some true := by
  unfold sorrelref05_Same.f
  rw [if_pos rfl]
  exact clauses_rf_l0 l N hH hB hN hN1 hl k 0 (by omega) (by omega)
end Go.Proofs.YthdccdbiichabaaDoor.P
/- Words for the pure statements of the reader's laws: a text cut short; what is read of any text; the document's comparisons of what was read with itself. No condition. -/
namespace Go.Proofs.YthdccdbiichabaaDoor.P
open Go.RowKit Go.Proofs.YthdccdbiichabaaDoorW.PrintWords Go.Proofs.YthdccdbiichabaaDoorW.PrintLast Go.Proofs.YthdccdbiichabaaDoorW.PrintMore
set_option linter.unusedVariables false
set_option linter.unusedSimpArgs false
theorem cut_at (a0 : ByteArray) (n : Int) (h0 : a0.size ≤ 140737488351232) (hn : 0 ≤ n) : ∃ x, sorrellaw05_cut.f a0 n = some x ∧ (x.size : Int) ≤ n := by
  unfold sorrellaw05_cut.f
  have h1 : 0 ≤ mn (a0.size : Int) n ∧ mn (a0.size : Int) n ≤ a0.size ∧ mn (a0.size : Int) n ≤ n := by
    unfold mn
    split <;> omega
  rw [if_pos h1.1, if_pos h1.2.1]
  refine ⟨_, rfl, ?_⟩
  rw [ByteArray.size_extract]
  omega
theorem term_cases (s : List UInt8) : (∃ x, termR 100000 s = some (.ok x)) ∨ ∃ a c, termR 100000 s = some (.error (a, c)) := by
  match h : termR 100000 s with
  | none => exact absurd h (term_ne s _ (by omega))
  | some (.ok x) => exact .inl ⟨x, rfl⟩
  | some (.error (a, c)) => exact .inr ⟨a, c, rfl⟩
theorem program_cases (s : List UInt8) : (∃ x, programR 100000 s = some (.ok x)) ∨ ∃ a c, programR 100000 s = some (.error (a, c)) := by
  match h : programR 100000 s with
  | none => exact absurd h (program_ne s _ (by omega))
  | some (.ok x) => exact .inl ⟨x, rfl⟩
  | some (.error (a, c)) => exact .inr ⟨a, c, rfl⟩
theorem same_cl (l : List ClR) (hl : l.length ≤ 64 ∧ ∀ c ∈ l, CW c) (k : Nat) (hk : 1000 ≤ k) : sorrelref05_Same.f k (l.map clS) (l.map clS) = some true := by
  refine clauses_rf (l.map clS) 300 ?_ ?_ ?_ (by omega) (by rw [List.length_map]; omega) k (by rw [List.length_map]; omega)
  · intro x hx
    obtain ⟨c, hc, rfl⟩ := List.mem_map.1 hx
    have := right_len (hl.2 c hc).1.1
    simp only [clS, List.length_map]
    omega
  · intro x hx
    obtain ⟨c, hc, rfl⟩ := List.mem_map.1 hx
    have := (hl.2 c hc).2.1
    simp only [clS, List.length_map]
    omega
  · intro x hx y hy
    obtain ⟨c, hc, rfl⟩ := List.mem_map.1 hx
    simp only [clS] at hy
    obtain ⟨z, hz, rfl⟩ := List.mem_map.1 hy
    have := right_len ((hl.2 c hc).2.2 z hz).1
    simp only [litS, List.length_map]
    omega
theorem same_tm (x : List Cel) (h : rightR x = true) (k : Nat) (hk : 1000 ≤ k) : sorrelref01_Same.f k (x.map celS) (x.map celS) = some true := by
  have := right_len h
  exact same_rf (x.map celS) (by rw [List.length_map]; omega) k (by rw [List.length_map]; omega)
theorem same_ns (x : List (List UInt8)) (h : x.length ≤ 20000) (k : Nat) (hk : 30000 ≤ k) : sorrelref05_Texts.f k (x.map baS) (x.map baS) = some true :=
  texts_rf (x.map baS) (by rw [List.length_map]; omega) k (by rw [List.length_map]; omega)
end Go.Proofs.YthdccdbiichabaaDoor.P
