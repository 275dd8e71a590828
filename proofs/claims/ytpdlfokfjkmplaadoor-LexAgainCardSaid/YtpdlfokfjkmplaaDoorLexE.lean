/- Each rule of lex.rules: whether it fits, and what it takes, by the contracts of its two functions. Printed by wip/gen/mklexe.py. No condition but lengths. -/
import Derived.Test.YtpdlfokfjkmplaaDoorLexA
import Derived.Test.YtpdlfokfjkmplaaDoorLexC
namespace Go.Proofs.YtpdlfokfjkmplaaDoor.P
open Go.RowKit Go.Proofs.YtpdlfokfjkmplaaDoorW.PrintWords
set_option linter.unusedVariables false

theorem wide_row {w w1 W : World} {s0 k j : Nat} {v : Value} (hB : Below w1.heap.size w1 W) (h : w1.cell? ⟨s0 + k, j, none⟩ = some v) : W.cell? ⟨s0 + k, j, none⟩ = some v := pw_cell_below hB h
theorem rowL_tells (p : UInt8 → Bool) (m : Nat) (l : List UInt8) : tells (rowL p m l) = if spanP p l > m then ((⟨#[]⟩ : ByteArray), 0, 2) else ((⟨(l.take (spanP p l)).toArray⟩ : ByteArray), (spanP p l : Int), 0) := by
  unfold rowL
  split <;> rfl
/-- row(set, most)'s closure, whatever it comes to. -/
theorem row_any (s set : ByteArray) (p : UInt8 → Bool) (hset : IsSet set p) (m : Nat) (hs : s.size ≤ 1000000) (ad am : Addr) (W : World) (hc : W.cell? ad = some (.string set)) (hm : W.cell? am = some (.int .i64 m)) :
    Calls Tryd.prog 50 #[.string s, .pointer (some ad), .pointer (some am)] W fun e w' => e = .returned (.tuple #[.string (tells (rowL p m s.data.toList)).1, .int .i64 (tells (rowL p m s.data.toList)).2.1, .int .i64 (tells (rowL p m s.data.toList)).2.2]) ∧ Below W.heap.size W w' := by
  have hf := span_f s set p hset hs
  have hle := spanP_le p s.data.toList
  rw [bl_size] at hle
  rw [rowL_tells]
  by_cases hb : spanP p s.data.toList > m
  · rw [if_pos hb]
    exact row_great s set m _ ad am W hc hm hf (by omega)
  · rw [if_neg hb]
    have h := row_takes s set m _ ad am W hc hm hf (by omega) (by omega) (by omega)
    have e : s.extract 0 ((spanP p s.data.toList : Nat) : Int).toNat = ⟨(s.data.toList.take (spanP p s.data.toList)).toArray⟩ := ba_eq (by rw [Int.toNat_natCast, bl_to])
    rw [e] at h
    exact h

theorem begins_0 (s' : ByteArray) (c : UInt8) (r : List UInt8) (hl : s'.data.toList = c :: r) (hs : s'.size ≤ 1000000) (w w1 : World) (HR : RulesIn w.heap.size w1) (W : World) (hW : Below w1.heap.size w1 W) :
    Calls Tryd.prog 48 #[.string s', .pointer (some ⟨w.heap.size, 0, none⟩)] W fun e w' => e = .returned (.bool (bg 0 (c :: r))) ∧ ∃ m, w' = W.drewN m := by
  have hs0 : 0 < s'.size := by rw [← bl_size, hl]; simp
  have hf : lex_has.f smallsB (bt s' 0) = some (isSmall c) := by rw [bt_cons s' c r hl]; exact has_f _ _ smalls_set c
  exact (first_begins s' smallsB _ _ W hs0 (pw_cell_below hW HR.c0) hf).mono fun e w' ⟨he, hd⟩ => ⟨he, hd.out⟩
theorem takes_0 (s' : ByteArray) (c : UInt8) (r : List UInt8) (hl : s'.data.toList = c :: r) (hs : s'.size ≤ 1000000) (w w1 : World) (HR : RulesIn w.heap.size w1) (W : World) (hW : Below w1.heap.size w1 W) :
    Calls Tryd.prog 50 #[.string s', .pointer (some ⟨w.heap.size + 1, 0, none⟩), .pointer (some ⟨w.heap.size + 2, 0, none⟩)] W fun e w' => e = .returned (.tuple #[.string (tells (tk 0 (c :: r))).1, .int .i64 (tells (tk 0 (c :: r))).2.1, .int .i64 (tells (tk 0 (c :: r))).2.2]) ∧ Below W.heap.size W w' := by
  have h := row_any s' lettersB isLetter letters_set 12 hs _ _ W (pw_cell_below hW HR.c1) (pw_cell_below hW HR.c2)
  rw [hl] at h
  exact h

theorem begins_1 (s' : ByteArray) (c : UInt8) (r : List UInt8) (hl : s'.data.toList = c :: r) (hs : s'.size ≤ 1000000) (w w1 : World) (HR : RulesIn w.heap.size w1) (W : World) (hW : Below w1.heap.size w1 W) :
    Calls Tryd.prog 48 #[.string s', .pointer (some ⟨w.heap.size + 3, 0, none⟩)] W fun e w' => e = .returned (.bool (bg 1 (c :: r))) ∧ ∃ m, w' = W.drewN m := by
  have hs0 : 0 < s'.size := by rw [← bl_size, hl]; simp
  have hf : lex_has.f greatsB (bt s' 0) = some (isGreat c) := by rw [bt_cons s' c r hl]; exact has_f _ _ greats_set c
  exact (first_begins s' greatsB _ _ W hs0 (pw_cell_below hW HR.c3) hf).mono fun e w' ⟨he, hd⟩ => ⟨he, hd.out⟩
theorem takes_1 (s' : ByteArray) (c : UInt8) (r : List UInt8) (hl : s'.data.toList = c :: r) (hs : s'.size ≤ 1000000) (w w1 : World) (HR : RulesIn w.heap.size w1) (W : World) (hW : Below w1.heap.size w1 W) :
    Calls Tryd.prog 50 #[.string s', .pointer (some ⟨w.heap.size + 4, 0, none⟩), .pointer (some ⟨w.heap.size + 5, 0, none⟩)] W fun e w' => e = .returned (.tuple #[.string (tells (tk 1 (c :: r))).1, .int .i64 (tells (tk 1 (c :: r))).2.1, .int .i64 (tells (tk 1 (c :: r))).2.2]) ∧ Below W.heap.size W w' := by
  have h := row_any s' lettersB isLetter letters_set 20000 hs _ _ W (pw_cell_below hW HR.c4) (pw_cell_below hW HR.c5)
  rw [hl] at h
  exact h

theorem begins_2 (s' : ByteArray) (c : UInt8) (r : List UInt8) (hl : s'.data.toList = c :: r) (hs : s'.size ≤ 1000000) (w w1 : World) (HR : RulesIn w.heap.size w1) (W : World) (hW : Below w1.heap.size w1 W) :
    Calls Tryd.prog 48 #[.string s', .pointer (some ⟨w.heap.size + 6, 0, none⟩)] W fun e w' => e = .returned (.bool (bg 2 (c :: r))) ∧ ∃ m, w' = W.drewN m := by
  have hs0 : 0 < s'.size := by rw [← bl_size, hl]; simp
  have hf : lex_has.f digitsB (bt s' 0) = some (isDigit c) := by rw [bt_cons s' c r hl]; exact has_f _ _ digits_set c
  exact (first_begins s' digitsB _ _ W hs0 (pw_cell_below hW HR.c6) hf).mono fun e w' ⟨he, hd⟩ => ⟨he, hd.out⟩
theorem takes_2 (s' : ByteArray) (c : UInt8) (r : List UInt8) (hl : s'.data.toList = c :: r) (hs : s'.size ≤ 1000000) (w w1 : World) (HR : RulesIn w.heap.size w1) (W : World) (hW : Below w1.heap.size w1 W) :
    Calls Tryd.prog 50 #[.string s', .pointer (some ⟨w.heap.size + 7, 0, none⟩), .pointer (some ⟨w.heap.size + 8, 0, none⟩)] W fun e w' => e = .returned (.tuple #[.string (tells (tk 2 (c :: r))).1, .int .i64 (tells (tk 2 (c :: r))).2.1, .int .i64 (tells (tk 2 (c :: r))).2.2]) ∧ Below W.heap.size W w' := by
  have h := row_any s' digitsB isDigit digits_set 20000 hs _ _ W (pw_cell_below hW HR.c7) (pw_cell_below hW HR.c8)
  rw [hl] at h
  exact h

theorem begins_3 (s' : ByteArray) (c : UInt8) (r : List UInt8) (hl : s'.data.toList = c :: r) (hs : s'.size ≤ 1000000) (w w1 : World) (HR : RulesIn w.heap.size w1) (W : World) (hW : Below w1.heap.size w1 W) :
    Calls Tryd.prog 48 #[.string s', .pointer (some ⟨w.heap.size + 9, 0, none⟩)] W fun e w' => e = .returned (.bool (bg 3 (c :: r))) ∧ ∃ m, w' = W.drewN m := by
  have hs0 : 0 < s'.size := by rw [← bl_size, hl]; simp
  have hf : lex_has.f quoteB (bt s' 0) = some ((fun c => c == 39) c) := by rw [bt_cons s' c r hl]; exact has_f _ _ quote_set c
  exact (first_begins s' quoteB _ _ W hs0 (pw_cell_below hW HR.c9) hf).mono fun e w' ⟨he, hd⟩ => ⟨he, hd.out⟩
theorem takes_3 (s' : ByteArray) (c : UInt8) (r : List UInt8) (hl : s'.data.toList = c :: r) (hs : s'.size ≤ 1000000) (w w1 : World) (HR : RulesIn w.heap.size w1) (W : World) (hW : Below w1.heap.size w1 W) :
    Calls Tryd.prog 34 #[.string s'] W fun e w' => e = .returned (.tuple #[.string (tells (tk 3 (c :: r))).1, .int .i64 (tells (tk 3 (c :: r))).2.1, .int .i64 (tells (tk 3 (c :: r))).2.2]) ∧ Below W.heap.size W w' := by
  obtain ⟨k, hk⟩ := quoted_f s' hs (by rw [← bl_size, hl]; simp)
  rw [hl] at hk
  exact (lex_quoted.calls k s' _ _ _ W hk).mono fun e w' ⟨he, hd⟩ => ⟨he, hd.below⟩

theorem begins_4 (s' : ByteArray) (c : UInt8) (r : List UInt8) (hl : s'.data.toList = c :: r) (hs : s'.size ≤ 1000000) (w w1 : World) (HR : RulesIn w.heap.size w1) (W : World) (hW : Below w1.heap.size w1 W) :
    Calls Tryd.prog 48 #[.string s', .pointer (some ⟨w.heap.size + 10, 0, none⟩)] W fun e w' => e = .returned (.bool (bg 4 (c :: r))) ∧ ∃ m, w' = W.drewN m := by
  have hs0 : 0 < s'.size := by rw [← bl_size, hl]; simp
  have hf : lex_has.f punctsB (bt s' 0) = some (isPunct c) := by rw [bt_cons s' c r hl]; exact has_f _ _ puncts_set c
  exact (first_begins s' punctsB _ _ W hs0 (pw_cell_below hW HR.c10) hf).mono fun e w' ⟨he, hd⟩ => ⟨he, hd.out⟩
theorem takes_4 (s' : ByteArray) (c : UInt8) (r : List UInt8) (hl : s'.data.toList = c :: r) (hs : s'.size ≤ 1000000) (w w1 : World) (HR : RulesIn w.heap.size w1) (W : World) (hW : Below w1.heap.size w1 W) :
    Calls Tryd.prog 35 #[.string s'] W fun e w' => e = .returned (.tuple #[.string (tells (tk 4 (c :: r))).1, .int .i64 (tells (tk 4 (c :: r))).2.1, .int .i64 (tells (tk 4 (c :: r))).2.2]) ∧ Below W.heap.size W w' := by
  have hk := single_f s' (by rw [hl]; simp)
  rw [hl] at hk
  exact (lex_single.calls s' _ _ _ W hk).mono fun e w' ⟨he, hd⟩ => ⟨he, hd.below⟩

theorem begins_5 (s' : ByteArray) (c : UInt8) (r : List UInt8) (hl : s'.data.toList = c :: r) (hs : s'.size ≤ 1000000) (w w1 : World) (HR : RulesIn w.heap.size w1) (W : World) (hW : Below w1.heap.size w1 W) :
    Calls Tryd.prog 36 #[.string s'] W fun e w' => e = .returned (.bool (bg 5 (c :: r))) ∧ ∃ m, w' = W.drewN m := by
  exact (lex_ends.calls s' _ W (ends_f s' c r hl)).mono fun e w' ⟨he, hd⟩ => ⟨he, hd.out⟩
theorem takes_5 (s' : ByteArray) (c : UInt8) (r : List UInt8) (hl : s'.data.toList = c :: r) (hs : s'.size ≤ 1000000) (w w1 : World) (HR : RulesIn w.heap.size w1) (W : World) (hW : Below w1.heap.size w1 W) :
    Calls Tryd.prog 35 #[.string s'] W fun e w' => e = .returned (.tuple #[.string (tells (tk 5 (c :: r))).1, .int .i64 (tells (tk 5 (c :: r))).2.1, .int .i64 (tells (tk 5 (c :: r))).2.2]) ∧ Below W.heap.size W w' := by
  have hk := single_f s' (by rw [hl]; simp)
  rw [hl] at hk
  exact (lex_single.calls s' _ _ _ W hk).mono fun e w' ⟨he, hd⟩ => ⟨he, hd.below⟩

theorem begins_6 (s' : ByteArray) (c : UInt8) (r : List UInt8) (hl : s'.data.toList = c :: r) (hs : s'.size ≤ 1000000) (w w1 : World) (HR : RulesIn w.heap.size w1) (W : World) (hW : Below w1.heap.size w1 W) :
    Calls Tryd.prog 48 #[.string s', .pointer (some ⟨w.heap.size + 11, 0, none⟩)] W fun e w' => e = .returned (.bool (bg 6 (c :: r))) ∧ ∃ m, w' = W.drewN m := by
  have hs0 : 0 < s'.size := by rw [← bl_size, hl]; simp
  have hf : lex_has.f signsB (bt s' 0) = some (isSign c) := by rw [bt_cons s' c r hl]; exact has_f _ _ signs_set c
  exact (first_begins s' signsB _ _ W hs0 (pw_cell_below hW HR.c11) hf).mono fun e w' ⟨he, hd⟩ => ⟨he, hd.out⟩
theorem takes_6 (s' : ByteArray) (c : UInt8) (r : List UInt8) (hl : s'.data.toList = c :: r) (hs : s'.size ≤ 1000000) (w w1 : World) (HR : RulesIn w.heap.size w1) (W : World) (hW : Below w1.heap.size w1 W) :
    Calls Tryd.prog 50 #[.string s', .pointer (some ⟨w.heap.size + 12, 0, none⟩), .pointer (some ⟨w.heap.size + 13, 0, none⟩)] W fun e w' => e = .returned (.tuple #[.string (tells (tk 6 (c :: r))).1, .int .i64 (tells (tk 6 (c :: r))).2.1, .int .i64 (tells (tk 6 (c :: r))).2.2]) ∧ Below W.heap.size W w' := by
  have h := row_any s' signsB isSign signs_set 12 hs _ _ W (pw_cell_below hW HR.c12) (pw_cell_below hW HR.c13)
  rw [hl] at h
  exact h

end Go.Proofs.YtpdlfokfjkmplaaDoor.P
