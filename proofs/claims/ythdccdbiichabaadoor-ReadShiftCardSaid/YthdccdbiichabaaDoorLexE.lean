import Derived.Test.YthdccdbiichabaaDoorPreLex
import Derived.Deep.QuietTactic
import Derived.BigQuiet
import Derived.WalkKit
import Derived.BigCall
import Derived.Lib.Hide
import Derived.Test.YthdccdbiichabaaDoorLexL
/- The closures of lex.rules, and the table of the seven rules as it lies in memory. No condition. -/
namespace Go.Proofs.YthdccdbiichabaaDoor.P
open Go.RowKit Go.Proofs.YthdccdbiichabaaDoorW.PrintWords
set_option linter.unusedVariables false

set_option maxHeartbeats 400000 in
/-- The closure of first(set). -/
theorem first_begins (s set : ByteArray) (b : Bool) (ad : Addr) (w : World) (hs : 0 < s.size) (hc : w.cell? ad = some (.string set)) (h : lex_has.f set (bt s 0) = some b) :
    Calls Tryd.prog 65 #[.string s, .pointer (some ad)] w fun e w' => e = .returned (.bool b) ∧ Drawn0 w w' := by
  have h0 : (0 : Int) < s.size := by omega
  have HC : Hid (∀ n : Nat, Calls Tryd.prog 66 #[.string set, .int .u8 (bt s 0)] (w.drewN n) fun e w' => e = .returned (.bool b) ∧ ∃ m, w' = (w.drewN n).drewN m) :=
    Lib.hid fun n => (lex_has.calls set (bt s 0) b _ h).mono fun e w' ⟨he, hd⟩ => ⟨he, hd.out⟩
  clear h
  have hbt : ∀ h : 0 < s.size, ((s[0]'h).toNat : Int) = bt s 0 := bt_at s 0
  go_enter Tryd.func65, Tryd.ntmps65
  go_wp2
  go_quiet ((go_at_call 66; exact Calls.quiet_of (HC.out _)))
  go_wp2
  go_ret
  exact ⟨rfl, ⟨⟨_, rfl⟩⟩⟩

set_option maxHeartbeats 400000 in
/-- The closure of row(set, most). -/
theorem row_takes (s set : ByteArray) (most n : Int) (ad am : Addr) (w : World) (hc : w.cell? ad = some (.string set)) (hm : w.cell? am = some (.int .i64 most)) (h : lex_span.f s set = some n) (h0 : 0 ≤ n) (h1 : n ≤ s.size) (hn : n ≤ most) :
    Calls Tryd.prog 67 #[.string s, .pointer (some ad), .pointer (some am)] w fun e w' => e = .returned (.tuple #[.string (s.extract 0 n.toNat), .int .i64 n, .int .i64 0]) ∧ Below w.heap.size w w' := by
  have HC := Lib.hid (lex_span.calls s set n · h)
  have hlt1 : ad.block < w.heap.size := World.block_lt_of_cell? w ad hc
  have hlt2 : am.block < w.heap.size := World.block_lt_of_cell? w am hm
  clear h
  go_enter Tryd.func67, Tryd.ntmps67
  go_wp2_with (go_at_call 56; refine (HC.out _).mono ?_)
  rintro e w1 ⟨rfl, hb⟩
  have hm1 : w1.cell? am = some (.int .i64 most) := (hb.cell hlt2).trans hm
  clear hc hm
  go_wp2
  go_ret3
  exact ⟨rfl, hb⟩

set_option maxHeartbeats 400000 in
/-- The closure of row(set, most), where the row is too long. -/
theorem row_great (s set : ByteArray) (most n : Int) (ad am : Addr) (w : World) (hc : w.cell? ad = some (.string set)) (hm : w.cell? am = some (.int .i64 most)) (h : lex_span.f s set = some n) (hn : most < n) :
    Calls Tryd.prog 67 #[.string s, .pointer (some ad), .pointer (some am)] w fun e w' => e = .returned (.tuple #[.string ⟨#[]⟩, .int .i64 0, .int .i64 2]) ∧ Below w.heap.size w w' := by
  have HC := Lib.hid (lex_span.calls s set n · h)
  have hlt1 : ad.block < w.heap.size := World.block_lt_of_cell? w ad hc
  have hlt2 : am.block < w.heap.size := World.block_lt_of_cell? w am hm
  clear h
  go_enter Tryd.func67, Tryd.ntmps67
  go_wp2_with (go_at_call 56; refine (HC.out _).mono ?_)
  rintro e w1 ⟨rfl, hb⟩
  have hm1 : w1.cell? am = some (.int .i64 most) := (hb.cell hlt2).trans hm
  clear hc hm
  go_wp2
  go_ret3
  exact ⟨rfl, hb⟩

set_option maxHeartbeats 400000 in
/-- first(set): a closure over a cell of its own that holds the set. -/
theorem first_makes (set : ByteArray) (w : World) :
    Calls Tryd.prog 51 #[.string set] w fun e w' => e = .returned (.func (.func 65) #[] #[.pointer (some ⟨w.heap.size, 0, none⟩)]) ∧ w' = w.alloc (.cells #[.string set] 9) := by
  have hmf : ∀ (fn : Fn) (first cap : Array Value) (w : World), (Instr.makeFunc fn first cap).run Tryd.prog w = .ok (.func fn first cap) w := fun _ _ _ _ => rfl
  go_enter Tryd.func51, Tryd.ntmps51
  go_wp2
  go_ret
  exact ⟨rfl, rfl⟩

set_option maxHeartbeats 400000 in
/-- row(set, most): a closure over two cells of its own. -/
theorem row_makes (set : ByteArray) (most : Int) (w : World) :
    Calls Tryd.prog 52 #[.string set, .int .i64 most] w fun e w' => e = .returned (.func (.func 67) #[] #[.pointer (some ⟨w.heap.size, 0, none⟩), .pointer (some ⟨w.heap.size + 1, 0, none⟩)]) ∧ w' = (w.alloc (.cells #[.string set] 9)).alloc (.cells #[.int .i64 most] 3) := by
  have hmf : ∀ (fn : Fn) (first cap : Array Value) (w : World), (Instr.makeFunc fn first cap).run Tryd.prog w = .ok (.func fn first cap) w := fun _ _ _ _ => rfl
  go_enter Tryd.func52, Tryd.ntmps52
  go_wp2
  go_ret
  exact ⟨rfl, rfl⟩
end Go.Proofs.YthdccdbiichabaaDoor.P

namespace Go.Proofs.YthdccdbiichabaaDoor.P
open Go.RowKit Go.Proofs.YthdccdbiichabaaDoorW.PrintWords
set_option linter.unusedVariables false

def smallsB : ByteArray := ⟨#[97, 98, 99, 100, 101, 102, 103, 104, 105, 106, 107, 108, 109, 110, 111, 112, 113, 114, 115, 116, 117, 118, 119, 120, 121, 122]⟩
def greatsB : ByteArray := ⟨#[65, 66, 67, 68, 69, 70, 71, 72, 73, 74, 75, 76, 77, 78, 79, 80, 81, 82, 83, 84, 85, 86, 87, 88, 89, 90, 95]⟩
def digitsB : ByteArray := ⟨#[48, 49, 50, 51, 52, 53, 54, 55, 56, 57]⟩
def lettersB : ByteArray := ⟨#[97, 98, 99, 100, 101, 102, 103, 104, 105, 106, 107, 108, 109, 110, 111, 112, 113, 114, 115, 116, 117, 118, 119, 120, 121, 122, 65, 66, 67, 68, 69, 70, 71, 72, 73, 74, 75, 76, 77, 78, 79, 80, 81, 82, 83, 84, 85, 86, 87, 88, 89, 90, 95, 48, 49, 50, 51, 52, 53, 54, 55, 56, 57]⟩
def quoteB : ByteArray := ⟨#[39]⟩
def punctsB : ByteArray := ⟨#[40, 41, 91, 93, 44, 124]⟩
def signsB : ByteArray := ⟨#[43, 45, 42, 47, 92, 94, 60, 62, 61, 126, 58, 63, 64, 35, 38, 36, 46]⟩

def fnFirst (b : Nat) : Value := .func (.func 65) #[] #[.pointer (some ⟨b, 0, none⟩)]
def fnRow (b c : Nat) : Value := .func (.func 67) #[] #[.pointer (some ⟨b, 0, none⟩), .pointer (some ⟨c, 0, none⟩)]
def fnPlain (f : Nat) : Value := .func (.func f) #[] #[]

/-- The table, and what its closures hold, from block s on. -/
structure RulesIn (s : Nat) (w : World) : Prop where
  c0 : w.cell? ⟨s, 0, none⟩ = some (.string smallsB)
  c1 : w.cell? ⟨s + 1, 0, none⟩ = some (.string lettersB)
  c2 : w.cell? ⟨s + 2, 0, none⟩ = some (.int .i64 12)
  c3 : w.cell? ⟨s + 3, 0, none⟩ = some (.string greatsB)
  c4 : w.cell? ⟨s + 4, 0, none⟩ = some (.string lettersB)
  c5 : w.cell? ⟨s + 5, 0, none⟩ = some (.int .i64 20000)
  c6 : w.cell? ⟨s + 6, 0, none⟩ = some (.string digitsB)
  c7 : w.cell? ⟨s + 7, 0, none⟩ = some (.string digitsB)
  c8 : w.cell? ⟨s + 8, 0, none⟩ = some (.int .i64 20000)
  c9 : w.cell? ⟨s + 9, 0, none⟩ = some (.string quoteB)
  c10 : w.cell? ⟨s + 10, 0, none⟩ = some (.string punctsB)
  c11 : w.cell? ⟨s + 11, 0, none⟩ = some (.string signsB)
  c12 : w.cell? ⟨s + 12, 0, none⟩ = some (.string signsB)
  c13 : w.cell? ⟨s + 13, 0, none⟩ = some (.int .i64 12)
  t0 : w.cell? ⟨s + 14, 0, none⟩ = some (.int .i64 1)
  t1 : w.cell? ⟨s + 14, 1, none⟩ = some (fnFirst s)
  t2 : w.cell? ⟨s + 14, 2, none⟩ = some (fnRow (s + 1) (s + 2))
  t3 : w.cell? ⟨s + 14, 3, none⟩ = some (.int .i64 2)
  t4 : w.cell? ⟨s + 14, 4, none⟩ = some (fnFirst (s + 3))
  t5 : w.cell? ⟨s + 14, 5, none⟩ = some (fnRow (s + 4) (s + 5))
  t6 : w.cell? ⟨s + 14, 6, none⟩ = some (.int .i64 3)
  t7 : w.cell? ⟨s + 14, 7, none⟩ = some (fnFirst (s + 6))
  t8 : w.cell? ⟨s + 14, 8, none⟩ = some (fnRow (s + 7) (s + 8))
  t9 : w.cell? ⟨s + 14, 9, none⟩ = some (.int .i64 1)
  t10 : w.cell? ⟨s + 14, 10, none⟩ = some (fnFirst (s + 9))
  t11 : w.cell? ⟨s + 14, 11, none⟩ = some (fnPlain 53)
  t12 : w.cell? ⟨s + 14, 12, none⟩ = some (.int .i64 5)
  t13 : w.cell? ⟨s + 14, 13, none⟩ = some (fnFirst (s + 10))
  t14 : w.cell? ⟨s + 14, 14, none⟩ = some (fnPlain 54)
  t15 : w.cell? ⟨s + 14, 15, none⟩ = some (.int .i64 6)
  t16 : w.cell? ⟨s + 14, 16, none⟩ = some (fnPlain 55)
  t17 : w.cell? ⟨s + 14, 17, none⟩ = some (fnPlain 54)
  t18 : w.cell? ⟨s + 14, 18, none⟩ = some (.int .i64 4)
  t19 : w.cell? ⟨s + 14, 19, none⟩ = some (fnFirst (s + 11))
  t20 : w.cell? ⟨s + 14, 20, none⟩ = some (fnRow (s + 12) (s + 13))

theorem World.alloc_size (W : World) (o : Obj) : (W.alloc o).heap.size = W.heap.size + 1 := by simp
theorem cell_now (W : World) (cs : Array Value) (T : TypeId) (b j : Nat) (h : b = W.heap.size) (v : Value) (hv : cs[j]? = some v) : (W.alloc (.cells cs T)).cell? ⟨b, j, none⟩ = some v := by
  exact (World.cell?_alloc_at _ _ _ _ h).trans hv
theorem cell_past (W : World) (o : Obj) (b j : Nat) (h : b < W.heap.size) : (W.alloc o).cell? ⟨b, j, none⟩ = W.cell? ⟨b, j, none⟩ := by
  exact World.cell?_alloc_past _ _ _ h

def RulesEnd (w : World) (e : Ending) (w' : World) : Prop := e = .returned (.slice (some ⟨w.heap.size + 14, 0, none⟩) 7 7) ∧ RulesIn w.heap.size w' ∧ Below w.heap.size w w'

set_option maxHeartbeats 1000000 in
set_option maxRecDepth 100000 in
theorem rules_makes (w : World) : Calls Tryd.prog 43 #[] w (RulesEnd w) := by
  go_enter Tryd.func43, Tryd.ntmps43
  go_wp2_with (first | (go_at_call 51; refine (first_makes _ _).mono ?_; rintro e w' ⟨rfl, rfl⟩) | (go_at_call 52; refine (row_makes _ _ _).mono ?_; rintro e w' ⟨rfl, rfl⟩))
  go_ret
  refine ⟨rfl, ?_, ?_⟩
  · constructor
    all_goals
      repeat (first | (refine (cell_past _ _ _ _ (by simp only [World.alloc_size]; omega)).trans ?_) | (refine (cell_now _ _ _ _ _ (by simp only [World.alloc_size]) _ rfl)))
  · repeat (first | exact Below.refl _ _ | (refine below_alloc ?_ _))
end Go.Proofs.YthdccdbiichabaaDoor.P
/- Each rule of lex.rules: whether it fits, and what it takes, by the contracts of its two functions. Printed by wip/gen/mklexe.py. No condition but lengths. -/
namespace Go.Proofs.YthdccdbiichabaaDoor.P
open Go.RowKit Go.Proofs.YthdccdbiichabaaDoorW.PrintWords
set_option linter.unusedVariables false

theorem wide_row {w w1 W : World} {s0 k j : Nat} {v : Value} (hB : Below w1.heap.size w1 W) (h : w1.cell? ⟨s0 + k, j, none⟩ = some v) : W.cell? ⟨s0 + k, j, none⟩ = some v := pw_cell_below hB h
theorem rowL_tells (p : UInt8 → Bool) (m : Nat) (l : List UInt8) : tells (rowL p m l) = if spanP p l > m then ((⟨#[]⟩ : ByteArray), 0, 2) else ((⟨(l.take (spanP p l)).toArray⟩ : ByteArray), (spanP p l : Int), 0) := by
  unfold rowL
  split <;> rfl
/-- row(set, most)'s closure, whatever it comes to. -/
theorem row_any (s set : ByteArray) (p : UInt8 → Bool) (hset : IsSet set p) (m : Nat) (hs : s.size ≤ 1000000) (ad am : Addr) (W : World) (hc : W.cell? ad = some (.string set)) (hm : W.cell? am = some (.int .i64 m)) :
    Calls Tryd.prog 67 #[.string s, .pointer (some ad), .pointer (some am)] W fun e w' => e = .returned (.tuple #[.string (tells (rowL p m s.data.toList)).1, .int .i64 (tells (rowL p m s.data.toList)).2.1, .int .i64 (tells (rowL p m s.data.toList)).2.2]) ∧ Below W.heap.size W w' := by
  have hf := span_f s set p hset hs
  have hle := spanP_le p s.data.toList
  rw [bl_size] at hle
  rw [rowL_tells]
  by_cases hb : spanP p s.data.toList > m
  · rw [if_pos hb]
    exact row_great s set m _ ad am W hc hm hf (by omega)
  · rw [if_neg hb]
    have h := row_takes s set m _ ad am W hc hm hf (by omega) (by omega) (by omega)
    have e : s.extract 0 ((spanP p s.data.toList : Nat) : Int).toNat = ⟨(s.data.toList.take (spanP p s.data.toList)).toArray⟩ := ba_eq (by rw [Int.toNat_natCast, bl_to])
    rw [e] at h
    exact h

theorem begins_0 (s' : ByteArray) (c : UInt8) (r : List UInt8) (hl : s'.data.toList = c :: r) (hs : s'.size ≤ 1000000) (w w1 : World) (HR : RulesIn w.heap.size w1) (W : World) (hW : Below w1.heap.size w1 W) :
    Calls Tryd.prog 65 #[.string s', .pointer (some ⟨w.heap.size, 0, none⟩)] W fun e w' => e = .returned (.bool (bg 0 (c :: r))) ∧ ∃ m, w' = W.drewN m := by
  have hs0 : 0 < s'.size := by rw [← bl_size, hl]; simp
  have hf : lex_has.f smallsB (bt s' 0) = some (isSmall c) := by rw [bt_cons s' c r hl]; exact has_f _ _ smalls_set c
  exact (first_begins s' smallsB _ _ W hs0 (pw_cell_below hW HR.c0) hf).mono fun e w' ⟨he, hd⟩ => ⟨he, hd.out⟩
theorem takes_0 (s' : ByteArray) (c : UInt8) (r : List UInt8) (hl : s'.data.toList = c :: r) (hs : s'.size ≤ 1000000) (w w1 : World) (HR : RulesIn w.heap.size w1) (W : World) (hW : Below w1.heap.size w1 W) :
    Calls Tryd.prog 67 #[.string s', .pointer (some ⟨w.heap.size + 1, 0, none⟩), .pointer (some ⟨w.heap.size + 2, 0, none⟩)] W fun e w' => e = .returned (.tuple #[.string (tells (tk 0 (c :: r))).1, .int .i64 (tells (tk 0 (c :: r))).2.1, .int .i64 (tells (tk 0 (c :: r))).2.2]) ∧ Below W.heap.size W w' := by
  have h := row_any s' lettersB isLetter letters_set 12 hs _ _ W (pw_cell_below hW HR.c1) (pw_cell_below hW HR.c2)
  rw [hl] at h
  exact h

theorem begins_1 (s' : ByteArray) (c : UInt8) (r : List UInt8) (hl : s'.data.toList = c :: r) (hs : s'.size ≤ 1000000) (w w1 : World) (HR : RulesIn w.heap.size w1) (W : World) (hW : Below w1.heap.size w1 W) :
    Calls Tryd.prog 65 #[.string s', .pointer (some ⟨w.heap.size + 3, 0, none⟩)] W fun e w' => e = .returned (.bool (bg 1 (c :: r))) ∧ ∃ m, w' = W.drewN m := by
  have hs0 : 0 < s'.size := by rw [← bl_size, hl]; simp
  have hf : lex_has.f greatsB (bt s' 0) = some (isGreat c) := by rw [bt_cons s' c r hl]; exact has_f _ _ greats_set c
  exact (first_begins s' greatsB _ _ W hs0 (pw_cell_below hW HR.c3) hf).mono fun e w' ⟨he, hd⟩ => ⟨he, hd.out⟩
theorem takes_1 (s' : ByteArray) (c : UInt8) (r : List UInt8) (hl : s'.data.toList = c :: r) (hs : s'.size ≤ 1000000) (w w1 : World) (HR : RulesIn w.heap.size w1) (W : World) (hW : Below w1.heap.size w1 W) :
    Calls Tryd.prog 67 #[.string s', .pointer (some ⟨w.heap.size + 4, 0, none⟩), .pointer (some ⟨w.heap.size + 5, 0, none⟩)] W fun e w' => e = .returned (.tuple #[.string (tells (tk 1 (c :: r))).1, .int .i64 (tells (tk 1 (c :: r))).2.1, .int .i64 (tells (tk 1 (c :: r))).2.2]) ∧ Below W.heap.size W w' := by
  have h := row_any s' lettersB isLetter letters_set 20000 hs _ _ W (pw_cell_below hW HR.c4) (pw_cell_below hW HR.c5)
  rw [hl] at h
  exact h

theorem begins_2 (s' : ByteArray) (c : UInt8) (r : List UInt8) (hl : s'.data.toList = c :: r) (hs : s'.size ≤ 1000000) (w w1 : World) (HR : RulesIn w.heap.size w1) (W : World) (hW : Below w1.heap.size w1 W) :
    Calls Tryd.prog 65 #[.string s', .pointer (some ⟨w.heap.size + 6, 0, none⟩)] W fun e w' => e = .returned (.bool (bg 2 (c :: r))) ∧ ∃ m, w' = W.drewN m := by
  have hs0 : 0 < s'.size := by rw [← bl_size, hl]; simp
  have hf : lex_has.f digitsB (bt s' 0) = some (isDigit c) := by rw [bt_cons s' c r hl]; exact has_f _ _ digits_set c
  exact (first_begins s' digitsB _ _ W hs0 (pw_cell_below hW HR.c6) hf).mono fun e w' ⟨he, hd⟩ => ⟨he, hd.out⟩
theorem takes_2 (s' : ByteArray) (c : UInt8) (r : List UInt8) (hl : s'.data.toList = c :: r) (hs : s'.size ≤ 1000000) (w w1 : World) (HR : RulesIn w.heap.size w1) (W : World) (hW : Below w1.heap.size w1 W) :
    Calls Tryd.prog 67 #[.string s', .pointer (some ⟨w.heap.size + 7, 0, none⟩), .pointer (some ⟨w.heap.size + 8, 0, none⟩)] W fun e w' => e = .returned (.tuple #[.string (tells (tk 2 (c :: r))).1, .int .i64 (tells (tk 2 (c :: r))).2.1, .int .i64 (tells (tk 2 (c :: r))).2.2]) ∧ Below W.heap.size W w' := by
  have h := row_any s' digitsB isDigit digits_set 20000 hs _ _ W (pw_cell_below hW HR.c7) (pw_cell_below hW HR.c8)
  rw [hl] at h
  exact h

theorem begins_3 (s' : ByteArray) (c : UInt8) (r : List UInt8) (hl : s'.data.toList = c :: r) (hs : s'.size ≤ 1000000) (w w1 : World) (HR : RulesIn w.heap.size w1) (W : World) (hW : Below w1.heap.size w1 W) :
    Calls Tryd.prog 65 #[.string s', .pointer (some ⟨w.heap.size + 9, 0, none⟩)] W fun e w' => e = .returned (.bool (bg 3 (c :: r))) ∧ ∃ m, w' = W.drewN m := by
  have hs0 : 0 < s'.size := by rw [← bl_size, hl]; simp
  have hf : lex_has.f quoteB (bt s' 0) = some ((fun c => c == 39) c) := by rw [bt_cons s' c r hl]; exact has_f _ _ quote_set c
  exact (first_begins s' quoteB _ _ W hs0 (pw_cell_below hW HR.c9) hf).mono fun e w' ⟨he, hd⟩ => ⟨he, hd.out⟩
theorem takes_3 (s' : ByteArray) (c : UInt8) (r : List UInt8) (hl : s'.data.toList = c :: r) (hs : s'.size ≤ 1000000) (w w1 : World) (HR : RulesIn w.heap.size w1) (W : World) (hW : Below w1.heap.size w1 W) :
    Calls Tryd.prog 53 #[.string s'] W fun e w' => e = .returned (.tuple #[.string (tells (tk 3 (c :: r))).1, .int .i64 (tells (tk 3 (c :: r))).2.1, .int .i64 (tells (tk 3 (c :: r))).2.2]) ∧ Below W.heap.size W w' := by
  obtain ⟨k, hk⟩ := quoted_f s' hs (by rw [← bl_size, hl]; simp)
  rw [hl] at hk
  exact (lex_quoted.calls k s' _ _ _ W hk).mono fun e w' ⟨he, hd⟩ => ⟨he, hd.below⟩

theorem begins_4 (s' : ByteArray) (c : UInt8) (r : List UInt8) (hl : s'.data.toList = c :: r) (hs : s'.size ≤ 1000000) (w w1 : World) (HR : RulesIn w.heap.size w1) (W : World) (hW : Below w1.heap.size w1 W) :
    Calls Tryd.prog 65 #[.string s', .pointer (some ⟨w.heap.size + 10, 0, none⟩)] W fun e w' => e = .returned (.bool (bg 4 (c :: r))) ∧ ∃ m, w' = W.drewN m := by
  have hs0 : 0 < s'.size := by rw [← bl_size, hl]; simp
  have hf : lex_has.f punctsB (bt s' 0) = some (isPunct c) := by rw [bt_cons s' c r hl]; exact has_f _ _ puncts_set c
  exact (first_begins s' punctsB _ _ W hs0 (pw_cell_below hW HR.c10) hf).mono fun e w' ⟨he, hd⟩ => ⟨he, hd.out⟩
theorem takes_4 (s' : ByteArray) (c : UInt8) (r : List UInt8) (hl : s'.data.toList = c :: r) (hs : s'.size ≤ 1000000) (w w1 : World) (HR : RulesIn w.heap.size w1) (W : World) (hW : Below w1.heap.size w1 W) :
    Calls Tryd.prog 54 #[.string s'] W fun e w' => e = .returned (.tuple #[.string (tells (tk 4 (c :: r))).1, .int .i64 (tells (tk 4 (c :: r))).2.1, .int .i64 (tells (tk 4 (c :: r))).2.2]) ∧ Below W.heap.size W w' := by
  have hk := single_f s' (by rw [hl]; simp)
  rw [hl] at hk
  exact (lex_single.calls s' _ _ _ W hk).mono fun e w' ⟨he, hd⟩ => ⟨he, hd.below⟩

theorem begins_5 (s' : ByteArray) (c : UInt8) (r : List UInt8) (hl : s'.data.toList = c :: r) (hs : s'.size ≤ 1000000) (w w1 : World) (HR : RulesIn w.heap.size w1) (W : World) (hW : Below w1.heap.size w1 W) :
    Calls Tryd.prog 55 #[.string s'] W fun e w' => e = .returned (.bool (bg 5 (c :: r))) ∧ ∃ m, w' = W.drewN m := by
  exact (lex_ends.calls s' _ W (ends_f s' c r hl)).mono fun e w' ⟨he, hd⟩ => ⟨he, hd.out⟩
theorem takes_5 (s' : ByteArray) (c : UInt8) (r : List UInt8) (hl : s'.data.toList = c :: r) (hs : s'.size ≤ 1000000) (w w1 : World) (HR : RulesIn w.heap.size w1) (W : World) (hW : Below w1.heap.size w1 W) :
    Calls Tryd.prog 54 #[.string s'] W fun e w' => e = .returned (.tuple #[.string (tells (tk 5 (c :: r))).1, .int .i64 (tells (tk 5 (c :: r))).2.1, .int .i64 (tells (tk 5 (c :: r))).2.2]) ∧ Below W.heap.size W w' := by
  have hk := single_f s' (by rw [hl]; simp)
  rw [hl] at hk
  exact (lex_single.calls s' _ _ _ W hk).mono fun e w' ⟨he, hd⟩ => ⟨he, hd.below⟩

theorem begins_6 (s' : ByteArray) (c : UInt8) (r : List UInt8) (hl : s'.data.toList = c :: r) (hs : s'.size ≤ 1000000) (w w1 : World) (HR : RulesIn w.heap.size w1) (W : World) (hW : Below w1.heap.size w1 W) :
    Calls Tryd.prog 65 #[.string s', .pointer (some ⟨w.heap.size + 11, 0, none⟩)] W fun e w' => e = .returned (.bool (bg 6 (c :: r))) ∧ ∃ m, w' = W.drewN m := by
  have hs0 : 0 < s'.size := by rw [← bl_size, hl]; simp
  have hf : lex_has.f signsB (bt s' 0) = some (isSign c) := by rw [bt_cons s' c r hl]; exact has_f _ _ signs_set c
  exact (first_begins s' signsB _ _ W hs0 (pw_cell_below hW HR.c11) hf).mono fun e w' ⟨he, hd⟩ => ⟨he, hd.out⟩
theorem takes_6 (s' : ByteArray) (c : UInt8) (r : List UInt8) (hl : s'.data.toList = c :: r) (hs : s'.size ≤ 1000000) (w w1 : World) (HR : RulesIn w.heap.size w1) (W : World) (hW : Below w1.heap.size w1 W) :
    Calls Tryd.prog 67 #[.string s', .pointer (some ⟨w.heap.size + 12, 0, none⟩), .pointer (some ⟨w.heap.size + 13, 0, none⟩)] W fun e w' => e = .returned (.tuple #[.string (tells (tk 6 (c :: r))).1, .int .i64 (tells (tk 6 (c :: r))).2.1, .int .i64 (tells (tk 6 (c :: r))).2.2]) ∧ Below W.heap.size W w' := by
  have h := row_any s' signsB isSign signs_set 12 hs _ _ W (pw_cell_below hW HR.c12) (pw_cell_below hW HR.c13)
  rw [hl] at h
  exact h

end Go.Proofs.YthdccdbiichabaaDoor.P
