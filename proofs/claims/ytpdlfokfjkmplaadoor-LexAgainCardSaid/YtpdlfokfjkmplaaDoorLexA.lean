/- The closures of lex.rules, and the table of the seven rules as it lies in memory. No condition. -/
import Derived.Test.YtpdlfokfjkmplaaDoorPreLex
import Derived.Deep.QuietTactic
import Derived.BigQuiet
import Derived.WalkKit
import Derived.BigCall
import Derived.Lib.Hide
namespace Go.Proofs.YtpdlfokfjkmplaaDoor.P
open Go.RowKit Go.Proofs.YtpdlfokfjkmplaaDoorW.PrintWords
set_option linter.unusedVariables false

set_option maxHeartbeats 400000 in
/-- The closure of first(set). -/
theorem first_begins (s set : ByteArray) (b : Bool) (ad : Addr) (w : World) (hs : 0 < s.size) (hc : w.cell? ad = some (.string set)) (h : lex_has.f set (bt s 0) = some b) :
    Calls Tryd.prog 48 #[.string s, .pointer (some ad)] w fun e w' => e = .returned (.bool b) ∧ Drawn0 w w' := by
  have h0 : (0 : Int) < s.size := by omega
  have HC : Hid (∀ n : Nat, Calls Tryd.prog 49 #[.string set, .int .u8 (bt s 0)] (w.drewN n) fun e w' => e = .returned (.bool b) ∧ ∃ m, w' = (w.drewN n).drewN m) :=
    Lib.hid fun n => (lex_has.calls set (bt s 0) b _ h).mono fun e w' ⟨he, hd⟩ => ⟨he, hd.out⟩
  clear h
  have hbt : ∀ h : 0 < s.size, ((s[0]'h).toNat : Int) = bt s 0 := bt_at s 0
  go_enter Tryd.func48, Tryd.ntmps48
  go_wp2
  go_quiet ((go_at_call 49; exact Calls.quiet_of (HC.out _)))
  go_wp2
  go_ret
  exact ⟨rfl, ⟨⟨_, rfl⟩⟩⟩

set_option maxHeartbeats 400000 in
/-- The closure of row(set, most). -/
theorem row_takes (s set : ByteArray) (most n : Int) (ad am : Addr) (w : World) (hc : w.cell? ad = some (.string set)) (hm : w.cell? am = some (.int .i64 most)) (h : lex_span.f s set = some n) (h0 : 0 ≤ n) (h1 : n ≤ s.size) (hn : n ≤ most) :
    Calls Tryd.prog 50 #[.string s, .pointer (some ad), .pointer (some am)] w fun e w' => e = .returned (.tuple #[.string (s.extract 0 n.toNat), .int .i64 n, .int .i64 0]) ∧ Below w.heap.size w w' := by
  have HC := Lib.hid (lex_span.calls s set n · h)
  have hlt1 : ad.block < w.heap.size := World.block_lt_of_cell? w ad hc
  have hlt2 : am.block < w.heap.size := World.block_lt_of_cell? w am hm
  clear h
  go_enter Tryd.func50, Tryd.ntmps50
  go_wp2_with (go_at_call 37; refine (HC.out _).mono ?_)
  rintro e w1 ⟨rfl, hb⟩
  have hm1 : w1.cell? am = some (.int .i64 most) := (hb.cell hlt2).trans hm
  clear hc hm
  go_wp2
  go_ret3
  exact ⟨rfl, hb⟩

set_option maxHeartbeats 400000 in
/-- The closure of row(set, most), where the row is too long. -/
theorem row_great (s set : ByteArray) (most n : Int) (ad am : Addr) (w : World) (hc : w.cell? ad = some (.string set)) (hm : w.cell? am = some (.int .i64 most)) (h : lex_span.f s set = some n) (hn : most < n) :
    Calls Tryd.prog 50 #[.string s, .pointer (some ad), .pointer (some am)] w fun e w' => e = .returned (.tuple #[.string ⟨#[]⟩, .int .i64 0, .int .i64 2]) ∧ Below w.heap.size w w' := by
  have HC := Lib.hid (lex_span.calls s set n · h)
  have hlt1 : ad.block < w.heap.size := World.block_lt_of_cell? w ad hc
  have hlt2 : am.block < w.heap.size := World.block_lt_of_cell? w am hm
  clear h
  go_enter Tryd.func50, Tryd.ntmps50
  go_wp2_with (go_at_call 37; refine (HC.out _).mono ?_)
  rintro e w1 ⟨rfl, hb⟩
  have hm1 : w1.cell? am = some (.int .i64 most) := (hb.cell hlt2).trans hm
  clear hc hm
  go_wp2
  go_ret3
  exact ⟨rfl, hb⟩

set_option maxHeartbeats 400000 in
/-- first(set): a closure over a cell of its own that holds the set. -/
theorem first_makes (set : ByteArray) (w : World) :
    Calls Tryd.prog 32 #[.string set] w fun e w' => e = .returned (.func (.func 48) #[] #[.pointer (some ⟨w.heap.size, 0, none⟩)]) ∧ w' = w.alloc (.cells #[.string set] 9) := by
  have hmf : ∀ (fn : Fn) (first cap : Array Value) (w : World), (Instr.makeFunc fn first cap).run Tryd.prog w = .ok (.func fn first cap) w := fun _ _ _ _ => rfl
  go_enter Tryd.func32, Tryd.ntmps32
  go_wp2
  go_ret
  exact ⟨rfl, rfl⟩

set_option maxHeartbeats 400000 in
/-- row(set, most): a closure over two cells of its own. -/
theorem row_makes (set : ByteArray) (most : Int) (w : World) :
    Calls Tryd.prog 33 #[.string set, .int .i64 most] w fun e w' => e = .returned (.func (.func 50) #[] #[.pointer (some ⟨w.heap.size, 0, none⟩), .pointer (some ⟨w.heap.size + 1, 0, none⟩)]) ∧ w' = (w.alloc (.cells #[.string set] 9)).alloc (.cells #[.int .i64 most] 3) := by
  have hmf : ∀ (fn : Fn) (first cap : Array Value) (w : World), (Instr.makeFunc fn first cap).run Tryd.prog w = .ok (.func fn first cap) w := fun _ _ _ _ => rfl
  go_enter Tryd.func33, Tryd.ntmps33
  go_wp2
  go_ret
  exact ⟨rfl, rfl⟩
end Go.Proofs.YtpdlfokfjkmplaaDoor.P

namespace Go.Proofs.YtpdlfokfjkmplaaDoor.P
open Go.RowKit Go.Proofs.YtpdlfokfjkmplaaDoorW.PrintWords
set_option linter.unusedVariables false

def smallsB : ByteArray := ⟨#[97, 98, 99, 100, 101, 102, 103, 104, 105, 106, 107, 108, 109, 110, 111, 112, 113, 114, 115, 116, 117, 118, 119, 120, 121, 122]⟩
def greatsB : ByteArray := ⟨#[65, 66, 67, 68, 69, 70, 71, 72, 73, 74, 75, 76, 77, 78, 79, 80, 81, 82, 83, 84, 85, 86, 87, 88, 89, 90, 95]⟩
def digitsB : ByteArray := ⟨#[48, 49, 50, 51, 52, 53, 54, 55, 56, 57]⟩
def lettersB : ByteArray := ⟨#[97, 98, 99, 100, 101, 102, 103, 104, 105, 106, 107, 108, 109, 110, 111, 112, 113, 114, 115, 116, 117, 118, 119, 120, 121, 122, 65, 66, 67, 68, 69, 70, 71, 72, 73, 74, 75, 76, 77, 78, 79, 80, 81, 82, 83, 84, 85, 86, 87, 88, 89, 90, 95, 48, 49, 50, 51, 52, 53, 54, 55, 56, 57]⟩
def quoteB : ByteArray := ⟨#[39]⟩
def punctsB : ByteArray := ⟨#[40, 41, 91, 93, 44, 124]⟩
def signsB : ByteArray := ⟨#[43, 45, 42, 47, 92, 94, 60, 62, 61, 126, 58, 63, 64, 35, 38, 36, 46]⟩

def fnFirst (b : Nat) : Value := .func (.func 48) #[] #[.pointer (some ⟨b, 0, none⟩)]
def fnRow (b c : Nat) : Value := .func (.func 50) #[] #[.pointer (some ⟨b, 0, none⟩), .pointer (some ⟨c, 0, none⟩)]
def fnPlain (f : Nat) : Value := .func (.func f) #[] #[]

/-- The table, and what its closures hold, from block s on. -/
structure RulesIn (s : Nat) (w : World) : Prop where
  c0 : w.cell? ⟨s, 0, none⟩ = some (.string smallsB)
  c1 : w.cell? ⟨s + 1, 0, none⟩ = some (.string lettersB)
  c2 : w.cell? ⟨s + 2, 0, none⟩ = some (.int .i64 12)
  c3 : w.cell? ⟨s + 3, 0, none⟩ = some (.string greatsB)
  c4 : w.cell? ⟨s + 4, 0, none⟩ = some (.string lettersB)
  c5 : w.cell? ⟨s + 5, 0, none⟩ = some (.int .i64 20000)
  c6 : w.cell? ⟨s + 6, 0, none⟩ = some (.string digitsB)
  c7 : w.cell? ⟨s + 7, 0, none⟩ = some (.string digitsB)
  c8 : w.cell? ⟨s + 8, 0, none⟩ = some (.int .i64 20000)
  c9 : w.cell? ⟨s + 9, 0, none⟩ = some (.string quoteB)
  c10 : w.cell? ⟨s + 10, 0, none⟩ = some (.string punctsB)
  c11 : w.cell? ⟨s + 11, 0, none⟩ = some (.string signsB)
  c12 : w.cell? ⟨s + 12, 0, none⟩ = some (.string signsB)
  c13 : w.cell? ⟨s + 13, 0, none⟩ = some (.int .i64 12)
  t0 : w.cell? ⟨s + 14, 0, none⟩ = some (.int .i64 1)
  t1 : w.cell? ⟨s + 14, 1, none⟩ = some (fnFirst s)
  t2 : w.cell? ⟨s + 14, 2, none⟩ = some (fnRow (s + 1) (s + 2))
  t3 : w.cell? ⟨s + 14, 3, none⟩ = some (.int .i64 2)
  t4 : w.cell? ⟨s + 14, 4, none⟩ = some (fnFirst (s + 3))
  t5 : w.cell? ⟨s + 14, 5, none⟩ = some (fnRow (s + 4) (s + 5))
  t6 : w.cell? ⟨s + 14, 6, none⟩ = some (.int .i64 3)
  t7 : w.cell? ⟨s + 14, 7, none⟩ = some (fnFirst (s + 6))
  t8 : w.cell? ⟨s + 14, 8, none⟩ = some (fnRow (s + 7) (s + 8))
  t9 : w.cell? ⟨s + 14, 9, none⟩ = some (.int .i64 1)
  t10 : w.cell? ⟨s + 14, 10, none⟩ = some (fnFirst (s + 9))
  t11 : w.cell? ⟨s + 14, 11, none⟩ = some (fnPlain 34)
  t12 : w.cell? ⟨s + 14, 12, none⟩ = some (.int .i64 5)
  t13 : w.cell? ⟨s + 14, 13, none⟩ = some (fnFirst (s + 10))
  t14 : w.cell? ⟨s + 14, 14, none⟩ = some (fnPlain 35)
  t15 : w.cell? ⟨s + 14, 15, none⟩ = some (.int .i64 6)
  t16 : w.cell? ⟨s + 14, 16, none⟩ = some (fnPlain 36)
  t17 : w.cell? ⟨s + 14, 17, none⟩ = some (fnPlain 35)
  t18 : w.cell? ⟨s + 14, 18, none⟩ = some (.int .i64 4)
  t19 : w.cell? ⟨s + 14, 19, none⟩ = some (fnFirst (s + 11))
  t20 : w.cell? ⟨s + 14, 20, none⟩ = some (fnRow (s + 12) (s + 13))

theorem World.alloc_size (W : World) (o : Obj) : (W.alloc o).heap.size = W.heap.size + 1 := by simp
theorem cell_now (W : World) (cs : Array Value) (T : TypeId) (b j : Nat) (h : b = W.heap.size) (v : Value) (hv : cs[j]? = some v) : (W.alloc (.cells cs T)).cell? ⟨b, j, none⟩ = some v := by
  exact (World.cell?_alloc_at _ _ _ _ h).trans hv
theorem cell_past (W : World) (o : Obj) (b j : Nat) (h : b < W.heap.size) : (W.alloc o).cell? ⟨b, j, none⟩ = W.cell? ⟨b, j, none⟩ := by
  exact World.cell?_alloc_past _ _ _ h

def RulesEnd (w : World) (e : Ending) (w' : World) : Prop := e = .returned (.slice (some ⟨w.heap.size + 14, 0, none⟩) 7 7) ∧ RulesIn w.heap.size w' ∧ Below w.heap.size w w'

set_option maxHeartbeats 1000000 in
set_option maxRecDepth 100000 in
theorem rules_makes (w : World) : Calls Tryd.prog 25 #[] w (RulesEnd w) := by
  go_enter Tryd.func25, Tryd.ntmps25
  go_wp2_with (first | (go_at_call 32; refine (first_makes _ _).mono ?_; rintro e w' ⟨rfl, rfl⟩) | (go_at_call 33; refine (row_makes _ _ _).mono ?_; rintro e w' ⟨rfl, rfl⟩))
  go_ret
  refine ⟨rfl, ?_, ?_⟩
  · constructor
    all_goals
      repeat (first | (refine (cell_past _ _ _ _ (by simp only [World.alloc_size]; omega)).trans ?_) | (refine (cell_now _ _ _ _ _ (by simp only [World.alloc_size]) _ rfl)))
  · repeat (first | exact Below.refl _ _ | (refine below_alloc ?_ _))
end Go.Proofs.YtpdlfokfjkmplaaDoor.P
