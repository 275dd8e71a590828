/- sorrelref04.Same and Alike as plain functions, and their contracts. No condition. -/
import Derived.Test.YtpdlfokfjkmplaaDoorPx0
import Derived.Test.YtpdlfokfjkmplaaDoorPx1
import Derived.Outline
import Derived.Lib.Hide
import Derived.Deep.LoopGhost
namespace Go.Proofs.YtpdlfokfjkmplaaDoor.P
open Go.RowKit Go.Proofs.YtpdlfokfjkmplaaDoorW.PrintWords Go.Proofs.YtpdlfokfjkmplaaDoorW.PrintLast Go.Proofs.YtpdlfokfjkmplaaDoorW.PrintMore
set_option linter.unusedVariables false
set_option linter.unusedSimpArgs false

/-- Is a token another one, as the program asks it? -/
def tokNe (a b : S30) (d : Int) : Bool := !(a.f0 == b.f0) || (!(a.f1.toList == b.f1.toList) || (!(a.f2 == b.f2) || !(wrap64 (a.f3 + d) == b.f3)))
/-- From place i on (so many places), are they the same? -/
def sameFrom (l m : List S30) (d : Int) : Nat → Nat → Bool
  | 0, _ => true
  | g + 1, i => if tokNe (rd_T30 l (i : Int)) (rd_T30 m (i : Int)) d = true then false else sameFrom l m d g (i + 1)
def sorrelref04_Same.f (l0 l1 : List S30) (a2 : Int) : Option Bool := if l0.length = l1.length then (if l0.length ≤ 4611686018427387904 then some (sameFrom l0 l1 a2 l0.length 0) else none) else some false

/-- The same, wherever they stand? -/
def tokNeA (a b : S30) : Bool := !(a.f0 == b.f0) || (!(a.f1.toList == b.f1.toList) || !(a.f2 == b.f2))
def alikeFrom (l m : List S30) : Nat → Nat → Bool
  | 0, _ => true
  | g + 1, i => if tokNeA (rd_T30 l (i : Int)) (rd_T30 m (i : Int)) = true then false else alikeFrom l m g (i + 1)
def sorrelref04_Alike.f (l0 l1 : List S30) : Option Bool := if l0.length = l1.length then (if l0.length ≤ 4611686018427387904 then some (alikeFrom l0 l1 l0.length 0) else none) else some false

attribute [local go_sem high] eqA30

set_option maxHeartbeats 2000000 in
set_option maxRecDepth 100000 in
theorem same_yes (A0 : Option Addr) (c0 : Nat) (l0 : List S30) (A1 : Option Addr) (c1 : Nat) (l1 : List S30) (a2 : Int) (w : World) (hr0 : Kd.C k30 w A0 l0.length l0) (hc0 : l0.length ≤ c0) (hr1 : Kd.C k30 w A1 l1.length l1) (hc1 : l1.length ≤ c1) (hl : l0.length = l1.length) (hm : l0.length ≤ 4611686018427387904) :
    Calls Tryd.prog 14 #[.slice A0 l0.length c0, .slice A1 l1.length c1, .int .i64 a2] w fun e w' => e = .returned (.bool (sameFrom l0 l1 a2 l0.length 0)) ∧ Below w.heap.size w w' := by
  have hu := Tryd.underlying30
  have HR0 := Aside0.mk hr0
  have HR1 := Aside0.mk hr1
  have b1 : ((l0.length : Int) == (l1.length : Int)) = true := by rw [beq_iff_eq]; omega
  have b2 : ((l0.length : Int) != (l1.length : Int)) = false := by rw [bne_eq_false_iff_eq]; omega
  have b3 : (l0.length == l1.length) = true := by rw [beq_iff_eq]; exact hl
  have HL := Lib.hid hl
  obtain ⟨R, hR⟩ : ∃ R, R = sameFrom l0 l1 a2 l0.length 0 := ⟨_, rfl⟩
  rw [← hR]
  have HRR := Lib.hid hR
  clear hr0 hr1 hl hR
  go_enter Tryd.func14, Tryd.ntmps14
  go_wp2
  go_loopg [7] l0.length (fun g v7 wr => ∃ i : Nat, v7 = .int .i64 i ∧ i + g = l0.length ∧ Hid (R = sameFrom l0 l1 a2 g i) ∧ Aside0 (Below w.heap.size w wr))
  case atStart => exact ⟨0, rfl, by omega, HRR, ⟨Below.refl _ _⟩⟩
  case round =>
    obtain ⟨i, rfl, hi, HS, HB⟩ := hrel
    cases gk with
    | zero =>
      have hge : ¬ (i : Int) < (l0.length : Int) := by omega
      go_wp2
      go_ret
      exact ⟨by rw [HS.out]; rfl, HB.out⟩
    | succ g =>
      have hlt : (i : Int) < (l0.length : Int) := by omega
      have hltn : i < l0.length := by omega
      have hlt1 : (i : Int) < (l1.length : Int) := by have := HL.out; omega
      have hlt1n : i < l1.length := by have := HL.out; omega
      have h0i : (0 : Int) ≤ (i : Int) := by omega
      obtain ⟨ad, e0, x0, x1, x2, x3⟩ := at_T30 HR0.out (i : Int) h0i hlt
      obtain ⟨bd, e1, y0, y1, y2, y3⟩ := at_T30 HR1.out (i : Int) h0i hlt1
      cases e0
      cases e1
      have HS2 : Hid (R = if tokNe (rd_T30 l0 (i : Int)) (rd_T30 l1 (i : Int)) a2 = true then false else sameFrom l0 l1 a2 g (i + 1)) := HS
      clear HS
      generalize rd_T30 l0 (i : Int) = p at *
      generalize rd_T30 l1 (i : Int) = q at *
      obtain ⟨p0, p1, p2, p3⟩ := p
      obtain ⟨q0, q1, q2, q3⟩ := q
      simp only at x0 x1 x2 x3 y0 y1 y2 y3
      rw [Int.toNat_natCast] at x0 x1 x2 x3 y0 y1 y2 y3
      have ltx : ad.block < w.heap.size := by have := World.block_lt_of_cell? w _ x0; rwa [add_block] at this
      have lty : bd.block < w.heap.size := by have := World.block_lt_of_cell? w _ y0; rwa [add_block] at this
      replace x0 := pw_cell_below HB.out x0
      replace x1 := pw_cell_below HB.out x1
      replace x2 := pw_cell_below HB.out x2
      replace x3 := pw_cell_below HB.out x3
      replace y0 := pw_cell_below HB.out y0
      replace y1 := pw_cell_below HB.out y1
      replace y2 := pw_cell_below HB.out y2
      replace y3 := pw_cell_below HB.out y3
      have hz := HB.out.size
      have HX := Aside0.mk (And.intro x0 (And.intro x1 (And.intro x2 x3)))
      have HY := Aside0.mk (And.intro y0 (And.intro y1 (And.intro y2 y3)))
      go_wp2
      obtain ⟨W, hW⟩ : ∃ W, W = wr.alloc (.cells #[.int .i64 p0, .string p1, .int .i64 p2, .int .i64 (wrap64 (p3 + a2))] 30) := ⟨_, rfl⟩
      have hbW : Below wr.heap.size wr W := by rw [hW]; exact below_alloc (Below.refl _ _) _
      have k0 : W.cell? ⟨wr.heap.size, 0, none⟩ = some (.int .i64 p0) := by rw [hW, World.cell?_alloc_new]; rfl
      have k1 : W.cell? ⟨wr.heap.size, 1, none⟩ = some (.string p1) := by rw [hW, World.cell?_alloc_new]; rfl
      have k2 : W.cell? ⟨wr.heap.size, 2, none⟩ = some (.int .i64 p2) := by rw [hW, World.cell?_alloc_new]; rfl
      have k3 : W.cell? ⟨wr.heap.size, 3, none⟩ = some (.int .i64 (wrap64 (p3 + a2))) := by rw [hW, World.cell?_alloc_new]; rfl
      rw [← hW]
      replace y0 := pw_cell_below hbW y0
      replace y1 := pw_cell_below hbW y1
      replace y2 := pw_cell_below hbW y2
      replace y3 := pw_cell_below hbW y3
      have HBW := Aside0.mk (below_step HB.out hbW)
      clear hW hbW HX HY x0 x1 x2 x3 HB hz
      obtain ⟨ne, hne⟩ : ∃ ne, ne = tokNe ⟨p0, p1, p2, p3⟩ ⟨q0, q1, q2, q3⟩ a2 := ⟨_, rfl⟩
      rw [← hne] at HS2
      unfold tokNe at hne
      simp only at hne
      cases ne with
      | true =>
        have hne' := hne.symm
        clear hne
        go_quiet (fail)
        go_wp2
        go_ret
        exact ⟨by rw [HS2.out]; rfl, below_step HBW.out (pw_below_drewN (Below.refl _ _) _)⟩
      | false =>
        have hne' := hne.symm
        clear hne
        go_quiet (fail)
        go_wp2
        go_roundg g
        case measure => omega
        case rel => exact ⟨i + 1, by first | rfl | simp, by omega, Lib.hid (by rw [HS2.out]; rfl), ⟨below_step HBW.out (pw_below_drewN (Below.refl _ _) _)⟩⟩

set_option maxHeartbeats 1000000 in
theorem same_no (A0 : Option Addr) (c0 : Nat) (l0 : List S30) (A1 : Option Addr) (c1 : Nat) (l1 : List S30) (a2 : Int) (w : World) (hl : ¬ l0.length = l1.length) :
    Calls Tryd.prog 14 #[.slice A0 l0.length c0, .slice A1 l1.length c1, .int .i64 a2] w fun e w' => e = .returned (.bool false) ∧ Below w.heap.size w w' := by
  have b1 : ((l0.length : Int) == (l1.length : Int)) = false := by rw [beq_eq_false_iff_ne]; omega
  have b2 : ((l0.length : Int) != (l1.length : Int)) = true := by rw [bne_iff_ne]; omega
  have b3 : (l0.length == l1.length) = false := by rw [beq_eq_false_iff_ne]; exact hl
  clear hl
  go_enter Tryd.func14, Tryd.ntmps14
  go_wp2
  go_ret
  exact ⟨rfl, Below.refl _ _⟩

theorem sorrelref04_Same.calls (A0 : Option Addr) (c0 : Nat) (l0 : List S30) (A1 : Option Addr) (c1 : Nat) (l1 : List S30) (a2 : Int) (r : Bool) (w : World) (hr0 : Kd.C k30 w A0 l0.length l0) (hc0 : l0.length ≤ c0) (hr1 : Kd.C k30 w A1 l1.length l1) (hc1 : l1.length ≤ c1) (h : sorrelref04_Same.f l0 l1 a2 = some r) :
    Calls Tryd.prog 14 #[.slice A0 l0.length c0, .slice A1 l1.length c1, .int .i64 a2] w fun e w' => e = .returned (.bool r) ∧ Below w.heap.size w w' := by
  unfold sorrelref04_Same.f at h
  by_cases hl : l0.length = l1.length
  · rw [if_pos hl] at h
    by_cases hm : l0.length ≤ 4611686018427387904
    · rw [if_pos hm] at h
      obtain rfl := Option.some.inj h
      exact same_yes A0 c0 l0 A1 c1 l1 a2 w hr0 hc0 hr1 hc1 hl hm
    · rw [if_neg hm] at h
      exact absurd h (by simp)
  · rw [if_neg hl] at h
    obtain rfl := Option.some.inj h
    exact same_no A0 c0 l0 A1 c1 l1 a2 w hl

set_option maxHeartbeats 2000000 in
set_option maxRecDepth 100000 in
theorem alike_yes (A0 : Option Addr) (c0 : Nat) (l0 : List S30) (A1 : Option Addr) (c1 : Nat) (l1 : List S30) (w : World) (hr0 : Kd.C k30 w A0 l0.length l0) (hc0 : l0.length ≤ c0) (hr1 : Kd.C k30 w A1 l1.length l1) (hc1 : l1.length ≤ c1) (hl : l0.length = l1.length) (hm : l0.length ≤ 4611686018427387904) :
    Calls Tryd.prog 16 #[.slice A0 l0.length c0, .slice A1 l1.length c1] w fun e w' => e = .returned (.bool (alikeFrom l0 l1 l0.length 0)) ∧ Below w.heap.size w w' := by
  have hu := Tryd.underlying30
  have HR0 := Aside0.mk hr0
  have HR1 := Aside0.mk hr1
  have b1 : ((l0.length : Int) == (l1.length : Int)) = true := by rw [beq_iff_eq]; omega
  have b2 : ((l0.length : Int) != (l1.length : Int)) = false := by rw [bne_eq_false_iff_eq]; omega
  have b3 : (l0.length == l1.length) = true := by rw [beq_iff_eq]; exact hl
  have HL := Lib.hid hl
  obtain ⟨R, hR⟩ : ∃ R, R = alikeFrom l0 l1 l0.length 0 := ⟨_, rfl⟩
  rw [← hR]
  have HRR := Lib.hid hR
  clear hr0 hr1 hl hR
  go_enter Tryd.func16, Tryd.ntmps16
  go_wp2
  go_loopg [5] l0.length (fun g v5 wr => ∃ i : Nat, v5 = .int .i64 i ∧ i + g = l0.length ∧ Hid (R = alikeFrom l0 l1 g i) ∧ Aside0 (Below w.heap.size w wr))
  case atStart => exact ⟨0, rfl, by omega, HRR, ⟨Below.refl _ _⟩⟩
  case round =>
    obtain ⟨i, rfl, hi, HS, HB⟩ := hrel
    cases gk with
    | zero =>
      have hge : ¬ (i : Int) < (l0.length : Int) := by omega
      go_wp2
      go_ret
      exact ⟨by rw [HS.out]; rfl, HB.out⟩
    | succ g =>
      have hlt : (i : Int) < (l0.length : Int) := by omega
      have hltn : i < l0.length := by omega
      have hlt1 : (i : Int) < (l1.length : Int) := by have := HL.out; omega
      have hlt1n : i < l1.length := by have := HL.out; omega
      have h0i : (0 : Int) ≤ (i : Int) := by omega
      obtain ⟨ad, e0, x0, x1, x2, x3⟩ := at_T30 HR0.out (i : Int) h0i hlt
      obtain ⟨bd, e1, y0, y1, y2, y3⟩ := at_T30 HR1.out (i : Int) h0i hlt1
      cases e0
      cases e1
      have HS2 : Hid (R = if tokNeA (rd_T30 l0 (i : Int)) (rd_T30 l1 (i : Int)) = true then false else alikeFrom l0 l1 g (i + 1)) := HS
      clear HS
      generalize rd_T30 l0 (i : Int) = p at *
      generalize rd_T30 l1 (i : Int) = q at *
      obtain ⟨p0, p1, p2, p3⟩ := p
      obtain ⟨q0, q1, q2, q3⟩ := q
      simp only at x0 x1 x2 x3 y0 y1 y2 y3
      rw [Int.toNat_natCast] at x0 x1 x2 x3 y0 y1 y2 y3
      have ltx : ad.block < w.heap.size := by have := World.block_lt_of_cell? w _ x0; rwa [add_block] at this
      have lty : bd.block < w.heap.size := by have := World.block_lt_of_cell? w _ y0; rwa [add_block] at this
      replace x0 := pw_cell_below HB.out x0
      replace x1 := pw_cell_below HB.out x1
      replace x2 := pw_cell_below HB.out x2
      replace x3 := pw_cell_below HB.out x3
      replace y0 := pw_cell_below HB.out y0
      replace y1 := pw_cell_below HB.out y1
      replace y2 := pw_cell_below HB.out y2
      replace y3 := pw_cell_below HB.out y3
      have hz := HB.out.size
      have HX := Aside0.mk (And.intro x0 (And.intro x1 (And.intro x2 x3)))
      have HY := Aside0.mk (And.intro y0 (And.intro y1 (And.intro y2 y3)))
      have z3 := pw_cell_below (below_alloc (Below.refl wr.heap.size wr) (.cells #[.int .i64 p0, .string p1, .int .i64 p2, .int .i64 p3] 30)) y3
      go_wp2
      clear z3
      obtain ⟨W, hW⟩ : ∃ W, W = wr.alloc (.cells #[.int .i64 p0, .string p1, .int .i64 p2, .int .i64 q3] 30) := ⟨_, rfl⟩
      have hbW : Below wr.heap.size wr W := by rw [hW]; exact below_alloc (Below.refl _ _) _
      have k0 : W.cell? ⟨wr.heap.size, 0, none⟩ = some (.int .i64 p0) := by rw [hW, World.cell?_alloc_new]; rfl
      have k1 : W.cell? ⟨wr.heap.size, 1, none⟩ = some (.string p1) := by rw [hW, World.cell?_alloc_new]; rfl
      have k2 : W.cell? ⟨wr.heap.size, 2, none⟩ = some (.int .i64 p2) := by rw [hW, World.cell?_alloc_new]; rfl
      have k3 : W.cell? ⟨wr.heap.size, 3, none⟩ = some (.int .i64 q3) := by rw [hW, World.cell?_alloc_new]; rfl
      rw [← hW]
      replace y0 := pw_cell_below hbW y0
      replace y1 := pw_cell_below hbW y1
      replace y2 := pw_cell_below hbW y2
      replace y3 := pw_cell_below hbW y3
      have HBW := Aside0.mk (below_step HB.out hbW)
      clear hW hbW HX HY x0 x1 x2 x3 HB hz
      obtain ⟨ne, hne⟩ : ∃ ne, ne = tokNeA ⟨p0, p1, p2, p3⟩ ⟨q0, q1, q2, q3⟩ := ⟨_, rfl⟩
      rw [← hne] at HS2
      unfold tokNeA at hne
      simp only at hne
      cases ne with
      | true =>
        have hne' := hne.symm
        clear hne
        go_quiet (fail)
        go_wp2
        go_ret
        exact ⟨by rw [HS2.out]; rfl, below_step HBW.out (pw_below_drewN (Below.refl _ _) _)⟩
      | false =>
        have hne' := hne.symm
        clear hne
        go_quiet (fail)
        go_wp2
        go_roundg g
        case measure => omega
        case rel => exact ⟨i + 1, by first | rfl | simp, by omega, Lib.hid (by rw [HS2.out]; rfl), ⟨below_step HBW.out (pw_below_drewN (Below.refl _ _) _)⟩⟩

set_option maxHeartbeats 1000000 in
theorem alike_no (A0 : Option Addr) (c0 : Nat) (l0 : List S30) (A1 : Option Addr) (c1 : Nat) (l1 : List S30) (w : World) (hl : ¬ l0.length = l1.length) :
    Calls Tryd.prog 16 #[.slice A0 l0.length c0, .slice A1 l1.length c1] w fun e w' => e = .returned (.bool false) ∧ Below w.heap.size w w' := by
  have b1 : ((l0.length : Int) == (l1.length : Int)) = false := by rw [beq_eq_false_iff_ne]; omega
  have b2 : ((l0.length : Int) != (l1.length : Int)) = true := by rw [bne_iff_ne]; omega
  have b3 : (l0.length == l1.length) = false := by rw [beq_eq_false_iff_ne]; exact hl
  clear hl
  go_enter Tryd.func16, Tryd.ntmps16
  go_wp2
  go_ret
  exact ⟨rfl, Below.refl _ _⟩

theorem sorrelref04_Alike.calls (A0 : Option Addr) (c0 : Nat) (l0 : List S30) (A1 : Option Addr) (c1 : Nat) (l1 : List S30) (r : Bool) (w : World) (hr0 : Kd.C k30 w A0 l0.length l0) (hc0 : l0.length ≤ c0) (hr1 : Kd.C k30 w A1 l1.length l1) (hc1 : l1.length ≤ c1) (h : sorrelref04_Alike.f l0 l1 = some r) :
    Calls Tryd.prog 16 #[.slice A0 l0.length c0, .slice A1 l1.length c1] w fun e w' => e = .returned (.bool r) ∧ Below w.heap.size w w' := by
  unfold sorrelref04_Alike.f at h
  by_cases hl : l0.length = l1.length
  · rw [if_pos hl] at h
    by_cases hm : l0.length ≤ 4611686018427387904
    · rw [if_pos hm] at h
      obtain rfl := Option.some.inj h
      exact alike_yes A0 c0 l0 A1 c1 l1 w hr0 hc0 hr1 hc1 hl hm
    · rw [if_neg hm] at h
      exact absurd h (by simp)
  · rw [if_neg hl] at h
    obtain rfl := Option.some.inj h
    exact alike_no A0 c0 l0 A1 c1 l1 w hl

end Go.Proofs.YtpdlfokfjkmplaaDoor.P
