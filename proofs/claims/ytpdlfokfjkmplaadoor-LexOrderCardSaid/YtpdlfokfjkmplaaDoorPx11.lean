-- Written by a program of this session (wip/gen) out of the translation. Lean checks it.
import Derived.Test.YtpdlfokfjkmplaaDoorPx0
import Derived.Test.YtpdlfokfjkmplaaDoorPx5
import Derived.Test.YtpdlfokfjkmplaaDoorPx10
import Derived.Test.YtpdlfokfjkmplaaDoorLex
import Derived.Test.YtpdlfokfjkmplaaDoorGlob
namespace Go.Proofs.YtpdlfokfjkmplaaDoor.P
open Go.RowKit Go.Proofs.YtpdlfokfjkmplaaDoorW.PrintWords Go.Proofs.YtpdlfokfjkmplaaDoorW.PrintLast Go.Proofs.YtpdlfokfjkmplaaDoorW.PrintMore
attribute [local go_sem] max2_int min2_int max_two min_two max_three min_three max_four min_four   -- for this text's walks alone
set_option linter.unusedVariables false
set_option linter.unusedSimpArgs false

/-! ### sorrellaw04_LexOrder: function 4 -/
mutual
def sorrellaw04_LexOrder.l0 : Nat → ByteArray → Bool → List (S30) → Int → Int → Option (Bool)
  | 0, _, _, _, _, _ => none
  | k + 1, x0, x3, x4, x7, x8 => if x8 < (x4.length : Int) then (if 0 ≤ x8 then (if ((rd_T30 x4 x8).f3) < x7 then (sorrellaw04_LexOrder.j1 k x0 x3 x4 x8 ((rd_T30 x4 x8).f3) true) else (if ((rd_T30 x4 x8).f3) ≥ (x0.size : Int) then (sorrellaw04_LexOrder.j1 k x0 x3 x4 x8 ((rd_T30 x4 x8).f3) true) else (if 0 ≤ x7 then (if x7 ≤ ((rd_T30 x4 x8).f3) then (if ((rd_T30 x4 x8).f3) ≤ (x0.size : Int) then ((sorrellaw04_passed.f k (x0.extract (x7 : Int).toNat (((rd_T30 x4 x8).f3) : Int).toNat)).bind fun t242 => (sorrellaw04_LexOrder.j1 k x0 x3 x4 x8 ((rd_T30 x4 x8).f3) (!t242))) else (none)) else (none)) else (none)))) else (none)) else (if x3 = true then (if x7 ≤ (x0.size : Int) then (if 0 ≤ x7 then ((sorrellaw04_passed.f k (x0.extract (x7 : Int).toNat x0.size)).bind fun t240 => (some t240)) else (none)) else (some false)) else (some false))
def sorrellaw04_LexOrder.j1 : Nat → ByteArray → Bool → List (S30) → Int → Int → Bool → Option (Bool)
  | 0, _, _, _, _, _, _ => none
  | k + 1, x0, x3, x4, x8, x9, x56 => if x56 = true then (some false) else (if 0 ≤ x9 then (if x9 < (x0.size : Int) then (if (bt x0 x9) = 39 then (sorrellaw04_LexOrder.j2 k x0 x3 x4 x8 (wrap64 (x9 + 1))) else (sorrellaw04_LexOrder.j2 k x0 x3 x4 x8 x9)) else (none)) else (none))
def sorrellaw04_LexOrder.j2 : Nat → ByteArray → Bool → List (S30) → Int → Int → Option (Bool)
  | 0, _, _, _, _, _ => none
  | k + 1, x0, x3, x4, x8, x9 => if 0 ≤ x8 then (if x8 < (x4.length : Int) then (if (((rd_T30 x4 x8).f1).size : Int) = 0 then (sorrellaw04_LexOrder.j3 k x0 x3 x4 x8 x9 true) else (if (wrap64 (x9 + (((rd_T30 x4 x8).f1).size : Int))) > (x0.size : Int) then (sorrellaw04_LexOrder.j3 k x0 x3 x4 x8 x9 true) else (if 0 ≤ x9 then (if x9 ≤ (wrap64 (x9 + (((rd_T30 x4 x8).f1).size : Int))) then (if (wrap64 (x9 + (((rd_T30 x4 x8).f1).size : Int))) ≤ (x0.size : Int) then (sorrellaw04_LexOrder.j3 k x0 x3 x4 x8 x9 ((x0.extract (x9 : Int).toNat ((wrap64 (x9 + (((rd_T30 x4 x8).f1).size : Int))) : Int).toNat).toList != ((rd_T30 x4 x8).f1).toList)) else (none)) else (none)) else (none)))) else (none)) else (none)
def sorrellaw04_LexOrder.j3 : Nat → ByteArray → Bool → List (S30) → Int → Int → Bool → Option (Bool)
  | 0, _, _, _, _, _, _ => none
  | k + 1, x0, x3, x4, x8, x9, x101 => if x101 = true then (some false) else (if 0 ≤ x8 then (if x8 < (x4.length : Int) then (if x9 > ((rd_T30 x4 x8).f3) then (sorrellaw04_LexOrder.l0 k x0 x3 x4 (wrap64 ((wrap64 (x9 + (((rd_T30 x4 x8).f1).size : Int))) + 1)) (wrap64 (x8 + 1))) else (sorrellaw04_LexOrder.l0 k x0 x3 x4 (wrap64 (x9 + (((rd_T30 x4 x8).f1).size : Int))) (wrap64 (x8 + 1)))) else (none)) else (none))
end
def sorrellaw04_LexOrder.f (k : Nat) (a0 : ByteArray) : Option (Bool) := (sorrellaw04_head.f k).bind fun t234 => (if (a0.size : Int) > 5000 then (some t234) else ((lex_Lex.f a0).bind fun bt235 => (if bt235.2.2 = 0 then (sorrellaw04_LexOrder.l0 k a0 t234 bt235.1 0 0) else (if t234 = true then (some ((bt235.1.length : Int) == 0)) else (some false)))))
theorem sorrellaw04_LexOrder.mono_l : ∀ k, (∀ y0 y1 y2 y3 y4, LeO (sorrellaw04_LexOrder.l0 k y0 y1 y2 y3 y4) (sorrellaw04_LexOrder.l0 (k + 1) y0 y1 y2 y3 y4)) ∧ (∀ y0 y1 y2 y3 y4 y5, LeO (sorrellaw04_LexOrder.j1 k y0 y1 y2 y3 y4 y5) (sorrellaw04_LexOrder.j1 (k + 1) y0 y1 y2 y3 y4 y5)) ∧ (∀ y0 y1 y2 y3 y4, LeO (sorrellaw04_LexOrder.j2 k y0 y1 y2 y3 y4) (sorrellaw04_LexOrder.j2 (k + 1) y0 y1 y2 y3 y4)) ∧ (∀ y0 y1 y2 y3 y4 y5, LeO (sorrellaw04_LexOrder.j3 k y0 y1 y2 y3 y4 y5) (sorrellaw04_LexOrder.j3 (k + 1) y0 y1 y2 y3 y4 y5))
  | 0 => ⟨fun _ _ _ _ _ r h => by simp [sorrellaw04_LexOrder.l0] at h, fun _ _ _ _ _ _ r h => by simp [sorrellaw04_LexOrder.j1] at h, fun _ _ _ _ _ r h => by simp [sorrellaw04_LexOrder.j2] at h, fun _ _ _ _ _ _ r h => by simp [sorrellaw04_LexOrder.j3] at h⟩
  | k + 1 => by
    obtain ⟨ih0, ih1, ih2, ih3⟩ := sorrellaw04_LexOrder.mono_l k
    refine ⟨?_, ?_, ?_, ?_⟩
    · intro y0 y1 y2 y3 y4
      unfold sorrellaw04_LexOrder.l0
      repeat' first
      | (with_reducible exact ih0 _ _ _ _ _)
      | (with_reducible exact ih1 _ _ _ _ _ _)
      | (with_reducible exact ih2 _ _ _ _ _)
      | (with_reducible exact ih3 _ _ _ _ _ _)
      | (with_reducible exact sorrellaw04_head.mono _)
      | (with_reducible exact sorrellaw04_passed.mono _ _)
      | (with_reducible exact LeO.refl _)
      | (with_reducible exact LeO.none _)
      | (with_reducible refine LeO.ite ?_ ?_)
      | (with_reducible refine LeO.bind ?_ (fun _ => ?_))
      | exact ih0 _ _ _ _ _
      | exact ih1 _ _ _ _ _ _
      | exact ih2 _ _ _ _ _
      | exact ih3 _ _ _ _ _ _
      | exact sorrellaw04_head.mono _
      | exact sorrellaw04_passed.mono _ _
      | exact LeO.none _
      | refine LeO.ite ?_ ?_
      | refine LeO.bind ?_ (fun _ => ?_)
    · intro y0 y1 y2 y3 y4 y5
      unfold sorrellaw04_LexOrder.j1
      repeat' first
      | (with_reducible exact ih0 _ _ _ _ _)
      | (with_reducible exact ih1 _ _ _ _ _ _)
      | (with_reducible exact ih2 _ _ _ _ _)
      | (with_reducible exact ih3 _ _ _ _ _ _)
      | (with_reducible exact sorrellaw04_head.mono _)
      | (with_reducible exact sorrellaw04_passed.mono _ _)
      | (with_reducible exact LeO.refl _)
      | (with_reducible exact LeO.none _)
      | (with_reducible refine LeO.ite ?_ ?_)
      | (with_reducible refine LeO.bind ?_ (fun _ => ?_))
      | exact ih0 _ _ _ _ _
      | exact ih1 _ _ _ _ _ _
      | exact ih2 _ _ _ _ _
      | exact ih3 _ _ _ _ _ _
      | exact sorrellaw04_head.mono _
      | exact sorrellaw04_passed.mono _ _
      | exact LeO.none _
      | refine LeO.ite ?_ ?_
      | refine LeO.bind ?_ (fun _ => ?_)
    · intro y0 y1 y2 y3 y4
      unfold sorrellaw04_LexOrder.j2
      repeat' first
      | (with_reducible exact ih0 _ _ _ _ _)
      | (with_reducible exact ih1 _ _ _ _ _ _)
      | (with_reducible exact ih2 _ _ _ _ _)
      | (with_reducible exact ih3 _ _ _ _ _ _)
      | (with_reducible exact sorrellaw04_head.mono _)
      | (with_reducible exact sorrellaw04_passed.mono _ _)
      | (with_reducible exact LeO.refl _)
      | (with_reducible exact LeO.none _)
      | (with_reducible refine LeO.ite ?_ ?_)
      | (with_reducible refine LeO.bind ?_ (fun _ => ?_))
      | exact ih0 _ _ _ _ _
      | exact ih1 _ _ _ _ _ _
      | exact ih2 _ _ _ _ _
      | exact ih3 _ _ _ _ _ _
      | exact sorrellaw04_head.mono _
      | exact sorrellaw04_passed.mono _ _
      | exact LeO.none _
      | refine LeO.ite ?_ ?_
      | refine LeO.bind ?_ (fun _ => ?_)
    · intro y0 y1 y2 y3 y4 y5
      unfold sorrellaw04_LexOrder.j3
      repeat' first
      | (with_reducible exact ih0 _ _ _ _ _)
      | (with_reducible exact ih1 _ _ _ _ _ _)
      | (with_reducible exact ih2 _ _ _ _ _)
      | (with_reducible exact ih3 _ _ _ _ _ _)
      | (with_reducible exact sorrellaw04_head.mono _)
      | (with_reducible exact sorrellaw04_passed.mono _ _)
      | (with_reducible exact LeO.refl _)
      | (with_reducible exact LeO.none _)
      | (with_reducible refine LeO.ite ?_ ?_)
      | (with_reducible refine LeO.bind ?_ (fun _ => ?_))
      | exact ih0 _ _ _ _ _
      | exact ih1 _ _ _ _ _ _
      | exact ih2 _ _ _ _ _
      | exact ih3 _ _ _ _ _ _
      | exact sorrellaw04_head.mono _
      | exact sorrellaw04_passed.mono _ _
      | exact LeO.none _
      | refine LeO.ite ?_ ?_
      | refine LeO.bind ?_ (fun _ => ?_)
theorem sorrellaw04_LexOrder.mono : ∀ a0 k, LeO (sorrellaw04_LexOrder.f k a0) (sorrellaw04_LexOrder.f (k + 1) a0) := by
  intro a0 k
  obtain ⟨ih0, ih1, ih2, ih3⟩ := sorrellaw04_LexOrder.mono_l k
  unfold sorrellaw04_LexOrder.f
  repeat' first
      | (with_reducible exact ih0 _ _ _ _ _)
      | (with_reducible exact ih1 _ _ _ _ _ _)
      | (with_reducible exact ih2 _ _ _ _ _)
      | (with_reducible exact ih3 _ _ _ _ _ _)
      | (with_reducible exact sorrellaw04_head.mono _)
      | (with_reducible exact sorrellaw04_passed.mono _ _)
      | (with_reducible exact LeO.refl _)
      | (with_reducible exact LeO.none _)
      | (with_reducible refine LeO.ite ?_ ?_)
      | (with_reducible refine LeO.bind ?_ (fun _ => ?_))
      | exact ih0 _ _ _ _ _
      | exact ih1 _ _ _ _ _ _
      | exact ih2 _ _ _ _ _
      | exact ih3 _ _ _ _ _ _
      | exact sorrellaw04_head.mono _
      | exact sorrellaw04_passed.mono _ _
      | exact LeO.none _
      | refine LeO.ite ?_ ?_
      | refine LeO.bind ?_ (fun _ => ?_)
set_option maxHeartbeats 8000000 in
set_option maxRecDepth 100000 in
theorem sorrellaw04_LexOrder.calls (k : Nat) (a0 : ByteArray) (r : Bool) (w : World) (h : sorrellaw04_LexOrder.f k a0 = some r) (hG : Aside0 (GW w)) :
    Calls Tryd.prog 4 #[.string a0] w fun e w' => e = .returned (.bool r) ∧ Below w.heap.size w w' := by
  have HB := Aside0.mk (Below.refl w.heap.size w)
  have H : ((sorrellaw04_head.f k).bind fun t234 => (if (a0.size : Int) > 5000 then (some t234) else ((lex_Lex.f a0).bind fun bt235 => (if bt235.2.2 = 0 then (sorrellaw04_LexOrder.l0 k a0 t234 bt235.1 0 0) else (if t234 = true then (some ((bt235.1.length : Int) == 0)) else (some false)))))) = some r := h
  clear h
  replace H := Option.bind_eq_some_iff.mp H
  obtain ⟨t234, A20, H⟩ := H
  replace H : (if (a0.size : Int) > 5000 then (some t234) else ((lex_Lex.f a0).bind fun bt235 => (if bt235.2.2 = 0 then (sorrellaw04_LexOrder.l0 k a0 t234 bt235.1 0 0) else (if t234 = true then (some ((bt235.1.length : Int) == 0)) else (some false))))) = some r := H
  have A2 := Aside0.mk A20
  clear A20
  by_cases c3 : (a0.size : Int) > 5000
  · rw [if_pos c3] at H
    have c3b0 : decide (5000 < (a0.size : Int)) = true := decide_eq_true c3
    have c3b1 : decide (5000 < a0.size) = true := decide_eq_true (by omega)
    clear c3
    obtain rfl := Option.some.inj H
    go_enter Tryd.func4, Tryd.ntmps4
    go_wp2_with (first | (go_at_call 11; (with_reducible refine (sorrellaw04_head.calls k  t234 _ A2.out ?side1).mono ?_); (case side1 => exact GW.belowA hG (by repeat (first | (with_reducible first | exact HB.out | apply below_alloc | apply pw_below_drewN | apply below_drew1) | exact HB.out))); rintro e w4 ⟨rfl, hb⟩; have n0_ := Aside0.mk (below_step (by repeat (first | (with_reducible first | exact HB.out | apply below_alloc | apply pw_below_drewN | apply below_drew1) | exact HB.out)) hb); clear HB; have HB := n0_; clear n0_; (try clear hb); (try clear hb2); (try clear hk); (try clear hi)))
    repeat (go_quiet (first | (go_at_call 11; (with_reducible refine (sorrellaw04_head.calls k  t234 _ A2.out ?side1).mono ?_); (case side1 => exact GW.belowA hG (by repeat (first | (with_reducible first | exact HB.out | apply below_alloc | apply pw_below_drewN | apply below_drew1) | exact HB.out))); rintro e w4 ⟨rfl, hb⟩; have n0_ := Aside0.mk (below_step (by repeat (first | (with_reducible first | exact HB.out | apply below_alloc | apply pw_below_drewN | apply below_drew1) | exact HB.out)) hb); clear HB; have HB := n0_; clear n0_; (try clear hb); (try clear hb2); (try clear hk); (try clear hi))); try go_wp2_with (first | (go_at_call 11; (with_reducible refine (sorrellaw04_head.calls k  t234 _ A2.out ?side1).mono ?_); (case side1 => exact GW.belowA hG (by repeat (first | (with_reducible first | exact HB.out | apply below_alloc | apply pw_below_drewN | apply below_drew1) | exact HB.out))); rintro e w4 ⟨rfl, hb⟩; have n0_ := Aside0.mk (below_step (by repeat (first | (with_reducible first | exact HB.out | apply below_alloc | apply pw_below_drewN | apply below_drew1) | exact HB.out)) hb); clear HB; have HB := n0_; clear n0_; (try clear hb); (try clear hb2); (try clear hk); (try clear hi))))
    go_ret
    exact ⟨by first | rfl | (simp [errW_none, errW_some] <;> rfl) | (simp [*, errW_none, errW_some] <;> rfl), by repeat (first | (with_reducible first | exact HB.out | apply below_alloc | apply pw_below_drewN | apply below_drew1) | exact HB.out)⟩
  · rw [if_neg c3] at H
    have c3b0 : decide (5000 < (a0.size : Int)) = false := decide_eq_false c3
    have c3b1 : decide (5000 < a0.size) = false := decide_eq_false (by omega)
    clear c3
    replace H := Option.bind_eq_some_iff.mp H
    obtain ⟨⟨t235, t236, t237⟩, A50, H⟩ := H
    replace H : (if t237 = 0 then (sorrellaw04_LexOrder.l0 k a0 t234 t235 0 0) else (if t234 = true then (some ((t235.length : Int) == 0)) else (some false))) = some r := H
    have A5 := Aside0.mk A50
    clear A50
    by_cases c6 : t237 = 0
    · rw [if_pos c6] at H
      have c6b0 : (t237 == 0) = true := beq_iff_eq.mpr c6
      have c6b1 : (t237 != 0) = false := bne_eq_false_iff_eq.mpr c6
      clear c6
      have H' := Aside0.mk H
      clear H
      go_enter Tryd.func4, Tryd.ntmps4
      go_wp2_with (first | (go_at_call 11; (with_reducible refine (sorrellaw04_head.calls k  t234 _ A2.out ?side1).mono ?_); (case side1 => exact GW.belowA hG (by repeat (first | (with_reducible first | exact HB.out | apply below_alloc | apply pw_below_drewN | apply below_drew1) | exact HB.out))); rintro e w7 ⟨rfl, hb⟩; have n0_ := Aside0.mk (below_step (by repeat (first | (with_reducible first | exact HB.out | apply below_alloc | apply pw_below_drewN | apply below_drew1) | exact HB.out)) hb); clear HB; have HB := n0_; clear n0_; (try clear hb); (try clear hb2); (try clear hk); (try clear hi)) | (go_at_call 12; (with_reducible refine (lex_Lex.calls a0 t235 t236 t237 _ A5.out ?side1).mono ?_); (case side1 => exact GW.belowA hG (by repeat (first | (with_reducible first | exact HB.out | apply below_alloc | apply pw_below_drewN | apply below_drew1) | exact HB.out))); rintro e w8 ⟨v238, rfl, ho0, hb⟩; have n0_ := Aside0.mk (Kd.R_lower ho0 (below_size (by repeat (first | (with_reducible first | exact HB.out | apply below_alloc | apply pw_below_drewN | apply below_drew1) | exact HB.out)))); have n1_ := Aside0.mk (below_step (by repeat (first | (with_reducible first | exact HB.out | apply below_alloc | apply pw_below_drewN | apply below_drew1) | exact HB.out)) hb); clear HB; have HO239 := n0_; have HB := n1_; clear n0_ n1_; (try clear hb); (try clear hb2); (try clear hk); (try clear hi); (try clear ho0)))
      repeat (go_quiet (first | (go_at_call 11; (with_reducible refine (sorrellaw04_head.calls k  t234 _ A2.out ?side1).mono ?_); (case side1 => exact GW.belowA hG (by repeat (first | (with_reducible first | exact HB.out | apply below_alloc | apply pw_below_drewN | apply below_drew1) | exact HB.out))); rintro e w7 ⟨rfl, hb⟩; have n0_ := Aside0.mk (below_step (by repeat (first | (with_reducible first | exact HB.out | apply below_alloc | apply pw_below_drewN | apply below_drew1) | exact HB.out)) hb); clear HB; have HB := n0_; clear n0_; (try clear hb); (try clear hb2); (try clear hk); (try clear hi)) | (go_at_call 12; (with_reducible refine (lex_Lex.calls a0 t235 t236 t237 _ A5.out ?side1).mono ?_); (case side1 => exact GW.belowA hG (by repeat (first | (with_reducible first | exact HB.out | apply below_alloc | apply pw_below_drewN | apply below_drew1) | exact HB.out))); rintro e w8 ⟨v238, rfl, ho0, hb⟩; have n0_ := Aside0.mk (Kd.R_lower ho0 (below_size (by repeat (first | (with_reducible first | exact HB.out | apply below_alloc | apply pw_below_drewN | apply below_drew1) | exact HB.out)))); have n1_ := Aside0.mk (below_step (by repeat (first | (with_reducible first | exact HB.out | apply below_alloc | apply pw_below_drewN | apply below_drew1) | exact HB.out)) hb); clear HB; have HO239 := n0_; have HB := n1_; clear n0_ n1_; (try clear hb); (try clear hb2); (try clear hk); (try clear hi); (try clear ho0))); try go_wp2_with (first | (go_at_call 11; (with_reducible refine (sorrellaw04_head.calls k  t234 _ A2.out ?side1).mono ?_); (case side1 => exact GW.belowA hG (by repeat (first | (with_reducible first | exact HB.out | apply below_alloc | apply pw_below_drewN | apply below_drew1) | exact HB.out))); rintro e w7 ⟨rfl, hb⟩; have n0_ := Aside0.mk (below_step (by repeat (first | (with_reducible first | exact HB.out | apply below_alloc | apply pw_below_drewN | apply below_drew1) | exact HB.out)) hb); clear HB; have HB := n0_; clear n0_; (try clear hb); (try clear hb2); (try clear hk); (try clear hi)) | (go_at_call 12; (with_reducible refine (lex_Lex.calls a0 t235 t236 t237 _ A5.out ?side1).mono ?_); (case side1 => exact GW.belowA hG (by repeat (first | (with_reducible first | exact HB.out | apply below_alloc | apply pw_below_drewN | apply below_drew1) | exact HB.out))); rintro e w8 ⟨v238, rfl, ho0, hb⟩; have n0_ := Aside0.mk (Kd.R_lower ho0 (below_size (by repeat (first | (with_reducible first | exact HB.out | apply below_alloc | apply pw_below_drewN | apply below_drew1) | exact HB.out)))); have n1_ := Aside0.mk (below_step (by repeat (first | (with_reducible first | exact HB.out | apply below_alloc | apply pw_below_drewN | apply below_drew1) | exact HB.out)) hb); clear HB; have HO239 := n0_; have HB := n1_; clear n0_ n1_; (try clear hb); (try clear hb2); (try clear hk); (try clear hi); (try clear ho0))))
      go_loopg [7, 8] k (fun kq v7 v8 w' => ∃ (x7_1 : Int) (x8_1 : Int), v7 = .int .i64 x7_1 ∧ v8 = .int .i64 x8_1 ∧ Aside0 (sorrellaw04_LexOrder.l0 kq a0 t234 t235 x7_1 x8_1 = some r) ∧ Aside0 (kq ≤ k) ∧ Aside0 (Kd.R k30 30 w' w.heap.size (fun _ => True) v238 t235) ∧ Aside0 (Below w.heap.size w w'))
      case atStart => exact ⟨(0), (0), (by first | rfl | (simp; done) | (simp [*]; done)), (by first | rfl | (simp; done) | (simp [*]; done)), H', ⟨Nat.le_refl _⟩, ⟨by (with_reducible repeat (first | apply Kd.R_alloc | apply Kd.R_drewN | apply Kd.R_drew)); exact HO239.out⟩, ⟨by repeat (first | (with_reducible first | exact HB.out | apply below_alloc | apply pw_below_drewN | apply below_drew1) | exact HB.out)⟩⟩
      case round =>
        clear H'
        try clear p2
        try clear c3
        try clear c3b0
        try clear c3b1
        try clear c4
        try clear c6
        try clear c6b0
        try clear c6b1
        obtain ⟨x7_1, x8_1, rfl, rfl, HA, HK1, HO_4, HB⟩ := hrel
        cases gk with
        | zero => exact absurd HA.out (by simp [sorrellaw04_LexOrder.l0])
        | succ k1 =>
          have H := HA.out
          clear HA
          simp only [sorrellaw04_LexOrder.l0] at H
          by_cases c9 : x8_1 < (t235.length : Int)
          · rw [if_pos c9] at H
            have c9b0 : decide (x8_1 < (t235.length : Int)) = true := decide_eq_true c9
            clear c9
            by_cases c10 : 0 ≤ x8_1
            · rw [if_pos c10] at H
              have c10b0 : decide (0 ≤ x8_1) = true := decide_eq_true c10
              clear c10
              have HC11 := Aside0.mk H
              clear H
              obtain ⟨Ao12, co12, eo12⟩ := Kd.R_slice HO_4.out
              subst eo12
              have p241 : 0 ≤ (x8_1 : Int) := of_decide_eq_true (by first | (with_reducible assumption) | assumption)
              have q241 : x8_1 < (t235.length : Int) := of_decide_eq_true (by first | (with_reducible assumption) | assumption)
              obtain ⟨ad241, e241, hx241_0, hx241_1, hx241_2, hx241_3⟩ := at_T30 (Kd.R_reads' HO_4.out).2.2 x8_1 p241 q241
              cases e241
              replace p241 := eq_true p241
              replace q241 := eq_true q241
              go_upto_region 12 with (fail)
              repeat (go_quiet (fail); go_upto_region 12 with (fail))
              go_cut [56] (fun v56 wc => ∃ (kq : Nat) (x56_10 : Bool), v56 = .bool x56_10 ∧ Aside0 (sorrellaw04_LexOrder.j1 kq a0 t234 t235 x8_1 ((rd_T30 t235 x8_1).f3) x56_10 = some r) ∧ Aside0 (kq ≤ k1) ∧ Aside0 (Kd.R k30 30 wc w.heap.size (fun _ => True) (.slice (some ad241) t235.length co12) t235) ∧ Aside0 (Below w.heap.size w wc))
              case first =>
                have H := HC11.out
                clear HC11
                by_cases c13 : ((rd_T30 t235 x8_1).f3) < x7_1
                · rw [if_pos c13] at H
                  have c13b0 : decide (((rd_T30 t235 x8_1).f3) < x7_1) = true := decide_eq_true c13
                  clear c13
                  (first | rw [c13b0] | (simp only [i64_w, i32_w]; rw [c13b0]) | skip)
                  have H' := Aside0.mk H
                  clear H
                  go_wp2
                  repeat (go_quiet (fail); try go_wp2)
                  go_meet
                  case rel => exact ⟨_, (true), (by first | rfl | (simp; done) | (simp [*]; done)), H', ⟨by have := HK1.out; first | omega | exact Nat.le_refl _⟩, ⟨by (with_reducible repeat (first | apply Kd.R_alloc | apply Kd.R_drewN | apply Kd.R_drew)); exact HO_4.out⟩, ⟨by repeat (first | (with_reducible first | exact HB.out | apply below_alloc | apply pw_below_drewN | apply below_drew1) | exact HB.out)⟩⟩
                · rw [if_neg c13] at H
                  have c13b0 : decide (((rd_T30 t235 x8_1).f3) < x7_1) = false := decide_eq_false c13
                  clear c13
                  (first | rw [c13b0] | (simp only [i64_w, i32_w]; rw [c13b0]) | skip)
                  by_cases c14 : ((rd_T30 t235 x8_1).f3) ≥ (a0.size : Int)
                  · rw [if_pos c14] at H
                    have c14b0 : decide ((a0.size : Int) ≤ ((rd_T30 t235 x8_1).f3)) = true := decide_eq_true c14
                    clear c14
                    have H' := Aside0.mk H
                    clear H
                    go_wp2
                    repeat (go_quiet (fail); try go_wp2)
                    go_meet
                    case rel => exact ⟨_, (true), (by first | rfl | (simp; done) | (simp [*]; done)), H', ⟨by have := HK1.out; first | omega | exact Nat.le_refl _⟩, ⟨by (with_reducible repeat (first | apply Kd.R_alloc | apply Kd.R_drewN | apply Kd.R_drew)); exact HO_4.out⟩, ⟨by repeat (first | (with_reducible first | exact HB.out | apply below_alloc | apply pw_below_drewN | apply below_drew1) | exact HB.out)⟩⟩
                  · rw [if_neg c14] at H
                    have c14b0 : decide ((a0.size : Int) ≤ ((rd_T30 t235 x8_1).f3)) = false := decide_eq_false c14
                    clear c14
                    by_cases c15 : 0 ≤ x7_1
                    · rw [if_pos c15] at H
                      have c15b0 := eq_true c15
                      have c15b1 : decide (0 ≤ x7_1) = true := decide_eq_true c15
                      clear c15
                      by_cases c16 : x7_1 ≤ ((rd_T30 t235 x8_1).f3)
                      · rw [if_pos c16] at H
                        have c16b0 := eq_true c16
                        have c16b1 : decide (x7_1 ≤ ((rd_T30 t235 x8_1).f3)) = true := decide_eq_true c16
                        clear c16
                        by_cases c17 : ((rd_T30 t235 x8_1).f3) ≤ (a0.size : Int)
                        · rw [if_pos c17] at H
                          have c17b0 := eq_true c17
                          have c17b1 : decide (((rd_T30 t235 x8_1).f3) ≤ (a0.size : Int)) = true := decide_eq_true c17
                          clear c17
                          replace H := Option.bind_eq_some_iff.mp H
                          obtain ⟨t242, A180, H⟩ := H
                          replace H : (sorrellaw04_LexOrder.j1 k1 a0 t234 t235 x8_1 ((rd_T30 t235 x8_1).f3) (!t242)) = some r := H
                          have A18 := Aside0.mk A180
                          clear A180
                          have H' := Aside0.mk H
                          clear H
                          go_wp2_with (first | (go_at_call 15; (with_reducible refine (sorrellaw04_passed.calls k1 (a0.extract (x7_1 : Int).toNat (((rd_T30 t235 x8_1).f3) : Int).toNat) t242 _ A18.out).mono ?_); rintro e w' ⟨rfl, ⟨nd, rfl⟩⟩; (try first | exact ⟨rfl, _, World.drewN_drewN _ _ _⟩ | exact ⟨rfl, _, Eq.trans (World.drewN_drewN _ _ _) (congrArg (World.drewN _) (Nat.add_assoc _ _ _))⟩)))
                          repeat (go_quiet (first | (go_at_call 15; (with_reducible refine (sorrellaw04_passed.calls k1 (a0.extract (x7_1 : Int).toNat (((rd_T30 t235 x8_1).f3) : Int).toNat) t242 _ A18.out).mono ?_); rintro e w' ⟨rfl, ⟨nd, rfl⟩⟩; (try first | exact ⟨rfl, _, World.drewN_drewN _ _ _⟩ | exact ⟨rfl, _, Eq.trans (World.drewN_drewN _ _ _) (congrArg (World.drewN _) (Nat.add_assoc _ _ _))⟩))); try go_wp2_with (first | (go_at_call 15; (with_reducible refine (sorrellaw04_passed.calls k1 (a0.extract (x7_1 : Int).toNat (((rd_T30 t235 x8_1).f3) : Int).toNat) t242 _ A18.out).mono ?_); rintro e w' ⟨rfl, ⟨nd, rfl⟩⟩; (try first | exact ⟨rfl, _, World.drewN_drewN _ _ _⟩ | exact ⟨rfl, _, Eq.trans (World.drewN_drewN _ _ _) (congrArg (World.drewN _) (Nat.add_assoc _ _ _))⟩))))
                          go_meet
                          case rel => exact ⟨_, (!t242), (by first | rfl | (simp; done) | (simp [*]; done)), H', ⟨by have := HK1.out; first | omega | exact Nat.le_refl _⟩, ⟨by (with_reducible repeat (first | apply Kd.R_alloc | apply Kd.R_drewN | apply Kd.R_drew)); exact HO_4.out⟩, ⟨by repeat (first | (with_reducible first | exact HB.out | apply below_alloc | apply pw_below_drewN | apply below_drew1) | exact HB.out)⟩⟩
                        · rw [if_neg c17] at H
                          exact absurd H (by simp)
                      · rw [if_neg c16] at H
                        exact absurd H (by simp)
                    · rw [if_neg c15] at H
                      exact absurd H (by simp)
              case rest =>
                clear HC11
                try clear c1
                try clear p2
                try clear q2
                try clear hx2
                try clear c3
                try clear c3b0
                try clear c3b1
                try clear c4
                try clear c6
                try clear c6b0
                try clear c6b1
                try clear c9
                try clear c9b0
                try clear c10
                try clear c10b0
                try clear c13
                try clear c13b0
                try clear c14
                try clear c14b0
                try clear c15
                try clear c15b0
                try clear c15b1
                try clear c16
                try clear c16b0
                try clear c16b1
                try clear c17
                try clear c17b0
                try clear c17b1
                try clear hx241_0
                try clear hx241_1
                try clear hx241_2
                try clear hx241_3
                try clear p2
                try clear p241
                try clear q241
                obtain ⟨kq, x56_10, rfl, HA, HJ10, HO_4, HB⟩ := hcut
                cases kq with
                | zero => exact absurd HA.out (by simp [sorrellaw04_LexOrder.j1])
                | succ kj10 =>
                  have H := HA.out
                  clear HA
                  simp only [sorrellaw04_LexOrder.j1] at H
                  by_cases c19 : x56_10 = true
                  · subst c19
                    have H1 : (some false) = some r := by rw [if_pos rfl] at H; exact H
                    clear H
                    have H := H1
                    clear H1
                    obtain rfl := Option.some.inj H
                    go_wp2
                    repeat (go_quiet (fail); try go_wp2)
                    go_ret
                    exact ⟨by first | rfl | (simp [errW_none, errW_some] <;> rfl) | (simp [*, errW_none, errW_some] <;> rfl), by repeat (first | (with_reducible first | exact HB.out | apply below_alloc | apply pw_below_drewN | apply below_drew1) | exact HB.out)⟩
                  · replace c19 := Bool.eq_false_iff.mpr c19
                    subst c19
                    have H1 : (if 0 ≤ ((rd_T30 t235 x8_1).f3) then (if ((rd_T30 t235 x8_1).f3) < (a0.size : Int) then (if (bt a0 ((rd_T30 t235 x8_1).f3)) = 39 then (sorrellaw04_LexOrder.j2 kj10 a0 t234 t235 x8_1 (wrap64 (((rd_T30 t235 x8_1).f3) + 1))) else (sorrellaw04_LexOrder.j2 kj10 a0 t234 t235 x8_1 ((rd_T30 t235 x8_1).f3))) else (none)) else (none)) = some r := by rw [if_neg (show ¬ (false = true) by decide)] at H; exact H
                    clear H
                    have H := H1
                    clear H1
                    by_cases c20 : 0 ≤ ((rd_T30 t235 x8_1).f3)
                    · rw [if_pos c20] at H
                      have c20b0 : decide (0 ≤ ((rd_T30 t235 x8_1).f3)) = true := decide_eq_true c20
                      clear c20
                      by_cases c21 : ((rd_T30 t235 x8_1).f3) < (a0.size : Int)
                      · rw [if_pos c21] at H
                        have c21b0 : decide (((rd_T30 t235 x8_1).f3) < (a0.size : Int)) = true := decide_eq_true c21
                        clear c21
                        have HC23 := Aside0.mk H
                        clear H
                        have p22 : 0 ≤ (((rd_T30 t235 x8_1).f3) : Int) := of_decide_eq_true (by first | (with_reducible assumption) | assumption)
                        have q22 : ((rd_T30 t235 x8_1).f3) < (a0.size : Int) := of_decide_eq_true (by first | (with_reducible assumption) | assumption)
                        have hx22 := bt_at a0 ((rd_T30 t235 x8_1).f3)
                        replace p22 := eq_true p22
                        replace q22 := eq_true q22
                        go_upto_if 60 with (fail)
                        repeat (go_quiet (fail); go_upto_if 60 with (fail))
                        go_cut [9] (fun v9 wc => ∃ (kq : Nat) (x9_22 : Int), v9 = .int .i64 x9_22 ∧ Aside0 (sorrellaw04_LexOrder.j2 kq a0 t234 t235 x8_1 x9_22 = some r) ∧ Aside0 (kq ≤ kj10) ∧ Aside0 (Kd.R k30 30 wc w.heap.size (fun _ => True) (.slice (some ad241) t235.length co12) t235) ∧ Aside0 (Below w.heap.size w wc))
                        case first =>
                          have H := HC23.out
                          clear HC23
                          by_cases c24 : (bt a0 ((rd_T30 t235 x8_1).f3)) = 39
                          · rw [if_pos c24] at H
                            have c24b0 : ((bt a0 ((rd_T30 t235 x8_1).f3)) == 39) = true := beq_iff_eq.mpr c24
                            have c24b1 : ((bt a0 ((rd_T30 t235 x8_1).f3)) != 39) = false := bne_eq_false_iff_eq.mpr c24
                            clear c24
                            (first | rw [c24b0] | (simp only [i64_w, i32_w]; rw [c24b0]) | skip)
                            have H' := Aside0.mk H
                            clear H
                            go_wp2
                            repeat (go_quiet (fail); try go_wp2)
                            go_meet
                            case rel => exact ⟨_, (wrap64 (((rd_T30 t235 x8_1).f3) + 1)), (by first | rfl | (simp; done) | (simp [*]; done)), H', ⟨by have := HK1.out; have := HJ10.out; first | omega | exact Nat.le_refl _⟩, ⟨by (with_reducible repeat (first | apply Kd.R_alloc | apply Kd.R_drewN | apply Kd.R_drew)); exact HO_4.out⟩, ⟨by repeat (first | (with_reducible first | exact HB.out | apply below_alloc | apply pw_below_drewN | apply below_drew1) | exact HB.out)⟩⟩
                          · rw [if_neg c24] at H
                            have c24b0 : ((bt a0 ((rd_T30 t235 x8_1).f3)) == 39) = false := beq_eq_false_iff_ne.mpr c24
                            have c24b1 : ((bt a0 ((rd_T30 t235 x8_1).f3)) != 39) = true := bne_iff_ne.mpr c24
                            (first | rw [c24b0] | (simp only [i64_w, i32_w]; rw [c24b0]) | skip)
                            have H' := Aside0.mk H
                            clear H
                            go_wp2
                            repeat (go_quiet (fail); try go_wp2)
                            go_meet
                            case rel => exact ⟨_, (((rd_T30 t235 x8_1).f3)), (by first | rfl | (simp; done) | (simp [*]; done)), H', ⟨by have := HK1.out; have := HJ10.out; first | omega | exact Nat.le_refl _⟩, ⟨by (with_reducible repeat (first | apply Kd.R_alloc | apply Kd.R_drewN | apply Kd.R_drew)); exact HO_4.out⟩, ⟨by repeat (first | (with_reducible first | exact HB.out | apply below_alloc | apply pw_below_drewN | apply below_drew1) | exact HB.out)⟩⟩
                        case rest =>
                          clear HC23
                          try clear c1
                          try clear c2
                          try clear p2
                          try clear q2
                          try clear hx2
                          try clear c3
                          try clear c3b0
                          try clear c3b1
                          try clear c4
                          try clear c6
                          try clear c6b0
                          try clear c6b1
                          try clear p6
                          try clear c9
                          try clear c9b0
                          try clear c10
                          try clear c10b0
                          try clear c13
                          try clear c13b0
                          try clear c14
                          try clear c14b0
                          try clear c15
                          try clear c15b0
                          try clear c15b1
                          try clear c16
                          try clear c16b0
                          try clear c16b1
                          try clear c17
                          try clear c17b0
                          try clear c17b1
                          try clear c19
                          try clear c20
                          try clear c20b0
                          try clear c21
                          try clear c21b0
                          try clear p22
                          try clear q22
                          try clear hx22
                          try clear c24
                          try clear c24b0
                          try clear c24b1
                          try clear p24
                          try clear q24
                          try clear hx24
                          try clear hx241_0
                          try clear hx241_1
                          try clear hx241_2
                          try clear hx241_3
                          try clear p2
                          try clear p22
                          try clear p241
                          try clear q2
                          try clear q22
                          try clear q241
                          obtain ⟨kq, x9_22, rfl, HA, HJ22, HO_4, HB⟩ := hcut
                          cases kq with
                          | zero => exact absurd HA.out (by simp [sorrellaw04_LexOrder.j2])
                          | succ kj22 =>
                            have H := HA.out
                            clear HA
                            simp only [sorrellaw04_LexOrder.j2] at H
                            have HC25 := Aside0.mk H
                            clear H
                            go_upto_region 16 with (fail)
                            repeat (go_quiet (fail); go_upto_region 16 with (fail))
                            go_cut [101] (fun v101 wc => ∃ (kq : Nat) (x101_24 : Bool), v101 = .bool x101_24 ∧ Aside0 (sorrellaw04_LexOrder.j3 kq a0 t234 t235 x8_1 x9_22 x101_24 = some r) ∧ Aside0 (kq ≤ kj22) ∧ Aside0 (Kd.R k30 30 wc w.heap.size (fun _ => True) (.slice (some ad241) t235.length co12) t235) ∧ Aside0 (Below w.heap.size w wc))
                            case first =>
                              have H := HC25.out
                              clear HC25
                              by_cases c26 : 0 ≤ x8_1
                              · rw [if_pos c26] at H
                                have c26b0 : decide (0 ≤ x8_1) = true := decide_eq_true c26
                                clear c26
                                (first | rw [c26b0] | (simp only [i64_w, i32_w]; rw [c26b0]) | skip)
                                by_cases c27 : x8_1 < (t235.length : Int)
                                · rw [if_pos c27] at H
                                  have c27b0 : decide (x8_1 < (t235.length : Int)) = true := decide_eq_true c27
                                  clear c27
                                  by_cases c28 : (((rd_T30 t235 x8_1).f1).size : Int) = 0
                                  · rw [if_pos c28] at H
                                    have c28b0 : ((((rd_T30 t235 x8_1).f1).size : Int) == 0) = true := beq_iff_eq.mpr c28
                                    have c28b1 : ((((rd_T30 t235 x8_1).f1).size : Int) != 0) = false := bne_eq_false_iff_eq.mpr c28
                                    clear c28
                                    have H' := Aside0.mk H
                                    clear H
                                    have p243 : 0 ≤ (x8_1 : Int) := of_decide_eq_true (by first | (with_reducible assumption) | assumption)
                                    have q243 : x8_1 < (t235.length : Int) := of_decide_eq_true (by first | (with_reducible assumption) | assumption)
                                    obtain ⟨ad243, e243, hx243_0, hx243_1, hx243_2, hx243_3⟩ := at_T30 (Kd.R_reads' HO_4.out).2.2 x8_1 p243 q243
                                    obtain rfl : ad241 = ad243 := (by injection e243)
                                    replace p243 := eq_true p243
                                    replace q243 := eq_true q243
                                    go_wp2
                                    repeat (go_quiet (fail); try go_wp2)
                                    go_meet
                                    case rel => exact ⟨_, (true), (by first | rfl | (simp; done) | (simp [*]; done)), H', ⟨by have := HK1.out; have := HJ10.out; have := HJ22.out; first | omega | exact Nat.le_refl _⟩, ⟨by (with_reducible repeat (first | apply Kd.R_alloc | apply Kd.R_drewN | apply Kd.R_drew)); exact HO_4.out⟩, ⟨by repeat (first | (with_reducible first | exact HB.out | apply below_alloc | apply pw_below_drewN | apply below_drew1) | exact HB.out)⟩⟩
                                  · rw [if_neg c28] at H
                                    have c28b0 : ((((rd_T30 t235 x8_1).f1).size : Int) == 0) = false := beq_eq_false_iff_ne.mpr c28
                                    have c28b1 : ((((rd_T30 t235 x8_1).f1).size : Int) != 0) = true := bne_iff_ne.mpr c28
                                    by_cases c29 : (wrap64 (x9_22 + (((rd_T30 t235 x8_1).f1).size : Int))) > (a0.size : Int)
                                    · rw [if_pos c29] at H
                                      have c29b0 : decide ((a0.size : Int) < (wrap64 (x9_22 + (((rd_T30 t235 x8_1).f1).size : Int)))) = true := decide_eq_true c29
                                      clear c29
                                      have H' := Aside0.mk H
                                      clear H
                                      have p243 : 0 ≤ (x8_1 : Int) := of_decide_eq_true (by first | (with_reducible assumption) | assumption)
                                      have q243 : x8_1 < (t235.length : Int) := of_decide_eq_true (by first | (with_reducible assumption) | assumption)
                                      obtain ⟨ad243, e243, hx243_0, hx243_1, hx243_2, hx243_3⟩ := at_T30 (Kd.R_reads' HO_4.out).2.2 x8_1 p243 q243
                                      obtain rfl : ad241 = ad243 := (by injection e243)
                                      replace p243 := eq_true p243
                                      replace q243 := eq_true q243
                                      have p244 : 0 ≤ (x8_1 : Int) := of_decide_eq_true (by first | (with_reducible assumption) | assumption)
                                      have q244 : x8_1 < (t235.length : Int) := of_decide_eq_true (by first | (with_reducible assumption) | assumption)
                                      obtain ⟨ad244, e244, hx244_0, hx244_1, hx244_2, hx244_3⟩ := at_T30 (Kd.R_reads' HO_4.out).2.2 x8_1 p244 q244
                                      obtain rfl : ad241 = ad244 := (by injection e244)
                                      replace p244 := eq_true p244
                                      replace q244 := eq_true q244
                                      go_wp2
                                      repeat (go_quiet (fail); try go_wp2)
                                      go_meet
                                      case rel => exact ⟨_, (true), (by first | rfl | (simp; done) | (simp [*]; done)), H', ⟨by have := HK1.out; have := HJ10.out; have := HJ22.out; first | omega | exact Nat.le_refl _⟩, ⟨by (with_reducible repeat (first | apply Kd.R_alloc | apply Kd.R_drewN | apply Kd.R_drew)); exact HO_4.out⟩, ⟨by repeat (first | (with_reducible first | exact HB.out | apply below_alloc | apply pw_below_drewN | apply below_drew1) | exact HB.out)⟩⟩
                                    · rw [if_neg c29] at H
                                      have c29b0 : decide ((a0.size : Int) < (wrap64 (x9_22 + (((rd_T30 t235 x8_1).f1).size : Int)))) = false := decide_eq_false c29
                                      clear c29
                                      by_cases c30 : 0 ≤ x9_22
                                      · rw [if_pos c30] at H
                                        have c30b0 := eq_true c30
                                        have c30b1 : decide (0 ≤ x9_22) = true := decide_eq_true c30
                                        clear c30
                                        by_cases c31 : x9_22 ≤ (wrap64 (x9_22 + (((rd_T30 t235 x8_1).f1).size : Int)))
                                        · rw [if_pos c31] at H
                                          have c31b0 := eq_true c31
                                          have c31b1 : decide (x9_22 ≤ (wrap64 (x9_22 + (((rd_T30 t235 x8_1).f1).size : Int)))) = true := decide_eq_true c31
                                          by_cases c32 : (wrap64 (x9_22 + (((rd_T30 t235 x8_1).f1).size : Int))) ≤ (a0.size : Int)
                                          · rw [if_pos c32] at H
                                            have c32b0 := eq_true c32
                                            have c32b1 : decide ((wrap64 (x9_22 + (((rd_T30 t235 x8_1).f1).size : Int))) ≤ (a0.size : Int)) = true := decide_eq_true c32
                                            have H' := Aside0.mk H
                                            clear H
                                            have p243 : 0 ≤ (x8_1 : Int) := of_decide_eq_true (by first | (with_reducible assumption) | assumption)
                                            have q243 : x8_1 < (t235.length : Int) := of_decide_eq_true (by first | (with_reducible assumption) | assumption)
                                            obtain ⟨ad243, e243, hx243_0, hx243_1, hx243_2, hx243_3⟩ := at_T30 (Kd.R_reads' HO_4.out).2.2 x8_1 p243 q243
                                            obtain rfl : ad241 = ad243 := (by injection e243)
                                            replace p243 := eq_true p243
                                            replace q243 := eq_true q243
                                            have p244 : 0 ≤ (x8_1 : Int) := of_decide_eq_true (by first | (with_reducible assumption) | assumption)
                                            have q244 : x8_1 < (t235.length : Int) := of_decide_eq_true (by first | (with_reducible assumption) | assumption)
                                            obtain ⟨ad244, e244, hx244_0, hx244_1, hx244_2, hx244_3⟩ := at_T30 (Kd.R_reads' HO_4.out).2.2 x8_1 p244 q244
                                            obtain rfl : ad241 = ad244 := (by injection e244)
                                            replace p244 := eq_true p244
                                            replace q244 := eq_true q244
                                            have p245 : 0 ≤ (x8_1 : Int) := of_decide_eq_true (by first | (with_reducible assumption) | assumption)
                                            have q245 : x8_1 < (t235.length : Int) := of_decide_eq_true (by first | (with_reducible assumption) | assumption)
                                            obtain ⟨ad245, e245, hx245_0, hx245_1, hx245_2, hx245_3⟩ := at_T30 (Kd.R_reads' HO_4.out).2.2 x8_1 p245 q245
                                            obtain rfl : ad241 = ad245 := (by injection e245)
                                            replace p245 := eq_true p245
                                            replace q245 := eq_true q245
                                            have p246 : 0 ≤ (x8_1 : Int) := of_decide_eq_true (by first | (with_reducible assumption) | assumption)
                                            have q246 : x8_1 < (t235.length : Int) := of_decide_eq_true (by first | (with_reducible assumption) | assumption)
                                            obtain ⟨ad246, e246, hx246_0, hx246_1, hx246_2, hx246_3⟩ := at_T30 (Kd.R_reads' HO_4.out).2.2 x8_1 p246 q246
                                            obtain rfl : ad241 = ad246 := (by injection e246)
                                            replace p246 := eq_true p246
                                            replace q246 := eq_true q246
                                            go_wp2
                                            repeat (go_quiet (fail); try go_wp2)
                                            go_meet
                                            case rel => exact ⟨_, (((a0.extract (x9_22 : Int).toNat ((wrap64 (x9_22 + (((rd_T30 t235 x8_1).f1).size : Int))) : Int).toNat).toList != ((rd_T30 t235 x8_1).f1).toList)), (by first | rfl | (simp; done) | (simp [*]; done)), H', ⟨by have := HK1.out; have := HJ10.out; have := HJ22.out; first | omega | exact Nat.le_refl _⟩, ⟨by (with_reducible repeat (first | apply Kd.R_alloc | apply Kd.R_drewN | apply Kd.R_drew)); exact HO_4.out⟩, ⟨by repeat (first | (with_reducible first | exact HB.out | apply below_alloc | apply pw_below_drewN | apply below_drew1) | exact HB.out)⟩⟩
                                          · rw [if_neg c32] at H
                                            exact absurd H (by simp)
                                        · rw [if_neg c31] at H
                                          exact absurd H (by simp)
                                      · rw [if_neg c30] at H
                                        exact absurd H (by simp)
                                · rw [if_neg c27] at H
                                  exact absurd H (by simp)
                              · rw [if_neg c26] at H
                                exact absurd H (by simp)
                            case rest =>
                              clear HC25
                              try clear c1
                              try clear c2
                              try clear p2
                              try clear q2
                              try clear hx2
                              try clear c3
                              try clear c3b0
                              try clear c3b1
                              try clear c4
                              try clear c6
                              try clear c6b0
                              try clear c6b1
                              try clear p6
                              try clear c9
                              try clear c9b0
                              try clear c10
                              try clear c10b0
                              try clear c13
                              try clear c13b0
                              try clear c14
                              try clear c14b0
                              try clear c15
                              try clear c15b0
                              try clear c15b1
                              try clear c16
                              try clear c16b0
                              try clear c16b1
                              try clear c17
                              try clear c17b0
                              try clear c17b1
                              try clear c19
                              try clear c20
                              try clear c20b0
                              try clear c21
                              try clear c21b0
                              try clear p22
                              try clear q22
                              try clear hx22
                              try clear c24
                              try clear c24b0
                              try clear c24b1
                              try clear p24
                              try clear q24
                              try clear hx24
                              try clear c26
                              try clear c26b0
                              try clear c27
                              try clear c27b0
                              try clear c28
                              try clear c28b0
                              try clear c28b1
                              try clear c29
                              try clear c29b0
                              try clear c30
                              try clear c30b0
                              try clear c30b1
                              try clear c31
                              try clear c31b0
                              try clear c31b1
                              try clear c32
                              try clear c32b0
                              try clear c32b1
                              try clear hx241_0
                              try clear hx241_1
                              try clear hx241_2
                              try clear hx241_3
                              try clear hx243_0
                              try clear hx243_1
                              try clear hx243_2
                              try clear hx243_3
                              try clear hx244_0
                              try clear hx244_1
                              try clear hx244_2
                              try clear hx244_3
                              try clear hx245_0
                              try clear hx245_1
                              try clear hx245_2
                              try clear hx245_3
                              try clear hx246_0
                              try clear hx246_1
                              try clear hx246_2
                              try clear hx246_3
                              try clear p2
                              try clear p22
                              try clear p24
                              try clear p241
                              try clear p243
                              try clear p244
                              try clear p245
                              try clear p246
                              try clear p6
                              try clear q2
                              try clear q22
                              try clear q24
                              try clear q241
                              try clear q243
                              try clear q244
                              try clear q245
                              try clear q246
                              obtain ⟨kq, x101_24, rfl, HA, HJ24, HO_4, HB⟩ := hcut
                              cases kq with
                              | zero => exact absurd HA.out (by simp [sorrellaw04_LexOrder.j3])
                              | succ kj24 =>
                                have H := HA.out
                                clear HA
                                simp only [sorrellaw04_LexOrder.j3] at H
                                by_cases c33 : x101_24 = true
                                · subst c33
                                  have H1 : (some false) = some r := by rw [if_pos rfl] at H; exact H
                                  clear H
                                  have H := H1
                                  clear H1
                                  obtain rfl := Option.some.inj H
                                  go_wp2
                                  repeat (go_quiet (fail); try go_wp2)
                                  go_ret
                                  exact ⟨by first | rfl | (simp [errW_none, errW_some] <;> rfl) | (simp [*, errW_none, errW_some] <;> rfl), by repeat (first | (with_reducible first | exact HB.out | apply below_alloc | apply pw_below_drewN | apply below_drew1) | exact HB.out)⟩
                                · replace c33 := Bool.eq_false_iff.mpr c33
                                  subst c33
                                  have H1 : (if 0 ≤ x8_1 then (if x8_1 < (t235.length : Int) then (if x9_22 > ((rd_T30 t235 x8_1).f3) then (sorrellaw04_LexOrder.l0 kj24 a0 t234 t235 (wrap64 ((wrap64 (x9_22 + (((rd_T30 t235 x8_1).f1).size : Int))) + 1)) (wrap64 (x8_1 + 1))) else (sorrellaw04_LexOrder.l0 kj24 a0 t234 t235 (wrap64 (x9_22 + (((rd_T30 t235 x8_1).f1).size : Int))) (wrap64 (x8_1 + 1)))) else (none)) else (none)) = some r := by rw [if_neg (show ¬ (false = true) by decide)] at H; exact H
                                  clear H
                                  have H := H1
                                  clear H1
                                  by_cases c34 : 0 ≤ x8_1
                                  · rw [if_pos c34] at H
                                    have c34b0 : decide (0 ≤ x8_1) = true := decide_eq_true c34
                                    clear c34
                                    by_cases c35 : x8_1 < (t235.length : Int)
                                    · rw [if_pos c35] at H
                                      have c35b0 : decide (x8_1 < (t235.length : Int)) = true := decide_eq_true c35
                                      clear c35
                                      by_cases c36 : x9_22 > ((rd_T30 t235 x8_1).f3)
                                      · rw [if_pos c36] at H
                                        have c36b0 : decide (((rd_T30 t235 x8_1).f3) < x9_22) = true := decide_eq_true c36
                                        clear c36
                                        have H' := Aside0.mk H
                                        clear H
                                        have p247 : 0 ≤ (x8_1 : Int) := of_decide_eq_true (by first | (with_reducible assumption) | assumption)
                                        have q247 : x8_1 < (t235.length : Int) := of_decide_eq_true (by first | (with_reducible assumption) | assumption)
                                        obtain ⟨ad247, e247, hx247_0, hx247_1, hx247_2, hx247_3⟩ := at_T30 (Kd.R_reads' HO_4.out).2.2 x8_1 p247 q247
                                        obtain rfl : ad241 = ad247 := (by injection e247)
                                        replace p247 := eq_true p247
                                        replace q247 := eq_true q247
                                        have p248 : 0 ≤ (x8_1 : Int) := of_decide_eq_true (by first | (with_reducible assumption) | assumption)
                                        have q248 : x8_1 < (t235.length : Int) := of_decide_eq_true (by first | (with_reducible assumption) | assumption)
                                        obtain ⟨ad248, e248, hx248_0, hx248_1, hx248_2, hx248_3⟩ := at_T30 (Kd.R_reads' HO_4.out).2.2 x8_1 p248 q248
                                        obtain rfl : ad241 = ad248 := (by injection e248)
                                        replace p248 := eq_true p248
                                        replace q248 := eq_true q248
                                        go_wp2
                                        repeat (go_quiet (fail); try go_wp2)
                                        go_roundg kj24
                                        case measure => have := HK1.out; have := HJ10.out; have := HJ22.out; have := HJ24.out; omega
                                        case rel => exact ⟨(wrap64 ((wrap64 (x9_22 + (((rd_T30 t235 x8_1).f1).size : Int))) + 1)), (wrap64 (x8_1 + 1)), (by first | rfl | (simp; done) | (simp [*]; done)), (by first | rfl | (simp; done) | (simp [*]; done)), H', ⟨by have := HK1.out; have := HJ10.out; have := HJ22.out; have := HJ24.out; omega⟩, ⟨by (with_reducible repeat (first | apply Kd.R_alloc | apply Kd.R_drewN | apply Kd.R_drew)); exact HO_4.out⟩, ⟨by repeat (first | (with_reducible first | exact HB.out | apply below_alloc | apply pw_below_drewN | apply below_drew1) | exact HB.out)⟩⟩
                                      · rw [if_neg c36] at H
                                        have c36b0 : decide (((rd_T30 t235 x8_1).f3) < x9_22) = false := decide_eq_false c36
                                        clear c36
                                        have H' := Aside0.mk H
                                        clear H
                                        have p247 : 0 ≤ (x8_1 : Int) := of_decide_eq_true (by first | (with_reducible assumption) | assumption)
                                        have q247 : x8_1 < (t235.length : Int) := of_decide_eq_true (by first | (with_reducible assumption) | assumption)
                                        obtain ⟨ad247, e247, hx247_0, hx247_1, hx247_2, hx247_3⟩ := at_T30 (Kd.R_reads' HO_4.out).2.2 x8_1 p247 q247
                                        obtain rfl : ad241 = ad247 := (by injection e247)
                                        replace p247 := eq_true p247
                                        replace q247 := eq_true q247
                                        have p248 : 0 ≤ (x8_1 : Int) := of_decide_eq_true (by first | (with_reducible assumption) | assumption)
                                        have q248 : x8_1 < (t235.length : Int) := of_decide_eq_true (by first | (with_reducible assumption) | assumption)
                                        obtain ⟨ad248, e248, hx248_0, hx248_1, hx248_2, hx248_3⟩ := at_T30 (Kd.R_reads' HO_4.out).2.2 x8_1 p248 q248
                                        obtain rfl : ad241 = ad248 := (by injection e248)
                                        replace p248 := eq_true p248
                                        replace q248 := eq_true q248
                                        go_wp2
                                        repeat (go_quiet (fail); try go_wp2)
                                        go_roundg kj24
                                        case measure => have := HK1.out; have := HJ10.out; have := HJ22.out; have := HJ24.out; omega
                                        case rel => exact ⟨(wrap64 (x9_22 + (((rd_T30 t235 x8_1).f1).size : Int))), (wrap64 (x8_1 + 1)), (by first | rfl | (simp; done) | (simp [*]; done)), (by first | rfl | (simp; done) | (simp [*]; done)), H', ⟨by have := HK1.out; have := HJ10.out; have := HJ22.out; have := HJ24.out; omega⟩, ⟨by (with_reducible repeat (first | apply Kd.R_alloc | apply Kd.R_drewN | apply Kd.R_drew)); exact HO_4.out⟩, ⟨by repeat (first | (with_reducible first | exact HB.out | apply below_alloc | apply pw_below_drewN | apply below_drew1) | exact HB.out)⟩⟩
                                    · rw [if_neg c35] at H
                                      exact absurd H (by simp)
                                  · rw [if_neg c34] at H
                                    exact absurd H (by simp)
                      · rw [if_neg c21] at H
                        exact absurd H (by simp)
                    · rw [if_neg c20] at H
                      exact absurd H (by simp)
            · rw [if_neg c10] at H
              exact absurd H (by simp)
          · rw [if_neg c9] at H
            have c9b0 : decide (x8_1 < (t235.length : Int)) = false := decide_eq_false c9
            clear c9
            by_cases c37 : t234 = true
            · subst c37
              have H1 : (if x7_1 ≤ (a0.size : Int) then (if 0 ≤ x7_1 then ((sorrellaw04_passed.f k1 (a0.extract (x7_1 : Int).toNat a0.size)).bind fun t240 => (some t240)) else (none)) else (some false)) = some r := by rw [if_pos rfl] at H; exact H
              clear H
              have H := H1
              clear H1
              by_cases c38 : x7_1 ≤ (a0.size : Int)
              · rw [if_pos c38] at H
                have c38b0 : decide (x7_1 ≤ (a0.size : Int)) = true := decide_eq_true c38
                clear c38
                by_cases c39 : 0 ≤ x7_1
                · rw [if_pos c39] at H
                  have c39b0 := eq_true c39
                  have c39b1 : decide (0 ≤ x7_1) = true := decide_eq_true c39
                  clear c39
                  have c40b0 := eq_true (of_decide_eq_true (by first | (with_reducible assumption) | assumption) : x7_1 ≤ (a0.size : Int))
                  replace H := Option.bind_eq_some_iff.mp H
                  obtain ⟨t240, A410, H⟩ := H
                  replace H : (some t240) = some r := H
                  have A41 := Aside0.mk A410
                  clear A410
                  obtain rfl := Option.some.inj H
                  obtain ⟨Ao42, co42, eo42⟩ := Kd.R_slice HO_4.out
                  subst eo42
                  go_wp2_with (first | (go_at_call 15; (with_reducible refine (sorrellaw04_passed.calls k1 (a0.extract (x7_1 : Int).toNat a0.size) t240 _ A41.out).mono ?_); rintro e w' ⟨rfl, ⟨nd, rfl⟩⟩; (try first | exact ⟨rfl, _, World.drewN_drewN _ _ _⟩ | exact ⟨rfl, _, Eq.trans (World.drewN_drewN _ _ _) (congrArg (World.drewN _) (Nat.add_assoc _ _ _))⟩)))
                  repeat (go_quiet (first | (go_at_call 15; (with_reducible refine (sorrellaw04_passed.calls k1 (a0.extract (x7_1 : Int).toNat a0.size) t240 _ A41.out).mono ?_); rintro e w' ⟨rfl, ⟨nd, rfl⟩⟩; (try first | exact ⟨rfl, _, World.drewN_drewN _ _ _⟩ | exact ⟨rfl, _, Eq.trans (World.drewN_drewN _ _ _) (congrArg (World.drewN _) (Nat.add_assoc _ _ _))⟩))); try go_wp2_with (first | (go_at_call 15; (with_reducible refine (sorrellaw04_passed.calls k1 (a0.extract (x7_1 : Int).toNat a0.size) t240 _ A41.out).mono ?_); rintro e w' ⟨rfl, ⟨nd, rfl⟩⟩; (try first | exact ⟨rfl, _, World.drewN_drewN _ _ _⟩ | exact ⟨rfl, _, Eq.trans (World.drewN_drewN _ _ _) (congrArg (World.drewN _) (Nat.add_assoc _ _ _))⟩))))
                  go_ret
                  exact ⟨by first | rfl | (simp [errW_none, errW_some] <;> rfl) | (simp [*, errW_none, errW_some] <;> rfl), by repeat (first | (with_reducible first | exact HB.out | apply below_alloc | apply pw_below_drewN | apply below_drew1) | exact HB.out)⟩
                · rw [if_neg c39] at H
                  exact absurd H (by simp)
              · rw [if_neg c38] at H
                have c38b0 : decide (x7_1 ≤ (a0.size : Int)) = false := decide_eq_false c38
                clear c38
                obtain rfl := Option.some.inj H
                obtain ⟨Ao43, co43, eo43⟩ := Kd.R_slice HO_4.out
                subst eo43
                go_wp2
                repeat (go_quiet (fail); try go_wp2)
                go_ret
                exact ⟨by first | rfl | (simp [errW_none, errW_some] <;> rfl) | (simp [*, errW_none, errW_some] <;> rfl), by repeat (first | (with_reducible first | exact HB.out | apply below_alloc | apply pw_below_drewN | apply below_drew1) | exact HB.out)⟩
            · replace c37 := Bool.eq_false_iff.mpr c37
              subst c37
              have H1 : (some false) = some r := by rw [if_neg (show ¬ (false = true) by decide)] at H; exact H
              clear H
              have H := H1
              clear H1
              obtain rfl := Option.some.inj H
              obtain ⟨Ao44, co44, eo44⟩ := Kd.R_slice HO_4.out
              subst eo44
              go_wp2
              repeat (go_quiet (fail); try go_wp2)
              go_ret
              exact ⟨by first | rfl | (simp [errW_none, errW_some] <;> rfl) | (simp [*, errW_none, errW_some] <;> rfl), by repeat (first | (with_reducible first | exact HB.out | apply below_alloc | apply pw_below_drewN | apply below_drew1) | exact HB.out)⟩
    · rw [if_neg c6] at H
      have c6b0 : (t237 == 0) = false := beq_eq_false_iff_ne.mpr c6
      have c6b1 : (t237 != 0) = true := bne_iff_ne.mpr c6
      by_cases c45 : t234 = true
      · subst c45
        have H1 : (some ((t235.length : Int) == 0)) = some r := by rw [if_pos rfl] at H; exact H
        clear H
        have H := H1
        clear H1
        obtain rfl := Option.some.inj H
        go_enter Tryd.func4, Tryd.ntmps4
        go_wp2_with (first | (go_at_call 11; (with_reducible refine (sorrellaw04_head.calls k  true _ A2.out ?side1).mono ?_); (case side1 => exact GW.belowA hG (by repeat (first | (with_reducible first | exact HB.out | apply below_alloc | apply pw_below_drewN | apply below_drew1) | exact HB.out))); rintro e w46 ⟨rfl, hb⟩; have n0_ := Aside0.mk (below_step (by repeat (first | (with_reducible first | exact HB.out | apply below_alloc | apply pw_below_drewN | apply below_drew1) | exact HB.out)) hb); clear HB; have HB := n0_; clear n0_; (try clear hb); (try clear hb2); (try clear hk); (try clear hi)) | (go_at_call 12; (with_reducible refine (lex_Lex.calls a0 t235 t236 t237 _ A5.out ?side1).mono ?_); (case side1 => exact GW.belowA hG (by repeat (first | (with_reducible first | exact HB.out | apply below_alloc | apply pw_below_drewN | apply below_drew1) | exact HB.out))); rintro e w47 ⟨v238, rfl, ho0, hb⟩; have n0_ := Aside0.mk (Kd.R_lower ho0 (below_size (by repeat (first | (with_reducible first | exact HB.out | apply below_alloc | apply pw_below_drewN | apply below_drew1) | exact HB.out)))); have n1_ := Aside0.mk (below_step (by repeat (first | (with_reducible first | exact HB.out | apply below_alloc | apply pw_below_drewN | apply below_drew1) | exact HB.out)) hb); clear HB; have HO239 := n0_; have HB := n1_; clear n0_ n1_; (try clear hb); (try clear hb2); (try clear hk); (try clear hi); (try clear ho0); obtain ⟨Ao48, co48, eo48⟩ := Kd.R_slice HO239.out; subst eo48))
        repeat (go_quiet (first | (go_at_call 11; (with_reducible refine (sorrellaw04_head.calls k  true _ A2.out ?side1).mono ?_); (case side1 => exact GW.belowA hG (by repeat (first | (with_reducible first | exact HB.out | apply below_alloc | apply pw_below_drewN | apply below_drew1) | exact HB.out))); rintro e w46 ⟨rfl, hb⟩; have n0_ := Aside0.mk (below_step (by repeat (first | (with_reducible first | exact HB.out | apply below_alloc | apply pw_below_drewN | apply below_drew1) | exact HB.out)) hb); clear HB; have HB := n0_; clear n0_; (try clear hb); (try clear hb2); (try clear hk); (try clear hi)) | (go_at_call 12; (with_reducible refine (lex_Lex.calls a0 t235 t236 t237 _ A5.out ?side1).mono ?_); (case side1 => exact GW.belowA hG (by repeat (first | (with_reducible first | exact HB.out | apply below_alloc | apply pw_below_drewN | apply below_drew1) | exact HB.out))); rintro e w47 ⟨v238, rfl, ho0, hb⟩; have n0_ := Aside0.mk (Kd.R_lower ho0 (below_size (by repeat (first | (with_reducible first | exact HB.out | apply below_alloc | apply pw_below_drewN | apply below_drew1) | exact HB.out)))); have n1_ := Aside0.mk (below_step (by repeat (first | (with_reducible first | exact HB.out | apply below_alloc | apply pw_below_drewN | apply below_drew1) | exact HB.out)) hb); clear HB; have HO239 := n0_; have HB := n1_; clear n0_ n1_; (try clear hb); (try clear hb2); (try clear hk); (try clear hi); (try clear ho0); obtain ⟨Ao48, co48, eo48⟩ := Kd.R_slice HO239.out; subst eo48)); try go_wp2_with (first | (go_at_call 11; (with_reducible refine (sorrellaw04_head.calls k  true _ A2.out ?side1).mono ?_); (case side1 => exact GW.belowA hG (by repeat (first | (with_reducible first | exact HB.out | apply below_alloc | apply pw_below_drewN | apply below_drew1) | exact HB.out))); rintro e w46 ⟨rfl, hb⟩; have n0_ := Aside0.mk (below_step (by repeat (first | (with_reducible first | exact HB.out | apply below_alloc | apply pw_below_drewN | apply below_drew1) | exact HB.out)) hb); clear HB; have HB := n0_; clear n0_; (try clear hb); (try clear hb2); (try clear hk); (try clear hi)) | (go_at_call 12; (with_reducible refine (lex_Lex.calls a0 t235 t236 t237 _ A5.out ?side1).mono ?_); (case side1 => exact GW.belowA hG (by repeat (first | (with_reducible first | exact HB.out | apply below_alloc | apply pw_below_drewN | apply below_drew1) | exact HB.out))); rintro e w47 ⟨v238, rfl, ho0, hb⟩; have n0_ := Aside0.mk (Kd.R_lower ho0 (below_size (by repeat (first | (with_reducible first | exact HB.out | apply below_alloc | apply pw_below_drewN | apply below_drew1) | exact HB.out)))); have n1_ := Aside0.mk (below_step (by repeat (first | (with_reducible first | exact HB.out | apply below_alloc | apply pw_below_drewN | apply below_drew1) | exact HB.out)) hb); clear HB; have HO239 := n0_; have HB := n1_; clear n0_ n1_; (try clear hb); (try clear hb2); (try clear hk); (try clear hi); (try clear ho0); obtain ⟨Ao48, co48, eo48⟩ := Kd.R_slice HO239.out; subst eo48)))
        go_ret
        exact ⟨by first | rfl | (simp [errW_none, errW_some] <;> rfl) | (simp [*, errW_none, errW_some] <;> rfl), by repeat (first | (with_reducible first | exact HB.out | apply below_alloc | apply pw_below_drewN | apply below_drew1) | exact HB.out)⟩
      · replace c45 := Bool.eq_false_iff.mpr c45
        subst c45
        have H1 : (some false) = some r := by rw [if_neg (show ¬ (false = true) by decide)] at H; exact H
        clear H
        have H := H1
        clear H1
        obtain rfl := Option.some.inj H
        go_enter Tryd.func4, Tryd.ntmps4
        go_wp2_with (first | (go_at_call 11; (with_reducible refine (sorrellaw04_head.calls k  false _ A2.out ?side1).mono ?_); (case side1 => exact GW.belowA hG (by repeat (first | (with_reducible first | exact HB.out | apply below_alloc | apply pw_below_drewN | apply below_drew1) | exact HB.out))); rintro e w49 ⟨rfl, hb⟩; have n0_ := Aside0.mk (below_step (by repeat (first | (with_reducible first | exact HB.out | apply below_alloc | apply pw_below_drewN | apply below_drew1) | exact HB.out)) hb); clear HB; have HB := n0_; clear n0_; (try clear hb); (try clear hb2); (try clear hk); (try clear hi)) | (go_at_call 12; (with_reducible refine (lex_Lex.calls a0 t235 t236 t237 _ A5.out ?side1).mono ?_); (case side1 => exact GW.belowA hG (by repeat (first | (with_reducible first | exact HB.out | apply below_alloc | apply pw_below_drewN | apply below_drew1) | exact HB.out))); rintro e w50 ⟨v238, rfl, ho0, hb⟩; have n0_ := Aside0.mk (Kd.R_lower ho0 (below_size (by repeat (first | (with_reducible first | exact HB.out | apply below_alloc | apply pw_below_drewN | apply below_drew1) | exact HB.out)))); have n1_ := Aside0.mk (below_step (by repeat (first | (with_reducible first | exact HB.out | apply below_alloc | apply pw_below_drewN | apply below_drew1) | exact HB.out)) hb); clear HB; have HO239 := n0_; have HB := n1_; clear n0_ n1_; (try clear hb); (try clear hb2); (try clear hk); (try clear hi); (try clear ho0)))
        repeat (go_quiet (first | (go_at_call 11; (with_reducible refine (sorrellaw04_head.calls k  false _ A2.out ?side1).mono ?_); (case side1 => exact GW.belowA hG (by repeat (first | (with_reducible first | exact HB.out | apply below_alloc | apply pw_below_drewN | apply below_drew1) | exact HB.out))); rintro e w49 ⟨rfl, hb⟩; have n0_ := Aside0.mk (below_step (by repeat (first | (with_reducible first | exact HB.out | apply below_alloc | apply pw_below_drewN | apply below_drew1) | exact HB.out)) hb); clear HB; have HB := n0_; clear n0_; (try clear hb); (try clear hb2); (try clear hk); (try clear hi)) | (go_at_call 12; (with_reducible refine (lex_Lex.calls a0 t235 t236 t237 _ A5.out ?side1).mono ?_); (case side1 => exact GW.belowA hG (by repeat (first | (with_reducible first | exact HB.out | apply below_alloc | apply pw_below_drewN | apply below_drew1) | exact HB.out))); rintro e w50 ⟨v238, rfl, ho0, hb⟩; have n0_ := Aside0.mk (Kd.R_lower ho0 (below_size (by repeat (first | (with_reducible first | exact HB.out | apply below_alloc | apply pw_below_drewN | apply below_drew1) | exact HB.out)))); have n1_ := Aside0.mk (below_step (by repeat (first | (with_reducible first | exact HB.out | apply below_alloc | apply pw_below_drewN | apply below_drew1) | exact HB.out)) hb); clear HB; have HO239 := n0_; have HB := n1_; clear n0_ n1_; (try clear hb); (try clear hb2); (try clear hk); (try clear hi); (try clear ho0))); try go_wp2_with (first | (go_at_call 11; (with_reducible refine (sorrellaw04_head.calls k  false _ A2.out ?side1).mono ?_); (case side1 => exact GW.belowA hG (by repeat (first | (with_reducible first | exact HB.out | apply below_alloc | apply pw_below_drewN | apply below_drew1) | exact HB.out))); rintro e w49 ⟨rfl, hb⟩; have n0_ := Aside0.mk (below_step (by repeat (first | (with_reducible first | exact HB.out | apply below_alloc | apply pw_below_drewN | apply below_drew1) | exact HB.out)) hb); clear HB; have HB := n0_; clear n0_; (try clear hb); (try clear hb2); (try clear hk); (try clear hi)) | (go_at_call 12; (with_reducible refine (lex_Lex.calls a0 t235 t236 t237 _ A5.out ?side1).mono ?_); (case side1 => exact GW.belowA hG (by repeat (first | (with_reducible first | exact HB.out | apply below_alloc | apply pw_below_drewN | apply below_drew1) | exact HB.out))); rintro e w50 ⟨v238, rfl, ho0, hb⟩; have n0_ := Aside0.mk (Kd.R_lower ho0 (below_size (by repeat (first | (with_reducible first | exact HB.out | apply below_alloc | apply pw_below_drewN | apply below_drew1) | exact HB.out)))); have n1_ := Aside0.mk (below_step (by repeat (first | (with_reducible first | exact HB.out | apply below_alloc | apply pw_below_drewN | apply below_drew1) | exact HB.out)) hb); clear HB; have HO239 := n0_; have HB := n1_; clear n0_ n1_; (try clear hb); (try clear hb2); (try clear hk); (try clear hi); (try clear ho0))))
        go_ret
        exact ⟨by first | rfl | (simp [errW_none, errW_some] <;> rfl) | (simp [*, errW_none, errW_some] <;> rfl), by repeat (first | (with_reducible first | exact HB.out | apply below_alloc | apply pw_below_drewN | apply below_drew1) | exact HB.out)⟩

/-- THE ONE PURE STATEMENT of sorrellaw04_LexOrder: yours. -/
def sorrellaw04_LexOrder.Pure : Prop := ∀ (a0 : ByteArray), a0.size ≤ 140737488351232 → ∃ k, sorrellaw04_LexOrder.f k a0 = some true
theorem sorrellaw04_LexOrder.walk (P : sorrellaw04_LexOrder.Pure) (a0 : ByteArray) (w : World) (w0 : a0.size ≤ 140737488351232) (hG : Aside0 (GW w)) :
    Calls Tryd.prog 4 #[.string a0] w fun e w' => e = .returned (.bool true) ∧ Below w.heap.size w w' := by
  obtain ⟨k, h⟩ := P a0 w0
  refine (sorrellaw04_LexOrder.calls k a0 true w h hG).mono ?_
  rintro e w' ⟨rfl, hd⟩
  exact ⟨rfl, hd⟩

end Go.Proofs.YtpdlfokfjkmplaaDoor.P
