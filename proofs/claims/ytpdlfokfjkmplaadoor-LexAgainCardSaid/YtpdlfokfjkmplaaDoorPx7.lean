-- Written by a program of this session (wip/gen) out of the translation. Lean checks it.
import Derived.Test.YtpdlfokfjkmplaaDoorPx0
import Derived.Test.YtpdlfokfjkmplaaDoorPx6
namespace Go.Proofs.YtpdlfokfjkmplaaDoor.P
open Go.RowKit Go.Proofs.YtpdlfokfjkmplaaDoorW.PrintWords Go.Proofs.YtpdlfokfjkmplaaDoorW.PrintLast Go.Proofs.YtpdlfokfjkmplaaDoorW.PrintMore
attribute [local go_sem] max2_int min2_int max_two min_two max_three min_three max_four min_four   -- for this text's walks alone
set_option linter.unusedVariables false
set_option linter.unusedSimpArgs false

/-! ### sorrelref04_row: function 41 -/
def sorrelref04_row.l0 : Nat → ByteArray → Int → Int → Option (Int)
  | 0, _, _, _ => none
  | k + 1, x0, x1, x2 => if x1 < (x0.size : Int) then (if 0 ≤ x1 then (if x2 = 1 then ((sorrelref04_Letter.f (bt x0 x1)).bind fun t148 => (if t148 = true then (if x2 = 2 then ((sorrelref04_Digit.f (bt x0 x1)).bind fun t149 => (if t149 = true then (if x2 = 3 then ((sorrelref04_Sign.f k (bt x0 x1)).bind fun t150 => (if t150 = true then (sorrelref04_row.l0 k x0 (wrap64 (x1 + 1)) x2) else (some x1))) else (sorrelref04_row.l0 k x0 (wrap64 (x1 + 1)) x2)) else (some x1))) else (if x2 = 3 then ((sorrelref04_Sign.f k (bt x0 x1)).bind fun t151 => (if t151 = true then (sorrelref04_row.l0 k x0 (wrap64 (x1 + 1)) x2) else (some x1))) else (sorrelref04_row.l0 k x0 (wrap64 (x1 + 1)) x2))) else (some x1))) else (if x2 = 2 then ((sorrelref04_Digit.f (bt x0 x1)).bind fun t152 => (if t152 = true then (if x2 = 3 then ((sorrelref04_Sign.f k (bt x0 x1)).bind fun t153 => (if t153 = true then (sorrelref04_row.l0 k x0 (wrap64 (x1 + 1)) x2) else (some x1))) else (sorrelref04_row.l0 k x0 (wrap64 (x1 + 1)) x2)) else (some x1))) else (if x2 = 3 then ((sorrelref04_Sign.f k (bt x0 x1)).bind fun t154 => (if t154 = true then (sorrelref04_row.l0 k x0 (wrap64 (x1 + 1)) x2) else (some x1))) else (sorrelref04_row.l0 k x0 (wrap64 (x1 + 1)) x2)))) else (none)) else (some x1)
def sorrelref04_row.f (k : Nat) (a0 : ByteArray) (a1 : Int) (a2 : Int) : Option (Int) := sorrelref04_row.l0 k a0 a1 a2
theorem sorrelref04_row.mono_l : ∀ k, (∀ y0 y1 y2, LeO (sorrelref04_row.l0 k y0 y1 y2) (sorrelref04_row.l0 (k + 1) y0 y1 y2))
  | 0 => fun _ _ _ r h => by simp [sorrelref04_row.l0] at h
  | k + 1 => by
    have ih0 := sorrelref04_row.mono_l k
    · intro y0 y1 y2
      unfold sorrelref04_row.l0
      repeat' first
      | (with_reducible exact ih0 _ _ _)
      | (with_reducible exact sorrelref04_Sign.mono _ _)
      | (with_reducible exact LeO.refl _)
      | (with_reducible exact LeO.none _)
      | (with_reducible refine LeO.ite ?_ ?_)
      | (with_reducible refine LeO.bind ?_ (fun _ => ?_))
      | exact ih0 _ _ _
      | exact sorrelref04_Sign.mono _ _
      | exact LeO.none _
      | refine LeO.ite ?_ ?_
      | refine LeO.bind ?_ (fun _ => ?_)
theorem sorrelref04_row.mono : ∀ a0 a1 a2 k, LeO (sorrelref04_row.f k a0 a1 a2) (sorrelref04_row.f (k + 1) a0 a1 a2) := by
  intro a0 a1 a2 k
  have ih0 := sorrelref04_row.mono_l k
  unfold sorrelref04_row.f
  repeat' first
      | (with_reducible exact ih0 _ _ _)
      | (with_reducible exact sorrelref04_Sign.mono _ _)
      | (with_reducible exact LeO.refl _)
      | (with_reducible exact LeO.none _)
      | (with_reducible refine LeO.ite ?_ ?_)
      | (with_reducible refine LeO.bind ?_ (fun _ => ?_))
      | exact ih0 _ _ _
      | exact sorrelref04_Sign.mono _ _
      | exact LeO.none _
      | refine LeO.ite ?_ ?_
      | refine LeO.bind ?_ (fun _ => ?_)
set_option maxHeartbeats 8000000 in
set_option maxRecDepth 100000 in
theorem sorrelref04_row.calls (k : Nat) (a0 : ByteArray) (a1 : Int) (a2 : Int) (r : Int) (w : World) (h : sorrelref04_row.f k a0 a1 a2 = some r) :
    Calls Tryd.prog 41 #[.string a0, .int .i64 a1, .int .i64 a2] w fun e w' => e = .returned (.int .i64 r) ∧ Drawn0 w w' := by
  have H : (sorrelref04_row.l0 k a0 a1 a2) = some r := h
  clear h
  have H' := Aside0.mk H
  clear H
  go_enter Tryd.func41, Tryd.ntmps41
  go_wp2
  go_loopg [1] k (fun kq v1 w' => ∃ (x1_1 : Int), v1 = .int .i64 x1_1 ∧ Aside0 (sorrelref04_row.l0 kq a0 x1_1 a2 = some r) ∧ Aside0 (kq ≤ k) ∧ Drawn0 w w')
  case atStart => exact ⟨(a1), (by first | rfl | (simp; done) | (simp [*]; done)), H', ⟨Nat.le_refl _⟩, by repeat (first | exact Drawn0.refl _ | apply Drawn0.step)⟩
  case round =>
    clear H'
    try clear p2
    obtain ⟨x1_1, rfl, HA, HK1, ⟨m1, rfl⟩⟩ := hrel
    cases gk with
    | zero => exact absurd HA.out (by simp [sorrelref04_row.l0])
    | succ k1 =>
      have H := HA.out
      clear HA
      simp only [sorrelref04_row.l0] at H
      by_cases c4 : x1_1 < (a0.size : Int)
      · rw [if_pos c4] at H
        have c4b0 : decide (x1_1 < (a0.size : Int)) = true := decide_eq_true c4
        clear c4
        by_cases c5 : 0 ≤ x1_1
        · rw [if_pos c5] at H
          have c5b0 : decide (0 ≤ x1_1) = true := decide_eq_true c5
          clear c5
          by_cases c7 : a2 = 1
          · rw [if_pos c7] at H
            have c7b0 : (a2 == 1) = true := beq_iff_eq.mpr c7
            have c7b1 : (a2 != 1) = false := bne_eq_false_iff_eq.mpr c7
            clear c7
            replace H := Option.bind_eq_some_iff.mp H
            obtain ⟨t148, A80, H⟩ := H
            replace H : (if t148 = true then (if a2 = 2 then ((sorrelref04_Digit.f (bt a0 x1_1)).bind fun t149 => (if t149 = true then (if a2 = 3 then ((sorrelref04_Sign.f k1 (bt a0 x1_1)).bind fun t150 => (if t150 = true then (sorrelref04_row.l0 k1 a0 (wrap64 (x1_1 + 1)) a2) else (some x1_1))) else (sorrelref04_row.l0 k1 a0 (wrap64 (x1_1 + 1)) a2)) else (some x1_1))) else (if a2 = 3 then ((sorrelref04_Sign.f k1 (bt a0 x1_1)).bind fun t151 => (if t151 = true then (sorrelref04_row.l0 k1 a0 (wrap64 (x1_1 + 1)) a2) else (some x1_1))) else (sorrelref04_row.l0 k1 a0 (wrap64 (x1_1 + 1)) a2))) else (some x1_1)) = some r := H
            have A8 := Aside0.mk A80
            clear A80
            by_cases c9 : t148 = true
            · subst c9
              have H1 : (if a2 = 2 then ((sorrelref04_Digit.f (bt a0 x1_1)).bind fun t149 => (if t149 = true then (if a2 = 3 then ((sorrelref04_Sign.f k1 (bt a0 x1_1)).bind fun t150 => (if t150 = true then (sorrelref04_row.l0 k1 a0 (wrap64 (x1_1 + 1)) a2) else (some x1_1))) else (sorrelref04_row.l0 k1 a0 (wrap64 (x1_1 + 1)) a2)) else (some x1_1))) else (if a2 = 3 then ((sorrelref04_Sign.f k1 (bt a0 x1_1)).bind fun t151 => (if t151 = true then (sorrelref04_row.l0 k1 a0 (wrap64 (x1_1 + 1)) a2) else (some x1_1))) else (sorrelref04_row.l0 k1 a0 (wrap64 (x1_1 + 1)) a2))) = some r := by rw [if_pos rfl] at H; exact H
              clear H
              have H := H1
              clear H1
              by_cases c10 : a2 = 2
              · rw [if_pos c10] at H
                have c10b0 : (a2 == 2) = true := beq_iff_eq.mpr c10
                have c10b1 : (a2 != 2) = false := bne_eq_false_iff_eq.mpr c10
                clear c10
                replace H := Option.bind_eq_some_iff.mp H
                obtain ⟨t149, A110, H⟩ := H
                replace H : (if t149 = true then (if a2 = 3 then ((sorrelref04_Sign.f k1 (bt a0 x1_1)).bind fun t150 => (if t150 = true then (sorrelref04_row.l0 k1 a0 (wrap64 (x1_1 + 1)) a2) else (some x1_1))) else (sorrelref04_row.l0 k1 a0 (wrap64 (x1_1 + 1)) a2)) else (some x1_1)) = some r := H
                have A11 := Aside0.mk A110
                clear A110
                by_cases c12 : t149 = true
                · subst c12
                  have H1 : (if a2 = 3 then ((sorrelref04_Sign.f k1 (bt a0 x1_1)).bind fun t150 => (if t150 = true then (sorrelref04_row.l0 k1 a0 (wrap64 (x1_1 + 1)) a2) else (some x1_1))) else (sorrelref04_row.l0 k1 a0 (wrap64 (x1_1 + 1)) a2)) = some r := by rw [if_pos rfl] at H; exact H
                  clear H
                  have H := H1
                  clear H1
                  by_cases c13 : a2 = 3
                  · rw [if_pos c13] at H
                    have c13b0 : (a2 == 3) = true := beq_iff_eq.mpr c13
                    have c13b1 : (a2 != 3) = false := bne_eq_false_iff_eq.mpr c13
                    clear c13
                    replace H := Option.bind_eq_some_iff.mp H
                    obtain ⟨t150, A140, H⟩ := H
                    replace H : (if t150 = true then (sorrelref04_row.l0 k1 a0 (wrap64 (x1_1 + 1)) a2) else (some x1_1)) = some r := H
                    have A14 := Aside0.mk A140
                    clear A140
                    by_cases c15 : t150 = true
                    · subst c15
                      have H1 : (sorrelref04_row.l0 k1 a0 (wrap64 (x1_1 + 1)) a2) = some r := by rw [if_pos rfl] at H; exact H
                      clear H
                      have H := H1
                      clear H1
                      have H' := Aside0.mk H
                      clear H
                      have p6 : 0 ≤ (x1_1 : Int) := of_decide_eq_true (by first | (with_reducible assumption) | assumption)
                      have q6 : x1_1 < (a0.size : Int) := of_decide_eq_true (by first | (with_reducible assumption) | assumption)
                      have hx6 := bt_at a0 x1_1
                      replace p6 := eq_true p6
                      replace q6 := eq_true q6
                      go_wp2_with (first | (go_at_call 23; (with_reducible refine (sorrelref04_Letter.calls (bt a0 x1_1) true _ A8.out).mono ?_); rintro e w' ⟨rfl, ⟨nd, rfl⟩⟩) | (go_at_call 20; (with_reducible refine (sorrelref04_Digit.calls (bt a0 x1_1) true _ A11.out).mono ?_); rintro e w' ⟨rfl, ⟨nd, rfl⟩⟩) | (go_at_call 21; (with_reducible refine (sorrelref04_Sign.calls k1 (bt a0 x1_1) true _ A14.out).mono ?_); rintro e w' ⟨rfl, ⟨nd, rfl⟩⟩))
                      go_roundg k1
                      case measure => have := HK1.out; omega
                      case rel => exact ⟨(wrap64 (x1_1 + 1)), (by first | rfl | (simp; done) | (simp [*]; done)), H', ⟨by have := HK1.out; omega⟩, by repeat (first | exact Drawn0.refl _ | apply Drawn0.step)⟩
                    · replace c15 := Bool.eq_false_iff.mpr c15
                      subst c15
                      have H1 : (some x1_1) = some r := by rw [if_neg (show ¬ (false = true) by decide)] at H; exact H
                      clear H
                      have H := H1
                      clear H1
                      obtain rfl := Option.some.inj H
                      have p6 : 0 ≤ (x1_1 : Int) := of_decide_eq_true (by first | (with_reducible assumption) | assumption)
                      have q6 : x1_1 < (a0.size : Int) := of_decide_eq_true (by first | (with_reducible assumption) | assumption)
                      have hx6 := bt_at a0 x1_1
                      replace p6 := eq_true p6
                      replace q6 := eq_true q6
                      go_wp2_with (first | (go_at_call 23; (with_reducible refine (sorrelref04_Letter.calls (bt a0 x1_1) true _ A8.out).mono ?_); rintro e w' ⟨rfl, ⟨nd, rfl⟩⟩) | (go_at_call 20; (with_reducible refine (sorrelref04_Digit.calls (bt a0 x1_1) true _ A11.out).mono ?_); rintro e w' ⟨rfl, ⟨nd, rfl⟩⟩) | (go_at_call 21; (with_reducible refine (sorrelref04_Sign.calls k1 (bt a0 x1_1) false _ A14.out).mono ?_); rintro e w' ⟨rfl, ⟨nd, rfl⟩⟩))
                      go_ret
                      exact ⟨by first | rfl | (simp; done) | (simp [*]; done), by repeat (first | exact Drawn0.refl _ | apply Drawn0.step)⟩
                  · rw [if_neg c13] at H
                    have c13b0 : (a2 == 3) = false := beq_eq_false_iff_ne.mpr c13
                    have c13b1 : (a2 != 3) = true := bne_iff_ne.mpr c13
                    have H' := Aside0.mk H
                    clear H
                    have p6 : 0 ≤ (x1_1 : Int) := of_decide_eq_true (by first | (with_reducible assumption) | assumption)
                    have q6 : x1_1 < (a0.size : Int) := of_decide_eq_true (by first | (with_reducible assumption) | assumption)
                    have hx6 := bt_at a0 x1_1
                    replace p6 := eq_true p6
                    replace q6 := eq_true q6
                    go_wp2_with (first | (go_at_call 23; (with_reducible refine (sorrelref04_Letter.calls (bt a0 x1_1) true _ A8.out).mono ?_); rintro e w' ⟨rfl, ⟨nd, rfl⟩⟩) | (go_at_call 20; (with_reducible refine (sorrelref04_Digit.calls (bt a0 x1_1) true _ A11.out).mono ?_); rintro e w' ⟨rfl, ⟨nd, rfl⟩⟩))
                    go_roundg k1
                    case measure => have := HK1.out; omega
                    case rel => exact ⟨(wrap64 (x1_1 + 1)), (by first | rfl | (simp; done) | (simp [*]; done)), H', ⟨by have := HK1.out; omega⟩, by repeat (first | exact Drawn0.refl _ | apply Drawn0.step)⟩
                · replace c12 := Bool.eq_false_iff.mpr c12
                  subst c12
                  have H1 : (some x1_1) = some r := by rw [if_neg (show ¬ (false = true) by decide)] at H; exact H
                  clear H
                  have H := H1
                  clear H1
                  obtain rfl := Option.some.inj H
                  have p6 : 0 ≤ (x1_1 : Int) := of_decide_eq_true (by first | (with_reducible assumption) | assumption)
                  have q6 : x1_1 < (a0.size : Int) := of_decide_eq_true (by first | (with_reducible assumption) | assumption)
                  have hx6 := bt_at a0 x1_1
                  replace p6 := eq_true p6
                  replace q6 := eq_true q6
                  go_wp2_with (first | (go_at_call 23; (with_reducible refine (sorrelref04_Letter.calls (bt a0 x1_1) true _ A8.out).mono ?_); rintro e w' ⟨rfl, ⟨nd, rfl⟩⟩) | (go_at_call 20; (with_reducible refine (sorrelref04_Digit.calls (bt a0 x1_1) false _ A11.out).mono ?_); rintro e w' ⟨rfl, ⟨nd, rfl⟩⟩))
                  go_ret
                  exact ⟨by first | rfl | (simp; done) | (simp [*]; done), by repeat (first | exact Drawn0.refl _ | apply Drawn0.step)⟩
              · rw [if_neg c10] at H
                have c10b0 : (a2 == 2) = false := beq_eq_false_iff_ne.mpr c10
                have c10b1 : (a2 != 2) = true := bne_iff_ne.mpr c10
                by_cases c16 : a2 = 3
                · rw [if_pos c16] at H
                  have c16b0 : (a2 == 3) = true := beq_iff_eq.mpr c16
                  have c16b1 : (a2 != 3) = false := bne_eq_false_iff_eq.mpr c16
                  clear c16
                  replace H := Option.bind_eq_some_iff.mp H
                  obtain ⟨t151, A170, H⟩ := H
                  replace H : (if t151 = true then (sorrelref04_row.l0 k1 a0 (wrap64 (x1_1 + 1)) a2) else (some x1_1)) = some r := H
                  have A17 := Aside0.mk A170
                  clear A170
                  by_cases c18 : t151 = true
                  · subst c18
                    have H1 : (sorrelref04_row.l0 k1 a0 (wrap64 (x1_1 + 1)) a2) = some r := by rw [if_pos rfl] at H; exact H
                    clear H
                    have H := H1
                    clear H1
                    have H' := Aside0.mk H
                    clear H
                    have p6 : 0 ≤ (x1_1 : Int) := of_decide_eq_true (by first | (with_reducible assumption) | assumption)
                    have q6 : x1_1 < (a0.size : Int) := of_decide_eq_true (by first | (with_reducible assumption) | assumption)
                    have hx6 := bt_at a0 x1_1
                    replace p6 := eq_true p6
                    replace q6 := eq_true q6
                    go_wp2_with (first | (go_at_call 23; (with_reducible refine (sorrelref04_Letter.calls (bt a0 x1_1) true _ A8.out).mono ?_); rintro e w' ⟨rfl, ⟨nd, rfl⟩⟩) | (go_at_call 21; (with_reducible refine (sorrelref04_Sign.calls k1 (bt a0 x1_1) true _ A17.out).mono ?_); rintro e w' ⟨rfl, ⟨nd, rfl⟩⟩))
                    go_roundg k1
                    case measure => have := HK1.out; omega
                    case rel => exact ⟨(wrap64 (x1_1 + 1)), (by first | rfl | (simp; done) | (simp [*]; done)), H', ⟨by have := HK1.out; omega⟩, by repeat (first | exact Drawn0.refl _ | apply Drawn0.step)⟩
                  · replace c18 := Bool.eq_false_iff.mpr c18
                    subst c18
                    have H1 : (some x1_1) = some r := by rw [if_neg (show ¬ (false = true) by decide)] at H; exact H
                    clear H
                    have H := H1
                    clear H1
                    obtain rfl := Option.some.inj H
                    have p6 : 0 ≤ (x1_1 : Int) := of_decide_eq_true (by first | (with_reducible assumption) | assumption)
                    have q6 : x1_1 < (a0.size : Int) := of_decide_eq_true (by first | (with_reducible assumption) | assumption)
                    have hx6 := bt_at a0 x1_1
                    replace p6 := eq_true p6
                    replace q6 := eq_true q6
                    go_wp2_with (first | (go_at_call 23; (with_reducible refine (sorrelref04_Letter.calls (bt a0 x1_1) true _ A8.out).mono ?_); rintro e w' ⟨rfl, ⟨nd, rfl⟩⟩) | (go_at_call 21; (with_reducible refine (sorrelref04_Sign.calls k1 (bt a0 x1_1) false _ A17.out).mono ?_); rintro e w' ⟨rfl, ⟨nd, rfl⟩⟩))
                    go_ret
                    exact ⟨by first | rfl | (simp; done) | (simp [*]; done), by repeat (first | exact Drawn0.refl _ | apply Drawn0.step)⟩
                · rw [if_neg c16] at H
                  have c16b0 : (a2 == 3) = false := beq_eq_false_iff_ne.mpr c16
                  have c16b1 : (a2 != 3) = true := bne_iff_ne.mpr c16
                  have H' := Aside0.mk H
                  clear H
                  have p6 : 0 ≤ (x1_1 : Int) := of_decide_eq_true (by first | (with_reducible assumption) | assumption)
                  have q6 : x1_1 < (a0.size : Int) := of_decide_eq_true (by first | (with_reducible assumption) | assumption)
                  have hx6 := bt_at a0 x1_1
                  replace p6 := eq_true p6
                  replace q6 := eq_true q6
                  go_wp2_with (first | (go_at_call 23; (with_reducible refine (sorrelref04_Letter.calls (bt a0 x1_1) true _ A8.out).mono ?_); rintro e w' ⟨rfl, ⟨nd, rfl⟩⟩))
                  go_roundg k1
                  case measure => have := HK1.out; omega
                  case rel => exact ⟨(wrap64 (x1_1 + 1)), (by first | rfl | (simp; done) | (simp [*]; done)), H', ⟨by have := HK1.out; omega⟩, by repeat (first | exact Drawn0.refl _ | apply Drawn0.step)⟩
            · replace c9 := Bool.eq_false_iff.mpr c9
              subst c9
              have H1 : (some x1_1) = some r := by rw [if_neg (show ¬ (false = true) by decide)] at H; exact H
              clear H
              have H := H1
              clear H1
              obtain rfl := Option.some.inj H
              have p6 : 0 ≤ (x1_1 : Int) := of_decide_eq_true (by first | (with_reducible assumption) | assumption)
              have q6 : x1_1 < (a0.size : Int) := of_decide_eq_true (by first | (with_reducible assumption) | assumption)
              have hx6 := bt_at a0 x1_1
              replace p6 := eq_true p6
              replace q6 := eq_true q6
              go_wp2_with (first | (go_at_call 23; (with_reducible refine (sorrelref04_Letter.calls (bt a0 x1_1) false _ A8.out).mono ?_); rintro e w' ⟨rfl, ⟨nd, rfl⟩⟩))
              go_ret
              exact ⟨by first | rfl | (simp; done) | (simp [*]; done), by repeat (first | exact Drawn0.refl _ | apply Drawn0.step)⟩
          · rw [if_neg c7] at H
            have c7b0 : (a2 == 1) = false := beq_eq_false_iff_ne.mpr c7
            have c7b1 : (a2 != 1) = true := bne_iff_ne.mpr c7
            by_cases c19 : a2 = 2
            · rw [if_pos c19] at H
              have c19b0 : (a2 == 2) = true := beq_iff_eq.mpr c19
              have c19b1 : (a2 != 2) = false := bne_eq_false_iff_eq.mpr c19
              clear c19
              replace H := Option.bind_eq_some_iff.mp H
              obtain ⟨t152, A200, H⟩ := H
              replace H : (if t152 = true then (if a2 = 3 then ((sorrelref04_Sign.f k1 (bt a0 x1_1)).bind fun t153 => (if t153 = true then (sorrelref04_row.l0 k1 a0 (wrap64 (x1_1 + 1)) a2) else (some x1_1))) else (sorrelref04_row.l0 k1 a0 (wrap64 (x1_1 + 1)) a2)) else (some x1_1)) = some r := H
              have A20 := Aside0.mk A200
              clear A200
              by_cases c21 : t152 = true
              · subst c21
                have H1 : (if a2 = 3 then ((sorrelref04_Sign.f k1 (bt a0 x1_1)).bind fun t153 => (if t153 = true then (sorrelref04_row.l0 k1 a0 (wrap64 (x1_1 + 1)) a2) else (some x1_1))) else (sorrelref04_row.l0 k1 a0 (wrap64 (x1_1 + 1)) a2)) = some r := by rw [if_pos rfl] at H; exact H
                clear H
                have H := H1
                clear H1
                by_cases c22 : a2 = 3
                · rw [if_pos c22] at H
                  have c22b0 : (a2 == 3) = true := beq_iff_eq.mpr c22
                  have c22b1 : (a2 != 3) = false := bne_eq_false_iff_eq.mpr c22
                  clear c22
                  replace H := Option.bind_eq_some_iff.mp H
                  obtain ⟨t153, A230, H⟩ := H
                  replace H : (if t153 = true then (sorrelref04_row.l0 k1 a0 (wrap64 (x1_1 + 1)) a2) else (some x1_1)) = some r := H
                  have A23 := Aside0.mk A230
                  clear A230
                  by_cases c24 : t153 = true
                  · subst c24
                    have H1 : (sorrelref04_row.l0 k1 a0 (wrap64 (x1_1 + 1)) a2) = some r := by rw [if_pos rfl] at H; exact H
                    clear H
                    have H := H1
                    clear H1
                    have H' := Aside0.mk H
                    clear H
                    have p6 : 0 ≤ (x1_1 : Int) := of_decide_eq_true (by first | (with_reducible assumption) | assumption)
                    have q6 : x1_1 < (a0.size : Int) := of_decide_eq_true (by first | (with_reducible assumption) | assumption)
                    have hx6 := bt_at a0 x1_1
                    replace p6 := eq_true p6
                    replace q6 := eq_true q6
                    go_wp2_with (first | (go_at_call 20; (with_reducible refine (sorrelref04_Digit.calls (bt a0 x1_1) true _ A20.out).mono ?_); rintro e w' ⟨rfl, ⟨nd, rfl⟩⟩) | (go_at_call 21; (with_reducible refine (sorrelref04_Sign.calls k1 (bt a0 x1_1) true _ A23.out).mono ?_); rintro e w' ⟨rfl, ⟨nd, rfl⟩⟩))
                    go_roundg k1
                    case measure => have := HK1.out; omega
                    case rel => exact ⟨(wrap64 (x1_1 + 1)), (by first | rfl | (simp; done) | (simp [*]; done)), H', ⟨by have := HK1.out; omega⟩, by repeat (first | exact Drawn0.refl _ | apply Drawn0.step)⟩
                  · replace c24 := Bool.eq_false_iff.mpr c24
                    subst c24
                    have H1 : (some x1_1) = some r := by rw [if_neg (show ¬ (false = true) by decide)] at H; exact H
                    clear H
                    have H := H1
                    clear H1
                    obtain rfl := Option.some.inj H
                    have p6 : 0 ≤ (x1_1 : Int) := of_decide_eq_true (by first | (with_reducible assumption) | assumption)
                    have q6 : x1_1 < (a0.size : Int) := of_decide_eq_true (by first | (with_reducible assumption) | assumption)
                    have hx6 := bt_at a0 x1_1
                    replace p6 := eq_true p6
                    replace q6 := eq_true q6
                    go_wp2_with (first | (go_at_call 20; (with_reducible refine (sorrelref04_Digit.calls (bt a0 x1_1) true _ A20.out).mono ?_); rintro e w' ⟨rfl, ⟨nd, rfl⟩⟩) | (go_at_call 21; (with_reducible refine (sorrelref04_Sign.calls k1 (bt a0 x1_1) false _ A23.out).mono ?_); rintro e w' ⟨rfl, ⟨nd, rfl⟩⟩))
                    go_ret
                    exact ⟨by first | rfl | (simp; done) | (simp [*]; done), by repeat (first | exact Drawn0.refl _ | apply Drawn0.step)⟩
                · rw [if_neg c22] at H
                  have c22b0 : (a2 == 3) = false := beq_eq_false_iff_ne.mpr c22
                  have c22b1 : (a2 != 3) = true := bne_iff_ne.mpr c22
                  have H' := Aside0.mk H
                  clear H
                  have p6 : 0 ≤ (x1_1 : Int) := of_decide_eq_true (by first | (with_reducible assumption) | assumption)
                  have q6 : x1_1 < (a0.size : Int) := of_decide_eq_true (by first | (with_reducible assumption) | assumption)
                  have hx6 := bt_at a0 x1_1
                  replace p6 := eq_true p6
                  replace q6 := eq_true q6
                  go_wp2_with (first | (go_at_call 20; (with_reducible refine (sorrelref04_Digit.calls (bt a0 x1_1) true _ A20.out).mono ?_); rintro e w' ⟨rfl, ⟨nd, rfl⟩⟩))
                  go_roundg k1
                  case measure => have := HK1.out; omega
                  case rel => exact ⟨(wrap64 (x1_1 + 1)), (by first | rfl | (simp; done) | (simp [*]; done)), H', ⟨by have := HK1.out; omega⟩, by repeat (first | exact Drawn0.refl _ | apply Drawn0.step)⟩
              · replace c21 := Bool.eq_false_iff.mpr c21
                subst c21
                have H1 : (some x1_1) = some r := by rw [if_neg (show ¬ (false = true) by decide)] at H; exact H
                clear H
                have H := H1
                clear H1
                obtain rfl := Option.some.inj H
                have p6 : 0 ≤ (x1_1 : Int) := of_decide_eq_true (by first | (with_reducible assumption) | assumption)
                have q6 : x1_1 < (a0.size : Int) := of_decide_eq_true (by first | (with_reducible assumption) | assumption)
                have hx6 := bt_at a0 x1_1
                replace p6 := eq_true p6
                replace q6 := eq_true q6
                go_wp2_with (first | (go_at_call 20; (with_reducible refine (sorrelref04_Digit.calls (bt a0 x1_1) false _ A20.out).mono ?_); rintro e w' ⟨rfl, ⟨nd, rfl⟩⟩))
                go_ret
                exact ⟨by first | rfl | (simp; done) | (simp [*]; done), by repeat (first | exact Drawn0.refl _ | apply Drawn0.step)⟩
            · rw [if_neg c19] at H
              have c19b0 : (a2 == 2) = false := beq_eq_false_iff_ne.mpr c19
              have c19b1 : (a2 != 2) = true := bne_iff_ne.mpr c19
              by_cases c25 : a2 = 3
              · rw [if_pos c25] at H
                have c25b0 : (a2 == 3) = true := beq_iff_eq.mpr c25
                have c25b1 : (a2 != 3) = false := bne_eq_false_iff_eq.mpr c25
                clear c25
                replace H := Option.bind_eq_some_iff.mp H
                obtain ⟨t154, A260, H⟩ := H
                replace H : (if t154 = true then (sorrelref04_row.l0 k1 a0 (wrap64 (x1_1 + 1)) a2) else (some x1_1)) = some r := H
                have A26 := Aside0.mk A260
                clear A260
                by_cases c27 : t154 = true
                · subst c27
                  have H1 : (sorrelref04_row.l0 k1 a0 (wrap64 (x1_1 + 1)) a2) = some r := by rw [if_pos rfl] at H; exact H
                  clear H
                  have H := H1
                  clear H1
                  have H' := Aside0.mk H
                  clear H
                  have p6 : 0 ≤ (x1_1 : Int) := of_decide_eq_true (by first | (with_reducible assumption) | assumption)
                  have q6 : x1_1 < (a0.size : Int) := of_decide_eq_true (by first | (with_reducible assumption) | assumption)
                  have hx6 := bt_at a0 x1_1
                  replace p6 := eq_true p6
                  replace q6 := eq_true q6
                  go_wp2_with (first | (go_at_call 21; (with_reducible refine (sorrelref04_Sign.calls k1 (bt a0 x1_1) true _ A26.out).mono ?_); rintro e w' ⟨rfl, ⟨nd, rfl⟩⟩))
                  go_roundg k1
                  case measure => have := HK1.out; omega
                  case rel => exact ⟨(wrap64 (x1_1 + 1)), (by first | rfl | (simp; done) | (simp [*]; done)), H', ⟨by have := HK1.out; omega⟩, by repeat (first | exact Drawn0.refl _ | apply Drawn0.step)⟩
                · replace c27 := Bool.eq_false_iff.mpr c27
                  subst c27
                  have H1 : (some x1_1) = some r := by rw [if_neg (show ¬ (false = true) by decide)] at H; exact H
                  clear H
                  have H := H1
                  clear H1
                  obtain rfl := Option.some.inj H
                  have p6 : 0 ≤ (x1_1 : Int) := of_decide_eq_true (by first | (with_reducible assumption) | assumption)
                  have q6 : x1_1 < (a0.size : Int) := of_decide_eq_true (by first | (with_reducible assumption) | assumption)
                  have hx6 := bt_at a0 x1_1
                  replace p6 := eq_true p6
                  replace q6 := eq_true q6
                  go_wp2_with (first | (go_at_call 21; (with_reducible refine (sorrelref04_Sign.calls k1 (bt a0 x1_1) false _ A26.out).mono ?_); rintro e w' ⟨rfl, ⟨nd, rfl⟩⟩))
                  go_ret
                  exact ⟨by first | rfl | (simp; done) | (simp [*]; done), by repeat (first | exact Drawn0.refl _ | apply Drawn0.step)⟩
              · rw [if_neg c25] at H
                have c25b0 : (a2 == 3) = false := beq_eq_false_iff_ne.mpr c25
                have c25b1 : (a2 != 3) = true := bne_iff_ne.mpr c25
                have H' := Aside0.mk H
                clear H
                have p6 : 0 ≤ (x1_1 : Int) := of_decide_eq_true (by first | (with_reducible assumption) | assumption)
                have q6 : x1_1 < (a0.size : Int) := of_decide_eq_true (by first | (with_reducible assumption) | assumption)
                have hx6 := bt_at a0 x1_1
                replace p6 := eq_true p6
                replace q6 := eq_true q6
                go_wp2
                go_roundg k1
                case measure => have := HK1.out; omega
                case rel => exact ⟨(wrap64 (x1_1 + 1)), (by first | rfl | (simp; done) | (simp [*]; done)), H', ⟨by have := HK1.out; omega⟩, by repeat (first | exact Drawn0.refl _ | apply Drawn0.step)⟩
        · rw [if_neg c5] at H
          exact absurd H (by simp)
      · rw [if_neg c4] at H
        have c4b0 : decide (x1_1 < (a0.size : Int)) = false := decide_eq_false c4
        clear c4
        obtain rfl := Option.some.inj H
        go_wp2
        go_ret
        exact ⟨by first | rfl | (simp; done) | (simp [*]; done), by repeat (first | exact Drawn0.refl _ | apply Drawn0.step)⟩

/-! ### sorrelref04_number: function 42 -/
def sorrelref04_number.l0 : Nat → ByteArray → Int → Int → Int → Int → Option (Int × ByteArray × Int × Int × Int × Int)
  | 0, _, _, _, _, _ => none
  | k + 1, x0, x1, x7, x8, x9 => if x9 < x7 then (if 0 ≤ x9 then (if x9 < (x0.size : Int) then (if (wrap64 ((wrap64 (x8 * 10)) + (((bt x0 x9) - 48) % 256))) > 2147483647 then (some (0, (⟨#[]⟩ : ByteArray), 0, 0, x1, 2)) else (sorrelref04_number.l0 k x0 x1 x7 (wrap64 ((wrap64 (x8 * 10)) + (((bt x0 x9) - 48) % 256))) (wrap64 (x9 + 1)))) else (none)) else (none)) else (if 0 ≤ x1 then (if x1 ≤ x7 then (if x7 ≤ (x0.size : Int) then (some (3, x0.extract (x1 : Int).toNat (x7 : Int).toNat, x8, x1, x7, 0)) else (none)) else (none)) else (none))
def sorrelref04_number.f (k : Nat) (a0 : ByteArray) (a1 : Int) : Option (Int × ByteArray × Int × Int × Int × Int) := (sorrelref04_row.f k a0 a1 2).bind fun t156 => (sorrelref04_number.l0 k a0 a1 t156 0 a1)
theorem sorrelref04_number.mono_l : ∀ k, (∀ y0 y1 y2 y3 y4, LeO (sorrelref04_number.l0 k y0 y1 y2 y3 y4) (sorrelref04_number.l0 (k + 1) y0 y1 y2 y3 y4))
  | 0 => fun _ _ _ _ _ r h => by simp [sorrelref04_number.l0] at h
  | k + 1 => by
    have ih0 := sorrelref04_number.mono_l k
    · intro y0 y1 y2 y3 y4
      unfold sorrelref04_number.l0
      repeat' first
      | (with_reducible exact ih0 _ _ _ _ _)
      | (with_reducible exact sorrelref04_row.mono _ _ _ _)
      | (with_reducible exact LeO.refl _)
      | (with_reducible exact LeO.none _)
      | (with_reducible refine LeO.ite ?_ ?_)
      | (with_reducible refine LeO.bind ?_ (fun _ => ?_))
      | exact ih0 _ _ _ _ _
      | exact sorrelref04_row.mono _ _ _ _
      | exact LeO.none _
      | refine LeO.ite ?_ ?_
      | refine LeO.bind ?_ (fun _ => ?_)
theorem sorrelref04_number.mono : ∀ a0 a1 k, LeO (sorrelref04_number.f k a0 a1) (sorrelref04_number.f (k + 1) a0 a1) := by
  intro a0 a1 k
  have ih0 := sorrelref04_number.mono_l k
  unfold sorrelref04_number.f
  repeat' first
      | (with_reducible exact ih0 _ _ _ _ _)
      | (with_reducible exact sorrelref04_row.mono _ _ _ _)
      | (with_reducible exact LeO.refl _)
      | (with_reducible exact LeO.none _)
      | (with_reducible refine LeO.ite ?_ ?_)
      | (with_reducible refine LeO.bind ?_ (fun _ => ?_))
      | exact ih0 _ _ _ _ _
      | exact sorrelref04_row.mono _ _ _ _
      | exact LeO.none _
      | refine LeO.ite ?_ ?_
      | refine LeO.bind ?_ (fun _ => ?_)
set_option maxHeartbeats 8000000 in
set_option maxRecDepth 100000 in
theorem sorrelref04_number.calls (k : Nat) (a0 : ByteArray) (a1 : Int) (r1 : Int) (r2 : ByteArray) (r3 : Int) (r4 : Int) (r5 : Int) (r6 : Int) (w : World) (h : sorrelref04_number.f k a0 a1 = some (r1, r2, r3, r4, r5, r6)) :
    Calls Tryd.prog 42 #[.string a0, .int .i64 a1] w fun e w' => e = .returned (.tuple #[.agg #[.int .i64 r1, .string r2, .int .i64 r3, .int .i64 r4], .int .i64 r5, .int .i64 r6]) ∧ Below w.heap.size w w' := by
  have hu30 := Tryd.underlying30
  have HB := Aside0.mk (Below.refl w.heap.size w)
  have H : ((sorrelref04_row.f k a0 a1 2).bind fun t156 => (sorrelref04_number.l0 k a0 a1 t156 0 a1)) = some (r1, r2, r3, r4, r5, r6) := h
  clear h
  replace H := Option.bind_eq_some_iff.mp H
  obtain ⟨t156, A30, H⟩ := H
  replace H : (sorrelref04_number.l0 k a0 a1 t156 0 a1) = some (r1, r2, r3, r4, r5, r6) := H
  have A3 := Aside0.mk A30
  clear A30
  have H' := Aside0.mk H
  clear H
  go_enter Tryd.func42, Tryd.ntmps42
  go_wp2_with (first | ((with_reducible refine gate_dst (N := 4) rfl ?_); refine box_event ?hg (N := 4) ?hd (cs := #[.int .i64 0, .string (⟨#[]⟩ : ByteArray), .int .i64 0, .int .i64 0]) (t := 30) ?hr ?_; (case hd => rfl); (case hg => rfl); (case hr => first | (go_simp; done) | (go_simp; rfl)); intro gb155 hg w4 hbox hb; have n0_ := Aside0.mk (below_step (by repeat (first | (with_reducible first | exact HB.out | apply below_alloc | apply pw_below_drewN | apply below_drew1) | exact HB.out)) hb); have n1_ := Aside0.mk (hbox); have n2_ := Aside0.mk ((by rw [hg]; exact (below_size (by repeat (first | (with_reducible first | exact HB.out | apply below_alloc | apply pw_below_drewN | apply below_drew1) | exact HB.out))) : w.heap.size ≤ gb155)); have n3_ := Aside0.mk ((by rw [hg]; exact (below_size (by repeat (first | (with_reducible first | exact HB.out | apply below_alloc | apply pw_below_drewN | apply below_drew1) | exact HB.out))) : w.heap.size ≤ gb155)); clear HB; have HB := n0_; have BK155 := n1_; have GW155 := n2_; have GE155 := n3_; clear n0_ n1_ n2_ n3_; clear hb hbox hg) | ((with_reducible refine gate_callee (f := 41) rfl ?_); refine goesL_ (some 12) rfl rfl Tryd.func41 (by kernel_rfl) rfl #[.string a0, .int .i64 a1, .int .i64 2] rfl (by (try simp only [List.map_toArray, List.map_cons, List.map_nil]); first | done | rfl | (simp only [List.length_drop, List.length_take]; rfl)) ?_; (with_reducible refine (sorrelref04_row.calls k a0 a1 2 t156 _ A3.out).mono ?_); rintro e w' ⟨rfl, ⟨nd, rfl⟩⟩; refine ⟨_, rfl, ?_⟩))
  go_loopg [8, 9] k (fun kq v8 v9 w' => ∃ (x8_1 : Int) (x9_1 : Int) (x156000_1 : Int) (x156001_1 : ByteArray) (x156002_1 : Int) (x156003_1 : Int), v8 = .int .i64 x8_1 ∧ v9 = .int .i64 x9_1 ∧ Aside0 (sorrelref04_number.l0 kq a0 a1 t156 x8_1 x9_1 = some (r1, r2, r3, r4, r5, r6)) ∧ Aside0 (kq ≤ k) ∧ Aside0 (w'.heap[gb155]? = some (.cells #[.int .i64 x156000_1, .string x156001_1, .int .i64 x156002_1, .int .i64 x156003_1] 30 (0, 0))) ∧ Aside0 (Below w.heap.size w w'))
  case atStart => exact ⟨(0), (a1), (0), ((⟨#[]⟩ : ByteArray)), (0), (0), (by first | rfl | (simp; done) | (simp [*]; done)), (by first | rfl | (simp; done) | (simp [*]; done)), H', ⟨Nat.le_refl _⟩, ⟨by (with_reducible repeat (first | refine blk_drewN ?_ _ | refine blk_drew ?_ | refine blk_alloc ?_ _)); exact BK155.out⟩, ⟨by repeat (first | (with_reducible first | exact HB.out | apply below_alloc | apply pw_below_drewN | apply below_drew1 | refine below_set ?_ GE155.out) | exact HB.out)⟩⟩
  case round =>
    clear H'
    try clear p2
    try clear c4
    obtain ⟨x8_1, x9_1, x156000_1, x156001_1, x156002_1, x156003_1, rfl, rfl, HA, HK1, BK155, HB⟩ := hrel
    cases gk with
    | zero => exact absurd HA.out (by simp [sorrelref04_number.l0])
    | succ k1 =>
      have H := HA.out
      clear HA
      simp only [sorrelref04_number.l0] at H
      by_cases c5 : x9_1 < t156
      · rw [if_pos c5] at H
        have c5b0 : decide (x9_1 < t156) = true := decide_eq_true c5
        clear c5
        by_cases c6 : 0 ≤ x9_1
        · rw [if_pos c6] at H
          have c6b0 : decide (0 ≤ x9_1) = true := decide_eq_true c6
          clear c6
          by_cases c7 : x9_1 < (a0.size : Int)
          · rw [if_pos c7] at H
            have c7b0 : decide (x9_1 < (a0.size : Int)) = true := decide_eq_true c7
            clear c7
            by_cases c9 : (wrap64 ((wrap64 (x8_1 * 10)) + (((bt a0 x9_1) - 48) % 256))) > 2147483647
            · rw [if_pos c9] at H
              have c9b0 : decide (2147483647 < (wrap64 ((wrap64 (x8_1 * 10)) + (((bt a0 x9_1) - 48) % 256)))) = true := decide_eq_true c9
              clear c9
              simp only [Option.some.injEq, Prod.mk.injEq] at H
              obtain ⟨rfl, rfl, rfl, rfl, rfl, rfl⟩ := H
              have p8 : 0 ≤ (x9_1 : Int) := of_decide_eq_true (by first | (with_reducible assumption) | assumption)
              have q8 : x9_1 < (a0.size : Int) := of_decide_eq_true (by first | (with_reducible assumption) | assumption)
              have hx8 := bt_at a0 x9_1
              replace p8 := eq_true p8
              replace q8 := eq_true q8
              have hcz10_0 : wr.cell? ⟨gb155, 0, none⟩ = some (.int .i64 x156000_1) := (blk_cell BK155.out 0).trans rfl
              have hcz10_1 : wr.cell? ⟨gb155, 1, none⟩ = some (.string x156001_1) := (blk_cell BK155.out 1).trans rfl
              have hcz10_2 : wr.cell? ⟨gb155, 2, none⟩ = some (.int .i64 x156002_1) := (blk_cell BK155.out 2).trans rfl
              have hcz10_3 : wr.cell? ⟨gb155, 3, none⟩ = some (.int .i64 x156003_1) := (blk_cell BK155.out 3).trans rfl
              have hfz10_0 := blk_frozen BK155.out 0
              have hfz10_1 := blk_frozen BK155.out 1
              have hfz10_2 := blk_frozen BK155.out 2
              have hfz10_3 := blk_frozen BK155.out 3
              go_wp2
              refine bodyPost_ret (results_ctt rfl _ _ gb155 30 #[.int .i64 0, .string (⟨#[]⟩ : ByteArray), .int .i64 0, .int .i64 0] (0, 0) _ rfl (by (with_reducible repeat (first | refine blk_drewN ?_ _ | refine blk_drew ?_ | refine blk_alloc ?_ _)); refine blk_put (cs := #[.int .i64 0, .string (⟨#[]⟩ : ByteArray), .int .i64 0, .int .i64 x156003_1]) ?_ 3 _ rfl; (with_reducible repeat (first | refine blk_drewN ?_ _ | refine blk_drew ?_ | refine blk_alloc ?_ _)); refine blk_put (cs := #[.int .i64 0, .string (⟨#[]⟩ : ByteArray), .int .i64 x156002_1, .int .i64 x156003_1]) ?_ 2 _ rfl; (with_reducible repeat (first | refine blk_drewN ?_ _ | refine blk_drew ?_ | refine blk_alloc ?_ _)); refine blk_put (cs := #[.int .i64 0, .string x156001_1, .int .i64 x156002_1, .int .i64 x156003_1]) ?_ 1 _ rfl; (with_reducible repeat (first | refine blk_drewN ?_ _ | refine blk_drew ?_ | refine blk_alloc ?_ _)); refine blk_put (cs := #[.int .i64 x156000_1, .string x156001_1, .int .i64 x156002_1, .int .i64 x156003_1]) ?_ 0 _ rfl; (with_reducible repeat (first | refine blk_drewN ?_ _ | refine blk_drew ?_ | refine blk_alloc ?_ _)); exact BK155.out) Tryd.underlying30 rfl (by kernel_rfl)) rfl ?_
              exact ⟨by first | rfl | (simp [errW_none, errW_some] <;> rfl) | (simp [*, errW_none, errW_some] <;> rfl), by repeat (first | (with_reducible first | exact HB.out | apply below_alloc | apply pw_below_drewN | apply below_drew1 | refine below_set ?_ GE155.out) | exact HB.out)⟩
            · rw [if_neg c9] at H
              have c9b0 : decide (2147483647 < (wrap64 ((wrap64 (x8_1 * 10)) + (((bt a0 x9_1) - 48) % 256)))) = false := decide_eq_false c9
              clear c9
              have H' := Aside0.mk H
              clear H
              have p8 : 0 ≤ (x9_1 : Int) := of_decide_eq_true (by first | (with_reducible assumption) | assumption)
              have q8 : x9_1 < (a0.size : Int) := of_decide_eq_true (by first | (with_reducible assumption) | assumption)
              have hx8 := bt_at a0 x9_1
              replace p8 := eq_true p8
              replace q8 := eq_true q8
              go_wp2
              go_roundg k1
              case measure => have := HK1.out; omega
              case rel => exact ⟨(wrap64 ((wrap64 (x8_1 * 10)) + (((bt a0 x9_1) - 48) % 256))), (wrap64 (x9_1 + 1)), (x156000_1), (x156001_1), (x156002_1), (x156003_1), (by first | rfl | (simp; done) | (simp [*]; done)), (by first | rfl | (simp; done) | (simp [*]; done)), H', ⟨by have := HK1.out; omega⟩, ⟨by (with_reducible repeat (first | refine blk_drewN ?_ _ | refine blk_drew ?_ | refine blk_alloc ?_ _)); exact BK155.out⟩, ⟨by repeat (first | (with_reducible first | exact HB.out | apply below_alloc | apply pw_below_drewN | apply below_drew1 | refine below_set ?_ GE155.out) | exact HB.out)⟩⟩
          · rw [if_neg c7] at H
            exact absurd H (by simp)
        · rw [if_neg c6] at H
          exact absurd H (by simp)
      · rw [if_neg c5] at H
        have c5b0 : decide (x9_1 < t156) = false := decide_eq_false c5
        clear c5
        by_cases c11 : 0 ≤ a1
        · rw [if_pos c11] at H
          have c11b0 := eq_true c11
          have c11b1 : decide (0 ≤ a1) = true := decide_eq_true c11
          clear c11
          by_cases c12 : a1 ≤ t156
          · rw [if_pos c12] at H
            have c12b0 := eq_true c12
            have c12b1 : decide (a1 ≤ t156) = true := decide_eq_true c12
            clear c12
            by_cases c13 : t156 ≤ (a0.size : Int)
            · rw [if_pos c13] at H
              have c13b0 := eq_true c13
              have c13b1 : decide (t156 ≤ (a0.size : Int)) = true := decide_eq_true c13
              clear c13
              simp only [Option.some.injEq, Prod.mk.injEq] at H
              obtain ⟨rfl, rfl, rfl, rfl, rfl, rfl⟩ := H
              have hcz14_0 : wr.cell? ⟨gb155, 0, none⟩ = some (.int .i64 x156000_1) := (blk_cell BK155.out 0).trans rfl
              have hcz14_1 : wr.cell? ⟨gb155, 1, none⟩ = some (.string x156001_1) := (blk_cell BK155.out 1).trans rfl
              have hcz14_2 : wr.cell? ⟨gb155, 2, none⟩ = some (.int .i64 x156002_1) := (blk_cell BK155.out 2).trans rfl
              have hcz14_3 : wr.cell? ⟨gb155, 3, none⟩ = some (.int .i64 x156003_1) := (blk_cell BK155.out 3).trans rfl
              have hfz14_0 := blk_frozen BK155.out 0
              have hfz14_1 := blk_frozen BK155.out 1
              have hfz14_2 := blk_frozen BK155.out 2
              have hfz14_3 := blk_frozen BK155.out 3
              go_wp2
              refine bodyPost_ret (results_ctt rfl _ _ gb155 30 #[.int .i64 3, .string (a0.extract (a1 : Int).toNat (t156 : Int).toNat), .int .i64 x8_1, .int .i64 a1] (0, 0) _ rfl (by (with_reducible repeat (first | refine blk_drewN ?_ _ | refine blk_drew ?_ | refine blk_alloc ?_ _)); refine blk_put (cs := #[.int .i64 3, .string (a0.extract (a1 : Int).toNat (t156 : Int).toNat), .int .i64 x8_1, .int .i64 x156003_1]) ?_ 3 _ rfl; (with_reducible repeat (first | refine blk_drewN ?_ _ | refine blk_drew ?_ | refine blk_alloc ?_ _)); refine blk_put (cs := #[.int .i64 3, .string (a0.extract (a1 : Int).toNat (t156 : Int).toNat), .int .i64 x156002_1, .int .i64 x156003_1]) ?_ 2 _ rfl; (with_reducible repeat (first | refine blk_drewN ?_ _ | refine blk_drew ?_ | refine blk_alloc ?_ _)); refine blk_put (cs := #[.int .i64 3, .string x156001_1, .int .i64 x156002_1, .int .i64 x156003_1]) ?_ 1 _ rfl; (with_reducible repeat (first | refine blk_drewN ?_ _ | refine blk_drew ?_ | refine blk_alloc ?_ _)); refine blk_put (cs := #[.int .i64 x156000_1, .string x156001_1, .int .i64 x156002_1, .int .i64 x156003_1]) ?_ 0 _ rfl; (with_reducible repeat (first | refine blk_drewN ?_ _ | refine blk_drew ?_ | refine blk_alloc ?_ _)); exact BK155.out) Tryd.underlying30 rfl (by kernel_rfl)) rfl ?_
              exact ⟨by first | rfl | (simp [errW_none, errW_some] <;> rfl) | (simp [*, errW_none, errW_some] <;> rfl), by repeat (first | (with_reducible first | exact HB.out | apply below_alloc | apply pw_below_drewN | apply below_drew1 | refine below_set ?_ GE155.out) | exact HB.out)⟩
            · rw [if_neg c13] at H
              exact absurd H (by simp)
          · rw [if_neg c12] at H
            exact absurd H (by simp)
        · rw [if_neg c11] at H
          exact absurd H (by simp)

end Go.Proofs.YtpdlfokfjkmplaaDoor.P
