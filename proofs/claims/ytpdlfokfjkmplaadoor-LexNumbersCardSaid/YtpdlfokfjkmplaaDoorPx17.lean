-- Written by a program of this session (wip/gen) out of the translation. Lean checks it.
import Derived.Test.YtpdlfokfjkmplaaDoorPx0
import Derived.Test.YtpdlfokfjkmplaaDoorPx1
import Derived.Test.YtpdlfokfjkmplaaDoorPx5
import Derived.Test.YtpdlfokfjkmplaaDoorFmt
import Derived.Test.YtpdlfokfjkmplaaDoorLex
import Derived.Test.YtpdlfokfjkmplaaDoorGlob
namespace Go.Proofs.YtpdlfokfjkmplaaDoor.P
open Go.RowKit Go.Proofs.YtpdlfokfjkmplaaDoorW.PrintWords Go.Proofs.YtpdlfokfjkmplaaDoorW.PrintLast Go.Proofs.YtpdlfokfjkmplaaDoorW.PrintMore
attribute [local go_sem] max2_int min2_int max_two min_two max_three min_three max_four min_four   -- for this text's walks alone
set_option linter.unusedVariables false
set_option linter.unusedSimpArgs false

attribute [local go_sem high] eqA30
/-! ### sorrellaw04_LexNumbers: function 10 -/
def sorrellaw04_LexNumbers.l0 : Nat → Int → Int → Bool → ByteArray → Int → Option (Bool)
  | 0, _, _, _, _, _ => none
  | k + 1, x0, x1, x5, x6, x7 => if x7 < (wrap64 (Int.tmod x1 20)) then (if 1 + x6.size ≤ 9223372036854775807 then (sorrellaw04_LexNumbers.l0 k x0 x1 x5 ((⟨#[48]⟩ : ByteArray) ++ x6) (wrap64 (x7 + 1))) else (none)) else (if 1 + x6.size ≤ 9223372036854775807 then (if ((⟨#[32]⟩ : ByteArray) ++ x6).size + 1 ≤ 9223372036854775807 then ((lex_Lex.f (((⟨#[32]⟩ : ByteArray) ++ x6) ++ (⟨#[46]⟩ : ByteArray))).bind fun bt374 => (if x0 > 2147483647 then (if x5 = true then (if bt374.2.2 = 2 then (if bt374.2.1 = 1 then (some ((bt374.1.length : Int) == 0)) else (some false)) else (some false)) else (some false)) else (if x5 = true then (if bt374.2.2 = 0 then (if (bt374.1.length : Int) = 2 then (if 0 < (bt374.1.length : Int) then (if (((rd_T30 bt374.1 0).f0) == 3 && ((((rd_T30 bt374.1 0).f1).toList) == x6.toList && (((rd_T30 bt374.1 0).f2) == (wrap64 (x0)) && (((rd_T30 bt374.1 0).f3) == 1)))) = true then (if 1 < (bt374.1.length : Int) then (some (((rd_T30 bt374.1 1).f0) == 6)) else (none)) else (some false)) else (none)) else (some false)) else (some false)) else (some false)))) else (none)) else (none))
def sorrellaw04_LexNumbers.f (k : Nat) (a0 : Int) (a1 : Int) : Option (Bool) := (sorrellaw04_head.f k).bind fun t372 => ((strconv_FormatUint.f a0 10).bind fun t373 => (sorrellaw04_LexNumbers.l0 k a0 a1 t372 t373 0))
theorem sorrellaw04_LexNumbers.mono_l : ∀ k, (∀ y0 y1 y2 y3 y4, LeO (sorrellaw04_LexNumbers.l0 k y0 y1 y2 y3 y4) (sorrellaw04_LexNumbers.l0 (k + 1) y0 y1 y2 y3 y4))
  | 0 => fun _ _ _ _ _ r h => by simp [sorrellaw04_LexNumbers.l0] at h
  | k + 1 => by
    have ih0 := sorrellaw04_LexNumbers.mono_l k
    · intro y0 y1 y2 y3 y4
      unfold sorrellaw04_LexNumbers.l0
      repeat' first
      | (with_reducible exact ih0 _ _ _ _ _)
      | (with_reducible exact sorrellaw04_head.mono _)
      | (with_reducible exact LeO.refl _)
      | (with_reducible exact LeO.none _)
      | (with_reducible refine LeO.ite ?_ ?_)
      | (with_reducible refine LeO.bind ?_ (fun _ => ?_))
      | exact ih0 _ _ _ _ _
      | exact sorrellaw04_head.mono _
      | exact LeO.none _
      | refine LeO.ite ?_ ?_
      | refine LeO.bind ?_ (fun _ => ?_)
theorem sorrellaw04_LexNumbers.mono : ∀ a0 a1 k, LeO (sorrellaw04_LexNumbers.f k a0 a1) (sorrellaw04_LexNumbers.f (k + 1) a0 a1) := by
  intro a0 a1 k
  have ih0 := sorrellaw04_LexNumbers.mono_l k
  unfold sorrellaw04_LexNumbers.f
  repeat' first
      | (with_reducible exact ih0 _ _ _ _ _)
      | (with_reducible exact sorrellaw04_head.mono _)
      | (with_reducible exact LeO.refl _)
      | (with_reducible exact LeO.none _)
      | (with_reducible refine LeO.ite ?_ ?_)
      | (with_reducible refine LeO.bind ?_ (fun _ => ?_))
      | exact ih0 _ _ _ _ _
      | exact sorrellaw04_head.mono _
      | exact LeO.none _
      | refine LeO.ite ?_ ?_
      | refine LeO.bind ?_ (fun _ => ?_)
set_option maxHeartbeats 8000000 in
set_option maxRecDepth 100000 in
theorem sorrellaw04_LexNumbers.calls (k : Nat) (a0 : Int) (a1 : Int) (r : Bool) (w : World) (h : sorrellaw04_LexNumbers.f k a0 a1 = some r) (hG : Aside0 (GW w)) :
    Calls Tryd.prog 10 #[.int .u64 a0, .int .u8 a1] w fun e w' => e = .returned (.bool r) ∧ Below w.heap.size w w' := by
  have hu30 := Tryd.underlying30
  have HB := Aside0.mk (Below.refl w.heap.size w)
  have H : ((sorrellaw04_head.f k).bind fun t372 => ((strconv_FormatUint.f a0 10).bind fun t373 => (sorrellaw04_LexNumbers.l0 k a0 a1 t372 t373 0))) = some r := h
  clear h
  replace H := Option.bind_eq_some_iff.mp H
  obtain ⟨t372, A30, H⟩ := H
  replace H : ((strconv_FormatUint.f a0 10).bind fun t373 => (sorrellaw04_LexNumbers.l0 k a0 a1 t372 t373 0)) = some r := H
  have A3 := Aside0.mk A30
  clear A30
  replace H := Option.bind_eq_some_iff.mp H
  obtain ⟨t373, A40, H⟩ := H
  replace H : (sorrellaw04_LexNumbers.l0 k a0 a1 t372 t373 0) = some r := H
  have A4 := Aside0.mk A40
  clear A40
  have H' := Aside0.mk H
  clear H
  go_enter Tryd.func10, Tryd.ntmps10
  go_wp2_with (first | ((with_reducible refine gate_callee (f := 11) rfl ?_); refine goesL_ (some 11) rfl rfl Tryd.func11 (by kernel_rfl) rfl #[] rfl (by (try simp only [List.map_toArray, List.map_cons, List.map_nil]); first | done | rfl | (simp only [List.length_drop, List.length_take]; rfl)) ?_; (with_reducible refine (sorrellaw04_head.calls k  t372 _ A3.out ?side1).mono ?_); (case side1 => exact GW.belowA hG (by repeat (first | (with_reducible first | exact HB.out | apply below_alloc | apply pw_below_drewN | apply below_drew1) | exact HB.out))); rintro e w5 ⟨rfl, hb⟩; refine ⟨_, rfl, ?_⟩; have n0_ := Aside0.mk (below_step (by repeat (first | (with_reducible first | exact HB.out | apply below_alloc | apply pw_below_drewN | apply below_drew1) | exact HB.out)) hb); clear HB; have HB := n0_; clear n0_; (try clear hb); (try clear hb2); (try clear hk); (try clear hi)) | ((with_reducible refine gate_callee (f := 24) rfl ?_); refine goesL_ (some 13) rfl rfl Tryd.func24 (by kernel_rfl) rfl #[.int .u64 a0, .int .i64 10] rfl (by (try simp only [List.map_toArray, List.map_cons, List.map_nil]); first | done | rfl | (simp only [List.length_drop, List.length_take]; rfl)) ?_; (with_reducible refine (strconv_FormatUint.calls a0 10 t373 _ A4.out ?side1).mono ?_); (case side1 => exact GW.belowA hG (by repeat (first | (with_reducible first | exact HB.out | apply below_alloc | apply pw_below_drewN | apply below_drew1) | exact HB.out))); rintro e w6 ⟨rfl, hb⟩; refine ⟨_, rfl, ?_⟩; have n0_ := Aside0.mk (below_step (by repeat (first | (with_reducible first | exact HB.out | apply below_alloc | apply pw_below_drewN | apply below_drew1) | exact HB.out)) hb); clear HB; have HB := n0_; clear n0_; (try clear hb); (try clear hb2); (try clear hk); (try clear hi)))
  go_loopg [6, 7] k (fun kq v6 v7 w' => ∃ (x6_1 : ByteArray) (x7_1 : Int), v6 = .string x6_1 ∧ v7 = .int .i64 x7_1 ∧ Aside0 (sorrellaw04_LexNumbers.l0 kq a0 a1 t372 x6_1 x7_1 = some r) ∧ Aside0 (kq ≤ k) ∧ Aside0 (Below w.heap.size w w'))
  case atStart => exact ⟨(t373), (0), (by first | rfl | (simp; done) | (simp [*]; done)), (by first | rfl | (simp; done) | (simp [*]; done)), H', ⟨Nat.le_refl _⟩, ⟨by repeat (first | (with_reducible first | exact HB.out | apply below_alloc | apply pw_below_drewN | apply below_drew1) | exact HB.out)⟩⟩
  case round =>
    clear H'
    try clear c1
    try clear c2
    try clear p2
    obtain ⟨x6_1, x7_1, rfl, rfl, HA, HK1, HB⟩ := hrel
    cases gk with
    | zero => exact absurd HA.out (by simp [sorrellaw04_LexNumbers.l0])
    | succ k1 =>
      have H := HA.out
      clear HA
      simp only [sorrellaw04_LexNumbers.l0] at H
      by_cases c7 : x7_1 < (wrap64 (Int.tmod a1 20))
      · rw [if_pos c7] at H
        have c7b0 : decide (x7_1 < (wrap64 (Int.tmod a1 20))) = true := decide_eq_true c7
        clear c7
        by_cases c8 : 1 + x6_1.size ≤ 9223372036854775807
        · rw [if_pos c8] at H
          have c8b0 := eq_true c8
          have c8b1 : decide (1 + x6_1.size ≤ 9223372036854775807) = true := decide_eq_true c8
          try have c8b2 : (9223372036854775807 < 1 + x6_1.size) = False := eq_false (Nat.not_lt.2 c8)
          have H' := Aside0.mk H
          clear H
          go_wp2
          go_roundg k1
          case measure => have := HK1.out; omega
          case rel => exact ⟨((⟨#[48]⟩ : ByteArray) ++ x6_1), (wrap64 (x7_1 + 1)), (by first | rfl | (simp; done) | (simp [*]; done)), (by first | rfl | (simp; done) | (simp [*]; done)), H', ⟨by have := HK1.out; omega⟩, ⟨by repeat (first | (with_reducible first | exact HB.out | apply below_alloc | apply pw_below_drewN | apply below_drew1) | exact HB.out)⟩⟩
        · rw [if_neg c8] at H
          exact absurd H (by simp)
      · rw [if_neg c7] at H
        have c7b0 : decide (x7_1 < (wrap64 (Int.tmod a1 20))) = false := decide_eq_false c7
        clear c7
        by_cases c9 : 1 + x6_1.size ≤ 9223372036854775807
        · rw [if_pos c9] at H
          have c9b0 := eq_true c9
          have c9b1 : decide (1 + x6_1.size ≤ 9223372036854775807) = true := decide_eq_true c9
          try have c9b2 : (9223372036854775807 < 1 + x6_1.size) = False := eq_false (Nat.not_lt.2 c9)
          by_cases c10 : ((⟨#[32]⟩ : ByteArray) ++ x6_1).size + 1 ≤ 9223372036854775807
          · rw [if_pos c10] at H
            have c10b0 := eq_true c10
            have c10b1 : decide (((⟨#[32]⟩ : ByteArray) ++ x6_1).size + 1 ≤ 9223372036854775807) = true := decide_eq_true c10
            try have c10b2 : (9223372036854775807 < ((⟨#[32]⟩ : ByteArray) ++ x6_1).size + 1) = False := eq_false (Nat.not_lt.2 c10)
            try have c10b4 : (9223372036854775807 < 1 + x6_1.size + 1) = False := eq_false (Nat.not_lt.2 (by have h := c10; (repeat rw [ByteArray.size_append] at h); exact h))
            replace H := Option.bind_eq_some_iff.mp H
            obtain ⟨⟨t374, t375, t376⟩, A110, H⟩ := H
            replace H : (if a0 > 2147483647 then (if t372 = true then (if t376 = 2 then (if t375 = 1 then (some ((t374.length : Int) == 0)) else (some false)) else (some false)) else (some false)) else (if t372 = true then (if t376 = 0 then (if (t374.length : Int) = 2 then (if 0 < (t374.length : Int) then (if (((rd_T30 t374 0).f0) == 3 && ((((rd_T30 t374 0).f1).toList) == x6_1.toList && (((rd_T30 t374 0).f2) == (wrap64 (a0)) && (((rd_T30 t374 0).f3) == 1)))) = true then (if 1 < (t374.length : Int) then (some (((rd_T30 t374 1).f0) == 6)) else (none)) else (some false)) else (none)) else (some false)) else (some false)) else (some false))) = some r := H
            have A11 := Aside0.mk A110
            clear A110
            by_cases c12 : a0 > 2147483647
            · rw [if_pos c12] at H
              have c12b0 : decide (2147483647 < a0) = true := decide_eq_true c12
              clear c12
              by_cases c13 : t372 = true
              · subst c13
                have H1 : (if t376 = 2 then (if t375 = 1 then (some ((t374.length : Int) == 0)) else (some false)) else (some false)) = some r := by rw [if_pos rfl] at H; exact H
                clear H
                have H := H1
                clear H1
                by_cases c14 : t376 = 2
                · rw [if_pos c14] at H
                  have c14b0 : (t376 == 2) = true := beq_iff_eq.mpr c14
                  have c14b1 : (t376 != 2) = false := bne_eq_false_iff_eq.mpr c14
                  clear c14
                  by_cases c15 : t375 = 1
                  · rw [if_pos c15] at H
                    have c15b0 : (t375 == 1) = true := beq_iff_eq.mpr c15
                    have c15b1 : (t375 != 1) = false := bne_eq_false_iff_eq.mpr c15
                    clear c15
                    obtain rfl := Option.some.inj H
                    go_wp2_with (first | ((with_reducible refine gate_callee (f := 12) rfl ?_); refine goesL_ (some 27) rfl rfl Tryd.func12 (by kernel_rfl) rfl #[.string (((⟨#[32]⟩ : ByteArray) ++ x6_1) ++ (⟨#[46]⟩ : ByteArray))] rfl (by (try simp only [List.map_toArray, List.map_cons, List.map_nil]); first | done | rfl | (simp only [List.length_drop, List.length_take]; rfl)) ?_; (with_reducible refine (lex_Lex.calls (((⟨#[32]⟩ : ByteArray) ++ x6_1) ++ (⟨#[46]⟩ : ByteArray)) t374 t375 t376 _ A11.out ?side1).mono ?_); (case side1 => exact GW.belowA hG (by repeat (first | (with_reducible first | exact HB.out | apply below_alloc | apply pw_below_drewN | apply below_drew1) | exact HB.out))); rintro e w16 ⟨v377, rfl, ho0, hb⟩; refine ⟨_, rfl, ?_⟩; have n0_ := Aside0.mk (Kd.R_lower ho0 (below_size (by repeat (first | (with_reducible first | exact HB.out | apply below_alloc | apply pw_below_drewN | apply below_drew1) | exact HB.out)))); have n1_ := Aside0.mk (below_step (by repeat (first | (with_reducible first | exact HB.out | apply below_alloc | apply pw_below_drewN | apply below_drew1) | exact HB.out)) hb); clear HB; have HO378 := n0_; have HB := n1_; clear n0_ n1_; (try clear hb); (try clear hb2); (try clear hk); (try clear hi); (try clear ho0); obtain ⟨Ao17, co17, eo17⟩ := Kd.R_slice HO378.out; subst eo17))
                    go_ret
                    exact ⟨by first | rfl | (simp [errW_none, errW_some] <;> rfl) | (simp [*, errW_none, errW_some] <;> rfl), by repeat (first | (with_reducible first | exact HB.out | apply below_alloc | apply pw_below_drewN | apply below_drew1) | exact HB.out)⟩
                  · rw [if_neg c15] at H
                    have c15b0 : (t375 == 1) = false := beq_eq_false_iff_ne.mpr c15
                    have c15b1 : (t375 != 1) = true := bne_iff_ne.mpr c15
                    obtain rfl := Option.some.inj H
                    go_wp2_with (first | ((with_reducible refine gate_callee (f := 12) rfl ?_); refine goesL_ (some 27) rfl rfl Tryd.func12 (by kernel_rfl) rfl #[.string (((⟨#[32]⟩ : ByteArray) ++ x6_1) ++ (⟨#[46]⟩ : ByteArray))] rfl (by (try simp only [List.map_toArray, List.map_cons, List.map_nil]); first | done | rfl | (simp only [List.length_drop, List.length_take]; rfl)) ?_; (with_reducible refine (lex_Lex.calls (((⟨#[32]⟩ : ByteArray) ++ x6_1) ++ (⟨#[46]⟩ : ByteArray)) t374 t375 t376 _ A11.out ?side1).mono ?_); (case side1 => exact GW.belowA hG (by repeat (first | (with_reducible first | exact HB.out | apply below_alloc | apply pw_below_drewN | apply below_drew1) | exact HB.out))); rintro e w18 ⟨v377, rfl, ho0, hb⟩; refine ⟨_, rfl, ?_⟩; have n0_ := Aside0.mk (Kd.R_lower ho0 (below_size (by repeat (first | (with_reducible first | exact HB.out | apply below_alloc | apply pw_below_drewN | apply below_drew1) | exact HB.out)))); have n1_ := Aside0.mk (below_step (by repeat (first | (with_reducible first | exact HB.out | apply below_alloc | apply pw_below_drewN | apply below_drew1) | exact HB.out)) hb); clear HB; have HO378 := n0_; have HB := n1_; clear n0_ n1_; (try clear hb); (try clear hb2); (try clear hk); (try clear hi); (try clear ho0)))
                    go_ret
                    exact ⟨by first | rfl | (simp [errW_none, errW_some] <;> rfl) | (simp [*, errW_none, errW_some] <;> rfl), by repeat (first | (with_reducible first | exact HB.out | apply below_alloc | apply pw_below_drewN | apply below_drew1) | exact HB.out)⟩
                · rw [if_neg c14] at H
                  have c14b0 : (t376 == 2) = false := beq_eq_false_iff_ne.mpr c14
                  have c14b1 : (t376 != 2) = true := bne_iff_ne.mpr c14
                  obtain rfl := Option.some.inj H
                  go_wp2_with (first | ((with_reducible refine gate_callee (f := 12) rfl ?_); refine goesL_ (some 27) rfl rfl Tryd.func12 (by kernel_rfl) rfl #[.string (((⟨#[32]⟩ : ByteArray) ++ x6_1) ++ (⟨#[46]⟩ : ByteArray))] rfl (by (try simp only [List.map_toArray, List.map_cons, List.map_nil]); first | done | rfl | (simp only [List.length_drop, List.length_take]; rfl)) ?_; (with_reducible refine (lex_Lex.calls (((⟨#[32]⟩ : ByteArray) ++ x6_1) ++ (⟨#[46]⟩ : ByteArray)) t374 t375 t376 _ A11.out ?side1).mono ?_); (case side1 => exact GW.belowA hG (by repeat (first | (with_reducible first | exact HB.out | apply below_alloc | apply pw_below_drewN | apply below_drew1) | exact HB.out))); rintro e w19 ⟨v377, rfl, ho0, hb⟩; refine ⟨_, rfl, ?_⟩; have n0_ := Aside0.mk (Kd.R_lower ho0 (below_size (by repeat (first | (with_reducible first | exact HB.out | apply below_alloc | apply pw_below_drewN | apply below_drew1) | exact HB.out)))); have n1_ := Aside0.mk (below_step (by repeat (first | (with_reducible first | exact HB.out | apply below_alloc | apply pw_below_drewN | apply below_drew1) | exact HB.out)) hb); clear HB; have HO378 := n0_; have HB := n1_; clear n0_ n1_; (try clear hb); (try clear hb2); (try clear hk); (try clear hi); (try clear ho0)))
                  go_ret
                  exact ⟨by first | rfl | (simp [errW_none, errW_some] <;> rfl) | (simp [*, errW_none, errW_some] <;> rfl), by repeat (first | (with_reducible first | exact HB.out | apply below_alloc | apply pw_below_drewN | apply below_drew1) | exact HB.out)⟩
              · replace c13 := Bool.eq_false_iff.mpr c13
                subst c13
                have H1 : (some false) = some r := by rw [if_neg (show ¬ (false = true) by decide)] at H; exact H
                clear H
                have H := H1
                clear H1
                obtain rfl := Option.some.inj H
                go_wp2_with (first | ((with_reducible refine gate_callee (f := 12) rfl ?_); refine goesL_ (some 27) rfl rfl Tryd.func12 (by kernel_rfl) rfl #[.string (((⟨#[32]⟩ : ByteArray) ++ x6_1) ++ (⟨#[46]⟩ : ByteArray))] rfl (by (try simp only [List.map_toArray, List.map_cons, List.map_nil]); first | done | rfl | (simp only [List.length_drop, List.length_take]; rfl)) ?_; (with_reducible refine (lex_Lex.calls (((⟨#[32]⟩ : ByteArray) ++ x6_1) ++ (⟨#[46]⟩ : ByteArray)) t374 t375 t376 _ A11.out ?side1).mono ?_); (case side1 => exact GW.belowA hG (by repeat (first | (with_reducible first | exact HB.out | apply below_alloc | apply pw_below_drewN | apply below_drew1) | exact HB.out))); rintro e w20 ⟨v377, rfl, ho0, hb⟩; refine ⟨_, rfl, ?_⟩; have n0_ := Aside0.mk (Kd.R_lower ho0 (below_size (by repeat (first | (with_reducible first | exact HB.out | apply below_alloc | apply pw_below_drewN | apply below_drew1) | exact HB.out)))); have n1_ := Aside0.mk (below_step (by repeat (first | (with_reducible first | exact HB.out | apply below_alloc | apply pw_below_drewN | apply below_drew1) | exact HB.out)) hb); clear HB; have HO378 := n0_; have HB := n1_; clear n0_ n1_; (try clear hb); (try clear hb2); (try clear hk); (try clear hi); (try clear ho0)))
                go_ret
                exact ⟨by first | rfl | (simp [errW_none, errW_some] <;> rfl) | (simp [*, errW_none, errW_some] <;> rfl), by repeat (first | (with_reducible first | exact HB.out | apply below_alloc | apply pw_below_drewN | apply below_drew1) | exact HB.out)⟩
            · rw [if_neg c12] at H
              have c12b0 : decide (2147483647 < a0) = false := decide_eq_false c12
              clear c12
              by_cases c21 : t372 = true
              · subst c21
                have H1 : (if t376 = 0 then (if (t374.length : Int) = 2 then (if 0 < (t374.length : Int) then (if (((rd_T30 t374 0).f0) == 3 && ((((rd_T30 t374 0).f1).toList) == x6_1.toList && (((rd_T30 t374 0).f2) == (wrap64 (a0)) && (((rd_T30 t374 0).f3) == 1)))) = true then (if 1 < (t374.length : Int) then (some (((rd_T30 t374 1).f0) == 6)) else (none)) else (some false)) else (none)) else (some false)) else (some false)) = some r := by rw [if_pos rfl] at H; exact H
                clear H
                have H := H1
                clear H1
                by_cases c22 : t376 = 0
                · rw [if_pos c22] at H
                  have c22b0 : (t376 == 0) = true := beq_iff_eq.mpr c22
                  have c22b1 : (t376 != 0) = false := bne_eq_false_iff_eq.mpr c22
                  clear c22
                  by_cases c23 : (t374.length : Int) = 2
                  · rw [if_pos c23] at H
                    have c23b0 : ((t374.length : Int) == 2) = true := beq_iff_eq.mpr c23
                    have c23b1 : ((t374.length : Int) != 2) = false := bne_eq_false_iff_eq.mpr c23
                    clear c23
                    by_cases c24 : 0 < (t374.length : Int)
                    · rw [if_pos c24] at H
                      have c24b0 : decide (0 < (t374.length : Int)) = true := decide_eq_true c24
                      have c24b1 : decide (0 < t374.length) = true := decide_eq_true (by omega)
                      clear c24
                      by_cases c25 : (((rd_T30 t374 0).f0) == 3 && ((((rd_T30 t374 0).f1).toList) == x6_1.toList && (((rd_T30 t374 0).f2) == (wrap64 (a0)) && (((rd_T30 t374 0).f3) == 1)))) = true
                      · rw [if_pos c25] at H
                        have c25b0 : (((rd_T30 t374 0).f0) == 3 && ((((rd_T30 t374 0).f1).toList) == x6_1.toList && (((rd_T30 t374 0).f2) == (wrap64 (a0)) && (((rd_T30 t374 0).f3) == 1)))) = true := c25
                        (try (have c25b1 : decide (((rd_T30 t374 0).f0) = 3 && ((((rd_T30 t374 0).f1).toList) == x6_1.toList && (((rd_T30 t374 0).f2) == (wrap64 (a0)) && (((rd_T30 t374 0).f3) == 1)))) = true := by simpa using c25))
                        (try (have c25b2 : (((rd_T30 t374 0).f0) == 3 && ((((rd_T30 t374 0).f1).toList) == x6_1.toList && (((rd_T30 t374 0).f2) == (wrap64 (a0)) && (((rd_T30 t374 0).f3) == 1)))) = true := by simpa using c25))
                        clear c25
                        by_cases c26 : 1 < (t374.length : Int)
                        · rw [if_pos c26] at H
                          have c26b0 : decide (1 < (t374.length : Int)) = true := decide_eq_true c26
                          have c26b1 : decide (1 < t374.length) = true := decide_eq_true (by omega)
                          clear c26
                          obtain rfl := Option.some.inj H
                          go_wp2_with (first | ((with_reducible refine gate_callee (f := 12) rfl ?_); refine goesL_ (some 27) rfl rfl Tryd.func12 (by kernel_rfl) rfl #[.string (((⟨#[32]⟩ : ByteArray) ++ x6_1) ++ (⟨#[46]⟩ : ByteArray))] rfl (by (try simp only [List.map_toArray, List.map_cons, List.map_nil]); first | done | rfl | (simp only [List.length_drop, List.length_take]; rfl)) ?_; (with_reducible refine (lex_Lex.calls (((⟨#[32]⟩ : ByteArray) ++ x6_1) ++ (⟨#[46]⟩ : ByteArray)) t374 t375 t376 _ A11.out ?side1).mono ?_); (case side1 => exact GW.belowA hG (by repeat (first | (with_reducible first | exact HB.out | apply below_alloc | apply pw_below_drewN | apply below_drew1) | exact HB.out))); rintro e w27 ⟨v377, rfl, ho0, hb⟩; refine ⟨_, rfl, ?_⟩; have n0_ := Aside0.mk (Kd.R_lower ho0 (below_size (by repeat (first | (with_reducible first | exact HB.out | apply below_alloc | apply pw_below_drewN | apply below_drew1) | exact HB.out)))); have n1_ := Aside0.mk (below_step (by repeat (first | (with_reducible first | exact HB.out | apply below_alloc | apply pw_below_drewN | apply below_drew1) | exact HB.out)) hb); clear HB; have HO378 := n0_; have HB := n1_; clear n0_ n1_; (try clear hb); (try clear hb2); (try clear hk); (try clear hi); (try clear ho0); obtain ⟨Ao28, co28, eo28⟩ := Kd.R_slice HO378.out; subst eo28; have p379 : 0 ≤ (0 : Int) := (by omega); have q379 : 0 < (t374.length : Int) := of_decide_eq_true (by first | (with_reducible assumption) | assumption); obtain ⟨ad379, e379, hx379_0, hx379_1, hx379_2, hx379_3⟩ := at_T30 (Kd.R_reads' HO378.out).2.2 0 p379 q379; cases e379; have qi379 : (0 < t374.length) = True := eq_true (by omega); (try rw [show ((0 : Int)).toNat = 0 from rfl] at hx379_0); (try rw [show 0 * 4 = 0 from rfl] at hx379_0); (try rw [Addr.add_zero'] at hx379_0); (try rw [show ((0 : Int)).toNat = 0 from rfl] at hx379_1); (try rw [show 0 * 4 = 0 from rfl] at hx379_1); (try rw [Addr.add_zero'] at hx379_1); (try rw [show ((0 : Int)).toNat = 0 from rfl] at hx379_2); (try rw [show 0 * 4 = 0 from rfl] at hx379_2); (try rw [Addr.add_zero'] at hx379_2); (try rw [show ((0 : Int)).toNat = 0 from rfl] at hx379_3); (try rw [show 0 * 4 = 0 from rfl] at hx379_3); (try rw [Addr.add_zero'] at hx379_3); replace p379 := eq_true p379; replace q379 := eq_true q379; have p380 : 0 ≤ (1 : Int) := (by omega); have q380 : 1 < (t374.length : Int) := of_decide_eq_true (by first | (with_reducible assumption) | assumption); obtain ⟨ad380, e380, hx380_0, hx380_1, hx380_2, hx380_3⟩ := at_T30 (Kd.R_reads' HO378.out).2.2 1 p380 q380; obtain rfl : ad379 = ad380 := (by injection e380); (try simp only [show (1 : Int).toNat = 1 from rfl, Nat.reduceMul, Nat.reduceEqDiff, Go.Addr.add, ↓reduceIte] at hx380_0); (try simp only [show (1 : Int).toNat = 1 from rfl, Nat.reduceMul, Nat.reduceEqDiff, Go.Addr.add, ↓reduceIte] at hx380_1); (try simp only [show (1 : Int).toNat = 1 from rfl, Nat.reduceMul, Nat.reduceEqDiff, Go.Addr.add, ↓reduceIte] at hx380_2); (try simp only [show (1 : Int).toNat = 1 from rfl, Nat.reduceMul, Nat.reduceEqDiff, Go.Addr.add, ↓reduceIte] at hx380_3); have qi380 : (1 < t374.length) = True := eq_true (by omega); (try rw [show ((1 : Int)).toNat = 1 from rfl] at hx380_0); (try rw [show 1 * 4 = 4 from rfl] at hx380_0); (try rw [show ((1 : Int)).toNat = 1 from rfl] at hx380_1); (try rw [show 1 * 4 = 4 from rfl] at hx380_1); (try rw [show ((1 : Int)).toNat = 1 from rfl] at hx380_2); (try rw [show 1 * 4 = 4 from rfl] at hx380_2); (try rw [show ((1 : Int)).toNat = 1 from rfl] at hx380_3); (try rw [show 1 * 4 = 4 from rfl] at hx380_3); replace p380 := eq_true p380; replace q380 := eq_true q380))
                          go_ret
                          exact ⟨by first | rfl | (simp [errW_none, errW_some] <;> rfl) | (simp [*, errW_none, errW_some] <;> rfl), by repeat (first | (with_reducible first | exact HB.out | apply below_alloc | apply pw_below_drewN | apply below_drew1) | exact HB.out)⟩
                        · rw [if_neg c26] at H
                          exact absurd H (by simp)
                      · rw [if_neg c25] at H
                        have c25b0 : (((rd_T30 t374 0).f0) == 3 && ((((rd_T30 t374 0).f1).toList) == x6_1.toList && (((rd_T30 t374 0).f2) == (wrap64 (a0)) && (((rd_T30 t374 0).f3) == 1)))) = false := by simpa using c25
                        (try (have c25b1 : decide (((rd_T30 t374 0).f0) = 3 && ((((rd_T30 t374 0).f1).toList) == x6_1.toList && (((rd_T30 t374 0).f2) == (wrap64 (a0)) && (((rd_T30 t374 0).f3) == 1)))) = false := by simpa using c25))
                        (try (have c25b2 : (((rd_T30 t374 0).f0) == 3 && ((((rd_T30 t374 0).f1).toList) == x6_1.toList && (((rd_T30 t374 0).f2) == (wrap64 (a0)) && (((rd_T30 t374 0).f3) == 1)))) = false := by simpa using c25))
                        (try (have c25b3 : ¬ (((rd_T30 t374 0).f0) = 3 && ((((rd_T30 t374 0).f1).toList) == x6_1.toList && (((rd_T30 t374 0).f2) == (wrap64 (a0)) && (((rd_T30 t374 0).f3) == 1)))) := by simpa using c25))
                        clear c25
                        obtain rfl := Option.some.inj H
                        go_wp2_with (first | ((with_reducible refine gate_callee (f := 12) rfl ?_); refine goesL_ (some 27) rfl rfl Tryd.func12 (by kernel_rfl) rfl #[.string (((⟨#[32]⟩ : ByteArray) ++ x6_1) ++ (⟨#[46]⟩ : ByteArray))] rfl (by (try simp only [List.map_toArray, List.map_cons, List.map_nil]); first | done | rfl | (simp only [List.length_drop, List.length_take]; rfl)) ?_; (with_reducible refine (lex_Lex.calls (((⟨#[32]⟩ : ByteArray) ++ x6_1) ++ (⟨#[46]⟩ : ByteArray)) t374 t375 t376 _ A11.out ?side1).mono ?_); (case side1 => exact GW.belowA hG (by repeat (first | (with_reducible first | exact HB.out | apply below_alloc | apply pw_below_drewN | apply below_drew1) | exact HB.out))); rintro e w29 ⟨v377, rfl, ho0, hb⟩; refine ⟨_, rfl, ?_⟩; have n0_ := Aside0.mk (Kd.R_lower ho0 (below_size (by repeat (first | (with_reducible first | exact HB.out | apply below_alloc | apply pw_below_drewN | apply below_drew1) | exact HB.out)))); have n1_ := Aside0.mk (below_step (by repeat (first | (with_reducible first | exact HB.out | apply below_alloc | apply pw_below_drewN | apply below_drew1) | exact HB.out)) hb); clear HB; have HO378 := n0_; have HB := n1_; clear n0_ n1_; (try clear hb); (try clear hb2); (try clear hk); (try clear hi); (try clear ho0); obtain ⟨Ao30, co30, eo30⟩ := Kd.R_slice HO378.out; subst eo30; have p379 : 0 ≤ (0 : Int) := (by omega); have q379 : 0 < (t374.length : Int) := of_decide_eq_true (by first | (with_reducible assumption) | assumption); obtain ⟨ad379, e379, hx379_0, hx379_1, hx379_2, hx379_3⟩ := at_T30 (Kd.R_reads' HO378.out).2.2 0 p379 q379; cases e379; have qi379 : (0 < t374.length) = True := eq_true (by omega); (try rw [show ((0 : Int)).toNat = 0 from rfl] at hx379_0); (try rw [show 0 * 4 = 0 from rfl] at hx379_0); (try rw [Addr.add_zero'] at hx379_0); (try rw [show ((0 : Int)).toNat = 0 from rfl] at hx379_1); (try rw [show 0 * 4 = 0 from rfl] at hx379_1); (try rw [Addr.add_zero'] at hx379_1); (try rw [show ((0 : Int)).toNat = 0 from rfl] at hx379_2); (try rw [show 0 * 4 = 0 from rfl] at hx379_2); (try rw [Addr.add_zero'] at hx379_2); (try rw [show ((0 : Int)).toNat = 0 from rfl] at hx379_3); (try rw [show 0 * 4 = 0 from rfl] at hx379_3); (try rw [Addr.add_zero'] at hx379_3); replace p379 := eq_true p379; replace q379 := eq_true q379))
                        go_ret
                        exact ⟨by first | rfl | (simp [errW_none, errW_some] <;> rfl) | (simp [*, errW_none, errW_some] <;> rfl), by repeat (first | (with_reducible first | exact HB.out | apply below_alloc | apply pw_below_drewN | apply below_drew1) | exact HB.out)⟩
                    · rw [if_neg c24] at H
                      exact absurd H (by simp)
                  · rw [if_neg c23] at H
                    have c23b0 : ((t374.length : Int) == 2) = false := beq_eq_false_iff_ne.mpr c23
                    have c23b1 : ((t374.length : Int) != 2) = true := bne_iff_ne.mpr c23
                    obtain rfl := Option.some.inj H
                    go_wp2_with (first | ((with_reducible refine gate_callee (f := 12) rfl ?_); refine goesL_ (some 27) rfl rfl Tryd.func12 (by kernel_rfl) rfl #[.string (((⟨#[32]⟩ : ByteArray) ++ x6_1) ++ (⟨#[46]⟩ : ByteArray))] rfl (by (try simp only [List.map_toArray, List.map_cons, List.map_nil]); first | done | rfl | (simp only [List.length_drop, List.length_take]; rfl)) ?_; (with_reducible refine (lex_Lex.calls (((⟨#[32]⟩ : ByteArray) ++ x6_1) ++ (⟨#[46]⟩ : ByteArray)) t374 t375 t376 _ A11.out ?side1).mono ?_); (case side1 => exact GW.belowA hG (by repeat (first | (with_reducible first | exact HB.out | apply below_alloc | apply pw_below_drewN | apply below_drew1) | exact HB.out))); rintro e w31 ⟨v377, rfl, ho0, hb⟩; refine ⟨_, rfl, ?_⟩; have n0_ := Aside0.mk (Kd.R_lower ho0 (below_size (by repeat (first | (with_reducible first | exact HB.out | apply below_alloc | apply pw_below_drewN | apply below_drew1) | exact HB.out)))); have n1_ := Aside0.mk (below_step (by repeat (first | (with_reducible first | exact HB.out | apply below_alloc | apply pw_below_drewN | apply below_drew1) | exact HB.out)) hb); clear HB; have HO378 := n0_; have HB := n1_; clear n0_ n1_; (try clear hb); (try clear hb2); (try clear hk); (try clear hi); (try clear ho0); obtain ⟨Ao32, co32, eo32⟩ := Kd.R_slice HO378.out; subst eo32))
                    go_ret
                    exact ⟨by first | rfl | (simp [errW_none, errW_some] <;> rfl) | (simp [*, errW_none, errW_some] <;> rfl), by repeat (first | (with_reducible first | exact HB.out | apply below_alloc | apply pw_below_drewN | apply below_drew1) | exact HB.out)⟩
                · rw [if_neg c22] at H
                  have c22b0 : (t376 == 0) = false := beq_eq_false_iff_ne.mpr c22
                  have c22b1 : (t376 != 0) = true := bne_iff_ne.mpr c22
                  obtain rfl := Option.some.inj H
                  go_wp2_with (first | ((with_reducible refine gate_callee (f := 12) rfl ?_); refine goesL_ (some 27) rfl rfl Tryd.func12 (by kernel_rfl) rfl #[.string (((⟨#[32]⟩ : ByteArray) ++ x6_1) ++ (⟨#[46]⟩ : ByteArray))] rfl (by (try simp only [List.map_toArray, List.map_cons, List.map_nil]); first | done | rfl | (simp only [List.length_drop, List.length_take]; rfl)) ?_; (with_reducible refine (lex_Lex.calls (((⟨#[32]⟩ : ByteArray) ++ x6_1) ++ (⟨#[46]⟩ : ByteArray)) t374 t375 t376 _ A11.out ?side1).mono ?_); (case side1 => exact GW.belowA hG (by repeat (first | (with_reducible first | exact HB.out | apply below_alloc | apply pw_below_drewN | apply below_drew1) | exact HB.out))); rintro e w33 ⟨v377, rfl, ho0, hb⟩; refine ⟨_, rfl, ?_⟩; have n0_ := Aside0.mk (Kd.R_lower ho0 (below_size (by repeat (first | (with_reducible first | exact HB.out | apply below_alloc | apply pw_below_drewN | apply below_drew1) | exact HB.out)))); have n1_ := Aside0.mk (below_step (by repeat (first | (with_reducible first | exact HB.out | apply below_alloc | apply pw_below_drewN | apply below_drew1) | exact HB.out)) hb); clear HB; have HO378 := n0_; have HB := n1_; clear n0_ n1_; (try clear hb); (try clear hb2); (try clear hk); (try clear hi); (try clear ho0)))
                  go_ret
                  exact ⟨by first | rfl | (simp [errW_none, errW_some] <;> rfl) | (simp [*, errW_none, errW_some] <;> rfl), by repeat (first | (with_reducible first | exact HB.out | apply below_alloc | apply pw_below_drewN | apply below_drew1) | exact HB.out)⟩
              · replace c21 := Bool.eq_false_iff.mpr c21
                subst c21
                have H1 : (some false) = some r := by rw [if_neg (show ¬ (false = true) by decide)] at H; exact H
                clear H
                have H := H1
                clear H1
                obtain rfl := Option.some.inj H
                go_wp2_with (first | ((with_reducible refine gate_callee (f := 12) rfl ?_); refine goesL_ (some 27) rfl rfl Tryd.func12 (by kernel_rfl) rfl #[.string (((⟨#[32]⟩ : ByteArray) ++ x6_1) ++ (⟨#[46]⟩ : ByteArray))] rfl (by (try simp only [List.map_toArray, List.map_cons, List.map_nil]); first | done | rfl | (simp only [List.length_drop, List.length_take]; rfl)) ?_; (with_reducible refine (lex_Lex.calls (((⟨#[32]⟩ : ByteArray) ++ x6_1) ++ (⟨#[46]⟩ : ByteArray)) t374 t375 t376 _ A11.out ?side1).mono ?_); (case side1 => exact GW.belowA hG (by repeat (first | (with_reducible first | exact HB.out | apply below_alloc | apply pw_below_drewN | apply below_drew1) | exact HB.out))); rintro e w34 ⟨v377, rfl, ho0, hb⟩; refine ⟨_, rfl, ?_⟩; have n0_ := Aside0.mk (Kd.R_lower ho0 (below_size (by repeat (first | (with_reducible first | exact HB.out | apply below_alloc | apply pw_below_drewN | apply below_drew1) | exact HB.out)))); have n1_ := Aside0.mk (below_step (by repeat (first | (with_reducible first | exact HB.out | apply below_alloc | apply pw_below_drewN | apply below_drew1) | exact HB.out)) hb); clear HB; have HO378 := n0_; have HB := n1_; clear n0_ n1_; (try clear hb); (try clear hb2); (try clear hk); (try clear hi); (try clear ho0)))
                go_ret
                exact ⟨by first | rfl | (simp [errW_none, errW_some] <;> rfl) | (simp [*, errW_none, errW_some] <;> rfl), by repeat (first | (with_reducible first | exact HB.out | apply below_alloc | apply pw_below_drewN | apply below_drew1) | exact HB.out)⟩
          · rw [if_neg c10] at H
            exact absurd H (by simp)
        · rw [if_neg c9] at H
          exact absurd H (by simp)

/-- THE ONE PURE STATEMENT of sorrellaw04_LexNumbers: yours. -/
def sorrellaw04_LexNumbers.Pure : Prop := ∀ (a0 : Int) (a1 : Int), (Lit.int .u64 a0).wf = true → (Lit.int .u8 a1).wf = true → ∃ k, sorrellaw04_LexNumbers.f k a0 a1 = some true
theorem sorrellaw04_LexNumbers.walk (P : sorrellaw04_LexNumbers.Pure) (a0 : Int) (a1 : Int) (w : World) (w0 : (Lit.int .u64 a0).wf = true) (w1 : (Lit.int .u8 a1).wf = true) (hG : Aside0 (GW w)) :
    Calls Tryd.prog 10 #[.int .u64 a0, .int .u8 a1] w fun e w' => e = .returned (.bool true) ∧ Below w.heap.size w w' := by
  obtain ⟨k, h⟩ := P a0 a1 w0 w1
  refine (sorrellaw04_LexNumbers.calls k a0 a1 true w h hG).mono ?_
  rintro e w' ⟨rfl, hd⟩
  exact ⟨rfl, hd⟩

end Go.Proofs.YtpdlfokfjkmplaaDoor.P
