-- Written by a program of this session (wip/gen) out of the translation. Lean checks it.
import Derived.Test.YthdccdbiichabaaDoorPx0
import Derived.Test.YthdccdbiichabaaDoorPx2
import Derived.Test.YthdccdbiichabaaDoorCut
namespace Go.Proofs.YthdccdbiichabaaDoor.P
open Go.RowKit Go.Proofs.YthdccdbiichabaaDoorW.PrintWords Go.Proofs.YthdccdbiichabaaDoorW.PrintLast Go.Proofs.YthdccdbiichabaaDoorW.PrintMore
attribute [local go_sem] max2_int min2_int max_two min_two max_three min_three max_four min_four   -- for this text's walks alone
set_option linter.unusedVariables false
set_option linter.unusedSimpArgs false

/-! ### lex_pass: function 44 -/
mutual
def lex_pass.l0 : Nat → ByteArray → Int → Option (Int)
  | 0, _, _ => none
  | k + 1, x0, x3 => if x3 < (x0.size : Int) then (if 0 ≤ x3 then (lex_pass.j1 k x0 x3 ((bt x0 x3) == 37)) else (none)) else (lex_pass.j1 k x0 x3 false)
def lex_pass.j1 : Nat → ByteArray → Int → Bool → Option (Int)
  | 0, _, _, _ => none
  | k + 1, x0, x3, x16 => if x16 = true then (if 0 ≤ x3 then (if x3 ≤ (x0.size : Int) then ((strings_IndexByte.f (x0.extract (x3 : Int).toNat x0.size) 10).bind fun t103 => (if t103 < 0 then (some (x0.size : Int)) else (if 0 ≤ (wrap64 (x3 + t103)) then (if (wrap64 (x3 + t103)) ≤ (x0.size : Int) then ((lex_span.f (x0.extract ((wrap64 (x3 + t103)) : Int).toNat x0.size) (⟨#[32, 9, 10, 13]⟩ : ByteArray)).bind fun t104 => (lex_pass.l0 k x0 (wrap64 ((wrap64 (x3 + t103)) + t104)))) else (none)) else (none)))) else (none)) else (none)) else (some x3)
end
def lex_pass.f (k : Nat) (a0 : ByteArray) : Option (Int) := (lex_span.f a0 (⟨#[32, 9, 10, 13]⟩ : ByteArray)).bind fun t102 => (lex_pass.l0 k a0 t102)
theorem lex_pass.mono_l : ∀ k, (∀ y0 y1, LeO (lex_pass.l0 k y0 y1) (lex_pass.l0 (k + 1) y0 y1)) ∧ (∀ y0 y1 y2, LeO (lex_pass.j1 k y0 y1 y2) (lex_pass.j1 (k + 1) y0 y1 y2))
  | 0 => ⟨fun _ _ r h => by simp [lex_pass.l0] at h, fun _ _ _ r h => by simp [lex_pass.j1] at h⟩
  | k + 1 => by
    obtain ⟨ih0, ih1⟩ := lex_pass.mono_l k
    refine ⟨?_, ?_⟩
    · intro y0 y1
      unfold lex_pass.l0
      repeat' first
      | (with_reducible exact ih0 _ _)
      | (with_reducible exact ih1 _ _ _)
      | (with_reducible exact LeO.refl _)
      | (with_reducible exact LeO.none _)
      | (with_reducible refine LeO.ite ?_ ?_)
      | (with_reducible refine LeO.bind ?_ (fun _ => ?_))
      | exact ih0 _ _
      | exact ih1 _ _ _
      | exact LeO.none _
      | refine LeO.ite ?_ ?_
      | refine LeO.bind ?_ (fun _ => ?_)
    · intro y0 y1 y2
      unfold lex_pass.j1
      repeat' first
      | (with_reducible exact ih0 _ _)
      | (with_reducible exact ih1 _ _ _)
      | (with_reducible exact LeO.refl _)
      | (with_reducible exact LeO.none _)
      | (with_reducible refine LeO.ite ?_ ?_)
      | (with_reducible refine LeO.bind ?_ (fun _ => ?_))
      | exact ih0 _ _
      | exact ih1 _ _ _
      | exact LeO.none _
      | refine LeO.ite ?_ ?_
      | refine LeO.bind ?_ (fun _ => ?_)
theorem lex_pass.mono : ∀ a0 k, LeO (lex_pass.f k a0) (lex_pass.f (k + 1) a0) := by
  intro a0 k
  obtain ⟨ih0, ih1⟩ := lex_pass.mono_l k
  unfold lex_pass.f
  repeat' first
      | (with_reducible exact ih0 _ _)
      | (with_reducible exact ih1 _ _ _)
      | (with_reducible exact LeO.refl _)
      | (with_reducible exact LeO.none _)
      | (with_reducible refine LeO.ite ?_ ?_)
      | (with_reducible refine LeO.bind ?_ (fun _ => ?_))
      | exact ih0 _ _
      | exact ih1 _ _ _
      | exact LeO.none _
      | refine LeO.ite ?_ ?_
      | refine LeO.bind ?_ (fun _ => ?_)
set_option maxHeartbeats 8000000 in
set_option maxRecDepth 100000 in
theorem lex_pass.calls (k : Nat) (a0 : ByteArray) (r : Int) (w : World) (h : lex_pass.f k a0 = some r) :
    Calls Tryd.prog 44 #[.string a0] w fun e w' => e = .returned (.int .i64 r) ∧ Below w.heap.size w w' := by
  have HB := Aside0.mk (Below.refl w.heap.size w)
  have H : ((lex_span.f a0 (⟨#[32, 9, 10, 13]⟩ : ByteArray)).bind fun t102 => (lex_pass.l0 k a0 t102)) = some r := h
  clear h
  replace H := Option.bind_eq_some_iff.mp H
  obtain ⟨t102, A20, H⟩ := H
  replace H : (lex_pass.l0 k a0 t102) = some r := H
  have A2 := Aside0.mk A20
  clear A20
  have H' := Aside0.mk H
  clear H
  go_enter Tryd.func44, Tryd.ntmps44
  go_wp2_with (first | ((with_reducible refine gate_callee (f := 56) rfl ?_); refine goesL_ (some 6) rfl rfl Tryd.func56 (by kernel_rfl) rfl #[.string a0, .string (⟨#[32, 9, 10, 13]⟩ : ByteArray)] rfl (by (try simp only [List.map_toArray, List.map_cons, List.map_nil]); first | done | rfl | (simp only [List.length_drop, List.length_take]; rfl)) ?_; (with_reducible refine (lex_span.calls a0 (⟨#[32, 9, 10, 13]⟩ : ByteArray) t102 _ A2.out).mono ?_); rintro e w3 ⟨rfl, hb⟩; refine ⟨_, rfl, ?_⟩; have n0_ := Aside0.mk (below_step (by repeat (first | (with_reducible first | exact HB.out | apply below_alloc | apply pw_below_drewN | apply below_drew1) | exact HB.out)) hb); clear HB; have HB := n0_; clear n0_; (try clear hb); (try clear hb2); (try clear hk); (try clear hi)))
  go_loopg [3] k (fun kq v3 w' => ∃ (x3_1 : Int), v3 = .int .i64 x3_1 ∧ Aside0 (lex_pass.l0 kq a0 x3_1 = some r) ∧ Aside0 (kq ≤ k) ∧ Aside0 (Below w.heap.size w w'))
  case atStart => exact ⟨(t102), (by first | rfl | (simp; done) | (simp [*]; done)), H', ⟨Nat.le_refl _⟩, ⟨by repeat (first | (with_reducible first | exact HB.out | apply below_alloc | apply pw_below_drewN | apply below_drew1) | exact HB.out)⟩⟩
  case round =>
    clear H'
    try clear p2
    obtain ⟨x3_1, rfl, HA, HK1, HB⟩ := hrel
    cases gk with
    | zero => exact absurd HA.out (by simp [lex_pass.l0])
    | succ k1 =>
      have H := HA.out
      clear HA
      simp only [lex_pass.l0] at H
      have HC4 := Aside0.mk H
      clear H
      go_upto_region 2 with (fail)
      go_cut [16] (fun v16 wc => ∃ (kq : Nat) (x16_3 : Bool), v16 = .bool x16_3 ∧ Aside0 (lex_pass.j1 kq a0 x3_1 x16_3 = some r) ∧ Aside0 (kq ≤ k1) ∧ Aside0 (Below w.heap.size w wc))
      case first =>
        have H := HC4.out
        clear HC4
        by_cases c5 : x3_1 < (a0.size : Int)
        · rw [if_pos c5] at H
          have c5b0 : decide (x3_1 < (a0.size : Int)) = true := decide_eq_true c5
          clear c5
          (first | rw [c5b0] | (simp only [i64_w, i32_w]; rw [c5b0]) | skip)
          by_cases c6 : 0 ≤ x3_1
          · rw [if_pos c6] at H
            have c6b0 : decide (0 ≤ x3_1) = true := decide_eq_true c6
            clear c6
            have H' := Aside0.mk H
            clear H
            have p7 : 0 ≤ (x3_1 : Int) := of_decide_eq_true (by first | (with_reducible assumption) | assumption)
            have q7 : x3_1 < (a0.size : Int) := of_decide_eq_true (by first | (with_reducible assumption) | assumption)
            have hx7 := bt_at a0 x3_1
            replace p7 := eq_true p7
            replace q7 := eq_true q7
            go_wp2
            go_meet
            case rel => exact ⟨_, (((bt a0 x3_1) == 37)), (by first | rfl | (simp; done) | (simp [*]; done)), H', ⟨by have := HK1.out; first | omega | exact Nat.le_refl _⟩, ⟨by repeat (first | (with_reducible first | exact HB.out | apply below_alloc | apply pw_below_drewN | apply below_drew1) | exact HB.out)⟩⟩
          · rw [if_neg c6] at H
            exact absurd H (by simp)
        · rw [if_neg c5] at H
          have c5b0 : decide (x3_1 < (a0.size : Int)) = false := decide_eq_false c5
          clear c5
          (first | rw [c5b0] | (simp only [i64_w, i32_w]; rw [c5b0]) | skip)
          have H' := Aside0.mk H
          clear H
          go_wp2
          go_meet
          case rel => exact ⟨_, (false), (by first | rfl | (simp; done) | (simp [*]; done)), H', ⟨by have := HK1.out; first | omega | exact Nat.le_refl _⟩, ⟨by repeat (first | (with_reducible first | exact HB.out | apply below_alloc | apply pw_below_drewN | apply below_drew1) | exact HB.out)⟩⟩
      case rest =>
        clear HC4
        try clear p2
        try clear c4
        try clear c5
        try clear c5b0
        try clear c6
        try clear c6b0
        try clear p7
        try clear q7
        try clear hx7
        try clear p2
        try clear p7
        try clear q7
        obtain ⟨kq, x16_3, rfl, HA, HJ3, HB⟩ := hcut
        cases kq with
        | zero => exact absurd HA.out (by simp [lex_pass.j1])
        | succ kj3 =>
          have H := HA.out
          clear HA
          simp only [lex_pass.j1] at H
          by_cases c8 : x16_3 = true
          · subst c8
            have H1 : (if 0 ≤ x3_1 then (if x3_1 ≤ (a0.size : Int) then ((strings_IndexByte.f (a0.extract (x3_1 : Int).toNat a0.size) 10).bind fun t103 => (if t103 < 0 then (some (a0.size : Int)) else (if 0 ≤ (wrap64 (x3_1 + t103)) then (if (wrap64 (x3_1 + t103)) ≤ (a0.size : Int) then ((lex_span.f (a0.extract ((wrap64 (x3_1 + t103)) : Int).toNat a0.size) (⟨#[32, 9, 10, 13]⟩ : ByteArray)).bind fun t104 => (lex_pass.l0 kj3 a0 (wrap64 ((wrap64 (x3_1 + t103)) + t104)))) else (none)) else (none)))) else (none)) else (none)) = some r := by rw [if_pos rfl] at H; exact H
            clear H
            have H := H1
            clear H1
            by_cases c9 : 0 ≤ x3_1
            · rw [if_pos c9] at H
              have c9b0 := eq_true c9
              have c9b1 : decide (0 ≤ x3_1) = true := decide_eq_true c9
              clear c9
              by_cases c10 : x3_1 ≤ (a0.size : Int)
              · rw [if_pos c10] at H
                have c10b0 := eq_true c10
                have c10b1 : decide (x3_1 ≤ (a0.size : Int)) = true := decide_eq_true c10
                clear c10
                replace H := Option.bind_eq_some_iff.mp H
                obtain ⟨t103, A110, H⟩ := H
                replace H : (if t103 < 0 then (some (a0.size : Int)) else (if 0 ≤ (wrap64 (x3_1 + t103)) then (if (wrap64 (x3_1 + t103)) ≤ (a0.size : Int) then ((lex_span.f (a0.extract ((wrap64 (x3_1 + t103)) : Int).toNat a0.size) (⟨#[32, 9, 10, 13]⟩ : ByteArray)).bind fun t104 => (lex_pass.l0 kj3 a0 (wrap64 ((wrap64 (x3_1 + t103)) + t104)))) else (none)) else (none))) = some r := H
                have A11 := Aside0.mk A110
                clear A110
                by_cases c12 : t103 < 0
                · rw [if_pos c12] at H
                  have c12b0 : decide (t103 < 0) = true := decide_eq_true c12
                  clear c12
                  obtain rfl := Option.some.inj H
                  go_wp2_with (first | ((with_reducible refine gate_callee (f := 57) rfl ?_); refine goesL_ (some 20) rfl rfl Tryd.func57 (by kernel_rfl) rfl #[.string (a0.extract (x3_1 : Int).toNat a0.size), .int .u8 10] rfl (by (try simp only [List.map_toArray, List.map_cons, List.map_nil]); first | done | rfl | (simp only [List.length_drop, List.length_take]; rfl)) ?_; (with_reducible refine (strings_IndexByte.calls (a0.extract (x3_1 : Int).toNat a0.size) 10 t103 _ A11.out).mono ?_); rintro e w' ⟨rfl, ⟨nd, rfl⟩⟩; refine ⟨_, rfl, ?_⟩))
                  go_ret
                  exact ⟨by first | rfl | (simp [errW_none, errW_some] <;> rfl) | (simp [*, errW_none, errW_some] <;> rfl), by repeat (first | (with_reducible first | exact HB.out | apply below_alloc | apply pw_below_drewN | apply below_drew1) | exact HB.out)⟩
                · rw [if_neg c12] at H
                  have c12b0 : decide (t103 < 0) = false := decide_eq_false c12
                  clear c12
                  obtain ⟨ji13, hji13⟩ : ∃ j_ : Int, (wrap64 (x3_1 + t103)) = j_ := ⟨_, rfl⟩
                  replace H : (if 0 ≤ (ji13) then (if (ji13) ≤ (a0.size : Int) then ((lex_span.f (a0.extract ((ji13) : Int).toNat a0.size) (⟨#[32, 9, 10, 13]⟩ : ByteArray)).bind fun t104 => (lex_pass.l0 kj3 a0 (wrap64 ((ji13) + t104)))) else (none)) else (none)) = some r := by first | (rw [hji13] at H; exact H) | (simp only [hji13] at H ⊢; exact H)
                  (try rw [hji13] at A11)
                  have hji13w : (IntKind.i64.wrap (x3_1 + t103)) = ji13 := (i64_w _).trans hji13
                  by_cases c14 : 0 ≤ (ji13)
                  · rw [if_pos c14] at H
                    have c14b0 := eq_true c14
                    have c14b1 : decide (0 ≤ (ji13)) = true := decide_eq_true c14
                    clear c14
                    by_cases c15 : (ji13) ≤ (a0.size : Int)
                    · rw [if_pos c15] at H
                      have c15b0 := eq_true c15
                      have c15b1 : decide ((ji13) ≤ (a0.size : Int)) = true := decide_eq_true c15
                      clear c15
                      replace H := Option.bind_eq_some_iff.mp H
                      obtain ⟨t104, A160, H⟩ := H
                      replace H : (lex_pass.l0 kj3 a0 (wrap64 ((ji13) + t104))) = some r := H
                      have A16 := Aside0.mk A160
                      clear A160
                      have H' := Aside0.mk H
                      clear H
                      go_wp2_with (first | ((with_reducible refine gate_callee (f := 57) rfl ?_); refine goesL_ (some 20) rfl rfl Tryd.func57 (by kernel_rfl) rfl #[.string (a0.extract (x3_1 : Int).toNat a0.size), .int .u8 10] rfl (by (try simp only [List.map_toArray, List.map_cons, List.map_nil]); first | done | rfl | (simp only [List.length_drop, List.length_take]; rfl)) ?_; (with_reducible refine (strings_IndexByte.calls (a0.extract (x3_1 : Int).toNat a0.size) 10 t103 _ A11.out).mono ?_); rintro e w' ⟨rfl, ⟨nd, rfl⟩⟩; refine ⟨_, rfl, ?_⟩) | ((with_reducible refine gate_callee (f := 56) rfl ?_); refine goesL_ (some 32) rfl rfl Tryd.func56 (by kernel_rfl) rfl #[.string (a0.extract ((ji13) : Int).toNat a0.size), .string (⟨#[32, 9, 10, 13]⟩ : ByteArray)] rfl (by (try simp only [List.map_toArray, List.map_cons, List.map_nil]); first | done | (simp only [hji13]; rfl) | rfl | (simp only [List.length_drop, List.length_take]; rfl)) ?_; (with_reducible refine (lex_span.calls (a0.extract ((ji13) : Int).toNat a0.size) (⟨#[32, 9, 10, 13]⟩ : ByteArray) t104 _ A16.out).mono ?_); rintro e w17 ⟨rfl, hb⟩; refine ⟨_, rfl, ?_⟩; have n0_ := Aside0.mk (below_step (by repeat (first | (with_reducible first | exact HB.out | apply below_alloc | apply pw_below_drewN | apply below_drew1) | exact HB.out)) hb); clear HB; have HB := n0_; clear n0_; (try clear hb); (try clear hb2); (try clear hk); (try clear hi)))
                      go_roundg kj3
                      case measure => have := HK1.out; have := HJ3.out; omega
                      case rel => exact ⟨(wrap64 ((ji13) + t104)), (by first | rfl | (simp; done) | (simp only [← hji13] <;> (first | rfl | simp)) | (simp [*]; done)), H', ⟨by have := HK1.out; have := HJ3.out; omega⟩, ⟨by repeat (first | (with_reducible first | exact HB.out | apply below_alloc | apply pw_below_drewN | apply below_drew1) | exact HB.out)⟩⟩
                    · rw [if_neg c15] at H
                      exact absurd H (by simp)
                  · rw [if_neg c14] at H
                    exact absurd H (by simp)
              · rw [if_neg c10] at H
                exact absurd H (by simp)
            · rw [if_neg c9] at H
              exact absurd H (by simp)
          · replace c8 := Bool.eq_false_iff.mpr c8
            subst c8
            have H1 : (some x3_1) = some r := by rw [if_neg (show ¬ (false = true) by decide)] at H; exact H
            clear H
            have H := H1
            clear H1
            obtain rfl := Option.some.inj H
            go_wp2
            go_ret
            exact ⟨by first | rfl | (simp [errW_none, errW_some] <;> rfl) | (simp [*, errW_none, errW_some] <;> rfl), by repeat (first | (with_reducible first | exact HB.out | apply below_alloc | apply pw_below_drewN | apply below_drew1) | exact HB.out)⟩

end Go.Proofs.YthdccdbiichabaaDoor.P
