-- Written by a program of this session (wip/gen) out of the translation. Lean checks it.
import Derived.Test.YtpdlfokfjkmplaaDoorPx0
import Derived.Test.YtpdlfokfjkmplaaDoorPx1
import Derived.Test.YtpdlfokfjkmplaaDoorPx5
import Derived.Test.YtpdlfokfjkmplaaDoorPx13
import Derived.Test.YtpdlfokfjkmplaaDoorLex
import Derived.Test.YtpdlfokfjkmplaaDoorGlob
namespace Go.Proofs.YtpdlfokfjkmplaaDoor.P
open Go.RowKit Go.Proofs.YtpdlfokfjkmplaaDoorW.PrintWords Go.Proofs.YtpdlfokfjkmplaaDoorW.PrintLast Go.Proofs.YtpdlfokfjkmplaaDoorW.PrintMore
attribute [local go_sem] max2_int min2_int max_two min_two max_three min_three max_four min_four   -- for this text's walks alone
set_option linter.unusedVariables false
set_option linter.unusedSimpArgs false

attribute [local go_sem high] eqA30
/-! ### sorrellaw04_LexAgain: function 7 -/
mutual
def sorrellaw04_LexAgain.l0 : Nat → Bool → List (S30) → ByteArray → Int → Option (Bool)
 | 0, _, _, _, _ => none
 | k + 1, x3, x4, x7, x8 => if x8 < (x4.length : Int) then (if 0 ≤ x8 then (if ((rd_T30 x4 x8).f0) = 1 then ((sorrellaw04_plain.f k ((rd_T30 x4 x8).f1)).bind fun t299 => (if t299 = true then (if x7.size + ((rd_T30 x4 x8).f1).size ≤ 9223372036854775807 then (if (x7 ++ ((rd_T30 x4 x8).f1)).size + 1 ≤ 9223372036854775807 then (sorrellaw04_LexAgain.l0 k x3 x4 ((x7 ++ ((rd_T30 x4 x8).f1)) ++ (⟨#[32]⟩ : ByteArray)) (wrap64 (x8 + 1))) else (none)) else (none)) else (if x7.size + 1 ≤ 9223372036854775807 then (if (x7 ++ (⟨#[39]⟩ : ByteArray)).size + ((rd_T30 x4 x8).f1).size ≤ 9223372036854775807 then (if ((x7 ++ (⟨#[39]⟩ : ByteArray)) ++ ((rd_T30 x4 x8).f1)).size + 2 ≤ 9223372036854775807 then (sorrellaw04_LexAgain.l0 k x3 x4 (((x7 ++ (⟨#[39]⟩ : ByteArray)) ++ ((rd_T30 x4 x8).f1)) ++ (⟨#[39, 32]⟩ : ByteArray)) (wrap64 (x8 + 1))) else (none)) else (none)) else (none)))) else (if x7.size + ((rd_T30 x4 x8).f1).size ≤ 9223372036854775807 then (if (x7 ++ ((rd_T30 x4 x8).f1)).size + 1 ≤ 9223372036854775807 then (sorrellaw04_LexAgain.l0 k x3 x4 ((x7 ++ ((rd_T30 x4 x8).f1)) ++ (⟨#[32]⟩ : ByteArray)) (wrap64 (x8 + 1))) else (none)) else (none))) else (none)) else ((lex_Lex.f x7).bind fun bt303 => (if bt303.2.2 = 0 then (sorrellaw04_LexAgain.j1 k x3 x4 bt303.1 ((bt303.1.length : Int) != (x4.length : Int))) else (sorrellaw04_LexAgain.j1 k x3 x4 bt303.1 true)))
def sorrellaw04_LexAgain.j1 : Nat → Bool → List (S30) → List (S30) → Bool → Option (Bool)
 | 0, _, _, _, _ => none
 | k + 1, x3, x4, x9, x81 => if x81 = true then (some false) else (sorrellaw04_LexAgain.l1 k x3 x4 x9 0)
def sorrellaw04_LexAgain.l1 : Nat → Bool → List (S30) → List (S30) → Int → Option (Bool)
 | 0, _, _, _, _ => none
 | k + 1, x3, x4, x9, x12 => if x12 < (x4.length : Int) then (if 0 ≤ x12 then (if x12 < (x9.length : Int) then (if ((rd_T30 x4 x12).f0) = 4 then (if (!(((rd_T30 x9 x12).f0) == ((rd_T30 x4 x12).f0)) || (!((((rd_T30 x9 x12).f1).toList) == (((rd_T30 x4 x12).f1).toList)) || (!(((rd_T30 x9 x12).f2) == ((rd_T30 x4 x12).f2))))) = true then (if ((rd_T30 x4 x12).f1).toList = ([46] : List UInt8) then (if ((rd_T30 x9 x12).f0) = 6 then (sorrellaw04_LexAgain.j3 k x3 x4 x9 x12 (!(((rd_T30 x9 x12).f1).toList == ([46] : List UInt8)))) else (sorrellaw04_LexAgain.j3 k x3 x4 x9 x12 (!false))) else (sorrellaw04_LexAgain.j3 k x3 x4 x9 x12 (!false))) else (sorrellaw04_LexAgain.j3 k x3 x4 x9 x12 false)) else (if (!(((rd_T30 x9 x12).f0) == ((rd_T30 x4 x12).f0)) || (!((((rd_T30 x9 x12).f1).toList) == (((rd_T30 x4 x12).f1).toList)) || (!(((rd_T30 x9 x12).f2) == ((rd_T30 x4 x12).f2))))) = true then (some false) else (sorrellaw04_LexAgain.l1 k x3 x4 x9 (wrap64 (x12 + 1))))) else (none)) else (none)) else (some x3)
def sorrellaw04_LexAgain.j3 : Nat → Bool → List (S30) → List (S30) → Int → Bool → Option (Bool)
 | 0, _, _, _, _, _ => none
 | k + 1, x3, x4, x9, x12, x131 => if x131 = true then (some false) else (sorrellaw04_LexAgain.l1 k x3 x4 x9 (wrap64 (x12 + 1)))
end
def sorrellaw04_LexAgain.f (k : Nat) (a0 : ByteArray) : Option (Bool) := (sorrellaw04_head.f k).bind fun t291 => (if (a0.size : Int) > 3000 then (some t291) else ((lex_Lex.f a0).bind fun bt292 => (if bt292.2.2 = 0 then (sorrellaw04_LexAgain.l0 k t291 bt292.1 (⟨#[]⟩ : ByteArray) 0) else (some t291))))
theorem sorrellaw04_LexAgain.mono_l : ∀ k, (∀ y0 y1 y2 y3, LeO (sorrellaw04_LexAgain.l0 k y0 y1 y2 y3) (sorrellaw04_LexAgain.l0 (k + 1) y0 y1 y2 y3)) ∧ (∀ y0 y1 y2 y3, LeO (sorrellaw04_LexAgain.j1 k y0 y1 y2 y3) (sorrellaw04_LexAgain.j1 (k + 1) y0 y1 y2 y3)) ∧ (∀ y0 y1 y2 y3, LeO (sorrellaw04_LexAgain.l1 k y0 y1 y2 y3) (sorrellaw04_LexAgain.l1 (k + 1) y0 y1 y2 y3)) ∧ (∀ y0 y1 y2 y3 y4, LeO (sorrellaw04_LexAgain.j3 k y0 y1 y2 y3 y4) (sorrellaw04_LexAgain.j3 (k + 1) y0 y1 y2 y3 y4))
 | 0 => ⟨fun _ _ _ _ r h => by simp [sorrellaw04_LexAgain.l0] at h, fun _ _ _ _ r h => by simp [sorrellaw04_LexAgain.j1] at h, fun _ _ _ _ r h => by simp [sorrellaw04_LexAgain.l1] at h, fun _ _ _ _ _ r h => by simp [sorrellaw04_LexAgain.j3] at h⟩
 | k + 1 => by
  obtain ⟨ih0, ih1, ih2, ih3⟩ := sorrellaw04_LexAgain.mono_l k
  refine ⟨?_, ?_, ?_, ?_⟩
  ·intro y0 y1 y2 y3
   unfold sorrellaw04_LexAgain.l0
   repeat' first
   | (with_reducible exact ih0 _ _ _ _)
   | (with_reducible exact ih1 _ _ _ _)
   | (with_reducible exact ih2 _ _ _ _)
   | (with_reducible exact ih3 _ _ _ _ _)
   | (with_reducible exact sorrellaw04_head.mono _)
   | (with_reducible exact sorrellaw04_plain.mono _ _)
   | (with_reducible exact LeO.refl _)
   | (with_reducible exact LeO.none _)
   | (with_reducible refine LeO.ite ?_ ?_)
   | (with_reducible refine LeO.bind ?_ (fun _ => ?_))
   | exact ih0 _ _ _ _
   | exact ih1 _ _ _ _
   | exact ih2 _ _ _ _
   | exact ih3 _ _ _ _ _
   | exact sorrellaw04_head.mono _
   | exact sorrellaw04_plain.mono _ _
   | exact LeO.none _
   | refine LeO.ite ?_ ?_
   | refine LeO.bind ?_ (fun _ => ?_)
  ·intro y0 y1 y2 y3
   unfold sorrellaw04_LexAgain.j1
   repeat' first
   | (with_reducible exact ih0 _ _ _ _)
   | (with_reducible exact ih1 _ _ _ _)
   | (with_reducible exact ih2 _ _ _ _)
   | (with_reducible exact ih3 _ _ _ _ _)
   | (with_reducible exact sorrellaw04_head.mono _)
   | (with_reducible exact sorrellaw04_plain.mono _ _)
   | (with_reducible exact LeO.refl _)
   | (with_reducible exact LeO.none _)
   | (with_reducible refine LeO.ite ?_ ?_)
   | (with_reducible refine LeO.bind ?_ (fun _ => ?_))
   | exact ih0 _ _ _ _
   | exact ih1 _ _ _ _
   | exact ih2 _ _ _ _
   | exact ih3 _ _ _ _ _
   | exact sorrellaw04_head.mono _
   | exact sorrellaw04_plain.mono _ _
   | exact LeO.none _
   | refine LeO.ite ?_ ?_
   | refine LeO.bind ?_ (fun _ => ?_)
  ·intro y0 y1 y2 y3
   unfold sorrellaw04_LexAgain.l1
   repeat' first
   | (with_reducible exact ih0 _ _ _ _)
   | (with_reducible exact ih1 _ _ _ _)
   | (with_reducible exact ih2 _ _ _ _)
   | (with_reducible exact ih3 _ _ _ _ _)
   | (with_reducible exact sorrellaw04_head.mono _)
   | (with_reducible exact sorrellaw04_plain.mono _ _)
   | (with_reducible exact LeO.refl _)
   | (with_reducible exact LeO.none _)
   | (with_reducible refine LeO.ite ?_ ?_)
   | (with_reducible refine LeO.bind ?_ (fun _ => ?_))
   | exact ih0 _ _ _ _
   | exact ih1 _ _ _ _
   | exact ih2 _ _ _ _
   | exact ih3 _ _ _ _ _
   | exact sorrellaw04_head.mono _
   | exact sorrellaw04_plain.mono _ _
   | exact LeO.none _
   | refine LeO.ite ?_ ?_
   | refine LeO.bind ?_ (fun _ => ?_)
  ·intro y0 y1 y2 y3 y4
   unfold sorrellaw04_LexAgain.j3
   repeat' first
   | (with_reducible exact ih0 _ _ _ _)
   | (with_reducible exact ih1 _ _ _ _)
   | (with_reducible exact ih2 _ _ _ _)
   | (with_reducible exact ih3 _ _ _ _ _)
   | (with_reducible exact sorrellaw04_head.mono _)
   | (with_reducible exact sorrellaw04_plain.mono _ _)
   | (with_reducible exact LeO.refl _)
   | (with_reducible exact LeO.none _)
   | (with_reducible refine LeO.ite ?_ ?_)
   | (with_reducible refine LeO.bind ?_ (fun _ => ?_))
   | exact ih0 _ _ _ _
   | exact ih1 _ _ _ _
   | exact ih2 _ _ _ _
   | exact ih3 _ _ _ _ _
   | exact sorrellaw04_head.mono _
   | exact sorrellaw04_plain.mono _ _
   | exact LeO.none _
   | refine LeO.ite ?_ ?_
   | refine LeO.bind ?_ (fun _ => ?_)
theorem sorrellaw04_LexAgain.mono : ∀ a0 k, LeO (sorrellaw04_LexAgain.f k a0) (sorrellaw04_LexAgain.f (k + 1) a0) := by
 intro a0 k
 obtain ⟨ih0, ih1, ih2, ih3⟩ := sorrellaw04_LexAgain.mono_l k
 unfold sorrellaw04_LexAgain.f
 repeat' first
   | (with_reducible exact ih0 _ _ _ _)
   | (with_reducible exact ih1 _ _ _ _)
   | (with_reducible exact ih2 _ _ _ _)
   | (with_reducible exact ih3 _ _ _ _ _)
   | (with_reducible exact sorrellaw04_head.mono _)
   | (with_reducible exact sorrellaw04_plain.mono _ _)
   | (with_reducible exact LeO.refl _)
   | (with_reducible exact LeO.none _)
   | (with_reducible refine LeO.ite ?_ ?_)
   | (with_reducible refine LeO.bind ?_ (fun _ => ?_))
   | exact ih0 _ _ _ _
   | exact ih1 _ _ _ _
   | exact ih2 _ _ _ _
   | exact ih3 _ _ _ _ _
   | exact sorrellaw04_head.mono _
   | exact sorrellaw04_plain.mono _ _
   | exact LeO.none _
   | refine LeO.ite ?_ ?_
   | refine LeO.bind ?_ (fun _ => ?_)
set_option maxHeartbeats 8000000 in
set_option maxRecDepth 100000 in
theorem sorrellaw04_LexAgain.calls (k : Nat) (a0 : ByteArray) (r : Bool) (w : World) (h : sorrellaw04_LexAgain.f k a0 = some r) (hG : Aside0 (GW w)) :
  Calls Tryd.prog 7 #[.string a0] w fun e w' => e = .returned (.bool r) ∧ Below w.heap.size w w' := by
 have hu30 := Tryd.underlying30
 have HB := Aside0.mk (Below.refl w.heap.size w)
 have H : ((sorrellaw04_head.f k).bind fun t291 => (if (a0.size : Int) > 3000 then (some t291) else ((lex_Lex.f a0).bind fun bt292 => (if bt292.2.2 = 0 then (sorrellaw04_LexAgain.l0 k t291 bt292.1 (⟨#[]⟩ : ByteArray) 0) else (some t291))))) = some r := h
 clear h
 replace H := Option.bind_eq_some_iff.mp H
 obtain ⟨t291, A20, H⟩ := H
 replace H : (if (a0.size : Int) > 3000 then (some t291) else ((lex_Lex.f a0).bind fun bt292 => (if bt292.2.2 = 0 then (sorrellaw04_LexAgain.l0 k t291 bt292.1 (⟨#[]⟩ : ByteArray) 0) else (some t291)))) = some r := H
 have A2 := Aside0.mk A20
 clear A20
 by_cases c3 : (a0.size : Int) > 3000
 ·rw [if_pos c3] at H
  have c3b0 : decide (3000 < (a0.size : Int)) = true := decide_eq_true c3
  have c3b1 : decide (3000 < a0.size) = true := decide_eq_true (by omega)
  clear c3
  obtain rfl := Option.some.inj H
  go_enter Tryd.func7, Tryd.ntmps7
  go_wp2_with (first | (go_at_call 11; (with_reducible refine (sorrellaw04_head.calls k  t291 _ A2.out ?side1).mono ?_); (case side1 => exact GW.belowA hG (by repeat (first | (with_reducible first | exact HB.out | apply below_alloc | apply pw_below_drewN | apply below_drew1) | exact HB.out))); rintro e w4 ⟨rfl, hb⟩; have n0_ := Aside0.mk (below_step (by repeat (first | (with_reducible first | exact HB.out | apply below_alloc | apply pw_below_drewN | apply below_drew1) | exact HB.out)) hb); clear HB; have HB := n0_; clear n0_; (try clear hb); (try clear hb2); (try clear hk); (try clear hi)))
  repeat (go_quiet (first | (go_at_call 11; (with_reducible refine (sorrellaw04_head.calls k  t291 _ A2.out ?side1).mono ?_); (case side1 => exact GW.belowA hG (by repeat (first | (with_reducible first | exact HB.out | apply below_alloc | apply pw_below_drewN | apply below_drew1) | exact HB.out))); rintro e w4 ⟨rfl, hb⟩; have n0_ := Aside0.mk (below_step (by repeat (first | (with_reducible first | exact HB.out | apply below_alloc | apply pw_below_drewN | apply below_drew1) | exact HB.out)) hb); clear HB; have HB := n0_; clear n0_; (try clear hb); (try clear hb2); (try clear hk); (try clear hi))); try go_wp2_with (first | (go_at_call 11; (with_reducible refine (sorrellaw04_head.calls k  t291 _ A2.out ?side1).mono ?_); (case side1 => exact GW.belowA hG (by repeat (first | (with_reducible first | exact HB.out | apply below_alloc | apply pw_below_drewN | apply below_drew1) | exact HB.out))); rintro e w4 ⟨rfl, hb⟩; have n0_ := Aside0.mk (below_step (by repeat (first | (with_reducible first | exact HB.out | apply below_alloc | apply pw_below_drewN | apply below_drew1) | exact HB.out)) hb); clear HB; have HB := n0_; clear n0_; (try clear hb); (try clear hb2); (try clear hk); (try clear hi))))
  go_ret
  exact ⟨by first | rfl | (simp [errW_none, errW_some] <;> rfl) | (simp [*, errW_none, errW_some] <;> rfl), by repeat (first | (with_reducible first | exact HB.out | apply below_alloc | apply pw_below_drewN | apply below_drew1) | exact HB.out)⟩
 ·rw [if_neg c3] at H
  have c3b0 : decide (3000 < (a0.size : Int)) = false := decide_eq_false c3
  have c3b1 : decide (3000 < a0.size) = false := decide_eq_false (by omega)
  clear c3
  replace H := Option.bind_eq_some_iff.mp H
  obtain ⟨⟨t292, t293, t294⟩, A50, H⟩ := H
  replace H : (if t294 = 0 then (sorrellaw04_LexAgain.l0 k t291 t292 (⟨#[]⟩ : ByteArray) 0) else (some t291)) = some r := H
  have A5 := Aside0.mk A50
  clear A50
  by_cases c6 : t294 = 0
  ·rw [if_pos c6] at H
   have c6b0 : (t294 == 0) = true := beq_iff_eq.mpr c6
   have c6b1 : (t294 != 0) = false := bne_eq_false_iff_eq.mpr c6
   clear c6
   have H' := Aside0.mk H
   clear H
   go_enter Tryd.func7, Tryd.ntmps7
   go_wp2_with (first | (go_at_call 11; (with_reducible refine (sorrellaw04_head.calls k  t291 _ A2.out ?side1).mono ?_); (case side1 => exact GW.belowA hG (by repeat (first | (with_reducible first | exact HB.out | apply below_alloc | apply pw_below_drewN | apply below_drew1) | exact HB.out))); rintro e w7 ⟨rfl, hb⟩; have n0_ := Aside0.mk (below_step (by repeat (first | (with_reducible first | exact HB.out | apply below_alloc | apply pw_below_drewN | apply below_drew1) | exact HB.out)) hb); clear HB; have HB := n0_; clear n0_; (try clear hb); (try clear hb2); (try clear hk); (try clear hi)) | (go_at_call 12; (with_reducible refine (lex_Lex.calls a0 t292 t293 t294 _ A5.out ?side1).mono ?_); (case side1 => exact GW.belowA hG (by repeat (first | (with_reducible first | exact HB.out | apply below_alloc | apply pw_below_drewN | apply below_drew1) | exact HB.out))); rintro e w8 ⟨v295, rfl, ho0, hb⟩; have n0_ := Aside0.mk (Kd.R_lower ho0 (below_size (by repeat (first | (with_reducible first | exact HB.out | apply below_alloc | apply pw_below_drewN | apply below_drew1) | exact HB.out)))); have n1_ := Aside0.mk (below_step (by repeat (first | (with_reducible first | exact HB.out | apply below_alloc | apply pw_below_drewN | apply below_drew1) | exact HB.out)) hb); clear HB; have HO296 := n0_; have HB := n1_; clear n0_ n1_; (try clear hb); (try clear hb2); (try clear hk); (try clear hi); (try clear ho0)))
   repeat (go_quiet (first | (go_at_call 11; (with_reducible refine (sorrellaw04_head.calls k  t291 _ A2.out ?side1).mono ?_); (case side1 => exact GW.belowA hG (by repeat (first | (with_reducible first | exact HB.out | apply below_alloc | apply pw_below_drewN | apply below_drew1) | exact HB.out))); rintro e w7 ⟨rfl, hb⟩; have n0_ := Aside0.mk (below_step (by repeat (first | (with_reducible first | exact HB.out | apply below_alloc | apply pw_below_drewN | apply below_drew1) | exact HB.out)) hb); clear HB; have HB := n0_; clear n0_; (try clear hb); (try clear hb2); (try clear hk); (try clear hi)) | (go_at_call 12; (with_reducible refine (lex_Lex.calls a0 t292 t293 t294 _ A5.out ?side1).mono ?_); (case side1 => exact GW.belowA hG (by repeat (first | (with_reducible first | exact HB.out | apply below_alloc | apply pw_below_drewN | apply below_drew1) | exact HB.out))); rintro e w8 ⟨v295, rfl, ho0, hb⟩; have n0_ := Aside0.mk (Kd.R_lower ho0 (below_size (by repeat (first | (with_reducible first | exact HB.out | apply below_alloc | apply pw_below_drewN | apply below_drew1) | exact HB.out)))); have n1_ := Aside0.mk (below_step (by repeat (first | (with_reducible first | exact HB.out | apply below_alloc | apply pw_below_drewN | apply below_drew1) | exact HB.out)) hb); clear HB; have HO296 := n0_; have HB := n1_; clear n0_ n1_; (try clear hb); (try clear hb2); (try clear hk); (try clear hi); (try clear ho0))); try go_wp2_with (first | (go_at_call 11; (with_reducible refine (sorrellaw04_head.calls k  t291 _ A2.out ?side1).mono ?_); (case side1 => exact GW.belowA hG (by repeat (first | (with_reducible first | exact HB.out | apply below_alloc | apply pw_below_drewN | apply below_drew1) | exact HB.out))); rintro e w7 ⟨rfl, hb⟩; have n0_ := Aside0.mk (below_step (by repeat (first | (with_reducible first | exact HB.out | apply below_alloc | apply pw_below_drewN | apply below_drew1) | exact HB.out)) hb); clear HB; have HB := n0_; clear n0_; (try clear hb); (try clear hb2); (try clear hk); (try clear hi)) | (go_at_call 12; (with_reducible refine (lex_Lex.calls a0 t292 t293 t294 _ A5.out ?side1).mono ?_); (case side1 => exact GW.belowA hG (by repeat (first | (with_reducible first | exact HB.out | apply below_alloc | apply pw_below_drewN | apply below_drew1) | exact HB.out))); rintro e w8 ⟨v295, rfl, ho0, hb⟩; have n0_ := Aside0.mk (Kd.R_lower ho0 (below_size (by repeat (first | (with_reducible first | exact HB.out | apply below_alloc | apply pw_below_drewN | apply below_drew1) | exact HB.out)))); have n1_ := Aside0.mk (below_step (by repeat (first | (with_reducible first | exact HB.out | apply below_alloc | apply pw_below_drewN | apply below_drew1) | exact HB.out)) hb); clear HB; have HO296 := n0_; have HB := n1_; clear n0_ n1_; (try clear hb); (try clear hb2); (try clear hk); (try clear hi); (try clear ho0))))
   go_loopg [7, 8] k (fun kq v7 v8 w' => ∃ (x7_1 : ByteArray) (x8_1 : Int), v7 = .string x7_1 ∧ v8 = .int .i64 x8_1 ∧ Aside0 (sorrellaw04_LexAgain.l0 kq t291 t292 x7_1 x8_1 = some r) ∧ Aside0 (kq ≤ k) ∧ Aside0 (Kd.R k30 30 w' w.heap.size (fun _ => True) v295 t292) ∧ Aside0 (Below w.heap.size w w'))
   case atStart => exact ⟨((⟨#[]⟩ : ByteArray)), (0), (by first | rfl | (simp; done) | (simp [*]; done)), (by first | rfl | (simp; done) | (simp [*]; done)), H', ⟨Nat.le_refl _⟩, ⟨by (with_reducible repeat (first | apply Kd.R_alloc | apply Kd.R_drewN | apply Kd.R_drew)); exact HO296.out⟩, ⟨by repeat (first | (with_reducible first | exact HB.out | apply below_alloc | apply pw_below_drewN | apply below_drew1) | exact HB.out)⟩⟩
   case round =>
    clear H'
    try clear p2
    try clear c3
    try clear c3b0
    try clear c3b1
    try clear c6
    try clear c6b0
    try clear c6b1
    try clear c7
    obtain ⟨x7_1, x8_1, rfl, rfl, HA, HK1, HO_4, HB⟩ := hrel
    cases gk with
    | zero => exact absurd HA.out (by simp [sorrellaw04_LexAgain.l0])
    | succ k1 =>
     have H := HA.out
     clear HA
     simp only [sorrellaw04_LexAgain.l0] at H
     by_cases c9 : x8_1 < (t292.length : Int)
     ·rw [if_pos c9] at H
      have c9b0 : decide (x8_1 < (t292.length : Int)) = true := decide_eq_true c9
      clear c9
      by_cases c10 : 0 ≤ x8_1
      ·rw [if_pos c10] at H
       have c10b0 : decide (0 ≤ x8_1) = true := decide_eq_true c10
       clear c10
       by_cases c11 : ((rd_T30 t292 x8_1).f0) = 1
       ·rw [if_pos c11] at H
        have c11b0 : (((rd_T30 t292 x8_1).f0) == 1) = true := beq_iff_eq.mpr c11
        have c11b1 : (((rd_T30 t292 x8_1).f0) != 1) = false := bne_eq_false_iff_eq.mpr c11
        clear c11
        replace H := Option.bind_eq_some_iff.mp H
        obtain ⟨t299, A120, H⟩ := H
        replace H : (if t299 = true then (if x7_1.size + ((rd_T30 t292 x8_1).f1).size ≤ 9223372036854775807 then (if (x7_1 ++ ((rd_T30 t292 x8_1).f1)).size + 1 ≤ 9223372036854775807 then (sorrellaw04_LexAgain.l0 k1 t291 t292 ((x7_1 ++ ((rd_T30 t292 x8_1).f1)) ++ (⟨#[32]⟩ : ByteArray)) (wrap64 (x8_1 + 1))) else (none)) else (none)) else (if x7_1.size + 1 ≤ 9223372036854775807 then (if (x7_1 ++ (⟨#[39]⟩ : ByteArray)).size + ((rd_T30 t292 x8_1).f1).size ≤ 9223372036854775807 then (if ((x7_1 ++ (⟨#[39]⟩ : ByteArray)) ++ ((rd_T30 t292 x8_1).f1)).size + 2 ≤ 9223372036854775807 then (sorrellaw04_LexAgain.l0 k1 t291 t292 (((x7_1 ++ (⟨#[39]⟩ : ByteArray)) ++ ((rd_T30 t292 x8_1).f1)) ++ (⟨#[39, 32]⟩ : ByteArray)) (wrap64 (x8_1 + 1))) else (none)) else (none)) else (none))) = some r := H
        have A12 := Aside0.mk A120
        clear A120
        by_cases c13 : t299 = true
        ·subst c13
         have H1 : (if x7_1.size + ((rd_T30 t292 x8_1).f1).size ≤ 9223372036854775807 then (if (x7_1 ++ ((rd_T30 t292 x8_1).f1)).size + 1 ≤ 9223372036854775807 then (sorrellaw04_LexAgain.l0 k1 t291 t292 ((x7_1 ++ ((rd_T30 t292 x8_1).f1)) ++ (⟨#[32]⟩ : ByteArray)) (wrap64 (x8_1 + 1))) else (none)) else (none)) = some r := by rw [if_pos rfl] at H; exact H
         clear H
         have H := H1
         clear H1
         by_cases c14 : x7_1.size + ((rd_T30 t292 x8_1).f1).size ≤ 9223372036854775807
         ·rw [if_pos c14] at H
          have c14b0 := eq_true c14
          have c14b1 : decide (x7_1.size + ((rd_T30 t292 x8_1).f1).size ≤ 9223372036854775807) = true := decide_eq_true c14
          try have c14b2 : (9223372036854775807 < x7_1.size + ((rd_T30 t292 x8_1).f1).size) = False := eq_false (Nat.not_lt.2 c14)
          by_cases c15 : (x7_1 ++ ((rd_T30 t292 x8_1).f1)).size + 1 ≤ 9223372036854775807
          ·rw [if_pos c15] at H
           have c15b0 := eq_true c15
           have c15b1 : decide ((x7_1 ++ ((rd_T30 t292 x8_1).f1)).size + 1 ≤ 9223372036854775807) = true := decide_eq_true c15
           try have c15b2 : (9223372036854775807 < (x7_1 ++ ((rd_T30 t292 x8_1).f1)).size + 1) = False := eq_false (Nat.not_lt.2 c15)
           try have c15b4 : (9223372036854775807 < x7_1.size + ((rd_T30 t292 x8_1).f1).size + 1) = False := eq_false (Nat.not_lt.2 (by have h := c15; (repeat rw [ByteArray.size_append] at h); exact h))
           have H' := Aside0.mk H
           clear H
           obtain ⟨Ao16, co16, eo16⟩ := Kd.R_slice HO_4.out
           subst eo16
           have p297 : 0 ≤ (x8_1 : Int) := of_decide_eq_true (by first | (with_reducible assumption) | assumption)
           have q297 : x8_1 < (t292.length : Int) := of_decide_eq_true (by first | (with_reducible assumption) | assumption)
           obtain ⟨ad297, e297, hx297_0, hx297_1, hx297_2, hx297_3⟩ := at_T30 (Kd.R_reads' HO_4.out).2.2 x8_1 p297 q297
           cases e297
           replace p297 := eq_true p297
           replace q297 := eq_true q297
           have p298 : 0 ≤ (x8_1 : Int) := of_decide_eq_true (by first | (with_reducible assumption) | assumption)
           have q298 : x8_1 < (t292.length : Int) := of_decide_eq_true (by first | (with_reducible assumption) | assumption)
           obtain ⟨ad298, e298, hx298_0, hx298_1, hx298_2, hx298_3⟩ := at_T30 (Kd.R_reads' HO_4.out).2.2 x8_1 p298 q298
           obtain rfl : ad297 = ad298 := (by injection e298)
           replace p298 := eq_true p298
           replace q298 := eq_true q298
           go_wp2_with (first | (go_at_call 17; (with_reducible refine (sorrellaw04_plain.calls k1 ((rd_T30 t292 x8_1).f1) true _ A12.out).mono ?_); rintro e w' ⟨rfl, ⟨nd, rfl⟩⟩; (try first | exact ⟨rfl, _, World.drewN_drewN _ _ _⟩ | exact ⟨rfl, _, Eq.trans (World.drewN_drewN _ _ _) (congrArg (World.drewN _) (Nat.add_assoc _ _ _))⟩); have p300 : 0 ≤ (x8_1 : Int) := of_decide_eq_true (by first | (with_reducible assumption) | assumption); have q300 : x8_1 < (t292.length : Int) := of_decide_eq_true (by first | (with_reducible assumption) | assumption); obtain ⟨ad300, e300, hx300_0, hx300_1, hx300_2, hx300_3⟩ := at_T30 (Kd.R_reads' HO_4.out).2.2 x8_1 p300 q300; obtain rfl : ad297 = ad300 := (by injection e300); replace p300 := eq_true p300; replace q300 := eq_true q300))
           repeat (go_quiet (first | (go_at_call 17; (with_reducible refine (sorrellaw04_plain.calls k1 ((rd_T30 t292 x8_1).f1) true _ A12.out).mono ?_); rintro e w' ⟨rfl, ⟨nd, rfl⟩⟩; (try first | exact ⟨rfl, _, World.drewN_drewN _ _ _⟩ | exact ⟨rfl, _, Eq.trans (World.drewN_drewN _ _ _) (congrArg (World.drewN _) (Nat.add_assoc _ _ _))⟩); have p300 : 0 ≤ (x8_1 : Int) := of_decide_eq_true (by first | (with_reducible assumption) | assumption); have q300 : x8_1 < (t292.length : Int) := of_decide_eq_true (by first | (with_reducible assumption) | assumption); obtain ⟨ad300, e300, hx300_0, hx300_1, hx300_2, hx300_3⟩ := at_T30 (Kd.R_reads' HO_4.out).2.2 x8_1 p300 q300; obtain rfl : ad297 = ad300 := (by injection e300); replace p300 := eq_true p300; replace q300 := eq_true q300)); try go_wp2_with (first | (go_at_call 17; (with_reducible refine (sorrellaw04_plain.calls k1 ((rd_T30 t292 x8_1).f1) true _ A12.out).mono ?_); rintro e w' ⟨rfl, ⟨nd, rfl⟩⟩; (try first | exact ⟨rfl, _, World.drewN_drewN _ _ _⟩ | exact ⟨rfl, _, Eq.trans (World.drewN_drewN _ _ _) (congrArg (World.drewN _) (Nat.add_assoc _ _ _))⟩); have p300 : 0 ≤ (x8_1 : Int) := of_decide_eq_true (by first | (with_reducible assumption) | assumption); have q300 : x8_1 < (t292.length : Int) := of_decide_eq_true (by first | (with_reducible assumption) | assumption); obtain ⟨ad300, e300, hx300_0, hx300_1, hx300_2, hx300_3⟩ := at_T30 (Kd.R_reads' HO_4.out).2.2 x8_1 p300 q300; obtain rfl : ad297 = ad300 := (by injection e300); replace p300 := eq_true p300; replace q300 := eq_true q300)))
           go_roundg k1
           case measure => have := HK1.out; omega
           case rel => exact ⟨((x7_1 ++ ((rd_T30 t292 x8_1).f1)) ++ (⟨#[32]⟩ : ByteArray)), (wrap64 (x8_1 + 1)), (by first | rfl | (simp; done) | (simp [*]; done)), (by first | rfl | (simp; done) | (simp [*]; done)), H', ⟨by have := HK1.out; omega⟩, ⟨by (with_reducible repeat (first | apply Kd.R_alloc | apply Kd.R_drewN | apply Kd.R_drew)); exact HO_4.out⟩, ⟨by repeat (first | (with_reducible first | exact HB.out | apply below_alloc | apply pw_below_drewN | apply below_drew1) | exact HB.out)⟩⟩
          ·rw [if_neg c15] at H
           exact absurd H (by simp)
         ·rw [if_neg c14] at H
          exact absurd H (by simp)
        ·replace c13 := Bool.eq_false_iff.mpr c13
         subst c13
         have H1 : (if x7_1.size + 1 ≤ 9223372036854775807 then (if (x7_1 ++ (⟨#[39]⟩ : ByteArray)).size + ((rd_T30 t292 x8_1).f1).size ≤ 9223372036854775807 then (if ((x7_1 ++ (⟨#[39]⟩ : ByteArray)) ++ ((rd_T30 t292 x8_1).f1)).size + 2 ≤ 9223372036854775807 then (sorrellaw04_LexAgain.l0 k1 t291 t292 (((x7_1 ++ (⟨#[39]⟩ : ByteArray)) ++ ((rd_T30 t292 x8_1).f1)) ++ (⟨#[39, 32]⟩ : ByteArray)) (wrap64 (x8_1 + 1))) else (none)) else (none)) else (none)) = some r := by rw [if_neg (show ¬ (false = true) by decide)] at H; exact H
         clear H
         have H := H1
         clear H1
         by_cases c17 : x7_1.size + 1 ≤ 9223372036854775807
         ·rw [if_pos c17] at H
          have c17b0 := eq_true c17
          have c17b1 : decide (x7_1.size + 1 ≤ 9223372036854775807) = true := decide_eq_true c17
          try have c17b2 : (9223372036854775807 < x7_1.size + 1) = False := eq_false (Nat.not_lt.2 c17)
          by_cases c18 : (x7_1 ++ (⟨#[39]⟩ : ByteArray)).size + ((rd_T30 t292 x8_1).f1).size ≤ 9223372036854775807
          ·rw [if_pos c18] at H
           have c18b0 := eq_true c18
           have c18b1 : decide ((x7_1 ++ (⟨#[39]⟩ : ByteArray)).size + ((rd_T30 t292 x8_1).f1).size ≤ 9223372036854775807) = true := decide_eq_true c18
           try have c18b2 : (9223372036854775807 < (x7_1 ++ (⟨#[39]⟩ : ByteArray)).size + ((rd_T30 t292 x8_1).f1).size) = False := eq_false (Nat.not_lt.2 c18)
           try have c18b4 : (9223372036854775807 < x7_1.size + 1 + ((rd_T30 t292 x8_1).f1).size) = False := eq_false (Nat.not_lt.2 (by have h := c18; (repeat rw [ByteArray.size_append] at h); exact h))
           by_cases c19 : ((x7_1 ++ (⟨#[39]⟩ : ByteArray)) ++ ((rd_T30 t292 x8_1).f1)).size + 2 ≤ 9223372036854775807
           ·rw [if_pos c19] at H
            have c19b0 := eq_true c19
            have c19b1 : decide (((x7_1 ++ (⟨#[39]⟩ : ByteArray)) ++ ((rd_T30 t292 x8_1).f1)).size + 2 ≤ 9223372036854775807) = true := decide_eq_true c19
            try have c19b2 : (9223372036854775807 < ((x7_1 ++ (⟨#[39]⟩ : ByteArray)) ++ ((rd_T30 t292 x8_1).f1)).size + 2) = False := eq_false (Nat.not_lt.2 c19)
            try have c19b4 : (9223372036854775807 < x7_1.size + 1 + ((rd_T30 t292 x8_1).f1).size + 2) = False := eq_false (Nat.not_lt.2 (by have h := c19; (repeat rw [ByteArray.size_append] at h); exact h))
            have H' := Aside0.mk H
            clear H
            obtain ⟨Ao20, co20, eo20⟩ := Kd.R_slice HO_4.out
            subst eo20
            have p297 : 0 ≤ (x8_1 : Int) := of_decide_eq_true (by first | (with_reducible assumption) | assumption)
            have q297 : x8_1 < (t292.length : Int) := of_decide_eq_true (by first | (with_reducible assumption) | assumption)
            obtain ⟨ad297, e297, hx297_0, hx297_1, hx297_2, hx297_3⟩ := at_T30 (Kd.R_reads' HO_4.out).2.2 x8_1 p297 q297
            cases e297
            replace p297 := eq_true p297
            replace q297 := eq_true q297
            have p298 : 0 ≤ (x8_1 : Int) := of_decide_eq_true (by first | (with_reducible assumption) | assumption)
            have q298 : x8_1 < (t292.length : Int) := of_decide_eq_true (by first | (with_reducible assumption) | assumption)
            obtain ⟨ad298, e298, hx298_0, hx298_1, hx298_2, hx298_3⟩ := at_T30 (Kd.R_reads' HO_4.out).2.2 x8_1 p298 q298
            obtain rfl : ad297 = ad298 := (by injection e298)
            replace p298 := eq_true p298
            replace q298 := eq_true q298
            go_wp2_with (first | (go_at_call 17; (with_reducible refine (sorrellaw04_plain.calls k1 ((rd_T30 t292 x8_1).f1) false _ A12.out).mono ?_); rintro e w' ⟨rfl, ⟨nd, rfl⟩⟩; (try first | exact ⟨rfl, _, World.drewN_drewN _ _ _⟩ | exact ⟨rfl, _, Eq.trans (World.drewN_drewN _ _ _) (congrArg (World.drewN _) (Nat.add_assoc _ _ _))⟩); have p301 : 0 ≤ (x8_1 : Int) := of_decide_eq_true (by first | (with_reducible assumption) | assumption); have q301 : x8_1 < (t292.length : Int) := of_decide_eq_true (by first | (with_reducible assumption) | assumption); obtain ⟨ad301, e301, hx301_0, hx301_1, hx301_2, hx301_3⟩ := at_T30 (Kd.R_reads' HO_4.out).2.2 x8_1 p301 q301; obtain rfl : ad297 = ad301 := (by injection e301); replace p301 := eq_true p301; replace q301 := eq_true q301))
            repeat (go_quiet (first | (go_at_call 17; (with_reducible refine (sorrellaw04_plain.calls k1 ((rd_T30 t292 x8_1).f1) false _ A12.out).mono ?_); rintro e w' ⟨rfl, ⟨nd, rfl⟩⟩; (try first | exact ⟨rfl, _, World.drewN_drewN _ _ _⟩ | exact ⟨rfl, _, Eq.trans (World.drewN_drewN _ _ _) (congrArg (World.drewN _) (Nat.add_assoc _ _ _))⟩); have p301 : 0 ≤ (x8_1 : Int) := of_decide_eq_true (by first | (with_reducible assumption) | assumption); have q301 : x8_1 < (t292.length : Int) := of_decide_eq_true (by first | (with_reducible assumption) | assumption); obtain ⟨ad301, e301, hx301_0, hx301_1, hx301_2, hx301_3⟩ := at_T30 (Kd.R_reads' HO_4.out).2.2 x8_1 p301 q301; obtain rfl : ad297 = ad301 := (by injection e301); replace p301 := eq_true p301; replace q301 := eq_true q301)); try go_wp2_with (first | (go_at_call 17; (with_reducible refine (sorrellaw04_plain.calls k1 ((rd_T30 t292 x8_1).f1) false _ A12.out).mono ?_); rintro e w' ⟨rfl, ⟨nd, rfl⟩⟩; (try first | exact ⟨rfl, _, World.drewN_drewN _ _ _⟩ | exact ⟨rfl, _, Eq.trans (World.drewN_drewN _ _ _) (congrArg (World.drewN _) (Nat.add_assoc _ _ _))⟩); have p301 : 0 ≤ (x8_1 : Int) := of_decide_eq_true (by first | (with_reducible assumption) | assumption); have q301 : x8_1 < (t292.length : Int) := of_decide_eq_true (by first | (with_reducible assumption) | assumption); obtain ⟨ad301, e301, hx301_0, hx301_1, hx301_2, hx301_3⟩ := at_T30 (Kd.R_reads' HO_4.out).2.2 x8_1 p301 q301; obtain rfl : ad297 = ad301 := (by injection e301); replace p301 := eq_true p301; replace q301 := eq_true q301)))
            go_roundg k1
            case measure => have := HK1.out; omega
            case rel => exact ⟨(((x7_1 ++ (⟨#[39]⟩ : ByteArray)) ++ ((rd_T30 t292 x8_1).f1)) ++ (⟨#[39, 32]⟩ : ByteArray)), (wrap64 (x8_1 + 1)), (by first | rfl | (simp; done) | (simp [*]; done)), (by first | rfl | (simp; done) | (simp [*]; done)), H', ⟨by have := HK1.out; omega⟩, ⟨by (with_reducible repeat (first | apply Kd.R_alloc | apply Kd.R_drewN | apply Kd.R_drew)); exact HO_4.out⟩, ⟨by repeat (first | (with_reducible first | exact HB.out | apply below_alloc | apply pw_below_drewN | apply below_drew1) | exact HB.out)⟩⟩
           ·rw [if_neg c19] at H
            exact absurd H (by simp)
          ·rw [if_neg c18] at H
           exact absurd H (by simp)
         ·rw [if_neg c17] at H
          exact absurd H (by simp)
       ·rw [if_neg c11] at H
        have c11b0 : (((rd_T30 t292 x8_1).f0) == 1) = false := beq_eq_false_iff_ne.mpr c11
        have c11b1 : (((rd_T30 t292 x8_1).f0) != 1) = true := bne_iff_ne.mpr c11
        by_cases c21 : x7_1.size + ((rd_T30 t292 x8_1).f1).size ≤ 9223372036854775807
        ·rw [if_pos c21] at H
         have c21b0 := eq_true c21
         have c21b1 : decide (x7_1.size + ((rd_T30 t292 x8_1).f1).size ≤ 9223372036854775807) = true := decide_eq_true c21
         try have c21b2 : (9223372036854775807 < x7_1.size + ((rd_T30 t292 x8_1).f1).size) = False := eq_false (Nat.not_lt.2 c21)
         by_cases c22 : (x7_1 ++ ((rd_T30 t292 x8_1).f1)).size + 1 ≤ 9223372036854775807
         ·rw [if_pos c22] at H
          have c22b0 := eq_true c22
          have c22b1 : decide ((x7_1 ++ ((rd_T30 t292 x8_1).f1)).size + 1 ≤ 9223372036854775807) = true := decide_eq_true c22
          try have c22b2 : (9223372036854775807 < (x7_1 ++ ((rd_T30 t292 x8_1).f1)).size + 1) = False := eq_false (Nat.not_lt.2 c22)
          try have c22b4 : (9223372036854775807 < x7_1.size + ((rd_T30 t292 x8_1).f1).size + 1) = False := eq_false (Nat.not_lt.2 (by have h := c22; (repeat rw [ByteArray.size_append] at h); exact h))
          have H' := Aside0.mk H
          clear H
          obtain ⟨Ao23, co23, eo23⟩ := Kd.R_slice HO_4.out
          subst eo23
          have p297 : 0 ≤ (x8_1 : Int) := of_decide_eq_true (by first | (with_reducible assumption) | assumption)
          have q297 : x8_1 < (t292.length : Int) := of_decide_eq_true (by first | (with_reducible assumption) | assumption)
          obtain ⟨ad297, e297, hx297_0, hx297_1, hx297_2, hx297_3⟩ := at_T30 (Kd.R_reads' HO_4.out).2.2 x8_1 p297 q297
          cases e297
          replace p297 := eq_true p297
          replace q297 := eq_true q297
          have p302 : 0 ≤ (x8_1 : Int) := of_decide_eq_true (by first | (with_reducible assumption) | assumption)
          have q302 : x8_1 < (t292.length : Int) := of_decide_eq_true (by first | (with_reducible assumption) | assumption)
          obtain ⟨ad302, e302, hx302_0, hx302_1, hx302_2, hx302_3⟩ := at_T30 (Kd.R_reads' HO_4.out).2.2 x8_1 p302 q302
          obtain rfl : ad297 = ad302 := (by injection e302)
          replace p302 := eq_true p302
          replace q302 := eq_true q302
          go_wp2
          repeat (go_quiet (fail); try go_wp2)
          go_roundg k1
          case measure => have := HK1.out; omega
          case rel => exact ⟨((x7_1 ++ ((rd_T30 t292 x8_1).f1)) ++ (⟨#[32]⟩ : ByteArray)), (wrap64 (x8_1 + 1)), (by first | rfl | (simp; done) | (simp [*]; done)), (by first | rfl | (simp; done) | (simp [*]; done)), H', ⟨by have := HK1.out; omega⟩, ⟨by (with_reducible repeat (first | apply Kd.R_alloc | apply Kd.R_drewN | apply Kd.R_drew)); exact HO_4.out⟩, ⟨by repeat (first | (with_reducible first | exact HB.out | apply below_alloc | apply pw_below_drewN | apply below_drew1) | exact HB.out)⟩⟩
         ·rw [if_neg c22] at H
          exact absurd H (by simp)
        ·rw [if_neg c21] at H
         exact absurd H (by simp)
      ·rw [if_neg c10] at H
       exact absurd H (by simp)
     ·rw [if_neg c9] at H
      have c9b0 : decide (x8_1 < (t292.length : Int)) = false := decide_eq_false c9
      clear c9
      replace H := Option.bind_eq_some_iff.mp H
      obtain ⟨⟨t303, t304, t305⟩, A240, H⟩ := H
      replace H : (if t305 = 0 then (sorrellaw04_LexAgain.j1 k1 t291 t292 t303 ((t303.length : Int) != (t292.length : Int))) else (sorrellaw04_LexAgain.j1 k1 t291 t292 t303 true)) = some r := H
      have A24 := Aside0.mk A240
      clear A240
      have HC25 := Aside0.mk H
      clear H
      obtain ⟨Ao26, co26, eo26⟩ := Kd.R_slice HO_4.out
      subst eo26
      go_upto_region 15 with (first | (go_at_call 12; (with_reducible refine (lex_Lex.calls x7_1 t303 t304 t305 _ A24.out ?side1).mono ?_); (case side1 => exact GW.belowA hG (by repeat (first | (with_reducible first | exact HB.out | apply below_alloc | apply pw_below_drewN | apply below_drew1) | exact HB.out))); rintro e w27 ⟨v306, rfl, ho0, hb⟩; have n0_ := Aside0.mk (Kd.R_elder' (by (with_reducible repeat (first | apply Kd.R_alloc | apply Kd.R_drewN | apply Kd.R_drew)); exact HO_4.out) (Kd.R_base ho0) hb); have n1_ := Aside0.mk (Kd.R_lower (Kd.R_new' ho0 (Kd.R_lt (by (with_reducible repeat (first | apply Kd.R_alloc | apply Kd.R_drewN | apply Kd.R_drew)); exact HO_4.out))) (below_size (by repeat (first | (with_reducible first | exact HB.out | apply below_alloc | apply pw_below_drewN | apply below_drew1) | exact HB.out)))); have n2_ := Aside0.mk (below_step (by repeat (first | (with_reducible first | exact HB.out | apply below_alloc | apply pw_below_drewN | apply below_drew1) | exact HB.out)) hb); clear HO_4; clear HB; have HO_4 := n0_; have HO307 := n1_; have HB := n2_; clear n0_ n1_ n2_; (try clear hb); (try clear hb2); (try clear hk); (try clear hi); (try clear ho0)))
      repeat (go_quiet (first | (go_at_call 12; (with_reducible refine (lex_Lex.calls x7_1 t303 t304 t305 _ A24.out ?side1).mono ?_); (case side1 => exact GW.belowA hG (by repeat (first | (with_reducible first | exact HB.out | apply below_alloc | apply pw_below_drewN | apply below_drew1) | exact HB.out))); rintro e w27 ⟨v306, rfl, ho0, hb⟩; have n0_ := Aside0.mk (Kd.R_elder' (by (with_reducible repeat (first | apply Kd.R_alloc | apply Kd.R_drewN | apply Kd.R_drew)); exact HO_4.out) (Kd.R_base ho0) hb); have n1_ := Aside0.mk (Kd.R_lower (Kd.R_new' ho0 (Kd.R_lt (by (with_reducible repeat (first | apply Kd.R_alloc | apply Kd.R_drewN | apply Kd.R_drew)); exact HO_4.out))) (below_size (by repeat (first | (with_reducible first | exact HB.out | apply below_alloc | apply pw_below_drewN | apply below_drew1) | exact HB.out)))); have n2_ := Aside0.mk (below_step (by repeat (first | (with_reducible first | exact HB.out | apply below_alloc | apply pw_below_drewN | apply below_drew1) | exact HB.out)) hb); clear HO_4; clear HB; have HO_4 := n0_; have HO307 := n1_; have HB := n2_; clear n0_ n1_ n2_; (try clear hb); (try clear hb2); (try clear hk); (try clear hi); (try clear ho0))); go_upto_region 15 with (first | (go_at_call 12; (with_reducible refine (lex_Lex.calls x7_1 t303 t304 t305 _ A24.out ?side1).mono ?_); (case side1 => exact GW.belowA hG (by repeat (first | (with_reducible first | exact HB.out | apply below_alloc | apply pw_below_drewN | apply below_drew1) | exact HB.out))); rintro e w27 ⟨v306, rfl, ho0, hb⟩; have n0_ := Aside0.mk (Kd.R_elder' (by (with_reducible repeat (first | apply Kd.R_alloc | apply Kd.R_drewN | apply Kd.R_drew)); exact HO_4.out) (Kd.R_base ho0) hb); have n1_ := Aside0.mk (Kd.R_lower (Kd.R_new' ho0 (Kd.R_lt (by (with_reducible repeat (first | apply Kd.R_alloc | apply Kd.R_drewN | apply Kd.R_drew)); exact HO_4.out))) (below_size (by repeat (first | (with_reducible first | exact HB.out | apply below_alloc | apply pw_below_drewN | apply below_drew1) | exact HB.out)))); have n2_ := Aside0.mk (below_step (by repeat (first | (with_reducible first | exact HB.out | apply below_alloc | apply pw_below_drewN | apply below_drew1) | exact HB.out)) hb); clear HO_4; clear HB; have HO_4 := n0_; have HO307 := n1_; have HB := n2_; clear n0_ n1_ n2_; (try clear hb); (try clear hb2); (try clear hk); (try clear hi); (try clear ho0))))
      (try simp only [Act.put, List.setIfInBounds_toArray, List.set_cons_zero, List.set_cons_succ])
      go_cut [81] (fun v81 wc => ∃ (kq : Nat) (x81_24 : Bool), v81 = .bool x81_24 ∧ Aside0 (sorrellaw04_LexAgain.j1 kq t291 t292 t303 x81_24 = some r) ∧ Aside0 (kq ≤ k1) ∧ Aside0 (Kd.R k30 30 wc w.heap.size (fun k_ => some k_ ≠ (v306 : Value).ownBlock) (.slice Ao26 t292.length co26) t292) ∧ Aside0 (Kd.R k30 30 wc w.heap.size (fun k_ => some k_ ≠ ((.slice Ao26 t292.length co26) : Value).ownBlock) v306 t303) ∧ Aside0 (Below w.heap.size w wc))
      case first =>
       have H := HC25.out
       clear HC25
       by_cases c28 : t305 = 0
       ·rw [if_pos c28] at H
        have c28b0 : (t305 == 0) = true := beq_iff_eq.mpr c28
        have c28b1 : (t305 != 0) = false := bne_eq_false_iff_eq.mpr c28
        clear c28
        (first | rw [c28b0] | (simp only [i64_w, i32_w]; rw [c28b0]) | skip)
        have H' := Aside0.mk H
        clear H
        obtain ⟨Ao29, co29, eo29⟩ := Kd.R_slice HO307.out
        subst eo29
        go_wp2
        repeat (go_quiet (fail); try go_wp2)
        go_meet
        case rel => exact ⟨_, (((t303.length : Int) != (t292.length : Int))), (by first | rfl | (simp; done) | (simp [*]; done)), H', ⟨by have := HK1.out; first | omega | exact Nat.le_refl _⟩, ⟨by (with_reducible repeat (first | apply Kd.R_alloc | apply Kd.R_drewN | apply Kd.R_drew)); exact Kd.R_mono HO_4.out (fun _ hk => hk.2)⟩, ⟨by (with_reducible repeat (first | apply Kd.R_alloc | apply Kd.R_drewN | apply Kd.R_drew)); exact Kd.R_mono HO307.out (fun _ hk => hk.2)⟩, ⟨by repeat (first | (with_reducible first | exact HB.out | apply below_alloc | apply pw_below_drewN | apply below_drew1) | exact HB.out)⟩⟩
       ·rw [if_neg c28] at H
        have c28b0 : (t305 == 0) = false := beq_eq_false_iff_ne.mpr c28
        have c28b1 : (t305 != 0) = true := bne_iff_ne.mpr c28
        (first | rw [c28b0] | (simp only [i64_w, i32_w]; rw [c28b0]) | skip)
        have H' := Aside0.mk H
        clear H
        go_wp2
        repeat (go_quiet (fail); try go_wp2)
        go_meet
        case rel => exact ⟨_, (true), (by first | rfl | (simp; done) | (simp [*]; done)), H', ⟨by have := HK1.out; first | omega | exact Nat.le_refl _⟩, ⟨by (with_reducible repeat (first | apply Kd.R_alloc | apply Kd.R_drewN | apply Kd.R_drew)); exact Kd.R_mono HO_4.out (fun _ hk => hk.2)⟩, ⟨by (with_reducible repeat (first | apply Kd.R_alloc | apply Kd.R_drewN | apply Kd.R_drew)); exact Kd.R_mono HO307.out (fun _ hk => hk.2)⟩, ⟨by repeat (first | (with_reducible first | exact HB.out | apply below_alloc | apply pw_below_drewN | apply below_drew1) | exact HB.out)⟩⟩
      case rest =>
       clear HC25
       try clear c1
       try clear c2
       try clear p2
       try clear q2
       try clear hx2
       try clear c3
       try clear c3b0
       try clear c3b1
       try clear p3
       try clear q3
       try clear hx3
       try clear c6
       try clear c6b0
       try clear c6b1
       try clear p6
       try clear c7
       try clear c9
       try clear c9b0
       try clear c10
       try clear c10b0
       try clear c11
       try clear c11b0
       try clear c11b1
       try clear c13
       try clear c14
       try clear c14b0
       try clear c14b1
       try clear c14b2
       try clear c15
       try clear c15b0
       try clear c15b1
       try clear c15b2
       try clear c17
       try clear c17b0
       try clear c17b1
       try clear c17b2
       try clear c18
       try clear c18b0
       try clear c18b1
       try clear c18b2
       try clear c19
       try clear c19b0
       try clear c19b1
       try clear c19b2
       try clear c21
       try clear c21b0
       try clear c21b1
       try clear c21b2
       try clear c22
       try clear c22b0
       try clear c22b1
       try clear c22b2
       try clear c28
       try clear c28b0
       try clear c28b1
       try clear p29
       try clear q29
       try clear hx29
       try clear hx297_0
       try clear hx297_1
       try clear hx297_2
       try clear hx297_3
       try clear hx298_0
       try clear hx298_1
       try clear hx298_2
       try clear hx298_3
       try clear hx300_0
       try clear hx300_1
       try clear hx300_2
       try clear hx300_3
       try clear hx301_0
       try clear hx301_1
       try clear hx301_2
       try clear hx301_3
       try clear hx302_0
       try clear hx302_1
       try clear hx302_2
       try clear hx302_3
       try clear p2
       try clear p297
       try clear p298
       try clear p300
       try clear p301
       try clear p302
       try clear q297
       try clear q298
       try clear q300
       try clear q301
       try clear q302
       obtain ⟨kq, x81_24, rfl, HA, HJ24, HO_4, HO_9, HB⟩ := hcut
       cases kq with
       | zero => exact absurd HA.out (by simp [sorrellaw04_LexAgain.j1])
       | succ kj24 =>
        have H := HA.out
        clear HA
        simp only [sorrellaw04_LexAgain.j1] at H
        by_cases c30 : x81_24 = true
        ·subst c30
         have H1 : (some false) = some r := by rw [if_pos rfl] at H; exact H
         clear H
         have H := H1
         clear H1
         obtain rfl := Option.some.inj H
         go_wp2
         repeat (go_quiet (fail); try go_wp2)
         go_ret
         exact ⟨by first | rfl | (simp [errW_none, errW_some] <;> rfl) | (simp [*, errW_none, errW_some] <;> rfl), by repeat (first | (with_reducible first | exact HB.out | apply below_alloc | apply pw_below_drewN | apply below_drew1) | exact HB.out)⟩
        ·replace c30 := Bool.eq_false_iff.mpr c30
         subst c30
         have H1 : (sorrellaw04_LexAgain.l1 kj24 t291 t292 t303 0) = some r := by rw [if_neg (show ¬ (false = true) by decide)] at H; exact H
         clear H
         have H := H1
         clear H1
         have H' := Aside0.mk H
         clear H
         go_wp2
         repeat (go_quiet (fail); try go_wp2)
         go_loopg [12] kj24 (fun kq v12 w' => ∃ (x12_3 : Int), v12 = .int .i64 x12_3 ∧ Aside0 (sorrellaw04_LexAgain.l1 kq t291 t292 t303 x12_3 = some r) ∧ Aside0 (kq ≤ kj24) ∧ Aside0 (Kd.R k30 30 w' w.heap.size (fun k_ => some k_ ≠ (v306 : Value).ownBlock) (.slice Ao26 t292.length co26) t292) ∧ Aside0 (Kd.R k30 30 w' w.heap.size (fun k_ => some k_ ≠ ((.slice Ao26 t292.length co26) : Value).ownBlock) v306 t303) ∧ Aside0 (Below w.heap.size w w'))
         case atStart => exact ⟨(0), (by first | rfl | (simp; done) | (simp [*]; done)), H', ⟨Nat.le_refl _⟩, ⟨by (with_reducible repeat (first | apply Kd.R_alloc | apply Kd.R_drewN | apply Kd.R_drew)); exact HO_4.out⟩, ⟨by (with_reducible repeat (first | apply Kd.R_alloc | apply Kd.R_drewN | apply Kd.R_drew)); exact HO_9.out⟩, ⟨by repeat (first | (with_reducible first | exact HB.out | apply below_alloc | apply pw_below_drewN | apply below_drew1) | exact HB.out)⟩⟩
         case round =>
          clear H'
          try clear c1
          try clear c2
          try clear p2
          try clear q2
          try clear hx2
          try clear c3
          try clear c3b0
          try clear c3b1
          try clear p3
          try clear q3
          try clear hx3
          try clear c6
          try clear c6b0
          try clear c6b1
          try clear p6
          try clear c7
          try clear c9
          try clear c9b0
          try clear c10
          try clear c10b0
          try clear c11
          try clear c11b0
          try clear c11b1
          try clear c13
          try clear c14
          try clear c14b0
          try clear c14b1
          try clear c14b2
          try clear c15
          try clear c15b0
          try clear c15b1
          try clear c15b2
          try clear c17
          try clear c17b0
          try clear c17b1
          try clear c17b2
          try clear c18
          try clear c18b0
          try clear c18b1
          try clear c18b2
          try clear c19
          try clear c19b0
          try clear c19b1
          try clear c19b2
          try clear c21
          try clear c21b0
          try clear c21b1
          try clear c21b2
          try clear c22
          try clear c22b0
          try clear c22b1
          try clear c22b2
          try clear c28
          try clear c28b0
          try clear c28b1
          try clear p29
          try clear q29
          try clear hx29
          try clear c30
          try clear p30
          try clear q30
          try clear hx30
          try clear hx297_0
          try clear hx297_1
          try clear hx297_2
          try clear hx297_3
          try clear hx298_0
          try clear hx298_1
          try clear hx298_2
          try clear hx298_3
          try clear hx300_0
          try clear hx300_1
          try clear hx300_2
          try clear hx300_3
          try clear hx301_0
          try clear hx301_1
          try clear hx301_2
          try clear hx301_3
          try clear hx302_0
          try clear hx302_1
          try clear hx302_2
          try clear hx302_3
          try clear p2
          try clear p29
          try clear p297
          try clear p298
          try clear p3
          try clear p300
          try clear p301
          try clear p302
          try clear p6
          try clear q2
          try clear q29
          try clear q297
          try clear q298
          try clear q3
          try clear q300
          try clear q301
          try clear q302
          obtain ⟨x12_3, rfl, HA, HK3, HO_4, HO_9, HB⟩ := hrel
          cases gk with
          | zero => exact absurd HA.out (by simp [sorrellaw04_LexAgain.l1])
          | succ k3 =>
           have H := HA.out
           clear HA
           simp only [sorrellaw04_LexAgain.l1] at H
           by_cases c31 : x12_3 < (t292.length : Int)
           ·rw [if_pos c31] at H
            have c31b0 : decide (x12_3 < (t292.length : Int)) = true := decide_eq_true c31
            clear c31
            by_cases c32 : 0 ≤ x12_3
            ·rw [if_pos c32] at H
             have c32b0 : decide (0 ≤ x12_3) = true := decide_eq_true c32
             clear c32
             by_cases c33 : x12_3 < (t303.length : Int)
             ·rw [if_pos c33] at H
              have c33b0 : decide (x12_3 < (t303.length : Int)) = true := decide_eq_true c33
              clear c33
              obtain ⟨Ao36, co36, eo36⟩ := Kd.R_slice HO_9.out
              subst eo36
              have h0i : 0 ≤ (x12_3 : Int) := of_decide_eq_true c32b0
              have hlt : x12_3 < (t292.length : Int) := of_decide_eq_true c31b0
              have hlt1 : x12_3 < (t303.length : Int) := of_decide_eq_true c33b0
              obtain ⟨ad, e308, x0, x1, x2, x3⟩ := at_T30 (Kd.R_reads' HO_9.out).2.2 x12_3 h0i hlt1
              obtain ⟨bd, e309, y0, y1, y2, y3⟩ := at_T30 (Kd.R_reads' HO_4.out).2.2 x12_3 h0i hlt
              cases e308
              cases e309
              have HH := Aside0.mk H
              clear H
              generalize rd_T30 t303 x12_3 = p at *
              generalize rd_T30 t292 x12_3 = q at *
              obtain ⟨p0, p1, p2, p3⟩ := p
              obtain ⟨q0, q1, q2, q3⟩ := q
              try simp only at x0 x1 x2 x3 y0 y1 y2 y3
              by_cases c4 : q0 = 4
              · subst c4
                have z3 := pw_cell_below (below_alloc (Below.refl wr.heap.size wr) (.cells #[.int .i64 p0, .string p1, .int .i64 p2, .int .i64 p3] 30)) y3
                have zq0 := pw_cell_below (below_alloc (Below.refl wr.heap.size wr) (.cells #[.int .i64 p0, .string p1, .int .i64 p2, .int .i64 q3] 30)) y0
                have zq1 := pw_cell_below (below_alloc (Below.refl wr.heap.size wr) (.cells #[.int .i64 p0, .string p1, .int .i64 p2, .int .i64 q3] 30)) y1
                have zq2 := pw_cell_below (below_alloc (Below.refl wr.heap.size wr) (.cells #[.int .i64 p0, .string p1, .int .i64 p2, .int .i64 q3] 30)) y2
                have zq3 := pw_cell_below (below_alloc (Below.refl wr.heap.size wr) (.cells #[.int .i64 p0, .string p1, .int .i64 p2, .int .i64 q3] 30)) y3
                go_wp2
                clear z3 zq0 zq1 zq2 zq3
                obtain ⟨W, hW⟩ : ∃ W, W = wr.alloc (.cells #[.int .i64 p0, .string p1, .int .i64 p2, .int .i64 q3] 30) := ⟨_, rfl⟩
                have hbW : Below wr.heap.size wr W := by rw [hW]; exact below_alloc (Below.refl _ _) _
                have k0 : W.cell? ⟨wr.heap.size, 0, none⟩ = some (.int .i64 p0) := by rw [hW, World.cell?_alloc_new]; rfl
                have k1 : W.cell? ⟨wr.heap.size, 1, none⟩ = some (.string p1) := by rw [hW, World.cell?_alloc_new]; rfl
                have k2 : W.cell? ⟨wr.heap.size, 2, none⟩ = some (.int .i64 p2) := by rw [hW, World.cell?_alloc_new]; rfl
                have kk3 : W.cell? ⟨wr.heap.size, 3, none⟩ = some (.int .i64 q3) := by rw [hW, World.cell?_alloc_new]; rfl
                rw [← hW]
                replace y0 := pw_cell_below hbW y0
                replace y1 := pw_cell_below hbW y1
                replace y2 := pw_cell_below hbW y2
                replace y3 := pw_cell_below hbW y3
                have HBW := Aside0.mk (below_step HB.out hbW)
                have H4 : Aside0 (Kd.R k30 30 W w.heap.size (fun k_ => some k_ ≠ ((.slice (some ad) t303.length co36) : Value).ownBlock) (.slice (some bd) t292.length co26) t292) := ⟨by rw [hW]; apply Kd.R_alloc; exact HO_4.out⟩
                have H9 : Aside0 (Kd.R k30 30 W w.heap.size (fun k_ => some k_ ≠ ((.slice (some bd) t292.length co26) : Value).ownBlock) (.slice (some ad) t303.length co36) t303) := ⟨by rw [hW]; apply Kd.R_alloc; exact HO_9.out⟩
                clear hW hbW x0 x1 x2 x3 HB HO_4 HO_9
                have H := HH.out
                clear HH
                try simp only at H
                obtain ⟨ne, hne⟩ : ∃ ne, ne = (!(p0 == 4) || (!(p1.toList == q1.toList) || (!(p2 == q2)))) := ⟨_, rfl⟩
                rw [← hne] at H
                have hne' := hne.symm
                clear hne
                simp only [if_true] at H
                cases k3 with
                | zero => exact absurd H (by simp [sorrellaw04_LexAgain.j3])
                | succ k4 =>
                  have HK4 : Aside0 (k4 ≤ kj24) := ⟨by have := HK3.out; omega⟩
                  simp only [sorrellaw04_LexAgain.j3] at H
                  cases ne with
                  | true =>
                    rw [if_pos rfl] at H
                    by_cases c46 : q1.toList = ([46] : List UInt8)
                    · rw [if_pos c46] at H
                      have d46 : (q1.toList == ([46] : List UInt8)) = true := beq_iff_eq.mpr c46
                      have d46' : (q1.toList != ([46] : List UInt8)) = false := bne_eq_false_iff_eq.mpr c46
                      clear c46
                      by_cases c6 : p0 = 6
                      · rw [if_pos c6] at H
                        have d6 : (p0 == 6) = true := beq_iff_eq.mpr c6
                        have d6' : (p0 != 6) = false := bne_eq_false_iff_eq.mpr c6
                        clear c6
                        by_cases c66 : p1.toList = ([46] : List UInt8)
                        · have d66 : (p1.toList == ([46] : List UInt8)) = true := beq_iff_eq.mpr c66
                          have d66' : (p1.toList != ([46] : List UInt8)) = false := bne_eq_false_iff_eq.mpr c66
                          clear c66
                          rw [d66] at H
                          replace H : sorrellaw04_LexAgain.l1 k4 t291 t292 t303 (wrap64 (x12_3 + 1)) = some r := H
                          have H' := Aside0.mk H
                          clear H
                          go_wp2
                          repeat (go_quiet (fail); try go_wp2)
                          go_roundg k4
                          case measure => have := HK3.out; omega
                          case rel => exact ⟨(wrap64 (x12_3 + 1)), (by first | rfl | (simp; done) | (simp [*]; done)), H', HK4, ⟨by (with_reducible repeat (first | apply Kd.R_alloc | apply Kd.R_drewN | apply Kd.R_drew)); exact H4.out⟩, ⟨by (with_reducible repeat (first | apply Kd.R_alloc | apply Kd.R_drewN | apply Kd.R_drew)); exact H9.out⟩, ⟨by repeat (first | (with_reducible first | exact HBW.out | apply below_alloc | apply pw_below_drewN | apply below_drew1) | exact HBW.out)⟩⟩
                        · have d66 : (p1.toList == ([46] : List UInt8)) = false := beq_eq_false_iff_ne.mpr c66
                          have d66' : (p1.toList != ([46] : List UInt8)) = true := bne_iff_ne.mpr c66
                          clear c66
                          rw [d66] at H
                          replace H : some false = some r := H
                          obtain rfl := Option.some.inj H
                          go_wp2
                          repeat (go_quiet (fail); try go_wp2)
                          go_ret
                          exact ⟨by first | rfl | (simp [*]; done), by repeat (first | (with_reducible first | exact HBW.out | apply below_alloc | apply pw_below_drewN | apply below_drew1) | exact HBW.out)⟩
                      · rw [if_neg c6] at H
                        have d6 : (p0 == 6) = false := beq_eq_false_iff_ne.mpr c6
                        have d6' : (p0 != 6) = true := bne_iff_ne.mpr c6
                        clear c6
                        replace H : some false = some r := H
                        obtain rfl := Option.some.inj H
                        go_wp2
                        repeat (go_quiet (fail); try go_wp2)
                        go_ret
                        exact ⟨by first | rfl | (simp [*]; done), by repeat (first | (with_reducible first | exact HBW.out | apply below_alloc | apply pw_below_drewN | apply below_drew1) | exact HBW.out)⟩
                    · rw [if_neg c46] at H
                      have d46 : (q1.toList == ([46] : List UInt8)) = false := beq_eq_false_iff_ne.mpr c46
                      have d46' : (q1.toList != ([46] : List UInt8)) = true := bne_iff_ne.mpr c46
                      clear c46
                      replace H : some false = some r := H
                      obtain rfl := Option.some.inj H
                      go_wp2
                      repeat (go_quiet (fail); try go_wp2)
                      go_ret
                      exact ⟨by first | rfl | (simp [*]; done), by repeat (first | (with_reducible first | exact HBW.out | apply below_alloc | apply pw_below_drewN | apply below_drew1) | exact HBW.out)⟩
                  | false =>
                    rw [if_neg (by simp)] at H
                    replace H : sorrellaw04_LexAgain.l1 k4 t291 t292 t303 (wrap64 (x12_3 + 1)) = some r := H
                    have H' := Aside0.mk H
                    clear H
                    by_cases c46 : q1.toList = ([46] : List UInt8)
                    · have d46 : (q1.toList == ([46] : List UInt8)) = true := beq_iff_eq.mpr c46
                      have d46' : (q1.toList != ([46] : List UInt8)) = false := bne_eq_false_iff_eq.mpr c46
                      clear c46
                      go_wp2
                      repeat (go_quiet (fail); try go_wp2)
                      go_roundg k4
                      case measure => have := HK3.out; omega
                      case rel => exact ⟨(wrap64 (x12_3 + 1)), (by first | rfl | (simp; done) | (simp [*]; done)), H', HK4, ⟨by (with_reducible repeat (first | apply Kd.R_alloc | apply Kd.R_drewN | apply Kd.R_drew)); exact H4.out⟩, ⟨by (with_reducible repeat (first | apply Kd.R_alloc | apply Kd.R_drewN | apply Kd.R_drew)); exact H9.out⟩, ⟨by repeat (first | (with_reducible first | exact HBW.out | apply below_alloc | apply pw_below_drewN | apply below_drew1) | exact HBW.out)⟩⟩
                    · have d46 : (q1.toList == ([46] : List UInt8)) = false := beq_eq_false_iff_ne.mpr c46
                      have d46' : (q1.toList != ([46] : List UInt8)) = true := bne_iff_ne.mpr c46
                      clear c46
                      go_wp2
                      repeat (go_quiet (fail); try go_wp2)
                      go_roundg k4
                      case measure => have := HK3.out; omega
                      case rel => exact ⟨(wrap64 (x12_3 + 1)), (by first | rfl | (simp; done) | (simp [*]; done)), H', HK4, ⟨by (with_reducible repeat (first | apply Kd.R_alloc | apply Kd.R_drewN | apply Kd.R_drew)); exact H4.out⟩, ⟨by (with_reducible repeat (first | apply Kd.R_alloc | apply Kd.R_drewN | apply Kd.R_drew)); exact H9.out⟩, ⟨by repeat (first | (with_reducible first | exact HBW.out | apply below_alloc | apply pw_below_drewN | apply below_drew1) | exact HBW.out)⟩⟩
              · have d4 : (q0 == 4) = false := beq_eq_false_iff_ne.mpr c4
                have d4' : (q0 != 4) = true := bne_iff_ne.mpr c4
                have z3 := pw_cell_below (below_alloc (Below.refl wr.heap.size wr) (.cells #[.int .i64 p0, .string p1, .int .i64 p2, .int .i64 p3] 30)) y3
                have zq0 := pw_cell_below (below_alloc (Below.refl wr.heap.size wr) (.cells #[.int .i64 p0, .string p1, .int .i64 p2, .int .i64 q3] 30)) y0
                have zq1 := pw_cell_below (below_alloc (Below.refl wr.heap.size wr) (.cells #[.int .i64 p0, .string p1, .int .i64 p2, .int .i64 q3] 30)) y1
                have zq2 := pw_cell_below (below_alloc (Below.refl wr.heap.size wr) (.cells #[.int .i64 p0, .string p1, .int .i64 p2, .int .i64 q3] 30)) y2
                have zq3 := pw_cell_below (below_alloc (Below.refl wr.heap.size wr) (.cells #[.int .i64 p0, .string p1, .int .i64 p2, .int .i64 q3] 30)) y3
                go_wp2
                clear z3 zq0 zq1 zq2 zq3
                obtain ⟨W, hW⟩ : ∃ W, W = wr.alloc (.cells #[.int .i64 p0, .string p1, .int .i64 p2, .int .i64 q3] 30) := ⟨_, rfl⟩
                have hbW : Below wr.heap.size wr W := by rw [hW]; exact below_alloc (Below.refl _ _) _
                have k0 : W.cell? ⟨wr.heap.size, 0, none⟩ = some (.int .i64 p0) := by rw [hW, World.cell?_alloc_new]; rfl
                have k1 : W.cell? ⟨wr.heap.size, 1, none⟩ = some (.string p1) := by rw [hW, World.cell?_alloc_new]; rfl
                have k2 : W.cell? ⟨wr.heap.size, 2, none⟩ = some (.int .i64 p2) := by rw [hW, World.cell?_alloc_new]; rfl
                have kk3 : W.cell? ⟨wr.heap.size, 3, none⟩ = some (.int .i64 q3) := by rw [hW, World.cell?_alloc_new]; rfl
                rw [← hW]
                replace y0 := pw_cell_below hbW y0
                replace y1 := pw_cell_below hbW y1
                replace y2 := pw_cell_below hbW y2
                replace y3 := pw_cell_below hbW y3
                have HBW := Aside0.mk (below_step HB.out hbW)
                have H4 : Aside0 (Kd.R k30 30 W w.heap.size (fun k_ => some k_ ≠ ((.slice (some ad) t303.length co36) : Value).ownBlock) (.slice (some bd) t292.length co26) t292) := ⟨by rw [hW]; apply Kd.R_alloc; exact HO_4.out⟩
                have H9 : Aside0 (Kd.R k30 30 W w.heap.size (fun k_ => some k_ ≠ ((.slice (some bd) t292.length co26) : Value).ownBlock) (.slice (some ad) t303.length co36) t303) := ⟨by rw [hW]; apply Kd.R_alloc; exact HO_9.out⟩
                clear hW hbW x0 x1 x2 x3 HB HO_4 HO_9
                have H := HH.out
                clear HH
                try simp only at H
                obtain ⟨ne, hne⟩ : ∃ ne, ne = (!(p0 == q0) || (!(p1.toList == q1.toList) || (!(p2 == q2)))) := ⟨_, rfl⟩
                rw [← hne] at H
                have hne' := hne.symm
                clear hne
                rw [if_neg c4] at H
                clear c4
                have HK4 : Aside0 (k3 ≤ kj24) := ⟨by have := HK3.out; omega⟩
                cases ne with
                | true =>
                  rw [if_pos rfl] at H
                  obtain rfl := Option.some.inj H
                  go_wp2
                  repeat (go_quiet (fail); try go_wp2)
                  go_ret
                  exact ⟨by first | rfl | (simp [*]; done), by repeat (first | (with_reducible first | exact HBW.out | apply below_alloc | apply pw_below_drewN | apply below_drew1) | exact HBW.out)⟩
                | false =>
                  rw [if_neg (by simp)] at H
                  have H' := Aside0.mk H
                  clear H
                  go_wp2
                  repeat (go_quiet (fail); try go_wp2)
                  go_roundg k3
                  case measure => have := HK3.out; omega
                  case rel => exact ⟨(wrap64 (x12_3 + 1)), (by first | rfl | (simp; done) | (simp [*]; done)), H', HK4, ⟨by (with_reducible repeat (first | apply Kd.R_alloc | apply Kd.R_drewN | apply Kd.R_drew)); exact H4.out⟩, ⟨by (with_reducible repeat (first | apply Kd.R_alloc | apply Kd.R_drewN | apply Kd.R_drew)); exact H9.out⟩, ⟨by repeat (first | (with_reducible first | exact HBW.out | apply below_alloc | apply pw_below_drewN | apply below_drew1) | exact HBW.out)⟩⟩
             ·rw [if_neg c33] at H
              exact absurd H (by simp)
            ·rw [if_neg c32] at H
             exact absurd H (by simp)
           ·rw [if_neg c31] at H
            have c31b0 : decide (x12_3 < (t292.length : Int)) = false := decide_eq_false c31
            clear c31
            obtain rfl := Option.some.inj H
            go_wp2
            repeat (go_quiet (fail); try go_wp2)
            go_ret
            exact ⟨by first | rfl | (simp [errW_none, errW_some] <;> rfl) | (simp [*, errW_none, errW_some] <;> rfl), by repeat (first | (with_reducible first | exact HB.out | apply below_alloc | apply pw_below_drewN | apply below_drew1) | exact HB.out)⟩
  ·rw [if_neg c6] at H
   have c6b0 : (t294 == 0) = false := beq_eq_false_iff_ne.mpr c6
   have c6b1 : (t294 != 0) = true := bne_iff_ne.mpr c6
   obtain rfl := Option.some.inj H
   go_enter Tryd.func7, Tryd.ntmps7
   go_wp2_with (first | (go_at_call 11; (with_reducible refine (sorrellaw04_head.calls k  t291 _ A2.out ?side1).mono ?_); (case side1 => exact GW.belowA hG (by repeat (first | (with_reducible first | exact HB.out | apply below_alloc | apply pw_below_drewN | apply below_drew1) | exact HB.out))); rintro e w54 ⟨rfl, hb⟩; have n0_ := Aside0.mk (below_step (by repeat (first | (with_reducible first | exact HB.out | apply below_alloc | apply pw_below_drewN | apply below_drew1) | exact HB.out)) hb); clear HB; have HB := n0_; clear n0_; (try clear hb); (try clear hb2); (try clear hk); (try clear hi)) | (go_at_call 12; (with_reducible refine (lex_Lex.calls a0 t292 t293 t294 _ A5.out ?side1).mono ?_); (case side1 => exact GW.belowA hG (by repeat (first | (with_reducible first | exact HB.out | apply below_alloc | apply pw_below_drewN | apply below_drew1) | exact HB.out))); rintro e w55 ⟨v295, rfl, ho0, hb⟩; have n0_ := Aside0.mk (Kd.R_lower ho0 (below_size (by repeat (first | (with_reducible first | exact HB.out | apply below_alloc | apply pw_below_drewN | apply below_drew1) | exact HB.out)))); have n1_ := Aside0.mk (below_step (by repeat (first | (with_reducible first | exact HB.out | apply below_alloc | apply pw_below_drewN | apply below_drew1) | exact HB.out)) hb); clear HB; have HO296 := n0_; have HB := n1_; clear n0_ n1_; (try clear hb); (try clear hb2); (try clear hk); (try clear hi); (try clear ho0)))
   repeat (go_quiet (first | (go_at_call 11; (with_reducible refine (sorrellaw04_head.calls k  t291 _ A2.out ?side1).mono ?_); (case side1 => exact GW.belowA hG (by repeat (first | (with_reducible first | exact HB.out | apply below_alloc | apply pw_below_drewN | apply below_drew1) | exact HB.out))); rintro e w54 ⟨rfl, hb⟩; have n0_ := Aside0.mk (below_step (by repeat (first | (with_reducible first | exact HB.out | apply below_alloc | apply pw_below_drewN | apply below_drew1) | exact HB.out)) hb); clear HB; have HB := n0_; clear n0_; (try clear hb); (try clear hb2); (try clear hk); (try clear hi)) | (go_at_call 12; (with_reducible refine (lex_Lex.calls a0 t292 t293 t294 _ A5.out ?side1).mono ?_); (case side1 => exact GW.belowA hG (by repeat (first | (with_reducible first | exact HB.out | apply below_alloc | apply pw_below_drewN | apply below_drew1) | exact HB.out))); rintro e w55 ⟨v295, rfl, ho0, hb⟩; have n0_ := Aside0.mk (Kd.R_lower ho0 (below_size (by repeat (first | (with_reducible first | exact HB.out | apply below_alloc | apply pw_below_drewN | apply below_drew1) | exact HB.out)))); have n1_ := Aside0.mk (below_step (by repeat (first | (with_reducible first | exact HB.out | apply below_alloc | apply pw_below_drewN | apply below_drew1) | exact HB.out)) hb); clear HB; have HO296 := n0_; have HB := n1_; clear n0_ n1_; (try clear hb); (try clear hb2); (try clear hk); (try clear hi); (try clear ho0))); try go_wp2_with (first | (go_at_call 11; (with_reducible refine (sorrellaw04_head.calls k  t291 _ A2.out ?side1).mono ?_); (case side1 => exact GW.belowA hG (by repeat (first | (with_reducible first | exact HB.out | apply below_alloc | apply pw_below_drewN | apply below_drew1) | exact HB.out))); rintro e w54 ⟨rfl, hb⟩; have n0_ := Aside0.mk (below_step (by repeat (first | (with_reducible first | exact HB.out | apply below_alloc | apply pw_below_drewN | apply below_drew1) | exact HB.out)) hb); clear HB; have HB := n0_; clear n0_; (try clear hb); (try clear hb2); (try clear hk); (try clear hi)) | (go_at_call 12; (with_reducible refine (lex_Lex.calls a0 t292 t293 t294 _ A5.out ?side1).mono ?_); (case side1 => exact GW.belowA hG (by repeat (first | (with_reducible first | exact HB.out | apply below_alloc | apply pw_below_drewN | apply below_drew1) | exact HB.out))); rintro e w55 ⟨v295, rfl, ho0, hb⟩; have n0_ := Aside0.mk (Kd.R_lower ho0 (below_size (by repeat (first | (with_reducible first | exact HB.out | apply below_alloc | apply pw_below_drewN | apply below_drew1) | exact HB.out)))); have n1_ := Aside0.mk (below_step (by repeat (first | (with_reducible first | exact HB.out | apply below_alloc | apply pw_below_drewN | apply below_drew1) | exact HB.out)) hb); clear HB; have HO296 := n0_; have HB := n1_; clear n0_ n1_; (try clear hb); (try clear hb2); (try clear hk); (try clear hi); (try clear ho0))))
   go_ret
   exact ⟨by first | rfl | (simp [errW_none, errW_some] <;> rfl) | (simp [*, errW_none, errW_some] <;> rfl), by repeat (first | (with_reducible first | exact HB.out | apply below_alloc | apply pw_below_drewN | apply below_drew1) | exact HB.out)⟩

/-- THE ONE PURE STATEMENT of sorrellaw04_LexAgain: yours. -/
def sorrellaw04_LexAgain.Pure : Prop := ∀ (a0 : ByteArray), a0.size ≤ 140737488351232 → ∃ k, sorrellaw04_LexAgain.f k a0 = some true
theorem sorrellaw04_LexAgain.walk (P : sorrellaw04_LexAgain.Pure) (a0 : ByteArray) (w : World) (w0 : a0.size ≤ 140737488351232) (hG : Aside0 (GW w)) :
  Calls Tryd.prog 7 #[.string a0] w fun e w' => e = .returned (.bool true) ∧ Below w.heap.size w w' := by
 obtain ⟨k, h⟩ := P a0 w0
 refine (sorrellaw04_LexAgain.calls k a0 true w h hG).mono ?_
 rintro e w' ⟨rfl, hd⟩
 exact ⟨rfl, hd⟩

end Go.Proofs.YtpdlfokfjkmplaaDoor.P
