-- Written by a program of this session (wip/gen) out of the translation. Lean checks it.
import Derived.Test.YtpdlfokfjkmplaaDoorPx0
import Derived.Test.YtpdlfokfjkmplaaDoorPx5
import Derived.Test.YtpdlfokfjkmplaaDoorPx6
import Derived.Test.YtpdlfokfjkmplaaDoorLex
import Derived.Test.YtpdlfokfjkmplaaDoorGlob
namespace Go.Proofs.YtpdlfokfjkmplaaDoor.P
open Go.RowKit Go.Proofs.YtpdlfokfjkmplaaDoorW.PrintWords Go.Proofs.YtpdlfokfjkmplaaDoorW.PrintLast Go.Proofs.YtpdlfokfjkmplaaDoorW.PrintMore
attribute [local go_sem] max2_int min2_int max_two min_two max_three min_three max_four min_four   -- for this text's walks alone
set_option linter.unusedVariables false
set_option linter.unusedSimpArgs false

/-! ### sorrellaw04_LexKinds: function 8 -/
mutual
def sorrellaw04_LexKinds.l0 : Nat → ByteArray → Bool → List (S30) → Int → Option (Bool)
  | 0, _, _, _, _ => none
  | k + 1, x0, x3, x4, x7 => if x7 < (x4.length : Int) then (if 0 ≤ x7 then (if (((rd_T30 x4 x7).f1).size : Int) = 0 then (sorrellaw04_LexKinds.j1 k x0 x3 x4 x7 ((rd_T30 x4 x7).f1) true) else (if ((rd_T30 x4 x7).f3) < 0 then (sorrellaw04_LexKinds.j1 k x0 x3 x4 x7 ((rd_T30 x4 x7).f1) true) else (if ((rd_T30 x4 x7).f3) ≥ (x0.size : Int) then (sorrellaw04_LexKinds.j1 k x0 x3 x4 x7 ((rd_T30 x4 x7).f1) true) else (if ((rd_T30 x4 x7).f2) = 0 then (if ((rd_T30 x4 x7).f2) < 0 then (sorrellaw04_LexKinds.j1 k x0 x3 x4 x7 ((rd_T30 x4 x7).f1) true) else (sorrellaw04_LexKinds.j1 k x0 x3 x4 x7 ((rd_T30 x4 x7).f1) (decide (((rd_T30 x4 x7).f2) > 2147483647)))) else (if ((rd_T30 x4 x7).f0) = 3 then (if ((rd_T30 x4 x7).f2) < 0 then (sorrellaw04_LexKinds.j1 k x0 x3 x4 x7 ((rd_T30 x4 x7).f1) true) else (sorrellaw04_LexKinds.j1 k x0 x3 x4 x7 ((rd_T30 x4 x7).f1) (decide (((rd_T30 x4 x7).f2) > 2147483647)))) else (sorrellaw04_LexKinds.j1 k x0 x3 x4 x7 ((rd_T30 x4 x7).f1) true)))))) else (none)) else (some x3)
def sorrellaw04_LexKinds.j1 : Nat → ByteArray → Bool → List (S30) → Int → ByteArray → Bool → Option (Bool)
  | 0, _, _, _, _, _, _ => none
  | k + 1, x0, x3, x4, x7, x8, x85 => if x85 = true then (some false) else (if 0 ≤ x7 then (if x7 < (x4.length : Int) then (if 0 ≤ ((rd_T30 x4 x7).f3) then (if ((rd_T30 x4 x7).f3) < (x0.size : Int) then (if (bt x0 ((rd_T30 x4 x7).f3)) = 39 then (sorrellaw04_LexKinds.j2 k x0 x3 x4 x7 x8 (bt x0 ((rd_T30 x4 x7).f3)) 4 true) else ((sorrelref04_Small.f (bt x0 ((rd_T30 x4 x7).f3))).bind fun t338 => (sorrellaw04_LexKinds.j2 k x0 x3 x4 x7 x8 (bt x0 ((rd_T30 x4 x7).f3)) 4 t338))) else (none)) else (none)) else (none)) else (none))
def sorrellaw04_LexKinds.j2 : Nat → ByteArray → Bool → List (S30) → Int → ByteArray → Int → Int → Bool → Option (Bool)
  | 0, _, _, _, _, _, _, _, _ => none
  | k + 1, x0, x3, x4, x7, x8, x9, x10, x98 => if x98 = true then (sorrellaw04_LexKinds.j3 k x0 x3 x4 x7 x8 x9 1) else ((sorrelref04_Great.f x9).bind fun t339 => (if t339 = true then (sorrellaw04_LexKinds.j3 k x0 x3 x4 x7 x8 x9 2) else ((sorrelref04_Digit.f x9).bind fun t340 => (if t340 = true then (sorrellaw04_LexKinds.j3 k x0 x3 x4 x7 x8 x9 3) else ((sorrelref04_Sign.f k x9).bind fun t341 => (if t341 = true then (sorrellaw04_LexKinds.j3 k x0 x3 x4 x7 x8 x9 x10) else (sorrellaw04_LexKinds.j3 k x0 x3 x4 x7 x8 x9 5)))))))
def sorrellaw04_LexKinds.j3 : Nat → ByteArray → Bool → List (S30) → Int → ByteArray → Int → Int → Option (Bool)
  | 0, _, _, _, _, _, _, _ => none
  | k + 1, x0, x3, x4, x7, x8, x9, x10 => if 0 ≤ x7 then (if x7 < (x4.length : Int) then (if ((rd_T30 x4 x7).f0) = x10 then (sorrellaw04_LexKinds.j4 k x0 x3 x4 x7 x8 x10 false) else (if ((rd_T30 x4 x7).f0) = 6 then (if x8.toList = ([46] : List UInt8) then (sorrellaw04_LexKinds.j4 k x0 x3 x4 x7 x8 x10 (x9 != 46)) else (sorrellaw04_LexKinds.j4 k x0 x3 x4 x7 x8 x10 true)) else (sorrellaw04_LexKinds.j4 k x0 x3 x4 x7 x8 x10 true))) else (none)) else (none)
def sorrellaw04_LexKinds.j4 : Nat → ByteArray → Bool → List (S30) → Int → ByteArray → Int → Bool → Option (Bool)
  | 0, _, _, _, _, _, _, _ => none
  | k + 1, x0, x3, x4, x7, x8, x10, x128 => if x128 = true then (some false) else (if x10 = 1 then (if (x8.size : Int) > 12 then (some false) else (if x10 = 5 then (if (x8.size : Int) = 1 then (sorrellaw04_LexKinds.l0 k x0 x3 x4 (wrap64 (x7 + 1))) else (some false)) else (sorrellaw04_LexKinds.l0 k x0 x3 x4 (wrap64 (x7 + 1))))) else (if x10 = 4 then (if (x8.size : Int) > 12 then (some false) else (if x10 = 5 then (if (x8.size : Int) = 1 then (sorrellaw04_LexKinds.l0 k x0 x3 x4 (wrap64 (x7 + 1))) else (some false)) else (sorrellaw04_LexKinds.l0 k x0 x3 x4 (wrap64 (x7 + 1))))) else (if x10 = 5 then (if (x8.size : Int) = 1 then (sorrellaw04_LexKinds.l0 k x0 x3 x4 (wrap64 (x7 + 1))) else (some false)) else (sorrellaw04_LexKinds.l0 k x0 x3 x4 (wrap64 (x7 + 1))))))
end
def sorrellaw04_LexKinds.f (k : Nat) (a0 : ByteArray) : Option (Bool) := (sorrellaw04_head.f k).bind fun t322 => (if (a0.size : Int) > 3000 then (some t322) else ((lex_Lex.f a0).bind fun bt323 => (sorrellaw04_LexKinds.l0 k a0 t322 bt323.1 0)))
theorem sorrellaw04_LexKinds.mono_l : ∀ k, (∀ y0 y1 y2 y3, LeO (sorrellaw04_LexKinds.l0 k y0 y1 y2 y3) (sorrellaw04_LexKinds.l0 (k + 1) y0 y1 y2 y3)) ∧ (∀ y0 y1 y2 y3 y4 y5, LeO (sorrellaw04_LexKinds.j1 k y0 y1 y2 y3 y4 y5) (sorrellaw04_LexKinds.j1 (k + 1) y0 y1 y2 y3 y4 y5)) ∧ (∀ y0 y1 y2 y3 y4 y5 y6 y7, LeO (sorrellaw04_LexKinds.j2 k y0 y1 y2 y3 y4 y5 y6 y7) (sorrellaw04_LexKinds.j2 (k + 1) y0 y1 y2 y3 y4 y5 y6 y7)) ∧ (∀ y0 y1 y2 y3 y4 y5 y6, LeO (sorrellaw04_LexKinds.j3 k y0 y1 y2 y3 y4 y5 y6) (sorrellaw04_LexKinds.j3 (k + 1) y0 y1 y2 y3 y4 y5 y6)) ∧ (∀ y0 y1 y2 y3 y4 y5 y6, LeO (sorrellaw04_LexKinds.j4 k y0 y1 y2 y3 y4 y5 y6) (sorrellaw04_LexKinds.j4 (k + 1) y0 y1 y2 y3 y4 y5 y6))
  | 0 => ⟨fun _ _ _ _ r h => by simp [sorrellaw04_LexKinds.l0] at h, fun _ _ _ _ _ _ r h => by simp [sorrellaw04_LexKinds.j1] at h, fun _ _ _ _ _ _ _ _ r h => by simp [sorrellaw04_LexKinds.j2] at h, fun _ _ _ _ _ _ _ r h => by simp [sorrellaw04_LexKinds.j3] at h, fun _ _ _ _ _ _ _ r h => by simp [sorrellaw04_LexKinds.j4] at h⟩
  | k + 1 => by
    obtain ⟨ih0, ih1, ih2, ih3, ih4⟩ := sorrellaw04_LexKinds.mono_l k
    refine ⟨?_, ?_, ?_, ?_, ?_⟩
    · intro y0 y1 y2 y3
      unfold sorrellaw04_LexKinds.l0
      repeat' first
      | (with_reducible exact ih0 _ _ _ _)
      | (with_reducible exact ih1 _ _ _ _ _ _)
      | (with_reducible exact ih2 _ _ _ _ _ _ _ _)
      | (with_reducible exact ih3 _ _ _ _ _ _ _)
      | (with_reducible exact ih4 _ _ _ _ _ _ _)
      | (with_reducible exact sorrellaw04_head.mono _)
      | (with_reducible exact sorrelref04_Sign.mono _ _)
      | (with_reducible exact LeO.refl _)
      | (with_reducible exact LeO.none _)
      | (with_reducible refine LeO.ite ?_ ?_)
      | (with_reducible refine LeO.bind ?_ (fun _ => ?_))
      | exact ih0 _ _ _ _
      | exact ih1 _ _ _ _ _ _
      | exact ih2 _ _ _ _ _ _ _ _
      | exact ih3 _ _ _ _ _ _ _
      | exact ih4 _ _ _ _ _ _ _
      | exact sorrellaw04_head.mono _
      | exact sorrelref04_Sign.mono _ _
      | exact LeO.none _
      | refine LeO.ite ?_ ?_
      | refine LeO.bind ?_ (fun _ => ?_)
    · intro y0 y1 y2 y3 y4 y5
      unfold sorrellaw04_LexKinds.j1
      repeat' first
      | (with_reducible exact ih0 _ _ _ _)
      | (with_reducible exact ih1 _ _ _ _ _ _)
      | (with_reducible exact ih2 _ _ _ _ _ _ _ _)
      | (with_reducible exact ih3 _ _ _ _ _ _ _)
      | (with_reducible exact ih4 _ _ _ _ _ _ _)
      | (with_reducible exact sorrellaw04_head.mono _)
      | (with_reducible exact sorrelref04_Sign.mono _ _)
      | (with_reducible exact LeO.refl _)
      | (with_reducible exact LeO.none _)
      | (with_reducible refine LeO.ite ?_ ?_)
      | (with_reducible refine LeO.bind ?_ (fun _ => ?_))
      | exact ih0 _ _ _ _
      | exact ih1 _ _ _ _ _ _
      | exact ih2 _ _ _ _ _ _ _ _
      | exact ih3 _ _ _ _ _ _ _
      | exact ih4 _ _ _ _ _ _ _
      | exact sorrellaw04_head.mono _
      | exact sorrelref04_Sign.mono _ _
      | exact LeO.none _
      | refine LeO.ite ?_ ?_
      | refine LeO.bind ?_ (fun _ => ?_)
    · intro y0 y1 y2 y3 y4 y5 y6 y7
      unfold sorrellaw04_LexKinds.j2
      repeat' first
      | (with_reducible exact ih0 _ _ _ _)
      | (with_reducible exact ih1 _ _ _ _ _ _)
      | (with_reducible exact ih2 _ _ _ _ _ _ _ _)
      | (with_reducible exact ih3 _ _ _ _ _ _ _)
      | (with_reducible exact ih4 _ _ _ _ _ _ _)
      | (with_reducible exact sorrellaw04_head.mono _)
      | (with_reducible exact sorrelref04_Sign.mono _ _)
      | (with_reducible exact LeO.refl _)
      | (with_reducible exact LeO.none _)
      | (with_reducible refine LeO.ite ?_ ?_)
      | (with_reducible refine LeO.bind ?_ (fun _ => ?_))
      | exact ih0 _ _ _ _
      | exact ih1 _ _ _ _ _ _
      | exact ih2 _ _ _ _ _ _ _ _
      | exact ih3 _ _ _ _ _ _ _
      | exact ih4 _ _ _ _ _ _ _
      | exact sorrellaw04_head.mono _
      | exact sorrelref04_Sign.mono _ _
      | exact LeO.none _
      | refine LeO.ite ?_ ?_
      | refine LeO.bind ?_ (fun _ => ?_)
    · intro y0 y1 y2 y3 y4 y5 y6
      unfold sorrellaw04_LexKinds.j3
      repeat' first
      | (with_reducible exact ih0 _ _ _ _)
      | (with_reducible exact ih1 _ _ _ _ _ _)
      | (with_reducible exact ih2 _ _ _ _ _ _ _ _)
      | (with_reducible exact ih3 _ _ _ _ _ _ _)
      | (with_reducible exact ih4 _ _ _ _ _ _ _)
      | (with_reducible exact sorrellaw04_head.mono _)
      | (with_reducible exact sorrelref04_Sign.mono _ _)
      | (with_reducible exact LeO.refl _)
      | (with_reducible exact LeO.none _)
      | (with_reducible refine LeO.ite ?_ ?_)
      | (with_reducible refine LeO.bind ?_ (fun _ => ?_))
      | exact ih0 _ _ _ _
      | exact ih1 _ _ _ _ _ _
      | exact ih2 _ _ _ _ _ _ _ _
      | exact ih3 _ _ _ _ _ _ _
      | exact ih4 _ _ _ _ _ _ _
      | exact sorrellaw04_head.mono _
      | exact sorrelref04_Sign.mono _ _
      | exact LeO.none _
      | refine LeO.ite ?_ ?_
      | refine LeO.bind ?_ (fun _ => ?_)
    · intro y0 y1 y2 y3 y4 y5 y6
      unfold sorrellaw04_LexKinds.j4
      repeat' first
      | (with_reducible exact ih0 _ _ _ _)
      | (with_reducible exact ih1 _ _ _ _ _ _)
      | (with_reducible exact ih2 _ _ _ _ _ _ _ _)
      | (with_reducible exact ih3 _ _ _ _ _ _ _)
      | (with_reducible exact ih4 _ _ _ _ _ _ _)
      | (with_reducible exact sorrellaw04_head.mono _)
      | (with_reducible exact sorrelref04_Sign.mono _ _)
      | (with_reducible exact LeO.refl _)
      | (with_reducible exact LeO.none _)
      | (with_reducible refine LeO.ite ?_ ?_)
      | (with_reducible refine LeO.bind ?_ (fun _ => ?_))
      | exact ih0 _ _ _ _
      | exact ih1 _ _ _ _ _ _
      | exact ih2 _ _ _ _ _ _ _ _
      | exact ih3 _ _ _ _ _ _ _
      | exact ih4 _ _ _ _ _ _ _
      | exact sorrellaw04_head.mono _
      | exact sorrelref04_Sign.mono _ _
      | exact LeO.none _
      | refine LeO.ite ?_ ?_
      | refine LeO.bind ?_ (fun _ => ?_)
theorem sorrellaw04_LexKinds.mono : ∀ a0 k, LeO (sorrellaw04_LexKinds.f k a0) (sorrellaw04_LexKinds.f (k + 1) a0) := by
  intro a0 k
  obtain ⟨ih0, ih1, ih2, ih3, ih4⟩ := sorrellaw04_LexKinds.mono_l k
  unfold sorrellaw04_LexKinds.f
  repeat' first
      | (with_reducible exact ih0 _ _ _ _)
      | (with_reducible exact ih1 _ _ _ _ _ _)
      | (with_reducible exact ih2 _ _ _ _ _ _ _ _)
      | (with_reducible exact ih3 _ _ _ _ _ _ _)
      | (with_reducible exact ih4 _ _ _ _ _ _ _)
      | (with_reducible exact sorrellaw04_head.mono _)
      | (with_reducible exact sorrelref04_Sign.mono _ _)
      | (with_reducible exact LeO.refl _)
      | (with_reducible exact LeO.none _)
      | (with_reducible refine LeO.ite ?_ ?_)
      | (with_reducible refine LeO.bind ?_ (fun _ => ?_))
      | exact ih0 _ _ _ _
      | exact ih1 _ _ _ _ _ _
      | exact ih2 _ _ _ _ _ _ _ _
      | exact ih3 _ _ _ _ _ _ _
      | exact ih4 _ _ _ _ _ _ _
      | exact sorrellaw04_head.mono _
      | exact sorrelref04_Sign.mono _ _
      | exact LeO.none _
      | refine LeO.ite ?_ ?_
      | refine LeO.bind ?_ (fun _ => ?_)
set_option maxHeartbeats 8000000 in
set_option maxRecDepth 100000 in
theorem sorrellaw04_LexKinds.calls (k : Nat) (a0 : ByteArray) (r : Bool) (w : World) (h : sorrellaw04_LexKinds.f k a0 = some r) (hG : Aside0 (GW w)) :
    Calls Tryd.prog 8 #[.string a0] w fun e w' => e = .returned (.bool r) ∧ Below w.heap.size w w' := by
  have HB := Aside0.mk (Below.refl w.heap.size w)
  have H : ((sorrellaw04_head.f k).bind fun t322 => (if (a0.size : Int) > 3000 then (some t322) else ((lex_Lex.f a0).bind fun bt323 => (sorrellaw04_LexKinds.l0 k a0 t322 bt323.1 0)))) = some r := h
  clear h
  replace H := Option.bind_eq_some_iff.mp H
  obtain ⟨t322, A20, H⟩ := H
  replace H : (if (a0.size : Int) > 3000 then (some t322) else ((lex_Lex.f a0).bind fun bt323 => (sorrellaw04_LexKinds.l0 k a0 t322 bt323.1 0))) = some r := H
  have A2 := Aside0.mk A20
  clear A20
  by_cases c3 : (a0.size : Int) > 3000
  · rw [if_pos c3] at H
    have c3b0 : decide (3000 < (a0.size : Int)) = true := decide_eq_true c3
    have c3b1 : decide (3000 < a0.size) = true := decide_eq_true (by omega)
    clear c3
    obtain rfl := Option.some.inj H
    go_enter Tryd.func8, Tryd.ntmps8
    go_wp2_with (first | ((with_reducible refine gate_callee (f := 11) rfl ?_); refine goesL_ (some 11) rfl rfl Tryd.func11 (by kernel_rfl) rfl #[] rfl (by (try simp only [List.map_toArray, List.map_cons, List.map_nil]); first | done | rfl | (simp only [List.length_drop, List.length_take]; rfl)) ?_; (with_reducible refine (sorrellaw04_head.calls k  t322 _ A2.out ?side1).mono ?_); (case side1 => exact GW.belowA hG (by repeat (first | (with_reducible first | exact HB.out | apply below_alloc | apply pw_below_drewN | apply below_drew1) | exact HB.out))); rintro e w4 ⟨rfl, hb⟩; refine ⟨_, rfl, ?_⟩; have n0_ := Aside0.mk (below_step (by repeat (first | (with_reducible first | exact HB.out | apply below_alloc | apply pw_below_drewN | apply below_drew1) | exact HB.out)) hb); clear HB; have HB := n0_; clear n0_; (try clear hb); (try clear hb2); (try clear hk); (try clear hi)))
    go_ret
    exact ⟨by first | rfl | (simp [errW_none, errW_some] <;> rfl) | (simp [*, errW_none, errW_some] <;> rfl), by repeat (first | (with_reducible first | exact HB.out | apply below_alloc | apply pw_below_drewN | apply below_drew1) | exact HB.out)⟩
  · rw [if_neg c3] at H
    have c3b0 : decide (3000 < (a0.size : Int)) = false := decide_eq_false c3
    have c3b1 : decide (3000 < a0.size) = false := decide_eq_false (by omega)
    clear c3
    replace H := Option.bind_eq_some_iff.mp H
    obtain ⟨⟨t323, t324, t325⟩, A50, H⟩ := H
    replace H : (sorrellaw04_LexKinds.l0 k a0 t322 t323 0) = some r := H
    have A5 := Aside0.mk A50
    clear A50
    have H' := Aside0.mk H
    clear H
    go_enter Tryd.func8, Tryd.ntmps8
    go_wp2_with (first | ((with_reducible refine gate_callee (f := 11) rfl ?_); refine goesL_ (some 11) rfl rfl Tryd.func11 (by kernel_rfl) rfl #[] rfl (by (try simp only [List.map_toArray, List.map_cons, List.map_nil]); first | done | rfl | (simp only [List.length_drop, List.length_take]; rfl)) ?_; (with_reducible refine (sorrellaw04_head.calls k  t322 _ A2.out ?side1).mono ?_); (case side1 => exact GW.belowA hG (by repeat (first | (with_reducible first | exact HB.out | apply below_alloc | apply pw_below_drewN | apply below_drew1) | exact HB.out))); rintro e w6 ⟨rfl, hb⟩; refine ⟨_, rfl, ?_⟩; have n0_ := Aside0.mk (below_step (by repeat (first | (with_reducible first | exact HB.out | apply below_alloc | apply pw_below_drewN | apply below_drew1) | exact HB.out)) hb); clear HB; have HB := n0_; clear n0_; (try clear hb); (try clear hb2); (try clear hk); (try clear hi)) | ((with_reducible refine gate_callee (f := 12) rfl ?_); refine goesL_ (some 18) rfl rfl Tryd.func12 (by kernel_rfl) rfl #[.string a0] rfl (by (try simp only [List.map_toArray, List.map_cons, List.map_nil]); first | done | rfl | (simp only [List.length_drop, List.length_take]; rfl)) ?_; (with_reducible refine (lex_Lex.calls a0 t323 t324 t325 _ A5.out ?side1).mono ?_); (case side1 => exact GW.belowA hG (by repeat (first | (with_reducible first | exact HB.out | apply below_alloc | apply pw_below_drewN | apply below_drew1) | exact HB.out))); rintro e w7 ⟨v326, rfl, ho0, hb⟩; refine ⟨_, rfl, ?_⟩; have n0_ := Aside0.mk (Kd.R_lower ho0 (below_size (by repeat (first | (with_reducible first | exact HB.out | apply below_alloc | apply pw_below_drewN | apply below_drew1) | exact HB.out)))); have n1_ := Aside0.mk (below_step (by repeat (first | (with_reducible first | exact HB.out | apply below_alloc | apply pw_below_drewN | apply below_drew1) | exact HB.out)) hb); clear HB; have HO327 := n0_; have HB := n1_; clear n0_ n1_; (try clear hb); (try clear hb2); (try clear hk); (try clear hi); (try clear ho0)))
    go_loopg [7] k (fun kq v7 w' => ∃ (x7_1 : Int), v7 = .int .i64 x7_1 ∧ Aside0 (sorrellaw04_LexKinds.l0 kq a0 t322 t323 x7_1 = some r) ∧ Aside0 (kq ≤ k) ∧ Aside0 (Kd.R k30 30 w' w.heap.size (fun _ => True) v326 t323) ∧ Aside0 (Below w.heap.size w w'))
    case atStart => exact ⟨(0), (by first | rfl | (simp; done) | (simp [*]; done)), H', ⟨Nat.le_refl _⟩, ⟨by (with_reducible repeat (first | apply Kd.R_alloc | apply Kd.R_drewN | apply Kd.R_drew)); exact HO327.out⟩, ⟨by repeat (first | (with_reducible first | exact HB.out | apply below_alloc | apply pw_below_drewN | apply below_drew1) | exact HB.out)⟩⟩
    case round =>
      clear H'
      try clear c1
      try clear p2
      try clear c3
      try clear c3b0
      try clear c3b1
      obtain ⟨x7_1, rfl, HA, HK1, HO_4, HB⟩ := hrel
      cases gk with
      | zero => exact absurd HA.out (by simp [sorrellaw04_LexKinds.l0])
      | succ k1 =>
        have H := HA.out
        clear HA
        simp only [sorrellaw04_LexKinds.l0] at H
        by_cases c8 : x7_1 < (t323.length : Int)
        · rw [if_pos c8] at H
          have c8b0 : decide (x7_1 < (t323.length : Int)) = true := decide_eq_true c8
          clear c8
          by_cases c9 : 0 ≤ x7_1
          · rw [if_pos c9] at H
            have c9b0 : decide (0 ≤ x7_1) = true := decide_eq_true c9
            clear c9
            have HC10 := Aside0.mk H
            clear H
            obtain ⟨Ao11, co11, eo11⟩ := Kd.R_slice HO_4.out
            subst eo11
            have p328 : 0 ≤ (x7_1 : Int) := of_decide_eq_true (by first | (with_reducible assumption) | assumption)
            have q328 : x7_1 < (t323.length : Int) := of_decide_eq_true (by first | (with_reducible assumption) | assumption)
            obtain ⟨ad328, e328, hx328_0, hx328_1, hx328_2, hx328_3⟩ := at_T30 (Kd.R_reads' HO_4.out).2.2 x7_1 p328 q328
            cases e328
            replace p328 := eq_true p328
            replace q328 := eq_true q328
            go_upto_region 9 with (fail)
            go_cut [85] (fun v85 wc => ∃ (kq : Nat) (x85_9 : Bool), v85 = .bool x85_9 ∧ Aside0 (sorrellaw04_LexKinds.j1 kq a0 t322 t323 x7_1 ((rd_T30 t323 x7_1).f1) x85_9 = some r) ∧ Aside0 (kq ≤ k1) ∧ Aside0 (Kd.R k30 30 wc w.heap.size (fun _ => True) (.slice (some ad328) t323.length co11) t323) ∧ Aside0 (Below w.heap.size w wc))
            case first =>
              have H := HC10.out
              clear HC10
              by_cases c12 : (((rd_T30 t323 x7_1).f1).size : Int) = 0
              · rw [if_pos c12] at H
                have c12b0 : ((((rd_T30 t323 x7_1).f1).size : Int) == 0) = true := beq_iff_eq.mpr c12
                have c12b1 : ((((rd_T30 t323 x7_1).f1).size : Int) != 0) = false := bne_eq_false_iff_eq.mpr c12
                clear c12
                (first | rw [c12b0] | (simp only [i64_w, i32_w]; rw [c12b0]) | skip)
                have H' := Aside0.mk H
                clear H
                go_wp2
                go_meet
                case rel => exact ⟨_, (true), (by first | rfl | (simp; done) | (simp [*]; done)), H', ⟨by have := HK1.out; first | omega | exact Nat.le_refl _⟩, ⟨by (with_reducible repeat (first | apply Kd.R_alloc | apply Kd.R_drewN | apply Kd.R_drew)); exact HO_4.out⟩, ⟨by repeat (first | (with_reducible first | exact HB.out | apply below_alloc | apply pw_below_drewN | apply below_drew1) | exact HB.out)⟩⟩
              · rw [if_neg c12] at H
                have c12b0 : ((((rd_T30 t323 x7_1).f1).size : Int) == 0) = false := beq_eq_false_iff_ne.mpr c12
                have c12b1 : ((((rd_T30 t323 x7_1).f1).size : Int) != 0) = true := bne_iff_ne.mpr c12
                (first | rw [c12b0] | (simp only [i64_w, i32_w]; rw [c12b0]) | skip)
                by_cases c13 : ((rd_T30 t323 x7_1).f3) < 0
                · rw [if_pos c13] at H
                  have c13b0 : decide (((rd_T30 t323 x7_1).f3) < 0) = true := decide_eq_true c13
                  clear c13
                  have H' := Aside0.mk H
                  clear H
                  have p329 : 0 ≤ (x7_1 : Int) := of_decide_eq_true (by first | (with_reducible assumption) | assumption)
                  have q329 : x7_1 < (t323.length : Int) := of_decide_eq_true (by first | (with_reducible assumption) | assumption)
                  obtain ⟨ad329, e329, hx329_0, hx329_1, hx329_2, hx329_3⟩ := at_T30 (Kd.R_reads' HO_4.out).2.2 x7_1 p329 q329
                  obtain rfl : ad328 = ad329 := (by injection e329)
                  replace p329 := eq_true p329
                  replace q329 := eq_true q329
                  go_wp2
                  go_meet
                  case rel => exact ⟨_, (true), (by first | rfl | (simp; done) | (simp [*]; done)), H', ⟨by have := HK1.out; first | omega | exact Nat.le_refl _⟩, ⟨by (with_reducible repeat (first | apply Kd.R_alloc | apply Kd.R_drewN | apply Kd.R_drew)); exact HO_4.out⟩, ⟨by repeat (first | (with_reducible first | exact HB.out | apply below_alloc | apply pw_below_drewN | apply below_drew1) | exact HB.out)⟩⟩
                · rw [if_neg c13] at H
                  have c13b0 : decide (((rd_T30 t323 x7_1).f3) < 0) = false := decide_eq_false c13
                  clear c13
                  by_cases c14 : ((rd_T30 t323 x7_1).f3) ≥ (a0.size : Int)
                  · rw [if_pos c14] at H
                    have c14b0 : decide ((a0.size : Int) ≤ ((rd_T30 t323 x7_1).f3)) = true := decide_eq_true c14
                    clear c14
                    have H' := Aside0.mk H
                    clear H
                    have p329 : 0 ≤ (x7_1 : Int) := of_decide_eq_true (by first | (with_reducible assumption) | assumption)
                    have q329 : x7_1 < (t323.length : Int) := of_decide_eq_true (by first | (with_reducible assumption) | assumption)
                    obtain ⟨ad329, e329, hx329_0, hx329_1, hx329_2, hx329_3⟩ := at_T30 (Kd.R_reads' HO_4.out).2.2 x7_1 p329 q329
                    obtain rfl : ad328 = ad329 := (by injection e329)
                    replace p329 := eq_true p329
                    replace q329 := eq_true q329
                    have p330 : 0 ≤ (x7_1 : Int) := of_decide_eq_true (by first | (with_reducible assumption) | assumption)
                    have q330 : x7_1 < (t323.length : Int) := of_decide_eq_true (by first | (with_reducible assumption) | assumption)
                    obtain ⟨ad330, e330, hx330_0, hx330_1, hx330_2, hx330_3⟩ := at_T30 (Kd.R_reads' HO_4.out).2.2 x7_1 p330 q330
                    obtain rfl : ad328 = ad330 := (by injection e330)
                    replace p330 := eq_true p330
                    replace q330 := eq_true q330
                    go_wp2
                    go_meet
                    case rel => exact ⟨_, (true), (by first | rfl | (simp; done) | (simp [*]; done)), H', ⟨by have := HK1.out; first | omega | exact Nat.le_refl _⟩, ⟨by (with_reducible repeat (first | apply Kd.R_alloc | apply Kd.R_drewN | apply Kd.R_drew)); exact HO_4.out⟩, ⟨by repeat (first | (with_reducible first | exact HB.out | apply below_alloc | apply pw_below_drewN | apply below_drew1) | exact HB.out)⟩⟩
                  · rw [if_neg c14] at H
                    have c14b0 : decide ((a0.size : Int) ≤ ((rd_T30 t323 x7_1).f3)) = false := decide_eq_false c14
                    clear c14
                    by_cases c15 : ((rd_T30 t323 x7_1).f2) = 0
                    · rw [if_pos c15] at H
                      have c15b0 : (((rd_T30 t323 x7_1).f2) == 0) = true := beq_iff_eq.mpr c15
                      have c15b1 : (((rd_T30 t323 x7_1).f2) != 0) = false := bne_eq_false_iff_eq.mpr c15
                      clear c15
                      by_cases c16 : ((rd_T30 t323 x7_1).f2) < 0
                      · rw [if_pos c16] at H
                        have c16b0 : decide (((rd_T30 t323 x7_1).f2) < 0) = true := decide_eq_true c16
                        clear c16
                        have H' := Aside0.mk H
                        clear H
                        have p329 : 0 ≤ (x7_1 : Int) := of_decide_eq_true (by first | (with_reducible assumption) | assumption)
                        have q329 : x7_1 < (t323.length : Int) := of_decide_eq_true (by first | (with_reducible assumption) | assumption)
                        obtain ⟨ad329, e329, hx329_0, hx329_1, hx329_2, hx329_3⟩ := at_T30 (Kd.R_reads' HO_4.out).2.2 x7_1 p329 q329
                        obtain rfl : ad328 = ad329 := (by injection e329)
                        replace p329 := eq_true p329
                        replace q329 := eq_true q329
                        have p330 : 0 ≤ (x7_1 : Int) := of_decide_eq_true (by first | (with_reducible assumption) | assumption)
                        have q330 : x7_1 < (t323.length : Int) := of_decide_eq_true (by first | (with_reducible assumption) | assumption)
                        obtain ⟨ad330, e330, hx330_0, hx330_1, hx330_2, hx330_3⟩ := at_T30 (Kd.R_reads' HO_4.out).2.2 x7_1 p330 q330
                        obtain rfl : ad328 = ad330 := (by injection e330)
                        replace p330 := eq_true p330
                        replace q330 := eq_true q330
                        have p331 : 0 ≤ (x7_1 : Int) := of_decide_eq_true (by first | (with_reducible assumption) | assumption)
                        have q331 : x7_1 < (t323.length : Int) := of_decide_eq_true (by first | (with_reducible assumption) | assumption)
                        obtain ⟨ad331, e331, hx331_0, hx331_1, hx331_2, hx331_3⟩ := at_T30 (Kd.R_reads' HO_4.out).2.2 x7_1 p331 q331
                        obtain rfl : ad328 = ad331 := (by injection e331)
                        replace p331 := eq_true p331
                        replace q331 := eq_true q331
                        have p332 : 0 ≤ (x7_1 : Int) := of_decide_eq_true (by first | (with_reducible assumption) | assumption)
                        have q332 : x7_1 < (t323.length : Int) := of_decide_eq_true (by first | (with_reducible assumption) | assumption)
                        obtain ⟨ad332, e332, hx332_0, hx332_1, hx332_2, hx332_3⟩ := at_T30 (Kd.R_reads' HO_4.out).2.2 x7_1 p332 q332
                        obtain rfl : ad328 = ad332 := (by injection e332)
                        replace p332 := eq_true p332
                        replace q332 := eq_true q332
                        go_wp2
                        go_meet
                        case rel => exact ⟨_, (true), (by first | rfl | (simp; done) | (simp [*]; done)), H', ⟨by have := HK1.out; first | omega | exact Nat.le_refl _⟩, ⟨by (with_reducible repeat (first | apply Kd.R_alloc | apply Kd.R_drewN | apply Kd.R_drew)); exact HO_4.out⟩, ⟨by repeat (first | (with_reducible first | exact HB.out | apply below_alloc | apply pw_below_drewN | apply below_drew1) | exact HB.out)⟩⟩
                      · rw [if_neg c16] at H
                        have c16b0 : decide (((rd_T30 t323 x7_1).f2) < 0) = false := decide_eq_false c16
                        clear c16
                        have H' := Aside0.mk H
                        clear H
                        have p329 : 0 ≤ (x7_1 : Int) := of_decide_eq_true (by first | (with_reducible assumption) | assumption)
                        have q329 : x7_1 < (t323.length : Int) := of_decide_eq_true (by first | (with_reducible assumption) | assumption)
                        obtain ⟨ad329, e329, hx329_0, hx329_1, hx329_2, hx329_3⟩ := at_T30 (Kd.R_reads' HO_4.out).2.2 x7_1 p329 q329
                        obtain rfl : ad328 = ad329 := (by injection e329)
                        replace p329 := eq_true p329
                        replace q329 := eq_true q329
                        have p330 : 0 ≤ (x7_1 : Int) := of_decide_eq_true (by first | (with_reducible assumption) | assumption)
                        have q330 : x7_1 < (t323.length : Int) := of_decide_eq_true (by first | (with_reducible assumption) | assumption)
                        obtain ⟨ad330, e330, hx330_0, hx330_1, hx330_2, hx330_3⟩ := at_T30 (Kd.R_reads' HO_4.out).2.2 x7_1 p330 q330
                        obtain rfl : ad328 = ad330 := (by injection e330)
                        replace p330 := eq_true p330
                        replace q330 := eq_true q330
                        have p331 : 0 ≤ (x7_1 : Int) := of_decide_eq_true (by first | (with_reducible assumption) | assumption)
                        have q331 : x7_1 < (t323.length : Int) := of_decide_eq_true (by first | (with_reducible assumption) | assumption)
                        obtain ⟨ad331, e331, hx331_0, hx331_1, hx331_2, hx331_3⟩ := at_T30 (Kd.R_reads' HO_4.out).2.2 x7_1 p331 q331
                        obtain rfl : ad328 = ad331 := (by injection e331)
                        replace p331 := eq_true p331
                        replace q331 := eq_true q331
                        have p332 : 0 ≤ (x7_1 : Int) := of_decide_eq_true (by first | (with_reducible assumption) | assumption)
                        have q332 : x7_1 < (t323.length : Int) := of_decide_eq_true (by first | (with_reducible assumption) | assumption)
                        obtain ⟨ad332, e332, hx332_0, hx332_1, hx332_2, hx332_3⟩ := at_T30 (Kd.R_reads' HO_4.out).2.2 x7_1 p332 q332
                        obtain rfl : ad328 = ad332 := (by injection e332)
                        replace p332 := eq_true p332
                        replace q332 := eq_true q332
                        have p333 : 0 ≤ (x7_1 : Int) := of_decide_eq_true (by first | (with_reducible assumption) | assumption)
                        have q333 : x7_1 < (t323.length : Int) := of_decide_eq_true (by first | (with_reducible assumption) | assumption)
                        obtain ⟨ad333, e333, hx333_0, hx333_1, hx333_2, hx333_3⟩ := at_T30 (Kd.R_reads' HO_4.out).2.2 x7_1 p333 q333
                        obtain rfl : ad328 = ad333 := (by injection e333)
                        replace p333 := eq_true p333
                        replace q333 := eq_true q333
                        go_wp2
                        go_meet
                        case rel => exact ⟨_, (decide (((rd_T30 t323 x7_1).f2) > 2147483647)), (by first | rfl | (simp; done) | (simp [*]; done)), H', ⟨by have := HK1.out; first | omega | exact Nat.le_refl _⟩, ⟨by (with_reducible repeat (first | apply Kd.R_alloc | apply Kd.R_drewN | apply Kd.R_drew)); exact HO_4.out⟩, ⟨by repeat (first | (with_reducible first | exact HB.out | apply below_alloc | apply pw_below_drewN | apply below_drew1) | exact HB.out)⟩⟩
                    · rw [if_neg c15] at H
                      have c15b0 : (((rd_T30 t323 x7_1).f2) == 0) = false := beq_eq_false_iff_ne.mpr c15
                      have c15b1 : (((rd_T30 t323 x7_1).f2) != 0) = true := bne_iff_ne.mpr c15
                      by_cases c17 : ((rd_T30 t323 x7_1).f0) = 3
                      · rw [if_pos c17] at H
                        have c17b0 : (((rd_T30 t323 x7_1).f0) == 3) = true := beq_iff_eq.mpr c17
                        have c17b1 : (((rd_T30 t323 x7_1).f0) != 3) = false := bne_eq_false_iff_eq.mpr c17
                        clear c17
                        by_cases c18 : ((rd_T30 t323 x7_1).f2) < 0
                        · rw [if_pos c18] at H
                          have c18b0 : decide (((rd_T30 t323 x7_1).f2) < 0) = true := decide_eq_true c18
                          clear c18
                          have H' := Aside0.mk H
                          clear H
                          have p329 : 0 ≤ (x7_1 : Int) := of_decide_eq_true (by first | (with_reducible assumption) | assumption)
                          have q329 : x7_1 < (t323.length : Int) := of_decide_eq_true (by first | (with_reducible assumption) | assumption)
                          obtain ⟨ad329, e329, hx329_0, hx329_1, hx329_2, hx329_3⟩ := at_T30 (Kd.R_reads' HO_4.out).2.2 x7_1 p329 q329
                          obtain rfl : ad328 = ad329 := (by injection e329)
                          replace p329 := eq_true p329
                          replace q329 := eq_true q329
                          have p330 : 0 ≤ (x7_1 : Int) := of_decide_eq_true (by first | (with_reducible assumption) | assumption)
                          have q330 : x7_1 < (t323.length : Int) := of_decide_eq_true (by first | (with_reducible assumption) | assumption)
                          obtain ⟨ad330, e330, hx330_0, hx330_1, hx330_2, hx330_3⟩ := at_T30 (Kd.R_reads' HO_4.out).2.2 x7_1 p330 q330
                          obtain rfl : ad328 = ad330 := (by injection e330)
                          replace p330 := eq_true p330
                          replace q330 := eq_true q330
                          have p331 : 0 ≤ (x7_1 : Int) := of_decide_eq_true (by first | (with_reducible assumption) | assumption)
                          have q331 : x7_1 < (t323.length : Int) := of_decide_eq_true (by first | (with_reducible assumption) | assumption)
                          obtain ⟨ad331, e331, hx331_0, hx331_1, hx331_2, hx331_3⟩ := at_T30 (Kd.R_reads' HO_4.out).2.2 x7_1 p331 q331
                          obtain rfl : ad328 = ad331 := (by injection e331)
                          replace p331 := eq_true p331
                          replace q331 := eq_true q331
                          have p334 : 0 ≤ (x7_1 : Int) := of_decide_eq_true (by first | (with_reducible assumption) | assumption)
                          have q334 : x7_1 < (t323.length : Int) := of_decide_eq_true (by first | (with_reducible assumption) | assumption)
                          obtain ⟨ad334, e334, hx334_0, hx334_1, hx334_2, hx334_3⟩ := at_T30 (Kd.R_reads' HO_4.out).2.2 x7_1 p334 q334
                          obtain rfl : ad328 = ad334 := (by injection e334)
                          replace p334 := eq_true p334
                          replace q334 := eq_true q334
                          have p335 : 0 ≤ (x7_1 : Int) := of_decide_eq_true (by first | (with_reducible assumption) | assumption)
                          have q335 : x7_1 < (t323.length : Int) := of_decide_eq_true (by first | (with_reducible assumption) | assumption)
                          obtain ⟨ad335, e335, hx335_0, hx335_1, hx335_2, hx335_3⟩ := at_T30 (Kd.R_reads' HO_4.out).2.2 x7_1 p335 q335
                          obtain rfl : ad328 = ad335 := (by injection e335)
                          replace p335 := eq_true p335
                          replace q335 := eq_true q335
                          go_wp2
                          go_meet
                          case rel => exact ⟨_, (true), (by first | rfl | (simp; done) | (simp [*]; done)), H', ⟨by have := HK1.out; first | omega | exact Nat.le_refl _⟩, ⟨by (with_reducible repeat (first | apply Kd.R_alloc | apply Kd.R_drewN | apply Kd.R_drew)); exact HO_4.out⟩, ⟨by repeat (first | (with_reducible first | exact HB.out | apply below_alloc | apply pw_below_drewN | apply below_drew1) | exact HB.out)⟩⟩
                        · rw [if_neg c18] at H
                          have c18b0 : decide (((rd_T30 t323 x7_1).f2) < 0) = false := decide_eq_false c18
                          clear c18
                          have H' := Aside0.mk H
                          clear H
                          have p329 : 0 ≤ (x7_1 : Int) := of_decide_eq_true (by first | (with_reducible assumption) | assumption)
                          have q329 : x7_1 < (t323.length : Int) := of_decide_eq_true (by first | (with_reducible assumption) | assumption)
                          obtain ⟨ad329, e329, hx329_0, hx329_1, hx329_2, hx329_3⟩ := at_T30 (Kd.R_reads' HO_4.out).2.2 x7_1 p329 q329
                          obtain rfl : ad328 = ad329 := (by injection e329)
                          replace p329 := eq_true p329
                          replace q329 := eq_true q329
                          have p330 : 0 ≤ (x7_1 : Int) := of_decide_eq_true (by first | (with_reducible assumption) | assumption)
                          have q330 : x7_1 < (t323.length : Int) := of_decide_eq_true (by first | (with_reducible assumption) | assumption)
                          obtain ⟨ad330, e330, hx330_0, hx330_1, hx330_2, hx330_3⟩ := at_T30 (Kd.R_reads' HO_4.out).2.2 x7_1 p330 q330
                          obtain rfl : ad328 = ad330 := (by injection e330)
                          replace p330 := eq_true p330
                          replace q330 := eq_true q330
                          have p331 : 0 ≤ (x7_1 : Int) := of_decide_eq_true (by first | (with_reducible assumption) | assumption)
                          have q331 : x7_1 < (t323.length : Int) := of_decide_eq_true (by first | (with_reducible assumption) | assumption)
                          obtain ⟨ad331, e331, hx331_0, hx331_1, hx331_2, hx331_3⟩ := at_T30 (Kd.R_reads' HO_4.out).2.2 x7_1 p331 q331
                          obtain rfl : ad328 = ad331 := (by injection e331)
                          replace p331 := eq_true p331
                          replace q331 := eq_true q331
                          have p334 : 0 ≤ (x7_1 : Int) := of_decide_eq_true (by first | (with_reducible assumption) | assumption)
                          have q334 : x7_1 < (t323.length : Int) := of_decide_eq_true (by first | (with_reducible assumption) | assumption)
                          obtain ⟨ad334, e334, hx334_0, hx334_1, hx334_2, hx334_3⟩ := at_T30 (Kd.R_reads' HO_4.out).2.2 x7_1 p334 q334
                          obtain rfl : ad328 = ad334 := (by injection e334)
                          replace p334 := eq_true p334
                          replace q334 := eq_true q334
                          have p335 : 0 ≤ (x7_1 : Int) := of_decide_eq_true (by first | (with_reducible assumption) | assumption)
                          have q335 : x7_1 < (t323.length : Int) := of_decide_eq_true (by first | (with_reducible assumption) | assumption)
                          obtain ⟨ad335, e335, hx335_0, hx335_1, hx335_2, hx335_3⟩ := at_T30 (Kd.R_reads' HO_4.out).2.2 x7_1 p335 q335
                          obtain rfl : ad328 = ad335 := (by injection e335)
                          replace p335 := eq_true p335
                          replace q335 := eq_true q335
                          have p336 : 0 ≤ (x7_1 : Int) := of_decide_eq_true (by first | (with_reducible assumption) | assumption)
                          have q336 : x7_1 < (t323.length : Int) := of_decide_eq_true (by first | (with_reducible assumption) | assumption)
                          obtain ⟨ad336, e336, hx336_0, hx336_1, hx336_2, hx336_3⟩ := at_T30 (Kd.R_reads' HO_4.out).2.2 x7_1 p336 q336
                          obtain rfl : ad328 = ad336 := (by injection e336)
                          replace p336 := eq_true p336
                          replace q336 := eq_true q336
                          go_wp2
                          go_meet
                          case rel => exact ⟨_, (decide (((rd_T30 t323 x7_1).f2) > 2147483647)), (by first | rfl | (simp; done) | (simp [*]; done)), H', ⟨by have := HK1.out; first | omega | exact Nat.le_refl _⟩, ⟨by (with_reducible repeat (first | apply Kd.R_alloc | apply Kd.R_drewN | apply Kd.R_drew)); exact HO_4.out⟩, ⟨by repeat (first | (with_reducible first | exact HB.out | apply below_alloc | apply pw_below_drewN | apply below_drew1) | exact HB.out)⟩⟩
                      · rw [if_neg c17] at H
                        have c17b0 : (((rd_T30 t323 x7_1).f0) == 3) = false := beq_eq_false_iff_ne.mpr c17
                        have c17b1 : (((rd_T30 t323 x7_1).f0) != 3) = true := bne_iff_ne.mpr c17
                        have H' := Aside0.mk H
                        clear H
                        have p329 : 0 ≤ (x7_1 : Int) := of_decide_eq_true (by first | (with_reducible assumption) | assumption)
                        have q329 : x7_1 < (t323.length : Int) := of_decide_eq_true (by first | (with_reducible assumption) | assumption)
                        obtain ⟨ad329, e329, hx329_0, hx329_1, hx329_2, hx329_3⟩ := at_T30 (Kd.R_reads' HO_4.out).2.2 x7_1 p329 q329
                        obtain rfl : ad328 = ad329 := (by injection e329)
                        replace p329 := eq_true p329
                        replace q329 := eq_true q329
                        have p330 : 0 ≤ (x7_1 : Int) := of_decide_eq_true (by first | (with_reducible assumption) | assumption)
                        have q330 : x7_1 < (t323.length : Int) := of_decide_eq_true (by first | (with_reducible assumption) | assumption)
                        obtain ⟨ad330, e330, hx330_0, hx330_1, hx330_2, hx330_3⟩ := at_T30 (Kd.R_reads' HO_4.out).2.2 x7_1 p330 q330
                        obtain rfl : ad328 = ad330 := (by injection e330)
                        replace p330 := eq_true p330
                        replace q330 := eq_true q330
                        have p331 : 0 ≤ (x7_1 : Int) := of_decide_eq_true (by first | (with_reducible assumption) | assumption)
                        have q331 : x7_1 < (t323.length : Int) := of_decide_eq_true (by first | (with_reducible assumption) | assumption)
                        obtain ⟨ad331, e331, hx331_0, hx331_1, hx331_2, hx331_3⟩ := at_T30 (Kd.R_reads' HO_4.out).2.2 x7_1 p331 q331
                        obtain rfl : ad328 = ad331 := (by injection e331)
                        replace p331 := eq_true p331
                        replace q331 := eq_true q331
                        have p334 : 0 ≤ (x7_1 : Int) := of_decide_eq_true (by first | (with_reducible assumption) | assumption)
                        have q334 : x7_1 < (t323.length : Int) := of_decide_eq_true (by first | (with_reducible assumption) | assumption)
                        obtain ⟨ad334, e334, hx334_0, hx334_1, hx334_2, hx334_3⟩ := at_T30 (Kd.R_reads' HO_4.out).2.2 x7_1 p334 q334
                        obtain rfl : ad328 = ad334 := (by injection e334)
                        replace p334 := eq_true p334
                        replace q334 := eq_true q334
                        go_wp2
                        go_meet
                        case rel => exact ⟨_, (true), (by first | rfl | (simp; done) | (simp [*]; done)), H', ⟨by have := HK1.out; first | omega | exact Nat.le_refl _⟩, ⟨by (with_reducible repeat (first | apply Kd.R_alloc | apply Kd.R_drewN | apply Kd.R_drew)); exact HO_4.out⟩, ⟨by repeat (first | (with_reducible first | exact HB.out | apply below_alloc | apply pw_below_drewN | apply below_drew1) | exact HB.out)⟩⟩
            case rest =>
              clear HC10
              try clear c1
              try clear p2
              try clear c3
              try clear c3b0
              try clear c3b1
              try clear p3
              try clear q3
              try clear hx3
              try clear c8
              try clear c8b0
              try clear c9
              try clear c9b0
              try clear c11
              try clear c12
              try clear c12b0
              try clear c12b1
              try clear c13
              try clear c13b0
              try clear c14
              try clear c14b0
              try clear c15
              try clear c15b0
              try clear c15b1
              try clear c16
              try clear c16b0
              try clear c17
              try clear c17b0
              try clear c17b1
              try clear c18
              try clear c18b0
              try clear hx328_0
              try clear hx328_1
              try clear hx328_2
              try clear hx328_3
              try clear hx329_0
              try clear hx329_1
              try clear hx329_2
              try clear hx329_3
              try clear hx330_0
              try clear hx330_1
              try clear hx330_2
              try clear hx330_3
              try clear hx331_0
              try clear hx331_1
              try clear hx331_2
              try clear hx331_3
              try clear hx332_0
              try clear hx332_1
              try clear hx332_2
              try clear hx332_3
              try clear hx333_0
              try clear hx333_1
              try clear hx333_2
              try clear hx333_3
              try clear hx334_0
              try clear hx334_1
              try clear hx334_2
              try clear hx334_3
              try clear hx335_0
              try clear hx335_1
              try clear hx335_2
              try clear hx335_3
              try clear hx336_0
              try clear hx336_1
              try clear hx336_2
              try clear hx336_3
              try clear p2
              try clear p328
              try clear p329
              try clear p330
              try clear p331
              try clear p332
              try clear p333
              try clear p334
              try clear p335
              try clear p336
              try clear q328
              try clear q329
              try clear q330
              try clear q331
              try clear q332
              try clear q333
              try clear q334
              try clear q335
              try clear q336
              obtain ⟨kq, x85_9, rfl, HA, HJ9, HO_4, HB⟩ := hcut
              cases kq with
              | zero => exact absurd HA.out (by simp [sorrellaw04_LexKinds.j1])
              | succ kj9 =>
                have H := HA.out
                clear HA
                simp only [sorrellaw04_LexKinds.j1] at H
                by_cases c19 : x85_9 = true
                · subst c19
                  have H1 : (some false) = some r := by rw [if_pos rfl] at H; exact H
                  clear H
                  have H := H1
                  clear H1
                  obtain rfl := Option.some.inj H
                  go_wp2
                  go_ret
                  exact ⟨by first | rfl | (simp [errW_none, errW_some] <;> rfl) | (simp [*, errW_none, errW_some] <;> rfl), by repeat (first | (with_reducible first | exact HB.out | apply below_alloc | apply pw_below_drewN | apply below_drew1) | exact HB.out)⟩
                · replace c19 := Bool.eq_false_iff.mpr c19
                  subst c19
                  have H1 : (if 0 ≤ x7_1 then (if x7_1 < (t323.length : Int) then (if 0 ≤ ((rd_T30 t323 x7_1).f3) then (if ((rd_T30 t323 x7_1).f3) < (a0.size : Int) then (if (bt a0 ((rd_T30 t323 x7_1).f3)) = 39 then (sorrellaw04_LexKinds.j2 kj9 a0 t322 t323 x7_1 ((rd_T30 t323 x7_1).f1) (bt a0 ((rd_T30 t323 x7_1).f3)) 4 true) else ((sorrelref04_Small.f (bt a0 ((rd_T30 t323 x7_1).f3))).bind fun t338 => (sorrellaw04_LexKinds.j2 kj9 a0 t322 t323 x7_1 ((rd_T30 t323 x7_1).f1) (bt a0 ((rd_T30 t323 x7_1).f3)) 4 t338))) else (none)) else (none)) else (none)) else (none)) = some r := by rw [if_neg (show ¬ (false = true) by decide)] at H; exact H
                  clear H
                  have H := H1
                  clear H1
                  by_cases c20 : 0 ≤ x7_1
                  · rw [if_pos c20] at H
                    have c20b0 : decide (0 ≤ x7_1) = true := decide_eq_true c20
                    clear c20
                    by_cases c21 : x7_1 < (t323.length : Int)
                    · rw [if_pos c21] at H
                      have c21b0 : decide (x7_1 < (t323.length : Int)) = true := decide_eq_true c21
                      clear c21
                      by_cases c22 : 0 ≤ ((rd_T30 t323 x7_1).f3)
                      · rw [if_pos c22] at H
                        have c22b0 : decide (0 ≤ ((rd_T30 t323 x7_1).f3)) = true := decide_eq_true c22
                        clear c22
                        by_cases c23 : ((rd_T30 t323 x7_1).f3) < (a0.size : Int)
                        · rw [if_pos c23] at H
                          have c23b0 : decide (((rd_T30 t323 x7_1).f3) < (a0.size : Int)) = true := decide_eq_true c23
                          clear c23
                          have HC25 := Aside0.mk H
                          clear H
                          have p337 : 0 ≤ (x7_1 : Int) := of_decide_eq_true (by first | (with_reducible assumption) | assumption)
                          have q337 : x7_1 < (t323.length : Int) := of_decide_eq_true (by first | (with_reducible assumption) | assumption)
                          obtain ⟨ad337, e337, hx337_0, hx337_1, hx337_2, hx337_3⟩ := at_T30 (Kd.R_reads' HO_4.out).2.2 x7_1 p337 q337
                          obtain rfl : ad328 = ad337 := (by injection e337)
                          replace p337 := eq_true p337
                          replace q337 := eq_true q337
                          have p24 : 0 ≤ (((rd_T30 t323 x7_1).f3) : Int) := of_decide_eq_true (by first | (with_reducible assumption) | assumption)
                          have q24 : ((rd_T30 t323 x7_1).f3) < (a0.size : Int) := of_decide_eq_true (by first | (with_reducible assumption) | assumption)
                          have hx24 := bt_at a0 ((rd_T30 t323 x7_1).f3)
                          replace p24 := eq_true p24
                          replace q24 := eq_true q24
                          go_upto_region 13 with (fail)
                          go_cut [98] (fun v98 wc => ∃ (kq : Nat) (x98_24 : Bool), v98 = .bool x98_24 ∧ Aside0 (sorrellaw04_LexKinds.j2 kq a0 t322 t323 x7_1 ((rd_T30 t323 x7_1).f1) (bt a0 ((rd_T30 t323 x7_1).f3)) 4 x98_24 = some r) ∧ Aside0 (kq ≤ kj9) ∧ Aside0 (Kd.R k30 30 wc w.heap.size (fun _ => True) (.slice (some ad328) t323.length co11) t323) ∧ Aside0 (Below w.heap.size w wc))
                          case first =>
                            have H := HC25.out
                            clear HC25
                            by_cases c26 : (bt a0 ((rd_T30 t323 x7_1).f3)) = 39
                            · rw [if_pos c26] at H
                              have c26b0 : ((bt a0 ((rd_T30 t323 x7_1).f3)) == 39) = true := beq_iff_eq.mpr c26
                              have c26b1 : ((bt a0 ((rd_T30 t323 x7_1).f3)) != 39) = false := bne_eq_false_iff_eq.mpr c26
                              clear c26
                              (first | rw [c26b0] | (simp only [i64_w, i32_w]; rw [c26b0]) | skip)
                              have H' := Aside0.mk H
                              clear H
                              go_wp2
                              go_meet
                              case rel => exact ⟨_, (true), (by first | rfl | (simp; done) | (simp [*]; done)), H', ⟨by have := HK1.out; have := HJ9.out; first | omega | exact Nat.le_refl _⟩, ⟨by (with_reducible repeat (first | apply Kd.R_alloc | apply Kd.R_drewN | apply Kd.R_drew)); exact HO_4.out⟩, ⟨by repeat (first | (with_reducible first | exact HB.out | apply below_alloc | apply pw_below_drewN | apply below_drew1) | exact HB.out)⟩⟩
                            · rw [if_neg c26] at H
                              have c26b0 : ((bt a0 ((rd_T30 t323 x7_1).f3)) == 39) = false := beq_eq_false_iff_ne.mpr c26
                              have c26b1 : ((bt a0 ((rd_T30 t323 x7_1).f3)) != 39) = true := bne_iff_ne.mpr c26
                              (first | rw [c26b0] | (simp only [i64_w, i32_w]; rw [c26b0]) | skip)
                              replace H := Option.bind_eq_some_iff.mp H
                              obtain ⟨t338, A270, H⟩ := H
                              replace H : (sorrellaw04_LexKinds.j2 kj9 a0 t322 t323 x7_1 ((rd_T30 t323 x7_1).f1) (bt a0 ((rd_T30 t323 x7_1).f3)) 4 t338) = some r := H
                              have A27 := Aside0.mk A270
                              clear A270
                              have H' := Aside0.mk H
                              clear H
                              go_wp2_with (first | (go_at_call 18; (with_reducible refine (sorrelref04_Small.calls (bt a0 ((rd_T30 t323 x7_1).f3)) t338 _ A27.out).mono ?_); rintro e w' ⟨rfl, ⟨nd, rfl⟩⟩))
                              go_meet
                              case rel => exact ⟨_, (t338), (by first | rfl | (simp; done) | (simp [*]; done)), H', ⟨by have := HK1.out; have := HJ9.out; first | omega | exact Nat.le_refl _⟩, ⟨by (with_reducible repeat (first | apply Kd.R_alloc | apply Kd.R_drewN | apply Kd.R_drew)); exact HO_4.out⟩, ⟨by repeat (first | (with_reducible first | exact HB.out | apply below_alloc | apply pw_below_drewN | apply below_drew1) | exact HB.out)⟩⟩
                          case rest =>
                            clear HC25
                            try clear c1
                            try clear c2
                            try clear p2
                            try clear q2
                            try clear hx2
                            try clear c3
                            try clear c3b0
                            try clear c3b1
                            try clear p3
                            try clear q3
                            try clear hx3
                            try clear c8
                            try clear c8b0
                            try clear c9
                            try clear c9b0
                            try clear c11
                            try clear c12
                            try clear c12b0
                            try clear c12b1
                            try clear c13
                            try clear c13b0
                            try clear c14
                            try clear c14b0
                            try clear c15
                            try clear c15b0
                            try clear c15b1
                            try clear c16
                            try clear c16b0
                            try clear c17
                            try clear c17b0
                            try clear c17b1
                            try clear c18
                            try clear c18b0
                            try clear c19
                            try clear c20
                            try clear c20b0
                            try clear c21
                            try clear c21b0
                            try clear c22
                            try clear c22b0
                            try clear c23
                            try clear c23b0
                            try clear p24
                            try clear q24
                            try clear hx24
                            try clear c26
                            try clear c26b0
                            try clear c26b1
                            try clear hx328_0
                            try clear hx328_1
                            try clear hx328_2
                            try clear hx328_3
                            try clear hx329_0
                            try clear hx329_1
                            try clear hx329_2
                            try clear hx329_3
                            try clear hx330_0
                            try clear hx330_1
                            try clear hx330_2
                            try clear hx330_3
                            try clear hx331_0
                            try clear hx331_1
                            try clear hx331_2
                            try clear hx331_3
                            try clear hx332_0
                            try clear hx332_1
                            try clear hx332_2
                            try clear hx332_3
                            try clear hx333_0
                            try clear hx333_1
                            try clear hx333_2
                            try clear hx333_3
                            try clear hx334_0
                            try clear hx334_1
                            try clear hx334_2
                            try clear hx334_3
                            try clear hx335_0
                            try clear hx335_1
                            try clear hx335_2
                            try clear hx335_3
                            try clear hx336_0
                            try clear hx336_1
                            try clear hx336_2
                            try clear hx336_3
                            try clear hx337_0
                            try clear hx337_1
                            try clear hx337_2
                            try clear hx337_3
                            try clear p2
                            try clear p24
                            try clear p3
                            try clear p328
                            try clear p329
                            try clear p330
                            try clear p331
                            try clear p332
                            try clear p333
                            try clear p334
                            try clear p335
                            try clear p336
                            try clear p337
                            try clear q24
                            try clear q3
                            try clear q328
                            try clear q329
                            try clear q330
                            try clear q331
                            try clear q332
                            try clear q333
                            try clear q334
                            try clear q335
                            try clear q336
                            try clear q337
                            obtain ⟨kq, x98_24, rfl, HA, HJ24, HO_4, HB⟩ := hcut
                            cases kq with
                            | zero => exact absurd HA.out (by simp [sorrellaw04_LexKinds.j2])
                            | succ kj24 =>
                              have H := HA.out
                              clear HA
                              simp only [sorrellaw04_LexKinds.j2] at H
                              have HC28 := Aside0.mk H
                              clear H
                              go_upto_if 98 with (fail)
                              go_cut [10] (fun v10 wc => ∃ (kq : Nat) (x10_27 : Int), v10 = .int .i64 x10_27 ∧ Aside0 (sorrellaw04_LexKinds.j3 kq a0 t322 t323 x7_1 ((rd_T30 t323 x7_1).f1) (bt a0 ((rd_T30 t323 x7_1).f3)) x10_27 = some r) ∧ Aside0 (kq ≤ kj24) ∧ Aside0 (Kd.R k30 30 wc w.heap.size (fun _ => True) (.slice (some ad328) t323.length co11) t323) ∧ Aside0 (Below w.heap.size w wc))
                              case first =>
                                have H := HC28.out
                                clear HC28
                                by_cases c29 : x98_24 = true
                                · subst c29
                                  have H1 : (sorrellaw04_LexKinds.j3 kj24 a0 t322 t323 x7_1 ((rd_T30 t323 x7_1).f1) (bt a0 ((rd_T30 t323 x7_1).f3)) 1) = some r := by rw [if_pos rfl] at H; exact H
                                  clear H
                                  have H := H1
                                  clear H1
                                  have H' := Aside0.mk H
                                  clear H
                                  go_wp2
                                  go_meet
                                  case rel => exact ⟨_, (1), (by first | rfl | (simp; done) | (simp [*]; done)), H', ⟨by have := HK1.out; have := HJ9.out; have := HJ24.out; first | omega | exact Nat.le_refl _⟩, ⟨by (with_reducible repeat (first | apply Kd.R_alloc | apply Kd.R_drewN | apply Kd.R_drew)); exact HO_4.out⟩, ⟨by repeat (first | (with_reducible first | exact HB.out | apply below_alloc | apply pw_below_drewN | apply below_drew1) | exact HB.out)⟩⟩
                                · replace c29 := Bool.eq_false_iff.mpr c29
                                  subst c29
                                  have H1 : ((sorrelref04_Great.f (bt a0 ((rd_T30 t323 x7_1).f3))).bind fun t339 => (if t339 = true then (sorrellaw04_LexKinds.j3 kj24 a0 t322 t323 x7_1 ((rd_T30 t323 x7_1).f1) (bt a0 ((rd_T30 t323 x7_1).f3)) 2) else ((sorrelref04_Digit.f (bt a0 ((rd_T30 t323 x7_1).f3))).bind fun t340 => (if t340 = true then (sorrellaw04_LexKinds.j3 kj24 a0 t322 t323 x7_1 ((rd_T30 t323 x7_1).f1) (bt a0 ((rd_T30 t323 x7_1).f3)) 3) else ((sorrelref04_Sign.f kj24 (bt a0 ((rd_T30 t323 x7_1).f3))).bind fun t341 => (if t341 = true then (sorrellaw04_LexKinds.j3 kj24 a0 t322 t323 x7_1 ((rd_T30 t323 x7_1).f1) (bt a0 ((rd_T30 t323 x7_1).f3)) 4) else (sorrellaw04_LexKinds.j3 kj24 a0 t322 t323 x7_1 ((rd_T30 t323 x7_1).f1) (bt a0 ((rd_T30 t323 x7_1).f3)) 5))))))) = some r := by rw [if_neg (show ¬ (false = true) by decide)] at H; exact H
                                  clear H
                                  have H := H1
                                  clear H1
                                  replace H := Option.bind_eq_some_iff.mp H
                                  obtain ⟨t339, A300, H⟩ := H
                                  replace H : (if t339 = true then (sorrellaw04_LexKinds.j3 kj24 a0 t322 t323 x7_1 ((rd_T30 t323 x7_1).f1) (bt a0 ((rd_T30 t323 x7_1).f3)) 2) else ((sorrelref04_Digit.f (bt a0 ((rd_T30 t323 x7_1).f3))).bind fun t340 => (if t340 = true then (sorrellaw04_LexKinds.j3 kj24 a0 t322 t323 x7_1 ((rd_T30 t323 x7_1).f1) (bt a0 ((rd_T30 t323 x7_1).f3)) 3) else ((sorrelref04_Sign.f kj24 (bt a0 ((rd_T30 t323 x7_1).f3))).bind fun t341 => (if t341 = true then (sorrellaw04_LexKinds.j3 kj24 a0 t322 t323 x7_1 ((rd_T30 t323 x7_1).f1) (bt a0 ((rd_T30 t323 x7_1).f3)) 4) else (sorrellaw04_LexKinds.j3 kj24 a0 t322 t323 x7_1 ((rd_T30 t323 x7_1).f1) (bt a0 ((rd_T30 t323 x7_1).f3)) 5)))))) = some r := H
                                  have A30 := Aside0.mk A300
                                  clear A300
                                  by_cases c31 : t339 = true
                                  · subst c31
                                    have H1 : (sorrellaw04_LexKinds.j3 kj24 a0 t322 t323 x7_1 ((rd_T30 t323 x7_1).f1) (bt a0 ((rd_T30 t323 x7_1).f3)) 2) = some r := by rw [if_pos rfl] at H; exact H
                                    clear H
                                    have H := H1
                                    clear H1
                                    have H' := Aside0.mk H
                                    clear H
                                    go_wp2_with (first | ((with_reducible refine gate_callee (f := 19) rfl ?_); refine goesL_ (some 100) rfl rfl Tryd.func19 (by kernel_rfl) rfl #[.int .u8 (bt a0 ((rd_T30 t323 x7_1).f3))] rfl (by (try simp only [List.map_toArray, List.map_cons, List.map_nil]); first | done | rfl | (simp only [List.length_drop, List.length_take]; rfl)) ?_; (with_reducible refine (sorrelref04_Great.calls (bt a0 ((rd_T30 t323 x7_1).f3)) true _ A30.out).mono ?_); rintro e w' ⟨rfl, ⟨nd, rfl⟩⟩; refine ⟨_, rfl, ?_⟩))
                                    go_meet
                                    case rel => exact ⟨_, (2), (by first | rfl | (simp; done) | (simp [*]; done)), H', ⟨by have := HK1.out; have := HJ9.out; have := HJ24.out; first | omega | exact Nat.le_refl _⟩, ⟨by (with_reducible repeat (first | apply Kd.R_alloc | apply Kd.R_drewN | apply Kd.R_drew)); exact HO_4.out⟩, ⟨by repeat (first | (with_reducible first | exact HB.out | apply below_alloc | apply pw_below_drewN | apply below_drew1) | exact HB.out)⟩⟩
                                  · replace c31 := Bool.eq_false_iff.mpr c31
                                    subst c31
                                    have H1 : ((sorrelref04_Digit.f (bt a0 ((rd_T30 t323 x7_1).f3))).bind fun t340 => (if t340 = true then (sorrellaw04_LexKinds.j3 kj24 a0 t322 t323 x7_1 ((rd_T30 t323 x7_1).f1) (bt a0 ((rd_T30 t323 x7_1).f3)) 3) else ((sorrelref04_Sign.f kj24 (bt a0 ((rd_T30 t323 x7_1).f3))).bind fun t341 => (if t341 = true then (sorrellaw04_LexKinds.j3 kj24 a0 t322 t323 x7_1 ((rd_T30 t323 x7_1).f1) (bt a0 ((rd_T30 t323 x7_1).f3)) 4) else (sorrellaw04_LexKinds.j3 kj24 a0 t322 t323 x7_1 ((rd_T30 t323 x7_1).f1) (bt a0 ((rd_T30 t323 x7_1).f3)) 5))))) = some r := by rw [if_neg (show ¬ (false = true) by decide)] at H; exact H
                                    clear H
                                    have H := H1
                                    clear H1
                                    replace H := Option.bind_eq_some_iff.mp H
                                    obtain ⟨t340, A320, H⟩ := H
                                    replace H : (if t340 = true then (sorrellaw04_LexKinds.j3 kj24 a0 t322 t323 x7_1 ((rd_T30 t323 x7_1).f1) (bt a0 ((rd_T30 t323 x7_1).f3)) 3) else ((sorrelref04_Sign.f kj24 (bt a0 ((rd_T30 t323 x7_1).f3))).bind fun t341 => (if t341 = true then (sorrellaw04_LexKinds.j3 kj24 a0 t322 t323 x7_1 ((rd_T30 t323 x7_1).f1) (bt a0 ((rd_T30 t323 x7_1).f3)) 4) else (sorrellaw04_LexKinds.j3 kj24 a0 t322 t323 x7_1 ((rd_T30 t323 x7_1).f1) (bt a0 ((rd_T30 t323 x7_1).f3)) 5)))) = some r := H
                                    have A32 := Aside0.mk A320
                                    clear A320
                                    by_cases c33 : t340 = true
                                    · subst c33
                                      have H1 : (sorrellaw04_LexKinds.j3 kj24 a0 t322 t323 x7_1 ((rd_T30 t323 x7_1).f1) (bt a0 ((rd_T30 t323 x7_1).f3)) 3) = some r := by rw [if_pos rfl] at H; exact H
                                      clear H
                                      have H := H1
                                      clear H1
                                      have H' := Aside0.mk H
                                      clear H
                                      go_wp2_with (first | ((with_reducible refine gate_callee (f := 19) rfl ?_); refine goesL_ (some 100) rfl rfl Tryd.func19 (by kernel_rfl) rfl #[.int .u8 (bt a0 ((rd_T30 t323 x7_1).f3))] rfl (by (try simp only [List.map_toArray, List.map_cons, List.map_nil]); first | done | rfl | (simp only [List.length_drop, List.length_take]; rfl)) ?_; (with_reducible refine (sorrelref04_Great.calls (bt a0 ((rd_T30 t323 x7_1).f3)) false _ A30.out).mono ?_); rintro e w' ⟨rfl, ⟨nd, rfl⟩⟩; refine ⟨_, rfl, ?_⟩) | ((with_reducible refine gate_callee (f := 20) rfl ?_); refine goesL_ (some 102) rfl rfl Tryd.func20 (by kernel_rfl) rfl #[.int .u8 (bt a0 ((rd_T30 t323 x7_1).f3))] rfl (by (try simp only [List.map_toArray, List.map_cons, List.map_nil]); first | done | rfl | (simp only [List.length_drop, List.length_take]; rfl)) ?_; (with_reducible refine (sorrelref04_Digit.calls (bt a0 ((rd_T30 t323 x7_1).f3)) true _ A32.out).mono ?_); rintro e w' ⟨rfl, ⟨nd, rfl⟩⟩; refine ⟨_, rfl, ?_⟩))
                                      go_meet
                                      case rel => exact ⟨_, (3), (by first | rfl | (simp; done) | (simp [*]; done)), H', ⟨by have := HK1.out; have := HJ9.out; have := HJ24.out; first | omega | exact Nat.le_refl _⟩, ⟨by (with_reducible repeat (first | apply Kd.R_alloc | apply Kd.R_drewN | apply Kd.R_drew)); exact HO_4.out⟩, ⟨by repeat (first | (with_reducible first | exact HB.out | apply below_alloc | apply pw_below_drewN | apply below_drew1) | exact HB.out)⟩⟩
                                    · replace c33 := Bool.eq_false_iff.mpr c33
                                      subst c33
                                      have H1 : ((sorrelref04_Sign.f kj24 (bt a0 ((rd_T30 t323 x7_1).f3))).bind fun t341 => (if t341 = true then (sorrellaw04_LexKinds.j3 kj24 a0 t322 t323 x7_1 ((rd_T30 t323 x7_1).f1) (bt a0 ((rd_T30 t323 x7_1).f3)) 4) else (sorrellaw04_LexKinds.j3 kj24 a0 t322 t323 x7_1 ((rd_T30 t323 x7_1).f1) (bt a0 ((rd_T30 t323 x7_1).f3)) 5))) = some r := by rw [if_neg (show ¬ (false = true) by decide)] at H; exact H
                                      clear H
                                      have H := H1
                                      clear H1
                                      replace H := Option.bind_eq_some_iff.mp H
                                      obtain ⟨t341, A340, H⟩ := H
                                      replace H : (if t341 = true then (sorrellaw04_LexKinds.j3 kj24 a0 t322 t323 x7_1 ((rd_T30 t323 x7_1).f1) (bt a0 ((rd_T30 t323 x7_1).f3)) 4) else (sorrellaw04_LexKinds.j3 kj24 a0 t322 t323 x7_1 ((rd_T30 t323 x7_1).f1) (bt a0 ((rd_T30 t323 x7_1).f3)) 5)) = some r := H
                                      have A34 := Aside0.mk A340
                                      clear A340
                                      by_cases c35 : t341 = true
                                      · subst c35
                                        have H1 : (sorrellaw04_LexKinds.j3 kj24 a0 t322 t323 x7_1 ((rd_T30 t323 x7_1).f1) (bt a0 ((rd_T30 t323 x7_1).f3)) 4) = some r := by rw [if_pos rfl] at H; exact H
                                        clear H
                                        have H := H1
                                        clear H1
                                        have H' := Aside0.mk H
                                        clear H
                                        go_wp2_with (first | ((with_reducible refine gate_callee (f := 19) rfl ?_); refine goesL_ (some 100) rfl rfl Tryd.func19 (by kernel_rfl) rfl #[.int .u8 (bt a0 ((rd_T30 t323 x7_1).f3))] rfl (by (try simp only [List.map_toArray, List.map_cons, List.map_nil]); first | done | rfl | (simp only [List.length_drop, List.length_take]; rfl)) ?_; (with_reducible refine (sorrelref04_Great.calls (bt a0 ((rd_T30 t323 x7_1).f3)) false _ A30.out).mono ?_); rintro e w' ⟨rfl, ⟨nd, rfl⟩⟩; refine ⟨_, rfl, ?_⟩) | ((with_reducible refine gate_callee (f := 20) rfl ?_); refine goesL_ (some 102) rfl rfl Tryd.func20 (by kernel_rfl) rfl #[.int .u8 (bt a0 ((rd_T30 t323 x7_1).f3))] rfl (by (try simp only [List.map_toArray, List.map_cons, List.map_nil]); first | done | rfl | (simp only [List.length_drop, List.length_take]; rfl)) ?_; (with_reducible refine (sorrelref04_Digit.calls (bt a0 ((rd_T30 t323 x7_1).f3)) false _ A32.out).mono ?_); rintro e w' ⟨rfl, ⟨nd, rfl⟩⟩; refine ⟨_, rfl, ?_⟩) | ((with_reducible refine gate_callee (f := 21) rfl ?_); refine goesL_ (some 104) rfl rfl Tryd.func21 (by kernel_rfl) rfl #[.int .u8 (bt a0 ((rd_T30 t323 x7_1).f3))] rfl (by (try simp only [List.map_toArray, List.map_cons, List.map_nil]); first | done | rfl | (simp only [List.length_drop, List.length_take]; rfl)) ?_; (with_reducible refine (sorrelref04_Sign.calls kj24 (bt a0 ((rd_T30 t323 x7_1).f3)) true _ A34.out).mono ?_); rintro e w' ⟨rfl, ⟨nd, rfl⟩⟩; refine ⟨_, rfl, ?_⟩))
                                        go_meet
                                        case rel => exact ⟨_, (4), (by first | rfl | (simp; done) | (simp [*]; done)), H', ⟨by have := HK1.out; have := HJ9.out; have := HJ24.out; first | omega | exact Nat.le_refl _⟩, ⟨by (with_reducible repeat (first | apply Kd.R_alloc | apply Kd.R_drewN | apply Kd.R_drew)); exact HO_4.out⟩, ⟨by repeat (first | (with_reducible first | exact HB.out | apply below_alloc | apply pw_below_drewN | apply below_drew1) | exact HB.out)⟩⟩
                                      · replace c35 := Bool.eq_false_iff.mpr c35
                                        subst c35
                                        have H1 : (sorrellaw04_LexKinds.j3 kj24 a0 t322 t323 x7_1 ((rd_T30 t323 x7_1).f1) (bt a0 ((rd_T30 t323 x7_1).f3)) 5) = some r := by rw [if_neg (show ¬ (false = true) by decide)] at H; exact H
                                        clear H
                                        have H := H1
                                        clear H1
                                        have H' := Aside0.mk H
                                        clear H
                                        go_wp2_with (first | ((with_reducible refine gate_callee (f := 19) rfl ?_); refine goesL_ (some 100) rfl rfl Tryd.func19 (by kernel_rfl) rfl #[.int .u8 (bt a0 ((rd_T30 t323 x7_1).f3))] rfl (by (try simp only [List.map_toArray, List.map_cons, List.map_nil]); first | done | rfl | (simp only [List.length_drop, List.length_take]; rfl)) ?_; (with_reducible refine (sorrelref04_Great.calls (bt a0 ((rd_T30 t323 x7_1).f3)) false _ A30.out).mono ?_); rintro e w' ⟨rfl, ⟨nd, rfl⟩⟩; refine ⟨_, rfl, ?_⟩) | ((with_reducible refine gate_callee (f := 20) rfl ?_); refine goesL_ (some 102) rfl rfl Tryd.func20 (by kernel_rfl) rfl #[.int .u8 (bt a0 ((rd_T30 t323 x7_1).f3))] rfl (by (try simp only [List.map_toArray, List.map_cons, List.map_nil]); first | done | rfl | (simp only [List.length_drop, List.length_take]; rfl)) ?_; (with_reducible refine (sorrelref04_Digit.calls (bt a0 ((rd_T30 t323 x7_1).f3)) false _ A32.out).mono ?_); rintro e w' ⟨rfl, ⟨nd, rfl⟩⟩; refine ⟨_, rfl, ?_⟩) | ((with_reducible refine gate_callee (f := 21) rfl ?_); refine goesL_ (some 104) rfl rfl Tryd.func21 (by kernel_rfl) rfl #[.int .u8 (bt a0 ((rd_T30 t323 x7_1).f3))] rfl (by (try simp only [List.map_toArray, List.map_cons, List.map_nil]); first | done | rfl | (simp only [List.length_drop, List.length_take]; rfl)) ?_; (with_reducible refine (sorrelref04_Sign.calls kj24 (bt a0 ((rd_T30 t323 x7_1).f3)) false _ A34.out).mono ?_); rintro e w' ⟨rfl, ⟨nd, rfl⟩⟩; refine ⟨_, rfl, ?_⟩))
                                        go_meet
                                        case rel => exact ⟨_, (5), (by first | rfl | (simp; done) | (simp [*]; done)), H', ⟨by have := HK1.out; have := HJ9.out; have := HJ24.out; first | omega | exact Nat.le_refl _⟩, ⟨by (with_reducible repeat (first | apply Kd.R_alloc | apply Kd.R_drewN | apply Kd.R_drew)); exact HO_4.out⟩, ⟨by repeat (first | (with_reducible first | exact HB.out | apply below_alloc | apply pw_below_drewN | apply below_drew1) | exact HB.out)⟩⟩
                              case rest =>
                                clear HC28
                                try clear c1
                                try clear c2
                                try clear p2
                                try clear q2
                                try clear hx2
                                try clear c3
                                try clear c3b0
                                try clear c3b1
                                try clear p3
                                try clear q3
                                try clear hx3
                                try clear c8
                                try clear c8b0
                                try clear c9
                                try clear c9b0
                                try clear c11
                                try clear c12
                                try clear c12b0
                                try clear c12b1
                                try clear c13
                                try clear c13b0
                                try clear c14
                                try clear c14b0
                                try clear c15
                                try clear c15b0
                                try clear c15b1
                                try clear c16
                                try clear c16b0
                                try clear c17
                                try clear c17b0
                                try clear c17b1
                                try clear c18
                                try clear c18b0
                                try clear c19
                                try clear c20
                                try clear c20b0
                                try clear c21
                                try clear c21b0
                                try clear c22
                                try clear c22b0
                                try clear c23
                                try clear c23b0
                                try clear p24
                                try clear q24
                                try clear hx24
                                try clear c26
                                try clear c26b0
                                try clear c26b1
                                try clear c29
                                try clear c31
                                try clear p32
                                try clear q32
                                try clear hx32
                                try clear c33
                                try clear p33
                                try clear q33
                                try clear hx33
                                try clear c35
                                try clear hx328_0
                                try clear hx328_1
                                try clear hx328_2
                                try clear hx328_3
                                try clear hx329_0
                                try clear hx329_1
                                try clear hx329_2
                                try clear hx329_3
                                try clear hx330_0
                                try clear hx330_1
                                try clear hx330_2
                                try clear hx330_3
                                try clear hx331_0
                                try clear hx331_1
                                try clear hx331_2
                                try clear hx331_3
                                try clear hx332_0
                                try clear hx332_1
                                try clear hx332_2
                                try clear hx332_3
                                try clear hx333_0
                                try clear hx333_1
                                try clear hx333_2
                                try clear hx333_3
                                try clear hx334_0
                                try clear hx334_1
                                try clear hx334_2
                                try clear hx334_3
                                try clear hx335_0
                                try clear hx335_1
                                try clear hx335_2
                                try clear hx335_3
                                try clear hx336_0
                                try clear hx336_1
                                try clear hx336_2
                                try clear hx336_3
                                try clear hx337_0
                                try clear hx337_1
                                try clear hx337_2
                                try clear hx337_3
                                try clear p2
                                try clear p24
                                try clear p3
                                try clear p328
                                try clear p329
                                try clear p330
                                try clear p331
                                try clear p332
                                try clear p333
                                try clear p334
                                try clear p335
                                try clear p336
                                try clear p337
                                try clear q2
                                try clear q24
                                try clear q3
                                try clear q328
                                try clear q329
                                try clear q330
                                try clear q331
                                try clear q332
                                try clear q333
                                try clear q334
                                try clear q335
                                try clear q336
                                try clear q337
                                obtain ⟨kq, x10_27, rfl, HA, HJ27, HO_4, HB⟩ := hcut
                                cases kq with
                                | zero => exact absurd HA.out (by simp [sorrellaw04_LexKinds.j3])
                                | succ kj27 =>
                                  have H := HA.out
                                  clear HA
                                  simp only [sorrellaw04_LexKinds.j3] at H
                                  have HC36 := Aside0.mk H
                                  clear H
                                  go_upto_region 21 with (fail)
                                  go_cut [128] (fun v128 wc => ∃ (kq : Nat) (x128_35 : Bool), v128 = .bool x128_35 ∧ Aside0 (sorrellaw04_LexKinds.j4 kq a0 t322 t323 x7_1 ((rd_T30 t323 x7_1).f1) x10_27 x128_35 = some r) ∧ Aside0 (kq ≤ kj27) ∧ Aside0 (Kd.R k30 30 wc w.heap.size (fun _ => True) (.slice (some ad328) t323.length co11) t323) ∧ Aside0 (Below w.heap.size w wc))
                                  case first =>
                                    have H := HC36.out
                                    clear HC36
                                    by_cases c37 : 0 ≤ x7_1
                                    · rw [if_pos c37] at H
                                      have c37b0 : decide (0 ≤ x7_1) = true := decide_eq_true c37
                                      clear c37
                                      (first | rw [c37b0] | (simp only [i64_w, i32_w]; rw [c37b0]) | skip)
                                      by_cases c38 : x7_1 < (t323.length : Int)
                                      · rw [if_pos c38] at H
                                        have c38b0 : decide (x7_1 < (t323.length : Int)) = true := decide_eq_true c38
                                        clear c38
                                        by_cases c39 : ((rd_T30 t323 x7_1).f0) = x10_27
                                        · rw [if_pos c39] at H
                                          have c39b0 : (((rd_T30 t323 x7_1).f0) == x10_27) = true := beq_iff_eq.mpr c39
                                          have c39b1 : (((rd_T30 t323 x7_1).f0) != x10_27) = false := bne_eq_false_iff_eq.mpr c39
                                          clear c39
                                          have H' := Aside0.mk H
                                          clear H
                                          have p342 : 0 ≤ (x7_1 : Int) := of_decide_eq_true (by first | (with_reducible assumption) | assumption)
                                          have q342 : x7_1 < (t323.length : Int) := of_decide_eq_true (by first | (with_reducible assumption) | assumption)
                                          obtain ⟨ad342, e342, hx342_0, hx342_1, hx342_2, hx342_3⟩ := at_T30 (Kd.R_reads' HO_4.out).2.2 x7_1 p342 q342
                                          obtain rfl : ad328 = ad342 := (by injection e342)
                                          replace p342 := eq_true p342
                                          replace q342 := eq_true q342
                                          go_wp2
                                          go_meet
                                          case rel => exact ⟨_, (false), (by first | rfl | (simp; done) | (simp [*]; done)), H', ⟨by have := HK1.out; have := HJ9.out; have := HJ24.out; have := HJ27.out; first | omega | exact Nat.le_refl _⟩, ⟨by (with_reducible repeat (first | apply Kd.R_alloc | apply Kd.R_drewN | apply Kd.R_drew)); exact HO_4.out⟩, ⟨by repeat (first | (with_reducible first | exact HB.out | apply below_alloc | apply pw_below_drewN | apply below_drew1) | exact HB.out)⟩⟩
                                        · rw [if_neg c39] at H
                                          have c39b0 : (((rd_T30 t323 x7_1).f0) == x10_27) = false := beq_eq_false_iff_ne.mpr c39
                                          have c39b1 : (((rd_T30 t323 x7_1).f0) != x10_27) = true := bne_iff_ne.mpr c39
                                          by_cases c40 : ((rd_T30 t323 x7_1).f0) = 6
                                          · rw [if_pos c40] at H
                                            have c40b0 : (((rd_T30 t323 x7_1).f0) == 6) = true := beq_iff_eq.mpr c40
                                            have c40b1 : (((rd_T30 t323 x7_1).f0) != 6) = false := bne_eq_false_iff_eq.mpr c40
                                            clear c40
                                            by_cases c41 : ((rd_T30 t323 x7_1).f1).toList = ([46] : List UInt8)
                                            · rw [if_pos c41] at H
                                              have c41b0 : (((rd_T30 t323 x7_1).f1).toList == ([46] : List UInt8)) = true := beq_iff_eq.mpr c41
                                              have c41b1 : (((rd_T30 t323 x7_1).f1).toList != ([46] : List UInt8)) = false := bne_eq_false_iff_eq.mpr c41
                                              clear c41
                                              have H' := Aside0.mk H
                                              clear H
                                              have p342 : 0 ≤ (x7_1 : Int) := of_decide_eq_true (by first | (with_reducible assumption) | assumption)
                                              have q342 : x7_1 < (t323.length : Int) := of_decide_eq_true (by first | (with_reducible assumption) | assumption)
                                              obtain ⟨ad342, e342, hx342_0, hx342_1, hx342_2, hx342_3⟩ := at_T30 (Kd.R_reads' HO_4.out).2.2 x7_1 p342 q342
                                              obtain rfl : ad328 = ad342 := (by injection e342)
                                              replace p342 := eq_true p342
                                              replace q342 := eq_true q342
                                              have p343 : 0 ≤ (x7_1 : Int) := of_decide_eq_true (by first | (with_reducible assumption) | assumption)
                                              have q343 : x7_1 < (t323.length : Int) := of_decide_eq_true (by first | (with_reducible assumption) | assumption)
                                              obtain ⟨ad343, e343, hx343_0, hx343_1, hx343_2, hx343_3⟩ := at_T30 (Kd.R_reads' HO_4.out).2.2 x7_1 p343 q343
                                              obtain rfl : ad328 = ad343 := (by injection e343)
                                              replace p343 := eq_true p343
                                              replace q343 := eq_true q343
                                              go_wp2
                                              go_meet
                                              case rel => exact ⟨_, (((bt a0 ((rd_T30 t323 x7_1).f3)) != 46)), (by first | rfl | (simp; done) | (simp [*]; done)), H', ⟨by have := HK1.out; have := HJ9.out; have := HJ24.out; have := HJ27.out; first | omega | exact Nat.le_refl _⟩, ⟨by (with_reducible repeat (first | apply Kd.R_alloc | apply Kd.R_drewN | apply Kd.R_drew)); exact HO_4.out⟩, ⟨by repeat (first | (with_reducible first | exact HB.out | apply below_alloc | apply pw_below_drewN | apply below_drew1) | exact HB.out)⟩⟩
                                            · rw [if_neg c41] at H
                                              have c41b0 : (((rd_T30 t323 x7_1).f1).toList == ([46] : List UInt8)) = false := beq_eq_false_iff_ne.mpr c41
                                              have c41b1 : (((rd_T30 t323 x7_1).f1).toList != ([46] : List UInt8)) = true := bne_iff_ne.mpr c41
                                              have H' := Aside0.mk H
                                              clear H
                                              have p342 : 0 ≤ (x7_1 : Int) := of_decide_eq_true (by first | (with_reducible assumption) | assumption)
                                              have q342 : x7_1 < (t323.length : Int) := of_decide_eq_true (by first | (with_reducible assumption) | assumption)
                                              obtain ⟨ad342, e342, hx342_0, hx342_1, hx342_2, hx342_3⟩ := at_T30 (Kd.R_reads' HO_4.out).2.2 x7_1 p342 q342
                                              obtain rfl : ad328 = ad342 := (by injection e342)
                                              replace p342 := eq_true p342
                                              replace q342 := eq_true q342
                                              have p343 : 0 ≤ (x7_1 : Int) := of_decide_eq_true (by first | (with_reducible assumption) | assumption)
                                              have q343 : x7_1 < (t323.length : Int) := of_decide_eq_true (by first | (with_reducible assumption) | assumption)
                                              obtain ⟨ad343, e343, hx343_0, hx343_1, hx343_2, hx343_3⟩ := at_T30 (Kd.R_reads' HO_4.out).2.2 x7_1 p343 q343
                                              obtain rfl : ad328 = ad343 := (by injection e343)
                                              replace p343 := eq_true p343
                                              replace q343 := eq_true q343
                                              go_wp2
                                              go_meet
                                              case rel => exact ⟨_, (true), (by first | rfl | (simp; done) | (simp [*]; done)), H', ⟨by have := HK1.out; have := HJ9.out; have := HJ24.out; have := HJ27.out; first | omega | exact Nat.le_refl _⟩, ⟨by (with_reducible repeat (first | apply Kd.R_alloc | apply Kd.R_drewN | apply Kd.R_drew)); exact HO_4.out⟩, ⟨by repeat (first | (with_reducible first | exact HB.out | apply below_alloc | apply pw_below_drewN | apply below_drew1) | exact HB.out)⟩⟩
                                          · rw [if_neg c40] at H
                                            have c40b0 : (((rd_T30 t323 x7_1).f0) == 6) = false := beq_eq_false_iff_ne.mpr c40
                                            have c40b1 : (((rd_T30 t323 x7_1).f0) != 6) = true := bne_iff_ne.mpr c40
                                            have H' := Aside0.mk H
                                            clear H
                                            have p342 : 0 ≤ (x7_1 : Int) := of_decide_eq_true (by first | (with_reducible assumption) | assumption)
                                            have q342 : x7_1 < (t323.length : Int) := of_decide_eq_true (by first | (with_reducible assumption) | assumption)
                                            obtain ⟨ad342, e342, hx342_0, hx342_1, hx342_2, hx342_3⟩ := at_T30 (Kd.R_reads' HO_4.out).2.2 x7_1 p342 q342
                                            obtain rfl : ad328 = ad342 := (by injection e342)
                                            replace p342 := eq_true p342
                                            replace q342 := eq_true q342
                                            have p343 : 0 ≤ (x7_1 : Int) := of_decide_eq_true (by first | (with_reducible assumption) | assumption)
                                            have q343 : x7_1 < (t323.length : Int) := of_decide_eq_true (by first | (with_reducible assumption) | assumption)
                                            obtain ⟨ad343, e343, hx343_0, hx343_1, hx343_2, hx343_3⟩ := at_T30 (Kd.R_reads' HO_4.out).2.2 x7_1 p343 q343
                                            obtain rfl : ad328 = ad343 := (by injection e343)
                                            replace p343 := eq_true p343
                                            replace q343 := eq_true q343
                                            go_wp2
                                            go_meet
                                            case rel => exact ⟨_, (true), (by first | rfl | (simp; done) | (simp [*]; done)), H', ⟨by have := HK1.out; have := HJ9.out; have := HJ24.out; have := HJ27.out; first | omega | exact Nat.le_refl _⟩, ⟨by (with_reducible repeat (first | apply Kd.R_alloc | apply Kd.R_drewN | apply Kd.R_drew)); exact HO_4.out⟩, ⟨by repeat (first | (with_reducible first | exact HB.out | apply below_alloc | apply pw_below_drewN | apply below_drew1) | exact HB.out)⟩⟩
                                      · rw [if_neg c38] at H
                                        exact absurd H (by simp)
                                    · rw [if_neg c37] at H
                                      exact absurd H (by simp)
                                  case rest =>
                                    clear HC36
                                    try clear c1
                                    try clear c2
                                    try clear p2
                                    try clear q2
                                    try clear hx2
                                    try clear c3
                                    try clear c3b0
                                    try clear c3b1
                                    try clear p3
                                    try clear q3
                                    try clear hx3
                                    try clear c4
                                    try clear c8
                                    try clear c8b0
                                    try clear c9
                                    try clear c9b0
                                    try clear c11
                                    try clear c12
                                    try clear c12b0
                                    try clear c12b1
                                    try clear c13
                                    try clear c13b0
                                    try clear c14
                                    try clear c14b0
                                    try clear c15
                                    try clear c15b0
                                    try clear c15b1
                                    try clear c16
                                    try clear c16b0
                                    try clear c17
                                    try clear c17b0
                                    try clear c17b1
                                    try clear c18
                                    try clear c18b0
                                    try clear c19
                                    try clear c20
                                    try clear c20b0
                                    try clear c21
                                    try clear c21b0
                                    try clear c22
                                    try clear c22b0
                                    try clear c23
                                    try clear c23b0
                                    try clear p24
                                    try clear q24
                                    try clear hx24
                                    try clear c26
                                    try clear c26b0
                                    try clear c26b1
                                    try clear c29
                                    try clear c31
                                    try clear p32
                                    try clear q32
                                    try clear hx32
                                    try clear c33
                                    try clear p33
                                    try clear q33
                                    try clear hx33
                                    try clear p34
                                    try clear q34
                                    try clear hx34
                                    try clear c35
                                    try clear c37
                                    try clear c37b0
                                    try clear c38
                                    try clear c38b0
                                    try clear c39
                                    try clear c39b0
                                    try clear c39b1
                                    try clear c40
                                    try clear c40b0
                                    try clear c40b1
                                    try clear c41
                                    try clear c41b0
                                    try clear c41b1
                                    try clear hx328_0
                                    try clear hx328_1
                                    try clear hx328_2
                                    try clear hx328_3
                                    try clear hx329_0
                                    try clear hx329_1
                                    try clear hx329_2
                                    try clear hx329_3
                                    try clear hx330_0
                                    try clear hx330_1
                                    try clear hx330_2
                                    try clear hx330_3
                                    try clear hx331_0
                                    try clear hx331_1
                                    try clear hx331_2
                                    try clear hx331_3
                                    try clear hx332_0
                                    try clear hx332_1
                                    try clear hx332_2
                                    try clear hx332_3
                                    try clear hx333_0
                                    try clear hx333_1
                                    try clear hx333_2
                                    try clear hx333_3
                                    try clear hx334_0
                                    try clear hx334_1
                                    try clear hx334_2
                                    try clear hx334_3
                                    try clear hx335_0
                                    try clear hx335_1
                                    try clear hx335_2
                                    try clear hx335_3
                                    try clear hx336_0
                                    try clear hx336_1
                                    try clear hx336_2
                                    try clear hx336_3
                                    try clear hx337_0
                                    try clear hx337_1
                                    try clear hx337_2
                                    try clear hx337_3
                                    try clear hx342_0
                                    try clear hx342_1
                                    try clear hx342_2
                                    try clear hx342_3
                                    try clear hx343_0
                                    try clear hx343_1
                                    try clear hx343_2
                                    try clear hx343_3
                                    try clear p2
                                    try clear p24
                                    try clear p3
                                    try clear p32
                                    try clear p328
                                    try clear p329
                                    try clear p33
                                    try clear p330
                                    try clear p331
                                    try clear p332
                                    try clear p333
                                    try clear p334
                                    try clear p335
                                    try clear p336
                                    try clear p337
                                    try clear p342
                                    try clear p343
                                    try clear q2
                                    try clear q24
                                    try clear q3
                                    try clear q32
                                    try clear q328
                                    try clear q329
                                    try clear q33
                                    try clear q330
                                    try clear q331
                                    try clear q332
                                    try clear q333
                                    try clear q334
                                    try clear q335
                                    try clear q336
                                    try clear q337
                                    try clear q342
                                    try clear q343
                                    obtain ⟨kq, x128_35, rfl, HA, HJ35, HO_4, HB⟩ := hcut
                                    cases kq with
                                    | zero => exact absurd HA.out (by simp [sorrellaw04_LexKinds.j4])
                                    | succ kj35 =>
                                      have H := HA.out
                                      clear HA
                                      simp only [sorrellaw04_LexKinds.j4] at H
                                      by_cases c42 : x128_35 = true
                                      · subst c42
                                        have H1 : (some false) = some r := by rw [if_pos rfl] at H; exact H
                                        clear H
                                        have H := H1
                                        clear H1
                                        obtain rfl := Option.some.inj H
                                        go_wp2
                                        go_ret
                                        exact ⟨by first | rfl | (simp [errW_none, errW_some] <;> rfl) | (simp [*, errW_none, errW_some] <;> rfl), by repeat (first | (with_reducible first | exact HB.out | apply below_alloc | apply pw_below_drewN | apply below_drew1) | exact HB.out)⟩
                                      · replace c42 := Bool.eq_false_iff.mpr c42
                                        subst c42
                                        have H1 : (if x10_27 = 1 then (if (((rd_T30 t323 x7_1).f1).size : Int) > 12 then (some false) else (if x10_27 = 5 then (if (((rd_T30 t323 x7_1).f1).size : Int) = 1 then (sorrellaw04_LexKinds.l0 kj35 a0 t322 t323 (wrap64 (x7_1 + 1))) else (some false)) else (sorrellaw04_LexKinds.l0 kj35 a0 t322 t323 (wrap64 (x7_1 + 1))))) else (if x10_27 = 4 then (if (((rd_T30 t323 x7_1).f1).size : Int) > 12 then (some false) else (if x10_27 = 5 then (if (((rd_T30 t323 x7_1).f1).size : Int) = 1 then (sorrellaw04_LexKinds.l0 kj35 a0 t322 t323 (wrap64 (x7_1 + 1))) else (some false)) else (sorrellaw04_LexKinds.l0 kj35 a0 t322 t323 (wrap64 (x7_1 + 1))))) else (if x10_27 = 5 then (if (((rd_T30 t323 x7_1).f1).size : Int) = 1 then (sorrellaw04_LexKinds.l0 kj35 a0 t322 t323 (wrap64 (x7_1 + 1))) else (some false)) else (sorrellaw04_LexKinds.l0 kj35 a0 t322 t323 (wrap64 (x7_1 + 1)))))) = some r := by rw [if_neg (show ¬ (false = true) by decide)] at H; exact H
                                        clear H
                                        have H := H1
                                        clear H1
                                        by_cases c43 : x10_27 = 1
                                        · rw [if_pos c43] at H
                                          have c43b0 : (x10_27 == 1) = true := beq_iff_eq.mpr c43
                                          have c43b1 : (x10_27 != 1) = false := bne_eq_false_iff_eq.mpr c43
                                          clear c43
                                          by_cases c44 : (((rd_T30 t323 x7_1).f1).size : Int) > 12
                                          · rw [if_pos c44] at H
                                            have c44b0 : decide (12 < (((rd_T30 t323 x7_1).f1).size : Int)) = true := decide_eq_true c44
                                            have c44b1 : decide (12 < ((rd_T30 t323 x7_1).f1).size) = true := decide_eq_true (by omega)
                                            clear c44
                                            obtain rfl := Option.some.inj H
                                            go_wp2
                                            go_ret
                                            exact ⟨by first | rfl | (simp [errW_none, errW_some] <;> rfl) | (simp [*, errW_none, errW_some] <;> rfl), by repeat (first | (with_reducible first | exact HB.out | apply below_alloc | apply pw_below_drewN | apply below_drew1) | exact HB.out)⟩
                                          · rw [if_neg c44] at H
                                            have c44b0 : decide (12 < (((rd_T30 t323 x7_1).f1).size : Int)) = false := decide_eq_false c44
                                            have c44b1 : decide (12 < ((rd_T30 t323 x7_1).f1).size) = false := decide_eq_false (by omega)
                                            clear c44
                                            by_cases c45 : x10_27 = 5
                                            · rw [if_pos c45] at H
                                              have c45b0 : (x10_27 == 5) = true := beq_iff_eq.mpr c45
                                              have c45b1 : (x10_27 != 5) = false := bne_eq_false_iff_eq.mpr c45
                                              clear c45
                                              by_cases c46 : (((rd_T30 t323 x7_1).f1).size : Int) = 1
                                              · rw [if_pos c46] at H
                                                have c46b0 : ((((rd_T30 t323 x7_1).f1).size : Int) == 1) = true := beq_iff_eq.mpr c46
                                                have c46b1 : ((((rd_T30 t323 x7_1).f1).size : Int) != 1) = false := bne_eq_false_iff_eq.mpr c46
                                                clear c46
                                                have H' := Aside0.mk H
                                                clear H
                                                go_wp2
                                                go_roundg kj35
                                                case measure => have := HK1.out; have := HJ9.out; have := HJ24.out; have := HJ27.out; have := HJ35.out; omega
                                                case rel => exact ⟨(wrap64 (x7_1 + 1)), (by first | rfl | (simp; done) | (simp [*]; done)), H', ⟨by have := HK1.out; have := HJ9.out; have := HJ24.out; have := HJ27.out; have := HJ35.out; omega⟩, ⟨by (with_reducible repeat (first | apply Kd.R_alloc | apply Kd.R_drewN | apply Kd.R_drew)); exact HO_4.out⟩, ⟨by repeat (first | (with_reducible first | exact HB.out | apply below_alloc | apply pw_below_drewN | apply below_drew1) | exact HB.out)⟩⟩
                                              · rw [if_neg c46] at H
                                                have c46b0 : ((((rd_T30 t323 x7_1).f1).size : Int) == 1) = false := beq_eq_false_iff_ne.mpr c46
                                                have c46b1 : ((((rd_T30 t323 x7_1).f1).size : Int) != 1) = true := bne_iff_ne.mpr c46
                                                obtain rfl := Option.some.inj H
                                                go_wp2
                                                go_ret
                                                exact ⟨by first | rfl | (simp [errW_none, errW_some] <;> rfl) | (simp [*, errW_none, errW_some] <;> rfl), by repeat (first | (with_reducible first | exact HB.out | apply below_alloc | apply pw_below_drewN | apply below_drew1) | exact HB.out)⟩
                                            · rw [if_neg c45] at H
                                              have c45b0 : (x10_27 == 5) = false := beq_eq_false_iff_ne.mpr c45
                                              have c45b1 : (x10_27 != 5) = true := bne_iff_ne.mpr c45
                                              have H' := Aside0.mk H
                                              clear H
                                              go_wp2
                                              go_roundg kj35
                                              case measure => have := HK1.out; have := HJ9.out; have := HJ24.out; have := HJ27.out; have := HJ35.out; omega
                                              case rel => exact ⟨(wrap64 (x7_1 + 1)), (by first | rfl | (simp; done) | (simp [*]; done)), H', ⟨by have := HK1.out; have := HJ9.out; have := HJ24.out; have := HJ27.out; have := HJ35.out; omega⟩, ⟨by (with_reducible repeat (first | apply Kd.R_alloc | apply Kd.R_drewN | apply Kd.R_drew)); exact HO_4.out⟩, ⟨by repeat (first | (with_reducible first | exact HB.out | apply below_alloc | apply pw_below_drewN | apply below_drew1) | exact HB.out)⟩⟩
                                        · rw [if_neg c43] at H
                                          have c43b0 : (x10_27 == 1) = false := beq_eq_false_iff_ne.mpr c43
                                          have c43b1 : (x10_27 != 1) = true := bne_iff_ne.mpr c43
                                          by_cases c47 : x10_27 = 4
                                          · rw [if_pos c47] at H
                                            have c47b0 : (x10_27 == 4) = true := beq_iff_eq.mpr c47
                                            have c47b1 : (x10_27 != 4) = false := bne_eq_false_iff_eq.mpr c47
                                            clear c47
                                            by_cases c48 : (((rd_T30 t323 x7_1).f1).size : Int) > 12
                                            · rw [if_pos c48] at H
                                              have c48b0 : decide (12 < (((rd_T30 t323 x7_1).f1).size : Int)) = true := decide_eq_true c48
                                              have c48b1 : decide (12 < ((rd_T30 t323 x7_1).f1).size) = true := decide_eq_true (by omega)
                                              clear c48
                                              obtain rfl := Option.some.inj H
                                              go_wp2
                                              go_ret
                                              exact ⟨by first | rfl | (simp [errW_none, errW_some] <;> rfl) | (simp [*, errW_none, errW_some] <;> rfl), by repeat (first | (with_reducible first | exact HB.out | apply below_alloc | apply pw_below_drewN | apply below_drew1) | exact HB.out)⟩
                                            · rw [if_neg c48] at H
                                              have c48b0 : decide (12 < (((rd_T30 t323 x7_1).f1).size : Int)) = false := decide_eq_false c48
                                              have c48b1 : decide (12 < ((rd_T30 t323 x7_1).f1).size) = false := decide_eq_false (by omega)
                                              clear c48
                                              by_cases c49 : x10_27 = 5
                                              · rw [if_pos c49] at H
                                                have c49b0 : (x10_27 == 5) = true := beq_iff_eq.mpr c49
                                                have c49b1 : (x10_27 != 5) = false := bne_eq_false_iff_eq.mpr c49
                                                clear c49
                                                by_cases c50 : (((rd_T30 t323 x7_1).f1).size : Int) = 1
                                                · rw [if_pos c50] at H
                                                  have c50b0 : ((((rd_T30 t323 x7_1).f1).size : Int) == 1) = true := beq_iff_eq.mpr c50
                                                  have c50b1 : ((((rd_T30 t323 x7_1).f1).size : Int) != 1) = false := bne_eq_false_iff_eq.mpr c50
                                                  clear c50
                                                  have H' := Aside0.mk H
                                                  clear H
                                                  go_wp2
                                                  go_roundg kj35
                                                  case measure => have := HK1.out; have := HJ9.out; have := HJ24.out; have := HJ27.out; have := HJ35.out; omega
                                                  case rel => exact ⟨(wrap64 (x7_1 + 1)), (by first | rfl | (simp; done) | (simp [*]; done)), H', ⟨by have := HK1.out; have := HJ9.out; have := HJ24.out; have := HJ27.out; have := HJ35.out; omega⟩, ⟨by (with_reducible repeat (first | apply Kd.R_alloc | apply Kd.R_drewN | apply Kd.R_drew)); exact HO_4.out⟩, ⟨by repeat (first | (with_reducible first | exact HB.out | apply below_alloc | apply pw_below_drewN | apply below_drew1) | exact HB.out)⟩⟩
                                                · rw [if_neg c50] at H
                                                  have c50b0 : ((((rd_T30 t323 x7_1).f1).size : Int) == 1) = false := beq_eq_false_iff_ne.mpr c50
                                                  have c50b1 : ((((rd_T30 t323 x7_1).f1).size : Int) != 1) = true := bne_iff_ne.mpr c50
                                                  obtain rfl := Option.some.inj H
                                                  go_wp2
                                                  go_ret
                                                  exact ⟨by first | rfl | (simp [errW_none, errW_some] <;> rfl) | (simp [*, errW_none, errW_some] <;> rfl), by repeat (first | (with_reducible first | exact HB.out | apply below_alloc | apply pw_below_drewN | apply below_drew1) | exact HB.out)⟩
                                              · rw [if_neg c49] at H
                                                have c49b0 : (x10_27 == 5) = false := beq_eq_false_iff_ne.mpr c49
                                                have c49b1 : (x10_27 != 5) = true := bne_iff_ne.mpr c49
                                                have H' := Aside0.mk H
                                                clear H
                                                go_wp2
                                                go_roundg kj35
                                                case measure => have := HK1.out; have := HJ9.out; have := HJ24.out; have := HJ27.out; have := HJ35.out; omega
                                                case rel => exact ⟨(wrap64 (x7_1 + 1)), (by first | rfl | (simp; done) | (simp [*]; done)), H', ⟨by have := HK1.out; have := HJ9.out; have := HJ24.out; have := HJ27.out; have := HJ35.out; omega⟩, ⟨by (with_reducible repeat (first | apply Kd.R_alloc | apply Kd.R_drewN | apply Kd.R_drew)); exact HO_4.out⟩, ⟨by repeat (first | (with_reducible first | exact HB.out | apply below_alloc | apply pw_below_drewN | apply below_drew1) | exact HB.out)⟩⟩
                                          · rw [if_neg c47] at H
                                            have c47b0 : (x10_27 == 4) = false := beq_eq_false_iff_ne.mpr c47
                                            have c47b1 : (x10_27 != 4) = true := bne_iff_ne.mpr c47
                                            by_cases c51 : x10_27 = 5
                                            · rw [if_pos c51] at H
                                              have c51b0 : (x10_27 == 5) = true := beq_iff_eq.mpr c51
                                              have c51b1 : (x10_27 != 5) = false := bne_eq_false_iff_eq.mpr c51
                                              clear c51
                                              by_cases c52 : (((rd_T30 t323 x7_1).f1).size : Int) = 1
                                              · rw [if_pos c52] at H
                                                have c52b0 : ((((rd_T30 t323 x7_1).f1).size : Int) == 1) = true := beq_iff_eq.mpr c52
                                                have c52b1 : ((((rd_T30 t323 x7_1).f1).size : Int) != 1) = false := bne_eq_false_iff_eq.mpr c52
                                                clear c52
                                                have H' := Aside0.mk H
                                                clear H
                                                go_wp2
                                                go_roundg kj35
                                                case measure => have := HK1.out; have := HJ9.out; have := HJ24.out; have := HJ27.out; have := HJ35.out; omega
                                                case rel => exact ⟨(wrap64 (x7_1 + 1)), (by first | rfl | (simp; done) | (simp [*]; done)), H', ⟨by have := HK1.out; have := HJ9.out; have := HJ24.out; have := HJ27.out; have := HJ35.out; omega⟩, ⟨by (with_reducible repeat (first | apply Kd.R_alloc | apply Kd.R_drewN | apply Kd.R_drew)); exact HO_4.out⟩, ⟨by repeat (first | (with_reducible first | exact HB.out | apply below_alloc | apply pw_below_drewN | apply below_drew1) | exact HB.out)⟩⟩
                                              · rw [if_neg c52] at H
                                                have c52b0 : ((((rd_T30 t323 x7_1).f1).size : Int) == 1) = false := beq_eq_false_iff_ne.mpr c52
                                                have c52b1 : ((((rd_T30 t323 x7_1).f1).size : Int) != 1) = true := bne_iff_ne.mpr c52
                                                obtain rfl := Option.some.inj H
                                                go_wp2
                                                go_ret
                                                exact ⟨by first | rfl | (simp [errW_none, errW_some] <;> rfl) | (simp [*, errW_none, errW_some] <;> rfl), by repeat (first | (with_reducible first | exact HB.out | apply below_alloc | apply pw_below_drewN | apply below_drew1) | exact HB.out)⟩
                                            · rw [if_neg c51] at H
                                              have c51b0 : (x10_27 == 5) = false := beq_eq_false_iff_ne.mpr c51
                                              have c51b1 : (x10_27 != 5) = true := bne_iff_ne.mpr c51
                                              have H' := Aside0.mk H
                                              clear H
                                              go_wp2
                                              go_roundg kj35
                                              case measure => have := HK1.out; have := HJ9.out; have := HJ24.out; have := HJ27.out; have := HJ35.out; omega
                                              case rel => exact ⟨(wrap64 (x7_1 + 1)), (by first | rfl | (simp; done) | (simp [*]; done)), H', ⟨by have := HK1.out; have := HJ9.out; have := HJ24.out; have := HJ27.out; have := HJ35.out; omega⟩, ⟨by (with_reducible repeat (first | apply Kd.R_alloc | apply Kd.R_drewN | apply Kd.R_drew)); exact HO_4.out⟩, ⟨by repeat (first | (with_reducible first | exact HB.out | apply below_alloc | apply pw_below_drewN | apply below_drew1) | exact HB.out)⟩⟩
                        · rw [if_neg c23] at H
                          exact absurd H (by simp)
                      · rw [if_neg c22] at H
                        exact absurd H (by simp)
                    · rw [if_neg c21] at H
                      exact absurd H (by simp)
                  · rw [if_neg c20] at H
                    exact absurd H (by simp)
          · rw [if_neg c9] at H
            exact absurd H (by simp)
        · rw [if_neg c8] at H
          have c8b0 : decide (x7_1 < (t323.length : Int)) = false := decide_eq_false c8
          clear c8
          obtain rfl := Option.some.inj H
          obtain ⟨Ao53, co53, eo53⟩ := Kd.R_slice HO_4.out
          subst eo53
          go_wp2
          go_ret
          exact ⟨by first | rfl | (simp [errW_none, errW_some] <;> rfl) | (simp [*, errW_none, errW_some] <;> rfl), by repeat (first | (with_reducible first | exact HB.out | apply below_alloc | apply pw_below_drewN | apply below_drew1) | exact HB.out)⟩

/-- THE ONE PURE STATEMENT of sorrellaw04_LexKinds: yours. -/
def sorrellaw04_LexKinds.Pure : Prop := ∀ (a0 : ByteArray), a0.size ≤ 140737488351232 → ∃ k, sorrellaw04_LexKinds.f k a0 = some true
theorem sorrellaw04_LexKinds.walk (P : sorrellaw04_LexKinds.Pure) (a0 : ByteArray) (w : World) (w0 : a0.size ≤ 140737488351232) (hG : Aside0 (GW w)) :
    Calls Tryd.prog 8 #[.string a0] w fun e w' => e = .returned (.bool true) ∧ Below w.heap.size w w' := by
  obtain ⟨k, h⟩ := P a0 w0
  refine (sorrellaw04_LexKinds.calls k a0 true w h hG).mono ?_
  rintro e w' ⟨rfl, hd⟩
  exact ⟨rfl, hd⟩

end Go.Proofs.YtpdlfokfjkmplaaDoor.P
