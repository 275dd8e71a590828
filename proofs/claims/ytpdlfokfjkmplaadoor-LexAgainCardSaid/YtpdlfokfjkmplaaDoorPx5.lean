-- Written by a program of this session (wip/gen) out of the translation. Lean checks it.
import Derived.Test.YtpdlfokfjkmplaaDoorPx0
import Derived.Test.YtpdlfokfjkmplaaDoorPx1
import Derived.Test.YtpdlfokfjkmplaaDoorLex
import Derived.Test.YtpdlfokfjkmplaaDoorGlob
namespace Go.Proofs.YtpdlfokfjkmplaaDoor.P
open Go.RowKit Go.Proofs.YtpdlfokfjkmplaaDoorW.PrintWords Go.Proofs.YtpdlfokfjkmplaaDoorW.PrintLast Go.Proofs.YtpdlfokfjkmplaaDoorW.PrintMore
attribute [local go_sem] max2_int min2_int max_two min_two max_three min_three max_four min_four   -- for this text's walks alone
set_option linter.unusedVariables false
set_option linter.unusedSimpArgs false

attribute [local go_sem high] eqA30
/-! ### sorrellaw04_head: function 11 -/
def sorrellaw04_head.j0 : Nat → List (S30) → Int → Int → Int → Int → Int → Int → Int → Int → List (S30) → Bool → Option (Bool)
  | 0, _, _, _, _, _, _, _, _, _, _, _ => none
  | k + 1, x1, x2, x3, x5, x6, x8, x9, x11, x12, x13, x48 => if x48 = true then (some false) else (if x2 = 0 then (if x3 = 0 then (if x5 = 3 then (if x6 = 40 then (if x8 = 1 then (if x9 = 41 then (if x11 = 0 then (if x12 = 2 then (if 0 < (x1.length : Int) then (if (((rd_T30 x1 0).f0) == 1 && ((((rd_T30 x1 0).f1).toList) == ([112] : List UInt8) && (((rd_T30 x1 0).f2) == 0 && (((rd_T30 x1 0).f3) == 0)))) = true then (if 2 < (x1.length : Int) then (if (((rd_T30 x1 2).f0) == 2 && ((((rd_T30 x1 2).f1).toList) == ([88, 49] : List UInt8) && (((rd_T30 x1 2).f2) == 0 && (((rd_T30 x1 2).f3) == 2)))) = true then (if 4 < (x1.length : Int) then (if (((rd_T30 x1 4).f0) == 4 && ((((rd_T30 x1 4).f1).toList) == ([58, 45] : List UInt8) && (((rd_T30 x1 4).f2) == 0 && (((rd_T30 x1 4).f3) == 6)))) = true then (if 5 < (x1.length : Int) then (if (((rd_T30 x1 5).f0) == 1 && ((((rd_T30 x1 5).f1).toList) == ([105, 116, 32, 105, 115] : List UInt8) && (((rd_T30 x1 5).f2) == 0 && (((rd_T30 x1 5).f3) == 9)))) = true then (if 7 < (x1.length : Int) then (if (((rd_T30 x1 7).f0) == 3 && ((((rd_T30 x1 7).f1).toList) == ([48, 55] : List UInt8) && (((rd_T30 x1 7).f2) == 7 && (((rd_T30 x1 7).f3) == 17)))) = true then (if 8 < (x1.length : Int) then (if ((rd_T30 x1 8).f0) = 6 then (if 9 < (x1.length : Int) then (if (((rd_T30 x1 9).f0) == 5 && ((((rd_T30 x1 9).f1).toList) == ([124] : List UInt8) && (((rd_T30 x1 9).f2) == 0 && (((rd_T30 x1 9).f3) == 26)))) = true then (if 1 < (x13.length : Int) then (if ((rd_T30 x13 1).f0) = 4 then (if 3 < (x13.length : Int) then (some (((rd_T30 x13 3).f0) == 6)) else (none)) else (some false)) else (none)) else (some false)) else (none)) else (some false)) else (none)) else (some false)) else (none)) else (some false)) else (none)) else (some false)) else (none)) else (some false)) else (none)) else (some false)) else (none)) else (some false)) else (some false)) else (some false)) else (some false)) else (some false)) else (some false)) else (some false)) else (some false))
def sorrellaw04_head.f (k : Nat)  : Option (Bool) := (lex_Lex.f (⟨#[112, 40, 88, 49, 41, 32, 58, 45, 32, 39, 105, 116, 32, 105, 115, 39, 61, 48, 55, 46, 32, 37, 32, 115, 111, 10, 124]⟩ : ByteArray)).bind fun bt108 => ((lex_Lex.f (⟨#[97, 98, 32, 195, 169]⟩ : ByteArray)).bind fun bt113 => ((lex_Lex.f (⟨#[32, 39, 120]⟩ : ByteArray)).bind fun bt118 => ((lex_Lex.f (⟨#[51, 48, 48, 48, 48, 48, 48, 48, 48, 48]⟩ : ByteArray)).bind fun bt123 => ((lex_Lex.f (⟨#[97, 46, 98, 46]⟩ : ByteArray)).bind fun bt128 => (if (bt108.1.length : Int) = 10 then (sorrellaw04_head.j0 k bt108.1 bt108.2.1 bt108.2.2 bt113.2.1 bt113.2.2 bt118.2.1 bt118.2.2 bt123.2.1 bt123.2.2 bt128.1 ((bt128.1.length : Int) != 4)) else (sorrellaw04_head.j0 k bt108.1 bt108.2.1 bt108.2.2 bt113.2.1 bt113.2.2 bt118.2.1 bt118.2.2 bt123.2.1 bt123.2.2 bt128.1 true))))))
theorem sorrellaw04_head.mono_l : ∀ k, (∀ y0 y1 y2 y3 y4 y5 y6 y7 y8 y9 y10, LeO (sorrellaw04_head.j0 k y0 y1 y2 y3 y4 y5 y6 y7 y8 y9 y10) (sorrellaw04_head.j0 (k + 1) y0 y1 y2 y3 y4 y5 y6 y7 y8 y9 y10))
  | 0 => fun _ _ _ _ _ _ _ _ _ _ _ r h => by simp [sorrellaw04_head.j0] at h
  | k + 1 => by
    have ih0 := sorrellaw04_head.mono_l k
    · intro y0 y1 y2 y3 y4 y5 y6 y7 y8 y9 y10
      unfold sorrellaw04_head.j0
      repeat' first
      | (with_reducible exact ih0 _ _ _ _ _ _ _ _ _ _ _)
      | (with_reducible exact LeO.refl _)
      | (with_reducible exact LeO.none _)
      | (with_reducible refine LeO.ite ?_ ?_)
      | (with_reducible refine LeO.bind ?_ (fun _ => ?_))
      | exact ih0 _ _ _ _ _ _ _ _ _ _ _
      | exact LeO.none _
      | refine LeO.ite ?_ ?_
      | refine LeO.bind ?_ (fun _ => ?_)
theorem sorrellaw04_head.mono : ∀ k, LeO (sorrellaw04_head.f k ) (sorrellaw04_head.f (k + 1) ) := by
  intro  k
  have ih0 := sorrellaw04_head.mono_l k
  unfold sorrellaw04_head.f
  repeat' first
      | (with_reducible exact ih0 _ _ _ _ _ _ _ _ _ _ _)
      | (with_reducible exact LeO.refl _)
      | (with_reducible exact LeO.none _)
      | (with_reducible refine LeO.ite ?_ ?_)
      | (with_reducible refine LeO.bind ?_ (fun _ => ?_))
      | exact ih0 _ _ _ _ _ _ _ _ _ _ _
      | exact LeO.none _
      | refine LeO.ite ?_ ?_
      | refine LeO.bind ?_ (fun _ => ?_)
set_option maxHeartbeats 8000000 in
set_option maxRecDepth 100000 in
theorem sorrellaw04_head.calls (k : Nat)  (r : Bool) (w : World) (h : sorrellaw04_head.f k  = some r) (hG : Aside0 (GW w)) :
    Calls Tryd.prog 11 #[] w fun e w' => e = .returned (.bool r) ∧ Below w.heap.size w w' := by
  have hu30 := Tryd.underlying30
  have HB := Aside0.mk (Below.refl w.heap.size w)
  have H : ((lex_Lex.f (⟨#[112, 40, 88, 49, 41, 32, 58, 45, 32, 39, 105, 116, 32, 105, 115, 39, 61, 48, 55, 46, 32, 37, 32, 115, 111, 10, 124]⟩ : ByteArray)).bind fun bt108 => ((lex_Lex.f (⟨#[97, 98, 32, 195, 169]⟩ : ByteArray)).bind fun bt113 => ((lex_Lex.f (⟨#[32, 39, 120]⟩ : ByteArray)).bind fun bt118 => ((lex_Lex.f (⟨#[51, 48, 48, 48, 48, 48, 48, 48, 48, 48]⟩ : ByteArray)).bind fun bt123 => ((lex_Lex.f (⟨#[97, 46, 98, 46]⟩ : ByteArray)).bind fun bt128 => (if (bt108.1.length : Int) = 10 then (sorrellaw04_head.j0 k bt108.1 bt108.2.1 bt108.2.2 bt113.2.1 bt113.2.2 bt118.2.1 bt118.2.2 bt123.2.1 bt123.2.2 bt128.1 ((bt128.1.length : Int) != 4)) else (sorrellaw04_head.j0 k bt108.1 bt108.2.1 bt108.2.2 bt113.2.1 bt113.2.2 bt118.2.1 bt118.2.2 bt123.2.1 bt123.2.2 bt128.1 true))))))) = some r := h
  clear h
  replace H := Option.bind_eq_some_iff.mp H
  obtain ⟨⟨t108, t109, t110⟩, A10, H⟩ := H
  replace H : ((lex_Lex.f (⟨#[97, 98, 32, 195, 169]⟩ : ByteArray)).bind fun bt113 => ((lex_Lex.f (⟨#[32, 39, 120]⟩ : ByteArray)).bind fun bt118 => ((lex_Lex.f (⟨#[51, 48, 48, 48, 48, 48, 48, 48, 48, 48]⟩ : ByteArray)).bind fun bt123 => ((lex_Lex.f (⟨#[97, 46, 98, 46]⟩ : ByteArray)).bind fun bt128 => (if (t108.length : Int) = 10 then (sorrellaw04_head.j0 k t108 t109 t110 bt113.2.1 bt113.2.2 bt118.2.1 bt118.2.2 bt123.2.1 bt123.2.2 bt128.1 ((bt128.1.length : Int) != 4)) else (sorrellaw04_head.j0 k t108 t109 t110 bt113.2.1 bt113.2.2 bt118.2.1 bt118.2.2 bt123.2.1 bt123.2.2 bt128.1 true)))))) = some r := H
  have A1 := Aside0.mk A10
  clear A10
  replace H := Option.bind_eq_some_iff.mp H
  obtain ⟨⟨t113, t114, t115⟩, A20, H⟩ := H
  replace H : ((lex_Lex.f (⟨#[32, 39, 120]⟩ : ByteArray)).bind fun bt118 => ((lex_Lex.f (⟨#[51, 48, 48, 48, 48, 48, 48, 48, 48, 48]⟩ : ByteArray)).bind fun bt123 => ((lex_Lex.f (⟨#[97, 46, 98, 46]⟩ : ByteArray)).bind fun bt128 => (if (t108.length : Int) = 10 then (sorrellaw04_head.j0 k t108 t109 t110 t114 t115 bt118.2.1 bt118.2.2 bt123.2.1 bt123.2.2 bt128.1 ((bt128.1.length : Int) != 4)) else (sorrellaw04_head.j0 k t108 t109 t110 t114 t115 bt118.2.1 bt118.2.2 bt123.2.1 bt123.2.2 bt128.1 true))))) = some r := H
  have A2 := Aside0.mk A20
  clear A20
  replace H := Option.bind_eq_some_iff.mp H
  obtain ⟨⟨t118, t119, t120⟩, A30, H⟩ := H
  replace H : ((lex_Lex.f (⟨#[51, 48, 48, 48, 48, 48, 48, 48, 48, 48]⟩ : ByteArray)).bind fun bt123 => ((lex_Lex.f (⟨#[97, 46, 98, 46]⟩ : ByteArray)).bind fun bt128 => (if (t108.length : Int) = 10 then (sorrellaw04_head.j0 k t108 t109 t110 t114 t115 t119 t120 bt123.2.1 bt123.2.2 bt128.1 ((bt128.1.length : Int) != 4)) else (sorrellaw04_head.j0 k t108 t109 t110 t114 t115 t119 t120 bt123.2.1 bt123.2.2 bt128.1 true)))) = some r := H
  have A3 := Aside0.mk A30
  clear A30
  replace H := Option.bind_eq_some_iff.mp H
  obtain ⟨⟨t123, t124, t125⟩, A40, H⟩ := H
  replace H : ((lex_Lex.f (⟨#[97, 46, 98, 46]⟩ : ByteArray)).bind fun bt128 => (if (t108.length : Int) = 10 then (sorrellaw04_head.j0 k t108 t109 t110 t114 t115 t119 t120 t124 t125 bt128.1 ((bt128.1.length : Int) != 4)) else (sorrellaw04_head.j0 k t108 t109 t110 t114 t115 t119 t120 t124 t125 bt128.1 true))) = some r := H
  have A4 := Aside0.mk A40
  clear A40
  replace H := Option.bind_eq_some_iff.mp H
  obtain ⟨⟨t128, t129, t130⟩, A50, H⟩ := H
  replace H : (if (t108.length : Int) = 10 then (sorrellaw04_head.j0 k t108 t109 t110 t114 t115 t119 t120 t124 t125 t128 ((t128.length : Int) != 4)) else (sorrellaw04_head.j0 k t108 t109 t110 t114 t115 t119 t120 t124 t125 t128 true)) = some r := H
  have A5 := Aside0.mk A50
  clear A50
  have HC6 := Aside0.mk H
  clear H
  go_enter Tryd.func11, Tryd.ntmps11
  go_upto_region 6 with (first | ((with_reducible refine gate_callee (f := 12) rfl ?_); refine goesL_ (some 17) rfl rfl Tryd.func12 (by kernel_rfl) rfl #[.string (⟨#[112, 40, 88, 49, 41, 32, 58, 45, 32, 39, 105, 116, 32, 105, 115, 39, 61, 48, 55, 46, 32, 37, 32, 115, 111, 10, 124]⟩ : ByteArray)] rfl (by (try simp only [List.map_toArray, List.map_cons, List.map_nil]); first | done | rfl | (simp only [List.length_drop, List.length_take]; rfl)) ?_; (with_reducible refine (lex_Lex.calls (⟨#[112, 40, 88, 49, 41, 32, 58, 45, 32, 39, 105, 116, 32, 105, 115, 39, 61, 48, 55, 46, 32, 37, 32, 115, 111, 10, 124]⟩ : ByteArray) t108 t109 t110 _ A1.out ?side1).mono ?_); (case side1 => exact GW.belowA hG (by repeat (first | (with_reducible first | exact HB.out | apply below_alloc | apply pw_below_drewN | apply below_drew1) | exact HB.out))); rintro e w7 ⟨v111, rfl, ho0, hb⟩; refine ⟨_, rfl, ?_⟩; have n0_ := Aside0.mk (Kd.R_lower ho0 (below_size (by repeat (first | (with_reducible first | exact HB.out | apply below_alloc | apply pw_below_drewN | apply below_drew1) | exact HB.out)))); have n1_ := Aside0.mk (below_step (by repeat (first | (with_reducible first | exact HB.out | apply below_alloc | apply pw_below_drewN | apply below_drew1) | exact HB.out)) hb); clear HB; have HO112 := n0_; have HB := n1_; clear n0_ n1_; (try clear hb); (try clear hb2); (try clear hk); (try clear hi); (try clear ho0)) | ((with_reducible refine gate_callee (f := 12) rfl ?_); refine goesL_ (some 22) rfl rfl Tryd.func12 (by kernel_rfl) rfl #[.string (⟨#[97, 98, 32, 195, 169]⟩ : ByteArray)] rfl (by (try simp only [List.map_toArray, List.map_cons, List.map_nil]); first | done | rfl | (simp only [List.length_drop, List.length_take]; rfl)) ?_; (with_reducible refine (lex_Lex.calls (⟨#[97, 98, 32, 195, 169]⟩ : ByteArray) t113 t114 t115 _ A2.out ?side1).mono ?_); (case side1 => exact GW.belowA hG (by repeat (first | (with_reducible first | exact HB.out | apply below_alloc | apply pw_below_drewN | apply below_drew1) | exact HB.out))); rintro e w8 ⟨v116, rfl, ho0, hb⟩; refine ⟨_, rfl, ?_⟩; have n0_ := Aside0.mk (Kd.R_elder' (by (with_reducible repeat (first | apply Kd.R_alloc | apply Kd.R_drewN | apply Kd.R_drew)); exact HO112.out) (Kd.R_base ho0) hb); have n1_ := Aside0.mk (Kd.R_lower (Kd.R_new' ho0 (Kd.R_lt (by (with_reducible repeat (first | apply Kd.R_alloc | apply Kd.R_drewN | apply Kd.R_drew)); exact HO112.out))) (below_size (by repeat (first | (with_reducible first | exact HB.out | apply below_alloc | apply pw_below_drewN | apply below_drew1) | exact HB.out)))); have n2_ := Aside0.mk (below_step (by repeat (first | (with_reducible first | exact HB.out | apply below_alloc | apply pw_below_drewN | apply below_drew1) | exact HB.out)) hb); clear HO112; clear HB; have HO112 := n0_; have HO117 := n1_; have HB := n2_; clear n0_ n1_ n2_; (try clear hb); (try clear hb2); (try clear hk); (try clear hi); (try clear ho0)) | ((with_reducible refine gate_callee (f := 12) rfl ?_); refine goesL_ (some 27) rfl rfl Tryd.func12 (by kernel_rfl) rfl #[.string (⟨#[32, 39, 120]⟩ : ByteArray)] rfl (by (try simp only [List.map_toArray, List.map_cons, List.map_nil]); first | done | rfl | (simp only [List.length_drop, List.length_take]; rfl)) ?_; (with_reducible refine (lex_Lex.calls (⟨#[32, 39, 120]⟩ : ByteArray) t118 t119 t120 _ A3.out ?side1).mono ?_); (case side1 => exact GW.belowA hG (by repeat (first | (with_reducible first | exact HB.out | apply below_alloc | apply pw_below_drewN | apply below_drew1) | exact HB.out))); rintro e w9 ⟨v121, rfl, ho0, hb⟩; refine ⟨_, rfl, ?_⟩; have n0_ := Aside0.mk (Kd.R_elder' (by (with_reducible repeat (first | apply Kd.R_alloc | apply Kd.R_drewN | apply Kd.R_drew)); exact HO112.out) (Kd.R_base ho0) hb); have n1_ := Aside0.mk (Kd.R_elder' (by (with_reducible repeat (first | apply Kd.R_alloc | apply Kd.R_drewN | apply Kd.R_drew)); exact HO117.out) (Kd.R_base ho0) hb); have n2_ := Aside0.mk (Kd.R_lower (Kd.R_new' (Kd.R_new' ho0 (Kd.R_lt (by (with_reducible repeat (first | apply Kd.R_alloc | apply Kd.R_drewN | apply Kd.R_drew)); exact HO112.out))) (Kd.R_lt (by (with_reducible repeat (first | apply Kd.R_alloc | apply Kd.R_drewN | apply Kd.R_drew)); exact HO117.out))) (below_size (by repeat (first | (with_reducible first | exact HB.out | apply below_alloc | apply pw_below_drewN | apply below_drew1) | exact HB.out)))); have n3_ := Aside0.mk (below_step (by repeat (first | (with_reducible first | exact HB.out | apply below_alloc | apply pw_below_drewN | apply below_drew1) | exact HB.out)) hb); clear HO112; clear HO117; clear HB; have HO112 := n0_; have HO117 := n1_; have HO122 := n2_; have HB := n3_; clear n0_ n1_ n2_ n3_; (try clear hb); (try clear hb2); (try clear hk); (try clear hi); (try clear ho0)) | ((with_reducible refine gate_callee (f := 12) rfl ?_); refine goesL_ (some 32) rfl rfl Tryd.func12 (by kernel_rfl) rfl #[.string (⟨#[51, 48, 48, 48, 48, 48, 48, 48, 48, 48]⟩ : ByteArray)] rfl (by (try simp only [List.map_toArray, List.map_cons, List.map_nil]); first | done | rfl | (simp only [List.length_drop, List.length_take]; rfl)) ?_; (with_reducible refine (lex_Lex.calls (⟨#[51, 48, 48, 48, 48, 48, 48, 48, 48, 48]⟩ : ByteArray) t123 t124 t125 _ A4.out ?side1).mono ?_); (case side1 => exact GW.belowA hG (by repeat (first | (with_reducible first | exact HB.out | apply below_alloc | apply pw_below_drewN | apply below_drew1) | exact HB.out))); rintro e w10 ⟨v126, rfl, ho0, hb⟩; refine ⟨_, rfl, ?_⟩; have n0_ := Aside0.mk (Kd.R_elder' (by (with_reducible repeat (first | apply Kd.R_alloc | apply Kd.R_drewN | apply Kd.R_drew)); exact HO112.out) (Kd.R_base ho0) hb); have n1_ := Aside0.mk (Kd.R_elder' (by (with_reducible repeat (first | apply Kd.R_alloc | apply Kd.R_drewN | apply Kd.R_drew)); exact HO117.out) (Kd.R_base ho0) hb); have n2_ := Aside0.mk (Kd.R_elder' (by (with_reducible repeat (first | apply Kd.R_alloc | apply Kd.R_drewN | apply Kd.R_drew)); exact HO122.out) (Kd.R_base ho0) hb); have n3_ := Aside0.mk (Kd.R_lower (Kd.R_new' (Kd.R_new' (Kd.R_new' ho0 (Kd.R_lt (by (with_reducible repeat (first | apply Kd.R_alloc | apply Kd.R_drewN | apply Kd.R_drew)); exact HO112.out))) (Kd.R_lt (by (with_reducible repeat (first | apply Kd.R_alloc | apply Kd.R_drewN | apply Kd.R_drew)); exact HO117.out))) (Kd.R_lt (by (with_reducible repeat (first | apply Kd.R_alloc | apply Kd.R_drewN | apply Kd.R_drew)); exact HO122.out))) (below_size (by repeat (first | (with_reducible first | exact HB.out | apply below_alloc | apply pw_below_drewN | apply below_drew1) | exact HB.out)))); have n4_ := Aside0.mk (below_step (by repeat (first | (with_reducible first | exact HB.out | apply below_alloc | apply pw_below_drewN | apply below_drew1) | exact HB.out)) hb); clear HO112; clear HO117; clear HO122; clear HB; have HO112 := n0_; have HO117 := n1_; have HO122 := n2_; have HO127 := n3_; have HB := n4_; clear n0_ n1_ n2_ n3_ n4_; (try clear hb); (try clear hb2); (try clear hk); (try clear hi); (try clear ho0)) | ((with_reducible refine gate_callee (f := 12) rfl ?_); refine goesL_ (some 37) rfl rfl Tryd.func12 (by kernel_rfl) rfl #[.string (⟨#[97, 46, 98, 46]⟩ : ByteArray)] rfl (by (try simp only [List.map_toArray, List.map_cons, List.map_nil]); first | done | rfl | (simp only [List.length_drop, List.length_take]; rfl)) ?_; (with_reducible refine (lex_Lex.calls (⟨#[97, 46, 98, 46]⟩ : ByteArray) t128 t129 t130 _ A5.out ?side1).mono ?_); (case side1 => exact GW.belowA hG (by repeat (first | (with_reducible first | exact HB.out | apply below_alloc | apply pw_below_drewN | apply below_drew1) | exact HB.out))); rintro e w11 ⟨v131, rfl, ho0, hb⟩; refine ⟨_, rfl, ?_⟩; have n0_ := Aside0.mk (Kd.R_elder' (by (with_reducible repeat (first | apply Kd.R_alloc | apply Kd.R_drewN | apply Kd.R_drew)); exact HO112.out) (Kd.R_base ho0) hb); have n1_ := Aside0.mk (Kd.R_elder' (by (with_reducible repeat (first | apply Kd.R_alloc | apply Kd.R_drewN | apply Kd.R_drew)); exact HO117.out) (Kd.R_base ho0) hb); have n2_ := Aside0.mk (Kd.R_elder' (by (with_reducible repeat (first | apply Kd.R_alloc | apply Kd.R_drewN | apply Kd.R_drew)); exact HO122.out) (Kd.R_base ho0) hb); have n3_ := Aside0.mk (Kd.R_elder' (by (with_reducible repeat (first | apply Kd.R_alloc | apply Kd.R_drewN | apply Kd.R_drew)); exact HO127.out) (Kd.R_base ho0) hb); have n4_ := Aside0.mk (Kd.R_lower (Kd.R_new' (Kd.R_new' (Kd.R_new' (Kd.R_new' ho0 (Kd.R_lt (by (with_reducible repeat (first | apply Kd.R_alloc | apply Kd.R_drewN | apply Kd.R_drew)); exact HO112.out))) (Kd.R_lt (by (with_reducible repeat (first | apply Kd.R_alloc | apply Kd.R_drewN | apply Kd.R_drew)); exact HO117.out))) (Kd.R_lt (by (with_reducible repeat (first | apply Kd.R_alloc | apply Kd.R_drewN | apply Kd.R_drew)); exact HO122.out))) (Kd.R_lt (by (with_reducible repeat (first | apply Kd.R_alloc | apply Kd.R_drewN | apply Kd.R_drew)); exact HO127.out))) (below_size (by repeat (first | (with_reducible first | exact HB.out | apply below_alloc | apply pw_below_drewN | apply below_drew1) | exact HB.out)))); have n5_ := Aside0.mk (below_step (by repeat (first | (with_reducible first | exact HB.out | apply below_alloc | apply pw_below_drewN | apply below_drew1) | exact HB.out)) hb); clear HO112; clear HO117; clear HO122; clear HO127; clear HB; have HO112 := n0_; have HO117 := n1_; have HO122 := n2_; have HO127 := n3_; have HO132 := n4_; have HB := n5_; clear n0_ n1_ n2_ n3_ n4_ n5_; (try clear hb); (try clear hb2); (try clear hk); (try clear hi); (try clear ho0)))
  (try simp only [Act.put, List.setIfInBounds_toArray, List.set_cons_zero, List.set_cons_succ])
  go_cut [48] (fun v48 wc => ∃ (kq : Nat) (x48_5 : Bool), v48 = .bool x48_5 ∧ Aside0 (sorrellaw04_head.j0 kq t108 t109 t110 t114 t115 t119 t120 t124 t125 t128 x48_5 = some r) ∧ Aside0 (kq ≤ k) ∧ Aside0 (Kd.R k30 30 wc w.heap.size (fun k_ => some k_ ≠ (v131 : Value).ownBlock) v111 t108) ∧ Aside0 (Kd.R k30 30 wc w.heap.size (fun k_ => some k_ ≠ (v111 : Value).ownBlock) v131 t128) ∧ Aside0 (Below w.heap.size w wc))
  case first =>
    have H := HC6.out
    clear HC6
    by_cases c12 : (t108.length : Int) = 10
    · rw [if_pos c12] at H
      have c12b0 : ((t108.length : Int) == 10) = true := beq_iff_eq.mpr c12
      have c12b1 : ((t108.length : Int) != 10) = false := bne_eq_false_iff_eq.mpr c12
      clear c12
      (first | rw [c12b0] | (simp only [i64_w, i32_w]; rw [c12b0]) | skip)
      have H' := Aside0.mk H
      clear H
      obtain ⟨Ao13, co13, eo13⟩ := Kd.R_slice HO112.out
      subst eo13
      obtain ⟨Ao14, co14, eo14⟩ := Kd.R_slice HO132.out
      subst eo14
      go_wp2
      go_meet
      case rel => exact ⟨_, (((t128.length : Int) != 4)), (by first | rfl | (simp; done) | (simp [*]; done)), H', ⟨by first | omega | exact Nat.le_refl _⟩, ⟨by (with_reducible repeat (first | apply Kd.R_alloc | apply Kd.R_drewN | apply Kd.R_drew)); exact Kd.R_mono HO112.out (fun _ hk => hk.2)⟩, ⟨by (with_reducible repeat (first | apply Kd.R_alloc | apply Kd.R_drewN | apply Kd.R_drew)); exact Kd.R_mono HO132.out (fun _ hk => hk.1.1.1.2)⟩, ⟨by repeat (first | (with_reducible first | exact HB.out | apply below_alloc | apply pw_below_drewN | apply below_drew1) | exact HB.out)⟩⟩
    · rw [if_neg c12] at H
      have c12b0 : ((t108.length : Int) == 10) = false := beq_eq_false_iff_ne.mpr c12
      have c12b1 : ((t108.length : Int) != 10) = true := bne_iff_ne.mpr c12
      (first | rw [c12b0] | (simp only [i64_w, i32_w]; rw [c12b0]) | skip)
      have H' := Aside0.mk H
      clear H
      obtain ⟨Ao15, co15, eo15⟩ := Kd.R_slice HO112.out
      subst eo15
      go_wp2
      go_meet
      case rel => exact ⟨_, (true), (by first | rfl | (simp; done) | (simp [*]; done)), H', ⟨by first | omega | exact Nat.le_refl _⟩, ⟨by (with_reducible repeat (first | apply Kd.R_alloc | apply Kd.R_drewN | apply Kd.R_drew)); exact Kd.R_mono HO112.out (fun _ hk => hk.2)⟩, ⟨by (with_reducible repeat (first | apply Kd.R_alloc | apply Kd.R_drewN | apply Kd.R_drew)); exact Kd.R_mono HO132.out (fun _ hk => hk.1.1.1.2)⟩, ⟨by repeat (first | (with_reducible first | exact HB.out | apply below_alloc | apply pw_below_drewN | apply below_drew1) | exact HB.out)⟩⟩
  case rest =>
    clear HC6
    try clear c1
    try clear p2
    try clear c11
    try clear c12
    try clear c12b0
    try clear c12b1
    obtain ⟨kq, x48_5, rfl, HA, HJ5, HO_1, HO_13, HB⟩ := hcut
    cases kq with
    | zero => exact absurd HA.out (by simp [sorrellaw04_head.j0])
    | succ kj5 =>
      have H := HA.out
      clear HA
      simp only [sorrellaw04_head.j0] at H
      by_cases c16 : x48_5 = true
      · subst c16
        have H1 : (some false) = some r := by rw [if_pos rfl] at H; exact H
        clear H
        have H := H1
        clear H1
        obtain rfl := Option.some.inj H
        go_wp2
        go_ret
        exact ⟨by first | rfl | (simp [errW_none, errW_some] <;> rfl) | (simp [*, errW_none, errW_some] <;> rfl), by repeat (first | (with_reducible first | exact HB.out | apply below_alloc | apply pw_below_drewN | apply below_drew1) | exact HB.out)⟩
      · replace c16 := Bool.eq_false_iff.mpr c16
        subst c16
        have H1 : (if t109 = 0 then (if t110 = 0 then (if t114 = 3 then (if t115 = 40 then (if t119 = 1 then (if t120 = 41 then (if t124 = 0 then (if t125 = 2 then (if 0 < (t108.length : Int) then (if (((rd_T30 t108 0).f0) == 1 && ((((rd_T30 t108 0).f1).toList) == ([112] : List UInt8) && (((rd_T30 t108 0).f2) == 0 && (((rd_T30 t108 0).f3) == 0)))) = true then (if 2 < (t108.length : Int) then (if (((rd_T30 t108 2).f0) == 2 && ((((rd_T30 t108 2).f1).toList) == ([88, 49] : List UInt8) && (((rd_T30 t108 2).f2) == 0 && (((rd_T30 t108 2).f3) == 2)))) = true then (if 4 < (t108.length : Int) then (if (((rd_T30 t108 4).f0) == 4 && ((((rd_T30 t108 4).f1).toList) == ([58, 45] : List UInt8) && (((rd_T30 t108 4).f2) == 0 && (((rd_T30 t108 4).f3) == 6)))) = true then (if 5 < (t108.length : Int) then (if (((rd_T30 t108 5).f0) == 1 && ((((rd_T30 t108 5).f1).toList) == ([105, 116, 32, 105, 115] : List UInt8) && (((rd_T30 t108 5).f2) == 0 && (((rd_T30 t108 5).f3) == 9)))) = true then (if 7 < (t108.length : Int) then (if (((rd_T30 t108 7).f0) == 3 && ((((rd_T30 t108 7).f1).toList) == ([48, 55] : List UInt8) && (((rd_T30 t108 7).f2) == 7 && (((rd_T30 t108 7).f3) == 17)))) = true then (if 8 < (t108.length : Int) then (if ((rd_T30 t108 8).f0) = 6 then (if 9 < (t108.length : Int) then (if (((rd_T30 t108 9).f0) == 5 && ((((rd_T30 t108 9).f1).toList) == ([124] : List UInt8) && (((rd_T30 t108 9).f2) == 0 && (((rd_T30 t108 9).f3) == 26)))) = true then (if 1 < (t128.length : Int) then (if ((rd_T30 t128 1).f0) = 4 then (if 3 < (t128.length : Int) then (some (((rd_T30 t128 3).f0) == 6)) else (none)) else (some false)) else (none)) else (some false)) else (none)) else (some false)) else (none)) else (some false)) else (none)) else (some false)) else (none)) else (some false)) else (none)) else (some false)) else (none)) else (some false)) else (none)) else (some false)) else (some false)) else (some false)) else (some false)) else (some false)) else (some false)) else (some false)) else (some false)) = some r := by rw [if_neg (show ¬ (false = true) by decide)] at H; exact H
        clear H
        have H := H1
        clear H1
        by_cases c17 : t109 = 0
        · rw [if_pos c17] at H
          have c17b0 : (t109 == 0) = true := beq_iff_eq.mpr c17
          have c17b1 : (t109 != 0) = false := bne_eq_false_iff_eq.mpr c17
          clear c17
          by_cases c18 : t110 = 0
          · rw [if_pos c18] at H
            have c18b0 : (t110 == 0) = true := beq_iff_eq.mpr c18
            have c18b1 : (t110 != 0) = false := bne_eq_false_iff_eq.mpr c18
            clear c18
            by_cases c19 : t114 = 3
            · rw [if_pos c19] at H
              have c19b0 : (t114 == 3) = true := beq_iff_eq.mpr c19
              have c19b1 : (t114 != 3) = false := bne_eq_false_iff_eq.mpr c19
              clear c19
              by_cases c20 : t115 = 40
              · rw [if_pos c20] at H
                have c20b0 : (t115 == 40) = true := beq_iff_eq.mpr c20
                have c20b1 : (t115 != 40) = false := bne_eq_false_iff_eq.mpr c20
                clear c20
                by_cases c21 : t119 = 1
                · rw [if_pos c21] at H
                  have c21b0 : (t119 == 1) = true := beq_iff_eq.mpr c21
                  have c21b1 : (t119 != 1) = false := bne_eq_false_iff_eq.mpr c21
                  clear c21
                  by_cases c22 : t120 = 41
                  · rw [if_pos c22] at H
                    have c22b0 : (t120 == 41) = true := beq_iff_eq.mpr c22
                    have c22b1 : (t120 != 41) = false := bne_eq_false_iff_eq.mpr c22
                    clear c22
                    by_cases c23 : t124 = 0
                    · rw [if_pos c23] at H
                      have c23b0 : (t124 == 0) = true := beq_iff_eq.mpr c23
                      have c23b1 : (t124 != 0) = false := bne_eq_false_iff_eq.mpr c23
                      clear c23
                      by_cases c24 : t125 = 2
                      · rw [if_pos c24] at H
                        have c24b0 : (t125 == 2) = true := beq_iff_eq.mpr c24
                        have c24b1 : (t125 != 2) = false := bne_eq_false_iff_eq.mpr c24
                        clear c24
                        by_cases c25 : 0 < (t108.length : Int)
                        · rw [if_pos c25] at H
                          have c25b0 : decide (0 < (t108.length : Int)) = true := decide_eq_true c25
                          have c25b1 : decide (0 < t108.length) = true := decide_eq_true (by omega)
                          clear c25
                          by_cases c26 : (((rd_T30 t108 0).f0) == 1 && ((((rd_T30 t108 0).f1).toList) == ([112] : List UInt8) && (((rd_T30 t108 0).f2) == 0 && (((rd_T30 t108 0).f3) == 0)))) = true
                          · rw [if_pos c26] at H
                            have c26b0 : (((rd_T30 t108 0).f0) == 1 && ((((rd_T30 t108 0).f1).toList) == ([112] : List UInt8) && (((rd_T30 t108 0).f2) == 0 && (((rd_T30 t108 0).f3) == 0)))) = true := c26
                            (try (have c26b1 : decide (((rd_T30 t108 0).f0) = 1 && ((((rd_T30 t108 0).f1).toList) == ([112] : List UInt8) && (((rd_T30 t108 0).f2) == 0 && (((rd_T30 t108 0).f3) == 0)))) = true := by simpa using c26))
                            (try (have c26b2 : (((rd_T30 t108 0).f0) == 1 && ((((rd_T30 t108 0).f1).toList) == ([112] : List UInt8) && (((rd_T30 t108 0).f2) == 0 && (((rd_T30 t108 0).f3) == 0)))) = true := by simpa using c26))
                            clear c26
                            by_cases c27 : 2 < (t108.length : Int)
                            · rw [if_pos c27] at H
                              have c27b0 : decide (2 < (t108.length : Int)) = true := decide_eq_true c27
                              have c27b1 : decide (2 < t108.length) = true := decide_eq_true (by omega)
                              clear c27
                              by_cases c28 : (((rd_T30 t108 2).f0) == 2 && ((((rd_T30 t108 2).f1).toList) == ([88, 49] : List UInt8) && (((rd_T30 t108 2).f2) == 0 && (((rd_T30 t108 2).f3) == 2)))) = true
                              · rw [if_pos c28] at H
                                have c28b0 : (((rd_T30 t108 2).f0) == 2 && ((((rd_T30 t108 2).f1).toList) == ([88, 49] : List UInt8) && (((rd_T30 t108 2).f2) == 0 && (((rd_T30 t108 2).f3) == 2)))) = true := c28
                                (try (have c28b1 : decide (((rd_T30 t108 2).f0) = 2 && ((((rd_T30 t108 2).f1).toList) == ([88, 49] : List UInt8) && (((rd_T30 t108 2).f2) == 0 && (((rd_T30 t108 2).f3) == 2)))) = true := by simpa using c28))
                                (try (have c28b2 : (((rd_T30 t108 2).f0) == 2 && ((((rd_T30 t108 2).f1).toList) == ([88, 49] : List UInt8) && (((rd_T30 t108 2).f2) == 0 && (((rd_T30 t108 2).f3) == 2)))) = true := by simpa using c28))
                                clear c28
                                by_cases c29 : 4 < (t108.length : Int)
                                · rw [if_pos c29] at H
                                  have c29b0 : decide (4 < (t108.length : Int)) = true := decide_eq_true c29
                                  have c29b1 : decide (4 < t108.length) = true := decide_eq_true (by omega)
                                  clear c29
                                  by_cases c30 : (((rd_T30 t108 4).f0) == 4 && ((((rd_T30 t108 4).f1).toList) == ([58, 45] : List UInt8) && (((rd_T30 t108 4).f2) == 0 && (((rd_T30 t108 4).f3) == 6)))) = true
                                  · rw [if_pos c30] at H
                                    have c30b0 : (((rd_T30 t108 4).f0) == 4 && ((((rd_T30 t108 4).f1).toList) == ([58, 45] : List UInt8) && (((rd_T30 t108 4).f2) == 0 && (((rd_T30 t108 4).f3) == 6)))) = true := c30
                                    (try (have c30b1 : decide (((rd_T30 t108 4).f0) = 4 && ((((rd_T30 t108 4).f1).toList) == ([58, 45] : List UInt8) && (((rd_T30 t108 4).f2) == 0 && (((rd_T30 t108 4).f3) == 6)))) = true := by simpa using c30))
                                    (try (have c30b2 : (((rd_T30 t108 4).f0) == 4 && ((((rd_T30 t108 4).f1).toList) == ([58, 45] : List UInt8) && (((rd_T30 t108 4).f2) == 0 && (((rd_T30 t108 4).f3) == 6)))) = true := by simpa using c30))
                                    clear c30
                                    by_cases c31 : 5 < (t108.length : Int)
                                    · rw [if_pos c31] at H
                                      have c31b0 : decide (5 < (t108.length : Int)) = true := decide_eq_true c31
                                      have c31b1 : decide (5 < t108.length) = true := decide_eq_true (by omega)
                                      clear c31
                                      by_cases c32 : (((rd_T30 t108 5).f0) == 1 && ((((rd_T30 t108 5).f1).toList) == ([105, 116, 32, 105, 115] : List UInt8) && (((rd_T30 t108 5).f2) == 0 && (((rd_T30 t108 5).f3) == 9)))) = true
                                      · rw [if_pos c32] at H
                                        have c32b0 : (((rd_T30 t108 5).f0) == 1 && ((((rd_T30 t108 5).f1).toList) == ([105, 116, 32, 105, 115] : List UInt8) && (((rd_T30 t108 5).f2) == 0 && (((rd_T30 t108 5).f3) == 9)))) = true := c32
                                        (try (have c32b1 : decide (((rd_T30 t108 5).f0) = 1 && ((((rd_T30 t108 5).f1).toList) == ([105, 116, 32, 105, 115] : List UInt8) && (((rd_T30 t108 5).f2) == 0 && (((rd_T30 t108 5).f3) == 9)))) = true := by simpa using c32))
                                        (try (have c32b2 : (((rd_T30 t108 5).f0) == 1 && ((((rd_T30 t108 5).f1).toList) == ([105, 116, 32, 105, 115] : List UInt8) && (((rd_T30 t108 5).f2) == 0 && (((rd_T30 t108 5).f3) == 9)))) = true := by simpa using c32))
                                        clear c32
                                        by_cases c33 : 7 < (t108.length : Int)
                                        · rw [if_pos c33] at H
                                          have c33b0 : decide (7 < (t108.length : Int)) = true := decide_eq_true c33
                                          have c33b1 : decide (7 < t108.length) = true := decide_eq_true (by omega)
                                          clear c33
                                          by_cases c34 : (((rd_T30 t108 7).f0) == 3 && ((((rd_T30 t108 7).f1).toList) == ([48, 55] : List UInt8) && (((rd_T30 t108 7).f2) == 7 && (((rd_T30 t108 7).f3) == 17)))) = true
                                          · rw [if_pos c34] at H
                                            have c34b0 : (((rd_T30 t108 7).f0) == 3 && ((((rd_T30 t108 7).f1).toList) == ([48, 55] : List UInt8) && (((rd_T30 t108 7).f2) == 7 && (((rd_T30 t108 7).f3) == 17)))) = true := c34
                                            (try (have c34b1 : decide (((rd_T30 t108 7).f0) = 3 && ((((rd_T30 t108 7).f1).toList) == ([48, 55] : List UInt8) && (((rd_T30 t108 7).f2) == 7 && (((rd_T30 t108 7).f3) == 17)))) = true := by simpa using c34))
                                            (try (have c34b2 : (((rd_T30 t108 7).f0) == 3 && ((((rd_T30 t108 7).f1).toList) == ([48, 55] : List UInt8) && (((rd_T30 t108 7).f2) == 7 && (((rd_T30 t108 7).f3) == 17)))) = true := by simpa using c34))
                                            clear c34
                                            by_cases c35 : 8 < (t108.length : Int)
                                            · rw [if_pos c35] at H
                                              have c35b0 : decide (8 < (t108.length : Int)) = true := decide_eq_true c35
                                              have c35b1 : decide (8 < t108.length) = true := decide_eq_true (by omega)
                                              clear c35
                                              by_cases c36 : ((rd_T30 t108 8).f0) = 6
                                              · rw [if_pos c36] at H
                                                have c36b0 : (((rd_T30 t108 8).f0) == 6) = true := beq_iff_eq.mpr c36
                                                have c36b1 : (((rd_T30 t108 8).f0) != 6) = false := bne_eq_false_iff_eq.mpr c36
                                                clear c36
                                                by_cases c37 : 9 < (t108.length : Int)
                                                · rw [if_pos c37] at H
                                                  have c37b0 : decide (9 < (t108.length : Int)) = true := decide_eq_true c37
                                                  have c37b1 : decide (9 < t108.length) = true := decide_eq_true (by omega)
                                                  clear c37
                                                  by_cases c38 : (((rd_T30 t108 9).f0) == 5 && ((((rd_T30 t108 9).f1).toList) == ([124] : List UInt8) && (((rd_T30 t108 9).f2) == 0 && (((rd_T30 t108 9).f3) == 26)))) = true
                                                  · rw [if_pos c38] at H
                                                    have c38b0 : (((rd_T30 t108 9).f0) == 5 && ((((rd_T30 t108 9).f1).toList) == ([124] : List UInt8) && (((rd_T30 t108 9).f2) == 0 && (((rd_T30 t108 9).f3) == 26)))) = true := c38
                                                    (try (have c38b1 : decide (((rd_T30 t108 9).f0) = 5 && ((((rd_T30 t108 9).f1).toList) == ([124] : List UInt8) && (((rd_T30 t108 9).f2) == 0 && (((rd_T30 t108 9).f3) == 26)))) = true := by simpa using c38))
                                                    (try (have c38b2 : (((rd_T30 t108 9).f0) == 5 && ((((rd_T30 t108 9).f1).toList) == ([124] : List UInt8) && (((rd_T30 t108 9).f2) == 0 && (((rd_T30 t108 9).f3) == 26)))) = true := by simpa using c38))
                                                    clear c38
                                                    by_cases c39 : 1 < (t128.length : Int)
                                                    · rw [if_pos c39] at H
                                                      have c39b0 : decide (1 < (t128.length : Int)) = true := decide_eq_true c39
                                                      have c39b1 : decide (1 < t128.length) = true := decide_eq_true (by omega)
                                                      clear c39
                                                      by_cases c40 : ((rd_T30 t128 1).f0) = 4
                                                      · rw [if_pos c40] at H
                                                        have c40b0 : (((rd_T30 t128 1).f0) == 4) = true := beq_iff_eq.mpr c40
                                                        have c40b1 : (((rd_T30 t128 1).f0) != 4) = false := bne_eq_false_iff_eq.mpr c40
                                                        clear c40
                                                        by_cases c41 : 3 < (t128.length : Int)
                                                        · rw [if_pos c41] at H
                                                          have c41b0 : decide (3 < (t128.length : Int)) = true := decide_eq_true c41
                                                          have c41b1 : decide (3 < t128.length) = true := decide_eq_true (by omega)
                                                          clear c41
                                                          obtain rfl := Option.some.inj H
                                                          obtain ⟨Ao42, co42, eo42⟩ := Kd.R_slice HO_1.out
                                                          subst eo42
                                                          have p133 : 0 ≤ (0 : Int) := (by omega)
                                                          have q133 : 0 < (t108.length : Int) := of_decide_eq_true (by first | (with_reducible assumption) | assumption)
                                                          obtain ⟨ad133, e133, hx133_0, hx133_1, hx133_2, hx133_3⟩ := at_T30 (Kd.R_reads' HO_1.out).2.2 0 p133 q133
                                                          cases e133
                                                          have qi133 : (0 < t108.length) = True := eq_true (by omega)
                                                          (try rw [show ((0 : Int)).toNat = 0 from rfl] at hx133_0)
                                                          (try rw [show 0 * 4 = 0 from rfl] at hx133_0)
                                                          (try rw [Addr.add_zero'] at hx133_0)
                                                          (try rw [show ((0 : Int)).toNat = 0 from rfl] at hx133_1)
                                                          (try rw [show 0 * 4 = 0 from rfl] at hx133_1)
                                                          (try rw [Addr.add_zero'] at hx133_1)
                                                          (try rw [show ((0 : Int)).toNat = 0 from rfl] at hx133_2)
                                                          (try rw [show 0 * 4 = 0 from rfl] at hx133_2)
                                                          (try rw [Addr.add_zero'] at hx133_2)
                                                          (try rw [show ((0 : Int)).toNat = 0 from rfl] at hx133_3)
                                                          (try rw [show 0 * 4 = 0 from rfl] at hx133_3)
                                                          (try rw [Addr.add_zero'] at hx133_3)
                                                          replace p133 := eq_true p133
                                                          replace q133 := eq_true q133
                                                          have p134 : 0 ≤ (2 : Int) := (by omega)
                                                          have q134 : 2 < (t108.length : Int) := of_decide_eq_true (by first | (with_reducible assumption) | assumption)
                                                          obtain ⟨ad134, e134, hx134_0, hx134_1, hx134_2, hx134_3⟩ := at_T30 (Kd.R_reads' HO_1.out).2.2 2 p134 q134
                                                          obtain rfl : ad133 = ad134 := (by injection e134)
                                                          (try simp only [show (2 : Int).toNat = 2 from rfl, Nat.reduceMul, Nat.reduceEqDiff, Go.Addr.add, ↓reduceIte] at hx134_0)
                                                          (try simp only [show (2 : Int).toNat = 2 from rfl, Nat.reduceMul, Nat.reduceEqDiff, Go.Addr.add, ↓reduceIte] at hx134_1)
                                                          (try simp only [show (2 : Int).toNat = 2 from rfl, Nat.reduceMul, Nat.reduceEqDiff, Go.Addr.add, ↓reduceIte] at hx134_2)
                                                          (try simp only [show (2 : Int).toNat = 2 from rfl, Nat.reduceMul, Nat.reduceEqDiff, Go.Addr.add, ↓reduceIte] at hx134_3)
                                                          have qi134 : (2 < t108.length) = True := eq_true (by omega)
                                                          (try rw [show ((2 : Int)).toNat = 2 from rfl] at hx134_0)
                                                          (try rw [show 2 * 4 = 8 from rfl] at hx134_0)
                                                          (try rw [show ((2 : Int)).toNat = 2 from rfl] at hx134_1)
                                                          (try rw [show 2 * 4 = 8 from rfl] at hx134_1)
                                                          (try rw [show ((2 : Int)).toNat = 2 from rfl] at hx134_2)
                                                          (try rw [show 2 * 4 = 8 from rfl] at hx134_2)
                                                          (try rw [show ((2 : Int)).toNat = 2 from rfl] at hx134_3)
                                                          (try rw [show 2 * 4 = 8 from rfl] at hx134_3)
                                                          replace p134 := eq_true p134
                                                          replace q134 := eq_true q134
                                                          have p135 : 0 ≤ (4 : Int) := (by omega)
                                                          have q135 : 4 < (t108.length : Int) := of_decide_eq_true (by first | (with_reducible assumption) | assumption)
                                                          obtain ⟨ad135, e135, hx135_0, hx135_1, hx135_2, hx135_3⟩ := at_T30 (Kd.R_reads' HO_1.out).2.2 4 p135 q135
                                                          obtain rfl : ad133 = ad135 := (by injection e135)
                                                          (try simp only [show (4 : Int).toNat = 4 from rfl, Nat.reduceMul, Nat.reduceEqDiff, Go.Addr.add, ↓reduceIte] at hx135_0)
                                                          (try simp only [show (4 : Int).toNat = 4 from rfl, Nat.reduceMul, Nat.reduceEqDiff, Go.Addr.add, ↓reduceIte] at hx135_1)
                                                          (try simp only [show (4 : Int).toNat = 4 from rfl, Nat.reduceMul, Nat.reduceEqDiff, Go.Addr.add, ↓reduceIte] at hx135_2)
                                                          (try simp only [show (4 : Int).toNat = 4 from rfl, Nat.reduceMul, Nat.reduceEqDiff, Go.Addr.add, ↓reduceIte] at hx135_3)
                                                          have qi135 : (4 < t108.length) = True := eq_true (by omega)
                                                          (try rw [show ((4 : Int)).toNat = 4 from rfl] at hx135_0)
                                                          (try rw [show 4 * 4 = 16 from rfl] at hx135_0)
                                                          (try rw [show ((4 : Int)).toNat = 4 from rfl] at hx135_1)
                                                          (try rw [show 4 * 4 = 16 from rfl] at hx135_1)
                                                          (try rw [show ((4 : Int)).toNat = 4 from rfl] at hx135_2)
                                                          (try rw [show 4 * 4 = 16 from rfl] at hx135_2)
                                                          (try rw [show ((4 : Int)).toNat = 4 from rfl] at hx135_3)
                                                          (try rw [show 4 * 4 = 16 from rfl] at hx135_3)
                                                          replace p135 := eq_true p135
                                                          replace q135 := eq_true q135
                                                          have p136 : 0 ≤ (5 : Int) := (by omega)
                                                          have q136 : 5 < (t108.length : Int) := of_decide_eq_true (by first | (with_reducible assumption) | assumption)
                                                          obtain ⟨ad136, e136, hx136_0, hx136_1, hx136_2, hx136_3⟩ := at_T30 (Kd.R_reads' HO_1.out).2.2 5 p136 q136
                                                          obtain rfl : ad133 = ad136 := (by injection e136)
                                                          (try simp only [show (5 : Int).toNat = 5 from rfl, Nat.reduceMul, Nat.reduceEqDiff, Go.Addr.add, ↓reduceIte] at hx136_0)
                                                          (try simp only [show (5 : Int).toNat = 5 from rfl, Nat.reduceMul, Nat.reduceEqDiff, Go.Addr.add, ↓reduceIte] at hx136_1)
                                                          (try simp only [show (5 : Int).toNat = 5 from rfl, Nat.reduceMul, Nat.reduceEqDiff, Go.Addr.add, ↓reduceIte] at hx136_2)
                                                          (try simp only [show (5 : Int).toNat = 5 from rfl, Nat.reduceMul, Nat.reduceEqDiff, Go.Addr.add, ↓reduceIte] at hx136_3)
                                                          have qi136 : (5 < t108.length) = True := eq_true (by omega)
                                                          (try rw [show ((5 : Int)).toNat = 5 from rfl] at hx136_0)
                                                          (try rw [show 5 * 4 = 20 from rfl] at hx136_0)
                                                          (try rw [show ((5 : Int)).toNat = 5 from rfl] at hx136_1)
                                                          (try rw [show 5 * 4 = 20 from rfl] at hx136_1)
                                                          (try rw [show ((5 : Int)).toNat = 5 from rfl] at hx136_2)
                                                          (try rw [show 5 * 4 = 20 from rfl] at hx136_2)
                                                          (try rw [show ((5 : Int)).toNat = 5 from rfl] at hx136_3)
                                                          (try rw [show 5 * 4 = 20 from rfl] at hx136_3)
                                                          replace p136 := eq_true p136
                                                          replace q136 := eq_true q136
                                                          have p137 : 0 ≤ (7 : Int) := (by omega)
                                                          have q137 : 7 < (t108.length : Int) := of_decide_eq_true (by first | (with_reducible assumption) | assumption)
                                                          obtain ⟨ad137, e137, hx137_0, hx137_1, hx137_2, hx137_3⟩ := at_T30 (Kd.R_reads' HO_1.out).2.2 7 p137 q137
                                                          obtain rfl : ad133 = ad137 := (by injection e137)
                                                          (try simp only [show (7 : Int).toNat = 7 from rfl, Nat.reduceMul, Nat.reduceEqDiff, Go.Addr.add, ↓reduceIte] at hx137_0)
                                                          (try simp only [show (7 : Int).toNat = 7 from rfl, Nat.reduceMul, Nat.reduceEqDiff, Go.Addr.add, ↓reduceIte] at hx137_1)
                                                          (try simp only [show (7 : Int).toNat = 7 from rfl, Nat.reduceMul, Nat.reduceEqDiff, Go.Addr.add, ↓reduceIte] at hx137_2)
                                                          (try simp only [show (7 : Int).toNat = 7 from rfl, Nat.reduceMul, Nat.reduceEqDiff, Go.Addr.add, ↓reduceIte] at hx137_3)
                                                          have qi137 : (7 < t108.length) = True := eq_true (by omega)
                                                          (try rw [show ((7 : Int)).toNat = 7 from rfl] at hx137_0)
                                                          (try rw [show 7 * 4 = 28 from rfl] at hx137_0)
                                                          (try rw [show ((7 : Int)).toNat = 7 from rfl] at hx137_1)
                                                          (try rw [show 7 * 4 = 28 from rfl] at hx137_1)
                                                          (try rw [show ((7 : Int)).toNat = 7 from rfl] at hx137_2)
                                                          (try rw [show 7 * 4 = 28 from rfl] at hx137_2)
                                                          (try rw [show ((7 : Int)).toNat = 7 from rfl] at hx137_3)
                                                          (try rw [show 7 * 4 = 28 from rfl] at hx137_3)
                                                          replace p137 := eq_true p137
                                                          replace q137 := eq_true q137
                                                          have p138 : 0 ≤ (8 : Int) := (by omega)
                                                          have q138 : 8 < (t108.length : Int) := of_decide_eq_true (by first | (with_reducible assumption) | assumption)
                                                          obtain ⟨ad138, e138, hx138_0, hx138_1, hx138_2, hx138_3⟩ := at_T30 (Kd.R_reads' HO_1.out).2.2 8 p138 q138
                                                          obtain rfl : ad133 = ad138 := (by injection e138)
                                                          (try simp only [show (8 : Int).toNat = 8 from rfl, Nat.reduceMul, Nat.reduceEqDiff, Go.Addr.add, ↓reduceIte] at hx138_0)
                                                          (try simp only [show (8 : Int).toNat = 8 from rfl, Nat.reduceMul, Nat.reduceEqDiff, Go.Addr.add, ↓reduceIte] at hx138_1)
                                                          (try simp only [show (8 : Int).toNat = 8 from rfl, Nat.reduceMul, Nat.reduceEqDiff, Go.Addr.add, ↓reduceIte] at hx138_2)
                                                          (try simp only [show (8 : Int).toNat = 8 from rfl, Nat.reduceMul, Nat.reduceEqDiff, Go.Addr.add, ↓reduceIte] at hx138_3)
                                                          have qi138 : (8 < t108.length) = True := eq_true (by omega)
                                                          (try rw [show ((8 : Int)).toNat = 8 from rfl] at hx138_0)
                                                          (try rw [show 8 * 4 = 32 from rfl] at hx138_0)
                                                          (try rw [show ((8 : Int)).toNat = 8 from rfl] at hx138_1)
                                                          (try rw [show 8 * 4 = 32 from rfl] at hx138_1)
                                                          (try rw [show ((8 : Int)).toNat = 8 from rfl] at hx138_2)
                                                          (try rw [show 8 * 4 = 32 from rfl] at hx138_2)
                                                          (try rw [show ((8 : Int)).toNat = 8 from rfl] at hx138_3)
                                                          (try rw [show 8 * 4 = 32 from rfl] at hx138_3)
                                                          replace p138 := eq_true p138
                                                          replace q138 := eq_true q138
                                                          have p139 : 0 ≤ (9 : Int) := (by omega)
                                                          have q139 : 9 < (t108.length : Int) := of_decide_eq_true (by first | (with_reducible assumption) | assumption)
                                                          obtain ⟨ad139, e139, hx139_0, hx139_1, hx139_2, hx139_3⟩ := at_T30 (Kd.R_reads' HO_1.out).2.2 9 p139 q139
                                                          obtain rfl : ad133 = ad139 := (by injection e139)
                                                          (try simp only [show (9 : Int).toNat = 9 from rfl, Nat.reduceMul, Nat.reduceEqDiff, Go.Addr.add, ↓reduceIte] at hx139_0)
                                                          (try simp only [show (9 : Int).toNat = 9 from rfl, Nat.reduceMul, Nat.reduceEqDiff, Go.Addr.add, ↓reduceIte] at hx139_1)
                                                          (try simp only [show (9 : Int).toNat = 9 from rfl, Nat.reduceMul, Nat.reduceEqDiff, Go.Addr.add, ↓reduceIte] at hx139_2)
                                                          (try simp only [show (9 : Int).toNat = 9 from rfl, Nat.reduceMul, Nat.reduceEqDiff, Go.Addr.add, ↓reduceIte] at hx139_3)
                                                          have qi139 : (9 < t108.length) = True := eq_true (by omega)
                                                          (try rw [show ((9 : Int)).toNat = 9 from rfl] at hx139_0)
                                                          (try rw [show 9 * 4 = 36 from rfl] at hx139_0)
                                                          (try rw [show ((9 : Int)).toNat = 9 from rfl] at hx139_1)
                                                          (try rw [show 9 * 4 = 36 from rfl] at hx139_1)
                                                          (try rw [show ((9 : Int)).toNat = 9 from rfl] at hx139_2)
                                                          (try rw [show 9 * 4 = 36 from rfl] at hx139_2)
                                                          (try rw [show ((9 : Int)).toNat = 9 from rfl] at hx139_3)
                                                          (try rw [show 9 * 4 = 36 from rfl] at hx139_3)
                                                          replace p139 := eq_true p139
                                                          replace q139 := eq_true q139
                                                          obtain ⟨Ao43, co43, eo43⟩ := Kd.R_slice HO_13.out
                                                          subst eo43
                                                          have p140 : 0 ≤ (1 : Int) := (by omega)
                                                          have q140 : 1 < (t128.length : Int) := of_decide_eq_true (by first | (with_reducible assumption) | assumption)
                                                          obtain ⟨ad140, e140, hx140_0, hx140_1, hx140_2, hx140_3⟩ := at_T30 (Kd.R_reads' HO_13.out).2.2 1 p140 q140
                                                          cases e140
                                                          (try simp only [show (1 : Int).toNat = 1 from rfl, Nat.reduceMul, Nat.reduceEqDiff, Go.Addr.add, ↓reduceIte] at hx140_0)
                                                          (try simp only [show (1 : Int).toNat = 1 from rfl, Nat.reduceMul, Nat.reduceEqDiff, Go.Addr.add, ↓reduceIte] at hx140_1)
                                                          (try simp only [show (1 : Int).toNat = 1 from rfl, Nat.reduceMul, Nat.reduceEqDiff, Go.Addr.add, ↓reduceIte] at hx140_2)
                                                          (try simp only [show (1 : Int).toNat = 1 from rfl, Nat.reduceMul, Nat.reduceEqDiff, Go.Addr.add, ↓reduceIte] at hx140_3)
                                                          have qi140 : (1 < t128.length) = True := eq_true (by omega)
                                                          (try rw [show ((1 : Int)).toNat = 1 from rfl] at hx140_0)
                                                          (try rw [show 1 * 4 = 4 from rfl] at hx140_0)
                                                          (try rw [show ((1 : Int)).toNat = 1 from rfl] at hx140_1)
                                                          (try rw [show 1 * 4 = 4 from rfl] at hx140_1)
                                                          (try rw [show ((1 : Int)).toNat = 1 from rfl] at hx140_2)
                                                          (try rw [show 1 * 4 = 4 from rfl] at hx140_2)
                                                          (try rw [show ((1 : Int)).toNat = 1 from rfl] at hx140_3)
                                                          (try rw [show 1 * 4 = 4 from rfl] at hx140_3)
                                                          replace p140 := eq_true p140
                                                          replace q140 := eq_true q140
                                                          have p141 : 0 ≤ (3 : Int) := (by omega)
                                                          have q141 : 3 < (t128.length : Int) := of_decide_eq_true (by first | (with_reducible assumption) | assumption)
                                                          obtain ⟨ad141, e141, hx141_0, hx141_1, hx141_2, hx141_3⟩ := at_T30 (Kd.R_reads' HO_13.out).2.2 3 p141 q141
                                                          obtain rfl : ad140 = ad141 := (by injection e141)
                                                          (try simp only [show (3 : Int).toNat = 3 from rfl, Nat.reduceMul, Nat.reduceEqDiff, Go.Addr.add, ↓reduceIte] at hx141_0)
                                                          (try simp only [show (3 : Int).toNat = 3 from rfl, Nat.reduceMul, Nat.reduceEqDiff, Go.Addr.add, ↓reduceIte] at hx141_1)
                                                          (try simp only [show (3 : Int).toNat = 3 from rfl, Nat.reduceMul, Nat.reduceEqDiff, Go.Addr.add, ↓reduceIte] at hx141_2)
                                                          (try simp only [show (3 : Int).toNat = 3 from rfl, Nat.reduceMul, Nat.reduceEqDiff, Go.Addr.add, ↓reduceIte] at hx141_3)
                                                          have qi141 : (3 < t128.length) = True := eq_true (by omega)
                                                          (try rw [show ((3 : Int)).toNat = 3 from rfl] at hx141_0)
                                                          (try rw [show 3 * 4 = 12 from rfl] at hx141_0)
                                                          (try rw [show ((3 : Int)).toNat = 3 from rfl] at hx141_1)
                                                          (try rw [show 3 * 4 = 12 from rfl] at hx141_1)
                                                          (try rw [show ((3 : Int)).toNat = 3 from rfl] at hx141_2)
                                                          (try rw [show 3 * 4 = 12 from rfl] at hx141_2)
                                                          (try rw [show ((3 : Int)).toNat = 3 from rfl] at hx141_3)
                                                          (try rw [show 3 * 4 = 12 from rfl] at hx141_3)
                                                          replace p141 := eq_true p141
                                                          replace q141 := eq_true q141
                                                          go_wp2
                                                          go_ret
                                                          exact ⟨by first | rfl | (simp [errW_none, errW_some] <;> rfl) | (simp [*, errW_none, errW_some] <;> rfl), by repeat (first | (with_reducible first | exact HB.out | apply below_alloc | apply pw_below_drewN | apply below_drew1) | exact HB.out)⟩
                                                        · rw [if_neg c41] at H
                                                          exact absurd H (by simp)
                                                      · rw [if_neg c40] at H
                                                        have c40b0 : (((rd_T30 t128 1).f0) == 4) = false := beq_eq_false_iff_ne.mpr c40
                                                        have c40b1 : (((rd_T30 t128 1).f0) != 4) = true := bne_iff_ne.mpr c40
                                                        obtain rfl := Option.some.inj H
                                                        obtain ⟨Ao44, co44, eo44⟩ := Kd.R_slice HO_1.out
                                                        subst eo44
                                                        have p133 : 0 ≤ (0 : Int) := (by omega)
                                                        have q133 : 0 < (t108.length : Int) := of_decide_eq_true (by first | (with_reducible assumption) | assumption)
                                                        obtain ⟨ad133, e133, hx133_0, hx133_1, hx133_2, hx133_3⟩ := at_T30 (Kd.R_reads' HO_1.out).2.2 0 p133 q133
                                                        cases e133
                                                        have qi133 : (0 < t108.length) = True := eq_true (by omega)
                                                        (try rw [show ((0 : Int)).toNat = 0 from rfl] at hx133_0)
                                                        (try rw [show 0 * 4 = 0 from rfl] at hx133_0)
                                                        (try rw [Addr.add_zero'] at hx133_0)
                                                        (try rw [show ((0 : Int)).toNat = 0 from rfl] at hx133_1)
                                                        (try rw [show 0 * 4 = 0 from rfl] at hx133_1)
                                                        (try rw [Addr.add_zero'] at hx133_1)
                                                        (try rw [show ((0 : Int)).toNat = 0 from rfl] at hx133_2)
                                                        (try rw [show 0 * 4 = 0 from rfl] at hx133_2)
                                                        (try rw [Addr.add_zero'] at hx133_2)
                                                        (try rw [show ((0 : Int)).toNat = 0 from rfl] at hx133_3)
                                                        (try rw [show 0 * 4 = 0 from rfl] at hx133_3)
                                                        (try rw [Addr.add_zero'] at hx133_3)
                                                        replace p133 := eq_true p133
                                                        replace q133 := eq_true q133
                                                        have p134 : 0 ≤ (2 : Int) := (by omega)
                                                        have q134 : 2 < (t108.length : Int) := of_decide_eq_true (by first | (with_reducible assumption) | assumption)
                                                        obtain ⟨ad134, e134, hx134_0, hx134_1, hx134_2, hx134_3⟩ := at_T30 (Kd.R_reads' HO_1.out).2.2 2 p134 q134
                                                        obtain rfl : ad133 = ad134 := (by injection e134)
                                                        (try simp only [show (2 : Int).toNat = 2 from rfl, Nat.reduceMul, Nat.reduceEqDiff, Go.Addr.add, ↓reduceIte] at hx134_0)
                                                        (try simp only [show (2 : Int).toNat = 2 from rfl, Nat.reduceMul, Nat.reduceEqDiff, Go.Addr.add, ↓reduceIte] at hx134_1)
                                                        (try simp only [show (2 : Int).toNat = 2 from rfl, Nat.reduceMul, Nat.reduceEqDiff, Go.Addr.add, ↓reduceIte] at hx134_2)
                                                        (try simp only [show (2 : Int).toNat = 2 from rfl, Nat.reduceMul, Nat.reduceEqDiff, Go.Addr.add, ↓reduceIte] at hx134_3)
                                                        have qi134 : (2 < t108.length) = True := eq_true (by omega)
                                                        (try rw [show ((2 : Int)).toNat = 2 from rfl] at hx134_0)
                                                        (try rw [show 2 * 4 = 8 from rfl] at hx134_0)
                                                        (try rw [show ((2 : Int)).toNat = 2 from rfl] at hx134_1)
                                                        (try rw [show 2 * 4 = 8 from rfl] at hx134_1)
                                                        (try rw [show ((2 : Int)).toNat = 2 from rfl] at hx134_2)
                                                        (try rw [show 2 * 4 = 8 from rfl] at hx134_2)
                                                        (try rw [show ((2 : Int)).toNat = 2 from rfl] at hx134_3)
                                                        (try rw [show 2 * 4 = 8 from rfl] at hx134_3)
                                                        replace p134 := eq_true p134
                                                        replace q134 := eq_true q134
                                                        have p135 : 0 ≤ (4 : Int) := (by omega)
                                                        have q135 : 4 < (t108.length : Int) := of_decide_eq_true (by first | (with_reducible assumption) | assumption)
                                                        obtain ⟨ad135, e135, hx135_0, hx135_1, hx135_2, hx135_3⟩ := at_T30 (Kd.R_reads' HO_1.out).2.2 4 p135 q135
                                                        obtain rfl : ad133 = ad135 := (by injection e135)
                                                        (try simp only [show (4 : Int).toNat = 4 from rfl, Nat.reduceMul, Nat.reduceEqDiff, Go.Addr.add, ↓reduceIte] at hx135_0)
                                                        (try simp only [show (4 : Int).toNat = 4 from rfl, Nat.reduceMul, Nat.reduceEqDiff, Go.Addr.add, ↓reduceIte] at hx135_1)
                                                        (try simp only [show (4 : Int).toNat = 4 from rfl, Nat.reduceMul, Nat.reduceEqDiff, Go.Addr.add, ↓reduceIte] at hx135_2)
                                                        (try simp only [show (4 : Int).toNat = 4 from rfl, Nat.reduceMul, Nat.reduceEqDiff, Go.Addr.add, ↓reduceIte] at hx135_3)
                                                        have qi135 : (4 < t108.length) = True := eq_true (by omega)
                                                        (try rw [show ((4 : Int)).toNat = 4 from rfl] at hx135_0)
                                                        (try rw [show 4 * 4 = 16 from rfl] at hx135_0)
                                                        (try rw [show ((4 : Int)).toNat = 4 from rfl] at hx135_1)
                                                        (try rw [show 4 * 4 = 16 from rfl] at hx135_1)
                                                        (try rw [show ((4 : Int)).toNat = 4 from rfl] at hx135_2)
                                                        (try rw [show 4 * 4 = 16 from rfl] at hx135_2)
                                                        (try rw [show ((4 : Int)).toNat = 4 from rfl] at hx135_3)
                                                        (try rw [show 4 * 4 = 16 from rfl] at hx135_3)
                                                        replace p135 := eq_true p135
                                                        replace q135 := eq_true q135
                                                        have p136 : 0 ≤ (5 : Int) := (by omega)
                                                        have q136 : 5 < (t108.length : Int) := of_decide_eq_true (by first | (with_reducible assumption) | assumption)
                                                        obtain ⟨ad136, e136, hx136_0, hx136_1, hx136_2, hx136_3⟩ := at_T30 (Kd.R_reads' HO_1.out).2.2 5 p136 q136
                                                        obtain rfl : ad133 = ad136 := (by injection e136)
                                                        (try simp only [show (5 : Int).toNat = 5 from rfl, Nat.reduceMul, Nat.reduceEqDiff, Go.Addr.add, ↓reduceIte] at hx136_0)
                                                        (try simp only [show (5 : Int).toNat = 5 from rfl, Nat.reduceMul, Nat.reduceEqDiff, Go.Addr.add, ↓reduceIte] at hx136_1)
                                                        (try simp only [show (5 : Int).toNat = 5 from rfl, Nat.reduceMul, Nat.reduceEqDiff, Go.Addr.add, ↓reduceIte] at hx136_2)
                                                        (try simp only [show (5 : Int).toNat = 5 from rfl, Nat.reduceMul, Nat.reduceEqDiff, Go.Addr.add, ↓reduceIte] at hx136_3)
                                                        have qi136 : (5 < t108.length) = True := eq_true (by omega)
                                                        (try rw [show ((5 : Int)).toNat = 5 from rfl] at hx136_0)
                                                        (try rw [show 5 * 4 = 20 from rfl] at hx136_0)
                                                        (try rw [show ((5 : Int)).toNat = 5 from rfl] at hx136_1)
                                                        (try rw [show 5 * 4 = 20 from rfl] at hx136_1)
                                                        (try rw [show ((5 : Int)).toNat = 5 from rfl] at hx136_2)
                                                        (try rw [show 5 * 4 = 20 from rfl] at hx136_2)
                                                        (try rw [show ((5 : Int)).toNat = 5 from rfl] at hx136_3)
                                                        (try rw [show 5 * 4 = 20 from rfl] at hx136_3)
                                                        replace p136 := eq_true p136
                                                        replace q136 := eq_true q136
                                                        have p137 : 0 ≤ (7 : Int) := (by omega)
                                                        have q137 : 7 < (t108.length : Int) := of_decide_eq_true (by first | (with_reducible assumption) | assumption)
                                                        obtain ⟨ad137, e137, hx137_0, hx137_1, hx137_2, hx137_3⟩ := at_T30 (Kd.R_reads' HO_1.out).2.2 7 p137 q137
                                                        obtain rfl : ad133 = ad137 := (by injection e137)
                                                        (try simp only [show (7 : Int).toNat = 7 from rfl, Nat.reduceMul, Nat.reduceEqDiff, Go.Addr.add, ↓reduceIte] at hx137_0)
                                                        (try simp only [show (7 : Int).toNat = 7 from rfl, Nat.reduceMul, Nat.reduceEqDiff, Go.Addr.add, ↓reduceIte] at hx137_1)
                                                        (try simp only [show (7 : Int).toNat = 7 from rfl, Nat.reduceMul, Nat.reduceEqDiff, Go.Addr.add, ↓reduceIte] at hx137_2)
                                                        (try simp only [show (7 : Int).toNat = 7 from rfl, Nat.reduceMul, Nat.reduceEqDiff, Go.Addr.add, ↓reduceIte] at hx137_3)
                                                        have qi137 : (7 < t108.length) = True := eq_true (by omega)
                                                        (try rw [show ((7 : Int)).toNat = 7 from rfl] at hx137_0)
                                                        (try rw [show 7 * 4 = 28 from rfl] at hx137_0)
                                                        (try rw [show ((7 : Int)).toNat = 7 from rfl] at hx137_1)
                                                        (try rw [show 7 * 4 = 28 from rfl] at hx137_1)
                                                        (try rw [show ((7 : Int)).toNat = 7 from rfl] at hx137_2)
                                                        (try rw [show 7 * 4 = 28 from rfl] at hx137_2)
                                                        (try rw [show ((7 : Int)).toNat = 7 from rfl] at hx137_3)
                                                        (try rw [show 7 * 4 = 28 from rfl] at hx137_3)
                                                        replace p137 := eq_true p137
                                                        replace q137 := eq_true q137
                                                        have p138 : 0 ≤ (8 : Int) := (by omega)
                                                        have q138 : 8 < (t108.length : Int) := of_decide_eq_true (by first | (with_reducible assumption) | assumption)
                                                        obtain ⟨ad138, e138, hx138_0, hx138_1, hx138_2, hx138_3⟩ := at_T30 (Kd.R_reads' HO_1.out).2.2 8 p138 q138
                                                        obtain rfl : ad133 = ad138 := (by injection e138)
                                                        (try simp only [show (8 : Int).toNat = 8 from rfl, Nat.reduceMul, Nat.reduceEqDiff, Go.Addr.add, ↓reduceIte] at hx138_0)
                                                        (try simp only [show (8 : Int).toNat = 8 from rfl, Nat.reduceMul, Nat.reduceEqDiff, Go.Addr.add, ↓reduceIte] at hx138_1)
                                                        (try simp only [show (8 : Int).toNat = 8 from rfl, Nat.reduceMul, Nat.reduceEqDiff, Go.Addr.add, ↓reduceIte] at hx138_2)
                                                        (try simp only [show (8 : Int).toNat = 8 from rfl, Nat.reduceMul, Nat.reduceEqDiff, Go.Addr.add, ↓reduceIte] at hx138_3)
                                                        have qi138 : (8 < t108.length) = True := eq_true (by omega)
                                                        (try rw [show ((8 : Int)).toNat = 8 from rfl] at hx138_0)
                                                        (try rw [show 8 * 4 = 32 from rfl] at hx138_0)
                                                        (try rw [show ((8 : Int)).toNat = 8 from rfl] at hx138_1)
                                                        (try rw [show 8 * 4 = 32 from rfl] at hx138_1)
                                                        (try rw [show ((8 : Int)).toNat = 8 from rfl] at hx138_2)
                                                        (try rw [show 8 * 4 = 32 from rfl] at hx138_2)
                                                        (try rw [show ((8 : Int)).toNat = 8 from rfl] at hx138_3)
                                                        (try rw [show 8 * 4 = 32 from rfl] at hx138_3)
                                                        replace p138 := eq_true p138
                                                        replace q138 := eq_true q138
                                                        have p139 : 0 ≤ (9 : Int) := (by omega)
                                                        have q139 : 9 < (t108.length : Int) := of_decide_eq_true (by first | (with_reducible assumption) | assumption)
                                                        obtain ⟨ad139, e139, hx139_0, hx139_1, hx139_2, hx139_3⟩ := at_T30 (Kd.R_reads' HO_1.out).2.2 9 p139 q139
                                                        obtain rfl : ad133 = ad139 := (by injection e139)
                                                        (try simp only [show (9 : Int).toNat = 9 from rfl, Nat.reduceMul, Nat.reduceEqDiff, Go.Addr.add, ↓reduceIte] at hx139_0)
                                                        (try simp only [show (9 : Int).toNat = 9 from rfl, Nat.reduceMul, Nat.reduceEqDiff, Go.Addr.add, ↓reduceIte] at hx139_1)
                                                        (try simp only [show (9 : Int).toNat = 9 from rfl, Nat.reduceMul, Nat.reduceEqDiff, Go.Addr.add, ↓reduceIte] at hx139_2)
                                                        (try simp only [show (9 : Int).toNat = 9 from rfl, Nat.reduceMul, Nat.reduceEqDiff, Go.Addr.add, ↓reduceIte] at hx139_3)
                                                        have qi139 : (9 < t108.length) = True := eq_true (by omega)
                                                        (try rw [show ((9 : Int)).toNat = 9 from rfl] at hx139_0)
                                                        (try rw [show 9 * 4 = 36 from rfl] at hx139_0)
                                                        (try rw [show ((9 : Int)).toNat = 9 from rfl] at hx139_1)
                                                        (try rw [show 9 * 4 = 36 from rfl] at hx139_1)
                                                        (try rw [show ((9 : Int)).toNat = 9 from rfl] at hx139_2)
                                                        (try rw [show 9 * 4 = 36 from rfl] at hx139_2)
                                                        (try rw [show ((9 : Int)).toNat = 9 from rfl] at hx139_3)
                                                        (try rw [show 9 * 4 = 36 from rfl] at hx139_3)
                                                        replace p139 := eq_true p139
                                                        replace q139 := eq_true q139
                                                        obtain ⟨Ao45, co45, eo45⟩ := Kd.R_slice HO_13.out
                                                        subst eo45
                                                        have p140 : 0 ≤ (1 : Int) := (by omega)
                                                        have q140 : 1 < (t128.length : Int) := of_decide_eq_true (by first | (with_reducible assumption) | assumption)
                                                        obtain ⟨ad140, e140, hx140_0, hx140_1, hx140_2, hx140_3⟩ := at_T30 (Kd.R_reads' HO_13.out).2.2 1 p140 q140
                                                        cases e140
                                                        (try simp only [show (1 : Int).toNat = 1 from rfl, Nat.reduceMul, Nat.reduceEqDiff, Go.Addr.add, ↓reduceIte] at hx140_0)
                                                        (try simp only [show (1 : Int).toNat = 1 from rfl, Nat.reduceMul, Nat.reduceEqDiff, Go.Addr.add, ↓reduceIte] at hx140_1)
                                                        (try simp only [show (1 : Int).toNat = 1 from rfl, Nat.reduceMul, Nat.reduceEqDiff, Go.Addr.add, ↓reduceIte] at hx140_2)
                                                        (try simp only [show (1 : Int).toNat = 1 from rfl, Nat.reduceMul, Nat.reduceEqDiff, Go.Addr.add, ↓reduceIte] at hx140_3)
                                                        have qi140 : (1 < t128.length) = True := eq_true (by omega)
                                                        (try rw [show ((1 : Int)).toNat = 1 from rfl] at hx140_0)
                                                        (try rw [show 1 * 4 = 4 from rfl] at hx140_0)
                                                        (try rw [show ((1 : Int)).toNat = 1 from rfl] at hx140_1)
                                                        (try rw [show 1 * 4 = 4 from rfl] at hx140_1)
                                                        (try rw [show ((1 : Int)).toNat = 1 from rfl] at hx140_2)
                                                        (try rw [show 1 * 4 = 4 from rfl] at hx140_2)
                                                        (try rw [show ((1 : Int)).toNat = 1 from rfl] at hx140_3)
                                                        (try rw [show 1 * 4 = 4 from rfl] at hx140_3)
                                                        replace p140 := eq_true p140
                                                        replace q140 := eq_true q140
                                                        go_wp2
                                                        go_ret
                                                        exact ⟨by first | rfl | (simp [errW_none, errW_some] <;> rfl) | (simp [*, errW_none, errW_some] <;> rfl), by repeat (first | (with_reducible first | exact HB.out | apply below_alloc | apply pw_below_drewN | apply below_drew1) | exact HB.out)⟩
                                                    · rw [if_neg c39] at H
                                                      exact absurd H (by simp)
                                                  · rw [if_neg c38] at H
                                                    have c38b0 : (((rd_T30 t108 9).f0) == 5 && ((((rd_T30 t108 9).f1).toList) == ([124] : List UInt8) && (((rd_T30 t108 9).f2) == 0 && (((rd_T30 t108 9).f3) == 26)))) = false := by simpa using c38
                                                    (try (have c38b1 : decide (((rd_T30 t108 9).f0) = 5 && ((((rd_T30 t108 9).f1).toList) == ([124] : List UInt8) && (((rd_T30 t108 9).f2) == 0 && (((rd_T30 t108 9).f3) == 26)))) = false := by simpa using c38))
                                                    (try (have c38b2 : (((rd_T30 t108 9).f0) == 5 && ((((rd_T30 t108 9).f1).toList) == ([124] : List UInt8) && (((rd_T30 t108 9).f2) == 0 && (((rd_T30 t108 9).f3) == 26)))) = false := by simpa using c38))
                                                    (try (have c38b3 : ¬ (((rd_T30 t108 9).f0) = 5 && ((((rd_T30 t108 9).f1).toList) == ([124] : List UInt8) && (((rd_T30 t108 9).f2) == 0 && (((rd_T30 t108 9).f3) == 26)))) := by simpa using c38))
                                                    clear c38
                                                    obtain rfl := Option.some.inj H
                                                    obtain ⟨Ao46, co46, eo46⟩ := Kd.R_slice HO_1.out
                                                    subst eo46
                                                    have p133 : 0 ≤ (0 : Int) := (by omega)
                                                    have q133 : 0 < (t108.length : Int) := of_decide_eq_true (by first | (with_reducible assumption) | assumption)
                                                    obtain ⟨ad133, e133, hx133_0, hx133_1, hx133_2, hx133_3⟩ := at_T30 (Kd.R_reads' HO_1.out).2.2 0 p133 q133
                                                    cases e133
                                                    have qi133 : (0 < t108.length) = True := eq_true (by omega)
                                                    (try rw [show ((0 : Int)).toNat = 0 from rfl] at hx133_0)
                                                    (try rw [show 0 * 4 = 0 from rfl] at hx133_0)
                                                    (try rw [Addr.add_zero'] at hx133_0)
                                                    (try rw [show ((0 : Int)).toNat = 0 from rfl] at hx133_1)
                                                    (try rw [show 0 * 4 = 0 from rfl] at hx133_1)
                                                    (try rw [Addr.add_zero'] at hx133_1)
                                                    (try rw [show ((0 : Int)).toNat = 0 from rfl] at hx133_2)
                                                    (try rw [show 0 * 4 = 0 from rfl] at hx133_2)
                                                    (try rw [Addr.add_zero'] at hx133_2)
                                                    (try rw [show ((0 : Int)).toNat = 0 from rfl] at hx133_3)
                                                    (try rw [show 0 * 4 = 0 from rfl] at hx133_3)
                                                    (try rw [Addr.add_zero'] at hx133_3)
                                                    replace p133 := eq_true p133
                                                    replace q133 := eq_true q133
                                                    have p134 : 0 ≤ (2 : Int) := (by omega)
                                                    have q134 : 2 < (t108.length : Int) := of_decide_eq_true (by first | (with_reducible assumption) | assumption)
                                                    obtain ⟨ad134, e134, hx134_0, hx134_1, hx134_2, hx134_3⟩ := at_T30 (Kd.R_reads' HO_1.out).2.2 2 p134 q134
                                                    obtain rfl : ad133 = ad134 := (by injection e134)
                                                    (try simp only [show (2 : Int).toNat = 2 from rfl, Nat.reduceMul, Nat.reduceEqDiff, Go.Addr.add, ↓reduceIte] at hx134_0)
                                                    (try simp only [show (2 : Int).toNat = 2 from rfl, Nat.reduceMul, Nat.reduceEqDiff, Go.Addr.add, ↓reduceIte] at hx134_1)
                                                    (try simp only [show (2 : Int).toNat = 2 from rfl, Nat.reduceMul, Nat.reduceEqDiff, Go.Addr.add, ↓reduceIte] at hx134_2)
                                                    (try simp only [show (2 : Int).toNat = 2 from rfl, Nat.reduceMul, Nat.reduceEqDiff, Go.Addr.add, ↓reduceIte] at hx134_3)
                                                    have qi134 : (2 < t108.length) = True := eq_true (by omega)
                                                    (try rw [show ((2 : Int)).toNat = 2 from rfl] at hx134_0)
                                                    (try rw [show 2 * 4 = 8 from rfl] at hx134_0)
                                                    (try rw [show ((2 : Int)).toNat = 2 from rfl] at hx134_1)
                                                    (try rw [show 2 * 4 = 8 from rfl] at hx134_1)
                                                    (try rw [show ((2 : Int)).toNat = 2 from rfl] at hx134_2)
                                                    (try rw [show 2 * 4 = 8 from rfl] at hx134_2)
                                                    (try rw [show ((2 : Int)).toNat = 2 from rfl] at hx134_3)
                                                    (try rw [show 2 * 4 = 8 from rfl] at hx134_3)
                                                    replace p134 := eq_true p134
                                                    replace q134 := eq_true q134
                                                    have p135 : 0 ≤ (4 : Int) := (by omega)
                                                    have q135 : 4 < (t108.length : Int) := of_decide_eq_true (by first | (with_reducible assumption) | assumption)
                                                    obtain ⟨ad135, e135, hx135_0, hx135_1, hx135_2, hx135_3⟩ := at_T30 (Kd.R_reads' HO_1.out).2.2 4 p135 q135
                                                    obtain rfl : ad133 = ad135 := (by injection e135)
                                                    (try simp only [show (4 : Int).toNat = 4 from rfl, Nat.reduceMul, Nat.reduceEqDiff, Go.Addr.add, ↓reduceIte] at hx135_0)
                                                    (try simp only [show (4 : Int).toNat = 4 from rfl, Nat.reduceMul, Nat.reduceEqDiff, Go.Addr.add, ↓reduceIte] at hx135_1)
                                                    (try simp only [show (4 : Int).toNat = 4 from rfl, Nat.reduceMul, Nat.reduceEqDiff, Go.Addr.add, ↓reduceIte] at hx135_2)
                                                    (try simp only [show (4 : Int).toNat = 4 from rfl, Nat.reduceMul, Nat.reduceEqDiff, Go.Addr.add, ↓reduceIte] at hx135_3)
                                                    have qi135 : (4 < t108.length) = True := eq_true (by omega)
                                                    (try rw [show ((4 : Int)).toNat = 4 from rfl] at hx135_0)
                                                    (try rw [show 4 * 4 = 16 from rfl] at hx135_0)
                                                    (try rw [show ((4 : Int)).toNat = 4 from rfl] at hx135_1)
                                                    (try rw [show 4 * 4 = 16 from rfl] at hx135_1)
                                                    (try rw [show ((4 : Int)).toNat = 4 from rfl] at hx135_2)
                                                    (try rw [show 4 * 4 = 16 from rfl] at hx135_2)
                                                    (try rw [show ((4 : Int)).toNat = 4 from rfl] at hx135_3)
                                                    (try rw [show 4 * 4 = 16 from rfl] at hx135_3)
                                                    replace p135 := eq_true p135
                                                    replace q135 := eq_true q135
                                                    have p136 : 0 ≤ (5 : Int) := (by omega)
                                                    have q136 : 5 < (t108.length : Int) := of_decide_eq_true (by first | (with_reducible assumption) | assumption)
                                                    obtain ⟨ad136, e136, hx136_0, hx136_1, hx136_2, hx136_3⟩ := at_T30 (Kd.R_reads' HO_1.out).2.2 5 p136 q136
                                                    obtain rfl : ad133 = ad136 := (by injection e136)
                                                    (try simp only [show (5 : Int).toNat = 5 from rfl, Nat.reduceMul, Nat.reduceEqDiff, Go.Addr.add, ↓reduceIte] at hx136_0)
                                                    (try simp only [show (5 : Int).toNat = 5 from rfl, Nat.reduceMul, Nat.reduceEqDiff, Go.Addr.add, ↓reduceIte] at hx136_1)
                                                    (try simp only [show (5 : Int).toNat = 5 from rfl, Nat.reduceMul, Nat.reduceEqDiff, Go.Addr.add, ↓reduceIte] at hx136_2)
                                                    (try simp only [show (5 : Int).toNat = 5 from rfl, Nat.reduceMul, Nat.reduceEqDiff, Go.Addr.add, ↓reduceIte] at hx136_3)
                                                    have qi136 : (5 < t108.length) = True := eq_true (by omega)
                                                    (try rw [show ((5 : Int)).toNat = 5 from rfl] at hx136_0)
                                                    (try rw [show 5 * 4 = 20 from rfl] at hx136_0)
                                                    (try rw [show ((5 : Int)).toNat = 5 from rfl] at hx136_1)
                                                    (try rw [show 5 * 4 = 20 from rfl] at hx136_1)
                                                    (try rw [show ((5 : Int)).toNat = 5 from rfl] at hx136_2)
                                                    (try rw [show 5 * 4 = 20 from rfl] at hx136_2)
                                                    (try rw [show ((5 : Int)).toNat = 5 from rfl] at hx136_3)
                                                    (try rw [show 5 * 4 = 20 from rfl] at hx136_3)
                                                    replace p136 := eq_true p136
                                                    replace q136 := eq_true q136
                                                    have p137 : 0 ≤ (7 : Int) := (by omega)
                                                    have q137 : 7 < (t108.length : Int) := of_decide_eq_true (by first | (with_reducible assumption) | assumption)
                                                    obtain ⟨ad137, e137, hx137_0, hx137_1, hx137_2, hx137_3⟩ := at_T30 (Kd.R_reads' HO_1.out).2.2 7 p137 q137
                                                    obtain rfl : ad133 = ad137 := (by injection e137)
                                                    (try simp only [show (7 : Int).toNat = 7 from rfl, Nat.reduceMul, Nat.reduceEqDiff, Go.Addr.add, ↓reduceIte] at hx137_0)
                                                    (try simp only [show (7 : Int).toNat = 7 from rfl, Nat.reduceMul, Nat.reduceEqDiff, Go.Addr.add, ↓reduceIte] at hx137_1)
                                                    (try simp only [show (7 : Int).toNat = 7 from rfl, Nat.reduceMul, Nat.reduceEqDiff, Go.Addr.add, ↓reduceIte] at hx137_2)
                                                    (try simp only [show (7 : Int).toNat = 7 from rfl, Nat.reduceMul, Nat.reduceEqDiff, Go.Addr.add, ↓reduceIte] at hx137_3)
                                                    have qi137 : (7 < t108.length) = True := eq_true (by omega)
                                                    (try rw [show ((7 : Int)).toNat = 7 from rfl] at hx137_0)
                                                    (try rw [show 7 * 4 = 28 from rfl] at hx137_0)
                                                    (try rw [show ((7 : Int)).toNat = 7 from rfl] at hx137_1)
                                                    (try rw [show 7 * 4 = 28 from rfl] at hx137_1)
                                                    (try rw [show ((7 : Int)).toNat = 7 from rfl] at hx137_2)
                                                    (try rw [show 7 * 4 = 28 from rfl] at hx137_2)
                                                    (try rw [show ((7 : Int)).toNat = 7 from rfl] at hx137_3)
                                                    (try rw [show 7 * 4 = 28 from rfl] at hx137_3)
                                                    replace p137 := eq_true p137
                                                    replace q137 := eq_true q137
                                                    have p138 : 0 ≤ (8 : Int) := (by omega)
                                                    have q138 : 8 < (t108.length : Int) := of_decide_eq_true (by first | (with_reducible assumption) | assumption)
                                                    obtain ⟨ad138, e138, hx138_0, hx138_1, hx138_2, hx138_3⟩ := at_T30 (Kd.R_reads' HO_1.out).2.2 8 p138 q138
                                                    obtain rfl : ad133 = ad138 := (by injection e138)
                                                    (try simp only [show (8 : Int).toNat = 8 from rfl, Nat.reduceMul, Nat.reduceEqDiff, Go.Addr.add, ↓reduceIte] at hx138_0)
                                                    (try simp only [show (8 : Int).toNat = 8 from rfl, Nat.reduceMul, Nat.reduceEqDiff, Go.Addr.add, ↓reduceIte] at hx138_1)
                                                    (try simp only [show (8 : Int).toNat = 8 from rfl, Nat.reduceMul, Nat.reduceEqDiff, Go.Addr.add, ↓reduceIte] at hx138_2)
                                                    (try simp only [show (8 : Int).toNat = 8 from rfl, Nat.reduceMul, Nat.reduceEqDiff, Go.Addr.add, ↓reduceIte] at hx138_3)
                                                    have qi138 : (8 < t108.length) = True := eq_true (by omega)
                                                    (try rw [show ((8 : Int)).toNat = 8 from rfl] at hx138_0)
                                                    (try rw [show 8 * 4 = 32 from rfl] at hx138_0)
                                                    (try rw [show ((8 : Int)).toNat = 8 from rfl] at hx138_1)
                                                    (try rw [show 8 * 4 = 32 from rfl] at hx138_1)
                                                    (try rw [show ((8 : Int)).toNat = 8 from rfl] at hx138_2)
                                                    (try rw [show 8 * 4 = 32 from rfl] at hx138_2)
                                                    (try rw [show ((8 : Int)).toNat = 8 from rfl] at hx138_3)
                                                    (try rw [show 8 * 4 = 32 from rfl] at hx138_3)
                                                    replace p138 := eq_true p138
                                                    replace q138 := eq_true q138
                                                    have p139 : 0 ≤ (9 : Int) := (by omega)
                                                    have q139 : 9 < (t108.length : Int) := of_decide_eq_true (by first | (with_reducible assumption) | assumption)
                                                    obtain ⟨ad139, e139, hx139_0, hx139_1, hx139_2, hx139_3⟩ := at_T30 (Kd.R_reads' HO_1.out).2.2 9 p139 q139
                                                    obtain rfl : ad133 = ad139 := (by injection e139)
                                                    (try simp only [show (9 : Int).toNat = 9 from rfl, Nat.reduceMul, Nat.reduceEqDiff, Go.Addr.add, ↓reduceIte] at hx139_0)
                                                    (try simp only [show (9 : Int).toNat = 9 from rfl, Nat.reduceMul, Nat.reduceEqDiff, Go.Addr.add, ↓reduceIte] at hx139_1)
                                                    (try simp only [show (9 : Int).toNat = 9 from rfl, Nat.reduceMul, Nat.reduceEqDiff, Go.Addr.add, ↓reduceIte] at hx139_2)
                                                    (try simp only [show (9 : Int).toNat = 9 from rfl, Nat.reduceMul, Nat.reduceEqDiff, Go.Addr.add, ↓reduceIte] at hx139_3)
                                                    have qi139 : (9 < t108.length) = True := eq_true (by omega)
                                                    (try rw [show ((9 : Int)).toNat = 9 from rfl] at hx139_0)
                                                    (try rw [show 9 * 4 = 36 from rfl] at hx139_0)
                                                    (try rw [show ((9 : Int)).toNat = 9 from rfl] at hx139_1)
                                                    (try rw [show 9 * 4 = 36 from rfl] at hx139_1)
                                                    (try rw [show ((9 : Int)).toNat = 9 from rfl] at hx139_2)
                                                    (try rw [show 9 * 4 = 36 from rfl] at hx139_2)
                                                    (try rw [show ((9 : Int)).toNat = 9 from rfl] at hx139_3)
                                                    (try rw [show 9 * 4 = 36 from rfl] at hx139_3)
                                                    replace p139 := eq_true p139
                                                    replace q139 := eq_true q139
                                                    go_wp2
                                                    go_ret
                                                    exact ⟨by first | rfl | (simp [errW_none, errW_some] <;> rfl) | (simp [*, errW_none, errW_some] <;> rfl), by repeat (first | (with_reducible first | exact HB.out | apply below_alloc | apply pw_below_drewN | apply below_drew1) | exact HB.out)⟩
                                                · rw [if_neg c37] at H
                                                  exact absurd H (by simp)
                                              · rw [if_neg c36] at H
                                                have c36b0 : (((rd_T30 t108 8).f0) == 6) = false := beq_eq_false_iff_ne.mpr c36
                                                have c36b1 : (((rd_T30 t108 8).f0) != 6) = true := bne_iff_ne.mpr c36
                                                obtain rfl := Option.some.inj H
                                                obtain ⟨Ao47, co47, eo47⟩ := Kd.R_slice HO_1.out
                                                subst eo47
                                                have p133 : 0 ≤ (0 : Int) := (by omega)
                                                have q133 : 0 < (t108.length : Int) := of_decide_eq_true (by first | (with_reducible assumption) | assumption)
                                                obtain ⟨ad133, e133, hx133_0, hx133_1, hx133_2, hx133_3⟩ := at_T30 (Kd.R_reads' HO_1.out).2.2 0 p133 q133
                                                cases e133
                                                have qi133 : (0 < t108.length) = True := eq_true (by omega)
                                                (try rw [show ((0 : Int)).toNat = 0 from rfl] at hx133_0)
                                                (try rw [show 0 * 4 = 0 from rfl] at hx133_0)
                                                (try rw [Addr.add_zero'] at hx133_0)
                                                (try rw [show ((0 : Int)).toNat = 0 from rfl] at hx133_1)
                                                (try rw [show 0 * 4 = 0 from rfl] at hx133_1)
                                                (try rw [Addr.add_zero'] at hx133_1)
                                                (try rw [show ((0 : Int)).toNat = 0 from rfl] at hx133_2)
                                                (try rw [show 0 * 4 = 0 from rfl] at hx133_2)
                                                (try rw [Addr.add_zero'] at hx133_2)
                                                (try rw [show ((0 : Int)).toNat = 0 from rfl] at hx133_3)
                                                (try rw [show 0 * 4 = 0 from rfl] at hx133_3)
                                                (try rw [Addr.add_zero'] at hx133_3)
                                                replace p133 := eq_true p133
                                                replace q133 := eq_true q133
                                                have p134 : 0 ≤ (2 : Int) := (by omega)
                                                have q134 : 2 < (t108.length : Int) := of_decide_eq_true (by first | (with_reducible assumption) | assumption)
                                                obtain ⟨ad134, e134, hx134_0, hx134_1, hx134_2, hx134_3⟩ := at_T30 (Kd.R_reads' HO_1.out).2.2 2 p134 q134
                                                obtain rfl : ad133 = ad134 := (by injection e134)
                                                (try simp only [show (2 : Int).toNat = 2 from rfl, Nat.reduceMul, Nat.reduceEqDiff, Go.Addr.add, ↓reduceIte] at hx134_0)
                                                (try simp only [show (2 : Int).toNat = 2 from rfl, Nat.reduceMul, Nat.reduceEqDiff, Go.Addr.add, ↓reduceIte] at hx134_1)
                                                (try simp only [show (2 : Int).toNat = 2 from rfl, Nat.reduceMul, Nat.reduceEqDiff, Go.Addr.add, ↓reduceIte] at hx134_2)
                                                (try simp only [show (2 : Int).toNat = 2 from rfl, Nat.reduceMul, Nat.reduceEqDiff, Go.Addr.add, ↓reduceIte] at hx134_3)
                                                have qi134 : (2 < t108.length) = True := eq_true (by omega)
                                                (try rw [show ((2 : Int)).toNat = 2 from rfl] at hx134_0)
                                                (try rw [show 2 * 4 = 8 from rfl] at hx134_0)
                                                (try rw [show ((2 : Int)).toNat = 2 from rfl] at hx134_1)
                                                (try rw [show 2 * 4 = 8 from rfl] at hx134_1)
                                                (try rw [show ((2 : Int)).toNat = 2 from rfl] at hx134_2)
                                                (try rw [show 2 * 4 = 8 from rfl] at hx134_2)
                                                (try rw [show ((2 : Int)).toNat = 2 from rfl] at hx134_3)
                                                (try rw [show 2 * 4 = 8 from rfl] at hx134_3)
                                                replace p134 := eq_true p134
                                                replace q134 := eq_true q134
                                                have p135 : 0 ≤ (4 : Int) := (by omega)
                                                have q135 : 4 < (t108.length : Int) := of_decide_eq_true (by first | (with_reducible assumption) | assumption)
                                                obtain ⟨ad135, e135, hx135_0, hx135_1, hx135_2, hx135_3⟩ := at_T30 (Kd.R_reads' HO_1.out).2.2 4 p135 q135
                                                obtain rfl : ad133 = ad135 := (by injection e135)
                                                (try simp only [show (4 : Int).toNat = 4 from rfl, Nat.reduceMul, Nat.reduceEqDiff, Go.Addr.add, ↓reduceIte] at hx135_0)
                                                (try simp only [show (4 : Int).toNat = 4 from rfl, Nat.reduceMul, Nat.reduceEqDiff, Go.Addr.add, ↓reduceIte] at hx135_1)
                                                (try simp only [show (4 : Int).toNat = 4 from rfl, Nat.reduceMul, Nat.reduceEqDiff, Go.Addr.add, ↓reduceIte] at hx135_2)
                                                (try simp only [show (4 : Int).toNat = 4 from rfl, Nat.reduceMul, Nat.reduceEqDiff, Go.Addr.add, ↓reduceIte] at hx135_3)
                                                have qi135 : (4 < t108.length) = True := eq_true (by omega)
                                                (try rw [show ((4 : Int)).toNat = 4 from rfl] at hx135_0)
                                                (try rw [show 4 * 4 = 16 from rfl] at hx135_0)
                                                (try rw [show ((4 : Int)).toNat = 4 from rfl] at hx135_1)
                                                (try rw [show 4 * 4 = 16 from rfl] at hx135_1)
                                                (try rw [show ((4 : Int)).toNat = 4 from rfl] at hx135_2)
                                                (try rw [show 4 * 4 = 16 from rfl] at hx135_2)
                                                (try rw [show ((4 : Int)).toNat = 4 from rfl] at hx135_3)
                                                (try rw [show 4 * 4 = 16 from rfl] at hx135_3)
                                                replace p135 := eq_true p135
                                                replace q135 := eq_true q135
                                                have p136 : 0 ≤ (5 : Int) := (by omega)
                                                have q136 : 5 < (t108.length : Int) := of_decide_eq_true (by first | (with_reducible assumption) | assumption)
                                                obtain ⟨ad136, e136, hx136_0, hx136_1, hx136_2, hx136_3⟩ := at_T30 (Kd.R_reads' HO_1.out).2.2 5 p136 q136
                                                obtain rfl : ad133 = ad136 := (by injection e136)
                                                (try simp only [show (5 : Int).toNat = 5 from rfl, Nat.reduceMul, Nat.reduceEqDiff, Go.Addr.add, ↓reduceIte] at hx136_0)
                                                (try simp only [show (5 : Int).toNat = 5 from rfl, Nat.reduceMul, Nat.reduceEqDiff, Go.Addr.add, ↓reduceIte] at hx136_1)
                                                (try simp only [show (5 : Int).toNat = 5 from rfl, Nat.reduceMul, Nat.reduceEqDiff, Go.Addr.add, ↓reduceIte] at hx136_2)
                                                (try simp only [show (5 : Int).toNat = 5 from rfl, Nat.reduceMul, Nat.reduceEqDiff, Go.Addr.add, ↓reduceIte] at hx136_3)
                                                have qi136 : (5 < t108.length) = True := eq_true (by omega)
                                                (try rw [show ((5 : Int)).toNat = 5 from rfl] at hx136_0)
                                                (try rw [show 5 * 4 = 20 from rfl] at hx136_0)
                                                (try rw [show ((5 : Int)).toNat = 5 from rfl] at hx136_1)
                                                (try rw [show 5 * 4 = 20 from rfl] at hx136_1)
                                                (try rw [show ((5 : Int)).toNat = 5 from rfl] at hx136_2)
                                                (try rw [show 5 * 4 = 20 from rfl] at hx136_2)
                                                (try rw [show ((5 : Int)).toNat = 5 from rfl] at hx136_3)
                                                (try rw [show 5 * 4 = 20 from rfl] at hx136_3)
                                                replace p136 := eq_true p136
                                                replace q136 := eq_true q136
                                                have p137 : 0 ≤ (7 : Int) := (by omega)
                                                have q137 : 7 < (t108.length : Int) := of_decide_eq_true (by first | (with_reducible assumption) | assumption)
                                                obtain ⟨ad137, e137, hx137_0, hx137_1, hx137_2, hx137_3⟩ := at_T30 (Kd.R_reads' HO_1.out).2.2 7 p137 q137
                                                obtain rfl : ad133 = ad137 := (by injection e137)
                                                (try simp only [show (7 : Int).toNat = 7 from rfl, Nat.reduceMul, Nat.reduceEqDiff, Go.Addr.add, ↓reduceIte] at hx137_0)
                                                (try simp only [show (7 : Int).toNat = 7 from rfl, Nat.reduceMul, Nat.reduceEqDiff, Go.Addr.add, ↓reduceIte] at hx137_1)
                                                (try simp only [show (7 : Int).toNat = 7 from rfl, Nat.reduceMul, Nat.reduceEqDiff, Go.Addr.add, ↓reduceIte] at hx137_2)
                                                (try simp only [show (7 : Int).toNat = 7 from rfl, Nat.reduceMul, Nat.reduceEqDiff, Go.Addr.add, ↓reduceIte] at hx137_3)
                                                have qi137 : (7 < t108.length) = True := eq_true (by omega)
                                                (try rw [show ((7 : Int)).toNat = 7 from rfl] at hx137_0)
                                                (try rw [show 7 * 4 = 28 from rfl] at hx137_0)
                                                (try rw [show ((7 : Int)).toNat = 7 from rfl] at hx137_1)
                                                (try rw [show 7 * 4 = 28 from rfl] at hx137_1)
                                                (try rw [show ((7 : Int)).toNat = 7 from rfl] at hx137_2)
                                                (try rw [show 7 * 4 = 28 from rfl] at hx137_2)
                                                (try rw [show ((7 : Int)).toNat = 7 from rfl] at hx137_3)
                                                (try rw [show 7 * 4 = 28 from rfl] at hx137_3)
                                                replace p137 := eq_true p137
                                                replace q137 := eq_true q137
                                                have p138 : 0 ≤ (8 : Int) := (by omega)
                                                have q138 : 8 < (t108.length : Int) := of_decide_eq_true (by first | (with_reducible assumption) | assumption)
                                                obtain ⟨ad138, e138, hx138_0, hx138_1, hx138_2, hx138_3⟩ := at_T30 (Kd.R_reads' HO_1.out).2.2 8 p138 q138
                                                obtain rfl : ad133 = ad138 := (by injection e138)
                                                (try simp only [show (8 : Int).toNat = 8 from rfl, Nat.reduceMul, Nat.reduceEqDiff, Go.Addr.add, ↓reduceIte] at hx138_0)
                                                (try simp only [show (8 : Int).toNat = 8 from rfl, Nat.reduceMul, Nat.reduceEqDiff, Go.Addr.add, ↓reduceIte] at hx138_1)
                                                (try simp only [show (8 : Int).toNat = 8 from rfl, Nat.reduceMul, Nat.reduceEqDiff, Go.Addr.add, ↓reduceIte] at hx138_2)
                                                (try simp only [show (8 : Int).toNat = 8 from rfl, Nat.reduceMul, Nat.reduceEqDiff, Go.Addr.add, ↓reduceIte] at hx138_3)
                                                have qi138 : (8 < t108.length) = True := eq_true (by omega)
                                                (try rw [show ((8 : Int)).toNat = 8 from rfl] at hx138_0)
                                                (try rw [show 8 * 4 = 32 from rfl] at hx138_0)
                                                (try rw [show ((8 : Int)).toNat = 8 from rfl] at hx138_1)
                                                (try rw [show 8 * 4 = 32 from rfl] at hx138_1)
                                                (try rw [show ((8 : Int)).toNat = 8 from rfl] at hx138_2)
                                                (try rw [show 8 * 4 = 32 from rfl] at hx138_2)
                                                (try rw [show ((8 : Int)).toNat = 8 from rfl] at hx138_3)
                                                (try rw [show 8 * 4 = 32 from rfl] at hx138_3)
                                                replace p138 := eq_true p138
                                                replace q138 := eq_true q138
                                                go_wp2
                                                go_ret
                                                exact ⟨by first | rfl | (simp [errW_none, errW_some] <;> rfl) | (simp [*, errW_none, errW_some] <;> rfl), by repeat (first | (with_reducible first | exact HB.out | apply below_alloc | apply pw_below_drewN | apply below_drew1) | exact HB.out)⟩
                                            · rw [if_neg c35] at H
                                              exact absurd H (by simp)
                                          · rw [if_neg c34] at H
                                            have c34b0 : (((rd_T30 t108 7).f0) == 3 && ((((rd_T30 t108 7).f1).toList) == ([48, 55] : List UInt8) && (((rd_T30 t108 7).f2) == 7 && (((rd_T30 t108 7).f3) == 17)))) = false := by simpa using c34
                                            (try (have c34b1 : decide (((rd_T30 t108 7).f0) = 3 && ((((rd_T30 t108 7).f1).toList) == ([48, 55] : List UInt8) && (((rd_T30 t108 7).f2) == 7 && (((rd_T30 t108 7).f3) == 17)))) = false := by simpa using c34))
                                            (try (have c34b2 : (((rd_T30 t108 7).f0) == 3 && ((((rd_T30 t108 7).f1).toList) == ([48, 55] : List UInt8) && (((rd_T30 t108 7).f2) == 7 && (((rd_T30 t108 7).f3) == 17)))) = false := by simpa using c34))
                                            (try (have c34b3 : ¬ (((rd_T30 t108 7).f0) = 3 && ((((rd_T30 t108 7).f1).toList) == ([48, 55] : List UInt8) && (((rd_T30 t108 7).f2) == 7 && (((rd_T30 t108 7).f3) == 17)))) := by simpa using c34))
                                            clear c34
                                            obtain rfl := Option.some.inj H
                                            obtain ⟨Ao48, co48, eo48⟩ := Kd.R_slice HO_1.out
                                            subst eo48
                                            have p133 : 0 ≤ (0 : Int) := (by omega)
                                            have q133 : 0 < (t108.length : Int) := of_decide_eq_true (by first | (with_reducible assumption) | assumption)
                                            obtain ⟨ad133, e133, hx133_0, hx133_1, hx133_2, hx133_3⟩ := at_T30 (Kd.R_reads' HO_1.out).2.2 0 p133 q133
                                            cases e133
                                            have qi133 : (0 < t108.length) = True := eq_true (by omega)
                                            (try rw [show ((0 : Int)).toNat = 0 from rfl] at hx133_0)
                                            (try rw [show 0 * 4 = 0 from rfl] at hx133_0)
                                            (try rw [Addr.add_zero'] at hx133_0)
                                            (try rw [show ((0 : Int)).toNat = 0 from rfl] at hx133_1)
                                            (try rw [show 0 * 4 = 0 from rfl] at hx133_1)
                                            (try rw [Addr.add_zero'] at hx133_1)
                                            (try rw [show ((0 : Int)).toNat = 0 from rfl] at hx133_2)
                                            (try rw [show 0 * 4 = 0 from rfl] at hx133_2)
                                            (try rw [Addr.add_zero'] at hx133_2)
                                            (try rw [show ((0 : Int)).toNat = 0 from rfl] at hx133_3)
                                            (try rw [show 0 * 4 = 0 from rfl] at hx133_3)
                                            (try rw [Addr.add_zero'] at hx133_3)
                                            replace p133 := eq_true p133
                                            replace q133 := eq_true q133
                                            have p134 : 0 ≤ (2 : Int) := (by omega)
                                            have q134 : 2 < (t108.length : Int) := of_decide_eq_true (by first | (with_reducible assumption) | assumption)
                                            obtain ⟨ad134, e134, hx134_0, hx134_1, hx134_2, hx134_3⟩ := at_T30 (Kd.R_reads' HO_1.out).2.2 2 p134 q134
                                            obtain rfl : ad133 = ad134 := (by injection e134)
                                            (try simp only [show (2 : Int).toNat = 2 from rfl, Nat.reduceMul, Nat.reduceEqDiff, Go.Addr.add, ↓reduceIte] at hx134_0)
                                            (try simp only [show (2 : Int).toNat = 2 from rfl, Nat.reduceMul, Nat.reduceEqDiff, Go.Addr.add, ↓reduceIte] at hx134_1)
                                            (try simp only [show (2 : Int).toNat = 2 from rfl, Nat.reduceMul, Nat.reduceEqDiff, Go.Addr.add, ↓reduceIte] at hx134_2)
                                            (try simp only [show (2 : Int).toNat = 2 from rfl, Nat.reduceMul, Nat.reduceEqDiff, Go.Addr.add, ↓reduceIte] at hx134_3)
                                            have qi134 : (2 < t108.length) = True := eq_true (by omega)
                                            (try rw [show ((2 : Int)).toNat = 2 from rfl] at hx134_0)
                                            (try rw [show 2 * 4 = 8 from rfl] at hx134_0)
                                            (try rw [show ((2 : Int)).toNat = 2 from rfl] at hx134_1)
                                            (try rw [show 2 * 4 = 8 from rfl] at hx134_1)
                                            (try rw [show ((2 : Int)).toNat = 2 from rfl] at hx134_2)
                                            (try rw [show 2 * 4 = 8 from rfl] at hx134_2)
                                            (try rw [show ((2 : Int)).toNat = 2 from rfl] at hx134_3)
                                            (try rw [show 2 * 4 = 8 from rfl] at hx134_3)
                                            replace p134 := eq_true p134
                                            replace q134 := eq_true q134
                                            have p135 : 0 ≤ (4 : Int) := (by omega)
                                            have q135 : 4 < (t108.length : Int) := of_decide_eq_true (by first | (with_reducible assumption) | assumption)
                                            obtain ⟨ad135, e135, hx135_0, hx135_1, hx135_2, hx135_3⟩ := at_T30 (Kd.R_reads' HO_1.out).2.2 4 p135 q135
                                            obtain rfl : ad133 = ad135 := (by injection e135)
                                            (try simp only [show (4 : Int).toNat = 4 from rfl, Nat.reduceMul, Nat.reduceEqDiff, Go.Addr.add, ↓reduceIte] at hx135_0)
                                            (try simp only [show (4 : Int).toNat = 4 from rfl, Nat.reduceMul, Nat.reduceEqDiff, Go.Addr.add, ↓reduceIte] at hx135_1)
                                            (try simp only [show (4 : Int).toNat = 4 from rfl, Nat.reduceMul, Nat.reduceEqDiff, Go.Addr.add, ↓reduceIte] at hx135_2)
                                            (try simp only [show (4 : Int).toNat = 4 from rfl, Nat.reduceMul, Nat.reduceEqDiff, Go.Addr.add, ↓reduceIte] at hx135_3)
                                            have qi135 : (4 < t108.length) = True := eq_true (by omega)
                                            (try rw [show ((4 : Int)).toNat = 4 from rfl] at hx135_0)
                                            (try rw [show 4 * 4 = 16 from rfl] at hx135_0)
                                            (try rw [show ((4 : Int)).toNat = 4 from rfl] at hx135_1)
                                            (try rw [show 4 * 4 = 16 from rfl] at hx135_1)
                                            (try rw [show ((4 : Int)).toNat = 4 from rfl] at hx135_2)
                                            (try rw [show 4 * 4 = 16 from rfl] at hx135_2)
                                            (try rw [show ((4 : Int)).toNat = 4 from rfl] at hx135_3)
                                            (try rw [show 4 * 4 = 16 from rfl] at hx135_3)
                                            replace p135 := eq_true p135
                                            replace q135 := eq_true q135
                                            have p136 : 0 ≤ (5 : Int) := (by omega)
                                            have q136 : 5 < (t108.length : Int) := of_decide_eq_true (by first | (with_reducible assumption) | assumption)
                                            obtain ⟨ad136, e136, hx136_0, hx136_1, hx136_2, hx136_3⟩ := at_T30 (Kd.R_reads' HO_1.out).2.2 5 p136 q136
                                            obtain rfl : ad133 = ad136 := (by injection e136)
                                            (try simp only [show (5 : Int).toNat = 5 from rfl, Nat.reduceMul, Nat.reduceEqDiff, Go.Addr.add, ↓reduceIte] at hx136_0)
                                            (try simp only [show (5 : Int).toNat = 5 from rfl, Nat.reduceMul, Nat.reduceEqDiff, Go.Addr.add, ↓reduceIte] at hx136_1)
                                            (try simp only [show (5 : Int).toNat = 5 from rfl, Nat.reduceMul, Nat.reduceEqDiff, Go.Addr.add, ↓reduceIte] at hx136_2)
                                            (try simp only [show (5 : Int).toNat = 5 from rfl, Nat.reduceMul, Nat.reduceEqDiff, Go.Addr.add, ↓reduceIte] at hx136_3)
                                            have qi136 : (5 < t108.length) = True := eq_true (by omega)
                                            (try rw [show ((5 : Int)).toNat = 5 from rfl] at hx136_0)
                                            (try rw [show 5 * 4 = 20 from rfl] at hx136_0)
                                            (try rw [show ((5 : Int)).toNat = 5 from rfl] at hx136_1)
                                            (try rw [show 5 * 4 = 20 from rfl] at hx136_1)
                                            (try rw [show ((5 : Int)).toNat = 5 from rfl] at hx136_2)
                                            (try rw [show 5 * 4 = 20 from rfl] at hx136_2)
                                            (try rw [show ((5 : Int)).toNat = 5 from rfl] at hx136_3)
                                            (try rw [show 5 * 4 = 20 from rfl] at hx136_3)
                                            replace p136 := eq_true p136
                                            replace q136 := eq_true q136
                                            have p137 : 0 ≤ (7 : Int) := (by omega)
                                            have q137 : 7 < (t108.length : Int) := of_decide_eq_true (by first | (with_reducible assumption) | assumption)
                                            obtain ⟨ad137, e137, hx137_0, hx137_1, hx137_2, hx137_3⟩ := at_T30 (Kd.R_reads' HO_1.out).2.2 7 p137 q137
                                            obtain rfl : ad133 = ad137 := (by injection e137)
                                            (try simp only [show (7 : Int).toNat = 7 from rfl, Nat.reduceMul, Nat.reduceEqDiff, Go.Addr.add, ↓reduceIte] at hx137_0)
                                            (try simp only [show (7 : Int).toNat = 7 from rfl, Nat.reduceMul, Nat.reduceEqDiff, Go.Addr.add, ↓reduceIte] at hx137_1)
                                            (try simp only [show (7 : Int).toNat = 7 from rfl, Nat.reduceMul, Nat.reduceEqDiff, Go.Addr.add, ↓reduceIte] at hx137_2)
                                            (try simp only [show (7 : Int).toNat = 7 from rfl, Nat.reduceMul, Nat.reduceEqDiff, Go.Addr.add, ↓reduceIte] at hx137_3)
                                            have qi137 : (7 < t108.length) = True := eq_true (by omega)
                                            (try rw [show ((7 : Int)).toNat = 7 from rfl] at hx137_0)
                                            (try rw [show 7 * 4 = 28 from rfl] at hx137_0)
                                            (try rw [show ((7 : Int)).toNat = 7 from rfl] at hx137_1)
                                            (try rw [show 7 * 4 = 28 from rfl] at hx137_1)
                                            (try rw [show ((7 : Int)).toNat = 7 from rfl] at hx137_2)
                                            (try rw [show 7 * 4 = 28 from rfl] at hx137_2)
                                            (try rw [show ((7 : Int)).toNat = 7 from rfl] at hx137_3)
                                            (try rw [show 7 * 4 = 28 from rfl] at hx137_3)
                                            replace p137 := eq_true p137
                                            replace q137 := eq_true q137
                                            go_wp2
                                            go_ret
                                            exact ⟨by first | rfl | (simp [errW_none, errW_some] <;> rfl) | (simp [*, errW_none, errW_some] <;> rfl), by repeat (first | (with_reducible first | exact HB.out | apply below_alloc | apply pw_below_drewN | apply below_drew1) | exact HB.out)⟩
                                        · rw [if_neg c33] at H
                                          exact absurd H (by simp)
                                      · rw [if_neg c32] at H
                                        have c32b0 : (((rd_T30 t108 5).f0) == 1 && ((((rd_T30 t108 5).f1).toList) == ([105, 116, 32, 105, 115] : List UInt8) && (((rd_T30 t108 5).f2) == 0 && (((rd_T30 t108 5).f3) == 9)))) = false := by simpa using c32
                                        (try (have c32b1 : decide (((rd_T30 t108 5).f0) = 1 && ((((rd_T30 t108 5).f1).toList) == ([105, 116, 32, 105, 115] : List UInt8) && (((rd_T30 t108 5).f2) == 0 && (((rd_T30 t108 5).f3) == 9)))) = false := by simpa using c32))
                                        (try (have c32b2 : (((rd_T30 t108 5).f0) == 1 && ((((rd_T30 t108 5).f1).toList) == ([105, 116, 32, 105, 115] : List UInt8) && (((rd_T30 t108 5).f2) == 0 && (((rd_T30 t108 5).f3) == 9)))) = false := by simpa using c32))
                                        (try (have c32b3 : ¬ (((rd_T30 t108 5).f0) = 1 && ((((rd_T30 t108 5).f1).toList) == ([105, 116, 32, 105, 115] : List UInt8) && (((rd_T30 t108 5).f2) == 0 && (((rd_T30 t108 5).f3) == 9)))) := by simpa using c32))
                                        clear c32
                                        obtain rfl := Option.some.inj H
                                        obtain ⟨Ao49, co49, eo49⟩ := Kd.R_slice HO_1.out
                                        subst eo49
                                        have p133 : 0 ≤ (0 : Int) := (by omega)
                                        have q133 : 0 < (t108.length : Int) := of_decide_eq_true (by first | (with_reducible assumption) | assumption)
                                        obtain ⟨ad133, e133, hx133_0, hx133_1, hx133_2, hx133_3⟩ := at_T30 (Kd.R_reads' HO_1.out).2.2 0 p133 q133
                                        cases e133
                                        have qi133 : (0 < t108.length) = True := eq_true (by omega)
                                        (try rw [show ((0 : Int)).toNat = 0 from rfl] at hx133_0)
                                        (try rw [show 0 * 4 = 0 from rfl] at hx133_0)
                                        (try rw [Addr.add_zero'] at hx133_0)
                                        (try rw [show ((0 : Int)).toNat = 0 from rfl] at hx133_1)
                                        (try rw [show 0 * 4 = 0 from rfl] at hx133_1)
                                        (try rw [Addr.add_zero'] at hx133_1)
                                        (try rw [show ((0 : Int)).toNat = 0 from rfl] at hx133_2)
                                        (try rw [show 0 * 4 = 0 from rfl] at hx133_2)
                                        (try rw [Addr.add_zero'] at hx133_2)
                                        (try rw [show ((0 : Int)).toNat = 0 from rfl] at hx133_3)
                                        (try rw [show 0 * 4 = 0 from rfl] at hx133_3)
                                        (try rw [Addr.add_zero'] at hx133_3)
                                        replace p133 := eq_true p133
                                        replace q133 := eq_true q133
                                        have p134 : 0 ≤ (2 : Int) := (by omega)
                                        have q134 : 2 < (t108.length : Int) := of_decide_eq_true (by first | (with_reducible assumption) | assumption)
                                        obtain ⟨ad134, e134, hx134_0, hx134_1, hx134_2, hx134_3⟩ := at_T30 (Kd.R_reads' HO_1.out).2.2 2 p134 q134
                                        obtain rfl : ad133 = ad134 := (by injection e134)
                                        (try simp only [show (2 : Int).toNat = 2 from rfl, Nat.reduceMul, Nat.reduceEqDiff, Go.Addr.add, ↓reduceIte] at hx134_0)
                                        (try simp only [show (2 : Int).toNat = 2 from rfl, Nat.reduceMul, Nat.reduceEqDiff, Go.Addr.add, ↓reduceIte] at hx134_1)
                                        (try simp only [show (2 : Int).toNat = 2 from rfl, Nat.reduceMul, Nat.reduceEqDiff, Go.Addr.add, ↓reduceIte] at hx134_2)
                                        (try simp only [show (2 : Int).toNat = 2 from rfl, Nat.reduceMul, Nat.reduceEqDiff, Go.Addr.add, ↓reduceIte] at hx134_3)
                                        have qi134 : (2 < t108.length) = True := eq_true (by omega)
                                        (try rw [show ((2 : Int)).toNat = 2 from rfl] at hx134_0)
                                        (try rw [show 2 * 4 = 8 from rfl] at hx134_0)
                                        (try rw [show ((2 : Int)).toNat = 2 from rfl] at hx134_1)
                                        (try rw [show 2 * 4 = 8 from rfl] at hx134_1)
                                        (try rw [show ((2 : Int)).toNat = 2 from rfl] at hx134_2)
                                        (try rw [show 2 * 4 = 8 from rfl] at hx134_2)
                                        (try rw [show ((2 : Int)).toNat = 2 from rfl] at hx134_3)
                                        (try rw [show 2 * 4 = 8 from rfl] at hx134_3)
                                        replace p134 := eq_true p134
                                        replace q134 := eq_true q134
                                        have p135 : 0 ≤ (4 : Int) := (by omega)
                                        have q135 : 4 < (t108.length : Int) := of_decide_eq_true (by first | (with_reducible assumption) | assumption)
                                        obtain ⟨ad135, e135, hx135_0, hx135_1, hx135_2, hx135_3⟩ := at_T30 (Kd.R_reads' HO_1.out).2.2 4 p135 q135
                                        obtain rfl : ad133 = ad135 := (by injection e135)
                                        (try simp only [show (4 : Int).toNat = 4 from rfl, Nat.reduceMul, Nat.reduceEqDiff, Go.Addr.add, ↓reduceIte] at hx135_0)
                                        (try simp only [show (4 : Int).toNat = 4 from rfl, Nat.reduceMul, Nat.reduceEqDiff, Go.Addr.add, ↓reduceIte] at hx135_1)
                                        (try simp only [show (4 : Int).toNat = 4 from rfl, Nat.reduceMul, Nat.reduceEqDiff, Go.Addr.add, ↓reduceIte] at hx135_2)
                                        (try simp only [show (4 : Int).toNat = 4 from rfl, Nat.reduceMul, Nat.reduceEqDiff, Go.Addr.add, ↓reduceIte] at hx135_3)
                                        have qi135 : (4 < t108.length) = True := eq_true (by omega)
                                        (try rw [show ((4 : Int)).toNat = 4 from rfl] at hx135_0)
                                        (try rw [show 4 * 4 = 16 from rfl] at hx135_0)
                                        (try rw [show ((4 : Int)).toNat = 4 from rfl] at hx135_1)
                                        (try rw [show 4 * 4 = 16 from rfl] at hx135_1)
                                        (try rw [show ((4 : Int)).toNat = 4 from rfl] at hx135_2)
                                        (try rw [show 4 * 4 = 16 from rfl] at hx135_2)
                                        (try rw [show ((4 : Int)).toNat = 4 from rfl] at hx135_3)
                                        (try rw [show 4 * 4 = 16 from rfl] at hx135_3)
                                        replace p135 := eq_true p135
                                        replace q135 := eq_true q135
                                        have p136 : 0 ≤ (5 : Int) := (by omega)
                                        have q136 : 5 < (t108.length : Int) := of_decide_eq_true (by first | (with_reducible assumption) | assumption)
                                        obtain ⟨ad136, e136, hx136_0, hx136_1, hx136_2, hx136_3⟩ := at_T30 (Kd.R_reads' HO_1.out).2.2 5 p136 q136
                                        obtain rfl : ad133 = ad136 := (by injection e136)
                                        (try simp only [show (5 : Int).toNat = 5 from rfl, Nat.reduceMul, Nat.reduceEqDiff, Go.Addr.add, ↓reduceIte] at hx136_0)
                                        (try simp only [show (5 : Int).toNat = 5 from rfl, Nat.reduceMul, Nat.reduceEqDiff, Go.Addr.add, ↓reduceIte] at hx136_1)
                                        (try simp only [show (5 : Int).toNat = 5 from rfl, Nat.reduceMul, Nat.reduceEqDiff, Go.Addr.add, ↓reduceIte] at hx136_2)
                                        (try simp only [show (5 : Int).toNat = 5 from rfl, Nat.reduceMul, Nat.reduceEqDiff, Go.Addr.add, ↓reduceIte] at hx136_3)
                                        have qi136 : (5 < t108.length) = True := eq_true (by omega)
                                        (try rw [show ((5 : Int)).toNat = 5 from rfl] at hx136_0)
                                        (try rw [show 5 * 4 = 20 from rfl] at hx136_0)
                                        (try rw [show ((5 : Int)).toNat = 5 from rfl] at hx136_1)
                                        (try rw [show 5 * 4 = 20 from rfl] at hx136_1)
                                        (try rw [show ((5 : Int)).toNat = 5 from rfl] at hx136_2)
                                        (try rw [show 5 * 4 = 20 from rfl] at hx136_2)
                                        (try rw [show ((5 : Int)).toNat = 5 from rfl] at hx136_3)
                                        (try rw [show 5 * 4 = 20 from rfl] at hx136_3)
                                        replace p136 := eq_true p136
                                        replace q136 := eq_true q136
                                        go_wp2
                                        go_ret
                                        exact ⟨by first | rfl | (simp [errW_none, errW_some] <;> rfl) | (simp [*, errW_none, errW_some] <;> rfl), by repeat (first | (with_reducible first | exact HB.out | apply below_alloc | apply pw_below_drewN | apply below_drew1) | exact HB.out)⟩
                                    · rw [if_neg c31] at H
                                      exact absurd H (by simp)
                                  · rw [if_neg c30] at H
                                    have c30b0 : (((rd_T30 t108 4).f0) == 4 && ((((rd_T30 t108 4).f1).toList) == ([58, 45] : List UInt8) && (((rd_T30 t108 4).f2) == 0 && (((rd_T30 t108 4).f3) == 6)))) = false := by simpa using c30
                                    (try (have c30b1 : decide (((rd_T30 t108 4).f0) = 4 && ((((rd_T30 t108 4).f1).toList) == ([58, 45] : List UInt8) && (((rd_T30 t108 4).f2) == 0 && (((rd_T30 t108 4).f3) == 6)))) = false := by simpa using c30))
                                    (try (have c30b2 : (((rd_T30 t108 4).f0) == 4 && ((((rd_T30 t108 4).f1).toList) == ([58, 45] : List UInt8) && (((rd_T30 t108 4).f2) == 0 && (((rd_T30 t108 4).f3) == 6)))) = false := by simpa using c30))
                                    (try (have c30b3 : ¬ (((rd_T30 t108 4).f0) = 4 && ((((rd_T30 t108 4).f1).toList) == ([58, 45] : List UInt8) && (((rd_T30 t108 4).f2) == 0 && (((rd_T30 t108 4).f3) == 6)))) := by simpa using c30))
                                    clear c30
                                    obtain rfl := Option.some.inj H
                                    obtain ⟨Ao50, co50, eo50⟩ := Kd.R_slice HO_1.out
                                    subst eo50
                                    have p133 : 0 ≤ (0 : Int) := (by omega)
                                    have q133 : 0 < (t108.length : Int) := of_decide_eq_true (by first | (with_reducible assumption) | assumption)
                                    obtain ⟨ad133, e133, hx133_0, hx133_1, hx133_2, hx133_3⟩ := at_T30 (Kd.R_reads' HO_1.out).2.2 0 p133 q133
                                    cases e133
                                    have qi133 : (0 < t108.length) = True := eq_true (by omega)
                                    (try rw [show ((0 : Int)).toNat = 0 from rfl] at hx133_0)
                                    (try rw [show 0 * 4 = 0 from rfl] at hx133_0)
                                    (try rw [Addr.add_zero'] at hx133_0)
                                    (try rw [show ((0 : Int)).toNat = 0 from rfl] at hx133_1)
                                    (try rw [show 0 * 4 = 0 from rfl] at hx133_1)
                                    (try rw [Addr.add_zero'] at hx133_1)
                                    (try rw [show ((0 : Int)).toNat = 0 from rfl] at hx133_2)
                                    (try rw [show 0 * 4 = 0 from rfl] at hx133_2)
                                    (try rw [Addr.add_zero'] at hx133_2)
                                    (try rw [show ((0 : Int)).toNat = 0 from rfl] at hx133_3)
                                    (try rw [show 0 * 4 = 0 from rfl] at hx133_3)
                                    (try rw [Addr.add_zero'] at hx133_3)
                                    replace p133 := eq_true p133
                                    replace q133 := eq_true q133
                                    have p134 : 0 ≤ (2 : Int) := (by omega)
                                    have q134 : 2 < (t108.length : Int) := of_decide_eq_true (by first | (with_reducible assumption) | assumption)
                                    obtain ⟨ad134, e134, hx134_0, hx134_1, hx134_2, hx134_3⟩ := at_T30 (Kd.R_reads' HO_1.out).2.2 2 p134 q134
                                    obtain rfl : ad133 = ad134 := (by injection e134)
                                    (try simp only [show (2 : Int).toNat = 2 from rfl, Nat.reduceMul, Nat.reduceEqDiff, Go.Addr.add, ↓reduceIte] at hx134_0)
                                    (try simp only [show (2 : Int).toNat = 2 from rfl, Nat.reduceMul, Nat.reduceEqDiff, Go.Addr.add, ↓reduceIte] at hx134_1)
                                    (try simp only [show (2 : Int).toNat = 2 from rfl, Nat.reduceMul, Nat.reduceEqDiff, Go.Addr.add, ↓reduceIte] at hx134_2)
                                    (try simp only [show (2 : Int).toNat = 2 from rfl, Nat.reduceMul, Nat.reduceEqDiff, Go.Addr.add, ↓reduceIte] at hx134_3)
                                    have qi134 : (2 < t108.length) = True := eq_true (by omega)
                                    (try rw [show ((2 : Int)).toNat = 2 from rfl] at hx134_0)
                                    (try rw [show 2 * 4 = 8 from rfl] at hx134_0)
                                    (try rw [show ((2 : Int)).toNat = 2 from rfl] at hx134_1)
                                    (try rw [show 2 * 4 = 8 from rfl] at hx134_1)
                                    (try rw [show ((2 : Int)).toNat = 2 from rfl] at hx134_2)
                                    (try rw [show 2 * 4 = 8 from rfl] at hx134_2)
                                    (try rw [show ((2 : Int)).toNat = 2 from rfl] at hx134_3)
                                    (try rw [show 2 * 4 = 8 from rfl] at hx134_3)
                                    replace p134 := eq_true p134
                                    replace q134 := eq_true q134
                                    have p135 : 0 ≤ (4 : Int) := (by omega)
                                    have q135 : 4 < (t108.length : Int) := of_decide_eq_true (by first | (with_reducible assumption) | assumption)
                                    obtain ⟨ad135, e135, hx135_0, hx135_1, hx135_2, hx135_3⟩ := at_T30 (Kd.R_reads' HO_1.out).2.2 4 p135 q135
                                    obtain rfl : ad133 = ad135 := (by injection e135)
                                    (try simp only [show (4 : Int).toNat = 4 from rfl, Nat.reduceMul, Nat.reduceEqDiff, Go.Addr.add, ↓reduceIte] at hx135_0)
                                    (try simp only [show (4 : Int).toNat = 4 from rfl, Nat.reduceMul, Nat.reduceEqDiff, Go.Addr.add, ↓reduceIte] at hx135_1)
                                    (try simp only [show (4 : Int).toNat = 4 from rfl, Nat.reduceMul, Nat.reduceEqDiff, Go.Addr.add, ↓reduceIte] at hx135_2)
                                    (try simp only [show (4 : Int).toNat = 4 from rfl, Nat.reduceMul, Nat.reduceEqDiff, Go.Addr.add, ↓reduceIte] at hx135_3)
                                    have qi135 : (4 < t108.length) = True := eq_true (by omega)
                                    (try rw [show ((4 : Int)).toNat = 4 from rfl] at hx135_0)
                                    (try rw [show 4 * 4 = 16 from rfl] at hx135_0)
                                    (try rw [show ((4 : Int)).toNat = 4 from rfl] at hx135_1)
                                    (try rw [show 4 * 4 = 16 from rfl] at hx135_1)
                                    (try rw [show ((4 : Int)).toNat = 4 from rfl] at hx135_2)
                                    (try rw [show 4 * 4 = 16 from rfl] at hx135_2)
                                    (try rw [show ((4 : Int)).toNat = 4 from rfl] at hx135_3)
                                    (try rw [show 4 * 4 = 16 from rfl] at hx135_3)
                                    replace p135 := eq_true p135
                                    replace q135 := eq_true q135
                                    go_wp2
                                    go_ret
                                    exact ⟨by first | rfl | (simp [errW_none, errW_some] <;> rfl) | (simp [*, errW_none, errW_some] <;> rfl), by repeat (first | (with_reducible first | exact HB.out | apply below_alloc | apply pw_below_drewN | apply below_drew1) | exact HB.out)⟩
                                · rw [if_neg c29] at H
                                  exact absurd H (by simp)
                              · rw [if_neg c28] at H
                                have c28b0 : (((rd_T30 t108 2).f0) == 2 && ((((rd_T30 t108 2).f1).toList) == ([88, 49] : List UInt8) && (((rd_T30 t108 2).f2) == 0 && (((rd_T30 t108 2).f3) == 2)))) = false := by simpa using c28
                                (try (have c28b1 : decide (((rd_T30 t108 2).f0) = 2 && ((((rd_T30 t108 2).f1).toList) == ([88, 49] : List UInt8) && (((rd_T30 t108 2).f2) == 0 && (((rd_T30 t108 2).f3) == 2)))) = false := by simpa using c28))
                                (try (have c28b2 : (((rd_T30 t108 2).f0) == 2 && ((((rd_T30 t108 2).f1).toList) == ([88, 49] : List UInt8) && (((rd_T30 t108 2).f2) == 0 && (((rd_T30 t108 2).f3) == 2)))) = false := by simpa using c28))
                                (try (have c28b3 : ¬ (((rd_T30 t108 2).f0) = 2 && ((((rd_T30 t108 2).f1).toList) == ([88, 49] : List UInt8) && (((rd_T30 t108 2).f2) == 0 && (((rd_T30 t108 2).f3) == 2)))) := by simpa using c28))
                                clear c28
                                obtain rfl := Option.some.inj H
                                obtain ⟨Ao51, co51, eo51⟩ := Kd.R_slice HO_1.out
                                subst eo51
                                have p133 : 0 ≤ (0 : Int) := (by omega)
                                have q133 : 0 < (t108.length : Int) := of_decide_eq_true (by first | (with_reducible assumption) | assumption)
                                obtain ⟨ad133, e133, hx133_0, hx133_1, hx133_2, hx133_3⟩ := at_T30 (Kd.R_reads' HO_1.out).2.2 0 p133 q133
                                cases e133
                                have qi133 : (0 < t108.length) = True := eq_true (by omega)
                                (try rw [show ((0 : Int)).toNat = 0 from rfl] at hx133_0)
                                (try rw [show 0 * 4 = 0 from rfl] at hx133_0)
                                (try rw [Addr.add_zero'] at hx133_0)
                                (try rw [show ((0 : Int)).toNat = 0 from rfl] at hx133_1)
                                (try rw [show 0 * 4 = 0 from rfl] at hx133_1)
                                (try rw [Addr.add_zero'] at hx133_1)
                                (try rw [show ((0 : Int)).toNat = 0 from rfl] at hx133_2)
                                (try rw [show 0 * 4 = 0 from rfl] at hx133_2)
                                (try rw [Addr.add_zero'] at hx133_2)
                                (try rw [show ((0 : Int)).toNat = 0 from rfl] at hx133_3)
                                (try rw [show 0 * 4 = 0 from rfl] at hx133_3)
                                (try rw [Addr.add_zero'] at hx133_3)
                                replace p133 := eq_true p133
                                replace q133 := eq_true q133
                                have p134 : 0 ≤ (2 : Int) := (by omega)
                                have q134 : 2 < (t108.length : Int) := of_decide_eq_true (by first | (with_reducible assumption) | assumption)
                                obtain ⟨ad134, e134, hx134_0, hx134_1, hx134_2, hx134_3⟩ := at_T30 (Kd.R_reads' HO_1.out).2.2 2 p134 q134
                                obtain rfl : ad133 = ad134 := (by injection e134)
                                (try simp only [show (2 : Int).toNat = 2 from rfl, Nat.reduceMul, Nat.reduceEqDiff, Go.Addr.add, ↓reduceIte] at hx134_0)
                                (try simp only [show (2 : Int).toNat = 2 from rfl, Nat.reduceMul, Nat.reduceEqDiff, Go.Addr.add, ↓reduceIte] at hx134_1)
                                (try simp only [show (2 : Int).toNat = 2 from rfl, Nat.reduceMul, Nat.reduceEqDiff, Go.Addr.add, ↓reduceIte] at hx134_2)
                                (try simp only [show (2 : Int).toNat = 2 from rfl, Nat.reduceMul, Nat.reduceEqDiff, Go.Addr.add, ↓reduceIte] at hx134_3)
                                have qi134 : (2 < t108.length) = True := eq_true (by omega)
                                (try rw [show ((2 : Int)).toNat = 2 from rfl] at hx134_0)
                                (try rw [show 2 * 4 = 8 from rfl] at hx134_0)
                                (try rw [show ((2 : Int)).toNat = 2 from rfl] at hx134_1)
                                (try rw [show 2 * 4 = 8 from rfl] at hx134_1)
                                (try rw [show ((2 : Int)).toNat = 2 from rfl] at hx134_2)
                                (try rw [show 2 * 4 = 8 from rfl] at hx134_2)
                                (try rw [show ((2 : Int)).toNat = 2 from rfl] at hx134_3)
                                (try rw [show 2 * 4 = 8 from rfl] at hx134_3)
                                replace p134 := eq_true p134
                                replace q134 := eq_true q134
                                go_wp2
                                go_ret
                                exact ⟨by first | rfl | (simp [errW_none, errW_some] <;> rfl) | (simp [*, errW_none, errW_some] <;> rfl), by repeat (first | (with_reducible first | exact HB.out | apply below_alloc | apply pw_below_drewN | apply below_drew1) | exact HB.out)⟩
                            · rw [if_neg c27] at H
                              exact absurd H (by simp)
                          · rw [if_neg c26] at H
                            have c26b0 : (((rd_T30 t108 0).f0) == 1 && ((((rd_T30 t108 0).f1).toList) == ([112] : List UInt8) && (((rd_T30 t108 0).f2) == 0 && (((rd_T30 t108 0).f3) == 0)))) = false := by simpa using c26
                            (try (have c26b1 : decide (((rd_T30 t108 0).f0) = 1 && ((((rd_T30 t108 0).f1).toList) == ([112] : List UInt8) && (((rd_T30 t108 0).f2) == 0 && (((rd_T30 t108 0).f3) == 0)))) = false := by simpa using c26))
                            (try (have c26b2 : (((rd_T30 t108 0).f0) == 1 && ((((rd_T30 t108 0).f1).toList) == ([112] : List UInt8) && (((rd_T30 t108 0).f2) == 0 && (((rd_T30 t108 0).f3) == 0)))) = false := by simpa using c26))
                            (try (have c26b3 : ¬ (((rd_T30 t108 0).f0) = 1 && ((((rd_T30 t108 0).f1).toList) == ([112] : List UInt8) && (((rd_T30 t108 0).f2) == 0 && (((rd_T30 t108 0).f3) == 0)))) := by simpa using c26))
                            clear c26
                            obtain rfl := Option.some.inj H
                            obtain ⟨Ao52, co52, eo52⟩ := Kd.R_slice HO_1.out
                            subst eo52
                            have p133 : 0 ≤ (0 : Int) := (by omega)
                            have q133 : 0 < (t108.length : Int) := of_decide_eq_true (by first | (with_reducible assumption) | assumption)
                            obtain ⟨ad133, e133, hx133_0, hx133_1, hx133_2, hx133_3⟩ := at_T30 (Kd.R_reads' HO_1.out).2.2 0 p133 q133
                            cases e133
                            have qi133 : (0 < t108.length) = True := eq_true (by omega)
                            (try rw [show ((0 : Int)).toNat = 0 from rfl] at hx133_0)
                            (try rw [show 0 * 4 = 0 from rfl] at hx133_0)
                            (try rw [Addr.add_zero'] at hx133_0)
                            (try rw [show ((0 : Int)).toNat = 0 from rfl] at hx133_1)
                            (try rw [show 0 * 4 = 0 from rfl] at hx133_1)
                            (try rw [Addr.add_zero'] at hx133_1)
                            (try rw [show ((0 : Int)).toNat = 0 from rfl] at hx133_2)
                            (try rw [show 0 * 4 = 0 from rfl] at hx133_2)
                            (try rw [Addr.add_zero'] at hx133_2)
                            (try rw [show ((0 : Int)).toNat = 0 from rfl] at hx133_3)
                            (try rw [show 0 * 4 = 0 from rfl] at hx133_3)
                            (try rw [Addr.add_zero'] at hx133_3)
                            replace p133 := eq_true p133
                            replace q133 := eq_true q133
                            go_wp2
                            go_ret
                            exact ⟨by first | rfl | (simp [errW_none, errW_some] <;> rfl) | (simp [*, errW_none, errW_some] <;> rfl), by repeat (first | (with_reducible first | exact HB.out | apply below_alloc | apply pw_below_drewN | apply below_drew1) | exact HB.out)⟩
                        · rw [if_neg c25] at H
                          exact absurd H (by simp)
                      · rw [if_neg c24] at H
                        have c24b0 : (t125 == 2) = false := beq_eq_false_iff_ne.mpr c24
                        have c24b1 : (t125 != 2) = true := bne_iff_ne.mpr c24
                        obtain rfl := Option.some.inj H
                        go_wp2
                        go_ret
                        exact ⟨by first | rfl | (simp [errW_none, errW_some] <;> rfl) | (simp [*, errW_none, errW_some] <;> rfl), by repeat (first | (with_reducible first | exact HB.out | apply below_alloc | apply pw_below_drewN | apply below_drew1) | exact HB.out)⟩
                    · rw [if_neg c23] at H
                      have c23b0 : (t124 == 0) = false := beq_eq_false_iff_ne.mpr c23
                      have c23b1 : (t124 != 0) = true := bne_iff_ne.mpr c23
                      obtain rfl := Option.some.inj H
                      go_wp2
                      go_ret
                      exact ⟨by first | rfl | (simp [errW_none, errW_some] <;> rfl) | (simp [*, errW_none, errW_some] <;> rfl), by repeat (first | (with_reducible first | exact HB.out | apply below_alloc | apply pw_below_drewN | apply below_drew1) | exact HB.out)⟩
                  · rw [if_neg c22] at H
                    have c22b0 : (t120 == 41) = false := beq_eq_false_iff_ne.mpr c22
                    have c22b1 : (t120 != 41) = true := bne_iff_ne.mpr c22
                    obtain rfl := Option.some.inj H
                    go_wp2
                    go_ret
                    exact ⟨by first | rfl | (simp [errW_none, errW_some] <;> rfl) | (simp [*, errW_none, errW_some] <;> rfl), by repeat (first | (with_reducible first | exact HB.out | apply below_alloc | apply pw_below_drewN | apply below_drew1) | exact HB.out)⟩
                · rw [if_neg c21] at H
                  have c21b0 : (t119 == 1) = false := beq_eq_false_iff_ne.mpr c21
                  have c21b1 : (t119 != 1) = true := bne_iff_ne.mpr c21
                  obtain rfl := Option.some.inj H
                  go_wp2
                  go_ret
                  exact ⟨by first | rfl | (simp [errW_none, errW_some] <;> rfl) | (simp [*, errW_none, errW_some] <;> rfl), by repeat (first | (with_reducible first | exact HB.out | apply below_alloc | apply pw_below_drewN | apply below_drew1) | exact HB.out)⟩
              · rw [if_neg c20] at H
                have c20b0 : (t115 == 40) = false := beq_eq_false_iff_ne.mpr c20
                have c20b1 : (t115 != 40) = true := bne_iff_ne.mpr c20
                obtain rfl := Option.some.inj H
                go_wp2
                go_ret
                exact ⟨by first | rfl | (simp [errW_none, errW_some] <;> rfl) | (simp [*, errW_none, errW_some] <;> rfl), by repeat (first | (with_reducible first | exact HB.out | apply below_alloc | apply pw_below_drewN | apply below_drew1) | exact HB.out)⟩
            · rw [if_neg c19] at H
              have c19b0 : (t114 == 3) = false := beq_eq_false_iff_ne.mpr c19
              have c19b1 : (t114 != 3) = true := bne_iff_ne.mpr c19
              obtain rfl := Option.some.inj H
              go_wp2
              go_ret
              exact ⟨by first | rfl | (simp [errW_none, errW_some] <;> rfl) | (simp [*, errW_none, errW_some] <;> rfl), by repeat (first | (with_reducible first | exact HB.out | apply below_alloc | apply pw_below_drewN | apply below_drew1) | exact HB.out)⟩
          · rw [if_neg c18] at H
            have c18b0 : (t110 == 0) = false := beq_eq_false_iff_ne.mpr c18
            have c18b1 : (t110 != 0) = true := bne_iff_ne.mpr c18
            obtain rfl := Option.some.inj H
            go_wp2
            go_ret
            exact ⟨by first | rfl | (simp [errW_none, errW_some] <;> rfl) | (simp [*, errW_none, errW_some] <;> rfl), by repeat (first | (with_reducible first | exact HB.out | apply below_alloc | apply pw_below_drewN | apply below_drew1) | exact HB.out)⟩
        · rw [if_neg c17] at H
          have c17b0 : (t109 == 0) = false := beq_eq_false_iff_ne.mpr c17
          have c17b1 : (t109 != 0) = true := bne_iff_ne.mpr c17
          obtain rfl := Option.some.inj H
          go_wp2
          go_ret
          exact ⟨by first | rfl | (simp [errW_none, errW_some] <;> rfl) | (simp [*, errW_none, errW_some] <;> rfl), by repeat (first | (with_reducible first | exact HB.out | apply below_alloc | apply pw_below_drewN | apply below_drew1) | exact HB.out)⟩

end Go.Proofs.YtpdlfokfjkmplaaDoor.P
