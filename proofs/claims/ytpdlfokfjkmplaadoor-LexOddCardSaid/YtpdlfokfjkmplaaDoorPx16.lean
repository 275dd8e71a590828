-- Written by a program of this session (wip/gen) out of the translation. Lean checks it.
import Derived.Test.YtpdlfokfjkmplaaDoorPx0
import Derived.Test.YtpdlfokfjkmplaaDoorPx5
import Derived.Test.YtpdlfokfjkmplaaDoorPx6
import Derived.Test.YtpdlfokfjkmplaaDoorLex
import Derived.Test.YtpdlfokfjkmplaaDoorGlob
namespace Go.Proofs.YtpdlfokfjkmplaaDoor.P
open Go.RowKit Go.Proofs.YtpdlfokfjkmplaaDoorW.PrintWords Go.Proofs.YtpdlfokfjkmplaaDoorW.PrintLast Go.Proofs.YtpdlfokfjkmplaaDoorW.PrintMore
attribute [local go_sem] max2_int min2_int max_two min_two max_three min_three max_four min_four   -- for this text's walks alone
set_option linter.unusedVariables false
set_option linter.unusedSimpArgs false

/-! ### sorrellaw04_LexOdd: function 9 -/
mutual
def sorrellaw04_LexOdd.j0 : Nat → Int → Bool → List (S30) → Int → List (S30) → Int → Int → Bool → Option (Bool)
  | 0, _, _, _, _, _, _, _, _ => none
  | k + 1, x1, x5, x6, x9, x19, x20, x21, x99 => if x99 = true then (some false) else ((sorrelref04_Blank.f x1).bind fun t369 => (if t369 = true then (sorrellaw04_LexOdd.j1 k x1 x5 x6 x9 x19 x20 x21 true) else (sorrellaw04_LexOdd.j1 k x1 x5 x6 x9 x19 x20 x21 (x1 == 37))))
def sorrellaw04_LexOdd.j1 : Nat → Int → Bool → List (S30) → Int → List (S30) → Int → Int → Bool → Option (Bool)
  | 0, _, _, _, _, _, _, _, _ => none
  | k + 1, x1, x5, x6, x9, x19, x20, x21, x105 => if x105 = true then (if x5 = true then (if x21 = 0 then (some ((x19.length : Int) == (x6.length : Int))) else (some false)) else (some false)) else ((sorrelref04_Letter.f x1).bind fun t370 => (if t370 = true then (sorrellaw04_LexOdd.j2 k x1 x5 x6 x9 x19 x20 x21 true) else ((sorrelref04_Sign.f k x1).bind fun t371 => (if t371 = true then (sorrellaw04_LexOdd.j2 k x1 x5 x6 x9 x19 x20 x21 true) else (if x1 = 40 then (sorrellaw04_LexOdd.j2 k x1 x5 x6 x9 x19 x20 x21 true) else (if x1 = 41 then (sorrellaw04_LexOdd.j2 k x1 x5 x6 x9 x19 x20 x21 true) else (if x1 = 91 then (sorrellaw04_LexOdd.j2 k x1 x5 x6 x9 x19 x20 x21 true) else (if x1 = 93 then (sorrellaw04_LexOdd.j2 k x1 x5 x6 x9 x19 x20 x21 true) else (if x1 = 44 then (sorrellaw04_LexOdd.j2 k x1 x5 x6 x9 x19 x20 x21 true) else (sorrellaw04_LexOdd.j2 k x1 x5 x6 x9 x19 x20 x21 (x1 == 124)))))))))))
def sorrellaw04_LexOdd.j2 : Nat → Int → Bool → List (S30) → Int → List (S30) → Int → Int → Bool → Option (Bool)
  | 0, _, _, _, _, _, _, _, _ => none
  | k + 1, x1, x5, x6, x9, x19, x20, x21, x147 => if x147 = true then (if x5 = true then (if x21 = 0 then (some ((x19.length : Int) == (wrap64 ((x6.length : Int) + 1)))) else (some false)) else (some false)) else (if x1 = 39 then (if x5 = true then (if x21 = 41 then (some (x20 == x9)) else (some false)) else (some false)) else (if x5 = true then (if x21 = 40 then (some (x20 == x9)) else (some false)) else (some false)))
end
def sorrellaw04_LexOdd.f (k : Nat) (a0 : ByteArray) (a1 : Int) : Option (Bool) := (sorrellaw04_head.f k).bind fun t337 => (if (a0.size : Int) > 3000 then (some t337) else ((lex_Lex.f a0).bind fun bt338 => (if bt338.2.2 = 0 then (if a0.size + 3 ≤ 9223372036854775807 then ((lex_Lex.f (a0 ++ (⟨#[10, 39, 39]⟩ : ByteArray))).bind fun bt343 => (if a0.size + 14 ≤ 9223372036854775807 then ((lex_Lex.f (a0 ++ (⟨#[10, 97, 98, 99, 100, 101, 102, 103, 104, 105, 106, 107, 108, 109]⟩ : ByteArray))).bind fun bt348 => (if a0.size + 2 ≤ 9223372036854775807 then ((some (([a1] : List Int) : List Int)).bind fun y353 => (if (a0 ++ (⟨#[10, 39]⟩ : ByteArray)).size + (strOfNums y353).size ≤ 9223372036854775807 then ((lex_Lex.f ((a0 ++ (⟨#[10, 39]⟩ : ByteArray)) ++ (strOfNums y353))).bind fun bt356 => (if a0.size + 1 ≤ 9223372036854775807 then ((some (([a1] : List Int) : List Int)).bind fun y361 => (if (a0 ++ (⟨#[10]⟩ : ByteArray)).size + (strOfNums y361).size ≤ 9223372036854775807 then ((lex_Lex.f ((a0 ++ (⟨#[10]⟩ : ByteArray)) ++ (strOfNums y361))).bind fun bt364 => (if bt343.2.1 = (wrap64 ((a0.size : Int) + 1)) then (if bt343.2.2 = 41 then (if bt348.2.1 = (wrap64 ((a0.size : Int) + 1)) then (if bt348.2.2 = 2 then (if bt356.2.1 = (wrap64 ((a0.size : Int) + 1)) then (sorrellaw04_LexOdd.j0 k a1 t337 bt338.1 (wrap64 ((a0.size : Int) + 1)) bt364.1 bt364.2.1 bt364.2.2 (bt356.2.2 != 41)) else (sorrellaw04_LexOdd.j0 k a1 t337 bt338.1 (wrap64 ((a0.size : Int) + 1)) bt364.1 bt364.2.1 bt364.2.2 true)) else (sorrellaw04_LexOdd.j0 k a1 t337 bt338.1 (wrap64 ((a0.size : Int) + 1)) bt364.1 bt364.2.1 bt364.2.2 true)) else (sorrellaw04_LexOdd.j0 k a1 t337 bt338.1 (wrap64 ((a0.size : Int) + 1)) bt364.1 bt364.2.1 bt364.2.2 true)) else (sorrellaw04_LexOdd.j0 k a1 t337 bt338.1 (wrap64 ((a0.size : Int) + 1)) bt364.1 bt364.2.1 bt364.2.2 true)) else (sorrellaw04_LexOdd.j0 k a1 t337 bt338.1 (wrap64 ((a0.size : Int) + 1)) bt364.1 bt364.2.1 bt364.2.2 true))) else (none))) else (none))) else (none))) else (none))) else (none))) else (none)) else (some t337))))
theorem sorrellaw04_LexOdd.mono_l : ∀ k, (∀ y0 y1 y2 y3 y4 y5 y6 y7, LeO (sorrellaw04_LexOdd.j0 k y0 y1 y2 y3 y4 y5 y6 y7) (sorrellaw04_LexOdd.j0 (k + 1) y0 y1 y2 y3 y4 y5 y6 y7)) ∧ (∀ y0 y1 y2 y3 y4 y5 y6 y7, LeO (sorrellaw04_LexOdd.j1 k y0 y1 y2 y3 y4 y5 y6 y7) (sorrellaw04_LexOdd.j1 (k + 1) y0 y1 y2 y3 y4 y5 y6 y7)) ∧ (∀ y0 y1 y2 y3 y4 y5 y6 y7, LeO (sorrellaw04_LexOdd.j2 k y0 y1 y2 y3 y4 y5 y6 y7) (sorrellaw04_LexOdd.j2 (k + 1) y0 y1 y2 y3 y4 y5 y6 y7))
  | 0 => ⟨fun _ _ _ _ _ _ _ _ r h => by simp [sorrellaw04_LexOdd.j0] at h, fun _ _ _ _ _ _ _ _ r h => by simp [sorrellaw04_LexOdd.j1] at h, fun _ _ _ _ _ _ _ _ r h => by simp [sorrellaw04_LexOdd.j2] at h⟩
  | k + 1 => by
    obtain ⟨ih0, ih1, ih2⟩ := sorrellaw04_LexOdd.mono_l k
    refine ⟨?_, ?_, ?_⟩
    · intro y0 y1 y2 y3 y4 y5 y6 y7
      unfold sorrellaw04_LexOdd.j0
      repeat' first
      | (with_reducible exact ih0 _ _ _ _ _ _ _ _)
      | (with_reducible exact ih1 _ _ _ _ _ _ _ _)
      | (with_reducible exact ih2 _ _ _ _ _ _ _ _)
      | (with_reducible exact sorrellaw04_head.mono _)
      | (with_reducible exact sorrelref04_Sign.mono _ _)
      | (with_reducible exact LeO.refl _)
      | (with_reducible exact LeO.none _)
      | (with_reducible refine LeO.ite ?_ ?_)
      | (with_reducible refine LeO.bind ?_ (fun _ => ?_))
      | exact ih0 _ _ _ _ _ _ _ _
      | exact ih1 _ _ _ _ _ _ _ _
      | exact ih2 _ _ _ _ _ _ _ _
      | exact sorrellaw04_head.mono _
      | exact sorrelref04_Sign.mono _ _
      | exact LeO.none _
      | refine LeO.ite ?_ ?_
      | refine LeO.bind ?_ (fun _ => ?_)
    · intro y0 y1 y2 y3 y4 y5 y6 y7
      unfold sorrellaw04_LexOdd.j1
      repeat' first
      | (with_reducible exact ih0 _ _ _ _ _ _ _ _)
      | (with_reducible exact ih1 _ _ _ _ _ _ _ _)
      | (with_reducible exact ih2 _ _ _ _ _ _ _ _)
      | (with_reducible exact sorrellaw04_head.mono _)
      | (with_reducible exact sorrelref04_Sign.mono _ _)
      | (with_reducible exact LeO.refl _)
      | (with_reducible exact LeO.none _)
      | (with_reducible refine LeO.ite ?_ ?_)
      | (with_reducible refine LeO.bind ?_ (fun _ => ?_))
      | exact ih0 _ _ _ _ _ _ _ _
      | exact ih1 _ _ _ _ _ _ _ _
      | exact ih2 _ _ _ _ _ _ _ _
      | exact sorrellaw04_head.mono _
      | exact sorrelref04_Sign.mono _ _
      | exact LeO.none _
      | refine LeO.ite ?_ ?_
      | refine LeO.bind ?_ (fun _ => ?_)
    · intro y0 y1 y2 y3 y4 y5 y6 y7
      unfold sorrellaw04_LexOdd.j2
      repeat' first
      | (with_reducible exact ih0 _ _ _ _ _ _ _ _)
      | (with_reducible exact ih1 _ _ _ _ _ _ _ _)
      | (with_reducible exact ih2 _ _ _ _ _ _ _ _)
      | (with_reducible exact sorrellaw04_head.mono _)
      | (with_reducible exact sorrelref04_Sign.mono _ _)
      | (with_reducible exact LeO.refl _)
      | (with_reducible exact LeO.none _)
      | (with_reducible refine LeO.ite ?_ ?_)
      | (with_reducible refine LeO.bind ?_ (fun _ => ?_))
      | exact ih0 _ _ _ _ _ _ _ _
      | exact ih1 _ _ _ _ _ _ _ _
      | exact ih2 _ _ _ _ _ _ _ _
      | exact sorrellaw04_head.mono _
      | exact sorrelref04_Sign.mono _ _
      | exact LeO.none _
      | refine LeO.ite ?_ ?_
      | refine LeO.bind ?_ (fun _ => ?_)
theorem sorrellaw04_LexOdd.mono : ∀ a0 a1 k, LeO (sorrellaw04_LexOdd.f k a0 a1) (sorrellaw04_LexOdd.f (k + 1) a0 a1) := by
  intro a0 a1 k
  obtain ⟨ih0, ih1, ih2⟩ := sorrellaw04_LexOdd.mono_l k
  unfold sorrellaw04_LexOdd.f
  repeat' first
      | (with_reducible exact ih0 _ _ _ _ _ _ _ _)
      | (with_reducible exact ih1 _ _ _ _ _ _ _ _)
      | (with_reducible exact ih2 _ _ _ _ _ _ _ _)
      | (with_reducible exact sorrellaw04_head.mono _)
      | (with_reducible exact sorrelref04_Sign.mono _ _)
      | (with_reducible exact LeO.refl _)
      | (with_reducible exact LeO.none _)
      | (with_reducible refine LeO.ite ?_ ?_)
      | (with_reducible refine LeO.bind ?_ (fun _ => ?_))
      | exact ih0 _ _ _ _ _ _ _ _
      | exact ih1 _ _ _ _ _ _ _ _
      | exact ih2 _ _ _ _ _ _ _ _
      | exact sorrellaw04_head.mono _
      | exact sorrelref04_Sign.mono _ _
      | exact LeO.none _
      | refine LeO.ite ?_ ?_
      | refine LeO.bind ?_ (fun _ => ?_)
set_option maxHeartbeats 8000000 in
set_option maxRecDepth 100000 in
theorem sorrellaw04_LexOdd.calls (k : Nat) (a0 : ByteArray) (a1 : Int) (r : Bool) (w : World) (h : sorrellaw04_LexOdd.f k a0 a1 = some r) (hG : Aside0 (GW w)) :
    Calls Tryd.prog 9 #[.string a0, .int .u8 a1] w fun e w' => e = .returned (.bool r) ∧ Below w.heap.size w w' := by
  have HB := Aside0.mk (Below.refl w.heap.size w)
  have H : ((sorrellaw04_head.f k).bind fun t337 => (if (a0.size : Int) > 3000 then (some t337) else ((lex_Lex.f a0).bind fun bt338 => (if bt338.2.2 = 0 then (if a0.size + 3 ≤ 9223372036854775807 then ((lex_Lex.f (a0 ++ (⟨#[10, 39, 39]⟩ : ByteArray))).bind fun bt343 => (if a0.size + 14 ≤ 9223372036854775807 then ((lex_Lex.f (a0 ++ (⟨#[10, 97, 98, 99, 100, 101, 102, 103, 104, 105, 106, 107, 108, 109]⟩ : ByteArray))).bind fun bt348 => (if a0.size + 2 ≤ 9223372036854775807 then ((some (([a1] : List Int) : List Int)).bind fun y353 => (if (a0 ++ (⟨#[10, 39]⟩ : ByteArray)).size + (strOfNums y353).size ≤ 9223372036854775807 then ((lex_Lex.f ((a0 ++ (⟨#[10, 39]⟩ : ByteArray)) ++ (strOfNums y353))).bind fun bt356 => (if a0.size + 1 ≤ 9223372036854775807 then ((some (([a1] : List Int) : List Int)).bind fun y361 => (if (a0 ++ (⟨#[10]⟩ : ByteArray)).size + (strOfNums y361).size ≤ 9223372036854775807 then ((lex_Lex.f ((a0 ++ (⟨#[10]⟩ : ByteArray)) ++ (strOfNums y361))).bind fun bt364 => (if bt343.2.1 = (wrap64 ((a0.size : Int) + 1)) then (if bt343.2.2 = 41 then (if bt348.2.1 = (wrap64 ((a0.size : Int) + 1)) then (if bt348.2.2 = 2 then (if bt356.2.1 = (wrap64 ((a0.size : Int) + 1)) then (sorrellaw04_LexOdd.j0 k a1 t337 bt338.1 (wrap64 ((a0.size : Int) + 1)) bt364.1 bt364.2.1 bt364.2.2 (bt356.2.2 != 41)) else (sorrellaw04_LexOdd.j0 k a1 t337 bt338.1 (wrap64 ((a0.size : Int) + 1)) bt364.1 bt364.2.1 bt364.2.2 true)) else (sorrellaw04_LexOdd.j0 k a1 t337 bt338.1 (wrap64 ((a0.size : Int) + 1)) bt364.1 bt364.2.1 bt364.2.2 true)) else (sorrellaw04_LexOdd.j0 k a1 t337 bt338.1 (wrap64 ((a0.size : Int) + 1)) bt364.1 bt364.2.1 bt364.2.2 true)) else (sorrellaw04_LexOdd.j0 k a1 t337 bt338.1 (wrap64 ((a0.size : Int) + 1)) bt364.1 bt364.2.1 bt364.2.2 true)) else (sorrellaw04_LexOdd.j0 k a1 t337 bt338.1 (wrap64 ((a0.size : Int) + 1)) bt364.1 bt364.2.1 bt364.2.2 true))) else (none))) else (none))) else (none))) else (none))) else (none))) else (none)) else (some t337))))) = some r := h
  clear h
  replace H := Option.bind_eq_some_iff.mp H
  obtain ⟨t337, A30, H⟩ := H
  replace H : (if (a0.size : Int) > 3000 then (some t337) else ((lex_Lex.f a0).bind fun bt338 => (if bt338.2.2 = 0 then (if a0.size + 3 ≤ 9223372036854775807 then ((lex_Lex.f (a0 ++ (⟨#[10, 39, 39]⟩ : ByteArray))).bind fun bt343 => (if a0.size + 14 ≤ 9223372036854775807 then ((lex_Lex.f (a0 ++ (⟨#[10, 97, 98, 99, 100, 101, 102, 103, 104, 105, 106, 107, 108, 109]⟩ : ByteArray))).bind fun bt348 => (if a0.size + 2 ≤ 9223372036854775807 then ((some (([a1] : List Int) : List Int)).bind fun y353 => (if (a0 ++ (⟨#[10, 39]⟩ : ByteArray)).size + (strOfNums y353).size ≤ 9223372036854775807 then ((lex_Lex.f ((a0 ++ (⟨#[10, 39]⟩ : ByteArray)) ++ (strOfNums y353))).bind fun bt356 => (if a0.size + 1 ≤ 9223372036854775807 then ((some (([a1] : List Int) : List Int)).bind fun y361 => (if (a0 ++ (⟨#[10]⟩ : ByteArray)).size + (strOfNums y361).size ≤ 9223372036854775807 then ((lex_Lex.f ((a0 ++ (⟨#[10]⟩ : ByteArray)) ++ (strOfNums y361))).bind fun bt364 => (if bt343.2.1 = (wrap64 ((a0.size : Int) + 1)) then (if bt343.2.2 = 41 then (if bt348.2.1 = (wrap64 ((a0.size : Int) + 1)) then (if bt348.2.2 = 2 then (if bt356.2.1 = (wrap64 ((a0.size : Int) + 1)) then (sorrellaw04_LexOdd.j0 k a1 t337 bt338.1 (wrap64 ((a0.size : Int) + 1)) bt364.1 bt364.2.1 bt364.2.2 (bt356.2.2 != 41)) else (sorrellaw04_LexOdd.j0 k a1 t337 bt338.1 (wrap64 ((a0.size : Int) + 1)) bt364.1 bt364.2.1 bt364.2.2 true)) else (sorrellaw04_LexOdd.j0 k a1 t337 bt338.1 (wrap64 ((a0.size : Int) + 1)) bt364.1 bt364.2.1 bt364.2.2 true)) else (sorrellaw04_LexOdd.j0 k a1 t337 bt338.1 (wrap64 ((a0.size : Int) + 1)) bt364.1 bt364.2.1 bt364.2.2 true)) else (sorrellaw04_LexOdd.j0 k a1 t337 bt338.1 (wrap64 ((a0.size : Int) + 1)) bt364.1 bt364.2.1 bt364.2.2 true)) else (sorrellaw04_LexOdd.j0 k a1 t337 bt338.1 (wrap64 ((a0.size : Int) + 1)) bt364.1 bt364.2.1 bt364.2.2 true))) else (none))) else (none))) else (none))) else (none))) else (none))) else (none)) else (some t337)))) = some r := H
  have A3 := Aside0.mk A30
  clear A30
  by_cases c4 : (a0.size : Int) > 3000
  · rw [if_pos c4] at H
    have c4b0 : decide (3000 < (a0.size : Int)) = true := decide_eq_true c4
    have c4b1 : decide (3000 < a0.size) = true := decide_eq_true (by omega)
    clear c4
    obtain rfl := Option.some.inj H
    go_enter Tryd.func9, Tryd.ntmps9
    go_wp2_with (first | ((with_reducible refine gate_callee (f := 11) rfl ?_); refine goesL_ (some 22) rfl rfl Tryd.func11 (by kernel_rfl) rfl #[] rfl (by (try simp only [List.map_toArray, List.map_cons, List.map_nil]); first | done | rfl | (simp only [List.length_drop, List.length_take]; rfl)) ?_; (with_reducible refine (sorrellaw04_head.calls k  t337 _ A3.out ?side1).mono ?_); (case side1 => exact GW.belowA hG (by repeat (first | (with_reducible first | exact HB.out | apply below_alloc | apply pw_below_drewN | apply below_drew1) | exact HB.out))); rintro e w5 ⟨rfl, hb⟩; refine ⟨_, rfl, ?_⟩; have n0_ := Aside0.mk (below_step (by repeat (first | (with_reducible first | exact HB.out | apply below_alloc | apply pw_below_drewN | apply below_drew1) | exact HB.out)) hb); clear HB; have HB := n0_; clear n0_; (try clear hb); (try clear hb2); (try clear hk); (try clear hi)))
    go_ret
    exact ⟨by first | rfl | (simp [errW_none, errW_some] <;> rfl) | (simp [*, errW_none, errW_some] <;> rfl), by repeat (first | (with_reducible first | exact HB.out | apply below_alloc | apply pw_below_drewN | apply below_drew1) | exact HB.out)⟩
  · rw [if_neg c4] at H
    have hwrap : wrap64 ((a0.size : Int) + 1) = (a0.size : Int) + 1 := wrapN (by omega) (by omega)
    simp only [hwrap] at H
    have c4b0 : decide (3000 < (a0.size : Int)) = false := decide_eq_false c4
    have c4b1 : decide (3000 < a0.size) = false := decide_eq_false (by omega)
    clear c4
    replace H := Option.bind_eq_some_iff.mp H
    obtain ⟨⟨t338, t339, t340⟩, A60, H⟩ := H
    replace H : (if t340 = 0 then (if a0.size + 3 ≤ 9223372036854775807 then ((lex_Lex.f (a0 ++ (⟨#[10, 39, 39]⟩ : ByteArray))).bind fun bt343 => (if a0.size + 14 ≤ 9223372036854775807 then ((lex_Lex.f (a0 ++ (⟨#[10, 97, 98, 99, 100, 101, 102, 103, 104, 105, 106, 107, 108, 109]⟩ : ByteArray))).bind fun bt348 => (if a0.size + 2 ≤ 9223372036854775807 then ((some (([a1] : List Int) : List Int)).bind fun y353 => (if (a0 ++ (⟨#[10, 39]⟩ : ByteArray)).size + (strOfNums y353).size ≤ 9223372036854775807 then ((lex_Lex.f ((a0 ++ (⟨#[10, 39]⟩ : ByteArray)) ++ (strOfNums y353))).bind fun bt356 => (if a0.size + 1 ≤ 9223372036854775807 then ((some (([a1] : List Int) : List Int)).bind fun y361 => (if (a0 ++ (⟨#[10]⟩ : ByteArray)).size + (strOfNums y361).size ≤ 9223372036854775807 then ((lex_Lex.f ((a0 ++ (⟨#[10]⟩ : ByteArray)) ++ (strOfNums y361))).bind fun bt364 => (if bt343.2.1 = ((a0.size : Int) + 1) then (if bt343.2.2 = 41 then (if bt348.2.1 = ((a0.size : Int) + 1) then (if bt348.2.2 = 2 then (if bt356.2.1 = ((a0.size : Int) + 1) then (sorrellaw04_LexOdd.j0 k a1 t337 t338 ((a0.size : Int) + 1) bt364.1 bt364.2.1 bt364.2.2 (bt356.2.2 != 41)) else (sorrellaw04_LexOdd.j0 k a1 t337 t338 ((a0.size : Int) + 1) bt364.1 bt364.2.1 bt364.2.2 true)) else (sorrellaw04_LexOdd.j0 k a1 t337 t338 ((a0.size : Int) + 1) bt364.1 bt364.2.1 bt364.2.2 true)) else (sorrellaw04_LexOdd.j0 k a1 t337 t338 ((a0.size : Int) + 1) bt364.1 bt364.2.1 bt364.2.2 true)) else (sorrellaw04_LexOdd.j0 k a1 t337 t338 ((a0.size : Int) + 1) bt364.1 bt364.2.1 bt364.2.2 true)) else (sorrellaw04_LexOdd.j0 k a1 t337 t338 ((a0.size : Int) + 1) bt364.1 bt364.2.1 bt364.2.2 true))) else (none))) else (none))) else (none))) else (none))) else (none))) else (none)) else (some t337)) = some r := H
    have A6 := Aside0.mk A60
    clear A60
    by_cases c7 : t340 = 0
    · rw [if_pos c7] at H
      have c7b0 : (t340 == 0) = true := beq_iff_eq.mpr c7
      have c7b1 : (t340 != 0) = false := bne_eq_false_iff_eq.mpr c7
      clear c7
      by_cases c8 : a0.size + 3 ≤ 9223372036854775807
      · rw [if_pos c8] at H
        have c8b0 := eq_true c8
        have c8b1 : decide (a0.size + 3 ≤ 9223372036854775807) = true := decide_eq_true c8
        try have c8b2 : (9223372036854775807 < a0.size + 3) = False := eq_false (Nat.not_lt.2 c8)
        replace H := Option.bind_eq_some_iff.mp H
        obtain ⟨⟨t343, t344, t345⟩, A90, H⟩ := H
        replace H : (if a0.size + 14 ≤ 9223372036854775807 then ((lex_Lex.f (a0 ++ (⟨#[10, 97, 98, 99, 100, 101, 102, 103, 104, 105, 106, 107, 108, 109]⟩ : ByteArray))).bind fun bt348 => (if a0.size + 2 ≤ 9223372036854775807 then ((some (([a1] : List Int) : List Int)).bind fun y353 => (if (a0 ++ (⟨#[10, 39]⟩ : ByteArray)).size + (strOfNums y353).size ≤ 9223372036854775807 then ((lex_Lex.f ((a0 ++ (⟨#[10, 39]⟩ : ByteArray)) ++ (strOfNums y353))).bind fun bt356 => (if a0.size + 1 ≤ 9223372036854775807 then ((some (([a1] : List Int) : List Int)).bind fun y361 => (if (a0 ++ (⟨#[10]⟩ : ByteArray)).size + (strOfNums y361).size ≤ 9223372036854775807 then ((lex_Lex.f ((a0 ++ (⟨#[10]⟩ : ByteArray)) ++ (strOfNums y361))).bind fun bt364 => (if t344 = ((a0.size : Int) + 1) then (if t345 = 41 then (if bt348.2.1 = ((a0.size : Int) + 1) then (if bt348.2.2 = 2 then (if bt356.2.1 = ((a0.size : Int) + 1) then (sorrellaw04_LexOdd.j0 k a1 t337 t338 ((a0.size : Int) + 1) bt364.1 bt364.2.1 bt364.2.2 (bt356.2.2 != 41)) else (sorrellaw04_LexOdd.j0 k a1 t337 t338 ((a0.size : Int) + 1) bt364.1 bt364.2.1 bt364.2.2 true)) else (sorrellaw04_LexOdd.j0 k a1 t337 t338 ((a0.size : Int) + 1) bt364.1 bt364.2.1 bt364.2.2 true)) else (sorrellaw04_LexOdd.j0 k a1 t337 t338 ((a0.size : Int) + 1) bt364.1 bt364.2.1 bt364.2.2 true)) else (sorrellaw04_LexOdd.j0 k a1 t337 t338 ((a0.size : Int) + 1) bt364.1 bt364.2.1 bt364.2.2 true)) else (sorrellaw04_LexOdd.j0 k a1 t337 t338 ((a0.size : Int) + 1) bt364.1 bt364.2.1 bt364.2.2 true))) else (none))) else (none))) else (none))) else (none))) else (none)) = some r := H
        have A9 := Aside0.mk A90
        clear A90
        by_cases c10 : a0.size + 14 ≤ 9223372036854775807
        · rw [if_pos c10] at H
          have c10b0 := eq_true c10
          have c10b1 : decide (a0.size + 14 ≤ 9223372036854775807) = true := decide_eq_true c10
          try have c10b2 : (9223372036854775807 < a0.size + 14) = False := eq_false (Nat.not_lt.2 c10)
          replace H := Option.bind_eq_some_iff.mp H
          obtain ⟨⟨t348, t349, t350⟩, A110, H⟩ := H
          replace H : (if a0.size + 2 ≤ 9223372036854775807 then ((some (([a1] : List Int) : List Int)).bind fun y353 => (if (a0 ++ (⟨#[10, 39]⟩ : ByteArray)).size + (strOfNums y353).size ≤ 9223372036854775807 then ((lex_Lex.f ((a0 ++ (⟨#[10, 39]⟩ : ByteArray)) ++ (strOfNums y353))).bind fun bt356 => (if a0.size + 1 ≤ 9223372036854775807 then ((some (([a1] : List Int) : List Int)).bind fun y361 => (if (a0 ++ (⟨#[10]⟩ : ByteArray)).size + (strOfNums y361).size ≤ 9223372036854775807 then ((lex_Lex.f ((a0 ++ (⟨#[10]⟩ : ByteArray)) ++ (strOfNums y361))).bind fun bt364 => (if t344 = ((a0.size : Int) + 1) then (if t345 = 41 then (if t349 = ((a0.size : Int) + 1) then (if t350 = 2 then (if bt356.2.1 = ((a0.size : Int) + 1) then (sorrellaw04_LexOdd.j0 k a1 t337 t338 ((a0.size : Int) + 1) bt364.1 bt364.2.1 bt364.2.2 (bt356.2.2 != 41)) else (sorrellaw04_LexOdd.j0 k a1 t337 t338 ((a0.size : Int) + 1) bt364.1 bt364.2.1 bt364.2.2 true)) else (sorrellaw04_LexOdd.j0 k a1 t337 t338 ((a0.size : Int) + 1) bt364.1 bt364.2.1 bt364.2.2 true)) else (sorrellaw04_LexOdd.j0 k a1 t337 t338 ((a0.size : Int) + 1) bt364.1 bt364.2.1 bt364.2.2 true)) else (sorrellaw04_LexOdd.j0 k a1 t337 t338 ((a0.size : Int) + 1) bt364.1 bt364.2.1 bt364.2.2 true)) else (sorrellaw04_LexOdd.j0 k a1 t337 t338 ((a0.size : Int) + 1) bt364.1 bt364.2.1 bt364.2.2 true))) else (none))) else (none))) else (none))) else (none)) = some r := H
          have A11 := Aside0.mk A110
          clear A110
          by_cases c12 : a0.size + 2 ≤ 9223372036854775807
          · rw [if_pos c12] at H
            have c12b0 := eq_true c12
            have c12b1 : decide (a0.size + 2 ≤ 9223372036854775807) = true := decide_eq_true c12
            try have c12b2 : (9223372036854775807 < a0.size + 2) = False := eq_false (Nat.not_lt.2 c12)
            obtain ⟨y353, hy353⟩ : ∃ y_ : List Int, y_ = (([a1] : List Int)) := ⟨_, rfl⟩
            replace H : (if (a0 ++ (⟨#[10, 39]⟩ : ByteArray)).size + (strOfNums y353).size ≤ 9223372036854775807 then ((lex_Lex.f ((a0 ++ (⟨#[10, 39]⟩ : ByteArray)) ++ (strOfNums y353))).bind fun bt356 => (if a0.size + 1 ≤ 9223372036854775807 then ((some (([a1] : List Int) : List Int)).bind fun y361 => (if (a0 ++ (⟨#[10]⟩ : ByteArray)).size + (strOfNums y361).size ≤ 9223372036854775807 then ((lex_Lex.f ((a0 ++ (⟨#[10]⟩ : ByteArray)) ++ (strOfNums y361))).bind fun bt364 => (if t344 = ((a0.size : Int) + 1) then (if t345 = 41 then (if t349 = ((a0.size : Int) + 1) then (if t350 = 2 then (if bt356.2.1 = ((a0.size : Int) + 1) then (sorrellaw04_LexOdd.j0 k a1 t337 t338 ((a0.size : Int) + 1) bt364.1 bt364.2.1 bt364.2.2 (bt356.2.2 != 41)) else (sorrellaw04_LexOdd.j0 k a1 t337 t338 ((a0.size : Int) + 1) bt364.1 bt364.2.1 bt364.2.2 true)) else (sorrellaw04_LexOdd.j0 k a1 t337 t338 ((a0.size : Int) + 1) bt364.1 bt364.2.1 bt364.2.2 true)) else (sorrellaw04_LexOdd.j0 k a1 t337 t338 ((a0.size : Int) + 1) bt364.1 bt364.2.1 bt364.2.2 true)) else (sorrellaw04_LexOdd.j0 k a1 t337 t338 ((a0.size : Int) + 1) bt364.1 bt364.2.1 bt364.2.2 true)) else (sorrellaw04_LexOdd.j0 k a1 t337 t338 ((a0.size : Int) + 1) bt364.1 bt364.2.1 bt364.2.2 true))) else (none))) else (none))) else (none)) = some r := by first | (rw [hy353]; with_reducible exact H) | (have H2_ := (Option.bind_some _ _).symm.trans H; rw [hy353]; with_reducible exact H2_) | (have H2_ := (Option.bind_some _ _).symm.trans H; with_reducible exact H2_) | with_reducible exact H | (rw [hy353]; exact H) | exact H
            have Ny353 := Aside0.mk hy353
            clear hy353
            by_cases c13 : (a0 ++ (⟨#[10, 39]⟩ : ByteArray)).size + (strOfNums y353).size ≤ 9223372036854775807
            · rw [if_pos c13] at H
              have c13b0 := eq_true c13
              have c13b1 : decide ((a0 ++ (⟨#[10, 39]⟩ : ByteArray)).size + (strOfNums y353).size ≤ 9223372036854775807) = true := decide_eq_true c13
              try have c13b2 : (9223372036854775807 < (a0 ++ (⟨#[10, 39]⟩ : ByteArray)).size + (strOfNums y353).size) = False := eq_false (Nat.not_lt.2 c13)
              try have c13b4 : (9223372036854775807 < a0.size + 2 + (strOfNums y353).size) = False := eq_false (Nat.not_lt.2 (by have h := c13; (repeat rw [ByteArray.size_append] at h); exact h))
              replace H := Option.bind_eq_some_iff.mp H
              obtain ⟨⟨t356, t357, t358⟩, A140, H⟩ := H
              replace H : (if a0.size + 1 ≤ 9223372036854775807 then ((some (([a1] : List Int) : List Int)).bind fun y361 => (if (a0 ++ (⟨#[10]⟩ : ByteArray)).size + (strOfNums y361).size ≤ 9223372036854775807 then ((lex_Lex.f ((a0 ++ (⟨#[10]⟩ : ByteArray)) ++ (strOfNums y361))).bind fun bt364 => (if t344 = ((a0.size : Int) + 1) then (if t345 = 41 then (if t349 = ((a0.size : Int) + 1) then (if t350 = 2 then (if t357 = ((a0.size : Int) + 1) then (sorrellaw04_LexOdd.j0 k a1 t337 t338 ((a0.size : Int) + 1) bt364.1 bt364.2.1 bt364.2.2 (t358 != 41)) else (sorrellaw04_LexOdd.j0 k a1 t337 t338 ((a0.size : Int) + 1) bt364.1 bt364.2.1 bt364.2.2 true)) else (sorrellaw04_LexOdd.j0 k a1 t337 t338 ((a0.size : Int) + 1) bt364.1 bt364.2.1 bt364.2.2 true)) else (sorrellaw04_LexOdd.j0 k a1 t337 t338 ((a0.size : Int) + 1) bt364.1 bt364.2.1 bt364.2.2 true)) else (sorrellaw04_LexOdd.j0 k a1 t337 t338 ((a0.size : Int) + 1) bt364.1 bt364.2.1 bt364.2.2 true)) else (sorrellaw04_LexOdd.j0 k a1 t337 t338 ((a0.size : Int) + 1) bt364.1 bt364.2.1 bt364.2.2 true))) else (none))) else (none)) = some r := H
              have A14 := Aside0.mk A140
              clear A140
              by_cases c15 : a0.size + 1 ≤ 9223372036854775807
              · rw [if_pos c15] at H
                have c15b0 := eq_true c15
                have c15b1 : decide (a0.size + 1 ≤ 9223372036854775807) = true := decide_eq_true c15
                try have c15b2 : (9223372036854775807 < a0.size + 1) = False := eq_false (Nat.not_lt.2 c15)
                obtain ⟨y361, hy361⟩ : ∃ y_ : List Int, y_ = (([a1] : List Int)) := ⟨_, rfl⟩
                replace H : (if (a0 ++ (⟨#[10]⟩ : ByteArray)).size + (strOfNums y361).size ≤ 9223372036854775807 then ((lex_Lex.f ((a0 ++ (⟨#[10]⟩ : ByteArray)) ++ (strOfNums y361))).bind fun bt364 => (if t344 = ((a0.size : Int) + 1) then (if t345 = 41 then (if t349 = ((a0.size : Int) + 1) then (if t350 = 2 then (if t357 = ((a0.size : Int) + 1) then (sorrellaw04_LexOdd.j0 k a1 t337 t338 ((a0.size : Int) + 1) bt364.1 bt364.2.1 bt364.2.2 (t358 != 41)) else (sorrellaw04_LexOdd.j0 k a1 t337 t338 ((a0.size : Int) + 1) bt364.1 bt364.2.1 bt364.2.2 true)) else (sorrellaw04_LexOdd.j0 k a1 t337 t338 ((a0.size : Int) + 1) bt364.1 bt364.2.1 bt364.2.2 true)) else (sorrellaw04_LexOdd.j0 k a1 t337 t338 ((a0.size : Int) + 1) bt364.1 bt364.2.1 bt364.2.2 true)) else (sorrellaw04_LexOdd.j0 k a1 t337 t338 ((a0.size : Int) + 1) bt364.1 bt364.2.1 bt364.2.2 true)) else (sorrellaw04_LexOdd.j0 k a1 t337 t338 ((a0.size : Int) + 1) bt364.1 bt364.2.1 bt364.2.2 true))) else (none)) = some r := by first | (rw [hy361]; with_reducible exact H) | (have H2_ := (Option.bind_some _ _).symm.trans H; rw [hy361]; with_reducible exact H2_) | (have H2_ := (Option.bind_some _ _).symm.trans H; with_reducible exact H2_) | with_reducible exact H | (rw [hy361]; exact H) | exact H
                have Ny361 := Aside0.mk hy361
                clear hy361
                by_cases c16 : (a0 ++ (⟨#[10]⟩ : ByteArray)).size + (strOfNums y361).size ≤ 9223372036854775807
                · rw [if_pos c16] at H
                  have c16b0 := eq_true c16
                  have c16b1 : decide ((a0 ++ (⟨#[10]⟩ : ByteArray)).size + (strOfNums y361).size ≤ 9223372036854775807) = true := decide_eq_true c16
                  try have c16b2 : (9223372036854775807 < (a0 ++ (⟨#[10]⟩ : ByteArray)).size + (strOfNums y361).size) = False := eq_false (Nat.not_lt.2 c16)
                  try have c16b4 : (9223372036854775807 < a0.size + 1 + (strOfNums y361).size) = False := eq_false (Nat.not_lt.2 (by have h := c16; (repeat rw [ByteArray.size_append] at h); exact h))
                  replace H := Option.bind_eq_some_iff.mp H
                  obtain ⟨⟨t364, t365, t366⟩, A170, H⟩ := H
                  replace H : (if t344 = ((a0.size : Int) + 1) then (if t345 = 41 then (if t349 = ((a0.size : Int) + 1) then (if t350 = 2 then (if t357 = ((a0.size : Int) + 1) then (sorrellaw04_LexOdd.j0 k a1 t337 t338 ((a0.size : Int) + 1) t364 t365 t366 (t358 != 41)) else (sorrellaw04_LexOdd.j0 k a1 t337 t338 ((a0.size : Int) + 1) t364 t365 t366 true)) else (sorrellaw04_LexOdd.j0 k a1 t337 t338 ((a0.size : Int) + 1) t364 t365 t366 true)) else (sorrellaw04_LexOdd.j0 k a1 t337 t338 ((a0.size : Int) + 1) t364 t365 t366 true)) else (sorrellaw04_LexOdd.j0 k a1 t337 t338 ((a0.size : Int) + 1) t364 t365 t366 true)) else (sorrellaw04_LexOdd.j0 k a1 t337 t338 ((a0.size : Int) + 1) t364 t365 t366 true)) = some r := H
                  have A17 := Aside0.mk A170
                  clear A170
                  have HC18 := Aside0.mk H
                  clear H
                  go_enter Tryd.func9, Tryd.ntmps9
                  go_upto_region 12 with (first | ((with_reducible refine gate_callee (f := 11) rfl ?_); refine goesL_ (some 22) rfl rfl Tryd.func11 (by kernel_rfl) rfl #[] rfl (by (try simp only [List.map_toArray, List.map_cons, List.map_nil]); first | done | rfl | (simp only [List.length_drop, List.length_take]; rfl)) ?_; (with_reducible refine (sorrellaw04_head.calls k  t337 _ A3.out ?side1).mono ?_); (case side1 => exact GW.belowA hG (by repeat (first | (with_reducible first | exact HB.out | apply below_alloc | apply pw_below_drewN | apply below_drew1) | exact HB.out))); rintro e w19 ⟨rfl, hb⟩; refine ⟨_, rfl, ?_⟩; have n0_ := Aside0.mk (below_step (by repeat (first | (with_reducible first | exact HB.out | apply below_alloc | apply pw_below_drewN | apply below_drew1) | exact HB.out)) hb); clear HB; have HB := n0_; clear n0_; (try clear hb); (try clear hb2); (try clear hk); (try clear hi)) | ((with_reducible refine gate_callee (f := 12) rfl ?_); refine goesL_ (some 29) rfl rfl Tryd.func12 (by kernel_rfl) rfl #[.string a0] rfl (by (try simp only [List.map_toArray, List.map_cons, List.map_nil]); first | done | rfl | (simp only [List.length_drop, List.length_take]; rfl)) ?_; (with_reducible refine (lex_Lex.calls a0 t338 t339 t340 _ A6.out ?side1).mono ?_); (case side1 => exact GW.belowA hG (by repeat (first | (with_reducible first | exact HB.out | apply below_alloc | apply pw_below_drewN | apply below_drew1) | exact HB.out))); rintro e w20 ⟨v341, rfl, ho0, hb⟩; refine ⟨_, rfl, ?_⟩; have n0_ := Aside0.mk (Kd.R_lower ho0 (below_size (by repeat (first | (with_reducible first | exact HB.out | apply below_alloc | apply pw_below_drewN | apply below_drew1) | exact HB.out)))); have n1_ := Aside0.mk (below_step (by repeat (first | (with_reducible first | exact HB.out | apply below_alloc | apply pw_below_drewN | apply below_drew1) | exact HB.out)) hb); clear HB; have HO342 := n0_; have HB := n1_; clear n0_ n1_; (try clear hb); (try clear hb2); (try clear hk); (try clear hi); (try clear ho0)) | ((with_reducible refine gate_callee (f := 12) rfl ?_); refine goesL_ (some 42) rfl rfl Tryd.func12 (by kernel_rfl) rfl #[.string (a0 ++ (⟨#[10, 39, 39]⟩ : ByteArray))] rfl (by (try simp only [List.map_toArray, List.map_cons, List.map_nil]); first | done | rfl | (simp only [List.length_drop, List.length_take]; rfl)) ?_; (with_reducible refine (lex_Lex.calls (a0 ++ (⟨#[10, 39, 39]⟩ : ByteArray)) t343 t344 t345 _ A9.out ?side1).mono ?_); (case side1 => exact GW.belowA hG (by repeat (first | (with_reducible first | exact HB.out | apply below_alloc | apply pw_below_drewN | apply below_drew1) | exact HB.out))); rintro e w21 ⟨v346, rfl, ho0, hb⟩; refine ⟨_, rfl, ?_⟩; have n0_ := Aside0.mk (Kd.R_elder' (by (with_reducible repeat (first | apply Kd.R_alloc | apply Kd.R_drewN | apply Kd.R_drew)); exact HO342.out) (Kd.R_base ho0) hb); have n1_ := Aside0.mk (Kd.R_lower (Kd.R_new' ho0 (Kd.R_lt (by (with_reducible repeat (first | apply Kd.R_alloc | apply Kd.R_drewN | apply Kd.R_drew)); exact HO342.out))) (below_size (by repeat (first | (with_reducible first | exact HB.out | apply below_alloc | apply pw_below_drewN | apply below_drew1) | exact HB.out)))); have n2_ := Aside0.mk (below_step (by repeat (first | (with_reducible first | exact HB.out | apply below_alloc | apply pw_below_drewN | apply below_drew1) | exact HB.out)) hb); clear HO342; clear HB; have HO342 := n0_; have HO347 := n1_; have HB := n2_; clear n0_ n1_ n2_; (try clear hb); (try clear hb2); (try clear hk); (try clear hi); (try clear ho0)) | ((with_reducible refine gate_callee (f := 12) rfl ?_); refine goesL_ (some 49) rfl rfl Tryd.func12 (by kernel_rfl) rfl #[.string (a0 ++ (⟨#[10, 97, 98, 99, 100, 101, 102, 103, 104, 105, 106, 107, 108, 109]⟩ : ByteArray))] rfl (by (try simp only [List.map_toArray, List.map_cons, List.map_nil]); first | done | rfl | (simp only [List.length_drop, List.length_take]; rfl)) ?_; (with_reducible refine (lex_Lex.calls (a0 ++ (⟨#[10, 97, 98, 99, 100, 101, 102, 103, 104, 105, 106, 107, 108, 109]⟩ : ByteArray)) t348 t349 t350 _ A11.out ?side1).mono ?_); (case side1 => exact GW.belowA hG (by repeat (first | (with_reducible first | exact HB.out | apply below_alloc | apply pw_below_drewN | apply below_drew1) | exact HB.out))); rintro e w22 ⟨v351, rfl, ho0, hb⟩; refine ⟨_, rfl, ?_⟩; have n0_ := Aside0.mk (Kd.R_elder' (by (with_reducible repeat (first | apply Kd.R_alloc | apply Kd.R_drewN | apply Kd.R_drew)); exact HO342.out) (Kd.R_base ho0) hb); have n1_ := Aside0.mk (Kd.R_elder' (by (with_reducible repeat (first | apply Kd.R_alloc | apply Kd.R_drewN | apply Kd.R_drew)); exact HO347.out) (Kd.R_base ho0) hb); have n2_ := Aside0.mk (Kd.R_lower (Kd.R_new' (Kd.R_new' ho0 (Kd.R_lt (by (with_reducible repeat (first | apply Kd.R_alloc | apply Kd.R_drewN | apply Kd.R_drew)); exact HO342.out))) (Kd.R_lt (by (with_reducible repeat (first | apply Kd.R_alloc | apply Kd.R_drewN | apply Kd.R_drew)); exact HO347.out))) (below_size (by repeat (first | (with_reducible first | exact HB.out | apply below_alloc | apply pw_below_drewN | apply below_drew1) | exact HB.out)))); have n3_ := Aside0.mk (below_step (by repeat (first | (with_reducible first | exact HB.out | apply below_alloc | apply pw_below_drewN | apply below_drew1) | exact HB.out)) hb); clear HO342; clear HO347; clear HB; have HO342 := n0_; have HO347 := n1_; have HO352 := n2_; have HB := n3_; clear n0_ n1_ n2_ n3_; (try clear hb); (try clear hb2); (try clear hk); (try clear hi); (try clear ho0)) | ((with_reducible refine gate_dst (N := 57) rfl ?_); (try (refine gate_guard (by rfl) ?_; dsimp only)); refine Kd.R_lit (Kd.int .u8) _ 5 ?hg (N := 57) ?hd (xs := ([a1] : List Int)) (inner := [.int .u8 a1]) (ok := fun _ => True) (okp := fun _ => True) ?hr ?hp (fun _ hk => hk) trivial (Below.refl _ _) (Nat.le_refl _) (by simp) ?_; (case hd => rfl); (case hg => rfl); (case hr => first | (go_simp; done) | (go_simp; rfl)); (case hp => exact (Reps.one (show Kd.M (Kd.int .u8) _ _ _ a1 [.int .u8 a1] from rfl) (Reps.none _ _))); intro v354 w23 ho24 hb hg_ hnew_; clear hg_ hnew_; (first | rw [← Ny353.out] at ho24 | (simp only [Int.reduceToNat] at ho24; rw [← Ny353.out] at ho24)); have n0_ := Aside0.mk (Kd.R_below (by (with_reducible repeat (first | apply Kd.R_alloc | apply Kd.R_drewN | apply Kd.R_drew)); exact HO342.out) hb); have n1_ := Aside0.mk (Kd.R_below (by (with_reducible repeat (first | apply Kd.R_alloc | apply Kd.R_drewN | apply Kd.R_drew)); exact HO347.out) hb); have n2_ := Aside0.mk (Kd.R_below (by (with_reducible repeat (first | apply Kd.R_alloc | apply Kd.R_drewN | apply Kd.R_drew)); exact HO352.out) hb); have n3_ := Aside0.mk (Kd.R_lower ho24 (below_size (by repeat (first | (with_reducible first | exact HB.out | apply below_alloc | apply pw_below_drewN | apply below_drew1) | exact HB.out)))); have n4_ := Aside0.mk (below_step (by repeat (first | (with_reducible first | exact HB.out | apply below_alloc | apply pw_below_drewN | apply below_drew1) | exact HB.out)) hb); clear HO342; clear HO347; clear HO352; clear HB; have HO342 := n0_; have HO347 := n1_; have HO352 := n2_; have HO355 := n3_; have HB := n4_; clear n0_ n1_ n2_ n3_ n4_; clear hb ho24; have hcv25 := own_string (P := Tryd.prog) Tryd.underlying35 Tryd.underlying5 Tryd.underlying9 (Kd.own_of_R HO355.out)) | ((with_reducible refine gate_callee (f := 12) rfl ?_); refine goesL_ (some 60) rfl rfl Tryd.func12 (by kernel_rfl) rfl #[.string ((a0 ++ (⟨#[10, 39]⟩ : ByteArray)) ++ (strOfNums y353))] rfl (by (try simp only [List.map_toArray, List.map_cons, List.map_nil]); first | done | rfl | (simp only [List.length_drop, List.length_take]; rfl)) ?_; (with_reducible refine (lex_Lex.calls ((a0 ++ (⟨#[10, 39]⟩ : ByteArray)) ++ (strOfNums y353)) t356 t357 t358 _ A14.out ?side1).mono ?_); (case side1 => exact GW.belowA hG (by repeat (first | (with_reducible first | exact HB.out | apply below_alloc | apply pw_below_drewN | apply below_drew1) | exact HB.out))); rintro e w26 ⟨v359, rfl, ho0, hb⟩; refine ⟨_, rfl, ?_⟩; have n0_ := Aside0.mk (Kd.R_elder' (by (with_reducible repeat (first | apply Kd.R_alloc | apply Kd.R_drewN | apply Kd.R_drew)); exact HO342.out) (Kd.R_base ho0) hb); have n1_ := Aside0.mk (Kd.R_elder' (by (with_reducible repeat (first | apply Kd.R_alloc | apply Kd.R_drewN | apply Kd.R_drew)); exact HO347.out) (Kd.R_base ho0) hb); have n2_ := Aside0.mk (Kd.R_elder' (by (with_reducible repeat (first | apply Kd.R_alloc | apply Kd.R_drewN | apply Kd.R_drew)); exact HO352.out) (Kd.R_base ho0) hb); have n3_ := Aside0.mk (Kd.R_below (by (with_reducible repeat (first | apply Kd.R_alloc | apply Kd.R_drewN | apply Kd.R_drew)); exact HO355.out) hb); have n4_ := Aside0.mk (Kd.R_lower (Kd.R_new' (Kd.R_new' (Kd.R_new' ho0 (Kd.R_lt (by (with_reducible repeat (first | apply Kd.R_alloc | apply Kd.R_drewN | apply Kd.R_drew)); exact HO342.out))) (Kd.R_lt (by (with_reducible repeat (first | apply Kd.R_alloc | apply Kd.R_drewN | apply Kd.R_drew)); exact HO347.out))) (Kd.R_lt (by (with_reducible repeat (first | apply Kd.R_alloc | apply Kd.R_drewN | apply Kd.R_drew)); exact HO352.out))) (below_size (by repeat (first | (with_reducible first | exact HB.out | apply below_alloc | apply pw_below_drewN | apply below_drew1) | exact HB.out)))); have n5_ := Aside0.mk (below_step (by repeat (first | (with_reducible first | exact HB.out | apply below_alloc | apply pw_below_drewN | apply below_drew1) | exact HB.out)) hb); clear HO342; clear HO347; clear HO352; clear HO355; clear HB; have HO342 := n0_; have HO347 := n1_; have HO352 := n2_; have HO355 := n3_; have HO360 := n4_; have HB := n5_; clear n0_ n1_ n2_ n3_ n4_ n5_; (try clear hb); (try clear hb2); (try clear hk); (try clear hi); (try clear ho0)) | ((with_reducible refine gate_dst (N := 68) rfl ?_); (try (refine gate_guard (by rfl) ?_; dsimp only)); refine Kd.R_lit (Kd.int .u8) _ 5 ?hg (N := 68) ?hd (xs := ([a1] : List Int)) (inner := [.int .u8 a1]) (ok := fun _ => True) (okp := fun _ => True) ?hr ?hp (fun _ hk => hk) trivial (Below.refl _ _) (Nat.le_refl _) (by simp) ?_; (case hd => rfl); (case hg => rfl); (case hr => first | (go_simp; done) | (go_simp; rfl)); (case hp => exact (Reps.one (show Kd.M (Kd.int .u8) _ _ _ a1 [.int .u8 a1] from rfl) (Reps.none _ _))); intro v362 w27 ho28 hb hg_ hnew_; clear hg_ hnew_; (first | rw [← Ny361.out] at ho28 | (simp only [Int.reduceToNat] at ho28; rw [← Ny361.out] at ho28)); have n0_ := Aside0.mk (Kd.R_below (by (with_reducible repeat (first | apply Kd.R_alloc | apply Kd.R_drewN | apply Kd.R_drew)); exact HO342.out) hb); have n1_ := Aside0.mk (Kd.R_below (by (with_reducible repeat (first | apply Kd.R_alloc | apply Kd.R_drewN | apply Kd.R_drew)); exact HO347.out) hb); have n2_ := Aside0.mk (Kd.R_below (by (with_reducible repeat (first | apply Kd.R_alloc | apply Kd.R_drewN | apply Kd.R_drew)); exact HO352.out) hb); have n3_ := Aside0.mk (Kd.R_elder' (by (with_reducible repeat (first | apply Kd.R_alloc | apply Kd.R_drewN | apply Kd.R_drew)); exact HO355.out) (Kd.R_base ho28) hb); have n4_ := Aside0.mk (Kd.R_below (by (with_reducible repeat (first | apply Kd.R_alloc | apply Kd.R_drewN | apply Kd.R_drew)); exact HO360.out) hb); have n5_ := Aside0.mk (Kd.R_lower (Kd.R_new' ho28 (Kd.R_lt (by (with_reducible repeat (first | apply Kd.R_alloc | apply Kd.R_drewN | apply Kd.R_drew)); exact HO355.out))) (below_size (by repeat (first | (with_reducible first | exact HB.out | apply below_alloc | apply pw_below_drewN | apply below_drew1) | exact HB.out)))); have n6_ := Aside0.mk (below_step (by repeat (first | (with_reducible first | exact HB.out | apply below_alloc | apply pw_below_drewN | apply below_drew1) | exact HB.out)) hb); clear HO342; clear HO347; clear HO352; clear HO355; clear HO360; clear HB; have HO342 := n0_; have HO347 := n1_; have HO352 := n2_; have HO355 := n3_; have HO360 := n4_; have HO363 := n5_; have HB := n6_; clear n0_ n1_ n2_ n3_ n4_ n5_ n6_; clear hb ho28; have hcv29 := own_string (P := Tryd.prog) Tryd.underlying35 Tryd.underlying5 Tryd.underlying9 (Kd.own_of_R HO363.out)) | ((with_reducible refine gate_callee (f := 12) rfl ?_); refine goesL_ (some 71) rfl rfl Tryd.func12 (by kernel_rfl) rfl #[.string ((a0 ++ (⟨#[10]⟩ : ByteArray)) ++ (strOfNums y361))] rfl (by (try simp only [List.map_toArray, List.map_cons, List.map_nil]); first | done | rfl | (simp only [List.length_drop, List.length_take]; rfl)) ?_; (with_reducible refine (lex_Lex.calls ((a0 ++ (⟨#[10]⟩ : ByteArray)) ++ (strOfNums y361)) t364 t365 t366 _ A17.out ?side1).mono ?_); (case side1 => exact GW.belowA hG (by repeat (first | (with_reducible first | exact HB.out | apply below_alloc | apply pw_below_drewN | apply below_drew1) | exact HB.out))); rintro e w30 ⟨v367, rfl, ho0, hb⟩; refine ⟨_, rfl, ?_⟩; have n0_ := Aside0.mk (Kd.R_elder' (by (with_reducible repeat (first | apply Kd.R_alloc | apply Kd.R_drewN | apply Kd.R_drew)); exact HO342.out) (Kd.R_base ho0) hb); have n1_ := Aside0.mk (Kd.R_elder' (by (with_reducible repeat (first | apply Kd.R_alloc | apply Kd.R_drewN | apply Kd.R_drew)); exact HO347.out) (Kd.R_base ho0) hb); have n2_ := Aside0.mk (Kd.R_elder' (by (with_reducible repeat (first | apply Kd.R_alloc | apply Kd.R_drewN | apply Kd.R_drew)); exact HO352.out) (Kd.R_base ho0) hb); have n3_ := Aside0.mk (Kd.R_below (by (with_reducible repeat (first | apply Kd.R_alloc | apply Kd.R_drewN | apply Kd.R_drew)); exact HO355.out) hb); have n4_ := Aside0.mk (Kd.R_elder' (by (with_reducible repeat (first | apply Kd.R_alloc | apply Kd.R_drewN | apply Kd.R_drew)); exact HO360.out) (Kd.R_base ho0) hb); have n5_ := Aside0.mk (Kd.R_below (by (with_reducible repeat (first | apply Kd.R_alloc | apply Kd.R_drewN | apply Kd.R_drew)); exact HO363.out) hb); have n6_ := Aside0.mk (Kd.R_lower (Kd.R_new' (Kd.R_new' (Kd.R_new' (Kd.R_new' ho0 (Kd.R_lt (by (with_reducible repeat (first | apply Kd.R_alloc | apply Kd.R_drewN | apply Kd.R_drew)); exact HO342.out))) (Kd.R_lt (by (with_reducible repeat (first | apply Kd.R_alloc | apply Kd.R_drewN | apply Kd.R_drew)); exact HO347.out))) (Kd.R_lt (by (with_reducible repeat (first | apply Kd.R_alloc | apply Kd.R_drewN | apply Kd.R_drew)); exact HO352.out))) (Kd.R_lt (by (with_reducible repeat (first | apply Kd.R_alloc | apply Kd.R_drewN | apply Kd.R_drew)); exact HO360.out))) (below_size (by repeat (first | (with_reducible first | exact HB.out | apply below_alloc | apply pw_below_drewN | apply below_drew1) | exact HB.out)))); have n7_ := Aside0.mk (below_step (by repeat (first | (with_reducible first | exact HB.out | apply below_alloc | apply pw_below_drewN | apply below_drew1) | exact HB.out)) hb); clear HO342; clear HO347; clear HO352; clear HO355; clear HO360; clear HO363; clear HB; have HO342 := n0_; have HO347 := n1_; have HO352 := n2_; have HO355 := n3_; have HO360 := n4_; have HO363 := n5_; have HO368 := n6_; have HB := n7_; clear n0_ n1_ n2_ n3_ n4_ n5_ n6_ n7_; (try clear hb); (try clear hb2); (try clear hk); (try clear hi); (try clear ho0)))
                  (try simp only [Act.put, List.setIfInBounds_toArray, List.set_cons_zero, List.set_cons_succ])
                  go_cut [99] (fun v99 wc => ∃ (kq : Nat) (x99_17 : Bool), v99 = .bool x99_17 ∧ Aside0 (sorrellaw04_LexOdd.j0 kq a1 t337 t338 ((a0.size : Int) + 1) t364 t365 t366 x99_17 = some r) ∧ Aside0 (kq ≤ k) ∧ Aside0 (Kd.R k30 30 wc w.heap.size (fun k_ => some k_ ≠ (v367 : Value).ownBlock) v341 t338) ∧ Aside0 (Kd.R k30 30 wc w.heap.size (fun k_ => some k_ ≠ (v341 : Value).ownBlock) v367 t364) ∧ Aside0 (Below w.heap.size w wc))
                  case first =>
                    have H := HC18.out
                    clear HC18
                    by_cases c31 : t344 = ((a0.size : Int) + 1)
                    · rw [if_pos c31] at H
                      have c31b0 : (t344 == ((a0.size : Int) + 1)) = true := beq_iff_eq.mpr c31
                      have c31b1 : (t344 != ((a0.size : Int) + 1)) = false := bne_eq_false_iff_eq.mpr c31
                      clear c31
                      (first | rw [c31b0] | (simp only [i64_w, i32_w]; rw [c31b0]) | skip)
                      by_cases c32 : t345 = 41
                      · rw [if_pos c32] at H
                        have c32b0 : (t345 == 41) = true := beq_iff_eq.mpr c32
                        have c32b1 : (t345 != 41) = false := bne_eq_false_iff_eq.mpr c32
                        clear c32
                        by_cases c33 : t349 = ((a0.size : Int) + 1)
                        · rw [if_pos c33] at H
                          have c33b0 : (t349 == ((a0.size : Int) + 1)) = true := beq_iff_eq.mpr c33
                          have c33b1 : (t349 != ((a0.size : Int) + 1)) = false := bne_eq_false_iff_eq.mpr c33
                          clear c33
                          by_cases c34 : t350 = 2
                          · rw [if_pos c34] at H
                            have c34b0 : (t350 == 2) = true := beq_iff_eq.mpr c34
                            have c34b1 : (t350 != 2) = false := bne_eq_false_iff_eq.mpr c34
                            clear c34
                            by_cases c35 : t357 = ((a0.size : Int) + 1)
                            · rw [if_pos c35] at H
                              have c35b0 : (t357 == ((a0.size : Int) + 1)) = true := beq_iff_eq.mpr c35
                              have c35b1 : (t357 != ((a0.size : Int) + 1)) = false := bne_eq_false_iff_eq.mpr c35
                              clear c35
                              have H' := Aside0.mk H
                              clear H
                              go_wp2
                              go_meet
                              case rel => exact ⟨_, ((t358 != 41)), (by first | rfl | (simp; done) | (simp [*]; done)), H', ⟨by first | omega | exact Nat.le_refl _⟩, ⟨by (with_reducible repeat (first | apply Kd.R_alloc | apply Kd.R_drewN | apply Kd.R_drew)); exact Kd.R_mono HO342.out (fun _ hk => hk.2)⟩, ⟨by (with_reducible repeat (first | apply Kd.R_alloc | apply Kd.R_drewN | apply Kd.R_drew)); exact Kd.R_mono HO368.out (fun _ hk => hk.1.1.1.2)⟩, ⟨by repeat (first | (with_reducible first | exact HB.out | apply below_alloc | apply pw_below_drewN | apply below_drew1) | exact HB.out)⟩⟩
                            · rw [if_neg c35] at H
                              have c35b0 : (t357 == ((a0.size : Int) + 1)) = false := beq_eq_false_iff_ne.mpr c35
                              have c35b1 : (t357 != ((a0.size : Int) + 1)) = true := bne_iff_ne.mpr c35
                              have H' := Aside0.mk H
                              clear H
                              go_wp2
                              go_meet
                              case rel => exact ⟨_, (true), (by first | rfl | (simp; done) | (simp [*]; done)), H', ⟨by first | omega | exact Nat.le_refl _⟩, ⟨by (with_reducible repeat (first | apply Kd.R_alloc | apply Kd.R_drewN | apply Kd.R_drew)); exact Kd.R_mono HO342.out (fun _ hk => hk.2)⟩, ⟨by (with_reducible repeat (first | apply Kd.R_alloc | apply Kd.R_drewN | apply Kd.R_drew)); exact Kd.R_mono HO368.out (fun _ hk => hk.1.1.1.2)⟩, ⟨by repeat (first | (with_reducible first | exact HB.out | apply below_alloc | apply pw_below_drewN | apply below_drew1) | exact HB.out)⟩⟩
                          · rw [if_neg c34] at H
                            have c34b0 : (t350 == 2) = false := beq_eq_false_iff_ne.mpr c34
                            have c34b1 : (t350 != 2) = true := bne_iff_ne.mpr c34
                            have H' := Aside0.mk H
                            clear H
                            go_wp2
                            go_meet
                            case rel => exact ⟨_, (true), (by first | rfl | (simp; done) | (simp [*]; done)), H', ⟨by first | omega | exact Nat.le_refl _⟩, ⟨by (with_reducible repeat (first | apply Kd.R_alloc | apply Kd.R_drewN | apply Kd.R_drew)); exact Kd.R_mono HO342.out (fun _ hk => hk.2)⟩, ⟨by (with_reducible repeat (first | apply Kd.R_alloc | apply Kd.R_drewN | apply Kd.R_drew)); exact Kd.R_mono HO368.out (fun _ hk => hk.1.1.1.2)⟩, ⟨by repeat (first | (with_reducible first | exact HB.out | apply below_alloc | apply pw_below_drewN | apply below_drew1) | exact HB.out)⟩⟩
                        · rw [if_neg c33] at H
                          have c33b0 : (t349 == ((a0.size : Int) + 1)) = false := beq_eq_false_iff_ne.mpr c33
                          have c33b1 : (t349 != ((a0.size : Int) + 1)) = true := bne_iff_ne.mpr c33
                          have H' := Aside0.mk H
                          clear H
                          go_wp2
                          go_meet
                          case rel => exact ⟨_, (true), (by first | rfl | (simp; done) | (simp [*]; done)), H', ⟨by first | omega | exact Nat.le_refl _⟩, ⟨by (with_reducible repeat (first | apply Kd.R_alloc | apply Kd.R_drewN | apply Kd.R_drew)); exact Kd.R_mono HO342.out (fun _ hk => hk.2)⟩, ⟨by (with_reducible repeat (first | apply Kd.R_alloc | apply Kd.R_drewN | apply Kd.R_drew)); exact Kd.R_mono HO368.out (fun _ hk => hk.1.1.1.2)⟩, ⟨by repeat (first | (with_reducible first | exact HB.out | apply below_alloc | apply pw_below_drewN | apply below_drew1) | exact HB.out)⟩⟩
                      · rw [if_neg c32] at H
                        have c32b0 : (t345 == 41) = false := beq_eq_false_iff_ne.mpr c32
                        have c32b1 : (t345 != 41) = true := bne_iff_ne.mpr c32
                        have H' := Aside0.mk H
                        clear H
                        go_wp2
                        go_meet
                        case rel => exact ⟨_, (true), (by first | rfl | (simp; done) | (simp [*]; done)), H', ⟨by first | omega | exact Nat.le_refl _⟩, ⟨by (with_reducible repeat (first | apply Kd.R_alloc | apply Kd.R_drewN | apply Kd.R_drew)); exact Kd.R_mono HO342.out (fun _ hk => hk.2)⟩, ⟨by (with_reducible repeat (first | apply Kd.R_alloc | apply Kd.R_drewN | apply Kd.R_drew)); exact Kd.R_mono HO368.out (fun _ hk => hk.1.1.1.2)⟩, ⟨by repeat (first | (with_reducible first | exact HB.out | apply below_alloc | apply pw_below_drewN | apply below_drew1) | exact HB.out)⟩⟩
                    · rw [if_neg c31] at H
                      have c31b0 : (t344 == ((a0.size : Int) + 1)) = false := beq_eq_false_iff_ne.mpr c31
                      have c31b1 : (t344 != ((a0.size : Int) + 1)) = true := bne_iff_ne.mpr c31
                      (first | rw [c31b0] | (simp only [i64_w, i32_w]; rw [c31b0]) | skip)
                      have H' := Aside0.mk H
                      clear H
                      go_wp2
                      go_meet
                      case rel => exact ⟨_, (true), (by first | rfl | (simp; done) | (simp [*]; done)), H', ⟨by first | omega | exact Nat.le_refl _⟩, ⟨by (with_reducible repeat (first | apply Kd.R_alloc | apply Kd.R_drewN | apply Kd.R_drew)); exact Kd.R_mono HO342.out (fun _ hk => hk.2)⟩, ⟨by (with_reducible repeat (first | apply Kd.R_alloc | apply Kd.R_drewN | apply Kd.R_drew)); exact Kd.R_mono HO368.out (fun _ hk => hk.1.1.1.2)⟩, ⟨by repeat (first | (with_reducible first | exact HB.out | apply below_alloc | apply pw_below_drewN | apply below_drew1) | exact HB.out)⟩⟩
                  case rest =>
                    clear HC18
                    try clear c1
                    try clear p2
                    try clear hcv2
                    try clear c3
                    try clear c4
                    try clear c4b0
                    try clear c4b1
                    try clear p6
                    try clear c7
                    try clear c7b0
                    try clear c7b1
                    try clear c8
                    try clear c8b0
                    try clear c8b1
                    try clear c8b2
                    try clear c9
                    try clear c10
                    try clear c10b0
                    try clear c10b1
                    try clear c10b2
                    try clear c11
                    try clear c12
                    try clear c12b0
                    try clear c12b1
                    try clear c12b2
                    try clear c13
                    try clear c13b0
                    try clear c13b1
                    try clear c13b2
                    try clear c15
                    try clear c15b0
                    try clear c15b1
                    try clear c15b2
                    try clear c16
                    try clear c16b0
                    try clear c16b1
                    try clear c16b2
                    try clear hcv25
                    try clear hcv29
                    try clear c31
                    try clear c31b0
                    try clear c31b1
                    try clear c32
                    try clear c32b0
                    try clear c32b1
                    try clear c33
                    try clear c33b0
                    try clear c33b1
                    try clear c34
                    try clear c34b0
                    try clear c34b1
                    try clear c35
                    try clear c35b0
                    try clear c35b1
                    obtain ⟨kq, x99_17, rfl, HA, HJ17, HO_6, HO_19, HB⟩ := hcut
                    cases kq with
                    | zero => exact absurd HA.out (by simp [sorrellaw04_LexOdd.j0])
                    | succ kj17 =>
                      have H := HA.out
                      clear HA
                      simp only [sorrellaw04_LexOdd.j0] at H
                      by_cases c36 : x99_17 = true
                      · subst c36
                        have H1 : (some false) = some r := by rw [if_pos rfl] at H; exact H
                        clear H
                        have H := H1
                        clear H1
                        obtain rfl := Option.some.inj H
                        go_wp2
                        go_ret
                        exact ⟨by first | rfl | (simp [errW_none, errW_some] <;> rfl) | (simp [*, errW_none, errW_some] <;> rfl), by repeat (first | (with_reducible first | exact HB.out | apply below_alloc | apply pw_below_drewN | apply below_drew1) | exact HB.out)⟩
                      · replace c36 := Bool.eq_false_iff.mpr c36
                        subst c36
                        have H1 : ((sorrelref04_Blank.f a1).bind fun t369 => (if t369 = true then (sorrellaw04_LexOdd.j1 kj17 a1 t337 t338 ((a0.size : Int) + 1) t364 t365 t366 true) else (sorrellaw04_LexOdd.j1 kj17 a1 t337 t338 ((a0.size : Int) + 1) t364 t365 t366 (a1 == 37)))) = some r := by rw [if_neg (show ¬ (false = true) by decide)] at H; exact H
                        clear H
                        have H := H1
                        clear H1
                        have HC37 := Aside0.mk H
                        clear H
                        go_upto_region 14 with (fail)
                        go_cut [105] (fun v105 wc => ∃ (kq : Nat) (x105_36 : Bool), v105 = .bool x105_36 ∧ Aside0 (sorrellaw04_LexOdd.j1 kq a1 t337 t338 ((a0.size : Int) + 1) t364 t365 t366 x105_36 = some r) ∧ Aside0 (kq ≤ kj17) ∧ Aside0 (Kd.R k30 30 wc w.heap.size (fun k_ => some k_ ≠ (v367 : Value).ownBlock) v341 t338) ∧ Aside0 (Kd.R k30 30 wc w.heap.size (fun k_ => some k_ ≠ (v341 : Value).ownBlock) v367 t364) ∧ Aside0 (Below w.heap.size w wc))
                        case first =>
                          have H := HC37.out
                          clear HC37
                          replace H := Option.bind_eq_some_iff.mp H
                          obtain ⟨t369, A380, H⟩ := H
                          replace H : (if t369 = true then (sorrellaw04_LexOdd.j1 kj17 a1 t337 t338 ((a0.size : Int) + 1) t364 t365 t366 true) else (sorrellaw04_LexOdd.j1 kj17 a1 t337 t338 ((a0.size : Int) + 1) t364 t365 t366 (a1 == 37))) = some r := H
                          have A38 := Aside0.mk A380
                          clear A380
                          by_cases c39 : t369 = true
                          · subst c39
                            have H1 : (sorrellaw04_LexOdd.j1 kj17 a1 t337 t338 ((a0.size : Int) + 1) t364 t365 t366 true) = some r := by rw [if_pos rfl] at H; exact H
                            clear H
                            have H := H1
                            clear H1
                            have H' := Aside0.mk H
                            clear H
                            go_wp2_with (first | ((with_reducible refine gate_callee (f := 22) rfl ?_); refine goesL_ (some 101) rfl rfl Tryd.func22 (by kernel_rfl) rfl #[.int .u8 a1] rfl (by (try simp only [List.map_toArray, List.map_cons, List.map_nil]); first | done | rfl | (simp only [List.length_drop, List.length_take]; rfl)) ?_; (with_reducible refine (sorrelref04_Blank.calls a1 true _ A38.out).mono ?_); rintro e w' ⟨rfl, ⟨nd, rfl⟩⟩; refine ⟨_, rfl, ?_⟩))
                            go_meet
                            case rel => exact ⟨_, (true), (by first | rfl | (simp; done) | (simp [*]; done)), H', ⟨by have := HJ17.out; first | omega | exact Nat.le_refl _⟩, ⟨by (with_reducible repeat (first | apply Kd.R_alloc | apply Kd.R_drewN | apply Kd.R_drew)); exact HO_6.out⟩, ⟨by (with_reducible repeat (first | apply Kd.R_alloc | apply Kd.R_drewN | apply Kd.R_drew)); exact HO_19.out⟩, ⟨by repeat (first | (with_reducible first | exact HB.out | apply below_alloc | apply pw_below_drewN | apply below_drew1) | exact HB.out)⟩⟩
                          · replace c39 := Bool.eq_false_iff.mpr c39
                            subst c39
                            have H1 : (sorrellaw04_LexOdd.j1 kj17 a1 t337 t338 ((a0.size : Int) + 1) t364 t365 t366 (a1 == 37)) = some r := by rw [if_neg (show ¬ (false = true) by decide)] at H; exact H
                            clear H
                            have H := H1
                            clear H1
                            have H' := Aside0.mk H
                            clear H
                            go_wp2_with (first | ((with_reducible refine gate_callee (f := 22) rfl ?_); refine goesL_ (some 101) rfl rfl Tryd.func22 (by kernel_rfl) rfl #[.int .u8 a1] rfl (by (try simp only [List.map_toArray, List.map_cons, List.map_nil]); first | done | rfl | (simp only [List.length_drop, List.length_take]; rfl)) ?_; (with_reducible refine (sorrelref04_Blank.calls a1 false _ A38.out).mono ?_); rintro e w' ⟨rfl, ⟨nd, rfl⟩⟩; refine ⟨_, rfl, ?_⟩))
                            go_meet
                            case rel => exact ⟨_, ((a1 == 37)), (by first | rfl | (simp; done) | (simp [*]; done)), H', ⟨by have := HJ17.out; first | omega | exact Nat.le_refl _⟩, ⟨by (with_reducible repeat (first | apply Kd.R_alloc | apply Kd.R_drewN | apply Kd.R_drew)); exact HO_6.out⟩, ⟨by (with_reducible repeat (first | apply Kd.R_alloc | apply Kd.R_drewN | apply Kd.R_drew)); exact HO_19.out⟩, ⟨by repeat (first | (with_reducible first | exact HB.out | apply below_alloc | apply pw_below_drewN | apply below_drew1) | exact HB.out)⟩⟩
                        case rest =>
                          clear HC37
                          try clear c1
                          try clear c2
                          try clear p2
                          try clear hcv2
                          try clear c3
                          try clear c4
                          try clear c4b0
                          try clear c4b1
                          try clear p6
                          try clear c7
                          try clear c7b0
                          try clear c7b1
                          try clear c8
                          try clear c8b0
                          try clear c8b1
                          try clear c8b2
                          try clear c9
                          try clear c10
                          try clear c10b0
                          try clear c10b1
                          try clear c10b2
                          try clear c11
                          try clear c12
                          try clear c12b0
                          try clear c12b1
                          try clear c12b2
                          try clear c13
                          try clear c13b0
                          try clear c13b1
                          try clear c13b2
                          try clear c15
                          try clear c15b0
                          try clear c15b1
                          try clear c15b2
                          try clear c16
                          try clear c16b0
                          try clear c16b1
                          try clear c16b2
                          try clear c22
                          try clear hcv25
                          try clear hcv29
                          try clear c31
                          try clear c31b0
                          try clear c31b1
                          try clear c32
                          try clear c32b0
                          try clear c32b1
                          try clear c33
                          try clear c33b0
                          try clear c33b1
                          try clear c34
                          try clear c34b0
                          try clear c34b1
                          try clear c35
                          try clear c35b0
                          try clear c35b1
                          try clear c36
                          try clear c39
                          try clear p2
                          try clear p6
                          obtain ⟨kq, x105_36, rfl, HA, HJ36, HO_6, HO_19, HB⟩ := hcut
                          cases kq with
                          | zero => exact absurd HA.out (by simp [sorrellaw04_LexOdd.j1])
                          | succ kj36 =>
                            have H := HA.out
                            clear HA
                            simp only [sorrellaw04_LexOdd.j1] at H
                            by_cases c40 : x105_36 = true
                            · subst c40
                              have H1 : (if t337 = true then (if t366 = 0 then (some ((t364.length : Int) == (t338.length : Int))) else (some false)) else (some false)) = some r := by rw [if_pos rfl] at H; exact H
                              clear H
                              have H := H1
                              clear H1
                              by_cases c41 : t337 = true
                              · subst c41
                                have H1 : (if t366 = 0 then (some ((t364.length : Int) == (t338.length : Int))) else (some false)) = some r := by rw [if_pos rfl] at H; exact H
                                clear H
                                have H := H1
                                clear H1
                                by_cases c42 : t366 = 0
                                · rw [if_pos c42] at H
                                  have c42b0 : (t366 == 0) = true := beq_iff_eq.mpr c42
                                  have c42b1 : (t366 != 0) = false := bne_eq_false_iff_eq.mpr c42
                                  clear c42
                                  obtain rfl := Option.some.inj H
                                  obtain ⟨Ao43, co43, eo43⟩ := Kd.R_slice HO_19.out
                                  subst eo43
                                  obtain ⟨Ao44, co44, eo44⟩ := Kd.R_slice HO_6.out
                                  subst eo44
                                  go_wp2
                                  go_ret
                                  exact ⟨by first | rfl | (simp [errW_none, errW_some] <;> rfl) | (simp [*, errW_none, errW_some] <;> rfl), by repeat (first | (with_reducible first | exact HB.out | apply below_alloc | apply pw_below_drewN | apply below_drew1) | exact HB.out)⟩
                                · rw [if_neg c42] at H
                                  have c42b0 : (t366 == 0) = false := beq_eq_false_iff_ne.mpr c42
                                  have c42b1 : (t366 != 0) = true := bne_iff_ne.mpr c42
                                  obtain rfl := Option.some.inj H
                                  go_wp2
                                  go_ret
                                  exact ⟨by first | rfl | (simp [errW_none, errW_some] <;> rfl) | (simp [*, errW_none, errW_some] <;> rfl), by repeat (first | (with_reducible first | exact HB.out | apply below_alloc | apply pw_below_drewN | apply below_drew1) | exact HB.out)⟩
                              · replace c41 := Bool.eq_false_iff.mpr c41
                                subst c41
                                have H1 : (some false) = some r := by rw [if_neg (show ¬ (false = true) by decide)] at H; exact H
                                clear H
                                have H := H1
                                clear H1
                                obtain rfl := Option.some.inj H
                                go_wp2
                                go_ret
                                exact ⟨by first | rfl | (simp [errW_none, errW_some] <;> rfl) | (simp [*, errW_none, errW_some] <;> rfl), by repeat (first | (with_reducible first | exact HB.out | apply below_alloc | apply pw_below_drewN | apply below_drew1) | exact HB.out)⟩
                            · replace c40 := Bool.eq_false_iff.mpr c40
                              subst c40
                              have H1 : ((sorrelref04_Letter.f a1).bind fun t370 => (if t370 = true then (sorrellaw04_LexOdd.j2 kj36 a1 t337 t338 ((a0.size : Int) + 1) t364 t365 t366 true) else ((sorrelref04_Sign.f kj36 a1).bind fun t371 => (if t371 = true then (sorrellaw04_LexOdd.j2 kj36 a1 t337 t338 ((a0.size : Int) + 1) t364 t365 t366 true) else (if a1 = 40 then (sorrellaw04_LexOdd.j2 kj36 a1 t337 t338 ((a0.size : Int) + 1) t364 t365 t366 true) else (if a1 = 41 then (sorrellaw04_LexOdd.j2 kj36 a1 t337 t338 ((a0.size : Int) + 1) t364 t365 t366 true) else (if a1 = 91 then (sorrellaw04_LexOdd.j2 kj36 a1 t337 t338 ((a0.size : Int) + 1) t364 t365 t366 true) else (if a1 = 93 then (sorrellaw04_LexOdd.j2 kj36 a1 t337 t338 ((a0.size : Int) + 1) t364 t365 t366 true) else (if a1 = 44 then (sorrellaw04_LexOdd.j2 kj36 a1 t337 t338 ((a0.size : Int) + 1) t364 t365 t366 true) else (sorrellaw04_LexOdd.j2 kj36 a1 t337 t338 ((a0.size : Int) + 1) t364 t365 t366 (a1 == 124))))))))))) = some r := by rw [if_neg (show ¬ (false = true) by decide)] at H; exact H
                              clear H
                              have H := H1
                              clear H1
                              have HC45 := Aside0.mk H
                              clear H
                              go_upto_region 16 with (fail)
                              go_cut [147] (fun v147 wc => ∃ (kq : Nat) (x147_44 : Bool), v147 = .bool x147_44 ∧ Aside0 (sorrellaw04_LexOdd.j2 kq a1 t337 t338 ((a0.size : Int) + 1) t364 t365 t366 x147_44 = some r) ∧ Aside0 (kq ≤ kj36) ∧ Aside0 (Kd.R k30 30 wc w.heap.size (fun k_ => some k_ ≠ (v367 : Value).ownBlock) v341 t338) ∧ Aside0 (Kd.R k30 30 wc w.heap.size (fun k_ => some k_ ≠ (v341 : Value).ownBlock) v367 t364) ∧ Aside0 (Below w.heap.size w wc))
                              case first =>
                                have H := HC45.out
                                clear HC45
                                replace H := Option.bind_eq_some_iff.mp H
                                obtain ⟨t370, A460, H⟩ := H
                                replace H : (if t370 = true then (sorrellaw04_LexOdd.j2 kj36 a1 t337 t338 ((a0.size : Int) + 1) t364 t365 t366 true) else ((sorrelref04_Sign.f kj36 a1).bind fun t371 => (if t371 = true then (sorrellaw04_LexOdd.j2 kj36 a1 t337 t338 ((a0.size : Int) + 1) t364 t365 t366 true) else (if a1 = 40 then (sorrellaw04_LexOdd.j2 kj36 a1 t337 t338 ((a0.size : Int) + 1) t364 t365 t366 true) else (if a1 = 41 then (sorrellaw04_LexOdd.j2 kj36 a1 t337 t338 ((a0.size : Int) + 1) t364 t365 t366 true) else (if a1 = 91 then (sorrellaw04_LexOdd.j2 kj36 a1 t337 t338 ((a0.size : Int) + 1) t364 t365 t366 true) else (if a1 = 93 then (sorrellaw04_LexOdd.j2 kj36 a1 t337 t338 ((a0.size : Int) + 1) t364 t365 t366 true) else (if a1 = 44 then (sorrellaw04_LexOdd.j2 kj36 a1 t337 t338 ((a0.size : Int) + 1) t364 t365 t366 true) else (sorrellaw04_LexOdd.j2 kj36 a1 t337 t338 ((a0.size : Int) + 1) t364 t365 t366 (a1 == 124)))))))))) = some r := H
                                have A46 := Aside0.mk A460
                                clear A460
                                by_cases c47 : t370 = true
                                · subst c47
                                  have H1 : (sorrellaw04_LexOdd.j2 kj36 a1 t337 t338 ((a0.size : Int) + 1) t364 t365 t366 true) = some r := by rw [if_pos rfl] at H; exact H
                                  clear H
                                  have H := H1
                                  clear H1
                                  have H' := Aside0.mk H
                                  clear H
                                  go_wp2_with (first | ((with_reducible refine gate_callee (f := 23) rfl ?_); refine goesL_ (some 119) rfl rfl Tryd.func23 (by kernel_rfl) rfl #[.int .u8 a1] rfl (by (try simp only [List.map_toArray, List.map_cons, List.map_nil]); first | done | rfl | (simp only [List.length_drop, List.length_take]; rfl)) ?_; (with_reducible refine (sorrelref04_Letter.calls a1 true _ A46.out).mono ?_); rintro e w' ⟨rfl, ⟨nd, rfl⟩⟩; refine ⟨_, rfl, ?_⟩))
                                  go_meet
                                  case rel => exact ⟨_, (true), (by first | rfl | (simp; done) | (simp [*]; done)), H', ⟨by have := HJ17.out; have := HJ36.out; first | omega | exact Nat.le_refl _⟩, ⟨by (with_reducible repeat (first | apply Kd.R_alloc | apply Kd.R_drewN | apply Kd.R_drew)); exact HO_6.out⟩, ⟨by (with_reducible repeat (first | apply Kd.R_alloc | apply Kd.R_drewN | apply Kd.R_drew)); exact HO_19.out⟩, ⟨by repeat (first | (with_reducible first | exact HB.out | apply below_alloc | apply pw_below_drewN | apply below_drew1) | exact HB.out)⟩⟩
                                · replace c47 := Bool.eq_false_iff.mpr c47
                                  subst c47
                                  have H1 : ((sorrelref04_Sign.f kj36 a1).bind fun t371 => (if t371 = true then (sorrellaw04_LexOdd.j2 kj36 a1 t337 t338 ((a0.size : Int) + 1) t364 t365 t366 true) else (if a1 = 40 then (sorrellaw04_LexOdd.j2 kj36 a1 t337 t338 ((a0.size : Int) + 1) t364 t365 t366 true) else (if a1 = 41 then (sorrellaw04_LexOdd.j2 kj36 a1 t337 t338 ((a0.size : Int) + 1) t364 t365 t366 true) else (if a1 = 91 then (sorrellaw04_LexOdd.j2 kj36 a1 t337 t338 ((a0.size : Int) + 1) t364 t365 t366 true) else (if a1 = 93 then (sorrellaw04_LexOdd.j2 kj36 a1 t337 t338 ((a0.size : Int) + 1) t364 t365 t366 true) else (if a1 = 44 then (sorrellaw04_LexOdd.j2 kj36 a1 t337 t338 ((a0.size : Int) + 1) t364 t365 t366 true) else (sorrellaw04_LexOdd.j2 kj36 a1 t337 t338 ((a0.size : Int) + 1) t364 t365 t366 (a1 == 124))))))))) = some r := by rw [if_neg (show ¬ (false = true) by decide)] at H; exact H
                                  clear H
                                  have H := H1
                                  clear H1
                                  replace H := Option.bind_eq_some_iff.mp H
                                  obtain ⟨t371, A480, H⟩ := H
                                  replace H : (if t371 = true then (sorrellaw04_LexOdd.j2 kj36 a1 t337 t338 ((a0.size : Int) + 1) t364 t365 t366 true) else (if a1 = 40 then (sorrellaw04_LexOdd.j2 kj36 a1 t337 t338 ((a0.size : Int) + 1) t364 t365 t366 true) else (if a1 = 41 then (sorrellaw04_LexOdd.j2 kj36 a1 t337 t338 ((a0.size : Int) + 1) t364 t365 t366 true) else (if a1 = 91 then (sorrellaw04_LexOdd.j2 kj36 a1 t337 t338 ((a0.size : Int) + 1) t364 t365 t366 true) else (if a1 = 93 then (sorrellaw04_LexOdd.j2 kj36 a1 t337 t338 ((a0.size : Int) + 1) t364 t365 t366 true) else (if a1 = 44 then (sorrellaw04_LexOdd.j2 kj36 a1 t337 t338 ((a0.size : Int) + 1) t364 t365 t366 true) else (sorrellaw04_LexOdd.j2 kj36 a1 t337 t338 ((a0.size : Int) + 1) t364 t365 t366 (a1 == 124)))))))) = some r := H
                                  have A48 := Aside0.mk A480
                                  clear A480
                                  by_cases c49 : t371 = true
                                  · subst c49
                                    have H1 : (sorrellaw04_LexOdd.j2 kj36 a1 t337 t338 ((a0.size : Int) + 1) t364 t365 t366 true) = some r := by rw [if_pos rfl] at H; exact H
                                    clear H
                                    have H := H1
                                    clear H1
                                    have H' := Aside0.mk H
                                    clear H
                                    go_wp2_with (first | ((with_reducible refine gate_callee (f := 23) rfl ?_); refine goesL_ (some 119) rfl rfl Tryd.func23 (by kernel_rfl) rfl #[.int .u8 a1] rfl (by (try simp only [List.map_toArray, List.map_cons, List.map_nil]); first | done | rfl | (simp only [List.length_drop, List.length_take]; rfl)) ?_; (with_reducible refine (sorrelref04_Letter.calls a1 false _ A46.out).mono ?_); rintro e w' ⟨rfl, ⟨nd, rfl⟩⟩; refine ⟨_, rfl, ?_⟩) | (go_at_call 21; (with_reducible refine (sorrelref04_Sign.calls kj36 a1 true _ A48.out).mono ?_); rintro e w' ⟨rfl, ⟨nd, rfl⟩⟩))
                                    go_meet
                                    case rel => exact ⟨_, (true), (by first | rfl | (simp; done) | (simp [*]; done)), H', ⟨by have := HJ17.out; have := HJ36.out; first | omega | exact Nat.le_refl _⟩, ⟨by (with_reducible repeat (first | apply Kd.R_alloc | apply Kd.R_drewN | apply Kd.R_drew)); exact HO_6.out⟩, ⟨by (with_reducible repeat (first | apply Kd.R_alloc | apply Kd.R_drewN | apply Kd.R_drew)); exact HO_19.out⟩, ⟨by repeat (first | (with_reducible first | exact HB.out | apply below_alloc | apply pw_below_drewN | apply below_drew1) | exact HB.out)⟩⟩
                                  · replace c49 := Bool.eq_false_iff.mpr c49
                                    subst c49
                                    have H1 : (if a1 = 40 then (sorrellaw04_LexOdd.j2 kj36 a1 t337 t338 ((a0.size : Int) + 1) t364 t365 t366 true) else (if a1 = 41 then (sorrellaw04_LexOdd.j2 kj36 a1 t337 t338 ((a0.size : Int) + 1) t364 t365 t366 true) else (if a1 = 91 then (sorrellaw04_LexOdd.j2 kj36 a1 t337 t338 ((a0.size : Int) + 1) t364 t365 t366 true) else (if a1 = 93 then (sorrellaw04_LexOdd.j2 kj36 a1 t337 t338 ((a0.size : Int) + 1) t364 t365 t366 true) else (if a1 = 44 then (sorrellaw04_LexOdd.j2 kj36 a1 t337 t338 ((a0.size : Int) + 1) t364 t365 t366 true) else (sorrellaw04_LexOdd.j2 kj36 a1 t337 t338 ((a0.size : Int) + 1) t364 t365 t366 (a1 == 124))))))) = some r := by rw [if_neg (show ¬ (false = true) by decide)] at H; exact H
                                    clear H
                                    have H := H1
                                    clear H1
                                    by_cases c50 : a1 = 40
                                    · rw [if_pos c50] at H
                                      have c50b0 : (a1 == 40) = true := beq_iff_eq.mpr c50
                                      have c50b1 : (a1 != 40) = false := bne_eq_false_iff_eq.mpr c50
                                      clear c50
                                      (first | rw [c50b0] | (simp only [i64_w, i32_w]; rw [c50b0]) | skip)
                                      have H' := Aside0.mk H
                                      clear H
                                      go_wp2_with (first | ((with_reducible refine gate_callee (f := 23) rfl ?_); refine goesL_ (some 119) rfl rfl Tryd.func23 (by kernel_rfl) rfl #[.int .u8 a1] rfl (by (try simp only [List.map_toArray, List.map_cons, List.map_nil]); first | done | rfl | (simp only [List.length_drop, List.length_take]; rfl)) ?_; (with_reducible refine (sorrelref04_Letter.calls a1 false _ A46.out).mono ?_); rintro e w' ⟨rfl, ⟨nd, rfl⟩⟩; refine ⟨_, rfl, ?_⟩) | (go_at_call 21; (with_reducible refine (sorrelref04_Sign.calls kj36 a1 false _ A48.out).mono ?_); rintro e w' ⟨rfl, ⟨nd, rfl⟩⟩))
                                      go_meet
                                      case rel => exact ⟨_, (true), (by first | rfl | (simp; done) | (simp [*]; done)), H', ⟨by have := HJ17.out; have := HJ36.out; first | omega | exact Nat.le_refl _⟩, ⟨by (with_reducible repeat (first | apply Kd.R_alloc | apply Kd.R_drewN | apply Kd.R_drew)); exact HO_6.out⟩, ⟨by (with_reducible repeat (first | apply Kd.R_alloc | apply Kd.R_drewN | apply Kd.R_drew)); exact HO_19.out⟩, ⟨by repeat (first | (with_reducible first | exact HB.out | apply below_alloc | apply pw_below_drewN | apply below_drew1) | exact HB.out)⟩⟩
                                    · rw [if_neg c50] at H
                                      have c50b0 : (a1 == 40) = false := beq_eq_false_iff_ne.mpr c50
                                      have c50b1 : (a1 != 40) = true := bne_iff_ne.mpr c50
                                      (first | rw [c50b0] | (simp only [i64_w, i32_w]; rw [c50b0]) | skip)
                                      by_cases c51 : a1 = 41
                                      · rw [if_pos c51] at H
                                        have c51b0 : (a1 == 41) = true := beq_iff_eq.mpr c51
                                        have c51b1 : (a1 != 41) = false := bne_eq_false_iff_eq.mpr c51
                                        clear c51
                                        have H' := Aside0.mk H
                                        clear H
                                        go_wp2_with (first | ((with_reducible refine gate_callee (f := 23) rfl ?_); refine goesL_ (some 119) rfl rfl Tryd.func23 (by kernel_rfl) rfl #[.int .u8 a1] rfl (by (try simp only [List.map_toArray, List.map_cons, List.map_nil]); first | done | rfl | (simp only [List.length_drop, List.length_take]; rfl)) ?_; (with_reducible refine (sorrelref04_Letter.calls a1 false _ A46.out).mono ?_); rintro e w' ⟨rfl, ⟨nd, rfl⟩⟩; refine ⟨_, rfl, ?_⟩) | (go_at_call 21; (with_reducible refine (sorrelref04_Sign.calls kj36 a1 false _ A48.out).mono ?_); rintro e w' ⟨rfl, ⟨nd, rfl⟩⟩))
                                        go_meet
                                        case rel => exact ⟨_, (true), (by first | rfl | (simp; done) | (simp [*]; done)), H', ⟨by have := HJ17.out; have := HJ36.out; first | omega | exact Nat.le_refl _⟩, ⟨by (with_reducible repeat (first | apply Kd.R_alloc | apply Kd.R_drewN | apply Kd.R_drew)); exact HO_6.out⟩, ⟨by (with_reducible repeat (first | apply Kd.R_alloc | apply Kd.R_drewN | apply Kd.R_drew)); exact HO_19.out⟩, ⟨by repeat (first | (with_reducible first | exact HB.out | apply below_alloc | apply pw_below_drewN | apply below_drew1) | exact HB.out)⟩⟩
                                      · rw [if_neg c51] at H
                                        have c51b0 : (a1 == 41) = false := beq_eq_false_iff_ne.mpr c51
                                        have c51b1 : (a1 != 41) = true := bne_iff_ne.mpr c51
                                        by_cases c52 : a1 = 91
                                        · rw [if_pos c52] at H
                                          have c52b0 : (a1 == 91) = true := beq_iff_eq.mpr c52
                                          have c52b1 : (a1 != 91) = false := bne_eq_false_iff_eq.mpr c52
                                          clear c52
                                          have H' := Aside0.mk H
                                          clear H
                                          go_wp2_with (first | ((with_reducible refine gate_callee (f := 23) rfl ?_); refine goesL_ (some 119) rfl rfl Tryd.func23 (by kernel_rfl) rfl #[.int .u8 a1] rfl (by (try simp only [List.map_toArray, List.map_cons, List.map_nil]); first | done | rfl | (simp only [List.length_drop, List.length_take]; rfl)) ?_; (with_reducible refine (sorrelref04_Letter.calls a1 false _ A46.out).mono ?_); rintro e w' ⟨rfl, ⟨nd, rfl⟩⟩; refine ⟨_, rfl, ?_⟩) | (go_at_call 21; (with_reducible refine (sorrelref04_Sign.calls kj36 a1 false _ A48.out).mono ?_); rintro e w' ⟨rfl, ⟨nd, rfl⟩⟩))
                                          go_meet
                                          case rel => exact ⟨_, (true), (by first | rfl | (simp; done) | (simp [*]; done)), H', ⟨by have := HJ17.out; have := HJ36.out; first | omega | exact Nat.le_refl _⟩, ⟨by (with_reducible repeat (first | apply Kd.R_alloc | apply Kd.R_drewN | apply Kd.R_drew)); exact HO_6.out⟩, ⟨by (with_reducible repeat (first | apply Kd.R_alloc | apply Kd.R_drewN | apply Kd.R_drew)); exact HO_19.out⟩, ⟨by repeat (first | (with_reducible first | exact HB.out | apply below_alloc | apply pw_below_drewN | apply below_drew1) | exact HB.out)⟩⟩
                                        · rw [if_neg c52] at H
                                          have c52b0 : (a1 == 91) = false := beq_eq_false_iff_ne.mpr c52
                                          have c52b1 : (a1 != 91) = true := bne_iff_ne.mpr c52
                                          by_cases c53 : a1 = 93
                                          · rw [if_pos c53] at H
                                            have c53b0 : (a1 == 93) = true := beq_iff_eq.mpr c53
                                            have c53b1 : (a1 != 93) = false := bne_eq_false_iff_eq.mpr c53
                                            clear c53
                                            have H' := Aside0.mk H
                                            clear H
                                            go_wp2_with (first | ((with_reducible refine gate_callee (f := 23) rfl ?_); refine goesL_ (some 119) rfl rfl Tryd.func23 (by kernel_rfl) rfl #[.int .u8 a1] rfl (by (try simp only [List.map_toArray, List.map_cons, List.map_nil]); first | done | rfl | (simp only [List.length_drop, List.length_take]; rfl)) ?_; (with_reducible refine (sorrelref04_Letter.calls a1 false _ A46.out).mono ?_); rintro e w' ⟨rfl, ⟨nd, rfl⟩⟩; refine ⟨_, rfl, ?_⟩) | (go_at_call 21; (with_reducible refine (sorrelref04_Sign.calls kj36 a1 false _ A48.out).mono ?_); rintro e w' ⟨rfl, ⟨nd, rfl⟩⟩))
                                            go_meet
                                            case rel => exact ⟨_, (true), (by first | rfl | (simp; done) | (simp [*]; done)), H', ⟨by have := HJ17.out; have := HJ36.out; first | omega | exact Nat.le_refl _⟩, ⟨by (with_reducible repeat (first | apply Kd.R_alloc | apply Kd.R_drewN | apply Kd.R_drew)); exact HO_6.out⟩, ⟨by (with_reducible repeat (first | apply Kd.R_alloc | apply Kd.R_drewN | apply Kd.R_drew)); exact HO_19.out⟩, ⟨by repeat (first | (with_reducible first | exact HB.out | apply below_alloc | apply pw_below_drewN | apply below_drew1) | exact HB.out)⟩⟩
                                          · rw [if_neg c53] at H
                                            have c53b0 : (a1 == 93) = false := beq_eq_false_iff_ne.mpr c53
                                            have c53b1 : (a1 != 93) = true := bne_iff_ne.mpr c53
                                            by_cases c54 : a1 = 44
                                            · rw [if_pos c54] at H
                                              have c54b0 : (a1 == 44) = true := beq_iff_eq.mpr c54
                                              have c54b1 : (a1 != 44) = false := bne_eq_false_iff_eq.mpr c54
                                              clear c54
                                              have H' := Aside0.mk H
                                              clear H
                                              go_wp2_with (first | ((with_reducible refine gate_callee (f := 23) rfl ?_); refine goesL_ (some 119) rfl rfl Tryd.func23 (by kernel_rfl) rfl #[.int .u8 a1] rfl (by (try simp only [List.map_toArray, List.map_cons, List.map_nil]); first | done | rfl | (simp only [List.length_drop, List.length_take]; rfl)) ?_; (with_reducible refine (sorrelref04_Letter.calls a1 false _ A46.out).mono ?_); rintro e w' ⟨rfl, ⟨nd, rfl⟩⟩; refine ⟨_, rfl, ?_⟩) | (go_at_call 21; (with_reducible refine (sorrelref04_Sign.calls kj36 a1 false _ A48.out).mono ?_); rintro e w' ⟨rfl, ⟨nd, rfl⟩⟩))
                                              go_meet
                                              case rel => exact ⟨_, (true), (by first | rfl | (simp; done) | (simp [*]; done)), H', ⟨by have := HJ17.out; have := HJ36.out; first | omega | exact Nat.le_refl _⟩, ⟨by (with_reducible repeat (first | apply Kd.R_alloc | apply Kd.R_drewN | apply Kd.R_drew)); exact HO_6.out⟩, ⟨by (with_reducible repeat (first | apply Kd.R_alloc | apply Kd.R_drewN | apply Kd.R_drew)); exact HO_19.out⟩, ⟨by repeat (first | (with_reducible first | exact HB.out | apply below_alloc | apply pw_below_drewN | apply below_drew1) | exact HB.out)⟩⟩
                                            · rw [if_neg c54] at H
                                              have c54b0 : (a1 == 44) = false := beq_eq_false_iff_ne.mpr c54
                                              have c54b1 : (a1 != 44) = true := bne_iff_ne.mpr c54
                                              have H' := Aside0.mk H
                                              clear H
                                              go_wp2_with (first | ((with_reducible refine gate_callee (f := 23) rfl ?_); refine goesL_ (some 119) rfl rfl Tryd.func23 (by kernel_rfl) rfl #[.int .u8 a1] rfl (by (try simp only [List.map_toArray, List.map_cons, List.map_nil]); first | done | rfl | (simp only [List.length_drop, List.length_take]; rfl)) ?_; (with_reducible refine (sorrelref04_Letter.calls a1 false _ A46.out).mono ?_); rintro e w' ⟨rfl, ⟨nd, rfl⟩⟩; refine ⟨_, rfl, ?_⟩) | (go_at_call 21; (with_reducible refine (sorrelref04_Sign.calls kj36 a1 false _ A48.out).mono ?_); rintro e w' ⟨rfl, ⟨nd, rfl⟩⟩))
                                              go_meet
                                              case rel => exact ⟨_, ((a1 == 124)), (by first | rfl | (simp; done) | (simp [*]; done)), H', ⟨by have := HJ17.out; have := HJ36.out; first | omega | exact Nat.le_refl _⟩, ⟨by (with_reducible repeat (first | apply Kd.R_alloc | apply Kd.R_drewN | apply Kd.R_drew)); exact HO_6.out⟩, ⟨by (with_reducible repeat (first | apply Kd.R_alloc | apply Kd.R_drewN | apply Kd.R_drew)); exact HO_19.out⟩, ⟨by repeat (first | (with_reducible first | exact HB.out | apply below_alloc | apply pw_below_drewN | apply below_drew1) | exact HB.out)⟩⟩
                              case rest =>
                                clear HC45
                                try clear c1
                                try clear c2
                                try clear p2
                                try clear hcv2
                                try clear c3
                                try clear c4
                                try clear c4b0
                                try clear c4b1
                                try clear c5
                                try clear p6
                                try clear c7
                                try clear c7b0
                                try clear c7b1
                                try clear c8
                                try clear c8b0
                                try clear c8b1
                                try clear c8b2
                                try clear c9
                                try clear c10
                                try clear c10b0
                                try clear c10b1
                                try clear c10b2
                                try clear c11
                                try clear c12
                                try clear c12b0
                                try clear c12b1
                                try clear c12b2
                                try clear c13
                                try clear c13b0
                                try clear c13b1
                                try clear c13b2
                                try clear c15
                                try clear c15b0
                                try clear c15b1
                                try clear c15b2
                                try clear c16
                                try clear c16b0
                                try clear c16b1
                                try clear c16b2
                                try clear c22
                                try clear c23
                                try clear hcv25
                                try clear hcv29
                                try clear c31
                                try clear c31b0
                                try clear c31b1
                                try clear c32
                                try clear c32b0
                                try clear c32b1
                                try clear c33
                                try clear c33b0
                                try clear c33b1
                                try clear c34
                                try clear c34b0
                                try clear c34b1
                                try clear c35
                                try clear c35b0
                                try clear c35b1
                                try clear c36
                                try clear c39
                                try clear c40
                                try clear c41
                                try clear c42
                                try clear c42b0
                                try clear c42b1
                                try clear c47
                                try clear c49
                                try clear c50
                                try clear c50b0
                                try clear c50b1
                                try clear c51
                                try clear c51b0
                                try clear c51b1
                                try clear c52
                                try clear c52b0
                                try clear c52b1
                                try clear c53
                                try clear c53b0
                                try clear c53b1
                                try clear c54
                                try clear c54b0
                                try clear c54b1
                                try clear p2
                                try clear p6
                                obtain ⟨kq, x147_44, rfl, HA, HJ44, HO_6, HO_19, HB⟩ := hcut
                                cases kq with
                                | zero => exact absurd HA.out (by simp [sorrellaw04_LexOdd.j2])
                                | succ kj44 =>
                                  have H := HA.out
                                  clear HA
                                  simp only [sorrellaw04_LexOdd.j2] at H
                                  by_cases c55 : x147_44 = true
                                  · subst c55
                                    have H1 : (if t337 = true then (if t366 = 0 then (some ((t364.length : Int) == (wrap64 ((t338.length : Int) + 1)))) else (some false)) else (some false)) = some r := by rw [if_pos rfl] at H; exact H
                                    clear H
                                    have H := H1
                                    clear H1
                                    by_cases c56 : t337 = true
                                    · subst c56
                                      have H1 : (if t366 = 0 then (some ((t364.length : Int) == (wrap64 ((t338.length : Int) + 1)))) else (some false)) = some r := by rw [if_pos rfl] at H; exact H
                                      clear H
                                      have H := H1
                                      clear H1
                                      by_cases c57 : t366 = 0
                                      · rw [if_pos c57] at H
                                        have c57b0 : (t366 == 0) = true := beq_iff_eq.mpr c57
                                        have c57b1 : (t366 != 0) = false := bne_eq_false_iff_eq.mpr c57
                                        clear c57
                                        obtain rfl := Option.some.inj H
                                        obtain ⟨Ao58, co58, eo58⟩ := Kd.R_slice HO_19.out
                                        subst eo58
                                        obtain ⟨Ao59, co59, eo59⟩ := Kd.R_slice HO_6.out
                                        subst eo59
                                        go_wp2
                                        go_ret
                                        exact ⟨by first | rfl | (simp [errW_none, errW_some] <;> rfl) | (simp [*, errW_none, errW_some] <;> rfl), by repeat (first | (with_reducible first | exact HB.out | apply below_alloc | apply pw_below_drewN | apply below_drew1) | exact HB.out)⟩
                                      · rw [if_neg c57] at H
                                        have c57b0 : (t366 == 0) = false := beq_eq_false_iff_ne.mpr c57
                                        have c57b1 : (t366 != 0) = true := bne_iff_ne.mpr c57
                                        obtain rfl := Option.some.inj H
                                        go_wp2
                                        go_ret
                                        exact ⟨by first | rfl | (simp [errW_none, errW_some] <;> rfl) | (simp [*, errW_none, errW_some] <;> rfl), by repeat (first | (with_reducible first | exact HB.out | apply below_alloc | apply pw_below_drewN | apply below_drew1) | exact HB.out)⟩
                                    · replace c56 := Bool.eq_false_iff.mpr c56
                                      subst c56
                                      have H1 : (some false) = some r := by rw [if_neg (show ¬ (false = true) by decide)] at H; exact H
                                      clear H
                                      have H := H1
                                      clear H1
                                      obtain rfl := Option.some.inj H
                                      go_wp2
                                      go_ret
                                      exact ⟨by first | rfl | (simp [errW_none, errW_some] <;> rfl) | (simp [*, errW_none, errW_some] <;> rfl), by repeat (first | (with_reducible first | exact HB.out | apply below_alloc | apply pw_below_drewN | apply below_drew1) | exact HB.out)⟩
                                  · replace c55 := Bool.eq_false_iff.mpr c55
                                    subst c55
                                    have H1 : (if a1 = 39 then (if t337 = true then (if t366 = 41 then (some (t365 == ((a0.size : Int) + 1))) else (some false)) else (some false)) else (if t337 = true then (if t366 = 40 then (some (t365 == ((a0.size : Int) + 1))) else (some false)) else (some false))) = some r := by rw [if_neg (show ¬ (false = true) by decide)] at H; exact H
                                    clear H
                                    have H := H1
                                    clear H1
                                    by_cases c60 : a1 = 39
                                    · rw [if_pos c60] at H
                                      have c60b0 : (a1 == 39) = true := beq_iff_eq.mpr c60
                                      have c60b1 : (a1 != 39) = false := bne_eq_false_iff_eq.mpr c60
                                      clear c60
                                      by_cases c61 : t337 = true
                                      · subst c61
                                        have H1 : (if t366 = 41 then (some (t365 == ((a0.size : Int) + 1))) else (some false)) = some r := by rw [if_pos rfl] at H; exact H
                                        clear H
                                        have H := H1
                                        clear H1
                                        by_cases c62 : t366 = 41
                                        · rw [if_pos c62] at H
                                          have c62b0 : (t366 == 41) = true := beq_iff_eq.mpr c62
                                          have c62b1 : (t366 != 41) = false := bne_eq_false_iff_eq.mpr c62
                                          clear c62
                                          obtain rfl := Option.some.inj H
                                          go_wp2
                                          go_ret
                                          exact ⟨by first | rfl | (simp [errW_none, errW_some] <;> rfl) | (simp [*, errW_none, errW_some] <;> rfl), by repeat (first | (with_reducible first | exact HB.out | apply below_alloc | apply pw_below_drewN | apply below_drew1) | exact HB.out)⟩
                                        · rw [if_neg c62] at H
                                          have c62b0 : (t366 == 41) = false := beq_eq_false_iff_ne.mpr c62
                                          have c62b1 : (t366 != 41) = true := bne_iff_ne.mpr c62
                                          obtain rfl := Option.some.inj H
                                          go_wp2
                                          go_ret
                                          exact ⟨by first | rfl | (simp [errW_none, errW_some] <;> rfl) | (simp [*, errW_none, errW_some] <;> rfl), by repeat (first | (with_reducible first | exact HB.out | apply below_alloc | apply pw_below_drewN | apply below_drew1) | exact HB.out)⟩
                                      · replace c61 := Bool.eq_false_iff.mpr c61
                                        subst c61
                                        have H1 : (some false) = some r := by rw [if_neg (show ¬ (false = true) by decide)] at H; exact H
                                        clear H
                                        have H := H1
                                        clear H1
                                        obtain rfl := Option.some.inj H
                                        go_wp2
                                        go_ret
                                        exact ⟨by first | rfl | (simp [errW_none, errW_some] <;> rfl) | (simp [*, errW_none, errW_some] <;> rfl), by repeat (first | (with_reducible first | exact HB.out | apply below_alloc | apply pw_below_drewN | apply below_drew1) | exact HB.out)⟩
                                    · rw [if_neg c60] at H
                                      have c60b0 : (a1 == 39) = false := beq_eq_false_iff_ne.mpr c60
                                      have c60b1 : (a1 != 39) = true := bne_iff_ne.mpr c60
                                      by_cases c63 : t337 = true
                                      · subst c63
                                        have H1 : (if t366 = 40 then (some (t365 == ((a0.size : Int) + 1))) else (some false)) = some r := by rw [if_pos rfl] at H; exact H
                                        clear H
                                        have H := H1
                                        clear H1
                                        by_cases c64 : t366 = 40
                                        · rw [if_pos c64] at H
                                          have c64b0 : (t366 == 40) = true := beq_iff_eq.mpr c64
                                          have c64b1 : (t366 != 40) = false := bne_eq_false_iff_eq.mpr c64
                                          clear c64
                                          obtain rfl := Option.some.inj H
                                          go_wp2
                                          go_ret
                                          exact ⟨by first | rfl | (simp [errW_none, errW_some] <;> rfl) | (simp [*, errW_none, errW_some] <;> rfl), by repeat (first | (with_reducible first | exact HB.out | apply below_alloc | apply pw_below_drewN | apply below_drew1) | exact HB.out)⟩
                                        · rw [if_neg c64] at H
                                          have c64b0 : (t366 == 40) = false := beq_eq_false_iff_ne.mpr c64
                                          have c64b1 : (t366 != 40) = true := bne_iff_ne.mpr c64
                                          obtain rfl := Option.some.inj H
                                          go_wp2
                                          go_ret
                                          exact ⟨by first | rfl | (simp [errW_none, errW_some] <;> rfl) | (simp [*, errW_none, errW_some] <;> rfl), by repeat (first | (with_reducible first | exact HB.out | apply below_alloc | apply pw_below_drewN | apply below_drew1) | exact HB.out)⟩
                                      · replace c63 := Bool.eq_false_iff.mpr c63
                                        subst c63
                                        have H1 : (some false) = some r := by rw [if_neg (show ¬ (false = true) by decide)] at H; exact H
                                        clear H
                                        have H := H1
                                        clear H1
                                        obtain rfl := Option.some.inj H
                                        go_wp2
                                        go_ret
                                        exact ⟨by first | rfl | (simp [errW_none, errW_some] <;> rfl) | (simp [*, errW_none, errW_some] <;> rfl), by repeat (first | (with_reducible first | exact HB.out | apply below_alloc | apply pw_below_drewN | apply below_drew1) | exact HB.out)⟩
                · rw [if_neg c16] at H
                  exact absurd H (by simp)
              · rw [if_neg c15] at H
                exact absurd H (by simp)
            · rw [if_neg c13] at H
              exact absurd H (by simp)
          · rw [if_neg c12] at H
            exact absurd H (by simp)
        · rw [if_neg c10] at H
          exact absurd H (by simp)
      · rw [if_neg c8] at H
        exact absurd H (by simp)
    · rw [if_neg c7] at H
      have c7b0 : (t340 == 0) = false := beq_eq_false_iff_ne.mpr c7
      have c7b1 : (t340 != 0) = true := bne_iff_ne.mpr c7
      obtain rfl := Option.some.inj H
      go_enter Tryd.func9, Tryd.ntmps9
      go_wp2_with (first | ((with_reducible refine gate_callee (f := 11) rfl ?_); refine goesL_ (some 22) rfl rfl Tryd.func11 (by kernel_rfl) rfl #[] rfl (by (try simp only [List.map_toArray, List.map_cons, List.map_nil]); first | done | rfl | (simp only [List.length_drop, List.length_take]; rfl)) ?_; (with_reducible refine (sorrellaw04_head.calls k  t337 _ A3.out ?side1).mono ?_); (case side1 => exact GW.belowA hG (by repeat (first | (with_reducible first | exact HB.out | apply below_alloc | apply pw_below_drewN | apply below_drew1) | exact HB.out))); rintro e w65 ⟨rfl, hb⟩; refine ⟨_, rfl, ?_⟩; have n0_ := Aside0.mk (below_step (by repeat (first | (with_reducible first | exact HB.out | apply below_alloc | apply pw_below_drewN | apply below_drew1) | exact HB.out)) hb); clear HB; have HB := n0_; clear n0_; (try clear hb); (try clear hb2); (try clear hk); (try clear hi)) | ((with_reducible refine gate_callee (f := 12) rfl ?_); refine goesL_ (some 29) rfl rfl Tryd.func12 (by kernel_rfl) rfl #[.string a0] rfl (by (try simp only [List.map_toArray, List.map_cons, List.map_nil]); first | done | rfl | (simp only [List.length_drop, List.length_take]; rfl)) ?_; (with_reducible refine (lex_Lex.calls a0 t338 t339 t340 _ A6.out ?side1).mono ?_); (case side1 => exact GW.belowA hG (by repeat (first | (with_reducible first | exact HB.out | apply below_alloc | apply pw_below_drewN | apply below_drew1) | exact HB.out))); rintro e w66 ⟨v341, rfl, ho0, hb⟩; refine ⟨_, rfl, ?_⟩; have n0_ := Aside0.mk (Kd.R_lower ho0 (below_size (by repeat (first | (with_reducible first | exact HB.out | apply below_alloc | apply pw_below_drewN | apply below_drew1) | exact HB.out)))); have n1_ := Aside0.mk (below_step (by repeat (first | (with_reducible first | exact HB.out | apply below_alloc | apply pw_below_drewN | apply below_drew1) | exact HB.out)) hb); clear HB; have HO342 := n0_; have HB := n1_; clear n0_ n1_; (try clear hb); (try clear hb2); (try clear hk); (try clear hi); (try clear ho0)))
      go_ret
      exact ⟨by first | rfl | (simp [errW_none, errW_some] <;> rfl) | (simp [*, errW_none, errW_some] <;> rfl), by repeat (first | (with_reducible first | exact HB.out | apply below_alloc | apply pw_below_drewN | apply below_drew1) | exact HB.out)⟩

/-- THE ONE PURE STATEMENT of sorrellaw04_LexOdd: yours. -/
def sorrellaw04_LexOdd.Pure : Prop := ∀ (a0 : ByteArray) (a1 : Int), a0.size ≤ 140737488351232 → (Lit.int .u8 a1).wf = true → ∃ k, sorrellaw04_LexOdd.f k a0 a1 = some true
theorem sorrellaw04_LexOdd.walk (P : sorrellaw04_LexOdd.Pure) (a0 : ByteArray) (a1 : Int) (w : World) (w0 : a0.size ≤ 140737488351232) (w1 : (Lit.int .u8 a1).wf = true) (hG : Aside0 (GW w)) :
    Calls Tryd.prog 9 #[.string a0, .int .u8 a1] w fun e w' => e = .returned (.bool true) ∧ Below w.heap.size w w' := by
  obtain ⟨k, h⟩ := P a0 a1 w0 w1
  refine (sorrellaw04_LexOdd.calls k a0 a1 true w h hG).mono ?_
  rintro e w' ⟨rfl, hd⟩
  exact ⟨rfl, hd⟩

end Go.Proofs.YtpdlfokfjkmplaaDoor.P
