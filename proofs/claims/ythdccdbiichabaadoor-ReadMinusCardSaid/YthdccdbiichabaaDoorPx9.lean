-- Written by a program of this session (wip/gen) out of the translation. Lean checks it.
import Derived.Test.YthdccdbiichabaaDoorPx0
import Derived.Test.YthdccdbiichabaaDoorPx6
namespace Go.Proofs.YthdccdbiichabaaDoor.P
open Go.RowKit Go.Proofs.YthdccdbiichabaaDoorW.PrintWords Go.Proofs.YthdccdbiichabaaDoorW.PrintLast Go.Proofs.YthdccdbiichabaaDoorW.PrintMore
attribute [local go_sem] max2_int min2_int max_two min_two max_three min_three max_four min_four   -- for this text's walks alone
set_option linter.unusedVariables false
set_option linter.unusedSimpArgs false

/-! ### sorrellaw05_cut: function 8 -/
def sorrellaw05_cut.f (a0 : ByteArray) (a1 : Int) : Option (ByteArray) := if 0 ≤ (mn (a0.size : Int) a1) then (if (mn (a0.size : Int) a1) ≤ (a0.size : Int) then (some (a0.extract 0 ((mn (a0.size : Int) a1) : Int).toNat)) else (none)) else (none)
set_option maxHeartbeats 8000000 in
set_option maxRecDepth 100000 in
theorem sorrellaw05_cut.calls (a0 : ByteArray) (a1 : Int) (r : ByteArray) (w : World) (h : sorrellaw05_cut.f a0 a1 = some r) :
    Calls Tryd.prog 8 #[.string a0, .int .i64 a1] w fun e w' => e = .returned (.string r) ∧ Below w.heap.size w w' := by
  have HB := Aside0.mk (Below.refl w.heap.size w)
  have H : (if 0 ≤ (mn (a0.size : Int) a1) then (if (mn (a0.size : Int) a1) ≤ (a0.size : Int) then (some (a0.extract 0 ((mn (a0.size : Int) a1) : Int).toNat)) else (none)) else (none)) = some r := h
  clear h
  obtain ⟨ji3, hji3⟩ : ∃ j_ : Int, (mn (a0.size : Int) a1) = j_ := ⟨_, rfl⟩
  replace H : (if 0 ≤ (ji3) then (if (ji3) ≤ (a0.size : Int) then (some (a0.extract 0 ((ji3) : Int).toNat)) else (none)) else (none)) = some r := by first | (rw [hji3] at H; exact H) | (simp only [hji3] at H ⊢; exact H)
  have hji3_ : (if a1 < (a0.size : Int) then a1 else (a0.size : Int)) = ji3 := hji3
  by_cases c4 : 0 ≤ (ji3)
  · rw [if_pos c4] at H
    have c4b0 := eq_true c4
    have c4b1 : decide (0 ≤ (ji3)) = true := decide_eq_true c4
    clear c4
    by_cases c5 : (ji3) ≤ (a0.size : Int)
    · rw [if_pos c5] at H
      have c5b0 := eq_true c5
      have c5b1 : decide ((ji3) ≤ (a0.size : Int)) = true := decide_eq_true c5
      clear c5
      obtain rfl := Option.some.inj H
      go_enter Tryd.func8, Tryd.ntmps8
      go_wp2
      go_ret
      exact ⟨by first | rfl | (simp [errW_none, errW_some] <;> rfl) | (simp only [← hji3]; first | rfl | (simp [errW_none, errW_some] <;> rfl)) | (simp [*, errW_none, errW_some] <;> rfl), by repeat (first | (with_reducible first | exact HB.out | apply below_alloc | apply pw_below_drewN | apply below_drew1) | exact HB.out)⟩
    · rw [if_neg c5] at H
      exact absurd H (by simp)
  · rw [if_neg c4] at H
    exact absurd H (by simp)

/-! ### sorrelref05_SameLits: function 35 -/
def sorrelref05_SameLits.l0 : Nat → List (S43) → List (S43) → Int → Option (Bool)
  | 0, _, _, _ => none
  | k + 1, x0, x1, x5 => if x5 < (x0.length : Int) then (if 0 ≤ x5 then (if x5 < (x1.length : Int) then (if (((rd_T43 x0 x5).f0) != ((rd_T43 x1 x5).f0)) = true then (some false) else ((sorrelref01_Same.f k ((rd_T43 x0 x5).f1) ((rd_T43 x1 x5).f1)).bind fun t143 => (if t143 = true then (sorrelref05_SameLits.l0 k x0 x1 (wrap64 (x5 + 1))) else (some false)))) else (none)) else (none)) else (some true)
def sorrelref05_SameLits.f (k : Nat) (l0 : List (S43)) (l1 : List (S43)) : Option (Bool) := if (l0.length : Int) = (l1.length : Int) then (sorrelref05_SameLits.l0 k l0 l1 0) else (some false)
theorem sorrelref05_SameLits.mono_l : ∀ k, (∀ y0 y1 y2, LeO (sorrelref05_SameLits.l0 k y0 y1 y2) (sorrelref05_SameLits.l0 (k + 1) y0 y1 y2))
  | 0 => fun _ _ _ r h => by simp [sorrelref05_SameLits.l0] at h
  | k + 1 => by
    have ih0 := sorrelref05_SameLits.mono_l k
    · intro y0 y1 y2
      unfold sorrelref05_SameLits.l0
      repeat' first
      | (with_reducible exact ih0 _ _ _)
      | (with_reducible exact sorrelref01_Same.mono _ _ _)
      | (with_reducible exact LeO.refl _)
      | (with_reducible exact LeO.none _)
      | (with_reducible refine LeO.ite ?_ ?_)
      | (with_reducible refine LeO.bind ?_ (fun _ => ?_))
      | exact ih0 _ _ _
      | exact sorrelref01_Same.mono _ _ _
      | exact LeO.none _
      | refine LeO.ite ?_ ?_
      | refine LeO.bind ?_ (fun _ => ?_)
theorem sorrelref05_SameLits.mono : ∀ a0 a1 k, LeO (sorrelref05_SameLits.f k a0 a1) (sorrelref05_SameLits.f (k + 1) a0 a1) := by
  intro a0 a1 k
  have ih0 := sorrelref05_SameLits.mono_l k
  unfold sorrelref05_SameLits.f
  repeat' first
      | (with_reducible exact ih0 _ _ _)
      | (with_reducible exact sorrelref01_Same.mono _ _ _)
      | (with_reducible exact LeO.refl _)
      | (with_reducible exact LeO.none _)
      | (with_reducible refine LeO.ite ?_ ?_)
      | (with_reducible refine LeO.bind ?_ (fun _ => ?_))
      | exact ih0 _ _ _
      | exact sorrelref01_Same.mono _ _ _
      | exact LeO.none _
      | refine LeO.ite ?_ ?_
      | refine LeO.bind ?_ (fun _ => ?_)
set_option maxHeartbeats 8000000 in
set_option maxRecDepth 100000 in
theorem sorrelref05_SameLits.calls (k : Nat) (A0 : Option Addr) (c0 : Nat) (l0 : List (S43)) (A1 : Option Addr) (c1 : Nat) (l1 : List (S43)) (r : Bool) (w : World) (hr0 : Kd.C k43 w A0 l0.length l0) (hc0 : l0.length ≤ c0) (hr1 : Kd.C k43 w A1 l1.length l1) (hc1 : l1.length ≤ c1) (h : sorrelref05_SameLits.f k l0 l1 = some r) :
    Calls Tryd.prog 35 #[.slice A0 l0.length c0, .slice A1 l1.length c1] w fun e w' => e = .returned (.bool r) ∧ Drawn0 w w' := by
  have HR0 := Aside0.mk hr0
  have HC0 := Aside0.mk hc0
  clear hr0 hc0
  have HR1 := Aside0.mk hr1
  have HC1 := Aside0.mk hc1
  clear hr1 hc1
  have H : (if (l0.length : Int) = (l1.length : Int) then (sorrelref05_SameLits.l0 k l0 l1 0) else (some false)) = some r := h
  clear h
  by_cases c3 : (l0.length : Int) = (l1.length : Int)
  · rw [if_pos c3] at H
    have c3b0 : ((l0.length : Int) == (l1.length : Int)) = true := beq_iff_eq.mpr c3
    have c3b1 : ((l0.length : Int) != (l1.length : Int)) = false := bne_eq_false_iff_eq.mpr c3
    have c3b2 : (l0.length == l1.length) = true := by first | simpa using c3 | (simp at c3 ⊢; omega)
    clear c3
    have H' := Aside0.mk H
    clear H
    go_enter Tryd.func35, Tryd.ntmps35
    go_wp2
    repeat (go_quiet (fail); try go_wp2)
    go_loopg [5] k (fun kq v5 w' => ∃ (x5_1 : Int), v5 = .int .i64 x5_1 ∧ Aside0 (sorrelref05_SameLits.l0 kq l0 l1 x5_1 = some r) ∧ Aside0 (kq ≤ k) ∧ Drawn0 w w')
    case atStart => exact ⟨(0), (by first | rfl | (simp; done) | (simp [*]; done)), H', ⟨Nat.le_refl _⟩, by repeat (first | exact Drawn0.refl _ | apply Drawn0.step)⟩
    case round =>
      clear H'
      try clear c1
      try clear p2
      try clear c3
      try clear c3b0
      try clear c3b1
      try clear c3b2
      obtain ⟨x5_1, rfl, HA, HK1, ⟨m1, rfl⟩⟩ := hrel
      cases gk with
      | zero => exact absurd HA.out (by simp [sorrelref05_SameLits.l0])
      | succ k1 =>
        have H := HA.out
        clear HA
        simp only [sorrelref05_SameLits.l0] at H
        by_cases c4 : x5_1 < (l0.length : Int)
        · rw [if_pos c4] at H
          have c4b0 : decide (x5_1 < (l0.length : Int)) = true := decide_eq_true c4
          clear c4
          by_cases c5 : 0 ≤ x5_1
          · rw [if_pos c5] at H
            have c5b0 : decide (0 ≤ x5_1) = true := decide_eq_true c5
            clear c5
            by_cases c6 : x5_1 < (l1.length : Int)
            · rw [if_pos c6] at H
              have c6b0 : decide (x5_1 < (l1.length : Int)) = true := decide_eq_true c6
              clear c6
              by_cases c7 : (((rd_T43 l0 x5_1).f0) != ((rd_T43 l1 x5_1).f0)) = true
              · rw [if_pos c7] at H
                have c7b0 : (((rd_T43 l0 x5_1).f0) != ((rd_T43 l1 x5_1).f0)) = true := c7
                (try (have c7b1 : decide (((rd_T43 l0 x5_1).f0) = ((rd_T43 l1 x5_1).f0)) = false := by simpa using c7))
                (try (have c7b2 : (((rd_T43 l0 x5_1).f0) == ((rd_T43 l1 x5_1).f0)) = false := by simpa using c7))
                (try (have c7b3 : ¬ (((rd_T43 l0 x5_1).f0) = ((rd_T43 l1 x5_1).f0)) := by simpa using c7))
                clear c7
                obtain rfl := Option.some.inj H
                have p139 : 0 ≤ (x5_1 : Int) := of_decide_eq_true (by first | (with_reducible assumption) | assumption)
                have q139 : x5_1 < (l0.length : Int) := of_decide_eq_true (by first | (with_reducible assumption) | assumption)
                obtain ⟨ad139, A139_1, c139_1, e139, hx139_0, hx139_1, hl139_1, hi139_1⟩ := at_T43 HR0.out x5_1 p139 q139
                cases e139
                have HR139_1 := Aside0.mk hi139_1
                have HC139_1 := Aside0.mk hl139_1
                clear hi139_1 hl139_1
                replace p139 := eq_true p139
                replace q139 := eq_true q139
                have p140 : 0 ≤ (x5_1 : Int) := of_decide_eq_true (by first | (with_reducible assumption) | assumption)
                have q140 : x5_1 < (l1.length : Int) := of_decide_eq_true (by first | (with_reducible assumption) | assumption)
                obtain ⟨ad140, A140_1, c140_1, e140, hx140_0, hx140_1, hl140_1, hi140_1⟩ := at_T43 HR1.out x5_1 p140 q140
                cases e140
                have HR140_1 := Aside0.mk hi140_1
                have HC140_1 := Aside0.mk hl140_1
                clear hi140_1 hl140_1
                replace p140 := eq_true p140
                replace q140 := eq_true q140
                go_wp2
                repeat (go_quiet (fail); try go_wp2)
                go_ret
                exact ⟨by first | rfl | (simp; done) | (simp [*]; done), by repeat (first | exact Drawn0.refl _ | apply Drawn0.step)⟩
              · rw [if_neg c7] at H
                have c7b0 : (((rd_T43 l0 x5_1).f0) != ((rd_T43 l1 x5_1).f0)) = false := by simpa using c7
                (try (have c7b1 : decide (((rd_T43 l0 x5_1).f0) = ((rd_T43 l1 x5_1).f0)) = true := by simpa using c7))
                (try (have c7b2 : (((rd_T43 l0 x5_1).f0) == ((rd_T43 l1 x5_1).f0)) = true := by simpa using c7))
                clear c7
                replace H := Option.bind_eq_some_iff.mp H
                obtain ⟨t143, A80, H⟩ := H
                replace H : (if t143 = true then (sorrelref05_SameLits.l0 k1 l0 l1 (wrap64 (x5_1 + 1))) else (some false)) = some r := H
                have A8 := Aside0.mk A80
                clear A80
                by_cases c9 : t143 = true
                · subst c9
                  have H1 : (sorrelref05_SameLits.l0 k1 l0 l1 (wrap64 (x5_1 + 1))) = some r := by rw [if_pos rfl] at H; exact H
                  clear H
                  have H := H1
                  clear H1
                  have H' := Aside0.mk H
                  clear H
                  have p139 : 0 ≤ (x5_1 : Int) := of_decide_eq_true (by first | (with_reducible assumption) | assumption)
                  have q139 : x5_1 < (l0.length : Int) := of_decide_eq_true (by first | (with_reducible assumption) | assumption)
                  obtain ⟨ad139, A139_1, c139_1, e139, hx139_0, hx139_1, hl139_1, hi139_1⟩ := at_T43 HR0.out x5_1 p139 q139
                  cases e139
                  have HR139_1 := Aside0.mk hi139_1
                  have HC139_1 := Aside0.mk hl139_1
                  clear hi139_1 hl139_1
                  replace p139 := eq_true p139
                  replace q139 := eq_true q139
                  have p140 : 0 ≤ (x5_1 : Int) := of_decide_eq_true (by first | (with_reducible assumption) | assumption)
                  have q140 : x5_1 < (l1.length : Int) := of_decide_eq_true (by first | (with_reducible assumption) | assumption)
                  obtain ⟨ad140, A140_1, c140_1, e140, hx140_0, hx140_1, hl140_1, hi140_1⟩ := at_T43 HR1.out x5_1 p140 q140
                  cases e140
                  have HR140_1 := Aside0.mk hi140_1
                  have HC140_1 := Aside0.mk hl140_1
                  clear hi140_1 hl140_1
                  replace p140 := eq_true p140
                  replace q140 := eq_true q140
                  have p141 : 0 ≤ (x5_1 : Int) := of_decide_eq_true (by first | (with_reducible assumption) | assumption)
                  have q141 : x5_1 < (l0.length : Int) := of_decide_eq_true (by first | (with_reducible assumption) | assumption)
                  obtain ⟨ad141, A141_1, c141_1, e141, hx141_0, hx141_1, hl141_1, hi141_1⟩ := at_T43 HR0.out x5_1 p141 q141
                  obtain rfl : ad139 = ad141 := (by injection e141)
                  have HR141_1 := Aside0.mk hi141_1
                  have HC141_1 := Aside0.mk hl141_1
                  clear hi141_1 hl141_1
                  replace p141 := eq_true p141
                  replace q141 := eq_true q141
                  have ea_ := Option.some.inj (hx139_1.symm.trans hx141_1)
                  injection ea_ with ea_ en_ ec_
                  subst ea_
                  subst ec_
                  clear en_
                  have p142 : 0 ≤ (x5_1 : Int) := of_decide_eq_true (by first | (with_reducible assumption) | assumption)
                  have q142 : x5_1 < (l1.length : Int) := of_decide_eq_true (by first | (with_reducible assumption) | assumption)
                  obtain ⟨ad142, A142_1, c142_1, e142, hx142_0, hx142_1, hl142_1, hi142_1⟩ := at_T43 HR1.out x5_1 p142 q142
                  obtain rfl : ad140 = ad142 := (by injection e142)
                  have HR142_1 := Aside0.mk hi142_1
                  have HC142_1 := Aside0.mk hl142_1
                  clear hi142_1 hl142_1
                  replace p142 := eq_true p142
                  replace q142 := eq_true q142
                  have ea_ := Option.some.inj (hx140_1.symm.trans hx142_1)
                  injection ea_ with ea_ en_ ec_
                  subst ea_
                  subst ec_
                  clear en_
                  go_wp2_with (first | (go_at_call 11; (with_reducible refine (sorrelref01_Same.calls k1 _ _ ((rd_T43 l0 x5_1).f1) _ _ ((rd_T43 l1 x5_1).f1) true _ ?side1 ?side2 ?side3 ?side4 A8.out).mono ?_); (case side1 => repeat (first | exact HR141_1.out | (with_reducible refine Kd.C_alloc ?_ _) | (with_reducible refine Kd.C_drewN ?_ _) | (with_reducible refine Kd.C_drew ?_))); (case side2 => exact HC141_1.out); (case side3 => repeat (first | exact HR142_1.out | (with_reducible refine Kd.C_alloc ?_ _) | (with_reducible refine Kd.C_drewN ?_ _) | (with_reducible refine Kd.C_drew ?_))); (case side4 => exact HC142_1.out); rintro e w' ⟨rfl, ⟨nd, rfl⟩⟩; (try first | exact ⟨rfl, _, World.drewN_drewN _ _ _⟩ | exact ⟨rfl, _, Eq.trans (World.drewN_drewN _ _ _) (congrArg (World.drewN _) (Nat.add_assoc _ _ _))⟩)))
                  repeat (go_quiet (first | (go_at_call 11; (with_reducible refine (sorrelref01_Same.calls k1 _ _ ((rd_T43 l0 x5_1).f1) _ _ ((rd_T43 l1 x5_1).f1) true _ ?side1 ?side2 ?side3 ?side4 A8.out).mono ?_); (case side1 => repeat (first | exact HR141_1.out | (with_reducible refine Kd.C_alloc ?_ _) | (with_reducible refine Kd.C_drewN ?_ _) | (with_reducible refine Kd.C_drew ?_))); (case side2 => exact HC141_1.out); (case side3 => repeat (first | exact HR142_1.out | (with_reducible refine Kd.C_alloc ?_ _) | (with_reducible refine Kd.C_drewN ?_ _) | (with_reducible refine Kd.C_drew ?_))); (case side4 => exact HC142_1.out); rintro e w' ⟨rfl, ⟨nd, rfl⟩⟩; (try first | exact ⟨rfl, _, World.drewN_drewN _ _ _⟩ | exact ⟨rfl, _, Eq.trans (World.drewN_drewN _ _ _) (congrArg (World.drewN _) (Nat.add_assoc _ _ _))⟩))); try go_wp2_with (first | (go_at_call 11; (with_reducible refine (sorrelref01_Same.calls k1 _ _ ((rd_T43 l0 x5_1).f1) _ _ ((rd_T43 l1 x5_1).f1) true _ ?side1 ?side2 ?side3 ?side4 A8.out).mono ?_); (case side1 => repeat (first | exact HR141_1.out | (with_reducible refine Kd.C_alloc ?_ _) | (with_reducible refine Kd.C_drewN ?_ _) | (with_reducible refine Kd.C_drew ?_))); (case side2 => exact HC141_1.out); (case side3 => repeat (first | exact HR142_1.out | (with_reducible refine Kd.C_alloc ?_ _) | (with_reducible refine Kd.C_drewN ?_ _) | (with_reducible refine Kd.C_drew ?_))); (case side4 => exact HC142_1.out); rintro e w' ⟨rfl, ⟨nd, rfl⟩⟩; (try first | exact ⟨rfl, _, World.drewN_drewN _ _ _⟩ | exact ⟨rfl, _, Eq.trans (World.drewN_drewN _ _ _) (congrArg (World.drewN _) (Nat.add_assoc _ _ _))⟩))))
                  go_roundg k1
                  case measure => have := HK1.out; omega
                  case rel => exact ⟨(wrap64 (x5_1 + 1)), (by first | rfl | (simp; done) | (simp [*]; done)), H', ⟨by have := HK1.out; omega⟩, by repeat (first | exact Drawn0.refl _ | apply Drawn0.step)⟩
                · replace c9 := Bool.eq_false_iff.mpr c9
                  subst c9
                  have H1 : (some false) = some r := by rw [if_neg (show ¬ (false = true) by decide)] at H; exact H
                  clear H
                  have H := H1
                  clear H1
                  obtain rfl := Option.some.inj H
                  have p139 : 0 ≤ (x5_1 : Int) := of_decide_eq_true (by first | (with_reducible assumption) | assumption)
                  have q139 : x5_1 < (l0.length : Int) := of_decide_eq_true (by first | (with_reducible assumption) | assumption)
                  obtain ⟨ad139, A139_1, c139_1, e139, hx139_0, hx139_1, hl139_1, hi139_1⟩ := at_T43 HR0.out x5_1 p139 q139
                  cases e139
                  have HR139_1 := Aside0.mk hi139_1
                  have HC139_1 := Aside0.mk hl139_1
                  clear hi139_1 hl139_1
                  replace p139 := eq_true p139
                  replace q139 := eq_true q139
                  have p140 : 0 ≤ (x5_1 : Int) := of_decide_eq_true (by first | (with_reducible assumption) | assumption)
                  have q140 : x5_1 < (l1.length : Int) := of_decide_eq_true (by first | (with_reducible assumption) | assumption)
                  obtain ⟨ad140, A140_1, c140_1, e140, hx140_0, hx140_1, hl140_1, hi140_1⟩ := at_T43 HR1.out x5_1 p140 q140
                  cases e140
                  have HR140_1 := Aside0.mk hi140_1
                  have HC140_1 := Aside0.mk hl140_1
                  clear hi140_1 hl140_1
                  replace p140 := eq_true p140
                  replace q140 := eq_true q140
                  have p141 : 0 ≤ (x5_1 : Int) := of_decide_eq_true (by first | (with_reducible assumption) | assumption)
                  have q141 : x5_1 < (l0.length : Int) := of_decide_eq_true (by first | (with_reducible assumption) | assumption)
                  obtain ⟨ad141, A141_1, c141_1, e141, hx141_0, hx141_1, hl141_1, hi141_1⟩ := at_T43 HR0.out x5_1 p141 q141
                  obtain rfl : ad139 = ad141 := (by injection e141)
                  have HR141_1 := Aside0.mk hi141_1
                  have HC141_1 := Aside0.mk hl141_1
                  clear hi141_1 hl141_1
                  replace p141 := eq_true p141
                  replace q141 := eq_true q141
                  have ea_ := Option.some.inj (hx139_1.symm.trans hx141_1)
                  injection ea_ with ea_ en_ ec_
                  subst ea_
                  subst ec_
                  clear en_
                  have p142 : 0 ≤ (x5_1 : Int) := of_decide_eq_true (by first | (with_reducible assumption) | assumption)
                  have q142 : x5_1 < (l1.length : Int) := of_decide_eq_true (by first | (with_reducible assumption) | assumption)
                  obtain ⟨ad142, A142_1, c142_1, e142, hx142_0, hx142_1, hl142_1, hi142_1⟩ := at_T43 HR1.out x5_1 p142 q142
                  obtain rfl : ad140 = ad142 := (by injection e142)
                  have HR142_1 := Aside0.mk hi142_1
                  have HC142_1 := Aside0.mk hl142_1
                  clear hi142_1 hl142_1
                  replace p142 := eq_true p142
                  replace q142 := eq_true q142
                  have ea_ := Option.some.inj (hx140_1.symm.trans hx142_1)
                  injection ea_ with ea_ en_ ec_
                  subst ea_
                  subst ec_
                  clear en_
                  go_wp2_with (first | (go_at_call 11; (with_reducible refine (sorrelref01_Same.calls k1 _ _ ((rd_T43 l0 x5_1).f1) _ _ ((rd_T43 l1 x5_1).f1) false _ ?side1 ?side2 ?side3 ?side4 A8.out).mono ?_); (case side1 => repeat (first | exact HR141_1.out | (with_reducible refine Kd.C_alloc ?_ _) | (with_reducible refine Kd.C_drewN ?_ _) | (with_reducible refine Kd.C_drew ?_))); (case side2 => exact HC141_1.out); (case side3 => repeat (first | exact HR142_1.out | (with_reducible refine Kd.C_alloc ?_ _) | (with_reducible refine Kd.C_drewN ?_ _) | (with_reducible refine Kd.C_drew ?_))); (case side4 => exact HC142_1.out); rintro e w' ⟨rfl, ⟨nd, rfl⟩⟩; (try first | exact ⟨rfl, _, World.drewN_drewN _ _ _⟩ | exact ⟨rfl, _, Eq.trans (World.drewN_drewN _ _ _) (congrArg (World.drewN _) (Nat.add_assoc _ _ _))⟩)))
                  repeat (go_quiet (first | (go_at_call 11; (with_reducible refine (sorrelref01_Same.calls k1 _ _ ((rd_T43 l0 x5_1).f1) _ _ ((rd_T43 l1 x5_1).f1) false _ ?side1 ?side2 ?side3 ?side4 A8.out).mono ?_); (case side1 => repeat (first | exact HR141_1.out | (with_reducible refine Kd.C_alloc ?_ _) | (with_reducible refine Kd.C_drewN ?_ _) | (with_reducible refine Kd.C_drew ?_))); (case side2 => exact HC141_1.out); (case side3 => repeat (first | exact HR142_1.out | (with_reducible refine Kd.C_alloc ?_ _) | (with_reducible refine Kd.C_drewN ?_ _) | (with_reducible refine Kd.C_drew ?_))); (case side4 => exact HC142_1.out); rintro e w' ⟨rfl, ⟨nd, rfl⟩⟩; (try first | exact ⟨rfl, _, World.drewN_drewN _ _ _⟩ | exact ⟨rfl, _, Eq.trans (World.drewN_drewN _ _ _) (congrArg (World.drewN _) (Nat.add_assoc _ _ _))⟩))); try go_wp2_with (first | (go_at_call 11; (with_reducible refine (sorrelref01_Same.calls k1 _ _ ((rd_T43 l0 x5_1).f1) _ _ ((rd_T43 l1 x5_1).f1) false _ ?side1 ?side2 ?side3 ?side4 A8.out).mono ?_); (case side1 => repeat (first | exact HR141_1.out | (with_reducible refine Kd.C_alloc ?_ _) | (with_reducible refine Kd.C_drewN ?_ _) | (with_reducible refine Kd.C_drew ?_))); (case side2 => exact HC141_1.out); (case side3 => repeat (first | exact HR142_1.out | (with_reducible refine Kd.C_alloc ?_ _) | (with_reducible refine Kd.C_drewN ?_ _) | (with_reducible refine Kd.C_drew ?_))); (case side4 => exact HC142_1.out); rintro e w' ⟨rfl, ⟨nd, rfl⟩⟩; (try first | exact ⟨rfl, _, World.drewN_drewN _ _ _⟩ | exact ⟨rfl, _, Eq.trans (World.drewN_drewN _ _ _) (congrArg (World.drewN _) (Nat.add_assoc _ _ _))⟩))))
                  go_ret
                  exact ⟨by first | rfl | (simp; done) | (simp [*]; done), by repeat (first | exact Drawn0.refl _ | apply Drawn0.step)⟩
            · rw [if_neg c6] at H
              exact absurd H (by simp)
          · rw [if_neg c5] at H
            exact absurd H (by simp)
        · rw [if_neg c4] at H
          have c4b0 : decide (x5_1 < (l0.length : Int)) = false := decide_eq_false c4
          clear c4
          obtain rfl := Option.some.inj H
          go_wp2
          repeat (go_quiet (fail); try go_wp2)
          go_ret
          exact ⟨by first | rfl | (simp; done) | (simp [*]; done), by repeat (first | exact Drawn0.refl _ | apply Drawn0.step)⟩
  · rw [if_neg c3] at H
    have c3b0 : ((l0.length : Int) == (l1.length : Int)) = false := beq_eq_false_iff_ne.mpr c3
    have c3b1 : ((l0.length : Int) != (l1.length : Int)) = true := bne_iff_ne.mpr c3
    have c3b2 : (l0.length == l1.length) = false := by first | simpa using c3 | (simp at c3 ⊢; omega)
    obtain rfl := Option.some.inj H
    go_enter Tryd.func35, Tryd.ntmps35
    go_wp2
    repeat (go_quiet (fail); try go_wp2)
    go_ret
    exact ⟨by first | rfl | (simp; done) | (simp [*]; done), by repeat (first | exact Drawn0.refl _ | apply Drawn0.step)⟩

/-! ### sorrelref05_Same: function 16 -/
def sorrelref05_Same.l0 : Nat → List (S39) → List (S39) → Int → Option (Bool)
  | 0, _, _, _ => none
  | k + 1, x0, x1, x5 => if x5 < (x0.length : Int) then (if 0 ≤ x5 then (if x5 < (x1.length : Int) then ((sorrelref01_Same.f k ((rd_T39 x0 x5).f0) ((rd_T39 x1 x5).f0)).bind fun t146 => (if t146 = true then ((sorrelref05_SameLits.f k ((rd_T39 x0 x5).f1) ((rd_T39 x1 x5).f1)).bind fun t149 => (if t149 = true then (sorrelref05_Same.l0 k x0 x1 (wrap64 (x5 + 1))) else (some false))) else (some false))) else (none)) else (none)) else (some true)
def sorrelref05_Same.f (k : Nat) (l0 : List (S39)) (l1 : List (S39)) : Option (Bool) := if (l0.length : Int) = (l1.length : Int) then (sorrelref05_Same.l0 k l0 l1 0) else (some false)
theorem sorrelref05_Same.mono_l : ∀ k, (∀ y0 y1 y2, LeO (sorrelref05_Same.l0 k y0 y1 y2) (sorrelref05_Same.l0 (k + 1) y0 y1 y2))
  | 0 => fun _ _ _ r h => by simp [sorrelref05_Same.l0] at h
  | k + 1 => by
    have ih0 := sorrelref05_Same.mono_l k
    · intro y0 y1 y2
      unfold sorrelref05_Same.l0
      repeat' first
      | (with_reducible exact ih0 _ _ _)
      | (with_reducible exact sorrelref01_Same.mono _ _ _)
      | (with_reducible exact sorrelref05_SameLits.mono _ _ _)
      | (with_reducible exact LeO.refl _)
      | (with_reducible exact LeO.none _)
      | (with_reducible refine LeO.ite ?_ ?_)
      | (with_reducible refine LeO.bind ?_ (fun _ => ?_))
      | exact ih0 _ _ _
      | exact sorrelref01_Same.mono _ _ _
      | exact sorrelref05_SameLits.mono _ _ _
      | exact LeO.none _
      | refine LeO.ite ?_ ?_
      | refine LeO.bind ?_ (fun _ => ?_)
theorem sorrelref05_Same.mono : ∀ a0 a1 k, LeO (sorrelref05_Same.f k a0 a1) (sorrelref05_Same.f (k + 1) a0 a1) := by
  intro a0 a1 k
  have ih0 := sorrelref05_Same.mono_l k
  unfold sorrelref05_Same.f
  repeat' first
      | (with_reducible exact ih0 _ _ _)
      | (with_reducible exact sorrelref01_Same.mono _ _ _)
      | (with_reducible exact sorrelref05_SameLits.mono _ _ _)
      | (with_reducible exact LeO.refl _)
      | (with_reducible exact LeO.none _)
      | (with_reducible refine LeO.ite ?_ ?_)
      | (with_reducible refine LeO.bind ?_ (fun _ => ?_))
      | exact ih0 _ _ _
      | exact sorrelref01_Same.mono _ _ _
      | exact sorrelref05_SameLits.mono _ _ _
      | exact LeO.none _
      | refine LeO.ite ?_ ?_
      | refine LeO.bind ?_ (fun _ => ?_)
set_option maxHeartbeats 8000000 in
set_option maxRecDepth 100000 in
theorem sorrelref05_Same.calls (k : Nat) (A0 : Option Addr) (c0 : Nat) (l0 : List (S39)) (A1 : Option Addr) (c1 : Nat) (l1 : List (S39)) (r : Bool) (w : World) (hr0 : Kd.C k39 w A0 l0.length l0) (hc0 : l0.length ≤ c0) (hr1 : Kd.C k39 w A1 l1.length l1) (hc1 : l1.length ≤ c1) (h : sorrelref05_Same.f k l0 l1 = some r) :
    Calls Tryd.prog 16 #[.slice A0 l0.length c0, .slice A1 l1.length c1] w fun e w' => e = .returned (.bool r) ∧ Drawn0 w w' := by
  have HR0 := Aside0.mk hr0
  have HC0 := Aside0.mk hc0
  clear hr0 hc0
  have HR1 := Aside0.mk hr1
  have HC1 := Aside0.mk hc1
  clear hr1 hc1
  have H : (if (l0.length : Int) = (l1.length : Int) then (sorrelref05_Same.l0 k l0 l1 0) else (some false)) = some r := h
  clear h
  by_cases c3 : (l0.length : Int) = (l1.length : Int)
  · rw [if_pos c3] at H
    have c3b0 : ((l0.length : Int) == (l1.length : Int)) = true := beq_iff_eq.mpr c3
    have c3b1 : ((l0.length : Int) != (l1.length : Int)) = false := bne_eq_false_iff_eq.mpr c3
    have c3b2 : (l0.length == l1.length) = true := by first | simpa using c3 | (simp at c3 ⊢; omega)
    clear c3
    have H' := Aside0.mk H
    clear H
    go_enter Tryd.func16, Tryd.ntmps16
    go_wp2
    repeat (go_quiet (fail); try go_wp2)
    go_loopg [5] k (fun kq v5 w' => ∃ (x5_1 : Int), v5 = .int .i64 x5_1 ∧ Aside0 (sorrelref05_Same.l0 kq l0 l1 x5_1 = some r) ∧ Aside0 (kq ≤ k) ∧ Drawn0 w w')
    case atStart => exact ⟨(0), (by first | rfl | (simp; done) | (simp [*]; done)), H', ⟨Nat.le_refl _⟩, by repeat (first | exact Drawn0.refl _ | apply Drawn0.step)⟩
    case round =>
      clear H'
      try clear c1
      try clear p2
      try clear c3
      try clear c3b0
      try clear c3b1
      try clear c3b2
      obtain ⟨x5_1, rfl, HA, HK1, ⟨m1, rfl⟩⟩ := hrel
      cases gk with
      | zero => exact absurd HA.out (by simp [sorrelref05_Same.l0])
      | succ k1 =>
        have H := HA.out
        clear HA
        simp only [sorrelref05_Same.l0] at H
        by_cases c4 : x5_1 < (l0.length : Int)
        · rw [if_pos c4] at H
          have c4b0 : decide (x5_1 < (l0.length : Int)) = true := decide_eq_true c4
          clear c4
          by_cases c5 : 0 ≤ x5_1
          · rw [if_pos c5] at H
            have c5b0 : decide (0 ≤ x5_1) = true := decide_eq_true c5
            clear c5
            by_cases c6 : x5_1 < (l1.length : Int)
            · rw [if_pos c6] at H
              have c6b0 : decide (x5_1 < (l1.length : Int)) = true := decide_eq_true c6
              clear c6
              replace H := Option.bind_eq_some_iff.mp H
              obtain ⟨t146, A70, H⟩ := H
              replace H : (if t146 = true then ((sorrelref05_SameLits.f k1 ((rd_T39 l0 x5_1).f1) ((rd_T39 l1 x5_1).f1)).bind fun t149 => (if t149 = true then (sorrelref05_Same.l0 k1 l0 l1 (wrap64 (x5_1 + 1))) else (some false))) else (some false)) = some r := H
              have A7 := Aside0.mk A70
              clear A70
              by_cases c8 : t146 = true
              · subst c8
                have H1 : ((sorrelref05_SameLits.f k1 ((rd_T39 l0 x5_1).f1) ((rd_T39 l1 x5_1).f1)).bind fun t149 => (if t149 = true then (sorrelref05_Same.l0 k1 l0 l1 (wrap64 (x5_1 + 1))) else (some false))) = some r := by rw [if_pos rfl] at H; exact H
                clear H
                have H := H1
                clear H1
                replace H := Option.bind_eq_some_iff.mp H
                obtain ⟨t149, A90, H⟩ := H
                replace H : (if t149 = true then (sorrelref05_Same.l0 k1 l0 l1 (wrap64 (x5_1 + 1))) else (some false)) = some r := H
                have A9 := Aside0.mk A90
                clear A90
                by_cases c10 : t149 = true
                · subst c10
                  have H1 : (sorrelref05_Same.l0 k1 l0 l1 (wrap64 (x5_1 + 1))) = some r := by rw [if_pos rfl] at H; exact H
                  clear H
                  have H := H1
                  clear H1
                  have H' := Aside0.mk H
                  clear H
                  have p144 : 0 ≤ (x5_1 : Int) := of_decide_eq_true (by first | (with_reducible assumption) | assumption)
                  have q144 : x5_1 < (l0.length : Int) := of_decide_eq_true (by first | (with_reducible assumption) | assumption)
                  obtain ⟨ad144, A144_0, c144_0, A144_1, c144_1, e144, hx144_0, hx144_1, hl144_0, hi144_0, hl144_1, hi144_1⟩ := at_T39 HR0.out x5_1 p144 q144
                  cases e144
                  have HR144_0 := Aside0.mk hi144_0
                  have HC144_0 := Aside0.mk hl144_0
                  clear hi144_0 hl144_0
                  have HR144_1 := Aside0.mk hi144_1
                  have HC144_1 := Aside0.mk hl144_1
                  clear hi144_1 hl144_1
                  replace p144 := eq_true p144
                  replace q144 := eq_true q144
                  have p145 : 0 ≤ (x5_1 : Int) := of_decide_eq_true (by first | (with_reducible assumption) | assumption)
                  have q145 : x5_1 < (l1.length : Int) := of_decide_eq_true (by first | (with_reducible assumption) | assumption)
                  obtain ⟨ad145, A145_0, c145_0, A145_1, c145_1, e145, hx145_0, hx145_1, hl145_0, hi145_0, hl145_1, hi145_1⟩ := at_T39 HR1.out x5_1 p145 q145
                  cases e145
                  have HR145_0 := Aside0.mk hi145_0
                  have HC145_0 := Aside0.mk hl145_0
                  clear hi145_0 hl145_0
                  have HR145_1 := Aside0.mk hi145_1
                  have HC145_1 := Aside0.mk hl145_1
                  clear hi145_1 hl145_1
                  replace p145 := eq_true p145
                  replace q145 := eq_true q145
                  go_wp2_with (first | (go_at_call 11; (with_reducible refine (sorrelref01_Same.calls k1 _ _ ((rd_T39 l0 x5_1).f0) _ _ ((rd_T39 l1 x5_1).f0) true _ ?side1 ?side2 ?side3 ?side4 A7.out).mono ?_); (case side1 => repeat (first | exact HR144_0.out | (with_reducible refine Kd.C_alloc ?_ _) | (with_reducible refine Kd.C_drewN ?_ _) | (with_reducible refine Kd.C_drew ?_))); (case side2 => exact HC144_0.out); (case side3 => repeat (first | exact HR145_0.out | (with_reducible refine Kd.C_alloc ?_ _) | (with_reducible refine Kd.C_drewN ?_ _) | (with_reducible refine Kd.C_drew ?_))); (case side4 => exact HC145_0.out); rintro e w' ⟨rfl, ⟨nd, rfl⟩⟩; (try first | exact ⟨rfl, _, World.drewN_drewN _ _ _⟩ | exact ⟨rfl, _, Eq.trans (World.drewN_drewN _ _ _) (congrArg (World.drewN _) (Nat.add_assoc _ _ _))⟩); have p147 : 0 ≤ (x5_1 : Int) := of_decide_eq_true (by first | (with_reducible assumption) | assumption); have q147 : x5_1 < (l0.length : Int) := of_decide_eq_true (by first | (with_reducible assumption) | assumption); obtain ⟨ad147, A147_0, c147_0, A147_1, c147_1, e147, hx147_0, hx147_1, hl147_0, hi147_0, hl147_1, hi147_1⟩ := at_T39 HR0.out x5_1 p147 q147; obtain rfl : ad144 = ad147 := (by injection e147); have HR147_0 := Aside0.mk hi147_0; have HC147_0 := Aside0.mk hl147_0; clear hi147_0 hl147_0; have HR147_1 := Aside0.mk hi147_1; have HC147_1 := Aside0.mk hl147_1; clear hi147_1 hl147_1; replace p147 := eq_true p147; replace q147 := eq_true q147; have ea_ := Option.some.inj (hx144_0.symm.trans hx147_0); injection ea_ with ea_ en_ ec_; subst ea_; subst ec_; clear en_; have ea_ := Option.some.inj (hx144_1.symm.trans hx147_1); injection ea_ with ea_ en_ ec_; subst ea_; subst ec_; clear en_; have p148 : 0 ≤ (x5_1 : Int) := of_decide_eq_true (by first | (with_reducible assumption) | assumption); have q148 : x5_1 < (l1.length : Int) := of_decide_eq_true (by first | (with_reducible assumption) | assumption); obtain ⟨ad148, A148_0, c148_0, A148_1, c148_1, e148, hx148_0, hx148_1, hl148_0, hi148_0, hl148_1, hi148_1⟩ := at_T39 HR1.out x5_1 p148 q148; obtain rfl : ad145 = ad148 := (by injection e148); have HR148_0 := Aside0.mk hi148_0; have HC148_0 := Aside0.mk hl148_0; clear hi148_0 hl148_0; have HR148_1 := Aside0.mk hi148_1; have HC148_1 := Aside0.mk hl148_1; clear hi148_1 hl148_1; replace p148 := eq_true p148; replace q148 := eq_true q148; have ea_ := Option.some.inj (hx145_0.symm.trans hx148_0); injection ea_ with ea_ en_ ec_; subst ea_; subst ec_; clear en_; have ea_ := Option.some.inj (hx145_1.symm.trans hx148_1); injection ea_ with ea_ en_ ec_; subst ea_; subst ec_; clear en_) | (go_at_call 35; (with_reducible refine (sorrelref05_SameLits.calls k1 _ _ ((rd_T39 l0 x5_1).f1) _ _ ((rd_T39 l1 x5_1).f1) true _ ?side1 ?side2 ?side3 ?side4 A9.out).mono ?_); (case side1 => repeat (first | exact HR147_1.out | (with_reducible refine Kd.C_alloc ?_ _) | (with_reducible refine Kd.C_drewN ?_ _) | (with_reducible refine Kd.C_drew ?_))); (case side2 => exact HC147_1.out); (case side3 => repeat (first | exact HR148_1.out | (with_reducible refine Kd.C_alloc ?_ _) | (with_reducible refine Kd.C_drewN ?_ _) | (with_reducible refine Kd.C_drew ?_))); (case side4 => exact HC148_1.out); rintro e w' ⟨rfl, ⟨nd, rfl⟩⟩; (try first | exact ⟨rfl, _, World.drewN_drewN _ _ _⟩ | exact ⟨rfl, _, Eq.trans (World.drewN_drewN _ _ _) (congrArg (World.drewN _) (Nat.add_assoc _ _ _))⟩)))
                  repeat (go_quiet (first | (go_at_call 11; (with_reducible refine (sorrelref01_Same.calls k1 _ _ ((rd_T39 l0 x5_1).f0) _ _ ((rd_T39 l1 x5_1).f0) true _ ?side1 ?side2 ?side3 ?side4 A7.out).mono ?_); (case side1 => repeat (first | exact HR144_0.out | (with_reducible refine Kd.C_alloc ?_ _) | (with_reducible refine Kd.C_drewN ?_ _) | (with_reducible refine Kd.C_drew ?_))); (case side2 => exact HC144_0.out); (case side3 => repeat (first | exact HR145_0.out | (with_reducible refine Kd.C_alloc ?_ _) | (with_reducible refine Kd.C_drewN ?_ _) | (with_reducible refine Kd.C_drew ?_))); (case side4 => exact HC145_0.out); rintro e w' ⟨rfl, ⟨nd, rfl⟩⟩; (try first | exact ⟨rfl, _, World.drewN_drewN _ _ _⟩ | exact ⟨rfl, _, Eq.trans (World.drewN_drewN _ _ _) (congrArg (World.drewN _) (Nat.add_assoc _ _ _))⟩); have p147 : 0 ≤ (x5_1 : Int) := of_decide_eq_true (by first | (with_reducible assumption) | assumption); have q147 : x5_1 < (l0.length : Int) := of_decide_eq_true (by first | (with_reducible assumption) | assumption); obtain ⟨ad147, A147_0, c147_0, A147_1, c147_1, e147, hx147_0, hx147_1, hl147_0, hi147_0, hl147_1, hi147_1⟩ := at_T39 HR0.out x5_1 p147 q147; obtain rfl : ad144 = ad147 := (by injection e147); have HR147_0 := Aside0.mk hi147_0; have HC147_0 := Aside0.mk hl147_0; clear hi147_0 hl147_0; have HR147_1 := Aside0.mk hi147_1; have HC147_1 := Aside0.mk hl147_1; clear hi147_1 hl147_1; replace p147 := eq_true p147; replace q147 := eq_true q147; have ea_ := Option.some.inj (hx144_0.symm.trans hx147_0); injection ea_ with ea_ en_ ec_; subst ea_; subst ec_; clear en_; have ea_ := Option.some.inj (hx144_1.symm.trans hx147_1); injection ea_ with ea_ en_ ec_; subst ea_; subst ec_; clear en_; have p148 : 0 ≤ (x5_1 : Int) := of_decide_eq_true (by first | (with_reducible assumption) | assumption); have q148 : x5_1 < (l1.length : Int) := of_decide_eq_true (by first | (with_reducible assumption) | assumption); obtain ⟨ad148, A148_0, c148_0, A148_1, c148_1, e148, hx148_0, hx148_1, hl148_0, hi148_0, hl148_1, hi148_1⟩ := at_T39 HR1.out x5_1 p148 q148; obtain rfl : ad145 = ad148 := (by injection e148); have HR148_0 := Aside0.mk hi148_0; have HC148_0 := Aside0.mk hl148_0; clear hi148_0 hl148_0; have HR148_1 := Aside0.mk hi148_1; have HC148_1 := Aside0.mk hl148_1; clear hi148_1 hl148_1; replace p148 := eq_true p148; replace q148 := eq_true q148; have ea_ := Option.some.inj (hx145_0.symm.trans hx148_0); injection ea_ with ea_ en_ ec_; subst ea_; subst ec_; clear en_; have ea_ := Option.some.inj (hx145_1.symm.trans hx148_1); injection ea_ with ea_ en_ ec_; subst ea_; subst ec_; clear en_) | (go_at_call 35; (with_reducible refine (sorrelref05_SameLits.calls k1 _ _ ((rd_T39 l0 x5_1).f1) _ _ ((rd_T39 l1 x5_1).f1) true _ ?side1 ?side2 ?side3 ?side4 A9.out).mono ?_); (case side1 => repeat (first | exact HR147_1.out | (with_reducible refine Kd.C_alloc ?_ _) | (with_reducible refine Kd.C_drewN ?_ _) | (with_reducible refine Kd.C_drew ?_))); (case side2 => exact HC147_1.out); (case side3 => repeat (first | exact HR148_1.out | (with_reducible refine Kd.C_alloc ?_ _) | (with_reducible refine Kd.C_drewN ?_ _) | (with_reducible refine Kd.C_drew ?_))); (case side4 => exact HC148_1.out); rintro e w' ⟨rfl, ⟨nd, rfl⟩⟩; (try first | exact ⟨rfl, _, World.drewN_drewN _ _ _⟩ | exact ⟨rfl, _, Eq.trans (World.drewN_drewN _ _ _) (congrArg (World.drewN _) (Nat.add_assoc _ _ _))⟩))); try go_wp2_with (first | (go_at_call 11; (with_reducible refine (sorrelref01_Same.calls k1 _ _ ((rd_T39 l0 x5_1).f0) _ _ ((rd_T39 l1 x5_1).f0) true _ ?side1 ?side2 ?side3 ?side4 A7.out).mono ?_); (case side1 => repeat (first | exact HR144_0.out | (with_reducible refine Kd.C_alloc ?_ _) | (with_reducible refine Kd.C_drewN ?_ _) | (with_reducible refine Kd.C_drew ?_))); (case side2 => exact HC144_0.out); (case side3 => repeat (first | exact HR145_0.out | (with_reducible refine Kd.C_alloc ?_ _) | (with_reducible refine Kd.C_drewN ?_ _) | (with_reducible refine Kd.C_drew ?_))); (case side4 => exact HC145_0.out); rintro e w' ⟨rfl, ⟨nd, rfl⟩⟩; (try first | exact ⟨rfl, _, World.drewN_drewN _ _ _⟩ | exact ⟨rfl, _, Eq.trans (World.drewN_drewN _ _ _) (congrArg (World.drewN _) (Nat.add_assoc _ _ _))⟩); have p147 : 0 ≤ (x5_1 : Int) := of_decide_eq_true (by first | (with_reducible assumption) | assumption); have q147 : x5_1 < (l0.length : Int) := of_decide_eq_true (by first | (with_reducible assumption) | assumption); obtain ⟨ad147, A147_0, c147_0, A147_1, c147_1, e147, hx147_0, hx147_1, hl147_0, hi147_0, hl147_1, hi147_1⟩ := at_T39 HR0.out x5_1 p147 q147; obtain rfl : ad144 = ad147 := (by injection e147); have HR147_0 := Aside0.mk hi147_0; have HC147_0 := Aside0.mk hl147_0; clear hi147_0 hl147_0; have HR147_1 := Aside0.mk hi147_1; have HC147_1 := Aside0.mk hl147_1; clear hi147_1 hl147_1; replace p147 := eq_true p147; replace q147 := eq_true q147; have ea_ := Option.some.inj (hx144_0.symm.trans hx147_0); injection ea_ with ea_ en_ ec_; subst ea_; subst ec_; clear en_; have ea_ := Option.some.inj (hx144_1.symm.trans hx147_1); injection ea_ with ea_ en_ ec_; subst ea_; subst ec_; clear en_; have p148 : 0 ≤ (x5_1 : Int) := of_decide_eq_true (by first | (with_reducible assumption) | assumption); have q148 : x5_1 < (l1.length : Int) := of_decide_eq_true (by first | (with_reducible assumption) | assumption); obtain ⟨ad148, A148_0, c148_0, A148_1, c148_1, e148, hx148_0, hx148_1, hl148_0, hi148_0, hl148_1, hi148_1⟩ := at_T39 HR1.out x5_1 p148 q148; obtain rfl : ad145 = ad148 := (by injection e148); have HR148_0 := Aside0.mk hi148_0; have HC148_0 := Aside0.mk hl148_0; clear hi148_0 hl148_0; have HR148_1 := Aside0.mk hi148_1; have HC148_1 := Aside0.mk hl148_1; clear hi148_1 hl148_1; replace p148 := eq_true p148; replace q148 := eq_true q148; have ea_ := Option.some.inj (hx145_0.symm.trans hx148_0); injection ea_ with ea_ en_ ec_; subst ea_; subst ec_; clear en_; have ea_ := Option.some.inj (hx145_1.symm.trans hx148_1); injection ea_ with ea_ en_ ec_; subst ea_; subst ec_; clear en_) | (go_at_call 35; (with_reducible refine (sorrelref05_SameLits.calls k1 _ _ ((rd_T39 l0 x5_1).f1) _ _ ((rd_T39 l1 x5_1).f1) true _ ?side1 ?side2 ?side3 ?side4 A9.out).mono ?_); (case side1 => repeat (first | exact HR147_1.out | (with_reducible refine Kd.C_alloc ?_ _) | (with_reducible refine Kd.C_drewN ?_ _) | (with_reducible refine Kd.C_drew ?_))); (case side2 => exact HC147_1.out); (case side3 => repeat (first | exact HR148_1.out | (with_reducible refine Kd.C_alloc ?_ _) | (with_reducible refine Kd.C_drewN ?_ _) | (with_reducible refine Kd.C_drew ?_))); (case side4 => exact HC148_1.out); rintro e w' ⟨rfl, ⟨nd, rfl⟩⟩; (try first | exact ⟨rfl, _, World.drewN_drewN _ _ _⟩ | exact ⟨rfl, _, Eq.trans (World.drewN_drewN _ _ _) (congrArg (World.drewN _) (Nat.add_assoc _ _ _))⟩))))
                  go_roundg k1
                  case measure => have := HK1.out; omega
                  case rel => exact ⟨(wrap64 (x5_1 + 1)), (by first | rfl | (simp; done) | (simp [*]; done)), H', ⟨by have := HK1.out; omega⟩, by repeat (first | exact Drawn0.refl _ | apply Drawn0.step)⟩
                · replace c10 := Bool.eq_false_iff.mpr c10
                  subst c10
                  have H1 : (some false) = some r := by rw [if_neg (show ¬ (false = true) by decide)] at H; exact H
                  clear H
                  have H := H1
                  clear H1
                  obtain rfl := Option.some.inj H
                  have p144 : 0 ≤ (x5_1 : Int) := of_decide_eq_true (by first | (with_reducible assumption) | assumption)
                  have q144 : x5_1 < (l0.length : Int) := of_decide_eq_true (by first | (with_reducible assumption) | assumption)
                  obtain ⟨ad144, A144_0, c144_0, A144_1, c144_1, e144, hx144_0, hx144_1, hl144_0, hi144_0, hl144_1, hi144_1⟩ := at_T39 HR0.out x5_1 p144 q144
                  cases e144
                  have HR144_0 := Aside0.mk hi144_0
                  have HC144_0 := Aside0.mk hl144_0
                  clear hi144_0 hl144_0
                  have HR144_1 := Aside0.mk hi144_1
                  have HC144_1 := Aside0.mk hl144_1
                  clear hi144_1 hl144_1
                  replace p144 := eq_true p144
                  replace q144 := eq_true q144
                  have p145 : 0 ≤ (x5_1 : Int) := of_decide_eq_true (by first | (with_reducible assumption) | assumption)
                  have q145 : x5_1 < (l1.length : Int) := of_decide_eq_true (by first | (with_reducible assumption) | assumption)
                  obtain ⟨ad145, A145_0, c145_0, A145_1, c145_1, e145, hx145_0, hx145_1, hl145_0, hi145_0, hl145_1, hi145_1⟩ := at_T39 HR1.out x5_1 p145 q145
                  cases e145
                  have HR145_0 := Aside0.mk hi145_0
                  have HC145_0 := Aside0.mk hl145_0
                  clear hi145_0 hl145_0
                  have HR145_1 := Aside0.mk hi145_1
                  have HC145_1 := Aside0.mk hl145_1
                  clear hi145_1 hl145_1
                  replace p145 := eq_true p145
                  replace q145 := eq_true q145
                  go_wp2_with (first | (go_at_call 11; (with_reducible refine (sorrelref01_Same.calls k1 _ _ ((rd_T39 l0 x5_1).f0) _ _ ((rd_T39 l1 x5_1).f0) true _ ?side1 ?side2 ?side3 ?side4 A7.out).mono ?_); (case side1 => repeat (first | exact HR144_0.out | (with_reducible refine Kd.C_alloc ?_ _) | (with_reducible refine Kd.C_drewN ?_ _) | (with_reducible refine Kd.C_drew ?_))); (case side2 => exact HC144_0.out); (case side3 => repeat (first | exact HR145_0.out | (with_reducible refine Kd.C_alloc ?_ _) | (with_reducible refine Kd.C_drewN ?_ _) | (with_reducible refine Kd.C_drew ?_))); (case side4 => exact HC145_0.out); rintro e w' ⟨rfl, ⟨nd, rfl⟩⟩; (try first | exact ⟨rfl, _, World.drewN_drewN _ _ _⟩ | exact ⟨rfl, _, Eq.trans (World.drewN_drewN _ _ _) (congrArg (World.drewN _) (Nat.add_assoc _ _ _))⟩); have p147 : 0 ≤ (x5_1 : Int) := of_decide_eq_true (by first | (with_reducible assumption) | assumption); have q147 : x5_1 < (l0.length : Int) := of_decide_eq_true (by first | (with_reducible assumption) | assumption); obtain ⟨ad147, A147_0, c147_0, A147_1, c147_1, e147, hx147_0, hx147_1, hl147_0, hi147_0, hl147_1, hi147_1⟩ := at_T39 HR0.out x5_1 p147 q147; obtain rfl : ad144 = ad147 := (by injection e147); have HR147_0 := Aside0.mk hi147_0; have HC147_0 := Aside0.mk hl147_0; clear hi147_0 hl147_0; have HR147_1 := Aside0.mk hi147_1; have HC147_1 := Aside0.mk hl147_1; clear hi147_1 hl147_1; replace p147 := eq_true p147; replace q147 := eq_true q147; have ea_ := Option.some.inj (hx144_0.symm.trans hx147_0); injection ea_ with ea_ en_ ec_; subst ea_; subst ec_; clear en_; have ea_ := Option.some.inj (hx144_1.symm.trans hx147_1); injection ea_ with ea_ en_ ec_; subst ea_; subst ec_; clear en_; have p148 : 0 ≤ (x5_1 : Int) := of_decide_eq_true (by first | (with_reducible assumption) | assumption); have q148 : x5_1 < (l1.length : Int) := of_decide_eq_true (by first | (with_reducible assumption) | assumption); obtain ⟨ad148, A148_0, c148_0, A148_1, c148_1, e148, hx148_0, hx148_1, hl148_0, hi148_0, hl148_1, hi148_1⟩ := at_T39 HR1.out x5_1 p148 q148; obtain rfl : ad145 = ad148 := (by injection e148); have HR148_0 := Aside0.mk hi148_0; have HC148_0 := Aside0.mk hl148_0; clear hi148_0 hl148_0; have HR148_1 := Aside0.mk hi148_1; have HC148_1 := Aside0.mk hl148_1; clear hi148_1 hl148_1; replace p148 := eq_true p148; replace q148 := eq_true q148; have ea_ := Option.some.inj (hx145_0.symm.trans hx148_0); injection ea_ with ea_ en_ ec_; subst ea_; subst ec_; clear en_; have ea_ := Option.some.inj (hx145_1.symm.trans hx148_1); injection ea_ with ea_ en_ ec_; subst ea_; subst ec_; clear en_) | (go_at_call 35; (with_reducible refine (sorrelref05_SameLits.calls k1 _ _ ((rd_T39 l0 x5_1).f1) _ _ ((rd_T39 l1 x5_1).f1) false _ ?side1 ?side2 ?side3 ?side4 A9.out).mono ?_); (case side1 => repeat (first | exact HR147_1.out | (with_reducible refine Kd.C_alloc ?_ _) | (with_reducible refine Kd.C_drewN ?_ _) | (with_reducible refine Kd.C_drew ?_))); (case side2 => exact HC147_1.out); (case side3 => repeat (first | exact HR148_1.out | (with_reducible refine Kd.C_alloc ?_ _) | (with_reducible refine Kd.C_drewN ?_ _) | (with_reducible refine Kd.C_drew ?_))); (case side4 => exact HC148_1.out); rintro e w' ⟨rfl, ⟨nd, rfl⟩⟩; (try first | exact ⟨rfl, _, World.drewN_drewN _ _ _⟩ | exact ⟨rfl, _, Eq.trans (World.drewN_drewN _ _ _) (congrArg (World.drewN _) (Nat.add_assoc _ _ _))⟩)))
                  repeat (go_quiet (first | (go_at_call 11; (with_reducible refine (sorrelref01_Same.calls k1 _ _ ((rd_T39 l0 x5_1).f0) _ _ ((rd_T39 l1 x5_1).f0) true _ ?side1 ?side2 ?side3 ?side4 A7.out).mono ?_); (case side1 => repeat (first | exact HR144_0.out | (with_reducible refine Kd.C_alloc ?_ _) | (with_reducible refine Kd.C_drewN ?_ _) | (with_reducible refine Kd.C_drew ?_))); (case side2 => exact HC144_0.out); (case side3 => repeat (first | exact HR145_0.out | (with_reducible refine Kd.C_alloc ?_ _) | (with_reducible refine Kd.C_drewN ?_ _) | (with_reducible refine Kd.C_drew ?_))); (case side4 => exact HC145_0.out); rintro e w' ⟨rfl, ⟨nd, rfl⟩⟩; (try first | exact ⟨rfl, _, World.drewN_drewN _ _ _⟩ | exact ⟨rfl, _, Eq.trans (World.drewN_drewN _ _ _) (congrArg (World.drewN _) (Nat.add_assoc _ _ _))⟩); have p147 : 0 ≤ (x5_1 : Int) := of_decide_eq_true (by first | (with_reducible assumption) | assumption); have q147 : x5_1 < (l0.length : Int) := of_decide_eq_true (by first | (with_reducible assumption) | assumption); obtain ⟨ad147, A147_0, c147_0, A147_1, c147_1, e147, hx147_0, hx147_1, hl147_0, hi147_0, hl147_1, hi147_1⟩ := at_T39 HR0.out x5_1 p147 q147; obtain rfl : ad144 = ad147 := (by injection e147); have HR147_0 := Aside0.mk hi147_0; have HC147_0 := Aside0.mk hl147_0; clear hi147_0 hl147_0; have HR147_1 := Aside0.mk hi147_1; have HC147_1 := Aside0.mk hl147_1; clear hi147_1 hl147_1; replace p147 := eq_true p147; replace q147 := eq_true q147; have ea_ := Option.some.inj (hx144_0.symm.trans hx147_0); injection ea_ with ea_ en_ ec_; subst ea_; subst ec_; clear en_; have ea_ := Option.some.inj (hx144_1.symm.trans hx147_1); injection ea_ with ea_ en_ ec_; subst ea_; subst ec_; clear en_; have p148 : 0 ≤ (x5_1 : Int) := of_decide_eq_true (by first | (with_reducible assumption) | assumption); have q148 : x5_1 < (l1.length : Int) := of_decide_eq_true (by first | (with_reducible assumption) | assumption); obtain ⟨ad148, A148_0, c148_0, A148_1, c148_1, e148, hx148_0, hx148_1, hl148_0, hi148_0, hl148_1, hi148_1⟩ := at_T39 HR1.out x5_1 p148 q148; obtain rfl : ad145 = ad148 := (by injection e148); have HR148_0 := Aside0.mk hi148_0; have HC148_0 := Aside0.mk hl148_0; clear hi148_0 hl148_0; have HR148_1 := Aside0.mk hi148_1; have HC148_1 := Aside0.mk hl148_1; clear hi148_1 hl148_1; replace p148 := eq_true p148; replace q148 := eq_true q148; have ea_ := Option.some.inj (hx145_0.symm.trans hx148_0); injection ea_ with ea_ en_ ec_; subst ea_; subst ec_; clear en_; have ea_ := Option.some.inj (hx145_1.symm.trans hx148_1); injection ea_ with ea_ en_ ec_; subst ea_; subst ec_; clear en_) | (go_at_call 35; (with_reducible refine (sorrelref05_SameLits.calls k1 _ _ ((rd_T39 l0 x5_1).f1) _ _ ((rd_T39 l1 x5_1).f1) false _ ?side1 ?side2 ?side3 ?side4 A9.out).mono ?_); (case side1 => repeat (first | exact HR147_1.out | (with_reducible refine Kd.C_alloc ?_ _) | (with_reducible refine Kd.C_drewN ?_ _) | (with_reducible refine Kd.C_drew ?_))); (case side2 => exact HC147_1.out); (case side3 => repeat (first | exact HR148_1.out | (with_reducible refine Kd.C_alloc ?_ _) | (with_reducible refine Kd.C_drewN ?_ _) | (with_reducible refine Kd.C_drew ?_))); (case side4 => exact HC148_1.out); rintro e w' ⟨rfl, ⟨nd, rfl⟩⟩; (try first | exact ⟨rfl, _, World.drewN_drewN _ _ _⟩ | exact ⟨rfl, _, Eq.trans (World.drewN_drewN _ _ _) (congrArg (World.drewN _) (Nat.add_assoc _ _ _))⟩))); try go_wp2_with (first | (go_at_call 11; (with_reducible refine (sorrelref01_Same.calls k1 _ _ ((rd_T39 l0 x5_1).f0) _ _ ((rd_T39 l1 x5_1).f0) true _ ?side1 ?side2 ?side3 ?side4 A7.out).mono ?_); (case side1 => repeat (first | exact HR144_0.out | (with_reducible refine Kd.C_alloc ?_ _) | (with_reducible refine Kd.C_drewN ?_ _) | (with_reducible refine Kd.C_drew ?_))); (case side2 => exact HC144_0.out); (case side3 => repeat (first | exact HR145_0.out | (with_reducible refine Kd.C_alloc ?_ _) | (with_reducible refine Kd.C_drewN ?_ _) | (with_reducible refine Kd.C_drew ?_))); (case side4 => exact HC145_0.out); rintro e w' ⟨rfl, ⟨nd, rfl⟩⟩; (try first | exact ⟨rfl, _, World.drewN_drewN _ _ _⟩ | exact ⟨rfl, _, Eq.trans (World.drewN_drewN _ _ _) (congrArg (World.drewN _) (Nat.add_assoc _ _ _))⟩); have p147 : 0 ≤ (x5_1 : Int) := of_decide_eq_true (by first | (with_reducible assumption) | assumption); have q147 : x5_1 < (l0.length : Int) := of_decide_eq_true (by first | (with_reducible assumption) | assumption); obtain ⟨ad147, A147_0, c147_0, A147_1, c147_1, e147, hx147_0, hx147_1, hl147_0, hi147_0, hl147_1, hi147_1⟩ := at_T39 HR0.out x5_1 p147 q147; obtain rfl : ad144 = ad147 := (by injection e147); have HR147_0 := Aside0.mk hi147_0; have HC147_0 := Aside0.mk hl147_0; clear hi147_0 hl147_0; have HR147_1 := Aside0.mk hi147_1; have HC147_1 := Aside0.mk hl147_1; clear hi147_1 hl147_1; replace p147 := eq_true p147; replace q147 := eq_true q147; have ea_ := Option.some.inj (hx144_0.symm.trans hx147_0); injection ea_ with ea_ en_ ec_; subst ea_; subst ec_; clear en_; have ea_ := Option.some.inj (hx144_1.symm.trans hx147_1); injection ea_ with ea_ en_ ec_; subst ea_; subst ec_; clear en_; have p148 : 0 ≤ (x5_1 : Int) := of_decide_eq_true (by first | (with_reducible assumption) | assumption); have q148 : x5_1 < (l1.length : Int) := of_decide_eq_true (by first | (with_reducible assumption) | assumption); obtain ⟨ad148, A148_0, c148_0, A148_1, c148_1, e148, hx148_0, hx148_1, hl148_0, hi148_0, hl148_1, hi148_1⟩ := at_T39 HR1.out x5_1 p148 q148; obtain rfl : ad145 = ad148 := (by injection e148); have HR148_0 := Aside0.mk hi148_0; have HC148_0 := Aside0.mk hl148_0; clear hi148_0 hl148_0; have HR148_1 := Aside0.mk hi148_1; have HC148_1 := Aside0.mk hl148_1; clear hi148_1 hl148_1; replace p148 := eq_true p148; replace q148 := eq_true q148; have ea_ := Option.some.inj (hx145_0.symm.trans hx148_0); injection ea_ with ea_ en_ ec_; subst ea_; subst ec_; clear en_; have ea_ := Option.some.inj (hx145_1.symm.trans hx148_1); injection ea_ with ea_ en_ ec_; subst ea_; subst ec_; clear en_) | (go_at_call 35; (with_reducible refine (sorrelref05_SameLits.calls k1 _ _ ((rd_T39 l0 x5_1).f1) _ _ ((rd_T39 l1 x5_1).f1) false _ ?side1 ?side2 ?side3 ?side4 A9.out).mono ?_); (case side1 => repeat (first | exact HR147_1.out | (with_reducible refine Kd.C_alloc ?_ _) | (with_reducible refine Kd.C_drewN ?_ _) | (with_reducible refine Kd.C_drew ?_))); (case side2 => exact HC147_1.out); (case side3 => repeat (first | exact HR148_1.out | (with_reducible refine Kd.C_alloc ?_ _) | (with_reducible refine Kd.C_drewN ?_ _) | (with_reducible refine Kd.C_drew ?_))); (case side4 => exact HC148_1.out); rintro e w' ⟨rfl, ⟨nd, rfl⟩⟩; (try first | exact ⟨rfl, _, World.drewN_drewN _ _ _⟩ | exact ⟨rfl, _, Eq.trans (World.drewN_drewN _ _ _) (congrArg (World.drewN _) (Nat.add_assoc _ _ _))⟩))))
                  go_ret
                  exact ⟨by first | rfl | (simp; done) | (simp [*]; done), by repeat (first | exact Drawn0.refl _ | apply Drawn0.step)⟩
              · replace c8 := Bool.eq_false_iff.mpr c8
                subst c8
                have H1 : (some false) = some r := by rw [if_neg (show ¬ (false = true) by decide)] at H; exact H
                clear H
                have H := H1
                clear H1
                obtain rfl := Option.some.inj H
                have p144 : 0 ≤ (x5_1 : Int) := of_decide_eq_true (by first | (with_reducible assumption) | assumption)
                have q144 : x5_1 < (l0.length : Int) := of_decide_eq_true (by first | (with_reducible assumption) | assumption)
                obtain ⟨ad144, A144_0, c144_0, A144_1, c144_1, e144, hx144_0, hx144_1, hl144_0, hi144_0, hl144_1, hi144_1⟩ := at_T39 HR0.out x5_1 p144 q144
                cases e144
                have HR144_0 := Aside0.mk hi144_0
                have HC144_0 := Aside0.mk hl144_0
                clear hi144_0 hl144_0
                have HR144_1 := Aside0.mk hi144_1
                have HC144_1 := Aside0.mk hl144_1
                clear hi144_1 hl144_1
                replace p144 := eq_true p144
                replace q144 := eq_true q144
                have p145 : 0 ≤ (x5_1 : Int) := of_decide_eq_true (by first | (with_reducible assumption) | assumption)
                have q145 : x5_1 < (l1.length : Int) := of_decide_eq_true (by first | (with_reducible assumption) | assumption)
                obtain ⟨ad145, A145_0, c145_0, A145_1, c145_1, e145, hx145_0, hx145_1, hl145_0, hi145_0, hl145_1, hi145_1⟩ := at_T39 HR1.out x5_1 p145 q145
                cases e145
                have HR145_0 := Aside0.mk hi145_0
                have HC145_0 := Aside0.mk hl145_0
                clear hi145_0 hl145_0
                have HR145_1 := Aside0.mk hi145_1
                have HC145_1 := Aside0.mk hl145_1
                clear hi145_1 hl145_1
                replace p145 := eq_true p145
                replace q145 := eq_true q145
                go_wp2_with (first | (go_at_call 11; (with_reducible refine (sorrelref01_Same.calls k1 _ _ ((rd_T39 l0 x5_1).f0) _ _ ((rd_T39 l1 x5_1).f0) false _ ?side1 ?side2 ?side3 ?side4 A7.out).mono ?_); (case side1 => repeat (first | exact HR144_0.out | (with_reducible refine Kd.C_alloc ?_ _) | (with_reducible refine Kd.C_drewN ?_ _) | (with_reducible refine Kd.C_drew ?_))); (case side2 => exact HC144_0.out); (case side3 => repeat (first | exact HR145_0.out | (with_reducible refine Kd.C_alloc ?_ _) | (with_reducible refine Kd.C_drewN ?_ _) | (with_reducible refine Kd.C_drew ?_))); (case side4 => exact HC145_0.out); rintro e w' ⟨rfl, ⟨nd, rfl⟩⟩; (try first | exact ⟨rfl, _, World.drewN_drewN _ _ _⟩ | exact ⟨rfl, _, Eq.trans (World.drewN_drewN _ _ _) (congrArg (World.drewN _) (Nat.add_assoc _ _ _))⟩)))
                repeat (go_quiet (first | (go_at_call 11; (with_reducible refine (sorrelref01_Same.calls k1 _ _ ((rd_T39 l0 x5_1).f0) _ _ ((rd_T39 l1 x5_1).f0) false _ ?side1 ?side2 ?side3 ?side4 A7.out).mono ?_); (case side1 => repeat (first | exact HR144_0.out | (with_reducible refine Kd.C_alloc ?_ _) | (with_reducible refine Kd.C_drewN ?_ _) | (with_reducible refine Kd.C_drew ?_))); (case side2 => exact HC144_0.out); (case side3 => repeat (first | exact HR145_0.out | (with_reducible refine Kd.C_alloc ?_ _) | (with_reducible refine Kd.C_drewN ?_ _) | (with_reducible refine Kd.C_drew ?_))); (case side4 => exact HC145_0.out); rintro e w' ⟨rfl, ⟨nd, rfl⟩⟩; (try first | exact ⟨rfl, _, World.drewN_drewN _ _ _⟩ | exact ⟨rfl, _, Eq.trans (World.drewN_drewN _ _ _) (congrArg (World.drewN _) (Nat.add_assoc _ _ _))⟩))); try go_wp2_with (first | (go_at_call 11; (with_reducible refine (sorrelref01_Same.calls k1 _ _ ((rd_T39 l0 x5_1).f0) _ _ ((rd_T39 l1 x5_1).f0) false _ ?side1 ?side2 ?side3 ?side4 A7.out).mono ?_); (case side1 => repeat (first | exact HR144_0.out | (with_reducible refine Kd.C_alloc ?_ _) | (with_reducible refine Kd.C_drewN ?_ _) | (with_reducible refine Kd.C_drew ?_))); (case side2 => exact HC144_0.out); (case side3 => repeat (first | exact HR145_0.out | (with_reducible refine Kd.C_alloc ?_ _) | (with_reducible refine Kd.C_drewN ?_ _) | (with_reducible refine Kd.C_drew ?_))); (case side4 => exact HC145_0.out); rintro e w' ⟨rfl, ⟨nd, rfl⟩⟩; (try first | exact ⟨rfl, _, World.drewN_drewN _ _ _⟩ | exact ⟨rfl, _, Eq.trans (World.drewN_drewN _ _ _) (congrArg (World.drewN _) (Nat.add_assoc _ _ _))⟩))))
                go_ret
                exact ⟨by first | rfl | (simp; done) | (simp [*]; done), by repeat (first | exact Drawn0.refl _ | apply Drawn0.step)⟩
            · rw [if_neg c6] at H
              exact absurd H (by simp)
          · rw [if_neg c5] at H
            exact absurd H (by simp)
        · rw [if_neg c4] at H
          have c4b0 : decide (x5_1 < (l0.length : Int)) = false := decide_eq_false c4
          clear c4
          obtain rfl := Option.some.inj H
          go_wp2
          repeat (go_quiet (fail); try go_wp2)
          go_ret
          exact ⟨by first | rfl | (simp; done) | (simp [*]; done), by repeat (first | exact Drawn0.refl _ | apply Drawn0.step)⟩
  · rw [if_neg c3] at H
    have c3b0 : ((l0.length : Int) == (l1.length : Int)) = false := beq_eq_false_iff_ne.mpr c3
    have c3b1 : ((l0.length : Int) != (l1.length : Int)) = true := bne_iff_ne.mpr c3
    have c3b2 : (l0.length == l1.length) = false := by first | simpa using c3 | (simp at c3 ⊢; omega)
    obtain rfl := Option.some.inj H
    go_enter Tryd.func16, Tryd.ntmps16
    go_wp2
    repeat (go_quiet (fail); try go_wp2)
    go_ret
    exact ⟨by first | rfl | (simp; done) | (simp [*]; done), by repeat (first | exact Drawn0.refl _ | apply Drawn0.step)⟩

end Go.Proofs.YthdccdbiichabaaDoor.P
