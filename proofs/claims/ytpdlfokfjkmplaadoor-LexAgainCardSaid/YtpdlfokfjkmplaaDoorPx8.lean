-- Written by a program of this session (wip/gen) out of the translation. Lean checks it.
import Derived.Test.YtpdlfokfjkmplaaDoorPx0
namespace Go.Proofs.YtpdlfokfjkmplaaDoor.P
open Go.RowKit Go.Proofs.YtpdlfokfjkmplaaDoorW.PrintWords Go.Proofs.YtpdlfokfjkmplaaDoorW.PrintLast Go.Proofs.YtpdlfokfjkmplaaDoorW.PrintMore
attribute [local go_sem] max2_int min2_int max_two min_two max_three min_three max_four min_four   -- for this text's walks alone
set_option linter.unusedVariables false
set_option linter.unusedSimpArgs false

/-! ### sorrelref04_quoted: function 43 -/
mutual
def sorrelref04_quoted.l0 : Nat → ByteArray → Int → Int → Option (Int × ByteArray × Int × Int × Int × Int)
  | 0, _, _, _ => none
  | k + 1, x0, x1, x7 => if x7 < (x0.size : Int) then (sorrelref04_quoted.j1 k x0 x1 x7 (decide (x7 ≤ (wrap64 ((wrap64 (x1 + 12)) + 1))))) else (sorrelref04_quoted.j1 k x0 x1 x7 false)
def sorrelref04_quoted.j1 : Nat → ByteArray → Int → Int → Bool → Option (Int × ByteArray × Int × Int × Int × Int)
  | 0, _, _, _, _ => none
  | k + 1, x0, x1, x7, x20 => if x20 = true then (if 0 ≤ x7 then (if x7 < (x0.size : Int) then (if (bt x0 x7) = 39 then (sorrelref04_quoted.j2 k x0 x1 x7 (decide (x7 > (wrap64 (x1 + 1))))) else (sorrelref04_quoted.j2 k x0 x1 x7 false)) else (none)) else (none)) else (some (0, (⟨#[]⟩ : ByteArray), 0, 0, x1, 41))
def sorrelref04_quoted.j2 : Nat → ByteArray → Int → Int → Bool → Option (Int × ByteArray × Int × Int × Int × Int)
  | 0, _, _, _, _ => none
  | k + 1, x0, x1, x7, x32 => if x32 = true then (if 0 ≤ (wrap64 (x1 + 1)) then (if (wrap64 (x1 + 1)) ≤ x7 then (if x7 ≤ (x0.size : Int) then (some (1, x0.extract ((wrap64 (x1 + 1)) : Int).toNat (x7 : Int).toNat, 0, x1, wrap64 (x7 + 1), 0)) else (none)) else (none)) else (none)) else (if 0 ≤ x7 then (if x7 < (x0.size : Int) then (if (bt x0 x7) = 39 then (some (0, (⟨#[]⟩ : ByteArray), 0, 0, x1, 41)) else (if (bt x0 x7) < 32 then (some (0, (⟨#[]⟩ : ByteArray), 0, 0, x1, 41)) else (if (bt x0 x7) > 126 then (some (0, (⟨#[]⟩ : ByteArray), 0, 0, x1, 41)) else (sorrelref04_quoted.l0 k x0 x1 (wrap64 (x7 + 1)))))) else (none)) else (none))
end
def sorrelref04_quoted.f (k : Nat) (a0 : ByteArray) (a1 : Int) : Option (Int × ByteArray × Int × Int × Int × Int) := sorrelref04_quoted.l0 k a0 a1 (wrap64 (a1 + 1))
theorem sorrelref04_quoted.mono_l : ∀ k, (∀ y0 y1 y2, LeO (sorrelref04_quoted.l0 k y0 y1 y2) (sorrelref04_quoted.l0 (k + 1) y0 y1 y2)) ∧ (∀ y0 y1 y2 y3, LeO (sorrelref04_quoted.j1 k y0 y1 y2 y3) (sorrelref04_quoted.j1 (k + 1) y0 y1 y2 y3)) ∧ (∀ y0 y1 y2 y3, LeO (sorrelref04_quoted.j2 k y0 y1 y2 y3) (sorrelref04_quoted.j2 (k + 1) y0 y1 y2 y3))
  | 0 => ⟨fun _ _ _ r h => by simp [sorrelref04_quoted.l0] at h, fun _ _ _ _ r h => by simp [sorrelref04_quoted.j1] at h, fun _ _ _ _ r h => by simp [sorrelref04_quoted.j2] at h⟩
  | k + 1 => by
    obtain ⟨ih0, ih1, ih2⟩ := sorrelref04_quoted.mono_l k
    refine ⟨?_, ?_, ?_⟩
    · intro y0 y1 y2
      unfold sorrelref04_quoted.l0
      repeat' first
      | (with_reducible exact ih0 _ _ _)
      | (with_reducible exact ih1 _ _ _ _)
      | (with_reducible exact ih2 _ _ _ _)
      | (with_reducible exact LeO.refl _)
      | (with_reducible exact LeO.none _)
      | (with_reducible refine LeO.ite ?_ ?_)
      | (with_reducible refine LeO.bind ?_ (fun _ => ?_))
      | exact ih0 _ _ _
      | exact ih1 _ _ _ _
      | exact ih2 _ _ _ _
      | exact LeO.none _
      | refine LeO.ite ?_ ?_
      | refine LeO.bind ?_ (fun _ => ?_)
    · intro y0 y1 y2 y3
      unfold sorrelref04_quoted.j1
      repeat' first
      | (with_reducible exact ih0 _ _ _)
      | (with_reducible exact ih1 _ _ _ _)
      | (with_reducible exact ih2 _ _ _ _)
      | (with_reducible exact LeO.refl _)
      | (with_reducible exact LeO.none _)
      | (with_reducible refine LeO.ite ?_ ?_)
      | (with_reducible refine LeO.bind ?_ (fun _ => ?_))
      | exact ih0 _ _ _
      | exact ih1 _ _ _ _
      | exact ih2 _ _ _ _
      | exact LeO.none _
      | refine LeO.ite ?_ ?_
      | refine LeO.bind ?_ (fun _ => ?_)
    · intro y0 y1 y2 y3
      unfold sorrelref04_quoted.j2
      repeat' first
      | (with_reducible exact ih0 _ _ _)
      | (with_reducible exact ih1 _ _ _ _)
      | (with_reducible exact ih2 _ _ _ _)
      | (with_reducible exact LeO.refl _)
      | (with_reducible exact LeO.none _)
      | (with_reducible refine LeO.ite ?_ ?_)
      | (with_reducible refine LeO.bind ?_ (fun _ => ?_))
      | exact ih0 _ _ _
      | exact ih1 _ _ _ _
      | exact ih2 _ _ _ _
      | exact LeO.none _
      | refine LeO.ite ?_ ?_
      | refine LeO.bind ?_ (fun _ => ?_)
theorem sorrelref04_quoted.mono : ∀ a0 a1 k, LeO (sorrelref04_quoted.f k a0 a1) (sorrelref04_quoted.f (k + 1) a0 a1) := by
  intro a0 a1 k
  obtain ⟨ih0, ih1, ih2⟩ := sorrelref04_quoted.mono_l k
  unfold sorrelref04_quoted.f
  repeat' first
      | (with_reducible exact ih0 _ _ _)
      | (with_reducible exact ih1 _ _ _ _)
      | (with_reducible exact ih2 _ _ _ _)
      | (with_reducible exact LeO.refl _)
      | (with_reducible exact LeO.none _)
      | (with_reducible refine LeO.ite ?_ ?_)
      | (with_reducible refine LeO.bind ?_ (fun _ => ?_))
      | exact ih0 _ _ _
      | exact ih1 _ _ _ _
      | exact ih2 _ _ _ _
      | exact LeO.none _
      | refine LeO.ite ?_ ?_
      | refine LeO.bind ?_ (fun _ => ?_)
set_option maxHeartbeats 8000000 in
set_option maxRecDepth 100000 in
theorem sorrelref04_quoted.calls (k : Nat) (a0 : ByteArray) (a1 : Int) (r1 : Int) (r2 : ByteArray) (r3 : Int) (r4 : Int) (r5 : Int) (r6 : Int) (w : World) (h : sorrelref04_quoted.f k a0 a1 = some (r1, r2, r3, r4, r5, r6)) :
    Calls Tryd.prog 43 #[.string a0, .int .i64 a1] w fun e w' => e = .returned (.tuple #[.agg #[.int .i64 r1, .string r2, .int .i64 r3, .int .i64 r4], .int .i64 r5, .int .i64 r6]) ∧ Below w.heap.size w w' := by
  have hu30 := Tryd.underlying30
  have HB := Aside0.mk (Below.refl w.heap.size w)
  have H : (sorrelref04_quoted.l0 k a0 a1 (wrap64 (a1 + 1))) = some (r1, r2, r3, r4, r5, r6) := h
  clear h
  have H' := Aside0.mk H
  clear H
  go_enter Tryd.func43, Tryd.ntmps43
  go_wp2_with (first | ((with_reducible refine gate_dst (N := 4) rfl ?_); refine box_event ?hg (N := 4) ?hd (cs := #[.int .i64 0, .string (⟨#[]⟩ : ByteArray), .int .i64 0, .int .i64 0]) (t := 30) ?hr ?_; (case hd => rfl); (case hg => rfl); (case hr => first | (go_simp; done) | (go_simp; rfl)); intro gb157 hg w3 hbox hb; have n0_ := Aside0.mk (below_step (by repeat (first | (with_reducible first | exact HB.out | apply below_alloc | apply pw_below_drewN | apply below_drew1) | exact HB.out)) hb); have n1_ := Aside0.mk (hbox); have n2_ := Aside0.mk ((by rw [hg]; exact (below_size (by repeat (first | (with_reducible first | exact HB.out | apply below_alloc | apply pw_below_drewN | apply below_drew1) | exact HB.out))) : w.heap.size ≤ gb157)); have n3_ := Aside0.mk ((by rw [hg]; exact (below_size (by repeat (first | (with_reducible first | exact HB.out | apply below_alloc | apply pw_below_drewN | apply below_drew1) | exact HB.out))) : w.heap.size ≤ gb157)); clear HB; have HB := n0_; have BK157 := n1_; have GW157 := n2_; have GE157 := n3_; clear n0_ n1_ n2_ n3_; clear hb hbox hg))
  go_loopg [7] k (fun kq v7 w' => ∃ (x7_1 : Int) (x158000_1 : Int) (x158001_1 : ByteArray) (x158002_1 : Int) (x158003_1 : Int), v7 = .int .i64 x7_1 ∧ Aside0 (sorrelref04_quoted.l0 kq a0 a1 x7_1 = some (r1, r2, r3, r4, r5, r6)) ∧ Aside0 (kq ≤ k) ∧ Aside0 (w'.heap[gb157]? = some (.cells #[.int .i64 x158000_1, .string x158001_1, .int .i64 x158002_1, .int .i64 x158003_1] 30 (0, 0))) ∧ Aside0 (Below w.heap.size w w'))
  case atStart => exact ⟨(wrap64 (a1 + 1)), (0), ((⟨#[]⟩ : ByteArray)), (0), (0), (by first | rfl | (simp; done) | (simp [*]; done)), H', ⟨Nat.le_refl _⟩, ⟨by (with_reducible repeat (first | refine blk_drewN ?_ _ | refine blk_drew ?_ | refine blk_alloc ?_ _)); exact BK157.out⟩, ⟨by repeat (first | (with_reducible first | exact HB.out | apply below_alloc | apply pw_below_drewN | apply below_drew1 | refine below_set ?_ GE157.out) | exact HB.out)⟩⟩
  case round =>
    clear H'
    try clear p2
    obtain ⟨x7_1, x158000_1, x158001_1, x158002_1, x158003_1, rfl, HA, HK1, BK157, HB⟩ := hrel
    cases gk with
    | zero => exact absurd HA.out (by simp [sorrelref04_quoted.l0])
    | succ k1 =>
      have H := HA.out
      clear HA
      simp only [sorrelref04_quoted.l0] at H
      have HC4 := Aside0.mk H
      clear H
      go_upto_region 2 with (fail)
      go_cut [20] (fun v20 wc => ∃ (kq : Nat) (x20_3 : Bool), v20 = .bool x20_3 ∧ Aside0 (sorrelref04_quoted.j1 kq a0 a1 x7_1 x20_3 = some (r1, r2, r3, r4, r5, r6)) ∧ Aside0 (kq ≤ k1) ∧ Aside0 (wc.heap[gb157]? = some (.cells #[.int .i64 x158000_1, .string x158001_1, .int .i64 x158002_1, .int .i64 x158003_1] 30 (0, 0))) ∧ Aside0 (Below w.heap.size w wc))
      case first =>
        have H := HC4.out
        clear HC4
        by_cases c5 : x7_1 < (a0.size : Int)
        · rw [if_pos c5] at H
          have c5b0 : decide (x7_1 < (a0.size : Int)) = true := decide_eq_true c5
          clear c5
          (first | rw [c5b0] | (simp only [i64_w, i32_w]; rw [c5b0]) | skip)
          have H' := Aside0.mk H
          clear H
          go_wp2
          go_meet
          case rel => exact ⟨_, (decide (x7_1 ≤ (wrap64 ((wrap64 (a1 + 12)) + 1)))), (by first | rfl | (simp; done) | (simp [*]; done)), H', ⟨by have := HK1.out; first | omega | exact Nat.le_refl _⟩, ⟨by (with_reducible repeat (first | refine blk_drewN ?_ _ | refine blk_drew ?_ | refine blk_alloc ?_ _)); exact BK157.out⟩, ⟨by repeat (first | (with_reducible first | exact HB.out | apply below_alloc | apply pw_below_drewN | apply below_drew1 | refine below_set ?_ GE157.out) | exact HB.out)⟩⟩
        · rw [if_neg c5] at H
          have c5b0 : decide (x7_1 < (a0.size : Int)) = false := decide_eq_false c5
          clear c5
          (first | rw [c5b0] | (simp only [i64_w, i32_w]; rw [c5b0]) | skip)
          have H' := Aside0.mk H
          clear H
          go_wp2
          go_meet
          case rel => exact ⟨_, (false), (by first | rfl | (simp; done) | (simp [*]; done)), H', ⟨by have := HK1.out; first | omega | exact Nat.le_refl _⟩, ⟨by (with_reducible repeat (first | refine blk_drewN ?_ _ | refine blk_drew ?_ | refine blk_alloc ?_ _)); exact BK157.out⟩, ⟨by repeat (first | (with_reducible first | exact HB.out | apply below_alloc | apply pw_below_drewN | apply below_drew1 | refine below_set ?_ GE157.out) | exact HB.out)⟩⟩
      case rest =>
        clear HC4
        try clear p2
        try clear c4
        try clear c5
        try clear c5b0
        try clear p2
        obtain ⟨kq, x20_3, rfl, HA, HJ3, BK157, HB⟩ := hcut
        cases kq with
        | zero => exact absurd HA.out (by simp [sorrelref04_quoted.j1])
        | succ kj3 =>
          have H := HA.out
          clear HA
          simp only [sorrelref04_quoted.j1] at H
          by_cases c6 : x20_3 = true
          · subst c6
            have H1 : (if 0 ≤ x7_1 then (if x7_1 < (a0.size : Int) then (if (bt a0 x7_1) = 39 then (sorrelref04_quoted.j2 kj3 a0 a1 x7_1 (decide (x7_1 > (wrap64 (a1 + 1))))) else (sorrelref04_quoted.j2 kj3 a0 a1 x7_1 false)) else (none)) else (none)) = some (r1, r2, r3, r4, r5, r6) := by rw [if_pos rfl] at H; exact H
            clear H
            have H := H1
            clear H1
            have HC7 := Aside0.mk H
            clear H
            go_upto_region 4 with (fail)
            go_cut [32] (fun v32 wc => ∃ (kq : Nat) (x32_6 : Bool), v32 = .bool x32_6 ∧ Aside0 (sorrelref04_quoted.j2 kq a0 a1 x7_1 x32_6 = some (r1, r2, r3, r4, r5, r6)) ∧ Aside0 (kq ≤ kj3) ∧ Aside0 (wc.heap[gb157]? = some (.cells #[.int .i64 x158000_1, .string x158001_1, .int .i64 x158002_1, .int .i64 x158003_1] 30 (0, 0))) ∧ Aside0 (Below w.heap.size w wc))
            case first =>
              have H := HC7.out
              clear HC7
              by_cases c8 : 0 ≤ x7_1
              · rw [if_pos c8] at H
                have c8b0 : decide (0 ≤ x7_1) = true := decide_eq_true c8
                clear c8
                (first | rw [c8b0] | (simp only [i64_w, i32_w]; rw [c8b0]) | skip)
                by_cases c9 : x7_1 < (a0.size : Int)
                · rw [if_pos c9] at H
                  have c9b0 : decide (x7_1 < (a0.size : Int)) = true := decide_eq_true c9
                  clear c9
                  by_cases c11 : (bt a0 x7_1) = 39
                  · rw [if_pos c11] at H
                    have c11b0 : ((bt a0 x7_1) == 39) = true := beq_iff_eq.mpr c11
                    have c11b1 : ((bt a0 x7_1) != 39) = false := bne_eq_false_iff_eq.mpr c11
                    clear c11
                    have H' := Aside0.mk H
                    clear H
                    have p10 : 0 ≤ (x7_1 : Int) := of_decide_eq_true (by first | (with_reducible assumption) | assumption)
                    have q10 : x7_1 < (a0.size : Int) := of_decide_eq_true (by first | (with_reducible assumption) | assumption)
                    have hx10 := bt_at a0 x7_1
                    replace p10 := eq_true p10
                    replace q10 := eq_true q10
                    go_wp2
                    go_meet
                    case rel => exact ⟨_, (decide (x7_1 > (wrap64 (a1 + 1)))), (by first | rfl | (simp; done) | (simp [*]; done)), H', ⟨by have := HK1.out; have := HJ3.out; first | omega | exact Nat.le_refl _⟩, ⟨by (with_reducible repeat (first | refine blk_drewN ?_ _ | refine blk_drew ?_ | refine blk_alloc ?_ _)); exact BK157.out⟩, ⟨by repeat (first | (with_reducible first | exact HB.out | apply below_alloc | apply pw_below_drewN | apply below_drew1 | refine below_set ?_ GE157.out) | exact HB.out)⟩⟩
                  · rw [if_neg c11] at H
                    have c11b0 : ((bt a0 x7_1) == 39) = false := beq_eq_false_iff_ne.mpr c11
                    have c11b1 : ((bt a0 x7_1) != 39) = true := bne_iff_ne.mpr c11
                    have H' := Aside0.mk H
                    clear H
                    have p10 : 0 ≤ (x7_1 : Int) := of_decide_eq_true (by first | (with_reducible assumption) | assumption)
                    have q10 : x7_1 < (a0.size : Int) := of_decide_eq_true (by first | (with_reducible assumption) | assumption)
                    have hx10 := bt_at a0 x7_1
                    replace p10 := eq_true p10
                    replace q10 := eq_true q10
                    go_wp2
                    go_meet
                    case rel => exact ⟨_, (false), (by first | rfl | (simp; done) | (simp [*]; done)), H', ⟨by have := HK1.out; have := HJ3.out; first | omega | exact Nat.le_refl _⟩, ⟨by (with_reducible repeat (first | refine blk_drewN ?_ _ | refine blk_drew ?_ | refine blk_alloc ?_ _)); exact BK157.out⟩, ⟨by repeat (first | (with_reducible first | exact HB.out | apply below_alloc | apply pw_below_drewN | apply below_drew1 | refine below_set ?_ GE157.out) | exact HB.out)⟩⟩
                · rw [if_neg c9] at H
                  exact absurd H (by simp)
              · rw [if_neg c8] at H
                exact absurd H (by simp)
            case rest =>
              clear HC7
              try clear c1
              try clear p1
              try clear q1
              try clear hx1
              try clear p2
              try clear c4
              try clear c5
              try clear c5b0
              try clear c6
              try clear p6
              try clear c8
              try clear c8b0
              try clear c9
              try clear c9b0
              try clear p10
              try clear q10
              try clear hx10
              try clear c11
              try clear c11b0
              try clear c11b1
              try clear p10
              try clear p2
              try clear q10
              obtain ⟨kq, x32_6, rfl, HA, HJ6, BK157, HB⟩ := hcut
              cases kq with
              | zero => exact absurd HA.out (by simp [sorrelref04_quoted.j2])
              | succ kj6 =>
                have H := HA.out
                clear HA
                simp only [sorrelref04_quoted.j2] at H
                by_cases c12 : x32_6 = true
                · subst c12
                  have H1 : (if 0 ≤ (wrap64 (a1 + 1)) then (if (wrap64 (a1 + 1)) ≤ x7_1 then (if x7_1 ≤ (a0.size : Int) then (some (1, a0.extract ((wrap64 (a1 + 1)) : Int).toNat (x7_1 : Int).toNat, 0, a1, wrap64 (x7_1 + 1), 0)) else (none)) else (none)) else (none)) = some (r1, r2, r3, r4, r5, r6) := by rw [if_pos rfl] at H; exact H
                  clear H
                  have H := H1
                  clear H1
                  obtain ⟨ji13, hji13⟩ : ∃ j_ : Int, (wrap64 (a1 + 1)) = j_ := ⟨_, rfl⟩
                  replace H : (if 0 ≤ (ji13) then (if (ji13) ≤ x7_1 then (if x7_1 ≤ (a0.size : Int) then (some (1, a0.extract ((ji13) : Int).toNat (x7_1 : Int).toNat, 0, a1, wrap64 (x7_1 + 1), 0)) else (none)) else (none)) else (none)) = some (r1, r2, r3, r4, r5, r6) := by first | (rw [hji13] at H; exact H) | (simp only [hji13] at H ⊢; exact H)
                  have hji13w : (IntKind.i64.wrap (a1 + 1)) = ji13 := (i64_w _).trans hji13
                  by_cases c14 : 0 ≤ (ji13)
                  · rw [if_pos c14] at H
                    have c14b0 := eq_true c14
                    have c14b1 : decide (0 ≤ (ji13)) = true := decide_eq_true c14
                    clear c14
                    by_cases c15 : (ji13) ≤ x7_1
                    · rw [if_pos c15] at H
                      have c15b0 := eq_true c15
                      have c15b1 : decide ((ji13) ≤ x7_1) = true := decide_eq_true c15
                      clear c15
                      by_cases c16 : x7_1 ≤ (a0.size : Int)
                      · rw [if_pos c16] at H
                        have c16b0 := eq_true c16
                        have c16b1 : decide (x7_1 ≤ (a0.size : Int)) = true := decide_eq_true c16
                        clear c16
                        simp only [Option.some.injEq, Prod.mk.injEq] at H
                        obtain ⟨rfl, rfl, rfl, rfl, rfl, rfl⟩ := H
                        have hcz17_0 : wc.cell? ⟨gb157, 0, none⟩ = some (.int .i64 x158000_1) := (blk_cell BK157.out 0).trans rfl
                        have hcz17_1 : wc.cell? ⟨gb157, 1, none⟩ = some (.string x158001_1) := (blk_cell BK157.out 1).trans rfl
                        have hcz17_2 : wc.cell? ⟨gb157, 2, none⟩ = some (.int .i64 x158002_1) := (blk_cell BK157.out 2).trans rfl
                        have hcz17_3 : wc.cell? ⟨gb157, 3, none⟩ = some (.int .i64 x158003_1) := (blk_cell BK157.out 3).trans rfl
                        have hfz17_0 := blk_frozen BK157.out 0
                        have hfz17_1 := blk_frozen BK157.out 1
                        have hfz17_2 := blk_frozen BK157.out 2
                        have hfz17_3 := blk_frozen BK157.out 3
                        go_wp2
                        refine bodyPost_ret (results_ctt rfl _ _ gb157 30 #[.int .i64 1, .string (a0.extract ((ji13) : Int).toNat (x7_1 : Int).toNat), .int .i64 0, .int .i64 a1] (0, 0) _ rfl (by (with_reducible repeat (first | refine blk_drewN ?_ _ | refine blk_drew ?_ | refine blk_alloc ?_ _)); refine blk_put (cs := #[.int .i64 1, .string (a0.extract ((ji13) : Int).toNat (x7_1 : Int).toNat), .int .i64 0, .int .i64 x158003_1]) ?_ 3 _ rfl; (with_reducible repeat (first | refine blk_drewN ?_ _ | refine blk_drew ?_ | refine blk_alloc ?_ _)); refine blk_put (cs := #[.int .i64 1, .string (a0.extract ((ji13) : Int).toNat (x7_1 : Int).toNat), .int .i64 x158002_1, .int .i64 x158003_1]) ?_ 2 _ rfl; (with_reducible repeat (first | refine blk_drewN ?_ _ | refine blk_drew ?_ | refine blk_alloc ?_ _)); refine blk_put (cs := #[.int .i64 1, .string x158001_1, .int .i64 x158002_1, .int .i64 x158003_1]) ?_ 1 _ rfl; (with_reducible repeat (first | refine blk_drewN ?_ _ | refine blk_drew ?_ | refine blk_alloc ?_ _)); refine blk_put (cs := #[.int .i64 x158000_1, .string x158001_1, .int .i64 x158002_1, .int .i64 x158003_1]) ?_ 0 _ rfl; (with_reducible repeat (first | refine blk_drewN ?_ _ | refine blk_drew ?_ | refine blk_alloc ?_ _)); exact BK157.out) Tryd.underlying30 rfl (by kernel_rfl)) rfl ?_
                        exact ⟨by first | rfl | (simp [errW_none, errW_some] <;> rfl) | (simp only [← hji13]; first | rfl | (simp [errW_none, errW_some] <;> rfl)) | (simp [*, errW_none, errW_some] <;> rfl), by repeat (first | (with_reducible first | exact HB.out | apply below_alloc | apply pw_below_drewN | apply below_drew1 | refine below_set ?_ GE157.out) | exact HB.out)⟩
                      · rw [if_neg c16] at H
                        exact absurd H (by simp)
                    · rw [if_neg c15] at H
                      exact absurd H (by simp)
                  · rw [if_neg c14] at H
                    exact absurd H (by simp)
                · replace c12 := Bool.eq_false_iff.mpr c12
                  subst c12
                  have H1 : (if 0 ≤ x7_1 then (if x7_1 < (a0.size : Int) then (if (bt a0 x7_1) = 39 then (some (0, (⟨#[]⟩ : ByteArray), 0, 0, a1, 41)) else (if (bt a0 x7_1) < 32 then (some (0, (⟨#[]⟩ : ByteArray), 0, 0, a1, 41)) else (if (bt a0 x7_1) > 126 then (some (0, (⟨#[]⟩ : ByteArray), 0, 0, a1, 41)) else (sorrelref04_quoted.l0 kj6 a0 a1 (wrap64 (x7_1 + 1)))))) else (none)) else (none)) = some (r1, r2, r3, r4, r5, r6) := by rw [if_neg (show ¬ (false = true) by decide)] at H; exact H
                  clear H
                  have H := H1
                  clear H1
                  by_cases c18 : 0 ≤ x7_1
                  · rw [if_pos c18] at H
                    have c18b0 : decide (0 ≤ x7_1) = true := decide_eq_true c18
                    clear c18
                    by_cases c19 : x7_1 < (a0.size : Int)
                    · rw [if_pos c19] at H
                      have c19b0 : decide (x7_1 < (a0.size : Int)) = true := decide_eq_true c19
                      clear c19
                      by_cases c21 : (bt a0 x7_1) = 39
                      · rw [if_pos c21] at H
                        have c21b0 : ((bt a0 x7_1) == 39) = true := beq_iff_eq.mpr c21
                        have c21b1 : ((bt a0 x7_1) != 39) = false := bne_eq_false_iff_eq.mpr c21
                        clear c21
                        simp only [Option.some.injEq, Prod.mk.injEq] at H
                        obtain ⟨rfl, rfl, rfl, rfl, rfl, rfl⟩ := H
                        have p20 : 0 ≤ (x7_1 : Int) := of_decide_eq_true (by first | (with_reducible assumption) | assumption)
                        have q20 : x7_1 < (a0.size : Int) := of_decide_eq_true (by first | (with_reducible assumption) | assumption)
                        have hx20 := bt_at a0 x7_1
                        replace p20 := eq_true p20
                        replace q20 := eq_true q20
                        have hcz22_0 : wc.cell? ⟨gb157, 0, none⟩ = some (.int .i64 x158000_1) := (blk_cell BK157.out 0).trans rfl
                        have hcz22_1 : wc.cell? ⟨gb157, 1, none⟩ = some (.string x158001_1) := (blk_cell BK157.out 1).trans rfl
                        have hcz22_2 : wc.cell? ⟨gb157, 2, none⟩ = some (.int .i64 x158002_1) := (blk_cell BK157.out 2).trans rfl
                        have hcz22_3 : wc.cell? ⟨gb157, 3, none⟩ = some (.int .i64 x158003_1) := (blk_cell BK157.out 3).trans rfl
                        have hfz22_0 := blk_frozen BK157.out 0
                        have hfz22_1 := blk_frozen BK157.out 1
                        have hfz22_2 := blk_frozen BK157.out 2
                        have hfz22_3 := blk_frozen BK157.out 3
                        go_wp2
                        refine bodyPost_ret (results_ctt rfl _ _ gb157 30 #[.int .i64 0, .string (⟨#[]⟩ : ByteArray), .int .i64 0, .int .i64 0] (0, 0) _ rfl (by (with_reducible repeat (first | refine blk_drewN ?_ _ | refine blk_drew ?_ | refine blk_alloc ?_ _)); refine blk_put (cs := #[.int .i64 0, .string (⟨#[]⟩ : ByteArray), .int .i64 0, .int .i64 x158003_1]) ?_ 3 _ rfl; (with_reducible repeat (first | refine blk_drewN ?_ _ | refine blk_drew ?_ | refine blk_alloc ?_ _)); refine blk_put (cs := #[.int .i64 0, .string (⟨#[]⟩ : ByteArray), .int .i64 x158002_1, .int .i64 x158003_1]) ?_ 2 _ rfl; (with_reducible repeat (first | refine blk_drewN ?_ _ | refine blk_drew ?_ | refine blk_alloc ?_ _)); refine blk_put (cs := #[.int .i64 0, .string x158001_1, .int .i64 x158002_1, .int .i64 x158003_1]) ?_ 1 _ rfl; (with_reducible repeat (first | refine blk_drewN ?_ _ | refine blk_drew ?_ | refine blk_alloc ?_ _)); refine blk_put (cs := #[.int .i64 x158000_1, .string x158001_1, .int .i64 x158002_1, .int .i64 x158003_1]) ?_ 0 _ rfl; (with_reducible repeat (first | refine blk_drewN ?_ _ | refine blk_drew ?_ | refine blk_alloc ?_ _)); exact BK157.out) Tryd.underlying30 rfl (by kernel_rfl)) rfl ?_
                        exact ⟨by first | rfl | (simp [errW_none, errW_some] <;> rfl) | (simp [*, errW_none, errW_some] <;> rfl), by repeat (first | (with_reducible first | exact HB.out | apply below_alloc | apply pw_below_drewN | apply below_drew1 | refine below_set ?_ GE157.out) | exact HB.out)⟩
                      · rw [if_neg c21] at H
                        have c21b0 : ((bt a0 x7_1) == 39) = false := beq_eq_false_iff_ne.mpr c21
                        have c21b1 : ((bt a0 x7_1) != 39) = true := bne_iff_ne.mpr c21
                        by_cases c24 : (bt a0 x7_1) < 32
                        · rw [if_pos c24] at H
                          have c24b0 : decide ((bt a0 x7_1) < 32) = true := decide_eq_true c24
                          clear c24
                          simp only [Option.some.injEq, Prod.mk.injEq] at H
                          obtain ⟨rfl, rfl, rfl, rfl, rfl, rfl⟩ := H
                          have p20 : 0 ≤ (x7_1 : Int) := of_decide_eq_true (by first | (with_reducible assumption) | assumption)
                          have q20 : x7_1 < (a0.size : Int) := of_decide_eq_true (by first | (with_reducible assumption) | assumption)
                          have hx20 := bt_at a0 x7_1
                          replace p20 := eq_true p20
                          replace q20 := eq_true q20
                          have p23 : 0 ≤ (x7_1 : Int) := of_decide_eq_true (by first | (with_reducible assumption) | assumption)
                          have q23 : x7_1 < (a0.size : Int) := of_decide_eq_true (by first | (with_reducible assumption) | assumption)
                          have hx23 := bt_at a0 x7_1
                          replace p23 := eq_true p23
                          replace q23 := eq_true q23
                          have hcz25_0 : wc.cell? ⟨gb157, 0, none⟩ = some (.int .i64 x158000_1) := (blk_cell BK157.out 0).trans rfl
                          have hcz25_1 : wc.cell? ⟨gb157, 1, none⟩ = some (.string x158001_1) := (blk_cell BK157.out 1).trans rfl
                          have hcz25_2 : wc.cell? ⟨gb157, 2, none⟩ = some (.int .i64 x158002_1) := (blk_cell BK157.out 2).trans rfl
                          have hcz25_3 : wc.cell? ⟨gb157, 3, none⟩ = some (.int .i64 x158003_1) := (blk_cell BK157.out 3).trans rfl
                          have hfz25_0 := blk_frozen BK157.out 0
                          have hfz25_1 := blk_frozen BK157.out 1
                          have hfz25_2 := blk_frozen BK157.out 2
                          have hfz25_3 := blk_frozen BK157.out 3
                          go_wp2
                          refine bodyPost_ret (results_ctt rfl _ _ gb157 30 #[.int .i64 0, .string (⟨#[]⟩ : ByteArray), .int .i64 0, .int .i64 0] (0, 0) _ rfl (by (with_reducible repeat (first | refine blk_drewN ?_ _ | refine blk_drew ?_ | refine blk_alloc ?_ _)); refine blk_put (cs := #[.int .i64 0, .string (⟨#[]⟩ : ByteArray), .int .i64 0, .int .i64 x158003_1]) ?_ 3 _ rfl; (with_reducible repeat (first | refine blk_drewN ?_ _ | refine blk_drew ?_ | refine blk_alloc ?_ _)); refine blk_put (cs := #[.int .i64 0, .string (⟨#[]⟩ : ByteArray), .int .i64 x158002_1, .int .i64 x158003_1]) ?_ 2 _ rfl; (with_reducible repeat (first | refine blk_drewN ?_ _ | refine blk_drew ?_ | refine blk_alloc ?_ _)); refine blk_put (cs := #[.int .i64 0, .string x158001_1, .int .i64 x158002_1, .int .i64 x158003_1]) ?_ 1 _ rfl; (with_reducible repeat (first | refine blk_drewN ?_ _ | refine blk_drew ?_ | refine blk_alloc ?_ _)); refine blk_put (cs := #[.int .i64 x158000_1, .string x158001_1, .int .i64 x158002_1, .int .i64 x158003_1]) ?_ 0 _ rfl; (with_reducible repeat (first | refine blk_drewN ?_ _ | refine blk_drew ?_ | refine blk_alloc ?_ _)); exact BK157.out) Tryd.underlying30 rfl (by kernel_rfl)) rfl ?_
                          exact ⟨by first | rfl | (simp [errW_none, errW_some] <;> rfl) | (simp [*, errW_none, errW_some] <;> rfl), by repeat (first | (with_reducible first | exact HB.out | apply below_alloc | apply pw_below_drewN | apply below_drew1 | refine below_set ?_ GE157.out) | exact HB.out)⟩
                        · rw [if_neg c24] at H
                          have c24b0 : decide ((bt a0 x7_1) < 32) = false := decide_eq_false c24
                          clear c24
                          by_cases c27 : (bt a0 x7_1) > 126
                          · rw [if_pos c27] at H
                            have c27b0 : decide (126 < (bt a0 x7_1)) = true := decide_eq_true c27
                            clear c27
                            simp only [Option.some.injEq, Prod.mk.injEq] at H
                            obtain ⟨rfl, rfl, rfl, rfl, rfl, rfl⟩ := H
                            have p20 : 0 ≤ (x7_1 : Int) := of_decide_eq_true (by first | (with_reducible assumption) | assumption)
                            have q20 : x7_1 < (a0.size : Int) := of_decide_eq_true (by first | (with_reducible assumption) | assumption)
                            have hx20 := bt_at a0 x7_1
                            replace p20 := eq_true p20
                            replace q20 := eq_true q20
                            have p23 : 0 ≤ (x7_1 : Int) := of_decide_eq_true (by first | (with_reducible assumption) | assumption)
                            have q23 : x7_1 < (a0.size : Int) := of_decide_eq_true (by first | (with_reducible assumption) | assumption)
                            have hx23 := bt_at a0 x7_1
                            replace p23 := eq_true p23
                            replace q23 := eq_true q23
                            have p26 : 0 ≤ (x7_1 : Int) := of_decide_eq_true (by first | (with_reducible assumption) | assumption)
                            have q26 : x7_1 < (a0.size : Int) := of_decide_eq_true (by first | (with_reducible assumption) | assumption)
                            have hx26 := bt_at a0 x7_1
                            replace p26 := eq_true p26
                            replace q26 := eq_true q26
                            have hcz28_0 : wc.cell? ⟨gb157, 0, none⟩ = some (.int .i64 x158000_1) := (blk_cell BK157.out 0).trans rfl
                            have hcz28_1 : wc.cell? ⟨gb157, 1, none⟩ = some (.string x158001_1) := (blk_cell BK157.out 1).trans rfl
                            have hcz28_2 : wc.cell? ⟨gb157, 2, none⟩ = some (.int .i64 x158002_1) := (blk_cell BK157.out 2).trans rfl
                            have hcz28_3 : wc.cell? ⟨gb157, 3, none⟩ = some (.int .i64 x158003_1) := (blk_cell BK157.out 3).trans rfl
                            have hfz28_0 := blk_frozen BK157.out 0
                            have hfz28_1 := blk_frozen BK157.out 1
                            have hfz28_2 := blk_frozen BK157.out 2
                            have hfz28_3 := blk_frozen BK157.out 3
                            go_wp2
                            refine bodyPost_ret (results_ctt rfl _ _ gb157 30 #[.int .i64 0, .string (⟨#[]⟩ : ByteArray), .int .i64 0, .int .i64 0] (0, 0) _ rfl (by (with_reducible repeat (first | refine blk_drewN ?_ _ | refine blk_drew ?_ | refine blk_alloc ?_ _)); refine blk_put (cs := #[.int .i64 0, .string (⟨#[]⟩ : ByteArray), .int .i64 0, .int .i64 x158003_1]) ?_ 3 _ rfl; (with_reducible repeat (first | refine blk_drewN ?_ _ | refine blk_drew ?_ | refine blk_alloc ?_ _)); refine blk_put (cs := #[.int .i64 0, .string (⟨#[]⟩ : ByteArray), .int .i64 x158002_1, .int .i64 x158003_1]) ?_ 2 _ rfl; (with_reducible repeat (first | refine blk_drewN ?_ _ | refine blk_drew ?_ | refine blk_alloc ?_ _)); refine blk_put (cs := #[.int .i64 0, .string x158001_1, .int .i64 x158002_1, .int .i64 x158003_1]) ?_ 1 _ rfl; (with_reducible repeat (first | refine blk_drewN ?_ _ | refine blk_drew ?_ | refine blk_alloc ?_ _)); refine blk_put (cs := #[.int .i64 x158000_1, .string x158001_1, .int .i64 x158002_1, .int .i64 x158003_1]) ?_ 0 _ rfl; (with_reducible repeat (first | refine blk_drewN ?_ _ | refine blk_drew ?_ | refine blk_alloc ?_ _)); exact BK157.out) Tryd.underlying30 rfl (by kernel_rfl)) rfl ?_
                            exact ⟨by first | rfl | (simp [errW_none, errW_some] <;> rfl) | (simp [*, errW_none, errW_some] <;> rfl), by repeat (first | (with_reducible first | exact HB.out | apply below_alloc | apply pw_below_drewN | apply below_drew1 | refine below_set ?_ GE157.out) | exact HB.out)⟩
                          · rw [if_neg c27] at H
                            have c27b0 : decide (126 < (bt a0 x7_1)) = false := decide_eq_false c27
                            clear c27
                            have H' := Aside0.mk H
                            clear H
                            have p20 : 0 ≤ (x7_1 : Int) := of_decide_eq_true (by first | (with_reducible assumption) | assumption)
                            have q20 : x7_1 < (a0.size : Int) := of_decide_eq_true (by first | (with_reducible assumption) | assumption)
                            have hx20 := bt_at a0 x7_1
                            replace p20 := eq_true p20
                            replace q20 := eq_true q20
                            have p23 : 0 ≤ (x7_1 : Int) := of_decide_eq_true (by first | (with_reducible assumption) | assumption)
                            have q23 : x7_1 < (a0.size : Int) := of_decide_eq_true (by first | (with_reducible assumption) | assumption)
                            have hx23 := bt_at a0 x7_1
                            replace p23 := eq_true p23
                            replace q23 := eq_true q23
                            have p26 : 0 ≤ (x7_1 : Int) := of_decide_eq_true (by first | (with_reducible assumption) | assumption)
                            have q26 : x7_1 < (a0.size : Int) := of_decide_eq_true (by first | (with_reducible assumption) | assumption)
                            have hx26 := bt_at a0 x7_1
                            replace p26 := eq_true p26
                            replace q26 := eq_true q26
                            go_wp2
                            go_roundg kj6
                            case measure => have := HK1.out; have := HJ3.out; have := HJ6.out; omega
                            case rel => exact ⟨(wrap64 (x7_1 + 1)), (x158000_1), (x158001_1), (x158002_1), (x158003_1), (by first | rfl | (simp; done) | (simp [*]; done)), H', ⟨by have := HK1.out; have := HJ3.out; have := HJ6.out; omega⟩, ⟨by (with_reducible repeat (first | refine blk_drewN ?_ _ | refine blk_drew ?_ | refine blk_alloc ?_ _)); exact BK157.out⟩, ⟨by repeat (first | (with_reducible first | exact HB.out | apply below_alloc | apply pw_below_drewN | apply below_drew1 | refine below_set ?_ GE157.out) | exact HB.out)⟩⟩
                    · rw [if_neg c19] at H
                      exact absurd H (by simp)
                  · rw [if_neg c18] at H
                    exact absurd H (by simp)
          · replace c6 := Bool.eq_false_iff.mpr c6
            subst c6
            have H1 : (some (0, (⟨#[]⟩ : ByteArray), 0, 0, a1, 41)) = some (r1, r2, r3, r4, r5, r6) := by rw [if_neg (show ¬ (false = true) by decide)] at H; exact H
            clear H
            have H := H1
            clear H1
            simp only [Option.some.injEq, Prod.mk.injEq] at H
            obtain ⟨rfl, rfl, rfl, rfl, rfl, rfl⟩ := H
            have hcz29_0 : wc.cell? ⟨gb157, 0, none⟩ = some (.int .i64 x158000_1) := (blk_cell BK157.out 0).trans rfl
            have hcz29_1 : wc.cell? ⟨gb157, 1, none⟩ = some (.string x158001_1) := (blk_cell BK157.out 1).trans rfl
            have hcz29_2 : wc.cell? ⟨gb157, 2, none⟩ = some (.int .i64 x158002_1) := (blk_cell BK157.out 2).trans rfl
            have hcz29_3 : wc.cell? ⟨gb157, 3, none⟩ = some (.int .i64 x158003_1) := (blk_cell BK157.out 3).trans rfl
            have hfz29_0 := blk_frozen BK157.out 0
            have hfz29_1 := blk_frozen BK157.out 1
            have hfz29_2 := blk_frozen BK157.out 2
            have hfz29_3 := blk_frozen BK157.out 3
            go_wp2
            refine bodyPost_ret (results_ctt rfl _ _ gb157 30 #[.int .i64 0, .string (⟨#[]⟩ : ByteArray), .int .i64 0, .int .i64 0] (0, 0) _ rfl (by (with_reducible repeat (first | refine blk_drewN ?_ _ | refine blk_drew ?_ | refine blk_alloc ?_ _)); refine blk_put (cs := #[.int .i64 0, .string (⟨#[]⟩ : ByteArray), .int .i64 0, .int .i64 x158003_1]) ?_ 3 _ rfl; (with_reducible repeat (first | refine blk_drewN ?_ _ | refine blk_drew ?_ | refine blk_alloc ?_ _)); refine blk_put (cs := #[.int .i64 0, .string (⟨#[]⟩ : ByteArray), .int .i64 x158002_1, .int .i64 x158003_1]) ?_ 2 _ rfl; (with_reducible repeat (first | refine blk_drewN ?_ _ | refine blk_drew ?_ | refine blk_alloc ?_ _)); refine blk_put (cs := #[.int .i64 0, .string x158001_1, .int .i64 x158002_1, .int .i64 x158003_1]) ?_ 1 _ rfl; (with_reducible repeat (first | refine blk_drewN ?_ _ | refine blk_drew ?_ | refine blk_alloc ?_ _)); refine blk_put (cs := #[.int .i64 x158000_1, .string x158001_1, .int .i64 x158002_1, .int .i64 x158003_1]) ?_ 0 _ rfl; (with_reducible repeat (first | refine blk_drewN ?_ _ | refine blk_drew ?_ | refine blk_alloc ?_ _)); exact BK157.out) Tryd.underlying30 rfl (by kernel_rfl)) rfl ?_
            exact ⟨by first | rfl | (simp [errW_none, errW_some] <;> rfl) | (simp [*, errW_none, errW_some] <;> rfl), by repeat (first | (with_reducible first | exact HB.out | apply below_alloc | apply pw_below_drewN | apply below_drew1 | refine below_set ?_ GE157.out) | exact HB.out)⟩

end Go.Proofs.YtpdlfokfjkmplaaDoor.P
