/- The tokens of two lines are those of the first one, and then those of the second one, so much further on; what is wrong with the first one is so with both, else what is with the second one: the pure statement. No condition. -/
import Derived.Test.YtpdlfokfjkmplaaDoorSame
import Derived.Test.YtpdlfokfjkmplaaDoorHead04
import Derived.Test.YtpdlfokfjkmplaaDoorPx12
namespace Go.Proofs.YtpdlfokfjkmplaaDoor.Pure
open Go.RowKit Go.Proofs.YtpdlfokfjkmplaaDoor.P Go.Proofs.YtpdlfokfjkmplaaDoorW.PrintWords Go.Proofs.YtpdlfokfjkmplaaDoorW.PrintLast
set_option linter.unusedVariables false

theorem LexLines : sorrellaw04_LexLines.Pure := by
  intro a b ha hb
  refine ⟨1000001, ?_⟩
  have hK : (1000000 : Nat) < 1000001 := by omega
  generalize (1000001 : Nat) = K at *
  unfold sorrellaw04_LexLines.f
  have hw : wrap64 ((a.size : Int) + (b.size : Int)) = (a.size : Int) + b.size := wrapN (by omega) (by omega)
  rw [head_at K (by omega), Option.bind_some, hw]
  clear hw
  by_cases hbig : (a.size : Int) + b.size > 5000
  · rw [if_pos hbig]
  · rw [if_neg hbig, lex_f, lex_f, Option.bind_some, Option.bind_some, if_pos (by omega)]
    have h10 : (a ++ (⟨#[10]⟩ : ByteArray)).size = a.size + 1 := by
      rw [← bl_size, ba_app, List.length_append, bl_size]
      rfl
    rw [if_pos (by omega), lex_f, Option.bind_some]
    have hdata : ((a ++ (⟨#[10]⟩ : ByteArray)) ++ b).data.toList = a.data.toList ++ 10 :: b.data.toList := by
      rw [ba_app, ba_app, List.append_assoc]
      rfl
    rw [hdata]
    have la := bl_size a
    have lb := bl_size b
    have lab : (a.data.toList ++ 10 :: b.data.toList).length ≤ 20000 := by simp only [List.length_append, List.length_cons]; omega
    clear h10 hdata
    simp only [if_true]
    rcases lexAll_cases a.data.toList (by omega) with ⟨ts, hx, he⟩ | ⟨p, e, hx, he, hc⟩
    · have hts := LX_bounds hx ts rfl
      rcases lexAll_cases b.data.toList (by omega) with ⟨us, hy, hf⟩ | ⟨q, f, hy, hf, hd⟩
      · have hus := LX_bounds hy us rfl
        have q1 : (0 : Int) ≤ (ts.length : Int) := by omega
        have q2 : (ts.length : Int) ≤ ((ts.length + us.length : Nat) : Int) := by omega
        have q3 : ts.length ≤ (ts.map tokS).length := by rw [List.length_map]; exact Nat.le_refl _
        have q4 : (ts.map tokS).length ≤ ts.length := by rw [List.length_map]; exact Nat.le_refl _
        have hj := lexAll_of lab (LX_lines hx hy)
        have hj' : lexAll (a.data.toList ++ 10 :: b.data.toList) = (ts ++ us.map (shiftT ((a.data.toList.length + 1 : Nat) : Int)), 0, 0) := hj
        have s1 := same_self ts (by omega) (fun x hx => by have := hts.2 x hx; omega)
        have s2 := same_shift us ((a.data.toList.length + 1 : Nat) : Int) (by omega) (by omega) (fun x hx => by have := hus.2 x hx; omega)
        have hw23 : wrap64 ((ts.length : Int) + (us.length : Int)) = ((ts.length + us.length : Nat) : Int) ∧ wrap64 ((a.size : Int) + 1) = ((a.data.toList.length + 1 : Nat) : Int) := ⟨by rw [wrapN (by omega) (by omega)]; omega, by rw [wrapN (by omega) (by omega)]; omega⟩
        obtain ⟨hw2, hw3⟩ := hw23
        rw [he, hf, hj']
        simp only [if_true, List.length_map, List.map_append, List.length_append, Int.toNat_natCast]
        rw [hw2, if_pos rfl, if_pos q1, if_pos q2]
        have t1 : (ts.map tokS ++ (us.map (shiftT ((a.data.toList.length + 1 : Nat) : Int))).map tokS).take ts.length = ts.map tokS := by
          rw [List.take_append_of_le_length q3, List.take_of_length_le q4]
        have t2 : (ts.map tokS ++ (us.map (shiftT ((a.data.toList.length + 1 : Nat) : Int))).map tokS).drop ts.length = (us.map (shiftT ((a.data.toList.length + 1 : Nat) : Int))).map tokS := by
          have : ts.length = (ts.map tokS).length := by rw [List.length_map]
          rw [this, List.drop_left]
        rw [t1, t2, s1, Option.bind_some, hw3]
        simp only [if_true]
        rw [s2]
        rfl
      · have hq := LX_errs hy q f rfl
        have hj := lexAll_of lab (LX_lines hx hy)
        have hj' : lexAll (a.data.toList ++ 10 :: b.data.toList) = ([], ((q + (a.data.toList.length + 1) : Nat) : Int), f) := hj
        rw [he, hf, hj']
        have hne : ¬ f = 0 := by omega
        simp only [if_true]
        rw [if_neg hne]
        have hw3 : wrap64 (wrap64 ((a.size : Int) + 1) + (q : Int)) = ((q + (a.data.toList.length + 1) : Nat) : Int) := by
          rw [wrapN (x := (a.size : Int) + 1) (by omega) (by omega), wrapN (by omega) (by omega)]; omega
        rw [hw3]
        simp
    · have hj := lexAll_of lab (LX_wrong hx b.data.toList)
      have hj' : lexAll (a.data.toList ++ 10 :: b.data.toList) = ([], (p : Int), e) := hj
      rw [he, hj']
      have hne : ¬ e = 0 := by omega
      simp only
      rw [if_neg hne]
      simp
end Go.Proofs.YtpdlfokfjkmplaaDoor.Pure
