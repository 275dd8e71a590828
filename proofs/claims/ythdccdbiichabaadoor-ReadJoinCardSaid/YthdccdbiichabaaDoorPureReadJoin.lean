/- Two programs, one behind the other, a line between them, are read as the clauses of both; if the second one is none, just that is told, at its place: the pure statement. No condition. -/
import Derived.Test.YthdccdbiichabaaDoorRdX
import Derived.Test.YthdccdbiichabaaDoorRdD
import Derived.Test.YthdccdbiichabaaDoorHd
import Derived.Test.YthdccdbiichabaaDoorPx10
namespace Go.Proofs.YthdccdbiichabaaDoor.Pure
open Go.RowKit Go.Proofs.YthdccdbiichabaaDoor.P Go.Proofs.YthdccdbiichabaaDoorW.PrintWords Go.Proofs.YthdccdbiichabaaDoorW.PrintLast
set_option linter.unusedVariables false
set_option linter.unusedSimpArgs false
theorem progF_ok (l : List ClR) : progF (some (.ok l)) = some (l.map clS, 0, 0) := rfl
theorem progF_err (x : Int × Int) : progF (some (.error x)) = some ([], x.1, x.2) := rfl
theorem ReadJoin : sorrellaw05_ReadJoin.Pure := by
  intro a0 a1 h0 h1
  obtain ⟨x, hc, hx⟩ := cut_at a0 90 h0 (by omega)
  obtain ⟨y, hd, hy⟩ := cut_at a1 100 h1 (by omega)
  refine ⟨100000, ?_⟩
  have hK : (100000 : Nat) ≤ 100000 := Nat.le_refl _
  generalize hk : (100000 : Nat) = K at hK ⊢
  unfold sorrellaw05_ReadJoin.f
  have lx := bl_size x
  have ly := bl_size y
  have h10 : (x ++ (⟨#[10]⟩ : ByteArray)).size = x.size + 1 := by
    rw [← bl_size, ba_app, List.length_append, bl_size]
    rfl
  have hdata : ((x ++ (⟨#[10]⟩ : ByteArray)) ++ y).data.toList = x.data.toList ++ 10 :: y.data.toList := by
    rw [ba_app, ba_app, List.append_assoc]
    rfl
  rw [show sorrellaw05_head.f = some true from rfl, Option.bind_some, hc, Option.bind_some, hd, Option.bind_some]
  have q1 : x.size + 1 ≤ 9223372036854775807 := by omega
  have q2 : (x ++ (⟨#[10]⟩ : ByteArray)).size + y.size ≤ 9223372036854775807 := by omega
  simp only [read_Program.f, hdata]
  rcases program_cases x.data.toList with ⟨a, hp⟩ | ⟨b, c, hp⟩
  · have ha := program_right hp
    rcases program_cases y.data.toList with ⟨b, hq⟩ | ⟨b, c, hq⟩
    · have hj := program_join _ _ (by omega) (by omega) a _ hp hq
      have hb := program_right hq
      have hab := program_right hj
      have s3 := same_cl (a ++ b) hab K (by omega)
      rw [hp, hq, hj]
      simp only [joinR, progF_ok, Option.bind_some, if_true, q1, q2, List.nil_append, List.length_nil, List.length_map, List.map_append] at s3 ⊢
      have r1 : 0 + a.length < 2932031007402 := by omega
      have r2 : a.length + b.length < 2932031007402 := by omega
      rw [if_pos r1, if_pos r2, s3]
      rfl
    · have hj := program_join _ _ (by omega) (by omega) a _ hp hq
      have hb := program_bad y.data.toList (by omega) 100000 b c hq
      rw [hp, hq, hj]
      have hw : wrap64 ((wrap64 (b + (x.size : Int))) + 1) = b + ((x.data.toList.length + 1 : Nat) : Int) := by
        rw [wrapN (x := b + (x.size : Int)) (by omega) (by omega), wrapN (by omega) (by omega)]; omega
      simp only [joinR, progF_ok, progF_err, Option.bind_some, if_true, q1, q2, List.length_nil]
      rw [if_neg hb.1, hw]
      simp
  · have hb := program_bad x.data.toList (by omega) 100000 b c hp
    rw [hp]
    rcases program_cases (x.data.toList ++ 10 :: y.data.toList) with ⟨z, hz⟩ | ⟨d, e, hz⟩
    all_goals
      rcases program_cases y.data.toList with ⟨b2, hq⟩ | ⟨b2, c2, hq⟩
      all_goals
        rw [hz, hq]
        simp only [progF_ok, progF_err, Option.bind_some, if_true, q1, q2]
        rw [if_neg hb.1]
end Go.Proofs.YthdccdbiichabaaDoor.Pure
