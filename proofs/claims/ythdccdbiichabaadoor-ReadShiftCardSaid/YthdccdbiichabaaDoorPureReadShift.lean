/- With blanks ahead of it a text is read as it was; all places are as much more: the pure statement. No condition. -/
import Derived.Test.YthdccdbiichabaaDoorRdX
import Derived.Test.YthdccdbiichabaaDoorRdS
import Derived.Test.YthdccdbiichabaaDoorHd
import Derived.Test.YthdccdbiichabaaDoorPx10
namespace Go.Proofs.YthdccdbiichabaaDoor.Pure
open Go.RowKit Go.Proofs.YthdccdbiichabaaDoor.P Go.Proofs.YthdccdbiichabaaDoorW.PrintWords Go.Proofs.YthdccdbiichabaaDoorW.PrintLast
set_option linter.unusedVariables false
set_option linter.unusedSimpArgs false
def blk (j : Nat) : ByteArray := ⟨(List.replicate j 32).toArray⟩
theorem blk_size (j : Nat) : (blk j).size = j := by rw [← bl_size]; simp [blk]
theorem blk_data (j : Nat) (x : ByteArray) : (blk j ++ x).data.toList = List.replicate j 32 ++ x.data.toList := by rw [ba_app]; simp [blk]
theorem blk_more (j : Nat) : blk j ++ (⟨#[32]⟩ : ByteArray) = blk (j + 1) := by
  have h : (blk j ++ (⟨#[32]⟩ : ByteArray)).data.toList = (blk (j + 1)).data.toList := by rw [blk_data]; simp [blk, List.replicate_succ']
  exact ByteArray.ext (Array.toList_inj.1 h)
theorem shift_last (x : ByteArray) (hx : (x.size : Int) ≤ 400) (a1 : Int) (m : Nat) (hm : m ≤ 20) (hn : ¬ ((m : Int) < Int.tmod (wrap64 a1) 20)) (k : Nat) (hk : 100000 ≤ k) :
    sorrellaw05_ReadShift.l0 (k + 2) x a1 true (blk m) m = some true := by
  have hl := bl_size x
  have hT := term_shift x.data.toList m (by omega) 100000
  have hP := program_shift x.data.toList m (by omega) 100000
  simp only [sorrellaw05_ReadShift.l0, sorrellaw05_ReadShift.j1]
  have hz : m + x.size ≤ 9223372036854775807 := by omega
  have n1 : sorrelref01_Same.f k [] [] = some true := same_rf [] (by simp) k (by simp; omega)
  have n2 : sorrelref05_Texts.f k [] [] = some true := texts_rf [] (by simp) k (by simp; omega)
  have n3 : sorrelref05_Same.f k [] [] = some true := same_cl [] ⟨by simp, by simp⟩ k (by omega)
  rw [if_neg hn]
  simp only [read_Term.f, read_Program.f, blk_data, hT, hP, blk_size, hz, if_true]
  rcases term_cases x.data.toList with ⟨t, ht⟩ | ⟨a, c, ht⟩
  · have htr := term_right ht
    have s1 := same_tm t.1 htr.1 k (by omega)
    have s2 := same_ns t.2 htr.2 k (by omega)
    rcases program_cases x.data.toList with ⟨l, hp⟩ | ⟨b, d, hp⟩
    · have s3 := same_cl l (program_right hp) k (by omega)
      simp [ht, hp, Res.sh, termF, progF, s1, s2, s3]
    · have hb := program_bad x.data.toList (by omega) 100000 b d hp
      have hw : wrap64 (b + (m : Int)) = b + m := wrapN (by omega) (by omega)
      simp [ht, hp, Res.sh, termF, progF, s1, s2, hb.1, hw, n1, n2, n3]
  · have ha := term_bad x.data.toList (by omega) 100000 a c ht
    have hw : wrap64 (a + (m : Int)) = a + m := wrapN (by omega) (by omega)
    rcases program_cases x.data.toList with ⟨l, hp⟩ | ⟨b, d, hp⟩
    · have s3 := same_cl l (program_right hp) k (by omega)
      simp [ht, hp, Res.sh, termF, progF, ha.1, hw, s3, n1, n2, n3]
    · have hb := program_bad x.data.toList (by omega) 100000 b d hp
      have hw2 : wrap64 (b + (m : Int)) = b + m := wrapN (by omega) (by omega)
      simp [ht, hp, Res.sh, termF, progF, ha.1, hb.1, hw, hw2, n1, n2, n3]
theorem shift_loop (x : ByteArray) (hx : (x.size : Int) ≤ 400) (a1 : Int) (m : Nat) (hm : m ≤ 20) (he : Int.tmod (wrap64 a1) 20 = m) (k : Nat) (hk : 100000 ≤ k) :
    ∀ d j, j + d = m → sorrellaw05_ReadShift.l0 (k + 2 + d) x a1 true (blk j) j = some true
  | 0, j, h => shift_last x hx a1 j (by omega) (by omega) k hk
  | d + 1, j, h => by
    show sorrellaw05_ReadShift.l0 (k + 2 + d + 1) x a1 true (blk j) j = some true
    simp only [sorrellaw05_ReadShift.l0]
    rw [if_pos (by omega), if_pos (by rw [blk_size]; omega), blk_more]
    have hw : wrap64 ((j : Int) + 1) = ((j + 1 : Nat) : Int) := by rw [wrapN (by omega) (by omega)]; omega
    rw [hw]
    exact shift_loop x hx a1 m hm he k hk d (j + 1) (by omega)

theorem ReadShift : sorrellaw05_ReadShift.Pure := by
  intro a0 a1 h0 hw
  obtain ⟨x, hc, hx⟩ := cut_at a0 400 h0 (by omega)
  obtain ⟨m, hm, hm2⟩ : ∃ m : Nat, Int.tmod (wrap64 a1) 20 = m ∧ m ≤ 20 := by
    have h1 : 0 ≤ a1 ∧ a1 ≤ 255 := by
      simp [Lit.wf, IntKind.min, IntKind.max, IntKind.signed, IntKind.bits] at hw
      omega
    rw [wrapN (by omega) (by omega)]
    have h2 := Int.tmod_lt_of_pos a1 (b := 20) (by omega)
    have h3 := Int.tmod_nonneg 20 h1.1
    exact ⟨(Int.tmod a1 20).toNat, by omega, by omega⟩
  refine ⟨100000 + 2 + m, ?_⟩
  unfold sorrellaw05_ReadShift.f
  rw [show sorrellaw05_head.f = some true from rfl, Option.bind_some, hc, Option.bind_some]
  exact shift_loop x hx a1 m hm2 hm 100000 (Nat.le_refl _) m 0 (by omega)
end Go.Proofs.YthdccdbiichabaaDoor.Pure
