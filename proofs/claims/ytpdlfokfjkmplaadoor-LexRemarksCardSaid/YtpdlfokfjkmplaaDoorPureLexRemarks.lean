/- A remark at the end of a line that is well, and blanks, change no token, but where those behind it stand: the pure statement. No condition. -/
import Derived.Test.YtpdlfokfjkmplaaDoorSame
import Derived.Test.YtpdlfokfjkmplaaDoorHead04
import Derived.Test.YtpdlfokfjkmplaaDoorPx13
namespace Go.Proofs.YtpdlfokfjkmplaaDoor.Pure
open Go.RowKit Go.Proofs.YtpdlfokfjkmplaaDoor.P Go.Proofs.YtpdlfokfjkmplaaDoorW.PrintWords Go.Proofs.YtpdlfokfjkmplaaDoorW.PrintLast
set_option linter.unusedVariables false

theorem pass_blanks (w y : List UInt8) (h : ∀ x ∈ w, isBlank x = true) : passL false (w ++ y) = w.length + passL false y := by
  induction w with
  | nil => simp
  | cons c w ih =>
    have hc := h c (List.mem_cons_self ..)
    have ih' := ih (fun x hx => h x (List.mem_cons_of_mem _ hx))
    have h37 : ¬ c = 37 := by intro e; subst e; revert hc; decide
    rw [List.cons_append]
    by_cases h10 : c = 10
    · simp only [passL, h10, if_true, ih', List.length_cons]
      omega
    · simp only [passL, h10, h37, if_false, hc, Bool.or_true, if_true, ih', List.length_cons]
      omega

/-- Behind the two loops: the three texts. -/
theorem remarks_end (a b c w : ByteArray) (hsz : (a.size : Int) + b.size + c.size ≤ 5000) (hws : w.size ≤ 16) (hc : ∀ z ∈ c.data.toList, z ≠ 10) (hw : ∀ z ∈ w.data.toList, isBlank z = true) (K : Nat) (hK : 1000000 < K) (x3 : Int) (n : Int) (hn : ¬ n < wrap64 (Int.tmod x3 5)) :
    sorrellaw04_LexRemarks.l1 (K + 1) a b c x3 true w n = some true := by
  have la := bl_size a
  have lb := bl_size b
  have lc := bl_size c
  have lw := bl_size w
  simp only [sorrellaw04_LexRemarks.l1]
  rw [if_neg hn, lex_f, Option.bind_some]
  have h10 : (a ++ (⟨#[10]⟩ : ByteArray)).size = a.size + 1 := by
    rw [← bl_size, ba_app, List.length_append, bl_size]
    rfl
  have h37 : (a ++ (⟨#[37]⟩ : ByteArray)).size = a.size + 1 := by
    rw [← bl_size, ba_app, List.length_append, bl_size]
    rfl
  have h37c : ((a ++ (⟨#[37]⟩ : ByteArray)) ++ c).size = a.size + 1 + c.size := by
    rw [← bl_size, ba_app, List.length_append, bl_size, bl_size, h37]
  have h37c1 : (((a ++ (⟨#[37]⟩ : ByteArray)) ++ c) ++ (⟨#[10]⟩ : ByteArray)).size = a.size + 1 + c.size + 1 := by
    rw [← bl_size, ba_app, List.length_append, bl_size, h37c]
    rfl
  have h37cw : ((((a ++ (⟨#[37]⟩ : ByteArray)) ++ c) ++ (⟨#[10]⟩ : ByteArray)) ++ w).size = a.size + 1 + c.size + 1 + w.size := by
    rw [← bl_size, ba_app, List.length_append, bl_size, bl_size, h37c1]
  rcases lexAll_cases a.data.toList (by omega) with ⟨ts, hx, he⟩ | ⟨p, e, hx, he, hd⟩
  · have hts := LX_bounds hx ts rfl
    rw [he]
    simp only [if_true]
    rw [if_pos (by omega), if_pos (by omega), lex_f, Option.bind_some, if_pos (by omega), if_pos (by omega), if_pos (by omega), if_pos (by omega), lex_f, Option.bind_some]
    have hd1 : ((a ++ (⟨#[10]⟩ : ByteArray)) ++ b).data.toList = a.data.toList ++ 10 :: b.data.toList := by
      rw [ba_app, ba_app, List.append_assoc]
      rfl
    have hd2 : (((((a ++ (⟨#[37]⟩ : ByteArray)) ++ c) ++ (⟨#[10]⟩ : ByteArray)) ++ w) ++ b).data.toList = a.data.toList ++ 37 :: (c.data.toList ++ 10 :: (w.data.toList ++ b.data.toList)) := by
      rw [ba_app, ba_app, ba_app, ba_app, ba_app]
      simp only [List.append_assoc]
      rfl
    rw [hd1, hd2]
    have l1 : (a.data.toList ++ 10 :: b.data.toList).length ≤ 20000 := by simp only [List.length_append, List.length_cons]; omega
    have l2 : (a.data.toList ++ 37 :: (c.data.toList ++ 10 :: (w.data.toList ++ b.data.toList))).length ≤ 20000 := by simp only [List.length_append, List.length_cons]; omega
    have hpw := fun y => pass_blanks w.data.toList y hw
    rcases lexAll_cases b.data.toList (by omega) with ⟨us, hy, hf⟩ | ⟨q, f, hy, hf, hd⟩
    · have hus := LX_bounds hy us rfl
      have j1 : lexAll (a.data.toList ++ 10 :: b.data.toList) = (ts ++ us.map (shiftT ((a.data.toList.length + 1 : Nat) : Int)), 0, 0) := lexAll_of l1 (LX_lines hx hy)
      have j2 : lexAll (a.data.toList ++ 37 :: (c.data.toList ++ 10 :: (w.data.toList ++ b.data.toList))) = (ts ++ us.map (shiftT ((a.data.toList.length + c.data.toList.length + w.data.toList.length + 2 : Nat) : Int)), 0, 0) := lexAll_of l2 (LX_remark hc hpw hx hy)
      rw [j1, j2]
      simp only [if_true]
      rw [alike_shift ts us _ _ (by omega)]
      rfl
    · have j1 : lexAll (a.data.toList ++ 10 :: b.data.toList) = ([], ((q + (a.data.toList.length + 1) : Nat) : Int), f) := lexAll_of l1 (LX_lines hx hy)
      have j2 : lexAll (a.data.toList ++ 37 :: (c.data.toList ++ 10 :: (w.data.toList ++ b.data.toList))) = ([], ((q + (a.data.toList.length + c.data.toList.length + w.data.toList.length + 2) : Nat) : Int), f) := lexAll_of l2 (LX_remark hc hpw hx hy)
      rw [j1, j2]
      simp only [if_true]
      have := alike_shift [] [] 0 0 (by simp)
      simp only [List.map_nil, List.append_nil] at this
      simp only [List.map_nil]
      rw [this]
      rfl
  · rw [he]
    have hne : ¬ e = 0 := by omega
    simp only
    rw [if_neg hne]

theorem remarks_l1 (a b c : ByteArray) (hsz : (a.size : Int) + b.size + c.size ≤ 5000) (hc : ∀ z ∈ c.data.toList, z ≠ 10) (K : Nat) (hK : 1000000 < K) (x3 : Int) (m : Nat) (hm : wrap64 (Int.tmod x3 5) = (m : Int)) (hm4 : m ≤ 4) (d : Nat) : ∀ (w : ByteArray) (n : Nat), n + d = m → w.size ≤ 4 * n → (∀ z ∈ w.data.toList, isBlank z = true) →
    sorrellaw04_LexRemarks.l1 (K + 1 + d) a b c x3 true w n = some true := by
  induction d with
  | zero =>
    intro w n hn hw hb
    exact remarks_end a b c w hsz (by omega) hc hb K hK x3 n (by rw [hm]; omega)
  | succ d ih =>
    intro w n hn hw hb
    have e : K + 1 + (d + 1) = (K + 1 + d) + 1 := by omega
    rw [e]
    simp only [sorrellaw04_LexRemarks.l1]
    have e1 : wrap64 ((n : Int) + 1) = ((n + 1 : Nat) : Int) := by rw [wrapN (by omega) (by omega)]; omega
    rw [hm, if_pos (by omega), if_pos (by omega), e1]
    have hsz4 : (w ++ (⟨#[32, 9, 13, 10]⟩ : ByteArray)).size = w.size + 4 := by
      rw [← bl_size, ba_app, List.length_append, bl_size]
      rfl
    refine ih _ (n + 1) (by omega) (by omega) (fun z hz => ?_)
    rw [ba_app] at hz
    rcases List.mem_append.1 hz with hz | hz
    · exact hb z hz
    · have : z ∈ [32, 9, 13, 10] := hz
      simp only [List.mem_cons, List.not_mem_nil, or_false] at this
      rcases this with rfl | rfl | rfl | rfl <;> decide

theorem remarks_l0 (a b c : ByteArray) (hsz : (a.size : Int) + b.size + c.size ≤ 5000) (K : Nat) (hK : 1000000 < K) (x3 : Int) (m : Nat) (hm : wrap64 (Int.tmod x3 5) = (m : Int)) (hm4 : m ≤ 4) (d : Nat) : ∀ i : Nat, i + d = c.size → (∀ z ∈ c.data.toList.take i, z ≠ 10) →
    sorrellaw04_LexRemarks.l0 (K + 1 + m + 1 + d) a b c x3 true i = some true := by
  induction d with
  | zero =>
    intro i hi hc
    simp only [sorrellaw04_LexRemarks.l0]
    rw [if_neg (by omega)]
    have hc' : ∀ z ∈ c.data.toList, z ≠ 10 := by
      rw [List.take_of_length_le (by rw [bl_size]; omega)] at hc
      exact hc
    exact remarks_l1 a b c hsz hc' K hK x3 m hm hm4 m ⟨#[]⟩ 0 (by omega) (by decide) (fun z hz => by simp at hz)
  | succ d ih =>
    intro i hi hc
    have e : K + 1 + m + 1 + (d + 1) = (K + 1 + m + 1 + d) + 1 := by omega
    rw [e]
    simp only [sorrellaw04_LexRemarks.l0]
    have hil : i < c.data.toList.length := by rw [bl_size]; omega
    have hdr := List.drop_eq_getElem_cons hil
    rw [if_pos (by omega), if_pos (by omega), bt_drop c i _ _ hdr]
    by_cases h10 : c.data.toList[i] = 10
    · have : ((c.data.toList[i].toNat : Int) = 10) := by rw [h10]; rfl
      rw [if_pos this]
    · have h10' : ¬ ((c.data.toList[i].toNat : Int) = 10) := by
        intro h
        apply h10
        rw [u8_eq]
        have : (10 : UInt8).toNat = 10 := rfl
        omega
      have e1 : wrap64 ((i : Int) + 1) = ((i + 1 : Nat) : Int) := by rw [wrapN (by omega) (by omega)]; omega
      rw [if_neg h10', e1]
      refine ih (i + 1) (by omega) (fun z hz => ?_)
      rw [List.take_succ_eq_append_getElem hil] at hz
      rcases List.mem_append.1 hz with hz | hz
      · exact hc z hz
      · simp only [List.mem_singleton] at hz
        rw [hz]; exact h10

theorem LexRemarks : sorrellaw04_LexRemarks.Pure := by
  intro a b c n ha hb hc hn
  have hn2 : 0 ≤ n ∧ n ≤ 255 := by
    simp [Lit.wf, IntKind.min, IntKind.max, IntKind.signed, IntKind.bits] at hn
    omega
  refine ⟨1000001 + 1 + (wrap64 (Int.tmod n 5)).toNat + 1 + c.size, ?_⟩
  have htm : Int.tmod n 5 = n % 5 := Int.tmod_eq_emod_of_nonneg hn2.1
  have hm : wrap64 (Int.tmod n 5) = (((wrap64 (Int.tmod n 5)).toNat : Nat) : Int) := by
    rw [htm, wrapN (by omega) (by omega)]; omega
  have hm4 : (wrap64 (Int.tmod n 5)).toNat ≤ 4 := by
    rw [htm, wrapN (by omega) (by omega)]; omega
  generalize (wrap64 (Int.tmod n 5)).toNat = m at *
  have hK : (1000000 : Nat) < 1000001 := by omega
  generalize (1000001 : Nat) = K at *
  unfold sorrellaw04_LexRemarks.f
  rw [head_at _ (by omega), Option.bind_some]
  have hw : wrap64 (wrap64 ((a.size : Int) + (b.size : Int)) + (c.size : Int)) = (a.size : Int) + b.size + c.size := by
    rw [wrapN (x := (a.size : Int) + (b.size : Int)) (by omega) (by omega), wrapN (by omega) (by omega)]
  rw [hw]
  by_cases hbig : (a.size : Int) + b.size + c.size > 5000
  · rw [if_pos hbig]
  · rw [if_neg hbig]
    exact remarks_l0 a b c (by omega) K hK n m hm hm4 c.size 0 (by omega) (fun z hz => by simp at hz)
end Go.Proofs.YtpdlfokfjkmplaaDoor.Pure
