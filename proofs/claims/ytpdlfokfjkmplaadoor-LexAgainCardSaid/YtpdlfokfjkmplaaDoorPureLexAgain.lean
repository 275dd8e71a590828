/- Tokens that are written with a blank behind each, names in quotes where they need them, are the same tokens again: the pure statement. No condition. -/
import Derived.Test.YtpdlfokfjkmplaaDoorAgain
import Derived.Test.YtpdlfokfjkmplaaDoorTok
import Derived.Test.YtpdlfokfjkmplaaDoorRefA
import Derived.Test.YtpdlfokfjkmplaaDoorHead04
import Derived.Test.YtpdlfokfjkmplaaDoorPx13
import Derived.Test.YtpdlfokfjkmplaaDoorPx14
namespace Go.Proofs.YtpdlfokfjkmplaaDoor.Pure
open Go.RowKit Go.Proofs.YtpdlfokfjkmplaaDoor.P Go.Proofs.YtpdlfokfjkmplaaDoorW.PrintWords Go.Proofs.YtpdlfokfjkmplaaDoorW.PrintLast
set_option linter.unusedVariables false

theorem mk_size' (l : List UInt8) : (⟨l.toArray⟩ : ByteArray).size = l.length := by simp [ByteArray.size]

theorem plainL_cons (c : UInt8) (r : List UInt8) : plainL (c :: r) = ((c :: r).all isLetter && isSmall c) := rfl

theorem plain_l0 (s : ByteArray) (hs : s.size ≤ 1000000) (d : Nat) : ∀ (i k : Nat), i + d = s.size → d < k → (∀ x ∈ s.data.toList.take i, isLetter x = true) → sorrellaw04_plain.l0 k s i = some (plainL s.data.toList) := by
  induction d with
  | zero =>
    intro i k hi hk ha
    obtain ⟨k, rfl⟩ : ∃ m, k = m + 1 := ⟨k - 1, by omega⟩
    simp only [sorrellaw04_plain.l0]
    rw [if_neg (by omega)]
    have hsz := bl_size s
    cases he : s.data.toList with
    | nil =>
      rw [he] at hsz
      rw [if_neg (by rw [← hsz]; simp)]
      rfl
    | cons c r =>
      have h1 : 0 < (s.size : Int) := by rw [← hsz, he, List.length_cons]; omega
      rw [if_pos h1, if_pos h1, bt_cons s c r he, rSmall, Option.bind_some, plainL_cons]
      have hall : (c :: r).all isLetter = true := by
        rw [List.all_eq_true]
        intro x hx
        refine ha x ?_
        rw [List.take_of_length_le (by omega), he]
        exact hx
      rw [hall, Bool.true_and]
  | succ d ih =>
    intro i k hi hk ha
    obtain ⟨k, rfl⟩ : ∃ m, k = m + 1 := ⟨k - 1, by omega⟩
    simp only [sorrellaw04_plain.l0]
    have hil : i < s.data.toList.length := by rw [bl_size]; omega
    have hdr := List.drop_eq_getElem_cons hil
    rw [if_pos (by omega), if_pos (by omega), bt_drop s i _ _ hdr, rLetter, Option.bind_some]
    have e1 : wrap64 ((i : Int) + 1) = ((i + 1 : Nat) : Int) := by rw [wrapN (by omega) (by omega)]; omega
    cases hl : isLetter s.data.toList[i] with
    | true =>
      rw [if_pos rfl, e1]
      refine ih (i + 1) k (by omega) (by omega) (fun x hx => ?_)
      rw [List.take_succ_eq_append_getElem hil] at hx
      rcases List.mem_append.1 hx with hx | hx
      · exact ha x hx
      · simp only [List.mem_singleton] at hx
        rw [hx]; exact hl
    | false =>
      rw [if_neg (by simp)]
      have hm : s.data.toList[i] ∈ s.data.toList := List.getElem_mem hil
      generalize s.data.toList[i] = x at hl hm
      cases he : s.data.toList with
      | nil => rw [he] at hm; cases hm
      | cons c r =>
        have hna : (c :: r).all isLetter = false := by
          rw [List.all_eq_false]
          exact ⟨x, by rw [he] at hm; exact hm, by rw [hl]; simp⟩
        rw [plainL_cons, hna, Bool.false_and]

theorem plain_f (s : ByteArray) (hs : s.size ≤ 1000000) (k : Nat) (hk : s.size < k) : sorrellaw04_plain.f k s = some (plainL s.data.toList) := by
  unfold sorrellaw04_plain.f
  exact plain_l0 s hs s.size 0 k (by omega) hk (fun x hx => by simp at hx)

theorem again_l1 (L U : List Tok) (hL : L.length ≤ 1000000) (hU : U.length = L.length) (h : ∀ i (h1 : i < L.length) (h2 : i < U.length), Again L[i] U[i]) (d : Nat) : ∀ i k : Nat, i + d = L.length → 2 * d < k → sorrellaw04_LexAgain.l1 k true (L.map tokS) (U.map tokS) i = some true := by
  induction d with
  | zero =>
    intro i k hi hk
    obtain ⟨k, rfl⟩ : ∃ m, k = m + 1 := ⟨k - 1, by omega⟩
    simp only [sorrellaw04_LexAgain.l1]
    rw [if_neg (by rw [List.length_map]; omega)]
  | succ d ih =>
    intro i k hi hk
    obtain ⟨k, rfl⟩ : ∃ m, k = m + 1 := ⟨k - 1, by omega⟩
    have e1 : wrap64 ((i : Int) + 1) = ((i + 1 : Nat) : Int) := by rw [wrapN (by omega) (by omega)]; omega
    have hl1 : sorrellaw04_LexAgain.l1 k true (L.map tokS) (U.map tokS) ((i + 1 : Nat) : Int) = some true := ih (i + 1) k (by omega) (by omega)
    have hj3 : sorrellaw04_LexAgain.j3 k true (L.map tokS) (U.map tokS) i false = some true := by
      obtain ⟨m, hm⟩ : ∃ m, k = m + 1 := ⟨k - 1, by omega⟩
      rw [hm]
      simp only [sorrellaw04_LexAgain.j3]
      rw [if_neg (by simp), e1]
      exact ih (i + 1) m (by omega) (by omega)
    have a0 : (i : Int) < ((L.map tokS).length : Int) := by rw [List.length_map]; omega
    have a1 : (0 : Int) ≤ (i : Int) := by omega
    have a2 : (i : Int) < ((U.map tokS).length : Int) := by rw [List.length_map]; omega
    have hag := h i (by omega) (by omega)
    simp only [sorrellaw04_LexAgain.l1]
    rw [if_pos a0, if_pos a1, if_pos a2, rd_map L i (by omega), rd_map U i (by omega)]
    generalize L[i] = t at hag
    generalize U[i] = u at hag
    obtain ⟨g1, g2, g3⟩ := hag
    have f1 : (tokS u).f1 = (tokS t).f1 := by
      show (⟨u.text.toArray⟩ : ByteArray) = ⟨t.text.toArray⟩
      rw [g1]
    have f2 : (tokS u).f2 = (tokS t).f2 := g2
    rcases g3 with g3 | ⟨k4, k46, k6⟩
    · have f0 : (tokS u).f0 = (tokS t).f0 := g3
      have hno : ¬ ((!((tokS u).f0 == (tokS t).f0) || (!((tokS u).f1.toList == (tokS t).f1.toList) || (!((tokS u).f2 == (tokS t).f2)))) = true) := by
        rw [f0, f1, f2]
        simp
      rw [if_neg hno, if_neg hno, hj3, e1, hl1]
      simp
    · have f4 : (tokS t).f0 = 4 := k4
      have f6 : (tokS u).f0 = 6 := k6
      have hd : ((!((tokS u).f0 == (tokS t).f0) || (!((tokS u).f1.toList == (tokS t).f1.toList) || (!((tokS u).f2 == (tokS t).f2)))) = true) := by
        rw [f4, f6]
        rfl
      have ht : (tokS t).f1.toList = ([46] : List UInt8) := by
        show (⟨t.text.toArray⟩ : ByteArray).toList = _
        rw [k46]
        decide +kernel
      rw [if_pos f4, if_pos hd, if_pos ht, if_pos f6, f1, ht]
      exact hj3

theorem writAll_app (a b : List Tok) : writAll (a ++ b) = writAll a ++ writAll b := by
  induction a with
  | nil => rfl
  | cons t ts ih =>
    show writ0 t.kind t.text ++ 32 :: writAll (ts ++ b) = (writ0 t.kind t.text ++ 32 :: writAll ts) ++ writAll b
    rw [ih, List.append_assoc]
    rfl

theorem again_l0 (L U : List Tok) (hL : L.length ≤ 3000) (hU : U.length = L.length) (h : ∀ i (h1 : i < L.length) (h2 : i < U.length), Again L[i] U[i]) (hw : (writAll L).length ≤ 6000) (hx : lexAll (writAll L) = (U, 0, 0)) (d : Nat) : ∀ (i k : Nat) (b : ByteArray), i + d = L.length → d + 10000 < k → b.data.toList = writAll (L.take i) → sorrellaw04_LexAgain.l0 k true (L.map tokS) b i = some true := by
  induction d with
  | zero =>
    intro i k b hi hk hb
    obtain ⟨k, rfl⟩ : ∃ m, k = m + 2 := ⟨k - 2, by omega⟩
    simp only [sorrellaw04_LexAgain.l0]
    rw [if_neg (by rw [List.length_map]; omega), lex_f, hb, List.take_of_length_le (by omega), hx, Option.bind_some]
    have hne : (((U.map tokS).length : Int) != ((L.map tokS).length : Int)) = false := by
      rw [List.length_map, List.length_map, hU]
      simp
    simp only [if_true, hne, sorrellaw04_LexAgain.j1]
    rw [if_neg (by simp)]
    exact again_l1 L U (by omega) hU h L.length 0 k (by omega) (by omega)
  | succ d ih =>
    intro i k b hi hk hb
    obtain ⟨k, rfl⟩ : ∃ m, k = m + 1 := ⟨k - 1, by omega⟩
    have hil : i < L.length := by omega
    have a0 : (i : Int) < ((L.map tokS).length : Int) := by rw [List.length_map]; omega
    have a1 : (0 : Int) ≤ (i : Int) := by omega
    have e1 : wrap64 ((i : Int) + 1) = ((i + 1 : Nat) : Int) := by rw [wrapN (by omega) (by omega)]; omega
    have hsplit : writAll L = writAll (L.take i) ++ (writ0 L[i].kind L[i].text ++ 32 :: writAll (L.drop (i + 1))) := by
      have e : L = L.take i ++ (L[i] :: L.drop (i + 1)) := by rw [← List.drop_eq_getElem_cons hil, List.take_append_drop]
      conv => lhs; rw [e]
      rw [writAll_app]
      rfl
    have hnext : writAll (L.take (i + 1)) = writAll (L.take i) ++ (writ0 L[i].kind L[i].text ++ [32]) := by
      rw [List.take_succ_eq_append_getElem hil, writAll_app]
      rfl
    have hlen := congrArg List.length hsplit
    simp only [List.length_append, List.length_cons] at hlen
    have hbs : b.size = (writAll (L.take i)).length := by rw [← bl_size, hb]
    have next : ∀ b' : ByteArray, b'.data.toList = writAll (L.take (i + 1)) → sorrellaw04_LexAgain.l0 k true (L.map tokS) b' ((i + 1 : Nat) : Int) = some true := fun b' h' => ih (i + 1) k b' (by omega) (by omega) h'
    clear ih
    simp only [sorrellaw04_LexAgain.l0]
    rw [if_pos a0, if_pos a1, rd_map L i hil, e1]
    rw [hnext] at next
    generalize L[i] = t at hsplit hlen next
    have ht1 : (tokS t).f1.data.toList = t.text := by
      show (⟨t.text.toArray⟩ : ByteArray).data.toList = _
      simp
    have hts : (tokS t).f1.size = t.text.length := by rw [← bl_size, ht1]
    have hk0 : (tokS t).f0 = t.kind := rfl
    by_cases hq : t.kind = 1 ∧ plainL t.text = false
    · have hwr : writ0 t.kind t.text = 39 :: (t.text ++ [39]) := by
        unfold writ0
        rw [if_pos hq]
      rw [hwr] at hlen next
      simp only [List.length_append, List.length_cons, List.length_nil] at hlen
      have s1 : (b ++ (⟨#[39]⟩ : ByteArray)).size = b.size + 1 := by
        rw [← bl_size, ba_app, List.length_append, bl_size]
        rfl
      have s2 : ((b ++ (⟨#[39]⟩ : ByteArray)) ++ (tokS t).f1).size = b.size + 1 + t.text.length := by
        rw [← bl_size, ba_app, List.length_append, bl_size, s1, ht1]
      rw [if_pos (hk0.trans hq.1), plain_f _ (by omega) k (by omega), ht1, hq.2, Option.bind_some, if_neg (by simp), if_pos (by omega), if_pos (by omega), if_pos (by omega)]
      refine next _ ?_
      rw [ba_app, ba_app, ba_app, hb, ht1]
      show ((writAll (L.take i) ++ [39]) ++ t.text) ++ [39, 32] = _
      simp
    · have hwr : writ0 t.kind t.text = t.text := by
        unfold writ0
        rw [if_neg hq]
      rw [hwr] at hlen next
      have s1 : (b ++ (tokS t).f1).size = b.size + t.text.length := by
        rw [← bl_size, ba_app, List.length_append, bl_size, ht1]
      have hgo : sorrellaw04_LexAgain.l0 k true (L.map tokS) ((b ++ (tokS t).f1) ++ (⟨#[32]⟩ : ByteArray)) ((i + 1 : Nat) : Int) = some true := by
        refine next _ ?_
        rw [ba_app, ba_app, hb, ht1]
        show (writAll (L.take i) ++ t.text) ++ [32] = _
        simp
      rw [hgo, if_pos (show b.size + (tokS t).f1.size ≤ 9223372036854775807 by omega), if_pos (show (b ++ (tokS t).f1).size + 1 ≤ 9223372036854775807 by omega)]
      by_cases h1 : t.kind = 1
      · have hp : plainL t.text = true := by
          cases hp : plainL t.text with
          | true => rfl
          | false => exact absurd ⟨h1, hp⟩ hq
        rw [if_pos (hk0.trans h1), plain_f _ (by omega) k (by omega), ht1, hp, Option.bind_some, if_pos rfl]
      · rw [if_neg (fun e => h1 (hk0.symm.trans e))]

theorem LexAgain : sorrellaw04_LexAgain.Pure := by
  intro s hs
  refine ⟨20000, ?_⟩
  unfold sorrellaw04_LexAgain.f
  rw [head_at 20000 (by decide), Option.bind_some]
  by_cases hbig : (s.size : Int) > 3000
  · rw [if_pos hbig]
  · rw [if_neg hbig, lex_f, Option.bind_some]
    have hsz := bl_size s
    rcases lexAll_cases s.data.toList (by omega) with ⟨ts, hx, he⟩ | ⟨p, e, hx, he, hc⟩
    · obtain ⟨hw, hu⟩ := LX_again hx ts rfl
      obtain ⟨us, hus, hul, hua⟩ := hu 0
      have hb := LX_bounds hx ts rfl
      have hj : lexAll (writAll ts) = (us, 0, 0) := lexAll_of (by omega) hus
      rw [he]
      simp only [if_true]
      exact again_l0 ts us (by omega) hul hua (by omega) hj ts.length 0 20000 ⟨#[]⟩ (by omega) (by omega) rfl
    · rw [he]
      have hne : ¬ e = 0 := by omega
      simp only
      rw [if_neg hne]
end Go.Proofs.YtpdlfokfjkmplaaDoor.Pure
