/- The document's answer to layer 4: a token, and the tokens of a text, are the plain functions. No program in sight. No condition but lengths. -/
import Derived.Test.YtpdlfokfjkmplaaDoorRefA
import Derived.Test.YtpdlfokfjkmplaaDoorLex
import Derived.Test.YtpdlfokfjkmplaaDoorPx9
namespace Go.Proofs.YtpdlfokfjkmplaaDoor.P
open Go.RowKit Go.Proofs.YtpdlfokfjkmplaaDoorW.PrintWords
set_option linter.unusedVariables false

theorem tokL_cons (c : UInt8) (r : List UInt8) : tokL (c :: r) = if isSmall c = true then act 0 (c :: r) else if isGreat c = true then act 1 (c :: r) else if isDigit c = true then act 2 (c :: r) else if (c == 39) = true then act 3 (c :: r) else if isPunct c = true then act 4 (c :: r) else if (c == 46 && endsR r) = true then act 5 (c :: r) else if isSign c = true then act 6 (c :: r) else .error 40 := rfl

theorem act_row (i : Nat) (c : UInt8) (r : List UInt8) (p : UInt8 → Bool) (m : Nat) (hi : i ≠ 2) (h : tk i (c :: r) = rowL p m (c :: r)) : act i (c :: r) = if spanP p (c :: r) > m then .error 2 else .ok ⟨kindOf i, (c :: r).take (spanP p (c :: r)), 0, spanP p (c :: r)⟩ := by
  unfold act
  rw [h]
  unfold rowL
  by_cases hg : spanP p (c :: r) > m
  · rw [if_pos hg, if_pos hg]
  · rw [if_neg hg, if_neg hg]
    simp only [hi, if_false]
theorem act_single (i : Nat) (c : UInt8) (r : List UInt8) (hi : i ≠ 2) (h : tk i (c :: r) = singleL (c :: r)) : act i (c :: r) = .ok ⟨kindOf i, [c], 0, 1⟩ := by
  unfold act
  rw [h]
  simp [singleL, hi]

theorem some6 (x : Int × ByteArray × Int × Int × Int × Int) : some (x.1, x.2.1, x.2.2.1, x.2.2.2.1, x.2.2.2.2.1, x.2.2.2.2.2) = some x := rfl

/-- What stands behind the full stop's test. -/
theorem rtoken_j0 (s : ByteArray) (hs : s.size ≤ 20000) (a : Nat) (c : UInt8) (r : List UInt8) (hl : s.data.toList.drop a = c :: r) (ha : a < s.size) (b : Bool) (k : Nat) (hk : s.size + 60 < k) :
    sorrelref04_token.j0 k s a (c.toNat : Int) b = some (tokOut a (if b = true then act 5 (c :: r) else if isSign c = true then act 6 (c :: r) else .error 40)) := by
  obtain ⟨k, rfl⟩ : ∃ m, k = m + 1 := ⟨k - 1, by omega⟩
  simp only [sorrelref04_token.j0]
  cases b with
  | true =>
    simp only [if_true]
    have e1 : wrap64 ((a : Int) + 1) = ((a + 1 : Nat) : Int) := by rw [wrapN (by omega) (by omega)]; omega
    rw [e1, rshort s (by omega) a 1 6 (by omega), Option.bind_some, some6, if_neg (by omega), hl]
    rw [act_single 5 c r (by decide) rfl]
    rfl
  | false =>
    simp only [Bool.false_eq_true, if_false]
    rw [rSign c k (by omega), Option.bind_some]
    cases hc : isSign c with
    | true =>
      simp only [if_true]
      have hr := rrow s (by omega) 3 isSign (.inr (.inr ⟨rfl, rfl⟩)) a k (by omega) (by omega)
      rw [hl] at hr
      have hle := spanP_le isSign (c :: r)
      have hlen : (c :: r).length = s.size - a := by rw [← hl, List.length_drop, bl_size]
      rw [hr, Option.bind_some, rshort s (by omega) a _ 4 (by omega), Option.bind_some, some6, hl]
      rw [act_row 6 c r isSign 12 (by decide) rfl]
      rfl
    | false =>
      simp only [Bool.false_eq_true, if_false]
      rfl

theorem rtoken (s : ByteArray) (hs : s.size ≤ 20000) (a : Nat) (c : UInt8) (r : List UInt8) (hl : s.data.toList.drop a = c :: r) (ha : a < s.size) (k : Nat) (hk : s.size + 60 < k) :
    sorrelref04_token.f k s a = some (tokOut a (tokL (c :: r))) := by
  unfold sorrelref04_token.f
  have hle := spanP_le isLetter (c :: r)
  have hlen : (c :: r).length = s.size - a := by rw [← hl, List.length_drop, bl_size]
  have hr := rrow s (by omega) 1 isLetter (.inl ⟨rfl, rfl⟩) a k (by omega) (by omega)
  have hn := fun h => rnumber s hs a c r hl h ha k (by omega)
  have hq := rquoted s (by omega) a c r hl ha k (by omega)
  have hj := fun b => rtoken_j0 s hs a c r hl ha b k hk
  have e1 : wrap64 ((a : Int) + 1) = ((a + 1 : Nat) : Int) := by rw [wrapN (by omega) (by omega)]; omega
  have hp := rshort s (by omega) a 1 5 (by omega)
  rw [hl] at hr hp
  rw [if_pos (by omega), if_pos (by omega), bt_drop s a c r hl, rSmall, Option.bind_some, tokL_cons]
  cases h0 : isSmall c with
  | true =>
    simp only [if_true]
    rw [hr, Option.bind_some, rshort s (by omega) a _ 1 (by omega), Option.bind_some, some6, hl, act_row 0 c r isLetter 12 (by decide) rfl]
    rfl
  | false =>
    simp only [Bool.false_eq_true, if_false]
    rw [rGreat, Option.bind_some]
    cases h1 : isGreat c with
    | true =>
      simp only [if_true]
      rw [hr, Option.bind_some, if_pos (by omega), if_pos (by omega), act_row 1 c r isLetter 20000 (by decide) rfl, if_neg (by omega)]
      have e2 : (((a + spanP isLetter (c :: r) : Nat) : Int)).toNat = a + spanP isLetter (c :: r) := by omega
      rw [e2, Int.toNat_natCast, cut_take, hl]
      simp only [tokOut, kindOf]
      rw [Int.natCast_add]
    | false =>
      simp only [Bool.false_eq_true, if_false]
      rw [rDigit, Option.bind_some]
      cases h2 : isDigit c with
      | true =>
        simp only [if_true]
        rw [hn h2, Option.bind_some]
      | false =>
        simp only [Bool.false_eq_true, if_false]
        by_cases h3 : c = 39
        · have h3' : ((c.toNat : Int) = 39) := (u8_lit c 39 39 rfl).2 h3
          rw [if_pos h3', hq, Option.bind_some]
          subst h3
          rfl
        · have h3' : ¬ ((c.toNat : Int) = 39) := fun h => h3 ((u8_lit c 39 39 rfl).1 h)
          have h3b : ¬ ((c == 39) = true) := by simpa using h3
          rw [if_neg h3', if_neg h3b, rPunct c k (by omega), Option.bind_some]
          cases h4 : isPunct c with
          | true =>
            simp only [if_true]
            rw [e1, hp, Option.bind_some, some6, if_neg (by omega), act_single 4 c r (by decide) rfl]
            rfl
          | false =>
            simp only [Bool.false_eq_true, if_false]
            by_cases h5 : c = 46
            · have h5' : ((c.toNat : Int) = 46) := (u8_lit c 46 46 rfl).2 h5
              rw [if_pos h5', e1]
              have h5b : (c == 46) = true := by simpa using h5
              rw [h5b, Bool.true_and]
              cases r with
              | nil =>
                rw [if_pos (by simp at hlen; omega), hj]
                rfl
              | cons d r =>
                have hl2 : s.data.toList.drop (a + 1) = d :: r := by
                  have : (s.data.toList.drop a).drop 1 = s.data.toList.drop (a + 1) := by rw [List.drop_drop]
                  rw [← this, hl]; rfl
                rw [if_neg (by simp at hlen; omega), if_pos (by omega), if_pos (by simp at hlen; omega), bt_drop s (a + 1) d r hl2, rBlank, Option.bind_some]
                have e37 : (((d.toNat : Int)) == 37) = (d == 37) := by
                  rw [Bool.eq_iff_iff, beq_iff_eq, beq_iff_eq]
                  exact u8_lit d 37 37 rfl
                cases h6 : isBlank d with
                | true =>
                  simp only [if_true]
                  rw [hj]
                  simp [endsR, h6]
                | false =>
                  simp only [Bool.false_eq_true, if_false]
                  rw [hj, e37]
                  simp [endsR, h6]
            · have h5' : ¬ ((c.toNat : Int) = 46) := fun h => h5 ((u8_lit c 46 46 rfl).1 h)
              have h5b : (c == 46) = false := by simpa using h5
              rw [if_neg h5', h5b, Bool.false_and, hj]

theorem tokL_pos (c : UInt8) (r : List UInt8) (t : Tk) (h : tokL (c :: r) = .ok t) : 1 ≤ t.len ∧ t.len ≤ (c :: r).length := by
  have key : ∀ d, tokD d (c :: r) = .ok t → 1 ≤ t.len ∧ t.len ≤ (c :: r).length := by
    intro d
    induction d with
    | zero => intro h; cases h
    | succ d ih =>
      intro h
      cases hb : bg (6 - d) (c :: r) with
      | false => rw [tokD_no d _ hb] at h; exact ih h
      | true =>
        rw [tokD_yes d _ hb] at h
        unfold act at h
        cases ht : tk (6 - d) (c :: r) with
        | error e => rw [ht] at h; cases h
        | ok tn =>
          obtain ⟨t', n⟩ := tn
          rw [ht] at h
          have hn := tk_len _ c r t' n hb ht
          simp only at h
          split at h
          · split at h
            · cases h
            · injection h with h; subst h; exact hn
          · injection h with h; subst h; exact hn
  exact key 7 h

theorem rlex_l0 (s : ByteArray) (hs : s.size ≤ 20000) (d : Nat) : ∀ (a j k : Nat) (out : List Tok), s.size - a ≤ d → a ≤ s.size → s.size - a < j → d + s.size + 62 < k → out.length ≤ a →
    sorrelref04_Lex.l0 k s (out.map tokS) a = some ((lexL j (s.data.toList.drop a) a out).1.map tokS, (lexL j (s.data.toList.drop a) a out).2.1, (lexL j (s.data.toList.drop a) a out).2.2) := by
  induction d with
  | zero =>
    intro a j k out hd ha hj hk ho
    obtain ⟨k, rfl⟩ : ∃ m, k = m + 1 := ⟨k - 1, by omega⟩
    obtain ⟨j, rfl⟩ : ∃ m, j = m + 1 := ⟨j - 1, by omega⟩
    have hl : s.data.toList.drop a = [] := List.drop_eq_nil_of_le (by rw [bl_size]; omega)
    simp only [sorrelref04_Lex.l0]
    rw [if_neg (by omega), hl]
    rfl
  | succ d ih =>
    intro a j k out hd ha hj hk ho
    obtain ⟨k, rfl⟩ : ∃ m, k = m + 1 := ⟨k - 1, by omega⟩
    obtain ⟨j, rfl⟩ : ∃ m, j = m + 1 := ⟨j - 1, by omega⟩
    by_cases hlt : a < s.size
    · obtain ⟨c, r, hl⟩ : ∃ c r, s.data.toList.drop a = c :: r := by
        have := List.drop_eq_getElem_cons (show a < s.data.toList.length by rw [bl_size]; exact hlt)
        exact ⟨_, _, this⟩
      have hlen : (c :: r).length = s.size - a := by rw [← hl, List.length_drop, bl_size]
      simp only [sorrelref04_Lex.l0]
      rw [if_pos (by omega), rtoken s hs a c r hl hlt k (by omega), Option.bind_some]
      cases ht : tokL (c :: r) with
      | error e =>
        have hne : ¬ e = 0 := by
          have key : ∀ d, tokD d (c :: r) = .error e → e = 2 ∨ e = 41 ∨ e = 40 := by
            intro d
            induction d with
            | zero => intro h; injection h with h; right; right; exact h.symm
            | succ d ih =>
              intro h
              cases hb : bg (6 - d) (c :: r) with
              | false => rw [tokD_no d _ hb] at h; exact ih h
              | true =>
                rw [tokD_yes d _ hb] at h
                unfold act at h
                cases ht : tk (6 - d) (c :: r) with
                | error e' =>
                  rw [ht] at h
                  injection h with h
                  rcases tk_err _ _ _ ht with h' | h' <;> omega
                | ok tn =>
                  obtain ⟨t', n⟩ := tn
                  rw [ht] at h
                  simp only at h
                  split at h
                  · split at h
                    · injection h with h; omega
                    · cases h
                  · cases h
          have := key 7 ht
          omega
        have e1 : lexL (j + 1) (s.data.toList.drop a) a out = ([], (a : Int), e) := (lex_err j _ a out _ c r hl e ht rfl)
        rw [e1]
        simp only [tokOut, hne, if_false]
        rfl
      | ok t =>
        have hp := tokL_pos c r t ht
        have hst := lex_step j _ a out _ c r hl t ht rfl (a + t.len) _ rfl rfl
        rw [← hst]
        simp only [tokOut, if_true]
        rw [if_pos (by rw [List.length_map]; omega)]
        have e2 : (a : Int) + (t.len : Int) = ((a + t.len : Nat) : Int) := by omega
        rw [e2, rpass s (by omega) (a + t.len) k (by omega) (by omega), Option.bind_some]
        have hle := passL_le (s.data.toList.drop (a + t.len)) false
        rw [List.length_drop, bl_size] at hle
        have e3 : out.map tokS ++ [(⟨t.kind, ⟨t.text.toArray⟩, t.val, (a : Int)⟩ : S30)] = (out ++ [(⟨t.kind, t.text, t.val, (a : Int)⟩ : Tok)]).map tokS := by
          rw [List.map_append]; rfl
        rw [e3]
        exact ih _ j k _ (by omega) (by omega) (by omega) (by omega) (by rw [List.length_append]; simp; omega)
    · have hl : s.data.toList.drop a = [] := List.drop_eq_nil_of_le (by rw [bl_size]; omega)
      simp only [sorrelref04_Lex.l0]
      rw [if_neg (by omega), hl]
      rfl

theorem rlex (s : ByteArray) : ∃ k, sorrelref04_Lex.f k s = lex_Lex.f s := by
  refine ⟨3 * s.size + 100, ?_⟩
  unfold sorrelref04_Lex.f lex_Lex.f lexAll
  rw [bl_size]
  by_cases hs : s.size > 20000
  · rw [if_pos (by omega), if_pos hs]
    rfl
  · rw [if_neg (by omega), if_neg hs]
    have hle := passL_le s.data.toList false
    rw [bl_size] at hle
    have h0 := rpass s (by omega) 0 (3 * s.size + 100) (by omega) (by omega)
    have e0 : ((0 : Nat) : Int) = 0 := rfl
    rw [e0, List.drop_zero, Nat.zero_add] at h0
    rw [h0, Option.bind_some]
    exact rlex_l0 s (by omega) s.size _ _ _ [] (by omega) (by omega) (by omega) (by omega) (by simp)

end Go.Proofs.YtpdlfokfjkmplaaDoor.P
