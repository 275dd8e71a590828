/- The tokens of a text, written anew with a blank behind each, are the same tokens: in plain Lean. No program in sight. No condition but lengths. -/
import Derived.Test.YtpdlfokfjkmplaaDoorLexL
namespace Go.Proofs.YtpdlfokfjkmplaaDoor.P
set_option linter.unusedVariables false

/-- Is a text one that needs no quotes? -/
def plainL (l : List UInt8) : Bool :=
  match l with
  | [] => false
  | c :: r => (c :: r).all isLetter && isSmall c
/-- A token as it is written. -/
def writ0 (k : Int) (t : List UInt8) : List UInt8 := if k = 1 ∧ plainL t = false then 39 :: (t ++ [39]) else t
def writAll : List Tok → List UInt8
  | [] => []
  | t :: ts => writ0 t.kind t.text ++ 32 :: writAll ts
/-- The same token again; a lone full stop now ends a clause. -/
def Again (t u : Tok) : Prop := u.text = t.text ∧ u.val = t.val ∧ (u.kind = t.kind ∨ (t.kind = 4 ∧ t.text = [46] ∧ u.kind = 6))

set_option synthInstance.maxSize 1000
set_option synthInstance.maxHeartbeats 200000
theorem bx0 (c : UInt8) : isSmall c = true → isLetter c = true ∧ isBlank c = false ∧ c ≠ 37 ∧ c ≠ 10 := u8_prop (fun c => isSmall c = true → isLetter c = true ∧ isBlank c = false ∧ c ≠ 37 ∧ c ≠ 10) (by decide +kernel) c
theorem bx1 (c : UInt8) : isGreat c = true → isSmall c = false ∧ isLetter c = true ∧ isBlank c = false ∧ c ≠ 37 ∧ c ≠ 10 := u8_prop (fun c => isGreat c = true → isSmall c = false ∧ isLetter c = true ∧ isBlank c = false ∧ c ≠ 37 ∧ c ≠ 10) (by decide +kernel) c
theorem bx2 (c : UInt8) : isDigit c = true → isSmall c = false ∧ isGreat c = false ∧ isBlank c = false ∧ c ≠ 37 ∧ c ≠ 10 := u8_prop (fun c => isDigit c = true → isSmall c = false ∧ isGreat c = false ∧ isBlank c = false ∧ c ≠ 37 ∧ c ≠ 10) (by decide +kernel) c
theorem bx3 (c : UInt8) : isPunct c = true → isSmall c = false ∧ isGreat c = false ∧ isDigit c = false ∧ (c == 39) = false ∧ isBlank c = false ∧ c ≠ 37 ∧ c ≠ 10 := u8_prop (fun c => isPunct c = true → isSmall c = false ∧ isGreat c = false ∧ isDigit c = false ∧ (c == 39) = false ∧ isBlank c = false ∧ c ≠ 37 ∧ c ≠ 10) (by decide +kernel) c
theorem bx4 (c : UInt8) : isSign c = true → isSmall c = false ∧ isGreat c = false ∧ isDigit c = false ∧ (c == 39) = false ∧ isPunct c = false ∧ isBlank c = false ∧ c ≠ 37 ∧ c ≠ 10 ∧ (isBlank c || c == 37) = false := u8_prop (fun c => isSign c = true → isSmall c = false ∧ isGreat c = false ∧ isDigit c = false ∧ (c == 39) = false ∧ isPunct c = false ∧ isBlank c = false ∧ c ≠ 37 ∧ c ≠ 10 ∧ (isBlank c || c == 37) = false) (by decide +kernel) c
theorem byte_excl (c : UInt8) : (isSmall c = true → isLetter c = true ∧ isBlank c = false ∧ c ≠ 37 ∧ c ≠ 10) ∧ (isGreat c = true → isSmall c = false ∧ isLetter c = true ∧ isBlank c = false ∧ c ≠ 37 ∧ c ≠ 10) ∧ (isDigit c = true → isSmall c = false ∧ isGreat c = false ∧ isBlank c = false ∧ c ≠ 37 ∧ c ≠ 10) ∧ (isPunct c = true → isSmall c = false ∧ isGreat c = false ∧ isDigit c = false ∧ (c == 39) = false ∧ isBlank c = false ∧ c ≠ 37 ∧ c ≠ 10) ∧ (isSign c = true → isSmall c = false ∧ isGreat c = false ∧ isDigit c = false ∧ (c == 39) = false ∧ isPunct c = false ∧ isBlank c = false ∧ c ≠ 37 ∧ c ≠ 10 ∧ (isBlank c || c == 37) = false) := ⟨bx0 c, bx1 c, bx2 c, bx3 c, bx4 c⟩

theorem tokL_rule (c : UInt8) (r : List UInt8) : tokL (c :: r) = if isSmall c = true then act 0 (c :: r) else if isGreat c = true then act 1 (c :: r) else if isDigit c = true then act 2 (c :: r) else if (c == 39) = true then act 3 (c :: r) else if isPunct c = true then act 4 (c :: r) else if (c == 46 && endsR r) = true then act 5 (c :: r) else if isSign c = true then act 6 (c :: r) else .error 40 := rfl

theorem span_all (p : UInt8 → Bool) (l : List UInt8) (h : l.all p = true) : spanP p l = l.length := by
  unfold spanP
  induction l with
  | nil => rfl
  | cons c r ih =>
    rw [List.all_cons, Bool.and_eq_true] at h
    rw [List.takeWhile_cons, h.1]
    simp only [if_true, List.length_cons, ih h.2]
theorem take_span (p : UInt8 → Bool) (l : List UInt8) : l.take (spanP p l) = l.takeWhile p := by
  unfold spanP
  induction l with
  | nil => rfl
  | cons c r ih =>
    rw [List.takeWhile_cons]
    cases hp : p c with
    | false => rfl
    | true => simp only [if_true, List.length_cons, List.take_succ_cons, ih]
theorem all_span (p : UInt8 → Bool) (l : List UInt8) : (l.take (spanP p l)).all p = true := by
  rw [take_span]
  exact List.all_takeWhile
theorem row_all (p : UInt8 → Bool) (m : Nat) (l : List UInt8) (h : l.all p = true) (hm : l.length ≤ m) : rowL p m l = .ok (l, l.length) := by
  unfold rowL
  rw [span_all p l h, if_neg (by omega), List.take_of_length_le (Nat.le_refl _)]
theorem span_pos (p : UInt8 → Bool) (c : UInt8) (r : List UInt8) (h : p c = true) : ∃ r0, (c :: r).take (spanP p (c :: r)) = c :: r0 := by
  refine ⟨r.takeWhile p, ?_⟩
  rw [take_span, List.takeWhile_cons, h]
  rfl
theorem act_all (i : Nat) (p : UInt8 → Bool) (m : Nat) (l : List UInt8) (hi : i ≠ 2) (e : tk i l = rowL p m l) (h : l.all p = true) (hm : l.length ≤ m) : act i l = .ok ⟨kindOf i, l, 0, l.length⟩ := by
  unfold act
  rw [e, row_all p m l h hm]
  simp only [hi, if_false]

/-- Each token that is written is told again. -/
theorem writ_tok (c : UInt8) (r : List UInt8) (t : Tk) (h : tokL (c :: r) = .ok t) : ∃ (c' : UInt8) (r0 : List UInt8) (t' : Tk), writ0 t.kind t.text = c' :: r0 ∧ tokL (c' :: r0) = .ok t' ∧ t'.len = (c' :: r0).length ∧ (t'.text = t.text ∧ t'.val = t.val ∧ (t'.kind = t.kind ∨ (t.kind = 4 ∧ t.text = [46] ∧ t'.kind = 6))) ∧
    (isBlank c' = false ∧ c' ≠ 37 ∧ c' ≠ 10) ∧ (c' :: r0).length + 1 ≤ 2 * t.len := by
  obtain ⟨b0, b1, b2, b3, b4⟩ := byte_excl c
  rcases tok_kind c r t h with ⟨h, hk, ht, hv, hn, hm⟩ | ⟨h, hk, ht, hv, hn, hm⟩ | ⟨h, hk, ht, hv, hg, hn, hm⟩ | ⟨n, h, hk, hs, h0, h1, h2, hp, ht, hv, hn⟩ | ⟨h, hk, ht, hv, hn⟩ | ⟨h, he, hk, ht, hv, hn⟩ | ⟨h, he, hk, ht, hv, hn, hm⟩
  · obtain ⟨k1, k2, k3, k4⟩ := b0 h
    obtain ⟨r0, er⟩ := span_pos isLetter c r k1
    have ha := all_span isLetter (c :: r)
    have hl := take_len isLetter (c :: r)
    rw [er] at ha hl ht
    have hpl : plainL (c :: r0) = true := by
      show ((c :: r0).all isLetter && isSmall c) = true
      rw [ha, h]; rfl
    refine ⟨c, r0, ⟨1, c :: r0, 0, (c :: r0).length⟩, ?_, ?_, rfl, ⟨by rw [ht], by rw [hv], .inl (by rw [hk])⟩, ⟨k2, k3, k4⟩, by rw [List.length_cons] at hl ⊢; omega⟩
    · unfold writ0
      rw [ht, if_neg (by rw [hpl]; simp)]
    · rw [tokL_rule, if_pos h]
      exact act_all 0 isLetter 12 _ (by decide) rfl ha (by omega)
  · obtain ⟨k0, k1, k2, k3, k4⟩ := b1 h
    obtain ⟨r0, er⟩ := span_pos isLetter c r k1
    have ha := all_span isLetter (c :: r)
    have hl := take_len isLetter (c :: r)
    rw [er] at ha hl ht
    refine ⟨c, r0, ⟨2, c :: r0, 0, (c :: r0).length⟩, ?_, ?_, rfl, ⟨by rw [ht], by rw [hv], .inl (by rw [hk])⟩, ⟨k2, k3, k4⟩, by rw [List.length_cons] at hl ⊢; omega⟩
    · unfold writ0
      rw [ht, hk, if_neg (by simp)]
    · rw [tokL_rule, if_neg (by rw [k0]; simp), if_pos h]
      exact act_all 1 isLetter 20000 _ (by decide) rfl ha (by omega)
  · obtain ⟨k0, k1, k2, k3, k4⟩ := b2 h
    obtain ⟨r0, er⟩ := span_pos isDigit c r h
    have ha := all_span isDigit (c :: r)
    have hl := take_len isDigit (c :: r)
    rw [er] at ha hl ht
    rw [ht] at hg hv
    refine ⟨c, r0, ⟨3, c :: r0, decVal (c :: r0), (c :: r0).length⟩, ?_, ?_, rfl, ⟨by rw [ht], by rw [hv], .inl (by rw [hk])⟩, ⟨k2, k3, k4⟩, by rw [List.length_cons] at hl ⊢; omega⟩
    · unfold writ0
      rw [ht, hk, if_neg (by simp)]
    · rw [tokL_rule, if_neg (by rw [k0]; simp), if_neg (by rw [k1]; simp), if_pos h]
      have hr : tk 2 (c :: r0) = .ok (c :: r0, (c :: r0).length) := row_all isDigit 20000 _ ha (by omega)
      unfold act
      rw [hr]
      simp only [if_true]
      rw [if_neg (by omega)]
  · have htl : t.text.length = n := by rw [ht, List.length_take]; omega
    cases hpl : plainL t.text with
    | true =>
      cases et : t.text with
      | nil => rw [et] at hpl; cases hpl
      | cons d s =>
        rw [et] at hpl htl
        have hpl' : ((d :: s).all isLetter && isSmall d) = true := hpl
        rw [Bool.and_eq_true] at hpl'
        obtain ⟨ha, hd⟩ := hpl'
        obtain ⟨k1, k2, k3, k4⟩ := (byte_excl d).1 hd
        refine ⟨d, s, ⟨1, d :: s, 0, (d :: s).length⟩, ?_, ?_, rfl, ⟨rfl, by rw [hv], .inl (by rw [hk])⟩, ⟨k2, k3, k4⟩, by omega⟩
        · unfold writ0
          rw [if_neg (by rw [hpl]; simp)]
        · rw [tokL_rule, if_pos hd]
          exact act_all 0 isLetter 12 _ (by decide) rfl ha (by omega)
    | false =>
      have hw : writ0 t.kind t.text = 39 :: (t.text ++ [39]) := by
        unfold writ0
        rw [if_pos ⟨hk, hpl⟩]
      have hne : t.text.all (fun c => c != 39) = true := by
        rw [ht, ← hs]
        exact all_span _ _
      have hsp : spanP (fun c => c != 39) (t.text ++ [39]) = n := by
        rw [spanP_app (fun c => c != 39) t.text 39 [] rfl, span_all _ _ hne, htl]
      have hta : (t.text ++ [39]).take n = t.text := by
        rw [List.take_append_of_le_length (by omega), List.take_of_length_le (by omega)]
      have hq : quotedL (39 :: (t.text ++ [39])) = .ok (t.text, n + 2) := by
        have e0 : quotedL (39 :: (t.text ++ [39])) = if spanP (fun c => c != 39) (t.text ++ [39]) = (t.text ++ [39]).length then .error 41 else if spanP (fun c => c != 39) (t.text ++ [39]) < 1 then .error 41 else if spanP (fun c => c != 39) (t.text ++ [39]) > 12 then .error 41 else if ((t.text ++ [39]).take (spanP (fun c => c != 39) (t.text ++ [39]))).all isPlain = true then .ok ((t.text ++ [39]).take (spanP (fun c => c != 39) (t.text ++ [39])), spanP (fun c => c != 39) (t.text ++ [39]) + 2) else .error 41 := rfl
        rw [e0, hsp, if_neg (by simp only [List.length_append, List.length_cons, List.length_nil]; omega), if_neg (by omega), if_neg (by omega), hta, if_pos (by rw [ht]; exact hp)]
      refine ⟨39, t.text ++ [39], ⟨1, t.text, 0, n + 2⟩, hw, ?_, by simp only [List.length_cons, List.length_append, List.length_nil]; omega, ⟨rfl, by rw [hv], .inl (by rw [hk])⟩, by decide, by simp only [List.length_cons, List.length_append, List.length_nil]; omega⟩
      have e1 : tokL (39 :: (t.text ++ [39])) = act 3 (39 :: (t.text ++ [39])) := by
        rw [tokL_rule, if_neg (by decide), if_neg (by decide), if_neg (by decide), if_pos (by decide)]
      rw [e1]
      unfold act
      have hq' : tk 3 (39 :: (t.text ++ [39])) = .ok (t.text, n + 2) := hq
      rw [hq']
      rfl
  · obtain ⟨k0, k1, k2, k3, k4, k5, k6⟩ := b3 h
    refine ⟨c, [], ⟨5, [c], 0, 1⟩, ?_, ?_, rfl, ⟨by rw [ht], by rw [hv], .inl (by rw [hk])⟩, ⟨k4, k5, k6⟩, by rw [hn]; simp⟩
    · unfold writ0
      rw [ht, hk, if_neg (by simp)]
    · rw [tokL_rule, if_neg (by rw [k0]; simp), if_neg (by rw [k1]; simp), if_neg (by rw [k2]; simp), if_neg (by rw [k3]; simp), if_pos h]
      rfl
  · subst h
    refine ⟨46, [], ⟨6, [46], 0, 1⟩, ?_, rfl, rfl, ⟨by rw [ht], by rw [hv], .inl (by rw [hk])⟩, by decide, by rw [hn]; simp⟩
    unfold writ0
    rw [ht, hk, if_neg (by simp)]
  · obtain ⟨k0, k1, k2, k3, k4, k5, k6, k7, k8⟩ := b4 h
    obtain ⟨r0, er⟩ := span_pos isSign c r h
    have ha := all_span isSign (c :: r)
    have hl := take_len isSign (c :: r)
    rw [er] at ha hl ht
    have hw : writ0 t.kind t.text = c :: r0 := by
      unfold writ0
      rw [ht, hk, if_neg (by simp)]
    by_cases hdot : (c == 46 && endsR r0) = true
    · rw [Bool.and_eq_true] at hdot
      have hc : c = 46 := by simpa using hdot.1
      have hr0 : r0 = [] := by
        cases r0 with
        | nil => rfl
        | cons d s =>
          have hds : isSign d = true := List.all_eq_true.1 ha d (by simp)
          have := ((byte_excl d).2.2.2.2 hds).2.2.2.2.2.2.2.2
          have h9 : (isBlank d || d == 37) = true := hdot.2
          rw [this] at h9
          cases h9
      subst hc
      subst hr0
      exact ⟨46, [], ⟨6, [46], 0, 1⟩, hw, rfl, rfl, ⟨by rw [ht], by rw [hv], .inr ⟨hk, ht, rfl⟩⟩, by decide, by rw [List.length_cons] at hl ⊢; omega⟩
    · refine ⟨c, r0, ⟨4, c :: r0, 0, (c :: r0).length⟩, hw, ?_, rfl, ⟨by rw [ht], by rw [hv], .inl (by rw [hk])⟩, ⟨k5, k6, k7⟩, by rw [List.length_cons] at hl ⊢; omega⟩
      rw [tokL_rule, if_neg (by rw [k0]; simp), if_neg (by rw [k1]; simp), if_neg (by rw [k2]; simp), if_neg (by rw [k3]; simp), if_neg (by rw [k4]; simp), if_neg hdot, if_pos h]
      exact act_all 6 isSign 12 _ (by decide) rfl ha (by omega)

/-- All that are written, one behind the other. -/
theorem LX_again {l : List UInt8} {a : Nat} {x : Except (Nat × Int) (List Tok)} (h : LX l a x) : ∀ ts, x = .ok ts → (writAll ts).length ≤ 2 * l.length ∧ ∀ b, ∃ us, LX (writAll ts) b (.ok us) ∧ us.length = ts.length ∧ ∀ i (h1 : i < ts.length) (h2 : i < us.length), Again ts[i] us[i] := by
  induction h with
  | done l a h =>
    intro ts e
    injection e with e
    subst e
    exact ⟨Nat.zero_le _, fun b => ⟨[], .done [] b rfl, rfl, fun i h1 _ => absurd h1 (by simp)⟩⟩
  | err => intro ts e; cases e
  | fail => intro ts e; cases e
  | ok l a c r t ts' h ht hr ih =>
    intro ts e
    injection e with e
    subst e
    obtain ⟨c', r0, t', hw, ht', hlen, hag, ⟨hb1, hb2, hb3⟩, h2⟩ := writ_tok c r t ht
    obtain ⟨il, iu⟩ := ih ts' rfl
    have hlr := congrArg List.length h
    rw [List.length_drop] at hlr
    have htl := (tok_len c r t ht).2
    rw [List.length_drop] at il
    refine ⟨?_, fun b => ?_⟩
    · show (writ0 t.kind t.text ++ 32 :: writAll ts').length ≤ _
      rw [hw, List.length_append]
      rw [List.length_cons (a := (32 : UInt8))]
      omega
    · obtain ⟨us, hu, hul, hua⟩ := iu (b + t'.len + 1)
      have hsk : LX (32 :: writAll ts') (b + t'.len) (.ok us) := LX_skip hu [32] (by
        show passL false (32 :: writAll ts') = 1 + passL false (writAll ts')
        simp only [passL]
        rw [if_neg (by decide), if_neg (by decide), if_pos (by decide)]
        omega) (b + t'.len) rfl
      have hp0 : passL false (c' :: (r0 ++ 32 :: writAll ts')) = 0 := by
        simp only [passL]
        rw [if_neg hb3, if_neg hb2, if_neg (by rw [hb1]; simp)]
      have htt := tokL_app_ok c' r0 32 (writAll ts') ends_32 t' ht'
      have hd : (c' :: (r0 ++ 32 :: writAll ts')).drop t'.len = 32 :: writAll ts' := by
        rw [hlen]
        exact List.drop_left (l₁ := c' :: r0)
      have hx : LX (c' :: (r0 ++ 32 :: writAll ts')) b (.ok (⟨t'.kind, t'.text, t'.val, ((b + passL false (c' :: (r0 ++ 32 :: writAll ts')) : Nat) : Int)⟩ :: us)) := by
        refine .ok _ b c' (r0 ++ 32 :: writAll ts') t' us (by rw [hp0]; rfl) htt ?_
        rw [hd, hp0]
        exact hsk
      refine ⟨⟨t'.kind, t'.text, t'.val, ((b + passL false (c' :: (r0 ++ 32 :: writAll ts')) : Nat) : Int)⟩ :: us, ?_, ?_, ?_⟩
      · show LX (writ0 t.kind t.text ++ 32 :: writAll ts') b _
        rw [hw]
        exact hx
      · rw [List.length_cons, List.length_cons, hul]
      · intro i h1 h2
        cases i with
        | zero => exact hag
        | succ i => exact hua i (by simpa using h1) (by simpa using h2)
end Go.Proofs.YtpdlfokfjkmplaaDoor.P
