import Derived.Test.YthdccdbiichabaaDoorLexL
import Derived.Test.YthdccdbiichabaaDoorRdS
/- Tokens of texts that are written out: a number, a name, a sign, a bracket ahead of whatever ends it. In plain Lean. No condition. -/
namespace Go.Proofs.YthdccdbiichabaaDoor.P
set_option linter.unusedVariables false
theorem tokL_if (c : UInt8) (r : List UInt8) : tokL (c :: r) = if isSmall c = true then act 0 (c :: r) else if isGreat c = true then act 1 (c :: r) else if isDigit c = true then act 2 (c :: r) else if (c == 39) = true then act 3 (c :: r) else if isPunct c = true then act 4 (c :: r) else if (c == 46 && endsR r) = true then act 5 (c :: r) else if isSign c = true then act 6 (c :: r) else .error 40 := rfl
/-- A text that a kind of bytes does not go on with. -/
def Stop (p : UInt8 → Bool) (y : List UInt8) : Prop := ∀ d z, y = d :: z → p d = false
theorem Stop.nil (p : UInt8 → Bool) : Stop p [] := fun d z h => by cases h
theorem Stop.cons {p : UInt8 → Bool} {d : UInt8} (h : p d = false) (z : List UInt8) : Stop p (d :: z) := fun d' z' h' => by injection h' with h1 h2; subst h1; exact h
theorem span_stop (p : UInt8 → Bool) (y : List UInt8) (hy : Stop p y) : ∀ l : List UInt8, l.all p = true → spanP p (l ++ y) = l.length
  | [], _ => by
    cases y with
    | nil => rfl
    | cons d z => rw [List.nil_append, spanP_cons, hy d z rfl]; rfl
  | c :: l, h => by
    rw [List.all_cons, Bool.and_eq_true] at h
    rw [List.cons_append, spanP_cons, if_pos h.1, span_stop p y hy l h.2]
    rfl
theorem row_stop (p : UInt8 → Bool) (m : Nat) (l y : List UInt8) (hl : l.all p = true) (hy : Stop p y) (hm : l.length ≤ m) : rowL p m (l ++ y) = .ok (l, l.length) := by
  unfold rowL
  rw [span_stop p y hy l hl, if_neg (by omega), List.take_left]
theorem small_facts (c : UInt8) (h : isSmall c = true) : isBlank c = false ∧ c ≠ 37 ∧ c ≠ 10 := u8_prop (fun c => isSmall c = true → isBlank c = false ∧ c ≠ 37 ∧ c ≠ 10) (by decide +kernel) c h
theorem great_facts (c : UInt8) (h : isGreat c = true) : isSmall c = false ∧ isBlank c = false ∧ c ≠ 37 ∧ c ≠ 10 := u8_prop (fun c => isGreat c = true → isSmall c = false ∧ isBlank c = false ∧ c ≠ 37 ∧ c ≠ 10) (by decide +kernel) c h
theorem digit_facts (c : UInt8) (h : isDigit c = true) : isSmall c = false ∧ isGreat c = false ∧ isBlank c = false ∧ c ≠ 37 ∧ c ≠ 10 := u8_prop (fun c => isDigit c = true → isSmall c = false ∧ isGreat c = false ∧ isBlank c = false ∧ c ≠ 37 ∧ c ≠ 10) (by decide +kernel) c h
theorem punct_facts (c : UInt8) (h : isPunct c = true) : isSmall c = false ∧ isGreat c = false ∧ isDigit c = false ∧ (c == 39) = false ∧ isBlank c = false ∧ c ≠ 37 ∧ c ≠ 10 := u8_prop (fun c => isPunct c = true → isSmall c = false ∧ isGreat c = false ∧ isDigit c = false ∧ (c == 39) = false ∧ isBlank c = false ∧ c ≠ 37 ∧ c ≠ 10) (by decide +kernel) c h
theorem sign_facts (c : UInt8) (h : isSign c = true) : isSmall c = false ∧ isGreat c = false ∧ isDigit c = false ∧ (c == 39) = false ∧ isPunct c = false ∧ isBlank c = false ∧ c ≠ 37 ∧ c ≠ 10 := u8_prop (fun c => isSign c = true → isSmall c = false ∧ isGreat c = false ∧ isDigit c = false ∧ (c == 39) = false ∧ isPunct c = false ∧ isBlank c = false ∧ c ≠ 37 ∧ c ≠ 10) (by decide +kernel) c h
theorem tok_punct (c : UInt8) (r : List UInt8) (h : isPunct c = true) : tokL (c :: r) = .ok ⟨5, [c], 0, 1⟩ := by
  obtain ⟨h1, h2, h3, h4, _⟩ := punct_facts c h
  rw [tokL_if, h1, h2, h3, h4, h]
  rfl
theorem tok_nm (c : UInt8) (l y : List UInt8) (hc : isSmall c = true) (hl : l.all isLetter = true) (hn : l.length ≤ 11) (hy : Stop isLetter y) : tokL (c :: (l ++ y)) = .ok ⟨1, c :: l, 0, l.length + 1⟩ := by
  rw [tokL_if, if_pos hc]
  have h : tk 0 (c :: (l ++ y)) = .ok (c :: l, (c :: l).length) := row_stop isLetter 12 (c :: l) y (by rw [List.all_cons, letter_small c hc, hl]; rfl) hy (by simp only [List.length_cons]; omega)
  rw [act_ok 0 _ _ _ (by decide) h]
  rfl
theorem tok_var (c : UInt8) (l y : List UInt8) (hc : isGreat c = true) (hl : l.all isLetter = true) (hn : l.length ≤ 19999) (hy : Stop isLetter y) : tokL (c :: (l ++ y)) = .ok ⟨2, c :: l, 0, l.length + 1⟩ := by
  rw [tokL_if, (great_facts c hc).1, if_neg (by decide), if_pos hc]
  have h : tk 1 (c :: (l ++ y)) = .ok (c :: l, (c :: l).length) := row_stop isLetter 20000 (c :: l) y (by rw [List.all_cons, letter_great c hc, hl]; rfl) hy (by simp only [List.length_cons]; omega)
  rw [act_ok 1 _ _ _ (by decide) h]
  rfl
theorem tok_num (c : UInt8) (l y : List UInt8) (hd : (c :: l).all isDigit = true) (hv : decVal (c :: l) ≤ 2147483647) (hn : l.length ≤ 19999) (hy : Stop isDigit y) : tokL (c :: (l ++ y)) = .ok ⟨3, c :: l, decVal (c :: l), l.length + 1⟩ := by
  have hc : isDigit c = true := by rw [List.all_cons, Bool.and_eq_true] at hd; exact hd.1
  have hf := digit_facts c hc
  rw [tokL_if, hf.1, hf.2.1, hc]
  have h : tk 2 (c :: (l ++ y)) = .ok (c :: l, (c :: l).length) := row_stop isDigit 20000 (c :: l) y hd hy (by simp only [List.length_cons]; omega)
  rw [if_neg (by decide), if_neg (by decide), if_pos rfl, act_num _ _ _ h (by omega)]
  rfl
theorem tok_sign (c : UInt8) (l y : List UInt8) (hc : c ≠ 46) (hl : (c :: l).all isSign = true) (hn : l.length ≤ 11) (hy : Stop isSign y) : tokL (c :: (l ++ y)) = .ok ⟨4, c :: l, 0, l.length + 1⟩ := by
  have hs : isSign c = true := by rw [List.all_cons, Bool.and_eq_true] at hl; exact hl.1
  obtain ⟨h1, h2, h3, h4, h5, _⟩ := sign_facts c hs
  have h6 : (c == 46 && endsR (l ++ y)) = false := by rw [beq_eq_false_iff_ne.2 hc]; rfl
  rw [tokL_if, h1, h2, h3, h4, h5, h6, hs]
  have h : tk 6 (c :: (l ++ y)) = .ok (c :: l, (c :: l).length) := row_stop isSign 12 (c :: l) y hl hy (by simp only [List.length_cons]; omega)
  simp only [Bool.false_eq_true, if_false, if_true]
  rw [act_ok 6 _ _ _ (by decide) h]
  rfl
theorem tok_end (r : List UInt8) (h : endsR r = true) : tokL (46 :: r) = .ok ⟨6, [46], 0, 1⟩ := by
  rw [tokL_if, show ((46 : UInt8) == 46 && endsR r) = true by rw [h]; rfl]
  rfl
theorem tok_quote (n y : List UInt8) (h1 : 1 ≤ n.length) (h2 : n.length ≤ 12) (hp : n.all isPlain = true) (hq : n.all (fun c => c != 39) = true) : tokL (39 :: (n ++ 39 :: y)) = .ok ⟨1, n, 0, n.length + 2⟩ := by
  have hs : spanP (fun c => c != 39) (n ++ 39 :: y) = n.length := span_stop _ _ (Stop.cons (by decide) y) n hq
  have h : tk 3 (39 :: (n ++ 39 :: y)) = .ok (n, n.length + 2) := by
    show quotedL (39 :: (n ++ 39 :: y)) = _
    unfold quotedL
    rw [List.tail_cons]
    simp only
    rw [hs, if_neg (by simp), if_neg (by omega), if_neg (by omega), List.take_left, if_pos hp]
  rw [tokL_if]
  have e := act_ok 3 _ _ _ (by decide) h
  simp only [show isSmall 39 = false from by decide, show isGreat 39 = false from by decide, show isDigit 39 = false from by decide, show ((39 : UInt8) == 39) = true from by decide, Bool.false_eq_true, if_false, if_true]
  rw [e]
  rfl
theorem pass_zero (c : UInt8) (r : List UInt8) (hb : isBlank c = false) (h37 : c ≠ 37) : passL false (c :: r) = 0 := by
  have h10 : c ≠ 10 := by rintro rfl; exact absurd hb (by decide)
  simp [passL, hb, h37, h10]
def consX (t : Tok) : Except (Nat × Int) (List Tok) → Except (Nat × Int) (List Tok)
  | .error x => .error x
  | .ok ts => .ok (t :: ts)
/-- A token, and what is behind it. -/
theorem LX_tok {c : UInt8} {r : List UInt8} {a : Nat} {t : Tk} {x : Except (Nat × Int) (List Tok)} (hb : isBlank c = false) (h37 : c ≠ 37) (ht : tokL (c :: r) = .ok t) (hr : LX ((c :: r).drop t.len) (a + t.len) x) : LX (c :: r) a (consX ⟨t.kind, t.text, t.val, (a : Int)⟩ x) := by
  have hp := pass_zero c r hb h37
  have hd : (c :: r).drop (passL false (c :: r)) = c :: r := by rw [hp]; rfl
  cases x with
  | error x =>
    refine LX.fail (c :: r) a c r t x hd ht ?_
    rw [hp]
    exact hr
  | ok ts =>
    have := LX.ok (c :: r) a c r t ts hd ht (by rw [hp]; exact hr)
    rw [hp] at this
    exact this
theorem LX_32 {y : List UInt8} {a : Nat} {x : Except (Nat × Int) (List Tok)} (h : LX y (a + 1) x) : LX (32 :: y) a x := by
  refine LX_skip h [32] ?_ a rfl
  show passL false (32 :: y) = _
  simp [passL, show isBlank 32 = true from by decide, Nat.add_comm]
theorem LX_10 {y : List UInt8} {a : Nat} {x : Except (Nat × Int) (List Tok)} (h : LX y (a + 1) x) : LX (10 :: y) a x := by
  refine LX_skip h [10] ?_ a rfl
  show passL false (10 :: y) = _
  simp [passL, Nat.add_comm]
theorem LX_nil (a : Nat) : LX [] a (.ok []) := .done [] a rfl
theorem drop_app (l y : List UInt8) (c : UInt8) : (c :: (l ++ y)).drop (l.length + 1) = y := by rw [List.drop_succ_cons, List.drop_left]
theorem LX_punct {c : UInt8} {r : List UInt8} {a : Nat} {x : Except (Nat × Int) (List Tok)} (h : isPunct c = true) (hr : LX r (a + 1) x) : LX (c :: r) a (consX ⟨5, [c], 0, (a : Int)⟩ x) :=
  LX_tok (punct_facts c h).2.2.2.2.1 (punct_facts c h).2.2.2.2.2.1 (tok_punct c r h) hr
theorem LX_num {c : UInt8} {l y : List UInt8} {a : Nat} {x : Except (Nat × Int) (List Tok)} (hd : (c :: l).all isDigit = true) (hv : decVal (c :: l) ≤ 2147483647) (hn : l.length ≤ 19999) (hy : Stop isDigit y) (hr : LX y (a + (l.length + 1)) x) : LX (c :: (l ++ y)) a (consX ⟨3, c :: l, decVal (c :: l), (a : Int)⟩ x) := by
  have hc : isDigit c = true := by rw [List.all_cons, Bool.and_eq_true] at hd; exact hd.1
  have hf := digit_facts c hc
  exact LX_tok hf.2.2.1 hf.2.2.2.1 (tok_num c l y hd hv hn hy) (by show LX ((c :: (l ++ y)).drop (l.length + 1)) _ _; rw [drop_app]; exact hr)
theorem LX_sign {c : UInt8} {l y : List UInt8} {a : Nat} {x : Except (Nat × Int) (List Tok)} (hc : c ≠ 46) (hl : (c :: l).all isSign = true) (hn : l.length ≤ 11) (hy : Stop isSign y) (hr : LX y (a + (l.length + 1)) x) : LX (c :: (l ++ y)) a (consX ⟨4, c :: l, 0, (a : Int)⟩ x) := by
  have hs : isSign c = true := by rw [List.all_cons, Bool.and_eq_true] at hl; exact hl.1
  have hf := sign_facts c hs
  exact LX_tok hf.2.2.2.2.2.1 hf.2.2.2.2.2.2.1 (tok_sign c l y hc hl hn hy) (by show LX ((c :: (l ++ y)).drop (l.length + 1)) _ _; rw [drop_app]; exact hr)
theorem LX_name {c : UInt8} {l y : List UInt8} {a : Nat} {x : Except (Nat × Int) (List Tok)} (hc : isSmall c = true) (hl : l.all isLetter = true) (hn : l.length ≤ 11) (hy : Stop isLetter y) (hr : LX y (a + (l.length + 1)) x) : LX (c :: (l ++ y)) a (consX ⟨1, c :: l, 0, (a : Int)⟩ x) := by
  have hf := small_facts c hc
  exact LX_tok hf.1 hf.2.1 (tok_nm c l y hc hl hn hy) (by show LX ((c :: (l ++ y)).drop (l.length + 1)) _ _; rw [drop_app]; exact hr)
theorem LX_var {c : UInt8} {l y : List UInt8} {a : Nat} {x : Except (Nat × Int) (List Tok)} (hc : isGreat c = true) (hl : l.all isLetter = true) (hn : l.length ≤ 19999) (hy : Stop isLetter y) (hr : LX y (a + (l.length + 1)) x) : LX (c :: (l ++ y)) a (consX ⟨2, c :: l, 0, (a : Int)⟩ x) := by
  have hf := great_facts c hc
  exact LX_tok hf.2.1 hf.2.2.1 (tok_var c l y hc hl hn hy) (by show LX ((c :: (l ++ y)).drop (l.length + 1)) _ _; rw [drop_app]; exact hr)
theorem LX_quote {n y : List UInt8} {a : Nat} {x : Except (Nat × Int) (List Tok)} (h1 : 1 ≤ n.length) (h2 : n.length ≤ 12) (hp : n.all isPlain = true) (hq : n.all (fun c => c != 39) = true) (hr : LX y (a + (n.length + 2)) x) : LX (39 :: (n ++ 39 :: y)) a (consX ⟨1, n, 0, (a : Int)⟩ x) := by
  refine LX_tok (by decide) (by decide) (tok_quote n y h1 h2 hp hq) ?_
  show LX ((39 :: (n ++ 39 :: y)).drop (n.length + 1 + 1)) _ _
  rw [List.drop_succ_cons, ← List.drop_drop, List.drop_left]
  exact hr
theorem LX_dot {y : List UInt8} {a : Nat} {x : Except (Nat × Int) (List Tok)} (h : endsR y = true) (hr : LX y (a + 1) x) : LX (46 :: y) a (consX ⟨6, [46], 0, (a : Int)⟩ x) :=
  LX_tok (by decide) (by decide) (tok_end y h) hr
end Go.Proofs.YthdccdbiichabaaDoor.P
/- What is read of tokens, something being left, is read so with more tokens behind them; so is a whole clause. In plain Lean. No condition. -/
namespace Go.Proofs.YthdccdbiichabaaDoor.P
set_option linter.unusedVariables false
def ap (m : List Tok) (s : RS) : RS := (s.1 ++ m, s.2)
theorem isT_ap {l : List Tok} (h : l ≠ []) (m : List Tok) (k : Int) (t : List UInt8) : isT (l ++ m) k t = isT l k t := by
  cases l with
  | nil => exact absurd rfl h
  | cons a l => rfl
theorem tail_ap {l : List Tok} (h : l ≠ []) (m : List Tok) : (l ++ m).tail = l.tail ++ m := by
  cases l with
  | nil => exact absurd rfl h
  | cons a l => rfl
theorem ne_of_drop {l : List Tok} {n : Nat} (h : l.drop n ≠ []) : l ≠ [] := fun e => h (by rw [e]; simp)
theorem ne_of_tail {l : List Tok} (h : l.tail ≠ []) : l ≠ [] := fun e => h (by rw [e]; rfl)
theorem Passed.ne {s s' : RS} {c len extra : Nat} (hp : Passed s c s' len extra) (h : s'.1 ≠ []) : s.1 ≠ [] := by
  obtain ⟨m, _, _, h3, _⟩ := hp
  rw [h3] at h
  exact ne_of_drop h
theorem must_ap {e e2 : Int} {t : List UInt8} {s s' : RS} (m : List Tok) (h : mustR e t s = some (.ok s')) : mustR e2 t (ap m s) = some (.ok (ap m s')) ∧ s.1 ≠ [] := by
  unfold mustR at h
  split at h
  · rename_i hc
    have hn : s.1 ≠ [] := fun e => by rw [e] at hc; cases hc
    cases h
    unfold mustR
    have e1 : isT (ap m s).1 5 t = isT s.1 5 t := isT_ap hn m _ _
    rw [e1, if_pos hc]
    refine ⟨?_, hn⟩
    simp only [ap, tail_ap hn, Res.ok]
  · cases h
theorem ap5 (m : List Tok) (e e2 : Int) (k : Nat) :
    (∀ most s x, upToR k e most s = some (.ok x) → x.2.1 ≠ [] → upToR k e2 most (ap m s) = some (.ok (x.1, ap m x.2))) ∧
    (∀ most y rank s x, climbR k e most y rank s = some (.ok x) → x.2.1 ≠ [] → climbR k e2 most y rank (ap m s) = some (.ok (x.1, ap m x.2))) ∧
    (∀ s x, beginR k e s = some (.ok x) → x.2.2.1 ≠ [] → beginR k e2 (ap m s) = some (.ok (x.1, x.2.1, ap m x.2.2))) ∧
    (∀ acc s x, rowR k e acc s = some (.ok x) → x.2.1 ≠ [] → rowR k e2 acc (ap m s) = some (.ok (x.1, ap m x.2))) ∧
    (∀ s x, listLR k e s = some (.ok x) → x.2.1 ≠ [] → listLR k e2 (ap m s) = some (.ok (x.1, ap m x.2))) := by
  induction k with
  | zero => exact ⟨fun _ _ _ h => (by cases h), fun _ _ _ _ _ h => (by cases h), fun _ _ h => (by cases h), fun _ _ _ h => (by cases h), fun _ _ h => (by cases h)⟩
  | succ k ih =>
    obtain ⟨hU, hC, hB, hR, hL⟩ := ih
    obtain ⟨pU, pC, pB, pR, pL⟩ := passed5 e k
    refine ⟨fun most s x h hn => ?_, fun most y rank s x h hn => ?_, fun s x h hn => ?_, fun acc s x h hn => ?_, fun s x h hn => ?_⟩
    · simp only [upToR] at h ⊢
      obtain ⟨b, hb, h⟩ := Res.bind_ok h
      have h1 := hC _ _ _ _ _ h hn
      have hn1 : b.2.2.1 ≠ [] := (pC _ _ _ _ _ h).ne hn
      rw [Res.bind_of (hB _ _ hb hn1)]
      exact h1
    · obtain ⟨l, ns⟩ := s
      cases l with
      | nil =>
        simp only [climbR] at h
        cases h
        exact absurd rfl hn
      | cons t r =>
        simp only [climbR] at h
        simp only [ap, climbR, List.cons_append]
        split at h
        · rename_i hk
          rw [if_pos hk]
          cases h
          rfl
        · rename_i hk
          rw [if_neg hk]
          cases ho : opR t.text with
          | none =>
            rw [ho] at h
            cases h
            rfl
          | some o =>
            rw [ho] at h
            simp only at h ⊢
            split at h
            · rename_i h1
              rw [if_pos h1]
              cases h
              rfl
            · rename_i h1
              rw [if_neg h1]
              split at h
              · cases h
              · rename_i h2
                rw [if_neg h2]
                obtain ⟨z, hz, h⟩ := Res.bind_ok h
                have h3 := hC _ _ _ _ _ h hn
                have hn1 : z.2.1 ≠ [] := (pC _ _ _ _ _ h).ne hn
                have h4 := hU _ _ _ hz hn1
                rw [show ((r ++ m, ns) : RS) = ap m (r, ns) from rfl, Res.bind_of h4]
                exact h3
    · obtain ⟨l, ns⟩ := s
      cases l with
      | nil => cases h
      | cons t r =>
        simp only [beginR] at h
        simp only [ap, beginR, List.cons_append]
        by_cases c1 : t.kind = 3
        · rw [if_pos c1] at h ⊢
          cases h
          rfl
        · rw [if_neg c1] at h ⊢
          by_cases c2 : t.kind = 2
          · rw [if_pos c2] at h ⊢
            cases h
            rfl
          · rw [if_neg c2] at h ⊢
            by_cases c3 : t.kind = 1
            · rw [if_pos c3] at h ⊢
              by_cases c4 : isT r 5 [40] = true
              · have hr : r ≠ [] := fun e => by rw [e] at c4; cases c4
                rw [if_pos c4] at h
                rw [if_pos (by rw [isT_ap hr]; exact c4), tail_ap hr]
                obtain ⟨a, ha, h⟩ := Res.bind_ok h
                obtain ⟨s', hs, h⟩ := Res.bind_ok h
                obtain ⟨g1, g2⟩ := must_ap (e2 := e2) m hs
                cases h
                rw [show ((r.tail ++ m, ns) : RS) = ap m (r.tail, ns) from rfl, Res.bind_of (hR _ _ _ ha g2), Res.bind_of g1]
                rfl
              · rw [if_neg c4] at h
                cases h
                have hr : r ≠ [] := hn
                rw [if_neg (by rw [isT_ap hr]; exact c4)]
                rfl
            · rw [if_neg c3] at h ⊢
              by_cases c4 : t.kind = 5 ∧ t.text = [40]
              · rw [if_pos c4] at h ⊢
                obtain ⟨a, ha, h⟩ := Res.bind_ok h
                obtain ⟨s', hs, h⟩ := Res.bind_ok h
                obtain ⟨g1, g2⟩ := must_ap (e2 := e2) m hs
                cases h
                rw [show ((r ++ m, ns) : RS) = ap m (r, ns) from rfl, Res.bind_of (hU _ _ _ ha g2), Res.bind_of g1]
                rfl
              · rw [if_neg c4] at h ⊢
                by_cases c5 : t.kind = 5 ∧ t.text = [91]
                · rw [if_pos c5] at h ⊢
                  obtain ⟨a, ha, h⟩ := Res.bind_ok h
                  cases h
                  rw [show ((r ++ m, ns) : RS) = ap m (r, ns) from rfl, Res.bind_of (hL _ _ ha hn)]
                  rfl
                · rw [if_neg c5] at h ⊢
                  by_cases c6 : t.kind = 4 ∧ t.text = [45]
                  · rw [if_pos c6] at h ⊢
                    cases r with
                    | nil =>
                      simp only at h
                      obtain ⟨a, ha, h⟩ := Res.bind_ok h
                      exact absurd (upTo_less ha) (by simp)
                    | cons n r' =>
                      simp only [List.cons_append] at h ⊢
                      by_cases c7 : n.kind = 3 ∧ n.at' = t.at' + 1
                      · rw [if_pos c7] at h ⊢
                        cases h
                        rfl
                      · rw [if_neg c7] at h ⊢
                        obtain ⟨a, ha, h⟩ := Res.bind_ok h
                        cases h
                        rw [show ((n :: (r' ++ m), ns) : RS) = ap m (n :: r', ns) from rfl, Res.bind_of (hU _ _ _ ha hn)]
                        rfl
                  · rw [if_neg c6] at h
                    cases h
    · simp only [rowR] at h ⊢
      obtain ⟨a, ha, h⟩ := Res.bind_ok h
      split at h
      · rename_i hc
        have hn1 : a.2.1 ≠ [] := fun e => by rw [e] at hc; cases hc
        have h1 := hR _ _ _ h hn
        rw [Res.bind_of (hU _ _ _ ha hn1)]
        simp only [ap, isT_ap hn1, tail_ap hn1] at h1 ⊢
        rw [if_pos hc]
        exact h1
      · rename_i hc
        cases h
        rw [Res.bind_of (hU _ _ _ ha hn)]
        simp only [ap, isT_ap hn]
        rw [if_neg hc]
        rfl
    · simp only [listLR] at h ⊢
      have hs1 : s.1 ≠ [] := (passed5 e (k + 1)).2.2.2.2 s x (by simp only [listLR]; exact h) |>.ne hn
      have e1 : isT (ap m s).1 5 [93] = isT s.1 5 [93] := isT_ap hs1 m _ _
      rw [e1]
      split at h
      · rename_i hc
        rw [if_pos hc]
        cases h
        simp only [ap, tail_ap hs1]
        rfl
      · rename_i hc
        rw [if_neg hc]
        obtain ⟨l, hl, h⟩ := Res.bind_ok h
        obtain ⟨t, ht, h⟩ := Res.bind_ok h
        obtain ⟨s', hs, h⟩ := Res.bind_ok h
        obtain ⟨g1, g2⟩ := must_ap (e2 := e2) m hs
        have hl1 : l.2.1 ≠ [] := by
          split at ht
          · rename_i hb
            intro e
            rw [e] at hb
            cases hb
          · cases ht
            exact g2
        have e2' : isT (ap m l.2).1 5 [124] = isT l.2.1 5 [124] := isT_ap hl1 m _ _
        have e3 : (ap m l.2).1.tail = l.2.1.tail ++ m := tail_ap hl1 m
        rw [Res.bind_of (hR _ _ _ hl hl1)]
        simp only
        rw [e2', e3]
        have ht2 : (if isT l.2.1 5 [124] = true then upToR k e2 700 (l.2.1.tail ++ m, (ap m l.2).2) else Res.ok (nilR, ap m l.2)) = some (.ok (t.1, ap m t.2)) := by
          split at ht
          · rename_i hb
            rw [if_pos hb]
            exact hU _ _ _ ht g2
          · rename_i hb
            rw [if_neg hb]
            cases ht
            rfl
        rw [Res.bind_of ht2]
        simp only
        rw [Res.bind_of g1]
        cases h
        rfl
theorem whole_ap (m : List Tok) {e : Int} (e2 : Int) {k : Nat} {a : Bool} {s : RS} {x : List Cel × RS} (h : wholeR k e a s = some (.ok x)) (hn : x.2.1 ≠ []) : wholeR k e2 a (ap m s) = some (.ok (x.1, ap m x.2)) := by
  obtain ⟨y, hy, h⟩ := Res.bind_ok h
  unfold wholeR
  split at h
  · cases h
  · rename_i h1
    split at h
    · cases h
    · rename_i h2
      cases h
      rw [Res.bind_of ((ap5 m e e2 k).1 _ _ _ hy hn)]
      simp only
      rw [if_neg h1, if_neg h2]
      rfl
theorem whole_ne0 {e : Int} {k : Nat} {a : Bool} {s : RS} {x : List Cel × RS} (h : wholeR k e a s = some (.ok x)) : s.1 ≠ [] := fun he => by
  have := whole_less h
  rw [he] at this
  simp at this
theorem body_ap (m : List Tok) {e : Int} (e2 : Int) : ∀ (k : Nat) (acc : List LitR) (s : RS) (b : List LitR × RS), bodyR k e acc s = some (.ok b) → b.2.1 ≠ [] → bodyR k e2 acc (ap m s) = some (.ok (b.1, ap m b.2)) ∧ s.1 ≠ []
  | 0, _, _, _, h, _ => by cases h
  | k + 1, acc, s, b, h, hn => by
    simp only [bodyR] at h ⊢
    split at h
    · cases h
    · rename_i h8
      obtain ⟨x, hx, h⟩ := Res.bind_ok h
      have hs2 := whole_ne0 hx
      have hs : s.1 ≠ [] := by
        intro he
        rw [he] at hs2
        exact hs2 (by split <;> simp [he])
      have hx1 : x.2.1 ≠ [] := by
        split at h
        · rename_i hc
          intro e
          rw [e] at hc
          cases hc
        · cases h
          exact hn
      have e1 : isT (ap m s).1 4 [92, 43] = isT s.1 4 [92, 43] := isT_ap hs m _ _
      have e3 : (ap m s).1.tail = s.1.tail ++ m := tail_ap hs m
      have e4 : (if isT s.1 4 [92, 43] = true then ((s.1.tail ++ m, (ap m s).2) : RS) else ap m s) = ap m (if isT s.1 4 [92, 43] = true then (s.1.tail, s.2) else s) := by split <;> rfl
      rw [if_neg h8, e1, e3, e4, Res.bind_of (whole_ap m e2 hx hx1)]
      refine ⟨?_, hs⟩
      have e5 : isT (ap m x.2).1 5 [44] = isT x.2.1 5 [44] := isT_ap hx1 m _ _
      have e6 : (ap m x.2).1.tail = x.2.1.tail ++ m := tail_ap hx1 m
      simp only
      rw [e5, e6]
      split at h
      · rename_i hc
        rw [if_pos hc]
        exact (body_ap m e2 k _ _ _ h hn).1
      · rename_i hc
        rw [if_neg hc]
        cases h
        rfl
theorem clause_ap (m : List Tok) {e : Int} (e2 : Int) {k : Nat} {l : List Tok} {c : ClR × RS} (h : clauseR k e l = some (.ok c)) : clauseR k e2 (l ++ m) = some (.ok (c.1, ap m c.2)) := by
  obtain ⟨x, hx, h⟩ := Res.bind_ok h
  obtain ⟨b, hb, h⟩ := Res.bind_ok h
  have hbn : b.2.1 ≠ [] := by
    intro he
    rw [he] at h
    cases h
  have hxn : x.2.1 ≠ [] := by
    split at hb
    · exact ne_of_tail (body_ap m e2 k _ _ _ hb hbn).2
    · cases hb
      exact hbn
  unfold clauseR
  rw [show ((l ++ m, []) : RS) = ap m (l, []) from rfl, Res.bind_of (whole_ap m e2 hx hxn)]
  have e5 : isT (ap m x.2).1 4 [58, 45] = isT x.2.1 4 [58, 45] := isT_ap hxn m _ _
  have e6 : (ap m x.2).1.tail = x.2.1.tail ++ m := tail_ap hxn m
  simp only
  rw [e5, e6]
  have hb2 : (if isT x.2.1 4 [58, 45] = true then bodyR k e2 [] (x.2.1.tail ++ m, (ap m x.2).2) else Res.ok ([], ap m x.2)) = some (.ok (b.1, ap m b.2)) := by
    split at hb
    · rename_i hc
      rw [if_pos hc]
      exact (body_ap m e2 k _ _ _ hb hbn).1
    · rename_i hc
      rw [if_neg hc]
      cases hb
      rfl
  rw [Res.bind_of hb2]
  obtain ⟨b1, lb, nb⟩ := b
  cases lb with
  | nil => exact absurd rfl hbn
  | cons t r =>
    simp only [ap, List.cons_append] at h ⊢
    split at h
    · rename_i hc
      rw [if_pos hc]
      cases h
      rfl
    · cases h
end Go.Proofs.YthdccdbiichabaaDoor.P
/- Two programs, one behind the other, a line between them: the clauses of both, or what is wrong with the second one. In plain Lean. Texts of at most 90 and 100 bytes. -/
namespace Go.Proofs.YthdccdbiichabaaDoor.P
set_option linter.unusedVariables false
/-- Tokens stand apart: each behind the other, and behind an End there is a byte more. -/
def Sp : List Tok → Prop
  | [] => True
  | [_] => True
  | t :: u :: l => t.at' + 1 ≤ u.at' ∧ (t.kind = 6 → t.at' + 2 ≤ u.at') ∧ Sp (u :: l)
theorem LX_first {l : List UInt8} {a : Nat} {x : Except (Nat × Int) (List Tok)} (h : LX l a x) : ∀ u us, x = .ok (u :: us) → u.at' = ((a + passL false l : Nat) : Int) ∧ l ≠ [] := by
  cases h with
  | done => intro u us e; injection e with e; cases e
  | err => intro u us e; cases e
  | fail => intro u us e; cases e
  | ok _ _ c r t ts h ht hr =>
    intro u us e
    injection e with e
    injection e with e1 e2
    subst e1
    refine ⟨rfl, ?_⟩
    rintro rfl
    simp at h
theorem passL_ends (d : UInt8) (r : List UInt8) (h : endsR (d :: r) = true) : 1 ≤ passL false (d :: r) := by
  have h2 : (isBlank d || d == 37) = true := h
  simp only [passL]
  by_cases h10 : d = 10
  · rw [if_pos h10]; omega
  · rw [if_neg h10]
    by_cases h37 : d = 37
    · rw [if_pos h37]; omega
    · rw [if_neg h37]
      have h3 : (false || isBlank d) = true := by
        have h4 : (d == 37) = false := by simpa using h37
        rw [h4, Bool.or_false] at h2
        rw [Bool.false_or]
        exact h2
      rw [if_pos h3]
      omega
theorem LX_sp {l : List UInt8} {a : Nat} {x : Except (Nat × Int) (List Tok)} (h : LX l a x) : ∀ ts, x = .ok ts → Sp ts := by
  induction h with
  | done => intro ts e; injection e with e; subst e; trivial
  | err => intro ts e; cases e
  | fail => intro ts e; cases e
  | ok l a c r t ts' h ht hr ih =>
    intro ts e
    injection e with e
    subst e
    have hp := tok_len c r t ht
    cases ts' with
    | nil => trivial
    | cons u us =>
      obtain ⟨h1, h2⟩ := LX_first hr u us rfl
      refine ⟨by rw [h1]; simp only; omega, fun hk => ?_, ih _ rfl⟩
      have hb := byte_facts c
      cases tok_kind c r t ht with
      | full hc he hk' ht' hv hn =>
        rw [hn, List.drop_succ_cons, List.drop_zero] at h1 h2
        cases r with
        | nil => exact absurd rfl h2
        | cons d r' =>
          have := passL_ends d r' he
          rw [h1]
          simp only
          omega
      | name h hk' _ _ _ _ => simp only at hk; omega
      | vname h hk' _ _ _ _ => simp only at hk; omega
      | num h hk' _ _ _ _ _ => simp only at hk; omega
      | quote n h hk' _ _ _ _ _ _ _ _ => simp only at hk; omega
      | punct h hk' _ _ _ => simp only at hk; omega
      | sym h he hk' _ _ _ _ => simp only at hk; omega
theorem Sp.tail {t : Tok} {l : List Tok} (h : Sp (t :: l)) : Sp l := by
  cases l with
  | nil => trivial
  | cons u l => exact h.2.2
theorem Sp.drop : ∀ (n : Nat) {l : List Tok}, Sp l → Sp (l.drop n)
  | 0, l, h => h
  | n + 1, [], h => trivial
  | n + 1, t :: l, h => Sp.drop n h.tail
theorem Sp.at : ∀ (j : Nat) {t u : Tok} {l : List Tok}, Sp (t :: l) → (t :: l)[j]? = some u → t.at' + j ≤ u.at'
  | 0, t, u, l, h, hu => by
    simp at hu
    subst hu
    simp
  | j + 1, t, u, [], h, hu => by simp at hu
  | j + 1, t, u, v :: l, h, hu => by
    rw [List.getElem?_cons_succ] at hu
    have := Sp.at j h.2.2 hu
    have := h.1
    omega
theorem sp_clause {t u v : Tok} {l r : List Tok} {j : Nat} (h : Sp (t :: l)) (hj : 1 ≤ j) (hu : (t :: l)[j]? = some u) (hk : u.kind = 6) (hv : (t :: l).drop (j + 1) = v :: r) : t.at' + 3 ≤ v.at' := by
  have h1 := Sp.at j h hu
  have h2 := Sp.drop j h
  obtain ⟨hlt, he⟩ := List.getElem?_eq_some_iff.1 hu
  rw [List.drop_eq_getElem_cons hlt, he, hv] at h2
  have := h2.2.1 hk
  omega
theorem body_drop (e : Int) : ∀ (k : Nat) (acc : List LitR) (s : RS) (b : List LitR × RS), bodyR k e acc s = some (.ok b) → ∃ m, b.2.1 = s.1.drop m
  | 0, _, _, _, h => by cases h
  | k + 1, acc, s, b, h => by
    simp only [bodyR] at h
    split at h
    · cases h
    · obtain ⟨x, hx, h⟩ := Res.bind_ok h
      obtain ⟨m, hm⟩ := whole_pass hx
      obtain ⟨m0, hm0⟩ : ∃ m0, (if isT s.1 4 [92, 43] = true then (s.1.tail, s.2) else s).1 = s.1.drop m0 := by
        split
        · exact ⟨1, by simp⟩
        · exact ⟨0, rfl⟩
      rw [hm0, List.drop_drop] at hm
      split at h
      · obtain ⟨m2, hm2⟩ := body_drop e k _ _ _ h
        refine ⟨m0 + m + 1 + m2, ?_⟩
        rw [hm2, ← List.drop_drop, ← List.drop_drop (i := 1), ← hm, List.drop_one]
      · cases h
        exact ⟨m0 + m, hm⟩
theorem clause_at {k : Nat} {e : Int} {l : List Tok} {c : ClR × RS} (h : clauseR k e l = some (.ok c)) : ∃ j u, 1 ≤ j ∧ l[j]? = some u ∧ u.kind = 6 ∧ c.2.1 = l.drop (j + 1) := by
  obtain ⟨x, hx, h⟩ := Res.bind_ok h
  obtain ⟨m, hm⟩ := whole_pass hx
  have hl := whole_less hx
  simp only at hm hl
  have hm1 : 1 ≤ m := by
    rw [hm, List.length_drop] at hl
    omega
  obtain ⟨b, hb, h⟩ := Res.bind_ok h
  obtain ⟨m2, h2, hb2⟩ : ∃ m2, 1 ≤ m2 ∧ b.2.1 = l.drop m2 := by
    split at hb
    · obtain ⟨m3, h3⟩ := body_drop e k _ _ _ hb
      refine ⟨m + 1 + m3, by omega, ?_⟩
      rw [h3, ← List.drop_drop, ← List.drop_drop (i := 1), ← hm, List.drop_one]
    · cases hb
      exact ⟨m, hm1, hm⟩
  split at h
  · cases h
  · rename_i t r he
    rw [hb2] at he
    split at h
    · rename_i hk
      cases h
      refine ⟨m2, t, h2, ?_, hk, ?_⟩
      · rw [← List.head?_drop, he]; rfl
      · rw [← List.drop_drop, he]; rfl
    · cases h
/-- The clauses that are there play no part, if they are few. -/
theorem clauses_pre (e base : Int) (pre : List ClR) (hp : pre.length ≤ 30) : ∀ (k : Nat) (acc : List ClR) (l : List Tok), Sp l → (∀ t r, l = t :: r → base + 3 * (acc.length : Int) ≤ t.at') → (∀ t ∈ l, t.at' < base + 100) →
    clausesR k e (pre ++ acc) l = (clausesR k e acc l).sh 0 (pre ++ ·)
  | 0, _, _, _, _, _ => rfl
  | k + 1, acc, [], _, _, _ => rfl
  | k + 1, acc, t :: r, hs, hh, ha => by
    have h1 := hh t r rfl
    have h2 := ha t (by simp)
    simp only [clausesR]
    rw [if_neg (by rw [List.length_append]; omega), if_neg (by omega)]
    match hc : clauseR k e (t :: r) with
    | none => rfl
    | some (.error x) => simp [Res.bind, Res.sh]
    | some (.ok c) =>
      obtain ⟨j, u, hj, hu, hk, hd⟩ := clause_at hc
      show clausesR k e (pre ++ acc ++ [c.1]) c.2.1 = (clausesR k e (acc ++ [c.1]) c.2.1).sh 0 (pre ++ ·)
      rw [List.append_assoc]
      refine clauses_pre e base pre hp k (acc ++ [c.1]) c.2.1 (by rw [hd]; exact Sp.drop _ hs) (fun v q hv => ?_) (fun x hx => ha x (by rw [hd] at hx; exact List.mem_of_mem_drop hx))
      rw [hd] at hv
      have := sp_clause hs hj hu hk hv
      rw [List.length_append, List.length_singleton]
      omega
/-- So many clauses are in a text at most. -/
theorem clauses_count (e : Int) (L : Nat) : ∀ (k : Nat) (acc : List ClR) (l : List Tok) (a : List ClR), clausesR k e acc l = some (.ok a) → Sp l → (∀ t r, l = t :: r → 3 * (acc.length : Int) ≤ t.at') → (∀ t ∈ l, t.at' < L) → 3 * acc.length ≤ L + 1 → 3 * a.length ≤ L + 1
  | 0, _, _, _, h, _, _, _, _ => by cases h
  | k + 1, acc, [], a, h, _, _, _, hl => by
    cases h
    exact hl
  | k + 1, acc, t :: r, a, h, hs, hh, ha, hl => by
    simp only [clausesR] at h
    split at h
    · cases h
    · obtain ⟨c, hc, h⟩ := Res.bind_ok h
      obtain ⟨j, u, hj, hu, hk, hd⟩ := clause_at hc
      have h1 := hh t r rfl
      have h2 := Sp.at j hs hu
      have h3 := ha u (List.mem_of_getElem? hu)
      refine clauses_count e L k _ _ a h (by rw [hd]; exact Sp.drop _ hs) (fun v q hv => ?_) (fun x hx => ha x (by rw [hd] at hx; exact List.mem_of_mem_drop hx)) (by rw [List.length_append, List.length_singleton]; omega)
      rw [hd] at hv
      have := sp_clause hs hj hu hk hv
      rw [List.length_append, List.length_singleton]
      omega
/-- The clauses ahead are read; what is behind is read behind them. -/
theorem clauses_front (e e2 : Int) (m : List Tok) (j : Nat) : ∀ (k : Nat) (acc : List ClR) (l : List Tok) (a : List ClR) (q : Except (Int × Int) (List ClR)), clausesR k e acc l = some (.ok a) → clausesR j e2 a m = some q → clausesR (k + j) e2 acc (l ++ m) = some q
  | 0, _, _, _, _, h, _ => by cases h
  | k + 1, acc, [], a, q, h, hq => by
    cases h
    exact clauses_more j (k + 1 + j) (by omega) _ _ _ q hq
  | k + 1, acc, t :: r, a, q, h, hq => by
    rw [show k + 1 + j = k + j + 1 by omega]
    simp only [clausesR, List.cons_append] at h ⊢
    split at h
    · cases h
    · rename_i h64
      obtain ⟨c, hc, h⟩ := Res.bind_ok h
      have h2 := clause_ap m e2 hc
      have h3 := clause_more (k := k) (k' := k + j) (by omega) e2 _ _ h2
      rw [List.cons_append] at h3
      rw [if_neg h64, Res.bind_of h3]
      exact clauses_front e e2 m j k _ _ a q h hq
def joinR (a : List ClR) (d : Int) : Except (Int × Int) (List ClR) → Except (Int × Int) (List ClR)
  | .ok b => .ok (a ++ b)
  | .error x => .error (x.1 + d, x.2)
theorem program_join (s t : List UInt8) (hs : s.length ≤ 90) (ht : t.length ≤ 100) (a : List ClR) (q : Except (Int × Int) (List ClR)) (ha : programR 100000 s = some (.ok a)) (hq : programR 100000 t = some q) :
    programR 100000 (s ++ 10 :: t) = some (joinR a ((s.length + 1 : Nat) : Int) q) := by
  have hlen : (s ++ 10 :: t).length ≤ 20000 := by simp; omega
  have key : ∀ p, programR 200000 (s ++ 10 :: t) = some p → programR 100000 (s ++ 10 :: t) = some p := by
    intro p hp
    match h : programR 100000 (s ++ 10 :: t) with
    | none => exact absurd h (program_ne _ _ (by omega))
    | some p' =>
      have := program_more (k := 100000) (k' := 200000) (by omega) (s ++ 10 :: t) _ h
      rw [hp] at this
      exact this.symm
  refine key _ ?_
  clear key
  rcases lexAll_cases s (by omega) with ⟨ts, hx, he⟩ | ⟨p, e, hx, he, hc⟩
  · have hts := LX_bounds hx ts rfl
    unfold programR at ha
    rw [he, if_neg (by simp)] at ha
    simp only at ha
    have hcnt := clauses_count _ s.length _ _ _ _ ha (LX_sp hx ts rfl) (fun u r hu => by have := hts.2 u (by rw [hu]; simp); simp; omega) (fun u hu => by have := hts.2 u hu; omega) (by simp)
    rcases lexAll_cases t (by omega) with ⟨us, hy, hf⟩ | ⟨p, e, hy, hf, hd⟩
    · have hus := LX_bounds hy us rfl
      have hj : lexAll (s ++ 10 :: t) = (ts ++ us.map (shT ((s.length + 1 : Nat) : Int)), 0, 0) := lexAll_of hlen (LX_lines hx hy)
      unfold programR at hq ⊢
      rw [hf, if_neg (by simp)] at hq
      rw [hj, if_neg (by simp)]
      simp only at hq ⊢
      have e1 : (((s ++ 10 :: t).length : Nat) : Int) = (t.length : Int) + ((s.length + 1 : Nat) : Int) := by simp; omega
      rw [e1]
      have h2 := clauses_sh ((s.length + 1 : Nat) : Int) t.length 100000 a us
      have h3 := clauses_pre t.length 0 a (by omega) 100000 [] us (LX_sp hy us rfl) (fun u r hu => by have := hus.2 u (by rw [hu]; simp); simp; omega) (fun u hu => by have := hus.2 u hu; omega)
      rw [List.append_nil, hq] at h3
      rw [h3] at h2
      have h4 : clausesR 100000 ((t.length : Int) + ((s.length + 1 : Nat) : Int)) a (us.map (shT ((s.length + 1 : Nat) : Int))) = some (joinR a ((s.length + 1 : Nat) : Int) q) := by
        rw [h2]
        cases q with
        | ok b => rfl
        | error x => simp [Res.sh, joinR]
      exact clauses_front _ _ _ 100000 100000 [] ts a _ ha h4
    · have hj : lexAll (s ++ 10 :: t) = ([], ((p + (s.length + 1) : Nat) : Int), e) := lexAll_of hlen (LX_lines hx hy)
      unfold programR at hq ⊢
      rw [hf, if_pos (by simp only; omega)] at hq
      rw [hj, if_pos (by simp only; omega)]
      cases hq
      simp only [joinR, Res.err]
      rw [show ((p + (s.length + 1) : Nat) : Int) = (p : Int) + ((s.length + 1 : Nat) : Int) by omega]
  · unfold programR at ha
    rw [he, if_pos (by simp only; omega)] at ha
    cases ha
end Go.Proofs.YthdccdbiichabaaDoor.P
/- Variables of what is read are numbered as they come. In plain Lean. No condition. -/
namespace Go.Proofs.YthdccdbiichabaaDoor.P
set_option linter.unusedVariables false
/-- How many variables there are behind cells, so many being there ahead, if they are numbered as they come. -/
def numF : Nat → List Cel → Option Nat
  | m, [] => some m
  | m, c :: l => if c.kind = 1 then (if 0 ≤ c.n ∧ c.n < m then numF m l else if c.n = m then numF (m + 1) l else none) else numF m l
theorem numF_app (y : List Cel) : ∀ (x : List Cel) (m : Nat), numF m (x ++ y) = (numF m x).bind (fun m => numF m y)
  | [], m => rfl
  | c :: x, m => by
    simp only [List.cons_append, numF]
    split
    · split
      · exact numF_app y x m
      · split
        · exact numF_app y x (m + 1)
        · rfl
    · exact numF_app y x m
theorem numF_fun (n : List UInt8) (k : Int) (m : Nat) (l : List Cel) : numF m (⟨3, n, k⟩ :: l) = numF m l := by
  simp only [numF]
  rw [if_neg (by decide)]
theorem numF_funR (n : List UInt8) (m : Nat) (l : List (List Cel)) : numF m (funR n l) = numF m l.flatten := numF_fun _ _ _ _
theorem numF_listR (t : List Cel) : ∀ (l : List (List Cel)) (m : Nat), numF m (listR l t) = (numF m l.flatten).bind (fun m => numF m t)
  | [], m => rfl
  | x :: l, m => by
    have e : listR (x :: l) t = ⟨3, [46], 2⟩ :: (x ++ listR l t) := by simp [listR]
    rw [e, numF_fun, numF_app, List.flatten_cons, numF_app]
    cases numF m x with
    | none => rfl
    | some m' => exact numF_listR t l m'
theorem numF_var (ns : List (List UInt8)) (t : List UInt8) : numF ns.length [⟨1, [], (varR ns t).1⟩] = some (varR ns t).2.length := by
  simp only [numF]
  rw [if_pos trivial]
  unfold varR
  split
  · rename_i h
    have := List.idxOf_lt_length_iff.2 h.2
    simp only
    rw [if_pos ⟨by omega, by omega⟩]
  · simp only
    rw [if_neg (by omega), if_pos trivial, List.length_append, List.length_singleton]
theorem num5 (e : Int) (k : Nat) :
    (∀ most s r, upToR k e most s = some (.ok r) → numF s.2.length r.1 = some r.2.2.length) ∧ (∀ most x rank s r, climbR k e most x rank s = some (.ok r) → ∀ m, numF m x = some s.2.length → numF m r.1 = some r.2.2.length) ∧
    (∀ s r, beginR k e s = some (.ok r) → numF s.2.length r.1 = some r.2.2.2.length) ∧ (∀ acc s r, rowR k e acc s = some (.ok r) → ∀ m, numF m acc.flatten = some s.2.length → numF m r.1.flatten = some r.2.2.length) ∧ (∀ s r, listLR k e s = some (.ok r) → numF s.2.length r.1 = some r.2.2.length) := by
  refine rd_ind (e := e) (PU := fun _ s r => numF s.2.length r.1 = some r.2.2.length) (PC := fun _ x _ s r => ∀ m, numF m x = some s.2.length → numF m r.1 = some r.2.2.length)
    (PB := fun s r => numF s.2.length r.1 = some r.2.2.2.length) (PR := fun acc s r => ∀ m, numF m acc.flatten = some s.2.length → numF m r.1.flatten = some r.2.2.length) (PL := fun s r => numF s.2.length r.1 = some r.2.2.length)
    ?_ ?_ ?_ ?_ ?_ ?_ ?_ ?_ ?_ ?_ ?_ ?_ ?_ ?_ ?_ ?_ k
  · exact fun most s b r hb hc => hc _ hb
  · exact fun most x rank s m h => h
  · intro most x rank t r ns o y q _ _ _ _ hy hq m hm
    refine hq m ?_
    rw [numF_funR, show [x, y.1].flatten = x ++ y.1 by simp, numF_app, hm]
    exact hy
  · exact fun t r ns _ => by simp [numF]
  · exact fun t r ns _ => numF_var _ _
  · intro t p r ns l q r' _ _ _ hl _ _ _
    rw [numF_funR]
    exact hl ns.length rfl
  · exact fun t r ns _ => by rw [numF_funR]; rfl
  · exact fun t r ns x q r' _ _ hx _ _ _ => hx
  · exact fun t r ns x _ _ hx => hx
  · exact fun t n r ns _ _ _ _ => by simp [numF]
  · intro t r ns x _ _ hx
    rw [numF_funR, show [x.1].flatten = x.1 by simp]
    exact hx
  · intro acc s x hx m hm
    rw [List.flatten_append, numF_app, hm, show [x.1].flatten = x.1 by simp]
    exact hx
  · intro acc s x q r l hx _ _ _ hl m hm
    refine hl m ?_
    rw [List.flatten_append, numF_app, hm, show [x.1].flatten = x.1 by simp]
    exact hx
  · exact fun q r ns _ _ => rfl
  · intro s l q r hl _ _ _
    rw [numF_listR, hl _ rfl]
    rfl
  · intro s l p r x q r' hl _ _ _ hx _ _ _
    rw [numF_listR, hl _ rfl]
    exact hx
theorem whole_num {k : Nat} {e : Int} {a : Bool} {s : RS} {x : List Cel × RS} (h : wholeR k e a s = some (.ok x)) : numF s.2.length x.1 = some x.2.2.length := by
  obtain ⟨y, hy, h⟩ := Res.bind_ok h
  have h1 := (num5 e k).1 _ _ _ hy
  split at h
  · cases h
  · split at h
    · cases h
    · cases h
      exact h1
theorem clause_num {k : Nat} {e : Int} {l : List Tok} {c : ClR × RS} (h : clauseR k e l = some (.ok c)) : ∃ n, numF 0 c.1.1 = some n := by
  obtain ⟨x, hx, h⟩ := Res.bind_ok h
  have h1 := whole_num hx
  obtain ⟨b, hb, h⟩ := Res.bind_ok h
  split at h
  · cases h
  · split at h
    · cases h
      exact ⟨_, h1⟩
    · cases h
theorem clauses_num (e : Int) : ∀ (k : Nat) (acc : List ClR) (l : List Tok) (r : List ClR), clausesR k e acc l = some (.ok r) → (∀ c ∈ acc, ∃ n, numF 0 c.1 = some n) → ∀ c ∈ r, ∃ n, numF 0 c.1 = some n
  | 0, _, _, _, h, _ => by cases h
  | k + 1, acc, [], r, h, ha => by
    cases h
    exact ha
  | k + 1, acc, t :: l, r, h, ha => by
    simp only [clausesR] at h
    split at h
    · cases h
    · obtain ⟨c, hc, h⟩ := Res.bind_ok h
      refine clauses_num e k _ _ _ h (fun y hy => ?_)
      rcases List.mem_append.1 hy with hy | hy
      · exact ha y hy
      · rw [List.mem_singleton] at hy
        subst hy
        exact clause_num hc
theorem program_num {k : Nat} {s : List UInt8} {r : List ClR} (h : programR k s = some (.ok r)) : ∀ c ∈ r, ∃ n, numF 0 c.1 = some n := by
  unfold programR at h
  split at h
  · cases h
  · exact clauses_num _ k [] _ r h (by simp)
theorem term_num {k : Nat} {s : List UInt8} {x : List Cel × List (List UInt8)} (h : termR k s = some (.ok x)) : numF 0 x.1 = some x.2.length := by
  unfold termR at h
  split at h
  · cases h
  · obtain ⟨y, hy, h⟩ := Res.bind_ok h
    have hr := whole_num hy
    split at h
    · cases h
      exact hr
    · cases h
end Go.Proofs.YthdccdbiichabaaDoor.P
