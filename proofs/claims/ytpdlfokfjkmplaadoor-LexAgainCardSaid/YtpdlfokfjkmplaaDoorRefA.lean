/- The document's answer to layer 4 (sorrelref04), as the translation tells it, is the plain functions on lists of bytes. No program in sight. No condition but lengths. -/
import Derived.Test.YtpdlfokfjkmplaaDoorPreLex
import Derived.Test.YtpdlfokfjkmplaaDoorPx6
import Derived.Test.YtpdlfokfjkmplaaDoorPx7
import Derived.Test.YtpdlfokfjkmplaaDoorLexC
import Derived.Test.YtpdlfokfjkmplaaDoorPx8
namespace Go.Proofs.YtpdlfokfjkmplaaDoor.P
open Go.RowKit Go.Proofs.YtpdlfokfjkmplaaDoorW.PrintWords
set_option linter.unusedVariables false

theorem rSmall (c : UInt8) : sorrelref04_Small.f (c.toNat : Int) = some (isSmall c) := by
  have := u8_all (fun c => sorrelref04_Small.f (c.toNat : Int) == some (isSmall c)) (by decide +kernel) c
  simpa using this
theorem rGreat (c : UInt8) : sorrelref04_Great.f (c.toNat : Int) = some (isGreat c) := by
  have := u8_all (fun c => sorrelref04_Great.f (c.toNat : Int) == some (isGreat c)) (by decide +kernel) c
  simpa using this
theorem rDigit (c : UInt8) : sorrelref04_Digit.f (c.toNat : Int) = some (isDigit c) := by
  have := u8_all (fun c => sorrelref04_Digit.f (c.toNat : Int) == some (isDigit c)) (by decide +kernel) c
  simpa using this
theorem rLetter (c : UInt8) : sorrelref04_Letter.f (c.toNat : Int) = some (isLetter c) := by
  have := u8_all (fun c => sorrelref04_Letter.f (c.toNat : Int) == some (isLetter c)) (by decide +kernel) c
  simpa using this
theorem rBlank (c : UInt8) : sorrelref04_Blank.f (c.toNat : Int) = some (isBlank c) := by
  have := u8_all (fun c => sorrelref04_Blank.f (c.toNat : Int) == some (isBlank c)) (by decide +kernel) c
  simpa using this
theorem rSign (c : UInt8) (k : Nat) (hk : 20 ≤ k) : sorrelref04_Sign.f k (c.toNat : Int) = some (isSign c) := by
  have := u8_all (fun c => sorrelref04_Sign.f 20 (c.toNat : Int) == some (isSign c)) (by decide +kernel) c
  exact at_rounds (g := fun k => sorrelref04_Sign.f k (c.toNat : Int)) (fun k => sorrelref04_Sign.mono _ k) hk (by simpa using this)
theorem rPunct (c : UInt8) (k : Nat) (hk : 20 ≤ k) : sorrelref04_in.f k (⟨#[40, 41, 91, 93, 44, 124]⟩ : ByteArray) (c.toNat : Int) = some (isPunct c) := by
  have := u8_all (fun c => sorrelref04_in.f 20 (⟨#[40, 41, 91, 93, 44, 124]⟩ : ByteArray) (c.toNat : Int) == some (isPunct c)) (by decide +kernel) c
  exact at_rounds (g := fun k => sorrelref04_in.f k (⟨#[40, 41, 91, 93, 44, 124]⟩ : ByteArray) (c.toNat : Int)) (fun k => sorrelref04_in.mono _ _ k) hk (by simpa using this)

theorem u8_lit (c : UInt8) (n : Nat) (d : UInt8) (hd : d.toNat = n) : ((c.toNat : Int) = (n : Int)) ↔ c = d := by
  rw [u8_eq, hd]
  omega

/-! ### pass -/
theorem rpass_l0 (s : ByteArray) (hs : s.size ≤ 1000000) (d : Nat) : ∀ (n k : Nat) (b : Bool), s.size - n = d → n ≤ s.size → d < k →
    sorrelref04_pass.l0 k s n b = some ((n + passL b (s.data.toList.drop n) : Nat) : Int) := by
  induction d with
  | zero =>
    intro n k b hd hn hk
    obtain ⟨k, rfl⟩ : ∃ m, k = m + 1 := ⟨k - 1, by omega⟩
    have hl : s.data.toList.drop n = [] := List.drop_eq_nil_of_le (by rw [bl_size]; omega)
    simp only [sorrelref04_pass.l0]
    rw [if_neg (by omega), hl]
    cases b <;> simp [passL]
  | succ d ih =>
    intro n k b hd hn hk
    obtain ⟨k, rfl⟩ : ∃ m, k = m + 1 := ⟨k - 1, by omega⟩
    have hdr := List.drop_eq_getElem_cons (show n < s.data.toList.length by rw [bl_size]; omega)
    generalize s.data.toList[n]'(by rw [bl_size]; omega) = c at hdr
    simp only [sorrelref04_pass.l0]
    rw [if_pos (by omega), if_pos (by omega), bt_drop s n c _ hdr, hdr]
    have e1 : wrap64 ((n : Int) + 1) = ((n + 1 : Nat) : Int) := by rw [wrapN (by omega) (by omega)]; omega
    rw [e1]
    have i1 := fun b => ih (n + 1) k b (by omega) (by omega) (by omega)
    by_cases h10 : c = 10
    · have h10' : ((c.toNat : Int) = 10) := (u8_lit c 10 10 rfl).2 h10
      rw [if_pos h10', i1]
      subst h10
      cases b <;> (simp only [passL, if_true]; congr 1; omega)
    · have h10' : ¬ ((c.toNat : Int) = 10) := fun h => h10 ((u8_lit c 10 10 rfl).1 h)
      rw [if_neg h10']
      by_cases h37 : c = 37
      · have h37' : ((c.toNat : Int) = 37) := (u8_lit c 37 37 rfl).2 h37
        rw [if_pos h37', i1]
        subst h37
        have e37 : ((37 : UInt8) = 10) = False := by simp
        cases b <;> (simp only [passL, e37, if_true, if_false]; congr 1; omega)
      · have h37' : ¬ ((c.toNat : Int) = 37) := fun h => h37 ((u8_lit c 37 37 rfl).1 h)
        rw [if_neg h37']
        cases b with
        | true =>
          rw [if_pos rfl, i1]
          simp only [passL, h10, h37, if_false, Bool.true_or, if_true]
          congr 1; omega
        | false =>
          rw [if_neg (by decide), rBlank, Option.bind_some]
          cases hb : isBlank c with
          | true =>
            rw [if_pos rfl, i1]
            simp only [passL, h10, h37, if_false, hb, Bool.or_true, if_true]
            congr 1; omega
          | false =>
            rw [if_neg (by decide)]
            simp [passL, h10, h37, hb]
theorem rpass (s : ByteArray) (hs : s.size ≤ 1000000) (n k : Nat) (hn : n ≤ s.size) (hk : s.size < k) :
    sorrelref04_pass.f k s n = some ((n + passL false (s.data.toList.drop n) : Nat) : Int) := by
  unfold sorrelref04_pass.f
  exact rpass_l0 s hs (s.size - n) n k false rfl hn (by omega)

/-! ### row -/
theorem rrow_l0 (s : ByteArray) (hs : s.size ≤ 1000000) (kind : Int) (p : UInt8 → Bool) (hp : (kind = 1 ∧ p = isLetter) ∨ (kind = 2 ∧ p = isDigit) ∨ (kind = 3 ∧ p = isSign)) (d : Nat) : ∀ (n k : Nat), s.size - n = d → n ≤ s.size → d + 20 < k →
    sorrelref04_row.l0 k s n kind = some ((n + spanP p (s.data.toList.drop n) : Nat) : Int) := by
  induction d with
  | zero =>
    intro n k hd hn hk
    obtain ⟨k, rfl⟩ : ∃ m, k = m + 1 := ⟨k - 1, by omega⟩
    have hl : s.data.toList.drop n = [] := List.drop_eq_nil_of_le (by rw [bl_size]; omega)
    simp only [sorrelref04_row.l0]
    rw [if_neg (by omega), hl]
    simp [spanP]
  | succ d ih =>
    intro n k hd hn hk
    obtain ⟨k, rfl⟩ : ∃ m, k = m + 1 := ⟨k - 1, by omega⟩
    have hdr := List.drop_eq_getElem_cons (show n < s.data.toList.length by rw [bl_size]; omega)
    generalize s.data.toList[n]'(by rw [bl_size]; omega) = c at hdr
    simp only [sorrelref04_row.l0]
    rw [if_pos (by omega), if_pos (by omega), bt_drop s n c _ hdr, hdr, spanP_cons]
    have e1 : wrap64 ((n : Int) + 1) = ((n + 1 : Nat) : Int) := by rw [wrapN (by omega) (by omega)]; omega
    have i1 := ih (n + 1) k (by omega) (by omega) (by omega)
    rw [e1, rLetter, rDigit, rSign c k (by omega)]
    rcases hp with ⟨rfl, rfl⟩ | ⟨rfl, rfl⟩ | ⟨rfl, rfl⟩
    · cases hc : isLetter c with
      | true =>
        simp only [Option.bind_some, if_true, Int.reduceEq, if_false]
        rw [i1]
        congr 1
        omega
      | false =>
        simp only [Option.bind_some, if_true, Int.reduceEq, if_false, Bool.false_eq_true]
        congr 1
    · cases hc : isDigit c with
      | true =>
        simp only [Option.bind_some, if_true, Int.reduceEq, if_false]
        rw [i1]
        congr 1
        omega
      | false =>
        simp only [Option.bind_some, if_true, Int.reduceEq, if_false, Bool.false_eq_true]
        congr 1
    · cases hc : isSign c with
      | true =>
        simp only [Option.bind_some, if_true, Int.reduceEq, if_false]
        rw [i1]
        congr 1
        omega
      | false =>
        simp only [Option.bind_some, if_true, Int.reduceEq, if_false, Bool.false_eq_true]
        congr 1
theorem rrow (s : ByteArray) (hs : s.size ≤ 1000000) (kind : Int) (p : UInt8 → Bool) (hp : (kind = 1 ∧ p = isLetter) ∨ (kind = 2 ∧ p = isDigit) ∨ (kind = 3 ∧ p = isSign)) (n k : Nat) (hn : n ≤ s.size) (hk : s.size + 20 < k) :
    sorrelref04_row.f k s n kind = some ((n + spanP p (s.data.toList.drop n) : Nat) : Int) := by
  unfold sorrelref04_row.f
  exact rrow_l0 s hs kind p hp (s.size - n) n k rfl hn (by omega)

/-! ### what a token is told as -/
def tokOut (at' : Nat) (x : Except Int Tk) : Int × ByteArray × Int × Int × Int × Int :=
  match x with
  | .error e => (0, ⟨#[]⟩, 0, 0, at', e)
  | .ok t => (t.kind, ⟨t.text.toArray⟩, t.val, at', at' + t.len, 0)

theorem cut_take (s : ByteArray) (a n : Nat) : s.extract a (a + n) = ⟨((s.data.toList.drop a).take n).toArray⟩ := by
  apply ba_eq
  rw [Lib.extract_data]
  congr 1
  omega

theorem rshort (s : ByteArray) (hs : s.size ≤ 1000000) (a n : Nat) (kind : Int) (h : a + n ≤ s.size) :
    sorrelref04_short.f s a ((a + n : Nat) : Int) kind = some (tokOut a (if n > 12 then .error 2 else .ok ⟨kind, (s.data.toList.drop a).take n, 0, n⟩)) := by
  unfold sorrelref04_short.f
  have e1 : wrap64 (((a + n : Nat) : Int) - (a : Int)) = (n : Int) := by rw [wrapN (by omega) (by omega)]; omega
  rw [e1]
  by_cases h12 : n > 12
  · rw [if_pos (by omega), if_pos h12]
    rfl
  · rw [if_neg (by omega), if_neg h12, if_pos (by omega), if_pos (by omega), if_pos (by omega)]
    have e2 : (((a + n : Nat) : Int)).toNat = a + n := by omega
    rw [e2, Int.toNat_natCast, cut_take]
    simp only [tokOut]
    congr 6
end Go.Proofs.YtpdlfokfjkmplaaDoor.P

namespace Go.Proofs.YtpdlfokfjkmplaaDoor.P
open Go.RowKit Go.Proofs.YtpdlfokfjkmplaaDoorW.PrintWords
set_option linter.unusedVariables false

theorem spanP_take_all (p : UInt8 → Bool) (l : List UInt8) : (l.take (spanP p l)).all p = true := by
  induction l with
  | nil => rfl
  | cons c l ih =>
    rw [spanP_cons]
    by_cases hc : p c = true
    · rw [if_pos hc, List.take_succ_cons, List.all_cons, hc, ih]
      rfl
    · rw [if_neg hc]
      rfl

theorem rnumber_l0 (s : ByteArray) (hs : s.size ≤ 1000000) (a n : Nat) (h : a + n ≤ s.size) (hd : ((s.data.toList.drop a).take n).all isDigit = true) (d : Nat) : ∀ (j k acc : Nat), j + d = n → d < k → acc ≤ 2147483647 → decFrom acc (((s.data.toList.drop a).take n).drop j) = decFrom 0 ((s.data.toList.drop a).take n) →
    sorrelref04_number.l0 k s a ((a + n : Nat) : Int) acc ((a + j : Nat) : Int) = some (tokOut a (if decVal ((s.data.toList.drop a).take n) > 2147483647 then .error 2 else .ok ⟨3, (s.data.toList.drop a).take n, decVal ((s.data.toList.drop a).take n), n⟩)) := by
  have hdv : decVal ((s.data.toList.drop a).take n) = decFrom 0 ((s.data.toList.drop a).take n) := rfl
  have hlt : ((s.data.toList.drop a).take n).length = n := by rw [List.length_take, List.length_drop, bl_size]; omega
  have hct := cut_take s a n
  generalize ht : (s.data.toList.drop a).take n = t at *
  induction d with
  | zero =>
    intro j k acc hj hk hacc hdec
    obtain ⟨k, rfl⟩ : ∃ m, k = m + 1 := ⟨k - 1, by omega⟩
    have hnil : t.drop j = [] := List.drop_eq_nil_of_le (by omega)
    rw [hnil] at hdec
    have hacc2 : acc = decVal t := by rw [hdv, ← hdec]; rfl
    simp only [sorrelref04_number.l0]
    rw [if_neg (by omega), if_pos (by omega), if_pos (by omega), if_pos (by omega), if_neg (by omega)]
    have e2 : (((a + n : Nat) : Int)).toNat = a + n := by omega
    rw [e2, Int.toNat_natCast, hct, hacc2]
    simp only [tokOut]
    congr 6
  | succ d ih =>
    intro j k acc hj hk hacc hdec
    obtain ⟨k, rfl⟩ : ∃ m, k = m + 1 := ⟨k - 1, by omega⟩
    have hjl : j < t.length := by omega
    have hdr := List.drop_eq_getElem_cons hjl
    have hget : s.data.toList.drop (a + j) = t[j] :: s.data.toList.drop (a + j + 1) := by
      have h1 := List.drop_eq_getElem_cons (show a + j < s.data.toList.length by rw [bl_size]; omega)
      rw [h1]
      congr 1
      have : t[j]? = s.data.toList[a + j]? := by
        rw [← ht, List.getElem?_take, if_pos (by omega), List.getElem?_drop]
      rw [List.getElem?_eq_getElem hjl, List.getElem?_eq_getElem (show a + j < s.data.toList.length by rw [bl_size]; omega)] at this
      exact (Option.some.inj this).symm
    have hdc : isDigit t[j] = true := List.all_eq_true.1 hd _ (List.getElem_mem hjl)
    generalize t[j] = c at *
    have hc := (digit_nat c).1 hdc
    simp only [sorrelref04_number.l0]
    rw [if_pos (by omega), if_pos (by omega), if_pos (by omega), bt_drop s (a + j) c _ hget]
    have e1 : wrap64 (wrap64 ((acc : Int) * 10) + ((c.toNat : Int) - 48) % 256) = ((acc * 10 + (c.toNat - 48) : Nat) : Int) := by
      rw [wrapN (x := (acc : Int) * 10) (by omega) (by omega), wrapN (by omega) (by omega)]
      omega
    have e3 : wrap64 (((a + j : Nat) : Int) + 1) = ((a + (j + 1) : Nat) : Int) := by rw [wrapN (by omega) (by omega)]; omega
    rw [e1, e3]
    rw [hdr, decFrom_cons] at hdec
    by_cases hg : acc * 10 + (c.toNat - 48) > 2147483647
    · rw [if_pos (by omega)]
      have hge : acc * 10 + (c.toNat - 48) ≤ decFrom (acc * 10 + (c.toNat - 48)) (t.drop (j + 1)) := decFold_ge _ _
      rw [if_pos (by omega)]
      rfl
    · rw [if_neg (by omega)]
      exact ih (j + 1) k _ (by omega) (by omega) (by omega) hdec

theorem rnumber (s : ByteArray) (hs : s.size ≤ 20000) (a : Nat) (c : UInt8) (r : List UInt8) (hl : s.data.toList.drop a = c :: r) (hc : isDigit c = true) (ha : a < s.size) (k : Nat) (hk : s.size + 30 < k) :
    sorrelref04_number.f k s a = some (tokOut a (act 2 (c :: r))) := by
  unfold sorrelref04_number.f
  have hr := rrow s (by omega) 2 isDigit (.inr (.inl ⟨rfl, rfl⟩)) a k (by omega) (by omega)
  rw [hr, Option.bind_some]
  have hle := spanP_le isDigit (s.data.toList.drop a)
  rw [List.length_drop, bl_size] at hle
  have h0 := rnumber_l0 s (by omega) a (spanP isDigit (s.data.toList.drop a)) (by omega) (spanP_take_all _ _) (spanP isDigit (s.data.toList.drop a)) 0 k 0 (by omega) (by omega) (by omega) (by rw [List.drop_zero])
  have e0 : ((0 : Nat) : Int) = 0 := rfl
  rw [e0, Nat.add_zero] at h0
  rw [h0, hl]
  rw [hl] at hle
  have ht : tk 2 (c :: r) = .ok ((c :: r).take (spanP isDigit (c :: r)), spanP isDigit (c :: r)) := by
    show rowL isDigit 20000 (c :: r) = _
    unfold rowL
    rw [if_neg (by omega)]
  by_cases hg : decVal ((c :: r).take (spanP isDigit (c :: r))) > 2147483647
  · rw [act_big _ _ _ ht hg, if_pos hg]
  · rw [act_num _ _ _ ht hg, if_neg hg]

/-! ### quotes -/
theorem spanP_ge (p : UInt8 → Bool) (l : List UInt8) (j : Nat) (hj : j ≤ l.length) (h : ∀ x ∈ l.take j, p x = true) : j ≤ spanP p l := takeWhile_all_take p l j hj h
theorem spanP_stop (p : UInt8 → Bool) (l : List UInt8) (j : Nat) (hj : j < l.length) (h : ∀ x ∈ l.take j, p x = true) (hx : p l[j] = false) : spanP p l = j := takeWhile_stop p l j hj h hx

theorem quotedL_cons (c : UInt8) (r : List UInt8) : quotedL (c :: r) = if spanP (fun c => c != 39) r = r.length then .error 41 else if spanP (fun c => c != 39) r < 1 then .error 41 else if spanP (fun c => c != 39) r > 12 then .error 41 else if (r.take (spanP (fun c => c != 39) r)).all isPlain = true then .ok (r.take (spanP (fun c => c != 39) r), spanP (fun c => c != 39) r + 2) else .error 41 := rfl
theorem quotedL_bad (r : List UInt8) (c : UInt8) (h : ∀ n, n = spanP (fun c => c != 39) r → n = r.length ∨ n < 1 ∨ n > 12 ∨ (r.take n).all isPlain = false) : quotedL (c :: r) = .error 41 := by
  rw [quotedL_cons]
  rcases h _ rfl with h | h | h | h
  · simp only [h, if_true]
  · simp only [h, if_true, ite_self]
  · simp only [h, if_true, ite_self]
  · simp only [h, Bool.false_eq_true, if_false, ite_self]
theorem quotedL_good (r : List UInt8) (c : UInt8) (n : Nat) (h : spanP (fun c => c != 39) r = n) (h0 : n < r.length) (h1 : 1 ≤ n) (h2 : n ≤ 12) (h3 : (r.take n).all isPlain = true) : quotedL (c :: r) = .ok (r.take n, n + 2) := by
  rw [quotedL_cons, h]
  rw [if_neg (by omega), if_neg (by omega), if_neg (by omega), if_pos h3]

set_option maxHeartbeats 4000000 in
theorem rquoted_l0 (s : ByteArray) (hs : s.size ≤ 1000000) (a : Nat) (ha : a < s.size) (c : UInt8) (r : List UInt8) (hl : s.data.toList.drop a = c :: r) (d : Nat) : ∀ (j k : Nat), j + d = 13 → 3 * d + 3 < k → a + 1 + j ≤ s.size → (∀ x ∈ r.take j, (x != 39) = true ∧ isPlain x = true) →
    sorrelref04_quoted.l0 k s a ((a + 1 + j : Nat) : Int) = some (tokOut a (act 3 (c :: r))) := by
  have hrl : r.length = s.size - a - 1 := by
    have := congrArg List.length hl
    rw [List.length_drop, bl_size, List.length_cons] at this
    omega
  have hbad : quotedL (c :: r) = .error 41 → act 3 (c :: r) = .error 41 := fun h => act_err 3 _ _ h
  have h12 : wrap64 (wrap64 ((a : Int) + 12) + 1) = ((a + 13 : Nat) : Int) := by
    rw [wrapN (x := (a : Int) + 12) (by omega) (by omega), wrapN (by omega) (by omega)]; omega
  have h1 : wrap64 ((a : Int) + 1) = ((a + 1 : Nat) : Int) := by rw [wrapN (by omega) (by omega)]; omega
  induction d with
  | zero =>
    intro j k hj hk hjs hx
    obtain ⟨k, rfl⟩ : ∃ m, k = m + 1 := ⟨k - 1, by omega⟩
    obtain ⟨k, rfl⟩ : ∃ m, k = m + 1 := ⟨k - 1, by omega⟩
    obtain rfl : j = 13 := by omega
    have hq : quotedL (c :: r) = .error 41 := by
      apply quotedL_bad
      intro n hn
      have := spanP_ge (fun c => c != 39) r 13 (by omega) (fun x hx' => (hx x hx').1)
      right; right; left
      omega
    rw [hbad hq]
    have e : decide (((a + 1 + 13 : Nat) : Int) ≤ ((a + 13 : Nat) : Int)) = false := by
      rw [decide_eq_false_iff_not]; omega
    simp only [sorrelref04_quoted.l0, sorrelref04_quoted.j1]
    rw [h12, e]
    simp only [Bool.false_eq_true, if_false]
    split <;> rfl
  | succ d ih =>
    intro j k hj hk hjs hx
    obtain ⟨k, rfl⟩ : ∃ m, k = m + 1 := ⟨k - 1, by omega⟩
    obtain ⟨k, rfl⟩ : ∃ m, k = m + 1 := ⟨k - 1, by omega⟩
    simp only [sorrelref04_quoted.l0, sorrelref04_quoted.j1]
    by_cases hjr : j < r.length
    · have hjs2 : a + 1 + (j + 1) ≤ s.size := by omega
      rw [if_pos (by omega), h12]
      have e : decide (((a + 1 + j : Nat) : Int) ≤ ((a + 13 : Nat) : Int)) = true := by
        rw [decide_eq_true_iff]; omega
      rw [e]
      simp only [if_true]
      rw [if_pos (by omega), if_pos (by omega)]
      have hdr : s.data.toList.drop (a + 1 + j) = r[j] :: r.drop (j + 1) := by
        have e1 : s.data.toList.drop (a + 1 + j) = r.drop j := by
          have : (s.data.toList.drop a).drop (1 + j) = s.data.toList.drop (a + 1 + j) := by rw [List.drop_drop]; congr 1; omega
          rw [← this, hl, Nat.add_comm 1 j, List.drop_succ_cons]
        rw [e1]
        exact List.drop_eq_getElem_cons hjr
      rw [bt_drop s (a + 1 + j) _ _ hdr]
      have hmem : ∀ x, x ∈ r.take (j + 1) → x ∈ r.take j ∨ x = r[j] := by
        intro x hx'
        rw [List.take_succ_eq_append_getElem hjr] at hx'
        rcases List.mem_append.1 hx' with h | h
        · exact .inl h
        · exact .inr (by simpa using h)
      have hin : r[j] ∈ r.take (j + 1) := by
        rw [List.take_succ_eq_append_getElem hjr]
        exact List.mem_append_right _ (List.mem_singleton_self _)
      obtain ⟨k, rfl⟩ : ∃ m, k = m + 1 := ⟨k - 1, by omega⟩
      by_cases h39 : r[j] = 39
      · have hsp : spanP (fun c => c != 39) r = j := spanP_stop _ r j hjr (fun x hx' => (hx x hx').1) (by rw [h39]; decide)
        have h39' : (((r[j]).toNat : Int) = 39) := (u8_lit _ 39 39 rfl).2 h39
        rw [if_pos h39']
        simp only [sorrelref04_quoted.j2]
        by_cases hj0 : j = 0
        · subst hj0
          rw [hbad (quotedL_bad r c (fun n hn => .inr (.inl (by omega))))]
          have e : decide (((a + 1 + 0 : Nat) : Int) > wrap64 ((a : Int) + 1)) = false := by
            rw [h1, decide_eq_false_iff_not]; omega
          rw [e]
          simp only [Bool.false_eq_true, if_false]
          rw [if_pos (by omega), if_pos (by omega), bt_drop s (a + 1 + 0) _ _ hdr, if_pos h39']
          rfl
        · have e : decide (((a + 1 + j : Nat) : Int) > wrap64 ((a : Int) + 1)) = true := by
            rw [h1, decide_eq_true_iff]; omega
          rw [e]
          simp only [if_true]
          rw [h1, if_pos (by omega), if_pos (by omega), if_pos (by omega)]
          have hall : (r.take j).all isPlain = true := List.all_eq_true.2 fun x hx' => (hx x hx').2
          have ht : tk 3 (c :: r) = .ok (r.take j, j + 2) := quotedL_good r c j hsp hjr (by omega) (by omega) hall
          rw [act_ok 3 _ _ _ (by decide) ht]
          have e2 : (((a + 1 : Nat) : Int)).toNat = a + 1 := by omega
          have e3 : (((a + 1 + j : Nat) : Int)).toNat = a + 1 + j := by omega
          have e4 : s.data.toList.drop (a + 1) = r := by
            have : (s.data.toList.drop a).drop 1 = s.data.toList.drop (a + 1) := by rw [List.drop_drop]
            rw [← this, hl]; rfl
          have hct := cut_take s (a + 1) j
          rw [e4] at hct
          rw [e2, e3, hct, wrapN (by omega) (by omega)]
          simp only [tokOut, kindOf]
          have e5 : ((a + 1 + j : Nat) : Int) + 1 = (a : Int) + ((j + 2 : Nat) : Int) := by omega
          rw [e5]
      · have h39' : ¬ (((r[j]).toNat : Int) = 39) := fun h => h39 ((u8_lit _ 39 39 rfl).1 h)
        rw [if_neg h39']
        simp only [sorrelref04_quoted.j2, Bool.false_eq_true, if_false]
        rw [if_pos (by omega), if_pos (by omega), bt_drop s (a + 1 + j) _ _ hdr, if_neg h39']
        have hn39 : (r[j] != 39) = true := by simpa using h39
        have hge := spanP_ge (fun c => c != 39) r (j + 1) (by omega) (fun x hx' => by
          rcases hmem x hx' with h | h
          · exact (hx x h).1
          · rw [h]; exact hn39)
        have hnp : isPlain r[j] = false → quotedL (c :: r) = .error 41 := by
          intro hp
          apply quotedL_bad
          intro n hn
          right; right; right
          rw [List.all_eq_false]
          refine ⟨r[j], ?_, by rw [hp]; decide⟩
          have : r.take (j + 1) = (r.take n).take (j + 1) := by rw [List.take_take, Nat.min_eq_left (by omega)]
          rw [this] at hin
          exact List.mem_of_mem_take hin
        by_cases hlo : ((r[j]).toNat : Int) < 32
        · rw [if_pos hlo, hbad (hnp ?_)]
          · rfl
          · unfold isPlain
            have : ¬ (32 : UInt8) ≤ r[j] := by
              rw [UInt8.le_iff_toNat_le]
              have : (32 : UInt8).toNat = 32 := rfl
              omega
            simp [this]
        · rw [if_neg hlo]
          by_cases hhi : ((r[j]).toNat : Int) > 126
          · rw [if_pos hhi, hbad (hnp ?_)]
            · rfl
            · unfold isPlain
              have : ¬ r[j] ≤ (126 : UInt8) := by
                rw [UInt8.le_iff_toNat_le]
                have : (126 : UInt8).toNat = 126 := rfl
                omega
              simp [this]
          · rw [if_neg hhi]
            have hpl : isPlain r[j] = true := by
              unfold isPlain
              have h3 : (32 : UInt8) ≤ r[j] := by
                rw [UInt8.le_iff_toNat_le]
                have : (32 : UInt8).toNat = 32 := rfl
                omega
              have h4 : r[j] ≤ (126 : UInt8) := by
                rw [UInt8.le_iff_toNat_le]
                have : (126 : UInt8).toNat = 126 := rfl
                omega
              simp [h3, h4]
            have e6 : wrap64 (((a + 1 + j : Nat) : Int) + 1) = ((a + 1 + (j + 1) : Nat) : Int) := by rw [wrapN (by omega) (by omega)]; omega
            rw [e6]
            refine ih (j + 1) k (by omega) (by omega) hjs2 (fun x hx' => ?_)
            rcases hmem x hx' with h | h
            · exact hx x h
            · rw [h]; exact ⟨hn39, hpl⟩
    · have hq : quotedL (c :: r) = .error 41 := by
        apply quotedL_bad
        intro n hn
        left
        rw [hn, spanP_full]
        intro x hx'
        exact (hx x (by rw [List.take_of_length_le (by omega)]; exact hx')).1
      rw [hbad hq, if_neg (by omega)]
      simp only [Bool.false_eq_true, if_false]
      rfl

theorem rquoted (s : ByteArray) (hs : s.size ≤ 1000000) (a : Nat) (c : UInt8) (r : List UInt8) (hl : s.data.toList.drop a = c :: r) (ha : a < s.size) (k : Nat) (hk : 50 < k) :
    sorrelref04_quoted.f k s a = some (tokOut a (act 3 (c :: r))) := by
  unfold sorrelref04_quoted.f
  have h1 : wrap64 ((a : Int) + 1) = ((a + 1 + 0 : Nat) : Int) := by rw [wrapN (by omega) (by omega)]; omega
  rw [h1]
  exact rquoted_l0 s hs a ha c r hl 13 0 k (by omega) (by omega) (by omega) (fun x hx => by simp at hx)
end Go.Proofs.YtpdlfokfjkmplaaDoor.P
