/- The helpers of lex.Lex, as the translation tells them, are the plain functions on lists of bytes; steps of these. No condition but lengths. -/
import Derived.Test.YtpdlfokfjkmplaaDoorPreLex
import Derived.Test.YtpdlfokfjkmplaaDoorLexS
import Derived.Lib.IndexBytes
import Derived.Test.YtpdlfokfjkmplaaDoorNum
namespace Go.Proofs.YtpdlfokfjkmplaaDoor.P
open Go.RowKit Go.Proofs.YtpdlfokfjkmplaaDoorW.PrintWords
set_option linter.unusedVariables false

theorem u8_all (p : UInt8 → Bool) (h : (List.range 256).all (fun n => p (UInt8.ofNat n)) = true) (c : UInt8) : p c = true := by
  have := List.all_eq_true.1 h c.toNat (List.mem_range.2 c.toNat_lt)
  simpa using this
theorem u8_eq {c d : UInt8} : c = d ↔ c.toNat = d.toNat := ⟨fun h => by rw [h], fun h => UInt8.toNat_inj.1 h⟩
theorem bl_size (s : ByteArray) : s.data.toList.length = s.size := by simp
theorem bl_from (s : ByteArray) (a : Nat) : (s.extract a s.size).data.toList = s.data.toList.drop a := Lib.extract_to_end s a
theorem bl_to (s : ByteArray) (b : Nat) : (s.extract 0 b).data.toList = s.data.toList.take b := by rw [Lib.extract_data]; simp
theorem bt_get (s : ByteArray) (i : Int) (h : i.toNat < s.data.toList.length) : bt s i = ((s.data.toList[i.toNat]'h).toNat : Int) := by
  have h' : i.toNat < s.size := by rw [← bl_size]; exact h
  unfold bt
  rw [dif_pos h']
  rfl
theorem bt_cons (s : ByteArray) (c : UInt8) (r : List UInt8) (h : s.data.toList = c :: r) : bt s 0 = (c.toNat : Int) := by
  have hl : (0 : Int).toNat < s.data.toList.length := by rw [h]; simp
  rw [bt_get s 0 hl]
  simp [h]
theorem bt_cons1 (s : ByteArray) (c d : UInt8) (r : List UInt8) (h : s.data.toList = c :: d :: r) : bt s 1 = (d.toNat : Int) := by
  have hl : (1 : Int).toNat < s.data.toList.length := by rw [h]; simp
  rw [bt_get s 1 hl]
  simp [h]
theorem bt_drop (s : ByteArray) (n : Nat) (c : UInt8) (r : List UInt8) (h : s.data.toList.drop n = c :: r) : bt s n = (c.toNat : Int) := by
  have hl : n < s.data.toList.length := by
    have := congrArg List.length h
    simp at this
    simp
    omega
  rw [bt_get s n (by simpa using hl)]
  have e : s.data.toList[n] = c := by
    have := List.drop_eq_getElem_cons hl
    rw [h] at this
    injection this with h1 _
    exact h1.symm
  simp only [Int.toNat_natCast]
  rw [e]

theorem wrapN {x : Int} (h0 : -9223372036854775808 ≤ x) (h1 : x ≤ 9223372036854775807) : wrap64 x = x := by unfold wrap64; omega

theorem spanP_le (p : UInt8 → Bool) (l : List UInt8) : spanP p l ≤ l.length := takeWhile_len_le _ _

theorem spanP_full (p : UInt8 → Bool) (l : List UInt8) : spanP p l = l.length ↔ ∀ x ∈ l, p x = true := by
  induction l with
  | nil => simp [spanP]
  | cons c l ih =>
    have hle := spanP_le p l
    unfold spanP at *
    rw [List.takeWhile_cons]
    by_cases hc : p c = true
    · simp only [hc, if_true, List.length_cons, List.mem_cons]
      constructor
      · intro h x hx
        rcases hx with rfl | hx
        · exact hc
        · exact ih.1 (by omega) x hx
      · intro h
        rw [ih.2 (fun x hx => h x (.inr hx))]
    · have hc' : p c = false := by simpa using hc
      simp [hc']

/-- A set's text and what it stands for. -/
def IsSet (set : ByteArray) (p : UInt8 → Bool) : Prop := (set.data.toList.all (fun b => decide (b.toNat < 128)) = true) ∧ ∀ c, set.data.toList.contains c = p c

theorem span_f (s set : ByteArray) (p : UInt8 → Bool) (h : IsSet set p) (hs : s.size ≤ 1000000) : lex_span.f s set = some (spanP p s.data.toList : Int) := by
  have e : spanN s set = spanP p s.data.toList := by
    unfold spanN spanP
    congr 2
    funext c
    exact h.2 c
  have hle := spanP_le p s.data.toList
  rw [bl_size] at hle
  unfold lex_span.f lex_cutLeft.f
  rw [if_pos h.1, Option.bind_some, e]
  have e2 : ((s.extract (spanP p s.data.toList) s.size).size : Int) = s.size - spanP p s.data.toList := by
    rw [ByteArray.size_extract]
    omega
  rw [e2, wrapN (by omega) (by omega)]
  congr 1
  omega

theorem index_f (s : ByteArray) (d : UInt8) : strings_IndexByte.f s (d.toNat : Int) = some (if spanP (fun c => c != d) s.data.toList = s.data.toList.length then -1 else (spanP (fun c => c != d) s.data.toList : Int)) := by
  unfold strings_IndexByte.f
  have e : ((d.toNat : Int).toNat).toUInt8 = d := by simp
  rw [e]
  congr 1
  generalize s.data.toList = l
  induction l with
  | nil => simp [Lib.indexByte, spanP]
  | cons c l ih =>
    unfold Lib.indexByte
    by_cases hc : c = d
    · subst hc
      simp [spanP]
    · have h1 : (c == d) = false := by simpa using hc
      have h2 : (c != d) = true := by simpa using hc
      rw [h1, ih]
      have e3 : spanP (fun c => c != d) (c :: l) = spanP (fun c => c != d) l + 1 := by simp [spanP, h2]
      rw [e3]
      have hle := spanP_le (fun c => c != d) l
      by_cases h3 : spanP (fun c => c != d) l = l.length
      · simp [h3]
      · have h4 : ¬ (spanP (fun c => c != d) l + 1 = l.length + 1) := by omega
        rw [if_neg h3]
        simp only [List.length_cons]
        rw [if_neg h4]
        have h5 : ((spanP (fun c => c != d) l : Int) == -1) = false := by
          rw [beq_eq_false_iff_ne]; omega
        simp [h5]

theorem has_f (set : ByteArray) (p : UInt8 → Bool) (h : IsSet set p) (c : UInt8) : lex_has.f set (c.toNat : Int) = some (p c) := by
  unfold lex_has.f
  rw [index_f, Option.bind_some, ← h.2 c]
  congr 1
  generalize set.data.toList = l
  have hle := spanP_le (fun x => x != c) l
  rw [Bool.eq_iff_iff, decide_eq_true_iff, List.contains_iff_mem]
  constructor
  · intro h1
    split at h1
    · omega
    · rename_i h2
      by_cases hm : c ∈ l
      · exact hm
      · exfalso
        apply h2
        rw [spanP_full]
        intro x hx
        simp only [bne_iff_ne, ne_eq]
        intro e
        exact hm (e ▸ hx)
  · intro hm
    split
    · rename_i h2
      exfalso
      rw [spanP_full] at h2
      have := h2 c hm
      simp at this
    · omega

theorem smalls_set : IsSet ⟨#[97, 98, 99, 100, 101, 102, 103, 104, 105, 106, 107, 108, 109, 110, 111, 112, 113, 114, 115, 116, 117, 118, 119, 120, 121, 122]⟩ isSmall :=
  ⟨by decide +kernel, fun c => by simpa using u8_all (fun c => ([97, 98, 99, 100, 101, 102, 103, 104, 105, 106, 107, 108, 109, 110, 111, 112, 113, 114, 115, 116, 117, 118, 119, 120, 121, 122].contains c == isSmall c)) (by decide +kernel) c⟩
theorem greats_set : IsSet ⟨#[65, 66, 67, 68, 69, 70, 71, 72, 73, 74, 75, 76, 77, 78, 79, 80, 81, 82, 83, 84, 85, 86, 87, 88, 89, 90, 95]⟩ isGreat :=
  ⟨by decide +kernel, fun c => by simpa using u8_all (fun c => ([65, 66, 67, 68, 69, 70, 71, 72, 73, 74, 75, 76, 77, 78, 79, 80, 81, 82, 83, 84, 85, 86, 87, 88, 89, 90, 95].contains c == isGreat c)) (by decide +kernel) c⟩
theorem digits_set : IsSet ⟨#[48, 49, 50, 51, 52, 53, 54, 55, 56, 57]⟩ isDigit :=
  ⟨by decide +kernel, fun c => by simpa using u8_all (fun c => ([48, 49, 50, 51, 52, 53, 54, 55, 56, 57].contains c == isDigit c)) (by decide +kernel) c⟩
theorem letters_set : IsSet ⟨#[97, 98, 99, 100, 101, 102, 103, 104, 105, 106, 107, 108, 109, 110, 111, 112, 113, 114, 115, 116, 117, 118, 119, 120, 121, 122, 65, 66, 67, 68, 69, 70, 71, 72, 73, 74, 75, 76, 77, 78, 79, 80, 81, 82, 83, 84, 85, 86, 87, 88, 89, 90, 95, 48, 49, 50, 51, 52, 53, 54, 55, 56, 57]⟩ isLetter :=
  ⟨by decide +kernel, fun c => by simpa using u8_all (fun c => ([97, 98, 99, 100, 101, 102, 103, 104, 105, 106, 107, 108, 109, 110, 111, 112, 113, 114, 115, 116, 117, 118, 119, 120, 121, 122, 65, 66, 67, 68, 69, 70, 71, 72, 73, 74, 75, 76, 77, 78, 79, 80, 81, 82, 83, 84, 85, 86, 87, 88, 89, 90, 95, 48, 49, 50, 51, 52, 53, 54, 55, 56, 57].contains c == isLetter c)) (by decide +kernel) c⟩
theorem quote_set : IsSet ⟨#[39]⟩ (fun c => c == 39) :=
  ⟨by decide +kernel, fun c => by simpa using u8_all (fun c => ([39].contains c == (c == 39))) (by decide +kernel) c⟩
theorem puncts_set : IsSet ⟨#[40, 41, 91, 93, 44, 124]⟩ isPunct := ⟨by decide +kernel, fun c => rfl⟩
theorem signs_set : IsSet ⟨#[43, 45, 42, 47, 92, 94, 60, 62, 61, 126, 58, 63, 64, 35, 38, 36, 46]⟩ isSign := ⟨by decide +kernel, fun c => rfl⟩
theorem blanks_set : IsSet ⟨#[32, 9, 10, 13]⟩ isBlank :=
  ⟨by decide +kernel, fun c => by simpa using u8_all (fun c => ([32, 9, 10, 13].contains c == isBlank c)) (by decide +kernel) c⟩

/-! ### pass -/
theorem spanP_cons (p : UInt8 → Bool) (c : UInt8) (l : List UInt8) : spanP p (c :: l) = if p c = true then spanP p l + 1 else 0 := by
  unfold spanP
  rw [List.takeWhile_cons]
  split <;> simp
theorem passL_blank (l : List UInt8) : passL false l = spanP isBlank l + passL false (l.drop (spanP isBlank l)) := by
  induction l with
  | nil => rfl
  | cons c l ih =>
    rw [spanP_cons]
    by_cases hb : isBlank c = true
    · rw [if_pos hb, List.drop_succ_cons]
      have h37 : ¬ c = 37 := by
        intro e; subst e; revert hb; decide
      have : passL false (c :: l) = passL false l + 1 := by
        by_cases h10 : c = 10
        · simp [passL, h10]
        · simp [passL, h10, h37, hb]
      rw [this, ih]
      omega
    · rw [if_neg hb]
      simp
theorem passL_remark (l : List UInt8) : passL true l = if spanP (fun c => c != 10) l = l.length then l.length else spanP (fun c => c != 10) l + passL false (l.drop (spanP (fun c => c != 10) l)) := by
  induction l with
  | nil => rfl
  | cons c l ih =>
    rw [spanP_cons]
    by_cases h10 : c = 10
    · subst h10
      simp [passL]
    · have hb : (c != 10) = true := by simpa using h10
      rw [if_pos hb, List.drop_succ_cons]
      have : passL true (c :: l) = passL true l + 1 := by
        by_cases h37 : c = 37
        · simp [passL, h37]
        · simp [passL, h10, h37]
      rw [this, ih]
      by_cases h : spanP (fun c => c != 10) l = l.length
      · simp [h]
      · have h' : ¬ (spanP (fun c => c != 10) l + 1 = (c :: l).length) := by simp; omega
        rw [if_neg h, if_neg h']
        omega
theorem passL_le (l : List UInt8) : ∀ r, passL r l ≤ l.length := by
  induction l with
  | nil => intro r; cases r <;> simp [passL]
  | cons c l ih =>
    intro r
    have h1 := ih r
    have h2 := ih true
    have h3 := ih false
    unfold passL
    simp only [List.length_cons]
    repeat' split
    all_goals omega
theorem spanP_head (p : UInt8 → Bool) (l : List UInt8) (c : UInt8) (r : List UInt8) (h : l.drop (spanP p l) = c :: r) : p c = false := by
  induction l with
  | nil => simp at h
  | cons d l ih =>
    rw [spanP_cons] at h
    by_cases hd : p d = true
    · rw [if_pos hd, List.drop_succ_cons] at h
      exact ih h
    · rw [if_neg hd] at h
      injection h with h1 _
      subst h1
      simpa using hd

theorem pass_l0 (s : ByteArray) (hs : s.size ≤ 1000000) (d : Nat) : ∀ (n k : Nat), n ≤ s.size → s.size - n ≤ d → 2 * d + 2 ≤ k → spanP isBlank (s.data.toList.drop n) = 0 →
    lex_pass.l0 k s n = some ((n + passL false (s.data.toList.drop n) : Nat) : Int) := by
  induction d using Nat.strongRecOn with
  | _ d ih =>
  intro n k hn hd hk hb
  obtain ⟨k, rfl⟩ : ∃ m, k = m + 1 := ⟨k - 1, by omega⟩
  obtain ⟨k, rfl⟩ : ∃ m, k = m + 1 := ⟨k - 1, by omega⟩
  simp only [lex_pass.l0]
  cases hl : s.data.toList.drop n with
  | nil =>
    have hlen : s.data.toList.length ≤ n := List.drop_eq_nil_iff.1 hl
    rw [bl_size] at hlen
    rw [if_neg (by omega)]
    simp only [lex_pass.j1]
    simp [passL]
  | cons c l =>
    have hlen : n < s.size := by
      have := congrArg List.length hl
      simp at this
      omega
    rw [if_pos (by omega), if_pos (by omega), bt_drop s n c l hl]
    have hcb : isBlank c = false := by
      rw [hl, spanP_cons] at hb
      by_cases h : isBlank c = true
      · rw [if_pos h] at hb; omega
      · simpa using h
    by_cases h37 : c = 37
    · subst h37
      have e1 : (((37 : UInt8).toNat : Int) == 37) = true := by decide
      rw [e1]
      simp only [lex_pass.j1, if_true]
      rw [if_pos (by omega), if_pos (by omega)]
      have ei := index_f (s.extract n s.size) 10
      rw [bl_from, hl] at ei
      have ei' : strings_IndexByte.f (s.extract ((n : Int).toNat) s.size) 10 = _ := ei
      rw [ei', Option.bind_some]
      have hlen2 : (37 :: l).length = s.size - n := by
        rw [← hl]; simp
      have hp : passL false (37 :: l) = passL true (37 :: l) := by simp [passL]
      rw [hp, passL_remark]
      by_cases hm : spanP (fun c => c != 10) (37 :: l) = (37 :: l).length
      · rw [if_pos hm, if_pos hm, if_pos (by omega)]
        congr 1
        omega
      · rw [if_neg hm, if_neg hm]
        have hle := spanP_le (fun c => c != 10) (37 :: l)
        have hpos : 1 ≤ spanP (fun c => c != 10) (37 :: l) := by
          rw [spanP_cons, if_pos (by decide)]
          omega
        generalize hq : spanP (fun c => c != 10) (37 :: l) = q at *
        rw [if_neg (by omega), wrapN (by omega) (by omega), if_pos (by omega), if_pos (by omega)]
        have e2 : ((n : Int) + (q : Int)).toNat = n + q := by omega
        rw [e2, span_f _ _ isBlank blanks_set (by rw [ByteArray.size_extract]; omega), Option.bind_some, bl_from]
        have hdr : s.data.toList.drop (n + q) = (37 :: l).drop q := by rw [← hl, List.drop_drop]
        have hdl : ((37 :: l).drop q).length = s.size - n - q := by rw [List.length_drop]; omega
        rw [hdr]
        have hb2 := spanP_le isBlank ((37 :: l).drop q)
        rw [wrapN (by omega) (by omega)]
        have e3 : (n : Int) + (q : Int) + (spanP isBlank ((37 :: l).drop q) : Int) = ((n + q + spanP isBlank ((37 :: l).drop q) : Nat) : Int) := by omega
        rw [e3]
        have hdr2 : s.data.toList.drop (n + q + spanP isBlank ((37 :: l).drop q)) = ((37 :: l).drop q).drop (spanP isBlank ((37 :: l).drop q)) := by
          rw [← hdr, List.drop_drop]
        rw [ih (s.size - (n + q + spanP isBlank ((37 :: l).drop q))) (by omega) _ k (by omega) (by omega) (by omega) ?_]
        · rw [hdr2]
          have := passL_blank ((37 :: l).drop q)
          congr 1
          omega
        · rw [hdr2]
          cases hx : ((37 :: l).drop q).drop (spanP isBlank ((37 :: l).drop q)) with
          | nil => rfl
          | cons a b =>
            have := spanP_head isBlank _ a b hx
            rw [spanP_cons, this]
            rfl
    · have e1 : (((c.toNat : Int)) == 37) = false := by
        rw [beq_eq_false_iff_ne]
        intro e
        apply h37
        rw [u8_eq]
        have : (37 : UInt8).toNat = 37 := rfl
        omega
      rw [e1]
      have h10 : ¬ c = 10 := by
        intro e; subst e; revert hcb; decide
      simp [lex_pass.j1, passL, h10, h37, hcb]

theorem pass_f (s : ByteArray) (hs : s.size ≤ 1000000) : ∃ k, lex_pass.f k s = some (passL false s.data.toList : Int) := by
  refine ⟨2 * s.size + 2, ?_⟩
  unfold lex_pass.f
  rw [span_f _ _ isBlank blanks_set hs, Option.bind_some]
  have hle := spanP_le isBlank s.data.toList
  rw [bl_size] at hle
  rw [pass_l0 s hs s.size _ _ hle (by omega) (by omega) ?_]
  · have := passL_blank s.data.toList
    congr 1
    omega
  · cases hx : s.data.toList.drop (spanP isBlank s.data.toList) with
    | nil => rfl
    | cons a b =>
      have := spanP_head isBlank _ a b hx
      rw [spanP_cons, this]
      rfl
end Go.Proofs.YtpdlfokfjkmplaaDoor.P

namespace Go.Proofs.YtpdlfokfjkmplaaDoor.P
open Go.RowKit Go.Proofs.YtpdlfokfjkmplaaDoorW.PrintWords
set_option linter.unusedVariables false

/-- What a rule takes, as the program tells it: letters, how many bytes, an error. -/
def tells (x : Except Int (List UInt8 × Nat)) : ByteArray × Int × Int :=
  match x with
  | .error e => (⟨#[]⟩, 0, e)
  | .ok (t, n) => (⟨t.toArray⟩, n, 0)

theorem ba_eq {s : ByteArray} {l : List UInt8} (h : s.data.toList = l) : s = ⟨l.toArray⟩ := by
  obtain ⟨⟨a⟩⟩ := s
  simp at h
  subst h
  rfl

theorem ends_f (s : ByteArray) (c : UInt8) (r : List UInt8) (h : s.data.toList = c :: r) : lex_ends.f s = some (c == 46 && endsR r) := by
  have hs : s.size = r.length + 1 := by rw [← bl_size, h]; rfl
  unfold lex_ends.f
  rw [if_pos (by omega), bt_cons s c r h]
  by_cases hc : c = 46
  · subst hc
    have e0 : (((46 : UInt8).toNat : Int)) = 46 := by decide
    rw [if_pos e0]
    cases r with
    | nil =>
      rw [if_pos (by simp at hs; omega)]
      rfl
    | cons d r =>
      have hs' : s.size = r.length + 2 := by simp at hs; omega
      rw [if_neg (by omega), if_pos (by omega), bt_cons1 s 46 d r h]
      rw [has_f _ isBlank blanks_set, Option.bind_some]
      have e2 : ((d.toNat : Int) == 37) = (d == 37) := by
        rw [Bool.eq_iff_iff, beq_iff_eq, beq_iff_eq, u8_eq]
        have : (37 : UInt8).toNat = 37 := rfl
        omega
      rw [e2]
      cases hb : isBlank d <;> simp [endsR, hb]
  · have e0 : ¬ ((c.toNat : Int) = 46) := by
      intro e
      apply hc
      rw [u8_eq]
      have : (46 : UInt8).toNat = 46 := rfl
      omega
    rw [if_neg e0]
    have : (c == 46) = false := by simpa using hc
    rw [this]
    rfl

theorem single_f (s : ByteArray) (h : s.data.toList ≠ []) : lex_single.f s = some (tells (singleL s.data.toList)) := by
  have hs : 1 ≤ s.size := by
    rw [← bl_size]
    cases hl : s.data.toList with
    | nil => exact absurd hl h
    | cons a b => simp
  unfold lex_single.f
  rw [if_pos (by omega), if_pos (by omega)]
  have e : s.extract 0 1 = ⟨(s.data.toList.take 1).toArray⟩ := ba_eq (bl_to s 1)
  simp [tells, singleL, e]

theorem quoted_l0 (s : ByteArray) (hs : s.size ≤ 1000000) (n : Nat) (hn : n + 1 ≤ s.size) (d : Nat) : ∀ (i k : Nat), i + d = n → d + 1 ≤ k →
    lex_quoted.l0 k s n n i = some (if ((s.data.toList.tail.take n).drop i).all isPlain = true then ((⟨(s.data.toList.tail.take n).toArray⟩ : ByteArray), (n : Int) + 2, 0) else ((⟨#[]⟩ : ByteArray), 0, 41)) := by
  induction d with
  | zero =>
    intro i k hi hk
    obtain ⟨k, rfl⟩ : ∃ m, k = m + 1 := ⟨k - 1, by omega⟩
    simp only [lex_quoted.l0]
    rw [if_neg (by omega), wrapN (by omega) (by omega), if_pos (by omega), if_pos (by omega), wrapN (by omega) (by omega)]
    have e1 : ((s.data.toList.tail.take n).drop i) = [] := by
      apply List.drop_eq_nil_of_le
      have := List.length_take_le n s.data.toList.tail
      omega
    rw [e1]
    have e2 : ((1 : Int) + (n : Int)).toNat = n + 1 := by omega
    rw [e2]
    have e3 : s.extract 1 (n + 1) = ⟨(s.data.toList.tail.take n).toArray⟩ := by
      apply ba_eq
      rw [Lib.extract_data]
      simp
    rw [e3]
    simp
  | succ d ih =>
    intro i k hi hk
    obtain ⟨k, rfl⟩ : ∃ m, k = m + 1 := ⟨k - 1, by omega⟩
    simp only [lex_quoted.l0]
    rw [if_pos (by omega)]
    have hlen : s.data.toList.tail.length = s.size - 1 := by rw [List.length_tail, bl_size]
    have hi2 : i < (s.data.toList.tail.take n).length := by
      rw [List.length_take]
      omega
    have hdr := List.drop_eq_getElem_cons hi2
    rw [hdr, List.all_cons]
    have hbt : bt s (wrap64 (1 + (i : Int))) = (((s.data.toList.tail.take n)[i]'hi2).toNat : Int) := by
      rw [wrapN (by omega) (by omega)]
      have e1 : (1 + (i : Int)).toNat = i + 1 := by omega
      rw [bt_get s _ (by rw [e1, bl_size]; omega)]
      simp only [e1]
      congr 2
      simp [List.getElem_take, List.getElem_tail]
    rw [hbt, wrapN (by omega) (by omega), if_pos (by omega), if_pos (by omega)]
    generalize hc : (s.data.toList.tail.take n)[i]'hi2 = c
    by_cases h1 : (c.toNat : Int) < 32
    · rw [if_pos h1]
      have : isPlain c = false := by
        unfold isPlain
        have : ¬ (32 : UInt8) ≤ c := by
          rw [UInt8.le_iff_toNat_le]
          have : (32 : UInt8).toNat = 32 := rfl
          omega
        simp [this]
      simp [this]
    · rw [if_neg h1]
      by_cases h2 : (c.toNat : Int) > 126
      · rw [if_pos h2]
        have : isPlain c = false := by
          unfold isPlain
          have : ¬ c ≤ (126 : UInt8) := by
            rw [UInt8.le_iff_toNat_le]
            have : (126 : UInt8).toNat = 126 := rfl
            omega
          simp [this]
        simp [this]
      · rw [if_neg h2]
        have : isPlain c = true := by
          unfold isPlain
          have h3 : (32 : UInt8) ≤ c := by
            rw [UInt8.le_iff_toNat_le]
            have : (32 : UInt8).toNat = 32 := rfl
            omega
          have h4 : c ≤ (126 : UInt8) := by
            rw [UInt8.le_iff_toNat_le]
            have : (126 : UInt8).toNat = 126 := rfl
            omega
          simp [h3, h4]
        rw [this, Bool.true_and, wrapN (by omega) (by omega)]
        have e5 : ((i : Int) + 1) = ((i + 1 : Nat) : Int) := by omega
        rw [e5]
        exact ih (i + 1) k (by omega) (by omega)

theorem quoted_f (s : ByteArray) (hs : s.size ≤ 1000000) (h : 1 ≤ s.size) : ∃ k, lex_quoted.f k s = some (tells (quotedL s.data.toList)) := by
  refine ⟨s.size + 3, ?_⟩
  unfold lex_quoted.f
  rw [if_pos (by omega)]
  have ei := index_f (s.extract 1 s.size) 39
  rw [bl_from, List.drop_one] at ei
  have ei' : strings_IndexByte.f (s.extract 1 s.size) 39 = _ := ei
  rw [ei', Option.bind_some]
  have hlen : s.data.toList.tail.length = s.size - 1 := by rw [List.length_tail, bl_size]
  have hle := spanP_le (fun c => c != 39) s.data.toList.tail
  simp only [quotedL]
  generalize hq : spanP (fun c => c != 39) s.data.toList.tail = q at *
  have hj : ∀ x : Int, lex_quoted.j0 (s.size + 3) s x true = some ((⟨#[]⟩ : ByteArray), 0, 41) := by
    intro x
    simp [lex_quoted.j0]
  by_cases h1 : q = s.data.toList.tail.length
  · rw [if_pos h1, if_pos h1, if_pos (by omega), hj]
    rfl
  · rw [if_neg h1, if_neg h1]
    by_cases h2 : q < 1
    · rw [if_pos h2, if_pos (by omega), hj]
      rfl
    · rw [if_neg h2, if_neg (by omega)]
      by_cases h3 : q > 12
      · rw [if_pos h3]
        have : decide ((q : Int) > 12) = true := by simp; omega
        rw [this, hj]
        rfl
      · rw [if_neg h3]
        have : decide ((q : Int) > 12) = false := by simp; omega
        rw [this]
        have e6 : lex_quoted.j0 (s.size + 3) s (q : Int) false = lex_quoted.l0 (s.size + 2) s q q (0 : Nat) := by simp [lex_quoted.j0]
        rw [e6, quoted_l0 s hs q (by omega) q 0 (s.size + 2) (by omega) (by omega), List.drop_zero]
        split
        · simp [tells]
        · simp [tells]

/-! ### number -/
theorem digit_nat (c : UInt8) : isDigit c = true ↔ 48 ≤ c.toNat ∧ c.toNat ≤ 57 := by
  unfold isDigit
  rw [Bool.and_eq_true, decide_eq_true_iff, decide_eq_true_iff, UInt8.le_iff_toNat_le, UInt8.le_iff_toNat_le]
  exact Iff.rfl
theorem decFold_ge (l : List UInt8) : ∀ a : Nat, a ≤ l.foldl (fun a c => a * 10 + (c.toNat - 48)) a := by
  induction l with
  | nil => intro a; exact Nat.le_refl _
  | cons c l ih =>
    intro a
    have := ih (a * 10 + (c.toNat - 48))
    simp only [List.foldl_cons]
    omega
def decFrom (a : Nat) (l : List UInt8) : Nat := l.foldl (fun a c => a * 10 + (c.toNat - 48)) a
theorem decFrom_cons (a : Nat) (c : UInt8) (l : List UInt8) : decFrom a (c :: l) = decFrom (a * 10 + (c.toNat - 48)) l := by
  unfold decFrom
  rw [List.foldl_cons]
theorem parseUintM_cons (M a : Nat) (c : UInt8) (l : List UInt8) (hc : 48 ≤ c.toNat ∧ c.toNat ≤ 57) (ha : a < 1844674407370955162) :
    Lib.parseUintM M a (c :: l) = if M < a * 10 + (c.toNat - 48) then Lib.NumEnd.range else Lib.parseUintM M (a * 10 + (c.toNat - 48)) l := by
  have h : ¬ 1844674407370955162 ≤ a := Nat.not_le.2 ha
  simp only [Lib.parseUintM, hc, h, and_self, if_true, if_false]
theorem parse_ok (M : Nat) (hM : M < 1844674407370955162) (l : List UInt8) (hd : l.all isDigit = true) : ∀ a : Nat, decFrom a l ≤ M → Lib.parseUintM M a l = Lib.NumEnd.ok (decFrom a l) := by
  induction l with
  | nil => intro a _; rfl
  | cons c l ih =>
    intro a ha
    rw [List.all_cons, Bool.and_eq_true] at hd
    have hc := (digit_nat c).1 hd.1
    have hge : a * 10 + (c.toNat - 48) ≤ decFrom (a * 10 + (c.toNat - 48)) l := decFold_ge l (a * 10 + (c.toNat - 48))
    rw [decFrom_cons] at ha ⊢
    rw [parseUintM_cons M a c l hc (by omega)]
    rw [if_neg (by omega)]
    exact ih hd.2 _ ha
theorem parse_range (M : Nat) (hM : M < 1844674407370955162) (l : List UInt8) (hd : l.all isDigit = true) : ∀ a : Nat, a ≤ M → M < decFrom a l → Lib.parseUintM M a l = Lib.NumEnd.range := by
  induction l with
  | nil =>
    intro a h1 h2
    have : decFrom a [] = a := rfl
    omega
  | cons c l ih =>
    intro a h1 ha
    rw [List.all_cons, Bool.and_eq_true] at hd
    have hc := (digit_nat c).1 hd.1
    rw [decFrom_cons] at ha
    rw [parseUintM_cons M a c l hc (by omega)]
    by_cases hg : M < a * 10 + (c.toNat - 48)
    · rw [if_pos hg]
    · rw [if_neg hg]
      exact ih hd.2 _ (by omega) ha
theorem number_f (t : List UInt8) (hd : t.all isDigit = true) (hne : t ≠ []) (hl : t.length ≤ 20000) :
    lex_number.f ⟨t.toArray⟩ = some (if decVal t > 2147483647 then (0, 2) else ((decVal t : Int), 0)) := by
  unfold lex_number.f
  have hsz : (⟨t.toArray⟩ : ByteArray).size = t.length := by simp [ByteArray.size]
  rw [if_pos (by omega)]
  have e : Lib.parseUintB 31 (⟨t.toArray⟩ : ByteArray).data.toList = Lib.parseUintM 2147483647 0 t := by
    unfold Lib.parseUintB
    have : (2 : Nat) ^ 31 - 1 = 2147483647 := by decide
    rw [this]
    simp [hne]
  rw [e]
  have hM : (2147483647 : Nat) < 1844674407370955162 := by omega
  generalize (2147483647 : Nat) = M at *
  by_cases hg : decVal t > M
  · rw [parse_range M hM t hd 0 (by omega) hg, if_pos hg]
  · have hg' : decFrom 0 t ≤ M := Nat.le_of_not_lt hg
    rw [parse_ok M hM t hd 0 hg', if_neg hg]
    rfl
end Go.Proofs.YtpdlfokfjkmplaaDoor.P

namespace Go.Proofs.YtpdlfokfjkmplaaDoor.P
set_option linter.unusedVariables false

theorem rowL_len (p : UInt8 → Bool) (m : Nat) (c : UInt8) (r t : List UInt8) (n : Nat) (hc : p c = true) (h : rowL p m (c :: r) = .ok (t, n)) :
    n = spanP p (c :: r) ∧ t = (c :: r).take n ∧ 1 ≤ n ∧ n ≤ (c :: r).length ∧ n ≤ m := by
  unfold rowL at h
  split at h
  · cases h
  · injection h with h
    injection h with h1 h2
    subst h2
    refine ⟨rfl, h1.symm, ?_, spanP_le p _, by omega⟩
    rw [spanP_cons, if_pos hc]
    omega
theorem letter_small (c : UInt8) (h : isSmall c = true) : isLetter c = true := by simp [isLetter, h]
theorem letter_great (c : UInt8) (h : isGreat c = true) : isLetter c = true := by simp [isLetter, h]

theorem tk_len (i : Nat) (c : UInt8) (r t : List UInt8) (n : Nat) (hb : bg i (c :: r) = true) (h : tk i (c :: r) = .ok (t, n)) : 1 ≤ n ∧ n ≤ (c :: r).length := by
  unfold bg at hb
  unfold tk at h
  have single : ∀ {t n}, singleL (c :: r) = .ok (t, n) → 1 ≤ n ∧ n ≤ (c :: r).length := by
    intro t n h
    unfold singleL at h
    injection h with h
    injection h with h1 h2
    subst h2
    simp
  match i with
  | 0 => have := rowL_len _ _ _ _ _ _ (letter_small c hb) h; exact ⟨this.2.2.1, this.2.2.2.1⟩
  | 1 => have := rowL_len _ _ _ _ _ _ (letter_great c hb) h; exact ⟨this.2.2.1, this.2.2.2.1⟩
  | 2 => have := rowL_len _ _ _ _ _ _ hb h; exact ⟨this.2.2.1, this.2.2.2.1⟩
  | 3 =>
    simp only [quotedL] at h
    split at h
    · cases h
    · split at h
      · cases h
      · split at h
        · cases h
        · split at h
          · injection h with h
            injection h with h1 h2
            rename_i h3 _ _ _
            have hle := spanP_le (fun c => c != 39) (c :: r).tail
            have hlen : (c :: r).tail.length = r.length := rfl
            have hlen2 : (c :: r).length = r.length + 1 := rfl
            omega
          · cases h
  | 4 => exact single h
  | 5 => exact single h
  | n + 6 => have := rowL_len _ _ _ _ _ _ (show isSign c = true from hb) h; exact ⟨this.2.2.1, this.2.2.2.1⟩

theorem rowL_err (p : UInt8 → Bool) (m : Nat) (l : List UInt8) (e : Int) (h : rowL p m l = .error e) : e = 2 := by
  unfold rowL at h
  split at h
  · injection h with h
    exact h.symm
  · cases h
theorem tk_err (i : Nat) (l : List UInt8) (e : Int) (h : tk i l = .error e) : e = 2 ∨ e = 41 := by
  unfold tk at h
  have single : singleL l ≠ .error e := by unfold singleL; intro h; cases h
  match i with
  | 0 => exact .inl (rowL_err _ _ _ _ h)
  | 1 => exact .inl (rowL_err _ _ _ _ h)
  | 2 => exact .inl (rowL_err _ _ _ _ h)
  | 3 =>
    right
    simp only [quotedL] at h
    repeat' split at h
    all_goals first | (injection h with h; exact h.symm) | cases h
  | 4 => exact absurd h single
  | 5 => exact absurd h single
  | n + 6 => exact .inl (rowL_err _ _ _ _ h)

/-- What rule 2 takes are digits. -/
theorem tk_digits (c : UInt8) (r t : List UInt8) (n : Nat) (hb : bg 2 (c :: r) = true) (h : tk 2 (c :: r) = .ok (t, n)) : t.all isDigit = true ∧ t ≠ [] ∧ t.length ≤ 20000 := by
  have h1 := rowL_len isDigit 20000 c r t n hb h
  obtain ⟨rfl, rfl, h2, h3, h4⟩ := h1
  refine ⟨?_, ?_, ?_⟩
  · rw [List.all_eq_true]
    have : ∀ l : List UInt8, ∀ x ∈ l.take (spanP isDigit l), isDigit x = true := by
      intro l
      induction l with
      | nil => intro x hx; simp at hx
      | cons d l ih =>
        intro x hx
        rw [spanP_cons] at hx
        by_cases hd : isDigit d = true
        · rw [if_pos hd, List.take_succ_cons] at hx
          rcases List.mem_cons.1 hx with rfl | hx
          · exact hd
          · exact ih x hx
        · rw [if_neg hd] at hx
          simp at hx
    exact this _
  · intro he
    have := congrArg List.length he
    rw [List.length_take] at this
    simp at this
    omega
  · rw [List.length_take]
    omega

theorem lex_done (k : Nat) (s : List UInt8) (at' : Nat) (out : List Tok) (R : List Tok × Int × Int) (hl : s.drop at' = []) (HA : lexL (k + 1) (s.drop at') at' out = R) : R = (out, 0, 0) := by
  rw [← HA, hl]
  simp [lexL]
theorem lex_err (k : Nat) (s : List UInt8) (at' : Nat) (out : List Tok) (R : List Tok × Int × Int) (c : UInt8) (r : List UInt8) (hl : s.drop at' = c :: r) (e : Int) (ht : tokL (c :: r) = .error e) (HA : lexL (k + 1) (s.drop at') at' out = R) : R = ([], (at' : Int), e) := by
  rw [← HA, hl]
  simp [lexL, ht]
theorem lex_step (k : Nat) (s : List UInt8) (at' : Nat) (out : List Tok) (R : List Tok × Int × Int) (c : UInt8) (r : List UInt8) (hl : s.drop at' = c :: r) (t : Tk) (ht : tokL (c :: r) = .ok t) (HA : lexL (k + 1) (s.drop at') at' out = R)
    (m q : Nat) (hm : m = at' + t.len) (hq : q = passL false (s.drop m)) : lexL k (s.drop (m + q)) (m + q) (out ++ [⟨t.kind, t.text, t.val, (at' : Int)⟩]) = R := by
  have e1 : (c :: r).drop t.len = s.drop m := by rw [← hl, List.drop_drop, hm]
  rw [← HA, hl]
  simp only [lexL, ht]
  rw [if_neg (by simp), e1, List.drop_drop, hq, hm]

theorem tokD_no (d : Nat) (l : List UInt8) (h : bg (6 - d) l = false) : tokD (d + 1) l = tokD d l := by
  simp [tokD, h]
theorem tokD_yes (d : Nat) (l : List UInt8) (h : bg (6 - d) l = true) : tokD (d + 1) l = act (6 - d) l := by
  simp [tokD, h]
theorem act_err (i : Nat) (l : List UInt8) (e : Int) (h : tk i l = .error e) : act i l = .error e := by
  simp [act, h]
theorem act_ok (i : Nat) (l t : List UInt8) (n : Nat) (hi : i ≠ 2) (h : tk i l = .ok (t, n)) : act i l = .ok ⟨kindOf i, t, 0, n⟩ := by
  simp [act, h, hi]
theorem act_num (l t : List UInt8) (n : Nat) (h : tk 2 l = .ok (t, n)) (hv : ¬ decVal t > 2147483647) : act 2 l = .ok ⟨3, t, decVal t, n⟩ := by
  simp only [act, h, if_true]
  rw [if_neg hv]
theorem act_big (l t : List UInt8) (n : Nat) (h : tk 2 l = .ok (t, n)) (hv : decVal t > 2147483647) : act 2 l = .error 2 := by
  simp only [act, h, if_true]
  rw [if_pos hv]
end Go.Proofs.YtpdlfokfjkmplaaDoor.P
