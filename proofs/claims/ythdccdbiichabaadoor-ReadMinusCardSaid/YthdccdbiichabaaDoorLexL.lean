import Derived.Test.YthdccdbiichabaaDoorPreLex
import Derived.Test.YthdccdbiichabaaDoorLexS
import Derived.Lib.IndexBytes
import Derived.Test.YthdccdbiichabaaDoorCut
/- The helpers of lex.Lex, as the translation tells them, are the plain functions on lists of bytes; steps of these. No condition but lengths. -/
namespace Go.Proofs.YthdccdbiichabaaDoor.P
open Go.RowKit Go.Proofs.YthdccdbiichabaaDoorW.PrintWords
set_option linter.unusedVariables false

theorem u8_all (p : UInt8 → Bool) (h : (List.range 256).all (fun n => p (UInt8.ofNat n)) = true) (c : UInt8) : p c = true := by
  have := List.all_eq_true.1 h c.toNat (List.mem_range.2 c.toNat_lt)
  simpa using this
theorem u8_eq {c d : UInt8} : c = d ↔ c.toNat = d.toNat := ⟨fun h => by rw [h], fun h => UInt8.toNat_inj.1 h⟩
theorem bl_size (s : ByteArray) : s.data.toList.length = s.size := by simp
theorem bl_from (s : ByteArray) (a : Nat) : (s.extract a s.size).data.toList = s.data.toList.drop a := Lib.extract_to_end s a
theorem bl_to (s : ByteArray) (b : Nat) : (s.extract 0 b).data.toList = s.data.toList.take b := by rw [Lib.extract_data]; simp
theorem bt_get (s : ByteArray) (i : Int) (h : i.toNat < s.data.toList.length) : bt s i = ((s.data.toList[i.toNat]'h).toNat : Int) := by
  have h' : i.toNat < s.size := by rw [← bl_size]; exact h
  unfold bt
  rw [dif_pos h']
  rfl
theorem bt_cons (s : ByteArray) (c : UInt8) (r : List UInt8) (h : s.data.toList = c :: r) : bt s 0 = (c.toNat : Int) := by
  have hl : (0 : Int).toNat < s.data.toList.length := by rw [h]; simp
  rw [bt_get s 0 hl]
  simp [h]
theorem bt_cons1 (s : ByteArray) (c d : UInt8) (r : List UInt8) (h : s.data.toList = c :: d :: r) : bt s 1 = (d.toNat : Int) := by
  have hl : (1 : Int).toNat < s.data.toList.length := by rw [h]; simp
  rw [bt_get s 1 hl]
  simp [h]
theorem bt_drop (s : ByteArray) (n : Nat) (c : UInt8) (r : List UInt8) (h : s.data.toList.drop n = c :: r) : bt s n = (c.toNat : Int) := by
  have hl : n < s.data.toList.length := by
    have := congrArg List.length h
    simp at this
    simp
    omega
  rw [bt_get s n (by simpa using hl)]
  have e : s.data.toList[n] = c := by
    have := List.drop_eq_getElem_cons hl
    rw [h] at this
    injection this with h1 _
    exact h1.symm
  simp only [Int.toNat_natCast]
  rw [e]

theorem wrapN {x : Int} (h0 : -9223372036854775808 ≤ x) (h1 : x ≤ 9223372036854775807) : wrap64 x = x := by unfold wrap64; omega

theorem spanP_le (p : UInt8 → Bool) (l : List UInt8) : spanP p l ≤ l.length := takeWhile_len_le _ _

theorem spanP_full (p : UInt8 → Bool) (l : List UInt8) : spanP p l = l.length ↔ ∀ x ∈ l, p x = true := by
  induction l with
  | nil => simp [spanP]
  | cons c l ih =>
    have hle := spanP_le p l
    unfold spanP at *
    rw [List.takeWhile_cons]
    by_cases hc : p c = true
    · simp only [hc, if_true, List.length_cons, List.mem_cons]
      constructor
      · intro h x hx
        rcases hx with rfl | hx
        · exact hc
        · exact ih.1 (by omega) x hx
      · intro h
        rw [ih.2 (fun x hx => h x (.inr hx))]
    · have hc' : p c = false := by simpa using hc
      simp [hc']

/-- A set's text and what it stands for. -/
def IsSet (set : ByteArray) (p : UInt8 → Bool) : Prop := (set.data.toList.all (fun b => decide (b.toNat < 128)) = true) ∧ ∀ c, set.data.toList.contains c = p c

theorem span_f (s set : ByteArray) (p : UInt8 → Bool) (h : IsSet set p) (hs : s.size ≤ 1000000) : lex_span.f s set = some (spanP p s.data.toList : Int) := by
  have e : spanN s set = spanP p s.data.toList := by
    unfold spanN spanP
    congr 2
    funext c
    exact h.2 c
  have hle := spanP_le p s.data.toList
  rw [bl_size] at hle
  unfold lex_span.f lex_cutLeft.f
  rw [if_pos h.1, Option.bind_some, e]
  have e2 : ((s.extract (spanP p s.data.toList) s.size).size : Int) = s.size - spanP p s.data.toList := by
    rw [ByteArray.size_extract]
    omega
  rw [e2, wrapN (by omega) (by omega)]
  congr 1
  omega

theorem index_f (s : ByteArray) (d : UInt8) : strings_IndexByte.f s (d.toNat : Int) = some (if spanP (fun c => c != d) s.data.toList = s.data.toList.length then -1 else (spanP (fun c => c != d) s.data.toList : Int)) := by
  unfold strings_IndexByte.f
  have e : ((d.toNat : Int).toNat).toUInt8 = d := by simp
  rw [e]
  congr 1
  generalize s.data.toList = l
  induction l with
  | nil => simp [Lib.indexByte, spanP]
  | cons c l ih =>
    unfold Lib.indexByte
    by_cases hc : c = d
    · subst hc
      simp [spanP]
    · have h1 : (c == d) = false := by simpa using hc
      have h2 : (c != d) = true := by simpa using hc
      rw [h1, ih]
      have e3 : spanP (fun c => c != d) (c :: l) = spanP (fun c => c != d) l + 1 := by simp [spanP, h2]
      rw [e3]
      have hle := spanP_le (fun c => c != d) l
      by_cases h3 : spanP (fun c => c != d) l = l.length
      · simp [h3]
      · have h4 : ¬ (spanP (fun c => c != d) l + 1 = l.length + 1) := by omega
        rw [if_neg h3]
        simp only [List.length_cons]
        rw [if_neg h4]
        have h5 : ((spanP (fun c => c != d) l : Int) == -1) = false := by
          rw [beq_eq_false_iff_ne]; omega
        simp [h5]

theorem has_f (set : ByteArray) (p : UInt8 → Bool) (h : IsSet set p) (c : UInt8) : lex_has.f set (c.toNat : Int) = some (p c) := by
  unfold lex_has.f
  rw [index_f, Option.bind_some, ← h.2 c]
  congr 1
  generalize set.data.toList = l
  have hle := spanP_le (fun x => x != c) l
  rw [Bool.eq_iff_iff, decide_eq_true_iff, List.contains_iff_mem]
  constructor
  · intro h1
    split at h1
    · omega
    · rename_i h2
      by_cases hm : c ∈ l
      · exact hm
      · exfalso
        apply h2
        rw [spanP_full]
        intro x hx
        simp only [bne_iff_ne, ne_eq]
        intro e
        exact hm (e ▸ hx)
  · intro hm
    split
    · rename_i h2
      exfalso
      rw [spanP_full] at h2
      have := h2 c hm
      simp at this
    · omega

theorem smalls_set : IsSet ⟨#[97, 98, 99, 100, 101, 102, 103, 104, 105, 106, 107, 108, 109, 110, 111, 112, 113, 114, 115, 116, 117, 118, 119, 120, 121, 122]⟩ isSmall :=
  ⟨by decide +kernel, fun c => by simpa using u8_all (fun c => ([97, 98, 99, 100, 101, 102, 103, 104, 105, 106, 107, 108, 109, 110, 111, 112, 113, 114, 115, 116, 117, 118, 119, 120, 121, 122].contains c == isSmall c)) (by decide +kernel) c⟩
theorem greats_set : IsSet ⟨#[65, 66, 67, 68, 69, 70, 71, 72, 73, 74, 75, 76, 77, 78, 79, 80, 81, 82, 83, 84, 85, 86, 87, 88, 89, 90, 95]⟩ isGreat :=
  ⟨by decide +kernel, fun c => by simpa using u8_all (fun c => ([65, 66, 67, 68, 69, 70, 71, 72, 73, 74, 75, 76, 77, 78, 79, 80, 81, 82, 83, 84, 85, 86, 87, 88, 89, 90, 95].contains c == isGreat c)) (by decide +kernel) c⟩
theorem digits_set : IsSet ⟨#[48, 49, 50, 51, 52, 53, 54, 55, 56, 57]⟩ isDigit :=
  ⟨by decide +kernel, fun c => by simpa using u8_all (fun c => ([48, 49, 50, 51, 52, 53, 54, 55, 56, 57].contains c == isDigit c)) (by decide +kernel) c⟩
theorem letters_set : IsSet ⟨#[97, 98, 99, 100, 101, 102, 103, 104, 105, 106, 107, 108, 109, 110, 111, 112, 113, 114, 115, 116, 117, 118, 119, 120, 121, 122, 65, 66, 67, 68, 69, 70, 71, 72, 73, 74, 75, 76, 77, 78, 79, 80, 81, 82, 83, 84, 85, 86, 87, 88, 89, 90, 95, 48, 49, 50, 51, 52, 53, 54, 55, 56, 57]⟩ isLetter :=
  ⟨by decide +kernel, fun c => by simpa using u8_all (fun c => ([97, 98, 99, 100, 101, 102, 103, 104, 105, 106, 107, 108, 109, 110, 111, 112, 113, 114, 115, 116, 117, 118, 119, 120, 121, 122, 65, 66, 67, 68, 69, 70, 71, 72, 73, 74, 75, 76, 77, 78, 79, 80, 81, 82, 83, 84, 85, 86, 87, 88, 89, 90, 95, 48, 49, 50, 51, 52, 53, 54, 55, 56, 57].contains c == isLetter c)) (by decide +kernel) c⟩
theorem quote_set : IsSet ⟨#[39]⟩ (fun c => c == 39) :=
  ⟨by decide +kernel, fun c => by simpa using u8_all (fun c => ([39].contains c == (c == 39))) (by decide +kernel) c⟩
theorem puncts_set : IsSet ⟨#[40, 41, 91, 93, 44, 124]⟩ isPunct := ⟨by decide +kernel, fun c => rfl⟩
theorem signs_set : IsSet ⟨#[43, 45, 42, 47, 92, 94, 60, 62, 61, 126, 58, 63, 64, 35, 38, 36, 46]⟩ isSign := ⟨by decide +kernel, fun c => rfl⟩
theorem blanks_set : IsSet ⟨#[32, 9, 10, 13]⟩ isBlank :=
  ⟨by decide +kernel, fun c => by simpa using u8_all (fun c => ([32, 9, 10, 13].contains c == isBlank c)) (by decide +kernel) c⟩

/-! ### pass -/
theorem spanP_cons (p : UInt8 → Bool) (c : UInt8) (l : List UInt8) : spanP p (c :: l) = if p c = true then spanP p l + 1 else 0 := by
  unfold spanP
  rw [List.takeWhile_cons]
  split <;> simp
theorem passL_blank (l : List UInt8) : passL false l = spanP isBlank l + passL false (l.drop (spanP isBlank l)) := by
  induction l with
  | nil => rfl
  | cons c l ih =>
    rw [spanP_cons]
    by_cases hb : isBlank c = true
    · rw [if_pos hb, List.drop_succ_cons]
      have h37 : ¬ c = 37 := by
        intro e; subst e; revert hb; decide
      have : passL false (c :: l) = passL false l + 1 := by
        by_cases h10 : c = 10
        · simp [passL, h10]
        · simp [passL, h10, h37, hb]
      rw [this, ih]
      omega
    · rw [if_neg hb]
      simp
theorem passL_remark (l : List UInt8) : passL true l = if spanP (fun c => c != 10) l = l.length then l.length else spanP (fun c => c != 10) l + passL false (l.drop (spanP (fun c => c != 10) l)) := by
  induction l with
  | nil => rfl
  | cons c l ih =>
    rw [spanP_cons]
    by_cases h10 : c = 10
    · subst h10
      simp [passL]
    · have hb : (c != 10) = true := by simpa using h10
      rw [if_pos hb, List.drop_succ_cons]
      have : passL true (c :: l) = passL true l + 1 := by
        by_cases h37 : c = 37
        · simp [passL, h37]
        · simp [passL, h10, h37]
      rw [this, ih]
      by_cases h : spanP (fun c => c != 10) l = l.length
      · simp [h]
      · have h' : ¬ (spanP (fun c => c != 10) l + 1 = (c :: l).length) := by simp; omega
        rw [if_neg h, if_neg h']
        omega
theorem passL_le (l : List UInt8) : ∀ r, passL r l ≤ l.length := by
  induction l with
  | nil => intro r; cases r <;> simp [passL]
  | cons c l ih =>
    intro r
    have h1 := ih r
    have h2 := ih true
    have h3 := ih false
    unfold passL
    simp only [List.length_cons]
    repeat' split
    all_goals omega
theorem spanP_head (p : UInt8 → Bool) (l : List UInt8) (c : UInt8) (r : List UInt8) (h : l.drop (spanP p l) = c :: r) : p c = false := by
  induction l with
  | nil => simp at h
  | cons d l ih =>
    rw [spanP_cons] at h
    by_cases hd : p d = true
    · rw [if_pos hd, List.drop_succ_cons] at h
      exact ih h
    · rw [if_neg hd] at h
      injection h with h1 _
      subst h1
      simpa using hd

theorem pass_l0 (s : ByteArray) (hs : s.size ≤ 1000000) (d : Nat) : ∀ (n k : Nat), n ≤ s.size → s.size - n ≤ d → 2 * d + 2 ≤ k → spanP isBlank (s.data.toList.drop n) = 0 →
    lex_pass.l0 k s n = some ((n + passL false (s.data.toList.drop n) : Nat) : Int) := by
  induction d using Nat.strongRecOn with
  | _ d ih =>
  intro n k hn hd hk hb
  obtain ⟨k, rfl⟩ : ∃ m, k = m + 1 := ⟨k - 1, by omega⟩
  obtain ⟨k, rfl⟩ : ∃ m, k = m + 1 := ⟨k - 1, by omega⟩
  simp only [lex_pass.l0]
  cases hl : s.data.toList.drop n with
  | nil =>
    have hlen : s.data.toList.length ≤ n := List.drop_eq_nil_iff.1 hl
    rw [bl_size] at hlen
    rw [if_neg (by omega)]
    simp only [lex_pass.j1]
    simp [passL]
  | cons c l =>
    have hlen : n < s.size := by
      have := congrArg List.length hl
      simp at this
      omega
    rw [if_pos (by omega), if_pos (by omega), bt_drop s n c l hl]
    have hcb : isBlank c = false := by
      rw [hl, spanP_cons] at hb
      by_cases h : isBlank c = true
      · rw [if_pos h] at hb; omega
      · simpa using h
    by_cases h37 : c = 37
    · subst h37
      have e1 : (((37 : UInt8).toNat : Int) == 37) = true := by decide
      rw [e1]
      simp only [lex_pass.j1, if_true]
      rw [if_pos (by omega), if_pos (by omega)]
      have ei := index_f (s.extract n s.size) 10
      rw [bl_from, hl] at ei
      have ei' : strings_IndexByte.f (s.extract ((n : Int).toNat) s.size) 10 = _ := ei
      rw [ei', Option.bind_some]
      have hlen2 : (37 :: l).length = s.size - n := by
        rw [← hl]; simp
      have hp : passL false (37 :: l) = passL true (37 :: l) := by simp [passL]
      rw [hp, passL_remark]
      by_cases hm : spanP (fun c => c != 10) (37 :: l) = (37 :: l).length
      · rw [if_pos hm, if_pos hm, if_pos (by omega)]
        congr 1
        omega
      · rw [if_neg hm, if_neg hm]
        have hle := spanP_le (fun c => c != 10) (37 :: l)
        have hpos : 1 ≤ spanP (fun c => c != 10) (37 :: l) := by
          rw [spanP_cons, if_pos (by decide)]
          omega
        generalize hq : spanP (fun c => c != 10) (37 :: l) = q at *
        rw [if_neg (by omega), wrapN (by omega) (by omega), if_pos (by omega), if_pos (by omega)]
        have e2 : ((n : Int) + (q : Int)).toNat = n + q := by omega
        rw [e2, span_f _ _ isBlank blanks_set (by rw [ByteArray.size_extract]; omega), Option.bind_some, bl_from]
        have hdr : s.data.toList.drop (n + q) = (37 :: l).drop q := by rw [← hl, List.drop_drop]
        have hdl : ((37 :: l).drop q).length = s.size - n - q := by rw [List.length_drop]; omega
        rw [hdr]
        have hb2 := spanP_le isBlank ((37 :: l).drop q)
        rw [wrapN (by omega) (by omega)]
        have e3 : (n : Int) + (q : Int) + (spanP isBlank ((37 :: l).drop q) : Int) = ((n + q + spanP isBlank ((37 :: l).drop q) : Nat) : Int) := by omega
        rw [e3]
        have hdr2 : s.data.toList.drop (n + q + spanP isBlank ((37 :: l).drop q)) = ((37 :: l).drop q).drop (spanP isBlank ((37 :: l).drop q)) := by
          rw [← hdr, List.drop_drop]
        rw [ih (s.size - (n + q + spanP isBlank ((37 :: l).drop q))) (by omega) _ k (by omega) (by omega) (by omega) ?_]
        · rw [hdr2]
          have := passL_blank ((37 :: l).drop q)
          congr 1
          omega
        · rw [hdr2]
          cases hx : ((37 :: l).drop q).drop (spanP isBlank ((37 :: l).drop q)) with
          | nil => rfl
          | cons a b =>
            have := spanP_head isBlank _ a b hx
            rw [spanP_cons, this]
            rfl
    · have e1 : (((c.toNat : Int)) == 37) = false := by
        rw [beq_eq_false_iff_ne]
        intro e
        apply h37
        rw [u8_eq]
        have : (37 : UInt8).toNat = 37 := rfl
        omega
      rw [e1]
      have h10 : ¬ c = 10 := by
        intro e; subst e; revert hcb; decide
      simp [lex_pass.j1, passL, h10, h37, hcb]

theorem pass_f (s : ByteArray) (hs : s.size ≤ 1000000) : ∃ k, lex_pass.f k s = some (passL false s.data.toList : Int) := by
  refine ⟨2 * s.size + 2, ?_⟩
  unfold lex_pass.f
  rw [span_f _ _ isBlank blanks_set hs, Option.bind_some]
  have hle := spanP_le isBlank s.data.toList
  rw [bl_size] at hle
  rw [pass_l0 s hs s.size _ _ hle (by omega) (by omega) ?_]
  · have := passL_blank s.data.toList
    congr 1
    omega
  · cases hx : s.data.toList.drop (spanP isBlank s.data.toList) with
    | nil => rfl
    | cons a b =>
      have := spanP_head isBlank _ a b hx
      rw [spanP_cons, this]
      rfl
end Go.Proofs.YthdccdbiichabaaDoor.P

namespace Go.Proofs.YthdccdbiichabaaDoor.P
open Go.RowKit Go.Proofs.YthdccdbiichabaaDoorW.PrintWords
set_option linter.unusedVariables false

/-- What a rule takes, as the program tells it: letters, how many bytes, an error. -/
def tells (x : Except Int (List UInt8 × Nat)) : ByteArray × Int × Int :=
  match x with
  | .error e => (⟨#[]⟩, 0, e)
  | .ok (t, n) => (⟨t.toArray⟩, n, 0)

theorem ba_eq {s : ByteArray} {l : List UInt8} (h : s.data.toList = l) : s = ⟨l.toArray⟩ := by
  obtain ⟨⟨a⟩⟩ := s
  simp at h
  subst h
  rfl

theorem ends_f (s : ByteArray) (c : UInt8) (r : List UInt8) (h : s.data.toList = c :: r) : lex_ends.f s = some (c == 46 && endsR r) := by
  have hs : s.size = r.length + 1 := by rw [← bl_size, h]; rfl
  unfold lex_ends.f
  rw [if_pos (by omega), bt_cons s c r h]
  by_cases hc : c = 46
  · subst hc
    have e0 : (((46 : UInt8).toNat : Int)) = 46 := by decide
    rw [if_pos e0]
    cases r with
    | nil =>
      rw [if_pos (by simp at hs; omega)]
      rfl
    | cons d r =>
      have hs' : s.size = r.length + 2 := by simp at hs; omega
      rw [if_neg (by omega), if_pos (by omega), bt_cons1 s 46 d r h]
      rw [has_f _ isBlank blanks_set, Option.bind_some]
      have e2 : ((d.toNat : Int) == 37) = (d == 37) := by
        rw [Bool.eq_iff_iff, beq_iff_eq, beq_iff_eq, u8_eq]
        have : (37 : UInt8).toNat = 37 := rfl
        omega
      rw [e2]
      cases hb : isBlank d <;> simp [endsR, hb]
  · have e0 : ¬ ((c.toNat : Int) = 46) := by
      intro e
      apply hc
      rw [u8_eq]
      have : (46 : UInt8).toNat = 46 := rfl
      omega
    rw [if_neg e0]
    have : (c == 46) = false := by simpa using hc
    rw [this]
    rfl

theorem single_f (s : ByteArray) (h : s.data.toList ≠ []) : lex_single.f s = some (tells (singleL s.data.toList)) := by
  have hs : 1 ≤ s.size := by
    rw [← bl_size]
    cases hl : s.data.toList with
    | nil => exact absurd hl h
    | cons a b => simp
  unfold lex_single.f
  rw [if_pos (by omega), if_pos (by omega)]
  have e : s.extract 0 1 = ⟨(s.data.toList.take 1).toArray⟩ := ba_eq (bl_to s 1)
  simp [tells, singleL, e]

theorem quoted_l0 (s : ByteArray) (hs : s.size ≤ 1000000) (n : Nat) (hn : n + 1 ≤ s.size) (d : Nat) : ∀ (i k : Nat), i + d = n → d + 1 ≤ k →
    lex_quoted.l0 k s n n i = some (if ((s.data.toList.tail.take n).drop i).all isPlain = true then ((⟨(s.data.toList.tail.take n).toArray⟩ : ByteArray), (n : Int) + 2, 0) else ((⟨#[]⟩ : ByteArray), 0, 41)) := by
  induction d with
  | zero =>
    intro i k hi hk
    obtain ⟨k, rfl⟩ : ∃ m, k = m + 1 := ⟨k - 1, by omega⟩
    simp only [lex_quoted.l0]
    rw [if_neg (by omega), wrapN (by omega) (by omega), if_pos (by omega), if_pos (by omega), wrapN (by omega) (by omega)]
    have e1 : ((s.data.toList.tail.take n).drop i) = [] := by
      apply List.drop_eq_nil_of_le
      have := List.length_take_le n s.data.toList.tail
      omega
    rw [e1]
    have e2 : ((1 : Int) + (n : Int)).toNat = n + 1 := by omega
    rw [e2]
    have e3 : s.extract 1 (n + 1) = ⟨(s.data.toList.tail.take n).toArray⟩ := by
      apply ba_eq
      rw [Lib.extract_data]
      simp
    rw [e3]
    simp
  | succ d ih =>
    intro i k hi hk
    obtain ⟨k, rfl⟩ : ∃ m, k = m + 1 := ⟨k - 1, by omega⟩
    simp only [lex_quoted.l0]
    rw [if_pos (by omega)]
    have hlen : s.data.toList.tail.length = s.size - 1 := by rw [List.length_tail, bl_size]
    have hi2 : i < (s.data.toList.tail.take n).length := by
      rw [List.length_take]
      omega
    have hdr := List.drop_eq_getElem_cons hi2
    rw [hdr, List.all_cons]
    have hbt : bt s (wrap64 (1 + (i : Int))) = (((s.data.toList.tail.take n)[i]'hi2).toNat : Int) := by
      rw [wrapN (by omega) (by omega)]
      have e1 : (1 + (i : Int)).toNat = i + 1 := by omega
      rw [bt_get s _ (by rw [e1, bl_size]; omega)]
      simp only [e1]
      congr 2
      simp [List.getElem_take, List.getElem_tail]
    rw [hbt, wrapN (by omega) (by omega), if_pos (by omega), if_pos (by omega)]
    generalize hc : (s.data.toList.tail.take n)[i]'hi2 = c
    by_cases h1 : (c.toNat : Int) < 32
    · rw [if_pos h1]
      have : isPlain c = false := by
        unfold isPlain
        have : ¬ (32 : UInt8) ≤ c := by
          rw [UInt8.le_iff_toNat_le]
          have : (32 : UInt8).toNat = 32 := rfl
          omega
        simp [this]
      simp [this]
    · rw [if_neg h1]
      by_cases h2 : (c.toNat : Int) > 126
      · rw [if_pos h2]
        have : isPlain c = false := by
          unfold isPlain
          have : ¬ c ≤ (126 : UInt8) := by
            rw [UInt8.le_iff_toNat_le]
            have : (126 : UInt8).toNat = 126 := rfl
            omega
          simp [this]
        simp [this]
      · rw [if_neg h2]
        have : isPlain c = true := by
          unfold isPlain
          have h3 : (32 : UInt8) ≤ c := by
            rw [UInt8.le_iff_toNat_le]
            have : (32 : UInt8).toNat = 32 := rfl
            omega
          have h4 : c ≤ (126 : UInt8) := by
            rw [UInt8.le_iff_toNat_le]
            have : (126 : UInt8).toNat = 126 := rfl
            omega
          simp [h3, h4]
        rw [this, Bool.true_and, wrapN (by omega) (by omega)]
        have e5 : ((i : Int) + 1) = ((i + 1 : Nat) : Int) := by omega
        rw [e5]
        exact ih (i + 1) k (by omega) (by omega)

theorem quoted_f (s : ByteArray) (hs : s.size ≤ 1000000) (h : 1 ≤ s.size) : ∃ k, lex_quoted.f k s = some (tells (quotedL s.data.toList)) := by
  refine ⟨s.size + 3, ?_⟩
  unfold lex_quoted.f
  rw [if_pos (by omega)]
  have ei := index_f (s.extract 1 s.size) 39
  rw [bl_from, List.drop_one] at ei
  have ei' : strings_IndexByte.f (s.extract 1 s.size) 39 = _ := ei
  rw [ei', Option.bind_some]
  have hlen : s.data.toList.tail.length = s.size - 1 := by rw [List.length_tail, bl_size]
  have hle := spanP_le (fun c => c != 39) s.data.toList.tail
  simp only [quotedL]
  generalize hq : spanP (fun c => c != 39) s.data.toList.tail = q at *
  have hj : ∀ x : Int, lex_quoted.j0 (s.size + 3) s x true = some ((⟨#[]⟩ : ByteArray), 0, 41) := by
    intro x
    simp [lex_quoted.j0]
  by_cases h1 : q = s.data.toList.tail.length
  · rw [if_pos h1, if_pos h1, if_pos (by omega), hj]
    rfl
  · rw [if_neg h1, if_neg h1]
    by_cases h2 : q < 1
    · rw [if_pos h2, if_pos (by omega), hj]
      rfl
    · rw [if_neg h2, if_neg (by omega)]
      by_cases h3 : q > 12
      · rw [if_pos h3]
        have : decide ((q : Int) > 12) = true := by simp; omega
        rw [this, hj]
        rfl
      · rw [if_neg h3]
        have : decide ((q : Int) > 12) = false := by simp; omega
        rw [this]
        have e6 : lex_quoted.j0 (s.size + 3) s (q : Int) false = lex_quoted.l0 (s.size + 2) s q q (0 : Nat) := by simp [lex_quoted.j0]
        rw [e6, quoted_l0 s hs q (by omega) q 0 (s.size + 2) (by omega) (by omega), List.drop_zero]
        split
        · simp [tells]
        · simp [tells]

/-! ### number -/
theorem digit_nat (c : UInt8) : isDigit c = true ↔ 48 ≤ c.toNat ∧ c.toNat ≤ 57 := by
  unfold isDigit
  rw [Bool.and_eq_true, decide_eq_true_iff, decide_eq_true_iff, UInt8.le_iff_toNat_le, UInt8.le_iff_toNat_le]
  exact Iff.rfl
theorem decFold_ge (l : List UInt8) : ∀ a : Nat, a ≤ l.foldl (fun a c => a * 10 + (c.toNat - 48)) a := by
  induction l with
  | nil => intro a; exact Nat.le_refl _
  | cons c l ih =>
    intro a
    have := ih (a * 10 + (c.toNat - 48))
    simp only [List.foldl_cons]
    omega
def decFrom (a : Nat) (l : List UInt8) : Nat := l.foldl (fun a c => a * 10 + (c.toNat - 48)) a
theorem decFrom_cons (a : Nat) (c : UInt8) (l : List UInt8) : decFrom a (c :: l) = decFrom (a * 10 + (c.toNat - 48)) l := by
  unfold decFrom
  rw [List.foldl_cons]
theorem parseUintM_cons (M a : Nat) (c : UInt8) (l : List UInt8) (hc : 48 ≤ c.toNat ∧ c.toNat ≤ 57) (ha : a < 1844674407370955162) :
    Lib.parseUintM M a (c :: l) = if M < a * 10 + (c.toNat - 48) then Lib.NumEnd.range else Lib.parseUintM M (a * 10 + (c.toNat - 48)) l := by
  have h : ¬ 1844674407370955162 ≤ a := Nat.not_le.2 ha
  simp only [Lib.parseUintM, hc, h, and_self, if_true, if_false]
theorem parse_ok (M : Nat) (hM : M < 1844674407370955162) (l : List UInt8) (hd : l.all isDigit = true) : ∀ a : Nat, decFrom a l ≤ M → Lib.parseUintM M a l = Lib.NumEnd.ok (decFrom a l) := by
  induction l with
  | nil => intro a _; rfl
  | cons c l ih =>
    intro a ha
    rw [List.all_cons, Bool.and_eq_true] at hd
    have hc := (digit_nat c).1 hd.1
    have hge : a * 10 + (c.toNat - 48) ≤ decFrom (a * 10 + (c.toNat - 48)) l := decFold_ge l (a * 10 + (c.toNat - 48))
    rw [decFrom_cons] at ha ⊢
    rw [parseUintM_cons M a c l hc (by omega)]
    rw [if_neg (by omega)]
    exact ih hd.2 _ ha
theorem parse_range (M : Nat) (hM : M < 1844674407370955162) (l : List UInt8) (hd : l.all isDigit = true) : ∀ a : Nat, a ≤ M → M < decFrom a l → Lib.parseUintM M a l = Lib.NumEnd.range := by
  induction l with
  | nil =>
    intro a h1 h2
    have : decFrom a [] = a := rfl
    omega
  | cons c l ih =>
    intro a h1 ha
    rw [List.all_cons, Bool.and_eq_true] at hd
    have hc := (digit_nat c).1 hd.1
    rw [decFrom_cons] at ha
    rw [parseUintM_cons M a c l hc (by omega)]
    by_cases hg : M < a * 10 + (c.toNat - 48)
    · rw [if_pos hg]
    · rw [if_neg hg]
      exact ih hd.2 _ (by omega) ha
theorem number_f (t : List UInt8) (hd : t.all isDigit = true) (hne : t ≠ []) (hl : t.length ≤ 20000) :
    lex_number.f ⟨t.toArray⟩ = some (if decVal t > 2147483647 then (0, 2) else ((decVal t : Int), 0)) := by
  unfold lex_number.f
  have hsz : (⟨t.toArray⟩ : ByteArray).size = t.length := by simp [ByteArray.size]
  rw [if_pos (by omega)]
  have e : Lib.parseUintB 31 (⟨t.toArray⟩ : ByteArray).data.toList = Lib.parseUintM 2147483647 0 t := by
    unfold Lib.parseUintB
    have : (2 : Nat) ^ 31 - 1 = 2147483647 := by decide
    rw [this]
    simp [hne]
  rw [e]
  have hM : (2147483647 : Nat) < 1844674407370955162 := by omega
  generalize (2147483647 : Nat) = M at *
  by_cases hg : decVal t > M
  · rw [parse_range M hM t hd 0 (by omega) hg, if_pos hg]
  · have hg' : decFrom 0 t ≤ M := Nat.le_of_not_lt hg
    rw [parse_ok M hM t hd 0 hg', if_neg hg]
    rfl
end Go.Proofs.YthdccdbiichabaaDoor.P

namespace Go.Proofs.YthdccdbiichabaaDoor.P
set_option linter.unusedVariables false

theorem rowL_len (p : UInt8 → Bool) (m : Nat) (c : UInt8) (r t : List UInt8) (n : Nat) (hc : p c = true) (h : rowL p m (c :: r) = .ok (t, n)) :
    n = spanP p (c :: r) ∧ t = (c :: r).take n ∧ 1 ≤ n ∧ n ≤ (c :: r).length ∧ n ≤ m := by
  unfold rowL at h
  split at h
  · cases h
  · injection h with h
    injection h with h1 h2
    subst h2
    refine ⟨rfl, h1.symm, ?_, spanP_le p _, by omega⟩
    rw [spanP_cons, if_pos hc]
    omega
theorem letter_small (c : UInt8) (h : isSmall c = true) : isLetter c = true := by simp [isLetter, h]
theorem letter_great (c : UInt8) (h : isGreat c = true) : isLetter c = true := by simp [isLetter, h]

theorem tk_len (i : Nat) (c : UInt8) (r t : List UInt8) (n : Nat) (hb : bg i (c :: r) = true) (h : tk i (c :: r) = .ok (t, n)) : 1 ≤ n ∧ n ≤ (c :: r).length := by
  unfold bg at hb
  unfold tk at h
  have single : ∀ {t n}, singleL (c :: r) = .ok (t, n) → 1 ≤ n ∧ n ≤ (c :: r).length := by
    intro t n h
    unfold singleL at h
    injection h with h
    injection h with h1 h2
    subst h2
    simp
  match i with
  | 0 => have := rowL_len _ _ _ _ _ _ (letter_small c hb) h; exact ⟨this.2.2.1, this.2.2.2.1⟩
  | 1 => have := rowL_len _ _ _ _ _ _ (letter_great c hb) h; exact ⟨this.2.2.1, this.2.2.2.1⟩
  | 2 => have := rowL_len _ _ _ _ _ _ hb h; exact ⟨this.2.2.1, this.2.2.2.1⟩
  | 3 =>
    simp only [quotedL] at h
    split at h
    · cases h
    · split at h
      · cases h
      · split at h
        · cases h
        · split at h
          · injection h with h
            injection h with h1 h2
            rename_i h3 _ _ _
            have hle := spanP_le (fun c => c != 39) (c :: r).tail
            have hlen : (c :: r).tail.length = r.length := rfl
            have hlen2 : (c :: r).length = r.length + 1 := rfl
            omega
          · cases h
  | 4 => exact single h
  | 5 => exact single h
  | n + 6 => have := rowL_len _ _ _ _ _ _ (show isSign c = true from hb) h; exact ⟨this.2.2.1, this.2.2.2.1⟩

theorem rowL_err (p : UInt8 → Bool) (m : Nat) (l : List UInt8) (e : Int) (h : rowL p m l = .error e) : e = 2 := by
  unfold rowL at h
  split at h
  · injection h with h
    exact h.symm
  · cases h
theorem tk_err (i : Nat) (l : List UInt8) (e : Int) (h : tk i l = .error e) : e = 2 ∨ e = 41 := by
  unfold tk at h
  have single : singleL l ≠ .error e := by unfold singleL; intro h; cases h
  match i with
  | 0 => exact .inl (rowL_err _ _ _ _ h)
  | 1 => exact .inl (rowL_err _ _ _ _ h)
  | 2 => exact .inl (rowL_err _ _ _ _ h)
  | 3 =>
    right
    simp only [quotedL] at h
    repeat' split at h
    all_goals first | (injection h with h; exact h.symm) | cases h
  | 4 => exact absurd h single
  | 5 => exact absurd h single
  | n + 6 => exact .inl (rowL_err _ _ _ _ h)

/-- What rule 2 takes are digits. -/
theorem tk_digits (c : UInt8) (r t : List UInt8) (n : Nat) (hb : bg 2 (c :: r) = true) (h : tk 2 (c :: r) = .ok (t, n)) : t.all isDigit = true ∧ t ≠ [] ∧ t.length ≤ 20000 := by
  have h1 := rowL_len isDigit 20000 c r t n hb h
  obtain ⟨rfl, rfl, h2, h3, h4⟩ := h1
  refine ⟨?_, ?_, ?_⟩
  · rw [List.all_eq_true]
    have : ∀ l : List UInt8, ∀ x ∈ l.take (spanP isDigit l), isDigit x = true := by
      intro l
      induction l with
      | nil => intro x hx; simp at hx
      | cons d l ih =>
        intro x hx
        rw [spanP_cons] at hx
        by_cases hd : isDigit d = true
        · rw [if_pos hd, List.take_succ_cons] at hx
          rcases List.mem_cons.1 hx with rfl | hx
          · exact hd
          · exact ih x hx
        · rw [if_neg hd] at hx
          simp at hx
    exact this _
  · intro he
    have := congrArg List.length he
    rw [List.length_take] at this
    simp at this
    omega
  · rw [List.length_take]
    omega

theorem lex_done (k : Nat) (s : List UInt8) (at' : Nat) (out : List Tok) (R : List Tok × Int × Int) (hl : s.drop at' = []) (HA : lexL (k + 1) (s.drop at') at' out = R) : R = (out, 0, 0) := by
  rw [← HA, hl]
  simp [lexL]
theorem lex_err (k : Nat) (s : List UInt8) (at' : Nat) (out : List Tok) (R : List Tok × Int × Int) (c : UInt8) (r : List UInt8) (hl : s.drop at' = c :: r) (e : Int) (ht : tokL (c :: r) = .error e) (HA : lexL (k + 1) (s.drop at') at' out = R) : R = ([], (at' : Int), e) := by
  rw [← HA, hl]
  simp [lexL, ht]
theorem lex_step (k : Nat) (s : List UInt8) (at' : Nat) (out : List Tok) (R : List Tok × Int × Int) (c : UInt8) (r : List UInt8) (hl : s.drop at' = c :: r) (t : Tk) (ht : tokL (c :: r) = .ok t) (HA : lexL (k + 1) (s.drop at') at' out = R)
    (m q : Nat) (hm : m = at' + t.len) (hq : q = passL false (s.drop m)) : lexL k (s.drop (m + q)) (m + q) (out ++ [⟨t.kind, t.text, t.val, (at' : Int)⟩]) = R := by
  have e1 : (c :: r).drop t.len = s.drop m := by rw [← hl, List.drop_drop, hm]
  rw [← HA, hl]
  simp only [lexL, ht]
  rw [if_neg (by simp), e1, List.drop_drop, hq, hm]

theorem tokD_no (d : Nat) (l : List UInt8) (h : bg (6 - d) l = false) : tokD (d + 1) l = tokD d l := by
  simp [tokD, h]
theorem tokD_yes (d : Nat) (l : List UInt8) (h : bg (6 - d) l = true) : tokD (d + 1) l = act (6 - d) l := by
  simp [tokD, h]
theorem act_err (i : Nat) (l : List UInt8) (e : Int) (h : tk i l = .error e) : act i l = .error e := by
  simp [act, h]
theorem act_ok (i : Nat) (l t : List UInt8) (n : Nat) (hi : i ≠ 2) (h : tk i l = .ok (t, n)) : act i l = .ok ⟨kindOf i, t, 0, n⟩ := by
  simp [act, h, hi]
theorem act_num (l t : List UInt8) (n : Nat) (h : tk 2 l = .ok (t, n)) (hv : ¬ decVal t > 2147483647) : act 2 l = .ok ⟨3, t, decVal t, n⟩ := by
  simp only [act, h, if_true]
  rw [if_neg hv]
theorem act_big (l t : List UInt8) (n : Nat) (h : tk 2 l = .ok (t, n)) (hv : decVal t > 2147483647) : act 2 l = .error 2 := by
  simp only [act, h, if_true]
  rw [if_pos hv]
end Go.Proofs.YthdccdbiichabaaDoor.P
/- Laws of the tokens of a text, in plain Lean. No program in sight. No condition. -/
namespace Go.Proofs.YthdccdbiichabaaDoor.P
set_option linter.unusedVariables false

/-- A text is read so, from a place on: its tokens, or a place and an error. -/
inductive LX : List UInt8 → Nat → Except (Nat × Int) (List Tok) → Prop where
  | done (l : List UInt8) (at' : Nat) (h : l.drop (passL false l) = []) : LX l at' (.ok [])
  | err (l : List UInt8) (at' : Nat) (c : UInt8) (r : List UInt8) (e : Int) (h : l.drop (passL false l) = c :: r) (ht : tokL (c :: r) = .error e) : LX l at' (.error (at' + passL false l, e))
  | ok (l : List UInt8) (at' : Nat) (c : UInt8) (r : List UInt8) (t : Tk) (ts : List Tok) (h : l.drop (passL false l) = c :: r) (ht : tokL (c :: r) = .ok t) (hr : LX ((c :: r).drop t.len) (at' + passL false l + t.len) (.ok ts)) :
      LX l at' (.ok (⟨t.kind, t.text, t.val, ((at' + passL false l : Nat) : Int)⟩ :: ts))
  | fail (l : List UInt8) (at' : Nat) (c : UInt8) (r : List UInt8) (t : Tk) (x : Nat × Int) (h : l.drop (passL false l) = c :: r) (ht : tokL (c :: r) = .ok t) (hr : LX ((c :: r).drop t.len) (at' + passL false l + t.len) (.error x)) :
      LX l at' (.error x)

theorem tok_len (c : UInt8) (r : List UInt8) (t : Tk) (h : tokL (c :: r) = .ok t) : 1 ≤ t.len ∧ t.len ≤ (c :: r).length := by
  have key : ∀ d, tokD d (c :: r) = .ok t → 1 ≤ t.len ∧ t.len ≤ (c :: r).length := by
    intro d
    induction d with
    | zero => intro h; cases h
    | succ d ih =>
      intro h
      cases hb : bg (6 - d) (c :: r) with
      | false => rw [tokD_no d _ hb] at h; exact ih h
      | true =>
        rw [tokD_yes d _ hb] at h
        unfold act at h
        cases ht : tk (6 - d) (c :: r) with
        | error e => rw [ht] at h; cases h
        | ok tn =>
          obtain ⟨t', n⟩ := tn
          rw [ht] at h
          have hn := tk_len _ c r t' n hb ht
          simp only at h
          split at h
          · split at h
            · cases h
            · injection h with h; subst h; exact hn
          · injection h with h; subst h; exact hn
  exact key 7 h

theorem LX_total (n : Nat) : ∀ (l : List UInt8) (at' : Nat), l.length ≤ n → ∃ x, LX l at' x := by
  induction n with
  | zero =>
    intro l at' h
    have : l = [] := by cases l with | nil => rfl | cons a b => simp at h
    subst this
    exact ⟨_, .done [] at' rfl⟩
  | succ n ih =>
    intro l at' h
    cases hd : l.drop (passL false l) with
    | nil => exact ⟨_, .done l at' hd⟩
    | cons c r =>
      cases ht : tokL (c :: r) with
      | error e => exact ⟨_, .err l at' c r e hd ht⟩
      | ok t =>
        have hp := tok_len c r t ht
        have hl : (c :: r).length ≤ l.length := by rw [← hd, List.length_drop]; omega
        obtain ⟨x, hx⟩ := ih ((c :: r).drop t.len) (at' + passL false l + t.len) (by rw [List.length_drop]; omega)
        cases x with
        | ok ts => exact ⟨_, .ok l at' c r t ts hd ht hx⟩
        | error x => exact ⟨_, .fail l at' c r t x hd ht hx⟩

def outX (out : List Tok) : Except (Nat × Int) (List Tok) → List Tok × Int × Int
  | .error x => ([], (x.1 : Int), x.2)
  | .ok ts => (out ++ ts, 0, 0)

theorem LX_lexL {l : List UInt8} {at' : Nat} {x : Except (Nat × Int) (List Tok)} (h : LX l at' x) : ∀ (k : Nat) (out : List Tok), l.length < k → lexL k (l.drop (passL false l)) (at' + passL false l) out = outX out x := by
  induction h with
  | done l at' h =>
    intro k out hk
    obtain ⟨k, rfl⟩ : ∃ m, k = m + 1 := ⟨k - 1, by omega⟩
    rw [h]
    simp [lexL, outX]
  | err l at' c r e h ht =>
    intro k out hk
    obtain ⟨k, rfl⟩ : ∃ m, k = m + 1 := ⟨k - 1, by omega⟩
    rw [h]
    simp [lexL, outX, ht]
  | ok l at' c r t ts h ht hr ih =>
    intro k out hk
    obtain ⟨k, rfl⟩ : ∃ m, k = m + 1 := ⟨k - 1, by omega⟩
    have hp := tok_len c r t ht
    have hl : (c :: r).length ≤ l.length := by rw [← h, List.length_drop]; omega
    have := ih k (out ++ [⟨t.kind, t.text, t.val, ((at' + passL false l : Nat) : Int)⟩]) (by rw [List.length_drop]; omega)
    rw [h]
    simp only [lexL, ht]
    rw [if_neg (by simp), this]
    simp [outX]
  | fail l at' c r t x h ht hr ih =>
    intro k out hk
    obtain ⟨k, rfl⟩ : ∃ m, k = m + 1 := ⟨k - 1, by omega⟩
    have hp := tok_len c r t ht
    have hl : (c :: r).length ≤ l.length := by rw [← h, List.length_drop]; omega
    have := ih k (out ++ [⟨t.kind, t.text, t.val, ((at' + passL false l : Nat) : Int)⟩]) (by rw [List.length_drop]; omega)
    rw [h]
    simp only [lexL, ht]
    rw [if_neg (by simp), this]
    simp [outX]

theorem lexAll_of {l : List UInt8} {x : Except (Nat × Int) (List Tok)} (hl : l.length ≤ 20000) (h : LX l 0 x) : lexAll l = outX [] x := by
  unfold lexAll
  rw [if_neg (by omega)]
  have := LX_lexL h (l.length + 1) [] (by omega)
  rw [Nat.zero_add] at this
  exact this

def shiftX (d : Nat) : Except (Nat × Int) (List Tok) → Except (Nat × Int) (List Tok)
  | .error x => .error (x.1 + d, x.2)
  | .ok ts => .ok (ts.map fun t => ⟨t.kind, t.text, t.val, t.at' + d⟩)

theorem LX_shift {l : List UInt8} {at' : Nat} {x : Except (Nat × Int) (List Tok)} (h : LX l at' x) (d : Nat) : LX l (at' + d) (shiftX d x) := by
  induction h with
  | done l at' h => exact .done l _ h
  | err l at' c r e h ht =>
    have := LX.err l (at' + d) c r e h ht
    have e1 : at' + d + passL false l = at' + passL false l + d := by omega
    rw [e1] at this
    exact this
  | ok l at' c r t ts h ht hr ih =>
    have e1 : at' + d + passL false l = at' + passL false l + d := by omega
    have e2 : at' + passL false l + t.len + d = at' + d + passL false l + t.len := by omega
    rw [e2] at ih
    have := LX.ok l (at' + d) c r t _ h ht ih
    rw [e1] at this
    have e3 : ((at' + passL false l + d : Nat) : Int) = ((at' + passL false l : Nat) : Int) + (d : Int) := by omega
    rw [e3] at this
    exact this
  | fail l at' c r t x h ht hr ih =>
    have e2 : at' + passL false l + t.len + d = at' + d + passL false l + t.len := by omega
    rw [e2] at ih
    exact .fail l (at' + d) c r t _ h ht ih

/-! ### what stands behind a text: a byte that ends whatever there is -/
/-- A byte that goes on with no token: a line feed, a blank, a remark's sign. -/
def Ends (d : UInt8) : Prop := isLetter d = false ∧ isDigit d = false ∧ isSign d = false ∧ (isBlank d || d == 37) = true
theorem ends_10 : Ends 10 := by unfold Ends; decide
theorem ends_32 : Ends 32 := by unfold Ends; decide
theorem ends_37 : Ends 37 := by unfold Ends; decide

theorem spanP_app (p : UInt8 → Bool) (l : List UInt8) (d : UInt8) (y : List UInt8) (hd : p d = false) : spanP p (l ++ d :: y) = spanP p l := by
  induction l with
  | nil => rw [List.nil_append, spanP_cons, hd]; rfl
  | cons c l ih => rw [List.cons_append, spanP_cons, spanP_cons, ih]
theorem rowL_app (p : UInt8 → Bool) (m : Nat) (l : List UInt8) (d : UInt8) (y : List UInt8) (hd : p d = false) : rowL p m (l ++ d :: y) = rowL p m l := by
  unfold rowL
  have hle := spanP_le p l
  rw [spanP_app p l d y hd, List.take_append_of_le_length hle]

theorem spanP_lt_app (p : UInt8 → Bool) (l y : List UInt8) (h : spanP p l < l.length) : spanP p (l ++ y) = spanP p l := by
  induction l with
  | nil => simp at h
  | cons c l ih =>
    rw [spanP_cons] at h
    rw [List.cons_append, spanP_cons, spanP_cons]
    by_cases hc : p c = true
    · rw [if_pos hc] at h ⊢
      rw [if_pos hc, ih (by simpa using h)]
    · rw [if_neg hc, if_neg hc]
theorem quotedL_app_ok (l y : List UInt8) (x : List UInt8 × Nat) (h : quotedL l = .ok x) : quotedL (l ++ y) = .ok x := by
  cases l with
  | nil =>
    have e : quotedL [] = .error 41 := rfl
    rw [e] at h
    cases h
  | cons c r =>
    have hle := spanP_le (fun c => c != 39) r
    have e : quotedL (c :: r ++ y) = if spanP (fun c => c != 39) (r ++ y) = (r ++ y).length then .error 41 else if spanP (fun c => c != 39) (r ++ y) < 1 then .error 41 else if spanP (fun c => c != 39) (r ++ y) > 12 then .error 41 else if ((r ++ y).take (spanP (fun c => c != 39) (r ++ y))).all isPlain = true then .ok ((r ++ y).take (spanP (fun c => c != 39) (r ++ y)), spanP (fun c => c != 39) (r ++ y) + 2) else .error 41 := rfl
    have e0 : quotedL (c :: r) = if spanP (fun c => c != 39) r = r.length then .error 41 else if spanP (fun c => c != 39) r < 1 then .error 41 else if spanP (fun c => c != 39) r > 12 then .error 41 else if (r.take (spanP (fun c => c != 39) r)).all isPlain = true then .ok (r.take (spanP (fun c => c != 39) r), spanP (fun c => c != 39) r + 2) else .error 41 := rfl
    rw [e0] at h
    by_cases h1 : spanP (fun c => c != 39) r = r.length
    · rw [if_pos h1] at h; cases h
    · rw [if_neg h1] at h
      have h2 := spanP_lt_app (fun c => c != 39) r y (by omega)
      rw [e, h2, List.take_append_of_le_length hle, if_neg (by rw [List.length_append]; omega)]
      exact h
theorem quotedL_err (l : List UInt8) (e : Int) (h : quotedL l = .error e) : e = 41 := by
  simp only [quotedL] at h
  repeat' split at h
  all_goals first | (injection h with h; exact h.symm) | cases h
theorem quotedL_app_err (c : UInt8) (r y : List UInt8) (h : quotedL (c :: r) = .error 41) : quotedL (c :: r ++ 10 :: y) = .error 41 := by
  have e : quotedL (c :: r ++ 10 :: y) = if spanP (fun c => c != 39) (r ++ 10 :: y) = (r ++ 10 :: y).length then .error 41 else if spanP (fun c => c != 39) (r ++ 10 :: y) < 1 then .error 41 else if spanP (fun c => c != 39) (r ++ 10 :: y) > 12 then .error 41 else if ((r ++ 10 :: y).take (spanP (fun c => c != 39) (r ++ 10 :: y))).all isPlain = true then .ok ((r ++ 10 :: y).take (spanP (fun c => c != 39) (r ++ 10 :: y)), spanP (fun c => c != 39) (r ++ 10 :: y) + 2) else .error 41 := rfl
  have e0 : quotedL (c :: r) = if spanP (fun c => c != 39) r = r.length then .error 41 else if spanP (fun c => c != 39) r < 1 then .error 41 else if spanP (fun c => c != 39) r > 12 then .error 41 else if (r.take (spanP (fun c => c != 39) r)).all isPlain = true then .ok (r.take (spanP (fun c => c != 39) r), spanP (fun c => c != 39) r + 2) else .error 41 := rfl
  rw [e0] at h
  rw [e]
  by_cases h1 : spanP (fun c => c != 39) r = r.length
  · -- no quote's end in the line: the line feed lies in what is quoted
    have hall := (spanP_full (fun c => c != 39) r).1 h1
    have hge : r.length + 1 ≤ spanP (fun c => c != 39) (r ++ 10 :: y) := takeWhile_all_take _ _ _ (by simp) (fun x hx => by
      rw [List.take_append] at hx
      rcases List.mem_append.1 hx with hx | hx
      · exact hall x (List.mem_of_mem_take hx)
      · have : r.length + 1 - r.length = 1 := by omega
        rw [this] at hx
        simp at hx
        rw [hx]; decide)
    have hbad : ((r ++ 10 :: y).take (spanP (fun c => c != 39) (r ++ 10 :: y))).all isPlain = false := by
      rw [List.all_eq_false]
      refine ⟨10, ?_, by decide⟩
      have h10 : (10 : UInt8) ∈ (r ++ 10 :: y).take (r.length + 1) := by
        rw [List.take_append]
        apply List.mem_append_right
        have : r.length + 1 - r.length = 1 := by omega
        rw [this]
        simp
      have : (r ++ 10 :: y).take (r.length + 1) = ((r ++ 10 :: y).take (spanP (fun c => c != 39) (r ++ 10 :: y))).take (r.length + 1) := by rw [List.take_take, Nat.min_eq_left hge]
      rw [this] at h10
      exact List.mem_of_mem_take h10
    simp only [hbad, Bool.false_eq_true, if_false, ite_self]
  · have hle := spanP_le (fun c => c != 39) r
    have h2 := spanP_lt_app (fun c => c != 39) r (10 :: y) (by omega)
    rw [if_neg h1] at h
    rw [h2, List.take_append_of_le_length hle, if_neg (by rw [List.length_append]; omega)]
    exact h

theorem bg_app (i : Nat) (c : UInt8) (r : List UInt8) (d : UInt8) (y : List UInt8) (hd : Ends d) : bg i (c :: r ++ d :: y) = bg i (c :: r) := by
  obtain ⟨h1, h2, h3, h4⟩ := hd
  match i with
  | 0 => rfl
  | 1 => rfl
  | 2 => rfl
  | 3 => rfl
  | 4 => rfl
  | 5 =>
    cases r with
    | nil =>
      show (c == 46 && endsR (d :: y)) = (c == 46 && endsR [])
      simp only [endsR, h4]
    | cons a b => rfl
  | n + 6 => rfl
theorem tk_app_ok (i : Nat) (c : UInt8) (r : List UInt8) (d : UInt8) (y : List UInt8) (hd : Ends d) (x : List UInt8 × Nat) (h : tk i (c :: r) = .ok x) : tk i (c :: r ++ d :: y) = .ok x := by
  obtain ⟨h1, h2, h3, h4⟩ := hd
  match i with
  | 0 => exact (rowL_app isLetter 12 (c :: r) d y h1).trans h
  | 1 => exact (rowL_app isLetter 20000 (c :: r) d y h1).trans h
  | 2 => exact (rowL_app isDigit 20000 (c :: r) d y h2).trans h
  | 3 => exact quotedL_app_ok (c :: r) (d :: y) x h
  | 4 => exact h
  | 5 => exact h
  | n + 6 => exact (rowL_app isSign 12 (c :: r) d y h3).trans h
theorem tk_app_10 (i : Nat) (c : UInt8) (r y : List UInt8) : tk i (c :: r ++ 10 :: y) = tk i (c :: r) := by
  obtain ⟨h1, h2, h3, h4⟩ := ends_10
  match i with
  | 0 => exact rowL_app isLetter 12 (c :: r) 10 y h1
  | 1 => exact rowL_app isLetter 20000 (c :: r) 10 y h1
  | 2 => exact rowL_app isDigit 20000 (c :: r) 10 y h2
  | 3 =>
    show quotedL (c :: r ++ 10 :: y) = quotedL (c :: r)
    cases h : quotedL (c :: r) with
    | ok x => exact quotedL_app_ok (c :: r) (10 :: y) x h
    | error e =>
      have := quotedL_err _ _ h
      subst this
      exact quotedL_app_err c r y h
  | 4 => rfl
  | 5 => rfl
  | n + 6 => exact rowL_app isSign 12 (c :: r) 10 y h3
theorem act_app_10 (i : Nat) (c : UInt8) (r y : List UInt8) : act i (c :: r ++ 10 :: y) = act i (c :: r) := by
  unfold act
  rw [tk_app_10]
theorem act_app_ok (i : Nat) (c : UInt8) (r : List UInt8) (d : UInt8) (y : List UInt8) (hd : Ends d) (t : Tk) (h : act i (c :: r) = .ok t) : act i (c :: r ++ d :: y) = .ok t := by
  unfold act at h ⊢
  cases ht : tk i (c :: r) with
  | error e => rw [ht] at h; cases h
  | ok x => rw [ht] at h; rw [tk_app_ok i c r d y hd x ht]; exact h
theorem tokL_app_10 (c : UInt8) (r y : List UInt8) : tokL (c :: r ++ 10 :: y) = tokL (c :: r) := by
  have key : ∀ d, tokD d (c :: r ++ 10 :: y) = tokD d (c :: r) := by
    intro d
    induction d with
    | zero => rfl
    | succ d ih =>
      unfold tokD
      rw [bg_app _ c r 10 y ends_10, act_app_10, ih]
  exact key 7
theorem tokL_app_ok (c : UInt8) (r : List UInt8) (d : UInt8) (y : List UInt8) (hd : Ends d) (t : Tk) (h : tokL (c :: r) = .ok t) : tokL (c :: r ++ d :: y) = .ok t := by
  have key : ∀ k, tokD k (c :: r) = .ok t → tokD k (c :: r ++ d :: y) = .ok t := by
    intro k
    induction k with
    | zero => intro h; cases h
    | succ k ih =>
      intro h
      unfold tokD at h ⊢
      rw [bg_app _ c r d y hd]
      split at h
      · rename_i hb
        rw [if_pos hb]
        exact act_app_ok _ c r d y hd t h
      · rename_i hb
        rw [if_neg hb]
        exact ih h
  exact key 7 h

/-! ### passing over what stands between two texts -/
theorem passL_app (l y : List UInt8) : ∀ b, passL b l < l.length → passL b (l ++ y) = passL b l := by
  induction l with
  | nil => intro b h; simp at h
  | cons c l ih =>
    intro b h
    rw [List.cons_append]
    simp only [passL] at h ⊢
    simp only [List.length_cons] at h
    split
    · rename_i h10
      rw [if_pos h10] at h
      rw [ih false (by omega)]
    · rename_i h10
      rw [if_neg h10] at h
      split
      · rename_i h37
        rw [if_pos h37] at h
        rw [ih true (by omega)]
      · rename_i h37
        rw [if_neg h37] at h
        split
        · rename_i hb
          rw [if_pos hb] at h
          rw [ih b (by omega)]
        · rfl
theorem passL_full_10 (l y : List UInt8) : ∀ b, passL b l = l.length → passL b (l ++ 10 :: y) = l.length + 1 + passL false y := by
  induction l with
  | nil =>
    intro b _
    rw [List.nil_append]
    simp only [passL, if_true, List.length_nil]
    omega
  | cons c l ih =>
    intro b h
    rw [List.cons_append]
    simp only [passL] at h ⊢
    simp only [List.length_cons] at h ⊢
    split
    · rename_i h10
      rw [if_pos h10] at h
      rw [ih false (by omega)]
      omega
    · rename_i h10
      rw [if_neg h10] at h
      split
      · rename_i h37
        rw [if_pos h37] at h
        rw [ih true (by omega)]
        omega
      · rename_i h37
        rw [if_neg h37] at h
        split
        · rename_i hb
          rw [if_pos hb] at h
          rw [ih b (by omega)]
          omega
        · rename_i hb
          rw [if_neg hb] at h
          omega
theorem passL_true_to (c y : List UInt8) (hc : ∀ x ∈ c, x ≠ 10) : passL true (c ++ 10 :: y) = c.length + 1 + passL false y := by
  have h : passL true c = c.length := by
    rw [passL_remark]
    rw [if_pos]
    rw [spanP_full]
    intro x hx
    simpa using hc x hx
  exact passL_full_10 c y true h
theorem passL_full_37 (l c y : List UInt8) (hc : ∀ x ∈ c, x ≠ 10) : ∀ b, passL b l = l.length → passL b (l ++ 37 :: (c ++ 10 :: y)) = l.length + 1 + (c.length + 1 + passL false y) := by
  induction l with
  | nil =>
    intro b _
    rw [List.nil_append]
    have h37 : ¬ ((37 : UInt8) = 10) := by decide
    simp only [passL, h37, if_false, if_true, List.length_nil]
    rw [passL_true_to c y hc]
    omega
  | cons a l ih =>
    intro b h
    rw [List.cons_append]
    simp only [passL] at h ⊢
    simp only [List.length_cons] at h ⊢
    split
    · rename_i h10
      rw [if_pos h10] at h
      rw [ih false (by omega)]
      omega
    · rename_i h10
      rw [if_neg h10] at h
      split
      · rename_i h37
        rw [if_pos h37] at h
        rw [ih true (by omega)]
        omega
      · rename_i h37
        rw [if_neg h37] at h
        split
        · rename_i hb
          rw [if_pos hb] at h
          rw [ih b (by omega)]
          omega
        · rename_i hb
          rw [if_neg hb] at h
          omega
theorem passL_full (l : List UInt8) (h : l.drop (passL false l) = []) : passL false l = l.length := by
  have := passL_le l false
  have h2 := List.drop_eq_nil_iff.1 h
  omega
theorem passL_part (l : List UInt8) (c : UInt8) (r : List UInt8) (h : l.drop (passL false l) = c :: r) : passL false l < l.length := by
  have h2 := congrArg List.length h
  rw [List.length_drop, List.length_cons] at h2
  omega
theorem passL_skip (l y : List UInt8) (h : passL false l = l.length) (hq : passL false (l ++ y) = l.length + passL false y) : (l ++ y).drop (passL false (l ++ y)) = y.drop (passL false y) := by
  rw [hq, ← List.drop_drop, List.drop_left]

/-- What follows a text that is passed over whole, is read as it is by itself, further on. -/
theorem LX_skip {y : List UInt8} {at' : Nat} {x : Except (Nat × Int) (List Tok)} (h : LX y at' x) (l : List UInt8) (hq : passL false (l ++ y) = l.length + passL false y) : ∀ a, at' = a + l.length → LX (l ++ y) a x := by
  have hdr : (l ++ y).drop (passL false (l ++ y)) = y.drop (passL false y) := by rw [hq, ← List.drop_drop, List.drop_left]
  intro a ha
  subst ha
  have e1 : a + passL false (l ++ y) = a + l.length + passL false y := by rw [hq]; omega
  cases h with
  | done _ _ h => exact .done _ _ (hdr.trans h)
  | err _ _ c r e h ht =>
    have := LX.err (l ++ y) a c r e (hdr.trans h) ht
    rw [e1] at this
    exact this
  | ok _ _ c r t ts h ht hr =>
    have := LX.ok (l ++ y) a c r t ts (hdr.trans h) ht (by rw [e1]; exact hr)
    rw [e1] at this
    exact this
  | fail _ _ c r t x h ht hr => exact .fail (l ++ y) a c r t x (hdr.trans h) ht (by rw [e1]; exact hr)

def joinX (ts : List Tok) : Except (Nat × Int) (List Tok) → Except (Nat × Int) (List Tok)
  | .error x => .error x
  | .ok us => .ok (ts ++ us)

/-- What is well, and a piece s behind it that ends each token and is passed over whole, and a text: the tokens of the one, and what the other is read as. -/
theorem LX_join {a : List UInt8} {at' : Nat} {ts : List Tok} (h : LX a at' (.ok ts)) (d : UInt8) (s y : List UInt8) (hd : Ends d)
    (hs : ∀ l : List UInt8, passL false l = l.length → passL false (l ++ d :: (s ++ y)) = l.length + (s.length + 1) + passL false y)
    {x : Except (Nat × Int) (List Tok)} (hy : LX y (at' + a.length + (s.length + 1)) x) : LX (a ++ d :: (s ++ y)) at' (joinX ts x) := by
  generalize hx : (Except.ok ts : Except (Nat × Int) (List Tok)) = z at h
  induction h generalizing ts with
  | done l at' h =>
    injection hx with hx
    subst hx
    have hf := passL_full l h
    have hq := hs l hf
    have : LX ((l ++ d :: s) ++ y) at' x := LX_skip hy (l ++ d :: s) (by simp only [List.append_assoc, List.cons_append, List.length_append, List.length_cons]; omega) at' (by simp only [List.length_append, List.length_cons]; omega)
    rw [List.append_assoc, List.cons_append] at this
    cases x <;> exact this
  | err => cases hx
  | ok l at' c r t ts' h ht hr ih =>
    injection hx with hx
    subst hx
    have hlt := passL_part l c r h
    have hp := tok_len c r t ht
    have hlen : (c :: r).length = l.length - passL false l := by rw [← h, List.length_drop]
    have ep : passL false (l ++ d :: (s ++ y)) = passL false l := passL_app l _ false hlt
    have ed : (l ++ d :: (s ++ y)).drop (passL false (l ++ d :: (s ++ y))) = c :: (r ++ d :: (s ++ y)) := by
      rw [ep, List.drop_append_of_le_length (by omega), h]
      rfl
    have et : tokL (c :: (r ++ d :: (s ++ y))) = .ok t := tokL_app_ok c r d (s ++ y) hd t ht
    have e1 : (c :: (r ++ d :: (s ++ y))).drop t.len = (c :: r).drop t.len ++ d :: (s ++ y) := by
      rw [← List.cons_append, List.drop_append_of_le_length hp.2]
    have hy' : LX y (at' + passL false l + t.len + ((c :: r).drop t.len).length + (s.length + 1)) x := by
      have : at' + passL false l + t.len + ((c :: r).drop t.len).length + (s.length + 1) = at' + l.length + (s.length + 1) := by
        rw [List.length_drop, hlen]; omega
      rw [this]; exact hy
    have h2 := ih hy' rfl
    cases x with
    | ok us =>
      have := LX.ok (l ++ d :: (s ++ y)) at' c (r ++ d :: (s ++ y)) t (ts' ++ us) ed et (by rw [e1, ep]; exact h2)
      rw [ep] at this
      exact this
    | error x => exact LX.fail (l ++ d :: (s ++ y)) at' c (r ++ d :: (s ++ y)) t x ed et (by rw [e1, ep]; exact h2)
  | fail => cases hx

/-- What is wrong with a line is so, whatever stands in the next one. -/
theorem LX_wrong {a : List UInt8} {at' : Nat} {x : Nat × Int} (h : LX a at' (.error x)) (y : List UInt8) : LX (a ++ 10 :: y) at' (.error x) := by
  generalize hx : (Except.error x : Except (Nat × Int) (List Tok)) = z at h
  induction h with
  | done => cases hx
  | ok => cases hx
  | err l at' c r e h ht =>
    injection hx with hx
    subst hx
    have hlt := passL_part l c r h
    have ep : passL false (l ++ 10 :: y) = passL false l := passL_app l _ false hlt
    have := LX.err (l ++ 10 :: y) at' c (r ++ 10 :: y) e (by rw [ep, List.drop_append_of_le_length (by omega), h]; rfl) ((tokL_app_10 c r y).trans ht)
    rw [ep] at this
    exact this
  | fail l at' c r t x' h ht hr ih =>
    injection hx with hx
    subst hx
    have hlt := passL_part l c r h
    have hp := tok_len c r t ht
    have ep : passL false (l ++ 10 :: y) = passL false l := passL_app l _ false hlt
    refine LX.fail (l ++ 10 :: y) at' c (r ++ 10 :: y) t _ (by rw [ep, List.drop_append_of_le_length (by omega), h]; rfl) ((tokL_app_10 c r y).trans ht) ?_
    have e1 : (c :: (r ++ 10 :: y)).drop t.len = (c :: r).drop t.len ++ 10 :: y := by
      rw [← List.cons_append, List.drop_append_of_le_length hp.2]
    rw [e1, ep]
    exact ih rfl

/-- Two lines. -/
theorem LX_lines {a b : List UInt8} {ts : List Tok} {x : Except (Nat × Int) (List Tok)} (h : LX a 0 (.ok ts)) (hb : LX b 0 x) : LX (a ++ 10 :: b) 0 (joinX ts (shiftX (a.length + 1) x)) := by
  have := LX_shift hb (a.length + 1)
  have h2 := LX_join h 10 [] b ends_10 (fun l hl => by rw [List.nil_append, passL_full_10 l b false hl]; simp) (x := shiftX (a.length + 1) x) (by simpa using this)
  simpa using h2
/-- A remark at a line's end, and blanks. -/
theorem LX_remark {a b c w : List UInt8} {ts : List Tok} {x : Except (Nat × Int) (List Tok)} (hc : ∀ z ∈ c, z ≠ 10) (hw : ∀ y, passL false (w ++ y) = w.length + passL false y) (h : LX a 0 (.ok ts)) (hb : LX b 0 x) :
    LX (a ++ 37 :: (c ++ 10 :: (w ++ b))) 0 (joinX ts (shiftX (a.length + c.length + w.length + 2) x)) := by
  have := LX_shift hb (a.length + c.length + w.length + 2)
  have e0 : c ++ 10 :: (w ++ b) = (c ++ 10 :: w) ++ b := by rw [List.append_assoc, List.cons_append]
  rw [e0]
  refine LX_join h 37 (c ++ 10 :: w) b ends_37 (fun l hl => ?_) ?_
  · rw [List.append_assoc, List.cons_append, passL_full_37 l c (w ++ b) hc false hl, hw]
    simp
    omega
  · have e1 : 0 + a.length + ((c ++ 10 :: w).length + 1) = 0 + (a.length + c.length + w.length + 2) := by simp; omega
    rw [e1]
    exact this
end Go.Proofs.YthdccdbiichabaaDoor.P

namespace Go.Proofs.YthdccdbiichabaaDoor.P
set_option linter.unusedVariables false

theorem LX_bounds {l : List UInt8} {a : Nat} {x : Except (Nat × Int) (List Tok)} (h : LX l a x) : ∀ ts, x = .ok ts → ts.length ≤ l.length ∧ ∀ t ∈ ts, (a : Int) ≤ t.at' ∧ t.at' < a + l.length := by
  induction h with
  | done l a h => intro ts e; injection e with e; subst e; simp
  | err => intro ts e; cases e
  | fail => intro ts e; cases e
  | ok l a c r t ts' h ht hr ih =>
    intro ts e
    injection e with e
    subst e
    obtain ⟨h1, h2⟩ := ih ts' rfl
    have hp := tok_len c r t ht
    have hlt := passL_part l c r h
    have hlen : (c :: r).length = l.length - passL false l := by rw [← h, List.length_drop]
    rw [List.length_drop] at h1 h2
    refine ⟨by simp only [List.length_cons] at *; omega, fun u hu => ?_⟩
    rcases List.mem_cons.1 hu with rfl | hu
    · simp only
      omega
    · have := h2 u hu
      omega
theorem LX_errs {l : List UInt8} {a : Nat} {x : Except (Nat × Int) (List Tok)} (h : LX l a x) : ∀ p e, x = .error (p, e) → a ≤ p ∧ p < a + l.length ∧ (e = 2 ∨ e = 41 ∨ e = 40) := by
  induction h with
  | done => intro p e h; cases h
  | ok => intro p e h; cases h
  | err l a c r e0 h ht =>
    intro p e he
    injection he with he
    injection he with h1 h2
    subst h1; subst h2
    have hlt := passL_part l c r h
    refine ⟨by omega, by omega, ?_⟩
    have key : ∀ d, tokD d (c :: r) = .error e0 → e0 = 2 ∨ e0 = 41 ∨ e0 = 40 := by
      intro d
      induction d with
      | zero => intro h; injection h with h; right; right; exact h.symm
      | succ d ih =>
        intro h
        cases hb : bg (6 - d) (c :: r) with
        | false => rw [tokD_no d _ hb] at h; exact ih h
        | true =>
          rw [tokD_yes d _ hb] at h
          unfold act at h
          cases ht : tk (6 - d) (c :: r) with
          | error e' =>
            rw [ht] at h
            injection h with h
            rcases tk_err _ _ _ ht with h' | h' <;> omega
          | ok tn =>
            obtain ⟨t', n⟩ := tn
            rw [ht] at h
            simp only at h
            split at h
            · split at h
              · injection h with h; omega
              · cases h
            · cases h
    exact key 7 ht
  | fail l a c r t x h ht hr ih =>
    intro p e he
    injection he with he
    subst he
    have hlt := passL_part l c r h
    have hp := tok_len c r t ht
    have hlen : (c :: r).length = l.length - passL false l := by rw [← h, List.length_drop]
    obtain ⟨h1, h2, h3⟩ := ih p e rfl
    rw [List.length_drop] at h2
    exact ⟨by omega, by omega, h3⟩

theorem lexAll_cases (l : List UInt8) (hl : l.length ≤ 20000) : (∃ ts, LX l 0 (.ok ts) ∧ lexAll l = (ts, 0, 0)) ∨ (∃ p e, LX l 0 (.error (p, e)) ∧ lexAll l = ([], (p : Int), e) ∧ (e = 2 ∨ e = 41 ∨ e = 40)) := by
  obtain ⟨x, hx⟩ := LX_total l.length l 0 (Nat.le_refl _)
  have he := lexAll_of hl hx
  cases x with
  | ok ts => exact .inl ⟨ts, hx, by rw [he]; rfl⟩
  | error pe =>
    obtain ⟨p, e⟩ := pe
    exact .inr ⟨p, e, hx, by rw [he]; rfl, (LX_errs hx p e rfl).2.2⟩
theorem lexAll_great (l : List UInt8) (hl : 20000 < l.length) : lexAll l = ([], 0, 2) := by
  unfold lexAll
  rw [if_pos (by omega)]
theorem lexAll_bounds (l : List UInt8) : (lexAll l).1.length ≤ 20000 ∧ ∀ t ∈ (lexAll l).1, 0 ≤ t.at' ∧ t.at' ≤ 20000 := by
  by_cases hl : l.length ≤ 20000
  · rcases lexAll_cases l hl with ⟨ts, h, e⟩ | ⟨p, e', h, e, _⟩
    · rw [e]
      obtain ⟨h1, h2⟩ := LX_bounds h ts rfl
      refine ⟨by simp only; omega, fun t ht => ?_⟩
      have := h2 t ht
      omega
    · rw [e]
      simp
  · rw [lexAll_great l (by omega)]
    simp
end Go.Proofs.YthdccdbiichabaaDoor.P

namespace Go.Proofs.YthdccdbiichabaaDoor.P
set_option linter.unusedVariables false

/-- What stands for a rule that fits, as it is told. -/
inductive Kind7 (c : UInt8) (r : List UInt8) (t : Tk) : Prop where
  | name (h : isSmall c = true) (hk : t.kind = 1) (ht : t.text = (c :: r).take (spanP isLetter (c :: r))) (hv : t.val = 0) (hn : t.len = spanP isLetter (c :: r)) (hm : t.len ≤ 12)
  | vname (h : isGreat c = true) (hk : t.kind = 2) (ht : t.text = (c :: r).take (spanP isLetter (c :: r))) (hv : t.val = 0) (hn : t.len = spanP isLetter (c :: r)) (hm : t.len ≤ 20000)
  | num (h : isDigit c = true) (hk : t.kind = 3) (ht : t.text = (c :: r).take (spanP isDigit (c :: r))) (hv : t.val = decVal t.text) (hg : decVal t.text ≤ 2147483647) (hn : t.len = spanP isDigit (c :: r)) (hm : t.len ≤ 20000)
  | quote (n : Nat) (h : c = 39) (hk : t.kind = 1) (hs : spanP (fun c => c != 39) r = n) (h0 : n < r.length) (h1 : 1 ≤ n) (h2 : n ≤ 12) (hp : (r.take n).all isPlain = true) (ht : t.text = r.take n) (hv : t.val = 0) (hn : t.len = n + 2)
  | punct (h : isPunct c = true) (hk : t.kind = 5) (ht : t.text = [c]) (hv : t.val = 0) (hn : t.len = 1)
  | full (h : c = 46) (he : endsR r = true) (hk : t.kind = 6) (ht : t.text = [c]) (hv : t.val = 0) (hn : t.len = 1)
  | sym (h : isSign c = true) (he : (c == 46 && endsR r) = false) (hk : t.kind = 4) (ht : t.text = (c :: r).take (spanP isSign (c :: r))) (hv : t.val = 0) (hn : t.len = spanP isSign (c :: r)) (hm : t.len ≤ 12)

theorem act_row' (i : Nat) (c : UInt8) (r : List UInt8) (p : UInt8 → Bool) (m : Nat) (hi : i ≠ 2) (h : tk i (c :: r) = rowL p m (c :: r)) (t : Tk) (ht : act i (c :: r) = .ok t) : t = ⟨kindOf i, (c :: r).take (spanP p (c :: r)), 0, spanP p (c :: r)⟩ ∧ spanP p (c :: r) ≤ m := by
  unfold act at ht
  rw [h] at ht
  unfold rowL at ht
  by_cases hg : spanP p (c :: r) > m
  · rw [if_pos hg] at ht; cases ht
  · rw [if_neg hg] at ht
    simp only [hi, if_false] at ht
    injection ht with ht
    exact ⟨ht.symm, by omega⟩
theorem act_single' (i : Nat) (c : UInt8) (r : List UInt8) (hi : i ≠ 2) (h : tk i (c :: r) = singleL (c :: r)) (t : Tk) (ht : act i (c :: r) = .ok t) : t = ⟨kindOf i, [c], 0, 1⟩ := by
  unfold act at ht
  rw [h] at ht
  simp [singleL, hi] at ht
  exact ht.symm

theorem tok_kind (c : UInt8) (r : List UInt8) (t : Tk) (ht : tokL (c :: r) = .ok t) : Kind7 c r t := by
  have e : tokL (c :: r) = if isSmall c = true then act 0 (c :: r) else if isGreat c = true then act 1 (c :: r) else if isDigit c = true then act 2 (c :: r) else if (c == 39) = true then act 3 (c :: r) else if isPunct c = true then act 4 (c :: r) else if (c == 46 && endsR r) = true then act 5 (c :: r) else if isSign c = true then act 6 (c :: r) else .error 40 := rfl
  rw [e] at ht
  by_cases h0 : isSmall c = true
  · rw [if_pos h0] at ht
    obtain ⟨rfl, hm⟩ := act_row' 0 c r isLetter 12 (by decide) rfl t ht
    exact .name h0 rfl rfl rfl rfl hm
  · rw [if_neg h0] at ht
    by_cases h1 : isGreat c = true
    · rw [if_pos h1] at ht
      obtain ⟨rfl, hm⟩ := act_row' 1 c r isLetter 20000 (by decide) rfl t ht
      exact .vname h1 rfl rfl rfl rfl hm
    · rw [if_neg h1] at ht
      by_cases h2 : isDigit c = true
      · rw [if_pos h2] at ht
        cases hk : tk 2 (c :: r) with
        | error e => rw [act_err 2 _ _ hk] at ht; cases ht
        | ok x =>
          obtain ⟨t', n⟩ := x
          have hl := rowL_len isDigit 20000 c r t' n h2 hk
          by_cases hv : decVal t' > 2147483647
          · rw [act_big _ _ _ hk hv] at ht; cases ht
          · rw [act_num _ _ _ hk hv] at ht
            injection ht with ht
            subst ht
            refine .num h2 rfl ?_ rfl (by simp only; omega) hl.1 hl.2.2.2.2
            show t' = _
            rw [hl.2.1, hl.1]
      · rw [if_neg h2] at ht
        by_cases h3 : (c == 39) = true
        · rw [if_pos h3] at ht
          have h3' : c = 39 := by simpa using h3
          cases hk : tk 3 (c :: r) with
          | error e => rw [act_err 3 _ _ hk] at ht; cases ht
          | ok x =>
            obtain ⟨t', n⟩ := x
            rw [act_ok 3 _ _ _ (by decide) hk] at ht
            injection ht with ht
            subst ht
            have hq : quotedL (c :: r) = .ok (t', n) := hk
            have e0 : quotedL (c :: r) = if spanP (fun c => c != 39) r = r.length then .error 41 else if spanP (fun c => c != 39) r < 1 then .error 41 else if spanP (fun c => c != 39) r > 12 then .error 41 else if (r.take (spanP (fun c => c != 39) r)).all isPlain = true then .ok (r.take (spanP (fun c => c != 39) r), spanP (fun c => c != 39) r + 2) else .error 41 := rfl
            rw [e0] at hq
            have hle := spanP_le (fun c => c != 39) r
            by_cases q1 : spanP (fun c => c != 39) r = r.length
            · rw [if_pos q1] at hq; cases hq
            · rw [if_neg q1] at hq
              by_cases q2 : spanP (fun c => c != 39) r < 1
              · rw [if_pos q2] at hq; cases hq
              · rw [if_neg q2] at hq
                by_cases q3 : spanP (fun c => c != 39) r > 12
                · rw [if_pos q3] at hq; cases hq
                · rw [if_neg q3] at hq
                  by_cases q4 : (r.take (spanP (fun c => c != 39) r)).all isPlain = true
                  · rw [if_pos q4] at hq
                    injection hq with hq
                    injection hq with hq1 hq2
                    exact .quote _ h3' rfl rfl (by omega) (by omega) (by omega) q4 hq1.symm rfl hq2.symm
                  · rw [if_neg q4] at hq; cases hq
        · rw [if_neg h3] at ht
          by_cases h4 : isPunct c = true
          · rw [if_pos h4] at ht
            have := act_single' 4 c r (by decide) rfl t ht
            subst this
            exact .punct h4 rfl rfl rfl rfl
          · rw [if_neg h4] at ht
            by_cases h5 : (c == 46 && endsR r) = true
            · rw [if_pos h5] at ht
              have := act_single' 5 c r (by decide) rfl t ht
              subst this
              rw [Bool.and_eq_true] at h5
              exact .full (by simpa using h5.1) h5.2 rfl rfl rfl rfl
            · rw [if_neg h5] at ht
              by_cases h6 : isSign c = true
              · rw [if_pos h6] at ht
                obtain ⟨rfl, hm⟩ := act_row' 6 c r isSign 12 (by decide) rfl t ht
                exact .sym h6 (by simpa using h5) rfl rfl rfl rfl hm
              · rw [if_neg h6] at ht; cases ht

/-- The kind that a token's first byte tells. -/
def wantK (c : UInt8) : Int := if (c == 39 || isSmall c) = true then 1 else if isGreat c = true then 2 else if isDigit c = true then 3 else if isSign c = true then 4 else 5

theorem u8_prop (P : UInt8 → Prop) [DecidablePred P] (h : (List.range 256).all (fun n => decide (P (UInt8.ofNat n))) = true) (c : UInt8) : P c :=
  of_decide_eq_true (u8_all (fun c => decide (P c)) h c)
theorem byte_facts (c : UInt8) : (isSmall c = true → wantK c = 1 ∧ c ≠ 39 ∧ isPlain c = true) ∧ (isGreat c = true → wantK c = 2 ∧ c ≠ 39) ∧ (isDigit c = true → wantK c = 3 ∧ c ≠ 39) ∧ (c = 39 → wantK c = 1) ∧ (isPunct c = true → wantK c = 5 ∧ c ≠ 39) ∧ (isSign c = true → wantK c = 4 ∧ c ≠ 39 ∧ isSmall c = false ∧ isGreat c = false ∧ isDigit c = false ∧ isPunct c = false ∧ isBlank c = false ∧ c ≠ 37) ∧ (isLetter c = true → c ≠ 39 ∧ isPlain c = true ∧ isBlank c = false ∧ c ≠ 37) ∧ (isPunct c = true → isSmall c = false ∧ isGreat c = false ∧ isDigit c = false ∧ isBlank c = false ∧ c ≠ 37) ∧ (isGreat c = true → isSmall c = false) ∧ (isDigit c = true → isSmall c = false ∧ isGreat c = false ∧ isLetter c = true) := by
  exact ⟨u8_prop (fun c => isSmall c = true → wantK c = 1 ∧ c ≠ 39 ∧ isPlain c = true) (by decide +kernel) c, u8_prop (fun c => isGreat c = true → wantK c = 2 ∧ c ≠ 39) (by decide +kernel) c, u8_prop (fun c => isDigit c = true → wantK c = 3 ∧ c ≠ 39) (by decide +kernel) c, u8_prop (fun c => c = 39 → wantK c = 1) (by decide +kernel) c, u8_prop (fun c => isPunct c = true → wantK c = 5 ∧ c ≠ 39) (by decide +kernel) c, u8_prop (fun c => isSign c = true → wantK c = 4 ∧ c ≠ 39 ∧ isSmall c = false ∧ isGreat c = false ∧ isDigit c = false ∧ isPunct c = false ∧ isBlank c = false ∧ c ≠ 37) (by decide +kernel) c, u8_prop (fun c => isLetter c = true → c ≠ 39 ∧ isPlain c = true ∧ isBlank c = false ∧ c ≠ 37) (by decide +kernel) c, u8_prop (fun c => isPunct c = true → isSmall c = false ∧ isGreat c = false ∧ isDigit c = false ∧ isBlank c = false ∧ c ≠ 37) (by decide +kernel) c, u8_prop (fun c => isGreat c = true → isSmall c = false) (by decide +kernel) c, u8_prop (fun c => isDigit c = true → isSmall c = false ∧ isGreat c = false ∧ isLetter c = true) (by decide +kernel) c⟩

theorem take_len (p : UInt8 → Bool) (l : List UInt8) : (l.take (spanP p l)).length = spanP p l := by
  rw [List.length_take]
  have := spanP_le p l
  omega

/-- A token's text, and where it lies. -/
theorem tok_text (c : UInt8) (r : List UInt8) (t : Tk) (ht : tokL (c :: r) = .ok t) : 1 ≤ t.text.length ∧ (c ≠ 39 → t.text = (c :: r).take t.text.length ∧ t.len = t.text.length) ∧ (c = 39 → t.text = r.take t.text.length ∧ t.len = t.text.length + 2) := by
  have hb := byte_facts c
  have hp := tok_len c r t ht
  cases tok_kind c r t ht with
  | name h hk ht hv hn hm =>
    have e := take_len isLetter (c :: r)
    rw [← ht] at e
    exact ⟨by omega, fun _ => ⟨by rw [e]; exact ht, by omega⟩, fun h' => absurd h' (hb.1 h).2.1⟩
  | vname h hk ht hv hn hm =>
    have e := take_len isLetter (c :: r)
    rw [← ht] at e
    exact ⟨by omega, fun _ => ⟨by rw [e]; exact ht, by omega⟩, fun h' => absurd h' (hb.2.1 h).2⟩
  | num h hk ht hv hg hn hm =>
    have e := take_len isDigit (c :: r)
    rw [← ht] at e
    exact ⟨by omega, fun _ => ⟨by rw [e]; exact ht, by omega⟩, fun h' => absurd h' (hb.2.2.1 h).2⟩
  | quote n h hk hs h0 h1 h2 hp' ht hv hn =>
    have e : t.text.length = n := by rw [ht, List.length_take]; omega
    exact ⟨by omega, fun h' => absurd h h', fun _ => ⟨by rw [e]; exact ht, by omega⟩⟩
  | punct h hk ht hv hn =>
    have e : t.text.length = 1 := by rw [ht]; rfl
    exact ⟨by omega, fun _ => ⟨by rw [e]; exact ht, by omega⟩, fun h' => absurd h' (hb.2.2.2.2.1 h).2⟩
  | full h he hk ht hv hn =>
    have e : t.text.length = 1 := by rw [ht]; rfl
    exact ⟨by omega, fun _ => ⟨by rw [e]; exact ht, by omega⟩, fun h' => absurd (h.symm.trans h') (by decide)⟩
  | sym h he hk ht hv hn hm =>
    have e := take_len isSign (c :: r)
    rw [← ht] at e
    exact ⟨by omega, fun _ => ⟨by rw [e]; exact ht, by omega⟩, fun h' => absurd h' (hb.2.2.2.2.2.1 h).2.1⟩

/-- A token's kind, limits and number. -/
theorem tok_limits (c : UInt8) (r : List UInt8) (t : Tk) (ht : tokL (c :: r) = .ok t) : (t.kind = wantK c ∨ (t.kind = 6 ∧ t.text = [46] ∧ c = 46)) ∧ 0 ≤ t.val ∧ t.val ≤ 2147483647 ∧ (t.val ≠ 0 → t.kind = 3) ∧ ((wantK c = 1 ∨ wantK c = 4) → t.text.length ≤ 12) ∧ (wantK c = 5 → t.text.length = 1) := by
  have hb := byte_facts c
  cases tok_kind c r t ht with
  | name h hk ht hv hn hm =>
    have e := take_len isLetter (c :: r)
    rw [← ht] at e
    have hw := (hb.1 h).1
    exact ⟨.inl (hk.trans hw.symm), by omega, by omega, fun h' => absurd hv h', fun _ => by omega, fun h' => by omega⟩
  | vname h hk ht hv hn hm =>
    have hw := (hb.2.1 h).1
    exact ⟨.inl (hk.trans hw.symm), by omega, by omega, fun h' => absurd hv h', fun h' => by omega, fun h' => by omega⟩
  | num h hk ht hv hg hn hm =>
    have hw := (hb.2.2.1 h).1
    exact ⟨.inl (hk.trans hw.symm), by omega, by omega, fun _ => hk, fun h' => by omega, fun h' => by omega⟩
  | quote n h hk hs h0 h1 h2 hp ht hv hn =>
    have e : t.text.length = n := by rw [ht, List.length_take]; omega
    have hw := hb.2.2.2.1 h
    exact ⟨.inl (hk.trans hw.symm), by omega, by omega, fun h' => absurd hv h', fun _ => by omega, fun h' => by omega⟩
  | punct h hk ht hv hn =>
    have e : t.text.length = 1 := by rw [ht]; rfl
    have hw := (hb.2.2.2.2.1 h).1
    exact ⟨.inl (hk.trans hw.symm), by omega, by omega, fun h' => absurd hv h', fun h' => by omega, fun _ => e⟩
  | full h he hk ht hv hn =>
    have e : t.text.length = 1 := by rw [ht]; rfl
    have hw : wantK c = 4 := by rw [h]; decide
    exact ⟨.inr ⟨hk, by rw [ht, h], h⟩, by omega, by omega, fun h' => absurd hv h', fun _ => by omega, fun h' => by omega⟩
  | sym h he hk ht hv hn hm =>
    have e := take_len isSign (c :: r)
    rw [← ht] at e
    have hw := (hb.2.2.2.2.2.1 h).1
    exact ⟨.inl (hk.trans hw.symm), by omega, by omega, fun h' => absurd hv h', fun _ => by omega, fun h' => by omega⟩

/-- What is told of each token of a text, where it lies. -/
theorem LX_each {Q : List UInt8 → Nat → Tok → Prop} (s : List UInt8) (hQ : ∀ (a : Nat) (c : UInt8) (r : List UInt8) (t : Tk), s.drop a = c :: r → tokL (c :: r) = .ok t → Q s a ⟨t.kind, t.text, t.val, (a : Int)⟩) {l : List UInt8} {a : Nat} {x : Except (Nat × Int) (List Tok)} (h : LX l a x) : l = s.drop a → ∀ ts, x = .ok ts → ∀ t ∈ ts, ∃ b, Q s b t := by
  induction h with
  | done => intro _ ts e; injection e with e; subst e; intro t ht; cases ht
  | err => intro _ ts e; cases e
  | fail => intro _ ts e; cases e
  | ok l a c r t ts' h ht hr ih =>
    intro hl ts e
    injection e with e
    subst e
    have hd : s.drop (a + passL false l) = c :: r := by rw [← List.drop_drop, ← hl, h]
    intro u hu
    rcases List.mem_cons.1 hu with rfl | hu
    · exact ⟨_, hQ _ c r t hd ht⟩
    · refine ih ?_ ts' rfl u hu
      rw [← List.drop_drop, hd]
end Go.Proofs.YthdccdbiichabaaDoor.P
