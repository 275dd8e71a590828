/- A decimal number, with zeros ahead, is that number, up to 2^31 - 1; above it is too great: the pure statement. No condition. -/
import Derived.Test.YtpdlfokfjkmplaaDoorLexL
import Derived.Test.YtpdlfokfjkmplaaDoorLex
import Derived.Test.YtpdlfokfjkmplaaDoorFmt
import Derived.Test.YtpdlfokfjkmplaaDoorHead04
import Derived.Test.YtpdlfokfjkmplaaDoorPx17
namespace Go.Proofs.YtpdlfokfjkmplaaDoor.Pure
open Go.RowKit Go.Proofs.YtpdlfokfjkmplaaDoor.P Go.Proofs.YtpdlfokfjkmplaaDoorW.PrintWords Go.Proofs.YtpdlfokfjkmplaaDoorW.PrintLast

theorem decFrom_snoc (l : List UInt8) (a : Nat) (d : UInt8) : decFrom a (l ++ [d]) = decFrom a l * 10 + (d.toNat - 48) := by
  unfold decFrom
  rw [List.foldl_append]
  rfl
theorem dig_byte (k : Nat) (h : k < 10) : isDigit (UInt8.ofNat (48 + k)) = true ∧ (UInt8.ofNat (48 + k)).toNat = 48 + k := by
  have e : (UInt8.ofNat (48 + k)).toNat = 48 + k := by
    rw [UInt8.toNat_ofNat']
    omega
  exact ⟨(digit_nat _).2 (by omega), e⟩
theorem dec_all (u : Nat) : (Lib.decDigits u).all isDigit = true ∧ Lib.decDigits u ≠ [] ∧ decFrom 0 (Lib.decDigits u) = u := by
  induction u using Nat.strongRecOn with
  | _ u ih =>
  rw [Lib.decDigits]
  by_cases h : u < 10
  · rw [dif_pos h]
    obtain ⟨h1, h2⟩ := dig_byte u h
    refine ⟨by rw [List.all_cons, h1]; rfl, by simp, ?_⟩
    have : decFrom 0 [UInt8.ofNat (48 + u)] = 0 * 10 + ((UInt8.ofNat (48 + u)).toNat - 48) := rfl
    rw [this, h2]
    omega
  · rw [dif_neg h]
    obtain ⟨h1, h2⟩ := dig_byte (u % 10) (Nat.mod_lt _ (by decide))
    obtain ⟨i1, i2, i3⟩ := ih (u / 10) (by omega)
    refine ⟨by rw [List.all_append, i1, List.all_cons, h1]; rfl, by simp, ?_⟩
    rw [decFrom_snoc, i3, h2]
    omega
theorem dec_len (u : Nat) (k : Nat) (hk : 1 ≤ k) (h : u < 10 ^ k) : (Lib.decDigits u).length ≤ k := by
  induction k generalizing u with
  | zero => omega
  | succ k ih =>
    rw [Lib.decDigits]
    by_cases h10 : u < 10
    · rw [dif_pos h10]; simp
    · rw [dif_neg h10]
      rw [List.length_append]
      have hp : 10 ^ (k + 1) = 10 ^ k * 10 := by rw [Nat.pow_succ]
      by_cases hk0 : k = 0
      · subst hk0; simp at h; omega
      · have := ih (u / 10) (by omega) (by omega)
        simp only [List.length_cons, List.length_nil]
        omega

/-- What is asked of the numeral. -/
def NumT (n : Nat) (t : List UInt8) : Prop := t.all isDigit = true ∧ t ≠ [] ∧ decFrom 0 t = n
theorem NumT.zero {n : Nat} {t : List UInt8} (h : NumT n t) : NumT n (48 :: t) := by
  refine ⟨by rw [List.all_cons, h.1]; decide, by simp, ?_⟩
  rw [decFrom_cons]
  exact h.2.2

theorem lex_num (n : Nat) (t : List UInt8) (h : NumT n t) (hl : t.length ≤ 60) : lexAll (32 :: (t ++ [46])) = if n > 2147483647 then ([], 1, 2) else ([⟨3, t, n, 1⟩, ⟨6, [46], 0, ((1 + t.length : Nat) : Int)⟩], 0, 0) := by
  obtain ⟨hd, hne, hv⟩ := h
  cases t with
  | nil => exact absurd rfl hne
  | cons c r =>
    have hc : isDigit c = true := by rw [List.all_cons, Bool.and_eq_true] at hd; exact hd.1
    have hcb : isBlank c = false ∧ c ≠ 10 ∧ c ≠ 37 ∧ isSmall c = false ∧ isGreat c = false := u8_prop (fun c => isDigit c = true → isBlank c = false ∧ c ≠ 10 ∧ c ≠ 37 ∧ isSmall c = false ∧ isGreat c = false) (by decide +kernel) c hc
    have hp0 : passL false (c :: (r ++ [46])) = 0 := by simp [passL, hcb]
    have hp : passL false (32 :: (c :: r ++ [46])) = 1 := by
      have : passL false (32 :: (c :: r ++ [46])) = passL false (c :: (r ++ [46])) + 1 := by
        rw [List.cons_append]
        generalize c :: (r ++ [46]) = y
        have h10 : ¬ ((32 : UInt8) = 10) := by decide
        have h37 : ¬ ((32 : UInt8) = 37) := by decide
        have hb : isBlank 32 = true := by decide
        simp [passL, h10, h37, hb]
      rw [this, hp0]
    have hdr : (32 :: (c :: r ++ [46])).drop (passL false (32 :: (c :: r ++ [46]))) = c :: (r ++ [46]) := by rw [hp]; rfl
    have hsp : spanP isDigit (c :: (r ++ [46])) = (c :: r).length := by
      have := spanP_app isDigit (c :: r) 46 [] (by decide)
      rw [List.cons_append] at this
      rw [this, spanP_full]
      exact fun x hx => List.all_eq_true.1 hd x hx
    have htk : tk 2 (c :: (r ++ [46])) = .ok (c :: r, (c :: r).length) := by
      show rowL isDigit 20000 (c :: (r ++ [46])) = _
      unfold rowL
      rw [hsp, if_neg (by omega)]
      have : (c :: (r ++ [46])).take (c :: r).length = c :: r := by
        rw [← List.cons_append, List.take_left]
      rw [this]
    have htok : tokL (c :: (r ++ [46])) = act 2 (c :: (r ++ [46])) := by
      have e : tokL (c :: (r ++ [46])) = if isSmall c = true then act 0 (c :: (r ++ [46])) else if isGreat c = true then act 1 (c :: (r ++ [46])) else if isDigit c = true then act 2 (c :: (r ++ [46])) else if (c == 39) = true then act 3 (c :: (r ++ [46])) else if isPunct c = true then act 4 (c :: (r ++ [46])) else if (c == 46 && endsR (r ++ [46])) = true then act 5 (c :: (r ++ [46])) else if isSign c = true then act 6 (c :: (r ++ [46])) else .error 40 := rfl
      rw [e, hcb.2.2.2.1, hcb.2.2.2.2, hc]
      simp only [Bool.false_eq_true, if_false, if_true]
    have hll : (32 :: (c :: r ++ [46])).length ≤ 20000 := by simp only [List.length_cons, List.length_append, List.length_nil] at *; omega
    have hdv : decVal (c :: r) = n := hv
    by_cases hg : n > 2147483647
    · rw [if_pos hg]
      have := LX.err (32 :: (c :: r ++ [46])) 0 c (r ++ [46]) 2 hdr (htok.trans (act_big _ _ _ htk (by omega)))
      rw [hp] at this
      exact lexAll_of hll this
    · rw [if_neg hg]
      have h2 : LX [46] (0 + 1 + (c :: r).length) (.ok [⟨6, [46], 0, ((0 + 1 + (c :: r).length : Nat) : Int)⟩]) :=
        LX.ok [46] (0 + 1 + (c :: r).length) 46 [] ⟨6, [46], 0, 1⟩ [] rfl rfl (LX.done [] _ rfl)
      have e1 : (c :: (r ++ [46])).drop (c :: r).length = [46] := by rw [← List.cons_append, List.drop_left]
      have := LX.ok (32 :: (c :: r ++ [46])) 0 c (r ++ [46]) ⟨3, c :: r, decVal (c :: r), (c :: r).length⟩ _ hdr (htok.trans (act_num _ _ _ htk (by omega))) (by rw [hp, e1]; exact h2)
      rw [hp, hdv] at this
      have h3 := lexAll_of hll this
      rw [h3]
      have e2 : ((0 + 1 + (c :: r).length : Nat) : Int) = ((1 + (c :: r).length : Nat) : Int) := by omega
      rw [e2]
      rfl

theorem numbers_l0 (n : Nat) (z : Int) (m : Nat) (hm : wrap64 (Int.tmod z 20) = (m : Int)) (hm2 : m ≤ 19) (d : Nat) : ∀ (i k : Nat) (T : ByteArray), i + d = m → d < k → NumT n T.data.toList → T.size ≤ 20 + i →
    sorrellaw04_LexNumbers.l0 k n z true T i = some true := by
  induction d with
  | zero =>
    intro i k T hi hk hT hs
    obtain ⟨k, rfl⟩ : ∃ m, k = m + 1 := ⟨k - 1, by omega⟩
    have lT := bl_size T
    have hsz : ((⟨#[32]⟩ : ByteArray) ++ T).size = 1 + T.size := by rw [← bl_size, ByteArray.data_append, Array.toList_append, List.length_append, bl_size]; rfl
    have hd : (((⟨#[32]⟩ : ByteArray) ++ T) ++ (⟨#[46]⟩ : ByteArray)).data.toList = 32 :: (T.data.toList ++ [46]) := by
      simp
    have hlx := lex_num n T.data.toList hT (by omega)
    simp only [sorrellaw04_LexNumbers.l0]
    rw [hm, if_neg (by omega), if_pos (by omega), if_pos (by omega)]
    have hf : lex_Lex.f (((⟨#[32]⟩ : ByteArray) ++ T) ++ (⟨#[46]⟩ : ByteArray)) = some ((lexAll (32 :: (T.data.toList ++ [46]))).1.map tokS, (lexAll (32 :: (T.data.toList ++ [46]))).2.1, (lexAll (32 :: (T.data.toList ++ [46]))).2.2) := by
      rw [← hd]; rfl
    rw [hf, Option.bind_some, hlx]
    by_cases hg : n > 2147483647
    · rw [if_pos hg, if_pos (by omega)]
      simp
    · rw [if_neg hg, if_neg (by omega)]
      have e1 : wrap64 (n : Int) = (n : Int) := wrapN (by omega) (by omega)
      have e2 : (⟨T.data.toList.toArray⟩ : ByteArray) = T := by simp
      simp only [List.map_cons, List.map_nil, List.length_cons, List.length_nil]
      have r0 : rd_T30 [tokS ⟨3, T.data.toList, n, 1⟩, tokS ⟨6, [46], 0, ((1 + T.data.toList.length : Nat) : Int)⟩] 0 = tokS ⟨3, T.data.toList, n, 1⟩ := rfl
      have r1 : rd_T30 [tokS ⟨3, T.data.toList, n, 1⟩, tokS ⟨6, [46], 0, ((1 + T.data.toList.length : Nat) : Int)⟩] 1 = tokS ⟨6, [46], 0, ((1 + T.data.toList.length : Nat) : Int)⟩ := rfl
      rw [r0, r1, e1]
      have t0 : (tokS ⟨3, T.data.toList, n, 1⟩).f1 = T := e2
      rw [t0]
      simp [tokS]
  | succ d ih =>
    intro i k T hi hk hT hs
    obtain ⟨k, rfl⟩ : ∃ m, k = m + 1 := ⟨k - 1, by omega⟩
    simp only [sorrellaw04_LexNumbers.l0]
    have e1 : wrap64 ((i : Int) + 1) = ((i + 1 : Nat) : Int) := by rw [wrapN (by omega) (by omega)]; omega
    rw [hm, if_pos (by omega), if_pos (by omega), e1]
    have hsz : ((⟨#[48]⟩ : ByteArray) ++ T).size = 1 + T.size := by rw [← bl_size, ByteArray.data_append, Array.toList_append, List.length_append, bl_size]; rfl
    have hd : ((⟨#[48]⟩ : ByteArray) ++ T).data.toList = 48 :: T.data.toList := by simp
    exact ih (i + 1) k _ (by omega) (by omega) (by rw [hd]; exact hT.zero) (by omega)

theorem LexNumbers : sorrellaw04_LexNumbers.Pure := by
  intro x z hx hz
  have hx2 : 0 ≤ x ∧ x ≤ 18446744073709551615 := by
    simp [Lit.wf, IntKind.min, IntKind.max, IntKind.signed, IntKind.bits] at hx
    omega
  have hz2 : 0 ≤ z ∧ z ≤ 255 := by
    simp [Lit.wf, IntKind.min, IntKind.max, IntKind.signed, IntKind.bits] at hz
    omega
  obtain ⟨n, rfl⟩ : ∃ n : Nat, x = n := ⟨x.toNat, by omega⟩
  refine ⟨60, ?_⟩
  have htm : Int.tmod z 20 = z % 20 := Int.tmod_eq_emod_of_nonneg hz2.1
  have hm : wrap64 (Int.tmod z 20) = (((wrap64 (Int.tmod z 20)).toNat : Nat) : Int) := by
    rw [htm, wrapN (by omega) (by omega)]; omega
  have hm4 : (wrap64 (Int.tmod z 20)).toNat ≤ 19 := by
    rw [htm, wrapN (by omega) (by omega)]; omega
  unfold sorrellaw04_LexNumbers.f
  have hf : strconv_FormatUint.f (n : Int) 10 = some ⟨(Lib.decDigits n).toArray⟩ := by
    unfold strconv_FormatUint.f
    rw [if_pos rfl, if_pos (by omega)]
    rfl
  rw [head_at 60 (by omega), Option.bind_some, hf, Option.bind_some]
  have hd := dec_all n
  have hlen := dec_len n 20 (by omega) (by omega)
  refine numbers_l0 n z _ hm hm4 (wrap64 (Int.tmod z 20)).toNat 0 60 ⟨(Lib.decDigits n).toArray⟩ (by omega) (by omega) ⟨hd.1, hd.2.1, hd.2.2⟩ ?_
  have : (⟨(Lib.decDigits n).toArray⟩ : ByteArray).size = (Lib.decDigits n).length := by simp [ByteArray.size]
  omega
end Go.Proofs.YtpdlfokfjkmplaaDoor.Pure
