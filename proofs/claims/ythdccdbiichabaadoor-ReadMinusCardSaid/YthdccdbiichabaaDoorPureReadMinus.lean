/- A sign directly ahead of a number, where a term may begin, is its own; with a blank between it is an operator, and so it is behind a term: the pure statement. No condition. -/
import Derived.Test.YthdccdbiichabaaDoorRdX
import Derived.Test.YthdccdbiichabaaDoorRdD
import Derived.Test.YthdccdbiichabaaDoorHd
import Derived.KernelRfl
import Derived.Lib.ItoaNum
import Derived.Test.YthdccdbiichabaaDoorPx10
import Derived.Test.YthdccdbiichabaaDoorMn
namespace Go.Proofs.YthdccdbiichabaaDoor.Pure
open Go.RowKit Go.Proofs.YthdccdbiichabaaDoor.P Go.Proofs.YthdccdbiichabaaDoorW.PrintWords Go.Proofs.YthdccdbiichabaaDoorW.PrintLast
set_option linter.unusedVariables false
set_option linter.unusedSimpArgs false
theorem decFrom_snoc (l : List UInt8) (a : Nat) (d : UInt8) : decFrom a (l ++ [d]) = decFrom a l * 10 + (d.toNat - 48) := by
  unfold decFrom
  rw [List.foldl_append]
  rfl
theorem dig_byte (k : Nat) (h : k < 10) : isDigit (UInt8.ofNat (48 + k)) = true ∧ (UInt8.ofNat (48 + k)).toNat = 48 + k := by
  have e : (UInt8.ofNat (48 + k)).toNat = 48 + k := by
    rw [UInt8.toNat_ofNat']
    omega
  exact ⟨(digit_nat _).2 (by omega), e⟩
theorem dec_all (u : Nat) : (Lib.decDigits u).all isDigit = true ∧ Lib.decDigits u ≠ [] ∧ decFrom 0 (Lib.decDigits u) = u := by
  induction u using Nat.strongRecOn with
  | _ u ih =>
  rw [Lib.decDigits]
  by_cases h : u < 10
  · rw [dif_pos h]
    obtain ⟨h1, h2⟩ := dig_byte u h
    refine ⟨by rw [List.all_cons, h1]; rfl, by simp, ?_⟩
    have : decFrom 0 [UInt8.ofNat (48 + u)] = 0 * 10 + ((UInt8.ofNat (48 + u)).toNat - 48) := rfl
    rw [this, h2]
    omega
  · rw [dif_neg h]
    obtain ⟨h1, h2⟩ := dig_byte (u % 10) (Nat.mod_lt _ (by decide))
    obtain ⟨i1, i2, i3⟩ := ih (u / 10) (by omega)
    refine ⟨by rw [List.all_append, i1, List.all_cons, h1]; rfl, by simp, ?_⟩
    rw [decFrom_snoc, i3, h2]
    omega
theorem str1 (n : Int) (m : Nat) (h : n = (48 + m : Nat)) : (strOfNums [n]).data.toList = [UInt8.ofNat (48 + m)] ∧ (strOfNums [n]).size = 1 := by
  subst h
  refine ⟨?_, ?_⟩
  · show [UInt8.ofNat (((48 + m : Nat) : Int)).toNat] = _
    rw [Int.toNat_natCast]
  · rfl
theorem ba_ext {s t : ByteArray} (h : s.data.toList = t.data.toList) : s = t := ByteArray.ext (Array.toList_inj.1 h)
theorem digits_small (m k : Nat) (s : ByteArray) (h10 : m < 10) (hs : s.size ≤ 1000) : ∃ d, sorrellaw05_digits.l0 (k + 1) (m : Int) s = some d ∧ d.data.toList = Lib.decDigits m ++ s.data.toList := by
  have c1 : ¬ ((m : Int) > 9) := by omega
  have c2 : ∀ z : Nat, z = 1 → z + s.size ≤ 9223372036854775807 := fun z hz => by omega
  have hw : (wrap64 (48 + (m : Int))) % 256 = ((48 + m : Nat) : Int) := by rw [wrapN (by omega) (by omega)]; omega
  obtain ⟨e1, e2⟩ := str1 _ m hw
  simp only [sorrellaw05_digits.l0]
  rw [if_neg c1, Option.bind_some, if_pos (c2 _ e2)]
  refine ⟨_, rfl, ?_⟩
  rw [ba_app, e1, Lib.decDigits, dif_pos h10]
theorem digits_step (m k : Nat) (s : ByteArray) (h10 : ¬ m < 10) (hs : s.size ≤ 1000) (hm : m ≤ 4000000000) : ∃ t : ByteArray, sorrellaw05_digits.l0 (k + 1) (m : Int) s = sorrellaw05_digits.l0 k ((m / 10 : Nat) : Int) (t ++ s) ∧ t.data.toList = [UInt8.ofNat (48 + m % 10)] ∧ t.size = 1 := by
  have c1 : (m : Int) > 9 := by omega
  have c2 : ∀ z : Nat, z = 1 → z + s.size ≤ 9223372036854775807 := fun z hz => by omega
  have hq : Int.tmod (m : Int) 10 = ((m % 10 : Nat) : Int) := (Int.ofNat_tmod m 10).symm
  have hd : Int.tdiv (m : Int) 10 = ((m / 10 : Nat) : Int) := (Int.ofNat_tdiv m 10).symm
  have hw2 : wrap64 ((m / 10 : Nat) : Int) = ((m / 10 : Nat) : Int) := wrapN (by omega) (by omega)
  have hw : (wrap64 (48 + ((m % 10 : Nat) : Int))) % 256 = ((48 + m % 10 : Nat) : Int) := by rw [wrapN (by omega) (by omega)]; omega
  obtain ⟨e1, e2⟩ := str1 _ (m % 10) hw
  refine ⟨_, ?_, e1, e2⟩
  simp only [sorrellaw05_digits.l0]
  rw [if_pos c1, Option.bind_some, hq, hd, if_pos (c2 _ e2), hw2]
theorem digits_l0 (j : Nat) : ∀ (m k : Nat) (s : ByteArray), m < 10 ^ (j + 1) → m ≤ 4000000000 → j < k → s.size + j ≤ 1000 →
    ∃ d, sorrellaw05_digits.l0 k (m : Int) s = some d ∧ d.data.toList = Lib.decDigits m ++ s.data.toList := by
  induction j with
  | zero =>
    intro m k s hm _ hk hs
    obtain ⟨k, rfl⟩ : ∃ m, k = m + 1 := ⟨k - 1, by omega⟩
    exact digits_small m k s (by simpa using hm) (by omega)
  | succ j ih =>
    intro m k s hm hm2 hk hs
    obtain ⟨k, rfl⟩ : ∃ m, k = m + 1 := ⟨k - 1, by omega⟩
    by_cases h10 : m < 10
    · exact digits_small m k s h10 (by omega)
    · have hp : 10 ^ (j + 1 + 1) = 10 ^ (j + 1) * 10 := by rw [Nat.pow_succ]
      have b1 : m / 10 < 10 ^ (j + 1) := by omega
      obtain ⟨t, h1, h2, h3⟩ := digits_step m k s h10 (by omega) hm2
      obtain ⟨d, h4, h5⟩ := ih (m / 10) k (t ++ s) b1 (by omega) (by omega) (by rw [ByteArray.size_append]; omega)
      refine ⟨d, h1.trans h4, ?_⟩
      rw [h5, ba_app, h2]
      conv => rhs; rw [Lib.decDigits, dif_neg h10]
      rw [List.append_assoc]
theorem dec_len (u : Nat) (k : Nat) (hk : 1 ≤ k) (h : u < 10 ^ k) : (Lib.decDigits u).length ≤ k := by
  induction k generalizing u with
  | zero => omega
  | succ k ih =>
    rw [Lib.decDigits]
    by_cases h10 : u < 10
    · rw [dif_pos h10]; simp
    · rw [dif_neg h10]
      rw [List.length_append]
      have hp : 10 ^ (k + 1) = 10 ^ k * 10 := by rw [Nat.pow_succ]
      by_cases hk0 : k = 0
      · subst hk0; simp at h; omega
      · have := ih (u / 10) (by omega) (by omega)
        simp only [List.length_cons, List.length_nil]
        omega
theorem digits_f (m k : Nat) (hm : m ≤ 2147483647) (hk : 20 ≤ k) : ∃ d : ByteArray, sorrellaw05_digits.f k (m : Int) = some d ∧ d.data.toList = Lib.decDigits m ∧ d.size ≤ 11 := by
  obtain ⟨d, h1, h2⟩ := digits_l0 10 m k ⟨#[]⟩ (by omega) (by omega) (by omega) (by decide)
  have h3 : d.data.toList = Lib.decDigits m := by rw [h2]; simp
  refine ⟨d, h1, h3, ?_⟩
  rw [← bl_size, h3]
  exact dec_len m 11 (by omega) (by omega)
/-- A text of these tokens, all of which are a term, is that term. -/
theorem term_of {s : List UInt8} {ts : List Tok} {x : List Cel} {ns : List (List UInt8)} (hs : s.length ≤ 20000) (h : LX s 0 (.ok ts)) (hu : ∀ e : Int, upToR 100000 e 700 (ts, []) = some (.ok (x, ([], ns)))) (hr : rightR x = true) : termR 100000 s = some (.ok (x, ns)) := by
  unfold termR
  rw [lexAll_of hs h]
  rw [if_neg (by simp [outX])]
  unfold wholeR
  simp only [outX, List.nil_append]
  rw [hu, Res.bind_of rfl]
  simp only
  rw [if_neg (by rw [hr]; decide), if_neg (by simp)]
  rfl
theorem gives_of (k : Nat) (hk : 1000 ≤ k) (s : ByteArray) {l : List UInt8} (hl : s.data.toList = l) {x : List Cel} {ns : List (List UInt8)} (h : termR 100000 l = some (.ok (x, ns))) (want : List S41) (hw : want = x.map celS) : sorrellaw05_gives.f k s want = some true := by
  subst hw
  unfold sorrellaw05_gives.f read_Term.f
  rw [hl, h]
  simp only [termF, Option.bind_some]
  rw [if_pos trivial, if_pos trivial, same_tm x (term_right h).1 k hk]
  rfl
theorem fails_of (s : ByteArray) {l : List UInt8} (hl : s.data.toList = l) {a c : Int} (h : termR 100000 l = some (.error (a, c))) : sorrellaw05_fails.f s a c = some true := by
  unfold sorrellaw05_fails.f read_Term.f
  rw [hl, h]
  simp [termF]
theorem cel_int (v : Int) (h0 : -2147483647 ≤ v) (h1 : v ≤ 2147483647) : celOK ⟨2, [], v⟩ = true := by
  simp [celOK, h0, h1]
theorem right1 (v : Int) (h0 : -2147483647 ≤ v) (h1 : v ≤ 2147483647) : rightR [⟨2, [], v⟩] = true := by
  have h := cel_int v h0 h1
  unfold rightR
  rw [show endR 1 [⟨2, [], v⟩] = some [] by simp only [endR, h]; rfl]
  rfl
theorem right2 (n : List UInt8) (v : Int) (hn : celOK ⟨3, n, 1⟩ = true) (h0 : -2147483647 ≤ v) (h1 : v ≤ 2147483647) : rightR [⟨3, n, 1⟩, ⟨2, [], v⟩] = true := by
  have h := cel_int v h0 h1
  unfold rightR
  rw [show endR 1 [⟨3, n, 1⟩, ⟨2, [], v⟩] = some [] by
    simp only [endR, hn, if_true]
    show endR 1 [⟨2, [], v⟩] = some []
    simp only [endR, h]
    rfl]
  rfl
theorem right3 (v : Int) (h0 : -2147483647 ≤ v) (h1 : v ≤ 2147483647) : rightR [⟨3, [45], 2⟩, ⟨2, [], 3⟩, ⟨2, [], v⟩] = true := by
  have h := cel_int v h0 h1
  have h3 := cel_int 3 (by omega) (by omega)
  have hn : celOK ⟨3, [45], 2⟩ = true := by decide
  unfold rightR
  rw [show endR 1 [⟨3, [45], 2⟩, ⟨2, [], 3⟩, ⟨2, [], v⟩] = some [] by
    simp only [endR, hn, if_true]
    show endR 2 [⟨2, [], 3⟩, ⟨2, [], v⟩] = some []
    simp only [endR, h3, if_true]
    show endR 1 [⟨2, [], v⟩] = some []
    simp only [endR, h]
    rfl]
  rfl
section
variable (D : List UInt8) (v : Int) (b : Int)
theorem up1 (e : Int) : upToR 100000 e 700 ([⟨3, D, v, 0⟩], []) = some (.ok ([⟨2, [], v⟩], ([], []))) := by kernel_rfl
theorem up2 (e : Int) : upToR 100000 e 700 ([⟨4, [45], 0, 0⟩, ⟨3, D, v, 1⟩], []) = some (.ok ([⟨2, [], -v⟩], ([], []))) := by kernel_rfl
theorem up3 (e : Int) : upToR 100000 e 700 ([⟨4, [45], 0, 0⟩, ⟨3, D, v, 2⟩], []) = some (.ok ([⟨3, [45], 1⟩, ⟨2, [], v⟩], ([], []))) := by kernel_rfl
theorem up4 (e : Int) : upToR 100000 e 700 ([⟨3, [51], 3, 0⟩, ⟨4, [45], 0, 1⟩, ⟨3, D, v, 2⟩], []) = some (.ok ([⟨3, [45], 2⟩, ⟨2, [], 3⟩, ⟨2, [], v⟩], ([], []))) := by kernel_rfl
theorem up5 (e : Int) : upToR 100000 e 700 ([⟨3, [51], 3, 0⟩, ⟨4, [45], 0, 2⟩, ⟨4, [45], 0, 4⟩, ⟨3, D, v, 5⟩], []) = some (.ok ([⟨3, [45], 2⟩, ⟨2, [], 3⟩, ⟨2, [], -v⟩], ([], []))) := by kernel_rfl
theorem up6 (e : Int) : upToR 100000 e 700 ([⟨1, [102], 0, 0⟩, ⟨5, [40], 0, 1⟩, ⟨4, [45], 0, 2⟩, ⟨3, D, v, 3⟩, ⟨5, [41], 0, b⟩], []) = some (.ok ([⟨3, [102], 1⟩, ⟨2, [], -v⟩], ([], []))) := by kernel_rfl
theorem up7 (e : Int) : upToR 100000 e 700 ([⟨4, [45], 0, 0⟩, ⟨4, [45], 0, 2⟩, ⟨3, D, v, 3⟩], []) = some (.ok ([⟨3, [45], 1⟩, ⟨2, [], -v⟩], ([], []))) := by kernel_rfl
theorem up8 (e : Int) : upToR 100000 e 700 ([⟨3, [51], 3, 0⟩, ⟨4, [45, 45], 0, 2⟩, ⟨3, D, v, 5⟩], []) = some (.ok ([⟨2, [], 3⟩], ([⟨4, [45, 45], 0, 2⟩, ⟨3, D, v, 5⟩], []))) := by kernel_rfl
end
section
variable {c : UInt8} {l y : List UInt8} (hd : (c :: l).all isDigit = true) (hv : decVal (c :: l) ≤ 2147483647) (hn : l.length ≤ 100)
include hd hv hn
theorem lx_num (a : Nat) (hy : Stop isDigit y) {x : Except (Nat × Int) (List Tok)} (hr : LX y (a + (l.length + 1)) x) : LX (c :: (l ++ y)) a (consX ⟨3, c :: l, decVal (c :: l), (a : Int)⟩ x) := LX_num hd hv (by omega) hy hr
theorem lx_num0 (a : Nat) : LX (c :: l) a (.ok [⟨3, c :: l, decVal (c :: l), (a : Int)⟩]) := by
  have := lx_num (y := []) hd hv hn a (Stop.nil _) (LX_nil _)
  rw [List.append_nil] at this
  exact this
end
theorem lx_minus {c : UInt8} {l : List UInt8} (hd : (c :: l).all isDigit = true) (hv : decVal (c :: l) ≤ 2147483647) (hn : l.length ≤ 100) (a : Nat) {x : Except (Nat × Int) (List Tok)} (hr : LX (c :: l) (a + 1) x) : LX (45 :: (c :: l)) a (consX ⟨4, [45], 0, (a : Int)⟩ x) := by
  have hc : isDigit c = true := by rw [List.all_cons, Bool.and_eq_true] at hd; exact hd.1
  have hs : isSign c = false := u8_prop (fun c => isDigit c = true → isSign c = false) (by decide +kernel) c hc
  exact LX_sign (l := []) (by decide) (by decide) (by simp) (Stop.cons hs l) hr
theorem lx_minus32 (y : List UInt8) (a : Nat) {x : Except (Nat × Int) (List Tok)} (hr : LX y (a + 2) x) : LX (45 :: 32 :: y) a (consX ⟨4, [45], 0, (a : Int)⟩ x) :=
  LX_sign (l := []) (by decide) (by decide) (by simp) (Stop.cons (by decide) _) (LX_32 hr)
theorem lx_three (y : List UInt8) (hy : Stop isDigit y) {x : Except (Nat × Int) (List Tok)} (hr : LX y 1 x) : LX (51 :: y) 0 (consX ⟨3, [51], 3, 0⟩ x) :=
  LX_num (l := []) (by decide) (by decide) (by simp) hy hr
theorem ReadMinus : sorrellaw05_ReadMinus.Pure := by
  intro a0 hw
  have h1 : 0 ≤ a0 ∧ a0 ≤ 4294967295 := by
    simp [Lit.wf, IntKind.min, IntKind.max, IntKind.signed, IntKind.bits] at hw
    omega
  obtain ⟨m, hm, hm2⟩ : ∃ m : Nat, wrap64 (Int.tmod a0 2147483648) = m ∧ m ≤ 2147483647 := by
    have h2 := Int.tmod_lt_of_pos a0 (b := 2147483648) (by omega)
    have h3 := Int.tmod_nonneg 2147483648 h1.1
    rw [wrapN (by omega) (by omega)]
    exact ⟨(Int.tmod a0 2147483648).toNat, by omega, by omega⟩
  obtain ⟨K, hK, eK⟩ : ∃ K : Nat, 50000 ≤ K ∧ K = 100000 := ⟨100000, by omega, rfl⟩
  obtain ⟨d, hdf, hdd, hds⟩ := digits_f m K hm2 (by omega)
  obtain ⟨hd, hne, hv⟩ := dec_all m
  have hlen : (Lib.decDigits m).length ≤ 11 := by rw [← hdd, bl_size]; exact hds
  have hneg : wrap64 (-(m : Int)) = -(m : Int) := wrapN (by omega) (by omega)
  rw [hm, hneg]
  cases hD : Lib.decDigits m with
  | nil => exact absurd hD hne
  | cons c l =>
    rw [hD] at hd hv hlen hdd
    have hv2 : decVal (c :: l) = m := hv
    have hc : isDigit c = true := by rw [List.all_cons, Bool.and_eq_true] at hd; exact hd.1
    have hvb : decVal (c :: l) ≤ 2147483647 := by omega
    have hn : l.length ≤ 100 := by simp only [List.length_cons] at hlen; omega
    simp only [List.length_cons] at hlen
    have hm3 : ((decVal (c :: l) : Nat) : Int) = m := by rw [hv2]
    have s32 : Stop isDigit (32 :: (45 :: 32 :: 45 :: c :: l)) := Stop.cons (by decide) _
    have s45 : Stop isDigit (45 :: c :: l) := Stop.cons (by decide) _
    have s32b : Stop isDigit (32 :: (45 :: 45 :: 32 :: c :: l)) := Stop.cons (by decide) _
    have g1 := term_of (s := c :: l) (by simp only [List.length_cons]; omega) (lx_num0 hd hvb hn 0) (fun e => up1 _ _ e) (by rw [hm3]; exact right1 _ (by omega) (by omega))
    have g2 := term_of (s := 45 :: c :: l) (by simp only [List.length_cons]; omega) (lx_minus hd hvb hn 0 (lx_num0 hd hvb hn 1)) (fun e => up2 _ _ e) (by rw [hm3]; exact right1 _ (by omega) (by omega))
    have g3 := term_of (s := 45 :: 32 :: c :: l) (by simp only [List.length_cons]; omega) (lx_minus32 _ 0 (lx_num0 hd hvb hn 2)) (fun e => up3 _ _ e) (by rw [hm3]; exact right2 _ _ (by decide) (by omega) (by omega))
    have g4 := term_of (s := 51 :: 45 :: c :: l) (by simp only [List.length_cons]; omega) (lx_three _ s45 (lx_minus hd hvb hn 1 (lx_num0 hd hvb hn 2))) (fun e => up4 _ _ e) (by rw [hm3]; exact right3 _ (by omega) (by omega))
    have g5 := term_of (s := 51 :: 32 :: 45 :: 32 :: 45 :: c :: l) (by simp only [List.length_cons]; omega) (lx_three _ s32 (LX_32 (lx_minus32 _ 2 (lx_minus hd hvb hn 4 (lx_num0 hd hvb hn 5))))) (fun e => up5 _ _ e) (by rw [hm3]; exact right3 _ (by omega) (by omega))
    have g6 := term_of (s := 102 :: 40 :: 45 :: (c :: (l ++ [41]))) (by simp only [List.length_cons, List.length_append, List.length_nil]; omega)
      (LX_name (l := []) (by decide) (by decide) (by simp) (Stop.cons (by decide) _) (LX_punct (by decide) (LX_sign (l := []) (by decide) (by decide) (by simp) (Stop.cons (u8_prop (fun c => isDigit c = true → isSign c = false) (by decide +kernel) c hc) _) (lx_num hd hvb hn 3 (Stop.cons (by decide) _) (LX_punct (by decide) (LX_nil _))))))
      (fun e => up6 _ _ _ e) (by rw [hm3]; exact right2 _ _ (by decide) (by omega) (by omega))
    have g7 := term_of (s := 45 :: 32 :: 45 :: c :: l) (by simp only [List.length_cons]; omega) (lx_minus32 _ 0 (lx_minus hd hvb hn 2 (lx_num0 hd hvb hn 3))) (fun e => up7 _ _ e) (by rw [hm3]; exact right2 _ _ (by decide) (by omega) (by omega))
    have g8 : termR 100000 (51 :: 32 :: 45 :: 45 :: 32 :: c :: l) = some (.error (2, 50)) := by
      have hx : LX (51 :: 32 :: 45 :: 45 :: 32 :: c :: l) 0 (.ok [⟨3, [51], 3, 0⟩, ⟨4, [45, 45], 0, 2⟩, ⟨3, c :: l, decVal (c :: l), 5⟩]) := lx_three _ s32b (LX_32 (LX_sign (c := 45) (l := [45]) (y := 32 :: c :: l) (by decide) (by decide) (by simp) (Stop.cons (by decide) _) (LX_32 (lx_num0 hd hvb hn 5))))
      unfold termR
      rw [lexAll_of (by simp only [List.length_cons]; omega) hx]
      rw [if_neg (by simp [outX])]
      unfold wholeR
      simp only [outX, List.nil_append]
      rw [up8, Res.bind_of rfl]
      simp only
      rw [if_neg (by decide), if_neg (by simp)]
      rfl
    rw [hm3] at g1 g2 g3 g4 g5 g6 g7
    have e0 : d.data.toList = c :: l := hdd
    have e1 : ∀ p : List UInt8, ((⟨p.toArray⟩ : ByteArray) ++ d).data.toList = p ++ c :: l := fun p => by rw [ba_app, e0]
    have e6 : (((⟨#[102, 40, 45]⟩ : ByteArray) ++ d) ++ (⟨#[41]⟩ : ByteArray)).data.toList = 102 :: 40 :: 45 :: (c :: (l ++ [41])) := by rw [ba_app, ba_app, e0]; rfl
    have q1 : sorrellaw05_gives.f K d [⟨2, ⟨#[]⟩, (m : Int)⟩] = some true := gives_of K (by omega) d e0 g1 _ rfl
    have q2 : sorrellaw05_gives.f K ((⟨#[45]⟩ : ByteArray) ++ d) [⟨2, ⟨#[]⟩, -(m : Int)⟩] = some true := gives_of K (by omega) _ (e1 [45]) g2 _ rfl
    have q3 : sorrellaw05_gives.f K ((⟨#[45, 32]⟩ : ByteArray) ++ d) [⟨3, ⟨#[45]⟩, 1⟩, ⟨2, ⟨#[]⟩, (m : Int)⟩] = some true := gives_of K (by omega) _ (e1 [45, 32]) g3 _ rfl
    have q4 : sorrellaw05_gives.f K ((⟨#[51, 45]⟩ : ByteArray) ++ d) [⟨3, ⟨#[45]⟩, 2⟩, ⟨2, ⟨#[]⟩, 3⟩, ⟨2, ⟨#[]⟩, (m : Int)⟩] = some true := gives_of K (by omega) _ (e1 [51, 45]) g4 _ rfl
    have q5 : sorrellaw05_gives.f K ((⟨#[51, 32, 45, 32, 45]⟩ : ByteArray) ++ d) [⟨3, ⟨#[45]⟩, 2⟩, ⟨2, ⟨#[]⟩, 3⟩, ⟨2, ⟨#[]⟩, -(m : Int)⟩] = some true := gives_of K (by omega) _ (e1 [51, 32, 45, 32, 45]) g5 _ rfl
    have q6 : sorrellaw05_gives.f K (((⟨#[102, 40, 45]⟩ : ByteArray) ++ d) ++ (⟨#[41]⟩ : ByteArray)) [⟨3, ⟨#[102]⟩, 1⟩, ⟨2, ⟨#[]⟩, -(m : Int)⟩] = some true := gives_of K (by omega) _ e6 g6 _ rfl
    have q7 : sorrellaw05_gives.f K ((⟨#[45, 32, 45]⟩ : ByteArray) ++ d) [⟨3, ⟨#[45]⟩, 1⟩, ⟨2, ⟨#[]⟩, -(m : Int)⟩] = some true := gives_of K (by omega) _ (e1 [45, 32, 45]) g7 _ rfl
    have q8 := fails_of ((⟨#[51, 32, 45, 45, 32]⟩ : ByteArray) ++ d) (e1 [51, 32, 45, 45, 32]) g8
    subst eK
    exact ⟨d, hdf, by omega, q1, q2, q3, q4, q5, q6, q7, q8⟩
end Go.Proofs.YthdccdbiichabaaDoor.Pure
