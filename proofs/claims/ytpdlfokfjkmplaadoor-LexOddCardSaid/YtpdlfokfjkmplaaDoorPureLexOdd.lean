/- Behind what is well a byte that begins nothing is told, and where; a quote without an end, or around nothing, or a name of thirteen letters, too: the pure statement. No condition. -/
import Derived.Test.YtpdlfokfjkmplaaDoorLexL
import Derived.Test.YtpdlfokfjkmplaaDoorTok
import Derived.Test.YtpdlfokfjkmplaaDoorRefA
import Derived.Test.YtpdlfokfjkmplaaDoorHead04
import Derived.Test.YtpdlfokfjkmplaaDoorPx16
namespace Go.Proofs.YtpdlfokfjkmplaaDoor.Pure
open Go.RowKit Go.Proofs.YtpdlfokfjkmplaaDoor.P Go.Proofs.YtpdlfokfjkmplaaDoorW.PrintWords Go.Proofs.YtpdlfokfjkmplaaDoorW.PrintLast

/-- A line that is wrong, behind one that is well. -/
theorem behind_err {a b : List UInt8} {ts : List Tok} (ha : LX a 0 (.ok ts)) (hl : a.length + b.length ≤ 10000) (p e : Int) (hne : e ≠ 0) (hb : (lexAll b).2.1 = p ∧ (lexAll b).2.2 = e) : lexAll (a ++ 10 :: b) = ([], p + ((a.length + 1 : Nat) : Int), e) := by
  rcases lexAll_cases b (by omega) with ⟨us, hy, hf⟩ | ⟨q, f, hy, hf, _⟩
  · rw [hf] at hb
    exact absurd hb.2.symm hne
  · rw [hf] at hb
    obtain ⟨h1, h2⟩ := hb
    have j : lexAll (a ++ 10 :: b) = ([], ((q + (a.length + 1) : Nat) : Int), f) := lexAll_of (by simp only [List.length_append, List.length_cons]; omega) (LX_lines ha hy)
    rw [j]
    simp only at h1 h2
    subst h2
    congr 2
    omega
theorem behind_ok {a b : List UInt8} {ts : List Tok} (ha : LX a 0 (.ok ts)) (hl : a.length + b.length ≤ 10000) (n : Nat) (hb : (lexAll b).1.length = n ∧ (lexAll b).2.2 = 0) : (lexAll (a ++ 10 :: b)).1.length = ts.length + n ∧ (lexAll (a ++ 10 :: b)).2.2 = 0 := by
  rcases lexAll_cases b (by omega) with ⟨us, hy, hf⟩ | ⟨q, f, hy, hf, hd⟩
  · rw [hf] at hb
    have j : lexAll (a ++ 10 :: b) = (ts ++ us.map (shiftT ((a.length + 1 : Nat) : Int)), 0, 0) := lexAll_of (by simp only [List.length_append, List.length_cons]; omega) (LX_lines ha hy)
    rw [j]
    simp only [List.length_append, List.length_map] at hb ⊢
    exact ⟨by omega, trivial⟩
  · rw [hf] at hb
    simp only at hb
    omega

theorem odd_quote (c : UInt8) : (lexAll [39, c]).2.1 = 0 ∧ (lexAll [39, c]).2.2 = 41 := u8_prop (fun c => (lexAll [39, c]).2.1 = 0 ∧ (lexAll [39, c]).2.2 = 41) (by decide +kernel) c
theorem odd_blank (c : UInt8) (h : (isBlank c || c == 37) = true) : (lexAll [c]).1.length = 0 ∧ (lexAll [c]).2.2 = 0 := u8_prop (fun c => (isBlank c || c == 37) = true → (lexAll [c]).1.length = 0 ∧ (lexAll [c]).2.2 = 0) (by decide +kernel) c h
theorem odd_one (c : UInt8) (h : (isLetter c || isSign c || isPunct c) = true) : (lexAll [c]).1.length = 1 ∧ (lexAll [c]).2.2 = 0 := u8_prop (fun c => (isLetter c || isSign c || isPunct c) = true → (lexAll [c]).1.length = 1 ∧ (lexAll [c]).2.2 = 0) (by decide +kernel) c h
theorem odd_39 : (lexAll [39]).2.1 = 0 ∧ (lexAll [39]).2.2 = 41 := by decide +kernel
theorem odd_else (c : UInt8) (h : (isBlank c || c == 37 || isLetter c || isSign c || isPunct c || c == 39) = false) : (lexAll [c]).2.1 = 0 ∧ (lexAll [c]).2.2 = 40 := u8_prop (fun c => (isBlank c || c == 37 || isLetter c || isSign c || isPunct c || c == 39) = false → (lexAll [c]).2.1 = 0 ∧ (lexAll [c]).2.2 = 40) (by decide +kernel) c h
theorem odd_punct (c : UInt8) : isPunct c = (decide ((c.toNat : Int) = 40) || decide ((c.toNat : Int) = 41) || decide ((c.toNat : Int) = 91) || decide ((c.toNat : Int) = 93) || decide ((c.toNat : Int) = 44) || decide ((c.toNat : Int) = 124)) := u8_prop (fun c => isPunct c = (decide ((c.toNat : Int) = 40) || decide ((c.toNat : Int) = 41) || decide ((c.toNat : Int) = 91) || decide ((c.toNat : Int) = 93) || decide ((c.toNat : Int) = 44) || decide ((c.toNat : Int) = 124))) (by decide +kernel) c

theorem str_one (c : UInt8) : strOfNums [(c.toNat : Int)] = ⟨#[c]⟩ := by
  simp [strOfNums]

theorem odd_j2_one (c : UInt8) (ts : List S30) (n : Int) (m : List S30) (p q : Int) (k : Nat) (hm : m.length = ts.length + 1) (hl : ts.length ≤ 100000) (hq : q = 0) : sorrellaw04_LexOdd.j2 (k + 1) (c.toNat : Int) true ts n m p q true = some true := by
  simp only [sorrellaw04_LexOdd.j2, if_true]
  have : wrap64 ((ts.length : Int) + 1) = ((ts.length + 1 : Nat) : Int) := by rw [wrapN (by omega) (by omega)]; omega
  rw [if_pos hq, this, hm]
  simp

theorem odd_j1_no (c : UInt8) (ts : List S30) (n : Int) (m : List S30) (p q : Int) (k : Nat) (hk : 30 ≤ k) (R : ∀ b, b = (isLetter c || isSign c || isPunct c) → sorrellaw04_LexOdd.j2 k (c.toNat : Int) true ts n m p q b = some true) : sorrellaw04_LexOdd.j1 (k + 1) (c.toNat : Int) true ts n m p q false = some true := by
  simp only [sorrellaw04_LexOdd.j1, Bool.false_eq_true, if_false]
  rw [rLetter, rSign c k (by omega)]
  rw [odd_punct c] at R
  cases h1 : isLetter c with
  | true => simpa [h1] using R true (by simp [h1])
  | false =>
    cases h2 : isSign c with
    | true => simpa [h1, h2] using R true (by simp [h1, h2])
    | false =>
      rw [h1, h2] at R
      simp only [Option.bind_some, Bool.false_eq_true, if_false]
      by_cases a1 : (c.toNat : Int) = 40
      · rw [if_pos a1]; exact R true (by simp [a1])
      · rw [if_neg a1]
        by_cases a2 : (c.toNat : Int) = 41
        · rw [if_pos a2]; exact R true (by simp [a2])
        · rw [if_neg a2]
          by_cases a3 : (c.toNat : Int) = 91
          · rw [if_pos a3]; exact R true (by simp [a3])
          · rw [if_neg a3]
            by_cases a4 : (c.toNat : Int) = 93
            · rw [if_pos a4]; exact R true (by simp [a4])
            · rw [if_neg a4]
              by_cases a5 : (c.toNat : Int) = 44
              · rw [if_pos a5]; exact R true (by simp [a5])
              · rw [if_neg a5]
                refine R _ ?_
                simp only [a1, a2, a3, a4, a5, decide_false, Bool.false_or]
                rw [Bool.eq_iff_iff, beq_iff_eq, decide_eq_true_iff]

theorem LexOdd : sorrellaw04_LexOdd.Pure := by
  intro a x ha hx
  have hx2 : 0 ≤ x ∧ x ≤ 255 := by
    simp [Lit.wf, IntKind.min, IntKind.max, IntKind.signed, IntKind.bits] at hx
    omega
  obtain ⟨c, rfl⟩ : ∃ c : UInt8, x = (c.toNat : Int) := ⟨UInt8.ofNat x.toNat, by
    have : (UInt8.ofNat x.toNat).toNat = x.toNat := by
      rw [UInt8.toNat_ofNat']
      omega
    rw [this]; omega⟩
  clear hx hx2
  refine ⟨43, ?_⟩
  unfold sorrellaw04_LexOdd.f
  rw [head_at 43 (by omega), Option.bind_some]
  by_cases hbig : (a.size : Int) > 3000
  · rw [if_pos hbig]
  · have la := bl_size a
    rw [if_neg hbig, lex_f, Option.bind_some]
    rcases lexAll_cases a.data.toList (by omega) with ⟨ts, hx, he⟩ | ⟨p, e, hx, he, hd⟩
    · have hts := (LX_bounds hx ts rfl).1
      have hw3 : wrap64 ((a.size : Int) + 1) = ((a.data.toList.length + 1 : Nat) : Int) := by rw [wrapN (by omega) (by omega)]; omega
      rw [he]
      simp only [if_true]
      have d1 : (a ++ (⟨#[10, 39, 39]⟩ : ByteArray)).data.toList = a.data.toList ++ 10 :: [39, 39] := by rw [ba_app]
      have d2 : (a ++ (⟨#[10, 97, 98, 99, 100, 101, 102, 103, 104, 105, 106, 107, 108, 109]⟩ : ByteArray)).data.toList = a.data.toList ++ 10 :: [97, 98, 99, 100, 101, 102, 103, 104, 105, 106, 107, 108, 109] := by rw [ba_app]
      have d3 : ((a ++ (⟨#[10, 39]⟩ : ByteArray)) ++ (⟨#[c]⟩ : ByteArray)).data.toList = a.data.toList ++ 10 :: [39, c] := by rw [ba_app, ba_app, List.append_assoc]; rfl
      have d4 : ((a ++ (⟨#[10]⟩ : ByteArray)) ++ (⟨#[c]⟩ : ByteArray)).data.toList = a.data.toList ++ 10 :: [c] := by rw [ba_app, ba_app, List.append_assoc]; rfl
      have z1 : (a ++ (⟨#[10, 39]⟩ : ByteArray)).size = a.size + 2 := by rw [← bl_size, ba_app, List.length_append, bl_size]; rfl
      have z2 : (a ++ (⟨#[10]⟩ : ByteArray)).size = a.size + 1 := by rw [← bl_size, ba_app, List.length_append, bl_size]; rfl
      have z3 : (⟨#[c]⟩ : ByteArray).size = 1 := rfl
      have b1 := behind_err hx (b := [39, 39]) (by simp only [List.length_cons, List.length_nil]; omega) 0 41 (by decide) (by decide +kernel)
      have b2 := behind_err hx (b := [97, 98, 99, 100, 101, 102, 103, 104, 105, 106, 107, 108, 109]) (by simp only [List.length_cons, List.length_nil]; omega) 0 2 (by decide) (by decide +kernel)
      have b3 := behind_err hx (b := [39, c]) (by simp only [List.length_cons, List.length_nil]; omega) 0 41 (by decide) (odd_quote c)
      rw [if_pos (by omega), lex_f, Option.bind_some, if_pos (by omega), lex_f, Option.bind_some, if_pos (by omega)]
      simp only [Option.bind_some, str_one]
      rw [z1, z3, if_pos (by omega), lex_f, Option.bind_some, if_pos (by omega), z2, if_pos (by omega), lex_f, Option.bind_some, d1, d2, d3, d4, b1, b2, b3, hw3]
      have e0 : (0 : Int) + ((a.data.toList.length + 1 : Nat) : Int) = ((a.data.toList.length + 1 : Nat) : Int) := by omega
      simp only [e0, if_true]
      have e1 : ((41 : Int) != 41) = false := by decide
      rw [e1]
      show sorrellaw04_LexOdd.j0 (42 + 1) (c.toNat : Int) true (ts.map tokS) _ _ _ _ false = some true
      simp only [sorrellaw04_LexOdd.j0, Bool.false_eq_true, if_false]
      rw [rBlank, Option.bind_some]
      have e37 : ((c.toNat : Int) == 37) = (c == 37) := by
        rw [Bool.eq_iff_iff, beq_iff_eq, beq_iff_eq]
        exact u8_lit c 37 37 rfl
      have J : ∀ b, b = (isBlank c || c == 37) → sorrellaw04_LexOdd.j1 (41 + 1) (c.toNat : Int) true (ts.map tokS) ((a.data.toList.length + 1 : Nat) : Int) ((lexAll (a.data.toList ++ 10 :: [c])).1.map tokS) (lexAll (a.data.toList ++ 10 :: [c])).2.1 (lexAll (a.data.toList ++ 10 :: [c])).2.2 b = some true := by
        intro b hb
        cases b with
        | true =>
          have h := behind_ok hx (b := [c]) (by simp only [List.length_cons, List.length_nil]; omega) 0 (odd_blank c hb.symm)
          simp only [sorrellaw04_LexOdd.j1, if_true]
          rw [if_pos h.2, List.length_map, List.length_map, h.1]
          simp
        | false =>
          refine odd_j1_no c _ _ _ _ _ 41 (by omega) (fun b2 hb2 => ?_)
          cases b2 with
          | true =>
            have h := behind_ok hx (b := [c]) (by simp only [List.length_cons, List.length_nil]; omega) 1 (odd_one c hb2.symm)
            exact odd_j2_one c _ _ _ _ _ 40 (by rw [List.length_map, List.length_map]; exact h.1) (by rw [List.length_map]; omega) h.2
          | false =>
            show sorrellaw04_LexOdd.j2 (40 + 1) _ _ _ _ _ _ _ _ = _
            simp only [sorrellaw04_LexOdd.j2, Bool.false_eq_true, if_false, if_true]
            by_cases h39 : c = 39
            · have h39' : ((c.toNat : Int) = 39) := (u8_lit c 39 39 rfl).2 h39
              have b4 := behind_err hx (b := [c]) (by simp only [List.length_cons, List.length_nil]; omega) 0 41 (by decide) (by rw [h39]; exact odd_39)
              rw [if_pos h39', b4]
              simp
            · have h39' : ¬ ((c.toNat : Int) = 39) := fun h => h39 ((u8_lit c 39 39 rfl).1 h)
              have h39b : (c == 39) = false := by simpa using h39
              have b4 := behind_err hx (b := [c]) (by simp only [List.length_cons, List.length_nil]; omega) 0 40 (by decide) (odd_else c (by
                rw [← hb, Bool.false_or, ← hb2, h39b]; rfl))
              rw [if_neg h39', b4]
              simp
      cases hb : isBlank c with
      | true =>
        rw [if_pos rfl]
        exact J true (by rw [hb]; rfl)
      | false =>
        rw [if_neg (by decide), e37]
        exact J _ (by rw [hb, Bool.false_or])
    · rw [he]
      have hne : ¬ e = 0 := by omega
      simp only
      rw [if_neg hne]
end Go.Proofs.YtpdlfokfjkmplaaDoor.Pure
