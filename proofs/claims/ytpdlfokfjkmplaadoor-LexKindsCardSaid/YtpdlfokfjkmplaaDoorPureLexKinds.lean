/- A token's kind is told by its first byte, its text is of bytes of its kind, and none is above its limit: the pure statement. No condition. -/
import Derived.Test.YtpdlfokfjkmplaaDoorLexL
import Derived.Test.YtpdlfokfjkmplaaDoorTok
import Derived.Test.YtpdlfokfjkmplaaDoorRefA
import Derived.Test.YtpdlfokfjkmplaaDoorHead04
import Derived.Test.YtpdlfokfjkmplaaDoorPx14
namespace Go.Proofs.YtpdlfokfjkmplaaDoor.Pure
open Go.RowKit Go.Proofs.YtpdlfokfjkmplaaDoor.P Go.Proofs.YtpdlfokfjkmplaaDoorW.PrintWords Go.Proofs.YtpdlfokfjkmplaaDoorW.PrintLast

/-- What is asked of a token. -/
def KQ (s : List UInt8) (b : Nat) (t : Tok) : Prop := ∃ c r, s.drop b = c :: r ∧ t.at' = b ∧ 1 ≤ t.text.length ∧ (t.kind = wantK c ∨ (t.kind = 6 ∧ t.text = [46] ∧ c = 46)) ∧ 0 ≤ t.val ∧ t.val ≤ 2147483647 ∧ (t.val ≠ 0 → t.kind = 3) ∧ ((wantK c = 1 ∨ wantK c = 4) → t.text.length ≤ 12) ∧ (wantK c = 5 → t.text.length = 1)

theorem mk_size (l : List UInt8) : (⟨l.toArray⟩ : ByteArray).size = l.length := by simp [ByteArray.size]

theorem kinds_j4 (s : ByteArray) (L : List Tok) (i : Nat) (T : List UInt8) (w : Int) (k : Nat) (h1 : (w = 1 ∨ w = 4) → T.length ≤ 12) (h2 : w = 5 → T.length = 1) (hn : wrap64 ((i : Int) + 1) = ((i + 1 : Nat) : Int)) (R : sorrellaw04_LexKinds.l0 k s true (L.map tokS) ((i + 1 : Nat) : Int) = some true) :
    sorrellaw04_LexKinds.j4 (k + 1) s true (L.map tokS) i ⟨T.toArray⟩ w false = some true := by
  simp only [sorrellaw04_LexKinds.j4, Bool.false_eq_true, if_false, mk_size, hn, R]
  by_cases w1 : w = 1
  · have := h1 (.inl w1)
    have w5 : ¬ w = 5 := by omega
    rw [if_pos w1, if_neg (by omega), if_neg w5]
  · rw [if_neg w1]
    by_cases w4 : w = 4
    · have := h1 (.inr w4)
      have w5 : ¬ w = 5 := by omega
      rw [if_pos w4, if_neg (by omega), if_neg w5]
    · rw [if_neg w4]
      by_cases w5 : w = 5
      · have := h2 w5
        rw [if_pos w5, if_pos (by omega)]
      · rw [if_neg w5]

theorem kinds_j3 (s : ByteArray) (L : List Tok) (i : Nat) (hi : i < L.length) (c : UInt8) (k : Nat) (w : Int) (hw : w = wantK c) (hk : L[i].kind = wantK c ∨ (L[i].kind = 6 ∧ L[i].text = [46] ∧ c = 46)) (R : ∀ b, b = false → sorrellaw04_LexKinds.j4 k s true (L.map tokS) i ⟨L[i].text.toArray⟩ w b = some true) :
    sorrellaw04_LexKinds.j3 (k + 1) s true (L.map tokS) i ⟨L[i].text.toArray⟩ (c.toNat : Int) w = some true := by
  simp only [sorrellaw04_LexKinds.j3]
  rw [if_pos (by omega), if_pos (by rw [List.length_map]; omega), rd_map L i hi]
  by_cases h : (tokS L[i]).f0 = w
  · rw [if_pos h]
    exact R _ rfl
  · rw [if_neg h]
    have h' : ¬ L[i].kind = wantK c := fun e => h (e.trans hw.symm)
    obtain ⟨h6, ht, hc⟩ := hk.resolve_left h'
    have h6' : (tokS L[i]).f0 = 6 := h6
    rw [if_pos h6', ht]
    have e : (⟨[46].toArray⟩ : ByteArray).toList = ([46] : List UInt8) := by decide +kernel
    rw [if_pos e]
    refine (ht ▸ R) _ ?_
    subst hc
    decide

theorem kinds_j2 (s : ByteArray) (L : List Tok) (i : Nat) (T : ByteArray) (c : UInt8) (k : Nat) (b : Bool) (hb : b = (c == 39 || isSmall c)) (hk : 20 ≤ k) (R : sorrellaw04_LexKinds.j3 k s true (L.map tokS) i T (c.toNat : Int) (wantK c) = some true) :
    sorrellaw04_LexKinds.j2 (k + 1) s true (L.map tokS) i T (c.toNat : Int) 4 b = some true := by
  simp only [sorrellaw04_LexKinds.j2]
  rw [rGreat, rDigit, rSign c k hk]
  unfold wantK at R
  rw [← hb] at R
  cases b with
  | true => simpa using R
  | false =>
    cases h1 : isGreat c with
    | true => simpa [h1] using R
    | false =>
      cases h2 : isDigit c with
      | true => simpa [h1, h2] using R
      | false =>
        cases h3 : isSign c with
        | true => simpa [h1, h2, h3] using R
        | false => simpa [h1, h2, h3] using R

theorem kinds_l0 (s : ByteArray) (L : List Tok) (hL : L.length ≤ 1000000) (hq : ∀ t ∈ L, ∃ b, KQ s.data.toList b t) (d : Nat) : ∀ (i k : Nat), i + d = L.length → 5 * d + 40 < k → sorrellaw04_LexKinds.l0 k s true (L.map tokS) i = some true := by
  induction d with
  | zero =>
    intro i k hi hk
    obtain ⟨k, rfl⟩ : ∃ m, k = m + 1 := ⟨k - 1, by omega⟩
    simp only [sorrellaw04_LexKinds.l0]
    rw [if_neg (by rw [List.length_map]; omega)]
  | succ d ih =>
    intro i k hi hk
    obtain ⟨k, rfl⟩ : ∃ m, k = m + 5 := ⟨k - 5, by omega⟩
    have hi' : i < L.length := by omega
    obtain ⟨b, c, r, hd, hat, hlen, hkind, hv0, hv1, hv3, hl1, hl5⟩ := hq _ (List.getElem_mem hi')
    have hbs : b < s.size := by
      have := congrArg List.length hd
      rw [List.length_drop, bl_size, List.length_cons] at this
      omega
    have R0 := ih (i + 1) k (by omega) (by omega)
    have e2 : wrap64 ((i : Int) + 1) = ((i + 1 : Nat) : Int) := by rw [wrapN (by omega) (by omega)]; omega
    have R4 := kinds_j4 s L i L[i].text (wantK c) k hl1 hl5 e2 R0
    have R3 := kinds_j3 s L i hi' c (k + 1) (wantK c) rfl hkind (fun b hb => by rw [hb]; exact R4)
    have R2 := fun b hb => kinds_j2 s L i ⟨L[i].text.toArray⟩ c (k + 2) b hb (by omega) R3
    have R1 : sorrellaw04_LexKinds.j1 (k + 4) s true (L.map tokS) i ⟨L[i].text.toArray⟩ false = some true := by
      simp only [sorrellaw04_LexKinds.j1, Bool.false_eq_true, if_false]
      have e3 : (tokS L[i]).f3 = (b : Int) := hat
      rw [if_pos (by omega), if_pos (by rw [List.length_map]; omega), rd_map L i hi', e3, if_pos (by omega), if_pos (by omega), bt_drop s b c r hd]
      by_cases h39 : c = 39
      · have : ((c.toNat : Int) = 39) := (u8_lit c 39 39 rfl).2 h39
        rw [if_pos this]
        exact R2 true (by rw [h39]; rfl)
      · have h39' : ¬ ((c.toNat : Int) = 39) := fun h => h39 ((u8_lit c 39 39 rfl).1 h)
        rw [if_neg h39', rSmall, Option.bind_some]
        refine R2 _ ?_
        have : (c == 39) = false := by simpa using h39
        rw [this, Bool.false_or]
    show sorrellaw04_LexKinds.l0 (k + 4 + 1) s true (L.map tokS) i = some true
    simp only [sorrellaw04_LexKinds.l0]
    have f1 : (tokS L[i]).f1 = ⟨L[i].text.toArray⟩ := rfl
    have f2 : (tokS L[i]).f2 = L[i].val := rfl
    have f3 : (tokS L[i]).f3 = (b : Int) := hat
    have f0 : (tokS L[i]).f0 = L[i].kind := rfl
    rw [if_pos (by rw [List.length_map]; omega), if_pos (by omega), rd_map L i hi', f1, f2, f3, f0, mk_size, if_neg (by omega), if_neg (by omega), if_neg (by omega)]
    have hgt : decide (L[i].val > 2147483647) = false := by rw [decide_eq_false_iff_not]; omega
    rw [hgt]
    by_cases hz : L[i].val = 0
    · rw [if_pos hz, if_neg (by omega)]
      exact R1
    · rw [if_neg hz, if_pos (hv3 hz), if_neg (by omega)]
      exact R1

theorem LexKinds : sorrellaw04_LexKinds.Pure := by
  intro s hs
  refine ⟨1000001, ?_⟩
  have hK : (1000000 : Nat) < 1000001 := by omega
  generalize (1000001 : Nat) = K at *
  unfold sorrellaw04_LexKinds.f
  rw [head_at K (by omega), Option.bind_some]
  by_cases hbig : (s.size : Int) > 3000
  · rw [if_pos hbig]
  · rw [if_neg hbig, lex_f, Option.bind_some]
    have ls := bl_size s
    rcases lexAll_cases s.data.toList (by omega) with ⟨ts, hx, he⟩ | ⟨p, e, hx, he, hd⟩
    · have hb2 := (LX_bounds hx ts rfl).1
      rw [he]
      refine kinds_l0 s ts (by omega) ?_ ts.length 0 K (by omega) (by omega)
      refine LX_each (Q := KQ) s.data.toList (fun a c r t hd ht => ?_) hx (by rw [List.drop_zero]) ts rfl
      have h1 := tok_text c r t ht
      obtain ⟨h2, h3, h4, h5, h6, h7⟩ := tok_limits c r t ht
      exact ⟨c, r, hd, rfl, h1.1, h2, h3, h4, h5, h6, h7⟩
    · rw [he]
      exact kinds_l0 s [] (by simp) (fun t ht => by cases ht) 0 0 K rfl (by omega)
end Go.Proofs.YtpdlfokfjkmplaaDoor.Pure
