/- Tokens stand in a text where they say, one behind the other; what stands between them, ahead and behind, is blanks and remarks: the pure statement. No condition. -/
import Derived.Test.YtpdlfokfjkmplaaDoorLexL
import Derived.Test.YtpdlfokfjkmplaaDoorTok
import Derived.Test.YtpdlfokfjkmplaaDoorRefA
import Derived.Test.YtpdlfokfjkmplaaDoorHead04
import Derived.Test.YtpdlfokfjkmplaaDoorPx10
import Derived.Test.YtpdlfokfjkmplaaDoorPx11
namespace Go.Proofs.YtpdlfokfjkmplaaDoor.Pure
open Go.RowKit Go.Proofs.YtpdlfokfjkmplaaDoor.P Go.Proofs.YtpdlfokfjkmplaaDoorW.PrintWords Go.Proofs.YtpdlfokfjkmplaaDoorW.PrintLast

theorem blank_num (c : UInt8) (h10 : c ≠ 10) (hb : isBlank c = true) : (c.toNat : Int) = 32 ∨ (c.toNat : Int) = 9 ∨ (c.toNat : Int) = 13 := by
  have := u8_prop (fun c => isBlank c = true → c = 10 ∨ c = 32 ∨ c = 9 ∨ c = 13) (by decide +kernel) c hb
  rcases this with h | h | h | h
  · exact absurd h h10
  · subst h; left; rfl
  · subst h; right; left; rfl
  · subst h; right; right; rfl

theorem passed_l0 (s : ByteArray) (hs : s.size ≤ 1000000) (d : Nat) : ∀ (n k : Nat) (b : Bool), s.size - n = d → n ≤ s.size → d < k → passL b (s.data.toList.drop n) = (s.data.toList.drop n).length → sorrellaw04_passed.l0 k s b n = some true := by
  induction d with
  | zero =>
    intro n k b hd hn hk _
    obtain ⟨k, rfl⟩ : ∃ m, k = m + 1 := ⟨k - 1, by omega⟩
    simp only [sorrellaw04_passed.l0]
    rw [if_neg (by omega)]
  | succ d ih =>
    intro n k b hd hn hk hp
    obtain ⟨k, rfl⟩ : ∃ m, k = m + 1 := ⟨k - 1, by omega⟩
    have hdr := List.drop_eq_getElem_cons (show n < s.data.toList.length by rw [bl_size]; omega)
    generalize s.data.toList[n]'(by rw [bl_size]; omega) = c at hdr
    rw [hdr] at hp
    simp only [sorrellaw04_passed.l0]
    rw [if_pos (by omega), if_pos (by omega), bt_drop s n c _ hdr]
    have e1 : wrap64 ((n : Int) + 1) = ((n + 1 : Nat) : Int) := by rw [wrapN (by omega) (by omega)]; omega
    rw [e1]
    have i1 := fun b => ih (n + 1) k b (by omega) (by omega) (by omega)
    simp only [passL, List.length_cons] at hp
    by_cases h10 : c = 10
    · have h10' : ((c.toNat : Int) = 10) := (u8_lit c 10 10 rfl).2 h10
      rw [if_pos h10'] 
      rw [if_pos h10] at hp
      exact i1 false (by omega)
    · have h10' : ¬ ((c.toNat : Int) = 10) := fun h => h10 ((u8_lit c 10 10 rfl).1 h)
      rw [if_neg h10']
      rw [if_neg h10] at hp
      by_cases h37 : c = 37
      · have h37' : ((c.toNat : Int) = 37) := (u8_lit c 37 37 rfl).2 h37
        rw [if_pos h37']
        rw [if_pos h37] at hp
        exact i1 true (by omega)
      · have h37' : ¬ ((c.toNat : Int) = 37) := fun h => h37 ((u8_lit c 37 37 rfl).1 h)
        rw [if_neg h37']
        rw [if_neg h37] at hp
        cases b with
        | true =>
          rw [if_pos (by rfl)] at hp
          rw [if_pos rfl]
          exact i1 true (by omega)
        | false =>
          rw [if_neg (by decide)]
          by_cases hb : isBlank c = true
          · rw [hb, if_pos (by rfl)] at hp
            have i2 := i1 false (by omega)
            rcases blank_num c h10 hb with h | h | h
            · rw [if_pos h]; exact i2
            · rw [if_neg (by omega), if_pos h]; exact i2
            · rw [if_neg (by omega), if_neg (by omega), if_pos h]; exact i2
          · have hb' : isBlank c = false := by simpa using hb
            rw [hb', if_neg (by decide)] at hp
            omega
theorem passed_f (s : ByteArray) (hs : s.size ≤ 1000000) (k : Nat) (hk : s.size < k) (h : passL false s.data.toList = s.data.toList.length) : sorrellaw04_passed.f k s = some true := by
  unfold sorrellaw04_passed.f
  exact passed_l0 s hs s.size 0 k false (by omega) (by omega) hk (by rw [List.drop_zero]; exact h)

theorem passL_10 (b : Bool) (l : List UInt8) : passL b (10 :: l) = passL false l + 1 := by simp [passL]
theorem passL_37 (b : Bool) (l : List UInt8) : passL b (37 :: l) = passL true l + 1 := by simp [passL]
theorem passL_go (b : Bool) (c : UInt8) (l : List UInt8) (h10 : ¬ c = 10) (h37 : ¬ c = 37) (hb : (b || isBlank c) = true) : passL b (c :: l) = passL b l + 1 := by simp only [passL, h10, h37, if_false, hb, if_true]
theorem passL_no (b : Bool) (c : UInt8) (l : List UInt8) (h10 : ¬ c = 10) (h37 : ¬ c = 37) (hb : (b || isBlank c) = false) : passL b (c :: l) = 0 := by simp [passL, h10, h37, hb]
theorem passL_take (l : List UInt8) : ∀ b, passL b (l.take (passL b l)) = passL b l := by
  induction l with
  | nil => intro b; rfl
  | cons c l ih =>
    intro b
    by_cases h10 : c = 10
    · subst h10
      rw [passL_10, List.take_succ_cons, passL_10, ih]
    · by_cases h37 : c = 37
      · subst h37
        rw [passL_37, List.take_succ_cons, passL_37, ih]
      · cases hb : (b || isBlank c) with
        | true => rw [passL_go b c l h10 h37 hb, List.take_succ_cons, passL_go b c _ h10 h37 hb, ih]
        | false =>
          rw [passL_no b c l h10 h37 hb]
          rfl

/-- The tokens stand one behind the other from e on. -/
inductive Chain (s : List UInt8) : Nat → List Tok → Prop where
  | nil (e : Nat) (he : e ≤ s.length) (hp : passL false (s.drop e) = (s.drop e).length) : Chain s e []
  | cons (e b : Nat) (c : UInt8) (r : List UInt8) (t : Tok) (n : Nat) (ts : List Tok) (he : e ≤ b) (hat : t.at' = b) (hd : s.drop b = c :: r) (hp : passL false ((s.drop e).take (b - e)) = b - e)
      (h1 : 1 ≤ t.text.length) (hq : (c ≠ 39 → t.text = (s.drop b).take t.text.length ∧ n = t.text.length) ∧ (c = 39 → t.text = (s.drop (b + 1)).take t.text.length ∧ n = t.text.length + 2)) (hn : b + n ≤ s.length) (hr : Chain s (b + n) ts) : Chain s e (t :: ts)

theorem chain_of (s : List UInt8) {l : List UInt8} {a : Nat} {x : Except (Nat × Int) (List Tok)} (h : LX l a x) : l = s.drop a → a ≤ s.length → ∀ ts, x = .ok ts → Chain s a ts := by
  induction h with
  | done l a h =>
    intro hl ha ts e
    injection e with e
    subst e
    refine .nil a ha ?_
    rw [← hl]
    exact passL_full l h
  | err => intro _ _ ts e; cases e
  | fail => intro _ _ ts e; cases e
  | ok l a c r t ts' h ht hr ih =>
    intro hl ha ts e
    injection e with e
    subst e
    have hlt := passL_part l c r h
    have hll : l.length = s.length - a := by rw [hl, List.length_drop]
    have hp := tok_len c r t ht
    have htx := tok_text c r t ht
    have hlen : (c :: r).length = l.length - passL false l := by rw [← h, List.length_drop]
    have hd : s.drop (a + passL false l) = c :: r := by rw [← List.drop_drop, ← hl, h]
    have hd1 : s.drop (a + passL false l + 1) = r := by
      have : (s.drop (a + passL false l)).drop 1 = s.drop (a + passL false l + 1) := by rw [List.drop_drop]
      rw [← this, hd]; rfl
    refine .cons a (a + passL false l) c r _ t.len ts' (by omega) rfl hd ?_ htx.1 ⟨fun hc => ?_, fun hc => ?_⟩ (by omega) (ih ?_ (by omega) ts' rfl)
    · have e1 : a + passL false l - a = passL false l := by omega
      rw [e1, ← hl]
      exact passL_take l false
    · rw [hd]; exact htx.2.1 hc
    · rw [hd1]; exact htx.2.2 hc
    · rw [← List.drop_drop, hd]

theorem ext_data (s : ByteArray) (a b : Nat) : (s.extract a b).data.toList = (s.data.toList.drop a).take (b - a) := Lib.extract_data s a b

theorem wadd (a b : Nat) (h : a + b ≤ 1000000000) : wrap64 ((a : Int) + (b : Int)) = ((a + b : Nat) : Int) := by rw [wrapN (by omega) (by omega)]; omega
theorem wsucc (a : Nat) (h : a ≤ 1000000000) : wrap64 ((a : Int) + 1) = ((a + 1 : Nat) : Int) := by rw [wrapN (by omega) (by omega)]; omega

theorem order_j3 (s : ByteArray) (M : List S30) (i : Nat) (hi : (i : Int) < (M.length : Int)) (hi2 : i ≤ 1000000) (T : ByteArray) (b q e : Nat) (f1 : (rd_T30 M (i : Int)).f1 = T) (f3 : (rd_T30 M (i : Int)).f3 = (b : Int)) (hb : b + T.size ≤ 1000000)
    (hqn : q = b ∧ e = q + T.size ∨ q = b + 1 ∧ e = q + T.size + 1) (k : Nat) (R : sorrellaw04_LexOrder.l0 k s true M (e : Int) ((i + 1 : Nat) : Int) = some true) : sorrellaw04_LexOrder.j3 (k + 1) s true M i q false = some true := by
  simp only [sorrellaw04_LexOrder.j3, Bool.false_eq_true, if_false]
  rw [if_pos (by omega), if_pos hi, f1, f3, wadd q T.size (by omega), wsucc i (by omega)]
  rcases hqn with ⟨rfl, rfl⟩ | ⟨rfl, rfl⟩
  · rw [if_neg (by omega)]
    exact R
  · rw [if_pos (by omega), wsucc _ (by omega)]
    exact R
theorem order_j2 (s : ByteArray) (M : List S30) (i : Nat) (hi : (i : Int) < (M.length : Int)) (T : ByteArray) (q : Nat) (f1 : (rd_T30 M (i : Int)).f1 = T) (hT : 1 ≤ T.size) (hq : q + T.size ≤ s.size) (hs : s.size ≤ 5000) (he : s.extract q (q + T.size) = T) (k : Nat) (R : sorrellaw04_LexOrder.j3 k s true M i q false = some true) : sorrellaw04_LexOrder.j2 (k + 1) s true M i q = some true := by
  simp only [sorrellaw04_LexOrder.j2]
  rw [if_pos (by omega), if_pos hi, f1, wadd q T.size (by omega), if_neg (by omega), if_neg (by omega), if_pos (by omega), if_pos (by omega), if_pos (by omega), Int.toNat_natCast, Int.toNat_natCast, he]
  have e6 : (T.toList != T.toList) = false := by simp
  rw [e6]
  exact R
theorem order_j1 (s : ByteArray) (M : List S30) (i : Nat) (b : Nat) (c : UInt8) (r : List UInt8) (hd : s.data.toList.drop b = c :: r) (hb : b < s.size) (hs : s.size ≤ 5000) (k : Nat) (R : ∀ q, (c ≠ 39 ∧ q = b) ∨ (c = 39 ∧ q = b + 1) → sorrellaw04_LexOrder.j2 k s true M i ((q : Nat) : Int) = some true) : sorrellaw04_LexOrder.j1 (k + 1) s true M i b false = some true := by
  simp only [sorrellaw04_LexOrder.j1, Bool.false_eq_true, if_false]
  rw [if_pos (by omega), if_pos (by omega), bt_drop s b c r hd]
  by_cases h39 : c = 39
  · have h39' : ((c.toNat : Int) = 39) := (u8_lit c 39 39 rfl).2 h39
    rw [if_pos h39', wsucc b (by omega)]
    exact R (b + 1) (.inr ⟨h39, rfl⟩)
  · have h39' : ¬ ((c.toNat : Int) = 39) := fun h => h39 ((u8_lit c 39 39 rfl).1 h)
    rw [if_neg h39']
    exact R b (.inl ⟨h39, rfl⟩)
theorem order_round (s : ByteArray) (M : List S30) (i : Nat) (hi : (i : Int) < (M.length : Int)) (e b : Nat) (heb : e ≤ b) (hb : b < s.size) (hs : s.size ≤ 5000) (f3 : (rd_T30 M (i : Int)).f3 = (b : Int)) (k : Nat) (hk : 6000 < k) (hp : passL false ((s.data.toList.drop e).take (b - e)) = b - e) (R : sorrellaw04_LexOrder.j1 k s true M i b false = some true) : sorrellaw04_LexOrder.l0 (k + 1) s true M e i = some true := by
  have hp2 : sorrellaw04_passed.f k (s.extract e b) = some true := by
    refine passed_f _ (by rw [ByteArray.size_extract]; omega) _ (by rw [ByteArray.size_extract]; omega) ?_
    rw [ext_data, hp, List.length_take, List.length_drop, bl_size]
    omega
  simp only [sorrellaw04_LexOrder.l0]
  rw [if_pos hi, if_pos (by omega), f3, if_neg (by omega), if_neg (by omega), if_pos (by omega), if_pos (by omega), if_pos (by omega), Int.toNat_natCast, Int.toNat_natCast, hp2, Option.bind_some]
  exact R
theorem order_last (s : ByteArray) (M : List S30) (i e : Nat) (hi : ¬ (i : Int) < (M.length : Int)) (he : e ≤ s.size) (hs : s.size ≤ 5000) (k : Nat) (hk : 6000 < k) (hp : passL false (s.data.toList.drop e) = (s.data.toList.drop e).length) : sorrellaw04_LexOrder.l0 (k + 1) s true M e i = some true := by
  have hp2 : sorrellaw04_passed.f k (s.extract e s.size) = some true := passed_f _ (by rw [ByteArray.size_extract]; omega) k (by rw [ByteArray.size_extract]; omega) (by rw [bl_from]; exact hp)
  simp only [sorrellaw04_LexOrder.l0, if_true]
  rw [if_neg hi, if_pos (by omega), if_pos (by omega), Int.toNat_natCast, hp2]
  rfl

theorem order_l0 (s : ByteArray) (hs : s.size ≤ 5000) (L : List Tok) (hL : L.length ≤ 1000000) (ts : List Tok) : ∀ (e i k : Nat), Chain s.data.toList e ts → L.drop i = ts → i ≤ L.length → 4 * ts.length + 6001 < k →
    sorrellaw04_LexOrder.l0 k s true (L.map tokS) e i = some true := by
  induction ts with
  | nil =>
    intro e i k hc hi hiL hk
    obtain ⟨k, rfl⟩ : ∃ m, k = m + 1 := ⟨k - 1, by omega⟩
    have hil := List.drop_eq_nil_iff.1 hi
    cases hc with
    | nil _ he hp =>
      rw [bl_size] at he
      exact order_last s _ i e (by rw [List.length_map]; omega) he hs k (by simp only [List.length_nil] at hk; omega) hp
  | cons t ts ih =>
    intro e i k hc hi hiL hk
    obtain ⟨k, rfl⟩ : ∃ m, k = m + 4 := ⟨k - 4, by omega⟩
    have hi' : i < L.length := by
      have := congrArg List.length hi
      rw [List.length_drop, List.length_cons] at this
      omega
    have hdi := List.drop_eq_getElem_cons hi'
    rw [hi] at hdi
    injection hdi with ht hts
    rw [List.length_cons] at hk
    cases hc with
    | cons _ b c r _ n _ he hat hd hp h1 hq hn hr =>
      rw [bl_size] at hn
      have hbs : b < s.size := by
        have := congrArg List.length hd
        rw [List.length_drop, List.length_cons, bl_size] at this
        omega
      have R := ih (b + n) (i + 1) k hr hts.symm (by omega) (by omega)
      have f1 : (rd_T30 (L.map tokS) (i : Int)).f1 = ⟨t.text.toArray⟩ := by rw [rd_map L i hi', ← ht]; rfl
      have f3 : (rd_T30 (L.map tokS) (i : Int)).f3 = (b : Int) := by rw [rd_map L i hi', ← ht]; exact hat
      have hsz : (⟨t.text.toArray⟩ : ByteArray).size = t.text.length := by simp [ByteArray.size]
      have hlenM : (i : Int) < ((L.map tokS).length : Int) := by rw [List.length_map]; omega
      refine order_round s _ i hlenM e b he hbs hs f3 (k + 3) (by omega) hp (order_j1 s _ i b c r hd hbs hs (k + 2) (fun q hc => ?_))
      have hex : t.text = (s.data.toList.drop q).take t.text.length ∧ (q = b ∧ n = t.text.length ∨ q = b + 1 ∧ n = t.text.length + 2) := by
        rcases hc with ⟨hc, rfl⟩ | ⟨hc, rfl⟩
        · exact ⟨(hq.1 hc).1, .inl ⟨rfl, (hq.1 hc).2⟩⟩
        · exact ⟨(hq.2 hc).1, .inr ⟨rfl, (hq.2 hc).2⟩⟩
      have e4 : s.extract q (q + (⟨t.text.toArray⟩ : ByteArray).size) = ⟨t.text.toArray⟩ := by
        apply ba_eq
        rw [ext_data, hsz]
        have : q + t.text.length - q = t.text.length := by omega
        rw [this]
        exact hex.1.symm
      generalize (⟨t.text.toArray⟩ : ByteArray) = T at *
      have hqs : q + T.size ≤ s.size ∧ b + T.size ≤ 1000000 := by
        rcases hex.2 with ⟨h, h'⟩ | ⟨h, h'⟩ <;> omega
      exact order_j2 s _ i hlenM T q f1 (by omega) hqs.1 hs e4 (k + 1) (order_j3 s _ i hlenM (by omega) T b q (b + n) f1 f3 hqs.2 (by rcases hex.2 with ⟨h, h'⟩ | ⟨h, h'⟩ <;> omega) k R)

theorem LexOrder : sorrellaw04_LexOrder.Pure := by
  intro s hs
  refine ⟨1000001, ?_⟩
  have hK : (1000000 : Nat) < 1000001 := by omega
  generalize (1000001 : Nat) = K at *
  unfold sorrellaw04_LexOrder.f
  rw [head_at K (by omega), Option.bind_some]
  by_cases hbig : (s.size : Int) > 5000
  · rw [if_pos hbig]
  · rw [if_neg hbig, lex_f, Option.bind_some]
    have ls := bl_size s
    rcases lexAll_cases s.data.toList (by omega) with ⟨ts, hx, he⟩ | ⟨p, e, hx, he, hd⟩
    · rw [he]
      simp only [if_true]
      have hb := (LX_bounds hx ts rfl).1
      exact order_l0 s (by omega) ts (by omega) ts 0 0 K (chain_of s.data.toList hx (by rw [List.drop_zero]) (by omega) ts rfl) (by rw [List.drop_zero]) (by omega) (by omega)
    · rw [he]
      have hne : ¬ e = 0 := by omega
      simp only
      rw [if_neg hne]
      rfl
end Go.Proofs.YtpdlfokfjkmplaaDoor.Pure
