import Derived.Test.YthdccdbiichabaaDoorLexS
import Derived.Test.YthdccdbiichabaaDoorLexL
/- What read.Term and read.Program compute, as plain functions on lists of tokens. No program in sight. No condition. -/
namespace Go.Proofs.YthdccdbiichabaaDoor.P
set_option linter.unusedVariables false

/-- A cell of a term. -/
structure Cel where
  kind : Int
  name : List UInt8
  n : Int
  deriving DecidableEq

/-- What is read, or what is wrong (place, error); none: out of rounds. -/
abbrev Res (α : Type) := Option (Except (Int × Int) α)
def Res.ok {α : Type} (a : α) : Res α := some (.ok a)
def Res.err {α : Type} (a c : Int) : Res α := some (.error (a, c))
def Res.bind {α β : Type} (r : Res α) (f : α → Res β) : Res β :=
  match r with
  | none => none
  | some (.error e) => some (.error e)
  | some (.ok a) => f a

/-- What is still to read, and the variables' letters. -/
abbrev RS := List Tok × List (List UInt8)

/-- Each operator between two terms: its rank, and those that may stand at its sides. -/
def opR (t : List UInt8) : Option (Int × Int × Int) :=
  if t = [61] ∨ t = [60] then some (700, 699, 699) else if t = [43] ∨ t = [45] then some (500, 500, 499) else if t = [42] then some (400, 400, 399) else none

def isT (l : List Tok) (kind : Int) (text : List UInt8) : Bool :=
  match l with
  | [] => false
  | t :: _ => t.kind == kind && t.text == text
/-- What is wrong with the next token. -/
def oddR (e : Int) (l : List Tok) : Int × Int :=
  match l with
  | [] => (e, 51)
  | t :: _ => if t.kind = 0 ∨ t.kind = 6 then (t.at', 51) else (t.at', 50)
def mustR (e : Int) (text : List UInt8) (s : RS) : Res RS := if isT s.1 5 text = true then Res.ok (s.1.tail, s.2) else Res.err (oddR e s.1).1 (oddR e s.1).2
/-- A variable's number, and all letters then. -/
def varR (names : List (List UInt8)) (text : List UInt8) : Nat × List (List UInt8) :=
  if text ≠ [95] ∧ text ∈ names then (names.idxOf text, names) else (names.length, names ++ [text])
def funR (name : List UInt8) (l : List (List Cel)) : List Cel := ⟨3, name, l.length⟩ :: l.flatten
def nilR : List Cel := funR [91, 93] []
def listR (l : List (List Cel)) (t : List Cel) : List Cel := (l.map fun x => ⟨3, [46], 2⟩ :: x).flatten ++ t

mutual
/-- A term up to a rank. -/
def upToR : Nat → Int → Int → RS → Res (List Cel × RS)
  | 0, _, _, _ => none
  | k + 1, e, most, s => (beginR k e s).bind fun x => climbR k e most x.1 x.2.1 x.2.2
/-- What follows a beginning. -/
def climbR : Nat → Int → Int → List Cel → Int → RS → Res (List Cel × RS)
  | 0, _, _, _, _, _ => none
  | k + 1, e, most, x, rank, s =>
    match s.1 with
    | [] => Res.ok (x, s)
    | t :: r =>
      if t.kind ≠ 4 then Res.ok (x, s) else
      match opR t.text with
      | none => Res.ok (x, s)
      | some o =>
        if most < o.1 then Res.ok (x, s) else if o.2.1 < rank then Res.err t.at' 52 else
        (upToR k e o.2.2 (r, s.2)).bind fun y => climbR k e most (funR t.text [x, y.1]) o.1 y.2
/-- A beginning, and its rank. -/
def beginR : Nat → Int → RS → Res (List Cel × Int × RS)
  | 0, _, _ => none
  | k + 1, e, s =>
    match s.1 with
    | [] => Res.err e 51
    | t :: r =>
      if t.kind = 3 then Res.ok ([⟨2, [], t.val⟩], 0, (r, s.2))
      else if t.kind = 2 then Res.ok ([⟨1, [], (varR s.2 t.text).1⟩], 0, (r, (varR s.2 t.text).2))
      else if t.kind = 1 then
        if isT r 5 [40] = true then (rowR k e [] (r.tail, s.2)).bind fun l => (mustR e [41] l.2).bind fun s' => Res.ok (funR t.text l.1, 0, s')
        else Res.ok (funR t.text [], 0, (r, s.2))
      else if t.kind = 5 ∧ t.text = [40] then (upToR k e 700 (r, s.2)).bind fun x => (mustR e [41] x.2).bind fun s' => Res.ok (x.1, 0, s')
      else if t.kind = 5 ∧ t.text = [91] then (listLR k e (r, s.2)).bind fun x => Res.ok (x.1, 0, x.2)
      else if t.kind = 4 ∧ t.text = [45] then
        match r with
        | [] => (upToR k e 200 (r, s.2)).bind fun x => Res.ok (funR [45] [x.1], 200, x.2)
        | n :: r' => if n.kind = 3 ∧ n.at' = t.at' + 1 then Res.ok ([⟨2, [], -n.val⟩], 0, (r', s.2)) else (upToR k e 200 (r, s.2)).bind fun x => Res.ok (funR [45] [x.1], 200, x.2)
      else Res.err (oddR e s.1).1 (oddR e s.1).2
/-- Terms with a comma between any two, behind those that are there. -/
def rowR : Nat → Int → List (List Cel) → RS → Res (List (List Cel) × RS)
  | 0, _, _, _ => none
  | k + 1, e, acc, s => (upToR k e 700 s).bind fun x => if isT x.2.1 5 [44] = true then rowR k e (acc ++ [x.1]) (x.2.1.tail, x.2.2) else Res.ok (acc ++ [x.1], x.2)
/-- A list, behind its bracket. -/
def listLR : Nat → Int → RS → Res (List Cel × RS)
  | 0, _, _ => none
  | k + 1, e, s =>
    if isT s.1 5 [93] = true then Res.ok (nilR, (s.1.tail, s.2)) else
    (rowR k e [] s).bind fun l =>
      (if isT l.2.1 5 [124] = true then upToR k e 700 (l.2.1.tail, l.2.2) else Res.ok (nilR, l.2)).bind fun t =>
        (mustR e [93] t.2).bind fun s' => Res.ok (listR l.1 t.1, s')
end

/-- May a name be so? -/
def nameOK (s : List UInt8) : Bool := s.all (fun c => decide (32 ≤ c) && decide (c ≤ 126) && c != 39) && decide (1 ≤ s.length) && decide (s.length ≤ 12)
/-- May a cell be so? -/
def celOK (c : Cel) : Bool :=
  if c.kind = 1 then c.name == [] && decide (0 ≤ c.n) && decide (c.n ≤ 999)
  else if c.kind = 2 then c.name == [] && decide (-2147483647 ≤ c.n) && decide (c.n ≤ 2147483647)
  else if c.kind = 3 then nameOK c.name && decide (0 ≤ c.n) && decide (c.n ≤ 6)
  else false
/-- What is behind so many terms; none: they are not there. -/
def endR : Nat → List Cel → Option (List Cel)
  | 0, l => some l
  | _ + 1, [] => none
  | d + 1, c :: l => if celOK c = true then endR (d + (if c.kind = 3 then c.n.toNat else 0)) l else none
def rightR (t : List Cel) : Bool := decide (1 ≤ t.length) && decide (t.length ≤ 200) && (endR 1 t == some [])

def placeR (e : Int) (l : List Tok) : Int := match l with | [] => e | t :: _ => t.at'
/-- A term that is right, an atom if it must be. -/
def wholeR (k : Nat) (e : Int) (atom : Bool) (s : RS) : Res (List Cel × RS) :=
  (upToR k e 700 s).bind fun x =>
    if rightR x.1 = false then Res.err (placeR e s.1) 2
    else if atom = true ∧ (x.1.headD ⟨0, [], 0⟩).kind ≠ 3 then Res.err (placeR e s.1) 50
    else Res.ok x
/-- A literal: not? its atom. -/
abbrev LitR := Bool × List Cel
abbrev ClR := List Cel × List LitR
/-- A body's literals, behind those that are there. -/
def bodyR : Nat → Int → List LitR → RS → Res (List LitR × RS)
  | 0, _, _, _ => none
  | k + 1, e, acc, s =>
    if acc.length = 8 then Res.err (placeR e s.1) 2 else
    (wholeR k e true (if isT s.1 4 [92, 43] = true then (s.1.tail, s.2) else s)).bind fun x =>
      if isT x.2.1 5 [44] = true then bodyR k e (acc ++ [(isT s.1 4 [92, 43], x.1)]) (x.2.1.tail, x.2.2) else Res.ok (acc ++ [(isT s.1 4 [92, 43], x.1)], x.2)
def clauseR (k : Nat) (e : Int) (rest : List Tok) : Res (ClR × RS) :=
  (wholeR k e true (rest, [])).bind fun h =>
    (if isT h.2.1 4 [58, 45] = true then bodyR k e [] (h.2.1.tail, h.2.2) else Res.ok ([], h.2)).bind fun b =>
      match b.2.1 with
      | [] => Res.err e 51
      | t :: r => if t.kind = 6 then Res.ok ((h.1, b.1), (r, b.2.2)) else Res.err (oddR e (t :: r)).1 (oddR e (t :: r)).2
def clausesR : Nat → Int → List ClR → List Tok → Res (List ClR)
  | 0, _, _, _ => none
  | k + 1, e, acc, rest =>
    match rest with
    | [] => Res.ok acc
    | t :: r => if acc.length = 64 then Res.err t.at' 2 else (clauseR k e (t :: r)).bind fun c => clausesR k e (acc ++ [c.1]) c.2.1
def programR (k : Nat) (s : List UInt8) : Res (List ClR) :=
  if (lexAll s).2.2 ≠ 0 then Res.err (lexAll s).2.1 (lexAll s).2.2 else clausesR k s.length [] (lexAll s).1
def termR (k : Nat) (s : List UInt8) : Res (List Cel × List (List UInt8)) :=
  if (lexAll s).2.2 ≠ 0 then Res.err (lexAll s).2.1 (lexAll s).2.2 else
  (wholeR k s.length false ((lexAll s).1, [])).bind fun x =>
    match (match x.2.1 with | [] => [] | t :: r => if t.kind = 6 then r else t :: r) with
    | [] => Res.ok (x.1, x.2.2)
    | t :: _ => Res.err t.at' 50
end Go.Proofs.YthdccdbiichabaaDoor.P
/- Laws of what read computes: more rounds play no part; enough rounds are enough; what is read is passed. In plain Lean. No condition. -/
namespace Go.Proofs.YthdccdbiichabaaDoor.P
set_option linter.unusedVariables false

def LeR {α : Type} (a b : Res α) : Prop := ∀ r, a = some r → b = some r
theorem LeR.refl {α : Type} (a : Res α) : LeR a a := fun _ h => h
theorem LeR.none {α : Type} (b : Res α) : LeR Option.none b := fun _ h => by cases h
theorem LeR.bind {α β : Type} {a a' : Res α} {f f' : α → Res β} (h : LeR a a') (k : ∀ x, LeR (f x) (f' x)) : LeR (a.bind f) (a'.bind f') := by
  intro r hr
  match a, h with
  | Option.none, _ => cases hr
  | some (.error e), h => rw [h _ rfl]; exact hr
  | some (.ok x), h => rw [h _ rfl]; exact k x r hr
theorem LeR.ite {α : Type} {c : Prop} [Decidable c] {a a' b b' : Res α} (h : LeR a a') (k : LeR b b') : LeR (if c then a else b) (if c then a' else b') := by
  split
  · exact h
  · exact k
theorem Res.bind_ok {α β : Type} {r : Res α} {f : α → Res β} {b : β} (h : r.bind f = some (.ok b)) : ∃ a, r = some (.ok a) ∧ f a = some (.ok b) := by
  match r, h with
  | some (.ok a), h => exact ⟨a, rfl, h⟩
theorem Res.bind_some {α β : Type} {r : Res α} {f : α → Res β} {q : Except (Int × Int) β} (h : r.bind f = some q) : (∃ a, r = some (.ok a) ∧ f a = some q) ∨ ∃ x, r = some (.error x) ∧ q = .error x := by
  match r, h with
  | some (.ok a), h => exact .inl ⟨a, rfl, h⟩
  | some (.error x), h => exact .inr ⟨x, rfl, (Option.some.inj h).symm⟩
theorem Res.bind_of {α β : Type} {r : Res α} {f : α → Res β} {a : α} (h : r = some (.ok a)) : r.bind f = f a := by rw [h]; rfl
theorem Res.bind_error {α β : Type} {r : Res α} {f : α → Res β} {x : Int × Int} (h : r = some (.error x)) : r.bind f = some (.error x) := by rw [h]; rfl
theorem Res.ok_eq {α : Type} (a : α) : Res.ok a = some (.ok a) := rfl
theorem Res.err_eq {α : Type} (a c : Int) : (Res.err a c : Res α) = some (.error (a, c)) := rfl

theorem mono5 (k : Nat) :
    (∀ e most s, LeR (upToR k e most s) (upToR (k + 1) e most s)) ∧ (∀ e most x rank s, LeR (climbR k e most x rank s) (climbR (k + 1) e most x rank s)) ∧
    (∀ e s, LeR (beginR k e s) (beginR (k + 1) e s)) ∧ (∀ e acc s, LeR (rowR k e acc s) (rowR (k + 1) e acc s)) ∧ (∀ e s, LeR (listLR k e s) (listLR (k + 1) e s)) := by
  induction k with
  | zero => exact ⟨fun _ _ _ => LeR.none _, fun _ _ _ _ _ => LeR.none _, fun _ _ => LeR.none _, fun _ _ _ => LeR.none _, fun _ _ => LeR.none _⟩
  | succ k ih =>
    obtain ⟨hU, hC, hB, hR, hL⟩ := ih
    refine ⟨fun e most s => ?_, fun e most x rank s => ?_, fun e s => ?_, fun e acc s => ?_, fun e s => ?_⟩
    · rw [upToR, upToR]
      exact LeR.bind (hB _ _) fun _ => hC _ _ _ _ _
    · rw [climbR, climbR]
      match s.1 with
      | [] => exact LeR.refl _
      | t :: r =>
        refine LeR.ite (LeR.refl _) ?_
        match opR t.text with
        | Option.none => exact LeR.refl _
        | some o => exact LeR.ite (LeR.refl _) (LeR.ite (LeR.refl _) (LeR.bind (hU _ _ _) fun _ => hC _ _ _ _ _))
    · rw [beginR, beginR]
      match s.1 with
      | [] => exact LeR.refl _
      | t :: r =>
        refine LeR.ite (LeR.refl _) (LeR.ite (LeR.refl _) (LeR.ite (LeR.ite (LeR.bind (hR _ _ _) fun _ => LeR.refl _) (LeR.refl _)) (LeR.ite (LeR.bind (hU _ _ _) fun _ => LeR.refl _) (LeR.ite (LeR.bind (hL _ _) fun _ => LeR.refl _) (LeR.ite ?_ (LeR.refl _))))))
        match r with
        | [] => exact LeR.bind (hU _ _ _) fun _ => LeR.refl _
        | n :: r' => exact LeR.ite (LeR.refl _) (LeR.bind (hU _ _ _) fun _ => LeR.refl _)
    · rw [rowR, rowR]
      exact LeR.bind (hU _ _ _) fun _ => LeR.ite (hR _ _ _) (LeR.refl _)
    · rw [listLR, listLR]
      exact LeR.ite (LeR.refl _) (LeR.bind (hR _ _ _) fun _ => LeR.bind (LeR.ite (hU _ _ _) (LeR.refl _)) fun _ => LeR.refl _)

theorem more {α : Type} {g : Nat → Res α} (h : ∀ k, LeR (g k) (g (k + 1))) {k k' : Nat} (hk : k ≤ k') : LeR (g k) (g k') := by
  induction hk with
  | refl => exact LeR.refl _
  | step _ ih => exact fun r hr => h _ r (ih r hr)
theorem upTo_more {k k' : Nat} (hk : k ≤ k') (e most s) : LeR (upToR k e most s) (upToR k' e most s) := more (g := fun k => upToR k e most s) (fun k => (mono5 k).1 e most s) hk
theorem climb_more {k k' : Nat} (hk : k ≤ k') (e most x rank s) : LeR (climbR k e most x rank s) (climbR k' e most x rank s) := more (g := fun k => climbR k e most x rank s) (fun k => (mono5 k).2.1 e most x rank s) hk
theorem begin_more {k k' : Nat} (hk : k ≤ k') (e s) : LeR (beginR k e s) (beginR k' e s) := more (g := fun k => beginR k e s) (fun k => (mono5 k).2.2.1 e s) hk
theorem row_more {k k' : Nat} (hk : k ≤ k') (e acc s) : LeR (rowR k e acc s) (rowR k' e acc s) := more (g := fun k => rowR k e acc s) (fun k => (mono5 k).2.2.2.1 e acc s) hk
theorem listL_more {k k' : Nat} (hk : k ≤ k') (e s) : LeR (listLR k e s) (listLR k' e s) := more (g := fun k => listLR k e s) (fun k => (mono5 k).2.2.2.2 e s) hk

/-- What holds of all that is read well: by the steps. -/
theorem rd_ind {e : Int} {PU : Int → RS → List Cel × RS → Prop} {PC : Int → List Cel → Int → RS → List Cel × RS → Prop} {PB : RS → List Cel × Int × RS → Prop}
    {PR : List (List Cel) → RS → List (List Cel) × RS → Prop} {PL : RS → List Cel × RS → Prop}
    (u : ∀ most s b r, PB s b → PC most b.1 b.2.1 b.2.2 r → PU most s r)
    (c0 : ∀ most x rank s, PC most x rank s (x, s))
    (c1 : ∀ most x rank t r ns o y q, t.kind = 4 → opR t.text = some o → o.1 ≤ most → rank ≤ o.2.1 → PU o.2.2 (r, ns) y → PC most (funR t.text [x, y.1]) o.1 y.2 q → PC most x rank (t :: r, ns) q)
    (bn : ∀ t r ns, t.kind = 3 → PB (t :: r, ns) ([⟨2, [], t.val⟩], 0, (r, ns)))
    (bv : ∀ t r ns, t.kind = 2 → PB (t :: r, ns) ([⟨1, [], (varR ns t.text).1⟩], 0, (r, (varR ns t.text).2)))
    (bf : ∀ t p r ns l q r', t.kind = 1 → p.kind = 5 → p.text = [40] → PR [] (r, ns) l → l.2.1 = q :: r' → q.kind = 5 → q.text = [41] → PB (t :: p :: r, ns) (funR t.text l.1, 0, (r', l.2.2)))
    (ba : ∀ t r ns, t.kind = 1 → PB (t :: r, ns) (funR t.text [], 0, (r, ns)))
    (bp : ∀ t r ns x q r', t.kind = 5 → t.text = [40] → PU 700 (r, ns) x → x.2.1 = q :: r' → q.kind = 5 → q.text = [41] → PB (t :: r, ns) (x.1, 0, (r', x.2.2)))
    (bl : ∀ t r ns x, t.kind = 5 → t.text = [91] → PL (r, ns) x → PB (t :: r, ns) (x.1, 0, x.2))
    (bm : ∀ t n r ns, t.kind = 4 → t.text = [45] → n.kind = 3 → n.at' = t.at' + 1 → PB (t :: n :: r, ns) ([⟨2, [], -n.val⟩], 0, (r, ns)))
    (bo : ∀ t r ns x, t.kind = 4 → t.text = [45] → PU 200 (r, ns) x → PB (t :: r, ns) (funR [45] [x.1], 200, x.2))
    (r0 : ∀ acc s x, PU 700 s x → PR acc s (acc ++ [x.1], x.2))
    (r1 : ∀ acc s x q r l, PU 700 s x → x.2.1 = q :: r → q.kind = 5 → q.text = [44] → PR (acc ++ [x.1]) (r, x.2.2) l → PR acc s l)
    (l0 : ∀ q r ns, q.kind = 5 → q.text = [93] → PL (q :: r, ns) (nilR, (r, ns)))
    (l1 : ∀ s l q r, PR [] s l → l.2.1 = q :: r → q.kind = 5 → q.text = [93] → PL s (listR l.1 nilR, (r, l.2.2)))
    (l2 : ∀ s l p r x q r', PR [] s l → l.2.1 = p :: r → p.kind = 5 → p.text = [124] → PU 700 (r, l.2.2) x → x.2.1 = q :: r' → q.kind = 5 → q.text = [93] → PL s (listR l.1 x.1, (r', x.2.2)))
    (k : Nat) :
    (∀ most s r, upToR k e most s = some (.ok r) → PU most s r) ∧ (∀ most x rank s r, climbR k e most x rank s = some (.ok r) → PC most x rank s r) ∧
    (∀ s r, beginR k e s = some (.ok r) → PB s r) ∧ (∀ acc s r, rowR k e acc s = some (.ok r) → PR acc s r) ∧ (∀ s r, listLR k e s = some (.ok r) → PL s r) := by
  have is_ok : ∀ {l : List Tok} {kd : Int} {tx : List UInt8}, isT l kd tx = true → ∃ q r, l = q :: r ∧ q.kind = kd ∧ q.text = tx := by
    intro l kd tx h
    match l, h with
    | q :: r, h => exact ⟨q, r, rfl, by simpa [isT] using h⟩
  have must_ok : ∀ {tx : List UInt8} {s s' : RS}, mustR e tx s = some (.ok s') → ∃ q r, s.1 = q :: r ∧ q.kind = 5 ∧ q.text = tx ∧ s' = (r, s.2) := by
    intro tx s s' h
    unfold mustR at h
    split at h
    · rename_i hi
      obtain ⟨q, r, h1, h2, h3⟩ := is_ok hi
      refine ⟨q, r, h1, h2, h3, ?_⟩
      rw [Res.ok_eq] at h
      rw [← (by simpa using h : _ = s'), h1]
      rfl
    · simp [Res.err_eq] at h
  induction k with
  | zero => exact ⟨fun _ _ _ h => by simp [upToR] at h, fun _ _ _ _ _ h => by simp [climbR] at h, fun _ _ h => by simp [beginR] at h, fun _ _ _ h => by simp [rowR] at h, fun _ _ h => by simp [listLR] at h⟩
  | succ k ih =>
    obtain ⟨hU, hC, hB, hR, hL⟩ := ih
    refine ⟨fun most s r h => ?_, fun most x rank s r h => ?_, fun s r h => ?_, fun acc s r h => ?_, fun s r h => ?_⟩
    · rw [upToR] at h
      obtain ⟨b, h1, h2⟩ := Res.bind_ok h
      exact u _ _ b _ (hB _ _ h1) (hC _ _ _ _ _ h2)
    · rw [climbR] at h
      obtain ⟨l, ns⟩ := s
      match l with
      | [] => obtain rfl : (x, (([] : List Tok), ns)) = r := by simpa [Res.ok_eq] using h
              exact c0 _ _ _ _
      | t :: rr =>
        simp only at h
        by_cases hk : t.kind = 4
        · rw [if_neg (by simp [hk])] at h
          match ho : opR t.text with
          | none =>
            rw [ho] at h
            obtain rfl : (x, (t :: rr, ns)) = r := by simpa [Res.ok_eq] using h
            exact c0 _ _ _ _
          | some o =>
            rw [ho] at h
            simp only at h
            by_cases hm : most < o.1
            · rw [if_pos hm] at h
              obtain rfl : (x, (t :: rr, ns)) = r := by simpa [Res.ok_eq] using h
              exact c0 _ _ _ _
            · rw [if_neg hm] at h
              by_cases hl : o.2.1 < rank
              · rw [if_pos hl] at h
                simp [Res.err_eq] at h
              · rw [if_neg hl] at h
                obtain ⟨y, h1, h2⟩ := Res.bind_ok h
                exact c1 _ _ _ _ _ _ o y _ hk ho (by omega) (by omega) (hU _ _ _ h1) (hC _ _ _ _ _ h2)
        · rw [if_pos hk] at h
          obtain rfl : (x, (t :: rr, ns)) = r := by simpa [Res.ok_eq] using h
          exact c0 _ _ _ _
    · rw [beginR] at h
      obtain ⟨l, ns⟩ := s
      match l with
      | [] => simp [Res.err_eq] at h
      | t :: rr =>
        simp only at h
        split at h
        · rename_i hk
          rw [Res.ok_eq] at h
          rw [← (by simpa using h : _ = r)]
          exact bn _ _ _ hk
        split at h
        · rename_i hk
          rw [Res.ok_eq] at h
          rw [← (by simpa using h : _ = r)]
          exact bv _ _ _ hk
        split at h
        · rename_i hk
          split at h
          · rename_i hi
            obtain ⟨p, r1, rfl, hp, hpt⟩ := is_ok hi
            obtain ⟨a, h1, h2⟩ := Res.bind_ok h
            obtain ⟨s', h3, h4⟩ := Res.bind_ok h2
            obtain ⟨q, r', h5, h6, h7, rfl⟩ := must_ok h3
            rw [Res.ok_eq] at h4
            rw [← (by simpa using h4 : _ = r)]
            exact bf _ _ _ _ a q r' hk hp hpt (hR _ _ _ h1) h5 h6 h7
          · rw [Res.ok_eq] at h
            rw [← (by simpa using h : _ = r)]
            exact ba _ _ _ hk
        split at h
        · rename_i hk
          obtain ⟨a, h1, h2⟩ := Res.bind_ok h
          obtain ⟨s', h3, h4⟩ := Res.bind_ok h2
          obtain ⟨q, r', h5, h6, h7, rfl⟩ := must_ok h3
          rw [Res.ok_eq] at h4
          rw [← (by simpa using h4 : _ = r)]
          exact bp _ _ _ a q r' hk.1 hk.2 (hU _ _ _ h1) h5 h6 h7
        split at h
        · rename_i hk
          obtain ⟨a, h1, h2⟩ := Res.bind_ok h
          rw [Res.ok_eq] at h2
          rw [← (by simpa using h2 : _ = r)]
          exact bl _ _ _ a hk.1 hk.2 (hL _ _ h1)
        split at h
        · rename_i hk
          match rr, h with
          | [], h =>
            obtain ⟨a, h1, h2⟩ := Res.bind_ok h
            rw [Res.ok_eq] at h2
            rw [← (by simpa using h2 : _ = r)]
            exact bo _ _ _ a hk.1 hk.2 (hU _ _ _ h1)
          | n :: r', h =>
            simp only at h
            split at h
            · rename_i hn
              rw [Res.ok_eq] at h
              rw [← (by simpa using h : _ = r)]
              exact bm _ _ _ _ hk.1 hk.2 hn.1 hn.2
            · obtain ⟨a, h1, h2⟩ := Res.bind_ok h
              rw [Res.ok_eq] at h2
              rw [← (by simpa using h2 : _ = r)]
              exact bo _ _ _ a hk.1 hk.2 (hU _ _ _ h1)
        · simp [Res.err_eq] at h
    · rw [rowR] at h
      obtain ⟨x, h1, h2⟩ := Res.bind_ok h
      split at h2
      · rename_i hi
        obtain ⟨q, r2, h3, h4, h5⟩ := is_ok hi
        rw [h3] at h2
        exact r1 _ _ x q _ _ (hU _ _ _ h1) h3 h4 h5 (hR _ _ _ h2)
      · rw [Res.ok_eq] at h2
        rw [← (by simpa using h2 : _ = r)]
        exact r0 _ _ x (hU _ _ _ h1)
    · rw [listLR] at h
      obtain ⟨l, ns⟩ := s
      split at h
      · rename_i hi
        obtain ⟨q, r1, h3, h4, h5⟩ := is_ok hi
        simp only at h3
        subst h3
        rw [Res.ok_eq] at h
        rw [← (by simpa using h : _ = r)]
        exact l0 _ _ _ h4 h5
      · obtain ⟨a, h1, h2⟩ := Res.bind_ok h
        obtain ⟨t, h3, h4⟩ := Res.bind_ok h2
        obtain ⟨s', h5, h6⟩ := Res.bind_ok h4
        obtain ⟨q, r', h7, h8, h9, rfl⟩ := must_ok h5
        rw [Res.ok_eq] at h6
        rw [← (by simpa using h6 : _ = r)]
        split at h3
        · rename_i hi
          obtain ⟨p, r1, h10, h11, h12⟩ := is_ok hi
          rw [h10] at h3
          exact l2 _ a p r1 t q r' (hR _ _ _ h1) h10 h11 h12 (hU _ _ _ h3) h7 h8 h9
        · rw [Res.ok_eq] at h3
          obtain rfl : (nilR, a.2) = t := by simpa using h3
          exact l1 _ a q r' (hR _ _ _ h1) h7 h8 h9
theorem varR_len (ns : List (List UInt8)) (t : List UInt8) : ns.length ≤ (varR ns t).2.length ∧ (varR ns t).2.length ≤ ns.length + 1 ∧ (varR ns t).1 < (varR ns t).2.length := by
  unfold varR
  split
  · rename_i h
    exact ⟨Nat.le_refl _, by simp, List.idxOf_lt_length_of_mem h.2⟩
  · simp

/-- What is read is passed; how long it is. -/
def Passed (s : RS) (c : Nat) (s' : RS) (len extra : Nat) : Prop :=
  ∃ m, c ≤ m ∧ m ≤ s.1.length ∧ s'.1 = s.1.drop m ∧ len ≤ extra + 2 * m ∧ s.2.length ≤ s'.2.length ∧ s'.2.length ≤ s.2.length + m
theorem Passed.cons {t : Tok} {r : List Tok} {ns ns' : List (List UInt8)} {c c' len len' extra extra' : Nat} {s' : RS} (h : Passed (r, ns') c s' len extra) (h1 : ns.length ≤ ns'.length) (h2 : ns'.length ≤ ns.length + 1) (hc : c' ≤ c + 1) (hl : len' + extra ≤ len + extra' + 2) :
    Passed (t :: r, ns) c' s' len' extra' := by
  obtain ⟨m, h3, h4, h5, h6, h7, h8⟩ := h
  simp only at h4 h5 h7 h8
  refine ⟨m + 1, by omega, by simp only [List.length_cons]; omega, by rw [h5]; rfl, by omega, by simp only; omega, by simp only; omega⟩
theorem Passed.trans {s s1 s2 : RS} {c c1 c2 len len1 len2 extra extra1 extra2 : Nat} (h : Passed s c1 s1 len1 extra1) (k : Passed s1 c2 s2 len2 extra2) (hc : c ≤ c1 + c2) (hl : len + extra1 + extra2 ≤ len1 + len2 + extra) : Passed s c s2 len extra := by
  obtain ⟨m, h1, h2, h3, h4, h5, h6⟩ := h
  obtain ⟨n, k1, k2, k3, k4, k5, k6⟩ := k
  rw [h3, List.length_drop] at k2
  exact ⟨m + n, by omega, by omega, by rw [k3, h3, List.drop_drop], by omega, by omega, by omega⟩
theorem Passed.tail {s s1 : RS} {q : Tok} {r : List Tok} {c c' len len' extra extra' : Nat} (h : Passed s c s1 len extra) (hq : s1.1 = q :: r) (hc : c' ≤ c + 1) (hl : len' + extra ≤ len + extra' + 2) : Passed s c' (r, s1.2) len' extra' := by
  obtain ⟨m, h1, h2, h3, h4, h5, h6⟩ := h
  have hlt : m < s.1.length := by
    rw [h3] at hq
    have := congrArg List.length hq
    rw [List.length_drop, List.length_cons] at this
    omega
  refine ⟨m + 1, by omega, by omega, ?_, by omega, h5, by simp only; omega⟩
  show r = _
  rw [← List.drop_drop, ← h3, hq]
  rfl
theorem Passed.start (s : RS) (len extra : Nat) (h : len ≤ extra) : Passed s 0 s len extra := ⟨0, by omega, by omega, rfl, by omega, by omega, by omega⟩

theorem flat_len (l : List (List Cel)) (t : List Cel) : (listR l t).length = l.flatten.length + l.length + t.length := by
  unfold listR
  rw [List.length_append]
  congr 1
  induction l with
  | nil => rfl
  | cons x l ih => simp only [List.map_cons, List.flatten_cons, List.length_append, List.length_cons] at ih ⊢; omega
theorem funR_len (n : List UInt8) (l : List (List Cel)) : (funR n l).length = l.flatten.length + 1 := by simp [funR]

theorem passed5 (e : Int) (k : Nat) :
    (∀ most s r, upToR k e most s = some (.ok r) → Passed s 1 r.2 r.1.length 0) ∧ (∀ most x rank s r, climbR k e most x rank s = some (.ok r) → Passed s 0 r.2 r.1.length x.length) ∧
    (∀ s r, beginR k e s = some (.ok r) → Passed s 1 r.2.2 r.1.length 0) ∧ (∀ acc s r, rowR k e acc s = some (.ok r) → Passed s 1 r.2 (r.1.flatten.length + r.1.length) (acc.flatten.length + acc.length + 1)) ∧ (∀ s r, listLR k e s = some (.ok r) → Passed s 1 r.2 r.1.length 0) := by
  refine rd_ind (e := e) (PU := fun _ s r => Passed s 1 r.2 r.1.length 0) (PC := fun _ x _ s r => Passed s 0 r.2 r.1.length x.length) (PB := fun s r => Passed s 1 r.2.2 r.1.length 0)
    (PR := fun acc s r => Passed s 1 r.2 (r.1.flatten.length + r.1.length) (acc.flatten.length + acc.length + 1)) (PL := fun s r => Passed s 1 r.2 r.1.length 0)
    ?_ ?_ ?_ ?_ ?_ ?_ ?_ ?_ ?_ ?_ ?_ ?_ ?_ ?_ ?_ ?_ k
  · intro most s b r h1 h2
    exact h1.trans h2 (by omega) (by omega)
  · intro most x rank s
    exact Passed.start _ _ _ (Nat.le_refl _)
  · intro most x rank t r ns o y q _ _ _ _ h1 h2
    refine Passed.cons (c := 1) (len := q.1.length) (extra := x.length + 1) (h1.trans h2 (by omega) ?_) (Nat.le_refl _) (by omega) (by omega) (by omega)
    rw [funR_len]
    simp
    omega
  · intro t r ns _
    exact Passed.cons (Passed.start (r, ns) 0 0 (by omega)) (Nat.le_refl _) (by omega) (by omega) (by simp)
  · intro t r ns _
    exact Passed.cons (Passed.start (r, (varR ns t.text).2) 0 0 (by omega)) (varR_len _ _).1 (varR_len _ _).2.1 (by omega) (by simp)
  · intro t p r ns l q r' _ _ _ h1 h2 _ _
    refine Passed.cons (c := 1) (ns' := ns) (len := l.1.flatten.length) (extra := 1) (Passed.cons (ns' := ns) (c := 1) (len := l.1.flatten.length) (extra := 3) (h1.tail h2 (by omega) (by simp; omega)) (Nat.le_refl _) (by omega) (by omega) (by omega)) (Nat.le_refl _) (by omega) (by omega) ?_
    rw [funR_len]
    omega
  · intro t r ns _
    refine Passed.cons (Passed.start (r, ns) 0 0 (by omega)) (Nat.le_refl _) (by omega) (by omega) ?_
    rw [funR_len]
    simp
  · intro t r ns x q r' _ _ h1 h2 _ _
    exact Passed.cons (c := 1) (ns' := ns) (len := x.1.length) (extra := 0) (h1.tail h2 (by omega) (by omega)) (Nat.le_refl _) (by omega) (by omega) (by simp)
  · intro t r ns x _ _ h1
    exact Passed.cons h1 (Nat.le_refl _) (by omega) (by omega) (by simp)
  · intro t n r ns _ _ _ _
    exact Passed.cons (c := 0) (ns' := ns) (len := 0) (extra := 0) (Passed.cons (ns' := ns) (Passed.start (r, ns) 0 0 (by omega)) (Nat.le_refl _) (by omega) (by omega) (by simp)) (Nat.le_refl _) (by omega) (by omega) (by simp)
  · intro t r ns x _ _ h1
    refine Passed.cons h1 (Nat.le_refl _) (by omega) (by omega) ?_
    rw [funR_len]
    simp
  · intro acc s x h1
    refine h1.trans (Passed.start _ 0 0 (by omega)) (by omega) ?_
    simp
    omega
  · intro acc s x q r l h1 h2 _ _ h3
    refine (h1.tail (c' := 1) (len' := x.1.length + 1) (extra' := 0) h2 (by omega) (by omega)).trans h3 (by omega) ?_
    simp
    omega
  · intro q r ns _ _
    exact Passed.cons (Passed.start (r, ns) 0 0 (by omega)) (Nat.le_refl _) (by omega) (by omega) (by simp [nilR, funR])
  · intro s l q r h1 h2 _ _
    refine h1.tail h2 (by omega) ?_
    rw [flat_len]
    simp [nilR, funR]
  · intro s l p r x q r' h1 h2 _ _ h3 h4 _ _
    refine ((h1.tail (c' := 1) (len' := l.1.flatten.length + l.1.length) (extra' := 0) h2 (by omega) (by simp)).trans (c := 1) (len := l.1.flatten.length + l.1.length + x.1.length) (extra := 0) h3 (by omega) (by omega)).tail h4 (by omega) ?_
    rw [flat_len]
    omega

theorem bind_ne {α β : Type} {r : Res α} {f : α → Res β} (h : r ≠ none) (k : ∀ a, r = some (.ok a) → f a ≠ none) : r.bind f ≠ none := by
  match r, h, k with
  | some (.error e), _, _ => exact fun h => by cases h
  | some (.ok a), _, k => exact k a rfl
theorem ite_ne {α : Type} {c : Prop} [Decidable c] {a b : Res α} (h : c → a ≠ none) (k : ¬ c → b ≠ none) : (if c then a else b) ≠ none := by
  split
  · rename_i hc
    exact h hc
  · rename_i hc
    exact k hc
theorem ok_ne {α : Type} (a : α) : Res.ok a ≠ none := fun h => by cases h
theorem err_ne {α : Type} (a c : Int) : (Res.err a c : Res α) ≠ none := fun h => by cases h
theorem must_ne (e : Int) (t : List UInt8) (s : RS) : mustR e t s ≠ none := ite_ne (fun _ => ok_ne _) (fun _ => err_ne _ _)

/-- Four rounds a token are enough. -/
theorem enough5 (e : Int) (n : Nat) : ∀ s : RS, s.1.length ≤ n →
    (∀ k, 4 * n + 1 ≤ k → ∀ most x rank, climbR k e most x rank s ≠ none) ∧ (∀ k, 4 * n + 1 ≤ k → beginR k e s ≠ none) ∧ (∀ k, 4 * n + 2 ≤ k → ∀ most, upToR k e most s ≠ none) ∧
    (∀ k, 4 * n + 3 ≤ k → ∀ acc, rowR k e acc s ≠ none) ∧ (∀ k, 4 * n + 4 ≤ k → listLR k e s ≠ none) := by
  induction n using Nat.strongRecOn with
  | ind n ih =>
    intro s hs
    have hC : ∀ k, 4 * n + 1 ≤ k → ∀ most x rank, climbR k e most x rank s ≠ none := by
      intro k hk most x rank
      obtain ⟨k, rfl⟩ : ∃ m, k = m + 1 := ⟨k - 1, by omega⟩
      obtain ⟨l, ns⟩ := s
      rw [climbR]
      match l, hs with
      | [], _ => exact ok_ne _
      | t :: r, hs =>
        simp only [List.length_cons] at hs
        refine ite_ne (fun _ => ok_ne _) fun _ => ?_
        match opR t.text with
        | Option.none => exact ok_ne _
        | some o =>
          refine ite_ne (fun _ => ok_ne _) fun _ => ite_ne (fun _ => err_ne _ _) fun _ => bind_ne ((ih (n - 1) (by omega) (r, ns) (by simp only; omega)).2.2.1 k (by omega) _) fun y hy => ?_
          obtain ⟨m, h1, h2, h3, _⟩ := (passed5 e k).1 _ _ _ hy
          simp only at h2 h3
          exact (ih (n - 1) (by omega) y.2 (by rw [h3, List.length_drop]; omega)).1 k (by omega) _ _ _
    have hB : ∀ k, 4 * n + 1 ≤ k → beginR k e s ≠ none := by
      intro k hk
      obtain ⟨k, rfl⟩ : ∃ m, k = m + 1 := ⟨k - 1, by omega⟩
      obtain ⟨l, ns⟩ := s
      rw [beginR]
      match l, hs with
      | [], _ => exact err_ne _ _
      | t :: r, hs =>
        simp only [List.length_cons] at hs
        have hi := fun (s : RS) (h : s.1.length ≤ n - 1) => ih (n - 1) (by omega) s h
        refine ite_ne (fun _ => ok_ne _) fun _ => ite_ne (fun _ => ok_ne _) fun _ => ite_ne (fun _ => ite_ne (fun _ => ?_) fun _ => ok_ne _) fun _ => ite_ne (fun _ => ?_) fun _ => ite_ne (fun _ => ?_) fun _ => ite_ne (fun _ => ?_) fun _ => err_ne _ _
        · exact bind_ne ((hi (r.tail, ns) (by simp only [List.length_tail]; omega)).2.2.2.1 k (by omega) _) fun l _ => bind_ne (must_ne _ _ _) fun _ _ => ok_ne _
        · exact bind_ne ((hi (r, ns) (by simp only; omega)).2.2.1 k (by omega) _) fun x _ => bind_ne (must_ne _ _ _) fun _ _ => ok_ne _
        · exact bind_ne ((hi (r, ns) (by simp only; omega)).2.2.2.2 k (by omega)) fun x _ => ok_ne _
        · match r, hs with
          | [], hs => exact bind_ne ((hi ([], ns) (by simp)).2.2.1 k (by omega) _) fun x _ => ok_ne _
          | q :: r', hs => exact ite_ne (fun _ => ok_ne _) fun _ => bind_ne ((hi (q :: r', ns) (by simp only; omega)).2.2.1 k (by omega) _) fun x _ => ok_ne _
    have hU : ∀ k, 4 * n + 2 ≤ k → ∀ most, upToR k e most s ≠ none := by
      intro k hk most
      obtain ⟨k, rfl⟩ : ∃ m, k = m + 1 := ⟨k - 1, by omega⟩
      rw [upToR]
      refine bind_ne (hB k (by omega)) fun b hb => ?_
      obtain ⟨m, h1, h2, h3, _⟩ := (passed5 e k).2.2.1 _ _ hb
      exact (ih (n - 1) (by omega) b.2.2 (by rw [h3, List.length_drop]; omega)).1 k (by omega) _ _ _
    have hR : ∀ k, 4 * n + 3 ≤ k → ∀ acc, rowR k e acc s ≠ none := by
      intro k hk acc
      obtain ⟨k, rfl⟩ : ∃ m, k = m + 1 := ⟨k - 1, by omega⟩
      rw [rowR]
      refine bind_ne (hU k (by omega) _) fun x hx => ite_ne (fun hi => ?_) fun _ => ok_ne _
      obtain ⟨m, h1, h2, h3, _⟩ := (passed5 e k).1 _ _ _ hx
      exact (ih (n - 1) (by omega) (x.2.1.tail, x.2.2) (by simp only [List.length_tail]; rw [h3, List.length_drop]; omega)).2.2.2.1 k (by omega) _
    refine ⟨hC, hB, hU, hR, fun k hk => ?_⟩
    obtain ⟨k, rfl⟩ : ∃ m, k = m + 1 := ⟨k - 1, by omega⟩
    rw [listLR]
    refine ite_ne (fun _ => ok_ne _) fun _ => bind_ne (hR k (by omega) _) fun l hl => bind_ne (ite_ne (fun _ => ?_) fun _ => ok_ne _) fun _ _ => bind_ne (must_ne _ _ _) fun _ _ => ok_ne _
    obtain ⟨m, h1, h2, h3, _⟩ := (passed5 e k).2.2.2.1 _ _ _ hl
    exact (ih (n - 1) (by omega) (l.2.1.tail, l.2.2) (by simp only [List.length_tail]; rw [h3, List.length_drop]; omega)).2.2.1 k (by omega) _

theorem endR_zero (l : List Cel) : endR 0 l = some l := by cases l <;> rfl
theorem endR_add (a b : Nat) (l : List Cel) : endR (a + b) l = (endR a l).bind (endR b) := by
  induction l generalizing a with
  | nil => cases a with
    | zero => rw [Nat.zero_add, endR_zero]; rfl
    | succ a => rw [show a + 1 + b = (a + b) + 1 by omega]; rfl
  | cons c l ih => cases a with
    | zero => rw [Nat.zero_add, endR_zero]; rfl
    | succ a =>
      rw [show a + 1 + b = (a + b) + 1 by omega, endR, endR]
      split
      · rw [show a + b + (if c.kind = 3 then c.n.toNat else 0) = (a + (if c.kind = 3 then c.n.toNat else 0)) + b by omega]
        exact ih _
      · rfl
theorem endR_drop (l : List Cel) : ∀ (d : Nat) (r : List Cel), endR d l = some r → ∃ m, r = l.drop m ∧ m ≤ l.length ∧ d ≤ m := by
  induction l with
  | nil =>
    intro d r h
    cases d with
    | zero => rw [endR_zero] at h; injection h with h; exact ⟨0, h ▸ rfl, by simp, by omega⟩
    | succ d => cases h
  | cons c l ih =>
    intro d r h
    cases d with
    | zero => rw [endR_zero] at h; injection h with h; exact ⟨0, h ▸ rfl, by simp, by omega⟩
    | succ d =>
      rw [endR] at h
      split at h
      · obtain ⟨m, h1, h2, h3⟩ := ih _ _ h
        exact ⟨m + 1, h1, by simp; omega, by omega⟩
      · cases h
/-- The place behind the term that begins at a place; 0: there is none. -/
def endI (t : List Cel) (a : Nat) : Nat := match endR 1 (t.drop a) with | some r => t.length - r.length | none => 0
theorem endI_none {t : List Cel} {a : Nat} (h : endR 1 (t.drop a) = none) : endI t a = 0 := by unfold endI; rw [h]
theorem endI_some {t : List Cel} {a m : Nat} (h : endR 1 (t.drop a) = some (t.drop m)) (hm : m ≤ t.length) : endI t a = m := by
  unfold endI
  rw [h]
  simp only [List.length_drop]
  omega
theorem endR_at {t : List Cel} {a : Nat} (h : a < t.length) (hc : celOK t[a] = true) : endR 1 (t.drop a) = endR (if t[a].kind = 3 then t[a].n.toNat else 0) (t.drop (a + 1)) := by
  rw [List.drop_eq_getElem_cons h, endR, if_pos hc, Nat.zero_add]
theorem endR_bad {t : List Cel} {a : Nat} (h : ∀ h : a < t.length, celOK t[a] = false) : endR 1 (t.drop a) = none := by
  by_cases hl : a < t.length
  · rw [List.drop_eq_getElem_cons hl, endR, if_neg (by rw [h hl]; decide)]
  · rw [List.drop_eq_nil_of_le (by omega)]
    rfl
end Go.Proofs.YthdccdbiichabaaDoor.P
/- More rounds tell the same; so many rounds are enough for whole, body, clause, program and term. In plain Lean. No condition. -/
namespace Go.Proofs.YthdccdbiichabaaDoor.P
set_option linter.unusedVariables false
theorem LeR.rfl' {α : Type} {a b : Res α} (h : a = b) : LeR a b := by subst h; exact LeR.refl _
theorem whole_more {k k' : Nat} (hk : k ≤ k') (e atom s) : LeR (wholeR k e atom s) (wholeR k' e atom s) := LeR.bind (upTo_more hk _ _ _) (fun _ => LeR.refl _)
theorem body_more : ∀ (k k' : Nat), k ≤ k' → ∀ (e acc s), LeR (bodyR k e acc s) (bodyR k' e acc s)
  | 0, _, _, _, _, _ => LeR.none _
  | k + 1, 0, h, _, _, _ => absurd h (by omega)
  | k + 1, k' + 1, h, e, acc, s => by
    unfold bodyR
    exact LeR.ite (LeR.refl _) (LeR.bind (whole_more (by omega) _ _ _) (fun x => LeR.ite (body_more k k' (by omega) _ _ _) (LeR.refl _)))
theorem clause_more {k k' : Nat} (hk : k ≤ k') (e rest) : LeR (clauseR k e rest) (clauseR k' e rest) :=
  LeR.bind (whole_more hk _ _ _) (fun h => LeR.bind (LeR.ite (body_more k k' hk _ _ _) (LeR.refl _)) (fun _ => LeR.refl _))
theorem clauses_more : ∀ (k k' : Nat), k ≤ k' → ∀ (e acc rest), LeR (clausesR k e acc rest) (clausesR k' e acc rest)
  | 0, _, _, _, _, _ => LeR.none _
  | k + 1, 0, h, _, _, _ => absurd h (by omega)
  | k + 1, k' + 1, h, e, acc, rest => by
    cases rest with
    | nil => exact LeR.refl _
    | cons t r =>
      simp only [clausesR]
      exact LeR.ite (LeR.refl _) (LeR.bind (clause_more (by omega) _ _) (fun c => clauses_more k k' (by omega) _ _ _))
theorem program_more {k k' : Nat} (hk : k ≤ k') (s) : LeR (programR k s) (programR k' s) := LeR.ite (LeR.refl _) (clauses_more k k' hk _ _ _)
theorem term_more {k k' : Nat} (hk : k ≤ k') (s) : LeR (termR k s) (termR k' s) := LeR.ite (LeR.refl _) (LeR.bind (whole_more hk _ _ _) (fun _ => LeR.refl _))
theorem upTo_less {k : Nat} {e most : Int} {s : RS} {x : List Cel × RS} (h : upToR k e most s = some (.ok x)) : x.2.1.length < s.1.length := by
  obtain ⟨c, hc⟩ := (passed5 e k).1 most s x h
  obtain ⟨h1, h2, h3, h4⟩ := hc
  rw [h3, List.length_drop]
  omega
theorem whole_less {k : Nat} {e : Int} {a : Bool} {s : RS} {x : List Cel × RS} (h : wholeR k e a s = some (.ok x)) : x.2.1.length < s.1.length := by
  obtain ⟨y, hy, h⟩ := Res.bind_ok h
  split at h
  · cases h
  · split at h
    · cases h
    · injection h with h
      injection h with h
      subst h
      exact upTo_less hy
theorem whole_ne {k n : Nat} (e : Int) (a : Bool) (s : RS) (hs : s.1.length ≤ n) (hk : 4 * n + 2 ≤ k) : wholeR k e a s ≠ none :=
  bind_ne ((enough5 e n s hs).2.2.1 k hk _) (fun _ _ => ite_ne (fun _ => err_ne _ _) (fun _ => ite_ne (fun _ => err_ne _ _) (fun _ => ok_ne _)))
theorem isT_tail {l : List Tok} {a : Int} {t : List UInt8} : l.tail.length ≤ l.length := by simp
theorem body_ne (e : Int) : ∀ (k n : Nat) (acc : List LitR) (s : RS), s.1.length ≤ n → 4 * n + 3 ≤ k → bodyR k e acc s ≠ none
  | 0, n, _, _, _, h => absurd h (by omega)
  | k + 1, n, acc, s, hs, hk => by
    unfold bodyR
    have hs2 : (if isT s.1 4 [92, 43] = true then (s.1.tail, s.2) else s).1.length ≤ n := by
      split
      · exact Nat.le_trans (by simp) hs
      · exact hs
    refine ite_ne (fun _ => err_ne _ _) (fun _ => bind_ne (whole_ne e true _ hs2 (by omega)) (fun x hx => ite_ne (fun ht => ?_) (fun _ => ok_ne _)))
    have hl := whole_less hx
    exact body_ne e k (n - 1) _ _ (by simp only [List.length_tail]; omega) (by omega)
theorem body_less (e : Int) : ∀ (k : Nat) (acc : List LitR) (s : RS) (b : List LitR × RS), bodyR k e acc s = some (.ok b) → b.2.1.length ≤ s.1.length
  | 0, _, _, _, h => by cases h
  | k + 1, acc, s, b, h => by
    unfold bodyR at h
    split at h
    · cases h
    · obtain ⟨x, hx, h⟩ := Res.bind_ok h
      have hl := whole_less hx
      have hs2 : (if isT s.1 4 [92, 43] = true then (s.1.tail, s.2) else s).1.length ≤ s.1.length := by
        split
        · simp
        · exact Nat.le_refl _
      split at h
      · have := body_less e k _ _ _ h
        simp only [List.length_tail] at this
        omega
      · injection h with h
        injection h with h
        subst h
        simp only
        omega
theorem clause_less {k : Nat} {e : Int} {rest : List Tok} {c : ClR × RS} (h : clauseR k e rest = some (.ok c)) : c.2.1.length < rest.length := by
  obtain ⟨x, hx, h⟩ := Res.bind_ok h
  have hl := whole_less hx
  obtain ⟨b, hb, h⟩ := Res.bind_ok h
  have hbl : b.2.1.length ≤ x.2.1.length := by
    split at hb
    · have := body_less e k _ _ _ hb
      simp only [List.length_tail] at this
      omega
    · injection hb with hb
      injection hb with hb
      subst hb
      exact Nat.le_refl _
  split at h
  · cases h
  · rename_i t r he
    rw [he] at hbl
    split at h
    · injection h with h
      injection h with h
      subst h
      simp only [List.length_cons] at hbl hl ⊢
      omega
    · cases h
theorem clause_ne (e : Int) (k n : Nat) (rest : List Tok) (hs : rest.length ≤ n) (hk : 4 * n + 3 ≤ k) : clauseR k e rest ≠ none := by
  refine bind_ne (whole_ne e true _ hs (by omega)) (fun x hx => bind_ne (ite_ne (fun _ => ?_) (fun _ => ok_ne _)) (fun b hb => ?_))
  · have hl := whole_less hx
    exact body_ne e k n _ _ (by simp only [List.length_tail] at hl ⊢; omega) (by omega)
  · split
    · exact err_ne _ _
    · split
      · exact ok_ne _
      · exact err_ne _ _
theorem clauses_ne (e : Int) : ∀ (k n : Nat) (acc : List ClR) (rest : List Tok), rest.length ≤ n → 4 * n + 4 ≤ k → clausesR k e acc rest ≠ none
  | 0, n, _, _, _, h => absurd h (by omega)
  | k + 1, n, acc, rest, hs, hk => by
    cases rest with
    | nil => exact ok_ne _
    | cons t r =>
      simp only [clausesR]
      refine ite_ne (fun _ => err_ne _ _) (fun _ => bind_ne (clause_ne e k n _ hs (by omega)) (fun c hc => ?_))
      have hl := clause_less hc
      simp only [List.length_cons] at hl hs
      exact clauses_ne e k (n - 1) _ _ (by omega) (by omega)
theorem program_ne (s : List UInt8) (k : Nat) (hk : 80004 ≤ k) : programR k s ≠ none :=
  ite_ne (fun _ => err_ne _ _) (fun _ => clauses_ne _ k 20000 _ _ (lexAll_bounds s).1 (by omega))
theorem term_ne (s : List UInt8) (k : Nat) (hk : 80004 ≤ k) : termR k s ≠ none := by
  refine ite_ne (fun _ => err_ne _ _) (fun _ => bind_ne (whole_ne (n := 20000) _ false _ (lexAll_bounds s).1 (by omega)) (fun x hx => ?_))
  split
  · exact ok_ne _
  · exact err_ne _ _
end Go.Proofs.YthdccdbiichabaaDoor.P
/- Tokens that stand so much further on are read as they were; all places are as much more. In plain Lean. No condition. -/
namespace Go.Proofs.YthdccdbiichabaaDoor.P
set_option linter.unusedVariables false
def Res.sh {α : Type} (d : Int) (f : α → α) : Res α → Res α
  | none => none
  | some (.ok a) => some (.ok (f a))
  | some (.error x) => some (.error (x.1 + d, x.2))
def shT (d : Int) (t : Tok) : Tok := ⟨t.kind, t.text, t.val, t.at' + d⟩
def shS (d : Int) (s : RS) : RS := (s.1.map (shT d), s.2)
section
variable {α β : Type} {d : Int}
theorem Res.sh_bind {f : α → α} {f' : β → β} {r r' : Res α} {g g' : α → Res β} (h : r' = r.sh d f) (hg : ∀ a, g' (f a) = (g a).sh d f') : r'.bind g' = (r.bind g).sh d f' := by
  subst h
  match r with
  | none => rfl
  | some (.ok a) => exact hg a
  | some (.error x) => rfl
theorem Res.sh_ok (f : α → α) (a : α) : (Res.ok a).sh d f = Res.ok (f a) := rfl
theorem Res.sh_err (f : α → α) (a c : Int) : (Res.err a c : Res α).sh d f = Res.err (a + d) c := rfl
theorem Res.sh_ite {f : α → α} {c : Prop} [Decidable c] {a b a' b' : Res α} (h : c → a' = a.sh d f) (k : ¬ c → b' = b.sh d f) : (if c then a' else b') = (if c then a else b).sh d f := by
  by_cases hc : c
  · rw [if_pos hc, if_pos hc]; exact h hc
  · rw [if_neg hc, if_neg hc]; exact k hc
theorem isT_sh (l : List Tok) (k : Int) (t : List UInt8) : isT (l.map (shT d)) k t = isT l k t := by cases l <;> rfl
theorem oddR_sh (e : Int) (l : List Tok) : oddR (e + d) (l.map (shT d)) = ((oddR e l).1 + d, (oddR e l).2) := by
  cases l with
  | nil => rfl
  | cons t r =>
    simp only [List.map_cons, oddR, shT]
    split <;> rfl
theorem placeR_sh (e : Int) (l : List Tok) : placeR (e + d) (l.map (shT d)) = placeR e l + d := by cases l <;> rfl
theorem tail_sh (l : List Tok) : (l.map (shT d)).tail = l.tail.map (shT d) := by cases l <;> rfl
theorem mustR_sh (e : Int) (t : List UInt8) (s : RS) : mustR (e + d) t (shS d s) = (mustR e t s).sh d (shS d) := by
  unfold mustR
  simp only [shS, isT_sh, oddR_sh, tail_sh]
  exact Res.sh_ite (fun _ => rfl) (fun _ => rfl)
end
theorem sh5 (d e : Int) (k : Nat) :
    (∀ most s, upToR k (e + d) most (shS d s) = (upToR k e most s).sh d (fun x => (x.1, shS d x.2))) ∧
    (∀ most x rank s, climbR k (e + d) most x rank (shS d s) = (climbR k e most x rank s).sh d (fun x => (x.1, shS d x.2))) ∧
    (∀ s, beginR k (e + d) (shS d s) = (beginR k e s).sh d (fun x => (x.1, x.2.1, shS d x.2.2))) ∧
    (∀ acc s, rowR k (e + d) acc (shS d s) = (rowR k e acc s).sh d (fun x => (x.1, shS d x.2))) ∧
    (∀ s, listLR k (e + d) (shS d s) = (listLR k e s).sh d (fun x => (x.1, shS d x.2))) := by
  induction k with
  | zero => exact ⟨fun _ _ => rfl, fun _ _ _ _ => rfl, fun _ => rfl, fun _ _ => rfl, fun _ => rfl⟩
  | succ k ih =>
    obtain ⟨hU, hC, hB, hR, hL⟩ := ih
    refine ⟨fun most s => ?_, fun most x rank s => ?_, fun s => ?_, fun acc s => ?_, fun s => ?_⟩
    · simp only [upToR]
      exact Res.sh_bind (hB s) (fun a => hC _ _ _ _)
    · obtain ⟨l, ns⟩ := s
      cases l with
      | nil => rfl
      | cons t r =>
        simp only [climbR, shS, List.map_cons, shT]
        refine Res.sh_ite (fun _ => rfl) (fun _ => ?_)
        cases opR t.text with
        | none => rfl
        | some o =>
          refine Res.sh_ite (fun _ => rfl) (fun _ => Res.sh_ite (fun _ => rfl) (fun _ => ?_))
          exact Res.sh_bind (hU _ (r, ns)) (fun a => hC _ _ _ _)
    · obtain ⟨l, ns⟩ := s
      cases l with
      | nil => rfl
      | cons t r =>
        simp only [beginR, shS, List.map_cons]
        have hk : (shT d t).kind = t.kind := rfl
        have ht : (shT d t).text = t.text := rfl
        have hv : (shT d t).val = t.val := rfl
        have ha : (shT d t).at' = t.at' + d := rfl
        have ho := oddR_sh (d := d) e (t :: r)
        rw [List.map_cons] at ho
        simp only [hk, ht, hv, isT_sh, tail_sh, ho]
        refine Res.sh_ite (fun _ => rfl) (fun _ => Res.sh_ite (fun _ => rfl) (fun _ => Res.sh_ite (fun _ => ?_) (fun _ => Res.sh_ite (fun _ => ?_) (fun _ => Res.sh_ite (fun _ => ?_) (fun _ => Res.sh_ite (fun _ => ?_) (fun _ => rfl))))))
        · refine Res.sh_ite (fun _ => ?_) (fun _ => rfl)
          exact Res.sh_bind (hR _ (r.tail, ns)) (fun a => Res.sh_bind (mustR_sh _ _ _) (fun s => rfl))
        · exact Res.sh_bind (hU _ (r, ns)) (fun a => Res.sh_bind (mustR_sh _ _ _) (fun s => rfl))
        · exact Res.sh_bind (hL (r, ns)) (fun a => rfl)
        · cases r with
          | nil => exact Res.sh_bind (hU _ ([], ns)) (fun a => rfl)
          | cons n r' =>
            simp only [List.map_cons]
            have hk' : (shT d n).kind = n.kind := rfl
            have hv' : (shT d n).val = n.val := rfl
            have ha' : ((shT d n).at' = t.at' + d + 1) = (n.at' = t.at' + 1) := by
              rw [show (shT d n).at' = n.at' + d from rfl]
              exact propext ⟨fun h => by omega, fun h => by omega⟩
            simp only [ha, hk', hv', ha']
            refine Res.sh_ite (fun _ => rfl) (fun _ => ?_)
            exact Res.sh_bind (hU _ (n :: r', ns)) (fun a => rfl)
    · simp only [rowR]
      refine Res.sh_bind (hU _ s) (fun a => ?_)
      simp only [shS, isT_sh, tail_sh]
      exact Res.sh_ite (fun _ => hR _ (a.2.1.tail, a.2.2)) (fun _ => rfl)
    · simp only [listLR]
      have h1 : isT (shS d s).1 5 [93] = isT s.1 5 [93] := isT_sh _ _ _
      have h2 : (shS d s).1.tail = s.1.tail.map (shT d) := tail_sh _
      rw [h1, h2]
      refine Res.sh_ite (fun _ => rfl) (fun _ => Res.sh_bind (hR _ s) (fun l => Res.sh_bind (f := fun x => (x.1, shS d x.2)) ?_ (fun t => Res.sh_bind (mustR_sh _ _ _) (fun s => rfl))))
      simp only [shS, isT_sh, tail_sh]
      exact Res.sh_ite (fun _ => hU _ (l.2.1.tail, l.2.2)) (fun _ => rfl)
theorem whole_sh (d e : Int) (k : Nat) (a : Bool) (s : RS) : wholeR k (e + d) a (shS d s) = (wholeR k e a s).sh d (fun x => (x.1, shS d x.2)) := by
  unfold wholeR
  have hp : placeR (e + d) (shS d s).1 = placeR e s.1 + d := placeR_sh _ _
  rw [hp]
  exact Res.sh_bind ((sh5 d e k).1 700 s) (fun x => Res.sh_ite (fun _ => rfl) (fun _ => Res.sh_ite (fun _ => rfl) (fun _ => rfl)))
theorem body_sh (d e : Int) : ∀ (k : Nat) (acc : List LitR) (s : RS), bodyR k (e + d) acc (shS d s) = (bodyR k e acc s).sh d (fun x => (x.1, shS d x.2))
  | 0, _, _ => rfl
  | k + 1, acc, s => by
    simp only [bodyR]
    have hp : placeR (e + d) (shS d s).1 = placeR e s.1 + d := placeR_sh _ _
    have h1 : isT (shS d s).1 4 [92, 43] = isT s.1 4 [92, 43] := isT_sh _ _ _
    have h2 : (shS d s).1.tail = s.1.tail.map (shT d) := tail_sh _
    rw [hp, h1, h2]
    refine Res.sh_ite (fun _ => rfl) (fun _ => ?_)
    refine Res.sh_bind (f := fun x => (x.1, shS d x.2)) ?_ (fun x => ?_)
    · by_cases h : isT s.1 4 [92, 43] = true
      · rw [if_pos h, if_pos h]; exact whole_sh d e k true (s.1.tail, s.2)
      · rw [if_neg h, if_neg h]; exact whole_sh d e k true s
    · simp only [shS, isT_sh, tail_sh]
      exact Res.sh_ite (fun _ => body_sh d e k _ (x.2.1.tail, x.2.2)) (fun _ => rfl)
theorem clause_sh (d e : Int) (k : Nat) (l : List Tok) : clauseR k (e + d) (l.map (shT d)) = (clauseR k e l).sh d (fun x => (x.1, shS d x.2)) := by
  unfold clauseR
  refine Res.sh_bind (whole_sh d e k true (l, [])) (fun h => Res.sh_bind (f := fun x => (x.1, shS d x.2)) ?_ (fun b => ?_))
  · simp only [shS, isT_sh, tail_sh]
    exact Res.sh_ite (fun _ => body_sh d e k _ (h.2.1.tail, h.2.2)) (fun _ => rfl)
  · obtain ⟨x, l, ns⟩ := b
    cases l with
    | nil => rfl
    | cons t r =>
      simp only [shS, List.map_cons]
      have ho := oddR_sh (d := d) e (t :: r)
      rw [List.map_cons] at ho
      rw [ho, show (shT d t).kind = t.kind from rfl]
      exact Res.sh_ite (fun _ => rfl) (fun _ => rfl)
theorem clauses_sh (d e : Int) : ∀ (k : Nat) (acc : List ClR) (l : List Tok), clausesR k (e + d) acc (l.map (shT d)) = (clausesR k e acc l).sh d id
  | 0, _, _ => rfl
  | k + 1, acc, [] => rfl
  | k + 1, acc, t :: r => by
    simp only [clausesR, List.map_cons]
    refine Res.sh_ite (fun _ => rfl) (fun _ => ?_)
    exact Res.sh_bind (clause_sh d e k (t :: r)) (fun c => clauses_sh d e k _ _)
end Go.Proofs.YthdccdbiichabaaDoor.P
/- What errors of the reader are like: where they stand, and that they are none. In plain Lean. No condition. -/
namespace Go.Proofs.YthdccdbiichabaaDoor.P
set_option linter.unusedVariables false
def Bad {α : Type} (P : Int → Int → Prop) (r : Res α) : Prop := ∀ a c, r = some (.error (a, c)) → P a c
def PT (P : Int → Int → Prop) (l : List Tok) : Prop := ∀ t ∈ l, ∀ c : Int, c = 2 ∨ c = 50 ∨ c = 51 ∨ c = 52 → P t.at' c
section
variable {α β : Type} {P : Int → Int → Prop}
theorem Bad.ok (a : α) : Bad P (Res.ok a) := fun _ _ h => by cases h
theorem Bad.err {a c : Int} (h : P a c) : Bad P (Res.err a c : Res α) := fun _ _ h' => by cases h'; exact h
theorem Bad.bind {r : Res α} {f : α → Res β} (h : Bad P r) (k : ∀ a, r = some (.ok a) → Bad P (f a)) : Bad P (r.bind f) := by
  intro a c he
  rcases Res.bind_some he with ⟨x, hx, hf⟩ | ⟨x, hx, hq⟩
  · exact k x hx a c hf
  · cases hq
    exact h a c hx
theorem Bad.ite {c : Prop} [Decidable c] {a b : Res α} (h : c → Bad P a) (k : ¬ c → Bad P b) : Bad P (if c then a else b) := by
  by_cases hc : c
  · rw [if_pos hc]; exact h hc
  · rw [if_neg hc]; exact k hc
theorem PT.drop {l : List Tok} (h : PT P l) (n : Nat) : PT P (l.drop n) := fun t ht => h t (List.mem_of_mem_drop ht)
theorem PT.tail {l : List Tok} (h : PT P l) : PT P l.tail := fun t ht => h t (List.mem_of_mem_tail ht)
theorem PT.cons {t : Tok} {l : List Tok} (h : PT P (t :: l)) : PT P l := h.tail
variable {e : Int} (hE : ∀ c : Int, c = 2 ∨ c = 50 ∨ c = 51 ∨ c = 52 → P e c)
include hE
theorem bad_odd {l : List Tok} (h : PT P l) : P (oddR e l).1 (oddR e l).2 := by
  cases l with
  | nil => exact hE 51 (by simp)
  | cons t r =>
    by_cases hc : t.kind = 0 ∨ t.kind = 6
    · simp only [oddR, if_pos hc]
      exact h t (by simp) 51 (by simp)
    · simp only [oddR, if_neg hc]
      exact h t (by simp) 50 (by simp)
theorem bad_place {l : List Tok} (h : PT P l) (c : Int) (hc : c = 2 ∨ c = 50 ∨ c = 51 ∨ c = 52) : P (placeR e l) c := by
  cases l with
  | nil => exact hE _ hc
  | cons t r => exact h t (by simp) _ hc
theorem bad_must {t : List UInt8} {s : RS} (h : PT P s.1) : Bad P (mustR e t s) := Bad.ite (fun _ => Bad.ok _) (fun _ => Bad.err (bad_odd hE h))
omit hE in
theorem PT.pass {s s' : RS} {c len extra : Nat} (h : PT P s.1) (hp : Passed s c s' len extra) : PT P s'.1 := by
  obtain ⟨m, _, _, h3, _⟩ := hp
  rw [h3]
  exact h.drop m
theorem bad5 (k : Nat) :
    (∀ most (s : RS), PT P s.1 → Bad P (upToR k e most s)) ∧ (∀ most x rank (s : RS), PT P s.1 → Bad P (climbR k e most x rank s)) ∧ (∀ s : RS, PT P s.1 → Bad P (beginR k e s)) ∧
    (∀ acc (s : RS), PT P s.1 → Bad P (rowR k e acc s)) ∧ (∀ s : RS, PT P s.1 → Bad P (listLR k e s)) := by
  induction k with
  | zero => exact ⟨fun _ _ _ => fun _ _ h => (by cases h), fun _ _ _ _ _ => fun _ _ h => (by cases h), fun _ _ => fun _ _ h => (by cases h), fun _ _ _ => fun _ _ h => (by cases h), fun _ _ => fun _ _ h => (by cases h)⟩
  | succ k ih =>
    obtain ⟨hU, hC, hB, hR, hL⟩ := ih
    obtain ⟨pU, pC, pB, pR, pL⟩ := passed5 e k
    refine ⟨fun most s h => ?_, fun most x rank s h => ?_, fun s h => ?_, fun acc s h => ?_, fun s h => ?_⟩
    · simp only [upToR]
      exact Bad.bind (hB s h) (fun a ha => hC _ _ _ _ (h.pass (pB s a ha)))
    · obtain ⟨l, ns⟩ := s
      cases l with
      | nil => exact Bad.ok _
      | cons t r =>
        simp only [climbR]
        refine Bad.ite (fun _ => Bad.ok _) (fun _ => ?_)
        cases opR t.text with
        | none => exact Bad.ok _
        | some o =>
          refine Bad.ite (fun _ => Bad.ok _) (fun _ => Bad.ite (fun _ => Bad.err (h t (by simp) _ (by simp))) (fun _ => ?_))
          exact Bad.bind (hU _ (r, ns) h.cons) (fun a ha => hC _ _ _ _ (PT.pass (s := (r, ns)) h.cons (pU _ _ a ha)))
    · obtain ⟨l, ns⟩ := s
      cases l with
      | nil => exact Bad.err (hE _ (by simp))
      | cons t r =>
        have hr : PT P r := h.cons
        simp only [beginR]
        refine Bad.ite (fun _ => Bad.ok _) (fun _ => Bad.ite (fun _ => Bad.ok _) (fun _ => Bad.ite (fun _ => ?_) (fun _ => Bad.ite (fun _ => ?_) (fun _ => Bad.ite (fun _ => ?_) (fun _ => Bad.ite (fun _ => ?_) (fun _ => Bad.err (bad_odd hE h)))))))
        · refine Bad.ite (fun _ => ?_) (fun _ => Bad.ok _)
          exact Bad.bind (hR _ (r.tail, ns) hr.tail) (fun a ha => Bad.bind (bad_must hE (PT.pass (s := (r.tail, ns)) hr.tail (pR _ _ a ha))) (fun _ _ => Bad.ok _))
        · exact Bad.bind (hU _ (r, ns) hr) (fun a ha => Bad.bind (bad_must hE (PT.pass (s := (r, ns)) hr (pU _ _ a ha))) (fun _ _ => Bad.ok _))
        · exact Bad.bind (hL (r, ns) hr) (fun a ha => Bad.ok _)
        · cases r with
          | nil => exact Bad.bind (hU _ ([], ns) hr) (fun a ha => Bad.ok _)
          | cons n r' => exact Bad.ite (fun _ => Bad.ok _) (fun _ => Bad.bind (hU _ (n :: r', ns) hr) (fun a ha => Bad.ok _))
    · simp only [rowR]
      refine Bad.bind (hU _ s h) (fun a ha => Bad.ite (fun _ => hR _ _ ?_) (fun _ => Bad.ok _))
      exact (h.pass (pU _ _ a ha)).tail
    · simp only [listLR]
      refine Bad.ite (fun _ => Bad.ok _) (fun _ => Bad.bind (hR _ s h) (fun l hl => ?_))
      have h1 := h.pass (pR _ _ l hl)
      by_cases hc : isT l.2.1 5 [124] = true
      · rw [if_pos hc]
        exact Bad.bind (hU _ _ h1.tail) (fun t ht => Bad.bind (bad_must hE (PT.pass (s := (l.2.1.tail, l.2.2)) h1.tail (pU _ _ t ht))) (fun _ _ => Bad.ok _))
      · rw [if_neg hc]
        exact Bad.bind (Bad.ok _) (fun t ht => Bad.bind (bad_must hE (by cases ht; exact h1)) (fun _ _ => Bad.ok _))
theorem bad_whole (k : Nat) (a : Bool) (s : RS) (h : PT P s.1) : Bad P (wholeR k e a s) :=
  Bad.bind ((bad5 hE k).1 _ s h) (fun _ _ => Bad.ite (fun _ => Bad.err (bad_place hE h _ (by simp))) (fun _ => Bad.ite (fun _ => Bad.err (bad_place hE h _ (by simp))) (fun _ => Bad.ok _)))
omit hE in
theorem whole_pass {k : Nat} {a : Bool} {s : RS} {x : List Cel × RS} (h : wholeR k e a s = some (.ok x)) : ∃ m, x.2.1 = s.1.drop m := by
  obtain ⟨y, hy, h⟩ := Res.bind_ok h
  split at h
  · cases h
  · split at h
    · cases h
    · injection h with h
      injection h with h
      subst h
      obtain ⟨m, _, _, h3, _⟩ := (passed5 e k).1 _ _ _ hy
      exact ⟨m, h3⟩
theorem bad_body : ∀ (k : Nat) (acc : List LitR) (s : RS), PT P s.1 → Bad P (bodyR k e acc s)
  | 0, _, _, _ => fun _ _ h => (by cases h)
  | k + 1, acc, s, h => by
    simp only [bodyR]
    have hs : PT P (if isT s.1 4 [92, 43] = true then (s.1.tail, s.2) else s).1 := by
      split
      · exact h.tail
      · exact h
    refine Bad.ite (fun _ => Bad.err (bad_place hE h _ (by simp))) (fun _ => Bad.bind (bad_whole hE k true _ hs) (fun x hx => Bad.ite (fun _ => bad_body k _ _ ?_) (fun _ => Bad.ok _)))
    obtain ⟨m, hm⟩ := whole_pass hx
    simp only [hm]
    exact (hs.drop m).tail
omit hE in
theorem body_pass : ∀ (k : Nat) (acc : List LitR) (s : RS) (b : List LitR × RS), bodyR k e acc s = some (.ok b) → PT P s.1 → PT P b.2.1
  | 0, _, _, _, h, _ => by cases h
  | k + 1, acc, s, b, h, hs => by
    simp only [bodyR] at h
    split at h
    · cases h
    · obtain ⟨x, hx, h⟩ := Res.bind_ok h
      have hs2 : PT P (if isT s.1 4 [92, 43] = true then (s.1.tail, s.2) else s).1 := by
        split
        · exact hs.tail
        · exact hs
      obtain ⟨m, hm⟩ := whole_pass hx
      have hx2 : PT P x.2.1 := by rw [hm]; exact hs2.drop m
      split at h
      · exact body_pass k _ _ _ h hx2.tail
      · injection h with h
        injection h with h
        subst h
        exact hx2
theorem bad_clause (k : Nat) (l : List Tok) (h : PT P l) : Bad P (clauseR k e l) := by
  refine Bad.bind (bad_whole hE k true _ h) (fun x hx => ?_)
  obtain ⟨m, hm⟩ := whole_pass hx
  have hx2 : PT P x.2.1 := by rw [hm]; exact h.drop m
  refine Bad.bind (Bad.ite (fun _ => bad_body hE k _ _ hx2.tail) (fun _ => Bad.ok _)) (fun b hb => ?_)
  have hb2 : PT P b.2.1 := by
    split at hb
    · exact body_pass k _ _ _ hb hx2.tail
    · cases hb; exact hx2
  split
  · exact Bad.err (hE _ (by simp))
  · rename_i t r he
    rw [he] at hb2
    exact Bad.ite (fun _ => Bad.ok _) (fun _ => Bad.err (bad_odd hE hb2))
omit hE in
theorem clause_pass {k : Nat} {l : List Tok} {c : ClR × RS} (h : clauseR k e l = some (.ok c)) (hl : PT P l) : PT P c.2.1 := by
  obtain ⟨x, hx, h⟩ := Res.bind_ok h
  obtain ⟨m, hm⟩ := whole_pass hx
  have hx2 : PT P x.2.1 := by rw [hm]; exact hl.drop m
  obtain ⟨b, hb, h⟩ := Res.bind_ok h
  have hb2 : PT P b.2.1 := by
    split at hb
    · exact body_pass k _ _ _ hb hx2.tail
    · cases hb; exact hx2
  split at h
  · cases h
  · rename_i t r he
    rw [he] at hb2
    split at h
    · cases h
      exact hb2.cons
    · cases h
theorem bad_clauses : ∀ (k : Nat) (acc : List ClR) (l : List Tok), PT P l → Bad P (clausesR k e acc l)
  | 0, _, _, _ => fun _ _ h => (by cases h)
  | k + 1, acc, [], _ => Bad.ok _
  | k + 1, acc, t :: r, h => by
    simp only [clausesR]
    exact Bad.ite (fun _ => Bad.err (h t (by simp) _ (by simp))) (fun _ => Bad.bind (bad_clause hE k _ h) (fun c hc => bad_clauses k _ _ (clause_pass hc h)))
end
/-- An error has a code, and a place in the text or at its end. -/
theorem lex_bad (s : List UInt8) : (lexAll s).2.2 ≠ 0 → s.length ≤ 20000 → 0 ≤ (lexAll s).2.1 ∧ (lexAll s).2.1 < s.length := by
  intro h hl
  rcases lexAll_cases s hl with ⟨ts, hx, e⟩ | ⟨p, e', hx, e, _⟩
  · rw [e] at h; exact absurd rfl h
  · have := LX_errs hx p e' rfl
    rw [e]
    simp only
    omega
theorem lex_PT (s : List UInt8) (hl : s.length ≤ 20000) : PT (fun a c => c ≠ 0 ∧ 0 ≤ a ∧ a ≤ s.length) (lexAll s).1 := by
  intro t ht c hc
  rcases lexAll_cases s hl with ⟨ts, hx, e⟩ | ⟨p, e', hx, e, _⟩
  · rw [e] at ht
    have := (LX_bounds hx ts rfl).2 t ht
    omega
  · rw [e] at ht; cases ht
theorem program_bad (s : List UInt8) (hl : s.length ≤ 20000) (k : Nat) : Bad (fun a c => c ≠ 0 ∧ 0 ≤ a ∧ a ≤ s.length) (programR k s) :=
  Bad.ite (fun h => Bad.err (by have := lex_bad s h hl; exact ⟨h, by omega, by omega⟩)) (fun _ => bad_clauses (fun c hc => ⟨by omega, by omega, by omega⟩) k _ _ (lex_PT s hl))
theorem term_bad (s : List UInt8) (hl : s.length ≤ 20000) (k : Nat) : Bad (fun a c => c ≠ 0 ∧ 0 ≤ a ∧ a ≤ s.length) (termR k s) := by
  refine Bad.ite (fun h => Bad.err (by have := lex_bad s h hl; exact ⟨h, by omega, by omega⟩)) (fun _ => ?_)
  refine Bad.bind (bad_whole (fun c hc => ⟨by omega, by omega, by omega⟩) k false _ (lex_PT s hl)) (fun x hx => ?_)
  obtain ⟨m, hm⟩ := whole_pass hx
  have hx2 : PT (fun a c => c ≠ 0 ∧ 0 ≤ a ∧ a ≤ s.length) x.2.1 := by rw [hm]; exact (lex_PT s hl).drop m
  split
  · exact Bad.ok _
  · rename_i t r he
    refine Bad.err ?_
    cases hc : x.2.1 with
    | nil => rw [hc] at he; cases he
    | cons q qs =>
      rw [hc] at he hx2
      simp only at he
      split at he
      · subst he
        exact hx2 t (by simp) _ (by simp)
      · cases he
        exact hx2 _ (by simp) _ (by simp)
end Go.Proofs.YthdccdbiichabaaDoor.P
/- Blanks ahead of a text: its terms and clauses are as they were; all places are as much more. In plain Lean. No condition. -/
namespace Go.Proofs.YthdccdbiichabaaDoor.P
set_option linter.unusedVariables false
theorem pass_blank32 (l : List UInt8) : ∀ m : Nat, passL false (List.replicate m 32 ++ l) = m + passL false l
  | 0 => by simp
  | m + 1 => by
    rw [List.replicate_succ, List.cons_append]
    have ih := pass_blank32 l m
    rw [show passL false (32 :: (List.replicate m 32 ++ l)) = 1 + passL false (List.replicate m 32 ++ l) from ?_, ih]
    · omega
    · simp [passL, Nat.add_comm, show isBlank 32 = true from by decide]
theorem lex_blanks (l : List UInt8) (m : Nat) (hl : l.length + m ≤ 20000) :
    lexAll (List.replicate m 32 ++ l) = (if (lexAll l).2.2 = 0 then ((lexAll l).1.map (shT m), 0, 0) else ([], (lexAll l).2.1 + m, (lexAll l).2.2)) := by
  have hlen : (List.replicate m (32 : UInt8) ++ l).length ≤ 20000 := by simp; omega
  have key : ∀ x, LX l 0 x → LX (List.replicate m 32 ++ l) 0 (shiftX m x) := fun x hx => LX_skip (LX_shift hx m) _ (by rw [pass_blank32]; simp) 0 (by simp)
  rcases lexAll_cases l (by omega) with ⟨ts, hx, he⟩ | ⟨p, e, hx, he, hc⟩
  · rw [lexAll_of hlen (key _ hx), he, if_pos rfl]
    rfl
  · rw [lexAll_of hlen (key _ hx), he, if_neg (by simp only; omega)]
    simp only [shiftX, outX]
    rfl
theorem program_shift (l : List UInt8) (m : Nat) (hl : l.length + m ≤ 20000) (k : Nat) : programR k (List.replicate m 32 ++ l) = (programR k l).sh m id := by
  unfold programR
  rw [lex_blanks l m hl]
  by_cases h : (lexAll l).2.2 = 0
  · rw [if_pos h, if_neg (by simp), if_neg (by rw [h]; simp)]
    have e : ((List.replicate m (32 : UInt8) ++ l).length : Int) = (l.length : Int) + m := by simp; omega
    rw [e]
    exact clauses_sh m l.length k [] _
  · rw [if_neg h, if_pos h, if_pos h]
    rfl
theorem term_shift (l : List UInt8) (m : Nat) (hl : l.length + m ≤ 20000) (k : Nat) : termR k (List.replicate m 32 ++ l) = (termR k l).sh m id := by
  unfold termR
  rw [lex_blanks l m hl]
  by_cases h : (lexAll l).2.2 = 0
  · rw [if_pos h, if_neg (by simp), if_neg (by rw [h]; simp)]
    have e : ((List.replicate m (32 : UInt8) ++ l).length : Int) = (l.length : Int) + m := by simp; omega
    rw [e]
    refine Res.sh_bind (f := fun x => (x.1, shS m x.2)) (whole_sh m l.length k false ((lexAll l).1, [])) (fun x => ?_)
    obtain ⟨t, ts, ns⟩ := x
    cases ts with
    | nil => rfl
    | cons q qs =>
      simp only [shS, List.map_cons]
      rw [show (shT (m : Int) q).kind = q.kind from rfl]
      by_cases hk : q.kind = 6
      · rw [if_pos hk, if_pos hk]
        cases qs with
        | nil => rfl
        | cons r rs => rfl
      · rw [if_neg hk, if_neg hk]
        rfl
  · rw [if_neg h, if_pos h, if_pos h]
    rfl
end Go.Proofs.YthdccdbiichabaaDoor.P
/- What is read is right, and bounded. In plain Lean. No condition. -/
namespace Go.Proofs.YthdccdbiichabaaDoor.P
set_option linter.unusedVariables false
def headK (t : List Cel) : Int := (t.headD ⟨0, [], 0⟩).kind
def CW (c : ClR) : Prop := (rightR c.1 = true ∧ headK c.1 = 3) ∧ c.2.length ≤ 8 ∧ ∀ y ∈ c.2, rightR y.2 = true ∧ headK y.2 = 3
theorem right_len {t : List Cel} (h : rightR t = true) : 1 ≤ t.length ∧ t.length ≤ 200 := by
  unfold rightR at h
  simp only [Bool.and_eq_true, decide_eq_true_eq] at h
  exact h.1
theorem whole_right {k : Nat} {e : Int} {a : Bool} {s : RS} {x : List Cel × RS} (h : wholeR k e a s = some (.ok x)) : rightR x.1 = true ∧ (a = true → headK x.1 = 3) ∧ x.2.2.length ≤ s.2.length + s.1.length := by
  obtain ⟨y, hy, h⟩ := Res.bind_ok h
  obtain ⟨m, h1, h2, h3, h4, h5, h6⟩ := (passed5 e k).1 _ _ _ hy
  split at h
  · cases h
  · rename_i hr
    split at h
    · cases h
    · rename_i ha
      injection h with h
      injection h with h
      subst h
      refine ⟨by simpa using hr, fun hat => ?_, by omega⟩
      refine Decidable.byContradiction fun hn => ha ⟨hat, hn⟩
theorem body_right (e : Int) : ∀ (k : Nat) (acc : List LitR) (s : RS) (b : List LitR × RS), bodyR k e acc s = some (.ok b) → acc.length ≤ 8 → (∀ y ∈ acc, rightR y.2 = true ∧ headK y.2 = 3) → b.1.length ≤ 8 ∧ ∀ y ∈ b.1, rightR y.2 = true ∧ headK y.2 = 3
  | 0, _, _, _, h, _, _ => by cases h
  | k + 1, acc, s, b, h, hl, ha => by
    simp only [bodyR] at h
    split at h
    · cases h
    · rename_i h8
      obtain ⟨x, hx, h⟩ := Res.bind_ok h
      have hr := whole_right hx
      have ha2 : ∀ y ∈ acc ++ [(isT s.1 4 [92, 43], x.1)], rightR y.2 = true ∧ headK y.2 = 3 := by
        intro y hy
        rcases List.mem_append.1 hy with hy | hy
        · exact ha y hy
        · rw [List.mem_singleton] at hy
          subst hy
          exact ⟨hr.1, hr.2.1 rfl⟩
      have hl2 : (acc ++ [(isT s.1 4 [92, 43], x.1)]).length ≤ 8 := by rw [List.length_append, List.length_singleton]; omega
      split at h
      · exact body_right e k _ _ _ h hl2 ha2
      · injection h with h
        injection h with h
        subst h
        exact ⟨hl2, ha2⟩
theorem clause_right {k : Nat} {e : Int} {l : List Tok} {c : ClR × RS} (h : clauseR k e l = some (.ok c)) : CW c.1 := by
  obtain ⟨x, hx, h⟩ := Res.bind_ok h
  have hr := whole_right hx
  obtain ⟨b, hb, h⟩ := Res.bind_ok h
  have hb2 : b.1.length ≤ 8 ∧ ∀ y ∈ b.1, rightR y.2 = true ∧ headK y.2 = 3 := by
    split at hb
    · exact body_right e k _ _ _ hb (by simp) (by simp)
    · injection hb with hb
      injection hb with hb
      subst hb
      exact ⟨by simp, by simp⟩
  split at h
  · cases h
  · split at h
    · injection h with h
      injection h with h
      subst h
      exact ⟨⟨hr.1, hr.2.1 rfl⟩, hb2.1, hb2.2⟩
    · cases h
theorem clauses_right (e : Int) : ∀ (k : Nat) (acc : List ClR) (l : List Tok) (r : List ClR), clausesR k e acc l = some (.ok r) → acc.length ≤ 64 → (∀ c ∈ acc, CW c) → r.length ≤ 64 ∧ ∀ c ∈ r, CW c
  | 0, _, _, _, h, _, _ => by cases h
  | k + 1, acc, [], r, h, hl, ha => by
    injection h with h
    injection h with h
    subst h
    exact ⟨hl, ha⟩
  | k + 1, acc, t :: l, r, h, hl, ha => by
    simp only [clausesR] at h
    split at h
    · cases h
    · rename_i h64
      obtain ⟨c, hc, h⟩ := Res.bind_ok h
      refine clauses_right e k _ _ _ h (by rw [List.length_append, List.length_singleton]; omega) (fun y hy => ?_)
      rcases List.mem_append.1 hy with hy | hy
      · exact ha y hy
      · rw [List.mem_singleton] at hy
        subst hy
        exact clause_right hc
theorem program_right {k : Nat} {s : List UInt8} {r : List ClR} (h : programR k s = some (.ok r)) : r.length ≤ 64 ∧ ∀ c ∈ r, CW c := by
  unfold programR at h
  split at h
  · cases h
  · exact clauses_right _ k [] _ r h (by simp) (by simp)
theorem term_right {k : Nat} {s : List UInt8} {x : List Cel × List (List UInt8)} (h : termR k s = some (.ok x)) : rightR x.1 = true ∧ x.2.length ≤ 20000 := by
  unfold termR at h
  split at h
  · cases h
  · obtain ⟨y, hy, h⟩ := Res.bind_ok h
    have hr := whole_right hy
    have hb := (lexAll_bounds s).1
    split at h
    · injection h with h
      injection h with h
      subst h
      simp only [List.length_nil] at hr
      exact ⟨hr.1, by simp only; omega⟩
    · cases h
end Go.Proofs.YthdccdbiichabaaDoor.P
