/- What lex.Lex computes, as plain functions on lists of bytes. No program in sight. No condition. -/
import Derived.Lib.ParseIntB
namespace Go.Proofs.YthdccdbiichabaaDoor.P
set_option linter.unusedVariables false

def isSmall (c : UInt8) : Bool := decide (97 ≤ c) && decide (c ≤ 122)
def isGreat (c : UInt8) : Bool := (decide (65 ≤ c) && decide (c ≤ 90)) || c == 95
def isDigit (c : UInt8) : Bool := decide (48 ≤ c) && decide (c ≤ 57)
def isLetter (c : UInt8) : Bool := isSmall c || isGreat c || isDigit c
def isSign (c : UInt8) : Bool := [43, 45, 42, 47, 92, 94, 60, 62, 61, 126, 58, 63, 64, 35, 38, 36, 46].contains c
def isPunct (c : UInt8) : Bool := [40, 41, 91, 93, 44, 124].contains c
def isBlank (c : UInt8) : Bool := c == 32 || c == 9 || c == 10 || c == 13
def isPlain (c : UInt8) : Bool := decide (32 ≤ c) && decide (c ≤ 126)

/-- How many bytes of a kind a text begins with. -/
def spanP (p : UInt8 → Bool) (l : List UInt8) : Nat := (l.takeWhile p).length

/-- How many bytes of blanks and remarks a text begins with (inside a remark: all up to the line's end). -/
def passL : Bool → List UInt8 → Nat
  | _, [] => 0
  | r, c :: l => if c = 10 then passL false l + 1 else if c = 37 then passL true l + 1 else if (r || isBlank c) = true then passL r l + 1 else 0

/-- A token's place is told beside it: kind, letters, what it is, where it begins. -/
structure Tok where
  kind : Int
  text : List UInt8
  val : Int
  at' : Int

/-- What is read at a place: kind, letters, what it is, how many bytes. -/
structure Tk where
  kind : Int
  text : List UInt8
  val : Int
  len : Nat

/-- What digits are. -/
def decVal (l : List UInt8) : Nat := l.foldl (fun a c => a * 10 + (c.toNat - 48)) 0

/-- Does the rest behind a full stop end a clause? -/
def endsR : List UInt8 → Bool
  | [] => true
  | d :: _ => isBlank d || d == 37

/-- Does rule i fit? -/
def bg (i : Nat) (l : List UInt8) : Bool :=
  match l with
  | [] => false
  | c :: r =>
    match i with
    | 0 => isSmall c
    | 1 => isGreat c
    | 2 => isDigit c
    | 3 => c == 39
    | 4 => isPunct c
    | 5 => c == 46 && endsR r
    | _ => isSign c

def rowL (p : UInt8 → Bool) (most : Nat) (l : List UInt8) : Except Int (List UInt8 × Nat) :=
  if spanP p l > most then .error 2 else .ok (l.take (spanP p l), spanP p l)
def singleL (l : List UInt8) : Except Int (List UInt8 × Nat) := .ok (l.take 1, 1)
def quotedL (l : List UInt8) : Except Int (List UInt8 × Nat) :=
  let r := l.tail
  let n := spanP (fun c => c != 39) r
  if n = r.length then .error 41 else if n < 1 then .error 41 else if n > 12 then .error 41 else if (r.take n).all isPlain = true then .ok (r.take n, n + 2) else .error 41

/-- What rule i takes. -/
def tk (i : Nat) (l : List UInt8) : Except Int (List UInt8 × Nat) :=
  match i with
  | 0 => rowL isLetter 12 l
  | 1 => rowL isLetter 20000 l
  | 2 => rowL isDigit 20000 l
  | 3 => quotedL l
  | 4 => singleL l
  | 5 => singleL l
  | _ => rowL isSign 12 l

def kindOf (i : Nat) : Int :=
  match i with
  | 0 => 1
  | 1 => 2
  | 2 => 3
  | 3 => 1
  | 4 => 5
  | 5 => 6
  | _ => 4

def act (i : Nat) (l : List UInt8) : Except Int Tk :=
  match tk i l with
  | .error e => .error e
  | .ok (t, n) => if i = 2 then (if decVal t > 2147483647 then .error 2 else .ok ⟨3, t, decVal t, n⟩) else .ok ⟨kindOf i, t, 0, n⟩

/-- The last d rules. -/
def tokD : Nat → List UInt8 → Except Int Tk
  | 0, _ => .error 40
  | d + 1, l => if bg (6 - d) l = true then act (6 - d) l else tokD d l
def tokL (l : List UInt8) : Except Int Tk := tokD 7 l

/-- The tokens from a place on, behind those that are there. -/
def lexL : Nat → List UInt8 → Nat → List Tok → List Tok × Int × Int
  | 0, _, _, _ => ([], 0, 0)
  | k + 1, l, at', out =>
    if l = [] then (out, 0, 0) else
    match tokL l with
    | .error e => ([], at', e)
    | .ok t => lexL k ((l.drop t.len).drop (passL false (l.drop t.len))) (at' + t.len + passL false (l.drop t.len)) (out ++ [⟨t.kind, t.text, t.val, at'⟩])

def lexAll (l : List UInt8) : List Tok × Int × Int :=
  if l.length > 20000 then ([], 0, 2) else lexL (l.length + 1) (l.drop (passL false l)) (passL false l) []
end Go.Proofs.YthdccdbiichabaaDoor.P
