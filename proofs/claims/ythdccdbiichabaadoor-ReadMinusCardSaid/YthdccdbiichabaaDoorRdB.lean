import Derived.Test.YthdccdbiichabaaDoorTokS
import Derived.Test.YthdccdbiichabaaDoorRdS
import Derived.Lib.Hide
import Derived.WalkLawsBesides
import Derived.WideMake
import Derived.Test.YthdccdbiichabaaDoorPx5
import Derived.Laws.IdiomStrings
import Derived.Laws.RangeString
import Derived.MapKept
import Derived.Laws.EntriesVeiled
/- What the walks of package read keep in memory: what a call of a reader's method leaves as it was. No condition. -/
namespace Go.Proofs.YthdccdbiichabaaDoor.P
open Go.RowKit Go.Proofs.YthdccdbiichabaaDoorW.PrintWords Go.Proofs.YthdccdbiichabaaDoorW.PrintLast Go.Proofs.YthdccdbiichabaaDoorW.PrintMore
set_option linter.unusedVariables false

def celS (c : Cel) : S41 := ⟨c.kind, ⟨c.name.toArray⟩, c.n⟩
def baS (l : List UInt8) : ByteArray := ⟨l.toArray⟩

/-- A block that a reader's method may write: a reader, or a row of texts. -/
def Vol (tR : Nat) (o : Option Obj) : Prop := ∃ cs t, o = some (.cells cs t (0, 0)) ∧ (t = tR ∨ t = 9)
/-- All blocks below B, and all that a reader's method may not write, are as they were. -/
structure Fr (tR B : Nat) (w w' : World) : Prop where
  os : w'.os = w.os
  tape : w'.tape = w.tape
  output : w'.output = w.output
  size : w.heap.size ≤ w'.heap.size
  block : ∀ k, k < w.heap.size → (k < B ∨ ¬ Vol tR w.heap[k]?) → w'.heap[k]? = w.heap[k]?
section
variable {tR B : Nat} {w w1 w2 : World}
theorem Fr.refl (tR B : Nat) (w : World) : Fr tR B w w := ⟨rfl, rfl, rfl, Nat.le_refl _, fun _ _ _ => rfl⟩
theorem Fr.trans (h : Fr tR B w w1) (k : Fr tR B w1 w2) : Fr tR B w w2 :=
  ⟨k.os.trans h.os, k.tape.trans h.tape, k.output.trans h.output, Nat.le_trans h.size k.size, fun i hi hv => by
    have e := h.block i hi hv
    rw [k.block i (Nat.lt_of_lt_of_le hi h.size) (by rw [e]; exact hv), e]⟩
theorem Fr.of_below (h : Below w.heap.size w w1) : Fr tR B w w1 := ⟨h.os, h.tape, h.output, h.size, fun k hk _ => h.block k hk⟩
theorem Fr.alloc (h : Fr tR B w w1) (o : Obj) : Fr tR B w (w1.alloc o) := h.trans (Fr.of_below (below_alloc (Below.refl _ _) o))
theorem Fr.drewN (h : Fr tR B w w1) (n : Nat) : Fr tR B w (w1.drewN n) := ⟨h.os, h.tape, h.output, h.size, h.block⟩
theorem Fr.drew (h : Fr tR B w w1) : Fr tR B w w1.drew := ⟨h.os, h.tape, h.output, h.size, h.block⟩
theorem Fr.below (h : Fr tR B w w1) (hB : B ≤ w.heap.size) : Below B w w1 := ⟨h.os, h.tape, h.output, h.size, fun k hk => h.block k (by omega) (.inl hk)⟩
/-- A store into a block that a reader's method may write. -/
theorem Fr.set (h : Fr tR B w w1) {g j : Nat} {u : Value} (hg : B ≤ g) (hv : Vol tR w1.heap[g]?) : Fr tR B w (w1.setCell ⟨g, j, none⟩ u) :=
  h.trans ⟨rfl, rfl, rfl, by simp [World.setCell], fun k _ hk => Below.heap_setCell _ _ _ _ (by
    rintro rfl
    rcases hk with hk | hk
    · omega
    · exact hk hv)⟩
/-- A store into a block that is new. -/
theorem Fr.setNew (h : Fr tR B w w1) {g j : Nat} {u : Value} (hg : w.heap.size ≤ g) : Fr tR B w (w1.setCell ⟨g, j, none⟩ u) :=
  ⟨h.os, h.tape, h.output, by rw [show (w1.setCell ⟨g, j, none⟩ u).heap.size = w1.heap.size by simp [World.setCell]]; exact h.size, fun k hk hv => (Below.heap_setCell _ _ _ _ (by simp only; omega)).trans (h.block k hk hv)⟩
theorem Fr.grown (h : Fr tR B w w1) {row : Option Nat} (hg : w1.grownBy w2 row) (hr : ∀ k, row = some k → B ≤ k ∧ Vol tR w1.heap[k]?) : Fr tR B w w2 :=
  h.trans ⟨hg.os, hg.tape, hg.output, hg.size, fun k hk hv => hg.block k hk (fun e => by
    obtain ⟨h1, h2⟩ := hr k e.symm
    rcases hv with hv | hv
    · omega
    · exact hv h2)⟩
theorem Fr.weak {B' : Nat} (h : Fr tR B w w1) (hB : B' ≤ B) (hB2 : ∀ k, B' ≤ k → k < B → ¬ Vol tR w.heap[k]? ∨ True) : Fr tR B' w w1 :=
  ⟨h.os, h.tape, h.output, h.size, fun k hk hv => h.block k hk (hv.imp (fun h => by omega) id)⟩
end

theorem not_vol {tR : Nat} {w : World} {k e : Nat} {cells : Array Value} (h : w.heap[k]? = some (.cells cells e (0, 0))) (h1 : e ≠ tR) (h2 : e ≠ 9) : ¬ Vol tR w.heap[k]? := by
  rintro ⟨cs, t, hc, ht⟩
  rw [h] at hc
  injection hc with hc
  injection hc with _ hc
  subst hc
  rcases ht with rfl | rfl
  · exact h1 rfl
  · exact h2 rfl
/-- What a call made, and no reader's method may write, stays. -/
theorem R_fr {α : Type} {d : Kd α} {e : Nat} {tR B base : Nat} {w w1 : World} {ok : Nat → Prop} {v : Value} {xs : List α} (h : d.R e w base ok v xs) (hf : Fr tR B w w1) (ht : ∀ q, q ∈ e :: d.E → q ≠ tR ∧ q ≠ 9) : d.R e w1 base ok v xs := by
  refine Kd.R_mono (Kd.R_move (Kd.R_bound h) fun k hk => ?_) (fun _ hk => hk.1)
  obtain ⟨_, _, hlt, q, hq, cells, hc⟩ := hk
  exact hf.block k hlt (.inr (not_vol hc (ht q hq).1 (ht q hq).2))

/-- A row of tokens that is read, and whose block no reader's method may write. -/
def TokC (tR : Nat) (w : World) (v : Value) (l : List Tok) : Prop :=
  ∃ A c, v = .slice A l.length c ∧ l.length ≤ c ∧ Kd.C k65 w A l.length (l.map tokS) ∧ (tR ≠ 65 ∧ ∀ ad, A = some ad → 0 < l.length → ∃ cells, w.heap[ad.block]? = some (.cells cells 65 (0, 0)))
theorem C_block {α : Type} {d : Kd α} {w w1 : World} {A : Option Addr} {n : Nat} {xs : List α} (h : d.C w A n xs) (hE : ∀ x cs, d.K w x cs → d.K w1 x cs) (hb : ∀ ad, A = some ad → 0 < n → w1.heap[ad.block]? = w.heap[ad.block]?) : d.C w1 A n xs := by
  refine ⟨h.1, h.2.1, fun hn => ?_⟩
  obtain ⟨ad, e, hc⟩ := h.2.2 hn
  refine ⟨ad, e, fun j p hj => ?_⟩
  obtain ⟨c, hs, hr, hcell⟩ := hc j p hj
  refine ⟨c, hs, hE _ _ hr, fun i u hu => ?_⟩
  rw [World.cell?_of_block (w := w) (by rw [add_block]; exact hb ad e hn)]
  exact hcell i u hu
theorem TokC.fr {tR B : Nat} {w w1 : World} {v : Value} {l : List Tok} (h : TokC tR w v l) (hf : Fr tR B w w1) : TokC tR w1 v l := by
  obtain ⟨A, c, rfl, hl, hc, ht, hb⟩ := h
  have hbl : ∀ ad, A = some ad → 0 < l.length → w1.heap[ad.block]? = w.heap[ad.block]? := fun ad e hn => by
    obtain ⟨cells, hc⟩ := hb ad e hn
    exact hf.block _ (blk_lt hc) (.inr (not_vol hc (fun e => ht e.symm) (by decide)))
  refine ⟨A, c, rfl, hl, C_block hc (fun _ _ hk => hk) hbl, ht, fun ad e hn => by rw [hbl ad e hn]; exact hb ad e hn⟩
/-- A row whose block is of another type has grown. -/
theorem R_grownT {α : Type} {d : Kd α} {e base : Nat} {w w1 : World} {ok : Nat → Prop} {v : Value} {xs : List α} (h : d.R e w base ok v xs) {row : Option Nat} (hg : w.grownBy w1 row) (hr : ∀ k, row = some k → ∃ cells t, w.heap[k]? = some (.cells cells t (0, 0)) ∧ ∀ q, q ∈ e :: d.E → q ≠ t) : d.R e w1 base ok v xs := by
  refine Kd.R_mono (Kd.R_move (Kd.R_bound h) fun k hk => ?_) (fun _ hk => hk.1)
  obtain ⟨_, _, hlt, q, hq, cells, hc⟩ := hk
  refine hg.block k hlt (fun he => ?_)
  obtain ⟨cells', t, h1, h2⟩ := hr k he.symm
  rw [hc] at h1
  injection h1 with h1
  injection h1 with _ h1
  exact h2 q hq h1
theorem TokC.grown {tR : Nat} {w w1 : World} {v : Value} {l : List Tok} (h : TokC tR w v l) {row : Option Nat} (hg : w.grownBy w1 row) (hr : ∀ k, row = some k → ∃ cells t, w.heap[k]? = some (.cells cells t (0, 0)) ∧ t ≠ 65) : TokC tR w1 v l := by
  obtain ⟨A, c, rfl, hl, hc, ht, hb⟩ := h
  have hbl : ∀ ad, A = some ad → 0 < l.length → w1.heap[ad.block]? = w.heap[ad.block]? := fun ad e hn => by
    obtain ⟨cells, hc⟩ := hb ad e hn
    refine hg.block _ (blk_lt hc) (fun he => ?_)
    obtain ⟨cells', t, h1, h2⟩ := hr _ he.symm
    rw [hc] at h1
    injection h1 with h1
    injection h1 with _ h1
    exact h2 h1.symm
  refine ⟨A, c, rfl, hl, C_block hc (fun _ _ hk => hk) hbl, ht, fun ad e hn => by rw [hbl ad e hn]; exact hb ad e hn⟩
theorem Fr.grownNew {tR B : Nat} {w w1 w2 : World} (h : Fr tR B w w1) {row : Option Nat} (hg : w1.grownBy w2 row) (hr : ∀ k, row = some k → w.heap.size ≤ k) : Fr tR B w w2 :=
  ⟨hg.os.trans h.os, hg.tape.trans h.tape, hg.output.trans h.output, Nat.le_trans h.size hg.size, fun k hk hv => (hg.block k (Nat.lt_of_lt_of_le hk h.size) (fun e => by have := hr k e.symm; omega)).trans (h.block k hk hv)⟩

/-- A reader in memory: what is still to read, the text's end, the variables' letters. -/
structure RdAt (B g : Nat) (e : Int) (s : RS) (vr vn : Value) (w : World) : Prop where
  base : B ≤ g
  blk : w.heap[g]? = some (.cells #[vr, .int .i64 e, vn] 69 (0, 0))
  rest : TokC 69 w vr s.1
  names : Kd.R Kd.string 9 w B (fun _ => True) vn (s.2.map baS)
theorem TokC.below {tR : Nat} {w w1 : World} {v : Value} {l : List Tok} (h : TokC tR w v l) (hb : Below w.heap.size w w1) : TokC tR w1 v l := h.fr (B := 0) (Fr.of_below hb)
theorem RdAt.below {B g : Nat} {e : Int} {s : RS} {vr vn : Value} {w w1 : World} (h : RdAt B g e s vr vn w) (hb : Below w.heap.size w w1) : RdAt B g e s vr vn w1 :=
  ⟨h.base, (hb.block g (blk_lt h.blk)).trans h.blk, h.rest.below hb, Kd.R_below h.names hb⟩
theorem RdAt.vol {B g : Nat} {e : Int} {s : RS} {vr vn : Value} {w : World} (h : RdAt B g e s vr vn w) : Vol 69 w.heap[g]? := ⟨_, _, h.blk, .inl rfl⟩
/-- The first token is passed. -/
theorem TokC.tail {tR : Nat} {w : World} {v : Value} {t : Tok} {r : List Tok} (h : TokC tR w v (t :: r)) :
    ∃ ad c, v = .slice (some ad) (r.length + 1) c ∧ r.length + 1 ≤ c ∧ TokC tR w (.slice (if c = 1 then some ad else some ⟨ad.block, ad.off + 4, none⟩) r.length (c - 1)) r := by
  obtain ⟨A, c, rfl, hl, hc, ht, hb⟩ := h
  obtain ⟨ad, rfl, _⟩ := hc.2.2 (by simp)
  simp only [List.length_cons] at hl hb ⊢
  refine ⟨ad, c, rfl, hl, ?_⟩
  rw [show (⟨ad.block, ad.off + 4, none⟩ : Addr) = ad.add 4 by simp [Addr.add]]
  refine ⟨_, c - 1, rfl, by omega, ?_, ht, ?_⟩
  · have hd := Kd.C_drop (m := 1) (c := c) (k := k65) (w := w) (A := some ad) (xs := (t :: r).map tokS) (by simpa using hc) (by simp) (by simpa using hl)
    rw [show k65.sz = 4 from rfl] at hd
    simpa using hd
  · intro a ha hr
    have h1 := hb ad rfl (by omega)
    split at ha
    · injection ha with ha
      subst ha
      exact h1
    · injection ha with ha
      subst ha
      rw [add_block]
      exact h1
/-- The reader's first cell is written. -/
theorem RdAt.set0 {B g : Nat} {e : Int} {s : RS} {r : List Tok} {vr vr' vn : Value} {w : World} (h : RdAt B g e s vr vn w) (hT : TokC 69 w vr' r) :
    RdAt B g e (r, s.2) vr' vn (w.setCell ⟨g, 0, none⟩ vr') ∧ Fr 69 B w (w.setCell ⟨g, 0, none⟩ vr') := by
  have hf : Fr 69 B w (w.setCell ⟨g, 0, none⟩ vr') := (Fr.refl _ _ _).set h.base h.vol
  exact ⟨⟨h.base, blk_put h.blk 0 _ rfl, hT.fr hf, Kd.R_set h.names h.blk (by simp [Kd.string, Kd.scalar]) 0 _⟩, hf⟩
/-- The reader's third cell is written. -/
theorem RdAt.set2 {B g : Nat} {e : Int} {s : RS} {ns : List (List UInt8)} {vr vn vn' : Value} {w : World} (h : RdAt B g e s vr vn w) (hN : Kd.R Kd.string 9 w B (fun _ => True) vn' (ns.map baS)) :
    RdAt B g e (s.1, ns) vr vn' (w.setCell ⟨g, 2, none⟩ vn') ∧ Fr 69 B w (w.setCell ⟨g, 2, none⟩ vn') := by
  have hf : Fr 69 B w (w.setCell ⟨g, 2, none⟩ vn') := (Fr.refl _ _ _).set h.base h.vol
  exact ⟨⟨h.base, blk_put h.blk 2 _ rfl, h.rest.fr hf, Kd.R_set hN h.blk (by simp [Kd.string, Kd.scalar]) 2 _⟩, hf⟩
/-- A reader in memory, wherever its rows lie. -/
def RdSt (B g : Nat) (e : Int) (s : RS) (w : World) : Prop := ∃ vr vn, RdAt B g e s vr vn w
theorem RdSt.below {B g : Nat} {e : Int} {s : RS} {w w1 : World} (h : RdSt B g e s w) (hb : Below w.heap.size w w1) : RdSt B g e s w1 := by
  obtain ⟨vr, vn, h⟩ := h
  exact ⟨vr, vn, h.below hb⟩
/-- What a reader's method leaves: the reader, moved on; all else as it was. -/
structure RdTo (B g : Nat) (e : Int) (s : RS) (w w' : World) : Prop where
  st : RdSt B g e s w'
  fr : Fr 69 B w w'
theorem RdTo.after {B g : Nat} {e : Int} {s : RS} {w w1 w2 : World} (h : Fr 69 B w w1) (k : RdTo B g e s w1 w2) : RdTo B g e s w w2 := ⟨k.st, h.trans k.fr⟩
theorem RdTo.below {B g : Nat} {e : Int} {s : RS} {w w1 w2 : World} (h : RdTo B g e s w w1) (k : Below w1.heap.size w1 w2) : RdTo B g e s w w2 := ⟨h.st.below k, h.fr.trans (Fr.of_below k)⟩
/-- What is told of what is wrong. -/
def wrongP (x : Int × Int) : List PanicEntry := [{ v := .iface 71 (.agg #[.int .i64 x.1, .int .i64 x.2]), recovered := false }]
/-- A row of letters has grown, and the reader's third cell is written. -/
theorem RdAt.named {B g : Nat} {e : Int} {s : RS} {ns : List (List UInt8)} {vr vn vn' : Value} {w w1 : World} (h : RdAt B g e s vr vn w) (hg : w.grownBy w1 vn.ownBlock) (hN : Kd.R Kd.string 9 w1 B (fun _ => True) vn' (ns.map baS)) :
    w1.heap[g]? = some (.cells #[vr, .int .i64 e, vn] 69 (0, 0)) ∧ RdTo B g e (s.1, ns) w (w1.setCell ⟨g, 2, none⟩ vn') := by
  have hne : some g ≠ vn.ownBlock := Kd.R_ne h.names h.blk (by decide)
  have hb1 := blk_grown h.blk hg hne
  have hf : Fr 69 B w w1 := (Fr.refl _ _ _).grown hg (fun k hk => by
    obtain ⟨inner, ho⟩ := Kd.R_own h.names
    obtain ⟨cells, hc⟩ := own_typed ho k hk
    exact ⟨own_base ho k hk, ⟨_, _, hc, .inr rfl⟩⟩)
  have h1 : RdAt B g e (s.1, ns) vr vn' (w1.setCell ⟨g, 2, none⟩ vn') := by
    have hf2 : Fr 69 B w1 (w1.setCell ⟨g, 2, none⟩ vn') := (Fr.refl _ _ _).set h.base ⟨_, _, hb1, .inl rfl⟩
    exact ⟨h.base, blk_put hb1 2 _ rfl, (h.rest.fr hf).fr hf2, Kd.R_set hN hb1 (by simp [Kd.string, Kd.scalar]) 2 _⟩
  exact ⟨hb1, ⟨_, _, h1⟩, hf.set h.base ⟨_, _, hb1, .inl rfl⟩⟩
/-- A row of another type has grown: the reader is as it was. -/
theorem RdSt.grown {B g : Nat} {e : Int} {s : RS} {w w1 : World} (h : RdSt B g e s w) {row : Option Nat} (hg : w.grownBy w1 row) (hr : ∀ k, row = some k → ∃ cells t, w.heap[k]? = some (.cells cells t (0, 0)) ∧ t ≠ 65 ∧ t ≠ 69 ∧ t ≠ 9) : RdSt B g e s w1 := by
  obtain ⟨vr, vn, h⟩ := h
  refine ⟨vr, vn, h.base, blk_grown h.blk hg (fun he => ?_), h.rest.grown hg (fun k hk => by obtain ⟨c, t, h1, h2, _⟩ := hr k hk; exact ⟨c, t, h1, h2⟩), R_grownT h.names hg (fun k hk => by
    obtain ⟨c, t, h1, _, _, h2⟩ := hr k hk
    exact ⟨c, t, h1, fun q hq => by
      simp only [Kd.string, Kd.scalar, List.mem_singleton] at hq
      rw [hq]
      exact fun e => h2 e.symm⟩)⟩
  obtain ⟨c, t, h1, _, h2, _⟩ := hr g he.symm
  have := h.blk
  rw [h1] at this
  injection this with this
  injection this with _ this
  exact h2 this
end Go.Proofs.YthdccdbiichabaaDoor.P
/- The small methods of package read's reader: their contracts. No condition. -/
namespace Go.Proofs.YthdccdbiichabaaDoor.P
open Go.RowKit Go.Proofs.YthdccdbiichabaaDoorW.PrintWords Go.Proofs.YthdccdbiichabaaDoorW.PrintLast Go.Proofs.YthdccdbiichabaaDoorW.PrintMore
set_option linter.unusedVariables false
set_option linter.unusedSimpArgs false

def tokV (t : Tok) : Value := .agg #[.int .i64 t.kind, .string (baS t.text), .int .i64 t.val, .int .i64 t.at']
/-- The next token; one without a kind, if there is none. -/
def nxtR (e : Int) (l : List Tok) : Tok := match l with | [] => ⟨0, [], 0, e⟩ | t :: _ => t

theorem rd_next {B g : Nat} {e : Int} {s : RS} {w : World} (h : Aside0 (RdSt B g e s w)) :
    Calls Tryd.prog 28 #[.pointer (some ⟨g, 0, none⟩)] w fun en w' => en = .returned (tokV (nxtR e s.1)) ∧ Below w.heap.size w w' := by
  obtain ⟨vr, vn, h⟩ := h.out
  replace h := Aside0.mk h
  obtain ⟨A, c, hvr, hc, hC, -, hb⟩ := h.out.rest
  have hgs := blk_lt h.out.blk
  have c0 := blk_cell h.out.blk 0
  have c1 := blk_cell h.out.blk 1
  simp at c0 c1
  rw [hvr] at c0
  obtain ⟨l, ns⟩ := s
  cases l with
  | nil =>
    clear hb hC hvr
    simp only [List.length_nil] at c0 hc
    have hne : ¬ g = w.heap.size := by omega
    have hne2 : ¬ w.heap.size = g := by omega
    go_enter Tryd.func28, Tryd.ntmps28
    go_wp2
    refine bodyPost_ret (v := tokV _) (by simp [results, Tryd.results28, go_sem]; rfl) rfl ⟨rfl, (by repeat (first | exact Below.refl _ _ | apply below_alloc))⟩
  | cons t r =>
    obtain ⟨ad, e1, hx0, hx1, hx2, hx3⟩ := at_T65 hC 0 (by omega) (by simp)
    rw [e1] at c0
    have hadlt := World.block_lt_of_cell? w _ hx0
    have ht : rd_T65 ((t :: r : List Tok).map tokS) 0 = tokS t := rfl
    rw [ht] at hx0 hx1 hx2 hx3
    rw [show (0 : Int).toNat * 4 = 0 from rfl] at hx0 hx1 hx2 hx3
    have hlen : (t :: r).length = r.length + 1 := rfl
    have hl0 : decide (((t :: r).length : Int) = 0) = false := by rw [decide_eq_false_iff_not]; simp; omega
    have hne : ¬ g = w.heap.size := by omega
    have hne2 : ¬ w.heap.size = g := by omega
    have hl1 : (0 : Int) < ((t :: r).length : Int) := by simp
    have had0 : ad.add 0 = ad := by simp [Addr.add]
    rw [had0] at hx0 hx1 hx2 hx3
    rw [show (0 : Int).toNat * 4 = 0 from rfl, had0] at hadlt
    have hadne : ¬ ad.block = w.heap.size := by omega
    have hadne2 : ¬ w.heap.size = ad.block := by omega
    clear hb hC hvr hlen
    simp only [tokS] at hx0 hx1 hx2 hx3
    go_enter Tryd.func28, Tryd.ntmps28
    go_wp2
    refine bodyPost_ret (v := tokV _) (by simp [results, Tryd.results28, go_sem]; rfl) rfl ⟨rfl, (by repeat (first | exact Below.refl _ _ | apply below_alloc))⟩

theorem rd_pass {B g : Nat} {e : Int} {t : Tok} {r : List Tok} {ns : List (List UInt8)} {w : World} (h : Aside0 (RdSt B g e (t :: r, ns) w)) :
    Calls Tryd.prog 29 #[.pointer (some ⟨g, 0, none⟩)] w fun en w' => en = .returned (.tuple #[]) ∧ RdTo B g e (r, ns) w w' := by
  obtain ⟨vr, vn, h⟩ := h.out
  replace h := Aside0.mk h
  obtain ⟨ad, c, hvr, hc, hT⟩ := h.out.rest.tail
  have c0 := blk_cell h.out.blk 0
  have z0 := blk_frozen h.out.blk 0
  simp at c0
  rw [hvr] at c0
  have HT := Aside0.mk hT
  clear hT hvr
  by_cases h1 : c = 1
  · subst h1
    obtain rfl : r = [] := by
      cases r with
      | nil => rfl
      | cons _ _ => simp at hc
    have HT2 : Aside0 (TokC 69 w (.slice (some ad) 0 0) []) := ⟨by simpa using HT.out⟩
    clear HT
    go_enter Tryd.func29, Tryd.ntmps29
    go_wp2
    go_end0
    have hs := h.out.set0 HT2.out
    exact ⟨rfl, ⟨_, _, hs.1⟩, hs.2⟩
  · rw [if_neg h1] at HT
    go_enter Tryd.func29, Tryd.ntmps29
    go_wp2
    go_end0
    have hs := h.out.set0 HT.out
    exact ⟨rfl, ⟨_, _, hs.1⟩, hs.2⟩

theorem rd_odd {B g : Nat} {e : Int} {s : RS} {w : World} (h : Aside0 (RdSt B g e s w)) :
    Calls Tryd.prog 42 #[.pointer (some ⟨g, 0, none⟩)] w fun en w' => en = .panicked (wrongP (oddR e s.1)) ∧ Below w.heap.size w w' := by
  obtain ⟨t, ht⟩ : ∃ t, t = nxtR e s.1 := ⟨_, rfl⟩
  have HX : Hid (oddR e s.1 = (if t.kind = 0 ∨ t.kind = 6 then (t.at', 51) else (t.at', 50))) := Lib.hid (by
    subst ht
    match s.1 with
    | [] => simp [oddR, nxtR]
    | _ :: _ => rfl)
  have HN := Lib.hid ht
  clear ht
  by_cases k0 : t.kind = 0
  · have b0 : (t.kind == 0) = true := by simpa using k0
    have HX2 : Hid (oddR e s.1 = (t.at', 51)) := Lib.hid (HX.out.trans (if_pos (.inl k0)))
    clear HX k0
    go_enter Tryd.func42, Tryd.ntmps42
    go_wp2_with (go_at_call 28; refine (rd_next h).mono ?_; rw [← HN.out, tokV]; rintro en w1 ⟨rfl, hb⟩)
    rw [HX2.out]
    exact ⟨rfl, rfl, by repeat (first | exact hb | apply below_alloc)⟩
  · have b0 : (t.kind == 0) = false := by simpa using k0
    by_cases k6 : t.kind = 6
    · have b6 : (t.kind == 6) = true := by simpa using k6
      have HX2 : Hid (oddR e s.1 = (t.at', 51)) := Lib.hid (HX.out.trans (if_pos (.inr k6)))
      clear HX k0 k6
      go_enter Tryd.func42, Tryd.ntmps42
      go_wp2_with (go_at_call 28; refine (rd_next h).mono ?_; rw [← HN.out, tokV]; rintro en w1 ⟨rfl, hb⟩)
      rw [HX2.out]
      exact ⟨rfl, rfl, by repeat (first | exact hb | apply below_alloc)⟩
    · have b6 : (t.kind == 6) = false := by simpa using k6
      have HX2 : Hid (oddR e s.1 = (t.at', 50)) := Lib.hid (HX.out.trans (if_neg (by simp [k0, k6])))
      clear HX k0 k6
      go_enter Tryd.func42, Tryd.ntmps42
      go_wp2_with (go_at_call 28; refine (rd_next h).mono ?_; rw [← HN.out, tokV]; rintro en w1 ⟨rfl, hb⟩)
      rw [HX2.out]
      exact ⟨rfl, rfl, by repeat (first | exact hb | apply below_alloc)⟩

theorem isT_cons (t : Tok) (r : List Tok) (kd : Int) (tx : List UInt8) : isT (t :: r) kd tx = (t.kind == kd && t.text == tx) := rfl
theorem baS_ne {a b : List UInt8} (h : a ≠ b) : baS a ≠ baS b := fun he => h (by simpa [baS] using he)
theorem nxt_nil (e : Int) : nxtR e [] = ⟨0, [], 0, e⟩ := rfl

theorem baS_toList (a : List UInt8) : (baS a).toList = a := by rw [ByteArray.toList_eq]; rfl
theorem baS_beq (a b : List UInt8) : ((baS a).toList == (baS b).toList) = (a == b) := by rw [baS_toList, baS_toList]

theorem rd_take {B g : Nat} {e : Int} {s : RS} {w : World} (h : Aside0 (RdSt B g e s w)) (kd : Int) (hk : kd ≠ 0) (tx : List UInt8) :
    Calls Tryd.prog 41 #[.pointer (some ⟨g, 0, none⟩), .int .i64 kd, .string (baS tx)] w fun en w' =>
      en = .returned (.bool (isT s.1 kd tx)) ∧ RdTo B g e (if isT s.1 kd tx = true then (s.1.tail, s.2) else s) w w' := by
  obtain ⟨t, ht⟩ : ∃ t, t = nxtR e s.1 := ⟨_, rfl⟩
  have HN := Lib.hid ht
  have hno : isT s.1 kd tx = false → (t.kind != kd) = true ∨ (t.kind != kd) = false ∧ ((baS t.text).toList == (baS tx).toList) = false := by
    intro hi
    rw [baS_beq]
    match hs : s.1 with
    | [] => exact .inl (by rw [ht, hs]; simpa [nxtR] using fun h => hk h.symm)
    | t2 :: r =>
      rw [hs] at hi ht
      obtain rfl : t = t2 := ht
      rw [isT_cons] at hi
      by_cases c1 : t.kind = kd
      · refine .inr ⟨by simpa using c1, ?_⟩
        simpa [c1] using hi
      · exact .inl (by simpa using c1)
  cases hi : isT s.1 kd tx with
  | true =>
    obtain ⟨l, ns⟩ := s
    match l, h, HN, ht, hi with
    | t2 :: r, h, HN, ht, hi =>
      obtain rfl : t = t2 := ht
      rw [isT_cons] at hi
      simp only [Bool.and_eq_true, beq_iff_eq] at hi
      have b1 : (t.kind != kd) = false := by simpa using hi.1
      have b2 : ((baS t.text).toList == (baS tx).toList) = true := by rw [baS_beq]; simpa using hi.2
      clear hi hno ht
      go_enter Tryd.func41, Tryd.ntmps41
      go_wp2_with (first | (go_at_call 28; refine (rd_next h).mono ?_; rw [← HN.out, tokV]; rintro en w1 ⟨rfl, hb⟩) | (go_at_call 29; refine (rd_pass ⟨h.out.below (by repeat (first | exact hb | apply below_alloc))⟩).mono ?_; rintro en w2 ⟨rfl, hR⟩; replace hR := Aside0.mk hR))
      go_ret
      exact ⟨rfl, hR.out.after (Fr.of_below (by repeat (first | exact hb | apply below_alloc)))⟩
  | false =>
    rcases hno hi with b1 | ⟨b1, b2⟩
    all_goals
      have HS := h
      clear hno ht hi hk h
      go_enter Tryd.func41, Tryd.ntmps41
      go_wp2_with (first | (go_at_call 28; refine (rd_next HS).mono ?_; rw [← HN.out, tokV]; rintro en w1 ⟨rfl, hb⟩))
      go_ret
      exact ⟨rfl, HS.out.below (by repeat (first | exact hb | apply below_alloc)), Fr.of_below (by repeat (first | exact hb | apply below_alloc))⟩

/-- What a method's end is: what is read, and the reader moved on; or the panic. -/
def RdEnd {α : Type} (B g : Nat) (e : Int) (V : World → α → Value → Prop) (w : World) (q : Except (Int × Int) (α × RS)) (en : Ending) (w' : World) : Prop :=
  match q with
  | .ok (x, s) => ∃ v, en = .returned v ∧ V w' x v ∧ RdTo B g e s w w'
  | .error x => en = .panicked (wrongP x) ∧ Fr 69 B w w'

def RdEnd0 (B g : Nat) (e : Int) (w : World) (q : Except (Int × Int) RS) (en : Ending) (w' : World) : Prop :=
  match q with
  | .ok s' => en = .returned (.tuple #[]) ∧ RdTo B g e s' w w'
  | .error x => en = .panicked (wrongP x) ∧ Fr 69 B w w'

theorem rd_must {B g : Nat} {e : Int} {s : RS} {w : World} (h : Aside0 (RdSt B g e s w)) (tx : List UInt8) {q : Except (Int × Int) RS} (hq : Aside0 (mustR e tx s = some q)) :
    Calls Tryd.prog 61 #[.pointer (some ⟨g, 0, none⟩), .string (baS tx)] w (RdEnd0 B g e w q) := by
  cases hi : isT s.1 5 tx with
  | true =>
    obtain rfl : Except.ok (s.1.tail, s.2) = q := by
      have := hq.out
      unfold mustR at this
      rw [if_pos hi] at this
      exact Option.some.inj this
    have HI := Lib.hid hi
    clear hi hq
    go_enter Tryd.func61, Tryd.ntmps61
    go_wp2_with (go_at_call 41; refine (rd_take h 5 (by decide) tx).mono ?_; rw [HI.out, if_pos rfl]; rintro en w1 ⟨rfl, hR⟩; replace hR := Aside0.mk hR)
    go_end0
    exact ⟨rfl, hR.out⟩
  | false =>
    obtain rfl : Except.error (oddR e s.1) = q := by
      have := hq.out
      unfold mustR at this
      rw [if_neg (by rw [hi]; decide)] at this
      exact Option.some.inj this
    have HI := Lib.hid hi
    clear hi hq
    go_enter Tryd.func61, Tryd.ntmps61
    go_wp2_with (first | (go_at_call 41; refine (rd_take h 5 (by decide) tx).mono ?_; rw [HI.out, if_neg (by decide)]; rintro en w1 ⟨rfl, hR⟩; replace hR := Aside0.mk hR) | (go_at_call 42; refine (rd_odd ⟨hR.out.st⟩).mono ?_; rintro en w2 ⟨rfl, hb2⟩))
    exact ⟨rfl, rfl, hR.out.fr.trans (Fr.of_below hb2)⟩
end Go.Proofs.YthdccdbiichabaaDoor.P
/- A variable's number: the contract of package read's reader.variable. No condition. -/
namespace Go.Proofs.YthdccdbiichabaaDoor.P
open Go.RowKit Go.Proofs.YthdccdbiichabaaDoorW.PrintWords Go.Proofs.YthdccdbiichabaaDoorW.PrintLast Go.Proofs.YthdccdbiichabaaDoorW.PrintMore
set_option linter.unusedVariables false
set_option linter.unusedSimpArgs false

theorem infoStr : (Tryd.prog.info? 9).map (fun i => (i.zero, i.size, i.bytes)) = some (some (.string ⟨#[]⟩), 1, 16) := by kernel_rfl

theorem rd_variable {B g : Nat} {e : Int} {s : RS} {w : World} (h : Aside0 (RdSt B g e s w)) (hB : Aside0 (B ≤ w.heap.size)) (hn : s.2.length ≤ 1000000) (tx : List UInt8) :
    Calls Tryd.prog 59 #[.pointer (some ⟨g, 0, none⟩), .string (baS tx)] w fun en w' =>
      en = .returned (.int .i64 ((varR s.2 tx).1 : Int)) ∧ RdTo B g e (s.1, (varR s.2 tx).2) w w' := by
  obtain ⟨vr, vn, h⟩ := h.out
  replace h := Aside0.mk h
  obtain ⟨A, c, hvn, hlc, hC⟩ := Kd.R_reads h.out.names
  have c2 := blk_cell h.out.blk 2
  have z2 := blk_frozen h.out.blk 2
  simp at c2
  have HVN := Lib.hid hvn
  rw [hvn] at c2
  simp only [List.length_map] at c2 hlc
  by_cases hx : tx = [95]
  · have b1 : ((baS tx).toList == [95]) = true := by rw [hx, baS_toList]; rfl
    have HV : Hid (varR s.2 tx = (s.2.length, s.2 ++ [tx])) := Lib.hid (by unfold varR; rw [if_neg (by simp [hx])])
    clear hvn hx
    go_enter Tryd.func59, Tryd.ntmps59
    go_wp2_with (first | (at_builtin; refine Kd.R_append Kd.string (w0 := w) B rfl (.tmp 28) (.tmp 30) 25 9 (.string ⟨#[]⟩) 16 rfl Tryd.underlying25 infoStr rfl (by decide) (by omega) vn (s.2.map baS) (baS tx) [.string (baS tx)] (fun _ => True) (fun _ => False) (by rw [HVN.out, List.length_map]; first | rfl | (go_simp; done)) (by first | (go_simp; done) | (go_simp; rfl)) rfl (fun _ hk => hk.elim) (fun _ _ => trivial) h.out.names (Below.refl _ _) hB.out (by rw [List.length_map]; omega) ?_; intro vn1 w1 ho1 hb1 hg1 hat1; replace ho1 : Kd.R Kd.string 9 w1 B (fun _ => True) vn1 ((s.2 ++ [tx]).map baS) := (by rw [List.map_append]; exact ho1); obtain ⟨hk1, ht1⟩ := h.out.named hg1 ho1; obtain ⟨A1, c1, hvn1, -, -⟩ := Kd.R_reads ho1; have zz := blk_frozen hk1 2; have cc := blk_cell hk1 2; simp at cc; have ho1' := Aside0.mk ho1; replace ht1 := Aside0.mk ht1; have hv1 := Lib.hid hvn1; have he1 : vn1 = .slice A1 (s.2.length + 1) c1 := (by rw [hvn1]; simp); subst he1; clear ho1 hb1 hg1 hat1 hk1 hvn1))
    go_ret
    rw [HV.out]
    exact ⟨rfl, ht1.out⟩
  · have b1 : ((baS tx).toList == [95]) = false := by rw [baS_toList]; simpa using hx
    have HX := Lib.hid hx
    clear hvn hx
    go_enter Tryd.func59, Tryd.ntmps59
    go_wp2_with fail
    go_loopg [14, 5, 6] (s.2.length + 1) (fun gk v14 v5 v6 wr => ∃ i : Nat, v14 = .int .i64 i ∧ i + gk = s.2.length + 1 ∧ i ≤ s.2.length ∧ Aside0 (tx ∉ s.2.take i) ∧ wr = w)
    case atStart => exact ⟨0, rfl, by omega, by omega, ⟨by simp⟩, rfl⟩
    case round =>
      obtain ⟨i, rfl, hig, hil, HI, rfl⟩ := hrel
      cases gk with
      | zero => omega
      | succ gk =>
      by_cases hlt : i < s.2.length
      · have hltI : decide ((i : Int) < (s.2.length : Int)) = true := decide_eq_true (by omega)
        obtain ⟨ad, cs, hA, hl1, hK, hcell⟩ := Kd.C_get hC ByteArray.empty (i : Int) (by omega) (by rw [List.length_map]; omega)
        have hget : (s.2.map baS).getD (i : Int).toNat ByteArray.empty = baS s.2[i] := by
          rw [Int.toNat_natCast, List.getD_eq_getElem?_getD, List.getElem?_eq_getElem (by rw [List.length_map]; exact hlt), List.getElem_map]
          rfl
        rw [hget] at hK
        obtain rfl : cs = [.string (baS s.2[i])] := hK
        have hx0 := hcell 0 _ rfl
        rw [Int.toNat_natCast, show Kd.string.sz = 1 from rfl, Nat.mul_one, Nat.add_zero] at hx0
        obtain rfl := hA
        obtain ⟨y, hy⟩ : ∃ y, y = s.2[i] := ⟨_, rfl⟩
        rw [← hy] at hx0
        have hlN : i < s.2.length := hlt
        clear hcell hl1 hget
        by_cases heq : y = tx
        · have b2 : ((baS y).toList == (baS tx).toList) = true := by rw [baS_beq]; simpa using heq
          have HV : Hid (varR s.2 tx = (i, s.2)) := Lib.hid (by
            have hm : tx ∈ s.2 := by rw [← heq, hy]; exact List.getElem_mem _
            unfold varR
            rw [if_pos ⟨HX.out, hm⟩]
            congr 1
            have hsp : s.2 = s.2.take i ++ s.2[i] :: s.2.drop (i + 1) := by rw [← List.drop_eq_getElem_cons hlt, List.take_append_drop]
            rw [hsp, List.idxOf_append, if_neg HI.out, ← hy, heq, List.idxOf_cons_self, List.length_take]
            omega)
          clear heq hy
          go_wp2
          go_ret
          rw [HV.out]
          exact ⟨rfl, ⟨⟨vr, vn, h.out⟩, Fr.refl _ _ _⟩⟩
        · have b2 : ((baS y).toList == (baS tx).toList) = false := by rw [baS_beq]; simpa using heq
          have HI2 : Aside0 (tx ∉ s.2.take (i + 1)) := ⟨by
            rw [List.take_add_one, List.getElem?_eq_getElem hlt, ← hy]
            simp only [Option.toList_some, List.mem_append, List.mem_singleton, not_or]
            exact ⟨HI.out, fun h => heq h.symm⟩⟩
          clear heq hy HI
          go_wp2
          go_roundg gk
          case measure => omega
          case rel => exact ⟨i + 1, by first | rfl | simp, by omega, by omega, HI2, rfl⟩
      · have hltI : decide ((i : Int) < (s.2.length : Int)) = false := decide_eq_false (by omega)
        have HV : Hid (varR s.2 tx = (s.2.length, s.2 ++ [tx])) := Lib.hid (by
          unfold varR
          rw [if_neg]
          rintro ⟨_, hm⟩
          have := HI.out
          rw [List.take_of_length_le (by omega)] at this
          exact this hm)
        clear HI
        go_wp2_with (first | (at_builtin; refine Kd.R_append Kd.string (w0 := wr) B rfl (.tmp 28) (.tmp 30) 25 9 (.string ⟨#[]⟩) 16 rfl Tryd.underlying25 infoStr rfl (by decide) (by omega) vn (s.2.map baS) (baS tx) [.string (baS tx)] (fun _ => True) (fun _ => False) (by rw [HVN.out, List.length_map]; first | rfl | (go_simp; done)) (by first | (go_simp; done) | (go_simp; rfl)) rfl (fun _ hk => hk.elim) (fun _ _ => trivial) h.out.names (Below.refl _ _) hB.out (by rw [List.length_map]; omega) ?_; intro vn1 w1 ho1 hb1 hg1 hat1; replace ho1 : Kd.R Kd.string 9 w1 B (fun _ => True) vn1 ((s.2 ++ [tx]).map baS) := (by rw [List.map_append]; exact ho1); obtain ⟨hk1, ht1⟩ := h.out.named hg1 ho1; obtain ⟨A1, c1, hvn1, -, -⟩ := Kd.R_reads ho1; have zz := blk_frozen hk1 2; have cc := blk_cell hk1 2; simp at cc; have ho1' := Aside0.mk ho1; replace ht1 := Aside0.mk ht1; have hv1 := Lib.hid hvn1; have he1 : vn1 = .slice A1 (s.2.length + 1) c1 := (by rw [hvn1]; simp); subst he1; clear ho1 hb1 hg1 hat1 hk1 hvn1))
        go_ret
        rw [HV.out]
        exact ⟨rfl, ht1.out⟩
end Go.Proofs.YthdccdbiichabaaDoor.P
/- The operators' table of package read, made afresh and asked: its contract. No condition. -/
namespace Go.Proofs.YthdccdbiichabaaDoor.P
open Go.RowKit Go.Proofs.YthdccdbiichabaaDoorW.PrintWords Go.Proofs.YthdccdbiichabaaDoorW.PrintLast Go.Proofs.YthdccdbiichabaaDoorW.PrintMore
set_option linter.unusedVariables false
set_option linter.unusedSimpArgs false

def mapW (W : World) (r : Nat) (o : Obj) : World := { W with heap := W.heap.setIfInBounds r o }
theorem mapW_at {W : World} {r : Nat} {o o' : Obj} (h : W.heap[r]? = some o) : (mapW W r o').heap[r]? = some o' ∧ Below r W (mapW W r o') :=
  ⟨(MapKept.heap_set h).1, rfl, rfl, rfl, by simp [mapW], fun k hk => (MapKept.heap_set h).2 k (by omega)⟩
theorem run_map_put {P : Program} {W : World} {mty kt et : TypeId} {r clock : Nat} {es : Array MapEntry} {s : ByteArray} {val : Value} (hm : P.underlying mty = some (.map kt et)) (hk : P.underlying kt = some .string) (hb : W.heap[r]? = some (.map es clock))
    (hf : Instr.findNow .string (.string s) es.toList 0 = some none) :
    (Instr.mapUpdate mty (.map (some r)) (.string s) val).run P W = .ok () (mapW W r (.map (es.push { key := .string s, val := val, born := clock }) (clock + 1))) := by
  have hc : (Instr.checkKey false 10000 kt (.string s)).run P W = .ok () W := MapKept.run_checkKey (k := .string s) hk (by simp [MapKept.IsKey]) false 9999
  simp [Instr.mapUpdate, run_underlying hm, MapKept.run_getObj_map hb, hc, MapKept.run_findKey hk hf, MapKept.run_setObj_map _ hb, Result.andThen, mapW]

def opTab : Array MapEntry := #[⟨.string ⟨#[61]⟩, .agg #[.int .i64 700, .int .i64 699, .int .i64 699], 0⟩, ⟨.string ⟨#[60]⟩, .agg #[.int .i64 700, .int .i64 699, .int .i64 699], 1⟩, ⟨.string ⟨#[43]⟩, .agg #[.int .i64 500, .int .i64 500, .int .i64 499], 2⟩, ⟨.string ⟨#[45]⟩, .agg #[.int .i64 500, .int .i64 500, .int .i64 499], 3⟩, ⟨.string ⟨#[42]⟩, .agg #[.int .i64 400, .int .i64 400, .int .i64 399], 4⟩]

/-- The table is made afresh. -/
structure OpsAt (w : World) (b : Nat) (w' : World) : Prop where
  tab : w'.heap[b]? = some (.map opTab 5)
  below : Below w.heap.size w w'

theorem rd_infix (w : World) : Calls Tryd.prog 36 #[] w fun en w' => ∃ b, en = .returned (.map (some b)) ∧ OpsAt w b w' := by
  have hmm := @run_makeMap Tryd.prog
  obtain ⟨W0, hW0⟩ : ∃ W, W = w.alloc (.map #[] 0) := ⟨_, rfl⟩
  have k0 : W0.heap[w.heap.size]? = some (.map #[] 0) ∧ Below w.heap.size w W0 := by rw [hW0]; exact ⟨(MapKept.heap_alloc w _).1, below_alloc (Below.refl _ _) _⟩
  have m0 : (Instr.mapUpdate 79 (.map (some w.heap.size)) (.string ⟨#[61]⟩) (.agg #[.int .i64 700, .int .i64 699, .int .i64 699])).run Tryd.prog W0 = .ok () (mapW W0 w.heap.size (.map #[⟨.string ⟨#[61]⟩, .agg #[.int .i64 700, .int .i64 699, .int .i64 699], 0⟩] 1)) := run_map_put (es := #[]) Tryd.underlying79 Tryd.underlying9 k0.1 (by kernel_rfl)
  have k1 := mapW_at (o' := .map #[⟨.string ⟨#[61]⟩, .agg #[.int .i64 700, .int .i64 699, .int .i64 699], 0⟩] 1) k0.1
  obtain ⟨W1, hW1⟩ : ∃ W, W = mapW W0 w.heap.size (.map #[⟨.string ⟨#[61]⟩, .agg #[.int .i64 700, .int .i64 699, .int .i64 699], 0⟩] 1) := ⟨_, rfl⟩
  rw [← hW1] at m0 k1
  have m1 : (Instr.mapUpdate 79 (.map (some w.heap.size)) (.string ⟨#[60]⟩) (.agg #[.int .i64 700, .int .i64 699, .int .i64 699])).run Tryd.prog W1 = .ok () (mapW W1 w.heap.size (.map #[⟨.string ⟨#[61]⟩, .agg #[.int .i64 700, .int .i64 699, .int .i64 699], 0⟩, ⟨.string ⟨#[60]⟩, .agg #[.int .i64 700, .int .i64 699, .int .i64 699], 1⟩] 2)) := run_map_put (es := #[⟨.string ⟨#[61]⟩, .agg #[.int .i64 700, .int .i64 699, .int .i64 699], 0⟩]) Tryd.underlying79 Tryd.underlying9 k1.1 (by kernel_rfl)
  have k2 := mapW_at (o' := .map #[⟨.string ⟨#[61]⟩, .agg #[.int .i64 700, .int .i64 699, .int .i64 699], 0⟩, ⟨.string ⟨#[60]⟩, .agg #[.int .i64 700, .int .i64 699, .int .i64 699], 1⟩] 2) k1.1
  obtain ⟨W2, hW2⟩ : ∃ W, W = mapW W1 w.heap.size (.map #[⟨.string ⟨#[61]⟩, .agg #[.int .i64 700, .int .i64 699, .int .i64 699], 0⟩, ⟨.string ⟨#[60]⟩, .agg #[.int .i64 700, .int .i64 699, .int .i64 699], 1⟩] 2) := ⟨_, rfl⟩
  rw [← hW2] at m1 k2
  have m2 : (Instr.mapUpdate 79 (.map (some w.heap.size)) (.string ⟨#[43]⟩) (.agg #[.int .i64 500, .int .i64 500, .int .i64 499])).run Tryd.prog W2 = .ok () (mapW W2 w.heap.size (.map #[⟨.string ⟨#[61]⟩, .agg #[.int .i64 700, .int .i64 699, .int .i64 699], 0⟩, ⟨.string ⟨#[60]⟩, .agg #[.int .i64 700, .int .i64 699, .int .i64 699], 1⟩, ⟨.string ⟨#[43]⟩, .agg #[.int .i64 500, .int .i64 500, .int .i64 499], 2⟩] 3)) := run_map_put (es := #[⟨.string ⟨#[61]⟩, .agg #[.int .i64 700, .int .i64 699, .int .i64 699], 0⟩, ⟨.string ⟨#[60]⟩, .agg #[.int .i64 700, .int .i64 699, .int .i64 699], 1⟩]) Tryd.underlying79 Tryd.underlying9 k2.1 (by kernel_rfl)
  have k3 := mapW_at (o' := .map #[⟨.string ⟨#[61]⟩, .agg #[.int .i64 700, .int .i64 699, .int .i64 699], 0⟩, ⟨.string ⟨#[60]⟩, .agg #[.int .i64 700, .int .i64 699, .int .i64 699], 1⟩, ⟨.string ⟨#[43]⟩, .agg #[.int .i64 500, .int .i64 500, .int .i64 499], 2⟩] 3) k2.1
  obtain ⟨W3, hW3⟩ : ∃ W, W = mapW W2 w.heap.size (.map #[⟨.string ⟨#[61]⟩, .agg #[.int .i64 700, .int .i64 699, .int .i64 699], 0⟩, ⟨.string ⟨#[60]⟩, .agg #[.int .i64 700, .int .i64 699, .int .i64 699], 1⟩, ⟨.string ⟨#[43]⟩, .agg #[.int .i64 500, .int .i64 500, .int .i64 499], 2⟩] 3) := ⟨_, rfl⟩
  rw [← hW3] at m2 k3
  have m3 : (Instr.mapUpdate 79 (.map (some w.heap.size)) (.string ⟨#[45]⟩) (.agg #[.int .i64 500, .int .i64 500, .int .i64 499])).run Tryd.prog W3 = .ok () (mapW W3 w.heap.size (.map #[⟨.string ⟨#[61]⟩, .agg #[.int .i64 700, .int .i64 699, .int .i64 699], 0⟩, ⟨.string ⟨#[60]⟩, .agg #[.int .i64 700, .int .i64 699, .int .i64 699], 1⟩, ⟨.string ⟨#[43]⟩, .agg #[.int .i64 500, .int .i64 500, .int .i64 499], 2⟩, ⟨.string ⟨#[45]⟩, .agg #[.int .i64 500, .int .i64 500, .int .i64 499], 3⟩] 4)) := run_map_put (es := #[⟨.string ⟨#[61]⟩, .agg #[.int .i64 700, .int .i64 699, .int .i64 699], 0⟩, ⟨.string ⟨#[60]⟩, .agg #[.int .i64 700, .int .i64 699, .int .i64 699], 1⟩, ⟨.string ⟨#[43]⟩, .agg #[.int .i64 500, .int .i64 500, .int .i64 499], 2⟩]) Tryd.underlying79 Tryd.underlying9 k3.1 (by kernel_rfl)
  have k4 := mapW_at (o' := .map #[⟨.string ⟨#[61]⟩, .agg #[.int .i64 700, .int .i64 699, .int .i64 699], 0⟩, ⟨.string ⟨#[60]⟩, .agg #[.int .i64 700, .int .i64 699, .int .i64 699], 1⟩, ⟨.string ⟨#[43]⟩, .agg #[.int .i64 500, .int .i64 500, .int .i64 499], 2⟩, ⟨.string ⟨#[45]⟩, .agg #[.int .i64 500, .int .i64 500, .int .i64 499], 3⟩] 4) k3.1
  obtain ⟨W4, hW4⟩ : ∃ W, W = mapW W3 w.heap.size (.map #[⟨.string ⟨#[61]⟩, .agg #[.int .i64 700, .int .i64 699, .int .i64 699], 0⟩, ⟨.string ⟨#[60]⟩, .agg #[.int .i64 700, .int .i64 699, .int .i64 699], 1⟩, ⟨.string ⟨#[43]⟩, .agg #[.int .i64 500, .int .i64 500, .int .i64 499], 2⟩, ⟨.string ⟨#[45]⟩, .agg #[.int .i64 500, .int .i64 500, .int .i64 499], 3⟩] 4) := ⟨_, rfl⟩
  rw [← hW4] at m3 k4
  have m4 : (Instr.mapUpdate 79 (.map (some w.heap.size)) (.string ⟨#[42]⟩) (.agg #[.int .i64 400, .int .i64 400, .int .i64 399])).run Tryd.prog W4 = .ok () (mapW W4 w.heap.size (.map #[⟨.string ⟨#[61]⟩, .agg #[.int .i64 700, .int .i64 699, .int .i64 699], 0⟩, ⟨.string ⟨#[60]⟩, .agg #[.int .i64 700, .int .i64 699, .int .i64 699], 1⟩, ⟨.string ⟨#[43]⟩, .agg #[.int .i64 500, .int .i64 500, .int .i64 499], 2⟩, ⟨.string ⟨#[45]⟩, .agg #[.int .i64 500, .int .i64 500, .int .i64 499], 3⟩, ⟨.string ⟨#[42]⟩, .agg #[.int .i64 400, .int .i64 400, .int .i64 399], 4⟩] 5)) := run_map_put (es := #[⟨.string ⟨#[61]⟩, .agg #[.int .i64 700, .int .i64 699, .int .i64 699], 0⟩, ⟨.string ⟨#[60]⟩, .agg #[.int .i64 700, .int .i64 699, .int .i64 699], 1⟩, ⟨.string ⟨#[43]⟩, .agg #[.int .i64 500, .int .i64 500, .int .i64 499], 2⟩, ⟨.string ⟨#[45]⟩, .agg #[.int .i64 500, .int .i64 500, .int .i64 499], 3⟩]) Tryd.underlying79 Tryd.underlying9 k4.1 (by kernel_rfl)
  have k5 := mapW_at (o' := .map #[⟨.string ⟨#[61]⟩, .agg #[.int .i64 700, .int .i64 699, .int .i64 699], 0⟩, ⟨.string ⟨#[60]⟩, .agg #[.int .i64 700, .int .i64 699, .int .i64 699], 1⟩, ⟨.string ⟨#[43]⟩, .agg #[.int .i64 500, .int .i64 500, .int .i64 499], 2⟩, ⟨.string ⟨#[45]⟩, .agg #[.int .i64 500, .int .i64 500, .int .i64 499], 3⟩, ⟨.string ⟨#[42]⟩, .agg #[.int .i64 400, .int .i64 400, .int .i64 399], 4⟩] 5) k4.1
  obtain ⟨W5, hW5⟩ : ∃ W, W = mapW W4 w.heap.size (.map #[⟨.string ⟨#[61]⟩, .agg #[.int .i64 700, .int .i64 699, .int .i64 699], 0⟩, ⟨.string ⟨#[60]⟩, .agg #[.int .i64 700, .int .i64 699, .int .i64 699], 1⟩, ⟨.string ⟨#[43]⟩, .agg #[.int .i64 500, .int .i64 500, .int .i64 499], 2⟩, ⟨.string ⟨#[45]⟩, .agg #[.int .i64 500, .int .i64 500, .int .i64 499], 3⟩, ⟨.string ⟨#[42]⟩, .agg #[.int .i64 400, .int .i64 400, .int .i64 399], 4⟩] 5) := ⟨_, rfl⟩
  rw [← hW5] at m4 k5
  have hmm2 : (Instr.makeMap 79 none).run Tryd.prog w = .ok (.map (some w.heap.size)) W0 := by rw [hW0]; exact hmm _ _
  have hB := Aside0.mk (((((k0.2.trans k1.2).trans k2.2).trans k3.2).trans k4.2).trans k5.2)
  have hT := Aside0.mk k5.1
  clear k0 k1 k2 k3 k4 k5 hW0 hW1 hW2 hW3 hW4 hW5 hmm
  go_enter Tryd.func36, Tryd.ntmps36
  go_wp2_with fail
  go_ret
  exact ⟨_, rfl, hT.out, hB.out⟩

/-- What the table tells of letters. -/
def opV (t : List UInt8) : Value := match opR t with | some o => .agg #[.int .i64 o.1, .int .i64 o.2.1, .int .i64 o.2.2] | none => .agg #[.int .i64 0, .int .i64 0, .int .i64 0]
theorem same_str (t : List UInt8) (c : UInt8) : Instr.sameNow .string (.string (baS t)) (.string ⟨#[c]⟩) = some (t == [c]) := by
  show some (baS t == ⟨#[c]⟩) = _
  congr 1
  rw [Bool.eq_iff_iff, MapKept.bytes_beq, beq_iff_eq]
  exact ⟨fun h => by simpa [baS] using congrArg (fun b => b.data.toList) h, fun h => by rw [h]; rfl⟩
theorem find_op (t : List UInt8) : ∃ i, Instr.findNow .string (.string (baS t)) opTab.toList 0 = some ((opR t).map fun o => (i, .agg #[.int .i64 o.1, .int .i64 o.2.1, .int .i64 o.2.2])) := by
  unfold opTab
  simp only [Instr.findNow, same_str]
  unfold opR
  by_cases c0 : t = [61]
  · subst c0
    exact ⟨0, rfl⟩
  rw [show (t == [61]) = false by simpa using c0]
  by_cases c1 : t = [60]
  · subst c1
    exact ⟨1, rfl⟩
  rw [show (t == [60]) = false by simpa using c1]
  by_cases c2 : t = [43]
  · subst c2
    exact ⟨2, rfl⟩
  rw [show (t == [43]) = false by simpa using c2]
  by_cases c3 : t = [45]
  · subst c3
    exact ⟨3, rfl⟩
  rw [show (t == [45]) = false by simpa using c3]
  by_cases c4 : t = [42]
  · subst c4
    exact ⟨4, rfl⟩
  rw [show (t == [42]) = false by simpa using c4]
  rw [if_neg (by simp [c0, c1]), if_neg (by simp [c2, c3]), if_neg c4]
  exact ⟨0, rfl⟩
theorem run_op {W : World} {r : Nat} (hb : W.heap[r]? = some (.map opTab 5)) (t : List UInt8) (ok : Bool) :
    (Instr.lookup 79 (.map (some r)) (.string (baS t)) ok).run Tryd.prog W = .ok (if ok then .tuple #[opV t, .bool (opR t).isSome] else opV t) W := by
  obtain ⟨i, hf⟩ := find_op t
  have hc : (Instr.checkKey opTab.isEmpty 10000 9 (.string (baS t))).run Tryd.prog W = .ok () W := MapKept.run_checkKey (k := .string (baS t)) Tryd.underlying9 (by simp [MapKept.IsKey]) _ 9999
  have hz : (zeroValue 78).run Tryd.prog W = .ok (.agg #[.int .i64 0, .int .i64 0, .int .i64 0]) W := by kernel_rfl
  have hk := MapKept.run_findKey (w := W) Tryd.underlying9 hf
  unfold opV
  cases ho : opR t with
  | none =>
    rw [ho] at hk
    cases ok <;> simp [Instr.lookup, run_underlying Tryd.underlying79, MapKept.run_getObj_map hb, hc, hk, hz, Result.andThen]
  | some o =>
    rw [ho] at hk
    cases ok <;> simp [Instr.lookup, run_underlying Tryd.underlying79, MapKept.run_getObj_map hb, hc, hk, hz, Result.andThen]
end Go.Proofs.YthdccdbiichabaaDoor.P
/- term.Right: its contract, where all names are as they may be. No other condition. -/
namespace Go.Proofs.YthdccdbiichabaaDoor.P
open Go.RowKit Go.Proofs.YthdccdbiichabaaDoorW.PrintWords Go.Proofs.YthdccdbiichabaaDoorW.PrintLast Go.Proofs.YthdccdbiichabaaDoorW.PrintMore
set_option linter.unusedVariables false
set_option linter.unusedSimpArgs false

theorem t_odd (r : Int) (h1 : 32 ≤ r) (h2 : r ≤ 126) (h3 : r ≠ 39) (w : World) : Calls Tryd.prog 72 #[.int .i32 r] w fun en w' => en = .returned (.bool false) ∧ w' = w := by
  have b1 : decide (r < 32) = false := decide_eq_false (by omega)
  have b2 : decide (126 < r) = false := decide_eq_false (by omega)
  have b3 : (r == 39) = false := by simpa using h3
  go_enter Tryd.func72, Tryd.ntmps72
  go_wp2
  go_ret
  exact ⟨rfl, rfl⟩

theorem Array.push_append_toArray_cons {α : Type} (acc : Array α) (x : α) (l : List α) : acc.push x ++ l.toArray = acc ++ (x :: l).toArray := by
  apply Array.toList_inj.1
  simp
theorem runes_from (l : List UInt8) (hl : ∀ c ∈ l, c.toNat < 128) (k : Nat) : ∀ i acc, l.length ≤ i + k → Conv.runesFrom (baS l) k i acc = acc ++ ((l.drop i).map fun c => (Value.int .i32 (c.toNat : Int))).toArray := by
  induction k with
  | zero =>
    intro i acc h
    rw [Conv.runesFrom, List.drop_eq_nil_of_le (by omega)]
    simp
  | succ k ih =>
    intro i acc h
    rw [Conv.runesFrom]
    have hsz : (baS l).size = l.length := by simp [baS, ByteArray.size]
    by_cases hi : i < l.length
    · rw [if_pos (by rw [hsz]; exact hi)]
      have hg : (baS l)[i]'(by rw [hsz]; exact hi) = l[i] := by simp [baS]; rfl
      have hd := decode_ascii (baS l) i (by rw [hsz]; exact hi) (by rw [hg]; exact hl _ (List.getElem_mem _))
      rw [hd, hg]
      simp only
      rw [ih (i + 1) _ (by omega), List.drop_eq_getElem_cons hi, List.map_cons, Array.push_append_toArray_cons]
      rfl
    · rw [if_neg (by rw [hsz]; exact hi), List.drop_eq_nil_of_le (by omega)]
      simp

/-- No rune of a name is odd: the library's search tells none. -/
theorem t_index (l : List UInt8) (hl : Aside0 (∀ c ∈ l, 32 ≤ c.toNat ∧ c.toNat ≤ 126 ∧ c.toNat ≠ 39)) (hlen : l.length ≤ 12) (ad : Addr) (c : Nat) (w : World)
    (hc : Aside0 (∀ j (h : j < l.length), w.cell? (ad.add j) = some (.int .i32 (l[j].toNat : Int)))) :
    Calls Tryd.prog 81 #[.slice (some ad) l.length c, .func (.func 72) #[] #[]] w fun en w' => en = .returned (.int .i64 (-1)) ∧ w' = w := by
  go_enter Tryd.func81, Tryd.ntmps81
  go_wp2_with fail
  go_loopg [8, 5] (l.length + 1) (fun gk v8 v5 wr => ∃ i : Nat, v8 = .int .i64 i ∧ i + gk = l.length + 1 ∧ i ≤ l.length ∧ wr = w)
  case atStart => exact ⟨0, rfl, by omega, by omega, rfl⟩
  case round =>
    obtain ⟨i, rfl, hig, hil, rfl⟩ := hrel
    cases gk with
    | zero => omega
    | succ gk =>
    by_cases hlt : i < l.length
    · have hltI : decide ((i : Int) < (l.length : Int)) = true := decide_eq_true (by omega)
      have hx := hc.out i hlt
      obtain ⟨r, hr⟩ : ∃ r : Int, r = (l[i].toNat : Int) := ⟨_, rfl⟩
      rw [← hr] at hx
      have hh := hl.out l[i] (List.getElem_mem _)
      have HC : Hid (∀ W, Calls Tryd.prog 72 #[.int .i32 r] W fun en w' => en = .returned (.bool false) ∧ w' = W) := Lib.hid (t_odd r (by omega) (by omega) (by omega))
      clear hh hr
      go_wp2_with (go_at_call 72; refine (HC.out _).mono ?_; rintro en w1 ⟨rfl, rfl⟩)
      go_roundg gk
      case measure => omega
      case rel => exact ⟨i + 1, by first | rfl | simp, by omega, by omega, rfl⟩
    · have hltI : decide ((i : Int) < (l.length : Int)) = false := decide_eq_false (by omega)
      go_wp2_with fail
      go_ret
      exact ⟨rfl, rfl⟩

theorem t_contains (l : List UInt8) (hl : Aside0 (∀ c ∈ l, 32 ≤ c.toNat ∧ c.toNat ≤ 126 ∧ c.toNat ≠ 39)) (hlen : l.length ≤ 12) (ad : Addr) (c : Nat) (w : World)
    (hc : Aside0 (∀ j (h : j < l.length), w.cell? (ad.add j) = some (.int .i32 (l[j].toNat : Int)))) :
    Calls Tryd.prog 73 #[.slice (some ad) l.length c, .func (.func 72) #[] #[]] w fun en w' => en = .returned (.bool false) ∧ w' = w := by
  go_enter Tryd.func73, Tryd.ntmps73
  go_wp2_with (go_at_call 81; refine (t_index l hl hlen ad c w hc).mono ?_; rintro en w1 ⟨rfl, rfl⟩)
  go_ret
  exact ⟨rfl, rfl⟩

def celV (c : Cel) : Value := .agg #[.int .i64 c.kind, .string (baS c.name), .int .i64 c.n]

def celW (c : Cel) : Prop := (c.kind = 1 ∨ c.kind = 2) ∧ c.name = [] ∨ c.kind = 3 ∧ nameOK c.name = true

theorem t_in (a b c : Int) (w : World) : Calls Tryd.prog 48 #[.int .i64 a, .int .i64 b, .int .i64 c] w fun en w' => en = .returned (.bool (decide (b ≤ a) && decide (a ≤ c))) ∧ ∃ m, w' = w.drewN m :=
  (term_in.calls a b c (decide (b ≤ a) && decide (a ≤ c)) w (by
    unfold term_in.f
    by_cases h : a ≥ b
    · rw [if_pos h, decide_eq_true (show b ≤ a from h), Bool.true_and]
    · rw [if_neg h, decide_eq_false (show ¬ b ≤ a from h), Bool.false_and])).mono fun en w' ⟨he, hd⟩ => ⟨he, hd.out⟩

theorem heap_new (W : World) (o : Obj) (n : Nat) (h : n = W.heap.size) : (W.alloc o).heap[n]? = some o := by rw [h]; exact (MapKept.heap_alloc W o).1

theorem t_right (c : Cel) (hc : celW c) (w : World) :
    Calls Tryd.prog 64 #[celV c] w fun en w' => en = .returned (.bool (celOK c)) ∧ Below w.heap.size w w' := by
  obtain ⟨kd, nm, n⟩ := c
  unfold celV
  rcases hc with ⟨hk, hn⟩ | ⟨hk, hn⟩
  · simp only at hn
    subst hn
    have h1 : (baS []).toList = [] := baS_toList []
    rcases hk with hk | hk
    · simp only at hk
      subst hk
      have HO : Hid (celOK ⟨1, [], n⟩ = (decide (0 ≤ n) && decide (n ≤ 999))) := Lib.hid (by simp [celOK])
      go_enter Tryd.func64, Tryd.ntmps64
      go_wp2_with (go_at_call 48; refine (t_in _ _ _ _).mono ?_; rintro en w1 ⟨rfl, m, rfl⟩)
      all_goals go_ret
      all_goals rw [HO.out]
      all_goals exact ⟨by first | rfl | simp_all, by repeat (first | exact Below.refl _ _ | apply below_alloc | apply pw_below_drewN | apply below_drew1)⟩
    · simp only at hk
      subst hk
      have HO : Hid (celOK ⟨2, [], n⟩ = (decide (-2147483647 ≤ n) && decide (n ≤ 2147483647))) := Lib.hid (by simp [celOK])
      go_enter Tryd.func64, Tryd.ntmps64
      go_wp2_with (go_at_call 48; refine (t_in _ _ _ _).mono ?_; rintro en w1 ⟨rfl, m, rfl⟩)
      all_goals go_ret
      all_goals rw [HO.out]
      all_goals exact ⟨by first | rfl | simp_all, by repeat (first | exact Below.refl _ _ | apply below_alloc | apply pw_below_drewN | apply below_drew1)⟩
  · simp only at hk hn
    subst hk
    have hnn := hn
    simp only [nameOK, Bool.and_eq_true, decide_eq_true_eq, List.all_eq_true, bne_iff_ne, ne_eq] at hn
    obtain ⟨⟨hall, hl1⟩, hl2⟩ := hn
    have HA : Aside0 (∀ c ∈ nm, 32 ≤ c.toNat ∧ c.toNat ≤ 126 ∧ c.toNat ≠ 39) := ⟨fun c hc => by
      obtain ⟨⟨h1, h2⟩, h3⟩ := hall c hc
      refine ⟨by simpa [UInt8.le_iff_toNat_le] using h1, by simpa [UInt8.le_iff_toNat_le] using h2, fun h => h3 ?_⟩
      exact UInt8.toNat_inj.1 (by rw [h]; rfl)⟩
    have hsz : (baS nm).size = nm.length := by simp [baS, ByteArray.size]
    have hrs : Conv.runesFrom (baS nm) (baS nm).size 0 #[] = (nm.map fun c => (Value.int .i32 (c.toNat : Int))).toArray := by
      rw [runes_from nm (fun c hc => by have := HA.out c hc; omega) _ 0 #[] (by rw [hsz]; omega)]
      simp
    have HRS : Hid (Conv.runesFrom (baS nm) nm.length 0 #[] = (nm.map fun c => (Value.int .i32 (c.toNat : Int))).toArray) := Lib.hid (by rw [← hsz]; exact hrs)
    have hrz : (Conv.runesFrom (baS nm) (baS nm).size 0 #[]).size = nm.length := by rw [hrs]; simp
    have hconv := fun W => run_runes_of_string (P := Tryd.prog) W 9 119 21 (baS nm) Tryd.underlying9 Tryd.underlying119 Tryd.underlying21 (by rw [hrz]; omega)
    simp only [hrz] at hconv
    have HO : Hid (celOK ⟨3, nm, n⟩ = (decide (0 ≤ n) && decide (n ≤ 6))) := Lib.hid (by simp [celOK, hnn])
    have h12 : decide (1 ≤ (nm.length : Int)) = true := decide_eq_true (by omega)
    have h12b : decide ((nm.length : Int) ≤ 12) = true := decide_eq_true (by omega)
    have hsI : ((baS nm).size : Int) = (nm.length : Int) := by rw [hsz]
    clear hall hnn
    go_enter Tryd.func64, Tryd.ntmps64
    go_wp2_with (first | (go_at_call 48; refine (t_in _ _ _ _).mono ?_; rintro en w1 ⟨rfl, m, rfl⟩) | (go_at_call 73; refine (t_contains nm HA hl2 _ _ _ ⟨fun j hj => ?cell⟩).mono ?_; (case cell => rw [add_plain, blk_cell (heap_new _ _ _ (by simp)), HRS.out]; simp [hj, Array.getElem?_append_left]); rintro en w1 ⟨rfl, rfl⟩))
    all_goals go_ret
    all_goals rw [HO.out]
    all_goals exact ⟨by first | rfl | (simp_all; done), by repeat (first | exact Below.refl _ _ | apply below_alloc | apply pw_below_drewN | apply below_drew1)⟩

theorem wrap_in {x : Int} (h1 : -9223372036854775808 ≤ x) (h2 : x ≤ 9223372036854775807) : wrap64 x = x := by unfold wrap64; omega

/-- What the search for a term's end keeps in memory. -/
structure VisAt (t : List Cel) (tb vb : Addr) (W : World) : Prop where
  row : ∃ A c, W.cell? tb = some (.slice A t.length c) ∧ t.length ≤ c ∧ Kd.C k41 W A t.length (t.map celS)
  fn : W.cell? vb = some (.func (.func 63) #[] #[.pointer (some tb), .pointer (some vb)])
theorem VisAt.below {t : List Cel} {tb vb : Addr} {W W1 : World} (h : VisAt t tb vb W) (hb : Below W.heap.size W W1) : VisAt t tb vb W1 := by
  obtain ⟨⟨A, c, h1, h2, h3⟩, h4⟩ := h
  exact ⟨⟨A, c, pw_cell_below hb h1, h2, Kd.C_below h3 hb⟩, pw_cell_below hb h4⟩

set_option maxHeartbeats 4000000 in
theorem t_visit (t : List Cel) (ht : Aside0 (∀ c ∈ t, celW c)) (hlen : t.length ≤ 1000000) (tb vb : Addr) (k : Nat) : ∀ (a : Nat) (W : World), t.length < a + k → Aside0 (VisAt t tb vb W) →
    Calls Tryd.prog 63 #[.int .i64 a, .pointer (some tb), .pointer (some vb)] W fun en w' => en = .returned (.int .i64 (endI t a : Nat)) ∧ Below W.heap.size W w' := by
  induction k with
  | zero =>
    intro a W hk hV
    have HE : Hid (endI t a = 0) := Lib.hid (endI_none (endR_bad (fun h => absurd h (by omega))))
    obtain ⟨⟨A, c, h1, h2, h3⟩, h4⟩ := hV.out
    have hge : decide ((t.length : Int) ≤ (a : Int)) = true := decide_eq_true (by omega)
    have hge2 : decide ((a : Int) ≥ (t.length : Int)) = true := decide_eq_true (by omega)
    clear h3 h4
    go_enter Tryd.func63, Tryd.ntmps63
    go_wp2_with fail
    go_ret
    rw [HE.out]
    exact ⟨rfl, Below.refl _ _⟩
  | succ k ih =>
    intro a W hk hV
    obtain ⟨⟨A, c, h1, h2, h3⟩, h4⟩ := hV.out
    by_cases hlt : a < t.length
    · obtain ⟨ad, e1, hx0, hx1, hx2⟩ := at_T41 h3 (a : Int) (by omega) (by omega)
      obtain ⟨y, hy⟩ : ∃ y, y = t[a] := ⟨_, rfl⟩
      have hrd : rd_T41 (t.map celS) (a : Int) = celS y := by
        unfold rd_T41
        rw [Int.toNat_natCast, List.getD_eq_getElem?_getD, List.getElem?_eq_getElem (by rw [List.length_map]; exact hlt), List.getElem_map, hy]
        rfl
      rw [hrd] at hx0 hx1 hx2
      simp only [celS, Int.toNat_natCast] at hx0 hx1 hx2
      have hyW : celW y := ht.out y (hy ▸ List.getElem_mem _)
      have HC : Hid (∀ W, Calls Tryd.prog 64 #[.agg #[.int .i64 y.kind, .string ⟨y.name.toArray⟩, .int .i64 y.n]] W fun en w' => en = .returned (.bool (celOK y)) ∧ Below W.heap.size W w') := Lib.hid (t_right y hyW)
      have hge : decide ((t.length : Int) ≤ (a : Int)) = false := decide_eq_false (by omega)
      have hge2 : decide ((a : Int) ≥ (t.length : Int)) = false := decide_eq_false (by omega)
      have hltI : (a : Int) < (t.length : Int) := by omega
      have hgeN : decide (t.length ≤ a) = false := decide_eq_false (by omega)
      subst e1
      cases hok : celOK y with
      | false =>
        have HE : Hid (endI t a = 0) := Lib.hid (endI_none (endR_bad (fun h => by rw [← hy]; exact hok)))
        rw [hok] at HC
        clear h3 h4 hrd hok hy hyW
        go_enter Tryd.func63, Tryd.ntmps63
        go_wp2_with (go_at_call 64; refine (HC.out _).mono ?_; rintro en w1 ⟨rfl, hb⟩)
        go_ret
        rw [HE.out]
        exact ⟨rfl, hb⟩
      | true =>
        rw [hok] at HC
        have hstep := endR_at hlt (by rw [← hy]; exact hok)
        rw [← hy] at hstep
        by_cases hk3 : y.kind = 3
        · have b3 : (y.kind != 3) = false := by rw [hk3]; rfl
          have hn0 : 0 ≤ y.n := by
            unfold celOK at hok
            rw [if_neg (by rw [hk3]; decide), if_neg (by rw [hk3]; decide), if_pos hk3] at hok
            simp only [Bool.and_eq_true, decide_eq_true_eq] at hok
            exact hok.1.2
          obtain ⟨N, hN⟩ : ∃ N : Nat, y.n = N := ⟨y.n.toNat, by omega⟩
          rw [if_pos hk3, hN, Int.toNat_natCast] at hstep
          rw [hN] at hx2 HC
          rw [hk3] at hx0 HC
          have HS := Lib.hid hstep
          have hwrap : wrap64 ((a : Int) + 1) = (a : Int) + 1 := wrap_in (by omega) (by omega)
          have hN7 : N ≤ 6 := by
            unfold celOK at hok
            rw [if_neg (by rw [hk3]; decide), if_neg (by rw [hk3]; decide), if_pos hk3] at hok
            simp only [Bool.and_eq_true, decide_eq_true_eq] at hok
            omega
          clear h3 h4 hrd hok hy hyW hstep hn0
          go_enter Tryd.func63, Tryd.ntmps63
          go_wp2_with (go_at_call 64; refine (HC.out _).mono ?_; rintro en w1 ⟨rfl, hb⟩; have q1 := pw_cell_below hb h1; have q0 := pw_cell_below hb hx0; have q2 := pw_cell_below hb hx2)
          have HB := Aside0.mk hb
          clear hb q0 q2 hx0 hx1 hx2 hwrap q1
          go_loopg [32, 5] (N + 1) (fun gk v32 v5 wr => ∃ (i nx : Nat), v32 = .int .i64 i ∧ v5 = .int .i64 nx ∧ i + gk = N + 1 ∧ i ≤ N ∧ a + 1 ≤ nx ∧ nx ≤ t.length ∧ Aside0 (endR i (t.drop (a + 1)) = some (t.drop nx)) ∧ Aside0 (Below W.heap.size W wr))
          case atStart => exact ⟨0, a + 1, rfl, by first | rfl | (simp; done), by omega, by omega, by omega, by omega, ⟨endR_zero _⟩, HB⟩
          case round =>
            obtain ⟨i, nx, rfl, rfl, hig, hiN, hnx, hnl, HD, HB2⟩ := hrel
            clear HB
            cases gk with
            | zero => omega
            | succ gk =>
            by_cases hi : i < N
            · have hiI : decide ((i : Int) < (N : Int)) = true := decide_eq_true (by omega)
              have q4 := pw_cell_below HB2.out hV.out.fn
              have HV2 := Aside0.mk (hV.out.below HB2.out)
              have hadd : endR (i + 1) (t.drop (a + 1)) = endR 1 (t.drop nx) := by rw [endR_add, HD.out]; rfl
              cases he : endR 1 (t.drop nx) with
              | none =>
                have HE : Hid (endI t a = 0) := Lib.hid (endI_none (by rw [HS.out, show N = (i + 1) + (N - (i + 1)) by omega, endR_add, hadd, he]; rfl))
                have HE2 : Hid (endI t nx = 0) := Lib.hid (endI_none he)
                clear he hadd
                go_wp2_with (go_at_call 63; refine (ih nx _ (by omega) HV2).mono ?_; rw [HE2.out]; rintro en w2 ⟨rfl, hb2⟩)
                go_ret
                rw [HE.out]
                exact ⟨rfl, below_step HB2.out hb2⟩
              | some r =>
                obtain ⟨m, hr, hm1, hm2⟩ := endR_drop _ _ _ he
                rw [List.drop_drop] at hr
                rw [List.length_drop] at hm1
                have HE2 : Hid (endI t nx = nx + m) := Lib.hid (endI_some (by rw [he, hr]) (by omega))
                have HD2 : Aside0 (endR (i + 1) (t.drop (a + 1)) = some (t.drop (nx + m))) := ⟨by rw [hadd, he, hr]⟩
                have hne : (((nx + m : Nat) : Int) == 0) = false := by simp; omega
                clear he hadd hr
                go_wp2_with (go_at_call 63; refine (ih nx _ (by omega) HV2).mono ?_; rw [HE2.out]; rintro en w2 ⟨rfl, hb2⟩)
                go_roundg gk
                case measure => omega
                case rel => exact ⟨i + 1, nx + m, by first | rfl | simp, by first | rfl | simp, by omega, by omega, by omega, by omega, HD2, ⟨below_step HB2.out hb2⟩⟩
            · have hiI : decide ((i : Int) < (N : Int)) = false := decide_eq_false (by omega)
              have HE : Hid (endI t a = nx) := Lib.hid (endI_some (by rw [HS.out, show N = i by omega]; exact HD.out) hnl)
              go_wp2_with fail
              go_ret
              rw [HE.out]
              exact ⟨rfl, HB2.out⟩
        · have b3 : (y.kind != 3) = true := by simpa using hk3
          rw [if_neg hk3, endR_zero] at hstep
          have HE : Hid (endI t a = a + 1) := Lib.hid (endI_some hstep (by omega))
          have hwrap : wrap64 ((a : Int) + 1) = (a : Int) + 1 := wrap_in (by omega) (by omega)
          clear h3 h4 hrd hok hy hyW hstep
          go_enter Tryd.func63, Tryd.ntmps63
          go_wp2_with (go_at_call 64; refine (HC.out _).mono ?_; rintro en w1 ⟨rfl, hb⟩; have q1 := pw_cell_below hb h1; have q0 := pw_cell_below hb hx0)
          go_ret
          rw [HE.out]
          exact ⟨by first | rfl | (simp; done), hb⟩
    · have HE : Hid (endI t a = 0) := Lib.hid (endI_none (endR_bad (fun h => absurd h (by omega))))
      have hge : decide ((t.length : Int) ≤ (a : Int)) = true := decide_eq_true (by omega)
      have hge2 : decide ((a : Int) ≥ (t.length : Int)) = true := decide_eq_true (by omega)
      clear h3 h4
      go_enter Tryd.func63, Tryd.ntmps63
      go_wp2_with fail
      go_ret
      rw [HE.out]
      exact ⟨rfl, Below.refl _ _⟩

theorem t_end (t : List Cel) (ht : Aside0 (∀ c ∈ t, celW c)) (hlen : t.length ≤ 1000000) (A : Option Addr) (c : Nat) (hc : Aside0 (t.length ≤ c)) (W : World) (hC : Aside0 (Kd.C k41 W A t.length (t.map celS))) :
    Calls Tryd.prog 49 #[.slice A t.length c, .int .i64 0] W fun en w' => en = .returned (.int .i64 (endI t 0 : Nat)) ∧ Below W.heap.size W w' := by
  have hmf : ∀ (fn : Fn) (first cap : Array Value) (w : World), (Instr.makeFunc fn first cap).run Tryd.prog w = .ok (.func fn first cap) w := fun _ _ _ _ => rfl
  go_enter Tryd.func49, Tryd.ntmps49
  go_wp2_with (go_at_call 63; refine (t_visit t ht hlen ⟨W.heap.size, 0, none⟩ ⟨W.heap.size + 1, 0, none⟩ (t.length + 1) 0 _ (by omega) ⟨⟨⟨A, c, ?c1, hc.out, Kd.C_below hC.out ?c2⟩, ?c3⟩⟩).mono ?_; (case c1 => (simp [go_sem]; done)); (case c3 => (simp [go_sem]; done)); (case c2 => (repeat (first | exact Below.refl _ _ | apply below_alloc))); rintro en w1 ⟨rfl, hb⟩; replace hb := below_then (B := W.heap.size) (w := W) (by repeat (first | exact Below.refl _ _ | apply below_alloc)) (by simp; omega) hb)
  go_ret
  exact ⟨rfl, hb⟩

theorem t_Right (t : List Cel) (ht : Aside0 (∀ c ∈ t, celW c)) (hlen : t.length ≤ 1000000) (A : Option Addr) (c : Nat) (hc : Aside0 (t.length ≤ c)) (W : World) (hC : Aside0 (Kd.C k41 W A t.length (t.map celS))) :
    Calls Tryd.prog 39 #[.slice A t.length c] W fun en w' => en = .returned (.bool (rightR t)) ∧ Below W.heap.size W w' := by
  by_cases h1 : 1 ≤ t.length ∧ t.length ≤ 200
  · have b1 : decide (1 ≤ (t.length : Int)) = true := decide_eq_true (by omega)
    have b2 : decide ((t.length : Int) ≤ 200) = true := decide_eq_true (by omega)
    have b3 : decide (1 ≤ t.length) = true := decide_eq_true h1.1
    have b4 : decide (t.length ≤ 200) = true := decide_eq_true h1.2
    have HR : Hid (rightR t = ((endI t 0 : Int) == (t.length : Int))) := Lib.hid (by
      unfold rightR
      rw [b3, b4, Bool.true_and, Bool.true_and, Bool.eq_iff_iff, beq_iff_eq, beq_iff_eq]
      cases he : endR 1 t with
      | none =>
        rw [endI_none (a := 0) he]
        constructor
        · intro h; cases h
        · intro h; omega
      | some r =>
        obtain ⟨m, hr, hm1, hm2⟩ := endR_drop _ _ _ he
        rw [endI_some (a := 0) (m := m) (by rw [List.drop_zero, he, hr]) hm1, hr]
        constructor
        · intro h
          injection h with h
          have := congrArg List.length h
          rw [List.length_drop, List.length_nil] at this
          omega
        · intro h
          rw [List.drop_eq_nil_of_le (by omega)])
    obtain ⟨E, hE⟩ : ∃ E : Int, E = (endI t 0 : Nat) := ⟨_, rfl⟩
    have HE := Lib.hid hE
    rw [← hE] at HR
    clear hE
    go_enter Tryd.func39, Tryd.ntmps39
    go_wp2_with (first | (go_at_call 48; refine (t_in _ _ _ _).mono ?_; rintro en w1 ⟨rfl, m, rfl⟩) | (go_at_call 49; refine (t_end t ht hlen A c hc _ ⟨Kd.C_below hC.out (pw_below_drewN (Below.refl _ _) _)⟩).mono ?_; rw [← HE.out]; rintro en w2 ⟨rfl, hb⟩))
    go_ret
    rw [HR.out]
    exact ⟨rfl, below_step (pw_below_drewN (Below.refl _ _) _) hb⟩
  · have HR : Hid (rightR t = false) := Lib.hid (by
      unfold rightR
      rcases Nat.lt_or_ge t.length 1 with h | h
      · rw [decide_eq_false (by omega : ¬ 1 ≤ t.length)]; rfl
      · rw [decide_eq_false (by omega : ¬ t.length ≤ 200), Bool.and_false]; rfl)
    have b1 : (decide (1 ≤ (t.length : Int)) && decide ((t.length : Int) ≤ 200)) = false := by
      rw [Bool.and_eq_false_iff, decide_eq_false_iff_not, decide_eq_false_iff_not]; omega
    go_enter Tryd.func39, Tryd.ntmps39
    go_wp2_with (first | (go_at_call 48; refine (t_in _ _ _ _).mono ?_; rw [b1]; rintro en w1 ⟨rfl, m, rfl⟩))
    go_ret
    rw [HR.out]
    exact ⟨rfl, pw_below_drewN (Below.refl _ _) _⟩
end Go.Proofs.YthdccdbiichabaaDoor.P
/- What the walks of package read's terms share: rows of cells in memory, compound, bounds. No condition. -/
namespace Go.Proofs.YthdccdbiichabaaDoor.P
open Go.RowKit Go.Proofs.YthdccdbiichabaaDoorW.PrintWords Go.Proofs.YthdccdbiichabaaDoorW.PrintLast Go.Proofs.YthdccdbiichabaaDoorW.PrintMore
set_option linter.unusedVariables false
set_option linter.unusedSimpArgs false

def CelAt (B : Nat) (w : World) (x : List Cel) (v : Value) : Prop := Kd.R k41 41 w B (fun _ => True) v (x.map celS)
def RowAt (B : Nat) (w : World) (l : List (List Cel)) (v : Value) : Prop := Kd.R (Kd.slice 41 k41) 24 w B (fun _ => True) v (l.map (List.map celS))
section
variable {b b' B g : Nat} {e : Int} {s s' : RS} {w w1 W0 W w' : World} {x : List Cel} {l : List (List Cel)} {v : Value}
theorem CelAt.fr (h : CelAt b w x v) (hf : Fr 69 B w w1) : CelAt b w1 x v := R_fr h hf (by simp [k41, Kd.iso, Kd.pair, Kd.int, Kd.string, Kd.scalar])
theorem RowAt.fr (h : RowAt b w l v) (hf : Fr 69 B w w1) : RowAt b w1 l v := R_fr h hf (by simp [Kd.slice, k41, Kd.iso, Kd.pair, Kd.int, Kd.string, Kd.scalar])
theorem CelAt.below (h : CelAt b w x v) (hb : Below w.heap.size w w1) : CelAt b w1 x v := Kd.R_below h hb
theorem RowAt.below (h : RowAt b w l v) (hb : Below w.heap.size w w1) : RowAt b w1 l v := Kd.R_below h hb
theorem CelAt.low (h : CelAt b w x v) (hb : b' ≤ b) : CelAt b' w x v := Kd.R_lower h hb
theorem RowAt.low (h : RowAt b w l v) (hb : b' ≤ b) : RowAt b' w l v := Kd.R_lower h hb
theorem RdTo.step (h : RdTo B g e s w W0) (hb : Below W0.heap.size W0 W) (k : RdTo B g e s' W w') : RdTo B g e s' w w' := ⟨k.st, (h.below hb).fr.trans k.fr⟩
theorem CelAt.step (h : CelAt b W0 x v) (hb : Below W0.heap.size W0 W) (k : Fr 69 B W w') : CelAt b w' x v := (h.below hb).fr k
theorem RowAt.step (h : RowAt b W0 l v) (hb : Below W0.heap.size W0 W) (k : Fr 69 B W w') : RowAt b w' l v := (h.below hb).fr k
/-- A row of rows, made by the call, has grown. -/
theorem RdTo.rowed (h : RdTo B g e s w W0) (hb : Below W0.heap.size W0 W) (hl : RowAt w.heap.size W0 l v) (hg : W.grownBy w' v.ownBlock) : RdTo B g e s w w' := by
  have h1 := h.below hb
  obtain ⟨inner, ho⟩ := Kd.R_own (hl.below hb)
  exact ⟨h1.st.grown hg (fun k hk => by obtain ⟨cells, hc⟩ := own_typed ho k hk; exact ⟨cells, _, hc, by decide⟩), h1.fr.grownNew hg (fun k hk => own_base ho k hk)⟩
end

theorem compound_l (l : List (List Cel)) (hl : l.length ≤ 1000000) (d : Nat) : ∀ (i : Nat) (x : List Cel), l.length ≤ i + d → i ≤ l.length → x.length + (l.drop i).flatten.length ≤ 2000000 →
    read_compound.l0 (d + 1) (x.map celS) (l.map (List.map celS)) ((l.length : Nat) : Int) (i : Int) = some ((x ++ (l.drop i).flatten).map celS) := by
  induction d with
  | zero =>
    intro i x h1 h2 hx
    rw [read_compound.l0, if_neg (by omega), List.drop_eq_nil_of_le (by omega)]
    simp
  | succ d ih =>
    intro i x h1 h2 hx
    rw [read_compound.l0]
    by_cases hi : i < l.length
    · have hr : rd_L6 (l.map (List.map celS)) (i : Int) = l[i].map celS := by
        unfold rd_L6
        rw [Int.toNat_natCast, List.getD_eq_getElem?_getD, List.getElem?_eq_getElem (by rw [List.length_map]; exact hi), List.getElem_map]
        rfl
      rw [List.drop_eq_getElem_cons hi, List.flatten_cons, List.length_append] at hx
      rw [if_pos (by omega), if_pos (by omega), if_pos (by rw [List.length_map]; omega), hr, if_pos (by rw [List.length_map, List.length_map]; omega), wrap_in (by omega) (by omega), ← List.map_append]
      rw [show ((i : Int) + 1) = ((i + 1 : Nat) : Int) by omega, ih (i + 1) _ (by omega) (by omega) (by rw [List.length_append]; omega), List.drop_eq_getElem_cons hi, List.flatten_cons, List.append_assoc]
    · rw [if_neg (by omega), List.drop_eq_nil_of_le (by omega)]
      simp
theorem compound_f (nm : List UInt8) (l : List (List Cel)) (hl : l.flatten.length + l.length ≤ 1000000) : read_compound.f (l.length + 1) (baS nm) (l.map (List.map celS)) = some ((funR nm l).map celS) := by
  unfold read_compound.f
  have h := compound_l l (by omega) l.length 0 [⟨3, nm, l.length⟩] (by omega) (by omega) (by rw [List.drop_zero, List.length_singleton]; omega)
  rw [List.drop_zero] at h
  rw [List.length_map]
  exact h
theorem rd_compound (nm : List UInt8) (l : List (List Cel)) (hl : l.flatten.length + l.length ≤ 1000000) {A : Option Addr} {c n : Nat} (hn : n = l.length) {w : World} (hc : l.length ≤ c)
    (hC : Kd.C (Kd.slice 41 k41) w A l.length (l.map (List.map celS))) {B : Nat} (hB : B ≤ w.heap.size) :
    Calls Tryd.prog 47 #[.string (baS nm), .slice A n c] w fun en w' => ∃ v, en = .returned v ∧ CelAt B w' (funR nm l) v ∧ Below w.heap.size w w' := by
  subst hn
  have h := read_compound.calls (l.length + 1) (baS nm) A c (l.map (List.map celS)) _ w (by rw [List.length_map]; exact hC) (by rw [List.length_map]; exact hc) (compound_f nm l hl)
  rw [List.length_map] at h
  exact h.mono fun en w' ⟨v, h1, h2, h3⟩ => ⟨v, h1, Kd.R_lower h2 hB, h3⟩

/-- One row of cells, or two, in a row of their own. -/
theorem K_of {B : Nat} {w : World} {x : List Cel} {v : Value} (h : CelAt B w x v) : (Kd.slice 41 k41).K w (x.map celS) [v] := by
  obtain ⟨A, c, rfl, h1, h2⟩ := Kd.R_reads h
  exact ⟨A, c, rfl, h1, h2⟩
theorem lit_C (vs : List Value) (xs : List (List Cel)) (hl : vs.length = xs.length) (hlen : xs.length ≤ 1000000) {B : Nat} {w : World} (h : ∀ j (hj : j < xs.length), CelAt B w xs[j] (vs[j]'(by omega))) :
    Kd.C (Kd.slice 41 k41) (w.alloc (.cells vs.toArray 24)) (some ⟨w.heap.size, 0, none⟩) xs.length (xs.map (List.map celS)) := by
  refine ⟨List.length_map _, by omega, fun hp => ⟨_, rfl, fun j p hj => ?_⟩⟩
  rw [List.getElem?_map, Option.map_eq_some_iff] at hj
  obtain ⟨x, hx, rfl⟩ := hj
  obtain ⟨hjl, rfl⟩ := List.getElem?_eq_some_iff.1 hx
  refine ⟨[vs[j]'(by omega)], rfl, (Kd.slice 41 k41).K_below (below_alloc (Below.refl _ _) _) (K_of (h j hjl)), fun i u hu => ?_⟩
  have hi : i = 0 := by
    have := (List.getElem?_eq_some_iff.1 hu).1
    simpa using this
  subst hi
  rw [add_plain, show (Kd.slice 41 k41).sz = 1 from rfl, Nat.mul_one, Nat.add_zero, blk_cell (heap_new w _ _ rfl)]
  simp only [List.getElem?_toArray]
  rw [List.getElem?_eq_getElem (by omega)]
  simpa using hu

/-- What the lexer's tokens are like. -/
def tokOK (t : Tok) : Prop := 0 ≤ t.at' ∧ t.at' ≤ 100000 ∧ 0 ≤ t.val ∧ t.val ≤ 2147483647 ∧ (t.kind = 1 ∨ t.kind = 4 → nameOK t.text = true)
def Ok (s : RS) : Prop := (∀ t ∈ s.1, tokOK t) ∧ s.1.length + s.2.length ≤ 40000
theorem Ok.passed {s s' : RS} {c len ex : Nat} (h : Ok s) (k : Passed s c s' len ex) : Ok s' := by
  obtain ⟨m, h1, h2, h3, h4, h5, h6⟩ := k
  refine ⟨fun t ht => h.1 t (by rw [h3] at ht; exact List.mem_of_mem_drop ht), ?_⟩
  have := h.2
  rw [h3, List.length_drop]
  omega
theorem Ok.tail {t : Tok} {r : List Tok} {ns : List (List UInt8)} (h : Ok (t :: r, ns)) : Ok (r, ns) := ⟨fun x hx => h.1 x (List.mem_cons_of_mem _ hx), by have := h.2; simp only [List.length_cons] at this ⊢; omega⟩
theorem Passed.len {s s' : RS} {c len ex : Nat} (k : Passed s c s' len ex) (h : Ok s) : len ≤ ex + 80000 := by
  obtain ⟨m, h1, h2, h3, h4, h5, h6⟩ := k
  have := h.2
  omega

theorem Ok.tl {s : RS} {q : Tok} {r : List Tok} (h : Ok s) (hq : s.1 = q :: r) : Ok (r, s.2) := by
  obtain ⟨l, ns⟩ := s
  simp only at hq
  subst hq
  exact h.tail
theorem celW_fun {n : List UInt8} (hn : nameOK n = true) {l : List (List Cel)} (h : ∀ x ∈ l, ∀ c ∈ x, celW c) : ∀ c ∈ funR n l, celW c := by
  intro c hc
  unfold funR at hc
  rcases List.mem_cons.1 hc with rfl | hc
  · exact .inr ⟨rfl, hn⟩
  · obtain ⟨x, hx, hc⟩ := List.mem_flatten.1 hc
    exact h x hx c hc
theorem celW_list {l : List (List Cel)} {t : List Cel} (h : ∀ x ∈ l, ∀ c ∈ x, celW c) (ht : ∀ c ∈ t, celW c) : ∀ c ∈ listR l t, celW c := by
  intro c hc
  unfold listR at hc
  rcases List.mem_append.1 hc with hc | hc
  · obtain ⟨x, hx, hc⟩ := List.mem_flatten.1 hc
    obtain ⟨y, hy, rfl⟩ := List.mem_map.1 hx
    rcases List.mem_cons.1 hc with rfl | hc
    · exact .inr ⟨rfl, by decide⟩
    · exact h y hy c hc
  · exact ht c hc
theorem celW_nil : ∀ c ∈ nilR, celW c := celW_fun (by decide) (by simp)

/-- What the cells of what is read are like. -/
theorem celW5 (e : Int) (k : Nat) :
    (∀ most s r, upToR k e most s = some (.ok r) → Ok s → Ok r.2 ∧ ∀ c ∈ r.1, celW c) ∧ (∀ most x rank s r, climbR k e most x rank s = some (.ok r) → Ok s → (∀ c ∈ x, celW c) → Ok r.2 ∧ ∀ c ∈ r.1, celW c) ∧
    (∀ s r, beginR k e s = some (.ok r) → Ok s → Ok r.2.2 ∧ ∀ c ∈ r.1, celW c) ∧ (∀ acc s r, rowR k e acc s = some (.ok r) → Ok s → (∀ x ∈ acc, ∀ c ∈ x, celW c) → Ok r.2 ∧ ∀ x ∈ r.1, ∀ c ∈ x, celW c) ∧ (∀ s r, listLR k e s = some (.ok r) → Ok s → Ok r.2 ∧ ∀ c ∈ r.1, celW c) := by
  refine rd_ind (e := e) (PU := fun _ s r => Ok s → Ok r.2 ∧ ∀ c ∈ r.1, celW c) (PC := fun _ x _ s r => Ok s → (∀ c ∈ x, celW c) → Ok r.2 ∧ ∀ c ∈ r.1, celW c) (PB := fun s r => Ok s → Ok r.2.2 ∧ ∀ c ∈ r.1, celW c)
    (PR := fun acc s r => Ok s → (∀ x ∈ acc, ∀ c ∈ x, celW c) → Ok r.2 ∧ ∀ x ∈ r.1, ∀ c ∈ x, celW c) (PL := fun s r => Ok s → Ok r.2 ∧ ∀ c ∈ r.1, celW c)
    ?_ ?_ ?_ ?_ ?_ ?_ ?_ ?_ ?_ ?_ ?_ ?_ ?_ ?_ ?_ ?_ k
  · intro most s b r h1 h2 ho
    exact h2 (h1 ho).1 (h1 ho).2
  · intro most x rank s ho hx
    exact ⟨ho, hx⟩
  · intro most x rank t r ns o y q hk hop _ _ h1 h2 ho hx
    have h3 := h1 ho.tail
    exact h2 h3.1 (celW_fun ((ho.1 t List.mem_cons_self).2.2.2.2 (.inr hk)) (by
      intro z hz
      simp only [List.mem_cons, List.not_mem_nil, or_false] at hz
      rcases hz with rfl | rfl
      · exact hx
      · exact h3.2))
  · intro t r ns hk ho
    exact ⟨ho.tail, fun c hc => by rw [List.mem_singleton] at hc; subst hc; exact .inl ⟨.inr rfl, rfl⟩⟩
  · intro t r ns hk ho
    refine ⟨⟨ho.tail.1, ?_⟩, fun c hc => by rw [List.mem_singleton] at hc; subst hc; exact .inl ⟨.inl rfl, rfl⟩⟩
    have := ho.2
    have := varR_len ns t.text
    simp only [List.length_cons] at *
    omega
  · intro t p r ns l q r' hk _ _ h1 h2 _ _ ho
    have h3 := h1 ho.tail.tail (by simp)
    exact ⟨h3.1.tl h2, celW_fun ((ho.1 t List.mem_cons_self).2.2.2.2 (.inl hk)) h3.2⟩
  · intro t r ns hk ho
    exact ⟨ho.tail, celW_fun ((ho.1 t List.mem_cons_self).2.2.2.2 (.inl hk)) (by simp)⟩
  · intro t r ns x q r' _ _ h1 h2 _ _ ho
    have h3 := h1 ho.tail
    exact ⟨h3.1.tl h2, h3.2⟩
  · intro t r ns x _ _ h1 ho
    exact h1 ho.tail
  · intro t n r ns _ _ _ _ ho
    exact ⟨ho.tail.tail, fun c hc => by rw [List.mem_singleton] at hc; subst hc; exact .inl ⟨.inr rfl, rfl⟩⟩
  · intro t r ns x _ _ h1 ho
    have h3 := h1 ho.tail
    exact ⟨h3.1, celW_fun (by decide) (by simpa using h3.2)⟩
  · intro acc s x h1 ho ha
    have h3 := h1 ho
    refine ⟨h3.1, fun z hz => ?_⟩
    rcases List.mem_append.1 hz with hz | hz
    · exact ha z hz
    · rw [List.mem_singleton] at hz
      subst hz
      exact h3.2
  · intro acc s x q r l h1 h2 _ _ h3 ho ha
    have h4 := h1 ho
    refine h3 (h4.1.tl h2) fun z hz => ?_
    rcases List.mem_append.1 hz with hz | hz
    · exact ha z hz
    · rw [List.mem_singleton] at hz
      subst hz
      exact h4.2
  · intro q r ns _ _ ho
    exact ⟨ho.tail, celW_nil⟩
  · intro s l q r h1 h2 _ _ ho
    have h3 := h1 ho (by simp)
    exact ⟨h3.1.tl h2, celW_list h3.2 celW_nil⟩
  · intro s l p r x q r' h1 h2 _ _ h3 h4 _ _ ho
    have h5 := h1 ho (by simp)
    have h6 := h3 (h5.1.tl h2)
    exact ⟨h6.1.tl h4, celW_list h5.2 h6.2⟩
end Go.Proofs.YthdccdbiichabaaDoor.P
