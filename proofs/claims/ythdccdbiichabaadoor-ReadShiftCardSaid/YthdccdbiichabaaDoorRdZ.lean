import Derived.Test.YthdccdbiichabaaDoorRdH
import Derived.Test.YthdccdbiichabaaDoorLex
import Derived.Test.YthdccdbiichabaaDoorTok
import Derived.Defers
import Derived.Recover
import Derived.ScopeJumps
import Derived.Test.YthdccdbiichabaaDoorRdS
/- A text's reader, and what is done with a panic: the contracts of package read's open and caught. No condition but that strconv.ErrRange holds an error. -/
namespace Go.Proofs.YthdccdbiichabaaDoor.P
open Go.RowKit Go.Proofs.YthdccdbiichabaaDoorW.PrintWords Go.Proofs.YthdccdbiichabaaDoorW.PrintLast Go.Proofs.YthdccdbiichabaaDoorW.PrintMore
set_option linter.unusedVariables false
set_option linter.unusedSimpArgs false

theorem tokC_of {w : World} {b : Nat} {v : Value} {l : List Tok} (h : Kd.R k65 65 w b (fun _ => True) v (l.map tokS)) : TokC 69 w v l := by
  obtain ⟨A, c, he, hl, hC⟩ := Kd.R_reads h
  rw [List.length_map] at he hl hC
  subst he
  refine ⟨A, c, rfl, hl, hC, by decide, fun ad e hn => ?_⟩
  obtain ⟨inner, ho⟩ := Kd.R_own h
  subst e
  exact own_typed ho _ rfl

theorem rd_open (s : ByteArray) (w : World) (hG : Aside0 (GW w)) (he : (lexAll s.data.toList).2.2 = 0) :
    Calls Tryd.prog 26 #[.string s] w fun en w' => ∃ g, en = .returned (.pointer (some ⟨g, 0, none⟩)) ∧ RdSt w.heap.size g s.size ((lexAll s.data.toList).1, []) w' ∧ Below w.heap.size w w' := by
  have HF := Lib.hid (lex_f s)
  have HE := Lib.hid he
  clear he
  go_enter Tryd.func26, Tryd.ntmps26
  go_wp2_with (go_at_call 37; refine (lex_Lex.calls s _ _ _ _ HF.out hG).mono ?_; rw [HE.out]; rintro en w1 ⟨v1, rfl, hR, hb⟩; obtain ⟨A1, c1, hv⟩ := Kd.R_slice hR; rw [List.length_map] at hv; subst hv; have HR := Aside0.mk hR; have HB := Aside0.mk hb; clear hR hb)
  go_ret
  refine ⟨_, rfl, ⟨_, _, HB.out.size, heap_new _ _ _ rfl, (tokC_of HR.out).below (below_alloc (Below.refl _ _) _), Kd.R_nil _ _ _ _ _⟩, below_alloc HB.out _⟩

theorem rd_open_bad (s : ByteArray) (w : World) (hG : Aside0 (GW w)) (he : (lexAll s.data.toList).2.2 ≠ 0) :
    Calls Tryd.prog 26 #[.string s] w fun en w' => en = .panicked (wrongP ((lexAll s.data.toList).2.1, (lexAll s.data.toList).2.2)) ∧ Below w.heap.size w w' := by
  have HF := Lib.hid (lex_f s)
  obtain ⟨at', hat⟩ : ∃ a, a = (lexAll s.data.toList).2.1 := ⟨_, rfl⟩
  obtain ⟨code, hcode⟩ : ∃ a, a = (lexAll s.data.toList).2.2 := ⟨_, rfl⟩
  have b1 : (code != 0) = true := by rw [hcode]; simpa using he
  rw [← hat, ← hcode] at HF ⊢
  clear he hat hcode
  go_enter Tryd.func26, Tryd.ntmps26
  go_wp2_with (go_at_call 37; refine (lex_Lex.calls s _ _ _ _ HF.out hG).mono ?_; rintro en w1 ⟨v1, rfl, hR, hb⟩; obtain ⟨A1, c1, hv⟩ := Kd.R_slice hR; rw [List.length_map] at hv; subst hv; have HR := Aside0.mk hR; have HB := Aside0.mk hb; clear hR hb)
  exact ⟨rfl, rfl, HB.out⟩

/-- The deferred function, where nothing is wrong. -/
theorem caught_idle (a e d : Value) (w : World) :
    CallsD Tryd.prog 24 #[a, e, d] .returning w fun en u' w' => en = .returned (.tuple #[]) ∧ u' = .returning ∧ w' = w := by
  refine callsD_of_wpS Tryd.func24 rfl fun c₀ cs hu => ?_
  apply wpS_seq
  apply wpS_region
  simp [wpOpsS, go_sem, recoverD, hu, Tryd.ntmps24, Exit.thenS]
  apply wpS_seq
  apply wpS_seq
  apply wpS_region
  simp [wpOpsS, go_sem, Exit.thenS]
  refine wpS_cond (t := true) (by simp [Act.eval, Array.replicate]) ?_
  simp only [if_true]
  refine wpS_of_wp (wp_ret ?_)
  cases c₀
  simp_all [bodyPostS, results, Tryd.results24, Exit.thenS]

theorem term_drop (bt bn : Nat) (ct cn : Value) (tt tn : TypeId) (w : World) (ht : w.heap[bt]? = some (.cells #[ct] tt (0, 0))) (hn : w.heap[bn]? = some (.cells #[cn] tn (0, 0))) (hne : bn ≠ bt) :
    Calls Tryd.prog 25 #[.pointer (some ⟨bt, 0, none⟩), .pointer (some ⟨bn, 0, none⟩)] w fun en w' => en = .returned (.tuple #[]) ∧ w' = (w.setCell ⟨bt, 0, none⟩ (.slice none 0 0)).setCell ⟨bn, 0, none⟩ (.slice none 0 0) := by
  have c0 := blk_cell ht 0
  have z0 := blk_frozen ht 0
  have c1 := blk_cell hn 0
  have z1 := blk_frozen hn 0
  simp at c0 c1
  have hne2 : ¬ bt = bn := fun h => hne h.symm
  clear ht hn
  go_enter Tryd.func25, Tryd.ntmps25
  go_wp2
  go_end0
  exact ⟨rfl, rfl⟩

theorem callsD_lit {P : Program} {f : FuncId} {fn : Func} {c : Code} {args : Array Value} {u : FrameMode} {w : World} {R : Ending → FrameMode → World → Prop} (hf : P.funcs[f]? = some fn) (hb : fn.body = some c) (T : Array Value)
    (hT : args ++ Array.replicate (fn.ntmps - args.size) undef = T)
    (h : ∀ (c₀ : Frame) (cs : List Frame), c₀.mode = u → c.wpS P (bodyPostS P fn c₀ cs R) { tmps := T, defers := [] } (c₀ :: cs) w) : CallsD P f args u w R :=
  callsD_of_wpS hf hb (by rw [hT]; exact h)
set_option maxHeartbeats 4000000 in
set_option maxRecDepth 100000 in
/-- The deferred function, where something is wrong: what is told is laid, and the closure is called. -/
theorem caught_panic (ba be : Nat) (x : Int × Int) (d : FuncId) (caps : Array Value) (ca ce : Value) (ta te : TypeId) (w : World) (ha : w.heap[ba]? = some (.cells #[ca] ta (0, 0))) (he : w.heap[be]? = some (.cells #[ce] te (0, 0))) (hne : ba ≠ be) (R : World → Prop) (hcf : ∀ W, (callFunc d caps).run Tryd.prog W = .ok (.enter d caps) W)
    (hd : Calls Tryd.prog d caps (((w.setCell ⟨ba, 0, none⟩ (.int .i64 x.1)).setCell ⟨be, 0, none⟩ (.int .i64 x.2)).alloc (.cells #[.int .i64 x.1, .int .i64 x.2] 71)).drew fun en w' => en = .returned (.tuple #[]) ∧ R w') :
    CallsD Tryd.prog 24 #[.pointer (some ⟨ba, 0, none⟩), .pointer (some ⟨be, 0, none⟩), .func (.func d) #[] caps] (.panicking (wrongP x)) w fun en u' w' =>
      en = .returned (.tuple #[]) ∧ settle u' = .returning ∧ R w' := by
  refine callsD_lit Tryd.func24 rfl #[.pointer (some ⟨ba, 0, none⟩), .pointer (some ⟨be, 0, none⟩), .func (.func d) #[] caps, undef, undef, undef, undef, undef, undef, undef, undef, undef, undef, undef, undef, undef, undef, undef, undef, undef, undef, undef, undef, undef, undef, undef, undef, undef, undef, undef] (by kernel_rfl) fun c₀ cs hu => ?_
  unfold wrongP at hu
  apply wpS_seq
  apply wpS_region
  simp [wpOpsS, go_sem, recoverD, hu, Exit.thenS]
  apply wpS_seq
  apply wpS_seq
  apply wpS_region
  simp [wpOpsS, go_sem, Exit.thenS]
  refine wpS_cond (t := false) (by simp [Act.eval]) ?_
  simp only [Bool.false_eq_true, if_false]
  refine wpS_of_wp (wp_skip ?_)
  simp only [Exit.thenS]
  refine wpS_of_wp ?_
  refine (fun (H : ∀ Q : Exit → Act → World → Prop, (∀ a' w', a'.defers = [] → R w' → Q .normal a' w') → Code.wp _ _ Q _ _) => H _ ?_) ?_
  · intro a' w' hd hc
    exact ⟨hd, _, rfl, .tuple #[], by simp [results, Tryd.results24], rfl, rfl, hc⟩
  intro Q hQ
  have hta : ∀ (v : Value) (w : World), (Instr.typeAssert (.iface 71 v) 20 71 true).run Tryd.prog w = .ok (.tuple #[v, .bool true]) w := fun v w => by kernel_rfl
  have l2 := blk_lt ha
  have l3 := blk_lt he
  have q2 := blk_cell ha 0
  have z2 := blk_frozen ha 0
  have q3 := blk_cell he 0
  have z3 := blk_frozen he 0
  simp at q2 q3
  have n2 : ¬ ba = w.heap.size := by omega
  have n3 : ¬ be = w.heap.size := by omega
  have n4 : ¬ w.heap.size = ba := by omega
  have n5 : ¬ w.heap.size = be := by omega
  have n6 : ¬ be = ba := fun h => hne h.symm
  have HA := Aside0.mk ha
  have HE := Aside0.mk he
  have HD := Aside0.mk hd
  clear ha he hu hd
  go_wp2_with fail
  go_region
  go_wp2_with (refine HD.out.mono ?_; rintro en w1 ⟨rfl, hR⟩; have HR := Aside0.mk hR; clear hR)
  exact hQ _ _ rfl HR.out

/-- What read.Term's named results hold at the end of a panic that was caught. -/
structure Caught4 (b : Nat) (x : Int × Int) (w w' : World) : Prop where
  t : w'.heap[b]? = some (.cells #[.slice none 0 0] 24 (0, 0))
  n : w'.heap[b + 1]? = some (.cells #[.slice none 0 0] 25 (0, 0))
  a : w'.heap[b + 2]? = some (.cells #[.int .i64 x.1] 3 (0, 0))
  e : w'.heap[b + 3]? = some (.cells #[.int .i64 x.2] 26 (0, 0))
  below : Below b w w'
theorem blk_alloc {w : World} {b : Nat} {o o' : Obj} (h : w.heap[b]? = some o) : (w.alloc o').heap[b]? = some o := (Below.heap_alloc _ _ _ (blk_lt h)).trans h

theorem caught_term (b : Nat) (x : Int × Int) (ct cn ca ce : Value) (w : World) (ht : w.heap[b]? = some (.cells #[ct] 24 (0, 0))) (hn : w.heap[b + 1]? = some (.cells #[cn] 25 (0, 0)))
    (ha : w.heap[b + 2]? = some (.cells #[ca] 3 (0, 0))) (he : w.heap[b + 3]? = some (.cells #[ce] 26 (0, 0))) :
    CallsD Tryd.prog 24 #[.pointer (some ⟨b + 2, 0, none⟩), .pointer (some ⟨b + 3, 0, none⟩), .func (.func 25) #[] #[.pointer (some ⟨b, 0, none⟩), .pointer (some ⟨b + 1, 0, none⟩)]] (.panicking (wrongP x)) w fun en u' w' =>
      en = .returned (.tuple #[]) ∧ settle u' = .returning ∧ Caught4 b x w w' := by
  have ht1 := blk_alloc (o' := .cells #[.int .i64 x.1, .int .i64 x.2] 71) (blk_far (p := ⟨b + 3, 0, none⟩) (blk_far (p := ⟨b + 2, 0, none⟩) ht (by simp) (.int .i64 x.1)) (by simp) (.int .i64 x.2))
  have hn1 := blk_alloc (o' := .cells #[.int .i64 x.1, .int .i64 x.2] 71) (blk_far (p := ⟨b + 3, 0, none⟩) (blk_far (p := ⟨b + 2, 0, none⟩) hn (by simp) (.int .i64 x.1)) (by simp) (.int .i64 x.2))
  have ha1 := blk_alloc (o' := .cells #[.int .i64 x.1, .int .i64 x.2] 71) (blk_far (p := ⟨b + 3, 0, none⟩) (blk_put ha 0 (.int .i64 x.1) (cs' := #[.int .i64 x.1]) rfl) (by simp) (.int .i64 x.2))
  have he1 := blk_alloc (o' := .cells #[.int .i64 x.1, .int .i64 x.2] 71) (blk_put (blk_far (p := ⟨b + 2, 0, none⟩) he (by simp) (.int .i64 x.1)) 0 (.int .i64 x.2) (cs' := #[.int .i64 x.2]) rfl)
  refine caught_panic (b + 2) (b + 3) x 25 _ ca ce _ _ w ha he (by omega) (Caught4 b x w) (fun W => by kernel_rfl) ?_
  refine (term_drop b (b + 1) ct cn 24 25 _ (show ((((w.setCell ⟨b + 2, 0, none⟩ (.int .i64 x.1)).setCell ⟨b + 3, 0, none⟩ (.int .i64 x.2)).alloc (.cells #[.int .i64 x.1, .int .i64 x.2] 71)).drew).heap[b]? = _ from ht1) (show ((((w.setCell ⟨b + 2, 0, none⟩ (.int .i64 x.1)).setCell ⟨b + 3, 0, none⟩ (.int .i64 x.2)).alloc (.cells #[.int .i64 x.1, .int .i64 x.2] 71)).drew).heap[b + 1]? = _ from hn1) (by omega)).mono ?_
  rintro en w' ⟨h1, h2⟩
  refine ⟨h1, ?_⟩
  subst h2
  have hl := blk_lt ht
  have hB : Below b w ((((w.setCell ⟨b + 2, 0, none⟩ (.int .i64 x.1)).setCell ⟨b + 3, 0, none⟩ (.int .i64 x.2)).alloc (.cells #[.int .i64 x.1, .int .i64 x.2] 71)).drew) :=
    ((((Below.refl b w).setCell (p := ⟨b + 2, 0, none⟩) (by simp) _).setCell (p := ⟨b + 3, 0, none⟩) (by simp) _).alloc (by simp [World.setCell]; omega) _).drew
  exact ⟨blk_far (blk_put ht1 0 _ rfl) (by simp) _, blk_put (blk_far hn1 (by simp) _) 0 _ rfl, blk_far (blk_far ha1 (by simp) _) (by simp) _, blk_far (blk_far he1 (by simp) _) (by simp) _,
    (hB.setCell (p := ⟨b, 0, none⟩) (by simp) _).setCell (p := ⟨b + 1, 0, none⟩) (by simp) _⟩
end Go.Proofs.YthdccdbiichabaaDoor.P
/- read.Term computes termR: its contract. No condition but that strconv.ErrRange holds an error. Printed by wip/gen/mkrdt.py. -/
namespace Go.Proofs.YthdccdbiichabaaDoor.P
open Go.RowKit Go.Proofs.YthdccdbiichabaaDoorW.PrintWords Go.Proofs.YthdccdbiichabaaDoorW.PrintLast Go.Proofs.YthdccdbiichabaaDoorW.PrintMore
set_option linter.unusedVariables false
set_option linter.unusedSimpArgs false

/-- Four results that are cells of their own. -/
structure Res4 (b : Nat) (ct cn ca ce : Value) (w : World) : Prop where
  t : w.heap[b]? = some (.cells #[ct] 24 (0, 0))
  n : w.heap[b + 1]? = some (.cells #[cn] 25 (0, 0))
  a : w.heap[b + 2]? = some (.cells #[ca] 3 (0, 0))
  e : w.heap[b + 3]? = some (.cells #[ce] 26 (0, 0))
theorem Res4.below {b B : Nat} {ct cn ca ce : Value} {w w1 : World} (h : Res4 b ct cn ca ce w) (hb : Below B w w1) (hB : b + 4 ≤ B) : Res4 b ct cn ca ce w1 :=
  ⟨(hb.block _ (by omega)).trans h.t, (hb.block _ (by omega)).trans h.n, (hb.block _ (by omega)).trans h.a, (hb.block _ (by omega)).trans h.e⟩
theorem res4_new (w : World) : Res4 w.heap.size (.slice none 0 0) (.slice none 0 0) (.int .i64 0) (.int .i64 0) ((((w.alloc (.cells #[.slice none 0 0] 24)).alloc (.cells #[.slice none 0 0] 25)).alloc (.cells #[.int .i64 0] 3)).alloc (.cells #[.int .i64 0] 26)) :=
  ⟨blk_alloc (blk_alloc (blk_alloc (heap_new _ _ _ rfl))), blk_alloc (blk_alloc (heap_new _ _ _ (by simp))), blk_alloc (heap_new _ _ _ (by simp)), heap_new _ _ _ (by simp)⟩

/-- How read.Term ends. -/
def TermEnd (q : Except (Int × Int) (List Cel × List (List UInt8))) (w : World) (en : Ending) (w' : World) : Prop :=
  match q with
  | .ok (x, ns) => ∃ v0 v1, en = .returned (.tuple #[v0, v1, .int .i64 0, .int .i64 0]) ∧ CelAt w.heap.size w' x v0 ∧ Kd.R Kd.string 9 w' w.heap.size (fun _ => True) v1 (ns.map baS) ∧ Below w.heap.size w w'
  | .error (a, c) => en = .returned (.tuple #[.slice none 0 0, .slice none 0 0, .int .i64 a, .int .i64 c]) ∧ Below w.heap.size w w'

theorem term_caught {ct cn ca ce : Value} {x : Int × Int} {w W : World} {tmps : Array Value} (h : Res4 w.heap.size ct cn ca ce W) (hb : Below w.heap.size w W) (hT : tmps.getD 2 undef = .pointer (some ⟨w.heap.size, 0, none⟩)) (hT3 : tmps.getD 3 undef = .pointer (some ⟨w.heap.size + 1, 0, none⟩))
    (hT4 : tmps.getD 4 undef = .pointer (some ⟨w.heap.size + 2, 0, none⟩)) (hT5 : tmps.getD 5 undef = .pointer (some ⟨w.heap.size + 3, 0, none⟩)) :
    Leaves Tryd.prog Tryd.f9 tmps (TermEnd (.error x) w) [{ target := .fn (.func 24) #[], args := #[.pointer (some ⟨w.heap.size + 2, 0, none⟩), .pointer (some ⟨w.heap.size + 3, 0, none⟩), .func (.func 25) #[] #[.pointer (some ⟨w.heap.size, 0, none⟩), .pointer (some ⟨w.heap.size + 1, 0, none⟩)]] }] (.panicking (wrongP x)) W := by
  refine leaves_cons (f := 24) (args := #[.pointer (some ⟨w.heap.size + 2, 0, none⟩), .pointer (some ⟨w.heap.size + 3, 0, none⟩), .func (.func 25) #[] #[.pointer (some ⟨w.heap.size, 0, none⟩), .pointer (some ⟨w.heap.size + 1, 0, none⟩)]]) (by simp) (by simp [go_sem]) ?_
  refine (caught_term w.heap.size x ct cn ca ce W h.t h.n h.a h.e).mono ?_
  rintro en u' w' ⟨rfl, hs, hC⟩
  obtain ⟨x1, x2⟩ := x
  simp only [hs]
  have c0 := blk_cell hC.t 0
  have c1 := blk_cell hC.n 0
  have c2 := blk_cell hC.a 0
  have c3 := blk_cell hC.e 0
  simp at c0 c1 c2 c3
  refine ⟨.tuple #[.slice none 0 0, .slice none 0 0, .int .i64 x1, .int .i64 x2], ?_, rfl, hb.trans hC.below⟩
  simp only [Array.getD_eq_getD_getElem?] at hT hT3 hT4 hT5
  simp [results, Tryd.results9, go_sem, hT, hT3, hT4, hT5, c0, c1, c2, c3]

theorem grown_set (w : World) (b j : Nat) (u : Value) : w.grownBy (w.setCell ⟨b, j, none⟩ u) (some b) :=
  ⟨rfl, rfl, rfl, by simp [World.setCell], fun k hk hne => Below.heap_setCell _ _ _ _ (fun e => hne (by rw [e]))⟩
/-- What read.Term keeps in memory behind its term. -/
structure TS (B g : Nat) (e : Int) (st : RS) (x : List Cel) (v : Value) (w W : World) : Prop where
  rs : RdSt B g e st W
  r4 : Res4 w.heap.size v (.slice none 0 0) (.int .i64 0) (.int .i64 0) W
  bel : Below w.heap.size w W
  cel : CelAt w.heap.size W x v
  big : w.heap.size + 4 ≤ B
  base : B ≤ W.heap.size
section
variable {B g : Nat} {e : Int} {st st' : RS} {x : List Cel} {v : Value} {w W W' : World}
theorem TS.start (hs : RdSt B g e st W) (h4 : Res4 w.heap.size (.slice none 0 0) (.slice none 0 0) (.int .i64 0) (.int .i64 0) W) (hb : Below w.heap.size w W) (hc : CelAt w.heap.size W x v) (h1 : w.heap.size + 4 ≤ B) (h2 : B ≤ W.heap.size) : TS B g e st x v w (W.setCell ⟨w.heap.size, 0, none⟩ v) := by
  refine ⟨hs.grown (grown_set _ _ _ _) (fun k hk => ?_), ⟨blk_put h4.t 0 _ rfl, blk_far h4.n (by simp) _, blk_far h4.a (by simp) _, blk_far h4.e (by simp) _⟩, below_set hb (Nat.le_refl _), Kd.R_set hc h4.t (by simp [k41, Kd.iso, Kd.pair, Kd.int, Kd.string, Kd.scalar]) 0 _, h1, by simpa [World.setCell] using h2⟩
  injection hk with hk
  subst hk
  exact ⟨_, _, h4.t, by decide, by decide, by decide⟩
theorem TS.below (h : TS B g e st x v w W) (hb : Below W.heap.size W W') : TS B g e st x v w W' :=
  ⟨h.rs.below hb, h.r4.below (B := W.heap.size) hb (Nat.le_trans h.big h.base), below_step h.bel (hb.mono (Nat.le_refl _)), h.cel.below hb, h.big, Nat.le_trans h.base hb.size⟩
theorem TS.to (h : TS B g e st x v w W) (k : RdTo B g e st' W W') : TS B g e st' x v w W' :=
  ⟨k.st, h.r4.below (k.fr.below h.base) h.big, h.bel.trans ((k.fr.below h.base).mono (by have := h.big; omega)), h.cel.fr k.fr, h.big, Nat.le_trans h.base k.fr.size⟩
/-- What the walk asks of the cells. -/
theorem TS.cells (h : TS B g e st x v w W) {n m : Nat} (hn : st.1.length = n) (hm : st.2.length = m) : ∃ rA rc nA nc, W.cell? ⟨g, 0, none⟩ = some (.slice rA n rc) ∧ W.cell? ⟨g, 2, none⟩ = some (.slice nA m nc) ∧ Kd.R Kd.string 9 W w.heap.size (fun _ => True) (.slice nA m nc) (st.2.map baS) ∧
    W.cell? ⟨w.heap.size, 0, none⟩ = some v ∧ W.cell? ⟨w.heap.size + 1, 0, none⟩ = some (.slice none 0 0) ∧ W.cell? ⟨w.heap.size + 1 + 1, 0, none⟩ = some (.int .i64 0) ∧ W.cell? ⟨w.heap.size + 1 + 1 + 1, 0, none⟩ = some (.int .i64 0) ∧
    W.frozen? ⟨w.heap.size, 0, none⟩ = false ∧ W.frozen? ⟨w.heap.size + 1, 0, none⟩ = false ∧ W.frozen? ⟨w.heap.size + 1 + 1, 0, none⟩ = false ∧ W.frozen? ⟨w.heap.size + 1 + 1 + 1, 0, none⟩ = false ∧ w.heap.size + 4 ≤ g := by
  obtain ⟨vr, vn, ha⟩ := h.rs
  obtain ⟨A, c, hvr, _⟩ := ha.rest
  obtain ⟨nA, nc, hvn⟩ := Kd.R_slice ha.names
  rw [List.length_map] at hvn
  have c0 := blk_cell ha.blk 0
  have c2 := blk_cell ha.blk 2
  have d0 := blk_cell h.r4.t 0
  have d1 := blk_cell h.r4.n 0
  have d2 := blk_cell h.r4.a 0
  have d3 := blk_cell h.r4.e 0
  simp at c0 c2 d0 d1 d2 d3
  rw [hvr, hn] at c0
  rw [hvn, hm] at c2
  have hN := ha.names
  rw [hvn, hm] at hN
  exact ⟨A, c, nA, nc, c0, c2, Kd.R_lower hN (by have := h.big; omega), d0, d1, d2, d3, blk_frozen h.r4.t 0, blk_frozen h.r4.n 0, blk_frozen h.r4.a 0, blk_frozen h.r4.e 0, Nat.le_trans h.big ha.base⟩
end

theorem term_done {B g : Nat} {e : Int} {st : RS} {x : List Cel} {ns : List (List UInt8)} {v vn : Value} {w W : World} {tmps : Array Value} (h : TS B g e st x v w W) (hN : Kd.R Kd.string 9 W w.heap.size (fun _ => True) vn (ns.map baS))
    (hT : tmps.getD 2 undef = .pointer (some ⟨w.heap.size, 0, none⟩)) (hT3 : tmps.getD 3 undef = .pointer (some ⟨w.heap.size + 1, 0, none⟩)) (hT4 : tmps.getD 4 undef = .pointer (some ⟨w.heap.size + 2, 0, none⟩)) (hT5 : tmps.getD 5 undef = .pointer (some ⟨w.heap.size + 3, 0, none⟩)) :
    Leaves Tryd.prog Tryd.f9 tmps (TermEnd (.ok (x, ns)) w) [{ target := .fn (.func 24) #[], args := #[.pointer (some ⟨w.heap.size + 2, 0, none⟩), .pointer (some ⟨w.heap.size + 3, 0, none⟩), .func (.func 25) #[] #[.pointer (some ⟨w.heap.size, 0, none⟩), .pointer (some ⟨w.heap.size + 1, 0, none⟩)]] }] .returning
      ((((W.setCell ⟨w.heap.size, 0, none⟩ v).setCell ⟨w.heap.size + 1, 0, none⟩ vn).setCell ⟨w.heap.size + 1 + 1, 0, none⟩ (.int .i64 0)).setCell ⟨w.heap.size + 1 + 1 + 1, 0, none⟩ (.int .i64 0)).drew := by
  refine leaves_cons (f := 24) (args := #[.pointer (some ⟨w.heap.size + 2, 0, none⟩), .pointer (some ⟨w.heap.size + 3, 0, none⟩), .func (.func 25) #[] #[.pointer (some ⟨w.heap.size, 0, none⟩), .pointer (some ⟨w.heap.size + 1, 0, none⟩)]]) (by simp) (by simp [go_sem]) ?_
  refine (caught_idle _ _ _ _).mono ?_
  rintro en u' w' ⟨rfl, rfl, rfl⟩
  obtain ⟨t0, n0, a0, e0⟩ := h.r4
  have t1 := blk_put t0 0 v (cs' := #[v]) rfl
  have n1 := blk_far (p := ⟨w.heap.size, 0, none⟩) n0 (by first | (simp; done) | (simp; omega)) v
  have a1 := blk_far (p := ⟨w.heap.size, 0, none⟩) a0 (by first | (simp; done) | (simp; omega)) v
  have e1 := blk_far (p := ⟨w.heap.size, 0, none⟩) e0 (by first | (simp; done) | (simp; omega)) v
  have t2 := blk_far (p := ⟨w.heap.size + 1, 0, none⟩) t1 (by first | (simp; done) | (simp; omega)) vn
  have n2 := blk_put n1 0 vn (cs' := #[vn]) rfl
  have a2 := blk_far (p := ⟨w.heap.size + 1, 0, none⟩) a1 (by first | (simp; done) | (simp; omega)) vn
  have e2 := blk_far (p := ⟨w.heap.size + 1, 0, none⟩) e1 (by first | (simp; done) | (simp; omega)) vn
  have t3 := blk_far (p := ⟨w.heap.size + 1 + 1, 0, none⟩) t2 (by first | (simp; done) | (simp; omega)) (.int .i64 0)
  have n3 := blk_far (p := ⟨w.heap.size + 1 + 1, 0, none⟩) n2 (by first | (simp; done) | (simp; omega)) (.int .i64 0)
  have a3 := blk_put a2 0 (.int .i64 0) (cs' := #[.int .i64 0]) rfl
  have e3 := blk_far (p := ⟨w.heap.size + 1 + 1, 0, none⟩) e2 (by first | (simp; done) | (simp; omega)) (.int .i64 0)
  have t4 := blk_far (p := ⟨w.heap.size + 1 + 1 + 1, 0, none⟩) t3 (by first | (simp; done) | (simp; omega)) (.int .i64 0)
  have n4 := blk_far (p := ⟨w.heap.size + 1 + 1 + 1, 0, none⟩) n3 (by first | (simp; done) | (simp; omega)) (.int .i64 0)
  have a4 := blk_far (p := ⟨w.heap.size + 1 + 1 + 1, 0, none⟩) a3 (by first | (simp; done) | (simp; omega)) (.int .i64 0)
  have e4 := blk_put e3 0 (.int .i64 0) (cs' := #[.int .i64 0]) rfl
  have hx : CelAt w.heap.size _ x v := Kd.R_set (Kd.R_set (Kd.R_set (Kd.R_set h.cel t0 (by simp [k41, Kd.iso, Kd.pair, Kd.int, Kd.string, Kd.scalar]) 0 v) n1 (by simp [k41, Kd.iso, Kd.pair, Kd.int, Kd.string, Kd.scalar]) 0 vn) a2 (by simp [k41, Kd.iso, Kd.pair, Kd.int, Kd.string, Kd.scalar]) 0 (.int .i64 0)) e3 (by simp [k41, Kd.iso, Kd.pair, Kd.int, Kd.string, Kd.scalar]) 0 (.int .i64 0)
  have hn : Kd.R Kd.string 9 _ w.heap.size (fun _ => True) vn (ns.map baS) := Kd.R_set (Kd.R_set (Kd.R_set (Kd.R_set hN t0 (by simp [Kd.string, Kd.scalar]) 0 v) n1 (by simp [Kd.string, Kd.scalar]) 0 vn) a2 (by simp [Kd.string, Kd.scalar]) 0 (.int .i64 0)) e3 (by simp [Kd.string, Kd.scalar]) 0 (.int .i64 0)
  have c0 := blk_cell t4 0
  have c1 := blk_cell n4 0
  have c2 := blk_cell a4 0
  have c3 := blk_cell e4 0
  obtain ⟨W4, hW4⟩ : ∃ W4 : World, W4 = (((W.setCell ⟨w.heap.size, 0, none⟩ v).setCell ⟨w.heap.size + 1, 0, none⟩ vn).setCell ⟨w.heap.size + 1 + 1, 0, none⟩ (.int .i64 0)).setCell ⟨w.heap.size + 1 + 1 + 1, 0, none⟩ (.int .i64 0) := ⟨_, rfl⟩
  have hbel : Below w.heap.size w W4 := by rw [hW4]; exact below_set (below_set (below_set (below_set h.bel (by omega)) (by omega)) (by omega)) (by omega)
  rw [← hW4] at c0 c1 c2 c3 hx hn ⊢
  simp at c0 c1 c2 c3
  show Leaves _ _ _ _ _ .returning _
  refine ⟨.tuple #[v, vn, .int .i64 0, .int .i64 0], ?_, v, vn, rfl, hx, hn, hbel.drew⟩
  simp only [Array.getD_eq_getD_getElem?] at hT hT3 hT4 hT5
  simp [results, Tryd.results9, go_sem, hT, hT3, hT4, hT5, c0, c1, c2, c3]

set_option maxHeartbeats 8000000 in
set_option maxRecDepth 100000 in
theorem rd_Term (k : Nat) (s : ByteArray) (q : Except (Int × Int) (List Cel × List (List UInt8))) (hq : termR k s.data.toList = some q) (w : World) (hG : Aside0 (GW w)) :
    Calls Tryd.prog 9 #[.string s] w (TermEnd q w) := by
  have hmf : ∀ (fn : Fn) (first cap : Array Value) (w : World), (Instr.makeFunc fn first cap).run Tryd.prog w = .ok (.func fn first cap) w := fun _ _ _ _ => rfl
  unfold termR at hq
  have hR4 := Aside0.mk (res4_new w)
  by_cases he : (lexAll s.data.toList).2.2 = 0
  · rw [if_neg (by simpa using he), bl_size] at hq
    have HE := Lib.hid he
    have HOK := Aside0.mk (lex_ok s.data.toList [] (by simp))
    clear he
    rcases Res.bind_some hq with ⟨x, hu, hq2⟩ | ⟨x, hu, rfl⟩
    · clear hq
      have hq := hq2
      clear hq2
      have HU := Aside0.mk hu
      obtain ⟨x, ⟨l1, ns⟩⟩ := x
      clear hu
      cases l1 with
      | nil =>
        obtain rfl : Except.ok (x, ns) = q := Option.some.inj hq
        obtain ⟨t, ht⟩ : ∃ t : Tok, t = ⟨0, [], 0, (s.size : Int)⟩ := ⟨_, rfl⟩
        have HN : Hid (t = nxtR (s.size : Int) []) := ht
        have b6 : (t.kind == 6) = false := by rw [ht]; rfl
        clear hq ht
        have hfl := fld_at
        have hfk := fld_kind
        go_enter_defers Tryd.func9, Tryd.ntmps9
        go_wp2_with (first | (go_at_call 26; refine (rd_open s _ (GW.belowA hG (by repeat (first | exact Below.refl _ _ | apply below_alloc | apply pw_below_drewN | apply below_drew1))) HE.out).mono ?_; rintro en w1 ⟨g, rfl, hS, hb⟩; have HS := Aside0.mk hS; have HB : Aside0 (Below w.heap.size w w1) := Aside0.mk (below_step (by repeat (first | exact Below.refl _ _ | apply below_alloc | apply pw_below_drewN | apply below_drew1)) hb); have HR := Aside0.mk (hR4.out.below hb (by simp)); have HZ := Aside0.mk hb.size; clear hS hb) | (go_at_call 27; refine (rd_whole false ((lexAll s.data.toList).1, []) _ _ HU.out ⟨HS.out, HZ.out, HOK.out⟩).mono ?_; rintro en w1 ⟨v1, rfl, hV, hR⟩; obtain ⟨xA, xc, hve⟩ := hV.slice; subst hve; have HX := Aside0.mk (hV.low HB.out.size); have HB2 := Aside0.mk (HB.out.trans ((hR.fr.below HZ.out).mono (by simp; omega))); replace HR := Aside0.mk (HR.out.below (hR.fr.below HZ.out) (by simp)); replace HZ := Aside0.mk (Nat.le_trans HZ.out hR.fr.size); replace HS := Aside0.mk hR.st; have t0 := blk_cell HR.out.t 0; have y0 := blk_frozen HR.out.t 0; simp at t0; clear hV hR) | (go_at_call 28; have hN_ := HN; clear HN t0 y0; have TSV := Aside0.mk (TS.start HS.out HR.out HB2.out HX.out (by simp) HZ.out); clear HS HR HB2 HX HB; refine (rd_next ⟨TSV.out.rs⟩).mono ?_; rw [← hN_.out, tokV]; clear hN_; rintro en w1 ⟨rfl, hb⟩; replace TSV := Aside0.mk (TSV.out.below hb); clear hb; (try clear g0 g2 d0 d1 d2 d3 y0 y1 y2 y3 HNM hgb); obtain ⟨rA, rc, nA, nc, g0, g2, hNM, d0, d1, d2, d3, y0, y1, y2, y3, hgb⟩ := TSV.out.cells (n := 0) (by first | rfl | exact HLn.out) rfl; have HNM := Aside0.mk hNM; clear hNM))
        have e0 : ¬ g = w.heap.size := by omega
        have e1 : ¬ g = w.heap.size + 1 := by omega
        have e2 : ¬ g = w.heap.size + 1 + 1 := by omega
        have e3 : ¬ g = w.heap.size + 1 + 1 + 1 := by omega
        have f0 : ¬ w.heap.size = g := by omega
        have f1 : ¬ w.heap.size + 1 = g := by omega
        go_region
        go_wp2_with fail
        exact term_done TSV.out HNM.out rfl rfl rfl rfl
      | cons t r =>
        have HN : Hid (t = nxtR (s.size : Int) (t :: r)) := Lib.hid rfl
        simp only at hq
        by_cases c6 : t.kind = 6
        · rw [if_pos c6] at hq
          have b6 : (t.kind == 6) = true := by simpa using c6
          clear c6
          cases r with
          | nil =>
            obtain rfl : Except.ok (x, ns) = q := Option.some.inj hq
            clear hq
            have hfl := fld_at
            have hfk := fld_kind
            go_enter_defers Tryd.func9, Tryd.ntmps9
            go_wp2_with (first | (go_at_call 26; refine (rd_open s _ (GW.belowA hG (by repeat (first | exact Below.refl _ _ | apply below_alloc | apply pw_below_drewN | apply below_drew1))) HE.out).mono ?_; rintro en w1 ⟨g, rfl, hS, hb⟩; have HS := Aside0.mk hS; have HB : Aside0 (Below w.heap.size w w1) := Aside0.mk (below_step (by repeat (first | exact Below.refl _ _ | apply below_alloc | apply pw_below_drewN | apply below_drew1)) hb); have HR := Aside0.mk (hR4.out.below hb (by simp)); have HZ := Aside0.mk hb.size; clear hS hb) | (go_at_call 27; refine (rd_whole false ((lexAll s.data.toList).1, []) _ _ HU.out ⟨HS.out, HZ.out, HOK.out⟩).mono ?_; rintro en w1 ⟨v1, rfl, hV, hR⟩; obtain ⟨xA, xc, hve⟩ := hV.slice; subst hve; have HX := Aside0.mk (hV.low HB.out.size); have HB2 := Aside0.mk (HB.out.trans ((hR.fr.below HZ.out).mono (by simp; omega))); replace HR := Aside0.mk (HR.out.below (hR.fr.below HZ.out) (by simp)); replace HZ := Aside0.mk (Nat.le_trans HZ.out hR.fr.size); replace HS := Aside0.mk hR.st; have t0 := blk_cell HR.out.t 0; have y0 := blk_frozen HR.out.t 0; simp at t0; clear hV hR) | (go_at_call 28; have hN_ := HN; clear HN t0 y0; have TSV := Aside0.mk (TS.start HS.out HR.out HB2.out HX.out (by simp) HZ.out); clear HS HR HB2 HX HB; refine (rd_next ⟨TSV.out.rs⟩).mono ?_; rw [← hN_.out, tokV]; clear hN_; rintro en w1 ⟨rfl, hb⟩; replace TSV := Aside0.mk (TSV.out.below hb); clear hb; (try clear g0 g2 d0 d1 d2 d3 y0 y1 y2 y3 HNM hgb); obtain ⟨rA, rc, nA, nc, g0, g2, hNM, d0, d1, d2, d3, y0, y1, y2, y3, hgb⟩ := TSV.out.cells (n := 1) (by first | rfl | exact HLn.out) rfl; have HNM := Aside0.mk hNM; clear hNM) | (go_at_call 29; refine (rd_pass ⟨TSV.out.rs⟩).mono ?_; rintro en w1 ⟨rfl, hR⟩; replace TSV := Aside0.mk (TSV.out.to hR); clear hR; (try clear g0 g2 d0 d1 d2 d3 y0 y1 y2 y3 HNM hgb); obtain ⟨rA, rc, nA, nc, g0, g2, hNM, d0, d1, d2, d3, y0, y1, y2, y3, hgb⟩ := TSV.out.cells (n := 0) (by first | rfl | exact HLn.out) rfl; have HNM := Aside0.mk hNM; clear hNM))
            have e0 : ¬ g = w.heap.size := by omega
            have e1 : ¬ g = w.heap.size + 1 := by omega
            have e2 : ¬ g = w.heap.size + 1 + 1 := by omega
            have e3 : ¬ g = w.heap.size + 1 + 1 + 1 := by omega
            have f0 : ¬ w.heap.size = g := by omega
            have f1 : ¬ w.heap.size + 1 = g := by omega
            go_region
            go_wp2_with fail
            exact term_done TSV.out HNM.out rfl rfl rfl rfl
          | cons t2 r2 =>
            obtain rfl : Except.error (t2.at', 50) = q := Option.some.inj hq
            have HN2 : Hid (t2 = nxtR (s.size : Int) (t2 :: r2)) := Lib.hid rfl
            obtain ⟨n, hn⟩ : ∃ n, (t2 :: r2).length = n := ⟨_, rfl⟩
            have hnp : decide ((0 : Int) < (n : Int)) = true := decide_eq_true (by rw [← hn, List.length_cons]; omega)
            have hnq : 0 < n := by rw [← hn, List.length_cons]; omega
            have HLn := Lib.hid hn
            clear hn
            clear hq
            have hfl := fld_at
            have hfk := fld_kind
            go_enter_defers Tryd.func9, Tryd.ntmps9
            go_wp2_with (first | (go_at_call 26; refine (rd_open s _ (GW.belowA hG (by repeat (first | exact Below.refl _ _ | apply below_alloc | apply pw_below_drewN | apply below_drew1))) HE.out).mono ?_; rintro en w1 ⟨g, rfl, hS, hb⟩; have HS := Aside0.mk hS; have HB : Aside0 (Below w.heap.size w w1) := Aside0.mk (below_step (by repeat (first | exact Below.refl _ _ | apply below_alloc | apply pw_below_drewN | apply below_drew1)) hb); have HR := Aside0.mk (hR4.out.below hb (by simp)); have HZ := Aside0.mk hb.size; clear hS hb) | (go_at_call 27; refine (rd_whole false ((lexAll s.data.toList).1, []) _ _ HU.out ⟨HS.out, HZ.out, HOK.out⟩).mono ?_; rintro en w1 ⟨v1, rfl, hV, hR⟩; obtain ⟨xA, xc, hve⟩ := hV.slice; subst hve; have HX := Aside0.mk (hV.low HB.out.size); have HB2 := Aside0.mk (HB.out.trans ((hR.fr.below HZ.out).mono (by simp; omega))); replace HR := Aside0.mk (HR.out.below (hR.fr.below HZ.out) (by simp)); replace HZ := Aside0.mk (Nat.le_trans HZ.out hR.fr.size); replace HS := Aside0.mk hR.st; have t0 := blk_cell HR.out.t 0; have y0 := blk_frozen HR.out.t 0; simp at t0; clear hV hR) | (go_at_call 28; have hN_ := HN; clear HN t0 y0; have TSV := Aside0.mk (TS.start HS.out HR.out HB2.out HX.out (by simp) HZ.out); clear HS HR HB2 HX HB; refine (rd_next ⟨TSV.out.rs⟩).mono ?_; rw [← hN_.out, tokV]; clear hN_; rintro en w1 ⟨rfl, hb⟩; replace TSV := Aside0.mk (TSV.out.below hb); clear hb; (try clear g0 g2 d0 d1 d2 d3 y0 y1 y2 y3 HNM hgb); obtain ⟨rA, rc, nA, nc, g0, g2, hNM, d0, d1, d2, d3, y0, y1, y2, y3, hgb⟩ := TSV.out.cells (n := r2.length + 1 + 1) (by first | rfl | exact HLn.out) rfl; have HNM := Aside0.mk hNM; clear hNM) | (go_at_call 29; refine (rd_pass ⟨TSV.out.rs⟩).mono ?_; rintro en w1 ⟨rfl, hR⟩; replace TSV := Aside0.mk (TSV.out.to hR); clear hR; (try clear g0 g2 d0 d1 d2 d3 y0 y1 y2 y3 HNM hgb); obtain ⟨rA, rc, nA, nc, g0, g2, hNM, d0, d1, d2, d3, y0, y1, y2, y3, hgb⟩ := TSV.out.cells (n := n) (by first | rfl | exact HLn.out) rfl; have HNM := Aside0.mk hNM; clear hNM) | (go_at_call 28; have hN_ := HN2; clear HN2; refine (rd_next ⟨TSV.out.rs⟩).mono ?_; rw [← hN_.out, tokV]; clear hN_; rintro en w1 ⟨rfl, hb⟩; replace TSV := Aside0.mk (TSV.out.below hb); clear hb))
            show Leaves Tryd.prog Tryd.f9 _ (TermEnd _ w) _ (.panicking (wrongP (t2.at', 50))) _
            exact term_caught TSV.out.r4 TSV.out.bel rfl rfl rfl rfl
        · rw [if_neg c6] at hq
          obtain rfl : Except.error (t.at', 50) = q := Option.some.inj hq
          have b6 : (t.kind == 6) = false := by simpa using c6
          have HN2 : Hid (t = nxtR (s.size : Int) (t :: r)) := Lib.hid rfl
          obtain ⟨n, hn⟩ : ∃ n, (t :: r).length = n := ⟨_, rfl⟩
          have hnp : decide ((0 : Int) < (n : Int)) = true := decide_eq_true (by rw [← hn, List.length_cons]; omega)
          have hnq : 0 < n := by rw [← hn, List.length_cons]; omega
          have HLn := Lib.hid hn
          clear hn
          clear hq c6
          have hfl := fld_at
          have hfk := fld_kind
          go_enter_defers Tryd.func9, Tryd.ntmps9
          go_wp2_with (first | (go_at_call 26; refine (rd_open s _ (GW.belowA hG (by repeat (first | exact Below.refl _ _ | apply below_alloc | apply pw_below_drewN | apply below_drew1))) HE.out).mono ?_; rintro en w1 ⟨g, rfl, hS, hb⟩; have HS := Aside0.mk hS; have HB : Aside0 (Below w.heap.size w w1) := Aside0.mk (below_step (by repeat (first | exact Below.refl _ _ | apply below_alloc | apply pw_below_drewN | apply below_drew1)) hb); have HR := Aside0.mk (hR4.out.below hb (by simp)); have HZ := Aside0.mk hb.size; clear hS hb) | (go_at_call 27; refine (rd_whole false ((lexAll s.data.toList).1, []) _ _ HU.out ⟨HS.out, HZ.out, HOK.out⟩).mono ?_; rintro en w1 ⟨v1, rfl, hV, hR⟩; obtain ⟨xA, xc, hve⟩ := hV.slice; subst hve; have HX := Aside0.mk (hV.low HB.out.size); have HB2 := Aside0.mk (HB.out.trans ((hR.fr.below HZ.out).mono (by simp; omega))); replace HR := Aside0.mk (HR.out.below (hR.fr.below HZ.out) (by simp)); replace HZ := Aside0.mk (Nat.le_trans HZ.out hR.fr.size); replace HS := Aside0.mk hR.st; have t0 := blk_cell HR.out.t 0; have y0 := blk_frozen HR.out.t 0; simp at t0; clear hV hR) | (go_at_call 28; have hN_ := HN; clear HN t0 y0; have TSV := Aside0.mk (TS.start HS.out HR.out HB2.out HX.out (by simp) HZ.out); clear HS HR HB2 HX HB; refine (rd_next ⟨TSV.out.rs⟩).mono ?_; rw [← hN_.out, tokV]; clear hN_; rintro en w1 ⟨rfl, hb⟩; replace TSV := Aside0.mk (TSV.out.below hb); clear hb; (try clear g0 g2 d0 d1 d2 d3 y0 y1 y2 y3 HNM hgb); obtain ⟨rA, rc, nA, nc, g0, g2, hNM, d0, d1, d2, d3, y0, y1, y2, y3, hgb⟩ := TSV.out.cells (n := n) (by first | rfl | exact HLn.out) rfl; have HNM := Aside0.mk hNM; clear hNM) | (go_at_call 28; have hN_ := HN2; clear HN2; refine (rd_next ⟨TSV.out.rs⟩).mono ?_; rw [← hN_.out, tokV]; clear hN_; rintro en w1 ⟨rfl, hb⟩; replace TSV := Aside0.mk (TSV.out.below hb); clear hb))
          show Leaves Tryd.prog Tryd.f9 _ (TermEnd _ w) _ (.panicking (wrongP (t.at', 50))) _
          exact term_caught TSV.out.r4 TSV.out.bel rfl rfl rfl rfl
    · have HU := Aside0.mk hu
      clear hq hu
      go_enter_defers Tryd.func9, Tryd.ntmps9
      go_wp2_with (first | (go_at_call 26; refine (rd_open s _ (GW.belowA hG (by repeat (first | exact Below.refl _ _ | apply below_alloc | apply pw_below_drewN | apply below_drew1))) HE.out).mono ?_; rintro en w1 ⟨g, rfl, hS, hb⟩; have HS := Aside0.mk hS; have HB : Aside0 (Below w.heap.size w w1) := Aside0.mk (below_step (by repeat (first | exact Below.refl _ _ | apply below_alloc | apply pw_below_drewN | apply below_drew1)) hb); have HR := Aside0.mk (hR4.out.below hb (by simp)); have HZ := Aside0.mk hb.size; clear hS hb) | (go_at_call 27; refine (rd_whole false ((lexAll s.data.toList).1, []) _ _ HU.out ⟨HS.out, HZ.out, HOK.out⟩).mono ?_; rintro en w1 ⟨rfl, hF⟩; have HB2 := Aside0.mk (HB.out.trans ((hF.below HZ.out).mono (by simp; omega))); replace HR := Aside0.mk (HR.out.below (hF.below HZ.out) (by simp)); clear hF))
      exact term_caught HR.out HB2.out rfl rfl rfl rfl
  · rw [if_pos he] at hq
    obtain rfl : Except.error ((lexAll s.data.toList).2.1, (lexAll s.data.toList).2.2) = q := Option.some.inj hq
    have HE := Lib.hid he
    clear hq he
    go_enter_defers Tryd.func9, Tryd.ntmps9
    go_wp2_with (go_at_call 26; refine (rd_open_bad s _ (GW.belowA hG (by repeat (first | exact Below.refl _ _ | apply below_alloc | apply pw_below_drewN | apply below_drew1))) HE.out).mono ?_; rintro en w1 ⟨rfl, hb⟩; have HB := Aside0.mk hb; clear hb)
    exact term_caught (hR4.out.below HB.out (by simp)) (below_step (by repeat (first | exact Below.refl _ _ | apply below_alloc | apply pw_below_drewN | apply below_drew1)) HB.out) rfl rfl rfl rfl
end Go.Proofs.YthdccdbiichabaaDoor.P
/- package read's reader.clause computes clauseR: its contract. No condition. Printed by wip/gen/mkrdt.py. -/
namespace Go.Proofs.YthdccdbiichabaaDoor.P
open Go.RowKit Go.Proofs.YthdccdbiichabaaDoorW.PrintWords Go.Proofs.YthdccdbiichabaaDoorW.PrintLast Go.Proofs.YthdccdbiichabaaDoorW.PrintMore
set_option linter.unusedVariables false
set_option linter.unusedSimpArgs false

def litS (l : LitR) : S43 := ⟨l.1, l.2.map celS⟩
def clS (c : ClR) : S39 := ⟨c.1.map celS, c.2.map litS⟩
def LitsAt (b : Nat) (w : World) (l : List LitR) (v : Value) : Prop := Kd.R k43 43 w b (fun _ => True) v (l.map litS)
theorem LitsAt.fr {b B : Nat} {w w1 : World} {l : List LitR} {v : Value} (h : LitsAt b w l v) (hf : Fr 69 B w w1) : LitsAt b w1 l v := R_fr h hf (by simp [k43, Kd.bool, Kd.slice, k41, Kd.iso, Kd.pair, Kd.int, Kd.string, Kd.scalar])
theorem LitsAt.below {b : Nat} {w w1 : World} {l : List LitR} {v : Value} (h : LitsAt b w l v) (hb : Below w.heap.size w w1) : LitsAt b w1 l v := Kd.R_below h hb
theorem LitsAt.slice {b : Nat} {w : World} {l : List LitR} {v : Value} (h : LitsAt b w l v) : ∃ A c, v = .slice A l.length c := by
  obtain ⟨A, c, h⟩ := Kd.R_slice h
  rw [List.length_map] at h
  exact ⟨A, c, h⟩
theorem infoLit : (Tryd.prog.info? 43).map (fun i => (i.zero, i.size, i.bytes)) = some (some (.agg #[.bool false, .slice none 0 0]), 2, 32) := by kernel_rfl

/-- What reader.clause keeps in memory: the reader, the result's cells, the clause's. -/
structure CS (B g : Nat) (e : Int) (st : RS) (cb : Nat) (x : List Cel) (l : List LitR) (v0 v1 : Value) (w W : World) : Prop where
  rd : RdTo B g e st w W
  rb : W.heap[w.heap.size]? = some (.cells #[.slice none 0 0, .slice none 0 0] 39 (0, 0))
  cl : W.heap[cb]? = some (.cells #[v0, v1] 39 (0, 0))
  cel : CelAt w.heap.size W x v0
  lits : LitsAt w.heap.size W l v1
  ne : w.heap.size < cb
  ok : Ok st
section
variable {B g cb : Nat} {e : Int} {st st' : RS} {x : List Cel} {l : List LitR} {v0 v1 : Value} {w W W' : World}
theorem CS.below (h : CS B g e st cb x l v0 v1 w W) (hb : Below W.heap.size W W') : CS B g e st cb x l v0 v1 w W' :=
  ⟨h.rd.below hb, (hb.block _ (blk_lt h.rb)).trans h.rb, (hb.block _ (blk_lt h.cl)).trans h.cl, h.cel.below hb, h.lits.below hb, h.ne, h.ok⟩
theorem CS.to (h : CS B g e st cb x l v0 v1 w W) (k : RdTo B g e st' W W') (ho : Ok st') : CS B g e st' cb x l v0 v1 w W' :=
  ⟨⟨k.st, h.rd.fr.trans k.fr⟩, (k.fr.block _ (blk_lt h.rb) (.inr (not_vol h.rb (by decide) (by decide)))).trans h.rb, (k.fr.block _ (blk_lt h.cl) (.inr (not_vol h.cl (by decide) (by decide)))).trans h.cl, h.cel.fr k.fr, h.lits.fr k.fr, h.ne, ho⟩
theorem CS.cells (h : CS B g e st cb x l v0 v1 w W) : W.cell? ⟨cb, 0, none⟩ = some v0 ∧ W.cell? ⟨cb, 1, none⟩ = some v1 ∧ W.cell? ⟨w.heap.size, 0, none⟩ = some (.slice none 0 0) ∧ W.cell? ⟨w.heap.size, 1, none⟩ = some (.slice none 0 0) ∧
    W.frozen? ⟨cb, 0, none⟩ = false ∧ W.frozen? ⟨cb, 1, none⟩ = false ∧ W.frozen? ⟨w.heap.size, 0, none⟩ = false ∧ W.frozen? ⟨w.heap.size, 1, none⟩ = false ∧ (¬ cb = W.heap.size) ∧ (¬ W.heap.size = cb) ∧ cb < W.heap.size ∧ (¬ w.heap.size = cb) ∧ ¬ cb = w.heap.size := by
  have c0 := blk_cell h.cl 0
  have c1 := blk_cell h.cl 1
  have d0 := blk_cell h.rb 0
  have d1 := blk_cell h.rb 1
  simp at c0 c1 d0 d1
  have := blk_lt h.cl
  have := h.ne
  exact ⟨c0, c1, d0, d1, blk_frozen h.cl 0, blk_frozen h.cl 1, blk_frozen h.rb 0, blk_frozen h.rb 1, by omega, by omega, by omega, by omega, by omega⟩
theorem CS.start {st0 : RS} {w1 : World} (h : RdTo B g e st0 w w1) (hB : B ≤ w.heap.size) (k : RdTo B g e st w1 W) (hr : W.heap[w.heap.size]? = some (.cells #[.slice none 0 0, .slice none 0 0] 39 (0, 0))) (hx : CelAt w.heap.size W x v0) (ho : Ok st) :
    CS B g e st W.heap.size x [] v0 (.slice none 0 0) w (W.alloc (.cells #[v0, .slice none 0 0] 39)) :=
  ⟨(RdTo.after h.fr k).below (below_alloc (Below.refl _ _) _), blk_alloc hr, heap_new _ _ _ rfl, hx.below (below_alloc (Below.refl _ _) _), Kd.R_nil _ _ _ _ _, blk_lt hr, ho⟩
/-- A literal has been appended, and the clause's second cell is written. -/
theorem CS.push {vn : Value} {lt : LitR} {wn : World} (h : CS B g e st cb x l v0 v1 w W) (hg : W.grownBy wn v1.ownBlock) (hn : LitsAt w.heap.size wn (l ++ [lt]) vn) : CS B g e st cb x (l ++ [lt]) v0 vn w (wn.setCell ⟨cb, 1, none⟩ vn) := by
  obtain ⟨inner, ho⟩ := Kd.R_own h.lits
  have hty : ∀ k, v1.ownBlock = some k → ∃ cells, W.heap[k]? = some (.cells cells 43 (0, 0)) := fun k hk => own_typed ho k hk
  have hne : ∀ (b : Nat) (cs : Array Value) (t : TypeId), W.heap[b]? = some (.cells cs t (0, 0)) → t ≠ 43 → some b ≠ v1.ownBlock := fun b cs t hb ht => own_ne ho hb (fun e => ht e.symm)
  have rs1 := h.rd.st.grown hg (fun k hk => by obtain ⟨c, hc⟩ := hty k hk; exact ⟨c, _, hc, by decide, by decide, by decide⟩)
  have fr1 := h.rd.fr.grownNew hg (fun k hk => own_base ho k hk)
  have rb1 := blk_grown h.rb hg (hne _ _ _ h.rb (by decide))
  have cl1 := blk_grown h.cl hg (hne _ _ _ h.cl (by decide))
  have x1 := R_grownT h.cel hg (fun k hk => by obtain ⟨c, hc⟩ := hty k hk; exact ⟨c, _, hc, by simp [k41, Kd.iso, Kd.pair, Kd.int, Kd.string, Kd.scalar]⟩)
  refine ⟨⟨rs1.grown (grown_set _ _ _ _) (fun k hk => ?_), fr1.setNew (Nat.le_of_lt h.ne)⟩, blk_far rb1 (by have := h.ne; simp; omega) _, blk_put cl1 1 _ rfl, Kd.R_set x1 cl1 (by simp [k41, Kd.iso, Kd.pair, Kd.int, Kd.string, Kd.scalar]) 1 _, Kd.R_set hn cl1 (by simp [k43, Kd.bool, Kd.slice, k41, Kd.iso, Kd.pair, Kd.int, Kd.string, Kd.scalar]) 1 _, h.ne, h.ok⟩
  injection hk with hk
  subst hk
  exact ⟨_, _, cl1, by decide, by decide, by decide⟩
end
section
variable {B g cb : Nat} {e : Int} {st : RS} {x : List Cel} {l : List LitR} {v0 v1 : Value} {w W : World}
theorem CS.fin (h : CS B g e st cb x l v0 v1 w W) : ((W.setCell ⟨w.heap.size, 0, none⟩ v0).setCell ⟨w.heap.size, 1, none⟩ v1).cell? ⟨w.heap.size, 0, none⟩ = some v0 ∧ ((W.setCell ⟨w.heap.size, 0, none⟩ v0).setCell ⟨w.heap.size, 1, none⟩ v1).cell? ⟨w.heap.size, 1, none⟩ = some v1 ∧
    CelAt w.heap.size ((W.setCell ⟨w.heap.size, 0, none⟩ v0).setCell ⟨w.heap.size, 1, none⟩ v1) x v0 ∧ LitsAt w.heap.size ((W.setCell ⟨w.heap.size, 0, none⟩ v0).setCell ⟨w.heap.size, 1, none⟩ v1) l v1 ∧ RdTo B g e st w ((W.setCell ⟨w.heap.size, 0, none⟩ v0).setCell ⟨w.heap.size, 1, none⟩ v1) := by
  have r1 := blk_put h.rb 0 v0 (cs' := #[v0, .slice none 0 0]) rfl
  have r2 := blk_put r1 1 v1 (cs' := #[v0, v1]) rfl
  have c0 := blk_cell r2 0
  have c1 := blk_cell r2 1
  have hk : ∀ {W : World} {cs : Array Value}, W.heap[w.heap.size]? = some (.cells cs 39 (0, 0)) → ∀ k, some w.heap.size = some k → ∃ cells t, W.heap[k]? = some (.cells cells t (0, 0)) ∧ t ≠ 65 ∧ t ≠ 69 ∧ t ≠ 9 := by
    intro W cs hb k hk
    injection hk with hk
    subst hk
    exact ⟨_, _, hb, by decide, by decide, by decide⟩
  exact ⟨by simpa using c0, by simpa using c1, Kd.R_set (Kd.R_set h.cel h.rb (by simp [k41, Kd.iso, Kd.pair, Kd.int, Kd.string, Kd.scalar]) 0 v0) r1 (by simp [k41, Kd.iso, Kd.pair, Kd.int, Kd.string, Kd.scalar]) 1 v1,
    Kd.R_set (Kd.R_set h.lits h.rb (by simp [k43, Kd.bool, Kd.slice, k41, Kd.iso, Kd.pair, Kd.int, Kd.string, Kd.scalar]) 0 v0) r1 (by simp [k43, Kd.bool, Kd.slice, k41, Kd.iso, Kd.pair, Kd.int, Kd.string, Kd.scalar]) 1 v1,
    (h.rd.st.grown (grown_set _ _ _ _) (hk h.rb)).grown (grown_set _ _ _ _) (hk r1), (h.rd.fr.setNew (Nat.le_refl _)).setNew (Nat.le_refl _)⟩
end
theorem CS.clg {B g cb : Nat} {e : Int} {st : RS} {x : List Cel} {l : List LitR} {v0 v1 : Value} {w W wn : World} (h : CS B g e st cb x l v0 v1 w W) (hg : W.grownBy wn v1.ownBlock) : wn.heap[cb]? = some (.cells #[v0, v1] 39 (0, 0)) := by
  obtain ⟨inner, ho⟩ := Kd.R_own h.lits
  exact blk_grown h.cl hg (own_ne ho h.cl (by decide))
theorem wholeR_ok {k : Nat} {e : Int} {atom : Bool} {s : RS} {x : List Cel × RS} (h : wholeR k e atom s = some (.ok x)) : upToR k e 700 s = some (.ok x) := by
  unfold wholeR at h
  obtain ⟨y, h1, h2⟩ := Res.bind_ok h
  split at h2
  · cases h2
  · split at h2
    · cases h2
    · rw [h1, ← (by simpa [Res.ok_eq] using h2 : y = x)]
theorem tail_ok {l : List Tok} {ns : List (List UInt8)} (h : Ok (l, ns)) : Ok (l.tail, ns) := ⟨fun t ht => h.1 t (List.mem_of_mem_tail ht), by have := h.2; simp only [List.length_tail] at this ⊢; omega⟩
def endC (e : Int) (hd : List Cel) (b : List LitR × RS) : Res (ClR × RS) :=
  match b.2.1 with
  | [] => Res.err e 51
  | t :: r => if t.kind = 6 then Res.ok ((hd, b.1), (r, b.2.2)) else Res.err (oddR e (t :: r)).1 (oddR e (t :: r)).2

set_option maxHeartbeats 40000000 in
set_option maxRecDepth 100000 in
theorem rd_clause {B g : Nat} {e : Int} {k : Nat} (rest : List Tok) (ns0 : List (List UInt8)) (q : Except (Int × Int) (ClR × RS)) (w : World) (hq : clauseR k e rest = some q) (hP : Pre B g e (rest, ns0) w) :
    Calls Tryd.prog 34 #[.pointer (some ⟨g, 0, none⟩)] w (RdEnd B g e (fun w' c v => ∃ v0 v1, v = .agg #[v0, v1] ∧ CelAt w.heap.size w' c.1 v0 ∧ LitsAt w.heap.size w' c.2 v1) w q) := by
  have hfl := fld_at
  have hfk := fld_kind
  unfold clauseR at hq
  have hB := Aside0.mk hP.base
  have HOK : Aside0 (Ok (rest, [])) := ⟨⟨hP.ok.1, by have := hP.ok.2; simp only [List.length_nil] at this ⊢; omega⟩⟩
  obtain ⟨vr, vn, hA⟩ := hP.st
  have c2 := blk_cell hA.blk 2
  have z2 := blk_frozen hA.blk 2
  have gl := blk_lt hA.blk
  simp at c2
  have gn1 : ¬ g = w.heap.size := by omega
  have gn2 : ¬ w.heap.size = g := by omega
  have hs2 := hA.set2 (ns := []) (vn' := .slice none 0 0) (Kd.R_nil _ _ _ _ _)
  have HT : Aside0 (RdTo B g e (rest, []) w ((w.setCell ⟨g, 2, none⟩ (.slice none 0 0)).alloc (.cells #[.slice none 0 0, .slice none 0 0] 39))) := ⟨RdTo.below (w1 := w.setCell ⟨g, 2, none⟩ (.slice none 0 0)) ⟨⟨_, _, hs2.1⟩, hs2.2⟩ (below_alloc (Below.refl _ _) _)⟩
  have HRB : Aside0 (((w.setCell ⟨g, 2, none⟩ (.slice none 0 0)).alloc (.cells #[.slice none 0 0, .slice none 0 0] 39)).heap[w.heap.size]? = some (.cells #[.slice none 0 0, .slice none 0 0] 39 (0, 0))) := ⟨heap_new _ _ _ (by simp [World.setCell])⟩
  have HT0 := HT
  clear hA hP hs2
  rcases Res.bind_some hq with ⟨⟨hx, st⟩, hu, hq2⟩ | ⟨x, hu, rfl⟩
  · clear hq
    simp only at hq2
    have HU := Aside0.mk hu
    have HOh := Aside0.mk ((celW5 e k).1 _ _ _ (wholeR_ok hu) HOK.out).1
    clear hu
    obtain ⟨bq, hbq, hbe⟩ : ∃ bq, (if isT st.1 4 [58, 45] = true then bodyR k e [] (st.1.tail, st.2) else Res.ok ([], st)) = some bq ∧ (match bq with | .ok b => endC e hx b | .error x => some (.error x)) = some q := by
      rcases Res.bind_some hq2 with ⟨b, h1, h2⟩ | ⟨x, h1, h2⟩
      · exact ⟨_, h1, h2⟩
      · exact ⟨_, h1, by rw [h2]⟩
    clear hq2
    cases hi : isT st.1 4 [58, 45] with
    | false =>
      rw [hi, if_neg (by decide)] at hbq
      obtain rfl : Except.ok ([], st) = bq := Option.some.inj hbq
      have HI := Lib.hid hi
      have HEND : Aside0 (endC e hx (([] : List LitR), st) = some q) := ⟨hbe⟩
      clear hbq hbe hi
      go_enter Tryd.func34, Tryd.ntmps34
      go_wp2_with (first | (go_at_call 27; refine (rd_whole true (rest, []) _ _ HU.out ⟨HT.out.st, Nat.le_trans hB.out HT.out.fr.size, HOK.out⟩).mono ?_; rintro en w1 ⟨v1, rfl, hV, hR⟩; obtain ⟨xA, xc, hve⟩ := hV.slice; subst hve; have HX := Aside0.mk (hV.low HT.out.fr.size); have HR1 := Aside0.mk hR; clear hV hR) | (go_at_call 41; have hI_ := HI; clear HI; have HC := Aside0.mk (CS.start (st := st) (v0 := (Value.slice xA hx.length xc)) HT0.out hB.out HR1.out ((HR1.out.fr.block _ (blk_lt HRB.out) (.inr (not_vol HRB.out (by decide) (by decide)))).trans HRB.out) HX.out HOh.out); clear HX HR1 HT HRB; obtain ⟨cb, hcb⟩ : ∃ cb : Nat, w1.heap.size = cb := ⟨_, rfl⟩; rw [hcb] at HC ⊢; clear hcb; refine (rd_take ⟨HC.out.rd.st⟩ 4 (by decide) [58, 45]).mono ?_; rw [hI_.out]; clear hI_; rw [if_neg (by decide)]; rintro en w1 ⟨rfl, hR⟩; replace HC := Aside0.mk (HC.out.to (st' := st) hR HOh.out); clear hR; (try clear q0 q1 p0 p1 y0 y1 y2 y3 e1 e2 e3 e4 e5); obtain ⟨q0, q1, p0, p1, y0, y1, y2, y3, e1, e2, e3, e4, e5⟩ := HC.out.cells))
      go_loopg [4, 5] 1 (fun gk v4 v5 wr => v4 = .bool false ∧ gk = 1 ∧ Aside0 (CS B g e st cb hx [] (Value.slice xA hx.length xc) (.slice none 0 0) w wr))
      case atStart => exact ⟨rfl, rfl, HC⟩
      case round =>
        obtain ⟨rfl, rfl, HC⟩ := hrel
        have hend := HEND.out
        obtain ⟨t, ht⟩ : ∃ t : Tok, t = nxtR e st.1 := ⟨_, rfl⟩
        have HN := Lib.hid ht
        obtain ⟨st1, st2⟩ := st
        cases st1 with
        | nil =>
          obtain rfl : Except.error (e, 51) = q := Option.some.inj hend
          have b6 : (t.kind != 6) = true := by rw [ht]; rfl
          clear ht hend HEND
          go_wp2_with (first | (go_at_call 28; have hN_ := HN; clear HN; refine (rd_next ⟨HC.out.rd.st⟩).mono ?_; rw [← hN_.out, tokV]; clear hN_; rintro en w1 ⟨rfl, hb⟩; replace HC := Aside0.mk (HC.out.below hb); clear hb; (try clear q0 q1 p0 p1 y0 y1 y2 y3 e1 e2 e3 e4 e5); obtain ⟨q0, q1, p0, p1, y0, y1, y2, y3, e1, e2, e3, e4, e5⟩ := HC.out.cells) | (go_at_call 42; refine (rd_odd ⟨HC.out.rd.st⟩).mono ?_; rintro en w1 ⟨rfl, hb⟩; have HF := Aside0.mk ((HC.out.rd.below hb).fr); clear hb))
          exact ⟨rfl, rfl, HF.out⟩
        | cons t2 r =>
          obtain rfl : t = t2 := ht
          by_cases c6 : t.kind = 6
          · have hend2 : Except.ok ((hx, ([] : List LitR)), (r, st2)) = q := by
              unfold endC at hend
              simp only at hend
              rw [if_pos c6] at hend
              exact Option.some.inj hend
            subst hend2
            have b6 : (t.kind != 6) = false := by rw [c6]; rfl
            have HOR := Aside0.mk HC.out.ok.tail
            clear hend HEND c6
            go_wp2_with (first | (go_at_call 28; have hN_ := HN; clear HN; refine (rd_next ⟨HC.out.rd.st⟩).mono ?_; rw [← hN_.out, tokV]; clear hN_; rintro en w1 ⟨rfl, hb⟩; replace HC := Aside0.mk (HC.out.below hb); clear hb; (try clear q0 q1 p0 p1 y0 y1 y2 y3 e1 e2 e3 e4 e5); obtain ⟨q0, q1, p0, p1, y0, y1, y2, y3, e1, e2, e3, e4, e5⟩ := HC.out.cells) | (go_at_call 29; refine (rd_pass ⟨HC.out.rd.st⟩).mono ?_; rintro en w1 ⟨rfl, hR⟩; replace HC := Aside0.mk (HC.out.to (st' := (r, st2)) hR HOR.out); clear hR; (try clear q0 q1 p0 p1 y0 y1 y2 y3 e1 e2 e3 e4 e5); obtain ⟨q0, q1, p0, p1, y0, y1, y2, y3, e1, e2, e3, e4, e5⟩ := HC.out.cells))
            obtain ⟨f0, f1, fx, fl, fr⟩ := HC.out.fin
            generalize hW4 : (w1.setCell ⟨w.heap.size, 0, none⟩ (Value.slice xA hx.length xc)).setCell ⟨w.heap.size, 1, none⟩ (.slice none 0 0) = W4 at f0 f1 fx fl fr ⊢
            exact bodyPost_ret (v := .agg #[(Value.slice xA hx.length xc), (.slice none 0 0)]) (by simp [results, Tryd.results34, go_sem, f0, f1]) rfl ⟨_, rfl, ⟨_, _, rfl, fx, fl⟩, fr⟩
          · have hend2 : Except.error (oddR e (t :: r)) = q := by
              unfold endC at hend
              simp only at hend
              rw [if_neg c6] at hend
              exact Option.some.inj hend
            subst hend2
            have b6 : (t.kind != 6) = true := by simpa using c6
            clear hend HEND c6
            go_wp2_with (first | (go_at_call 28; have hN_ := HN; clear HN; refine (rd_next ⟨HC.out.rd.st⟩).mono ?_; rw [← hN_.out, tokV]; clear hN_; rintro en w1 ⟨rfl, hb⟩; replace HC := Aside0.mk (HC.out.below hb); clear hb; (try clear q0 q1 p0 p1 y0 y1 y2 y3 e1 e2 e3 e4 e5); obtain ⟨q0, q1, p0, p1, y0, y1, y2, y3, e1, e2, e3, e4, e5⟩ := HC.out.cells) | (go_at_call 42; refine (rd_odd ⟨HC.out.rd.st⟩).mono ?_; rintro en w1 ⟨rfl, hb⟩; have HF := Aside0.mk ((HC.out.rd.below hb).fr); clear hb))
            exact ⟨rfl, rfl, HF.out⟩
    | true =>
      rw [hi, if_pos rfl] at hbq
      have HI := Lib.hid hi
      have HBQ0 := Aside0.mk hbq
      have HBE := Aside0.mk hbe
      clear hbq hbe hi
      go_enter Tryd.func34, Tryd.ntmps34
      go_wp2_with (first | (go_at_call 27; refine (rd_whole true (rest, []) _ _ HU.out ⟨HT.out.st, Nat.le_trans hB.out HT.out.fr.size, HOK.out⟩).mono ?_; rintro en w1 ⟨v1, rfl, hV, hR⟩; obtain ⟨xA, xc, hve⟩ := hV.slice; subst hve; have HX := Aside0.mk (hV.low HT.out.fr.size); have HR1 := Aside0.mk hR; clear hV hR) | (go_at_call 41; have hI_ := HI; clear HI; have HC := Aside0.mk (CS.start (st := st) (v0 := (Value.slice xA hx.length xc)) HT0.out hB.out HR1.out ((HR1.out.fr.block _ (blk_lt HRB.out) (.inr (not_vol HRB.out (by decide) (by decide)))).trans HRB.out) HX.out HOh.out); clear HX HR1 HT HRB; obtain ⟨cb, hcb⟩ : ∃ cb : Nat, w1.heap.size = cb := ⟨_, rfl⟩; rw [hcb] at HC ⊢; clear hcb; refine (rd_take ⟨HC.out.rd.st⟩ 4 (by decide) [58, 45]).mono ?_; rw [hI_.out]; clear hI_; rw [if_pos rfl]; rintro en w1 ⟨rfl, hR⟩; replace HC := Aside0.mk (HC.out.to (st' := (st.1.tail, st.2)) hR (tail_ok HOh.out)); clear hR; (try clear q0 q1 p0 p1 y0 y1 y2 y3 e1 e2 e3 e4 e5); obtain ⟨q0, q1, p0, p1, y0, y1, y2, y3, e1, e2, e3, e4, e5⟩ := HC.out.cells))
      go_loopg [4, 5] k (fun gk v4 v5 wr => ∃ (more : Bool) (l : List LitR) (st' : RS) (v1 : Value), v4 = .bool more ∧ gk ≤ k ∧ l.length ≤ 8 ∧ Aside0 (if more = true then bodyR gk e l st' = some bq else Except.ok (l, st') = bq) ∧ Aside0 (CS B g e st' cb hx l (Value.slice xA hx.length xc) v1 w wr))
      case atStart => exact ⟨true, [], _, _, rfl, Nat.le_refl _, by simp, ⟨HBQ0.out⟩, HC⟩
      case round =>
        obtain ⟨more, l, st', v1, rfl, hgk, hl8, HQ, HC⟩ := hrel
        clear HBQ0
        have hbq := HQ.out
        obtain ⟨lA, lc, hle⟩ := HC.out.lits.slice
        subst hle
        clear HQ q0 q1 p0 p1 y0 y1 y2 y3 e1 e2 e3 e4 e5
        obtain ⟨q0, q1, p0, p1, y0, y1, y2, y3, e1, e2, e3, e4, e5⟩ := HC.out.cells
        cases more with
        | false =>
          rw [if_neg (by decide)] at hbq
          subst hbq
          have HEND : Aside0 (endC e hx (l, st') = some q) := ⟨HBE.out⟩
          clear HBE
          have hend := HEND.out
          obtain ⟨t, ht⟩ : ∃ t : Tok, t = nxtR e st'.1 := ⟨_, rfl⟩
          have HN := Lib.hid ht
          obtain ⟨st1, st2⟩ := st'
          cases st1 with
          | nil =>
            obtain rfl : Except.error (e, 51) = q := Option.some.inj hend
            have b6 : (t.kind != 6) = true := by rw [ht]; rfl
            clear ht hend HEND
            go_wp2_with (first | (go_at_call 28; have hN_ := HN; clear HN; refine (rd_next ⟨HC.out.rd.st⟩).mono ?_; rw [← hN_.out, tokV]; clear hN_; rintro en w1 ⟨rfl, hb⟩; replace HC := Aside0.mk (HC.out.below hb); clear hb; (try clear q0 q1 p0 p1 y0 y1 y2 y3 e1 e2 e3 e4 e5); obtain ⟨q0, q1, p0, p1, y0, y1, y2, y3, e1, e2, e3, e4, e5⟩ := HC.out.cells) | (go_at_call 42; refine (rd_odd ⟨HC.out.rd.st⟩).mono ?_; rintro en w1 ⟨rfl, hb⟩; have HF := Aside0.mk ((HC.out.rd.below hb).fr); clear hb))
            exact ⟨rfl, rfl, HF.out⟩
          | cons t2 r =>
            obtain rfl : t = t2 := ht
            by_cases c6 : t.kind = 6
            · have hend2 : Except.ok ((hx, l), (r, st2)) = q := by
                unfold endC at hend
                simp only at hend
                rw [if_pos c6] at hend
                exact Option.some.inj hend
              subst hend2
              have b6 : (t.kind != 6) = false := by rw [c6]; rfl
              have HOR := Aside0.mk HC.out.ok.tail
              clear hend HEND c6
              go_wp2_with (first | (go_at_call 28; have hN_ := HN; clear HN; refine (rd_next ⟨HC.out.rd.st⟩).mono ?_; rw [← hN_.out, tokV]; clear hN_; rintro en w1 ⟨rfl, hb⟩; replace HC := Aside0.mk (HC.out.below hb); clear hb; (try clear q0 q1 p0 p1 y0 y1 y2 y3 e1 e2 e3 e4 e5); obtain ⟨q0, q1, p0, p1, y0, y1, y2, y3, e1, e2, e3, e4, e5⟩ := HC.out.cells) | (go_at_call 29; refine (rd_pass ⟨HC.out.rd.st⟩).mono ?_; rintro en w1 ⟨rfl, hR⟩; replace HC := Aside0.mk (HC.out.to (st' := (r, st2)) hR HOR.out); clear hR; (try clear q0 q1 p0 p1 y0 y1 y2 y3 e1 e2 e3 e4 e5); obtain ⟨q0, q1, p0, p1, y0, y1, y2, y3, e1, e2, e3, e4, e5⟩ := HC.out.cells))
              obtain ⟨f0, f1, fx, fl, fr⟩ := HC.out.fin
              generalize hW4 : (w1.setCell ⟨w.heap.size, 0, none⟩ (Value.slice xA hx.length xc)).setCell ⟨w.heap.size, 1, none⟩ (.slice lA l.length lc) = W4 at f0 f1 fx fl fr ⊢
              exact bodyPost_ret (v := .agg #[(Value.slice xA hx.length xc), (.slice lA l.length lc)]) (by simp [results, Tryd.results34, go_sem, f0, f1]) rfl ⟨_, rfl, ⟨_, _, rfl, fx, fl⟩, fr⟩
            · have hend2 : Except.error (oddR e (t :: r)) = q := by
                unfold endC at hend
                simp only at hend
                rw [if_neg c6] at hend
                exact Option.some.inj hend
              subst hend2
              have b6 : (t.kind != 6) = true := by simpa using c6
              clear hend HEND c6
              go_wp2_with (first | (go_at_call 28; have hN_ := HN; clear HN; refine (rd_next ⟨HC.out.rd.st⟩).mono ?_; rw [← hN_.out, tokV]; clear hN_; rintro en w1 ⟨rfl, hb⟩; replace HC := Aside0.mk (HC.out.below hb); clear hb; (try clear q0 q1 p0 p1 y0 y1 y2 y3 e1 e2 e3 e4 e5); obtain ⟨q0, q1, p0, p1, y0, y1, y2, y3, e1, e2, e3, e4, e5⟩ := HC.out.cells) | (go_at_call 42; refine (rd_odd ⟨HC.out.rd.st⟩).mono ?_; rintro en w1 ⟨rfl, hb⟩; have HF := Aside0.mk ((HC.out.rd.below hb).fr); clear hb))
              exact ⟨rfl, rfl, HF.out⟩
        | true =>
          rw [if_pos rfl] at hbq
          obtain ⟨j, rfl⟩ : ∃ j, gk = j + 1 := by
            cases gk with
            | zero => rw [bodyR] at hbq; cases hbq
            | succ j => exact ⟨j, rfl⟩
          rw [bodyR] at hbq
          by_cases h8 : l.length = 8
          · rw [if_pos h8] at hbq
            obtain ⟨t, ht⟩ : ∃ t : Tok, t = nxtR e st'.1 := ⟨_, rfl⟩
            have hpl : placeR e st'.1 = t.at' := by rw [ht]; cases st'.1 <;> rfl
            rw [hpl] at hbq
            obtain rfl : Except.error (t.at', 2) = bq := Option.some.inj hbq
            obtain rfl : Except.error (t.at', 2) = q := Option.some.inj HBE.out
            have HN := Lib.hid ht
            have b8 : ((l.length : Int) == 8) = true := by rw [h8]; rfl
            have b8' : (l.length == 8) = true := by rw [h8]; rfl
            clear hbq h8 HBE ht hpl
            go_wp2_with (first | (go_at_call 28; have hN_ := HN; clear HN; refine (rd_next ⟨HC.out.rd.st⟩).mono ?_; rw [← hN_.out, tokV]; clear hN_; rintro en w1 ⟨rfl, hb⟩; replace HC := Aside0.mk (HC.out.below hb); clear hb; (try clear q0 q1 p0 p1 y0 y1 y2 y3 e1 e2 e3 e4 e5); obtain ⟨q0, q1, p0, p1, y0, y1, y2, y3, e1, e2, e3, e4, e5⟩ := HC.out.cells))
            exact ⟨rfl, rfl, HC.out.rd.fr⟩
          · rw [if_neg h8] at hbq
            have b8 : ((l.length : Int) == 8) = false := by simpa using (by omega : ¬ (l.length : Int) = 8)
            have b8' : (l.length == 8) = false := by simpa using h8
            obtain ⟨ng, hng⟩ : ∃ ng : Bool, isT st'.1 4 [92, 43] = ng := ⟨_, rfl⟩
            rw [hng] at hbq
            obtain ⟨s2, hs2⟩ : ∃ s2 : RS, (if ng = true then (st'.1.tail, st'.2) else st') = s2 := ⟨_, rfl⟩
            rw [hs2] at hbq
            have HO2 : Aside0 (Ok s2) := ⟨by
              rw [← hs2]
              cases ng with
              | true => rw [if_pos rfl]; exact tail_ok HC.out.ok
              | false => rw [if_neg (by decide)]; exact HC.out.ok⟩
            have hl7 : l.length + 1 ≤ 8 := by omega
            have NG := Lib.hid hng
            have NS := Lib.hid hs2
            clear h8 hng hs2
            rcases Res.bind_some hbq with ⟨x, hu, hq2⟩ | ⟨x, hu, rfl⟩
            · have HU := Aside0.mk hu
              have HOx := Aside0.mk ((celW5 e j).1 _ _ _ (wholeR_ok hu) HO2.out).1
              clear hu hbq
              cases hi2 : isT x.2.1 5 [44] with
              | true =>
                rw [hi2, if_pos rfl] at hq2
                have HI2 := Lib.hid hi2
                have HQ2 := Aside0.mk hq2
                clear hi2 hq2
                go_wp2_with (first | (go_at_call 41; have hI_ := NG; clear NG; refine (rd_take ⟨HC.out.rd.st⟩ 4 (by decide) [92, 43]).mono ?_; rw [hI_.out, NS.out]; clear hI_; rintro en w1 ⟨rfl, hR⟩; replace HC := Aside0.mk (HC.out.to (st' := s2) hR HO2.out); clear hR; (try clear q0 q1 p0 p1 y0 y1 y2 y3 e1 e2 e3 e4 e5); obtain ⟨q0, q1, p0, p1, y0, y1, y2, y3, e1, e2, e3, e4, e5⟩ := HC.out.cells))
                refine wp_region_any (by kernel_rfl) ?_
                try (change wpAny _ _ _ _ _ _ _ (World.drew _))
                refine wpAny_take (i := 0) (v := ?_) rfl (by kernel_rfl) (by kernel_rfl) (by kernel_rfl) (fun _ _ _ h => h) (Or.inl ⟨by rfl, ?_⟩) ?_
                rotate_left
                · intro w
                  go_simp
                  try with_reducible rfl
                refine wpAny_take (i := 2) (v := ?_) rfl (by kernel_rfl) (by kernel_rfl) (by kernel_rfl) (fun _ _ _ h => h) (Or.inl ⟨by rfl, ?_⟩) ?_
                rotate_left
                · intro w
                  go_simp
                  try with_reducible rfl
                refine wpAny_take (i := 3) (v := ?_) rfl (by kernel_rfl) (by kernel_rfl) (by kernel_rfl) (fun _ _ _ h => h) (Or.inl ⟨by rfl, ?_⟩) ?_
                rotate_left
                · intro w
                  go_simp
                  try with_reducible rfl
                refine wpAny_ready (rs := [1, 4]) (by kernel_rfl) (by simp) ?_
                refine AllReady.cons rfl (fun K hK => ?_) (AllReady.cons rfl (fun K hK => ?_) AllReady.nil)
                · go_simp
                  refine hK _ _ ?_
                  clear hK K
                  refine wpAny_ready (rs := [4]) (by kernel_rfl) (by simp) ?_
                  refine AllReady.cons rfl (fun K hK => ?_) AllReady.nil
                  go_simp
                  go_wp2_with (go_at_call 27; refine (rd_whole true s2 _ _ HU.out ⟨(HC.out.below (by repeat (first | exact Below.refl _ _ | apply below_alloc | apply pw_below_drewN | apply below_drew1))).rd.st, Nat.le_trans hB.out (HC.out.below (by repeat (first | exact Below.refl _ _ | apply below_alloc | apply pw_below_drewN | apply below_drew1))).rd.fr.size, HO2.out⟩).mono ?_; rintro en w1 ⟨v1, rfl, hV, hR⟩; obtain ⟨xB, xd, hve⟩ := hV.slice; subst hve; have HV := Aside0.mk (hV.low (HC.out.below (by repeat (first | exact Below.refl _ _ | apply below_alloc | apply pw_below_drewN | apply below_drew1))).rd.fr.size); replace HC := Aside0.mk ((HC.out.below (by repeat (first | exact Below.refl _ _ | apply below_alloc | apply pw_below_drewN | apply below_drew1))).to hR HOx.out); clear hV hR; (try clear q0 q1 p0 p1 y0 y1 y2 y3 e1 e2 e3 e4 e5); obtain ⟨q0, q1, p0, p1, y0, y1, y2, y3, e1, e2, e3, e4, e5⟩ := HC.out.cells)
                  refine wpAny_take (i := 5) (v := ?_) rfl (by kernel_rfl) (by kernel_rfl) (by kernel_rfl) (fun _ _ _ h => h) (Or.inl ⟨by rfl, ?_⟩) ?_
                  rotate_left
                  · intro w
                    go_simp
                    try with_reducible rfl
                  refine wpAny_ready (rs := [6]) (by kernel_rfl) (by simp) ?_
                  refine AllReady.cons rfl (fun K hK => ?_) AllReady.nil
                  go_simp
                  refine hK _ _ ?_
                  clear hK K
                  refine wpAny_ready (rs := [7]) (by kernel_rfl) (by simp) ?_
                  refine AllReady.cons rfl (fun K hK => ?_) AllReady.nil
                  refine Kd.R_append_step k43 (w0 := w1) w.heap.size (by rfl) (.tmp 29) (.tmp 34) 37 43 (.agg #[.bool false, .slice none 0 0]) 32 rfl Tryd.underlying37 infoLit rfl (by decide) (by omega) (Value.slice lA l.length lc) (l.map litS) (litS (ng, x.1)) [.bool ng, (Value.slice xB x.1.length xd)] (fun _ => True) (fun k => True ∧ some k ≠ Value.ownBlock (Value.slice lA l.length lc)) (by first | rfl | (go_simp; done)) (by first | (go_simp; done) | (go_simp; rfl)) (k43_mkM _ _ _ (litS (ng, x.1)) (Kd.R_apartR (d' := k43) (e' := 43) HV.out HC.out.lits (by decide))) (fun _ hk => hk) (fun _ _ => trivial) HC.out.lits (Below.refl _ _) HC.out.rd.fr.size (by rw [List.length_map]; omega) ?_
                  intro vn wn hon hbn hgn han
                  obtain ⟨An, cn, hvn⟩ := Kd.R_slice hon
                  rw [List.length_append, List.length_map, List.length_singleton] at hvn
                  subst hvn
                  have hcl := HC.out.clg hgn
                  have u1 := blk_cell hcl 1
                  have u2 := blk_frozen hcl 1
                  simp at u1
                  have HCn := Aside0.mk (HC.out.push (lt := (ng, x.1)) hgn (by rw [LitsAt, List.map_append]; exact hon))
                  clear HC hon hbn hgn han hcl
                  refine hK _ _ ?_
                  clear hK K
                  refine wpAny_ready (rs := [8]) (by kernel_rfl) (by simp) ?_
                  refine AllReady.cons rfl (fun K hK => ?_) AllReady.nil
                  go_simp
                  refine hK _ _ ?_
                  clear hK K
                  refine wpAny_ready (rs := [9]) (by kernel_rfl) (by simp) ?_
                  refine AllReady.cons rfl (fun K hK => ?_) AllReady.nil
                  go_simp
                  refine hK _ _ ?_
                  clear hK K
                  refine wpAny_done (by kernel_rfl) ?_ _
                  have HC := HCn
                  clear HCn u1 u2 q0 q1 p0 p1 y0 y1 y2 y3 e1 e2 e3 e4 e5
                  obtain ⟨q0, q1, p0, p1, y0, y1, y2, y3, e1, e2, e3, e4, e5⟩ := HC.out.cells
                  go_wp2_with (go_at_call 41; have hI_ := HI2; clear HI2; refine (rd_take ⟨HC.out.rd.st⟩ 5 (by decide) [44]).mono ?_; rw [hI_.out]; clear hI_; rw [if_pos rfl]; rintro en w1 ⟨rfl, hR⟩; replace HC := Aside0.mk (HC.out.to (st' := (x.2.1.tail, x.2.2)) hR (tail_ok HOx.out)); clear hR; (try clear q0 q1 p0 p1 y0 y1 y2 y3 e1 e2 e3 e4 e5); obtain ⟨q0, q1, p0, p1, y0, y1, y2, y3, e1, e2, e3, e4, e5⟩ := HC.out.cells)
                  go_roundg j
                  case measure => omega
                  case rel => exact ⟨true, _, _, _, rfl, by omega, by simp; omega, HQ2, HC⟩
                · go_simp
                  go_wp2_with (go_at_call 27; refine (rd_whole true s2 _ _ HU.out ⟨(HC.out.below (by repeat (first | exact Below.refl _ _ | apply below_alloc | apply pw_below_drewN | apply below_drew1))).rd.st, Nat.le_trans hB.out (HC.out.below (by repeat (first | exact Below.refl _ _ | apply below_alloc | apply pw_below_drewN | apply below_drew1))).rd.fr.size, HO2.out⟩).mono ?_; rintro en w1 ⟨v1, rfl, hV, hR⟩; obtain ⟨xB, xd, hve⟩ := hV.slice; subst hve; have HV := Aside0.mk (hV.low (HC.out.below (by repeat (first | exact Below.refl _ _ | apply below_alloc | apply pw_below_drewN | apply below_drew1))).rd.fr.size); replace HC := Aside0.mk ((HC.out.below (by repeat (first | exact Below.refl _ _ | apply below_alloc | apply pw_below_drewN | apply below_drew1))).to hR HOx.out); clear hV hR; (try clear q0 q1 p0 p1 y0 y1 y2 y3 e1 e2 e3 e4 e5); obtain ⟨q0, q1, p0, p1, y0, y1, y2, y3, e1, e2, e3, e4, e5⟩ := HC.out.cells)
                  refine wpAny_take (i := 5) (v := ?_) rfl (by kernel_rfl) (by kernel_rfl) (by kernel_rfl) (fun _ _ _ h => h) (Or.inl ⟨by rfl, ?_⟩) ?_
                  rotate_left
                  · intro w
                    go_simp
                    try with_reducible rfl
                  refine wpAny_ready (rs := [1, 6]) (by kernel_rfl) (by simp) ?_
                  refine AllReady.cons rfl (fun K hK => ?_) (AllReady.cons rfl (fun K hK => ?_) AllReady.nil)
                  · go_simp
                    refine hK _ _ ?_
                    clear hK K
                    refine wpAny_ready (rs := [6]) (by kernel_rfl) (by simp) ?_
                    refine AllReady.cons rfl (fun K hK => ?_) AllReady.nil
                    go_simp
                    refine hK _ _ ?_
                    clear hK K
                    refine wpAny_ready (rs := [7]) (by kernel_rfl) (by simp) ?_
                    refine AllReady.cons rfl (fun K hK => ?_) AllReady.nil
                    refine Kd.R_append_step k43 (w0 := w1) w.heap.size (by rfl) (.tmp 29) (.tmp 34) 37 43 (.agg #[.bool false, .slice none 0 0]) 32 rfl Tryd.underlying37 infoLit rfl (by decide) (by omega) (Value.slice lA l.length lc) (l.map litS) (litS (ng, x.1)) [.bool ng, (Value.slice xB x.1.length xd)] (fun _ => True) (fun k => True ∧ some k ≠ Value.ownBlock (Value.slice lA l.length lc)) (by first | rfl | (go_simp; done)) (by first | (go_simp; done) | (go_simp; rfl)) (k43_mkM _ _ _ (litS (ng, x.1)) (Kd.R_apartR (d' := k43) (e' := 43) HV.out HC.out.lits (by decide))) (fun _ hk => hk) (fun _ _ => trivial) HC.out.lits (Below.refl _ _) HC.out.rd.fr.size (by rw [List.length_map]; omega) ?_
                    intro vn wn hon hbn hgn han
                    obtain ⟨An, cn, hvn⟩ := Kd.R_slice hon
                    rw [List.length_append, List.length_map, List.length_singleton] at hvn
                    subst hvn
                    have hcl := HC.out.clg hgn
                    have u1 := blk_cell hcl 1
                    have u2 := blk_frozen hcl 1
                    simp at u1
                    have HCn := Aside0.mk (HC.out.push (lt := (ng, x.1)) hgn (by rw [LitsAt, List.map_append]; exact hon))
                    clear HC hon hbn hgn han hcl
                    refine hK _ _ ?_
                    clear hK K
                    refine wpAny_ready (rs := [8]) (by kernel_rfl) (by simp) ?_
                    refine AllReady.cons rfl (fun K hK => ?_) AllReady.nil
                    go_simp
                    refine hK _ _ ?_
                    clear hK K
                    refine wpAny_ready (rs := [9]) (by kernel_rfl) (by simp) ?_
                    refine AllReady.cons rfl (fun K hK => ?_) AllReady.nil
                    go_simp
                    refine hK _ _ ?_
                    clear hK K
                    refine wpAny_done (by kernel_rfl) ?_ _
                    have HC := HCn
                    clear HCn u1 u2 q0 q1 p0 p1 y0 y1 y2 y3 e1 e2 e3 e4 e5
                    obtain ⟨q0, q1, p0, p1, y0, y1, y2, y3, e1, e2, e3, e4, e5⟩ := HC.out.cells
                    go_wp2_with (go_at_call 41; have hI_ := HI2; clear HI2; refine (rd_take ⟨HC.out.rd.st⟩ 5 (by decide) [44]).mono ?_; rw [hI_.out]; clear hI_; rw [if_pos rfl]; rintro en w1 ⟨rfl, hR⟩; replace HC := Aside0.mk (HC.out.to (st' := (x.2.1.tail, x.2.2)) hR (tail_ok HOx.out)); clear hR; (try clear q0 q1 p0 p1 y0 y1 y2 y3 e1 e2 e3 e4 e5); obtain ⟨q0, q1, p0, p1, y0, y1, y2, y3, e1, e2, e3, e4, e5⟩ := HC.out.cells)
                    go_roundg j
                    case measure => omega
                    case rel => exact ⟨true, _, _, _, rfl, by omega, by simp; omega, HQ2, HC⟩
                  · go_simp
                    refine hK _ _ ?_
                    clear hK K
                    refine wpAny_ready (rs := [1]) (by kernel_rfl) (by simp) ?_
                    refine AllReady.cons rfl (fun K hK => ?_) AllReady.nil
                    go_simp
                    refine hK _ _ ?_
                    clear hK K
                    refine wpAny_ready (rs := [7]) (by kernel_rfl) (by simp) ?_
                    refine AllReady.cons rfl (fun K hK => ?_) AllReady.nil
                    refine Kd.R_append_step k43 (w0 := w1) w.heap.size (by rfl) (.tmp 29) (.tmp 34) 37 43 (.agg #[.bool false, .slice none 0 0]) 32 rfl Tryd.underlying37 infoLit rfl (by decide) (by omega) (Value.slice lA l.length lc) (l.map litS) (litS (ng, x.1)) [.bool ng, (Value.slice xB x.1.length xd)] (fun _ => True) (fun k => True ∧ some k ≠ Value.ownBlock (Value.slice lA l.length lc)) (by first | rfl | (go_simp; done)) (by first | (go_simp; done) | (go_simp; rfl)) (k43_mkM _ _ _ (litS (ng, x.1)) (Kd.R_apartR (d' := k43) (e' := 43) HV.out HC.out.lits (by decide))) (fun _ hk => hk) (fun _ _ => trivial) HC.out.lits (Below.refl _ _) HC.out.rd.fr.size (by rw [List.length_map]; omega) ?_
                    intro vn wn hon hbn hgn han
                    obtain ⟨An, cn, hvn⟩ := Kd.R_slice hon
                    rw [List.length_append, List.length_map, List.length_singleton] at hvn
                    subst hvn
                    have hcl := HC.out.clg hgn
                    have u1 := blk_cell hcl 1
                    have u2 := blk_frozen hcl 1
                    simp at u1
                    have HCn := Aside0.mk (HC.out.push (lt := (ng, x.1)) hgn (by rw [LitsAt, List.map_append]; exact hon))
                    clear HC hon hbn hgn han hcl
                    refine hK _ _ ?_
                    clear hK K
                    refine wpAny_ready (rs := [8]) (by kernel_rfl) (by simp) ?_
                    refine AllReady.cons rfl (fun K hK => ?_) AllReady.nil
                    go_simp
                    refine hK _ _ ?_
                    clear hK K
                    refine wpAny_ready (rs := [9]) (by kernel_rfl) (by simp) ?_
                    refine AllReady.cons rfl (fun K hK => ?_) AllReady.nil
                    go_simp
                    refine hK _ _ ?_
                    clear hK K
                    refine wpAny_done (by kernel_rfl) ?_ _
                    have HC := HCn
                    clear HCn u1 u2 q0 q1 p0 p1 y0 y1 y2 y3 e1 e2 e3 e4 e5
                    obtain ⟨q0, q1, p0, p1, y0, y1, y2, y3, e1, e2, e3, e4, e5⟩ := HC.out.cells
                    go_wp2_with (go_at_call 41; have hI_ := HI2; clear HI2; refine (rd_take ⟨HC.out.rd.st⟩ 5 (by decide) [44]).mono ?_; rw [hI_.out]; clear hI_; rw [if_pos rfl]; rintro en w1 ⟨rfl, hR⟩; replace HC := Aside0.mk (HC.out.to (st' := (x.2.1.tail, x.2.2)) hR (tail_ok HOx.out)); clear hR; (try clear q0 q1 p0 p1 y0 y1 y2 y3 e1 e2 e3 e4 e5); obtain ⟨q0, q1, p0, p1, y0, y1, y2, y3, e1, e2, e3, e4, e5⟩ := HC.out.cells)
                    go_roundg j
                    case measure => omega
                    case rel => exact ⟨true, _, _, _, rfl, by omega, by simp; omega, HQ2, HC⟩
              | false =>
                rw [hi2, if_neg (by decide)] at hq2
                have HI2 := Lib.hid hi2
                have hq3 := Option.some.inj hq2
                have HQ2 := Aside0.mk hq3
                clear hi2 hq2 hq3
                go_wp2_with (first | (go_at_call 41; have hI_ := NG; clear NG; refine (rd_take ⟨HC.out.rd.st⟩ 4 (by decide) [92, 43]).mono ?_; rw [hI_.out, NS.out]; clear hI_; rintro en w1 ⟨rfl, hR⟩; replace HC := Aside0.mk (HC.out.to (st' := s2) hR HO2.out); clear hR; (try clear q0 q1 p0 p1 y0 y1 y2 y3 e1 e2 e3 e4 e5); obtain ⟨q0, q1, p0, p1, y0, y1, y2, y3, e1, e2, e3, e4, e5⟩ := HC.out.cells))
                refine wp_region_any (by kernel_rfl) ?_
                try (change wpAny _ _ _ _ _ _ _ (World.drew _))
                refine wpAny_take (i := 0) (v := ?_) rfl (by kernel_rfl) (by kernel_rfl) (by kernel_rfl) (fun _ _ _ h => h) (Or.inl ⟨by rfl, ?_⟩) ?_
                rotate_left
                · intro w
                  go_simp
                  try with_reducible rfl
                refine wpAny_take (i := 2) (v := ?_) rfl (by kernel_rfl) (by kernel_rfl) (by kernel_rfl) (fun _ _ _ h => h) (Or.inl ⟨by rfl, ?_⟩) ?_
                rotate_left
                · intro w
                  go_simp
                  try with_reducible rfl
                refine wpAny_take (i := 3) (v := ?_) rfl (by kernel_rfl) (by kernel_rfl) (by kernel_rfl) (fun _ _ _ h => h) (Or.inl ⟨by rfl, ?_⟩) ?_
                rotate_left
                · intro w
                  go_simp
                  try with_reducible rfl
                refine wpAny_ready (rs := [1, 4]) (by kernel_rfl) (by simp) ?_
                refine AllReady.cons rfl (fun K hK => ?_) (AllReady.cons rfl (fun K hK => ?_) AllReady.nil)
                · go_simp
                  refine hK _ _ ?_
                  clear hK K
                  refine wpAny_ready (rs := [4]) (by kernel_rfl) (by simp) ?_
                  refine AllReady.cons rfl (fun K hK => ?_) AllReady.nil
                  go_simp
                  go_wp2_with (go_at_call 27; refine (rd_whole true s2 _ _ HU.out ⟨(HC.out.below (by repeat (first | exact Below.refl _ _ | apply below_alloc | apply pw_below_drewN | apply below_drew1))).rd.st, Nat.le_trans hB.out (HC.out.below (by repeat (first | exact Below.refl _ _ | apply below_alloc | apply pw_below_drewN | apply below_drew1))).rd.fr.size, HO2.out⟩).mono ?_; rintro en w1 ⟨v1, rfl, hV, hR⟩; obtain ⟨xB, xd, hve⟩ := hV.slice; subst hve; have HV := Aside0.mk (hV.low (HC.out.below (by repeat (first | exact Below.refl _ _ | apply below_alloc | apply pw_below_drewN | apply below_drew1))).rd.fr.size); replace HC := Aside0.mk ((HC.out.below (by repeat (first | exact Below.refl _ _ | apply below_alloc | apply pw_below_drewN | apply below_drew1))).to hR HOx.out); clear hV hR; (try clear q0 q1 p0 p1 y0 y1 y2 y3 e1 e2 e3 e4 e5); obtain ⟨q0, q1, p0, p1, y0, y1, y2, y3, e1, e2, e3, e4, e5⟩ := HC.out.cells)
                  refine wpAny_take (i := 5) (v := ?_) rfl (by kernel_rfl) (by kernel_rfl) (by kernel_rfl) (fun _ _ _ h => h) (Or.inl ⟨by rfl, ?_⟩) ?_
                  rotate_left
                  · intro w
                    go_simp
                    try with_reducible rfl
                  refine wpAny_ready (rs := [6]) (by kernel_rfl) (by simp) ?_
                  refine AllReady.cons rfl (fun K hK => ?_) AllReady.nil
                  go_simp
                  refine hK _ _ ?_
                  clear hK K
                  refine wpAny_ready (rs := [7]) (by kernel_rfl) (by simp) ?_
                  refine AllReady.cons rfl (fun K hK => ?_) AllReady.nil
                  refine Kd.R_append_step k43 (w0 := w1) w.heap.size (by rfl) (.tmp 29) (.tmp 34) 37 43 (.agg #[.bool false, .slice none 0 0]) 32 rfl Tryd.underlying37 infoLit rfl (by decide) (by omega) (Value.slice lA l.length lc) (l.map litS) (litS (ng, x.1)) [.bool ng, (Value.slice xB x.1.length xd)] (fun _ => True) (fun k => True ∧ some k ≠ Value.ownBlock (Value.slice lA l.length lc)) (by first | rfl | (go_simp; done)) (by first | (go_simp; done) | (go_simp; rfl)) (k43_mkM _ _ _ (litS (ng, x.1)) (Kd.R_apartR (d' := k43) (e' := 43) HV.out HC.out.lits (by decide))) (fun _ hk => hk) (fun _ _ => trivial) HC.out.lits (Below.refl _ _) HC.out.rd.fr.size (by rw [List.length_map]; omega) ?_
                  intro vn wn hon hbn hgn han
                  obtain ⟨An, cn, hvn⟩ := Kd.R_slice hon
                  rw [List.length_append, List.length_map, List.length_singleton] at hvn
                  subst hvn
                  have hcl := HC.out.clg hgn
                  have u1 := blk_cell hcl 1
                  have u2 := blk_frozen hcl 1
                  simp at u1
                  have HCn := Aside0.mk (HC.out.push (lt := (ng, x.1)) hgn (by rw [LitsAt, List.map_append]; exact hon))
                  clear HC hon hbn hgn han hcl
                  refine hK _ _ ?_
                  clear hK K
                  refine wpAny_ready (rs := [8]) (by kernel_rfl) (by simp) ?_
                  refine AllReady.cons rfl (fun K hK => ?_) AllReady.nil
                  go_simp
                  refine hK _ _ ?_
                  clear hK K
                  refine wpAny_ready (rs := [9]) (by kernel_rfl) (by simp) ?_
                  refine AllReady.cons rfl (fun K hK => ?_) AllReady.nil
                  go_simp
                  refine hK _ _ ?_
                  clear hK K
                  refine wpAny_done (by kernel_rfl) ?_ _
                  have HC := HCn
                  clear HCn u1 u2 q0 q1 p0 p1 y0 y1 y2 y3 e1 e2 e3 e4 e5
                  obtain ⟨q0, q1, p0, p1, y0, y1, y2, y3, e1, e2, e3, e4, e5⟩ := HC.out.cells
                  go_wp2_with (go_at_call 41; have hI_ := HI2; clear HI2; refine (rd_take ⟨HC.out.rd.st⟩ 5 (by decide) [44]).mono ?_; rw [hI_.out]; clear hI_; rw [if_neg (by decide)]; rintro en w1 ⟨rfl, hR⟩; replace HC := Aside0.mk (HC.out.to (st' := x.2) hR HOx.out); clear hR; (try clear q0 q1 p0 p1 y0 y1 y2 y3 e1 e2 e3 e4 e5); obtain ⟨q0, q1, p0, p1, y0, y1, y2, y3, e1, e2, e3, e4, e5⟩ := HC.out.cells)
                  go_roundg j
                  case measure => omega
                  case rel => exact ⟨false, _, _, _, rfl, by omega, by simp; omega, HQ2, HC⟩
                · go_simp
                  go_wp2_with (go_at_call 27; refine (rd_whole true s2 _ _ HU.out ⟨(HC.out.below (by repeat (first | exact Below.refl _ _ | apply below_alloc | apply pw_below_drewN | apply below_drew1))).rd.st, Nat.le_trans hB.out (HC.out.below (by repeat (first | exact Below.refl _ _ | apply below_alloc | apply pw_below_drewN | apply below_drew1))).rd.fr.size, HO2.out⟩).mono ?_; rintro en w1 ⟨v1, rfl, hV, hR⟩; obtain ⟨xB, xd, hve⟩ := hV.slice; subst hve; have HV := Aside0.mk (hV.low (HC.out.below (by repeat (first | exact Below.refl _ _ | apply below_alloc | apply pw_below_drewN | apply below_drew1))).rd.fr.size); replace HC := Aside0.mk ((HC.out.below (by repeat (first | exact Below.refl _ _ | apply below_alloc | apply pw_below_drewN | apply below_drew1))).to hR HOx.out); clear hV hR; (try clear q0 q1 p0 p1 y0 y1 y2 y3 e1 e2 e3 e4 e5); obtain ⟨q0, q1, p0, p1, y0, y1, y2, y3, e1, e2, e3, e4, e5⟩ := HC.out.cells)
                  refine wpAny_take (i := 5) (v := ?_) rfl (by kernel_rfl) (by kernel_rfl) (by kernel_rfl) (fun _ _ _ h => h) (Or.inl ⟨by rfl, ?_⟩) ?_
                  rotate_left
                  · intro w
                    go_simp
                    try with_reducible rfl
                  refine wpAny_ready (rs := [1, 6]) (by kernel_rfl) (by simp) ?_
                  refine AllReady.cons rfl (fun K hK => ?_) (AllReady.cons rfl (fun K hK => ?_) AllReady.nil)
                  · go_simp
                    refine hK _ _ ?_
                    clear hK K
                    refine wpAny_ready (rs := [6]) (by kernel_rfl) (by simp) ?_
                    refine AllReady.cons rfl (fun K hK => ?_) AllReady.nil
                    go_simp
                    refine hK _ _ ?_
                    clear hK K
                    refine wpAny_ready (rs := [7]) (by kernel_rfl) (by simp) ?_
                    refine AllReady.cons rfl (fun K hK => ?_) AllReady.nil
                    refine Kd.R_append_step k43 (w0 := w1) w.heap.size (by rfl) (.tmp 29) (.tmp 34) 37 43 (.agg #[.bool false, .slice none 0 0]) 32 rfl Tryd.underlying37 infoLit rfl (by decide) (by omega) (Value.slice lA l.length lc) (l.map litS) (litS (ng, x.1)) [.bool ng, (Value.slice xB x.1.length xd)] (fun _ => True) (fun k => True ∧ some k ≠ Value.ownBlock (Value.slice lA l.length lc)) (by first | rfl | (go_simp; done)) (by first | (go_simp; done) | (go_simp; rfl)) (k43_mkM _ _ _ (litS (ng, x.1)) (Kd.R_apartR (d' := k43) (e' := 43) HV.out HC.out.lits (by decide))) (fun _ hk => hk) (fun _ _ => trivial) HC.out.lits (Below.refl _ _) HC.out.rd.fr.size (by rw [List.length_map]; omega) ?_
                    intro vn wn hon hbn hgn han
                    obtain ⟨An, cn, hvn⟩ := Kd.R_slice hon
                    rw [List.length_append, List.length_map, List.length_singleton] at hvn
                    subst hvn
                    have hcl := HC.out.clg hgn
                    have u1 := blk_cell hcl 1
                    have u2 := blk_frozen hcl 1
                    simp at u1
                    have HCn := Aside0.mk (HC.out.push (lt := (ng, x.1)) hgn (by rw [LitsAt, List.map_append]; exact hon))
                    clear HC hon hbn hgn han hcl
                    refine hK _ _ ?_
                    clear hK K
                    refine wpAny_ready (rs := [8]) (by kernel_rfl) (by simp) ?_
                    refine AllReady.cons rfl (fun K hK => ?_) AllReady.nil
                    go_simp
                    refine hK _ _ ?_
                    clear hK K
                    refine wpAny_ready (rs := [9]) (by kernel_rfl) (by simp) ?_
                    refine AllReady.cons rfl (fun K hK => ?_) AllReady.nil
                    go_simp
                    refine hK _ _ ?_
                    clear hK K
                    refine wpAny_done (by kernel_rfl) ?_ _
                    have HC := HCn
                    clear HCn u1 u2 q0 q1 p0 p1 y0 y1 y2 y3 e1 e2 e3 e4 e5
                    obtain ⟨q0, q1, p0, p1, y0, y1, y2, y3, e1, e2, e3, e4, e5⟩ := HC.out.cells
                    go_wp2_with (go_at_call 41; have hI_ := HI2; clear HI2; refine (rd_take ⟨HC.out.rd.st⟩ 5 (by decide) [44]).mono ?_; rw [hI_.out]; clear hI_; rw [if_neg (by decide)]; rintro en w1 ⟨rfl, hR⟩; replace HC := Aside0.mk (HC.out.to (st' := x.2) hR HOx.out); clear hR; (try clear q0 q1 p0 p1 y0 y1 y2 y3 e1 e2 e3 e4 e5); obtain ⟨q0, q1, p0, p1, y0, y1, y2, y3, e1, e2, e3, e4, e5⟩ := HC.out.cells)
                    go_roundg j
                    case measure => omega
                    case rel => exact ⟨false, _, _, _, rfl, by omega, by simp; omega, HQ2, HC⟩
                  · go_simp
                    refine hK _ _ ?_
                    clear hK K
                    refine wpAny_ready (rs := [1]) (by kernel_rfl) (by simp) ?_
                    refine AllReady.cons rfl (fun K hK => ?_) AllReady.nil
                    go_simp
                    refine hK _ _ ?_
                    clear hK K
                    refine wpAny_ready (rs := [7]) (by kernel_rfl) (by simp) ?_
                    refine AllReady.cons rfl (fun K hK => ?_) AllReady.nil
                    refine Kd.R_append_step k43 (w0 := w1) w.heap.size (by rfl) (.tmp 29) (.tmp 34) 37 43 (.agg #[.bool false, .slice none 0 0]) 32 rfl Tryd.underlying37 infoLit rfl (by decide) (by omega) (Value.slice lA l.length lc) (l.map litS) (litS (ng, x.1)) [.bool ng, (Value.slice xB x.1.length xd)] (fun _ => True) (fun k => True ∧ some k ≠ Value.ownBlock (Value.slice lA l.length lc)) (by first | rfl | (go_simp; done)) (by first | (go_simp; done) | (go_simp; rfl)) (k43_mkM _ _ _ (litS (ng, x.1)) (Kd.R_apartR (d' := k43) (e' := 43) HV.out HC.out.lits (by decide))) (fun _ hk => hk) (fun _ _ => trivial) HC.out.lits (Below.refl _ _) HC.out.rd.fr.size (by rw [List.length_map]; omega) ?_
                    intro vn wn hon hbn hgn han
                    obtain ⟨An, cn, hvn⟩ := Kd.R_slice hon
                    rw [List.length_append, List.length_map, List.length_singleton] at hvn
                    subst hvn
                    have hcl := HC.out.clg hgn
                    have u1 := blk_cell hcl 1
                    have u2 := blk_frozen hcl 1
                    simp at u1
                    have HCn := Aside0.mk (HC.out.push (lt := (ng, x.1)) hgn (by rw [LitsAt, List.map_append]; exact hon))
                    clear HC hon hbn hgn han hcl
                    refine hK _ _ ?_
                    clear hK K
                    refine wpAny_ready (rs := [8]) (by kernel_rfl) (by simp) ?_
                    refine AllReady.cons rfl (fun K hK => ?_) AllReady.nil
                    go_simp
                    refine hK _ _ ?_
                    clear hK K
                    refine wpAny_ready (rs := [9]) (by kernel_rfl) (by simp) ?_
                    refine AllReady.cons rfl (fun K hK => ?_) AllReady.nil
                    go_simp
                    refine hK _ _ ?_
                    clear hK K
                    refine wpAny_done (by kernel_rfl) ?_ _
                    have HC := HCn
                    clear HCn u1 u2 q0 q1 p0 p1 y0 y1 y2 y3 e1 e2 e3 e4 e5
                    obtain ⟨q0, q1, p0, p1, y0, y1, y2, y3, e1, e2, e3, e4, e5⟩ := HC.out.cells
                    go_wp2_with (go_at_call 41; have hI_ := HI2; clear HI2; refine (rd_take ⟨HC.out.rd.st⟩ 5 (by decide) [44]).mono ?_; rw [hI_.out]; clear hI_; rw [if_neg (by decide)]; rintro en w1 ⟨rfl, hR⟩; replace HC := Aside0.mk (HC.out.to (st' := x.2) hR HOx.out); clear hR; (try clear q0 q1 p0 p1 y0 y1 y2 y3 e1 e2 e3 e4 e5); obtain ⟨q0, q1, p0, p1, y0, y1, y2, y3, e1, e2, e3, e4, e5⟩ := HC.out.cells)
                    go_roundg j
                    case measure => omega
                    case rel => exact ⟨false, _, _, _, rfl, by omega, by simp; omega, HQ2, HC⟩
            · have HU := Aside0.mk hu
              obtain rfl : Except.error x = q := Option.some.inj HBE.out
              clear hu hbq HBE
              go_wp2_with (first | (go_at_call 41; have hI_ := NG; clear NG; refine (rd_take ⟨HC.out.rd.st⟩ 4 (by decide) [92, 43]).mono ?_; rw [hI_.out, NS.out]; clear hI_; rintro en w1 ⟨rfl, hR⟩; replace HC := Aside0.mk (HC.out.to (st' := s2) hR HO2.out); clear hR; (try clear q0 q1 p0 p1 y0 y1 y2 y3 e1 e2 e3 e4 e5); obtain ⟨q0, q1, p0, p1, y0, y1, y2, y3, e1, e2, e3, e4, e5⟩ := HC.out.cells))
              refine wp_region_any (by kernel_rfl) ?_
              try (change wpAny _ _ _ _ _ _ _ (World.drew _))
              refine wpAny_take (i := 0) (v := ?_) rfl (by kernel_rfl) (by kernel_rfl) (by kernel_rfl) (fun _ _ _ h => h) (Or.inl ⟨by rfl, ?_⟩) ?_
              rotate_left
              · intro w
                go_simp
                try with_reducible rfl
              refine wpAny_take (i := 2) (v := ?_) rfl (by kernel_rfl) (by kernel_rfl) (by kernel_rfl) (fun _ _ _ h => h) (Or.inl ⟨by rfl, ?_⟩) ?_
              rotate_left
              · intro w
                go_simp
                try with_reducible rfl
              refine wpAny_take (i := 3) (v := ?_) rfl (by kernel_rfl) (by kernel_rfl) (by kernel_rfl) (fun _ _ _ h => h) (Or.inl ⟨by rfl, ?_⟩) ?_
              rotate_left
              · intro w
                go_simp
                try with_reducible rfl
              refine wpAny_ready (rs := [1, 4]) (by kernel_rfl) (by simp) ?_
              refine AllReady.cons rfl (fun K hK => ?_) (AllReady.cons rfl (fun K hK => ?_) AllReady.nil)
              · go_simp
                refine hK _ _ ?_
                clear hK K
                refine wpAny_ready (rs := [4]) (by kernel_rfl) (by simp) ?_
                refine AllReady.cons rfl (fun K hK => ?_) AllReady.nil
                go_simp
                go_wp2_with (go_at_call 27; refine (rd_whole true s2 _ _ HU.out ⟨(HC.out.below (by repeat (first | exact Below.refl _ _ | apply below_alloc | apply pw_below_drewN | apply below_drew1))).rd.st, Nat.le_trans hB.out (HC.out.below (by repeat (first | exact Below.refl _ _ | apply below_alloc | apply pw_below_drewN | apply below_drew1))).rd.fr.size, HO2.out⟩).mono ?_; rintro en w1 ⟨rfl, hF⟩; have HF := Aside0.mk ((HC.out.below (by repeat (first | exact Below.refl _ _ | apply below_alloc | apply pw_below_drewN | apply below_drew1))).rd.fr.trans hF); clear hF; exact ⟨rfl, rfl, HF.out⟩)
              · go_simp
                go_wp2_with (go_at_call 27; refine (rd_whole true s2 _ _ HU.out ⟨(HC.out.below (by repeat (first | exact Below.refl _ _ | apply below_alloc | apply pw_below_drewN | apply below_drew1))).rd.st, Nat.le_trans hB.out (HC.out.below (by repeat (first | exact Below.refl _ _ | apply below_alloc | apply pw_below_drewN | apply below_drew1))).rd.fr.size, HO2.out⟩).mono ?_; rintro en w1 ⟨rfl, hF⟩; have HF := Aside0.mk ((HC.out.below (by repeat (first | exact Below.refl _ _ | apply below_alloc | apply pw_below_drewN | apply below_drew1))).rd.fr.trans hF); clear hF; exact ⟨rfl, rfl, HF.out⟩)
  · have HU := Aside0.mk hu
    clear hq hu
    go_enter Tryd.func34, Tryd.ntmps34
    go_wp2_with (first | (go_at_call 27; refine (rd_whole true (rest, []) _ _ HU.out ⟨HT.out.st, Nat.le_trans hB.out HT.out.fr.size, HOK.out⟩).mono ?_; rintro en w1 ⟨rfl, hF⟩; have HF := Aside0.mk (HT.out.fr.trans hF); clear hF))
    exact ⟨rfl, rfl, HF.out⟩
end Go.Proofs.YthdccdbiichabaaDoor.P
/- read.Program computes programR: its contract. No condition but that strconv.ErrRange holds an error. Printed by wip/gen/mkrdt.py. -/
namespace Go.Proofs.YthdccdbiichabaaDoor.P
open Go.RowKit Go.Proofs.YthdccdbiichabaaDoorW.PrintWords Go.Proofs.YthdccdbiichabaaDoorW.PrintLast Go.Proofs.YthdccdbiichabaaDoorW.PrintMore
set_option linter.unusedVariables false
set_option linter.unusedSimpArgs false

theorem bodyR_ok (e : Int) (k : Nat) : ∀ acc s b, bodyR k e acc s = some (.ok b) → Ok s → Ok b.2 := by
  induction k with
  | zero => intro acc s b h; rw [bodyR] at h; cases h
  | succ k ih =>
    intro acc s b h ho
    rw [bodyR] at h
    split at h
    · cases h
    · obtain ⟨x, h1, h2⟩ := Res.bind_ok h
      have ho2 : Ok (if isT s.1 4 [92, 43] = true then (s.1.tail, s.2) else s) := by
        split
        · exact tail_ok ho
        · exact ho
      have ho3 := ((celW5 e k).1 _ _ _ (wholeR_ok h1) ho2).1
      split at h2
      · exact ih _ _ _ h2 (tail_ok ho3)
      · rw [← (by simpa [Res.ok_eq] using h2 : _ = b)]
        exact ho3
theorem clauseR_ok {k : Nat} {e : Int} {rest : List Tok} {c : ClR × RS} (h : clauseR k e rest = some (.ok c)) (ho : Ok (rest, [])) : Ok c.2 := by
  unfold clauseR at h
  obtain ⟨x, h1, h2⟩ := Res.bind_ok h
  obtain ⟨b, h3, h4⟩ := Res.bind_ok h2
  have ho1 := ((celW5 e k).1 _ _ _ (wholeR_ok h1) ho).1
  have ho2 : Ok b.2 := by
    split at h3
    · exact bodyR_ok e k _ _ _ h3 (tail_ok ho1)
    · rw [← (by simpa [Res.ok_eq] using h3 : _ = b)]
      exact ho1
  obtain ⟨b1, b2, b3⟩ := b
  cases b2 with
  | nil => cases h4
  | cons t r =>
    simp only at h4
    split at h4
    · rw [← (by simpa [Res.ok_eq] using h4 : _ = c)]
      exact ho2.tail
    · cases h4

def ClsAt (b : Nat) (w : World) (l : List ClR) (v : Value) : Prop := Kd.R k39 39 w b (fun _ => True) v (l.map clS)
theorem infoCl : (Tryd.prog.info? 39).map (fun i => (i.zero, i.size, i.bytes)) = some (some (.agg #[.slice none 0 0, .slice none 0 0]), 2, 48) := by kernel_rfl

/-- Three results that are cells of their own. -/
structure Res3 (b : Nat) (cl ca ce : Value) (w : World) : Prop where
  l : w.heap[b]? = some (.cells #[cl] 34 (0, 0))
  a : w.heap[b + 1]? = some (.cells #[ca] 3 (0, 0))
  e : w.heap[b + 2]? = some (.cells #[ce] 26 (0, 0))
theorem Res3.below {b B : Nat} {cl ca ce : Value} {w w1 : World} (h : Res3 b cl ca ce w) (hb : Below B w w1) (hB : b + 3 ≤ B) : Res3 b cl ca ce w1 :=
  ⟨(hb.block _ (by omega)).trans h.l, (hb.block _ (by omega)).trans h.a, (hb.block _ (by omega)).trans h.e⟩
theorem res3_new (w : World) : Res3 w.heap.size (.slice none 0 0) (.int .i64 0) (.int .i64 0) (((w.alloc (.cells #[.slice none 0 0] 34)).alloc (.cells #[.int .i64 0] 3)).alloc (.cells #[.int .i64 0] 26)) :=
  ⟨blk_alloc (blk_alloc (heap_new _ _ _ rfl)), blk_alloc (heap_new _ _ _ (by simp)), heap_new _ _ _ (by simp)⟩

theorem prog_drop (b : Nat) (cl : Value) (w : World) (hl : w.heap[b]? = some (.cells #[cl] 34 (0, 0))) :
    Calls Tryd.prog 33 #[.pointer (some ⟨b, 0, none⟩)] w fun en w' => en = .returned (.tuple #[]) ∧ w' = w.setCell ⟨b, 0, none⟩ (.slice none 0 0) := by
  have c0 := blk_cell hl 0
  have z0 := blk_frozen hl 0
  simp at c0
  clear hl
  go_enter Tryd.func33, Tryd.ntmps33
  go_wp2
  go_end0
  exact ⟨rfl, rfl⟩
structure Caught3 (b : Nat) (x : Int × Int) (w w' : World) : Prop where
  r3 : Res3 b (.slice none 0 0) (.int .i64 x.1) (.int .i64 x.2) w'
  below : Below b w w'
theorem caught_prog (b : Nat) (x : Int × Int) (cl ca ce : Value) (w : World) (h : Res3 b cl ca ce w) :
    CallsD Tryd.prog 24 #[.pointer (some ⟨b + 1, 0, none⟩), .pointer (some ⟨b + 2, 0, none⟩), .func (.func 33) #[] #[.pointer (some ⟨b, 0, none⟩)]] (.panicking (wrongP x)) w fun en u' w' =>
      en = .returned (.tuple #[]) ∧ settle u' = .returning ∧ Caught3 b x w w' := by
  have hl1 := blk_alloc (o' := .cells #[.int .i64 x.1, .int .i64 x.2] 71) (blk_far (p := ⟨b + 2, 0, none⟩) (blk_far (p := ⟨b + 1, 0, none⟩) h.l (by simp) (.int .i64 x.1)) (by simp) (.int .i64 x.2))
  have ha1 := blk_alloc (o' := .cells #[.int .i64 x.1, .int .i64 x.2] 71) (blk_far (p := ⟨b + 2, 0, none⟩) (blk_put h.a 0 (.int .i64 x.1) (cs' := #[.int .i64 x.1]) rfl) (by simp) (.int .i64 x.2))
  have he1 := blk_alloc (o' := .cells #[.int .i64 x.1, .int .i64 x.2] 71) (blk_put (blk_far (p := ⟨b + 1, 0, none⟩) h.e (by simp) (.int .i64 x.1)) 0 (.int .i64 x.2) (cs' := #[.int .i64 x.2]) rfl)
  refine caught_panic (b + 1) (b + 2) x 33 _ ca ce _ _ w h.a h.e (by omega) (Caught3 b x w) (fun W => by kernel_rfl) ?_
  refine (prog_drop b cl _ (show ((((w.setCell ⟨b + 1, 0, none⟩ (.int .i64 x.1)).setCell ⟨b + 2, 0, none⟩ (.int .i64 x.2)).alloc (.cells #[.int .i64 x.1, .int .i64 x.2] 71)).drew).heap[b]? = _ from hl1)).mono ?_
  rintro en w' ⟨h1, h2⟩
  refine ⟨h1, ?_⟩
  subst h2
  have hl := blk_lt h.l
  have hB : Below b w ((((w.setCell ⟨b + 1, 0, none⟩ (.int .i64 x.1)).setCell ⟨b + 2, 0, none⟩ (.int .i64 x.2)).alloc (.cells #[.int .i64 x.1, .int .i64 x.2] 71)).drew) :=
    ((((Below.refl b w).setCell (p := ⟨b + 1, 0, none⟩) (by simp) _).setCell (p := ⟨b + 2, 0, none⟩) (by simp) _).alloc (by simp [World.setCell]; omega) _).drew
  exact ⟨⟨blk_put hl1 0 _ rfl, blk_far ha1 (by simp) _, blk_far he1 (by simp) _⟩, hB.setCell (p := ⟨b, 0, none⟩) (by simp) _⟩

/-- How read.Program ends. -/
def ProgEnd (q : Except (Int × Int) (List ClR)) (w : World) (en : Ending) (w' : World) : Prop :=
  match q with
  | .ok l => ∃ v0, en = .returned (.tuple #[v0, .int .i64 0, .int .i64 0]) ∧ ClsAt w.heap.size w' l v0 ∧ Below w.heap.size w w'
  | .error (a, c) => en = .returned (.tuple #[.slice none 0 0, .int .i64 a, .int .i64 c]) ∧ Below w.heap.size w w'
theorem prog_caught {cl ca ce : Value} {x : Int × Int} {w W : World} {tmps : Array Value} (h : Res3 w.heap.size cl ca ce W) (hb : Below w.heap.size w W) (hT : tmps.getD 2 undef = .pointer (some ⟨w.heap.size, 0, none⟩)) (hT3 : tmps.getD 3 undef = .pointer (some ⟨w.heap.size + 1, 0, none⟩))
    (hT4 : tmps.getD 4 undef = .pointer (some ⟨w.heap.size + 2, 0, none⟩)) :
    Leaves Tryd.prog Tryd.f14 tmps (ProgEnd (.error x) w) [{ target := .fn (.func 24) #[], args := #[.pointer (some ⟨w.heap.size + 1, 0, none⟩), .pointer (some ⟨w.heap.size + 2, 0, none⟩), .func (.func 33) #[] #[.pointer (some ⟨w.heap.size, 0, none⟩)]] }] (.panicking (wrongP x)) W := by
  refine leaves_cons (f := 24) (args := #[.pointer (some ⟨w.heap.size + 1, 0, none⟩), .pointer (some ⟨w.heap.size + 2, 0, none⟩), .func (.func 33) #[] #[.pointer (some ⟨w.heap.size, 0, none⟩)]]) (by simp) (by simp [go_sem]) ?_
  refine (caught_prog w.heap.size x cl ca ce W h).mono ?_
  rintro en u' w' ⟨rfl, hs, hC⟩
  obtain ⟨x1, x2⟩ := x
  simp only [hs]
  have c0 := blk_cell hC.r3.l 0
  have c1 := blk_cell hC.r3.a 0
  have c2 := blk_cell hC.r3.e 0
  simp at c0 c1 c2
  refine ⟨.tuple #[.slice none 0 0, .int .i64 x1, .int .i64 x2], ?_, rfl, hb.trans hC.below⟩
  simp only [Array.getD_eq_getD_getElem?] at hT hT3 hT4
  simp [results, Tryd.results14, go_sem, hT, hT3, hT4, c0, c1, c2]

/-- What read.Program keeps in memory. -/
structure PS (B g : Nat) (e : Int) (st : RS) (l : List ClR) (v : Value) (w W : World) : Prop where
  rs : RdSt B g e st W
  r3 : Res3 w.heap.size v (.int .i64 0) (.int .i64 0) W
  bel : Below w.heap.size w W
  cls : ClsAt w.heap.size W l v
  big : w.heap.size + 3 ≤ B
  base : B ≤ W.heap.size
  ok : Ok st
section
variable {B g : Nat} {e : Int} {st st' : RS} {l : List ClR} {c : ClR} {v vn : Value} {w W W' wn : World}
theorem PS.below (h : PS B g e st l v w W) (hb : Below W.heap.size W W') : PS B g e st l v w W' :=
  ⟨h.rs.below hb, h.r3.below (B := W.heap.size) hb (Nat.le_trans h.big h.base), below_step h.bel hb, Kd.R_below h.cls hb, h.big, Nat.le_trans h.base hb.size, h.ok⟩
theorem PS.to (h : PS B g e st l v w W) (k : RdTo B g e st' W W') (ho : Ok st') : PS B g e st' l v w W' :=
  ⟨k.st, h.r3.below (k.fr.below h.base) h.big, h.bel.trans ((k.fr.below h.base).mono (by have := h.big; omega)), R_fr h.cls k.fr (by simp [k39, k43, Kd.bool, Kd.slice, k41, Kd.iso, Kd.pair, Kd.int, Kd.string, Kd.scalar]), h.big, Nat.le_trans h.base k.fr.size, ho⟩
theorem PS.clg (h : PS B g e st l v w W) (hg : W.grownBy wn v.ownBlock) : Res3 w.heap.size v (.int .i64 0) (.int .i64 0) wn := by
  obtain ⟨inner, ho⟩ := Kd.R_own h.cls
  exact ⟨blk_grown h.r3.l hg (own_ne ho h.r3.l (by decide)), blk_grown h.r3.a hg (own_ne ho h.r3.a (by decide)), blk_grown h.r3.e hg (own_ne ho h.r3.e (by decide))⟩
theorem PS.push (h : PS B g e st l v w W) (hg : W.grownBy wn v.ownBlock) (hn : ClsAt w.heap.size wn (l ++ [c]) vn) : PS B g e st (l ++ [c]) vn w (wn.setCell ⟨w.heap.size, 0, none⟩ vn) := by
  obtain ⟨inner, ho⟩ := Kd.R_own h.cls
  have hty : ∀ k, v.ownBlock = some k → ∃ cells, W.heap[k]? = some (.cells cells 39 (0, 0)) := fun k hk => own_typed ho k hk
  have rs1 := h.rs.grown hg (fun k hk => by obtain ⟨c, hc⟩ := hty k hk; exact ⟨c, _, hc, by decide, by decide, by decide⟩)
  have r1 := h.clg hg
  refine ⟨rs1.grown (grown_set _ _ _ _) (fun k hk => ?_), ⟨blk_put r1.l 0 _ rfl, blk_far r1.a (by simp) _, blk_far r1.e (by simp) _⟩,
    below_set (h.bel.grown hg h.bel.size (fun k hk => own_base ho k hk)) (Nat.le_refl _), Kd.R_set hn r1.l (by simp [k39, k43, Kd.bool, Kd.slice, k41, Kd.iso, Kd.pair, Kd.int, Kd.string, Kd.scalar]) 0 _, h.big, by simpa [World.setCell] using Nat.le_trans h.base hg.size, h.ok⟩
  injection hk with hk
  subst hk
  exact ⟨_, _, r1.l, by decide, by decide, by decide⟩
theorem PS.cells (h : PS B g e st l v w W) {n : Nat} (hn : st.1.length = n) : ∃ rA rc, W.cell? ⟨g, 0, none⟩ = some (.slice rA n rc) ∧ W.cell? ⟨w.heap.size, 0, none⟩ = some v ∧ W.cell? ⟨w.heap.size + 1, 0, none⟩ = some (.int .i64 0) ∧ W.cell? ⟨w.heap.size + 1 + 1, 0, none⟩ = some (.int .i64 0) ∧
    W.frozen? ⟨w.heap.size, 0, none⟩ = false ∧ W.frozen? ⟨w.heap.size + 1, 0, none⟩ = false ∧ W.frozen? ⟨w.heap.size + 1 + 1, 0, none⟩ = false := by
  obtain ⟨vr, vn, ha⟩ := h.rs
  obtain ⟨A, c, hvr, _⟩ := ha.rest
  have c0 := blk_cell ha.blk 0
  have d0 := blk_cell h.r3.l 0
  have d1 := blk_cell h.r3.a 0
  have d2 := blk_cell h.r3.e 0
  simp at c0 d0 d1 d2
  rw [hvr, hn] at c0
  exact ⟨A, c, c0, d0, d1, d2, blk_frozen h.r3.l 0, blk_frozen h.r3.a 0, blk_frozen h.r3.e 0⟩
end
theorem prog_done {B g : Nat} {e : Int} {st : RS} {l : List ClR} {v : Value} {w W : World} {tmps : Array Value} (h : PS B g e st l v w W)
    (hT : tmps.getD 2 undef = .pointer (some ⟨w.heap.size, 0, none⟩)) (hT3 : tmps.getD 3 undef = .pointer (some ⟨w.heap.size + 1, 0, none⟩)) (hT4 : tmps.getD 4 undef = .pointer (some ⟨w.heap.size + 2, 0, none⟩)) :
    Leaves Tryd.prog Tryd.f14 tmps (ProgEnd (.ok l) w) [{ target := .fn (.func 24) #[], args := #[.pointer (some ⟨w.heap.size + 1, 0, none⟩), .pointer (some ⟨w.heap.size + 2, 0, none⟩), .func (.func 33) #[] #[.pointer (some ⟨w.heap.size, 0, none⟩)]] }] .returning
      (((W.setCell ⟨w.heap.size, 0, none⟩ v).setCell ⟨w.heap.size + 1, 0, none⟩ (.int .i64 0)).setCell ⟨w.heap.size + 1 + 1, 0, none⟩ (.int .i64 0)) := by
  refine leaves_cons (f := 24) (args := #[.pointer (some ⟨w.heap.size + 1, 0, none⟩), .pointer (some ⟨w.heap.size + 2, 0, none⟩), .func (.func 33) #[] #[.pointer (some ⟨w.heap.size, 0, none⟩)]]) (by simp) (by simp [go_sem]) ?_
  refine (caught_idle _ _ _ _).mono ?_
  rintro en u' w' ⟨rfl, rfl, rfl⟩
  obtain ⟨l0, a0, e0⟩ := h.r3
  have l1 := blk_put l0 0 v (cs' := #[v]) rfl
  have a1 := blk_far (p := ⟨w.heap.size, 0, none⟩) a0 (by simp) v
  have e1 := blk_far (p := ⟨w.heap.size, 0, none⟩) e0 (by simp) v
  have l2 := blk_far (p := ⟨w.heap.size + 1, 0, none⟩) l1 (by simp) (.int .i64 0)
  have a2 := blk_put a1 0 (.int .i64 0) (cs' := #[.int .i64 0]) rfl
  have e2 := blk_far (p := ⟨w.heap.size + 1, 0, none⟩) e1 (by simp) (.int .i64 0)
  have l3 := blk_far (p := ⟨w.heap.size + 1 + 1, 0, none⟩) l2 (by first | (simp; done) | (simp; omega)) (.int .i64 0)
  have a3 := blk_far (p := ⟨w.heap.size + 1 + 1, 0, none⟩) a2 (by first | (simp; done) | (simp; omega)) (.int .i64 0)
  have e3 := blk_put e2 0 (.int .i64 0) (cs' := #[.int .i64 0]) rfl
  have hx : ClsAt w.heap.size _ l v := Kd.R_set (Kd.R_set (Kd.R_set h.cls l0 (by simp [k39, k43, Kd.bool, Kd.slice, k41, Kd.iso, Kd.pair, Kd.int, Kd.string, Kd.scalar]) 0 v) a1 (by simp [k39, k43, Kd.bool, Kd.slice, k41, Kd.iso, Kd.pair, Kd.int, Kd.string, Kd.scalar]) 0 (.int .i64 0)) e2 (by simp [k39, k43, Kd.bool, Kd.slice, k41, Kd.iso, Kd.pair, Kd.int, Kd.string, Kd.scalar]) 0 (.int .i64 0)
  have c0 := blk_cell l3 0
  have c1 := blk_cell a3 0
  have c2 := blk_cell e3 0
  obtain ⟨W4, hW4⟩ : ∃ W4 : World, W4 = ((W.setCell ⟨w.heap.size, 0, none⟩ v).setCell ⟨w.heap.size + 1, 0, none⟩ (.int .i64 0)).setCell ⟨w.heap.size + 1 + 1, 0, none⟩ (.int .i64 0) := ⟨_, rfl⟩
  have hbel : Below w.heap.size w W4 := by rw [hW4]; exact below_set (below_set (below_set h.bel (by omega)) (by omega)) (by omega)
  rw [← hW4] at c0 c1 c2 hx ⊢
  simp at c0 c1 c2
  show Leaves _ _ _ _ _ .returning _
  refine ⟨.tuple #[v, .int .i64 0, .int .i64 0], ?_, v, rfl, hx, hbel⟩
  simp only [Array.getD_eq_getD_getElem?] at hT hT3 hT4
  simp [results, Tryd.results14, go_sem, hT, hT3, hT4, c0, c1, c2]

set_option maxHeartbeats 16000000 in
set_option maxRecDepth 100000 in
theorem rd_Program (k : Nat) (s : ByteArray) (q : Except (Int × Int) (List ClR)) (hq : programR k s.data.toList = some q) (w : World) (hG : Aside0 (GW w)) :
    Calls Tryd.prog 14 #[.string s] w (ProgEnd q w) := by
  have hmf : ∀ (fn : Fn) (first cap : Array Value) (w : World), (Instr.makeFunc fn first cap).run Tryd.prog w = .ok (.func fn first cap) w := fun _ _ _ _ => rfl
  have hfl := fld_at
  unfold programR at hq
  have hR3 := Aside0.mk (res3_new w)
  by_cases he : (lexAll s.data.toList).2.2 = 0
  · rw [if_neg (by simpa using he), bl_size] at hq
    have HE := Lib.hid he
    have HOK := Aside0.mk (lex_ok s.data.toList [] (by simp))
    have HQ0 := Aside0.mk hq
    clear he hq
    go_enter_defers Tryd.func14, Tryd.ntmps14
    go_wp2_with (go_at_call 26; refine (rd_open s _ (GW.belowA hG (by repeat (first | exact Below.refl _ _ | apply below_alloc | apply pw_below_drewN | apply below_drew1))) HE.out).mono ?_; rintro en w1 ⟨g, rfl, hS, hb⟩; have HS := Aside0.mk hS; have HB : Aside0 (Below w.heap.size w w1) := Aside0.mk (below_step (by repeat (first | exact Below.refl _ _ | apply below_alloc | apply pw_below_drewN | apply below_drew1)) hb); have HPS := Aside0.mk (PS.mk (l := []) hS (hR3.out.below hb (by simp)) HB.out (Kd.R_nil _ _ _ _ _) (by simp) hb.size HOK.out); have HR := Aside0.mk (hR3.out.below hb (by simp)); have HZ := Aside0.mk hb.size; clear hS hb)
    clear HS HB HR HZ
    go_loopg [] k (fun gk wr => ∃ (l : List ClR) (st : RS) (vl : Value), gk ≤ k ∧ l.length ≤ 64 ∧ Aside0 (clausesR gk s.size l st.1 = some q) ∧ Aside0 (PS ((((w.alloc (.cells #[.slice none 0 0] 34)).alloc (.cells #[.int .i64 0] 3)).alloc (.cells #[.int .i64 0] 26))).heap.size g s.size st l vl w wr))
    case atStart => exact ⟨[], _, _, Nat.le_refl _, by simp, ⟨HQ0.out⟩, HPS⟩
    case round =>
      obtain ⟨l, st, vl, hgk, hl64, HQ, HPS⟩ := hrel
      have hcs := HQ.out
      obtain ⟨lA, lc, hle⟩ := Kd.R_slice HPS.out.cls
      rw [List.length_map] at hle
      subst hle
      clear HQ HQ0
      obtain ⟨j, rfl⟩ : ∃ j, gk = j + 1 := by
        cases gk with
        | zero => exact absurd hcs (by unfold clausesR; exact fun h => by cases h)
        | succ j => exact ⟨j, rfl⟩
      unfold clausesR at hcs
      obtain ⟨n, hn⟩ : ∃ n, st.1.length = n := ⟨_, rfl⟩
      have HLn := Lib.hid hn
      (try clear g0 d0 d1 d2 y0 y1 y2); obtain ⟨rA, rc, g0, d0, d1, d2, y0, y1, y2⟩ := HPS.out.cells (n := n) (by first | rfl | exact HLn.out)
      cases hst : st.1 with
      | nil =>
        rw [hst] at hcs hn
        obtain rfl : Except.ok l = q := Option.some.inj hcs
        have hn0 : n = 0 := hn.symm
        have hnp : decide (0 < n) = false := by rw [hn0]; rfl
        have hnq : ¬ 0 < n := by omega
        clear hcs hn hst hn0
        go_wp2_with fail
        exact prog_done HPS.out rfl rfl rfl
      | cons t r =>
        rw [hst] at hcs hn
        simp only at hcs
        have hnq : 0 < n := by rw [← hn]; simp
        have hnp : decide (0 < n) = true := decide_eq_true hnq
        by_cases h64 : l.length = 64
        · rw [if_pos h64] at hcs
          obtain rfl : Except.error (t.at', 2) = q := Option.some.inj hcs
          have HN : Hid (t = nxtR (s.size : Int) st.1) := Lib.hid (by rw [hst]; rfl)
          have b8 : ((l.length : Int) == 64) = true := by rw [h64]; rfl
          have b8' : (l.length == 64) = true := by rw [h64]; rfl
          clear hcs hn hst h64
          go_wp2_with (first | (go_at_call 28; have hN_ := HN; clear HN; refine (rd_next ⟨HPS.out.rs⟩).mono ?_; rw [← hN_.out, tokV]; clear hN_; rintro en w1 ⟨rfl, hb⟩; replace HPS := Aside0.mk (HPS.out.below hb); clear hb))
          show Leaves Tryd.prog Tryd.f14 _ (ProgEnd _ w) _ (.panicking (wrongP (t.at', 2))) _
          exact prog_caught HPS.out.r3 HPS.out.bel rfl rfl rfl
        · rw [if_neg h64, ← hst] at hcs
          have b8 : ((l.length : Int) == 64) = false := by simpa using (by omega : ¬ (l.length : Int) = 64)
          have b8' : (l.length == 64) = false := by simpa using h64
          have hl63 : l.length + 1 ≤ 64 := by omega
          rcases Res.bind_some hcs with ⟨c, hu, hq2⟩ | ⟨x, hu, rfl⟩
          · have HU := Aside0.mk hu
            have HOc := Aside0.mk (clauseR_ok hu ⟨HPS.out.ok.1, by have := HPS.out.ok.2; simp only [List.length_nil]; omega⟩)
            have HQ2 := Aside0.mk hq2
            clear hcs hn hst h64 hu hq2
            go_wp2_with fail
            refine wp_region_any (by kernel_rfl) ?_
            try (change wpAny _ _ _ _ _ _ _ (World.drew _))
            refine wpAny_ready (rs := [0, 1]) (by kernel_rfl) (by simp) ?_
            refine AllReady.cons rfl (fun K hK => ?_) (AllReady.cons rfl (fun K hK => ?_) AllReady.nil)
            · go_simp
              refine hK _ _ ?_
              clear hK K
              refine wpAny_ready (rs := [1]) (by kernel_rfl) (by simp) ?_
              refine AllReady.cons rfl (fun K hK => ?_) AllReady.nil
              go_simp
              refine hK _ _ ?_
              clear hK K
              refine wpAny_ready (rs := [2]) (by kernel_rfl) (by simp) ?_
              refine AllReady.cons rfl (fun K hK => ?_) AllReady.nil
              go_simp
              go_wp2_with (go_at_call 34; refine (rd_clause st.1 st.2 _ _ HU.out ⟨(HPS.out.below (by repeat (first | exact Below.refl _ _ | apply below_alloc | apply pw_below_drewN | apply below_drew1))).rs, (HPS.out.below (by repeat (first | exact Below.refl _ _ | apply below_alloc | apply pw_below_drewN | apply below_drew1))).base, HPS.out.ok⟩).mono ?_; rintro en w1 ⟨v1, rfl, ⟨va, vb, rfl, hVa, hVb⟩, hR⟩; have HVa := Aside0.mk (hVa.low (HPS.out.below (by repeat (first | exact Below.refl _ _ | apply below_alloc | apply pw_below_drewN | apply below_drew1))).bel.size); have HVb := Aside0.mk (Kd.R_lower hVb (HPS.out.below (by repeat (first | exact Below.refl _ _ | apply below_alloc | apply pw_below_drewN | apply below_drew1))).bel.size); replace HPS := Aside0.mk ((HPS.out.below (by repeat (first | exact Below.refl _ _ | apply below_alloc | apply pw_below_drewN | apply below_drew1))).to hR HOc.out); clear hVa hVb hR; (try clear g0 d0 d1 d2 y0 y1 y2); obtain ⟨rA, rc, g0, d0, d1, d2, y0, y1, y2⟩ := HPS.out.cells rfl; have kn0 := blk_lt HPS.out.r3.l; have kn1 : ¬ _ = _ := Nat.ne_of_lt kn0; have kn2 : ¬ _ = _ := Nat.ne_of_gt kn0)
              refine wpAny_ready (rs := [3]) (by kernel_rfl) (by simp) ?_
              refine AllReady.cons rfl (fun K hK => ?_) AllReady.nil
              go_simp
              refine hK _ _ ?_
              clear hK K
              refine wpAny_ready (rs := [4]) (by kernel_rfl) (by simp) ?_
              refine AllReady.cons rfl (fun K hK => ?_) AllReady.nil
              refine Kd.R_append_step k39 (w0 := w1) w.heap.size (by rfl) (.tmp 23) (.tmp 26) 34 39 (.agg #[.slice none 0 0, .slice none 0 0]) 48 rfl Tryd.underlying34 infoCl rfl (by decide) (by omega) (Value.slice lA l.length lc) (l.map clS) (clS c.1) [va, vb] (fun _ => True) (fun k => True ∧ some k ≠ Value.ownBlock (Value.slice lA l.length lc)) (by first | rfl | (go_simp; done)) (by first | (go_simp; done) | (go_simp; rfl)) (k39_mkM _ _ _ (clS c.1) (Kd.R_apartR (d' := k39) (e' := 39) HVa.out HPS.out.cls (by decide)) (Kd.R_apartR (d' := k39) (e' := 39) HVb.out HPS.out.cls (by decide))) (fun _ hk => hk) (fun _ _ => trivial) HPS.out.cls (Below.refl _ _) HPS.out.bel.size (by rw [List.length_map]; omega) ?_
              intro vn wn hon hbn hgn han
              obtain ⟨An, cn, hvn⟩ := Kd.R_slice hon
              rw [List.length_append, List.length_map, List.length_singleton] at hvn
              subst hvn
              have hcl := HPS.out.clg hgn
              have u1 := blk_cell hcl.l 0
              have u2 := blk_frozen hcl.l 0
              simp at u1
              have HPn := Aside0.mk (HPS.out.push (c := c.1) hgn (by rw [ClsAt, List.map_append]; exact hon))
              clear HPS hon hbn hgn han hcl
              refine hK _ _ ?_
              clear hK K
              refine wpAny_ready (rs := [5]) (by kernel_rfl) (by simp) ?_
              refine AllReady.cons rfl (fun K hK => ?_) AllReady.nil
              go_simp
              refine hK _ _ ?_
              clear hK K
              refine wpAny_done (by kernel_rfl) ?_ _
              have HPS := HPn
              clear HPn u1 u2 g0 d0 d1 d2 y0 y1 y2
              go_wp2_with fail
              go_roundg j
              case measure => omega
              case rel => exact ⟨_, _, _, by omega, by simp; omega, HQ2, HPS⟩
            · go_simp
              refine hK _ _ ?_
              clear hK K
              refine wpAny_ready (rs := [0, 2]) (by kernel_rfl) (by simp) ?_
              refine AllReady.cons rfl (fun K hK => ?_) (AllReady.cons rfl (fun K hK => ?_) AllReady.nil)
              · go_simp
                refine hK _ _ ?_
                clear hK K
                refine wpAny_ready (rs := [2]) (by kernel_rfl) (by simp) ?_
                refine AllReady.cons rfl (fun K hK => ?_) AllReady.nil
                go_simp
                go_wp2_with (go_at_call 34; refine (rd_clause st.1 st.2 _ _ HU.out ⟨(HPS.out.below (by repeat (first | exact Below.refl _ _ | apply below_alloc | apply pw_below_drewN | apply below_drew1))).rs, (HPS.out.below (by repeat (first | exact Below.refl _ _ | apply below_alloc | apply pw_below_drewN | apply below_drew1))).base, HPS.out.ok⟩).mono ?_; rintro en w1 ⟨v1, rfl, ⟨va, vb, rfl, hVa, hVb⟩, hR⟩; have HVa := Aside0.mk (hVa.low (HPS.out.below (by repeat (first | exact Below.refl _ _ | apply below_alloc | apply pw_below_drewN | apply below_drew1))).bel.size); have HVb := Aside0.mk (Kd.R_lower hVb (HPS.out.below (by repeat (first | exact Below.refl _ _ | apply below_alloc | apply pw_below_drewN | apply below_drew1))).bel.size); replace HPS := Aside0.mk ((HPS.out.below (by repeat (first | exact Below.refl _ _ | apply below_alloc | apply pw_below_drewN | apply below_drew1))).to hR HOc.out); clear hVa hVb hR; (try clear g0 d0 d1 d2 y0 y1 y2); obtain ⟨rA, rc, g0, d0, d1, d2, y0, y1, y2⟩ := HPS.out.cells rfl; have kn0 := blk_lt HPS.out.r3.l; have kn1 : ¬ _ = _ := Nat.ne_of_lt kn0; have kn2 : ¬ _ = _ := Nat.ne_of_gt kn0)
                refine wpAny_ready (rs := [3]) (by kernel_rfl) (by simp) ?_
                refine AllReady.cons rfl (fun K hK => ?_) AllReady.nil
                go_simp
                refine hK _ _ ?_
                clear hK K
                refine wpAny_ready (rs := [4]) (by kernel_rfl) (by simp) ?_
                refine AllReady.cons rfl (fun K hK => ?_) AllReady.nil
                refine Kd.R_append_step k39 (w0 := w1) w.heap.size (by rfl) (.tmp 23) (.tmp 26) 34 39 (.agg #[.slice none 0 0, .slice none 0 0]) 48 rfl Tryd.underlying34 infoCl rfl (by decide) (by omega) (Value.slice lA l.length lc) (l.map clS) (clS c.1) [va, vb] (fun _ => True) (fun k => True ∧ some k ≠ Value.ownBlock (Value.slice lA l.length lc)) (by first | rfl | (go_simp; done)) (by first | (go_simp; done) | (go_simp; rfl)) (k39_mkM _ _ _ (clS c.1) (Kd.R_apartR (d' := k39) (e' := 39) HVa.out HPS.out.cls (by decide)) (Kd.R_apartR (d' := k39) (e' := 39) HVb.out HPS.out.cls (by decide))) (fun _ hk => hk) (fun _ _ => trivial) HPS.out.cls (Below.refl _ _) HPS.out.bel.size (by rw [List.length_map]; omega) ?_
                intro vn wn hon hbn hgn han
                obtain ⟨An, cn, hvn⟩ := Kd.R_slice hon
                rw [List.length_append, List.length_map, List.length_singleton] at hvn
                subst hvn
                have hcl := HPS.out.clg hgn
                have u1 := blk_cell hcl.l 0
                have u2 := blk_frozen hcl.l 0
                simp at u1
                have HPn := Aside0.mk (HPS.out.push (c := c.1) hgn (by rw [ClsAt, List.map_append]; exact hon))
                clear HPS hon hbn hgn han hcl
                refine hK _ _ ?_
                clear hK K
                refine wpAny_ready (rs := [5]) (by kernel_rfl) (by simp) ?_
                refine AllReady.cons rfl (fun K hK => ?_) AllReady.nil
                go_simp
                refine hK _ _ ?_
                clear hK K
                refine wpAny_done (by kernel_rfl) ?_ _
                have HPS := HPn
                clear HPn u1 u2 g0 d0 d1 d2 y0 y1 y2
                go_wp2_with fail
                go_roundg j
                case measure => omega
                case rel => exact ⟨_, _, _, by omega, by simp; omega, HQ2, HPS⟩
              · go_simp
                go_wp2_with (go_at_call 34; refine (rd_clause st.1 st.2 _ _ HU.out ⟨(HPS.out.below (by repeat (first | exact Below.refl _ _ | apply below_alloc | apply pw_below_drewN | apply below_drew1))).rs, (HPS.out.below (by repeat (first | exact Below.refl _ _ | apply below_alloc | apply pw_below_drewN | apply below_drew1))).base, HPS.out.ok⟩).mono ?_; rintro en w1 ⟨v1, rfl, ⟨va, vb, rfl, hVa, hVb⟩, hR⟩; have HVa := Aside0.mk (hVa.low (HPS.out.below (by repeat (first | exact Below.refl _ _ | apply below_alloc | apply pw_below_drewN | apply below_drew1))).bel.size); have HVb := Aside0.mk (Kd.R_lower hVb (HPS.out.below (by repeat (first | exact Below.refl _ _ | apply below_alloc | apply pw_below_drewN | apply below_drew1))).bel.size); replace HPS := Aside0.mk ((HPS.out.below (by repeat (first | exact Below.refl _ _ | apply below_alloc | apply pw_below_drewN | apply below_drew1))).to hR HOc.out); clear hVa hVb hR; (try clear g0 d0 d1 d2 y0 y1 y2); obtain ⟨rA, rc, g0, d0, d1, d2, y0, y1, y2⟩ := HPS.out.cells rfl; have kn0 := blk_lt HPS.out.r3.l; have kn1 : ¬ _ = _ := Nat.ne_of_lt kn0; have kn2 : ¬ _ = _ := Nat.ne_of_gt kn0)
                refine wpAny_ready (rs := [0, 3]) (by kernel_rfl) (by simp) ?_
                refine AllReady.cons rfl (fun K hK => ?_) (AllReady.cons rfl (fun K hK => ?_) AllReady.nil)
                · go_simp
                  refine hK _ _ ?_
                  clear hK K
                  refine wpAny_ready (rs := [3]) (by kernel_rfl) (by simp) ?_
                  refine AllReady.cons rfl (fun K hK => ?_) AllReady.nil
                  go_simp
                  refine hK _ _ ?_
                  clear hK K
                  refine wpAny_ready (rs := [4]) (by kernel_rfl) (by simp) ?_
                  refine AllReady.cons rfl (fun K hK => ?_) AllReady.nil
                  refine Kd.R_append_step k39 (w0 := w1) w.heap.size (by rfl) (.tmp 23) (.tmp 26) 34 39 (.agg #[.slice none 0 0, .slice none 0 0]) 48 rfl Tryd.underlying34 infoCl rfl (by decide) (by omega) (Value.slice lA l.length lc) (l.map clS) (clS c.1) [va, vb] (fun _ => True) (fun k => True ∧ some k ≠ Value.ownBlock (Value.slice lA l.length lc)) (by first | rfl | (go_simp; done)) (by first | (go_simp; done) | (go_simp; rfl)) (k39_mkM _ _ _ (clS c.1) (Kd.R_apartR (d' := k39) (e' := 39) HVa.out HPS.out.cls (by decide)) (Kd.R_apartR (d' := k39) (e' := 39) HVb.out HPS.out.cls (by decide))) (fun _ hk => hk) (fun _ _ => trivial) HPS.out.cls (Below.refl _ _) HPS.out.bel.size (by rw [List.length_map]; omega) ?_
                  intro vn wn hon hbn hgn han
                  obtain ⟨An, cn, hvn⟩ := Kd.R_slice hon
                  rw [List.length_append, List.length_map, List.length_singleton] at hvn
                  subst hvn
                  have hcl := HPS.out.clg hgn
                  have u1 := blk_cell hcl.l 0
                  have u2 := blk_frozen hcl.l 0
                  simp at u1
                  have HPn := Aside0.mk (HPS.out.push (c := c.1) hgn (by rw [ClsAt, List.map_append]; exact hon))
                  clear HPS hon hbn hgn han hcl
                  refine hK _ _ ?_
                  clear hK K
                  refine wpAny_ready (rs := [5]) (by kernel_rfl) (by simp) ?_
                  refine AllReady.cons rfl (fun K hK => ?_) AllReady.nil
                  go_simp
                  refine hK _ _ ?_
                  clear hK K
                  refine wpAny_done (by kernel_rfl) ?_ _
                  have HPS := HPn
                  clear HPn u1 u2 g0 d0 d1 d2 y0 y1 y2
                  go_wp2_with fail
                  go_roundg j
                  case measure => omega
                  case rel => exact ⟨_, _, _, by omega, by simp; omega, HQ2, HPS⟩
                · go_simp
                  refine hK _ _ ?_
                  clear hK K
                  refine wpAny_ready (rs := [0]) (by kernel_rfl) (by simp) ?_
                  refine AllReady.cons rfl (fun K hK => ?_) AllReady.nil
                  go_simp
                  refine hK _ _ ?_
                  clear hK K
                  refine wpAny_ready (rs := [4]) (by kernel_rfl) (by simp) ?_
                  refine AllReady.cons rfl (fun K hK => ?_) AllReady.nil
                  refine Kd.R_append_step k39 (w0 := w1) w.heap.size (by rfl) (.tmp 23) (.tmp 26) 34 39 (.agg #[.slice none 0 0, .slice none 0 0]) 48 rfl Tryd.underlying34 infoCl rfl (by decide) (by omega) (Value.slice lA l.length lc) (l.map clS) (clS c.1) [va, vb] (fun _ => True) (fun k => True ∧ some k ≠ Value.ownBlock (Value.slice lA l.length lc)) (by first | rfl | (go_simp; done)) (by first | (go_simp; done) | (go_simp; rfl)) (k39_mkM _ _ _ (clS c.1) (Kd.R_apartR (d' := k39) (e' := 39) HVa.out HPS.out.cls (by decide)) (Kd.R_apartR (d' := k39) (e' := 39) HVb.out HPS.out.cls (by decide))) (fun _ hk => hk) (fun _ _ => trivial) HPS.out.cls (Below.refl _ _) HPS.out.bel.size (by rw [List.length_map]; omega) ?_
                  intro vn wn hon hbn hgn han
                  obtain ⟨An, cn, hvn⟩ := Kd.R_slice hon
                  rw [List.length_append, List.length_map, List.length_singleton] at hvn
                  subst hvn
                  have hcl := HPS.out.clg hgn
                  have u1 := blk_cell hcl.l 0
                  have u2 := blk_frozen hcl.l 0
                  simp at u1
                  have HPn := Aside0.mk (HPS.out.push (c := c.1) hgn (by rw [ClsAt, List.map_append]; exact hon))
                  clear HPS hon hbn hgn han hcl
                  refine hK _ _ ?_
                  clear hK K
                  refine wpAny_ready (rs := [5]) (by kernel_rfl) (by simp) ?_
                  refine AllReady.cons rfl (fun K hK => ?_) AllReady.nil
                  go_simp
                  refine hK _ _ ?_
                  clear hK K
                  refine wpAny_done (by kernel_rfl) ?_ _
                  have HPS := HPn
                  clear HPn u1 u2 g0 d0 d1 d2 y0 y1 y2
                  go_wp2_with fail
                  go_roundg j
                  case measure => omega
                  case rel => exact ⟨_, _, _, by omega, by simp; omega, HQ2, HPS⟩
          · have HU := Aside0.mk hu
            clear hcs hn hst h64 hu
            go_wp2_with fail
            refine wp_region_any (by kernel_rfl) ?_
            try (change wpAny _ _ _ _ _ _ _ (World.drew _))
            refine wpAny_ready (rs := [0, 1]) (by kernel_rfl) (by simp) ?_
            refine AllReady.cons rfl (fun K hK => ?_) (AllReady.cons rfl (fun K hK => ?_) AllReady.nil)
            · go_simp
              refine hK _ _ ?_
              clear hK K
              refine wpAny_ready (rs := [1]) (by kernel_rfl) (by simp) ?_
              refine AllReady.cons rfl (fun K hK => ?_) AllReady.nil
              go_simp
              refine hK _ _ ?_
              clear hK K
              refine wpAny_ready (rs := [2]) (by kernel_rfl) (by simp) ?_
              refine AllReady.cons rfl (fun K hK => ?_) AllReady.nil
              go_simp
              go_wp2_with (go_at_call 34; refine (rd_clause st.1 st.2 _ _ HU.out ⟨(HPS.out.below (by repeat (first | exact Below.refl _ _ | apply below_alloc | apply pw_below_drewN | apply below_drew1))).rs, (HPS.out.below (by repeat (first | exact Below.refl _ _ | apply below_alloc | apply pw_below_drewN | apply below_drew1))).base, HPS.out.ok⟩).mono ?_; rintro en w1 ⟨rfl, hF⟩; show Leaves Tryd.prog Tryd.f14 _ (ProgEnd _ w) _ (.panicking (wrongP _)) _; exact prog_caught ((HPS.out.below (by repeat (first | exact Below.refl _ _ | apply below_alloc | apply pw_below_drewN | apply below_drew1))).r3.below (hF.below (HPS.out.below (by repeat (first | exact Below.refl _ _ | apply below_alloc | apply pw_below_drewN | apply below_drew1))).base) HPS.out.big) ((HPS.out.below (by repeat (first | exact Below.refl _ _ | apply below_alloc | apply pw_below_drewN | apply below_drew1))).bel.trans ((hF.below (HPS.out.below (by repeat (first | exact Below.refl _ _ | apply below_alloc | apply pw_below_drewN | apply below_drew1))).base).mono (by have := HPS.out.big; omega))) rfl rfl rfl)
            · go_simp
              refine hK _ _ ?_
              clear hK K
              refine wpAny_ready (rs := [0, 2]) (by kernel_rfl) (by simp) ?_
              refine AllReady.cons rfl (fun K hK => ?_) (AllReady.cons rfl (fun K hK => ?_) AllReady.nil)
              · go_simp
                refine hK _ _ ?_
                clear hK K
                refine wpAny_ready (rs := [2]) (by kernel_rfl) (by simp) ?_
                refine AllReady.cons rfl (fun K hK => ?_) AllReady.nil
                go_simp
                go_wp2_with (go_at_call 34; refine (rd_clause st.1 st.2 _ _ HU.out ⟨(HPS.out.below (by repeat (first | exact Below.refl _ _ | apply below_alloc | apply pw_below_drewN | apply below_drew1))).rs, (HPS.out.below (by repeat (first | exact Below.refl _ _ | apply below_alloc | apply pw_below_drewN | apply below_drew1))).base, HPS.out.ok⟩).mono ?_; rintro en w1 ⟨rfl, hF⟩; show Leaves Tryd.prog Tryd.f14 _ (ProgEnd _ w) _ (.panicking (wrongP _)) _; exact prog_caught ((HPS.out.below (by repeat (first | exact Below.refl _ _ | apply below_alloc | apply pw_below_drewN | apply below_drew1))).r3.below (hF.below (HPS.out.below (by repeat (first | exact Below.refl _ _ | apply below_alloc | apply pw_below_drewN | apply below_drew1))).base) HPS.out.big) ((HPS.out.below (by repeat (first | exact Below.refl _ _ | apply below_alloc | apply pw_below_drewN | apply below_drew1))).bel.trans ((hF.below (HPS.out.below (by repeat (first | exact Below.refl _ _ | apply below_alloc | apply pw_below_drewN | apply below_drew1))).base).mono (by have := HPS.out.big; omega))) rfl rfl rfl)
              · go_simp
                go_wp2_with (go_at_call 34; refine (rd_clause st.1 st.2 _ _ HU.out ⟨(HPS.out.below (by repeat (first | exact Below.refl _ _ | apply below_alloc | apply pw_below_drewN | apply below_drew1))).rs, (HPS.out.below (by repeat (first | exact Below.refl _ _ | apply below_alloc | apply pw_below_drewN | apply below_drew1))).base, HPS.out.ok⟩).mono ?_; rintro en w1 ⟨rfl, hF⟩; show Leaves Tryd.prog Tryd.f14 _ (ProgEnd _ w) _ (.panicking (wrongP _)) _; exact prog_caught ((HPS.out.below (by repeat (first | exact Below.refl _ _ | apply below_alloc | apply pw_below_drewN | apply below_drew1))).r3.below (hF.below (HPS.out.below (by repeat (first | exact Below.refl _ _ | apply below_alloc | apply pw_below_drewN | apply below_drew1))).base) HPS.out.big) ((HPS.out.below (by repeat (first | exact Below.refl _ _ | apply below_alloc | apply pw_below_drewN | apply below_drew1))).bel.trans ((hF.below (HPS.out.below (by repeat (first | exact Below.refl _ _ | apply below_alloc | apply pw_below_drewN | apply below_drew1))).base).mono (by have := HPS.out.big; omega))) rfl rfl rfl)
  · rw [if_pos he] at hq
    obtain rfl : Except.error ((lexAll s.data.toList).2.1, (lexAll s.data.toList).2.2) = q := Option.some.inj hq
    have HE := Lib.hid he
    clear hq he
    go_enter_defers Tryd.func14, Tryd.ntmps14
    go_wp2_with (go_at_call 26; refine (rd_open_bad s _ (GW.belowA hG (by repeat (first | exact Below.refl _ _ | apply below_alloc | apply pw_below_drewN | apply below_drew1))) HE.out).mono ?_; rintro en w1 ⟨rfl, hb⟩; have HB := Aside0.mk hb; clear hb)
    exact prog_caught (hR3.out.below HB.out (by simp)) (below_step (by repeat (first | exact Below.refl _ _ | apply below_alloc | apply pw_below_drewN | apply below_drew1)) HB.out) rfl rfl rfl
end Go.Proofs.YthdccdbiichabaaDoor.P
/- read.Term, read.Program, read.Op as printed texts ask for them. No condition but that strconv.ErrRange holds an error. -/
namespace Go.Proofs.YthdccdbiichabaaDoor.P
open Go.RowKit Go.Proofs.YthdccdbiichabaaDoorW.PrintWords Go.Proofs.YthdccdbiichabaaDoorW.PrintLast Go.Proofs.YthdccdbiichabaaDoorW.PrintMore
set_option linter.unusedVariables false
set_option linter.unusedSimpArgs false
def termF : Res (List Cel × List (List UInt8)) → Option (List S41 × List ByteArray × Int × Int)
  | none => none
  | some (.ok x) => some (x.1.map celS, x.2.map baS, 0, 0)
  | some (.error x) => some ([], [], x.1, x.2)
def progF : Res (List ClR) → Option (List S39 × Int × Int)
  | none => none
  | some (.ok x) => some (x.map clS, 0, 0)
  | some (.error x) => some ([], x.1, x.2)
def read_Term.f (a0 : ByteArray) : Option (List S41 × List ByteArray × Int × Int) := termF (termR 100000 a0.data.toList)
def read_Program.f (a0 : ByteArray) : Option (List S39 × Int × Int) := progF (programR 100000 a0.data.toList)
def read_Op.f (a0 : ByteArray) (a1 : Bool) : Option (Int × Int × Int) :=
  some (if a1 = true then (if a0 = ⟨#[45]⟩ then (200, 0, 200) else (0, 0, 0)) else (opR a0.data.toList).getD (0, 0, 0))
theorem read_Term.calls (a0 : ByteArray) (r1 : List S41) (r2 : List ByteArray) (r3 : Int) (r4 : Int) (w : World) (h : read_Term.f a0 = some (r1, r2, r3, r4)) (hG : Aside0 (GW w)) :
    Calls Tryd.prog 9 #[.string a0] w fun e w' => ∃ v0_ v1_ : Value, e = .returned (.tuple #[v0_, v1_, .int .i64 r3, .int .i64 r4]) ∧ Kd.R k41 41 w' w.heap.size (fun _ => True) v0_ r1 ∧ Kd.R Kd.string 9 w' w.heap.size (fun _ => True) v1_ r2 ∧ Below w.heap.size w w' := by
  unfold read_Term.f at h
  match hq : termR 100000 a0.data.toList with
  | none => rw [hq] at h; cases h
  | some (.ok (x, ns)) =>
    rw [hq] at h
    cases h
    refine (rd_Term _ a0 _ hq w hG).mono ?_
    rintro e w' ⟨v0, v1, he, h1, h2, h3⟩
    exact ⟨v0, v1, he, h1, h2, h3⟩
  | some (.error (a, c)) =>
    rw [hq] at h
    cases h
    refine (rd_Term _ a0 _ hq w hG).mono ?_
    rintro e w' ⟨he, h3⟩
    exact ⟨_, _, he, Kd.R_nil _ _ _ _ _, Kd.R_nil _ _ _ _ _, h3⟩
theorem read_Program.calls (a0 : ByteArray) (r1 : List S39) (r2 : Int) (r3 : Int) (w : World) (h : read_Program.f a0 = some (r1, r2, r3)) (hG : Aside0 (GW w)) :
    Calls Tryd.prog 14 #[.string a0] w fun e w' => ∃ v0_ : Value, e = .returned (.tuple #[v0_, .int .i64 r2, .int .i64 r3]) ∧ Kd.R k39 39 w' w.heap.size (fun _ => True) v0_ r1 ∧ Below w.heap.size w w' := by
  unfold read_Program.f at h
  match hq : programR 100000 a0.data.toList with
  | none => rw [hq] at h; cases h
  | some (.ok x) =>
    rw [hq] at h
    cases h
    refine (rd_Program _ a0 _ hq w hG).mono ?_
    rintro e w' ⟨v0, he, h1, h3⟩
    exact ⟨v0, he, h1, h3⟩
  | some (.error (a, c)) =>
    rw [hq] at h
    cases h
    refine (rd_Program _ a0 _ hq w hG).mono ?_
    rintro e w' ⟨he, h3⟩
    exact ⟨_, he, Kd.R_nil _ _ _ _ _, h3⟩
end Go.Proofs.YthdccdbiichabaaDoor.P
/- read.Op: its walk. No condition. -/
namespace Go.Proofs.YthdccdbiichabaaDoor.P
open Go.RowKit Go.Proofs.YthdccdbiichabaaDoorW.PrintWords Go.Proofs.YthdccdbiichabaaDoorW.PrintLast Go.Proofs.YthdccdbiichabaaDoorW.PrintMore
set_option linter.unusedVariables false
set_option linter.unusedSimpArgs false
set_option maxHeartbeats 4000000 in
theorem read_Op.calls (a0 : ByteArray) (a1 : Bool) (r1 r2 r3 : Int) (w : World) (h : read_Op.f a0 a1 = some (r1, r2, r3)) :
    Calls Tryd.prog 22 #[.string a0, .bool a1] w fun e w' => e = .returned (.tuple #[.int .i64 r1, .int .i64 r2, .int .i64 r3]) ∧ Below w.heap.size w w' := by
  have hfl := fld_at
  unfold read_Op.f at h
  injection h with h
  by_cases c1 : a1 = true
  · subst c1
    rw [if_pos rfl] at h
    by_cases c2 : a0 = ⟨#[45]⟩
    · rw [if_pos c2] at h
      cases h
      subst c2
      go_enter Tryd.func22, Tryd.ntmps22
      go_wp2_with fail
      go_ret3
      exact ⟨rfl, Below.refl _ _⟩
    · rw [if_neg c2] at h
      cases h
      have hc : (a0.toList == ([45] : List UInt8)) = false := by
        rw [beq_eq_false_iff_ne]
        intro he
        apply c2
        rw [ByteArray.toList_eq] at he
        cases a0 with
        | mk d =>
          cases d with
          | mk l => simp at he; rw [he]
      have hc1 : (a0.toList != ([45] : List UInt8)) = true := by rw [bne, hc]; rfl
      clear c2
      go_enter Tryd.func22, Tryd.ntmps22
      go_wp2_with fail
      go_ret3
      exact ⟨rfl, Below.refl _ _⟩
  · have c1' : a1 = false := by simpa using c1
    subst c1'
    rw [if_neg c1] at h
    obtain ⟨t, rfl⟩ : ∃ t, a0 = baS t := ⟨a0.data.toList, rfl⟩
    have hop : opV t = .agg #[.int .i64 r1, .int .i64 r2, .int .i64 r3] := by
      have h' : (opR t).getD (0, 0, 0) = (r1, r2, r3) := h
      unfold opV
      cases ho : opR t with
      | none => rw [ho] at h'; cases h'; rfl
      | some o => rw [ho] at h'; cases h'; rfl
    have HOV := Aside0.mk hop
    clear h hop
    go_enter Tryd.func22, Tryd.ntmps22
    go_wp2_with (go_at_call 36; refine (rd_infix _).mono ?_; rintro en w2 ⟨v2, rfl, hO⟩; obtain ⟨htab, hb2⟩ := hO; have hlk1 := run_op htab t false; have hlk2 := run_op (W := w2.alloc (.cells #[.int .i64 0, .int .i64 0, .int .i64 0] 78)) ((Below.heap_alloc _ _ _ (blk_lt htab)).trans htab) t false; rw [HOV.out] at hlk1 hlk2; have HB2 := Aside0.mk hb2; have hlt := blk_lt htab; clear hb2)
    go_region
    all_goals (try go_wp2_with fail)
    all_goals (first | go_ret3 | skip)
    all_goals (first | exact ⟨rfl, by first | exact HB2.out | exact below_step HB2.out (by repeat (first | exact Below.refl _ _ | apply below_alloc | apply pw_below_drewN | apply below_drew1))⟩ | skip)
end Go.Proofs.YthdccdbiichabaaDoor.P
