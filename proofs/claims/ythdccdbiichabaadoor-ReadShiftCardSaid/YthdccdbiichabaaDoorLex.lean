/- lex.Lex computes lexAll: its contract. Printed by wip/gen/mklex.py. No condition but that strconv.ErrRange holds an error. -/
import Derived.Test.YthdccdbiichabaaDoorLexE
import Derived.Test.YthdccdbiichabaaDoorTokS
import Derived.Test.YthdccdbiichabaaDoorLexL
import Derived.Deep.LoopGhost
import Derived.Outline
import Derived.Laws.EntriesVeiled
import Derived.WalkMore
import Derived.ScopeJumps
namespace Go.Proofs.YthdccdbiichabaaDoor.P
open Go.RowKit Go.Proofs.YthdccdbiichabaaDoorW.PrintWords Go.Proofs.YthdccdbiichabaaDoorW.PrintLast Go.Proofs.YthdccdbiichabaaDoorW.PrintMore
set_option linter.unusedVariables false

def lex_Lex.f (a0 : ByteArray) : Option (List S65 × Int × Int) := some ((lexAll a0.data.toList).1.map tokS, (lexAll a0.data.toList).2.1, (lexAll a0.data.toList).2.2)

def LexEnd (R : List Tok × Int × Int) (w : World) (e : Ending) (w' : World) : Prop :=
  ∃ v0_ : Value, e = .returned (.tuple #[v0_, .int .i64 R.2.1, .int .i64 R.2.2]) ∧ Kd.R k65 65 w' w.heap.size (fun _ => True) v0_ (R.1.map tokS) ∧ Below w.heap.size w w'
theorem LexEnd.err {R : List Tok × Int × Int} {a e : Int} (h : R = ([], a, e)) (w w' : World) (hb : Below w.heap.size w w') : LexEnd R w (.returned (.tuple #[.slice none 0 0, .int .i64 a, .int .i64 e])) w' := by
  subst h
  exact ⟨_, rfl, Kd.R_nil _ _ _ _ _, hb⟩

set_option maxHeartbeats 4000000 in
set_option maxRecDepth 100000 in
theorem lex_great (s : ByteArray) (hs : 20000 < s.size) (w : World) :
    Calls Tryd.prog 37 #[.string s] w (LexEnd ([], 0, 2) w) := by
  have h1 : decide (20000 < (s.size : Int)) = true := decide_eq_true (by omega)
  have h2 : decide (20000 < s.size) = true := decide_eq_true hs
  go_enter Tryd.func37, Tryd.ntmps37
  go_wp2
  go_step3
  go_wp2
  rw [Exit.noGoto_ret]
  go_ret3
  exact ⟨_, rfl, Kd.R_nil _ _ _ _ _, Below.refl _ _⟩

set_option maxHeartbeats 40000000 in
set_option maxRecDepth 100000 in
theorem lex_small (s : ByteArray) (hs : s.size ≤ 20000) (R : List Tok × Int × Int) (hR : R = lexAll s.data.toList) (w : World) (hG : Aside0 (GW w)) :
    Calls Tryd.prog 37 #[.string s] w (LexEnd R w) := by
  have h1 : decide (20000 < (s.size : Int)) = false := decide_eq_false (by omega)
  have h2 : decide (20000 < s.size) = false := decide_eq_false (by omega)
  obtain ⟨kp, hp⟩ := pass_f s (by omega)
  obtain ⟨p, hpe⟩ : ∃ p, p = passL false s.data.toList := ⟨_, rfl⟩
  have hple := passL_le s.data.toList false
  rw [bl_size, ← hpe] at hple
  have HP : Hid (lex_pass.f kp s = some (p : Int)) := Lib.hid (by rw [hp, hpe])
  have HALL2 : Hid (lexL (s.size + 1) (s.data.toList.drop p) p [] = R) := Lib.hid (by rw [hR]; unfold lexAll; rw [if_neg (by rw [bl_size]; omega), bl_size, hpe])
  clear hp hpe hR
  go_enter Tryd.func37, Tryd.ntmps37
  go_wp2_with fail
  go_step3
  go_wp2_with (go_at_call 43; refine (rules_makes _).mono ?_)
  rintro e w1 ⟨rfl, hR0, hb1⟩
  have HR := Aside0.mk hR0
  have HB1 := Aside0.mk hb1
  have hz1 : w.heap.size ≤ w1.heap.size := hb1.size
  clear hR0 hb1
  go_wp2_with fail
  go_step3
  go_wp2_with (go_at_call 44; refine (lex_pass.calls kp s p _ HP.out).mono ?_)
  rintro e w2 ⟨rfl, hb2⟩
  have HB2 := Aside0.mk hb2
  clear hb2
  go_wp2
  clear HP
  go_loopg [5, 7] (s.size + 1) (fun kq v5 v7 wr => ∃ (at' : Nat) (out : List Tok), v7 = .int .i64 at' ∧ at' ≤ s.size ∧ s.size < at' + kq ∧ out.length ≤ at' ∧ Aside0 (lexL kq (s.data.toList.drop at') at' out = R) ∧ Aside0 (Kd.R k65 65 wr w1.heap.size (fun _ => True) v5 (out.map tokS)) ∧ Aside0 (Below w1.heap.size w1 wr))
  case atStart => exact ⟨p, [], rfl, hple, by omega, by simp, ⟨HALL2.out⟩, ⟨Kd.R_nil _ _ _ _ _⟩, HB2⟩
  case round =>
    obtain ⟨at', out, rfl, hat, hfu, hol, HA, HO, HB⟩ := hrel
    obtain ⟨wo, rfl⟩ : ∃ wo : World, wo = wr := ⟨_, rfl⟩
    clear HALL2 HB2
    cases gk with
    | zero => omega
    | succ g =>
    by_cases hlt : at' < s.size
    · obtain ⟨c, r, hl⟩ : ∃ c r, s.data.toList.drop at' = c :: r := by
        have := List.drop_eq_getElem_cons (show at' < s.data.toList.length by rw [bl_size]; exact hlt)
        exact ⟨_, _, this⟩
      have hltI : (at' : Int) < s.size := by omega
      have hltN : at' ≤ s.size := by omega
      have hlen : (c :: r).length = s.size - at' := by rw [← hl, List.length_drop, bl_size]
      have HLEN := Lib.hid hlen
      have HL := Lib.hid hl
      have HSL : Hid ((s.extract at' s.size).data.toList = c :: r ∧ (s.extract at' s.size).size ≤ 1000000) := Lib.hid ⟨by rw [bl_from]; exact hl, by rw [ByteArray.size_extract]; omega⟩
      clear hl hlen
      go_wp2
      go_loopg [5, 7, 32] 7 (fun g2 v5 v7 v32 wr => ∃ i : Nat, v7 = .int .i64 at' ∧ v32 = .int .i64 i ∧ i + g2 = 7 ∧ Aside0 (tokL (c :: r) = tokD g2 (c :: r)) ∧ Aside0 (Kd.R k65 65 wr w1.heap.size (fun _ => True) v5 (out.map tokS)) ∧ Aside0 (Below w1.heap.size w1 wr))
      case atStart => exact ⟨0, rfl, rfl, rfl, ⟨rfl⟩, HO, HB⟩
      case round =>
        obtain ⟨i, rfl, rfl, hi7, HT, HO2, HB2⟩ := hrel
        clear HO HB
        cases gk with
        | zero =>
          obtain rfl : i = 7 := by omega
          go_wp2
          go_ret3
          exact LexEnd.err (lex_err _ _ _ _ _ c r HL.out 40 HT.out HA.out) _ _ (below_then HB1.out HB1.out.size HB2.out)
        | succ g2 =>
          rcases (by omega : i = 0 ∨ i = 1 ∨ i = 2 ∨ i = 3 ∨ i = 4 ∨ i = 5 ∨ i = 6) with rfl | rfl | rfl | rfl | rfl | rfl | rfl
          · obtain rfl : g2 = 6 := by omega
            have hRw := HR.out
            have hb1 := HB2.out
            have q0 : wr.cell? ⟨w.heap.size + 14, 0, none⟩ = some (.int .i64 1) := pw_cell_below hb1 hRw.t0
            have q1 : wr.cell? ⟨w.heap.size + 14, 1, none⟩ = some (.func (.func 65) #[] #[.pointer (some ⟨w.heap.size, 0, none⟩)]) := pw_cell_below hb1 hRw.t1
            have q2 : wr.cell? ⟨w.heap.size + 14, 2, none⟩ = some (.func (.func 67) #[] #[.pointer (some ⟨w.heap.size + 1, 0, none⟩), .pointer (some ⟨w.heap.size + 2, 0, none⟩)]) := pw_cell_below hb1 hRw.t2
            have hszr := hb1.size
            have hlt1 := World.block_lt_of_cell? w1 _ hRw.t0
            clear hRw hb1
            cases hb : bg 0 (c :: r) with
            | false =>
              have HC1 : Hid (∀ W, Below w1.heap.size w1 W → Calls Tryd.prog 65 #[.string (s.extract at' s.size), .pointer (some ⟨w.heap.size, 0, none⟩)] W fun e w' => e = .returned (.bool false) ∧ ∃ m, w' = W.drewN m) := Lib.hid fun W hW => by
                have h := begins_0 _ c r HSL.out.1 HSL.out.2 w w1 HR.out W hW
                rw [hb] at h
                exact h
              have HT2 : Aside0 (tokL (c :: r) = tokD 6 (c :: r)) := ⟨HT.out.trans (tokD_no 6 _ hb)⟩
              clear hb HT HSL
              go_wp2
              go_quiet ((go_at_call 65; exact Calls.quiet_of (HC1.out _ (by repeat (first | (with_reducible first | exact HB2.out | apply below_alloc | apply pw_below_drewN | apply below_drew1) | exact HB2.out)))))
              go_wp2
              go_roundg 6
              case measure => omega
              case rel => exact ⟨1, by first | rfl | simp, by first | rfl | simp, rfl, HT2, ⟨by (with_reducible repeat (first | apply Kd.R_alloc | apply Kd.R_drewN | apply Kd.R_drew)); exact HO2.out⟩, ⟨(by repeat (first | (with_reducible first | exact HB2.out | apply below_alloc | apply pw_below_drewN | apply below_drew1) | exact HB2.out))⟩⟩
            | true =>
              have HC1 : Hid (∀ W, Below w1.heap.size w1 W → Calls Tryd.prog 65 #[.string (s.extract at' s.size), .pointer (some ⟨w.heap.size, 0, none⟩)] W fun e w' => e = .returned (.bool true) ∧ ∃ m, w' = W.drewN m) := Lib.hid fun W hW => by
                have h := begins_0 _ c r HSL.out.1 HSL.out.2 w w1 HR.out W hW
                rw [hb] at h
                exact h
              have hact := HT.out.trans (tokD_yes 6 _ hb)
              cases ht : tk 0 (c :: r) with
              | error e0 =>
                have HC2 : Hid (∀ W, Below w1.heap.size w1 W → Calls Tryd.prog 67 #[.string (s.extract at' s.size), .pointer (some ⟨w.heap.size + 1, 0, none⟩), .pointer (some ⟨w.heap.size + 2, 0, none⟩)] W fun e w' => e = .returned (.tuple #[.string ⟨#[]⟩, .int .i64 0, .int .i64 e0]) ∧ Below W.heap.size W w') := Lib.hid fun W hW => by
                  have h := takes_0 _ c r HSL.out.1 HSL.out.2 w w1 HR.out W hW
                  rw [ht] at h
                  exact h
                have HACT : Hid (tokL (c :: r) = .error e0) := Lib.hid (hact.trans (act_err 0 _ _ ht))
                have he0 : (e0 == 0) = false := by rw [beq_eq_false_iff_ne]; rcases tk_err _ _ _ ht with h | h <;> omega
                have he1 : (e0 != 0) = true := by rw [bne_iff_ne]; rcases tk_err _ _ _ ht with h | h <;> omega
                clear hb HT HSL hact ht
                go_wp2
                go_quiet ((go_at_call 65; exact Calls.quiet_of (HC1.out _ (by repeat (first | (with_reducible first | exact HB2.out | apply below_alloc | apply pw_below_drewN | apply below_drew1) | exact HB2.out)))))
                go_wp2
                go_region_with ((go_at_call 67; refine (HC2.out _ (by repeat (first | (with_reducible first | exact HB2.out | apply below_alloc | apply pw_below_drewN | apply below_drew1) | exact HB2.out))).mono ?_; rintro e W3 ⟨rfl, hb3⟩))
                have HB3 := Aside0.mk hb3
                clear hb3
                go_wp2
                go_ret3
                exact LexEnd.err (lex_err _ _ _ _ _ c r HL.out e0 HACT.out HA.out) _ _ (below_then HB1.out HB1.out.size (below_step (by repeat (first | (with_reducible first | exact HB2.out | apply below_alloc | apply pw_below_drewN | apply below_drew1) | exact HB2.out)) HB3.out))
              | ok tn =>
                obtain ⟨t, n⟩ := tn
                obtain ⟨hn1, hn2⟩ := tk_len 0 c r t n hb ht
                rw [HLEN.out] at hn2
                obtain ⟨T, hT⟩ : ∃ T : ByteArray, T = ⟨t.toArray⟩ := ⟨_, rfl⟩
                have HC2 : Hid (∀ W, Below w1.heap.size w1 W → Calls Tryd.prog 67 #[.string (s.extract at' s.size), .pointer (some ⟨w.heap.size + 1, 0, none⟩), .pointer (some ⟨w.heap.size + 2, 0, none⟩)] W fun e w' => e = .returned (.tuple #[.string T, .int .i64 n, .int .i64 0]) ∧ Below W.heap.size W w') := Lib.hid fun W hW => by
                  have h := takes_0 _ c r HSL.out.1 HSL.out.2 w w1 HR.out W hW
                  rw [ht] at h
                  rw [hT]
                  exact h
                have HACT : Hid (tokL (c :: r) = .ok ⟨1, t, 0, n⟩) := Lib.hid (hact.trans (act_ok 0 _ _ _ (by decide) ht))
                obtain ⟨m, hm⟩ : ∃ m : Nat, m = at' + n := ⟨_, rfl⟩
                obtain ⟨q, hq⟩ : ∃ q, q = passL false (s.data.toList.drop m) := ⟨_, rfl⟩
                have hq2 := passL_le (s.data.toList.drop m) false
                rw [← hq, List.length_drop, bl_size] at hq2
                obtain ⟨kq, hkq⟩ := pass_f (s.extract m s.size) (by rw [ByteArray.size_extract]; omega)
                rw [bl_from, ← hq] at hkq
                have HPQ : Hid (lex_pass.f kq (s.extract m s.size) = some (q : Int)) := Lib.hid hkq
                have hmI : (at' : Int) + (n : Int) = (m : Int) := by omega
                have hms : m ≤ s.size := by omega
                have hmsI : (m : Int) ≤ s.size := by omega
                have HM : Hid (at' + n = m) := Lib.hid hm.symm
                have HSTEP : Hid (lexL g (s.data.toList.drop (m + q)) (m + q) (out ++ [⟨1, t, 0, (at' : Int)⟩]) = R) := Lib.hid (lex_step g _ at' out R c r HL.out _ HACT.out HA.out m q hm hq)
                have HTS : Hid ((⟨1, T, 0, (at' : Int)⟩ : S65) = tokS ⟨1, t, 0, (at' : Int)⟩) := Lib.hid (by rw [hT]; rfl)
                clear hb HT HSL hact ht hT hkq hq hm HA HACT
                go_wp2
                go_quiet ((go_at_call 65; exact Calls.quiet_of (HC1.out _ (by repeat (first | (with_reducible first | exact HB2.out | apply below_alloc | apply pw_below_drewN | apply below_drew1) | exact HB2.out)))))
                go_wp2
                go_region_with ((go_at_call 67; refine (HC2.out _ (by repeat (first | (with_reducible first | exact HB2.out | apply below_alloc | apply pw_below_drewN | apply below_drew1) | exact HB2.out))).mono ?_; rintro e W3 ⟨rfl, hb3⟩))
                have hk0 := (hb3.cell (p := ⟨wr.heap.size, 0, none⟩) (by simp)).trans (by simp : _ = some (.int .i64 1))
                have hz9 : wr.heap.size < W3.heap.size := by have := hb3.size; simp at this; omega
                have HB3 := Aside0.mk (below_step (by repeat (first | (with_reducible first | exact HB2.out | apply below_alloc | apply pw_below_drewN | apply below_drew1) | exact HB2.out)) hb3)
                have HO3 := Aside0.mk (Kd.R_below (by (with_reducible repeat (first | apply Kd.R_alloc | apply Kd.R_drewN | apply Kd.R_drew)); exact HO2.out) hb3)
                have hz3 := HB3.out.size
                clear hb3 HB2 HO2 HC1 HC2 q0 q1 q2
                go_wp2_with (first | (at_builtin; refine Kd.R_append k65 (w0 := w1) w1.heap.size rfl (.tmp 75) (.tmp 77) 67 65 (.agg #[.int .i64 0, .string ⟨#[]⟩, .int .i64 0, .int .i64 0]) 40 rfl Tryd.underlying67 infoTk rfl (by decide) (by omega) u5 (out.map tokS) (⟨1, T, 0, (at' : Int)⟩ : S65) [.int .i64 1, .string T, .int .i64 0, .int .i64 at'] (fun _ => True) (fun _ => False) rfl (by first | (go_simp; done) | (go_simp; rfl)) (k65_mkM _ _ _ _) (fun _ hk => hk.elim) (fun _ _ => trivial) (by (with_reducible repeat (first | apply Kd.R_alloc | apply Kd.R_drewN | apply Kd.R_drew)); exact HO3.out) (by repeat (first | (with_reducible first | exact HB3.out | apply below_alloc | apply pw_below_drewN | apply below_drew1) | exact HB3.out)) (by simp; omega) (by simp; omega) ?_; intro v4 w4 ho4 hb4 hg4 hat4) | (go_at_call 44; refine (lex_pass.calls kq (s.extract m s.size) q _ HPQ.out).mono ?_; rintro e w5 ⟨rfl, hb5⟩))
                go_roundg g
                case measure => omega
                case rel =>
                  refine ⟨m + q, out ++ [⟨1, t, 0, (at' : Int)⟩], by first | rfl | simp, by omega, by omega, by rw [List.length_append]; simp; omega, ⟨HSTEP.out⟩, ⟨?_⟩, ⟨below_then hb4 hb4.size hb5⟩⟩
                  rw [List.map_append, List.map_cons, List.map_nil, ← HTS.out]
                  exact Kd.R_below ho4 hb5
          · obtain rfl : g2 = 5 := by omega
            have hRw := HR.out
            have hb1 := HB2.out
            have q0 : wr.cell? ⟨w.heap.size + 14, 3, none⟩ = some (.int .i64 2) := pw_cell_below hb1 hRw.t3
            have q1 : wr.cell? ⟨w.heap.size + 14, 4, none⟩ = some (.func (.func 65) #[] #[.pointer (some ⟨w.heap.size + 3, 0, none⟩)]) := pw_cell_below hb1 hRw.t4
            have q2 : wr.cell? ⟨w.heap.size + 14, 5, none⟩ = some (.func (.func 67) #[] #[.pointer (some ⟨w.heap.size + 4, 0, none⟩), .pointer (some ⟨w.heap.size + 5, 0, none⟩)]) := pw_cell_below hb1 hRw.t5
            have hszr := hb1.size
            have hlt1 := World.block_lt_of_cell? w1 _ hRw.t0
            clear hRw hb1
            cases hb : bg 1 (c :: r) with
            | false =>
              have HC1 : Hid (∀ W, Below w1.heap.size w1 W → Calls Tryd.prog 65 #[.string (s.extract at' s.size), .pointer (some ⟨w.heap.size + 3, 0, none⟩)] W fun e w' => e = .returned (.bool false) ∧ ∃ m, w' = W.drewN m) := Lib.hid fun W hW => by
                have h := begins_1 _ c r HSL.out.1 HSL.out.2 w w1 HR.out W hW
                rw [hb] at h
                exact h
              have HT2 : Aside0 (tokL (c :: r) = tokD 5 (c :: r)) := ⟨HT.out.trans (tokD_no 5 _ hb)⟩
              clear hb HT HSL
              go_wp2
              go_quiet ((go_at_call 65; exact Calls.quiet_of (HC1.out _ (by repeat (first | (with_reducible first | exact HB2.out | apply below_alloc | apply pw_below_drewN | apply below_drew1) | exact HB2.out)))))
              go_wp2
              go_roundg 5
              case measure => omega
              case rel => exact ⟨2, by first | rfl | simp, by first | rfl | simp, rfl, HT2, ⟨by (with_reducible repeat (first | apply Kd.R_alloc | apply Kd.R_drewN | apply Kd.R_drew)); exact HO2.out⟩, ⟨(by repeat (first | (with_reducible first | exact HB2.out | apply below_alloc | apply pw_below_drewN | apply below_drew1) | exact HB2.out))⟩⟩
            | true =>
              have HC1 : Hid (∀ W, Below w1.heap.size w1 W → Calls Tryd.prog 65 #[.string (s.extract at' s.size), .pointer (some ⟨w.heap.size + 3, 0, none⟩)] W fun e w' => e = .returned (.bool true) ∧ ∃ m, w' = W.drewN m) := Lib.hid fun W hW => by
                have h := begins_1 _ c r HSL.out.1 HSL.out.2 w w1 HR.out W hW
                rw [hb] at h
                exact h
              have hact := HT.out.trans (tokD_yes 5 _ hb)
              cases ht : tk 1 (c :: r) with
              | error e0 =>
                have HC2 : Hid (∀ W, Below w1.heap.size w1 W → Calls Tryd.prog 67 #[.string (s.extract at' s.size), .pointer (some ⟨w.heap.size + 4, 0, none⟩), .pointer (some ⟨w.heap.size + 5, 0, none⟩)] W fun e w' => e = .returned (.tuple #[.string ⟨#[]⟩, .int .i64 0, .int .i64 e0]) ∧ Below W.heap.size W w') := Lib.hid fun W hW => by
                  have h := takes_1 _ c r HSL.out.1 HSL.out.2 w w1 HR.out W hW
                  rw [ht] at h
                  exact h
                have HACT : Hid (tokL (c :: r) = .error e0) := Lib.hid (hact.trans (act_err 1 _ _ ht))
                have he0 : (e0 == 0) = false := by rw [beq_eq_false_iff_ne]; rcases tk_err _ _ _ ht with h | h <;> omega
                have he1 : (e0 != 0) = true := by rw [bne_iff_ne]; rcases tk_err _ _ _ ht with h | h <;> omega
                clear hb HT HSL hact ht
                go_wp2
                go_quiet ((go_at_call 65; exact Calls.quiet_of (HC1.out _ (by repeat (first | (with_reducible first | exact HB2.out | apply below_alloc | apply pw_below_drewN | apply below_drew1) | exact HB2.out)))))
                go_wp2
                go_region_with ((go_at_call 67; refine (HC2.out _ (by repeat (first | (with_reducible first | exact HB2.out | apply below_alloc | apply pw_below_drewN | apply below_drew1) | exact HB2.out))).mono ?_; rintro e W3 ⟨rfl, hb3⟩))
                have HB3 := Aside0.mk hb3
                clear hb3
                go_wp2
                go_ret3
                exact LexEnd.err (lex_err _ _ _ _ _ c r HL.out e0 HACT.out HA.out) _ _ (below_then HB1.out HB1.out.size (below_step (by repeat (first | (with_reducible first | exact HB2.out | apply below_alloc | apply pw_below_drewN | apply below_drew1) | exact HB2.out)) HB3.out))
              | ok tn =>
                obtain ⟨t, n⟩ := tn
                obtain ⟨hn1, hn2⟩ := tk_len 1 c r t n hb ht
                rw [HLEN.out] at hn2
                obtain ⟨T, hT⟩ : ∃ T : ByteArray, T = ⟨t.toArray⟩ := ⟨_, rfl⟩
                have HC2 : Hid (∀ W, Below w1.heap.size w1 W → Calls Tryd.prog 67 #[.string (s.extract at' s.size), .pointer (some ⟨w.heap.size + 4, 0, none⟩), .pointer (some ⟨w.heap.size + 5, 0, none⟩)] W fun e w' => e = .returned (.tuple #[.string T, .int .i64 n, .int .i64 0]) ∧ Below W.heap.size W w') := Lib.hid fun W hW => by
                  have h := takes_1 _ c r HSL.out.1 HSL.out.2 w w1 HR.out W hW
                  rw [ht] at h
                  rw [hT]
                  exact h
                have HACT : Hid (tokL (c :: r) = .ok ⟨2, t, 0, n⟩) := Lib.hid (hact.trans (act_ok 1 _ _ _ (by decide) ht))
                obtain ⟨m, hm⟩ : ∃ m : Nat, m = at' + n := ⟨_, rfl⟩
                obtain ⟨q, hq⟩ : ∃ q, q = passL false (s.data.toList.drop m) := ⟨_, rfl⟩
                have hq2 := passL_le (s.data.toList.drop m) false
                rw [← hq, List.length_drop, bl_size] at hq2
                obtain ⟨kq, hkq⟩ := pass_f (s.extract m s.size) (by rw [ByteArray.size_extract]; omega)
                rw [bl_from, ← hq] at hkq
                have HPQ : Hid (lex_pass.f kq (s.extract m s.size) = some (q : Int)) := Lib.hid hkq
                have hmI : (at' : Int) + (n : Int) = (m : Int) := by omega
                have hms : m ≤ s.size := by omega
                have hmsI : (m : Int) ≤ s.size := by omega
                have HM : Hid (at' + n = m) := Lib.hid hm.symm
                have HSTEP : Hid (lexL g (s.data.toList.drop (m + q)) (m + q) (out ++ [⟨2, t, 0, (at' : Int)⟩]) = R) := Lib.hid (lex_step g _ at' out R c r HL.out _ HACT.out HA.out m q hm hq)
                have HTS : Hid ((⟨2, T, 0, (at' : Int)⟩ : S65) = tokS ⟨2, t, 0, (at' : Int)⟩) := Lib.hid (by rw [hT]; rfl)
                clear hb HT HSL hact ht hT hkq hq hm HA HACT
                go_wp2
                go_quiet ((go_at_call 65; exact Calls.quiet_of (HC1.out _ (by repeat (first | (with_reducible first | exact HB2.out | apply below_alloc | apply pw_below_drewN | apply below_drew1) | exact HB2.out)))))
                go_wp2
                go_region_with ((go_at_call 67; refine (HC2.out _ (by repeat (first | (with_reducible first | exact HB2.out | apply below_alloc | apply pw_below_drewN | apply below_drew1) | exact HB2.out))).mono ?_; rintro e W3 ⟨rfl, hb3⟩))
                have hk0 := (hb3.cell (p := ⟨wr.heap.size, 0, none⟩) (by simp)).trans (by simp : _ = some (.int .i64 2))
                have hz9 : wr.heap.size < W3.heap.size := by have := hb3.size; simp at this; omega
                have HB3 := Aside0.mk (below_step (by repeat (first | (with_reducible first | exact HB2.out | apply below_alloc | apply pw_below_drewN | apply below_drew1) | exact HB2.out)) hb3)
                have HO3 := Aside0.mk (Kd.R_below (by (with_reducible repeat (first | apply Kd.R_alloc | apply Kd.R_drewN | apply Kd.R_drew)); exact HO2.out) hb3)
                have hz3 := HB3.out.size
                clear hb3 HB2 HO2 HC1 HC2 q0 q1 q2
                go_wp2_with (first | (at_builtin; refine Kd.R_append k65 (w0 := w1) w1.heap.size rfl (.tmp 75) (.tmp 77) 67 65 (.agg #[.int .i64 0, .string ⟨#[]⟩, .int .i64 0, .int .i64 0]) 40 rfl Tryd.underlying67 infoTk rfl (by decide) (by omega) u5 (out.map tokS) (⟨2, T, 0, (at' : Int)⟩ : S65) [.int .i64 2, .string T, .int .i64 0, .int .i64 at'] (fun _ => True) (fun _ => False) rfl (by first | (go_simp; done) | (go_simp; rfl)) (k65_mkM _ _ _ _) (fun _ hk => hk.elim) (fun _ _ => trivial) (by (with_reducible repeat (first | apply Kd.R_alloc | apply Kd.R_drewN | apply Kd.R_drew)); exact HO3.out) (by repeat (first | (with_reducible first | exact HB3.out | apply below_alloc | apply pw_below_drewN | apply below_drew1) | exact HB3.out)) (by simp; omega) (by simp; omega) ?_; intro v4 w4 ho4 hb4 hg4 hat4) | (go_at_call 44; refine (lex_pass.calls kq (s.extract m s.size) q _ HPQ.out).mono ?_; rintro e w5 ⟨rfl, hb5⟩))
                go_roundg g
                case measure => omega
                case rel =>
                  refine ⟨m + q, out ++ [⟨2, t, 0, (at' : Int)⟩], by first | rfl | simp, by omega, by omega, by rw [List.length_append]; simp; omega, ⟨HSTEP.out⟩, ⟨?_⟩, ⟨below_then hb4 hb4.size hb5⟩⟩
                  rw [List.map_append, List.map_cons, List.map_nil, ← HTS.out]
                  exact Kd.R_below ho4 hb5
          · obtain rfl : g2 = 4 := by omega
            have hRw := HR.out
            have hb1 := HB2.out
            have q0 : wr.cell? ⟨w.heap.size + 14, 6, none⟩ = some (.int .i64 3) := pw_cell_below hb1 hRw.t6
            have q1 : wr.cell? ⟨w.heap.size + 14, 7, none⟩ = some (.func (.func 65) #[] #[.pointer (some ⟨w.heap.size + 6, 0, none⟩)]) := pw_cell_below hb1 hRw.t7
            have q2 : wr.cell? ⟨w.heap.size + 14, 8, none⟩ = some (.func (.func 67) #[] #[.pointer (some ⟨w.heap.size + 7, 0, none⟩), .pointer (some ⟨w.heap.size + 8, 0, none⟩)]) := pw_cell_below hb1 hRw.t8
            have hszr := hb1.size
            have hlt1 := World.block_lt_of_cell? w1 _ hRw.t0
            clear hRw hb1
            cases hb : bg 2 (c :: r) with
            | false =>
              have HC1 : Hid (∀ W, Below w1.heap.size w1 W → Calls Tryd.prog 65 #[.string (s.extract at' s.size), .pointer (some ⟨w.heap.size + 6, 0, none⟩)] W fun e w' => e = .returned (.bool false) ∧ ∃ m, w' = W.drewN m) := Lib.hid fun W hW => by
                have h := begins_2 _ c r HSL.out.1 HSL.out.2 w w1 HR.out W hW
                rw [hb] at h
                exact h
              have HT2 : Aside0 (tokL (c :: r) = tokD 4 (c :: r)) := ⟨HT.out.trans (tokD_no 4 _ hb)⟩
              clear hb HT HSL
              go_wp2
              go_quiet ((go_at_call 65; exact Calls.quiet_of (HC1.out _ (by repeat (first | (with_reducible first | exact HB2.out | apply below_alloc | apply pw_below_drewN | apply below_drew1) | exact HB2.out)))))
              go_wp2
              go_roundg 4
              case measure => omega
              case rel => exact ⟨3, by first | rfl | simp, by first | rfl | simp, rfl, HT2, ⟨by (with_reducible repeat (first | apply Kd.R_alloc | apply Kd.R_drewN | apply Kd.R_drew)); exact HO2.out⟩, ⟨(by repeat (first | (with_reducible first | exact HB2.out | apply below_alloc | apply pw_below_drewN | apply below_drew1) | exact HB2.out))⟩⟩
            | true =>
              have HC1 : Hid (∀ W, Below w1.heap.size w1 W → Calls Tryd.prog 65 #[.string (s.extract at' s.size), .pointer (some ⟨w.heap.size + 6, 0, none⟩)] W fun e w' => e = .returned (.bool true) ∧ ∃ m, w' = W.drewN m) := Lib.hid fun W hW => by
                have h := begins_2 _ c r HSL.out.1 HSL.out.2 w w1 HR.out W hW
                rw [hb] at h
                exact h
              have hact := HT.out.trans (tokD_yes 4 _ hb)
              cases ht : tk 2 (c :: r) with
              | error e0 =>
                have HC2 : Hid (∀ W, Below w1.heap.size w1 W → Calls Tryd.prog 67 #[.string (s.extract at' s.size), .pointer (some ⟨w.heap.size + 7, 0, none⟩), .pointer (some ⟨w.heap.size + 8, 0, none⟩)] W fun e w' => e = .returned (.tuple #[.string ⟨#[]⟩, .int .i64 0, .int .i64 e0]) ∧ Below W.heap.size W w') := Lib.hid fun W hW => by
                  have h := takes_2 _ c r HSL.out.1 HSL.out.2 w w1 HR.out W hW
                  rw [ht] at h
                  exact h
                have HACT : Hid (tokL (c :: r) = .error e0) := Lib.hid (hact.trans (act_err 2 _ _ ht))
                have he0 : (e0 == 0) = false := by rw [beq_eq_false_iff_ne]; rcases tk_err _ _ _ ht with h | h <;> omega
                have he1 : (e0 != 0) = true := by rw [bne_iff_ne]; rcases tk_err _ _ _ ht with h | h <;> omega
                clear hb HT HSL hact ht
                go_wp2
                go_quiet ((go_at_call 65; exact Calls.quiet_of (HC1.out _ (by repeat (first | (with_reducible first | exact HB2.out | apply below_alloc | apply pw_below_drewN | apply below_drew1) | exact HB2.out)))))
                go_wp2
                go_region_with ((go_at_call 67; refine (HC2.out _ (by repeat (first | (with_reducible first | exact HB2.out | apply below_alloc | apply pw_below_drewN | apply below_drew1) | exact HB2.out))).mono ?_; rintro e W3 ⟨rfl, hb3⟩))
                have HB3 := Aside0.mk hb3
                clear hb3
                go_wp2
                go_ret3
                exact LexEnd.err (lex_err _ _ _ _ _ c r HL.out e0 HACT.out HA.out) _ _ (below_then HB1.out HB1.out.size (below_step (by repeat (first | (with_reducible first | exact HB2.out | apply below_alloc | apply pw_below_drewN | apply below_drew1) | exact HB2.out)) HB3.out))
              | ok tn =>
                obtain ⟨t, n⟩ := tn
                obtain ⟨hn1, hn2⟩ := tk_len 2 c r t n hb ht
                rw [HLEN.out] at hn2
                obtain ⟨T, hT⟩ : ∃ T : ByteArray, T = ⟨t.toArray⟩ := ⟨_, rfl⟩
                have HC2 : Hid (∀ W, Below w1.heap.size w1 W → Calls Tryd.prog 67 #[.string (s.extract at' s.size), .pointer (some ⟨w.heap.size + 7, 0, none⟩), .pointer (some ⟨w.heap.size + 8, 0, none⟩)] W fun e w' => e = .returned (.tuple #[.string T, .int .i64 n, .int .i64 0]) ∧ Below W.heap.size W w') := Lib.hid fun W hW => by
                  have h := takes_2 _ c r HSL.out.1 HSL.out.2 w w1 HR.out W hW
                  rw [ht] at h
                  rw [hT]
                  exact h
                obtain ⟨hd1, hd2, hd3⟩ := tk_digits c r t n hb ht
                have hnf := number_f t hd1 hd2 hd3
                by_cases hv : decVal t > 2147483647
                · have HCN : Hid (∀ W, Below w1.heap.size w1 W → Calls Tryd.prog 45 #[.string T] W fun e w' => e = .returned (.tuple #[.int .i64 0, .int .i64 2]) ∧ Below W.heap.size W w') := Lib.hid fun W hW => by
                    rw [if_pos hv, ← hT] at hnf
                    exact lex_number.calls T 0 2 W hnf (GW.belowA hG (below_then HB1.out HB1.out.size hW))
                  have HACT : Hid (tokL (c :: r) = .error 2) := Lib.hid (hact.trans (act_big _ _ _ ht hv))
                  clear hb HT HSL hact ht hnf hd1 hd2 hd3 hT hv
                  go_wp2
                  go_quiet ((go_at_call 65; exact Calls.quiet_of (HC1.out _ (by repeat (first | (with_reducible first | exact HB2.out | apply below_alloc | apply pw_below_drewN | apply below_drew1) | exact HB2.out)))))
                  go_wp2
                  go_region_with ((go_at_call 67; refine (HC2.out _ (by repeat (first | (with_reducible first | exact HB2.out | apply below_alloc | apply pw_below_drewN | apply below_drew1) | exact HB2.out))).mono ?_; rintro e W3 ⟨rfl, hb3⟩))
                  have hk0 := (hb3.cell (p := ⟨wr.heap.size, 0, none⟩) (by simp)).trans (by simp : _ = some (.int .i64 3))
                  have hz9 : wr.heap.size < W3.heap.size := by have := hb3.size; simp at this; omega
                  have HB3 := Aside0.mk (below_step (by repeat (first | (with_reducible first | exact HB2.out | apply below_alloc | apply pw_below_drewN | apply below_drew1) | exact HB2.out)) hb3)
                  have hz3 := HB3.out.size
                  clear hb3 HB2 HO2 HC1 HC2 q0 q1 q2
                  go_wp2_with (go_at_call 45; refine (HCN.out _ (by repeat (first | (with_reducible first | exact HB3.out | apply below_alloc | apply pw_below_drewN | apply below_drew1) | exact HB3.out))).mono ?_)
                  rintro e w4 ⟨rfl, hb4⟩
                  have hc4 := (hb4.cell (p := ⟨W3.heap.size, 2, none⟩) (by simp)).trans (by simp : _ = some (.int .i64 0))
                  have hf4 := (hb4.frozen (p := ⟨W3.heap.size, 2, none⟩) (by simp)).trans (by simp : _ = false)
                  have HB4 := Aside0.mk (below_step (by repeat (first | (with_reducible first | exact HB3.out | apply below_alloc | apply pw_below_drewN | apply below_drew1) | exact HB3.out)) hb4)
                  clear hb4
                  go_wp2
                  go_ret3
                  exact LexEnd.err (lex_err _ _ _ _ _ c r HL.out 2 HACT.out HA.out) _ _ (below_then HB1.out HB1.out.size (below_set HB4.out hz3))
                · have HCN : Hid (∀ W, Below w1.heap.size w1 W → Calls Tryd.prog 45 #[.string T] W fun e w' => e = .returned (.tuple #[.int .i64 (decVal t), .int .i64 0]) ∧ Below W.heap.size W w') := Lib.hid fun W hW => by
                    rw [if_neg hv, ← hT] at hnf
                    exact lex_number.calls T _ 0 W hnf (GW.belowA hG (below_then HB1.out HB1.out.size hW))
                  have HACT : Hid (tokL (c :: r) = .ok ⟨3, t, decVal t, n⟩) := Lib.hid (hact.trans (act_num _ _ _ ht hv))
                  obtain ⟨m, hm⟩ : ∃ m : Nat, m = at' + n := ⟨_, rfl⟩
                  obtain ⟨q, hq⟩ : ∃ q, q = passL false (s.data.toList.drop m) := ⟨_, rfl⟩
                  have hq2 := passL_le (s.data.toList.drop m) false
                  rw [← hq, List.length_drop, bl_size] at hq2
                  obtain ⟨kq, hkq⟩ := pass_f (s.extract m s.size) (by rw [ByteArray.size_extract]; omega)
                  rw [bl_from, ← hq] at hkq
                  have HPQ : Hid (lex_pass.f kq (s.extract m s.size) = some (q : Int)) := Lib.hid hkq
                  have hmI : (at' : Int) + (n : Int) = (m : Int) := by omega
                  have hms : m ≤ s.size := by omega
                  have hmsI : (m : Int) ≤ s.size := by omega
                  have HM : Hid (at' + n = m) := Lib.hid hm.symm
                  have HSTEP : Hid (lexL g (s.data.toList.drop (m + q)) (m + q) (out ++ [⟨3, t, decVal t, (at' : Int)⟩]) = R) := Lib.hid (lex_step g _ at' out R c r HL.out _ HACT.out HA.out m q hm hq)
                  have HTS : Hid ((⟨3, T, (decVal t : Int), (at' : Int)⟩ : S65) = tokS ⟨3, t, decVal t, (at' : Int)⟩) := Lib.hid (by rw [hT]; rfl)
                  clear hb HT HSL hact ht hT hkq hq hm HA HACT hnf hd1 hd2 hd3 hv
                  generalize (decVal t : Int) = val at *
                  go_wp2
                  go_quiet ((go_at_call 65; exact Calls.quiet_of (HC1.out _ (by repeat (first | (with_reducible first | exact HB2.out | apply below_alloc | apply pw_below_drewN | apply below_drew1) | exact HB2.out)))))
                  go_wp2
                  go_region_with ((go_at_call 67; refine (HC2.out _ (by repeat (first | (with_reducible first | exact HB2.out | apply below_alloc | apply pw_below_drewN | apply below_drew1) | exact HB2.out))).mono ?_; rintro e W3 ⟨rfl, hb3⟩))
                  have hk0 := (hb3.cell (p := ⟨wr.heap.size, 0, none⟩) (by simp)).trans (by simp : _ = some (.int .i64 3))
                  have hz9 : wr.heap.size < W3.heap.size := by have := hb3.size; simp at this; omega
                  have HB3 := Aside0.mk (below_step (by repeat (first | (with_reducible first | exact HB2.out | apply below_alloc | apply pw_below_drewN | apply below_drew1) | exact HB2.out)) hb3)
                  have HO3 := Aside0.mk (Kd.R_below (by (with_reducible repeat (first | apply Kd.R_alloc | apply Kd.R_drewN | apply Kd.R_drew)); exact HO2.out) hb3)
                  have hz3 := HB3.out.size
                  clear hb3 HB2 HO2 HC1 HC2 q0 q1 q2
                  go_wp2_with (go_at_call 45; refine (HCN.out _ (by repeat (first | (with_reducible first | exact HB3.out | apply below_alloc | apply pw_below_drewN | apply below_drew1) | exact HB3.out))).mono ?_)
                  rintro e w4 ⟨rfl, hb4⟩
                  have hc0 := (hb4.cell (p := ⟨W3.heap.size, 0, none⟩) (by simp)).trans (by simp : _ = some (.int .i64 3))
                  have hc1 := (hb4.cell (p := ⟨W3.heap.size, 1, none⟩) (by simp)).trans (by simp : _ = some (.string T))
                  have hc2 := (hb4.cell (p := ⟨W3.heap.size, 2, none⟩) (by simp)).trans (by simp : _ = some (.int .i64 0))
                  have hc3 := (hb4.cell (p := ⟨W3.heap.size, 3, none⟩) (by simp)).trans (by simp : _ = some (.int .i64 at'))
                  have hf2 := (hb4.frozen (p := ⟨W3.heap.size, 2, none⟩) (by simp)).trans (by simp : _ = false)
                  have hz4 : W3.heap.size < w4.heap.size := by have := hb4.size; simp at this; omega
                  have HB4 := Aside0.mk (below_set (v := .int .i64 val) (j := 2) (below_step (by repeat (first | (with_reducible first | exact HB3.out | apply below_alloc | apply pw_below_drewN | apply below_drew1) | exact HB3.out)) hb4) hz3)
                  have HO4 := Aside0.mk (Kd.R_mono (Kd.R_far (p := ⟨W3.heap.size, 2, none⟩) (Kd.R_below (Kd.R_alloc (Kd.R_elderB HO3.out W3.heap.size (Nat.le_refl _)) _) hb4) (fun _ hk => hk.2) (.int .i64 val)) (ok' := fun _ => True) (fun _ _ => trivial))
                  clear hb4 HB3 HO3 HCN
                  go_wp2_with (first | (at_builtin; refine Kd.R_append k65 (w0 := w1) w1.heap.size rfl (.tmp 75) (.tmp 77) 67 65 (.agg #[.int .i64 0, .string ⟨#[]⟩, .int .i64 0, .int .i64 0]) 40 rfl Tryd.underlying67 infoTk rfl (by decide) (by omega) u5 (out.map tokS) (⟨3, T, val, (at' : Int)⟩ : S65) [.int .i64 3, .string T, .int .i64 val, .int .i64 at'] (fun _ => True) (fun _ => False) rfl (by first | (go_simp; done) | (go_simp; rfl)) (k65_mkM _ _ _ _) (fun _ hk => hk.elim) (fun _ _ => trivial) HO4.out HB4.out (by simp; omega) (by simp; omega) ?_; intro v4 w5 ho4 hb5 hg4 hat4) | (go_at_call 44; refine (lex_pass.calls kq (s.extract m s.size) q _ HPQ.out).mono ?_; rintro e w6 ⟨rfl, hb6⟩))
                  go_roundg g
                  case measure => omega
                  case rel =>
                    refine ⟨m + q, out ++ [⟨3, t, val, (at' : Int)⟩], by first | rfl | simp, by omega, by omega, by rw [List.length_append]; simp; omega, ⟨HSTEP.out⟩, ⟨?_⟩, ⟨below_then hb5 hb5.size hb6⟩⟩
                    rw [List.map_append, List.map_cons, List.map_nil, ← HTS.out]
                    exact Kd.R_below ho4 hb6
          · obtain rfl : g2 = 3 := by omega
            have hRw := HR.out
            have hb1 := HB2.out
            have q0 : wr.cell? ⟨w.heap.size + 14, 9, none⟩ = some (.int .i64 1) := pw_cell_below hb1 hRw.t9
            have q1 : wr.cell? ⟨w.heap.size + 14, 10, none⟩ = some (.func (.func 65) #[] #[.pointer (some ⟨w.heap.size + 9, 0, none⟩)]) := pw_cell_below hb1 hRw.t10
            have q2 : wr.cell? ⟨w.heap.size + 14, 11, none⟩ = some (.func (.func 53) #[] #[]) := pw_cell_below hb1 hRw.t11
            have hszr := hb1.size
            have hlt1 := World.block_lt_of_cell? w1 _ hRw.t0
            clear hRw hb1
            cases hb : bg 3 (c :: r) with
            | false =>
              have HC1 : Hid (∀ W, Below w1.heap.size w1 W → Calls Tryd.prog 65 #[.string (s.extract at' s.size), .pointer (some ⟨w.heap.size + 9, 0, none⟩)] W fun e w' => e = .returned (.bool false) ∧ ∃ m, w' = W.drewN m) := Lib.hid fun W hW => by
                have h := begins_3 _ c r HSL.out.1 HSL.out.2 w w1 HR.out W hW
                rw [hb] at h
                exact h
              have HT2 : Aside0 (tokL (c :: r) = tokD 3 (c :: r)) := ⟨HT.out.trans (tokD_no 3 _ hb)⟩
              clear hb HT HSL
              go_wp2
              go_quiet ((go_at_call 65; exact Calls.quiet_of (HC1.out _ (by repeat (first | (with_reducible first | exact HB2.out | apply below_alloc | apply pw_below_drewN | apply below_drew1) | exact HB2.out)))))
              go_wp2
              go_roundg 3
              case measure => omega
              case rel => exact ⟨4, by first | rfl | simp, by first | rfl | simp, rfl, HT2, ⟨by (with_reducible repeat (first | apply Kd.R_alloc | apply Kd.R_drewN | apply Kd.R_drew)); exact HO2.out⟩, ⟨(by repeat (first | (with_reducible first | exact HB2.out | apply below_alloc | apply pw_below_drewN | apply below_drew1) | exact HB2.out))⟩⟩
            | true =>
              have HC1 : Hid (∀ W, Below w1.heap.size w1 W → Calls Tryd.prog 65 #[.string (s.extract at' s.size), .pointer (some ⟨w.heap.size + 9, 0, none⟩)] W fun e w' => e = .returned (.bool true) ∧ ∃ m, w' = W.drewN m) := Lib.hid fun W hW => by
                have h := begins_3 _ c r HSL.out.1 HSL.out.2 w w1 HR.out W hW
                rw [hb] at h
                exact h
              have hact := HT.out.trans (tokD_yes 3 _ hb)
              cases ht : tk 3 (c :: r) with
              | error e0 =>
                have HC2 : Hid (∀ W, Below w1.heap.size w1 W → Calls Tryd.prog 53 #[.string (s.extract at' s.size)] W fun e w' => e = .returned (.tuple #[.string ⟨#[]⟩, .int .i64 0, .int .i64 e0]) ∧ Below W.heap.size W w') := Lib.hid fun W hW => by
                  have h := takes_3 _ c r HSL.out.1 HSL.out.2 w w1 HR.out W hW
                  rw [ht] at h
                  exact h
                have HACT : Hid (tokL (c :: r) = .error e0) := Lib.hid (hact.trans (act_err 3 _ _ ht))
                have he0 : (e0 == 0) = false := by rw [beq_eq_false_iff_ne]; rcases tk_err _ _ _ ht with h | h <;> omega
                have he1 : (e0 != 0) = true := by rw [bne_iff_ne]; rcases tk_err _ _ _ ht with h | h <;> omega
                clear hb HT HSL hact ht
                go_wp2
                go_quiet ((go_at_call 65; exact Calls.quiet_of (HC1.out _ (by repeat (first | (with_reducible first | exact HB2.out | apply below_alloc | apply pw_below_drewN | apply below_drew1) | exact HB2.out)))))
                go_wp2
                go_region_with ((go_at_call 53; refine (HC2.out _ (by repeat (first | (with_reducible first | exact HB2.out | apply below_alloc | apply pw_below_drewN | apply below_drew1) | exact HB2.out))).mono ?_; rintro e W3 ⟨rfl, hb3⟩))
                have HB3 := Aside0.mk hb3
                clear hb3
                go_wp2
                go_ret3
                exact LexEnd.err (lex_err _ _ _ _ _ c r HL.out e0 HACT.out HA.out) _ _ (below_then HB1.out HB1.out.size (below_step (by repeat (first | (with_reducible first | exact HB2.out | apply below_alloc | apply pw_below_drewN | apply below_drew1) | exact HB2.out)) HB3.out))
              | ok tn =>
                obtain ⟨t, n⟩ := tn
                obtain ⟨hn1, hn2⟩ := tk_len 3 c r t n hb ht
                rw [HLEN.out] at hn2
                obtain ⟨T, hT⟩ : ∃ T : ByteArray, T = ⟨t.toArray⟩ := ⟨_, rfl⟩
                have HC2 : Hid (∀ W, Below w1.heap.size w1 W → Calls Tryd.prog 53 #[.string (s.extract at' s.size)] W fun e w' => e = .returned (.tuple #[.string T, .int .i64 n, .int .i64 0]) ∧ Below W.heap.size W w') := Lib.hid fun W hW => by
                  have h := takes_3 _ c r HSL.out.1 HSL.out.2 w w1 HR.out W hW
                  rw [ht] at h
                  rw [hT]
                  exact h
                have HACT : Hid (tokL (c :: r) = .ok ⟨1, t, 0, n⟩) := Lib.hid (hact.trans (act_ok 3 _ _ _ (by decide) ht))
                obtain ⟨m, hm⟩ : ∃ m : Nat, m = at' + n := ⟨_, rfl⟩
                obtain ⟨q, hq⟩ : ∃ q, q = passL false (s.data.toList.drop m) := ⟨_, rfl⟩
                have hq2 := passL_le (s.data.toList.drop m) false
                rw [← hq, List.length_drop, bl_size] at hq2
                obtain ⟨kq, hkq⟩ := pass_f (s.extract m s.size) (by rw [ByteArray.size_extract]; omega)
                rw [bl_from, ← hq] at hkq
                have HPQ : Hid (lex_pass.f kq (s.extract m s.size) = some (q : Int)) := Lib.hid hkq
                have hmI : (at' : Int) + (n : Int) = (m : Int) := by omega
                have hms : m ≤ s.size := by omega
                have hmsI : (m : Int) ≤ s.size := by omega
                have HM : Hid (at' + n = m) := Lib.hid hm.symm
                have HSTEP : Hid (lexL g (s.data.toList.drop (m + q)) (m + q) (out ++ [⟨1, t, 0, (at' : Int)⟩]) = R) := Lib.hid (lex_step g _ at' out R c r HL.out _ HACT.out HA.out m q hm hq)
                have HTS : Hid ((⟨1, T, 0, (at' : Int)⟩ : S65) = tokS ⟨1, t, 0, (at' : Int)⟩) := Lib.hid (by rw [hT]; rfl)
                clear hb HT HSL hact ht hT hkq hq hm HA HACT
                go_wp2
                go_quiet ((go_at_call 65; exact Calls.quiet_of (HC1.out _ (by repeat (first | (with_reducible first | exact HB2.out | apply below_alloc | apply pw_below_drewN | apply below_drew1) | exact HB2.out)))))
                go_wp2
                go_region_with ((go_at_call 53; refine (HC2.out _ (by repeat (first | (with_reducible first | exact HB2.out | apply below_alloc | apply pw_below_drewN | apply below_drew1) | exact HB2.out))).mono ?_; rintro e W3 ⟨rfl, hb3⟩))
                have hk0 := (hb3.cell (p := ⟨wr.heap.size, 0, none⟩) (by simp)).trans (by simp : _ = some (.int .i64 1))
                have hz9 : wr.heap.size < W3.heap.size := by have := hb3.size; simp at this; omega
                have HB3 := Aside0.mk (below_step (by repeat (first | (with_reducible first | exact HB2.out | apply below_alloc | apply pw_below_drewN | apply below_drew1) | exact HB2.out)) hb3)
                have HO3 := Aside0.mk (Kd.R_below (by (with_reducible repeat (first | apply Kd.R_alloc | apply Kd.R_drewN | apply Kd.R_drew)); exact HO2.out) hb3)
                have hz3 := HB3.out.size
                clear hb3 HB2 HO2 HC1 HC2 q0 q1 q2
                go_wp2_with (first | (at_builtin; refine Kd.R_append k65 (w0 := w1) w1.heap.size rfl (.tmp 75) (.tmp 77) 67 65 (.agg #[.int .i64 0, .string ⟨#[]⟩, .int .i64 0, .int .i64 0]) 40 rfl Tryd.underlying67 infoTk rfl (by decide) (by omega) u5 (out.map tokS) (⟨1, T, 0, (at' : Int)⟩ : S65) [.int .i64 1, .string T, .int .i64 0, .int .i64 at'] (fun _ => True) (fun _ => False) rfl (by first | (go_simp; done) | (go_simp; rfl)) (k65_mkM _ _ _ _) (fun _ hk => hk.elim) (fun _ _ => trivial) (by (with_reducible repeat (first | apply Kd.R_alloc | apply Kd.R_drewN | apply Kd.R_drew)); exact HO3.out) (by repeat (first | (with_reducible first | exact HB3.out | apply below_alloc | apply pw_below_drewN | apply below_drew1) | exact HB3.out)) (by simp; omega) (by simp; omega) ?_; intro v4 w4 ho4 hb4 hg4 hat4) | (go_at_call 44; refine (lex_pass.calls kq (s.extract m s.size) q _ HPQ.out).mono ?_; rintro e w5 ⟨rfl, hb5⟩))
                go_roundg g
                case measure => omega
                case rel =>
                  refine ⟨m + q, out ++ [⟨1, t, 0, (at' : Int)⟩], by first | rfl | simp, by omega, by omega, by rw [List.length_append]; simp; omega, ⟨HSTEP.out⟩, ⟨?_⟩, ⟨below_then hb4 hb4.size hb5⟩⟩
                  rw [List.map_append, List.map_cons, List.map_nil, ← HTS.out]
                  exact Kd.R_below ho4 hb5
          · obtain rfl : g2 = 2 := by omega
            have hRw := HR.out
            have hb1 := HB2.out
            have q0 : wr.cell? ⟨w.heap.size + 14, 12, none⟩ = some (.int .i64 5) := pw_cell_below hb1 hRw.t12
            have q1 : wr.cell? ⟨w.heap.size + 14, 13, none⟩ = some (.func (.func 65) #[] #[.pointer (some ⟨w.heap.size + 10, 0, none⟩)]) := pw_cell_below hb1 hRw.t13
            have q2 : wr.cell? ⟨w.heap.size + 14, 14, none⟩ = some (.func (.func 54) #[] #[]) := pw_cell_below hb1 hRw.t14
            have hszr := hb1.size
            have hlt1 := World.block_lt_of_cell? w1 _ hRw.t0
            clear hRw hb1
            cases hb : bg 4 (c :: r) with
            | false =>
              have HC1 : Hid (∀ W, Below w1.heap.size w1 W → Calls Tryd.prog 65 #[.string (s.extract at' s.size), .pointer (some ⟨w.heap.size + 10, 0, none⟩)] W fun e w' => e = .returned (.bool false) ∧ ∃ m, w' = W.drewN m) := Lib.hid fun W hW => by
                have h := begins_4 _ c r HSL.out.1 HSL.out.2 w w1 HR.out W hW
                rw [hb] at h
                exact h
              have HT2 : Aside0 (tokL (c :: r) = tokD 2 (c :: r)) := ⟨HT.out.trans (tokD_no 2 _ hb)⟩
              clear hb HT HSL
              go_wp2
              go_quiet ((go_at_call 65; exact Calls.quiet_of (HC1.out _ (by repeat (first | (with_reducible first | exact HB2.out | apply below_alloc | apply pw_below_drewN | apply below_drew1) | exact HB2.out)))))
              go_wp2
              go_roundg 2
              case measure => omega
              case rel => exact ⟨5, by first | rfl | simp, by first | rfl | simp, rfl, HT2, ⟨by (with_reducible repeat (first | apply Kd.R_alloc | apply Kd.R_drewN | apply Kd.R_drew)); exact HO2.out⟩, ⟨(by repeat (first | (with_reducible first | exact HB2.out | apply below_alloc | apply pw_below_drewN | apply below_drew1) | exact HB2.out))⟩⟩
            | true =>
              have HC1 : Hid (∀ W, Below w1.heap.size w1 W → Calls Tryd.prog 65 #[.string (s.extract at' s.size), .pointer (some ⟨w.heap.size + 10, 0, none⟩)] W fun e w' => e = .returned (.bool true) ∧ ∃ m, w' = W.drewN m) := Lib.hid fun W hW => by
                have h := begins_4 _ c r HSL.out.1 HSL.out.2 w w1 HR.out W hW
                rw [hb] at h
                exact h
              have hact := HT.out.trans (tokD_yes 2 _ hb)
              cases ht : tk 4 (c :: r) with
              | error e0 =>
                have HC2 : Hid (∀ W, Below w1.heap.size w1 W → Calls Tryd.prog 54 #[.string (s.extract at' s.size)] W fun e w' => e = .returned (.tuple #[.string ⟨#[]⟩, .int .i64 0, .int .i64 e0]) ∧ Below W.heap.size W w') := Lib.hid fun W hW => by
                  have h := takes_4 _ c r HSL.out.1 HSL.out.2 w w1 HR.out W hW
                  rw [ht] at h
                  exact h
                have HACT : Hid (tokL (c :: r) = .error e0) := Lib.hid (hact.trans (act_err 4 _ _ ht))
                have he0 : (e0 == 0) = false := by rw [beq_eq_false_iff_ne]; rcases tk_err _ _ _ ht with h | h <;> omega
                have he1 : (e0 != 0) = true := by rw [bne_iff_ne]; rcases tk_err _ _ _ ht with h | h <;> omega
                clear hb HT HSL hact ht
                go_wp2
                go_quiet ((go_at_call 65; exact Calls.quiet_of (HC1.out _ (by repeat (first | (with_reducible first | exact HB2.out | apply below_alloc | apply pw_below_drewN | apply below_drew1) | exact HB2.out)))))
                go_wp2
                go_region_with ((go_at_call 54; refine (HC2.out _ (by repeat (first | (with_reducible first | exact HB2.out | apply below_alloc | apply pw_below_drewN | apply below_drew1) | exact HB2.out))).mono ?_; rintro e W3 ⟨rfl, hb3⟩))
                have HB3 := Aside0.mk hb3
                clear hb3
                go_wp2
                go_ret3
                exact LexEnd.err (lex_err _ _ _ _ _ c r HL.out e0 HACT.out HA.out) _ _ (below_then HB1.out HB1.out.size (below_step (by repeat (first | (with_reducible first | exact HB2.out | apply below_alloc | apply pw_below_drewN | apply below_drew1) | exact HB2.out)) HB3.out))
              | ok tn =>
                obtain ⟨t, n⟩ := tn
                obtain ⟨hn1, hn2⟩ := tk_len 4 c r t n hb ht
                rw [HLEN.out] at hn2
                obtain ⟨T, hT⟩ : ∃ T : ByteArray, T = ⟨t.toArray⟩ := ⟨_, rfl⟩
                have HC2 : Hid (∀ W, Below w1.heap.size w1 W → Calls Tryd.prog 54 #[.string (s.extract at' s.size)] W fun e w' => e = .returned (.tuple #[.string T, .int .i64 n, .int .i64 0]) ∧ Below W.heap.size W w') := Lib.hid fun W hW => by
                  have h := takes_4 _ c r HSL.out.1 HSL.out.2 w w1 HR.out W hW
                  rw [ht] at h
                  rw [hT]
                  exact h
                have HACT : Hid (tokL (c :: r) = .ok ⟨5, t, 0, n⟩) := Lib.hid (hact.trans (act_ok 4 _ _ _ (by decide) ht))
                obtain ⟨m, hm⟩ : ∃ m : Nat, m = at' + n := ⟨_, rfl⟩
                obtain ⟨q, hq⟩ : ∃ q, q = passL false (s.data.toList.drop m) := ⟨_, rfl⟩
                have hq2 := passL_le (s.data.toList.drop m) false
                rw [← hq, List.length_drop, bl_size] at hq2
                obtain ⟨kq, hkq⟩ := pass_f (s.extract m s.size) (by rw [ByteArray.size_extract]; omega)
                rw [bl_from, ← hq] at hkq
                have HPQ : Hid (lex_pass.f kq (s.extract m s.size) = some (q : Int)) := Lib.hid hkq
                have hmI : (at' : Int) + (n : Int) = (m : Int) := by omega
                have hms : m ≤ s.size := by omega
                have hmsI : (m : Int) ≤ s.size := by omega
                have HM : Hid (at' + n = m) := Lib.hid hm.symm
                have HSTEP : Hid (lexL g (s.data.toList.drop (m + q)) (m + q) (out ++ [⟨5, t, 0, (at' : Int)⟩]) = R) := Lib.hid (lex_step g _ at' out R c r HL.out _ HACT.out HA.out m q hm hq)
                have HTS : Hid ((⟨5, T, 0, (at' : Int)⟩ : S65) = tokS ⟨5, t, 0, (at' : Int)⟩) := Lib.hid (by rw [hT]; rfl)
                clear hb HT HSL hact ht hT hkq hq hm HA HACT
                go_wp2
                go_quiet ((go_at_call 65; exact Calls.quiet_of (HC1.out _ (by repeat (first | (with_reducible first | exact HB2.out | apply below_alloc | apply pw_below_drewN | apply below_drew1) | exact HB2.out)))))
                go_wp2
                go_region_with ((go_at_call 54; refine (HC2.out _ (by repeat (first | (with_reducible first | exact HB2.out | apply below_alloc | apply pw_below_drewN | apply below_drew1) | exact HB2.out))).mono ?_; rintro e W3 ⟨rfl, hb3⟩))
                have hk0 := (hb3.cell (p := ⟨wr.heap.size, 0, none⟩) (by simp)).trans (by simp : _ = some (.int .i64 5))
                have hz9 : wr.heap.size < W3.heap.size := by have := hb3.size; simp at this; omega
                have HB3 := Aside0.mk (below_step (by repeat (first | (with_reducible first | exact HB2.out | apply below_alloc | apply pw_below_drewN | apply below_drew1) | exact HB2.out)) hb3)
                have HO3 := Aside0.mk (Kd.R_below (by (with_reducible repeat (first | apply Kd.R_alloc | apply Kd.R_drewN | apply Kd.R_drew)); exact HO2.out) hb3)
                have hz3 := HB3.out.size
                clear hb3 HB2 HO2 HC1 HC2 q0 q1 q2
                go_wp2_with (first | (at_builtin; refine Kd.R_append k65 (w0 := w1) w1.heap.size rfl (.tmp 75) (.tmp 77) 67 65 (.agg #[.int .i64 0, .string ⟨#[]⟩, .int .i64 0, .int .i64 0]) 40 rfl Tryd.underlying67 infoTk rfl (by decide) (by omega) u5 (out.map tokS) (⟨5, T, 0, (at' : Int)⟩ : S65) [.int .i64 5, .string T, .int .i64 0, .int .i64 at'] (fun _ => True) (fun _ => False) rfl (by first | (go_simp; done) | (go_simp; rfl)) (k65_mkM _ _ _ _) (fun _ hk => hk.elim) (fun _ _ => trivial) (by (with_reducible repeat (first | apply Kd.R_alloc | apply Kd.R_drewN | apply Kd.R_drew)); exact HO3.out) (by repeat (first | (with_reducible first | exact HB3.out | apply below_alloc | apply pw_below_drewN | apply below_drew1) | exact HB3.out)) (by simp; omega) (by simp; omega) ?_; intro v4 w4 ho4 hb4 hg4 hat4) | (go_at_call 44; refine (lex_pass.calls kq (s.extract m s.size) q _ HPQ.out).mono ?_; rintro e w5 ⟨rfl, hb5⟩))
                go_roundg g
                case measure => omega
                case rel =>
                  refine ⟨m + q, out ++ [⟨5, t, 0, (at' : Int)⟩], by first | rfl | simp, by omega, by omega, by rw [List.length_append]; simp; omega, ⟨HSTEP.out⟩, ⟨?_⟩, ⟨below_then hb4 hb4.size hb5⟩⟩
                  rw [List.map_append, List.map_cons, List.map_nil, ← HTS.out]
                  exact Kd.R_below ho4 hb5
          · obtain rfl : g2 = 1 := by omega
            have hRw := HR.out
            have hb1 := HB2.out
            have q0 : wr.cell? ⟨w.heap.size + 14, 15, none⟩ = some (.int .i64 6) := pw_cell_below hb1 hRw.t15
            have q1 : wr.cell? ⟨w.heap.size + 14, 16, none⟩ = some (.func (.func 55) #[] #[]) := pw_cell_below hb1 hRw.t16
            have q2 : wr.cell? ⟨w.heap.size + 14, 17, none⟩ = some (.func (.func 54) #[] #[]) := pw_cell_below hb1 hRw.t17
            have hszr := hb1.size
            have hlt1 := World.block_lt_of_cell? w1 _ hRw.t0
            clear hRw hb1
            cases hb : bg 5 (c :: r) with
            | false =>
              have HC1 : Hid (∀ W, Below w1.heap.size w1 W → Calls Tryd.prog 55 #[.string (s.extract at' s.size)] W fun e w' => e = .returned (.bool false) ∧ ∃ m, w' = W.drewN m) := Lib.hid fun W hW => by
                have h := begins_5 _ c r HSL.out.1 HSL.out.2 w w1 HR.out W hW
                rw [hb] at h
                exact h
              have HT2 : Aside0 (tokL (c :: r) = tokD 1 (c :: r)) := ⟨HT.out.trans (tokD_no 1 _ hb)⟩
              clear hb HT HSL
              go_wp2
              go_quiet ((go_at_call 55; exact Calls.quiet_of (HC1.out _ (by repeat (first | (with_reducible first | exact HB2.out | apply below_alloc | apply pw_below_drewN | apply below_drew1) | exact HB2.out)))))
              go_wp2
              go_roundg 1
              case measure => omega
              case rel => exact ⟨6, by first | rfl | simp, by first | rfl | simp, rfl, HT2, ⟨by (with_reducible repeat (first | apply Kd.R_alloc | apply Kd.R_drewN | apply Kd.R_drew)); exact HO2.out⟩, ⟨(by repeat (first | (with_reducible first | exact HB2.out | apply below_alloc | apply pw_below_drewN | apply below_drew1) | exact HB2.out))⟩⟩
            | true =>
              have HC1 : Hid (∀ W, Below w1.heap.size w1 W → Calls Tryd.prog 55 #[.string (s.extract at' s.size)] W fun e w' => e = .returned (.bool true) ∧ ∃ m, w' = W.drewN m) := Lib.hid fun W hW => by
                have h := begins_5 _ c r HSL.out.1 HSL.out.2 w w1 HR.out W hW
                rw [hb] at h
                exact h
              have hact := HT.out.trans (tokD_yes 1 _ hb)
              cases ht : tk 5 (c :: r) with
              | error e0 =>
                have HC2 : Hid (∀ W, Below w1.heap.size w1 W → Calls Tryd.prog 54 #[.string (s.extract at' s.size)] W fun e w' => e = .returned (.tuple #[.string ⟨#[]⟩, .int .i64 0, .int .i64 e0]) ∧ Below W.heap.size W w') := Lib.hid fun W hW => by
                  have h := takes_5 _ c r HSL.out.1 HSL.out.2 w w1 HR.out W hW
                  rw [ht] at h
                  exact h
                have HACT : Hid (tokL (c :: r) = .error e0) := Lib.hid (hact.trans (act_err 5 _ _ ht))
                have he0 : (e0 == 0) = false := by rw [beq_eq_false_iff_ne]; rcases tk_err _ _ _ ht with h | h <;> omega
                have he1 : (e0 != 0) = true := by rw [bne_iff_ne]; rcases tk_err _ _ _ ht with h | h <;> omega
                clear hb HT HSL hact ht
                go_wp2
                go_quiet ((go_at_call 55; exact Calls.quiet_of (HC1.out _ (by repeat (first | (with_reducible first | exact HB2.out | apply below_alloc | apply pw_below_drewN | apply below_drew1) | exact HB2.out)))))
                go_wp2
                go_region_with ((go_at_call 54; refine (HC2.out _ (by repeat (first | (with_reducible first | exact HB2.out | apply below_alloc | apply pw_below_drewN | apply below_drew1) | exact HB2.out))).mono ?_; rintro e W3 ⟨rfl, hb3⟩))
                have HB3 := Aside0.mk hb3
                clear hb3
                go_wp2
                go_ret3
                exact LexEnd.err (lex_err _ _ _ _ _ c r HL.out e0 HACT.out HA.out) _ _ (below_then HB1.out HB1.out.size (below_step (by repeat (first | (with_reducible first | exact HB2.out | apply below_alloc | apply pw_below_drewN | apply below_drew1) | exact HB2.out)) HB3.out))
              | ok tn =>
                obtain ⟨t, n⟩ := tn
                obtain ⟨hn1, hn2⟩ := tk_len 5 c r t n hb ht
                rw [HLEN.out] at hn2
                obtain ⟨T, hT⟩ : ∃ T : ByteArray, T = ⟨t.toArray⟩ := ⟨_, rfl⟩
                have HC2 : Hid (∀ W, Below w1.heap.size w1 W → Calls Tryd.prog 54 #[.string (s.extract at' s.size)] W fun e w' => e = .returned (.tuple #[.string T, .int .i64 n, .int .i64 0]) ∧ Below W.heap.size W w') := Lib.hid fun W hW => by
                  have h := takes_5 _ c r HSL.out.1 HSL.out.2 w w1 HR.out W hW
                  rw [ht] at h
                  rw [hT]
                  exact h
                have HACT : Hid (tokL (c :: r) = .ok ⟨6, t, 0, n⟩) := Lib.hid (hact.trans (act_ok 5 _ _ _ (by decide) ht))
                obtain ⟨m, hm⟩ : ∃ m : Nat, m = at' + n := ⟨_, rfl⟩
                obtain ⟨q, hq⟩ : ∃ q, q = passL false (s.data.toList.drop m) := ⟨_, rfl⟩
                have hq2 := passL_le (s.data.toList.drop m) false
                rw [← hq, List.length_drop, bl_size] at hq2
                obtain ⟨kq, hkq⟩ := pass_f (s.extract m s.size) (by rw [ByteArray.size_extract]; omega)
                rw [bl_from, ← hq] at hkq
                have HPQ : Hid (lex_pass.f kq (s.extract m s.size) = some (q : Int)) := Lib.hid hkq
                have hmI : (at' : Int) + (n : Int) = (m : Int) := by omega
                have hms : m ≤ s.size := by omega
                have hmsI : (m : Int) ≤ s.size := by omega
                have HM : Hid (at' + n = m) := Lib.hid hm.symm
                have HSTEP : Hid (lexL g (s.data.toList.drop (m + q)) (m + q) (out ++ [⟨6, t, 0, (at' : Int)⟩]) = R) := Lib.hid (lex_step g _ at' out R c r HL.out _ HACT.out HA.out m q hm hq)
                have HTS : Hid ((⟨6, T, 0, (at' : Int)⟩ : S65) = tokS ⟨6, t, 0, (at' : Int)⟩) := Lib.hid (by rw [hT]; rfl)
                clear hb HT HSL hact ht hT hkq hq hm HA HACT
                go_wp2
                go_quiet ((go_at_call 55; exact Calls.quiet_of (HC1.out _ (by repeat (first | (with_reducible first | exact HB2.out | apply below_alloc | apply pw_below_drewN | apply below_drew1) | exact HB2.out)))))
                go_wp2
                go_region_with ((go_at_call 54; refine (HC2.out _ (by repeat (first | (with_reducible first | exact HB2.out | apply below_alloc | apply pw_below_drewN | apply below_drew1) | exact HB2.out))).mono ?_; rintro e W3 ⟨rfl, hb3⟩))
                have hk0 := (hb3.cell (p := ⟨wr.heap.size, 0, none⟩) (by simp)).trans (by simp : _ = some (.int .i64 6))
                have hz9 : wr.heap.size < W3.heap.size := by have := hb3.size; simp at this; omega
                have HB3 := Aside0.mk (below_step (by repeat (first | (with_reducible first | exact HB2.out | apply below_alloc | apply pw_below_drewN | apply below_drew1) | exact HB2.out)) hb3)
                have HO3 := Aside0.mk (Kd.R_below (by (with_reducible repeat (first | apply Kd.R_alloc | apply Kd.R_drewN | apply Kd.R_drew)); exact HO2.out) hb3)
                have hz3 := HB3.out.size
                clear hb3 HB2 HO2 HC1 HC2 q0 q1 q2
                go_wp2_with (first | (at_builtin; refine Kd.R_append k65 (w0 := w1) w1.heap.size rfl (.tmp 75) (.tmp 77) 67 65 (.agg #[.int .i64 0, .string ⟨#[]⟩, .int .i64 0, .int .i64 0]) 40 rfl Tryd.underlying67 infoTk rfl (by decide) (by omega) u5 (out.map tokS) (⟨6, T, 0, (at' : Int)⟩ : S65) [.int .i64 6, .string T, .int .i64 0, .int .i64 at'] (fun _ => True) (fun _ => False) rfl (by first | (go_simp; done) | (go_simp; rfl)) (k65_mkM _ _ _ _) (fun _ hk => hk.elim) (fun _ _ => trivial) (by (with_reducible repeat (first | apply Kd.R_alloc | apply Kd.R_drewN | apply Kd.R_drew)); exact HO3.out) (by repeat (first | (with_reducible first | exact HB3.out | apply below_alloc | apply pw_below_drewN | apply below_drew1) | exact HB3.out)) (by simp; omega) (by simp; omega) ?_; intro v4 w4 ho4 hb4 hg4 hat4) | (go_at_call 44; refine (lex_pass.calls kq (s.extract m s.size) q _ HPQ.out).mono ?_; rintro e w5 ⟨rfl, hb5⟩))
                go_roundg g
                case measure => omega
                case rel =>
                  refine ⟨m + q, out ++ [⟨6, t, 0, (at' : Int)⟩], by first | rfl | simp, by omega, by omega, by rw [List.length_append]; simp; omega, ⟨HSTEP.out⟩, ⟨?_⟩, ⟨below_then hb4 hb4.size hb5⟩⟩
                  rw [List.map_append, List.map_cons, List.map_nil, ← HTS.out]
                  exact Kd.R_below ho4 hb5
          · obtain rfl : g2 = 0 := by omega
            have hRw := HR.out
            have hb1 := HB2.out
            have q0 : wr.cell? ⟨w.heap.size + 14, 18, none⟩ = some (.int .i64 4) := pw_cell_below hb1 hRw.t18
            have q1 : wr.cell? ⟨w.heap.size + 14, 19, none⟩ = some (.func (.func 65) #[] #[.pointer (some ⟨w.heap.size + 11, 0, none⟩)]) := pw_cell_below hb1 hRw.t19
            have q2 : wr.cell? ⟨w.heap.size + 14, 20, none⟩ = some (.func (.func 67) #[] #[.pointer (some ⟨w.heap.size + 12, 0, none⟩), .pointer (some ⟨w.heap.size + 13, 0, none⟩)]) := pw_cell_below hb1 hRw.t20
            have hszr := hb1.size
            have hlt1 := World.block_lt_of_cell? w1 _ hRw.t0
            clear hRw hb1
            cases hb : bg 6 (c :: r) with
            | false =>
              have HC1 : Hid (∀ W, Below w1.heap.size w1 W → Calls Tryd.prog 65 #[.string (s.extract at' s.size), .pointer (some ⟨w.heap.size + 11, 0, none⟩)] W fun e w' => e = .returned (.bool false) ∧ ∃ m, w' = W.drewN m) := Lib.hid fun W hW => by
                have h := begins_6 _ c r HSL.out.1 HSL.out.2 w w1 HR.out W hW
                rw [hb] at h
                exact h
              have HT2 : Aside0 (tokL (c :: r) = tokD 0 (c :: r)) := ⟨HT.out.trans (tokD_no 0 _ hb)⟩
              clear hb HT HSL
              go_wp2
              go_quiet ((go_at_call 65; exact Calls.quiet_of (HC1.out _ (by repeat (first | (with_reducible first | exact HB2.out | apply below_alloc | apply pw_below_drewN | apply below_drew1) | exact HB2.out)))))
              go_wp2
              go_roundg 0
              case measure => omega
              case rel => exact ⟨7, by first | rfl | simp, by first | rfl | simp, rfl, HT2, ⟨by (with_reducible repeat (first | apply Kd.R_alloc | apply Kd.R_drewN | apply Kd.R_drew)); exact HO2.out⟩, ⟨(by repeat (first | (with_reducible first | exact HB2.out | apply below_alloc | apply pw_below_drewN | apply below_drew1) | exact HB2.out))⟩⟩
            | true =>
              have HC1 : Hid (∀ W, Below w1.heap.size w1 W → Calls Tryd.prog 65 #[.string (s.extract at' s.size), .pointer (some ⟨w.heap.size + 11, 0, none⟩)] W fun e w' => e = .returned (.bool true) ∧ ∃ m, w' = W.drewN m) := Lib.hid fun W hW => by
                have h := begins_6 _ c r HSL.out.1 HSL.out.2 w w1 HR.out W hW
                rw [hb] at h
                exact h
              have hact := HT.out.trans (tokD_yes 0 _ hb)
              cases ht : tk 6 (c :: r) with
              | error e0 =>
                have HC2 : Hid (∀ W, Below w1.heap.size w1 W → Calls Tryd.prog 67 #[.string (s.extract at' s.size), .pointer (some ⟨w.heap.size + 12, 0, none⟩), .pointer (some ⟨w.heap.size + 13, 0, none⟩)] W fun e w' => e = .returned (.tuple #[.string ⟨#[]⟩, .int .i64 0, .int .i64 e0]) ∧ Below W.heap.size W w') := Lib.hid fun W hW => by
                  have h := takes_6 _ c r HSL.out.1 HSL.out.2 w w1 HR.out W hW
                  rw [ht] at h
                  exact h
                have HACT : Hid (tokL (c :: r) = .error e0) := Lib.hid (hact.trans (act_err 6 _ _ ht))
                have he0 : (e0 == 0) = false := by rw [beq_eq_false_iff_ne]; rcases tk_err _ _ _ ht with h | h <;> omega
                have he1 : (e0 != 0) = true := by rw [bne_iff_ne]; rcases tk_err _ _ _ ht with h | h <;> omega
                clear hb HT HSL hact ht
                go_wp2
                go_quiet ((go_at_call 65; exact Calls.quiet_of (HC1.out _ (by repeat (first | (with_reducible first | exact HB2.out | apply below_alloc | apply pw_below_drewN | apply below_drew1) | exact HB2.out)))))
                go_wp2
                go_region_with ((go_at_call 67; refine (HC2.out _ (by repeat (first | (with_reducible first | exact HB2.out | apply below_alloc | apply pw_below_drewN | apply below_drew1) | exact HB2.out))).mono ?_; rintro e W3 ⟨rfl, hb3⟩))
                have HB3 := Aside0.mk hb3
                clear hb3
                go_wp2
                go_ret3
                exact LexEnd.err (lex_err _ _ _ _ _ c r HL.out e0 HACT.out HA.out) _ _ (below_then HB1.out HB1.out.size (below_step (by repeat (first | (with_reducible first | exact HB2.out | apply below_alloc | apply pw_below_drewN | apply below_drew1) | exact HB2.out)) HB3.out))
              | ok tn =>
                obtain ⟨t, n⟩ := tn
                obtain ⟨hn1, hn2⟩ := tk_len 6 c r t n hb ht
                rw [HLEN.out] at hn2
                obtain ⟨T, hT⟩ : ∃ T : ByteArray, T = ⟨t.toArray⟩ := ⟨_, rfl⟩
                have HC2 : Hid (∀ W, Below w1.heap.size w1 W → Calls Tryd.prog 67 #[.string (s.extract at' s.size), .pointer (some ⟨w.heap.size + 12, 0, none⟩), .pointer (some ⟨w.heap.size + 13, 0, none⟩)] W fun e w' => e = .returned (.tuple #[.string T, .int .i64 n, .int .i64 0]) ∧ Below W.heap.size W w') := Lib.hid fun W hW => by
                  have h := takes_6 _ c r HSL.out.1 HSL.out.2 w w1 HR.out W hW
                  rw [ht] at h
                  rw [hT]
                  exact h
                have HACT : Hid (tokL (c :: r) = .ok ⟨4, t, 0, n⟩) := Lib.hid (hact.trans (act_ok 6 _ _ _ (by decide) ht))
                obtain ⟨m, hm⟩ : ∃ m : Nat, m = at' + n := ⟨_, rfl⟩
                obtain ⟨q, hq⟩ : ∃ q, q = passL false (s.data.toList.drop m) := ⟨_, rfl⟩
                have hq2 := passL_le (s.data.toList.drop m) false
                rw [← hq, List.length_drop, bl_size] at hq2
                obtain ⟨kq, hkq⟩ := pass_f (s.extract m s.size) (by rw [ByteArray.size_extract]; omega)
                rw [bl_from, ← hq] at hkq
                have HPQ : Hid (lex_pass.f kq (s.extract m s.size) = some (q : Int)) := Lib.hid hkq
                have hmI : (at' : Int) + (n : Int) = (m : Int) := by omega
                have hms : m ≤ s.size := by omega
                have hmsI : (m : Int) ≤ s.size := by omega
                have HM : Hid (at' + n = m) := Lib.hid hm.symm
                have HSTEP : Hid (lexL g (s.data.toList.drop (m + q)) (m + q) (out ++ [⟨4, t, 0, (at' : Int)⟩]) = R) := Lib.hid (lex_step g _ at' out R c r HL.out _ HACT.out HA.out m q hm hq)
                have HTS : Hid ((⟨4, T, 0, (at' : Int)⟩ : S65) = tokS ⟨4, t, 0, (at' : Int)⟩) := Lib.hid (by rw [hT]; rfl)
                clear hb HT HSL hact ht hT hkq hq hm HA HACT
                go_wp2
                go_quiet ((go_at_call 65; exact Calls.quiet_of (HC1.out _ (by repeat (first | (with_reducible first | exact HB2.out | apply below_alloc | apply pw_below_drewN | apply below_drew1) | exact HB2.out)))))
                go_wp2
                go_region_with ((go_at_call 67; refine (HC2.out _ (by repeat (first | (with_reducible first | exact HB2.out | apply below_alloc | apply pw_below_drewN | apply below_drew1) | exact HB2.out))).mono ?_; rintro e W3 ⟨rfl, hb3⟩))
                have hk0 := (hb3.cell (p := ⟨wr.heap.size, 0, none⟩) (by simp)).trans (by simp : _ = some (.int .i64 4))
                have hz9 : wr.heap.size < W3.heap.size := by have := hb3.size; simp at this; omega
                have HB3 := Aside0.mk (below_step (by repeat (first | (with_reducible first | exact HB2.out | apply below_alloc | apply pw_below_drewN | apply below_drew1) | exact HB2.out)) hb3)
                have HO3 := Aside0.mk (Kd.R_below (by (with_reducible repeat (first | apply Kd.R_alloc | apply Kd.R_drewN | apply Kd.R_drew)); exact HO2.out) hb3)
                have hz3 := HB3.out.size
                clear hb3 HB2 HO2 HC1 HC2 q0 q1 q2
                go_wp2_with (first | (at_builtin; refine Kd.R_append k65 (w0 := w1) w1.heap.size rfl (.tmp 75) (.tmp 77) 67 65 (.agg #[.int .i64 0, .string ⟨#[]⟩, .int .i64 0, .int .i64 0]) 40 rfl Tryd.underlying67 infoTk rfl (by decide) (by omega) u5 (out.map tokS) (⟨4, T, 0, (at' : Int)⟩ : S65) [.int .i64 4, .string T, .int .i64 0, .int .i64 at'] (fun _ => True) (fun _ => False) rfl (by first | (go_simp; done) | (go_simp; rfl)) (k65_mkM _ _ _ _) (fun _ hk => hk.elim) (fun _ _ => trivial) (by (with_reducible repeat (first | apply Kd.R_alloc | apply Kd.R_drewN | apply Kd.R_drew)); exact HO3.out) (by repeat (first | (with_reducible first | exact HB3.out | apply below_alloc | apply pw_below_drewN | apply below_drew1) | exact HB3.out)) (by simp; omega) (by simp; omega) ?_; intro v4 w4 ho4 hb4 hg4 hat4) | (go_at_call 44; refine (lex_pass.calls kq (s.extract m s.size) q _ HPQ.out).mono ?_; rintro e w5 ⟨rfl, hb5⟩))
                go_roundg g
                case measure => omega
                case rel =>
                  refine ⟨m + q, out ++ [⟨4, t, 0, (at' : Int)⟩], by first | rfl | simp, by omega, by omega, by rw [List.length_append]; simp; omega, ⟨HSTEP.out⟩, ⟨?_⟩, ⟨below_then hb4 hb4.size hb5⟩⟩
                  rw [List.map_append, List.map_cons, List.map_nil, ← HTS.out]
                  exact Kd.R_below ho4 hb5
    · have hne : ¬ (at' : Int) < s.size := by omega
      have hdn : s.data.toList.drop at' = [] := List.drop_eq_nil_of_le (by rw [bl_size]; omega)
      have HEND := Lib.hid (lex_done g _ at' out R hdn HA.out)
      clear hdn HA
      go_wp2
      go_ret3
      rw [HEND.out]
      exact ⟨_, rfl, Kd.R_lower HO.out hz1, below_then HB1.out HB1.out.size HB.out⟩
theorem lex_Lex.calls (a0 : ByteArray) (r1 : List S65) (r2 : Int) (r3 : Int) (w : World) (h : lex_Lex.f a0 = some (r1, r2, r3)) (hG : Aside0 (GW w)) :
    Calls Tryd.prog 37 #[.string a0] w fun e w' => ∃ v0_ : Value, e = .returned (.tuple #[v0_, .int .i64 r2, .int .i64 r3]) ∧ Kd.R k65 65 w' w.heap.size (fun _ => True) v0_ r1 ∧ Below w.heap.size w w' := by
  unfold lex_Lex.f at h
  injection h with h
  injection h with h1 h
  injection h with h2 h3
  subst h1; subst h2; subst h3
  by_cases hs : a0.size ≤ 20000
  · exact lex_small a0 hs _ rfl w hG
  · have e : lexAll a0.data.toList = ([], 0, 2) := by
      unfold lexAll
      rw [if_pos (by rw [bl_size]; omega)]
    rw [e]
    exact lex_great a0 (by omega) w
end Go.Proofs.YthdccdbiichabaaDoor.P
