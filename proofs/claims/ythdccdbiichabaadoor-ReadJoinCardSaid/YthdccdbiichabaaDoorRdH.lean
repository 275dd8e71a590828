import Derived.Test.YthdccdbiichabaaDoorRdB
import Derived.Deep.LoopGhost
import Derived.ScopeJumps
import Derived.WalkMore
import Derived.Test.YthdccdbiichabaaDoorLexL
/- Rows of terms, and lists: the contracts of package read's reader.row and reader.list, where the lesser calls are as told. No condition. Printed by wip/gen/mkrdc.py. -/
namespace Go.Proofs.YthdccdbiichabaaDoor.P
open Go.RowKit Go.Proofs.YthdccdbiichabaaDoorW.PrintWords Go.Proofs.YthdccdbiichabaaDoorW.PrintLast Go.Proofs.YthdccdbiichabaaDoorW.PrintMore
set_option linter.unusedVariables false
set_option linter.unusedSimpArgs false

/-- What a walk asks of the reader when a method begins. -/
structure Pre (B g : Nat) (e : Int) (s : RS) (w : World) : Prop where
  st : RdSt B g e s w
  base : B ≤ w.heap.size
  ok : Ok s
def RdEndB (B g : Nat) (e : Int) (w : World) (q : Except (Int × Int) (List Cel × Int × RS)) (en : Ending) (w' : World) : Prop :=
  match q with
  | .ok x => ∃ v, en = .returned (.tuple #[v, .int .i64 x.2.1]) ∧ CelAt w.heap.size w' x.1 v ∧ RdTo B g e x.2.2 w w'
  | .error x => en = .panicked (wrongP x) ∧ Fr 69 B w w'
/-- What is told of the methods' calls with so many rounds. -/
structure Con (B g : Nat) (e : Int) (k : Nat) : Prop where
  up : ∀ most s q w, upToR k e most s = some q → Pre B g e s w → Calls Tryd.prog 38 #[.pointer (some ⟨g, 0, none⟩), .int .i64 most] w (RdEnd B g e (CelAt w.heap.size) w q)
  bg : ∀ s q w, beginR k e s = some q → Pre B g e s w → Calls Tryd.prog 46 #[.pointer (some ⟨g, 0, none⟩)] w (RdEndB B g e w q)
  row : ∀ s q w, rowR k e [] s = some q → Pre B g e s w → Calls Tryd.prog 60 #[.pointer (some ⟨g, 0, none⟩)] w (RdEnd B g e (RowAt w.heap.size) w q)
  li : ∀ s q w, listLR k e s = some q → Pre B g e s w → Calls Tryd.prog 62 #[.pointer (some ⟨g, 0, none⟩)] w (RdEnd B g e (CelAt w.heap.size) w q)

theorem infoRow : (Tryd.prog.info? 24).map (fun i => (i.zero, i.size, i.bytes)) = some (some (.slice none 0 0), 1, 24) := by kernel_rfl
theorem lit_R {B : Nat} {w : World} {x : List Cel} {v : Value} (h : CelAt B w x v) (hB : B ≤ w.heap.size) : RowAt B (w.alloc (.cells #[v] 24)) [x] (.slice (some ⟨w.heap.size, 0, none⟩) 1 1) := by
  refine ⟨fun _ _ => trivial, [v], ?_, ?_⟩
  · exact World.ownsRow_lit (base := B) (e := 24) (size := 1) w #[v] 1 hB (by decide) (by simp)
  · have h0 : Reps ((Kd.slice 41 k41).M (w.alloc (.cells #[v] 24)) B (fun k => True ∧ some k ≠ (Value.slice (some ⟨w.heap.size, 0, none⟩) 1 1).ownBlock)) 1 [x.map celS] [v] := by
      refine ⟨rfl, fun j p hj => ?_⟩
      obtain rfl : j = 0 := by
        have := (List.getElem?_eq_some_iff.1 hj).1
        simpa using this
      obtain rfl : x.map celS = p := by simpa using hj
      refine ⟨v, rfl, Kd.R_mono (Kd.R_below (Kd.R_bound h) (below_alloc (Below.refl _ _) _)) (fun k hk => ⟨trivial, fun he => ?_⟩)⟩
      have h3 : k = w.heap.size := by simpa [Value.ownBlock] using he
      have := hk.2.2.1
      omega
    exact h0

theorem CelAt.slice {B : Nat} {w : World} {x : List Cel} {v : Value} (h : CelAt B w x v) : ∃ A c, v = .slice A x.length c := by
  obtain ⟨A, c, h⟩ := Kd.R_slice h
  rw [List.length_map] at h
  exact ⟨A, c, h⟩
theorem RowAt.slice {B : Nat} {w : World} {x : List (List Cel)} {v : Value} (h : RowAt B w x v) : ∃ A c, v = .slice A x.length c := by
  obtain ⟨A, c, h⟩ := Kd.R_slice h
  rw [List.length_map] at h
  exact ⟨A, c, h⟩
theorem CelAt.reads {B : Nat} {w : World} {x : List Cel} {A : Option Addr} {n c : Nat} (h : CelAt B w x (.slice A n c)) : x.length ≤ c ∧ Kd.C k41 w A x.length (x.map celS) := by
  obtain ⟨A', c', he, h1, h2⟩ := Kd.R_reads h
  injection he with h3 h4 h5
  subst h3; subst h5
  rw [List.length_map] at h1 h2
  exact ⟨h1, h2⟩
theorem RowAt.reads {B : Nat} {w : World} {x : List (List Cel)} {A : Option Addr} {n c : Nat} (h : RowAt B w x (.slice A n c)) : x.length ≤ c ∧ Kd.C (Kd.slice 41 k41) w A x.length (x.map (List.map celS)) := by
  obtain ⟨A', c', he, h1, h2⟩ := Kd.R_reads h
  injection he with h3 h4 h5
  subst h3; subst h5
  rw [List.length_map] at h1 h2
  exact ⟨h1, h2⟩

set_option maxHeartbeats 8000000 in
set_option maxRecDepth 100000 in
theorem rd_row {B g : Nat} {e : Int} {k : Nat} (hC : Con B g e k) (s : RS) (q : Except (Int × Int) (List (List Cel) × RS)) (w : World) (hq : rowR (k + 1) e [] s = some q) (hP : Pre B g e s w) :
    Calls Tryd.prog 60 #[.pointer (some ⟨g, 0, none⟩)] w (RdEnd B g e (RowAt w.heap.size) w q) := by
  rw [rowR] at hq
  have hB := Aside0.mk hP.base
  have HOK := Aside0.mk hP.ok
  have HT : Aside0 (RdTo B g e s w w) := ⟨⟨hP.st, Fr.refl _ _ _⟩⟩
  rcases Res.bind_some hq with ⟨x, hu, hq⟩ | ⟨x, hu, rfl⟩
  · have HU := Aside0.mk hu
    have HQ := Aside0.mk hq
    have HP5 := Aside0.mk ((passed5 e k).1 _ _ _ hu)
    clear hq hu hP
    go_enter Tryd.func60, Tryd.ntmps60
    go_wp2_with (first | (go_at_call 38; refine (hC.up 700 s _ _ HU.out ⟨(HT.out.below (by repeat (first | exact Below.refl _ _ | apply below_alloc | apply pw_below_drewN | apply below_drew1))).st, Nat.le_trans hB.out (Nat.le_trans HT.out.fr.size (below_size (by repeat (first | exact Below.refl _ _ | apply below_alloc | apply pw_below_drewN | apply below_drew1)))), HOK.out⟩).mono ?_; rintro en w1 ⟨v1, rfl, hV, hR⟩; obtain ⟨v1A, v1c, hve⟩ := hV.slice; subst hve; replace hV := hV.low (Nat.le_trans HT.out.fr.size (below_size (by repeat (first | exact Below.refl _ _ | apply below_alloc | apply pw_below_drewN | apply below_drew1)))); replace HT := Aside0.mk (HT.out.step (by repeat (first | exact Below.refl _ _ | apply below_alloc | apply pw_below_drewN | apply below_drew1)) hR); clear hR; have HX := Aside0.mk hV; clear hV))
    have HL0 := Aside0.mk (lit_R HX.out HT.out.fr.size)
    have HT0 := Aside0.mk (HT.out.below (below_alloc (Below.refl _ _) (.cells #[.slice v1A x.1.length v1c] 24)))
    have HLEN0 : Aside0 (([x.1] : List (List Cel)).length + x.2.1.length ≤ 40000) := ⟨by
      obtain ⟨m, h1, h2, h3, _⟩ := HP5.out
      have := HOK.out.2
      rw [h3, List.length_drop, List.length_singleton]
      omega⟩
    have HO0 := Aside0.mk (HOK.out.passed HP5.out)
    clear HX HT HU HP5 HOK
    go_loopg [3] k (fun gk v3 wr => ∃ (l : List (List Cel)) (s1 : RS), gk ≤ k ∧ Aside0 ((if isT s1.1 5 [44] = true then rowR gk e l (s1.1.tail, s1.2) else Res.ok (l, s1)) = some q) ∧ Aside0 (RowAt w.heap.size wr l v3) ∧ Aside0 (RdTo B g e s1 w wr) ∧ Aside0 (Ok s1) ∧ Aside0 (l.length + s1.1.length ≤ 40000))
    case atStart => exact ⟨_, _, Nat.le_refl _, HQ, HL0, HT0, HO0, HLEN0⟩
    case round =>
      obtain ⟨l, s1, hgk, HA, HL, HT, HO1, HLEN⟩ := hrel
      clear HL0 HT0 HO0 HLEN0 HQ
      obtain ⟨lA, lc, hle⟩ := HL.out.slice
      subst hle
      have ha := HA.out
      clear HA
      cases hi : isT s1.1 5 [44] with
      | false =>
        rw [hi, if_neg (by decide)] at ha
        obtain rfl : Except.ok (l, s1) = q := Option.some.inj ha
        have HI := Lib.hid hi
        clear ha hi
        go_wp2_with (first | (go_at_call 41; have hI_ := HI; clear HI; refine (rd_take ⟨(HT.out.below (by repeat (first | exact Below.refl _ _ | apply below_alloc | apply pw_below_drewN | apply below_drew1))).st⟩ 5 (by decide) [44]).mono ?_; rw [hI_.out]; clear hI_; rw [if_neg (by decide)]; rintro en w1 ⟨rfl, hR⟩; replace HL := Aside0.mk (HL.out.step (by repeat (first | exact Below.refl _ _ | apply below_alloc | apply pw_below_drewN | apply below_drew1)) hR.fr); replace HT := Aside0.mk (HT.out.step (by repeat (first | exact Below.refl _ _ | apply below_alloc | apply pw_below_drewN | apply below_drew1)) hR); clear hR))
        go_ret
        exact ⟨_, rfl, HL.out, HT.out⟩
      | true =>
        rw [hi, if_pos rfl] at ha
        obtain ⟨j, rfl⟩ : ∃ j, gk = j + 1 := by
          cases gk with
          | zero => rw [rowR] at ha; cases ha
          | succ j => exact ⟨j, rfl⟩
        rw [rowR] at ha
        have HI := Lib.hid hi
        have HO2 : Aside0 (Ok (s1.1.tail, s1.2)) := ⟨⟨fun t ht => HO1.out.1 t (List.mem_of_mem_tail ht), by have := HO1.out.2; simp only [List.length_tail]; omega⟩⟩
        rcases Res.bind_some ha with ⟨x, hu, hq⟩ | ⟨x, hu, rfl⟩
        · have HU := Aside0.mk (upTo_more (show j ≤ k by omega) _ _ _ _ hu)
          have HP5 := (passed5 e j).1 _ _ _ hu
          have HO3 := Aside0.mk (HO2.out.passed HP5)
          have HLEN3 : Aside0 ((l ++ [x.1]).length + x.2.1.length ≤ 40000) := ⟨by
            obtain ⟨m, h1, h2, h3, _⟩ := HP5
            have := HLEN.out
            simp only at h2 h3
            rw [h3, List.length_drop, List.length_append, List.length_singleton]
            rw [List.length_tail] at h2 ⊢
            omega⟩
          have HQ := Aside0.mk hq
          clear ha hi hu hq HP5
          go_wp2_with (first | (go_at_call 41; have hI_ := HI; clear HI; refine (rd_take ⟨(HT.out.below (by repeat (first | exact Below.refl _ _ | apply below_alloc | apply pw_below_drewN | apply below_drew1))).st⟩ 5 (by decide) [44]).mono ?_; rw [hI_.out]; clear hI_; rw [if_pos rfl]; rintro en w1 ⟨rfl, hR⟩; replace HL := Aside0.mk (HL.out.step (by repeat (first | exact Below.refl _ _ | apply below_alloc | apply pw_below_drewN | apply below_drew1)) hR.fr); replace HT := Aside0.mk (HT.out.step (by repeat (first | exact Below.refl _ _ | apply below_alloc | apply pw_below_drewN | apply below_drew1)) hR); clear hR) | (go_at_call 38; refine (hC.up 700 (s1.1.tail, s1.2) _ _ HU.out ⟨(HT.out.below (by repeat (first | exact Below.refl _ _ | apply below_alloc | apply pw_below_drewN | apply below_drew1))).st, Nat.le_trans hB.out (Nat.le_trans HT.out.fr.size (below_size (by repeat (first | exact Below.refl _ _ | apply below_alloc | apply pw_below_drewN | apply below_drew1)))), HO2.out⟩).mono ?_; rintro en w1 ⟨v1, rfl, hV, hR⟩; obtain ⟨v1A, v1c, hve⟩ := hV.slice; subst hve; replace hV := hV.low (Nat.le_trans HT.out.fr.size (below_size (by repeat (first | exact Below.refl _ _ | apply below_alloc | apply pw_below_drewN | apply below_drew1)))); replace HL := Aside0.mk (HL.out.step (by repeat (first | exact Below.refl _ _ | apply below_alloc | apply pw_below_drewN | apply below_drew1)) hR.fr); replace HT := Aside0.mk (HT.out.step (by repeat (first | exact Below.refl _ _ | apply below_alloc | apply pw_below_drewN | apply below_drew1)) hR); clear hR; have HX := Aside0.mk hV; clear hV) | (at_builtin; refine Kd.R_append (Kd.slice 41 k41) (w0 := _) w.heap.size rfl (.tmp 9) (.tmp 12) 110 24 (.slice none 0 0) 24 rfl Tryd.underlying110 infoRow rfl (by decide) (by omega) (Value.slice lA l.length lc) (List.map (List.map celS) l) (x.1.map celS) [(Value.slice v1A x.1.length v1c)] (fun _ => True) (fun k => True ∧ some k ≠ Value.ownBlock (Value.slice lA l.length lc)) (by first | rfl | (go_simp; done)) (by first | (go_simp; done) | (go_simp; rfl)) ⟨_, rfl, Kd.R_apartR (d' := Kd.slice 41 k41) (e' := 24) (HX.out.below (by repeat (first | exact Below.refl _ _ | apply below_alloc | apply pw_below_drewN | apply below_drew1))) (HL.out.below (by repeat (first | exact Below.refl _ _ | apply below_alloc | apply pw_below_drewN | apply below_drew1))) (by decide)⟩ (fun _ hk => hk) (fun _ _ => trivial) (HL.out.below (by repeat (first | exact Below.refl _ _ | apply below_alloc | apply pw_below_drewN | apply below_drew1))) (Below.refl _ _) (Nat.le_trans HT.out.fr.size (below_size (by repeat (first | exact Below.refl _ _ | apply below_alloc | apply pw_below_drewN | apply below_drew1)))) (by rw [List.length_map]; have := HLEN.out; omega) ?_; intro vn wn hon hbn hgn han; have HTn := Aside0.mk (HT.out.rowed (by repeat (first | exact Below.refl _ _ | apply below_alloc | apply pw_below_drewN | apply below_drew1)) HL.out hgn)))
          go_roundg j
          case measure => omega
          case rel => exact ⟨_, _, by omega, HQ, ⟨by rw [RowAt, List.map_append]; exact hon⟩, HTn, HO3, HLEN3⟩
        · have HU := Aside0.mk (upTo_more (show j ≤ k by omega) _ _ _ _ hu)
          clear ha hi hu
          go_wp2_with (first | (go_at_call 41; have hI_ := HI; clear HI; refine (rd_take ⟨(HT.out.below (by repeat (first | exact Below.refl _ _ | apply below_alloc | apply pw_below_drewN | apply below_drew1))).st⟩ 5 (by decide) [44]).mono ?_; rw [hI_.out]; clear hI_; rw [if_pos rfl]; rintro en w1 ⟨rfl, hR⟩; replace HL := Aside0.mk (HL.out.step (by repeat (first | exact Below.refl _ _ | apply below_alloc | apply pw_below_drewN | apply below_drew1)) hR.fr); replace HT := Aside0.mk (HT.out.step (by repeat (first | exact Below.refl _ _ | apply below_alloc | apply pw_below_drewN | apply below_drew1)) hR); clear hR) | (go_at_call 38; refine (hC.up 700 (s1.1.tail, s1.2) _ _ HU.out ⟨(HT.out.below (by repeat (first | exact Below.refl _ _ | apply below_alloc | apply pw_below_drewN | apply below_drew1))).st, Nat.le_trans hB.out (Nat.le_trans HT.out.fr.size (below_size (by repeat (first | exact Below.refl _ _ | apply below_alloc | apply pw_below_drewN | apply below_drew1)))), HO2.out⟩).mono ?_; rintro en w1 ⟨rfl, hF⟩; have HF := Aside0.mk ((HT.out.below (by repeat (first | exact Below.refl _ _ | apply below_alloc | apply pw_below_drewN | apply below_drew1))).fr.trans hF); clear hF))
          exact ⟨rfl, rfl, HF.out⟩
  · have HU := Aside0.mk hu
    clear hq hu hP
    go_enter Tryd.func60, Tryd.ntmps60
    go_wp2_with (first | (go_at_call 38; refine (hC.up 700 s _ _ HU.out ⟨(HT.out.below (by repeat (first | exact Below.refl _ _ | apply below_alloc | apply pw_below_drewN | apply below_drew1))).st, Nat.le_trans hB.out (Nat.le_trans HT.out.fr.size (below_size (by repeat (first | exact Below.refl _ _ | apply below_alloc | apply pw_below_drewN | apply below_drew1)))), HOK.out⟩).mono ?_; rintro en w1 ⟨rfl, hF⟩; have HF := Aside0.mk ((HT.out.below (by repeat (first | exact Below.refl _ _ | apply below_alloc | apply pw_below_drewN | apply below_drew1))).fr.trans hF); clear hF))
    exact ⟨rfl, rfl, HF.out⟩
end Go.Proofs.YthdccdbiichabaaDoor.P
/- Lists: the contract of package read's reader.list, where the lesser calls are as told. No condition. Printed by wip/gen/mkrdc.py. -/
namespace Go.Proofs.YthdccdbiichabaaDoor.P
open Go.RowKit Go.Proofs.YthdccdbiichabaaDoorW.PrintWords Go.Proofs.YthdccdbiichabaaDoorW.PrintLast Go.Proofs.YthdccdbiichabaaDoorW.PrintMore
set_option linter.unusedVariables false
set_option linter.unusedSimpArgs false

def outL (l : List (List Cel)) (i : Nat) : List Cel := listR (l.take i) []
theorem outL_step (l : List (List Cel)) (i : Nat) (h : i < l.length) : outL l (i + 1) = outL l i ++ [⟨3, [46], 2⟩] ++ l[i] := by
  unfold outL listR
  rw [List.take_add_one, List.getElem?_eq_getElem h, List.map_append, List.flatten_append]
  simp [-List.map_take]
theorem outL_len (l : List (List Cel)) (i : Nat) : (outL l i).length ≤ l.flatten.length + l.length := by
  unfold outL
  rw [flat_len, List.length_nil, List.length_take]
  have : (l.take i).flatten.length ≤ l.flatten.length := by
    have h := congrArg List.length (congrArg List.flatten (List.take_append_drop i l))
    rw [List.flatten_append, List.length_append] at h
    omega
  omega
theorem outL_all (l : List (List Cel)) (t : List Cel) : outL l l.length ++ t = listR l t := by
  unfold outL
  rw [List.take_length]
  simp [listR]
theorem bel_all {w W : World} (h : Below w.heap.size w W) : Below w.heap.size w W := h
theorem RowAt.at_ {b : Nat} {w : World} {l : List (List Cel)} {A : Option Addr} {n c : Nat} (h : RowAt b w l (.slice A n c)) {i : Nat} (hi : i < l.length) :
    ∃ ad Ai ci, A = some ad ∧ w.cell? (ad.add i) = some (.slice Ai l[i].length ci) ∧ l[i].length ≤ ci ∧ Kd.C k41 w Ai l[i].length (l[i].map celS) := by
  obtain ⟨h1, h2⟩ := h.reads
  obtain ⟨ad, e1, hc⟩ := h2.2.2 (by omega)
  obtain ⟨cs, hl, ⟨Ai, ci, hcs, h3, h4⟩, hcell⟩ := hc i (l[i].map celS) (by rw [List.getElem?_map, List.getElem?_eq_getElem hi]; rfl)
  subst hcs
  have h5 := hcell 0 _ rfl
  rw [show (Kd.slice 41 k41).sz = 1 from rfl, Nat.mul_one, Nat.add_zero] at h5
  rw [List.length_map] at h3 h4 h5
  exact ⟨ad, Ai, ci, e1, h5, h3, h4⟩

set_option maxHeartbeats 16000000 in
set_option maxRecDepth 100000 in
theorem rd_list {B g : Nat} {e : Int} {k : Nat} (hC : Con B g e k) (s : RS) (q : Except (Int × Int) (List Cel × RS)) (w : World) (hq : listLR (k + 1) e s = some q) (hP : Pre B g e s w) :
    Calls Tryd.prog 62 #[.pointer (some ⟨g, 0, none⟩)] w (RdEnd B g e (CelAt w.heap.size) w q) := by
  rw [listLR] at hq
  have hB := Aside0.mk hP.base
  have HOK := Aside0.mk hP.ok
  have HT : Aside0 (RdTo B g e s w w) := ⟨⟨hP.st, Fr.refl _ _ _⟩⟩
  cases hi : isT s.1 5 [93] with
  | true =>
    rw [hi, if_pos rfl] at hq
    obtain rfl : Except.ok (nilR, (s.1.tail, s.2)) = q := Option.some.inj hq
    have HI := Lib.hid hi
    clear hq hi hP
    go_enter Tryd.func62, Tryd.ntmps62
    go_wp2_with (first | (go_at_call 47; refine (rd_compound [91, 93] [] (by simp) rfl (Nat.zero_le _) ⟨rfl, by simp, fun h => absurd h (by simp)⟩ (B := w.heap.size) (Nat.le_trans HT.out.fr.size (below_size (by repeat (first | exact Below.refl _ _ | apply below_alloc | apply pw_below_drewN | apply below_drew1))))).mono ?_; rintro en w1 ⟨v1, rfl, hV, hb⟩; replace hV : CelAt _ _ nilR _ := hV; obtain ⟨n0A, n0c, hve⟩ := hV.slice; subst hve; replace HT := Aside0.mk (HT.out.below (below_step (by repeat (first | exact Below.refl _ _ | apply below_alloc | apply pw_below_drewN | apply below_drew1)) hb)); have HN := Aside0.mk hV; clear hb hV) | (go_at_call 41; have hI_ := HI; clear HI; refine (rd_take ⟨(HT.out.below (by repeat (first | exact Below.refl _ _ | apply below_alloc | apply pw_below_drewN | apply below_drew1))).st⟩ 5 (by decide) [93]).mono ?_; rw [hI_.out]; clear hI_; rw [if_pos rfl]; rintro en w1 ⟨rfl, hR⟩; replace HN := Aside0.mk (HN.out.step (by repeat (first | exact Below.refl _ _ | apply below_alloc | apply pw_below_drewN | apply below_drew1)) hR.fr); replace HT := Aside0.mk (HT.out.step (by repeat (first | exact Below.refl _ _ | apply below_alloc | apply pw_below_drewN | apply below_drew1)) hR); clear hR))
    go_ret
    exact ⟨_, rfl, HN.out, HT.out⟩
  | false =>
    rw [hi, if_neg (by decide)] at hq
    have HI := Lib.hid hi
    clear hi hP
    rcases Res.bind_some hq with ⟨l, hu, hq⟩ | ⟨x, hu, rfl⟩
    · have HU := Aside0.mk hu
      have hp5 := (passed5 e k).2.2.2.1 _ _ _ hu
      have HO1 := Aside0.mk (HOK.out.passed hp5)
      have HLEN : Aside0 (l.1.flatten.length + l.1.length ≤ 80001) := ⟨by have := hp5.len HOK.out; simpa using this⟩
      clear hu hp5
      cases hi2 : isT l.2.1 5 [124] with
      | true =>
        rw [hi2, if_pos rfl] at hq
        have HI2 := Lib.hid hi2
        have HO2 : Aside0 (Ok (l.2.1.tail, l.2.2)) := ⟨⟨fun t ht => HO1.out.1 t (List.mem_of_mem_tail ht), by have := HO1.out.2; simp only [List.length_tail]; omega⟩⟩
        clear hi2
        rcases Res.bind_some hq with ⟨x, hu, hq⟩ | ⟨x, hu, rfl⟩
        · have HU2 := Aside0.mk hu
          have HTL : Aside0 (x.1.length ≤ 100000) := ⟨by have := ((passed5 e k).1 _ _ _ hu).len HO2.out; omega⟩
          clear hu
          rcases Res.bind_some hq with ⟨s', hm, hq⟩ | ⟨y, hm, rfl⟩
          · have HM := Aside0.mk hm
            obtain rfl : Except.ok (listR l.1 x.1, s') = q := Option.some.inj hq
            clear hm hq
            go_enter Tryd.func62, Tryd.ntmps62
            go_wp2_with (first | (go_at_call 47; refine (rd_compound [91, 93] [] (by simp) rfl (Nat.zero_le _) ⟨rfl, by simp, fun h => absurd h (by simp)⟩ (B := w.heap.size) (Nat.le_trans HT.out.fr.size (below_size (by repeat (first | exact Below.refl _ _ | apply below_alloc | apply pw_below_drewN | apply below_drew1))))).mono ?_; rintro en w1 ⟨v1, rfl, hV, hb⟩; replace hV : CelAt _ _ nilR _ := hV; obtain ⟨n0A, n0c, hve⟩ := hV.slice; subst hve; replace HT := Aside0.mk (HT.out.below (below_step (by repeat (first | exact Below.refl _ _ | apply below_alloc | apply pw_below_drewN | apply below_drew1)) hb)); have HN := Aside0.mk hV; clear hb hV) | (go_at_call 41; have hI_ := HI; clear HI; refine (rd_take ⟨(HT.out.below (by repeat (first | exact Below.refl _ _ | apply below_alloc | apply pw_below_drewN | apply below_drew1))).st⟩ 5 (by decide) [93]).mono ?_; rw [hI_.out]; clear hI_; rw [if_neg (by decide)]; rintro en w1 ⟨rfl, hR⟩; replace HN := Aside0.mk (HN.out.step (by repeat (first | exact Below.refl _ _ | apply below_alloc | apply pw_below_drewN | apply below_drew1)) hR.fr); replace HT := Aside0.mk (HT.out.step (by repeat (first | exact Below.refl _ _ | apply below_alloc | apply pw_below_drewN | apply below_drew1)) hR); clear hR) | (go_at_call 60; refine (hC.row s _ _ HU.out ⟨(HT.out.below (by repeat (first | exact Below.refl _ _ | apply below_alloc | apply pw_below_drewN | apply below_drew1))).st, Nat.le_trans hB.out (Nat.le_trans HT.out.fr.size (below_size (by repeat (first | exact Below.refl _ _ | apply below_alloc | apply pw_below_drewN | apply below_drew1)))), HOK.out⟩).mono ?_; rintro en w1 ⟨v1, rfl, hV, hR⟩; obtain ⟨l0A, l0c, hve⟩ := hV.slice; subst hve; replace hV := hV.low (Nat.le_trans HT.out.fr.size (below_size (by repeat (first | exact Below.refl _ _ | apply below_alloc | apply pw_below_drewN | apply below_drew1)))); replace HN := Aside0.mk (HN.out.step (by repeat (first | exact Below.refl _ _ | apply below_alloc | apply pw_below_drewN | apply below_drew1)) hR.fr); replace HT := Aside0.mk (HT.out.step (by repeat (first | exact Below.refl _ _ | apply below_alloc | apply pw_below_drewN | apply below_drew1)) hR); clear hR; have HL := Aside0.mk hV; clear hV) | (go_at_call 41; have hI_ := HI2; clear HI2; refine (rd_take ⟨(HT.out.below (by repeat (first | exact Below.refl _ _ | apply below_alloc | apply pw_below_drewN | apply below_drew1))).st⟩ 5 (by decide) [124]).mono ?_; rw [hI_.out]; clear hI_; rw [if_pos rfl]; rintro en w1 ⟨rfl, hR⟩; replace HL := Aside0.mk (HL.out.step (by repeat (first | exact Below.refl _ _ | apply below_alloc | apply pw_below_drewN | apply below_drew1)) hR.fr); replace HN := Aside0.mk (HN.out.step (by repeat (first | exact Below.refl _ _ | apply below_alloc | apply pw_below_drewN | apply below_drew1)) hR.fr); replace HT := Aside0.mk (HT.out.step (by repeat (first | exact Below.refl _ _ | apply below_alloc | apply pw_below_drewN | apply below_drew1)) hR); clear hR) | (go_at_call 38; refine (hC.up 700 (l.2.1.tail, l.2.2) _ _ HU2.out ⟨(HT.out.below (by repeat (first | exact Below.refl _ _ | apply below_alloc | apply pw_below_drewN | apply below_drew1))).st, Nat.le_trans hB.out (Nat.le_trans HT.out.fr.size (below_size (by repeat (first | exact Below.refl _ _ | apply below_alloc | apply pw_below_drewN | apply below_drew1)))), HO2.out⟩).mono ?_; rintro en w1 ⟨v1, rfl, hV, hR⟩; obtain ⟨t0A, t0c, hve⟩ := hV.slice; subst hve; replace hV := hV.low (Nat.le_trans HT.out.fr.size (below_size (by repeat (first | exact Below.refl _ _ | apply below_alloc | apply pw_below_drewN | apply below_drew1)))); replace HL := Aside0.mk (HL.out.step (by repeat (first | exact Below.refl _ _ | apply below_alloc | apply pw_below_drewN | apply below_drew1)) hR.fr); replace HN := Aside0.mk (HN.out.step (by repeat (first | exact Below.refl _ _ | apply below_alloc | apply pw_below_drewN | apply below_drew1)) hR.fr); replace HT := Aside0.mk (HT.out.step (by repeat (first | exact Below.refl _ _ | apply below_alloc | apply pw_below_drewN | apply below_drew1)) hR); clear hR; have HX := Aside0.mk hV; clear hV) | (go_at_call 61; refine (rd_must ⟨(HT.out.below (by repeat (first | exact Below.refl _ _ | apply below_alloc | apply pw_below_drewN | apply below_drew1))).st⟩ [93] ⟨HM.out⟩).mono ?_; rintro en w1 ⟨rfl, hR⟩; replace HL := Aside0.mk (HL.out.step (by repeat (first | exact Below.refl _ _ | apply below_alloc | apply pw_below_drewN | apply below_drew1)) hR.fr); replace HX := Aside0.mk (HX.out.step (by repeat (first | exact Below.refl _ _ | apply below_alloc | apply pw_below_drewN | apply below_drew1)) hR.fr); replace HT := Aside0.mk (HT.out.step (by repeat (first | exact Below.refl _ _ | apply below_alloc | apply pw_below_drewN | apply below_drew1)) hR); clear hR))
            have HW1 : Aside0 (w.heap.size ≤ w1.heap.size) := ⟨HT.out.fr.size⟩
            go_loopg [22, 5, 7] (l.1.length + 1) (fun gk v22 v5 v7 wr => ∃ i : Nat, v22 = .int .i64 i ∧ i + gk = l.1.length + 1 ∧ i ≤ l.1.length ∧ Aside0 (CelAt w1.heap.size wr (outL l.1 i) v5) ∧ Aside0 (Below w1.heap.size w1 wr))
            case atStart => exact ⟨0, rfl, by omega, by omega, ⟨Kd.R_nil _ _ _ _ _⟩, ⟨Below.refl _ _⟩⟩
            case round =>
              obtain ⟨i, rfl, hig, hil, HO, HB⟩ := hrel
              cases gk with
              | zero => omega
              | succ gk =>
              by_cases hi : i < l.1.length
              · have hiI : decide ((i : Int) < (l.1.length : Int)) = true := decide_eq_true (by omega)
                have hiI2 : (i : Int) < (l.1.length : Int) := by omega
                have hst := outL_step l.1 i hi
                obtain ⟨ad, Ai, ci, hA, hx0, hli, hCi⟩ := HL.out.at_ hi
                subst hA
                obtain ⟨y, hy⟩ : ∃ y, y = l.1[i] := ⟨_, rfl⟩
                rw [← hy] at hx0 hli hCi hst
                have hyl : y.length ≤ l.1.flatten.length := by rw [hy]; exact (List.sublist_flatten_of_mem (List.getElem_mem hi)).length_le
                have hol : (outL l.1 i).length ≤ 100000 := by have := outL_len l.1 i; have := HLEN.out; omega
                have hyl2 : y.length ≤ 100000 := by have := HLEN.out; omega
                have hib : i ≤ 100000 := by have := HLEN.out; omega
                have HS := Lib.hid hst
                have HCI := Aside0.mk hCi
                replace hx0 := (HB.out.cell (World.block_lt_of_cell? w1 _ hx0)).trans hx0
                clear hst hCi hli hy hyl
                go_wp2_with (first | (at_builtin; refine Kd.R_append k41 (w0 := w1) w1.heap.size rfl (.tmp 26) (.tmp 28) 24 41 (.agg #[.int .i64 0, .string ⟨#[]⟩, .int .i64 0]) 32 rfl Tryd.underlying24 info41 rfl (by decide) (by omega) _ ((outL l.1 i).map celS) (celS ⟨3, [46], 2⟩) [.int .i64 3, .string ⟨#[46]⟩, .int .i64 2] (fun _ => True) (fun _ => False) rfl (by first | (go_simp; done) | (go_simp; rfl)) (k41_mkM _ _ _ _) (fun _ hk => hk.elim) (fun _ _ => trivial) HO.out HB.out HB.out.size (by rw [List.length_map]; omega) ?_; intro vA wA hoA hbA hgA haA; have HOA := Aside0.mk hoA; have HBA := Aside0.mk hbA; clear hoA hbA hgA haA) | ((with_reducible refine gate_builtin (b := .append) (xs := #[.tmp 30, .tmp 31]) rfl ?_); at_builtin; refine Kd.R_append_rows k41 (w0 := w1) w1.heap.size rfl (.tmp 30) (.tmp 31) 24 41 (.agg #[.int .i64 0, .string ⟨#[]⟩, .int .i64 0]) 32 rfl Tryd.underlying24 info41 rfl (by decide) (by omega) vA ((outL l.1 i).map celS ++ [celS ⟨3, [46], 2⟩]) (y.map celS) _ _ _ (fun _ => True) (fun _ => False) rfl rfl ?aO ?aR (fun _ _ h => h) (fun _ h => h.elim) ?aF ?aB ?aS ?aL ?_; (case aR => exact (Kd.C_below HCI.out HBA.out)); (case aB => exact HBA.out); (case aF => exact (fun _ _ => trivial)); (case aO => exact HOA.out); (case aS => exact HBA.out.size); (case aL => simp only [List.length_map, List.length_append, List.length_singleton]; omega); intro vB wX ho hb hg ha; have HOB := Aside0.mk ho; have HBB := Aside0.mk hb; clear ho hb hg ha))
                go_roundg gk
                case measure => omega
                case rel => exact ⟨i + 1, by first | rfl | (simp; done) | (rw [wrap_in (by omega) (by omega)]; rfl), by omega, by omega, ⟨by rw [CelAt, HS.out, List.map_append, List.map_append]; exact HOB.out⟩, HBB⟩
              · have hiI : decide ((i : Int) < (l.1.length : Int)) = false := decide_eq_false (by omega)
                obtain rfl : i = l.1.length := by omega
                have hol : (outL l.1 l.1.length).length ≤ 100000 := by have := outL_len l.1 l.1.length; have := HLEN.out; omega
                have htl : x.1.length ≤ 100000 := HTL.out
                have HTC := Aside0.mk (HX.out.reads).2
                go_wp2_with (first | ((with_reducible refine gate_builtin (b := .append) (xs := #[.tmp 34, .tmp 35]) rfl ?_); at_builtin; refine Kd.R_append_rows k41 (w0 := w1) w1.heap.size rfl (.tmp 34) (.tmp 35) 24 41 (.agg #[.int .i64 0, .string ⟨#[]⟩, .int .i64 0]) 32 rfl Tryd.underlying24 info41 rfl (by decide) (by omega) _ ((outL l.1 l.1.length).map celS) (x.1.map celS) _ _ _ (fun _ => True) (fun _ => False) rfl rfl ?aO ?aR (fun _ _ h => h) (fun _ h => h.elim) ?aF ?aB ?aS ?aL ?_; (case aR => exact (Kd.C_below HTC.out HB.out)); (case aB => exact HB.out); (case aF => exact (fun _ _ => trivial)); (case aO => exact HO.out); (case aS => exact HB.out.size); (case aL => simp only [List.length_map, List.length_append, List.length_singleton]; omega); intro vC wX ho hb hg ha; have HOC := Aside0.mk ho; have HBC := Aside0.mk hb; clear ho hb hg ha))
                go_ret
                refine ⟨_, rfl, ?_, ⟨HT.out.st.below (bel_all HBC.out), HT.out.fr.trans (Fr.of_below (bel_all HBC.out))⟩⟩
                have hoC := HOC.out
                rw [← List.map_append, outL_all] at hoC
                exact Kd.R_lower hoC HW1.out
          · have HM := Aside0.mk hm
            clear hm hq
            go_enter Tryd.func62, Tryd.ntmps62
            go_wp2_with (first | (go_at_call 47; refine (rd_compound [91, 93] [] (by simp) rfl (Nat.zero_le _) ⟨rfl, by simp, fun h => absurd h (by simp)⟩ (B := w.heap.size) (Nat.le_trans HT.out.fr.size (below_size (by repeat (first | exact Below.refl _ _ | apply below_alloc | apply pw_below_drewN | apply below_drew1))))).mono ?_; rintro en w1 ⟨v1, rfl, hV, hb⟩; replace hV : CelAt _ _ nilR _ := hV; obtain ⟨n0A, n0c, hve⟩ := hV.slice; subst hve; replace HT := Aside0.mk (HT.out.below (below_step (by repeat (first | exact Below.refl _ _ | apply below_alloc | apply pw_below_drewN | apply below_drew1)) hb)); have HN := Aside0.mk hV; clear hb hV) | (go_at_call 41; have hI_ := HI; clear HI; refine (rd_take ⟨(HT.out.below (by repeat (first | exact Below.refl _ _ | apply below_alloc | apply pw_below_drewN | apply below_drew1))).st⟩ 5 (by decide) [93]).mono ?_; rw [hI_.out]; clear hI_; rw [if_neg (by decide)]; rintro en w1 ⟨rfl, hR⟩; replace HN := Aside0.mk (HN.out.step (by repeat (first | exact Below.refl _ _ | apply below_alloc | apply pw_below_drewN | apply below_drew1)) hR.fr); replace HT := Aside0.mk (HT.out.step (by repeat (first | exact Below.refl _ _ | apply below_alloc | apply pw_below_drewN | apply below_drew1)) hR); clear hR) | (go_at_call 60; refine (hC.row s _ _ HU.out ⟨(HT.out.below (by repeat (first | exact Below.refl _ _ | apply below_alloc | apply pw_below_drewN | apply below_drew1))).st, Nat.le_trans hB.out (Nat.le_trans HT.out.fr.size (below_size (by repeat (first | exact Below.refl _ _ | apply below_alloc | apply pw_below_drewN | apply below_drew1)))), HOK.out⟩).mono ?_; rintro en w1 ⟨v1, rfl, hV, hR⟩; obtain ⟨l0A, l0c, hve⟩ := hV.slice; subst hve; replace hV := hV.low (Nat.le_trans HT.out.fr.size (below_size (by repeat (first | exact Below.refl _ _ | apply below_alloc | apply pw_below_drewN | apply below_drew1)))); replace HN := Aside0.mk (HN.out.step (by repeat (first | exact Below.refl _ _ | apply below_alloc | apply pw_below_drewN | apply below_drew1)) hR.fr); replace HT := Aside0.mk (HT.out.step (by repeat (first | exact Below.refl _ _ | apply below_alloc | apply pw_below_drewN | apply below_drew1)) hR); clear hR; have HL := Aside0.mk hV; clear hV) | (go_at_call 41; have hI_ := HI2; clear HI2; refine (rd_take ⟨(HT.out.below (by repeat (first | exact Below.refl _ _ | apply below_alloc | apply pw_below_drewN | apply below_drew1))).st⟩ 5 (by decide) [124]).mono ?_; rw [hI_.out]; clear hI_; rw [if_pos rfl]; rintro en w1 ⟨rfl, hR⟩; replace HL := Aside0.mk (HL.out.step (by repeat (first | exact Below.refl _ _ | apply below_alloc | apply pw_below_drewN | apply below_drew1)) hR.fr); replace HN := Aside0.mk (HN.out.step (by repeat (first | exact Below.refl _ _ | apply below_alloc | apply pw_below_drewN | apply below_drew1)) hR.fr); replace HT := Aside0.mk (HT.out.step (by repeat (first | exact Below.refl _ _ | apply below_alloc | apply pw_below_drewN | apply below_drew1)) hR); clear hR) | (go_at_call 38; refine (hC.up 700 (l.2.1.tail, l.2.2) _ _ HU2.out ⟨(HT.out.below (by repeat (first | exact Below.refl _ _ | apply below_alloc | apply pw_below_drewN | apply below_drew1))).st, Nat.le_trans hB.out (Nat.le_trans HT.out.fr.size (below_size (by repeat (first | exact Below.refl _ _ | apply below_alloc | apply pw_below_drewN | apply below_drew1)))), HO2.out⟩).mono ?_; rintro en w1 ⟨v1, rfl, hV, hR⟩; obtain ⟨t0A, t0c, hve⟩ := hV.slice; subst hve; replace hV := hV.low (Nat.le_trans HT.out.fr.size (below_size (by repeat (first | exact Below.refl _ _ | apply below_alloc | apply pw_below_drewN | apply below_drew1)))); replace HL := Aside0.mk (HL.out.step (by repeat (first | exact Below.refl _ _ | apply below_alloc | apply pw_below_drewN | apply below_drew1)) hR.fr); replace HN := Aside0.mk (HN.out.step (by repeat (first | exact Below.refl _ _ | apply below_alloc | apply pw_below_drewN | apply below_drew1)) hR.fr); replace HT := Aside0.mk (HT.out.step (by repeat (first | exact Below.refl _ _ | apply below_alloc | apply pw_below_drewN | apply below_drew1)) hR); clear hR; have HX := Aside0.mk hV; clear hV) | (go_at_call 61; refine (rd_must ⟨(HT.out.below (by repeat (first | exact Below.refl _ _ | apply below_alloc | apply pw_below_drewN | apply below_drew1))).st⟩ [93] ⟨HM.out⟩).mono ?_; rintro en w1 ⟨rfl, hF⟩; have HF := Aside0.mk ((HT.out.below (by repeat (first | exact Below.refl _ _ | apply below_alloc | apply pw_below_drewN | apply below_drew1))).fr.trans hF); clear hF))
            exact ⟨rfl, rfl, HF.out⟩
        · have HU2 := Aside0.mk hu
          clear hu hq
          go_enter Tryd.func62, Tryd.ntmps62
          go_wp2_with (first | (go_at_call 47; refine (rd_compound [91, 93] [] (by simp) rfl (Nat.zero_le _) ⟨rfl, by simp, fun h => absurd h (by simp)⟩ (B := w.heap.size) (Nat.le_trans HT.out.fr.size (below_size (by repeat (first | exact Below.refl _ _ | apply below_alloc | apply pw_below_drewN | apply below_drew1))))).mono ?_; rintro en w1 ⟨v1, rfl, hV, hb⟩; replace hV : CelAt _ _ nilR _ := hV; obtain ⟨n0A, n0c, hve⟩ := hV.slice; subst hve; replace HT := Aside0.mk (HT.out.below (below_step (by repeat (first | exact Below.refl _ _ | apply below_alloc | apply pw_below_drewN | apply below_drew1)) hb)); have HN := Aside0.mk hV; clear hb hV) | (go_at_call 41; have hI_ := HI; clear HI; refine (rd_take ⟨(HT.out.below (by repeat (first | exact Below.refl _ _ | apply below_alloc | apply pw_below_drewN | apply below_drew1))).st⟩ 5 (by decide) [93]).mono ?_; rw [hI_.out]; clear hI_; rw [if_neg (by decide)]; rintro en w1 ⟨rfl, hR⟩; replace HN := Aside0.mk (HN.out.step (by repeat (first | exact Below.refl _ _ | apply below_alloc | apply pw_below_drewN | apply below_drew1)) hR.fr); replace HT := Aside0.mk (HT.out.step (by repeat (first | exact Below.refl _ _ | apply below_alloc | apply pw_below_drewN | apply below_drew1)) hR); clear hR) | (go_at_call 60; refine (hC.row s _ _ HU.out ⟨(HT.out.below (by repeat (first | exact Below.refl _ _ | apply below_alloc | apply pw_below_drewN | apply below_drew1))).st, Nat.le_trans hB.out (Nat.le_trans HT.out.fr.size (below_size (by repeat (first | exact Below.refl _ _ | apply below_alloc | apply pw_below_drewN | apply below_drew1)))), HOK.out⟩).mono ?_; rintro en w1 ⟨v1, rfl, hV, hR⟩; obtain ⟨l0A, l0c, hve⟩ := hV.slice; subst hve; replace hV := hV.low (Nat.le_trans HT.out.fr.size (below_size (by repeat (first | exact Below.refl _ _ | apply below_alloc | apply pw_below_drewN | apply below_drew1)))); replace HN := Aside0.mk (HN.out.step (by repeat (first | exact Below.refl _ _ | apply below_alloc | apply pw_below_drewN | apply below_drew1)) hR.fr); replace HT := Aside0.mk (HT.out.step (by repeat (first | exact Below.refl _ _ | apply below_alloc | apply pw_below_drewN | apply below_drew1)) hR); clear hR; have HL := Aside0.mk hV; clear hV) | (go_at_call 41; have hI_ := HI2; clear HI2; refine (rd_take ⟨(HT.out.below (by repeat (first | exact Below.refl _ _ | apply below_alloc | apply pw_below_drewN | apply below_drew1))).st⟩ 5 (by decide) [124]).mono ?_; rw [hI_.out]; clear hI_; rw [if_pos rfl]; rintro en w1 ⟨rfl, hR⟩; replace HL := Aside0.mk (HL.out.step (by repeat (first | exact Below.refl _ _ | apply below_alloc | apply pw_below_drewN | apply below_drew1)) hR.fr); replace HN := Aside0.mk (HN.out.step (by repeat (first | exact Below.refl _ _ | apply below_alloc | apply pw_below_drewN | apply below_drew1)) hR.fr); replace HT := Aside0.mk (HT.out.step (by repeat (first | exact Below.refl _ _ | apply below_alloc | apply pw_below_drewN | apply below_drew1)) hR); clear hR) | (go_at_call 38; refine (hC.up 700 (l.2.1.tail, l.2.2) _ _ HU2.out ⟨(HT.out.below (by repeat (first | exact Below.refl _ _ | apply below_alloc | apply pw_below_drewN | apply below_drew1))).st, Nat.le_trans hB.out (Nat.le_trans HT.out.fr.size (below_size (by repeat (first | exact Below.refl _ _ | apply below_alloc | apply pw_below_drewN | apply below_drew1)))), HO2.out⟩).mono ?_; rintro en w1 ⟨rfl, hF⟩; have HF := Aside0.mk ((HT.out.below (by repeat (first | exact Below.refl _ _ | apply below_alloc | apply pw_below_drewN | apply below_drew1))).fr.trans hF); clear hF))
          exact ⟨rfl, rfl, HF.out⟩
      | false =>
        rw [hi2, if_neg (by decide)] at hq
        have HI2 := Lib.hid hi2
        rw [Res.bind_of (Res.ok_eq _)] at hq
        have HTL : Aside0 (nilR.length ≤ 100000) := ⟨by decide⟩
        clear hi2
        rcases Res.bind_some hq with ⟨s', hm, hq⟩ | ⟨y, hm, rfl⟩
        · have HM := Aside0.mk hm
          obtain rfl : Except.ok (listR l.1 nilR, s') = q := Option.some.inj hq
          clear hm hq
          go_enter Tryd.func62, Tryd.ntmps62
          go_wp2_with (first | (go_at_call 47; refine (rd_compound [91, 93] [] (by simp) rfl (Nat.zero_le _) ⟨rfl, by simp, fun h => absurd h (by simp)⟩ (B := w.heap.size) (Nat.le_trans HT.out.fr.size (below_size (by repeat (first | exact Below.refl _ _ | apply below_alloc | apply pw_below_drewN | apply below_drew1))))).mono ?_; rintro en w1 ⟨v1, rfl, hV, hb⟩; replace hV : CelAt _ _ nilR _ := hV; obtain ⟨n0A, n0c, hve⟩ := hV.slice; subst hve; replace HT := Aside0.mk (HT.out.below (below_step (by repeat (first | exact Below.refl _ _ | apply below_alloc | apply pw_below_drewN | apply below_drew1)) hb)); have HN := Aside0.mk hV; clear hb hV) | (go_at_call 41; have hI_ := HI; clear HI; refine (rd_take ⟨(HT.out.below (by repeat (first | exact Below.refl _ _ | apply below_alloc | apply pw_below_drewN | apply below_drew1))).st⟩ 5 (by decide) [93]).mono ?_; rw [hI_.out]; clear hI_; rw [if_neg (by decide)]; rintro en w1 ⟨rfl, hR⟩; replace HN := Aside0.mk (HN.out.step (by repeat (first | exact Below.refl _ _ | apply below_alloc | apply pw_below_drewN | apply below_drew1)) hR.fr); replace HT := Aside0.mk (HT.out.step (by repeat (first | exact Below.refl _ _ | apply below_alloc | apply pw_below_drewN | apply below_drew1)) hR); clear hR) | (go_at_call 60; refine (hC.row s _ _ HU.out ⟨(HT.out.below (by repeat (first | exact Below.refl _ _ | apply below_alloc | apply pw_below_drewN | apply below_drew1))).st, Nat.le_trans hB.out (Nat.le_trans HT.out.fr.size (below_size (by repeat (first | exact Below.refl _ _ | apply below_alloc | apply pw_below_drewN | apply below_drew1)))), HOK.out⟩).mono ?_; rintro en w1 ⟨v1, rfl, hV, hR⟩; obtain ⟨l0A, l0c, hve⟩ := hV.slice; subst hve; replace hV := hV.low (Nat.le_trans HT.out.fr.size (below_size (by repeat (first | exact Below.refl _ _ | apply below_alloc | apply pw_below_drewN | apply below_drew1)))); replace HN := Aside0.mk (HN.out.step (by repeat (first | exact Below.refl _ _ | apply below_alloc | apply pw_below_drewN | apply below_drew1)) hR.fr); replace HT := Aside0.mk (HT.out.step (by repeat (first | exact Below.refl _ _ | apply below_alloc | apply pw_below_drewN | apply below_drew1)) hR); clear hR; have HL := Aside0.mk hV; clear hV) | (go_at_call 41; have hI_ := HI2; clear HI2; refine (rd_take ⟨(HT.out.below (by repeat (first | exact Below.refl _ _ | apply below_alloc | apply pw_below_drewN | apply below_drew1))).st⟩ 5 (by decide) [124]).mono ?_; rw [hI_.out]; clear hI_; rw [if_neg (by decide)]; rintro en w1 ⟨rfl, hR⟩; replace HL := Aside0.mk (HL.out.step (by repeat (first | exact Below.refl _ _ | apply below_alloc | apply pw_below_drewN | apply below_drew1)) hR.fr); replace HN := Aside0.mk (HN.out.step (by repeat (first | exact Below.refl _ _ | apply below_alloc | apply pw_below_drewN | apply below_drew1)) hR.fr); replace HT := Aside0.mk (HT.out.step (by repeat (first | exact Below.refl _ _ | apply below_alloc | apply pw_below_drewN | apply below_drew1)) hR); clear hR) | (go_at_call 61; refine (rd_must ⟨(HT.out.below (by repeat (first | exact Below.refl _ _ | apply below_alloc | apply pw_below_drewN | apply below_drew1))).st⟩ [93] ⟨HM.out⟩).mono ?_; rintro en w1 ⟨rfl, hR⟩; replace HL := Aside0.mk (HL.out.step (by repeat (first | exact Below.refl _ _ | apply below_alloc | apply pw_below_drewN | apply below_drew1)) hR.fr); replace HN := Aside0.mk (HN.out.step (by repeat (first | exact Below.refl _ _ | apply below_alloc | apply pw_below_drewN | apply below_drew1)) hR.fr); replace HT := Aside0.mk (HT.out.step (by repeat (first | exact Below.refl _ _ | apply below_alloc | apply pw_below_drewN | apply below_drew1)) hR); clear hR))
          have HW1 : Aside0 (w.heap.size ≤ w1.heap.size) := ⟨HT.out.fr.size⟩
          go_loopg [22, 5, 7] (l.1.length + 1) (fun gk v22 v5 v7 wr => ∃ i : Nat, v22 = .int .i64 i ∧ i + gk = l.1.length + 1 ∧ i ≤ l.1.length ∧ Aside0 (CelAt w1.heap.size wr (outL l.1 i) v5) ∧ Aside0 (Below w1.heap.size w1 wr))
          case atStart => exact ⟨0, rfl, by omega, by omega, ⟨Kd.R_nil _ _ _ _ _⟩, ⟨Below.refl _ _⟩⟩
          case round =>
            obtain ⟨i, rfl, hig, hil, HO, HB⟩ := hrel
            cases gk with
            | zero => omega
            | succ gk =>
            by_cases hi : i < l.1.length
            · have hiI : decide ((i : Int) < (l.1.length : Int)) = true := decide_eq_true (by omega)
              have hiI2 : (i : Int) < (l.1.length : Int) := by omega
              have hst := outL_step l.1 i hi
              obtain ⟨ad, Ai, ci, hA, hx0, hli, hCi⟩ := HL.out.at_ hi
              subst hA
              obtain ⟨y, hy⟩ : ∃ y, y = l.1[i] := ⟨_, rfl⟩
              rw [← hy] at hx0 hli hCi hst
              have hyl : y.length ≤ l.1.flatten.length := by rw [hy]; exact (List.sublist_flatten_of_mem (List.getElem_mem hi)).length_le
              have hol : (outL l.1 i).length ≤ 100000 := by have := outL_len l.1 i; have := HLEN.out; omega
              have hyl2 : y.length ≤ 100000 := by have := HLEN.out; omega
              have hib : i ≤ 100000 := by have := HLEN.out; omega
              have HS := Lib.hid hst
              have HCI := Aside0.mk hCi
              replace hx0 := (HB.out.cell (World.block_lt_of_cell? w1 _ hx0)).trans hx0
              clear hst hCi hli hy hyl
              go_wp2_with (first | (at_builtin; refine Kd.R_append k41 (w0 := w1) w1.heap.size rfl (.tmp 26) (.tmp 28) 24 41 (.agg #[.int .i64 0, .string ⟨#[]⟩, .int .i64 0]) 32 rfl Tryd.underlying24 info41 rfl (by decide) (by omega) _ ((outL l.1 i).map celS) (celS ⟨3, [46], 2⟩) [.int .i64 3, .string ⟨#[46]⟩, .int .i64 2] (fun _ => True) (fun _ => False) rfl (by first | (go_simp; done) | (go_simp; rfl)) (k41_mkM _ _ _ _) (fun _ hk => hk.elim) (fun _ _ => trivial) HO.out HB.out HB.out.size (by rw [List.length_map]; omega) ?_; intro vA wA hoA hbA hgA haA; have HOA := Aside0.mk hoA; have HBA := Aside0.mk hbA; clear hoA hbA hgA haA) | ((with_reducible refine gate_builtin (b := .append) (xs := #[.tmp 30, .tmp 31]) rfl ?_); at_builtin; refine Kd.R_append_rows k41 (w0 := w1) w1.heap.size rfl (.tmp 30) (.tmp 31) 24 41 (.agg #[.int .i64 0, .string ⟨#[]⟩, .int .i64 0]) 32 rfl Tryd.underlying24 info41 rfl (by decide) (by omega) vA ((outL l.1 i).map celS ++ [celS ⟨3, [46], 2⟩]) (y.map celS) _ _ _ (fun _ => True) (fun _ => False) rfl rfl ?aO ?aR (fun _ _ h => h) (fun _ h => h.elim) ?aF ?aB ?aS ?aL ?_; (case aR => exact (Kd.C_below HCI.out HBA.out)); (case aB => exact HBA.out); (case aF => exact (fun _ _ => trivial)); (case aO => exact HOA.out); (case aS => exact HBA.out.size); (case aL => simp only [List.length_map, List.length_append, List.length_singleton]; omega); intro vB wX ho hb hg ha; have HOB := Aside0.mk ho; have HBB := Aside0.mk hb; clear ho hb hg ha))
              go_roundg gk
              case measure => omega
              case rel => exact ⟨i + 1, by first | rfl | (simp; done) | (rw [wrap_in (by omega) (by omega)]; rfl), by omega, by omega, ⟨by rw [CelAt, HS.out, List.map_append, List.map_append]; exact HOB.out⟩, HBB⟩
            · have hiI : decide ((i : Int) < (l.1.length : Int)) = false := decide_eq_false (by omega)
              obtain rfl : i = l.1.length := by omega
              have hol : (outL l.1 l.1.length).length ≤ 100000 := by have := outL_len l.1 l.1.length; have := HLEN.out; omega
              have htl : nilR.length ≤ 100000 := HTL.out
              have HTC := Aside0.mk (HN.out.reads).2
              go_wp2_with (first | ((with_reducible refine gate_builtin (b := .append) (xs := #[.tmp 34, .tmp 35]) rfl ?_); at_builtin; refine Kd.R_append_rows k41 (w0 := w1) w1.heap.size rfl (.tmp 34) (.tmp 35) 24 41 (.agg #[.int .i64 0, .string ⟨#[]⟩, .int .i64 0]) 32 rfl Tryd.underlying24 info41 rfl (by decide) (by omega) _ ((outL l.1 l.1.length).map celS) (nilR.map celS) _ _ _ (fun _ => True) (fun _ => False) rfl rfl ?aO ?aR (fun _ _ h => h) (fun _ h => h.elim) ?aF ?aB ?aS ?aL ?_; (case aR => exact (Kd.C_below HTC.out HB.out)); (case aB => exact HB.out); (case aF => exact (fun _ _ => trivial)); (case aO => exact HO.out); (case aS => exact HB.out.size); (case aL => simp only [List.length_map, List.length_append, List.length_singleton]; omega); intro vC wX ho hb hg ha; have HOC := Aside0.mk ho; have HBC := Aside0.mk hb; clear ho hb hg ha))
              go_ret
              refine ⟨_, rfl, ?_, ⟨HT.out.st.below (bel_all HBC.out), HT.out.fr.trans (Fr.of_below (bel_all HBC.out))⟩⟩
              have hoC := HOC.out
              rw [← List.map_append, outL_all] at hoC
              exact Kd.R_lower hoC HW1.out
        · have HM := Aside0.mk hm
          clear hm hq
          go_enter Tryd.func62, Tryd.ntmps62
          go_wp2_with (first | (go_at_call 47; refine (rd_compound [91, 93] [] (by simp) rfl (Nat.zero_le _) ⟨rfl, by simp, fun h => absurd h (by simp)⟩ (B := w.heap.size) (Nat.le_trans HT.out.fr.size (below_size (by repeat (first | exact Below.refl _ _ | apply below_alloc | apply pw_below_drewN | apply below_drew1))))).mono ?_; rintro en w1 ⟨v1, rfl, hV, hb⟩; replace hV : CelAt _ _ nilR _ := hV; obtain ⟨n0A, n0c, hve⟩ := hV.slice; subst hve; replace HT := Aside0.mk (HT.out.below (below_step (by repeat (first | exact Below.refl _ _ | apply below_alloc | apply pw_below_drewN | apply below_drew1)) hb)); have HN := Aside0.mk hV; clear hb hV) | (go_at_call 41; have hI_ := HI; clear HI; refine (rd_take ⟨(HT.out.below (by repeat (first | exact Below.refl _ _ | apply below_alloc | apply pw_below_drewN | apply below_drew1))).st⟩ 5 (by decide) [93]).mono ?_; rw [hI_.out]; clear hI_; rw [if_neg (by decide)]; rintro en w1 ⟨rfl, hR⟩; replace HN := Aside0.mk (HN.out.step (by repeat (first | exact Below.refl _ _ | apply below_alloc | apply pw_below_drewN | apply below_drew1)) hR.fr); replace HT := Aside0.mk (HT.out.step (by repeat (first | exact Below.refl _ _ | apply below_alloc | apply pw_below_drewN | apply below_drew1)) hR); clear hR) | (go_at_call 60; refine (hC.row s _ _ HU.out ⟨(HT.out.below (by repeat (first | exact Below.refl _ _ | apply below_alloc | apply pw_below_drewN | apply below_drew1))).st, Nat.le_trans hB.out (Nat.le_trans HT.out.fr.size (below_size (by repeat (first | exact Below.refl _ _ | apply below_alloc | apply pw_below_drewN | apply below_drew1)))), HOK.out⟩).mono ?_; rintro en w1 ⟨v1, rfl, hV, hR⟩; obtain ⟨l0A, l0c, hve⟩ := hV.slice; subst hve; replace hV := hV.low (Nat.le_trans HT.out.fr.size (below_size (by repeat (first | exact Below.refl _ _ | apply below_alloc | apply pw_below_drewN | apply below_drew1)))); replace HN := Aside0.mk (HN.out.step (by repeat (first | exact Below.refl _ _ | apply below_alloc | apply pw_below_drewN | apply below_drew1)) hR.fr); replace HT := Aside0.mk (HT.out.step (by repeat (first | exact Below.refl _ _ | apply below_alloc | apply pw_below_drewN | apply below_drew1)) hR); clear hR; have HL := Aside0.mk hV; clear hV) | (go_at_call 41; have hI_ := HI2; clear HI2; refine (rd_take ⟨(HT.out.below (by repeat (first | exact Below.refl _ _ | apply below_alloc | apply pw_below_drewN | apply below_drew1))).st⟩ 5 (by decide) [124]).mono ?_; rw [hI_.out]; clear hI_; rw [if_neg (by decide)]; rintro en w1 ⟨rfl, hR⟩; replace HL := Aside0.mk (HL.out.step (by repeat (first | exact Below.refl _ _ | apply below_alloc | apply pw_below_drewN | apply below_drew1)) hR.fr); replace HN := Aside0.mk (HN.out.step (by repeat (first | exact Below.refl _ _ | apply below_alloc | apply pw_below_drewN | apply below_drew1)) hR.fr); replace HT := Aside0.mk (HT.out.step (by repeat (first | exact Below.refl _ _ | apply below_alloc | apply pw_below_drewN | apply below_drew1)) hR); clear hR) | (go_at_call 61; refine (rd_must ⟨(HT.out.below (by repeat (first | exact Below.refl _ _ | apply below_alloc | apply pw_below_drewN | apply below_drew1))).st⟩ [93] ⟨HM.out⟩).mono ?_; rintro en w1 ⟨rfl, hF⟩; have HF := Aside0.mk ((HT.out.below (by repeat (first | exact Below.refl _ _ | apply below_alloc | apply pw_below_drewN | apply below_drew1))).fr.trans hF); clear hF))
          exact ⟨rfl, rfl, HF.out⟩
    · have HU := Aside0.mk hu
      clear hu hq
      go_enter Tryd.func62, Tryd.ntmps62
      go_wp2_with (first | (go_at_call 47; refine (rd_compound [91, 93] [] (by simp) rfl (Nat.zero_le _) ⟨rfl, by simp, fun h => absurd h (by simp)⟩ (B := w.heap.size) (Nat.le_trans HT.out.fr.size (below_size (by repeat (first | exact Below.refl _ _ | apply below_alloc | apply pw_below_drewN | apply below_drew1))))).mono ?_; rintro en w1 ⟨v1, rfl, hV, hb⟩; replace hV : CelAt _ _ nilR _ := hV; obtain ⟨n0A, n0c, hve⟩ := hV.slice; subst hve; replace HT := Aside0.mk (HT.out.below (below_step (by repeat (first | exact Below.refl _ _ | apply below_alloc | apply pw_below_drewN | apply below_drew1)) hb)); have HN := Aside0.mk hV; clear hb hV) | (go_at_call 41; have hI_ := HI; clear HI; refine (rd_take ⟨(HT.out.below (by repeat (first | exact Below.refl _ _ | apply below_alloc | apply pw_below_drewN | apply below_drew1))).st⟩ 5 (by decide) [93]).mono ?_; rw [hI_.out]; clear hI_; rw [if_neg (by decide)]; rintro en w1 ⟨rfl, hR⟩; replace HN := Aside0.mk (HN.out.step (by repeat (first | exact Below.refl _ _ | apply below_alloc | apply pw_below_drewN | apply below_drew1)) hR.fr); replace HT := Aside0.mk (HT.out.step (by repeat (first | exact Below.refl _ _ | apply below_alloc | apply pw_below_drewN | apply below_drew1)) hR); clear hR) | (go_at_call 60; refine (hC.row s _ _ HU.out ⟨(HT.out.below (by repeat (first | exact Below.refl _ _ | apply below_alloc | apply pw_below_drewN | apply below_drew1))).st, Nat.le_trans hB.out (Nat.le_trans HT.out.fr.size (below_size (by repeat (first | exact Below.refl _ _ | apply below_alloc | apply pw_below_drewN | apply below_drew1)))), HOK.out⟩).mono ?_; rintro en w1 ⟨rfl, hF⟩; have HF := Aside0.mk ((HT.out.below (by repeat (first | exact Below.refl _ _ | apply below_alloc | apply pw_below_drewN | apply below_drew1))).fr.trans hF); clear hF))
      exact ⟨rfl, rfl, HF.out⟩
end Go.Proofs.YthdccdbiichabaaDoor.P
/- A term's beginning: the contract of package read's reader.begin, where the lesser calls are as told. No condition. Printed by wip/gen/mkrdc.py. -/
namespace Go.Proofs.YthdccdbiichabaaDoor.P
open Go.RowKit Go.Proofs.YthdccdbiichabaaDoorW.PrintWords Go.Proofs.YthdccdbiichabaaDoorW.PrintLast Go.Proofs.YthdccdbiichabaaDoorW.PrintMore
set_option linter.unusedVariables false
set_option linter.unusedSimpArgs false

/-- A token in a variable of its own. -/
structure TokBlk (b : Nat) (t : Tok) (w : World) : Prop where
  blk : w.heap[b]? = some (.cells #[.int .i64 t.kind, .string (baS t.text), .int .i64 t.val, .int .i64 t.at'] 65 (0, 0))
theorem tok_new (t : Tok) (w : World) : TokBlk w.heap.size t (w.alloc (.cells #[.int .i64 t.kind, .string (baS t.text), .int .i64 t.val, .int .i64 t.at'] 65)) := ⟨heap_new _ _ _ rfl⟩
section
variable {b B : Nat} {t : Tok} {w w1 W W0 w' : World}
theorem TokBlk.below (h : TokBlk b t w) (hb : Below w.heap.size w w1) : TokBlk b t w1 := ⟨(hb.block b (blk_lt h.blk)).trans h.blk⟩
theorem TokBlk.step (h : TokBlk b t W0) (hb : Below W0.heap.size W0 W) (k : Fr 69 B W w') : TokBlk b t w' :=
  ⟨(k.block b (blk_lt (h.below hb).blk) (.inr (not_vol (h.below hb).blk (by decide) (by decide)))).trans (h.below hb).blk⟩
theorem TokBlk.c1 (h : TokBlk b t w) : w.cell? ⟨b, 1, none⟩ = some (.string (baS t.text)) := by have := blk_cell h.blk 1; simpa using this
theorem TokBlk.c2 (h : TokBlk b t w) : w.cell? ⟨b, 2, none⟩ = some (.int .i64 t.val) := by have := blk_cell h.blk 2; simpa using this
theorem TokBlk.c3 (h : TokBlk b t w) : w.cell? ⟨b, 3, none⟩ = some (.int .i64 t.at') := by have := blk_cell h.blk 3; simpa using this
theorem TokBlk.c0 (h : TokBlk b t w) : w.cell? ⟨b, 0, none⟩ = some (.int .i64 t.kind) := by have := blk_cell h.blk 0; simpa using this
theorem TokBlk.lt (h : TokBlk b t w) : b < w.heap.size := blk_lt h.blk
end
theorem lit_cel {b : Nat} {w : World} (c : Cel) (hB : b ≤ w.heap.size) : CelAt b (w.alloc (.cells #[.int .i64 c.kind, .string (baS c.name), .int .i64 c.n] 41)) [c] (.slice (some ⟨w.heap.size, 0, none⟩) 1 1) := by
  refine ⟨fun _ _ => trivial, [.int .i64 c.kind, .string (baS c.name), .int .i64 c.n], ?_, ?_⟩
  · exact World.ownsRow_lit (base := b) (e := 41) (size := 3) w #[.int .i64 c.kind, .string (baS c.name), .int .i64 c.n] 1 hB (by decide) (by simp)
  · refine ⟨rfl, fun j p hj => ?_⟩
    obtain rfl : j = 0 := by
      have := (List.getElem?_eq_some_iff.1 hj).1
      simpa using this
    obtain rfl : celS c = p := by simpa using hj
    exact k41_mkM _ _ _ _

set_option maxHeartbeats 40000000 in
set_option maxRecDepth 100000 in
theorem rd_begin {B g : Nat} {e : Int} {k : Nat} (hC : Con B g e k) (s : RS) (q : Except (Int × Int) (List Cel × Int × RS)) (w : World) (hq : beginR (k + 1) e s = some q) (hP : Pre B g e s w) :
    Calls Tryd.prog 46 #[.pointer (some ⟨g, 0, none⟩)] w (RdEndB B g e w q) := by
  rw [beginR] at hq
  have hB := Aside0.mk hP.base
  have HOK := Aside0.mk hP.ok
  have HT : Aside0 (RdTo B g e s w w) := ⟨⟨hP.st, Fr.refl _ _ _⟩⟩
  obtain ⟨l, ns⟩ := s
  cases l with
  | nil =>
    obtain rfl : Except.error (e, 51) = q := Option.some.inj hq
    obtain ⟨t, ht⟩ : ∃ t : Tok, t = ⟨0, [], 0, e⟩ := ⟨_, rfl⟩
    have HN : Hid (t = nxtR e []) := ht
    have b3 : (t.kind == 3) = false := by rw [ht]; rfl
    have b2 : (t.kind == 2) = false := by rw [ht]; rfl
    have b1 : (t.kind == 1) = false := by rw [ht]; rfl
    have HI : Hid (isT ([] : List Tok) 5 [40] = false) := Lib.hid rfl
    have HI2 : Hid (isT ([] : List Tok) 5 [91] = false) := Lib.hid rfl
    have HI3 : Hid (isT ([] : List Tok) 4 [45] = false) := Lib.hid rfl
    clear ht
    clear hq hP
    go_enter Tryd.func46, Tryd.ntmps46
    go_wp2_with (first | (go_at_call 28; have hN_ := HN; clear HN; refine (rd_next ⟨(HT.out.below (by repeat (first | exact Below.refl _ _ | apply below_alloc | apply pw_below_drewN | apply below_drew1))).st⟩).mono ?_; rw [← hN_.out, tokV]; clear hN_; rintro en w1 ⟨rfl, hb⟩; replace HT := Aside0.mk (HT.out.below (below_step (by repeat (first | exact Below.refl _ _ | apply below_alloc | apply pw_below_drewN | apply below_drew1)) hb)); clear hb) | (go_at_call 41; have hI_ := HI; clear HI; have HK := Aside0.mk (tok_new t w1); refine (rd_take ⟨(HT.out.below (by repeat (first | exact Below.refl _ _ | apply below_alloc | apply pw_below_drewN | apply below_drew1))).st⟩ 5 (by decide) [40]).mono ?_; rw [hI_.out]; clear hI_; rw [if_neg (by decide)]; rintro en w1 ⟨rfl, hR⟩; replace HK := Aside0.mk (HK.out.step (by repeat (first | exact Below.refl _ _ | apply below_alloc | apply pw_below_drewN | apply below_drew1)) hR.fr); replace HT := Aside0.mk (HT.out.step (by repeat (first | exact Below.refl _ _ | apply below_alloc | apply pw_below_drewN | apply below_drew1)) hR); clear hR; (try clear k1 k2 k3 kn0 kn1 kn2); have k1 := HK.out.c1; have k2 := HK.out.c2; have k3 := HK.out.c3; have kn0 := HK.out.lt; have kn1 : ¬ _ = _ := Nat.ne_of_lt kn0; have kn2 : ¬ _ = _ := Nat.ne_of_gt kn0) | (go_at_call 41; have hI_ := HI2; clear HI2; refine (rd_take ⟨(HT.out.below (by repeat (first | exact Below.refl _ _ | apply below_alloc | apply pw_below_drewN | apply below_drew1))).st⟩ 5 (by decide) [91]).mono ?_; rw [hI_.out]; clear hI_; rw [if_neg (by decide)]; rintro en w1 ⟨rfl, hR⟩; replace HK := Aside0.mk (HK.out.step (by repeat (first | exact Below.refl _ _ | apply below_alloc | apply pw_below_drewN | apply below_drew1)) hR.fr); replace HT := Aside0.mk (HT.out.step (by repeat (first | exact Below.refl _ _ | apply below_alloc | apply pw_below_drewN | apply below_drew1)) hR); clear hR; (try clear k1 k2 k3 kn0 kn1 kn2); have k1 := HK.out.c1; have k2 := HK.out.c2; have k3 := HK.out.c3; have kn0 := HK.out.lt; have kn1 : ¬ _ = _ := Nat.ne_of_lt kn0; have kn2 : ¬ _ = _ := Nat.ne_of_gt kn0) | (go_at_call 41; have hI_ := HI3; clear HI3; refine (rd_take ⟨(HT.out.below (by repeat (first | exact Below.refl _ _ | apply below_alloc | apply pw_below_drewN | apply below_drew1))).st⟩ 4 (by decide) [45]).mono ?_; rw [hI_.out]; clear hI_; rw [if_neg (by decide)]; rintro en w1 ⟨rfl, hR⟩; replace HK := Aside0.mk (HK.out.step (by repeat (first | exact Below.refl _ _ | apply below_alloc | apply pw_below_drewN | apply below_drew1)) hR.fr); replace HT := Aside0.mk (HT.out.step (by repeat (first | exact Below.refl _ _ | apply below_alloc | apply pw_below_drewN | apply below_drew1)) hR); clear hR; (try clear k1 k2 k3 kn0 kn1 kn2); have k1 := HK.out.c1; have k2 := HK.out.c2; have k3 := HK.out.c3; have kn0 := HK.out.lt; have kn1 : ¬ _ = _ := Nat.ne_of_lt kn0; have kn2 : ¬ _ = _ := Nat.ne_of_gt kn0) | (go_at_call 42; refine (rd_odd ⟨(HT.out.below (by repeat (first | exact Below.refl _ _ | apply below_alloc | apply pw_below_drewN | apply below_drew1))).st⟩).mono ?_; rintro en w1 ⟨rfl, hb⟩; have HF := Aside0.mk ((HT.out.below (below_step (by repeat (first | exact Below.refl _ _ | apply below_alloc | apply pw_below_drewN | apply below_drew1)) hb)).fr); clear hb))
    exact ⟨rfl, rfl, HF.out⟩
  | cons t r =>
    have HN : Hid (t = nxtR e (t :: r)) := Lib.hid rfl
    have HO1 := Aside0.mk HOK.out.tail
    have hns : ns.length ≤ 1000000 := by have := HOK.out.2; simp only at this; omega
    have htok := HOK.out.1 t List.mem_cons_self
    simp only at hq
    by_cases c3 : t.kind = 3
    · rw [if_pos c3] at hq
      obtain rfl : Except.ok ([⟨2, [], t.val⟩], 0, (r, ns)) = q := Option.some.inj hq
      have b3 : (t.kind == 3) = true := by simpa using c3
      clear c3 htok
      clear hq hP
      go_enter Tryd.func46, Tryd.ntmps46
      go_wp2_with (first | (go_at_call 28; have hN_ := HN; clear HN; refine (rd_next ⟨(HT.out.below (by repeat (first | exact Below.refl _ _ | apply below_alloc | apply pw_below_drewN | apply below_drew1))).st⟩).mono ?_; rw [← hN_.out, tokV]; clear hN_; rintro en w1 ⟨rfl, hb⟩; replace HT := Aside0.mk (HT.out.below (below_step (by repeat (first | exact Below.refl _ _ | apply below_alloc | apply pw_below_drewN | apply below_drew1)) hb)); clear hb) | (go_at_call 29; have HK := Aside0.mk (tok_new t w1); refine (rd_pass ⟨(HT.out.below (by repeat (first | exact Below.refl _ _ | apply below_alloc | apply pw_below_drewN | apply below_drew1))).st⟩).mono ?_; rintro en w1 ⟨rfl, hR⟩; replace HK := Aside0.mk (HK.out.step (by repeat (first | exact Below.refl _ _ | apply below_alloc | apply pw_below_drewN | apply below_drew1)) hR.fr); replace HT := Aside0.mk (HT.out.step (by repeat (first | exact Below.refl _ _ | apply below_alloc | apply pw_below_drewN | apply below_drew1)) hR); clear hR; (try clear k1 k2 k3 kn0 kn1 kn2); have k1 := HK.out.c1; have k2 := HK.out.c2; have k3 := HK.out.c3; have kn0 := HK.out.lt; have kn1 : ¬ _ = _ := Nat.ne_of_lt kn0; have kn2 : ¬ _ = _ := Nat.ne_of_gt kn0))
      go_ret2
      exact ⟨_, rfl, lit_cel (b := w.heap.size) ⟨2, [], t.val⟩ (Nat.le_trans HT.out.fr.size (below_size (by repeat (first | exact Below.refl _ _ | apply below_alloc | apply pw_below_drewN | apply below_drew1)))), HT.out.below (by repeat (first | exact Below.refl _ _ | apply below_alloc | apply pw_below_drewN | apply below_drew1))⟩
    rw [if_neg c3] at hq
    have b3 : (t.kind == 3) = false := by simpa using c3
    by_cases c2 : t.kind = 2
    · rw [if_pos c2] at hq
      obtain rfl : Except.ok ([⟨1, [], (varR ns t.text).1⟩], 0, (r, (varR ns t.text).2)) = q := Option.some.inj hq
      have b2 : (t.kind == 2) = true := by simpa using c2
      clear c2 c3 htok
      clear hq hP
      go_enter Tryd.func46, Tryd.ntmps46
      go_wp2_with (first | (go_at_call 28; have hN_ := HN; clear HN; refine (rd_next ⟨(HT.out.below (by repeat (first | exact Below.refl _ _ | apply below_alloc | apply pw_below_drewN | apply below_drew1))).st⟩).mono ?_; rw [← hN_.out, tokV]; clear hN_; rintro en w1 ⟨rfl, hb⟩; replace HT := Aside0.mk (HT.out.below (below_step (by repeat (first | exact Below.refl _ _ | apply below_alloc | apply pw_below_drewN | apply below_drew1)) hb)); clear hb) | (go_at_call 29; have HK := Aside0.mk (tok_new t w1); refine (rd_pass ⟨(HT.out.below (by repeat (first | exact Below.refl _ _ | apply below_alloc | apply pw_below_drewN | apply below_drew1))).st⟩).mono ?_; rintro en w1 ⟨rfl, hR⟩; replace HK := Aside0.mk (HK.out.step (by repeat (first | exact Below.refl _ _ | apply below_alloc | apply pw_below_drewN | apply below_drew1)) hR.fr); replace HT := Aside0.mk (HT.out.step (by repeat (first | exact Below.refl _ _ | apply below_alloc | apply pw_below_drewN | apply below_drew1)) hR); clear hR; (try clear k1 k2 k3 kn0 kn1 kn2); have k1 := HK.out.c1; have k2 := HK.out.c2; have k3 := HK.out.c3; have kn0 := HK.out.lt; have kn1 : ¬ _ = _ := Nat.ne_of_lt kn0; have kn2 : ¬ _ = _ := Nat.ne_of_gt kn0) | (go_at_call 59; refine (rd_variable ⟨(HT.out.below (by repeat (first | exact Below.refl _ _ | apply below_alloc | apply pw_below_drewN | apply below_drew1))).st⟩ ⟨Nat.le_trans hB.out (Nat.le_trans HT.out.fr.size (below_size (by repeat (first | exact Below.refl _ _ | apply below_alloc | apply pw_below_drewN | apply below_drew1))))⟩ hns t.text).mono ?_; rintro en w1 ⟨rfl, hR⟩; replace HK := Aside0.mk (HK.out.step (by repeat (first | exact Below.refl _ _ | apply below_alloc | apply pw_below_drewN | apply below_drew1)) hR.fr); replace HT := Aside0.mk (HT.out.step (by repeat (first | exact Below.refl _ _ | apply below_alloc | apply pw_below_drewN | apply below_drew1)) hR); clear hR; (try clear k1 k2 k3 kn0 kn1 kn2); have k1 := HK.out.c1; have k2 := HK.out.c2; have k3 := HK.out.c3; have kn0 := HK.out.lt; have kn1 : ¬ _ = _ := Nat.ne_of_lt kn0; have kn2 : ¬ _ = _ := Nat.ne_of_gt kn0))
      go_ret2
      exact ⟨_, rfl, lit_cel (b := w.heap.size) ⟨1, [], (varR ns t.text).1⟩ (Nat.le_trans HT.out.fr.size (below_size (by repeat (first | exact Below.refl _ _ | apply below_alloc | apply pw_below_drewN | apply below_drew1)))), HT.out.below (by repeat (first | exact Below.refl _ _ | apply below_alloc | apply pw_below_drewN | apply below_drew1))⟩
    rw [if_neg c2] at hq
    have b2 : (t.kind == 2) = false := by simpa using c2
    by_cases c1 : t.kind = 1
    · rw [if_pos c1] at hq
      have b1 : (t.kind == 1) = true := by simpa using c1
      cases hi : isT r 5 [40] with
      | true =>
        rw [hi, if_pos rfl] at hq
        have HI := Lib.hid hi
        have HO2 : Aside0 (Ok (r.tail, ns)) := ⟨⟨fun t ht => HO1.out.1 t (List.mem_of_mem_tail ht), by have := HO1.out.2; simp only [List.length_tail] at this ⊢; omega⟩⟩
        clear c1 c2 c3 hi htok
        rcases Res.bind_some hq with ⟨l, hu, hq⟩ | ⟨x, hu, rfl⟩
        · have HU := Aside0.mk hu
          have HLEN : Aside0 (l.1.flatten.length + l.1.length ≤ 80001) := ⟨by have := ((passed5 e k).2.2.2.1 _ _ _ hu).len HO2.out; simpa using this⟩
          clear hu
          rcases Res.bind_some hq with ⟨s', hm, hq⟩ | ⟨y, hm, rfl⟩
          · have HM := Aside0.mk hm
            obtain rfl : Except.ok (funR t.text l.1, 0, s') = q := Option.some.inj hq
            clear hm
            clear hq hP
            go_enter Tryd.func46, Tryd.ntmps46
            go_wp2_with (first | (go_at_call 28; have hN_ := HN; clear HN; refine (rd_next ⟨(HT.out.below (by repeat (first | exact Below.refl _ _ | apply below_alloc | apply pw_below_drewN | apply below_drew1))).st⟩).mono ?_; rw [← hN_.out, tokV]; clear hN_; rintro en w1 ⟨rfl, hb⟩; replace HT := Aside0.mk (HT.out.below (below_step (by repeat (first | exact Below.refl _ _ | apply below_alloc | apply pw_below_drewN | apply below_drew1)) hb)); clear hb) | (go_at_call 29; have HK := Aside0.mk (tok_new t w1); refine (rd_pass ⟨(HT.out.below (by repeat (first | exact Below.refl _ _ | apply below_alloc | apply pw_below_drewN | apply below_drew1))).st⟩).mono ?_; rintro en w1 ⟨rfl, hR⟩; replace HK := Aside0.mk (HK.out.step (by repeat (first | exact Below.refl _ _ | apply below_alloc | apply pw_below_drewN | apply below_drew1)) hR.fr); replace HT := Aside0.mk (HT.out.step (by repeat (first | exact Below.refl _ _ | apply below_alloc | apply pw_below_drewN | apply below_drew1)) hR); clear hR; (try clear k1 k2 k3 kn0 kn1 kn2); have k1 := HK.out.c1; have k2 := HK.out.c2; have k3 := HK.out.c3; have kn0 := HK.out.lt; have kn1 : ¬ _ = _ := Nat.ne_of_lt kn0; have kn2 : ¬ _ = _ := Nat.ne_of_gt kn0) | (go_at_call 41; have hI_ := HI; clear HI; refine (rd_take ⟨(HT.out.below (by repeat (first | exact Below.refl _ _ | apply below_alloc | apply pw_below_drewN | apply below_drew1))).st⟩ 5 (by decide) [40]).mono ?_; rw [hI_.out]; clear hI_; rw [if_pos rfl]; rintro en w1 ⟨rfl, hR⟩; replace HK := Aside0.mk (HK.out.step (by repeat (first | exact Below.refl _ _ | apply below_alloc | apply pw_below_drewN | apply below_drew1)) hR.fr); replace HT := Aside0.mk (HT.out.step (by repeat (first | exact Below.refl _ _ | apply below_alloc | apply pw_below_drewN | apply below_drew1)) hR); clear hR; (try clear k1 k2 k3 kn0 kn1 kn2); have k1 := HK.out.c1; have k2 := HK.out.c2; have k3 := HK.out.c3; have kn0 := HK.out.lt; have kn1 : ¬ _ = _ := Nat.ne_of_lt kn0; have kn2 : ¬ _ = _ := Nat.ne_of_gt kn0) | (go_at_call 60; refine (hC.row (r.tail, ns) _ _ HU.out ⟨(HT.out.below (by repeat (first | exact Below.refl _ _ | apply below_alloc | apply pw_below_drewN | apply below_drew1))).st, Nat.le_trans hB.out (Nat.le_trans HT.out.fr.size (below_size (by repeat (first | exact Below.refl _ _ | apply below_alloc | apply pw_below_drewN | apply below_drew1)))), HO2.out⟩).mono ?_; rintro en w1 ⟨v1, rfl, hV, hR⟩; obtain ⟨l0A, l0c, hve⟩ := hV.slice; subst hve; replace hV := hV.low (Nat.le_trans HT.out.fr.size (below_size (by repeat (first | exact Below.refl _ _ | apply below_alloc | apply pw_below_drewN | apply below_drew1)))); replace HK := Aside0.mk (HK.out.step (by repeat (first | exact Below.refl _ _ | apply below_alloc | apply pw_below_drewN | apply below_drew1)) hR.fr); replace HT := Aside0.mk (HT.out.step (by repeat (first | exact Below.refl _ _ | apply below_alloc | apply pw_below_drewN | apply below_drew1)) hR); clear hR; (try clear k1 k2 k3 kn0 kn1 kn2); have k1 := HK.out.c1; have k2 := HK.out.c2; have k3 := HK.out.c3; have kn0 := HK.out.lt; have kn1 : ¬ _ = _ := Nat.ne_of_lt kn0; have kn2 : ¬ _ = _ := Nat.ne_of_gt kn0; have HL := Aside0.mk hV; clear hV) | (go_at_call 61; refine (rd_must ⟨(HT.out.below (by repeat (first | exact Below.refl _ _ | apply below_alloc | apply pw_below_drewN | apply below_drew1))).st⟩ [41] ⟨HM.out⟩).mono ?_; rintro en w1 ⟨rfl, hR⟩; replace HK := Aside0.mk (HK.out.step (by repeat (first | exact Below.refl _ _ | apply below_alloc | apply pw_below_drewN | apply below_drew1)) hR.fr); replace HL := Aside0.mk (HL.out.step (by repeat (first | exact Below.refl _ _ | apply below_alloc | apply pw_below_drewN | apply below_drew1)) hR.fr); replace HT := Aside0.mk (HT.out.step (by repeat (first | exact Below.refl _ _ | apply below_alloc | apply pw_below_drewN | apply below_drew1)) hR); clear hR; (try clear k1 k2 k3 kn0 kn1 kn2); have k1 := HK.out.c1; have k2 := HK.out.c2; have k3 := HK.out.c3; have kn0 := HK.out.lt; have kn1 : ¬ _ = _ := Nat.ne_of_lt kn0; have kn2 : ¬ _ = _ := Nat.ne_of_gt kn0) | (go_at_call 47; refine (rd_compound t.text l.1 (by have := HLEN.out; omega) rfl (HL.out.below (by repeat (first | exact Below.refl _ _ | apply below_alloc | apply pw_below_drewN | apply below_drew1))).reads.1 (HL.out.below (by repeat (first | exact Below.refl _ _ | apply below_alloc | apply pw_below_drewN | apply below_drew1))).reads.2 (B := w.heap.size) (Nat.le_trans HT.out.fr.size (below_size (by repeat (first | exact Below.refl _ _ | apply below_alloc | apply pw_below_drewN | apply below_drew1))))).mono ?_; rintro en w1 ⟨v1, rfl, hV, hb⟩; obtain ⟨c0A, c0c, hve⟩ := hV.slice; subst hve; replace HT := Aside0.mk (HT.out.below (below_step (by repeat (first | exact Below.refl _ _ | apply below_alloc | apply pw_below_drewN | apply below_drew1)) hb)); have HV := Aside0.mk hV; clear hb hV))
            go_ret2
            exact ⟨_, rfl, HV.out, HT.out⟩
          · have HM := Aside0.mk hm
            clear hm
            clear hq hP
            go_enter Tryd.func46, Tryd.ntmps46
            go_wp2_with (first | (go_at_call 28; have hN_ := HN; clear HN; refine (rd_next ⟨(HT.out.below (by repeat (first | exact Below.refl _ _ | apply below_alloc | apply pw_below_drewN | apply below_drew1))).st⟩).mono ?_; rw [← hN_.out, tokV]; clear hN_; rintro en w1 ⟨rfl, hb⟩; replace HT := Aside0.mk (HT.out.below (below_step (by repeat (first | exact Below.refl _ _ | apply below_alloc | apply pw_below_drewN | apply below_drew1)) hb)); clear hb) | (go_at_call 29; have HK := Aside0.mk (tok_new t w1); refine (rd_pass ⟨(HT.out.below (by repeat (first | exact Below.refl _ _ | apply below_alloc | apply pw_below_drewN | apply below_drew1))).st⟩).mono ?_; rintro en w1 ⟨rfl, hR⟩; replace HK := Aside0.mk (HK.out.step (by repeat (first | exact Below.refl _ _ | apply below_alloc | apply pw_below_drewN | apply below_drew1)) hR.fr); replace HT := Aside0.mk (HT.out.step (by repeat (first | exact Below.refl _ _ | apply below_alloc | apply pw_below_drewN | apply below_drew1)) hR); clear hR; (try clear k1 k2 k3 kn0 kn1 kn2); have k1 := HK.out.c1; have k2 := HK.out.c2; have k3 := HK.out.c3; have kn0 := HK.out.lt; have kn1 : ¬ _ = _ := Nat.ne_of_lt kn0; have kn2 : ¬ _ = _ := Nat.ne_of_gt kn0) | (go_at_call 41; have hI_ := HI; clear HI; refine (rd_take ⟨(HT.out.below (by repeat (first | exact Below.refl _ _ | apply below_alloc | apply pw_below_drewN | apply below_drew1))).st⟩ 5 (by decide) [40]).mono ?_; rw [hI_.out]; clear hI_; rw [if_pos rfl]; rintro en w1 ⟨rfl, hR⟩; replace HK := Aside0.mk (HK.out.step (by repeat (first | exact Below.refl _ _ | apply below_alloc | apply pw_below_drewN | apply below_drew1)) hR.fr); replace HT := Aside0.mk (HT.out.step (by repeat (first | exact Below.refl _ _ | apply below_alloc | apply pw_below_drewN | apply below_drew1)) hR); clear hR; (try clear k1 k2 k3 kn0 kn1 kn2); have k1 := HK.out.c1; have k2 := HK.out.c2; have k3 := HK.out.c3; have kn0 := HK.out.lt; have kn1 : ¬ _ = _ := Nat.ne_of_lt kn0; have kn2 : ¬ _ = _ := Nat.ne_of_gt kn0) | (go_at_call 60; refine (hC.row (r.tail, ns) _ _ HU.out ⟨(HT.out.below (by repeat (first | exact Below.refl _ _ | apply below_alloc | apply pw_below_drewN | apply below_drew1))).st, Nat.le_trans hB.out (Nat.le_trans HT.out.fr.size (below_size (by repeat (first | exact Below.refl _ _ | apply below_alloc | apply pw_below_drewN | apply below_drew1)))), HO2.out⟩).mono ?_; rintro en w1 ⟨v1, rfl, hV, hR⟩; obtain ⟨l0A, l0c, hve⟩ := hV.slice; subst hve; replace hV := hV.low (Nat.le_trans HT.out.fr.size (below_size (by repeat (first | exact Below.refl _ _ | apply below_alloc | apply pw_below_drewN | apply below_drew1)))); replace HK := Aside0.mk (HK.out.step (by repeat (first | exact Below.refl _ _ | apply below_alloc | apply pw_below_drewN | apply below_drew1)) hR.fr); replace HT := Aside0.mk (HT.out.step (by repeat (first | exact Below.refl _ _ | apply below_alloc | apply pw_below_drewN | apply below_drew1)) hR); clear hR; (try clear k1 k2 k3 kn0 kn1 kn2); have k1 := HK.out.c1; have k2 := HK.out.c2; have k3 := HK.out.c3; have kn0 := HK.out.lt; have kn1 : ¬ _ = _ := Nat.ne_of_lt kn0; have kn2 : ¬ _ = _ := Nat.ne_of_gt kn0; have HL := Aside0.mk hV; clear hV) | (go_at_call 61; refine (rd_must ⟨(HT.out.below (by repeat (first | exact Below.refl _ _ | apply below_alloc | apply pw_below_drewN | apply below_drew1))).st⟩ [41] ⟨HM.out⟩).mono ?_; rintro en w1 ⟨rfl, hF⟩; have HF := Aside0.mk ((HT.out.below (by repeat (first | exact Below.refl _ _ | apply below_alloc | apply pw_below_drewN | apply below_drew1))).fr.trans hF); clear hF))
            exact ⟨rfl, rfl, HF.out⟩
        · have HU := Aside0.mk hu
          clear hu
          clear hq hP
          go_enter Tryd.func46, Tryd.ntmps46
          go_wp2_with (first | (go_at_call 28; have hN_ := HN; clear HN; refine (rd_next ⟨(HT.out.below (by repeat (first | exact Below.refl _ _ | apply below_alloc | apply pw_below_drewN | apply below_drew1))).st⟩).mono ?_; rw [← hN_.out, tokV]; clear hN_; rintro en w1 ⟨rfl, hb⟩; replace HT := Aside0.mk (HT.out.below (below_step (by repeat (first | exact Below.refl _ _ | apply below_alloc | apply pw_below_drewN | apply below_drew1)) hb)); clear hb) | (go_at_call 29; have HK := Aside0.mk (tok_new t w1); refine (rd_pass ⟨(HT.out.below (by repeat (first | exact Below.refl _ _ | apply below_alloc | apply pw_below_drewN | apply below_drew1))).st⟩).mono ?_; rintro en w1 ⟨rfl, hR⟩; replace HK := Aside0.mk (HK.out.step (by repeat (first | exact Below.refl _ _ | apply below_alloc | apply pw_below_drewN | apply below_drew1)) hR.fr); replace HT := Aside0.mk (HT.out.step (by repeat (first | exact Below.refl _ _ | apply below_alloc | apply pw_below_drewN | apply below_drew1)) hR); clear hR; (try clear k1 k2 k3 kn0 kn1 kn2); have k1 := HK.out.c1; have k2 := HK.out.c2; have k3 := HK.out.c3; have kn0 := HK.out.lt; have kn1 : ¬ _ = _ := Nat.ne_of_lt kn0; have kn2 : ¬ _ = _ := Nat.ne_of_gt kn0) | (go_at_call 41; have hI_ := HI; clear HI; refine (rd_take ⟨(HT.out.below (by repeat (first | exact Below.refl _ _ | apply below_alloc | apply pw_below_drewN | apply below_drew1))).st⟩ 5 (by decide) [40]).mono ?_; rw [hI_.out]; clear hI_; rw [if_pos rfl]; rintro en w1 ⟨rfl, hR⟩; replace HK := Aside0.mk (HK.out.step (by repeat (first | exact Below.refl _ _ | apply below_alloc | apply pw_below_drewN | apply below_drew1)) hR.fr); replace HT := Aside0.mk (HT.out.step (by repeat (first | exact Below.refl _ _ | apply below_alloc | apply pw_below_drewN | apply below_drew1)) hR); clear hR; (try clear k1 k2 k3 kn0 kn1 kn2); have k1 := HK.out.c1; have k2 := HK.out.c2; have k3 := HK.out.c3; have kn0 := HK.out.lt; have kn1 : ¬ _ = _ := Nat.ne_of_lt kn0; have kn2 : ¬ _ = _ := Nat.ne_of_gt kn0) | (go_at_call 60; refine (hC.row (r.tail, ns) _ _ HU.out ⟨(HT.out.below (by repeat (first | exact Below.refl _ _ | apply below_alloc | apply pw_below_drewN | apply below_drew1))).st, Nat.le_trans hB.out (Nat.le_trans HT.out.fr.size (below_size (by repeat (first | exact Below.refl _ _ | apply below_alloc | apply pw_below_drewN | apply below_drew1)))), HO2.out⟩).mono ?_; rintro en w1 ⟨rfl, hF⟩; have HF := Aside0.mk ((HT.out.below (by repeat (first | exact Below.refl _ _ | apply below_alloc | apply pw_below_drewN | apply below_drew1))).fr.trans hF); clear hF))
          exact ⟨rfl, rfl, HF.out⟩
      | false =>
        rw [hi, if_neg (by decide)] at hq
        have HI := Lib.hid hi
        obtain rfl : Except.ok (funR t.text [], 0, (r, ns)) = q := Option.some.inj hq
        clear c1 c2 c3 hi htok
        clear hq hP
        go_enter Tryd.func46, Tryd.ntmps46
        go_wp2_with (first | (go_at_call 28; have hN_ := HN; clear HN; refine (rd_next ⟨(HT.out.below (by repeat (first | exact Below.refl _ _ | apply below_alloc | apply pw_below_drewN | apply below_drew1))).st⟩).mono ?_; rw [← hN_.out, tokV]; clear hN_; rintro en w1 ⟨rfl, hb⟩; replace HT := Aside0.mk (HT.out.below (below_step (by repeat (first | exact Below.refl _ _ | apply below_alloc | apply pw_below_drewN | apply below_drew1)) hb)); clear hb) | (go_at_call 29; have HK := Aside0.mk (tok_new t w1); refine (rd_pass ⟨(HT.out.below (by repeat (first | exact Below.refl _ _ | apply below_alloc | apply pw_below_drewN | apply below_drew1))).st⟩).mono ?_; rintro en w1 ⟨rfl, hR⟩; replace HK := Aside0.mk (HK.out.step (by repeat (first | exact Below.refl _ _ | apply below_alloc | apply pw_below_drewN | apply below_drew1)) hR.fr); replace HT := Aside0.mk (HT.out.step (by repeat (first | exact Below.refl _ _ | apply below_alloc | apply pw_below_drewN | apply below_drew1)) hR); clear hR; (try clear k1 k2 k3 kn0 kn1 kn2); have k1 := HK.out.c1; have k2 := HK.out.c2; have k3 := HK.out.c3; have kn0 := HK.out.lt; have kn1 : ¬ _ = _ := Nat.ne_of_lt kn0; have kn2 : ¬ _ = _ := Nat.ne_of_gt kn0) | (go_at_call 41; have hI_ := HI; clear HI; refine (rd_take ⟨(HT.out.below (by repeat (first | exact Below.refl _ _ | apply below_alloc | apply pw_below_drewN | apply below_drew1))).st⟩ 5 (by decide) [40]).mono ?_; rw [hI_.out]; clear hI_; rw [if_neg (by decide)]; rintro en w1 ⟨rfl, hR⟩; replace HK := Aside0.mk (HK.out.step (by repeat (first | exact Below.refl _ _ | apply below_alloc | apply pw_below_drewN | apply below_drew1)) hR.fr); replace HT := Aside0.mk (HT.out.step (by repeat (first | exact Below.refl _ _ | apply below_alloc | apply pw_below_drewN | apply below_drew1)) hR); clear hR; (try clear k1 k2 k3 kn0 kn1 kn2); have k1 := HK.out.c1; have k2 := HK.out.c2; have k3 := HK.out.c3; have kn0 := HK.out.lt; have kn1 : ¬ _ = _ := Nat.ne_of_lt kn0; have kn2 : ¬ _ = _ := Nat.ne_of_gt kn0) | (go_at_call 47; refine (rd_compound t.text [] (by simp) rfl (Nat.zero_le _) ⟨rfl, by simp, fun h => absurd h (by simp)⟩ (B := w.heap.size) (Nat.le_trans HT.out.fr.size (below_size (by repeat (first | exact Below.refl _ _ | apply below_alloc | apply pw_below_drewN | apply below_drew1))))).mono ?_; rintro en w1 ⟨v1, rfl, hV, hb⟩; obtain ⟨c0A, c0c, hve⟩ := hV.slice; subst hve; replace HT := Aside0.mk (HT.out.below (below_step (by repeat (first | exact Below.refl _ _ | apply below_alloc | apply pw_below_drewN | apply below_drew1)) hb)); have HV := Aside0.mk hV; clear hb hV))
        go_ret2
        exact ⟨_, rfl, HV.out, HT.out⟩
    rw [if_neg c1] at hq
    have b1 : (t.kind == 1) = false := by simpa using c1
    by_cases c40 : t.kind = 5 ∧ t.text = [40]
    · rw [if_pos c40] at hq
      have HI : Hid (isT (t :: r) 5 [40] = true) := Lib.hid (by rw [isT_cons, c40.1, c40.2]; rfl)
      clear c1 c2 c3 c40 htok
      rcases Res.bind_some hq with ⟨x, hu, hq⟩ | ⟨x, hu, rfl⟩
      · have HU := Aside0.mk hu
        clear hu
        rcases Res.bind_some hq with ⟨s', hm, hq⟩ | ⟨y, hm, rfl⟩
        · have HM := Aside0.mk hm
          obtain rfl : Except.ok (x.1, 0, s') = q := Option.some.inj hq
          clear hm
          clear hq hP
          go_enter Tryd.func46, Tryd.ntmps46
          go_wp2_with (first | (go_at_call 28; have hN_ := HN; clear HN; refine (rd_next ⟨(HT.out.below (by repeat (first | exact Below.refl _ _ | apply below_alloc | apply pw_below_drewN | apply below_drew1))).st⟩).mono ?_; rw [← hN_.out, tokV]; clear hN_; rintro en w1 ⟨rfl, hb⟩; replace HT := Aside0.mk (HT.out.below (below_step (by repeat (first | exact Below.refl _ _ | apply below_alloc | apply pw_below_drewN | apply below_drew1)) hb)); clear hb) | (go_at_call 41; have hI_ := HI; clear HI; have HK := Aside0.mk (tok_new t w1); refine (rd_take ⟨(HT.out.below (by repeat (first | exact Below.refl _ _ | apply below_alloc | apply pw_below_drewN | apply below_drew1))).st⟩ 5 (by decide) [40]).mono ?_; rw [hI_.out]; clear hI_; rw [if_pos rfl]; rintro en w1 ⟨rfl, hR⟩; replace HK := Aside0.mk (HK.out.step (by repeat (first | exact Below.refl _ _ | apply below_alloc | apply pw_below_drewN | apply below_drew1)) hR.fr); replace HT := Aside0.mk (HT.out.step (by repeat (first | exact Below.refl _ _ | apply below_alloc | apply pw_below_drewN | apply below_drew1)) hR); clear hR; (try clear k1 k2 k3 kn0 kn1 kn2); have k1 := HK.out.c1; have k2 := HK.out.c2; have k3 := HK.out.c3; have kn0 := HK.out.lt; have kn1 : ¬ _ = _ := Nat.ne_of_lt kn0; have kn2 : ¬ _ = _ := Nat.ne_of_gt kn0) | (go_at_call 38; refine (hC.up 700 (r, ns) _ _ HU.out ⟨(HT.out.below (by repeat (first | exact Below.refl _ _ | apply below_alloc | apply pw_below_drewN | apply below_drew1))).st, Nat.le_trans hB.out (Nat.le_trans HT.out.fr.size (below_size (by repeat (first | exact Below.refl _ _ | apply below_alloc | apply pw_below_drewN | apply below_drew1)))), HO1.out⟩).mono ?_; rintro en w1 ⟨v1, rfl, hV, hR⟩; obtain ⟨t0A, t0c, hve⟩ := hV.slice; subst hve; replace hV := hV.low (Nat.le_trans HT.out.fr.size (below_size (by repeat (first | exact Below.refl _ _ | apply below_alloc | apply pw_below_drewN | apply below_drew1)))); replace HK := Aside0.mk (HK.out.step (by repeat (first | exact Below.refl _ _ | apply below_alloc | apply pw_below_drewN | apply below_drew1)) hR.fr); replace HT := Aside0.mk (HT.out.step (by repeat (first | exact Below.refl _ _ | apply below_alloc | apply pw_below_drewN | apply below_drew1)) hR); clear hR; (try clear k1 k2 k3 kn0 kn1 kn2); have k1 := HK.out.c1; have k2 := HK.out.c2; have k3 := HK.out.c3; have kn0 := HK.out.lt; have kn1 : ¬ _ = _ := Nat.ne_of_lt kn0; have kn2 : ¬ _ = _ := Nat.ne_of_gt kn0; have HX := Aside0.mk hV; clear hV) | (go_at_call 61; refine (rd_must ⟨(HT.out.below (by repeat (first | exact Below.refl _ _ | apply below_alloc | apply pw_below_drewN | apply below_drew1))).st⟩ [41] ⟨HM.out⟩).mono ?_; rintro en w1 ⟨rfl, hR⟩; replace HK := Aside0.mk (HK.out.step (by repeat (first | exact Below.refl _ _ | apply below_alloc | apply pw_below_drewN | apply below_drew1)) hR.fr); replace HX := Aside0.mk (HX.out.step (by repeat (first | exact Below.refl _ _ | apply below_alloc | apply pw_below_drewN | apply below_drew1)) hR.fr); replace HT := Aside0.mk (HT.out.step (by repeat (first | exact Below.refl _ _ | apply below_alloc | apply pw_below_drewN | apply below_drew1)) hR); clear hR; (try clear k1 k2 k3 kn0 kn1 kn2); have k1 := HK.out.c1; have k2 := HK.out.c2; have k3 := HK.out.c3; have kn0 := HK.out.lt; have kn1 : ¬ _ = _ := Nat.ne_of_lt kn0; have kn2 : ¬ _ = _ := Nat.ne_of_gt kn0))
          go_ret2
          exact ⟨_, rfl, HX.out, HT.out⟩
        · have HM := Aside0.mk hm
          clear hm
          clear hq hP
          go_enter Tryd.func46, Tryd.ntmps46
          go_wp2_with (first | (go_at_call 28; have hN_ := HN; clear HN; refine (rd_next ⟨(HT.out.below (by repeat (first | exact Below.refl _ _ | apply below_alloc | apply pw_below_drewN | apply below_drew1))).st⟩).mono ?_; rw [← hN_.out, tokV]; clear hN_; rintro en w1 ⟨rfl, hb⟩; replace HT := Aside0.mk (HT.out.below (below_step (by repeat (first | exact Below.refl _ _ | apply below_alloc | apply pw_below_drewN | apply below_drew1)) hb)); clear hb) | (go_at_call 41; have hI_ := HI; clear HI; have HK := Aside0.mk (tok_new t w1); refine (rd_take ⟨(HT.out.below (by repeat (first | exact Below.refl _ _ | apply below_alloc | apply pw_below_drewN | apply below_drew1))).st⟩ 5 (by decide) [40]).mono ?_; rw [hI_.out]; clear hI_; rw [if_pos rfl]; rintro en w1 ⟨rfl, hR⟩; replace HK := Aside0.mk (HK.out.step (by repeat (first | exact Below.refl _ _ | apply below_alloc | apply pw_below_drewN | apply below_drew1)) hR.fr); replace HT := Aside0.mk (HT.out.step (by repeat (first | exact Below.refl _ _ | apply below_alloc | apply pw_below_drewN | apply below_drew1)) hR); clear hR; (try clear k1 k2 k3 kn0 kn1 kn2); have k1 := HK.out.c1; have k2 := HK.out.c2; have k3 := HK.out.c3; have kn0 := HK.out.lt; have kn1 : ¬ _ = _ := Nat.ne_of_lt kn0; have kn2 : ¬ _ = _ := Nat.ne_of_gt kn0) | (go_at_call 38; refine (hC.up 700 (r, ns) _ _ HU.out ⟨(HT.out.below (by repeat (first | exact Below.refl _ _ | apply below_alloc | apply pw_below_drewN | apply below_drew1))).st, Nat.le_trans hB.out (Nat.le_trans HT.out.fr.size (below_size (by repeat (first | exact Below.refl _ _ | apply below_alloc | apply pw_below_drewN | apply below_drew1)))), HO1.out⟩).mono ?_; rintro en w1 ⟨v1, rfl, hV, hR⟩; obtain ⟨t0A, t0c, hve⟩ := hV.slice; subst hve; replace hV := hV.low (Nat.le_trans HT.out.fr.size (below_size (by repeat (first | exact Below.refl _ _ | apply below_alloc | apply pw_below_drewN | apply below_drew1)))); replace HK := Aside0.mk (HK.out.step (by repeat (first | exact Below.refl _ _ | apply below_alloc | apply pw_below_drewN | apply below_drew1)) hR.fr); replace HT := Aside0.mk (HT.out.step (by repeat (first | exact Below.refl _ _ | apply below_alloc | apply pw_below_drewN | apply below_drew1)) hR); clear hR; (try clear k1 k2 k3 kn0 kn1 kn2); have k1 := HK.out.c1; have k2 := HK.out.c2; have k3 := HK.out.c3; have kn0 := HK.out.lt; have kn1 : ¬ _ = _ := Nat.ne_of_lt kn0; have kn2 : ¬ _ = _ := Nat.ne_of_gt kn0; have HX := Aside0.mk hV; clear hV) | (go_at_call 61; refine (rd_must ⟨(HT.out.below (by repeat (first | exact Below.refl _ _ | apply below_alloc | apply pw_below_drewN | apply below_drew1))).st⟩ [41] ⟨HM.out⟩).mono ?_; rintro en w1 ⟨rfl, hF⟩; have HF := Aside0.mk ((HT.out.below (by repeat (first | exact Below.refl _ _ | apply below_alloc | apply pw_below_drewN | apply below_drew1))).fr.trans hF); clear hF))
          exact ⟨rfl, rfl, HF.out⟩
      · have HU := Aside0.mk hu
        clear hu
        clear hq hP
        go_enter Tryd.func46, Tryd.ntmps46
        go_wp2_with (first | (go_at_call 28; have hN_ := HN; clear HN; refine (rd_next ⟨(HT.out.below (by repeat (first | exact Below.refl _ _ | apply below_alloc | apply pw_below_drewN | apply below_drew1))).st⟩).mono ?_; rw [← hN_.out, tokV]; clear hN_; rintro en w1 ⟨rfl, hb⟩; replace HT := Aside0.mk (HT.out.below (below_step (by repeat (first | exact Below.refl _ _ | apply below_alloc | apply pw_below_drewN | apply below_drew1)) hb)); clear hb) | (go_at_call 41; have hI_ := HI; clear HI; have HK := Aside0.mk (tok_new t w1); refine (rd_take ⟨(HT.out.below (by repeat (first | exact Below.refl _ _ | apply below_alloc | apply pw_below_drewN | apply below_drew1))).st⟩ 5 (by decide) [40]).mono ?_; rw [hI_.out]; clear hI_; rw [if_pos rfl]; rintro en w1 ⟨rfl, hR⟩; replace HK := Aside0.mk (HK.out.step (by repeat (first | exact Below.refl _ _ | apply below_alloc | apply pw_below_drewN | apply below_drew1)) hR.fr); replace HT := Aside0.mk (HT.out.step (by repeat (first | exact Below.refl _ _ | apply below_alloc | apply pw_below_drewN | apply below_drew1)) hR); clear hR; (try clear k1 k2 k3 kn0 kn1 kn2); have k1 := HK.out.c1; have k2 := HK.out.c2; have k3 := HK.out.c3; have kn0 := HK.out.lt; have kn1 : ¬ _ = _ := Nat.ne_of_lt kn0; have kn2 : ¬ _ = _ := Nat.ne_of_gt kn0) | (go_at_call 38; refine (hC.up 700 (r, ns) _ _ HU.out ⟨(HT.out.below (by repeat (first | exact Below.refl _ _ | apply below_alloc | apply pw_below_drewN | apply below_drew1))).st, Nat.le_trans hB.out (Nat.le_trans HT.out.fr.size (below_size (by repeat (first | exact Below.refl _ _ | apply below_alloc | apply pw_below_drewN | apply below_drew1)))), HO1.out⟩).mono ?_; rintro en w1 ⟨rfl, hF⟩; have HF := Aside0.mk ((HT.out.below (by repeat (first | exact Below.refl _ _ | apply below_alloc | apply pw_below_drewN | apply below_drew1))).fr.trans hF); clear hF))
        exact ⟨rfl, rfl, HF.out⟩
    rw [if_neg c40] at hq
    have HI : Hid (isT (t :: r) 5 [40] = false) := Lib.hid (by rw [isT_cons]; simpa using c40)
    by_cases c91 : t.kind = 5 ∧ t.text = [91]
    · rw [if_pos c91] at hq
      have HI2 : Hid (isT (t :: r) 5 [91] = true) := Lib.hid (by rw [isT_cons, c91.1, c91.2]; rfl)
      clear c1 c2 c3 c40 c91 htok
      rcases Res.bind_some hq with ⟨x, hu, hq⟩ | ⟨x, hu, rfl⟩
      · have HU := Aside0.mk hu
        obtain rfl : Except.ok (x.1, 0, x.2) = q := Option.some.inj hq
        clear hu
        clear hq hP
        go_enter Tryd.func46, Tryd.ntmps46
        go_wp2_with (first | (go_at_call 28; have hN_ := HN; clear HN; refine (rd_next ⟨(HT.out.below (by repeat (first | exact Below.refl _ _ | apply below_alloc | apply pw_below_drewN | apply below_drew1))).st⟩).mono ?_; rw [← hN_.out, tokV]; clear hN_; rintro en w1 ⟨rfl, hb⟩; replace HT := Aside0.mk (HT.out.below (below_step (by repeat (first | exact Below.refl _ _ | apply below_alloc | apply pw_below_drewN | apply below_drew1)) hb)); clear hb) | (go_at_call 41; have hI_ := HI; clear HI; have HK := Aside0.mk (tok_new t w1); refine (rd_take ⟨(HT.out.below (by repeat (first | exact Below.refl _ _ | apply below_alloc | apply pw_below_drewN | apply below_drew1))).st⟩ 5 (by decide) [40]).mono ?_; rw [hI_.out]; clear hI_; rw [if_neg (by decide)]; rintro en w1 ⟨rfl, hR⟩; replace HK := Aside0.mk (HK.out.step (by repeat (first | exact Below.refl _ _ | apply below_alloc | apply pw_below_drewN | apply below_drew1)) hR.fr); replace HT := Aside0.mk (HT.out.step (by repeat (first | exact Below.refl _ _ | apply below_alloc | apply pw_below_drewN | apply below_drew1)) hR); clear hR; (try clear k1 k2 k3 kn0 kn1 kn2); have k1 := HK.out.c1; have k2 := HK.out.c2; have k3 := HK.out.c3; have kn0 := HK.out.lt; have kn1 : ¬ _ = _ := Nat.ne_of_lt kn0; have kn2 : ¬ _ = _ := Nat.ne_of_gt kn0) | (go_at_call 41; have hI_ := HI2; clear HI2; refine (rd_take ⟨(HT.out.below (by repeat (first | exact Below.refl _ _ | apply below_alloc | apply pw_below_drewN | apply below_drew1))).st⟩ 5 (by decide) [91]).mono ?_; rw [hI_.out]; clear hI_; rw [if_pos rfl]; rintro en w1 ⟨rfl, hR⟩; replace HK := Aside0.mk (HK.out.step (by repeat (first | exact Below.refl _ _ | apply below_alloc | apply pw_below_drewN | apply below_drew1)) hR.fr); replace HT := Aside0.mk (HT.out.step (by repeat (first | exact Below.refl _ _ | apply below_alloc | apply pw_below_drewN | apply below_drew1)) hR); clear hR; (try clear k1 k2 k3 kn0 kn1 kn2); have k1 := HK.out.c1; have k2 := HK.out.c2; have k3 := HK.out.c3; have kn0 := HK.out.lt; have kn1 : ¬ _ = _ := Nat.ne_of_lt kn0; have kn2 : ¬ _ = _ := Nat.ne_of_gt kn0) | (go_at_call 62; refine (hC.li (r, ns) _ _ HU.out ⟨(HT.out.below (by repeat (first | exact Below.refl _ _ | apply below_alloc | apply pw_below_drewN | apply below_drew1))).st, Nat.le_trans hB.out (Nat.le_trans HT.out.fr.size (below_size (by repeat (first | exact Below.refl _ _ | apply below_alloc | apply pw_below_drewN | apply below_drew1)))), HO1.out⟩).mono ?_; rintro en w1 ⟨v1, rfl, hV, hR⟩; obtain ⟨t0A, t0c, hve⟩ := hV.slice; subst hve; replace hV := hV.low (Nat.le_trans HT.out.fr.size (below_size (by repeat (first | exact Below.refl _ _ | apply below_alloc | apply pw_below_drewN | apply below_drew1)))); replace HK := Aside0.mk (HK.out.step (by repeat (first | exact Below.refl _ _ | apply below_alloc | apply pw_below_drewN | apply below_drew1)) hR.fr); replace HT := Aside0.mk (HT.out.step (by repeat (first | exact Below.refl _ _ | apply below_alloc | apply pw_below_drewN | apply below_drew1)) hR); clear hR; (try clear k1 k2 k3 kn0 kn1 kn2); have k1 := HK.out.c1; have k2 := HK.out.c2; have k3 := HK.out.c3; have kn0 := HK.out.lt; have kn1 : ¬ _ = _ := Nat.ne_of_lt kn0; have kn2 : ¬ _ = _ := Nat.ne_of_gt kn0; have HX := Aside0.mk hV; clear hV))
        go_ret2
        exact ⟨_, rfl, HX.out, HT.out⟩
      · have HU := Aside0.mk hu
        clear hu
        clear hq hP
        go_enter Tryd.func46, Tryd.ntmps46
        go_wp2_with (first | (go_at_call 28; have hN_ := HN; clear HN; refine (rd_next ⟨(HT.out.below (by repeat (first | exact Below.refl _ _ | apply below_alloc | apply pw_below_drewN | apply below_drew1))).st⟩).mono ?_; rw [← hN_.out, tokV]; clear hN_; rintro en w1 ⟨rfl, hb⟩; replace HT := Aside0.mk (HT.out.below (below_step (by repeat (first | exact Below.refl _ _ | apply below_alloc | apply pw_below_drewN | apply below_drew1)) hb)); clear hb) | (go_at_call 41; have hI_ := HI; clear HI; have HK := Aside0.mk (tok_new t w1); refine (rd_take ⟨(HT.out.below (by repeat (first | exact Below.refl _ _ | apply below_alloc | apply pw_below_drewN | apply below_drew1))).st⟩ 5 (by decide) [40]).mono ?_; rw [hI_.out]; clear hI_; rw [if_neg (by decide)]; rintro en w1 ⟨rfl, hR⟩; replace HK := Aside0.mk (HK.out.step (by repeat (first | exact Below.refl _ _ | apply below_alloc | apply pw_below_drewN | apply below_drew1)) hR.fr); replace HT := Aside0.mk (HT.out.step (by repeat (first | exact Below.refl _ _ | apply below_alloc | apply pw_below_drewN | apply below_drew1)) hR); clear hR; (try clear k1 k2 k3 kn0 kn1 kn2); have k1 := HK.out.c1; have k2 := HK.out.c2; have k3 := HK.out.c3; have kn0 := HK.out.lt; have kn1 : ¬ _ = _ := Nat.ne_of_lt kn0; have kn2 : ¬ _ = _ := Nat.ne_of_gt kn0) | (go_at_call 41; have hI_ := HI2; clear HI2; refine (rd_take ⟨(HT.out.below (by repeat (first | exact Below.refl _ _ | apply below_alloc | apply pw_below_drewN | apply below_drew1))).st⟩ 5 (by decide) [91]).mono ?_; rw [hI_.out]; clear hI_; rw [if_pos rfl]; rintro en w1 ⟨rfl, hR⟩; replace HK := Aside0.mk (HK.out.step (by repeat (first | exact Below.refl _ _ | apply below_alloc | apply pw_below_drewN | apply below_drew1)) hR.fr); replace HT := Aside0.mk (HT.out.step (by repeat (first | exact Below.refl _ _ | apply below_alloc | apply pw_below_drewN | apply below_drew1)) hR); clear hR; (try clear k1 k2 k3 kn0 kn1 kn2); have k1 := HK.out.c1; have k2 := HK.out.c2; have k3 := HK.out.c3; have kn0 := HK.out.lt; have kn1 : ¬ _ = _ := Nat.ne_of_lt kn0; have kn2 : ¬ _ = _ := Nat.ne_of_gt kn0) | (go_at_call 62; refine (hC.li (r, ns) _ _ HU.out ⟨(HT.out.below (by repeat (first | exact Below.refl _ _ | apply below_alloc | apply pw_below_drewN | apply below_drew1))).st, Nat.le_trans hB.out (Nat.le_trans HT.out.fr.size (below_size (by repeat (first | exact Below.refl _ _ | apply below_alloc | apply pw_below_drewN | apply below_drew1)))), HO1.out⟩).mono ?_; rintro en w1 ⟨rfl, hF⟩; have HF := Aside0.mk ((HT.out.below (by repeat (first | exact Below.refl _ _ | apply below_alloc | apply pw_below_drewN | apply below_drew1))).fr.trans hF); clear hF))
        exact ⟨rfl, rfl, HF.out⟩
    rw [if_neg c91] at hq
    have HI2 : Hid (isT (t :: r) 5 [91] = false) := Lib.hid (by rw [isT_cons]; simpa using c91)
    by_cases c45 : t.kind = 4 ∧ t.text = [45]
    · rw [if_pos c45] at hq
      have HI3 : Hid (isT (t :: r) 4 [45] = true) := Lib.hid (by rw [isT_cons, c45.1, c45.2]; rfl)
      have ta0 : 0 ≤ t.at' := htok.1
      have ta1 : t.at' ≤ 100000 := htok.2.1
      clear c1 c2 c3 c40 c91 c45 htok
      obtain ⟨n, hn⟩ : ∃ n : Tok, n = nxtR e r := ⟨_, rfl⟩
      have HN2 := Lib.hid hn
      by_cases cn : n.kind = 3 ∧ n.at' = t.at' + 1
      · obtain ⟨r', hr⟩ : ∃ r', r = n :: r' := by
          match r, hn with
          | [], hn => rw [hn] at cn; exact absurd cn.1 (by simp [nxtR])
          | m :: r', hn => exact ⟨r', by rw [hn]; rfl⟩
        subst hr
        simp only at hq
        rw [if_pos cn] at hq
        obtain rfl : Except.ok ([⟨2, [], -n.val⟩], 0, (r', ns)) = q := Option.some.inj hq
        have bn : (n.kind == 3) = true := by simpa using cn.1
        have bn2 : (n.at' == t.at' + 1) = true := by simpa using cn.2
        have hnt := HO1.out.1 n List.mem_cons_self
        have nv0 : 0 ≤ n.val := hnt.2.2.1
        have nv1 : n.val ≤ 2147483647 := hnt.2.2.2.1
        clear cn hn hnt
        clear hq hP
        go_enter Tryd.func46, Tryd.ntmps46
        go_wp2_with (first | (go_at_call 28; have hN_ := HN; clear HN; refine (rd_next ⟨(HT.out.below (by repeat (first | exact Below.refl _ _ | apply below_alloc | apply pw_below_drewN | apply below_drew1))).st⟩).mono ?_; rw [← hN_.out, tokV]; clear hN_; rintro en w1 ⟨rfl, hb⟩; replace HT := Aside0.mk (HT.out.below (below_step (by repeat (first | exact Below.refl _ _ | apply below_alloc | apply pw_below_drewN | apply below_drew1)) hb)); clear hb) | (go_at_call 41; have hI_ := HI; clear HI; have HK := Aside0.mk (tok_new t w1); refine (rd_take ⟨(HT.out.below (by repeat (first | exact Below.refl _ _ | apply below_alloc | apply pw_below_drewN | apply below_drew1))).st⟩ 5 (by decide) [40]).mono ?_; rw [hI_.out]; clear hI_; rw [if_neg (by decide)]; rintro en w1 ⟨rfl, hR⟩; replace HK := Aside0.mk (HK.out.step (by repeat (first | exact Below.refl _ _ | apply below_alloc | apply pw_below_drewN | apply below_drew1)) hR.fr); replace HT := Aside0.mk (HT.out.step (by repeat (first | exact Below.refl _ _ | apply below_alloc | apply pw_below_drewN | apply below_drew1)) hR); clear hR; (try clear k1 k2 k3 kn0 kn1 kn2); have k1 := HK.out.c1; have k2 := HK.out.c2; have k3 := HK.out.c3; have kn0 := HK.out.lt; have kn1 : ¬ _ = _ := Nat.ne_of_lt kn0; have kn2 : ¬ _ = _ := Nat.ne_of_gt kn0) | (go_at_call 41; have hI_ := HI2; clear HI2; refine (rd_take ⟨(HT.out.below (by repeat (first | exact Below.refl _ _ | apply below_alloc | apply pw_below_drewN | apply below_drew1))).st⟩ 5 (by decide) [91]).mono ?_; rw [hI_.out]; clear hI_; rw [if_neg (by decide)]; rintro en w1 ⟨rfl, hR⟩; replace HK := Aside0.mk (HK.out.step (by repeat (first | exact Below.refl _ _ | apply below_alloc | apply pw_below_drewN | apply below_drew1)) hR.fr); replace HT := Aside0.mk (HT.out.step (by repeat (first | exact Below.refl _ _ | apply below_alloc | apply pw_below_drewN | apply below_drew1)) hR); clear hR; (try clear k1 k2 k3 kn0 kn1 kn2); have k1 := HK.out.c1; have k2 := HK.out.c2; have k3 := HK.out.c3; have kn0 := HK.out.lt; have kn1 : ¬ _ = _ := Nat.ne_of_lt kn0; have kn2 : ¬ _ = _ := Nat.ne_of_gt kn0) | (go_at_call 41; have hI_ := HI3; clear HI3; refine (rd_take ⟨(HT.out.below (by repeat (first | exact Below.refl _ _ | apply below_alloc | apply pw_below_drewN | apply below_drew1))).st⟩ 4 (by decide) [45]).mono ?_; rw [hI_.out]; clear hI_; rw [if_pos rfl]; rintro en w1 ⟨rfl, hR⟩; replace hR : RdTo B g e (n :: r', ns) _ _ := hR; replace HK := Aside0.mk (HK.out.step (by repeat (first | exact Below.refl _ _ | apply below_alloc | apply pw_below_drewN | apply below_drew1)) hR.fr); replace HT := Aside0.mk (HT.out.step (by repeat (first | exact Below.refl _ _ | apply below_alloc | apply pw_below_drewN | apply below_drew1)) hR); clear hR; (try clear k1 k2 k3 kn0 kn1 kn2); have k1 := HK.out.c1; have k2 := HK.out.c2; have k3 := HK.out.c3; have kn0 := HK.out.lt; have kn1 : ¬ _ = _ := Nat.ne_of_lt kn0; have kn2 : ¬ _ = _ := Nat.ne_of_gt kn0) | (go_at_call 28; have hN_ := HN2; clear HN2; refine (rd_next ⟨(HT.out.below (by repeat (first | exact Below.refl _ _ | apply below_alloc | apply pw_below_drewN | apply below_drew1))).st⟩).mono ?_; rw [← hN_.out, tokV]; clear hN_; rintro en w1 ⟨rfl, hb⟩; replace HK := Aside0.mk (HK.out.below (below_step (by repeat (first | exact Below.refl _ _ | apply below_alloc | apply pw_below_drewN | apply below_drew1)) hb)); replace HT := Aside0.mk (HT.out.below (below_step (by repeat (first | exact Below.refl _ _ | apply below_alloc | apply pw_below_drewN | apply below_drew1)) hb)); clear hb; (try clear k1 k2 k3 kn0 kn1 kn2); have k1 := HK.out.c1; have k2 := HK.out.c2; have k3 := HK.out.c3; have kn0 := HK.out.lt; have kn1 : ¬ _ = _ := Nat.ne_of_lt kn0; have kn2 : ¬ _ = _ := Nat.ne_of_gt kn0) | (go_at_call 29; have HJ := Aside0.mk (tok_new n w1); refine (rd_pass ⟨(HT.out.below (by repeat (first | exact Below.refl _ _ | apply below_alloc | apply pw_below_drewN | apply below_drew1))).st⟩).mono ?_; rintro en w1 ⟨rfl, hR⟩; replace HK := Aside0.mk (HK.out.step (by repeat (first | exact Below.refl _ _ | apply below_alloc | apply pw_below_drewN | apply below_drew1)) hR.fr); replace HJ := Aside0.mk (HJ.out.step (by repeat (first | exact Below.refl _ _ | apply below_alloc | apply pw_below_drewN | apply below_drew1)) hR.fr); replace HT := Aside0.mk (HT.out.step (by repeat (first | exact Below.refl _ _ | apply below_alloc | apply pw_below_drewN | apply below_drew1)) hR); clear hR; (try clear k1 k2 k3 kn0 kn1 kn2); have k1 := HK.out.c1; have k2 := HK.out.c2; have k3 := HK.out.c3; have kn0 := HK.out.lt; have kn1 : ¬ _ = _ := Nat.ne_of_lt kn0; have kn2 : ¬ _ = _ := Nat.ne_of_gt kn0; have j2 := HJ.out.c2))
        go_ret2
        exact ⟨_, rfl, lit_cel (b := w.heap.size) ⟨2, [], -n.val⟩ (Nat.le_trans HT.out.fr.size (below_size (by repeat (first | exact Below.refl _ _ | apply below_alloc | apply pw_below_drewN | apply below_drew1)))), HT.out.below (by repeat (first | exact Below.refl _ _ | apply below_alloc | apply pw_below_drewN | apply below_drew1))⟩
      · replace hq : ((upToR k e 200 (r, ns)).bind fun x => Res.ok (funR [45] [x.1], 200, x.2)) = some q := by
          match r, hn, hq with
          | [], hn, hq => exact hq
          | m :: r', hn, hq =>
            obtain rfl : n = m := hn
            simp only at hq
            rw [if_neg cn] at hq
            exact hq
        have bn : ((n.kind == 3) && (n.at' == t.at' + 1)) = false := by simpa using cn
        have bn' : (n.kind == 3) = false ∨ (n.kind == 3) = true ∧ (n.at' == t.at' + 1) = false := by
          cases h : (n.kind == 3) with
          | false => exact .inl rfl
          | true => rw [h, Bool.true_and] at bn; exact .inr ⟨rfl, bn⟩
        clear cn hn bn
        rcases Res.bind_some hq with ⟨x, hu, hq⟩ | ⟨x, hu, rfl⟩
        · have HU := Aside0.mk hu
          have HLEN : Aside0 (x.1.length ≤ 80000) := ⟨by have := ((passed5 e k).1 _ _ _ hu).len HO1.out; omega⟩
          obtain rfl : Except.ok (funR [45] [x.1], 200, x.2) = q := Option.some.inj hq
          clear hu
          rcases bn' with bn | ⟨bn, bn2⟩
          all_goals
            clear hq hP
            go_enter Tryd.func46, Tryd.ntmps46
            go_wp2_with (first | (go_at_call 28; have hN_ := HN; clear HN; refine (rd_next ⟨(HT.out.below (by repeat (first | exact Below.refl _ _ | apply below_alloc | apply pw_below_drewN | apply below_drew1))).st⟩).mono ?_; rw [← hN_.out, tokV]; clear hN_; rintro en w1 ⟨rfl, hb⟩; replace HT := Aside0.mk (HT.out.below (below_step (by repeat (first | exact Below.refl _ _ | apply below_alloc | apply pw_below_drewN | apply below_drew1)) hb)); clear hb) | (go_at_call 41; have hI_ := HI; clear HI; have HK := Aside0.mk (tok_new t w1); refine (rd_take ⟨(HT.out.below (by repeat (first | exact Below.refl _ _ | apply below_alloc | apply pw_below_drewN | apply below_drew1))).st⟩ 5 (by decide) [40]).mono ?_; rw [hI_.out]; clear hI_; rw [if_neg (by decide)]; rintro en w1 ⟨rfl, hR⟩; replace HK := Aside0.mk (HK.out.step (by repeat (first | exact Below.refl _ _ | apply below_alloc | apply pw_below_drewN | apply below_drew1)) hR.fr); replace HT := Aside0.mk (HT.out.step (by repeat (first | exact Below.refl _ _ | apply below_alloc | apply pw_below_drewN | apply below_drew1)) hR); clear hR; (try clear k1 k2 k3 kn0 kn1 kn2); have k1 := HK.out.c1; have k2 := HK.out.c2; have k3 := HK.out.c3; have kn0 := HK.out.lt; have kn1 : ¬ _ = _ := Nat.ne_of_lt kn0; have kn2 : ¬ _ = _ := Nat.ne_of_gt kn0) | (go_at_call 41; have hI_ := HI2; clear HI2; refine (rd_take ⟨(HT.out.below (by repeat (first | exact Below.refl _ _ | apply below_alloc | apply pw_below_drewN | apply below_drew1))).st⟩ 5 (by decide) [91]).mono ?_; rw [hI_.out]; clear hI_; rw [if_neg (by decide)]; rintro en w1 ⟨rfl, hR⟩; replace HK := Aside0.mk (HK.out.step (by repeat (first | exact Below.refl _ _ | apply below_alloc | apply pw_below_drewN | apply below_drew1)) hR.fr); replace HT := Aside0.mk (HT.out.step (by repeat (first | exact Below.refl _ _ | apply below_alloc | apply pw_below_drewN | apply below_drew1)) hR); clear hR; (try clear k1 k2 k3 kn0 kn1 kn2); have k1 := HK.out.c1; have k2 := HK.out.c2; have k3 := HK.out.c3; have kn0 := HK.out.lt; have kn1 : ¬ _ = _ := Nat.ne_of_lt kn0; have kn2 : ¬ _ = _ := Nat.ne_of_gt kn0) | (go_at_call 41; have hI_ := HI3; clear HI3; refine (rd_take ⟨(HT.out.below (by repeat (first | exact Below.refl _ _ | apply below_alloc | apply pw_below_drewN | apply below_drew1))).st⟩ 4 (by decide) [45]).mono ?_; rw [hI_.out]; clear hI_; rw [if_pos rfl]; rintro en w1 ⟨rfl, hR⟩; replace hR : RdTo B g e (r, ns) _ _ := hR; replace HK := Aside0.mk (HK.out.step (by repeat (first | exact Below.refl _ _ | apply below_alloc | apply pw_below_drewN | apply below_drew1)) hR.fr); replace HT := Aside0.mk (HT.out.step (by repeat (first | exact Below.refl _ _ | apply below_alloc | apply pw_below_drewN | apply below_drew1)) hR); clear hR; (try clear k1 k2 k3 kn0 kn1 kn2); have k1 := HK.out.c1; have k2 := HK.out.c2; have k3 := HK.out.c3; have kn0 := HK.out.lt; have kn1 : ¬ _ = _ := Nat.ne_of_lt kn0; have kn2 : ¬ _ = _ := Nat.ne_of_gt kn0) | (go_at_call 28; have hN_ := HN2; clear HN2; refine (rd_next ⟨(HT.out.below (by repeat (first | exact Below.refl _ _ | apply below_alloc | apply pw_below_drewN | apply below_drew1))).st⟩).mono ?_; rw [← hN_.out, tokV]; clear hN_; rintro en w1 ⟨rfl, hb⟩; replace HK := Aside0.mk (HK.out.below (below_step (by repeat (first | exact Below.refl _ _ | apply below_alloc | apply pw_below_drewN | apply below_drew1)) hb)); replace HT := Aside0.mk (HT.out.below (below_step (by repeat (first | exact Below.refl _ _ | apply below_alloc | apply pw_below_drewN | apply below_drew1)) hb)); clear hb; (try clear k1 k2 k3 kn0 kn1 kn2); have k1 := HK.out.c1; have k2 := HK.out.c2; have k3 := HK.out.c3; have kn0 := HK.out.lt; have kn1 : ¬ _ = _ := Nat.ne_of_lt kn0; have kn2 : ¬ _ = _ := Nat.ne_of_gt kn0) | (go_at_call 38; refine (hC.up 200 (r, ns) _ _ HU.out ⟨(HT.out.below (by repeat (first | exact Below.refl _ _ | apply below_alloc | apply pw_below_drewN | apply below_drew1))).st, Nat.le_trans hB.out (Nat.le_trans HT.out.fr.size (below_size (by repeat (first | exact Below.refl _ _ | apply below_alloc | apply pw_below_drewN | apply below_drew1)))), HO1.out⟩).mono ?_; rintro en w1 ⟨v1, rfl, hV, hR⟩; obtain ⟨t0A, t0c, hve⟩ := hV.slice; subst hve; replace hV := hV.low (Nat.le_trans HT.out.fr.size (below_size (by repeat (first | exact Below.refl _ _ | apply below_alloc | apply pw_below_drewN | apply below_drew1)))); replace HK := Aside0.mk (HK.out.step (by repeat (first | exact Below.refl _ _ | apply below_alloc | apply pw_below_drewN | apply below_drew1)) hR.fr); replace HT := Aside0.mk (HT.out.step (by repeat (first | exact Below.refl _ _ | apply below_alloc | apply pw_below_drewN | apply below_drew1)) hR); clear hR; (try clear k1 k2 k3 kn0 kn1 kn2); have k1 := HK.out.c1; have k2 := HK.out.c2; have k3 := HK.out.c3; have kn0 := HK.out.lt; have kn1 : ¬ _ = _ := Nat.ne_of_lt kn0; have kn2 : ¬ _ = _ := Nat.ne_of_gt kn0; have HX := Aside0.mk hV; clear hV) | (go_at_call 47; refine (rd_compound [45] [x.1] (by have := HLEN.out; simp; omega) rfl (Nat.le_refl 1) (lit_C [Value.slice t0A x.1.length t0c] [x.1] rfl (by simp) (B := w.heap.size) (fun j hj => by obtain rfl : j = 0 := (by simpa using hj); exact HX.out)) (B := w.heap.size) (Nat.le_trans HT.out.fr.size (below_size (by repeat (first | exact Below.refl _ _ | apply below_alloc | apply pw_below_drewN | apply below_drew1))))).mono ?_; rintro en w1 ⟨v1, rfl, hV, hb⟩; obtain ⟨c0A, c0c, hve⟩ := hV.slice; subst hve; replace HT := Aside0.mk (HT.out.below (below_step (by repeat (first | exact Below.refl _ _ | apply below_alloc | apply pw_below_drewN | apply below_drew1)) hb)); have HV := Aside0.mk hV; clear hb hV))
            go_ret2
            exact ⟨_, rfl, HV.out, HT.out⟩
        · have HU := Aside0.mk hu
          clear hu
          rcases bn' with bn | ⟨bn, bn2⟩
          all_goals
            clear hq hP
            go_enter Tryd.func46, Tryd.ntmps46
            go_wp2_with (first | (go_at_call 28; have hN_ := HN; clear HN; refine (rd_next ⟨(HT.out.below (by repeat (first | exact Below.refl _ _ | apply below_alloc | apply pw_below_drewN | apply below_drew1))).st⟩).mono ?_; rw [← hN_.out, tokV]; clear hN_; rintro en w1 ⟨rfl, hb⟩; replace HT := Aside0.mk (HT.out.below (below_step (by repeat (first | exact Below.refl _ _ | apply below_alloc | apply pw_below_drewN | apply below_drew1)) hb)); clear hb) | (go_at_call 41; have hI_ := HI; clear HI; have HK := Aside0.mk (tok_new t w1); refine (rd_take ⟨(HT.out.below (by repeat (first | exact Below.refl _ _ | apply below_alloc | apply pw_below_drewN | apply below_drew1))).st⟩ 5 (by decide) [40]).mono ?_; rw [hI_.out]; clear hI_; rw [if_neg (by decide)]; rintro en w1 ⟨rfl, hR⟩; replace HK := Aside0.mk (HK.out.step (by repeat (first | exact Below.refl _ _ | apply below_alloc | apply pw_below_drewN | apply below_drew1)) hR.fr); replace HT := Aside0.mk (HT.out.step (by repeat (first | exact Below.refl _ _ | apply below_alloc | apply pw_below_drewN | apply below_drew1)) hR); clear hR; (try clear k1 k2 k3 kn0 kn1 kn2); have k1 := HK.out.c1; have k2 := HK.out.c2; have k3 := HK.out.c3; have kn0 := HK.out.lt; have kn1 : ¬ _ = _ := Nat.ne_of_lt kn0; have kn2 : ¬ _ = _ := Nat.ne_of_gt kn0) | (go_at_call 41; have hI_ := HI2; clear HI2; refine (rd_take ⟨(HT.out.below (by repeat (first | exact Below.refl _ _ | apply below_alloc | apply pw_below_drewN | apply below_drew1))).st⟩ 5 (by decide) [91]).mono ?_; rw [hI_.out]; clear hI_; rw [if_neg (by decide)]; rintro en w1 ⟨rfl, hR⟩; replace HK := Aside0.mk (HK.out.step (by repeat (first | exact Below.refl _ _ | apply below_alloc | apply pw_below_drewN | apply below_drew1)) hR.fr); replace HT := Aside0.mk (HT.out.step (by repeat (first | exact Below.refl _ _ | apply below_alloc | apply pw_below_drewN | apply below_drew1)) hR); clear hR; (try clear k1 k2 k3 kn0 kn1 kn2); have k1 := HK.out.c1; have k2 := HK.out.c2; have k3 := HK.out.c3; have kn0 := HK.out.lt; have kn1 : ¬ _ = _ := Nat.ne_of_lt kn0; have kn2 : ¬ _ = _ := Nat.ne_of_gt kn0) | (go_at_call 41; have hI_ := HI3; clear HI3; refine (rd_take ⟨(HT.out.below (by repeat (first | exact Below.refl _ _ | apply below_alloc | apply pw_below_drewN | apply below_drew1))).st⟩ 4 (by decide) [45]).mono ?_; rw [hI_.out]; clear hI_; rw [if_pos rfl]; rintro en w1 ⟨rfl, hR⟩; replace hR : RdTo B g e (r, ns) _ _ := hR; replace HK := Aside0.mk (HK.out.step (by repeat (first | exact Below.refl _ _ | apply below_alloc | apply pw_below_drewN | apply below_drew1)) hR.fr); replace HT := Aside0.mk (HT.out.step (by repeat (first | exact Below.refl _ _ | apply below_alloc | apply pw_below_drewN | apply below_drew1)) hR); clear hR; (try clear k1 k2 k3 kn0 kn1 kn2); have k1 := HK.out.c1; have k2 := HK.out.c2; have k3 := HK.out.c3; have kn0 := HK.out.lt; have kn1 : ¬ _ = _ := Nat.ne_of_lt kn0; have kn2 : ¬ _ = _ := Nat.ne_of_gt kn0) | (go_at_call 28; have hN_ := HN2; clear HN2; refine (rd_next ⟨(HT.out.below (by repeat (first | exact Below.refl _ _ | apply below_alloc | apply pw_below_drewN | apply below_drew1))).st⟩).mono ?_; rw [← hN_.out, tokV]; clear hN_; rintro en w1 ⟨rfl, hb⟩; replace HK := Aside0.mk (HK.out.below (below_step (by repeat (first | exact Below.refl _ _ | apply below_alloc | apply pw_below_drewN | apply below_drew1)) hb)); replace HT := Aside0.mk (HT.out.below (below_step (by repeat (first | exact Below.refl _ _ | apply below_alloc | apply pw_below_drewN | apply below_drew1)) hb)); clear hb; (try clear k1 k2 k3 kn0 kn1 kn2); have k1 := HK.out.c1; have k2 := HK.out.c2; have k3 := HK.out.c3; have kn0 := HK.out.lt; have kn1 : ¬ _ = _ := Nat.ne_of_lt kn0; have kn2 : ¬ _ = _ := Nat.ne_of_gt kn0) | (go_at_call 38; refine (hC.up 200 (r, ns) _ _ HU.out ⟨(HT.out.below (by repeat (first | exact Below.refl _ _ | apply below_alloc | apply pw_below_drewN | apply below_drew1))).st, Nat.le_trans hB.out (Nat.le_trans HT.out.fr.size (below_size (by repeat (first | exact Below.refl _ _ | apply below_alloc | apply pw_below_drewN | apply below_drew1)))), HO1.out⟩).mono ?_; rintro en w1 ⟨rfl, hF⟩; have HF := Aside0.mk ((HT.out.below (by repeat (first | exact Below.refl _ _ | apply below_alloc | apply pw_below_drewN | apply below_drew1))).fr.trans hF); clear hF))
            exact ⟨rfl, rfl, HF.out⟩
    rw [if_neg c45] at hq
    have HI3 : Hid (isT (t :: r) 4 [45] = false) := Lib.hid (by rw [isT_cons]; simpa using c45)
    obtain rfl : Except.error (oddR e (t :: r)) = q := Option.some.inj hq
    clear c1 c2 c3 c40 c91 c45 htok
    clear hq hP
    go_enter Tryd.func46, Tryd.ntmps46
    go_wp2_with (first | (go_at_call 28; have hN_ := HN; clear HN; refine (rd_next ⟨(HT.out.below (by repeat (first | exact Below.refl _ _ | apply below_alloc | apply pw_below_drewN | apply below_drew1))).st⟩).mono ?_; rw [← hN_.out, tokV]; clear hN_; rintro en w1 ⟨rfl, hb⟩; replace HT := Aside0.mk (HT.out.below (below_step (by repeat (first | exact Below.refl _ _ | apply below_alloc | apply pw_below_drewN | apply below_drew1)) hb)); clear hb) | (go_at_call 41; have hI_ := HI; clear HI; have HK := Aside0.mk (tok_new t w1); refine (rd_take ⟨(HT.out.below (by repeat (first | exact Below.refl _ _ | apply below_alloc | apply pw_below_drewN | apply below_drew1))).st⟩ 5 (by decide) [40]).mono ?_; rw [hI_.out]; clear hI_; rw [if_neg (by decide)]; rintro en w1 ⟨rfl, hR⟩; replace HK := Aside0.mk (HK.out.step (by repeat (first | exact Below.refl _ _ | apply below_alloc | apply pw_below_drewN | apply below_drew1)) hR.fr); replace HT := Aside0.mk (HT.out.step (by repeat (first | exact Below.refl _ _ | apply below_alloc | apply pw_below_drewN | apply below_drew1)) hR); clear hR; (try clear k1 k2 k3 kn0 kn1 kn2); have k1 := HK.out.c1; have k2 := HK.out.c2; have k3 := HK.out.c3; have kn0 := HK.out.lt; have kn1 : ¬ _ = _ := Nat.ne_of_lt kn0; have kn2 : ¬ _ = _ := Nat.ne_of_gt kn0) | (go_at_call 41; have hI_ := HI2; clear HI2; refine (rd_take ⟨(HT.out.below (by repeat (first | exact Below.refl _ _ | apply below_alloc | apply pw_below_drewN | apply below_drew1))).st⟩ 5 (by decide) [91]).mono ?_; rw [hI_.out]; clear hI_; rw [if_neg (by decide)]; rintro en w1 ⟨rfl, hR⟩; replace HK := Aside0.mk (HK.out.step (by repeat (first | exact Below.refl _ _ | apply below_alloc | apply pw_below_drewN | apply below_drew1)) hR.fr); replace HT := Aside0.mk (HT.out.step (by repeat (first | exact Below.refl _ _ | apply below_alloc | apply pw_below_drewN | apply below_drew1)) hR); clear hR; (try clear k1 k2 k3 kn0 kn1 kn2); have k1 := HK.out.c1; have k2 := HK.out.c2; have k3 := HK.out.c3; have kn0 := HK.out.lt; have kn1 : ¬ _ = _ := Nat.ne_of_lt kn0; have kn2 : ¬ _ = _ := Nat.ne_of_gt kn0) | (go_at_call 41; have hI_ := HI3; clear HI3; refine (rd_take ⟨(HT.out.below (by repeat (first | exact Below.refl _ _ | apply below_alloc | apply pw_below_drewN | apply below_drew1))).st⟩ 4 (by decide) [45]).mono ?_; rw [hI_.out]; clear hI_; rw [if_neg (by decide)]; rintro en w1 ⟨rfl, hR⟩; replace HK := Aside0.mk (HK.out.step (by repeat (first | exact Below.refl _ _ | apply below_alloc | apply pw_below_drewN | apply below_drew1)) hR.fr); replace HT := Aside0.mk (HT.out.step (by repeat (first | exact Below.refl _ _ | apply below_alloc | apply pw_below_drewN | apply below_drew1)) hR); clear hR; (try clear k1 k2 k3 kn0 kn1 kn2); have k1 := HK.out.c1; have k2 := HK.out.c2; have k3 := HK.out.c3; have kn0 := HK.out.lt; have kn1 : ¬ _ = _ := Nat.ne_of_lt kn0; have kn2 : ¬ _ = _ := Nat.ne_of_gt kn0) | (go_at_call 42; refine (rd_odd ⟨(HT.out.below (by repeat (first | exact Below.refl _ _ | apply below_alloc | apply pw_below_drewN | apply below_drew1))).st⟩).mono ?_; rintro en w1 ⟨rfl, hb⟩; have HF := Aside0.mk ((HT.out.below (below_step (by repeat (first | exact Below.refl _ _ | apply below_alloc | apply pw_below_drewN | apply below_drew1)) hb)).fr); clear hb))
    exact ⟨rfl, rfl, HF.out⟩
end Go.Proofs.YthdccdbiichabaaDoor.P
/- A term up to a rank: the contract of package read's reader.upTo, where the lesser calls are as told. No condition. Printed by wip/gen/mkrdc.py. -/
namespace Go.Proofs.YthdccdbiichabaaDoor.P
open Go.RowKit Go.Proofs.YthdccdbiichabaaDoorW.PrintWords Go.Proofs.YthdccdbiichabaaDoorW.PrintLast Go.Proofs.YthdccdbiichabaaDoorW.PrintMore
set_option linter.unusedVariables false
set_option linter.unusedSimpArgs false

theorem new2 (w : World) (o1 o2 : Obj) : ((w.alloc o1).alloc o2).heap[w.heap.size + 1]? = some o2 := heap_new _ _ _ (by simp)
theorem zcell {w : World} {b : Nat} (h : w.heap[b]? = some (.cells #[.int .i64 0, .int .i64 0, .int .i64 0] 78 (0, 0))) (i : Nat) (hi : i < 3) : w.cell? ⟨b, i, none⟩ = some (.int .i64 0) := by
  rw [blk_cell h]
  rcases (by omega : i = 0 ∨ i = 1 ∨ i = 2) with rfl | rfl | rfl <;> rfl
/-- What an operator's ranks are, in a variable of their own. -/
structure OBlk (o : Nat) (p l r : Int) (w : World) : Prop where
  blk : w.heap[o]? = some (.cells #[.int .i64 p, .int .i64 l, .int .i64 r] 78 (0, 0))
section
variable {o B : Nat} {p l r : Int} {w w1 W W0 w' : World}
theorem OBlk.below (h : OBlk o p l r w) (hb : Below w.heap.size w w1) : OBlk o p l r w1 := ⟨(hb.block o (blk_lt h.blk)).trans h.blk⟩
theorem OBlk.step (h : OBlk o p l r W0) (hb : Below W0.heap.size W0 W) (k : Fr 69 B W w') : OBlk o p l r w' :=
  ⟨(k.block o (blk_lt (h.below hb).blk) (.inr (not_vol (h.below hb).blk (by decide) (by decide)))).trans (h.below hb).blk⟩
theorem OBlk.c0 (h : OBlk o p l r w) : w.cell? ⟨o, 0, none⟩ = some (.int .i64 p) := by have := blk_cell h.blk 0; simpa using this
theorem OBlk.c1 (h : OBlk o p l r w) : w.cell? ⟨o, 1, none⟩ = some (.int .i64 l) := by have := blk_cell h.blk 1; simpa using this
theorem OBlk.c2 (h : OBlk o p l r w) : w.cell? ⟨o, 2, none⟩ = some (.int .i64 r) := by have := blk_cell h.blk 2; simpa using this
theorem OBlk.lt (h : OBlk o p l r w) : o < w.heap.size := blk_lt h.blk
end

set_option maxHeartbeats 40000000 in
set_option maxRecDepth 100000 in
theorem rd_upTo {B g : Nat} {e : Int} {k : Nat} (hC : Con B g e k) (most : Int) (s : RS) (q : Except (Int × Int) (List Cel × RS)) (w : World) (hq : upToR (k + 1) e most s = some q) (hP : Pre B g e s w) :
    Calls Tryd.prog 38 #[.pointer (some ⟨g, 0, none⟩), .int .i64 most] w (RdEnd B g e (CelAt w.heap.size) w q) := by
  rw [upToR] at hq
  have hB := Aside0.mk hP.base
  have HOK := Aside0.mk hP.ok
  have HT : Aside0 (RdTo B g e s w w) := ⟨⟨hP.st, Fr.refl _ _ _⟩⟩
  rcases Res.bind_some hq with ⟨x, hu, hq⟩ | ⟨x, hu, rfl⟩
  · have HU := Aside0.mk hu
    have HQ := Aside0.mk hq
    have hp5 := (passed5 e k).2.2.1 _ _ hu
    have HO0 := Aside0.mk (HOK.out.passed hp5)
    have HLEN0 : Aside0 (x.1.length + 2 * x.2.2.1.length ≤ 80000) := ⟨by
      obtain ⟨m, h1, h2, h3, h4, _⟩ := hp5
      have := HOK.out.2
      rw [h3, List.length_drop]
      omega⟩
    clear hq hu hp5 hP
    go_enter Tryd.func38, Tryd.ntmps38
    go_wp2_with (first | (go_at_call 46; refine (hC.bg s _ _ HU.out ⟨(HT.out.below (by repeat (first | exact Below.refl _ _ | apply below_alloc | apply pw_below_drewN | apply below_drew1))).st, Nat.le_trans hB.out (Nat.le_trans HT.out.fr.size (below_size (by repeat (first | exact Below.refl _ _ | apply below_alloc | apply pw_below_drewN | apply below_drew1)))), HOK.out⟩).mono ?_; rintro en w1 ⟨v1, rfl, hV, hR⟩; obtain ⟨v1A, v1c, hve⟩ := hV.slice; subst hve; replace hV := hV.low (Nat.le_trans HT.out.fr.size (below_size (by repeat (first | exact Below.refl _ _ | apply below_alloc | apply pw_below_drewN | apply below_drew1)))); replace HT := Aside0.mk (HT.out.step (by repeat (first | exact Below.refl _ _ | apply below_alloc | apply pw_below_drewN | apply below_drew1)) hR); clear hR; have HX := Aside0.mk hV; clear hV))
    go_loopg [5, 6, 7, 8, 9] k (fun gk v5 v6 v7 v8 v9 wr => ∃ (x : List Cel) (rank : Int) (s1 : RS), v6 = .int .i64 rank ∧ gk ≤ k ∧ Aside0 (climbR gk e most x rank s1 = some q) ∧ Aside0 (CelAt w.heap.size wr x v5) ∧ Aside0 (RdTo B g e s1 w wr) ∧ Aside0 (Ok s1) ∧ Aside0 (x.length + 2 * s1.1.length ≤ 80000))
    case atStart => exact ⟨_, _, _, rfl, Nat.le_refl _, HQ, HX, HT, HO0, HLEN0⟩
    case round =>
      clear HX HT HO0 HLEN0 HQ HU
      obtain ⟨x, rank, s1, rfl, hgk, HA, HX, HT, HO1, HLEN⟩ := hrel
      obtain ⟨xA, xc, hxe⟩ := HX.out.slice
      subst hxe
      have ha := HA.out
      clear HA
      obtain ⟨j, rfl⟩ : ∃ j, gk = j + 1 := by
        cases gk with
        | zero => rw [climbR] at ha; cases ha
        | succ j => exact ⟨j, rfl⟩
      rw [climbR] at ha
      obtain ⟨t, ht⟩ : ∃ t : Tok, t = nxtR e s1.1 := ⟨_, rfl⟩
      have HN := Lib.hid ht
      obtain ⟨p, lf, rt, hov⟩ : ∃ p lf rt : Int, opV t.text = .agg #[.int .i64 p, .int .i64 lf, .int .i64 rt] := by
        unfold opV
        split
        · exact ⟨_, _, _, rfl⟩
        · exact ⟨_, _, _, rfl⟩
      obtain ⟨ob, hos⟩ : ∃ ob : Bool, (opR t.text).isSome = ob := ⟨_, rfl⟩
      have HOV := Lib.hid hov
      have HOS := Lib.hid hos
      have HAA := Aside0.mk ha
      have HTT := Aside0.mk ht
      clear hov hos ha ht
      go_wp2_with (first | (go_at_call 28; have hN_ := HN; clear HN; refine (rd_next ⟨(HT.out.below (by repeat (first | exact Below.refl _ _ | apply below_alloc | apply pw_below_drewN | apply below_drew1))).st⟩).mono ?_; rw [← hN_.out, tokV]; clear hN_; rintro en w1 ⟨rfl, hb⟩; replace HX := Aside0.mk (HX.out.below (below_step (by repeat (first | exact Below.refl _ _ | apply below_alloc | apply pw_below_drewN | apply below_drew1)) hb)); replace HT := Aside0.mk (HT.out.below (below_step (by repeat (first | exact Below.refl _ _ | apply below_alloc | apply pw_below_drewN | apply below_drew1)) hb)); clear hb))
      go_cut [8, 9] (fun v8 v9 wx => ∃ o : Nat, v8 = .pointer (some ⟨o, 0, none⟩) ∧ v9 = .bool ob ∧ Aside0 (OBlk o p lf rt wx) ∧ Aside0 (Below w1.heap.size w1 wx) ∧ Aside0 (TokBlk w1.heap.size t wx))
      case first =>
        go_region_with (go_at_call 36; have HK := Aside0.mk (tok_new t w1); refine (rd_infix _).mono ?_; rintro en w2 ⟨v2, rfl, hO⟩; obtain ⟨htab, hb2⟩ := hO; have hlk1 := run_op htab t.text true; have hlk2 := run_op (W := w2.alloc (.cells #[.int .i64 0, .int .i64 0, .int .i64 0] 78)) ((Below.heap_alloc _ _ _ (blk_lt htab)).trans htab) t.text true; rw [HOV.out, HOS.out] at hlk1 hlk2; replace HK := Aside0.mk (HK.out.below (below_step (by repeat (first | exact Below.refl _ _ | apply below_alloc | apply pw_below_drewN | apply below_drew1)) hb2)); have k0 := HK.out.c0; have k1 := HK.out.c1; have k3 := HK.out.c3; have kn0 := HK.out.lt; have kn1 : ¬ _ = _ := Nat.ne_of_lt kn0; have kn2 : ¬ _ = _ := Nat.ne_of_gt kn0; have HB2 := Aside0.mk (below_step (by repeat (first | exact Below.refl _ _ | apply below_alloc | apply pw_below_drewN | apply below_drew1)) hb2); (try (have HZ := Aside0.mk ((hb2.block (w1.heap.size + 1) (by simp)).trans (new2 w1 (.cells #[.int .i64 t.kind, .string (baS t.text), .int .i64 t.val, .int .i64 t.at'] 65) (.cells #[.int .i64 0, .int .i64 0, .int .i64 0] 78))); have z0 := zcell HZ.out 0 (by decide); have z1 := zcell HZ.out 1 (by decide); have z2 := zcell HZ.out 2 (by decide); have y0 := blk_frozen HZ.out 0; have y1 := blk_frozen HZ.out 1; have y2 := blk_frozen HZ.out 2)); clear htab hb2)
        all_goals (try go_wp2_with fail)
        all_goals go_meet
        all_goals first
          | exact ⟨_, rfl, rfl, ⟨⟨heap_new _ _ _ rfl⟩⟩, ⟨below_alloc (below_step (by repeat (first | exact Below.refl _ _ | apply below_alloc | apply pw_below_drewN | apply below_drew1)) HB2.out) _⟩, ⟨HK.out.below (below_alloc (Below.refl _ _) _)⟩⟩
          | exact ⟨_, rfl, rfl, ⟨⟨blk_put (blk_put (blk_put HZ.out 0 _ rfl) 1 _ rfl) 2 _ rfl⟩⟩, ⟨below_set (below_set (below_set (below_step (by repeat (first | exact Below.refl _ _ | apply below_alloc | apply pw_below_drewN | apply below_drew1)) HB2.out) (Nat.le_succ _)) (Nat.le_succ _)) (Nat.le_succ _)⟩, ⟨⟨blk_far (blk_far (blk_far HK.out.blk (Nat.ne_of_lt (Nat.lt_succ_self _)) _) (Nat.ne_of_lt (Nat.lt_succ_self _)) _) (Nat.ne_of_lt (Nat.lt_succ_self _)) _⟩⟩⟩
      case rest =>
      obtain ⟨o8, rfl, rfl, HOB, HBC, HK⟩ := hcut
      replace HT := Aside0.mk (HT.out.below HBC.out)
      replace HX := Aside0.mk (HX.out.below HBC.out)
      clear HBC
      have k0 := HK.out.c0
      have k1 := HK.out.c1
      have k3 := HK.out.c3
      have o0 := HOB.out.c0
      have o1 := HOB.out.c1
      have o2 := HOB.out.c2
      have ha := HAA.out
      have ht := HTT.out
      clear HAA HTT
      by_cases c4 : t.kind = 4
      · obtain ⟨l1, ns1⟩ := s1
        cases l1 with
        | nil => rw [ht] at c4; exact absurd c4 (by simp [nxtR])
        | cons t2 r =>
          obtain rfl : t = t2 := ht
          simp only at ha
          rw [if_neg (by simp [c4])] at ha
          have b4 : (t.kind != 4) = false := by rw [c4]; rfl
          cases hop : opR t.text with
          | none =>
            rw [hop] at ha
            obtain rfl : Except.ok (x, (t :: r, ns1)) = q := Option.some.inj ha
            obtain rfl : false = ob := by have := HOS.out; rw [hop] at this; exact this
            clear ha c4 hop
            go_wp2_with fail
            go_ret
            exact ⟨_, rfl, HX.out, HT.out⟩
          | some o =>
            rw [hop] at ha
            obtain rfl : true = ob := by have := HOS.out; rw [hop] at this; exact this
            obtain ⟨rfl, rfl, rfl⟩ : p = o.1 ∧ lf = o.2.1 ∧ rt = o.2.2 := by
              have := HOV.out
              unfold opV at this
              rw [hop] at this
              simpa [eq_comm] using this
            simp only at ha
            clear c4 hop HOV HOS
            by_cases cm : most < o.1
            · rw [if_pos cm] at ha
              obtain rfl : Except.ok (x, (t :: r, ns1)) = q := Option.some.inj ha
              have bm : decide (most < o.1) = true := decide_eq_true cm
              clear ha cm
              go_wp2_with fail
              go_ret
              exact ⟨_, rfl, HX.out, HT.out⟩
            · rw [if_neg cm] at ha
              have bm : decide (most < o.1) = false := decide_eq_false cm
              clear cm
              by_cases cl : o.2.1 < rank
              · rw [if_pos cl] at ha
                obtain rfl : Except.error (t.at', 52) = q := Option.some.inj ha
                have bl : decide (o.2.1 < rank) = true := decide_eq_true cl
                clear ha cl
                go_wp2_with fail
                exact ⟨rfl, rfl, HT.out.fr⟩
              · rw [if_neg cl] at ha
                have bl : decide (o.2.1 < rank) = false := decide_eq_false cl
                have HO2 := Aside0.mk HO1.out.tail
                clear cl
                rcases Res.bind_some ha with ⟨y, hu, hq⟩ | ⟨y, hu, rfl⟩
                · have HU := Aside0.mk (upTo_more (show j ≤ k by omega) _ _ _ _ hu)
                  have hp5 := (passed5 e j).1 _ _ _ hu
                  have HO3 := Aside0.mk (HO2.out.passed hp5)
                  have HYL : Aside0 (y.1.length ≤ 80000) := ⟨by have := hp5.len HO2.out; omega⟩
                  have HLEN3 : Aside0 ((funR t.text [x, y.1]).length + 2 * y.2.1.length ≤ 80000) := ⟨by
                    obtain ⟨m, h1, h2, h3, h4, _⟩ := hp5
                    have := HLEN.out
                    simp only at h2 h3
                    rw [h3, List.length_drop, funR_len]
                    simp only [List.flatten_cons, List.flatten_nil, List.append_nil, List.length_append, List.length_cons] at this ⊢
                    omega⟩
                  have HQ := Aside0.mk hq
                  clear ha hu hq hp5
                  go_wp2_with (first | (go_at_call 29; refine (rd_pass ⟨(HT.out.below (by repeat (first | exact Below.refl _ _ | apply below_alloc | apply pw_below_drewN | apply below_drew1))).st⟩).mono ?_; rintro en w1 ⟨rfl, hR⟩; replace HX := Aside0.mk (HX.out.step (by repeat (first | exact Below.refl _ _ | apply below_alloc | apply pw_below_drewN | apply below_drew1)) hR.fr); replace HK := Aside0.mk (HK.out.step (by repeat (first | exact Below.refl _ _ | apply below_alloc | apply pw_below_drewN | apply below_drew1)) hR.fr); replace HOB := Aside0.mk (HOB.out.step (by repeat (first | exact Below.refl _ _ | apply below_alloc | apply pw_below_drewN | apply below_drew1)) hR.fr); replace HT := Aside0.mk (HT.out.step (by repeat (first | exact Below.refl _ _ | apply below_alloc | apply pw_below_drewN | apply below_drew1)) hR); clear hR; (try clear k1 k2 k3 kn0 kn1 kn2); have k1 := HK.out.c1; have k2 := HK.out.c2; have k3 := HK.out.c3; have kn0 := HK.out.lt; have kn1 : ¬ _ = _ := Nat.ne_of_lt kn0; have kn2 : ¬ _ = _ := Nat.ne_of_gt kn0; (try clear o0 o1 o2); have o0 := HOB.out.c0; have o1 := HOB.out.c1; have o2 := HOB.out.c2; have on0 := HOB.out.lt; have on1 : ¬ _ = _ := Nat.ne_of_lt on0))
                  go_cut [5] (fun v5 wx => Aside0 (CelAt w.heap.size wx (funR t.text [x, y.1]) v5) ∧ Aside0 (RdTo B g e y.2 w wx) ∧ Aside0 (OBlk o8 o.1 o.2.1 o.2.2 wx))
                  case first =>
                    go_region_with (first | (go_at_call 38; refine (hC.up o.2.2 (r, ns1) _ _ HU.out ⟨(HT.out.below (by repeat (first | exact Below.refl _ _ | apply below_alloc | apply pw_below_drewN | apply below_drew1))).st, Nat.le_trans hB.out (Nat.le_trans HT.out.fr.size (below_size (by repeat (first | exact Below.refl _ _ | apply below_alloc | apply pw_below_drewN | apply below_drew1)))), HO2.out⟩).mono ?_; rintro en w1 ⟨v1, rfl, hV, hR⟩; obtain ⟨y0A, y0c, hve⟩ := hV.slice; subst hve; replace hV := hV.low (Nat.le_trans HT.out.fr.size (below_size (by repeat (first | exact Below.refl _ _ | apply below_alloc | apply pw_below_drewN | apply below_drew1)))); replace HX := Aside0.mk (HX.out.step (by repeat (first | exact Below.refl _ _ | apply below_alloc | apply pw_below_drewN | apply below_drew1)) hR.fr); replace HK := Aside0.mk (HK.out.step (by repeat (first | exact Below.refl _ _ | apply below_alloc | apply pw_below_drewN | apply below_drew1)) hR.fr); replace HOB := Aside0.mk (HOB.out.step (by repeat (first | exact Below.refl _ _ | apply below_alloc | apply pw_below_drewN | apply below_drew1)) hR.fr); replace HT := Aside0.mk (HT.out.step (by repeat (first | exact Below.refl _ _ | apply below_alloc | apply pw_below_drewN | apply below_drew1)) hR); clear hR; (try clear k1 k2 k3 kn0 kn1 kn2); have k1 := HK.out.c1; have k2 := HK.out.c2; have k3 := HK.out.c3; have kn0 := HK.out.lt; have kn1 : ¬ _ = _ := Nat.ne_of_lt kn0; have kn2 : ¬ _ = _ := Nat.ne_of_gt kn0; have HY := Aside0.mk hV; clear hV; (try clear o0 o1 o2); have o0 := HOB.out.c0; have o1 := HOB.out.c1; have o2 := HOB.out.c2; have on0 := HOB.out.lt; have on1 : ¬ _ = _ := Nat.ne_of_lt on0) | (go_at_call 47; refine (rd_compound t.text [x, y.1] (by have := HLEN.out; have := HYL.out; simp; omega) rfl (Nat.le_refl 2) (lit_C [Value.slice xA x.length xc, Value.slice y0A y.1.length y0c] [x, y.1] rfl (by simp) (B := w.heap.size) (fun j hj => by rcases (show j = 0 ∨ j = 1 by simp at hj; omega) with rfl | rfl; exact HX.out; exact HY.out)) (B := w.heap.size) (Nat.le_trans HT.out.fr.size (below_size (by repeat (first | exact Below.refl _ _ | apply below_alloc | apply pw_below_drewN | apply below_drew1))))).mono ?_; rintro en w1 ⟨v1, rfl, hV, hb⟩; obtain ⟨c0A, c0c, hve⟩ := hV.slice; subst hve; replace HOB := Aside0.mk (HOB.out.below (below_step (by repeat (first | exact Below.refl _ _ | apply below_alloc | apply pw_below_drewN | apply below_drew1)) hb)); replace HT := Aside0.mk (HT.out.below (below_step (by repeat (first | exact Below.refl _ _ | apply below_alloc | apply pw_below_drewN | apply below_drew1)) hb)); have HV := Aside0.mk hV; clear hb hV))
                    all_goals (try go_wp2_with fail)
                    all_goals go_meet
                    all_goals exact ⟨HV, HT, HOB⟩
                  case rest =>
                  obtain ⟨HV, HT, HOB⟩ := hcut
                  have o0 := HOB.out.c0
                  go_wp2_with fail
                  go_roundg j
                  case measure => omega
                  case rel => exact ⟨_, _, _, rfl, by omega, HQ, HV, HT, HO3, HLEN3⟩
                · have HU := Aside0.mk (upTo_more (show j ≤ k by omega) _ _ _ _ hu)
                  clear ha hu
                  go_wp2_with (first | (go_at_call 29; refine (rd_pass ⟨(HT.out.below (by repeat (first | exact Below.refl _ _ | apply below_alloc | apply pw_below_drewN | apply below_drew1))).st⟩).mono ?_; rintro en w1 ⟨rfl, hR⟩; replace HX := Aside0.mk (HX.out.step (by repeat (first | exact Below.refl _ _ | apply below_alloc | apply pw_below_drewN | apply below_drew1)) hR.fr); replace HK := Aside0.mk (HK.out.step (by repeat (first | exact Below.refl _ _ | apply below_alloc | apply pw_below_drewN | apply below_drew1)) hR.fr); replace HOB := Aside0.mk (HOB.out.step (by repeat (first | exact Below.refl _ _ | apply below_alloc | apply pw_below_drewN | apply below_drew1)) hR.fr); replace HT := Aside0.mk (HT.out.step (by repeat (first | exact Below.refl _ _ | apply below_alloc | apply pw_below_drewN | apply below_drew1)) hR); clear hR; (try clear k1 k2 k3 kn0 kn1 kn2); have k1 := HK.out.c1; have k2 := HK.out.c2; have k3 := HK.out.c3; have kn0 := HK.out.lt; have kn1 : ¬ _ = _ := Nat.ne_of_lt kn0; have kn2 : ¬ _ = _ := Nat.ne_of_gt kn0; (try clear o0 o1 o2); have o0 := HOB.out.c0; have o1 := HOB.out.c1; have o2 := HOB.out.c2; have on0 := HOB.out.lt; have on1 : ¬ _ = _ := Nat.ne_of_lt on0))
                  refine wp_region_any (by kernel_rfl) ?_
                  try (change wpAny _ _ _ _ _ _ _ (World.drew _))
                  refine wpAny_take (i := 0) (v := ?_) rfl (by kernel_rfl) (by kernel_rfl) (by kernel_rfl) (fun _ _ _ h => h) (Or.inl ⟨by rfl, ?_⟩) ?_
                  rotate_left
                  · intro w
                    go_simp
                    try with_reducible rfl
                  refine wpAny_take (i := 2) (v := ?_) rfl (by kernel_rfl) (by kernel_rfl) (by kernel_rfl) (fun _ _ _ h => h) (Or.inl ⟨by rfl, ?_⟩) ?_
                  rotate_left
                  · intro w
                    go_simp
                    try with_reducible rfl
                  refine wpAny_take (i := 3) (v := ?_) rfl (by kernel_rfl) (by kernel_rfl) (by kernel_rfl) (fun _ _ _ h => h) (Or.inl ⟨by rfl, ?_⟩) ?_
                  rotate_left
                  · intro w
                    go_simp
                    try with_reducible rfl
                  refine wpAny_take (i := 4) (v := ?_) rfl (by kernel_rfl) (by kernel_rfl) (by kernel_rfl) (fun _ _ _ h => h) (Or.inl ⟨by rfl, ?_⟩) ?_
                  rotate_left
                  · intro w
                    go_simp
                    try with_reducible rfl
                  refine wpAny_ready (rs := [1, 5]) (by kernel_rfl) (by simp) ?_
                  refine AllReady.cons rfl (fun K hK => ?_) (AllReady.cons rfl (fun K hK => ?_) AllReady.nil)
                  · go_simp
                    refine hK _ _ ?_
                    clear hK K
                    refine wpAny_ready (rs := [5]) (by kernel_rfl) (by simp) ?_
                    refine AllReady.cons rfl (fun K hK => ?_) AllReady.nil
                    go_simp
                    refine hK _ _ ?_
                    clear hK K
                    refine wpAny_ready (rs := [6]) (by kernel_rfl) (by simp) ?_
                    refine AllReady.cons rfl (fun K hK => ?_) AllReady.nil
                    go_simp
                    go_wp2_with (go_at_call 38; refine (hC.up o.2.2 (r, ns1) _ _ HU.out ⟨(HT.out.below (by repeat (first | exact Below.refl _ _ | apply below_alloc | apply pw_below_drewN | apply below_drew1))).st, Nat.le_trans hB.out (Nat.le_trans HT.out.fr.size (below_size (by repeat (first | exact Below.refl _ _ | apply below_alloc | apply pw_below_drewN | apply below_drew1)))), HO2.out⟩).mono ?_; rintro en w1 ⟨rfl, hF⟩; have HF := Aside0.mk ((HT.out.below (by repeat (first | exact Below.refl _ _ | apply below_alloc | apply pw_below_drewN | apply below_drew1))).fr.trans hF); clear hF; exact ⟨rfl, rfl, HF.out⟩)
                  · go_simp
                    refine hK _ _ ?_
                    clear hK K
                    refine wpAny_ready (rs := [1, 6]) (by kernel_rfl) (by simp) ?_
                    refine AllReady.cons rfl (fun K hK => ?_) (AllReady.cons rfl (fun K hK => ?_) AllReady.nil)
                    · go_simp
                      refine hK _ _ ?_
                      clear hK K
                      refine wpAny_ready (rs := [6]) (by kernel_rfl) (by simp) ?_
                      refine AllReady.cons rfl (fun K hK => ?_) AllReady.nil
                      go_simp
                      go_wp2_with (go_at_call 38; refine (hC.up o.2.2 (r, ns1) _ _ HU.out ⟨(HT.out.below (by repeat (first | exact Below.refl _ _ | apply below_alloc | apply pw_below_drewN | apply below_drew1))).st, Nat.le_trans hB.out (Nat.le_trans HT.out.fr.size (below_size (by repeat (first | exact Below.refl _ _ | apply below_alloc | apply pw_below_drewN | apply below_drew1)))), HO2.out⟩).mono ?_; rintro en w1 ⟨rfl, hF⟩; have HF := Aside0.mk ((HT.out.below (by repeat (first | exact Below.refl _ _ | apply below_alloc | apply pw_below_drewN | apply below_drew1))).fr.trans hF); clear hF; exact ⟨rfl, rfl, HF.out⟩)
                    · go_simp
                      go_wp2_with (go_at_call 38; refine (hC.up o.2.2 (r, ns1) _ _ HU.out ⟨(HT.out.below (by repeat (first | exact Below.refl _ _ | apply below_alloc | apply pw_below_drewN | apply below_drew1))).st, Nat.le_trans hB.out (Nat.le_trans HT.out.fr.size (below_size (by repeat (first | exact Below.refl _ _ | apply below_alloc | apply pw_below_drewN | apply below_drew1)))), HO2.out⟩).mono ?_; rintro en w1 ⟨rfl, hF⟩; have HF := Aside0.mk ((HT.out.below (by repeat (first | exact Below.refl _ _ | apply below_alloc | apply pw_below_drewN | apply below_drew1))).fr.trans hF); clear hF; exact ⟨rfl, rfl, HF.out⟩)
      · have hq2 : Except.ok (x, s1) = q := by
          match hs : s1.1 with
          | [] => rw [hs] at ha; exact Option.some.inj ha
          | t2 :: r =>
            rw [hs] at ha ht
            obtain rfl : t = t2 := ht
            simp only at ha
            rw [if_pos c4] at ha
            exact Option.some.inj ha
        subst hq2
        have b4 : (t.kind != 4) = true := by simpa using c4
        clear ha ht c4
        go_wp2_with fail
        go_ret
        exact ⟨_, rfl, HX.out, HT.out⟩
  · have HU := Aside0.mk hu
    clear hq hu hP
    go_enter Tryd.func38, Tryd.ntmps38
    go_wp2_with (first | (go_at_call 46; refine (hC.bg s _ _ HU.out ⟨(HT.out.below (by repeat (first | exact Below.refl _ _ | apply below_alloc | apply pw_below_drewN | apply below_drew1))).st, Nat.le_trans hB.out (Nat.le_trans HT.out.fr.size (below_size (by repeat (first | exact Below.refl _ _ | apply below_alloc | apply pw_below_drewN | apply below_drew1)))), HOK.out⟩).mono ?_; rintro en w1 ⟨rfl, hF⟩; have HF := Aside0.mk ((HT.out.below (by repeat (first | exact Below.refl _ _ | apply below_alloc | apply pw_below_drewN | apply below_drew1))).fr.trans hF); clear hF))
    exact ⟨rfl, rfl, HF.out⟩
end Go.Proofs.YthdccdbiichabaaDoor.P
/- A whole term, and a text's reader: the contracts of package read's reader.whole and open. No condition. Printed by wip/gen/mkrdc.py. -/
namespace Go.Proofs.YthdccdbiichabaaDoor.P
open Go.RowKit Go.Proofs.YthdccdbiichabaaDoorW.PrintWords Go.Proofs.YthdccdbiichabaaDoorW.PrintLast Go.Proofs.YthdccdbiichabaaDoorW.PrintMore
set_option linter.unusedVariables false
set_option linter.unusedSimpArgs false

theorem con_all (B g : Nat) (e : Int) (k : Nat) : Con B g e k := by
  induction k with
  | zero => exact ⟨fun _ _ _ _ h _ => (by rw [upToR] at h; cases h), fun _ _ _ h _ => (by rw [beginR] at h; cases h), fun _ _ _ h _ => (by rw [rowR] at h; cases h), fun _ _ _ h _ => (by rw [listLR] at h; cases h)⟩
  | succ k ih => exact ⟨rd_upTo ih, rd_begin ih, rd_row ih, rd_list ih⟩
theorem CelAt.head {b : Nat} {w : World} {y : Cel} {x : List Cel} {A : Option Addr} {n c : Nat} (h : CelAt b w (y :: x) (.slice A n c)) : ∃ ad, A = some ad ∧ w.cell? ad = some (.int .i64 y.kind) ∧ ad.add 0 = ad := by
  obtain ⟨ad, e1, hx, _⟩ := at_T41 h.reads.2 0 (by omega) (by simp)
  have had0 : ad.add 0 = ad := by simp [Addr.add]
  rw [show (0 : Int).toNat * 3 = 0 from rfl, had0] at hx
  exact ⟨ad, e1, hx, had0⟩
theorem fld_at (a b c d : Value) (w : World) : (Instr.field 65 (.agg #[a, b, c, d]) 3).run Tryd.prog w = .ok d w := by kernel_rfl
theorem fld_kind (a b c d : Value) (w : World) : (Instr.field 65 (.agg #[a, b, c, d]) 0).run Tryd.prog w = .ok a w := by kernel_rfl
theorem rightR_pos {x : List Cel} (h : rightR x = true) : ∃ y t, x = y :: t := by
  cases x with
  | nil => cases h
  | cons y t => exact ⟨y, t, rfl⟩

set_option maxHeartbeats 16000000 in
set_option maxRecDepth 100000 in
theorem rd_whole {B g : Nat} {e : Int} {k : Nat} (atom : Bool) (s : RS) (q : Except (Int × Int) (List Cel × RS)) (w : World) (hq : wholeR k e atom s = some q) (hP : Pre B g e s w) :
    Calls Tryd.prog 27 #[.pointer (some ⟨g, 0, none⟩), .bool atom] w (RdEnd B g e (CelAt w.heap.size) w q) := by
  have hC := con_all B g e k
  have hfl := fld_at
  rw [wholeR] at hq
  have hB := Aside0.mk hP.base
  have HOK := Aside0.mk hP.ok
  have HT : Aside0 (RdTo B g e s w w) := ⟨⟨hP.st, Fr.refl _ _ _⟩⟩
  obtain ⟨t, ht⟩ : ∃ t : Tok, t = nxtR e s.1 := ⟨_, rfl⟩
  have HN := Lib.hid ht
  have hpl : placeR e s.1 = t.at' := by rw [ht]; cases s.1 <;> rfl
  rw [hpl] at hq
  clear ht hpl
  rcases Res.bind_some hq with ⟨x, hu, hq⟩ | ⟨x, hu, rfl⟩
  · have HU := Aside0.mk hu
    have HW := Aside0.mk ((celW5 e k).1 _ _ _ hu HOK.out).2
    have HXL : Aside0 (x.1.length ≤ 80000) := ⟨by have := ((passed5 e k).1 _ _ _ hu).len HOK.out; omega⟩
    clear hu hP
    cases hr : rightR x.1 with
    | false =>
      rw [hr, if_pos rfl] at hq
      obtain rfl : Except.error (t.at', 2) = q := Option.some.inj hq
      have HR := Lib.hid hr
      clear hq hr
      go_enter Tryd.func27, Tryd.ntmps27
      go_wp2_with (first | (go_at_call 28; have hN_ := HN; clear HN; refine (rd_next ⟨(HT.out.below (by repeat (first | exact Below.refl _ _ | apply below_alloc | apply pw_below_drewN | apply below_drew1))).st⟩).mono ?_; rw [← hN_.out, tokV]; clear hN_; rintro en w1 ⟨rfl, hb⟩; replace HT := Aside0.mk (HT.out.below (below_step (by repeat (first | exact Below.refl _ _ | apply below_alloc | apply pw_below_drewN | apply below_drew1)) hb)); clear hb) | (go_at_call 38; refine (hC.up 700 s _ _ HU.out ⟨(HT.out.below (by repeat (first | exact Below.refl _ _ | apply below_alloc | apply pw_below_drewN | apply below_drew1))).st, Nat.le_trans hB.out (Nat.le_trans HT.out.fr.size (below_size (by repeat (first | exact Below.refl _ _ | apply below_alloc | apply pw_below_drewN | apply below_drew1)))), HOK.out⟩).mono ?_; rintro en w1 ⟨v1, rfl, hV, hR⟩; obtain ⟨v1A, v1c, hve⟩ := hV.slice; subst hve; replace hV := hV.low (Nat.le_trans HT.out.fr.size (below_size (by repeat (first | exact Below.refl _ _ | apply below_alloc | apply pw_below_drewN | apply below_drew1)))); replace HT := Aside0.mk (HT.out.step (by repeat (first | exact Below.refl _ _ | apply below_alloc | apply pw_below_drewN | apply below_drew1)) hR); clear hR; have HX := Aside0.mk hV; clear hV) | (go_at_call 39; refine (t_Right x.1 HW (by have := HXL.out; omega) _ _ ⟨(HX.out.below (by repeat (first | exact Below.refl _ _ | apply below_alloc | apply pw_below_drewN | apply below_drew1))).reads.1⟩ _ ⟨(HX.out.below (by repeat (first | exact Below.refl _ _ | apply below_alloc | apply pw_below_drewN | apply below_drew1))).reads.2⟩).mono ?_; rw [HR.out]; rintro en w1 ⟨rfl, hb⟩; replace HX := Aside0.mk (HX.out.below (below_step (by repeat (first | exact Below.refl _ _ | apply below_alloc | apply pw_below_drewN | apply below_drew1)) hb)); replace HT := Aside0.mk (HT.out.below (below_step (by repeat (first | exact Below.refl _ _ | apply below_alloc | apply pw_below_drewN | apply below_drew1)) hb)); clear hb))
      exact ⟨rfl, rfl, HT.out.fr⟩
    | true =>
      rw [hr, if_neg (by decide)] at hq
      obtain ⟨y, ys, hy⟩ := rightR_pos hr
      have HR := Lib.hid hr
      obtain ⟨x1, x2⟩ := x
      simp only at hy
      subst hy
      clear hr
      cases atom with
      | false =>
        rw [if_neg (by simp)] at hq
        obtain rfl : Except.ok (y :: ys, x2) = q := Option.some.inj hq
        clear hq
        go_enter Tryd.func27, Tryd.ntmps27
        go_wp2_with (first | (go_at_call 28; have hN_ := HN; clear HN; refine (rd_next ⟨(HT.out.below (by repeat (first | exact Below.refl _ _ | apply below_alloc | apply pw_below_drewN | apply below_drew1))).st⟩).mono ?_; rw [← hN_.out, tokV]; clear hN_; rintro en w1 ⟨rfl, hb⟩; replace HT := Aside0.mk (HT.out.below (below_step (by repeat (first | exact Below.refl _ _ | apply below_alloc | apply pw_below_drewN | apply below_drew1)) hb)); clear hb) | (go_at_call 38; refine (hC.up 700 s _ _ HU.out ⟨(HT.out.below (by repeat (first | exact Below.refl _ _ | apply below_alloc | apply pw_below_drewN | apply below_drew1))).st, Nat.le_trans hB.out (Nat.le_trans HT.out.fr.size (below_size (by repeat (first | exact Below.refl _ _ | apply below_alloc | apply pw_below_drewN | apply below_drew1)))), HOK.out⟩).mono ?_; rintro en w1 ⟨v1, rfl, hV, hR⟩; obtain ⟨v1A, v1c, hve⟩ := hV.slice; subst hve; replace hV := hV.low (Nat.le_trans HT.out.fr.size (below_size (by repeat (first | exact Below.refl _ _ | apply below_alloc | apply pw_below_drewN | apply below_drew1)))); replace HT := Aside0.mk (HT.out.step (by repeat (first | exact Below.refl _ _ | apply below_alloc | apply pw_below_drewN | apply below_drew1)) hR); clear hR; have HX := Aside0.mk hV; clear hV) | (go_at_call 39; refine (t_Right (y :: ys) HW (by have := HXL.out; omega) _ _ ⟨(HX.out.below (by repeat (first | exact Below.refl _ _ | apply below_alloc | apply pw_below_drewN | apply below_drew1))).reads.1⟩ _ ⟨(HX.out.below (by repeat (first | exact Below.refl _ _ | apply below_alloc | apply pw_below_drewN | apply below_drew1))).reads.2⟩).mono ?_; rw [HR.out]; rintro en w1 ⟨rfl, hb⟩; replace HX := Aside0.mk (HX.out.below (below_step (by repeat (first | exact Below.refl _ _ | apply below_alloc | apply pw_below_drewN | apply below_drew1)) hb)); replace HT := Aside0.mk (HT.out.below (below_step (by repeat (first | exact Below.refl _ _ | apply below_alloc | apply pw_below_drewN | apply below_drew1)) hb)); clear hb; obtain ⟨ax, hE_, hx0, had0⟩ := HX.out.head; subst hE_; have hys : (0 : Int) < ((ys.length + 1 : Nat) : Int) := (by omega)))
        go_ret
        exact ⟨_, rfl, HX.out, HT.out⟩
      | true =>
        by_cases hk : y.kind = 3
        · rw [if_neg (by simp [hk])] at hq
          obtain rfl : Except.ok (y :: ys, x2) = q := Option.some.inj hq
          have bk : (y.kind != 3) = false := by rw [hk]; rfl
          clear hq hk
          go_enter Tryd.func27, Tryd.ntmps27
          go_wp2_with (first | (go_at_call 28; have hN_ := HN; clear HN; refine (rd_next ⟨(HT.out.below (by repeat (first | exact Below.refl _ _ | apply below_alloc | apply pw_below_drewN | apply below_drew1))).st⟩).mono ?_; rw [← hN_.out, tokV]; clear hN_; rintro en w1 ⟨rfl, hb⟩; replace HT := Aside0.mk (HT.out.below (below_step (by repeat (first | exact Below.refl _ _ | apply below_alloc | apply pw_below_drewN | apply below_drew1)) hb)); clear hb) | (go_at_call 38; refine (hC.up 700 s _ _ HU.out ⟨(HT.out.below (by repeat (first | exact Below.refl _ _ | apply below_alloc | apply pw_below_drewN | apply below_drew1))).st, Nat.le_trans hB.out (Nat.le_trans HT.out.fr.size (below_size (by repeat (first | exact Below.refl _ _ | apply below_alloc | apply pw_below_drewN | apply below_drew1)))), HOK.out⟩).mono ?_; rintro en w1 ⟨v1, rfl, hV, hR⟩; obtain ⟨v1A, v1c, hve⟩ := hV.slice; subst hve; replace hV := hV.low (Nat.le_trans HT.out.fr.size (below_size (by repeat (first | exact Below.refl _ _ | apply below_alloc | apply pw_below_drewN | apply below_drew1)))); replace HT := Aside0.mk (HT.out.step (by repeat (first | exact Below.refl _ _ | apply below_alloc | apply pw_below_drewN | apply below_drew1)) hR); clear hR; have HX := Aside0.mk hV; clear hV) | (go_at_call 39; refine (t_Right (y :: ys) HW (by have := HXL.out; omega) _ _ ⟨(HX.out.below (by repeat (first | exact Below.refl _ _ | apply below_alloc | apply pw_below_drewN | apply below_drew1))).reads.1⟩ _ ⟨(HX.out.below (by repeat (first | exact Below.refl _ _ | apply below_alloc | apply pw_below_drewN | apply below_drew1))).reads.2⟩).mono ?_; rw [HR.out]; rintro en w1 ⟨rfl, hb⟩; replace HX := Aside0.mk (HX.out.below (below_step (by repeat (first | exact Below.refl _ _ | apply below_alloc | apply pw_below_drewN | apply below_drew1)) hb)); replace HT := Aside0.mk (HT.out.below (below_step (by repeat (first | exact Below.refl _ _ | apply below_alloc | apply pw_below_drewN | apply below_drew1)) hb)); clear hb; obtain ⟨ax, hE_, hx0, had0⟩ := HX.out.head; subst hE_; have hys : (0 : Int) < ((ys.length + 1 : Nat) : Int) := (by omega)))
          go_ret
          exact ⟨_, rfl, HX.out, HT.out⟩
        · rw [if_pos (by simpa using hk)] at hq
          obtain rfl : Except.error (t.at', 50) = q := Option.some.inj hq
          have bk : (y.kind != 3) = true := by simpa using hk
          clear hq hk
          go_enter Tryd.func27, Tryd.ntmps27
          go_wp2_with (first | (go_at_call 28; have hN_ := HN; clear HN; refine (rd_next ⟨(HT.out.below (by repeat (first | exact Below.refl _ _ | apply below_alloc | apply pw_below_drewN | apply below_drew1))).st⟩).mono ?_; rw [← hN_.out, tokV]; clear hN_; rintro en w1 ⟨rfl, hb⟩; replace HT := Aside0.mk (HT.out.below (below_step (by repeat (first | exact Below.refl _ _ | apply below_alloc | apply pw_below_drewN | apply below_drew1)) hb)); clear hb) | (go_at_call 38; refine (hC.up 700 s _ _ HU.out ⟨(HT.out.below (by repeat (first | exact Below.refl _ _ | apply below_alloc | apply pw_below_drewN | apply below_drew1))).st, Nat.le_trans hB.out (Nat.le_trans HT.out.fr.size (below_size (by repeat (first | exact Below.refl _ _ | apply below_alloc | apply pw_below_drewN | apply below_drew1)))), HOK.out⟩).mono ?_; rintro en w1 ⟨v1, rfl, hV, hR⟩; obtain ⟨v1A, v1c, hve⟩ := hV.slice; subst hve; replace hV := hV.low (Nat.le_trans HT.out.fr.size (below_size (by repeat (first | exact Below.refl _ _ | apply below_alloc | apply pw_below_drewN | apply below_drew1)))); replace HT := Aside0.mk (HT.out.step (by repeat (first | exact Below.refl _ _ | apply below_alloc | apply pw_below_drewN | apply below_drew1)) hR); clear hR; have HX := Aside0.mk hV; clear hV) | (go_at_call 39; refine (t_Right (y :: ys) HW (by have := HXL.out; omega) _ _ ⟨(HX.out.below (by repeat (first | exact Below.refl _ _ | apply below_alloc | apply pw_below_drewN | apply below_drew1))).reads.1⟩ _ ⟨(HX.out.below (by repeat (first | exact Below.refl _ _ | apply below_alloc | apply pw_below_drewN | apply below_drew1))).reads.2⟩).mono ?_; rw [HR.out]; rintro en w1 ⟨rfl, hb⟩; replace HX := Aside0.mk (HX.out.below (below_step (by repeat (first | exact Below.refl _ _ | apply below_alloc | apply pw_below_drewN | apply below_drew1)) hb)); replace HT := Aside0.mk (HT.out.below (below_step (by repeat (first | exact Below.refl _ _ | apply below_alloc | apply pw_below_drewN | apply below_drew1)) hb)); clear hb; obtain ⟨ax, hE_, hx0, had0⟩ := HX.out.head; subst hE_; have hys : (0 : Int) < ((ys.length + 1 : Nat) : Int) := (by omega)))
          exact ⟨rfl, rfl, HT.out.fr⟩
  · have HU := Aside0.mk hu
    clear hq hu hP
    go_enter Tryd.func27, Tryd.ntmps27
    go_wp2_with (first | (go_at_call 28; have hN_ := HN; clear HN; refine (rd_next ⟨(HT.out.below (by repeat (first | exact Below.refl _ _ | apply below_alloc | apply pw_below_drewN | apply below_drew1))).st⟩).mono ?_; rw [← hN_.out, tokV]; clear hN_; rintro en w1 ⟨rfl, hb⟩; replace HT := Aside0.mk (HT.out.below (below_step (by repeat (first | exact Below.refl _ _ | apply below_alloc | apply pw_below_drewN | apply below_drew1)) hb)); clear hb) | (go_at_call 38; refine (hC.up 700 s _ _ HU.out ⟨(HT.out.below (by repeat (first | exact Below.refl _ _ | apply below_alloc | apply pw_below_drewN | apply below_drew1))).st, Nat.le_trans hB.out (Nat.le_trans HT.out.fr.size (below_size (by repeat (first | exact Below.refl _ _ | apply below_alloc | apply pw_below_drewN | apply below_drew1)))), HOK.out⟩).mono ?_; rintro en w1 ⟨rfl, hF⟩; have HF := Aside0.mk ((HT.out.below (by repeat (first | exact Below.refl _ _ | apply below_alloc | apply pw_below_drewN | apply below_drew1))).fr.trans hF); clear hF))
    exact ⟨rfl, rfl, HF.out⟩

end Go.Proofs.YthdccdbiichabaaDoor.P
/- What the lexer's tokens are like, as package read's walks need it; how many rounds are enough. In plain Lean. No condition. -/
namespace Go.Proofs.YthdccdbiichabaaDoor.P
set_option linter.unusedVariables false

theorem take_span (p : UInt8 → Bool) (l : List UInt8) : l.take (spanP p l) = l.takeWhile p := (List.prefix_iff_eq_take.1 (List.takeWhile_prefix p)).symm
theorem all_while (p : UInt8 → Bool) (l : List UInt8) : ∀ c ∈ l.takeWhile p, p c = true := by
  induction l with
  | nil => intro c h; cases h
  | cons a l ih =>
    intro c h
    rw [List.takeWhile_cons] at h
    split at h
    · rename_i ha
      rcases List.mem_cons.1 h with rfl | h
      · exact ha
      · exact ih c h
    · cases h
def plainC (c : UInt8) : Bool := decide (32 ≤ c) && decide (c ≤ 126) && c != 39
theorem letter_plain (c : UInt8) : (isLetter c = true → plainC c = true) ∧ (isSign c = true → plainC c = true) ∧ (isSmall c = true → isLetter c = true) :=
  u8_prop (fun c => (isLetter c = true → plainC c = true) ∧ (isSign c = true → plainC c = true) ∧ (isSmall c = true → isLetter c = true)) (by decide +kernel) c
theorem nameOK_of {s : List UInt8} (h : ∀ c ∈ s, plainC c = true) (h1 : 1 ≤ s.length) (h2 : s.length ≤ 12) : nameOK s = true := by
  unfold nameOK
  rw [Bool.and_eq_true, Bool.and_eq_true, decide_eq_true_eq, decide_eq_true_eq, List.all_eq_true]
  exact ⟨⟨h, h1⟩, h2⟩
theorem tok_name {c : UInt8} {r : List UInt8} {t : Tk} (h : Kind7 c r t) (hk : t.kind = 1 ∨ t.kind = 4) : nameOK t.text = true := by
  cases h with
  | name h hk' ht hv hn hm =>
    have h1 : 1 ≤ t.text.length := by rw [ht, take_span, List.takeWhile_cons, (letter_plain c).2.2 h]; simp
    refine nameOK_of (fun x hx => ?_) h1 ?_
    · rw [ht, take_span] at hx
      exact (letter_plain x).1 (all_while _ _ x hx)
    · rw [ht, take_len]; omega
  | vname h hk' => omega
  | num h hk' => omega
  | quote n h hk' hs h0 h1 h2 hp ht hv hn =>
    have hl : t.text.length = n := by rw [ht, List.length_take]; omega
    refine nameOK_of (fun x hx => ?_) (by omega) (by omega)
    rw [ht] at hx
    have hx1 := List.all_eq_true.1 hp x hx
    rw [← hs, take_span] at hx
    have hx2 := all_while _ _ x hx
    unfold plainC isPlain at *
    rw [hx1, Bool.true_and]
    exact hx2
  | punct h hk' => omega
  | full h he hk' => omega
  | sym h he hk' ht hv hn hm =>
    have h1 : 1 ≤ t.text.length := by rw [ht, take_span, List.takeWhile_cons, h]; simp
    refine nameOK_of (fun x hx => ?_) h1 ?_
    · rw [ht, take_span] at hx
      exact (letter_plain x).2.1 (all_while _ _ x hx)
    · rw [ht, take_len]; omega

/-- The tokens of a text, and no variables yet. -/
theorem lex_ok (l : List UInt8) (ns : List (List UInt8)) (hn : ns.length ≤ 20000) : Ok ((lexAll l).1, ns) := by
  have hb := lexAll_bounds l
  refine ⟨fun t ht => ?_, by simp only; omega⟩
  by_cases hl : l.length ≤ 20000
  · rcases lexAll_cases l hl with ⟨ts, hx, e⟩ | ⟨p, e', hx, e, _⟩
    · rw [e] at ht
      have hbt := hb.2 t (by rw [e]; exact ht)
      obtain ⟨b, h1, h2, h3⟩ := LX_each (Q := fun _ _ t => 0 ≤ t.val ∧ t.val ≤ 2147483647 ∧ (t.kind = 1 ∨ t.kind = 4 → nameOK t.text = true)) l (fun a c r t hd ht => ⟨(tok_limits c r t ht).2.1, (tok_limits c r t ht).2.2.1, fun hk => tok_name (tok_kind c r t ht) hk⟩) hx (by rw [List.drop_zero]) ts rfl t ht
      exact ⟨hbt.1, by omega, h1, h2, h3⟩
    · rw [e] at ht; cases ht
  · rw [lexAll_great l (by omega)] at ht; cases ht
end Go.Proofs.YthdccdbiichabaaDoor.P
