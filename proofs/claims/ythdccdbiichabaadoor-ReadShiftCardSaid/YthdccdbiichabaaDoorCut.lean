import Derived.Test.YthdccdbiichabaaDoorLays
import Derived.Shelf.Strings.Search1
import Derived.Test.YthdccdbiichabaaDoorPx0
import Derived.Lib.OthersKept
import Derived.Laws.RangeAny
import Derived.WalkKit
import Derived.BigCall
import Derived.Lib.Hide
import Derived.Shelf.Pu.ParseUint10At
import Derived.Shelf.Pu.ParseUintEmpty
import Derived.Shelf.Pu.ToErrorRange
import Derived.Shelf.Pu.Lays
import Derived.Shelf.Pu.Lower
import Derived.Lib.Strings
import Derived.Lib.Walk
import Derived.Lib.ConvBytes
import Derived.Lib.AtoiErrMem
import Derived.Lib.ParseIntBMem
import Derived.Laws.Strings3
import Derived.Laws.Closers25
import Derived.Laws.Closers25b
import Derived.BigGuard
import Derived.Test.YthdccdbiichabaaDoorGlob
import Derived.Lib.ParseIntBCases
import Derived.LaidEql
import Derived.IntWalk
/- strings.IndexByte and lex.cutLeft as plain functions on bytes, and their contracts. No condition. -/
namespace Go.Proofs.YthdccdbiichabaaDoor.P
open Go.RowKit Go.Proofs.YthdccdbiichabaaDoorW.PrintWords
set_option linter.unusedVariables false

def strings_IndexByte.f (a0 : ByteArray) (a1 : Int) : Option Int := some (Lib.indexByte a0.data.toList a1.toNat.toUInt8)

theorem strings_IndexByte.calls (a0 : ByteArray) (a1 : Int) (r : Int) (w : World) (h : strings_IndexByte.f a0 a1 = some r) :
    Calls Tryd.prog 57 #[.string a0, .int .u8 a1] w fun e w' => e = .returned (.int .i64 r) ∧ Drawn0 w w' := by
  unfold strings_IndexByte.f at h
  injection h with h
  subst h
  refine (Any.strings_IndexByte Tryd.lays137 a0 a1 w).mono ?_
  rintro e w' ⟨rfl, rfl⟩
  exact ⟨rfl, Drawn0.refl _⟩
end Go.Proofs.YthdccdbiichabaaDoor.P

namespace Go.Proofs.YthdccdbiichabaaDoor.P
open Go.RowKit Go.Proofs.YthdccdbiichabaaDoorW.PrintWords
set_option linter.unusedVariables false

/-- How many bytes of a set a text begins with. -/
def spanN (s set : ByteArray) : Nat := (s.data.toList.takeWhile fun b => set.data.toList.contains b).length
def lex_cutLeft.f (a0 a1 : ByteArray) : Option ByteArray :=
  if a1.data.toList.all (fun b => decide (b.toNat < 128)) = true then some (a0.extract (spanN a0 a1) a0.size) else none

/-- Is a rune among the first so many bytes of a set? -/
def inSet (set : ByteArray) (c : Nat) (k : Nat) : Bool := (set.data.toList.take k).any fun b => c == b.toNat
theorem inSet_zero (set : ByteArray) (c : Nat) : inSet set c 0 = false := by simp [inSet]
theorem inSet_succ (set : ByteArray) (c k : Nat) (h : k < set.size) : inSet set c (k + 1) = (inSet set c k || (c == (set[k]'h).toNat)) := by
  unfold inSet
  rw [List.take_succ_eq_append_getElem (by simpa using h), List.any_append]
  simp
  rfl
theorem inSet_all (set : ByteArray) (b : UInt8) : inSet set b.toNat set.size = set.data.toList.contains b := by
  unfold inSet
  rw [List.take_of_length_le (by simp)]
  rw [Bool.eq_iff_iff]
  simp only [List.any_eq_true, List.contains_iff_mem, beq_iff_eq]
  constructor
  · rintro ⟨x, hx, he⟩
    rwa [UInt8.toNat_inj.mp he]
  · intro hb
    exact ⟨b, hb, rfl⟩
theorem inSet_high (set : ByteArray) (c : Nat) (hs : set.data.toList.all (fun b => decide (b.toNat < 128)) = true) (hc : 128 ≤ c) (k : Nat) : inSet set c k = false := by
  unfold inSet
  rw [List.any_eq_false]
  intro x hx
  have := List.all_eq_true.1 hs x (List.mem_of_mem_take hx)
  simp at this
  simp
  omega

theorem byte_mem (s : ByteArray) (j : Nat) (h : j < s.size) : (s[j]'h) ∈ s.data.toList := by
  have e : (s[j]'h) = s.data[j]'h := rfl
  rw [e]
  exact Array.getElem_mem_toList _

def CutEnd (r : ByteArray) (w : World) (e : Ending) (w' : World) : Prop := e = .returned (.string r) ∧ Below w.heap.size w w'

/-- So far all bytes lay in the set. -/
def SoFar (s set : ByteArray) (pos : Nat) : Prop := pos ≤ s.size ∧ ∀ b ∈ s.data.toList.take pos, set.data.toList.contains b = true

theorem takeWhile_all_take {α : Type} (p : α → Bool) (l : List α) (n : Nat) (hn : n ≤ l.length) (h : ∀ x ∈ l.take n, p x = true) : n ≤ (l.takeWhile p).length := by
  induction l generalizing n with
  | nil => simp at hn; omega
  | cons a l ih =>
    cases n with
    | zero => omega
    | succ n =>
      have ha : p a = true := h a (by simp)
      simp only [List.takeWhile_cons, ha, if_true, List.length_cons]
      have := ih n (by simpa using hn) (fun x hx => h x (by simp [hx]))
      omega
theorem takeWhile_stop {α : Type} (p : α → Bool) (l : List α) (n : Nat) (hn : n < l.length) (h : ∀ x ∈ l.take n, p x = true) (hx : p l[n] = false) : (l.takeWhile p).length = n := by
  induction l generalizing n with
  | nil => simp at hn
  | cons a l ih =>
    cases n with
    | zero => simp at hx; simp [hx]
    | succ n =>
      have ha : p a = true := h a (by simp)
      simp only [List.takeWhile_cons, ha, if_true, List.length_cons]
      have := ih n (by simpa using hn) (fun x hx => h x (by simp [hx])) (by simpa using hx)
      omega
theorem takeWhile_len_le {α : Type} (p : α → Bool) (l : List α) : (l.takeWhile p).length ≤ l.length := by
  induction l with
  | nil => simp
  | cons a l ih => simp only [List.takeWhile_cons]; split <;> simp <;> omega

theorem SoFar.end_ {s set : ByteArray} (h : SoFar s set s.size) : s.extract (spanN s set) s.size = ⟨#[]⟩ := by
  have h1 := takeWhile_all_take (fun b => set.data.toList.contains b) s.data.toList s.size (by simp) (fun b hb => h.2 b hb)
  have h2 := takeWhile_len_le (fun b => set.data.toList.contains b) s.data.toList
  have e : spanN s set = s.size := by
    unfold spanN
    have : s.data.toList.length = s.size := by simp
    omega
  rw [e]
  apply ByteArray.ext
  simp
theorem SoFar.stop {s set : ByteArray} {pos : Nat} (h : SoFar s set pos) (hp : pos < s.size) (hb : set.data.toList.contains (s[pos]'hp) = false) : spanN s set = pos := by
  unfold spanN
  exact takeWhile_stop _ _ pos (by simpa using hp) (fun b hb => h.2 b hb) hb
theorem SoFar.step {s set : ByteArray} {pos : Nat} (h : SoFar s set pos) (hp : pos < s.size) (hb : set.data.toList.contains (s[pos]'hp) = true) : SoFar s set (pos + 1) := by
  refine ⟨hp, fun b hb' => ?_⟩
  rw [List.take_succ_eq_append_getElem (by simpa using hp)] at hb'
  rcases List.mem_append.1 hb' with hb' | hb'
  · exact h.2 b hb'
  · have : b = s[pos]'hp := by
      simp only [List.mem_singleton] at hb'
      rw [hb']
      rfl
    rw [this]; exact hb

set_option maxHeartbeats 4000000 in
set_option maxRecDepth 100000 in
theorem cutLeft_walk (s set : ByteArray) (hset : Hid (set.data.toList.all (fun b => decide (b.toNat < 128)) = true)) (w : World) :
    Calls Tryd.prog 68 #[.string s, .string set] w (CutEnd (s.extract (spanN s set) s.size) w) := by
  go_enter Tryd.func68, Tryd.ntmps68
  go_wp2
  go_loopw [] (fun wr => ∃ pos : Nat, Hid (SoFar s set pos ∧ wr.heap[w.heap.size]? = some (.stringIter s pos)) ∧ Below w.heap.size w wr) (fun wr => s.size - wr.iterPos w.heap.size)
  case atStart =>
    exact ⟨0, ⟨⟨by omega, by simp⟩, by have := World.iter_heap w s 0; simpa using this⟩, (Below.refl _ w).alloc (Nat.le_refl _) _⟩
  case round =>
    obtain ⟨wo, rfl⟩ : ∃ wo : World, wo = wr := ⟨_, rfl⟩
    obtain ⟨pos, H, hbw⟩ := hrel
    obtain ⟨hso, hit⟩ := H.out
    have hsz : w.heap.size < wo.heap.size := (Array.getElem?_eq_some_iff.1 hit).1
    have hmeas : wo.iterPos w.heap.size = pos := by simp [World.iterPos, hit]
    by_cases hp : pos < s.size
    · have hnx : ∀ ty, (Instr.next (.pointer (some ⟨w.heap.size, 0, none⟩)) true ty).run Tryd.prog wo = _ := fun ty => Lib.run_next_any_at wo w.heap.size s pos ty hit hp
      have hd1 := decode_le s pos
      have hit2 := Lib.iterAt_heap wo w.heap.size s pos (pos + (Utf8.decode s pos).2) hit
      have hbw2 := Lib.below_iterAt hbw (k := w.heap.size) (by omega) s (pos + (Utf8.decode s pos).2)
      have hsz2 : w.heap.size < (wo.iterAt w.heap.size s (pos + (Utf8.decode s pos).2)).heap.size := by rw [Lib.iterAt_size]; omega
      have HN : Hid (∀ b, s[pos]? = some b → (Utf8.decode s pos).1 = b.toNat ∧ (Utf8.decode s pos).2 = 1 ∨ 128 ≤ (Utf8.decode s pos).1 ∧ 128 ≤ b.toNat) := by
        refine Lib.hid fun b hb => ?_
        have e : b = s[pos]'hp := by
          rw [getElem?_pos s pos hp] at hb
          exact (Option.some.inj hb).symm
        subst e
        by_cases ha : (s[pos]'hp).toNat < 128
        · left
          rw [decode_ascii s pos hp ha]
          exact ⟨rfl, rfl⟩
        · right
          exact ⟨(decode_high s pos hp (by omega)).1, by omega⟩
      obtain ⟨c, hc⟩ : ∃ c, c = (Utf8.decode s pos).1 := ⟨_, rfl⟩
      obtain ⟨d, hd⟩ : ∃ d, d = (Utf8.decode s pos).2 := ⟨_, rfl⟩
      rw [← hc, ← hd] at hnx HN
      rw [← hd] at hit2 hbw2 hsz2
      rw [← hc] at hd1
      have HM : Hid (wo.iterPos w.heap.size = pos) := Lib.hid hmeas
      have HSO := Lib.hid hso
      have HSET : Hid (set.data.toList.all (fun b => decide (b.toNat < 128)) = true) := hset
      have HIT := Lib.hid hit2
      clear hc hd hit H hso hmeas hit2 hset
      go_wp2
      obtain ⟨W1, hW1⟩ : ∃ W1, W1 = wo.iterAt w.heap.size s (pos + d) := ⟨_, rfl⟩
      rw [← hW1] at hbw2 hsz2 HIT ⊢
      have HW1 := Lib.hid hW1
      clear hW1 hnx
      go_loopw [7] (fun v wr => ∃ (j : Nat) (b : Bool), v = .bool b ∧ Hid (b = inSet set c j ∧ j ≤ set.size ∧ wr.heap[W1.heap.size]? = some (.stringIter set j) ∧ wr.heap[w.heap.size]? = some (.stringIter s (pos + d))) ∧ Below w.heap.size w wr) (fun _ wr => set.size - wr.iterPos W1.heap.size)
      case atStart =>
        refine ⟨0, false, rfl, ⟨(inSet_zero set c).symm, by omega, by have := World.iter_heap W1 set 0; simpa using this, ?_⟩, hbw2.alloc (by omega) _⟩
        have hh := HIT.out
        have hlt : w.heap.size < W1.heap.size := hsz2
        show (W1.heap.push _)[w.heap.size]? = _
        rw [Array.getElem?_push_lt hlt, ← Array.getElem?_eq_getElem hlt]
        exact hh
      case round =>
        obtain ⟨j, b, rfl, HH, hbi⟩ := hrel
        obtain ⟨hb, hj, hit3, hit4⟩ := HH.out
        have hsz3 : W1.heap.size < wr.heap.size := (Array.getElem?_eq_some_iff.1 hit3).1
        have hmeas : wr.iterPos W1.heap.size = j := by simp [World.iterPos, hit3]
        by_cases hpj : j < set.size
        · have hnx : ∀ ty, (Instr.next (.pointer (some ⟨W1.heap.size, 0, none⟩)) true ty).run Tryd.prog wr = _ := fun ty => Lib.run_next_any_at wr W1.heap.size set j ty hit3 hpj
          have ha : (set[j]'hpj).toNat < 128 := by
            have := List.all_eq_true.1 HSET.out (set[j]'hpj) (byte_mem set j hpj)
            simpa using this
          have hit5 := Lib.iterAt_heap wr W1.heap.size set j (j + (Utf8.decode set j).2) hit3
          have hit6 := (Lib.iterAt_other wr W1.heap.size w.heap.size set (j + (Utf8.decode set j).2) (by omega)).trans hit4
          have hbi2 := Lib.below_iterAt hbi (k := W1.heap.size) (by omega) set (j + (Utf8.decode set j).2)
          rw [decode_ascii set j hpj ha] at hnx hit5 hit6 hbi2
          simp only at hnx hit5 hit6 hbi2
          have hs1 := inSet_succ set c j hpj
          have HH2 : Hid (∀ b', b' = (b || (c == (set[j]'hpj).toNat)) → b' = inSet set c (j + 1) ∧ j + 1 ≤ set.size ∧ (wr.iterAt W1.heap.size set (j + 1)).heap[W1.heap.size]? = some (.stringIter set (j + 1)) ∧ (wr.iterAt W1.heap.size set (j + 1)).heap[w.heap.size]? = some (.stringIter s (pos + d))) :=
            Lib.hid fun b' hb' => ⟨by rw [hb', hs1, hb], hpj, hit5, hit6⟩
          have HM2 : Hid ((wr.iterAt W1.heap.size set (j + 1)).iterPos W1.heap.size = j + 1 ∧ wr.iterPos W1.heap.size = j) := Lib.hid ⟨by simp [World.iterPos, hit5], hmeas⟩
          generalize (set[j]'hpj).toNat = q at hnx HH2 ha
          clear hit5 hit6 hs1 hmeas hb hit3 hit4 HH
          cases b with
          | true =>
            go_wp2
            go_roundw
            case rel => exact ⟨j + 1, true, rfl, Lib.hid (HH2.out true (by simp)), hbi2⟩
            case measure => rw [HM2.out.1, HM2.out.2]; omega
          | false =>
            by_cases hcq : c = q
            · have hq1 : ((c : Int) == (q : Int)) = true := by rw [hcq]; simp
              have HQ := Lib.hid hcq
              clear hcq
              go_wp2
              go_roundw
              case rel => exact ⟨j + 1, true, rfl, Lib.hid (HH2.out true (by simp [HQ.out])), hbi2⟩
              case measure => rw [HM2.out.1, HM2.out.2]; omega
            · have hq1 : ((c : Int) == (q : Int)) = false := by
                rw [beq_eq_false_iff_ne]; omega
              have HQ := Lib.hid hcq
              clear hcq
              go_wp2
              go_roundw
              case rel => exact ⟨j + 1, false, rfl, Lib.hid (HH2.out false (by simp [HQ.out])), hbi2⟩
              case measure => rw [HM2.out.1, HM2.out.2]; omega
        · have hnx : ∀ ty, (Instr.next (.pointer (some ⟨W1.heap.size, 0, none⟩)) true ty).run Tryd.prog wr = _ := fun ty => Lib.run_next_end_at wr W1.heap.size set j ty hit3 hpj
          have hje : j = set.size := by omega
          have HB : Hid (b = inSet set c set.size) := Lib.hid (by rw [hb, hje])
          have hmi : wr.iterPos w.heap.size = pos + d := by simp [World.iterPos, hit4]
          have HI4 : Hid (wr.heap[w.heap.size]? = some (.stringIter s (pos + d)) ∧ wr.iterPos w.heap.size = pos + d) := Lib.hid ⟨hit4, hmi⟩
          clear hmeas hb hit3 hit4 HH hje hj hmi
          cases b with
          | true =>
            go_wp2
            go_roundw
            case rel =>
              refine ⟨pos + d, ⟨?_, HI4.out.1⟩, hbi⟩
              rcases HN.out (s[pos]'hp) (getElem?_pos s pos hp) with ⟨e1, e2⟩ | ⟨e1, e2⟩
              · rw [e2]
                refine HSO.out.step hp ?_
                rw [← inSet_all, ← e1]
                exact HB.out.symm
              · have := HB.out
                rw [inSet_high set c HSET.out e1] at this
                cases this
            case measure =>
              rw [HI4.out.2, HM.out]
              have : 1 ≤ d := by
                rcases HN.out (s[pos]'hp) (getElem?_pos s pos hp) with ⟨e1, e2⟩ | ⟨e1, e2⟩
                · omega
                · have := HB.out
                  rw [inSet_high set c HSET.out e1] at this
                  cases this
              omega
          | false =>
            have hpi : (0 : Int) ≤ pos ∧ (pos : Int) ≤ s.size := by omega
            have hpn : pos ≤ s.size := by omega
            go_wp2
            go_ret
            refine ⟨?_, hbi⟩
            have e : spanN s set = pos := by
              refine HSO.out.stop hp ?_
              rcases HN.out (s[pos]'hp) (getElem?_pos s pos hp) with ⟨e1, e2⟩ | ⟨e1, e2⟩
              · rw [← inSet_all, ← e1]
                exact HB.out.symm
              · have h1 := inSet_high set (s[pos]'hp).toNat HSET.out e2 set.size
                rw [inSet_all] at h1
                exact h1
            rw [e]
            rfl
    · have hnx : ∀ ty, (Instr.next (.pointer (some ⟨w.heap.size, 0, none⟩)) true ty).run Tryd.prog wo = _ := fun ty => Lib.run_next_end_at wo w.heap.size s pos ty hit hp
      have hpe : pos = s.size := by have := hso.1; omega
      have HE : Hid (s.extract (spanN s set) s.size = ⟨#[]⟩) := Lib.hid (SoFar.end_ (by rw [hpe] at hso; exact hso))
      clear hpe hso hit H hmeas hset
      go_wp2
      go_ret
      refine ⟨?_, hbw⟩
      rw [HE.out]
      rfl

theorem lex_cutLeft.calls (a0 a1 : ByteArray) (r : ByteArray) (w : World) (h : lex_cutLeft.f a0 a1 = some r) :
    Calls Tryd.prog 68 #[.string a0, .string a1] w fun e w' => e = .returned (.string r) ∧ Below w.heap.size w w' := by
  unfold lex_cutLeft.f at h
  split at h
  · rename_i h0
    injection h with h
    subst h
    exact (cutLeft_walk a0 a1 (Lib.hid h0) w).mono fun e w' h => h
  · cases h
end Go.Proofs.YthdccdbiichabaaDoor.P
/- strconv.ParseUint(s, 10, 31), turned from the shelf's proofs at 32 bits; lex.number as a plain function, and its contract. No condition but that strconv.ErrRange holds an error. -/
namespace Go.Proofs.YthdccdbiichabaaDoor.P
open Go.Shelf Go.RowKit
variable {P : Program} {ρ : Ren}

set_option maxHeartbeats 32000000 in
set_option maxRecDepth 100000 in
/-- internal/strconv.ParseUint(s, 10, 31), s not empty (turned from the shelf's proof at 32). -/
theorem parse31 (L : LaysPu.n16 P ρ) (t : ByteArray) (hne : t.size ≠ 0) (hmax : t.size ≤ 9223372036854775806) (w : World) :
    Calls P (ρ.f 16) #[.string t, .int .i64 10, .int .i64 31] w fun e w' => e = .returned (Lib.uintTupleM (ρ.t 34) 2147483647 (Lib.parseUintM 2147483647 0 t.data.toList)) ∧ w' = Lib.bytesWorld w (ρ.t 5) t := by
  have mixed := L.mixed
  have t9 := L.t9; have a9 := L.a9; have z9 := L.z9; have v9 := L.v9
  have t3 := L.t3; have a3 := L.a3; have z3 := L.z3; have v3 := L.v3
  have t22 := L.t22; have a22 := L.a22; have z22 := L.z22; have v22 := L.v22
  have t24 := L.t24; have a24 := L.a24; have z24 := L.z24; have v24 := L.v24
  have t4 := L.t4; have a4 := L.a4; have z4 := L.z4; have v4 := L.v4
  have t34 := L.t34; have a34 := L.a34; have z34 := L.z34; have v34 := L.v34
  have t5 := L.t5; have a5 := L.a5; have z5 := L.z5; have v5 := L.v5
  have t36 := L.t36; have a36 := L.a36; have z36 := L.z36; have v36 := L.v36
  have t37 := L.t37; have a37 := L.a37; have z37 := L.z37; have v37 := L.v37
  have t0 := L.t0; have a0 := L.a0; have z0 := L.z0; have v0 := L.v0
  have e19 : ∀ args w, (callFunc (ρ.f 19) args).run P w = .ok (.enter (ρ.f 19) args) w := enters_of L.f19 (by kernel_rfl) rfl
  have hemp : t.toList.isEmpty = false := by
    rw [← decide_eq_emptyBytes]
    exact decide_eq_false (fun h => hne (by rw [h]; rfl))
  have hcv := Lib.run_convert_string_bytes (P := P) w (ρ.t 9) (ρ.t 37) (ρ.t 5) t (u := .string) L.t9 L.t37 L.t5
  have hB : ∀ j, j < t.size → (Lib.bytesWorld w (ρ.t 5) t).cell? ⟨w.heap.size, j, none⟩ = some (.int .u8 (t.data.toList.getD j 0).toNat) := fun j hj => Lib.bytesWorld_cell w (ρ.t 5) t j hj
  obtain ⟨W1, hW1⟩ : ∃ W1, W1 = Lib.bytesWorld w (ρ.t 5) t := ⟨_, rfl⟩
  rw [← hW1] at hcv hB ⊢
  clear hW1
  obtain ⟨bs, hL⟩ : ∃ bs, bs = t.data.toList := ⟨_, rfl⟩
  have hLn : bs.length = t.size := by rw [hL, Lib.size_eq]
  rw [← hL] at hB ⊢
  clear hL
  -- 'maxVal := uint64(1)<<uint(bitSize) - 1': its value, for the walk to take
  have hmv : IntKind.u64.wrap (IntKind.u64.wrap 2147483648 - 1) = 2147483647 := by
    rw [IntKind.wrap_u64, IntKind.wrap_u64]
    decide
  go_enter L.f16, BodyPu.n16_ntmps ρ
  go_wp2
  go_loop [12, 13, 101] (fun vu vn vi => ∃ (k acc : Nat) (a : Int), vu = .bool false ∧ vn = .int .u64 a ∧ vi = .int .i64 k ∧ k ≤ t.size ∧ Hid (a = (acc : Int) ∧ acc ≤ 2147483647 ∧ Lib.parseUintM 2147483647 0 bs = Lib.parseUintM 2147483647 acc (bs.drop k)))
    (fun _ _ vi => t.size - (intOf vi).toNat)
  case atStart => exact ⟨0, 0, 0, rfl, rfl, rfl, by omega, rfl, by omega, rfl⟩
  case round =>
    obtain ⟨k, acc, a, rfl, rfl, rfl, hk, hh⟩ := hrel
    obtain ⟨ha, hacc, hdec⟩ := hh.out
    clear hh
    have a0 : 0 ≤ a := by omega
    have a1 : a ≤ 2147483647 := by omega
    by_cases hkn : k < t.size
    · have hc := hB k hkn
      have hdrop : bs.drop k = bs[k]'(by omega) :: bs.drop (k + 1) := List.drop_eq_getElem_cons (by omega)
      have hget : bs.getD k 0 = bs[k]'(by omega) := by simp [List.getD, List.getElem?_eq_getElem (show k < bs.length by omega)]
      rw [hdrop] at hdec
      rw [hget] at hc
      generalize bs[k]'(by omega) = c at hc hdec
      have hc256 : c.toNat < 256 := c.toNat_lt
      clear hB hdrop hget
      by_cases hdig : 48 ≤ c.toNat ∧ c.toNat ≤ 57
      · obtain ⟨hd0, hd1⟩ := hdig
        have hcut : ¬ 1844674407370955162 ≤ acc := by omega
        by_cases hov : 2147483647 < acc * 10 + (c.toNat - 48)
        · -- OVER THE SIZE
          have hF : Lib.parseUintM 2147483647 acc (c :: bs.drop (k + 1)) = .range := by simp [Lib.parseUintM, hd0, hd1, hcut, hov]
          rw [hF] at hdec
          have iov : 2147483647 < a * 10 + ((c.toNat : Int) - 48) := by omega
          clear hcut hacc hF hov ha
          go_wp2
          go_ret2
          exact ⟨rfl, rfl⟩
        · have hF : Lib.parseUintM 2147483647 acc (c :: bs.drop (k + 1)) = Lib.parseUintM 2147483647 (acc * 10 + (c.toNat - 48)) (bs.drop (k + 1)) := by simp [Lib.parseUintM, hd0, hd1, hcut, hov]
          have HN : Hid (a * 10 + ((c.toNat : Int) - 48) = ((acc * 10 + (c.toNat - 48) : Nat) : Int) ∧ acc * 10 + (c.toNat - 48) ≤ 2147483647 ∧ Lib.parseUintM 2147483647 0 bs = Lib.parseUintM 2147483647 (acc * 10 + (c.toNat - 48)) (bs.drop (k + 1))) := Lib.hid ⟨by omega, by omega, hdec.trans hF⟩
          have iov : a * 10 + ((c.toNat : Int) - 48) ≤ 2147483647 := by omega
          clear hcut hacc hF hov hdec ha
          go_wp2
          refine ⟨⟨k + 1, acc * 10 + (c.toNat - 48), a * 10 + ((c.toNat : Int) - 48), rfl, (by first | rfl | (congr 1; omega)), (by first | rfl | (congr 1; omega)), by omega, HN⟩, by simp [intOf]; omega⟩
      · -- NO DIGIT: whatever way the text goes: (0, ErrSyntax)
        have hF : Lib.parseUintM 2147483647 acc (c :: bs.drop (k + 1)) = Lib.parseUintB 31 [] := by simp [Lib.parseUintM, Lib.parseUintB, hdig]
        rw [hF] at hdec
        clear hacc hF ha
        have hv0 := bits_lo_u8 .or (c.toNat : Int) 32
        have hv1 := bits_hi_u8 .or (c.toNat : Int) 32
        have hu0 := bits_lo_u8 .or 95 32       -- at '_' the walk writes the byte out
        have hu1 := bits_hi_u8 .or 95 32
        go_wp2_with (go_at_fn (ρ.f 19); refine (AnyPu.internal_strconv_lower { L with } _ _).mono ?_; rintro e w' ⟨rfl, rfl⟩)
        all_goals go_ret2
        all_goals first | exact ⟨rfl, rfl⟩ | exact ⟨by rw [hdec]; rfl, rfl⟩
    · -- THE BYTES ARE AT AN END
      have hkk : k = t.size := by omega
      subst hkk
      have hF : Lib.parseUintM 2147483647 acc (bs.drop t.size) = .ok acc := by rw [List.drop_eq_nil_of_le (by omega)]; rfl
      rw [hF] at hdec
      subst ha
      clear hacc hF a0 a1
      go_wp2
      go_ret2
      exact ⟨rfl, rfl⟩

theorem parse31_any (L : LaysPu.n16 P ρ) (t : ByteArray) (hmax : t.size ≤ 9223372036854775806) (w : World) :
    Calls P (ρ.f 16) #[.string t, .int .i64 10, .int .i64 31] w fun e w' => e = .returned (Lib.uintTupleM (ρ.t 34) 2147483647 (Lib.parseUintB 31 t.data.toList)) ∧ (w' = w ∨ w' = Lib.bytesWorld w (ρ.t 5) t) := by
  have eM : (2 : Nat) ^ 31 - 1 = 2147483647 := by decide
  by_cases h0 : t.size = 0
  · have ht : t = ⟨#[]⟩ := by
      apply ByteArray.ext
      exact Array.eq_empty_of_size_eq_zero h0
    subst ht
    exact (AnyPu.internal_strconv_ParseUint_empty { L with } 10 31 w).mono fun e w' ⟨he, hw⟩ => ⟨he, Or.inl hw⟩
  · have hne : t.data.toList ≠ [] := fun h => h0 (by rw [Lib.size_eq, h]; rfl)
    refine (parse31 { L with } t h0 hmax w).mono fun e w' ⟨he, hw⟩ => ⟨?_, Or.inr hw⟩
    rw [he, Lib.parseUintB, if_neg hne, eM]

set_option maxHeartbeats 4000000 in
set_option maxRecDepth 100000 in
theorem parse31_ok (L : LaysPu.n14 P ρ) (s : ByteArray) (hmax : s.size ≤ 9223372036854775806) (u : Nat) (h : Lib.parseUintB 31 s.data.toList = .ok u) (w : World) :
    Calls P (ρ.f 14) #[.string s, .int .i64 10, .int .i64 31] w fun e w' => e = .returned (.tuple #[.int .u64 u, .nilIface]) ∧ (w' = w ∨ w' = Lib.bytesWorld w (ρ.t 5) s) := by
  have mixed := L.mixed
  have t9 := L.t9; have a9 := L.a9; have z9 := L.z9; have v9 := L.v9
  have t3 := L.t3; have a3 := L.a3; have z3 := L.z3; have v3 := L.v3
  have t22 := L.t22; have a22 := L.a22; have z22 := L.z22; have v22 := L.v22
  have t24 := L.t24; have a24 := L.a24; have z24 := L.z24; have v24 := L.v24
  have t25 := L.t25; have a25 := L.a25; have z25 := L.z25; have v25 := L.v25
  have t4 := L.t4; have a4 := L.a4; have z4 := L.z4; have v4 := L.v4
  have e16 : ∀ args w, (callFunc (ρ.f 16) args).run P w = .ok (.enter (ρ.f 16) args) w := enters_of L.f16 (by kernel_rfl) rfl
  have hI := parse31_any { L with } s hmax w
  rw [h] at hI
  have hI : Calls P (ρ.f 16) #[.string s, .int .i64 10, .int .i64 31] w fun e w' => e = .returned (.tuple #[.int .u64 u, .nilIface]) ∧ (w' = w ∨ w' = Lib.bytesWorld w (ρ.t 5) s) := hI
  clear h
  go_enter L.f14, BodyPu.n14_ntmps ρ
  go_wp2_with (go_at_fn (ρ.f 16); refine hI.mono ?_; rintro e W1 ⟨rfl, hW⟩)
  go_wp2
  go_ret2
  exact ⟨rfl, hW⟩

set_option maxHeartbeats 4000000 in
set_option maxRecDepth 100000 in
theorem parse31_range (L : LaysPu.n14 P ρ) (s : ByteArray) (hlim : s.size ≤ 281474976710656) (h : Lib.parseUintB 31 s.data.toList = .range) (ev : Value) (w : World) (hv : w.cell? ⟨(ρ.g 1), 0, none⟩ = some ev) (hev : ev = .nilIface ∨ ∃ te pe, ev = .iface te pe) :
    Calls P (ρ.f 14) #[.string s, .int .i64 10, .int .i64 31] w fun e w' => ∃ N, e = .returned (.tuple #[.int .u64 2147483647, .iface (ρ.t 39) (.pointer (some ⟨N, 0, none⟩))]) ∧ w.heap.size ≤ N ∧ w'.heap[N]? = some (.cells #[.string ⟨#[80, 97, 114, 115, 101, 85, 105, 110, 116]⟩, .string s, ev] (ρ.t 44) (0, 0)) ∧ Below w.heap.size w w' := by
  have mixed := L.mixed
  have t9 := L.t9; have a9 := L.a9; have z9 := L.z9; have v9 := L.v9
  have t3 := L.t3; have a3 := L.a3; have z3 := L.z3; have v3 := L.v3
  have t22 := L.t22; have a22 := L.a22; have z22 := L.z22; have v22 := L.v22
  have t24 := L.t24; have a24 := L.a24; have z24 := L.z24; have v24 := L.v24
  have t25 := L.t25; have a25 := L.a25; have z25 := L.z25; have v25 := L.v25
  have t4 := L.t4; have a4 := L.a4; have z4 := L.z4; have v4 := L.v4
  have e16 : ∀ args w, (callFunc (ρ.f 16) args).run P w = .ok (.enter (ρ.f 16) args) w := enters_of L.f16 (by kernel_rfl) rfl
  have e17 : ∀ args w, (callFunc (ρ.f 17) args).run P w = .ok (.enter (ρ.f 17) args) w := enters_of L.f17 (by kernel_rfl) rfl
  have hG : (ρ.g 1) < w.heap.size := Lib.lt_of_cell hv
  have hI := parse31_any { L with } s (by omega) w
  rw [h] at hI
  have hI : Calls P (ρ.f 16) #[.string s, .int .i64 10, .int .i64 31] w fun e w' => e = .returned (.tuple #[.int .u64 2147483647, .iface (ρ.t 34) (.int .i64 1)]) ∧ (w' = w ∨ w' = Lib.bytesWorld w (ρ.t 5) s) := hI
  clear h
  go_enter L.f14, BodyPu.n14_ntmps ρ
  go_wp2_with (go_at_fn (ρ.f 16); refine hI.mono ?_)
  rintro e W1 ⟨rfl, hW⟩
  have hb1 : Below w.heap.size w W1 := by
    rcases hW with rfl | rfl
    · exact Below.refl _ _
    · exact Lib.bytesWorld_below _ _ _
  have hv1 : W1.cell? ⟨(ρ.g 1), 0, none⟩ = some ev := (hb1.cell (show (⟨(ρ.g 1), 0, none⟩ : Addr).block < w.heap.size from hG)).trans hv
  clear hW
  go_wp2_with (go_at_fn (ρ.f 17); refine (AnyPu.strconv_toError_range { L with } ⟨#[80, 97, 114, 115, 101, 85, 105, 110, 116]⟩ s 10 31 ev _ hlim ?_ hev).mono ?_)
  · exact hv1
  rintro e W2 ⟨N, rfl, h1, h2, h3⟩
  go_wp2
  go_ret2
  exact ⟨N, rfl, Nat.le_trans hb1.size h1, h2, hb1.trans (h3.mono hb1.size)⟩
end Go.Proofs.YthdccdbiichabaaDoor.P

namespace Go.Proofs.YthdccdbiichabaaDoor.P
open Go.RowKit Go.Proofs.YthdccdbiichabaaDoorW.PrintWords
set_option linter.unusedVariables false

def lex_number.f (a0 : ByteArray) : Option (Int × Int) :=
  if a0.size ≤ 20000 then
    match Lib.parseUintB 31 a0.data.toList with
    | .ok u => some ((u : Int), 0)
    | .range => some (0, 2)
    | _ => none
  else none

set_option maxHeartbeats 400000 in
theorem number_ok (a0 : ByteArray) (hs : a0.size ≤ 20000) (u : Nat) (h : Lib.parseUintB 31 a0.data.toList = .ok u) (w : World) :
    Calls Tryd.prog 45 #[.string a0] w fun e w' => e = .returned (.tuple #[.int .i64 u, .int .i64 0]) ∧ Below w.heap.size w w' := by
  have hu := Lib.parseUintB_le h
  have hu2 : (u : Int) ≤ 2147483647 := by
    have : (2 : Nat) ^ 31 - 1 = 2147483647 := by decide
    omega
  have HC := Lib.hid (parse31_ok Tryd.laysPu14 a0 (by omega) u h)
  clear h hu
  go_enter Tryd.func45, Tryd.ntmps45
  go_wp2_with (go_at_call 58; refine (HC.out _).mono ?_)
  rintro e w1 ⟨rfl, hw⟩
  have hb : Below w.heap.size w w1 := by
    rcases hw with rfl | rfl
    · exact Below.refl _ _
    · exact Lib.bytesWorld_below _ _ _
  clear hw
  go_wp2
  go_ret2
  exact ⟨rfl, hb⟩

set_option maxHeartbeats 400000 in
theorem number_range (a0 : ByteArray) (hs : a0.size ≤ 20000) (h : Lib.parseUintB 31 a0.data.toList = .range) (w : World) (hG : Aside0 (GW w)) :
    Calls Tryd.prog 45 #[.string a0] w fun e w' => e = .returned (.tuple #[.int .i64 0, .int .i64 2]) ∧ Below w.heap.size w w' := by
  obtain ⟨tp, p, hc⟩ := hG.out.range
  have HC := Lib.hid (parse31_range Tryd.laysPu14 a0 (by omega) h (.iface tp p) w hc (.inr ⟨tp, p, rfl⟩))
  clear h hc
  go_enter Tryd.func45, Tryd.ntmps45
  go_wp2_with (go_at_call 58; refine HC.out.mono ?_)
  rintro e w1 ⟨B, rfl, hB, hcell, hb⟩
  clear hcell HC
  go_wp2
  go_ret2
  exact ⟨rfl, hb⟩

theorem lex_number.calls (a0 : ByteArray) (r1 : Int) (r2 : Int) (w : World) (h : lex_number.f a0 = some (r1, r2)) (hG : Aside0 (GW w)) :
    Calls Tryd.prog 45 #[.string a0] w fun e w' => e = .returned (.tuple #[.int .i64 r1, .int .i64 r2]) ∧ Below w.heap.size w w' := by
  unfold lex_number.f at h
  split at h
  · rename_i hs
    split at h
    · rename_i u hu
      injection h with h
      injection h with h1 h2
      subst h1; subst h2
      exact number_ok a0 hs u hu w
    · rename_i hu
      injection h with h
      injection h with h1 h2
      subst h1; subst h2
      exact number_range a0 hs hu w hG
    · cases h
  · cases h
end Go.Proofs.YthdccdbiichabaaDoor.P
