/- strings.IndexByte and lex.cutLeft as plain functions on bytes, and their contracts. No condition. -/
import Derived.Test.YtpdlfokfjkmplaaDoorLays
import Derived.Shelf.Strings.Search1
import Derived.Test.YtpdlfokfjkmplaaDoorPx0
import Derived.Lib.OthersKept
import Derived.Laws.RangeAny
import Derived.WalkKit
import Derived.BigCall
import Derived.Lib.Hide
namespace Go.Proofs.YtpdlfokfjkmplaaDoor.P
open Go.RowKit Go.Proofs.YtpdlfokfjkmplaaDoorW.PrintWords
set_option linter.unusedVariables false

def strings_IndexByte.f (a0 : ByteArray) (a1 : Int) : Option Int := some (Lib.indexByte a0.data.toList a1.toNat.toUInt8)

theorem strings_IndexByte.calls (a0 : ByteArray) (a1 : Int) (r : Int) (w : World) (h : strings_IndexByte.f a0 a1 = some r) :
    Calls Tryd.prog 38 #[.string a0, .int .u8 a1] w fun e w' => e = .returned (.int .i64 r) ∧ Drawn0 w w' := by
  unfold strings_IndexByte.f at h
  injection h with h
  subst h
  refine (Any.strings_IndexByte Tryd.lays137 a0 a1 w).mono ?_
  rintro e w' ⟨rfl, rfl⟩
  exact ⟨rfl, Drawn0.refl _⟩
end Go.Proofs.YtpdlfokfjkmplaaDoor.P

namespace Go.Proofs.YtpdlfokfjkmplaaDoor.P
open Go.RowKit Go.Proofs.YtpdlfokfjkmplaaDoorW.PrintWords
set_option linter.unusedVariables false

/-- How many bytes of a set a text begins with. -/
def spanN (s set : ByteArray) : Nat := (s.data.toList.takeWhile fun b => set.data.toList.contains b).length
def lex_cutLeft.f (a0 a1 : ByteArray) : Option ByteArray :=
  if a1.data.toList.all (fun b => decide (b.toNat < 128)) = true then some (a0.extract (spanN a0 a1) a0.size) else none

/-- Is a rune among the first so many bytes of a set? -/
def inSet (set : ByteArray) (c : Nat) (k : Nat) : Bool := (set.data.toList.take k).any fun b => c == b.toNat
theorem inSet_zero (set : ByteArray) (c : Nat) : inSet set c 0 = false := by simp [inSet]
theorem inSet_succ (set : ByteArray) (c k : Nat) (h : k < set.size) : inSet set c (k + 1) = (inSet set c k || (c == (set[k]'h).toNat)) := by
  unfold inSet
  rw [List.take_succ_eq_append_getElem (by simpa using h), List.any_append]
  simp
  rfl
theorem inSet_all (set : ByteArray) (b : UInt8) : inSet set b.toNat set.size = set.data.toList.contains b := by
  unfold inSet
  rw [List.take_of_length_le (by simp)]
  rw [Bool.eq_iff_iff]
  simp only [List.any_eq_true, List.contains_iff_mem, beq_iff_eq]
  constructor
  · rintro ⟨x, hx, he⟩
    rwa [UInt8.toNat_inj.mp he]
  · intro hb
    exact ⟨b, hb, rfl⟩
theorem inSet_high (set : ByteArray) (c : Nat) (hs : set.data.toList.all (fun b => decide (b.toNat < 128)) = true) (hc : 128 ≤ c) (k : Nat) : inSet set c k = false := by
  unfold inSet
  rw [List.any_eq_false]
  intro x hx
  have := List.all_eq_true.1 hs x (List.mem_of_mem_take hx)
  simp at this
  simp
  omega

theorem byte_mem (s : ByteArray) (j : Nat) (h : j < s.size) : (s[j]'h) ∈ s.data.toList := by
  have e : (s[j]'h) = s.data[j]'h := rfl
  rw [e]
  exact Array.getElem_mem_toList _

def CutEnd (r : ByteArray) (w : World) (e : Ending) (w' : World) : Prop := e = .returned (.string r) ∧ Below w.heap.size w w'

/-- So far all bytes lay in the set. -/
def SoFar (s set : ByteArray) (pos : Nat) : Prop := pos ≤ s.size ∧ ∀ b ∈ s.data.toList.take pos, set.data.toList.contains b = true

theorem takeWhile_all_take {α : Type} (p : α → Bool) (l : List α) (n : Nat) (hn : n ≤ l.length) (h : ∀ x ∈ l.take n, p x = true) : n ≤ (l.takeWhile p).length := by
  induction l generalizing n with
  | nil => simp at hn; omega
  | cons a l ih =>
    cases n with
    | zero => omega
    | succ n =>
      have ha : p a = true := h a (by simp)
      simp only [List.takeWhile_cons, ha, if_true, List.length_cons]
      have := ih n (by simpa using hn) (fun x hx => h x (by simp [hx]))
      omega
theorem takeWhile_stop {α : Type} (p : α → Bool) (l : List α) (n : Nat) (hn : n < l.length) (h : ∀ x ∈ l.take n, p x = true) (hx : p l[n] = false) : (l.takeWhile p).length = n := by
  induction l generalizing n with
  | nil => simp at hn
  | cons a l ih =>
    cases n with
    | zero => simp at hx; simp [hx]
    | succ n =>
      have ha : p a = true := h a (by simp)
      simp only [List.takeWhile_cons, ha, if_true, List.length_cons]
      have := ih n (by simpa using hn) (fun x hx => h x (by simp [hx])) (by simpa using hx)
      omega
theorem takeWhile_len_le {α : Type} (p : α → Bool) (l : List α) : (l.takeWhile p).length ≤ l.length := by
  induction l with
  | nil => simp
  | cons a l ih => simp only [List.takeWhile_cons]; split <;> simp <;> omega

theorem SoFar.end_ {s set : ByteArray} (h : SoFar s set s.size) : s.extract (spanN s set) s.size = ⟨#[]⟩ := by
  have h1 := takeWhile_all_take (fun b => set.data.toList.contains b) s.data.toList s.size (by simp) (fun b hb => h.2 b hb)
  have h2 := takeWhile_len_le (fun b => set.data.toList.contains b) s.data.toList
  have e : spanN s set = s.size := by
    unfold spanN
    have : s.data.toList.length = s.size := by simp
    omega
  rw [e]
  apply ByteArray.ext
  simp
theorem SoFar.stop {s set : ByteArray} {pos : Nat} (h : SoFar s set pos) (hp : pos < s.size) (hb : set.data.toList.contains (s[pos]'hp) = false) : spanN s set = pos := by
  unfold spanN
  exact takeWhile_stop _ _ pos (by simpa using hp) (fun b hb => h.2 b hb) hb
theorem SoFar.step {s set : ByteArray} {pos : Nat} (h : SoFar s set pos) (hp : pos < s.size) (hb : set.data.toList.contains (s[pos]'hp) = true) : SoFar s set (pos + 1) := by
  refine ⟨hp, fun b hb' => ?_⟩
  rw [List.take_succ_eq_append_getElem (by simpa using hp)] at hb'
  rcases List.mem_append.1 hb' with hb' | hb'
  · exact h.2 b hb'
  · have : b = s[pos]'hp := by
      simp only [List.mem_singleton] at hb'
      rw [hb']
      rfl
    rw [this]; exact hb

set_option maxHeartbeats 4000000 in
set_option maxRecDepth 100000 in
theorem cutLeft_walk (s set : ByteArray) (hset : Hid (set.data.toList.all (fun b => decide (b.toNat < 128)) = true)) (w : World) :
    Calls Tryd.prog 51 #[.string s, .string set] w (CutEnd (s.extract (spanN s set) s.size) w) := by
  go_enter Tryd.func51, Tryd.ntmps51
  go_wp2
  go_loopw [] (fun wr => ∃ pos : Nat, Hid (SoFar s set pos ∧ wr.heap[w.heap.size]? = some (.stringIter s pos)) ∧ Below w.heap.size w wr) (fun wr => s.size - wr.iterPos w.heap.size)
  case atStart =>
    exact ⟨0, ⟨⟨by omega, by simp⟩, by have := World.iter_heap w s 0; simpa using this⟩, (Below.refl _ w).alloc (Nat.le_refl _) _⟩
  case round =>
    obtain ⟨wo, rfl⟩ : ∃ wo : World, wo = wr := ⟨_, rfl⟩
    obtain ⟨pos, H, hbw⟩ := hrel
    obtain ⟨hso, hit⟩ := H.out
    have hsz : w.heap.size < wo.heap.size := (Array.getElem?_eq_some_iff.1 hit).1
    have hmeas : wo.iterPos w.heap.size = pos := by simp [World.iterPos, hit]
    by_cases hp : pos < s.size
    · have hnx : ∀ ty, (Instr.next (.pointer (some ⟨w.heap.size, 0, none⟩)) true ty).run Tryd.prog wo = _ := fun ty => Lib.run_next_any_at wo w.heap.size s pos ty hit hp
      have hd1 := decode_le s pos
      have hit2 := Lib.iterAt_heap wo w.heap.size s pos (pos + (Utf8.decode s pos).2) hit
      have hbw2 := Lib.below_iterAt hbw (k := w.heap.size) (by omega) s (pos + (Utf8.decode s pos).2)
      have hsz2 : w.heap.size < (wo.iterAt w.heap.size s (pos + (Utf8.decode s pos).2)).heap.size := by rw [Lib.iterAt_size]; omega
      have HN : Hid (∀ b, s[pos]? = some b → (Utf8.decode s pos).1 = b.toNat ∧ (Utf8.decode s pos).2 = 1 ∨ 128 ≤ (Utf8.decode s pos).1 ∧ 128 ≤ b.toNat) := by
        refine Lib.hid fun b hb => ?_
        have e : b = s[pos]'hp := by
          rw [getElem?_pos s pos hp] at hb
          exact (Option.some.inj hb).symm
        subst e
        by_cases ha : (s[pos]'hp).toNat < 128
        · left
          rw [decode_ascii s pos hp ha]
          exact ⟨rfl, rfl⟩
        · right
          exact ⟨(decode_high s pos hp (by omega)).1, by omega⟩
      obtain ⟨c, hc⟩ : ∃ c, c = (Utf8.decode s pos).1 := ⟨_, rfl⟩
      obtain ⟨d, hd⟩ : ∃ d, d = (Utf8.decode s pos).2 := ⟨_, rfl⟩
      rw [← hc, ← hd] at hnx HN
      rw [← hd] at hit2 hbw2 hsz2
      rw [← hc] at hd1
      have HM : Hid (wo.iterPos w.heap.size = pos) := Lib.hid hmeas
      have HSO := Lib.hid hso
      have HSET : Hid (set.data.toList.all (fun b => decide (b.toNat < 128)) = true) := hset
      have HIT := Lib.hid hit2
      clear hc hd hit H hso hmeas hit2 hset
      go_wp2
      obtain ⟨W1, hW1⟩ : ∃ W1, W1 = wo.iterAt w.heap.size s (pos + d) := ⟨_, rfl⟩
      rw [← hW1] at hbw2 hsz2 HIT ⊢
      have HW1 := Lib.hid hW1
      clear hW1 hnx
      go_loopw [7] (fun v wr => ∃ (j : Nat) (b : Bool), v = .bool b ∧ Hid (b = inSet set c j ∧ j ≤ set.size ∧ wr.heap[W1.heap.size]? = some (.stringIter set j) ∧ wr.heap[w.heap.size]? = some (.stringIter s (pos + d))) ∧ Below w.heap.size w wr) (fun _ wr => set.size - wr.iterPos W1.heap.size)
      case atStart =>
        refine ⟨0, false, rfl, ⟨(inSet_zero set c).symm, by omega, by have := World.iter_heap W1 set 0; simpa using this, ?_⟩, hbw2.alloc (by omega) _⟩
        have hh := HIT.out
        have hlt : w.heap.size < W1.heap.size := hsz2
        show (W1.heap.push _)[w.heap.size]? = _
        rw [Array.getElem?_push_lt hlt, ← Array.getElem?_eq_getElem hlt]
        exact hh
      case round =>
        obtain ⟨j, b, rfl, HH, hbi⟩ := hrel
        obtain ⟨hb, hj, hit3, hit4⟩ := HH.out
        have hsz3 : W1.heap.size < wr.heap.size := (Array.getElem?_eq_some_iff.1 hit3).1
        have hmeas : wr.iterPos W1.heap.size = j := by simp [World.iterPos, hit3]
        by_cases hpj : j < set.size
        · have hnx : ∀ ty, (Instr.next (.pointer (some ⟨W1.heap.size, 0, none⟩)) true ty).run Tryd.prog wr = _ := fun ty => Lib.run_next_any_at wr W1.heap.size set j ty hit3 hpj
          have ha : (set[j]'hpj).toNat < 128 := by
            have := List.all_eq_true.1 HSET.out (set[j]'hpj) (byte_mem set j hpj)
            simpa using this
          have hit5 := Lib.iterAt_heap wr W1.heap.size set j (j + (Utf8.decode set j).2) hit3
          have hit6 := (Lib.iterAt_other wr W1.heap.size w.heap.size set (j + (Utf8.decode set j).2) (by omega)).trans hit4
          have hbi2 := Lib.below_iterAt hbi (k := W1.heap.size) (by omega) set (j + (Utf8.decode set j).2)
          rw [decode_ascii set j hpj ha] at hnx hit5 hit6 hbi2
          simp only at hnx hit5 hit6 hbi2
          have hs1 := inSet_succ set c j hpj
          have HH2 : Hid (∀ b', b' = (b || (c == (set[j]'hpj).toNat)) → b' = inSet set c (j + 1) ∧ j + 1 ≤ set.size ∧ (wr.iterAt W1.heap.size set (j + 1)).heap[W1.heap.size]? = some (.stringIter set (j + 1)) ∧ (wr.iterAt W1.heap.size set (j + 1)).heap[w.heap.size]? = some (.stringIter s (pos + d))) :=
            Lib.hid fun b' hb' => ⟨by rw [hb', hs1, hb], hpj, hit5, hit6⟩
          have HM2 : Hid ((wr.iterAt W1.heap.size set (j + 1)).iterPos W1.heap.size = j + 1 ∧ wr.iterPos W1.heap.size = j) := Lib.hid ⟨by simp [World.iterPos, hit5], hmeas⟩
          generalize (set[j]'hpj).toNat = q at hnx HH2 ha
          clear hit5 hit6 hs1 hmeas hb hit3 hit4 HH
          cases b with
          | true =>
            go_wp2
            go_roundw
            case rel => exact ⟨j + 1, true, rfl, Lib.hid (HH2.out true (by simp)), hbi2⟩
            case measure => rw [HM2.out.1, HM2.out.2]; omega
          | false =>
            by_cases hcq : c = q
            · have hq1 : ((c : Int) == (q : Int)) = true := by rw [hcq]; simp
              have HQ := Lib.hid hcq
              clear hcq
              go_wp2
              go_roundw
              case rel => exact ⟨j + 1, true, rfl, Lib.hid (HH2.out true (by simp [HQ.out])), hbi2⟩
              case measure => rw [HM2.out.1, HM2.out.2]; omega
            · have hq1 : ((c : Int) == (q : Int)) = false := by
                rw [beq_eq_false_iff_ne]; omega
              have HQ := Lib.hid hcq
              clear hcq
              go_wp2
              go_roundw
              case rel => exact ⟨j + 1, false, rfl, Lib.hid (HH2.out false (by simp [HQ.out])), hbi2⟩
              case measure => rw [HM2.out.1, HM2.out.2]; omega
        · have hnx : ∀ ty, (Instr.next (.pointer (some ⟨W1.heap.size, 0, none⟩)) true ty).run Tryd.prog wr = _ := fun ty => Lib.run_next_end_at wr W1.heap.size set j ty hit3 hpj
          have hje : j = set.size := by omega
          have HB : Hid (b = inSet set c set.size) := Lib.hid (by rw [hb, hje])
          have hmi : wr.iterPos w.heap.size = pos + d := by simp [World.iterPos, hit4]
          have HI4 : Hid (wr.heap[w.heap.size]? = some (.stringIter s (pos + d)) ∧ wr.iterPos w.heap.size = pos + d) := Lib.hid ⟨hit4, hmi⟩
          clear hmeas hb hit3 hit4 HH hje hj hmi
          cases b with
          | true =>
            go_wp2
            go_roundw
            case rel =>
              refine ⟨pos + d, ⟨?_, HI4.out.1⟩, hbi⟩
              rcases HN.out (s[pos]'hp) (getElem?_pos s pos hp) with ⟨e1, e2⟩ | ⟨e1, e2⟩
              · rw [e2]
                refine HSO.out.step hp ?_
                rw [← inSet_all, ← e1]
                exact HB.out.symm
              · have := HB.out
                rw [inSet_high set c HSET.out e1] at this
                cases this
            case measure =>
              rw [HI4.out.2, HM.out]
              have : 1 ≤ d := by
                rcases HN.out (s[pos]'hp) (getElem?_pos s pos hp) with ⟨e1, e2⟩ | ⟨e1, e2⟩
                · omega
                · have := HB.out
                  rw [inSet_high set c HSET.out e1] at this
                  cases this
              omega
          | false =>
            have hpi : (0 : Int) ≤ pos ∧ (pos : Int) ≤ s.size := by omega
            have hpn : pos ≤ s.size := by omega
            go_wp2
            go_ret
            refine ⟨?_, hbi⟩
            have e : spanN s set = pos := by
              refine HSO.out.stop hp ?_
              rcases HN.out (s[pos]'hp) (getElem?_pos s pos hp) with ⟨e1, e2⟩ | ⟨e1, e2⟩
              · rw [← inSet_all, ← e1]
                exact HB.out.symm
              · have h1 := inSet_high set (s[pos]'hp).toNat HSET.out e2 set.size
                rw [inSet_all] at h1
                exact h1
            rw [e]
            rfl
    · have hnx : ∀ ty, (Instr.next (.pointer (some ⟨w.heap.size, 0, none⟩)) true ty).run Tryd.prog wo = _ := fun ty => Lib.run_next_end_at wo w.heap.size s pos ty hit hp
      have hpe : pos = s.size := by have := hso.1; omega
      have HE : Hid (s.extract (spanN s set) s.size = ⟨#[]⟩) := Lib.hid (SoFar.end_ (by rw [hpe] at hso; exact hso))
      clear hpe hso hit H hmeas hset
      go_wp2
      go_ret
      refine ⟨?_, hbw⟩
      rw [HE.out]
      rfl

theorem lex_cutLeft.calls (a0 a1 : ByteArray) (r : ByteArray) (w : World) (h : lex_cutLeft.f a0 a1 = some r) :
    Calls Tryd.prog 51 #[.string a0, .string a1] w fun e w' => e = .returned (.string r) ∧ Below w.heap.size w w' := by
  unfold lex_cutLeft.f at h
  split at h
  · rename_i h0
    injection h with h
    subst h
    exact (cutLeft_walk a0 a1 (Lib.hid h0) w).mono fun e w' h => h
  · cases h
end Go.Proofs.YtpdlfokfjkmplaaDoor.P
