/- The head of sorrellaw05's statements: its walk. No condition but that strconv.ErrRange holds an error. -/
import Derived.Test.YthdccdbiichabaaDoorPx7
import Derived.Test.YthdccdbiichabaaDoorPx8
import Derived.Test.YthdccdbiichabaaDoorPx6
import Derived.Test.YthdccdbiichabaaDoorRdZ
import Derived.Deep.RegionHeld3
import Derived.Test.YthdccdbiichabaaDoorV
namespace Go.Proofs.YthdccdbiichabaaDoor.P
open Go.RowKit Go.Proofs.YthdccdbiichabaaDoorW.PrintWords Go.Proofs.YthdccdbiichabaaDoorW.PrintLast Go.Proofs.YthdccdbiichabaaDoorW.PrintMore
set_option linter.unusedVariables false
set_option linter.unusedSimpArgs false
def hdT : List S41 := [⟨3, ⟨#[102]⟩, 5⟩, ⟨1, ⟨#[]⟩, 0⟩, ⟨1, ⟨#[]⟩, 1⟩, ⟨1, ⟨#[]⟩, 2⟩, ⟨1, ⟨#[]⟩, 0⟩, ⟨1, ⟨#[]⟩, 3⟩]
def hdN : List ByteArray := [⟨#[88]⟩, ⟨#[95]⟩, ⟨#[89]⟩, ⟨#[95]⟩]
def hdH : List S41 := [⟨3, ⟨#[112]⟩, 1⟩, ⟨1, ⟨#[]⟩, 0⟩]
def hdQ : List S41 := [⟨3, ⟨#[113]⟩, 2⟩, ⟨1, ⟨#[]⟩, 0⟩, ⟨1, ⟨#[]⟩, 1⟩]
def hdR : List S41 := [⟨3, ⟨#[114]⟩, 0⟩]
def hdS : List S41 := [⟨3, ⟨#[115]⟩, 0⟩]
def hdB : List S43 := [⟨true, hdQ⟩, ⟨false, hdR⟩]
def hdP : List S39 := [⟨hdH, hdB⟩, ⟨hdS, []⟩]
theorem hd_t1 : read_Term.f ⟨#[102, 40, 88, 44, 32, 95, 44, 32, 89, 44, 32, 88, 44, 32, 95, 41]⟩ = some (hdT, hdN, 0, 0) := by kernel_rfl
theorem hd_p1 : read_Program.f ⟨#[112, 40, 88, 41, 32, 58, 45, 32, 92, 43, 32, 113, 40, 88, 44, 32, 95, 41, 44, 32, 114, 46, 10, 115, 46]⟩ = some (hdP, 0, 0) := by kernel_rfl
theorem hd_p2 : read_Program.f ⟨#[112, 32, 58, 45, 32, 88, 46]⟩ = some ([], 5, 50) := by kernel_rfl
theorem hd_o1 : read_Op.f ⟨#[45]⟩ true = some (200, 0, 200) := by kernel_rfl
theorem hd_o2 : read_Op.f ⟨#[45]⟩ false = some (500, 500, 499) := by kernel_rfl

theorem addr_add0 (ad : Addr) : ad.add 0 = ad := Addr.add_zero' ad
theorem hd_add {W : World} {ad : Addr} {v : Value} (h : W.cell? (ad.add 2) = some v) : W.cell? ⟨ad.block, ad.off + 2, none⟩ = some v := by
  first | exact h | simpa using h
/-- What the head reads of its program. -/
structure HdAt (W : World) (ad ab : Addr) (Ah A1 A2 A3 : Option Addr) (ch cb c1 c2 c3 : Nat) : Prop where
  h : W.cell? ad = some (.slice Ah 2 ch)
  b : W.cell? ⟨ad.block, ad.off + 1, none⟩ = some (.slice (some ab) 2 cb)
  s : W.cell? ⟨ad.block, ad.off + 2, none⟩ = some (.slice A1 1 c1)
  n : W.cell? ab = some (.bool true)
  q : W.cell? ⟨ab.block, ab.off + 1, none⟩ = some (.slice A2 3 c2)
  m : W.cell? ⟨ab.block, ab.off + 2, none⟩ = some (.bool false)
  hh : Kd.C k41 W Ah 2 hdH
  hq : Kd.C k41 W A2 3 hdQ
  hs : Kd.C k41 W A1 1 hdS
  lh : 2 ≤ ch
  lq : 3 ≤ c2
  ls : 1 ≤ c1
theorem hd_at {W : World} {b : Nat} {A : Option Addr} {c : Nat} (h : Kd.R k39 39 W b (fun _ => True) (.slice A 2 c) hdP) : ∃ ad ab Ah A1 A2 A3 ch cb c1 c2 c3, A = some ad ∧ HdAt W ad ab Ah A1 A2 A3 ch cb c1 c2 c3 := by
  have hP := (Kd.R_reads' h).2.2
  obtain ⟨ad, Ah, ch, Ab, cb, e1, hx0, hx1, hl0, hi0, hl1, hi1⟩ := at_T39 hP 0 (by decide) (by decide)
  obtain ⟨ad', A1, c1, _, _, e2, hy0, _, hm0, hj0, _, _⟩ := at_T39 hP 1 (by decide) (by decide)
  obtain rfl : ad = ad' := by rw [e1] at e2; injection e2
  obtain ⟨ab, A2, c2, e3, hz0, hz1, hk1, ho1⟩ := at_T43 hi1 0 (by decide) (by decide)
  obtain ⟨ab', A3, c3, e4, hu0, hu1, hk2, ho2⟩ := at_T43 hi1 1 (by decide) (by decide)
  obtain rfl : ab = ab' := by rw [e3] at e4; injection e4
  subst e3
  have e0 : ad.add (Int.toNat 0 * 2) = ad := Addr.add_zero' ad
  have f0 : ab.add (Int.toNat 0 * 2) = ab := Addr.add_zero' ab
  rw [e0] at hx0 hx1
  rw [f0] at hz0 hz1
  exact ⟨ad, ab, Ah, A1, A2, A3, ch, cb, c1, c2, c3, e1, hx0, hx1, hd_add hy0, hz0, hz1, hd_add hu0, hi0, ho1, hj0, hl0, hk1, hm0⟩
def enc3 (x : S41) : List Value := [.int .i64 x.f0, .string x.f1, .int .i64 x.f2]
theorem enc3_at : ∀ (l : List S41) (j i : Nat) (x : S41), l[j]? = some x → i < 3 → (l.flatMap enc3)[j * 3 + i]? = (enc3 x)[i]?
  | [], j, i, x, h, _ => by simp at h
  | y :: l, 0, i, x, h, hi => by
    simp at h
    subst h
    rw [List.flatMap_cons, List.getElem?_append_left (by simp [enc3]; omega)]
    congr 1
    omega
  | y :: l, j + 1, i, x, h, hi => by
    rw [List.flatMap_cons, List.getElem?_append_right (by simp [enc3]; omega)]
    have e : (j + 1) * 3 + i - (enc3 y).length = j * 3 + i := by simp [enc3]; omega
    rw [e]
    exact enc3_at l j i x (by simpa using h) hi
theorem cells_C {W : World} {g : Nat} {cs : Array Value} (l : List S41) (h : W.heap[g]? = some (.cells cs 41 (0, 0))) (hc : cs.toList = l.flatMap enc3) (hl : l.length ≤ 1000) : Kd.C k41 W (some ⟨g, 0, none⟩) l.length l := by
  refine ⟨rfl, by omega, fun hp => ⟨_, rfl, fun j p hj => ⟨enc3 p, rfl, k41_mk _ _, fun i u hu => ?_⟩⟩⟩
  have hi : i < 3 := by
    have := (List.getElem?_eq_some_iff.1 hu).1
    simpa [enc3] using this
  rw [add_plain, show k41.sz = 3 from rfl, blk_cell h, ← Array.getElem?_toList, hc, enc3_at l j i p hj hi, hu]
theorem strs_C {W : World} {g : Nat} {cs : Array Value} (l : List ByteArray) (h : W.heap[g]? = some (.cells cs 9 (0, 0))) (hc : cs.toList = l.map Value.string) (hl : l.length ≤ 1000) : Kd.C Kd.string W (some ⟨g, 0, none⟩) l.length l := by
  refine ⟨rfl, by omega, fun hp => ⟨_, rfl, fun j p hj => ⟨[.string p], rfl, rfl, fun i u hu => ?_⟩⟩⟩
  have hi : i = 0 := by
    have := (List.getElem?_eq_some_iff.1 hu).1
    simpa using this
  subst hi
  rw [add_plain, show Kd.string.sz = 1 from rfl, Nat.mul_one, Nat.add_zero, blk_cell h, ← Array.getElem?_toList, hc, List.getElem?_map, hj]
  exact hu
structure HdK (w : World) (At An Ah A1 A2 : Option Addr) (W : World) : Prop where
  t : Kd.C k41 W At 6 hdT
  n : Kd.C Kd.string W An 4 hdN
  h : Kd.C k41 W Ah 2 hdH
  q : Kd.C k41 W A2 3 hdQ
  s : Kd.C k41 W A1 1 hdS
  below : Below w.heap.size w W
def HdS (w : World) (At An : Option Addr) (ad ab : Addr) (Ah A1 A2 : Option Addr) (ch cb c1 c2 : Nat) (W : World) : Prop :=
  W.cell? ad = some (.slice Ah 2 ch) ∧ W.cell? ⟨ad.block, ad.off + 1, none⟩ = some (.slice (some ab) 2 cb) ∧ W.cell? ⟨ad.block, ad.off + 2, none⟩ = some (.slice A1 1 c1) ∧ W.cell? ab = some (.bool true) ∧ W.cell? ⟨ab.block, ab.off + 1, none⟩ = some (.slice A2 3 c2) ∧ W.cell? ⟨ab.block, ab.off + 2, none⟩ = some (.bool false) ∧ HdK w At An Ah A1 A2 W
section
variable {w W W' : World} {At An Ah A1 A2 : Option Addr} {ad ab : Addr} {ch cb c1 c2 : Nat}
theorem hd_keep (h : HdS w At An ad ab Ah A1 A2 ch cb c1 c2 W) (hb : Below W.heap.size W W') : HdS w At An ad ab Ah A1 A2 ch cb c1 c2 W' := by
  obtain ⟨h1, h2, h3, h4, h5, h6, h7⟩ := h
  exact ⟨pw_cell_below hb h1, pw_cell_below hb h2, pw_cell_below hb h3, pw_cell_below hb h4, pw_cell_below hb h5, pw_cell_below hb h6, ⟨Kd.C_below h7.t hb, Kd.C_below h7.n hb, Kd.C_below h7.h hb, Kd.C_below h7.q hb, Kd.C_below h7.s hb, below_step h7.below hb⟩⟩
theorem hd_k (h : HdS w At An ad ab Ah A1 A2 ch cb c1 c2 W) : HdK w At An Ah A1 A2 W := h.2.2.2.2.2.2
end
def hdG0 : List S41 := [⟨3, ⟨#[45]⟩, 2⟩, ⟨3, ⟨#[45]⟩, 2⟩, ⟨2, ⟨#[]⟩, 1⟩, ⟨2, ⟨#[]⟩, 2⟩, ⟨2, ⟨#[]⟩, 3⟩]
theorem hd_g0 : sorrellaw05_gives.f 100 ⟨#[49, 32, 45, 32, 50, 32, 45, 32, 51]⟩ hdG0 = some true := by kernel_rfl
def hdG1 : List S41 := [⟨3, ⟨#[45]⟩, 1⟩, ⟨2, ⟨#[]⟩, 2⟩]
theorem hd_g1 : sorrellaw05_gives.f 100 ⟨#[45, 32, 50]⟩ hdG1 = some true := by kernel_rfl
def hdG2 : List S41 := [⟨2, ⟨#[]⟩, -2⟩]
theorem hd_g2 : sorrellaw05_gives.f 100 ⟨#[45, 50]⟩ hdG2 = some true := by kernel_rfl
def hdG3 : List S41 := [⟨3, ⟨#[46]⟩, 2⟩, ⟨1, ⟨#[]⟩, 0⟩, ⟨3, ⟨#[46]⟩, 2⟩, ⟨3, ⟨#[98]⟩, 0⟩, ⟨1, ⟨#[]⟩, 0⟩]
theorem hd_g3 : sorrellaw05_gives.f 100 ⟨#[91, 88, 44, 32, 98, 32, 124, 32, 88, 93]⟩ hdG3 = some true := by kernel_rfl
theorem hd_f0 : sorrellaw05_fails.f ⟨#[97, 32, 61, 32, 98, 32, 61, 32, 99]⟩ 6 52 = some true := by kernel_rfl
theorem hd_f1 : sorrellaw05_fails.f ⟨#[102, 40, 97]⟩ 3 51 = some true := by kernel_rfl
theorem hd_f2 : sorrellaw05_fails.f ⟨#[]⟩ 0 51 = some true := by kernel_rfl
theorem hd_f3 : sorrellaw05_fails.f ⟨#[97, 32, 98]⟩ 2 50 = some true := by kernel_rfl
theorem hd_sT : sorrelref01_Same.f 100 hdT hdT = some true := by kernel_rfl
theorem hd_sH : sorrelref01_Same.f 100 hdH hdH = some true := by kernel_rfl
theorem hd_sQ : sorrelref01_Same.f 100 hdQ hdQ = some true := by kernel_rfl
theorem hd_sS : sorrelref01_Same.f 100 hdS hdS = some true := by kernel_rfl
theorem hd_tx : sorrelref05_Texts.f 100 hdN hdN = some true := by kernel_rfl
/-! ### the region of 148 operations, as steps over a frame of which only some cells are told -/
open Go.Proofs.YthdccdbiichabaaDoorW.PrintLast
set_option maxRecDepth 100000
def hdT8 : Bool × List (List Nat × List Nat) := (true, [([], []), ([0], []), ([1], []), ([2], []), ([3], []), ([0, 1, 2, 3, 4], [0, 1, 2, 3, 4]), ([5, 4], [5]), ([6, 6], [6]), ([7, 7], [7]), ([8, 7], [7]), ([8, 9, 7], [7, 8, 9]), ([10, 9, 7], [7, 10]), ([7, 11], [7, 11]), ([12, 11], [12]), ([13, 13], [13]), ([14, 13], [13, 14]), ([15, 14, 13], [13, 15]), ([13, 16], [13, 16]), ([17, 16], [17]), ([18, 18], [18]), ([19, 18], [18]), ([20, 18], [18]), ([21, 18], [18]), ([22, 18], [18]), ([19, 20, 21, 22, 23, 18], [18, 19, 20, 21, 22, 23]), ([24, 23, 18], [18, 24]), ([18, 25], [18, 25]), ([26, 25], [26]), ([27, 27], [27]), ([27, 28], [27, 28]), ([29, 28], [29]), ([30, 30], [30]), ([30, 31], [30, 31]), ([32, 31], [32]), ([33, 33], [33]), ([33, 34], [33, 34]), ([35, 34], [35]), ([36, 36], [36]), ([36, 37], [36, 37]), ([38, 37], [38]), ([39], [39]), ([39, 39], [39]), ([41, 39], [39]), ([42, 39], [39]), ([43, 39], [39]), ([44, 39], [39]), ([45, 39], [39]), ([41, 42, 43, 44, 45, 46, 39], [39, 41, 42, 43, 44, 45, 46]), ([40, 47, 46, 39], [39, 40, 47]), ([39, 48], [39, 48]), ([49, 48], [49]), ([50], [50]), ([50], [50]), ([51, 52, 50, 50], [50, 51, 52]), ([50, 53], [50, 53]), ([54, 53], [54]), ([55], [55]), ([56, 55], [55, 56]), ([55, 57], [55, 57]), ([58, 55], [58]), ([59], [59]), ([60, 59], [59, 60]), ([59, 61], [59, 61]), ([62, 59], [62]), ([63], [63]), ([64, 63], [63, 64]), ([65, 63], [63, 65]), ([66, 63], [63, 66]), ([63, 63], [63]), ([68, 63], [63]), ([68, 69, 63], [63, 68, 69]), ([67, 70, 69, 63], [63, 67, 70]), ([63, 71], [63, 71]), ([72, 71], [72]), ([73], [73]), ([74, 73], [73, 74]), ([75, 73], [73, 75]), ([76, 73], [73, 76]), ([77, 73], [73, 77]), ([78, 73], [73, 78]), ([79, 73], [73, 79]), ([73, 80], [73, 80]), ([81, 73], [81]), ([82], [82]), ([83, 82], [82, 83]), ([84, 82], [82, 84]), ([85, 82], [82, 85]), ([86, 82], [82, 86]), ([87, 82], [82, 87]), ([88, 82], [82, 88]), ([82, 82], [82]), ([90, 82], [82]), ([91, 82], [82]), ([90, 91, 92, 82], [82, 90, 91, 92]), ([89, 93, 92, 82], [82, 89, 93]), ([82, 94], [82, 94]), ([95, 94], [95]), ([96], [96]), ([97, 96], [96, 97]), ([98, 96], [96, 98]), ([99, 96], [96, 99]), ([100, 96], [96, 100]), ([101, 96], [96, 101]), ([102, 96], [96, 102]), ([103, 96], [96, 103]), ([96, 104], [96, 104]), ([105, 96], [105]), ([106], [106]), ([107, 106], [106, 107]), ([108, 106], [106, 108]), ([109, 106], [106, 109]), ([106, 106], [106]), ([111, 106], [106, 111]), ([110, 112, 111, 106], [106, 110, 112]), ([106, 113], [106, 113]), ([114, 113], [114]), ([115], [115]), ([116, 115], [115, 116]), ([115, 117], [115, 117]), ([118, 115], [118]), ([119], [119]), ([120, 119], [119, 120]), ([119, 121], [119, 121]), ([122, 119], [122]), ([123], [123]), ([124, 123], [123, 124]), ([123, 125], [123, 125]), ([126, 123], [126]), ([127], [127]), ([128, 127], [127, 128]), ([127, 129], [127, 129]), ([130, 127], [130]), ([131], [131]), ([132, 131], [131, 132]), ([131, 133], [131, 133]), ([134, 131], [134]), ([135], [135]), ([136, 135], [135, 136]), ([135, 137], [135, 137]), ([138, 135], [138]), ([139], [139]), ([140, 139], [139, 140]), ([139, 141], [139, 141]), ([142, 139], [142]), ([143], [143]), ([144, 143], [143, 144]), ([143, 145], [143, 145]), ([146, 143, 0, 1, 2, 3, 4, 5, 6, 7, 8, 9, 10, 11, 12, 13, 14, 15, 16, 17, 18, 19, 20, 21, 22, 23, 24, 25, 26, 27, 28, 29, 30, 31, 32, 33, 34, 35, 36, 37, 38, 39, 40, 41, 42, 43, 44, 45, 46, 47, 48, 49, 50, 51, 52, 53, 54, 55, 56, 57, 58, 59, 60, 61, 62, 63, 64, 65, 66, 67, 68, 69, 70, 71, 72, 73, 74, 75, 76, 77, 78, 79, 80, 81, 82, 83, 84, 85, 86, 87, 88, 89, 90, 91, 92, 93, 94, 95, 96, 97, 98, 99, 100, 101, 102, 103, 104, 105, 106, 107, 108, 109, 110, 111, 112, 113, 114, 115, 116, 117, 118, 119, 120, 121, 122, 123, 124, 125, 126, 127, 128, 129, 130, 131, 132, 133, 134, 135, 136, 137, 138, 139, 140, 141, 142, 143, 144, 145, 146], [146])])
def hdB8 : List Nat := [0, 1, 3, 7, 15, 31, 63, 127, 255, 511, 1023, 2047, 4095, 8191, 16383, 32767, 65535, 131071, 262143, 524287, 1048575, 2097151, 4194303, 8388607, 16777215, 33554431, 67108863, 134217727, 268435455, 536870911, 1073741823, 2147483647, 4294967295, 8589934591, 17179869183, 34359738367, 68719476735, 137438953471, 274877906943, 549755813887, 1099511627775, 1099511627775, 3298534883327, 7696581394431, 16492674416639, 34084860461055, 69269232549887, 139637976727551, 281474976710655, 562949953421311, 1125899906842623, 2251799813685247, 2251799813685247, 9007199254740991, 18014398509481983, 36028797018963967, 72057594037927935, 144115188075855871, 288230376151711743, 576460752303423487, 1152921504606846975, 2305843009213693951, 4611686018427387903, 9223372036854775807, 18446744073709551615, 36893488147419103231, 73786976294838206463, 147573952589676412927, 18446744073709551615, 313594649253062377471, 903890459611768029183, 2361183241434822606847, 4722366482869645213695, 9444732965739290427391, 18889465931478580854783, 37778931862957161709567, 75557863725914323419135, 151115727451828646838271, 302231454903657293676543, 604462909807314587353087, 1208925819614629174706175, 2417851639229258349412351, 4835703278458516698824703, 9671406556917033397649407, 19342813113834066795298815, 38685626227668133590597631, 77371252455336267181195263, 154742504910672534362390527, 309485009821345068724781055, 618970019642690137449562111, 9671406556917033397649407, 1247611445842297308296773631, 3723491524413057858095022079, 8675251681554578957691518975, 19807040628566084398385987583, 39614081257132168796771975167, 79228162514264337593543950335, 158456325028528675187087900671, 316912650057057350374175801343, 633825300114114700748351602687, 1267650600228229401496703205375, 2535301200456458802993406410751, 5070602400912917605986812821503, 10141204801825835211973625643007, 20282409603651670423947251286015, 40564819207303340847894502572031, 81129638414606681695789005144063, 162259276829213363391578010288127, 324518553658426726783156020576255, 649037107316853453566312041152511, 1298074214633706907132624082305023, 162259276829213363391578010288127, 2758407706096627177656826174898175, 10384593717069655257060992658440191, 20769187434139310514121985316880383, 41538374868278621028243970633760767, 83076749736557242056487941267521535, 166153499473114484112975882535043071, 332306998946228968225951765070086143, 664613997892457936451903530140172287, 1329227995784915872903807060280344575, 2658455991569831745807614120560689151, 5316911983139663491615228241121378303, 10633823966279326983230456482242756607, 21267647932558653966460912964485513215, 42535295865117307932921825928971026431, 85070591730234615865843651857942052863, 170141183460469231731687303715884105727, 340282366920938463463374607431768211455, 680564733841876926926749214863536422911, 1361129467683753853853498429727072845823, 2722258935367507707706996859454145691647, 5444517870735015415413993718908291383295, 10889035741470030830827987437816582766591, 21778071482940061661655974875633165533183, 43556142965880123323311949751266331066367, 87112285931760246646623899502532662132735, 174224571863520493293247799005065324265471, 348449143727040986586495598010130648530943, 696898287454081973172991196020261297061887, 1393796574908163946345982392040522594123775, 2787593149816327892691964784081045188247551, 5575186299632655785383929568162090376495103, 11150372599265311570767859136324180752990207, 22300745198530623141535718272648361505980415, 44601490397061246283071436545296723011960831, 89202980794122492566142873090593446023921663, 178405961588244985132285746181186892047843327]
noncomputable def hdOps : Array Oper := opsOf Tryd.f7 8
noncomputable def hdOp (i : Nat) : Oper := hdOps.getD i default
def hdM (i : Nat) : Array Bool := ⟨List.replicate i true ++ List.replicate (148 - i) false⟩
theorem hd_tab : rtab .any hdOps = hdT8 := by kernel_rfl
theorem hd_bits : waitsOk hdT8.2 hdB8 = true := by kernel_rfl
theorem hd_size : hdOps.size = 148 := by kernel_rfl
theorem hd_get {i : Nat} (h : i < 148) : hdOps[i]? = some (hdOp i) := by
  unfold hdOp
  rw [Array.getElem?_eq_getElem (by rw [hd_size]; exact h), Array.getD_eq_getD_getElem?, Array.getElem?_eq_getElem (by rw [hd_size]; exact h)]
  rfl
/-- What is told of a frame. -/
structure Kn (B K : List (Nat × Value)) (a : Act) : Prop where
  size : a.tmps.size = 201
  base : ∀ p ∈ B, a.tmps[p.1]? = some p.2
  more : ∀ p ∈ K, a.tmps[p.1]? = some p.2
  defers : a.defers = []
section
variable {B K : List (Nat × Value)} {a : Act} {j n : Nat} {v : Value}
theorem get_ev (h : a.tmps[j]? = some v) : a.eval (.tmp j) = v := by
  show a.tmps.getD j undef = v
  rw [Array.getD_eq_getD_getElem?, h]
  rfl
theorem Kn.ev (h : Kn B K a) (hm : (j, v) ∈ K) : a.eval (.tmp j) = v := get_ev (h.more _ hm)
theorem Kn.evB (h : Kn B K a) (hm : (j, v) ∈ B) : a.eval (.tmp j) = v := get_ev (h.base _ hm)
theorem ne_of {K : List (Nat × Value)} (h : (K.map Prod.fst).contains n = false) : ∀ p ∈ K, n ≠ p.1 := by
  intro p hp e
  have : n ∈ K.map Prod.fst := by rw [e]; exact List.mem_map_of_mem hp
  rw [← List.contains_iff_mem, h] at this
  cases this
theorem Kn.put (h : Kn B K a) (n : Nat) (v : Value) (hn : n < 201) (hB : (B.map Prod.fst).contains n = false) (hK : (K.map Prod.fst).contains n = false) : Kn B ((n, v) :: K) (a.put (some n) v) := by
  have key : ∀ p : Nat × Value, n ≠ p.1 → a.tmps[p.1]? = some p.2 → (a.put (some n) v).tmps[p.1]? = some p.2 := by
    intro p hp hh
    show (a.tmps.setIfInBounds n v)[p.1]? = some p.2
    rw [Array.getElem?_setIfInBounds_ne hp]
    exact hh
  refine ⟨by show (a.tmps.setIfInBounds n v).size = 201; rw [Array.size_setIfInBounds]; exact h.size, fun p hp => key p (ne_of hB p hp) (h.base p hp), fun p hp => ?_, h.defers⟩
  rcases List.mem_cons.1 hp with rfl | hp
  · show (a.tmps.setIfInBounds n v)[n]? = some v
    rw [Array.getElem?_setIfInBounds_self_of_lt (by rw [h.size]; exact hn)]
  · exact key p (ne_of hK p hp) (h.more p hp)
theorem Kn.one (h : Kn B K a) (hm : (n, v) ∈ K) : Kn B [(n, v)] a := ⟨h.size, h.base, fun p hp => by rw [List.mem_singleton] at hp; subst hp; exact h.more _ hm, h.defers⟩
theorem hd_want0 {i : Nat} (h : (hdOp i).guard = none) : Region.wanted (hdOp i) (yielded hdOps a.tmps) = true := by
  unfold Region.wanted
  rw [h]
theorem hd_want {i j n : Nat} (h : (hdOp i).guard = some (j, true)) (hd : (hdOps[j]?).bind (·.dst) = some n) (hK : Kn B K a) (hm : (n, .bool true) ∈ K) : Region.wanted (hdOp i) (yielded hdOps a.tmps) = true := by
  unfold Region.wanted
  rw [h]
  simp only
  unfold yielded
  rw [hd, Option.bind_some, hK.more _ hm]
  rfl
end
section
variable {S : World → Prop} {Q : Exit → Act → World → Prop} {a : Act} {W : World} {i j m n : Nat} {v : Value}
theorem hd_take (hN : (hdOp i).dst = some n) (hi : decide (i < 148) = true) (hc : takeW hdT8 hdB8 [] (hdM i).toList (hdM j).toList i = true) (hw : Region.wanted (hdOp i) (yielded hdOps a.tmps) = true)
    (hrun : ∀ w, S w → (execOp a.eval (hdOp i)).run Tryd.prog w = .ok (.value v) w) (hQ : ∀ c a d v w, Q (.panic c) (Act.put a d v) w → Q (.panic c) a w) (hS : S W)
    (h : wpAnyLast Tryd.prog .any hdOps Q S [] m (hdM j) (a.put (some n) v) W) : wpAnyLast Tryd.prog .any hdOps Q S [] (m + 1) (hdM i) a W := by
  have hlt : i < 148 := of_decide_eq_true hi
  exact take_ (i := i) (N := some n) (v := v) (hdM j) (hd_get hlt) hN (take_ofW hd_tab hd_bits hc) (fun c a w hh => hQ c a _ _ w hh) (Or.inl ⟨hw, hrun⟩) hS rfl h
theorem hd_one (hN : (hdOp i).dst = some n) (hi : decide (i < 148) = true) (hc : (readyT hdT8.2 (hdM i).toList == [i] && (hdM i).toList.set i true == (hdM j).toList) = true)
    (h : ∀ K : Act → World → Prop, Shut (∀ a' w', S w' → (S w' → wpAnyLast Tryd.prog .any hdOps Q S [] m (hdM j) a' w') → K a' w') → if Region.wanted (hdOp i) (yielded hdOps a.tmps) = true then Oper.wp Tryd.prog (hdOp i) a W K Q else K (a.put (some n) undef) W) :
    wpAnyLast Tryd.prog .any hdOps Q S [] (m + 1) (hdM i) a W := by
  have hlt : i < 148 := of_decide_eq_true hi
  exact one_ (i := i) (N := some n) (hdM j) (hd_get hlt) hN (one_of hd_tab hc) (by simp) h
theorem hd_after {B K : List (Nat × Value)} {l : Array Bool} (hK : Kn B K (a.put (some n) v)) (h : ∀ a', Kn B K a' → wpAnyLast Tryd.prog .any hdOps Q S [] m l a' W) : wpAnyLast Tryd.prog .any hdOps Q S [] m l (a.put (some n) v) W := h _ hK
variable {K : Act → World → Prop} {f : FuncId} {ts : Array TypeId} {x y z : Operand} {vx vy vz : Value}
theorem hd_call1 {fn : Func} (hf : Tryd.prog.funcs[f]? = some fn) (hb : fn.body.isSome = true) (hw : Region.wanted (hdOp i) (yielded hdOps a.tmps) = true) (hN : (hdOp i).dst = some n) (hname : (fn.name == "runtime.NumGoroutine") = false)
    (hop : (hdOp i).op = .call { callee := .value (.func f), args := #[x], argTypes := ts }) (hx : a.eval x = vx) (h : Calls Tryd.prog f #[vx] W fun e w' => ∃ v, e = .returned v ∧ K (a.put (some n) v) w') :
    if Region.wanted (hdOp i) (yielded hdOps a.tmps) = true then Oper.wp Tryd.prog (hdOp i) a W K Q else K (a.put (some n) undef) W :=
  goes_ hf hname hb _ hw hN hop (by simp [hx]) h
theorem hd_call2 {fn : Func} (hf : Tryd.prog.funcs[f]? = some fn) (hb : fn.body.isSome = true) (hw : Region.wanted (hdOp i) (yielded hdOps a.tmps) = true) (hN : (hdOp i).dst = some n) (hname : (fn.name == "runtime.NumGoroutine") = false)
    (hop : (hdOp i).op = .call { callee := .value (.func f), args := #[x, y], argTypes := ts }) (hx : a.eval x = vx) (hy : a.eval y = vy) (h : Calls Tryd.prog f #[vx, vy] W fun e w' => ∃ v, e = .returned v ∧ K (a.put (some n) v) w') :
    if Region.wanted (hdOp i) (yielded hdOps a.tmps) = true then Oper.wp Tryd.prog (hdOp i) a W K Q else K (a.put (some n) undef) W :=
  goes_ hf hname hb _ hw hN hop (by simp [hx, hy]) h
theorem hd_call3 {fn : Func} (hf : Tryd.prog.funcs[f]? = some fn) (hb : fn.body.isSome = true) (hw : Region.wanted (hdOp i) (yielded hdOps a.tmps) = true) (hN : (hdOp i).dst = some n) (hname : (fn.name == "runtime.NumGoroutine") = false)
    (hop : (hdOp i).op = .call { callee := .value (.func f), args := #[x, y, z], argTypes := ts }) (hx : a.eval x = vx) (hy : a.eval y = vy) (hz : a.eval z = vz) (h : Calls Tryd.prog f #[vx, vy, vz] W fun e w' => ∃ v, e = .returned v ∧ K (a.put (some n) v) w') :
    if Region.wanted (hdOp i) (yielded hdOps a.tmps) = true then Oper.wp Tryd.prog (hdOp i) a W K Q else K (a.put (some n) undef) W :=
  goes_ hf hname hb _ hw hN hop (by simp [hx, hy, hz]) h
theorem run_move (x : Operand) (h : (hdOp i).op = .move x) (hx : a.eval x = v) : ∀ w, S w → (execOp a.eval (hdOp i)).run Tryd.prog w = .ok (.value v) w := by
  intro w _
  unfold execOp
  rw [h]
  simp only [hx]
  rfl
theorem run_asg (x : Operand) (h : (hdOp i).op = .assign x) (hx : a.eval x = v) : ∀ w, S w → (execOp a.eval (hdOp i)).run Tryd.prog w = .ok (.value v) w := by
  intro w _
  unfold execOp
  rw [h]
  simp only [hx]
  rfl
theorem run_pick (c x y : Operand) (h : (hdOp i).op = .pick c x y) (hc : a.eval c = .bool true) (hx : a.eval x = v) : ∀ w, S w → (execOp a.eval (hdOp i)).run Tryd.prog w = .ok (.value v) w := by
  intro w _
  unfold execOp
  rw [h]
  simp only [hx, hc]
  rfl
theorem run_not (x : Operand) (h : (hdOp i).op = .unOp .not 4 x) (hx : a.eval x = .bool false) : ∀ w, S w → (execOp a.eval (hdOp i)).run Tryd.prog w = .ok (.value (.bool true)) w := by
  intro w _
  unfold execOp
  rw [h]
  simp only [hx]
  go_simp
theorem run_eq (x y : Operand) (m : Int) (h : (hdOp i).op = .binOp .eql 3 x y 3) (hx : a.eval x = .int .i64 m) (hy : a.eval y = .int .i64 m) : ∀ w, S w → (execOp a.eval (hdOp i)).run Tryd.prog w = .ok (.value (.bool true)) w := by
  intro w _
  unfold execOp
  rw [h]
  simp only [hx, hy]
  go_simp
theorem run_eqE (x y : Operand) (m : Int) (h : (hdOp i).op = .binOp .eql 26 x y 26) (hx : a.eval x = .int .i64 m) (hy : a.eval y = .int .i64 m) : ∀ w, S w → (execOp a.eval (hdOp i)).run Tryd.prog w = .ok (.value (.bool true)) w := by
  intro w _
  unfold execOp
  rw [h]
  simp only [hx, hy]
  go_simp
theorem run_ixC0 (x : Operand) {p : Addr} {c : Nat} (h : (hdOp i).op = .indexAddr 34 x (.const (.int .i64 0))) (hx : a.eval x = .slice (some p) 2 c) : ∀ w, S w → (execOp a.eval (hdOp i)).run Tryd.prog w = .ok (.value (.pointer (some p))) w := by
  intro w _
  unfold execOp
  rw [h]
  simp only [hx, show ∀ c, a.eval (.const c) = c from fun _ => rfl]
  go_simp
theorem run_ixC1 (x : Operand) {p : Addr} {c : Nat} (h : (hdOp i).op = .indexAddr 34 x (.const (.int .i64 1))) (hx : a.eval x = .slice (some p) 2 c) : ∀ w, S w → (execOp a.eval (hdOp i)).run Tryd.prog w = .ok (.value (.pointer (some (p.add 2)))) w := by
  intro w _
  unfold execOp
  rw [h]
  simp only [hx, show ∀ c, a.eval (.const c) = c from fun _ => rfl]
  go_simp
theorem run_ixL0 (x : Operand) {p : Addr} {c : Nat} (h : (hdOp i).op = .indexAddr 37 x (.const (.int .i64 0))) (hx : a.eval x = .slice (some p) 2 c) : ∀ w, S w → (execOp a.eval (hdOp i)).run Tryd.prog w = .ok (.value (.pointer (some p))) w := by
  intro w _
  unfold execOp
  rw [h]
  simp only [hx, show ∀ c, a.eval (.const c) = c from fun _ => rfl]
  go_simp
theorem run_ixL1 (x : Operand) {p : Addr} {c : Nat} (h : (hdOp i).op = .indexAddr 37 x (.const (.int .i64 1))) (hx : a.eval x = .slice (some p) 2 c) : ∀ w, S w → (execOp a.eval (hdOp i)).run Tryd.prog w = .ok (.value (.pointer (some (p.add 2)))) w := by
  intro w _
  unfold execOp
  rw [h]
  simp only [hx, show ∀ c, a.eval (.const c) = c from fun _ => rfl]
  go_simp
theorem run_fldC0 (x : Operand) {p : Addr} (h : (hdOp i).op = .fieldAddr 39 x 0) (hx : a.eval x = .pointer (some p)) : ∀ w, S w → (execOp a.eval (hdOp i)).run Tryd.prog w = .ok (.value (.pointer (some p))) w := by
  intro w _
  unfold execOp
  rw [h]
  simp only [hx]
  go_simp
theorem run_fldC1 (x : Operand) {p : Addr} (h : (hdOp i).op = .fieldAddr 39 x 1) (hx : a.eval x = .pointer (some p)) : ∀ w, S w → (execOp a.eval (hdOp i)).run Tryd.prog w = .ok (.value (.pointer (some ⟨p.block, p.off + 1, none⟩))) w := by
  intro w _
  unfold execOp
  rw [h]
  simp only [hx]
  go_simp
theorem run_fldL0 (x : Operand) {p : Addr} (h : (hdOp i).op = .fieldAddr 43 x 0) (hx : a.eval x = .pointer (some p)) : ∀ w, S w → (execOp a.eval (hdOp i)).run Tryd.prog w = .ok (.value (.pointer (some p))) w := by
  intro w _
  unfold execOp
  rw [h]
  simp only [hx]
  go_simp
theorem run_fldL1 (x : Operand) {p : Addr} (h : (hdOp i).op = .fieldAddr 43 x 1) (hx : a.eval x = .pointer (some p)) : ∀ w, S w → (execOp a.eval (hdOp i)).run Tryd.prog w = .ok (.value (.pointer (some ⟨p.block, p.off + 1, none⟩))) w := by
  intro w _
  unfold execOp
  rw [h]
  simp only [hx]
  go_simp
theorem run_ldB (x : Operand) {p : Addr} {b : Bool} (h : (hdOp i).op = .load 4 x) (hx : a.eval x = .pointer (some p)) (hS : ∀ w, S w → w.cell? p = some (.bool b)) : ∀ w, S w → (execOp a.eval (hdOp i)).run Tryd.prog w = .ok (.value (.bool b)) w := by
  intro w hw
  have hc := hS w hw
  unfold execOp
  rw [h]
  simp only [hx]
  go_simp
theorem run_ldC (x : Operand) {p : Addr} {A : Option Addr} {l c : Nat} (h : (hdOp i).op = .load 24 x) (hx : a.eval x = .pointer (some p)) (hS : ∀ w, S w → w.cell? p = some (.slice A l c)) : ∀ w, S w → (execOp a.eval (hdOp i)).run Tryd.prog w = .ok (.value (.slice A l c)) w := by
  intro w hw
  have hc := hS w hw
  unfold execOp
  rw [h]
  simp only [hx]
  go_simp
theorem run_ldL (x : Operand) {p : Addr} {A : Option Addr} {l c : Nat} (h : (hdOp i).op = .load 37 x) (hx : a.eval x = .pointer (some p)) (hS : ∀ w, S w → w.cell? p = some (.slice A l c)) : ∀ w, S w → (execOp a.eval (hdOp i)).run Tryd.prog w = .ok (.value (.slice A l c)) w := by
  intro w hw
  have hc := hS w hw
  unfold execOp
  rw [h]
  simp only [hx]
  go_simp
end
section
variable {S : World → Prop} {Q : Exit → Act → World → Prop} {a : Act} {W : World} {i n : Nat} {K : Act → World → Prop}
theorem hd_build1 (x1 : Operand) {k1 n1 : Int} {s1 : ByteArray} (hop : (hdOp i).op = .buildSlice 24 1 #[(0, x1)]) (hw : Region.wanted (hdOp i) (yielded hdOps a.tmps) = true) (hN : (hdOp i).dst = some n)
    (h1 : a.eval x1 = .agg #[.int .i64 k1, .string s1, .int .i64 n1])
    (h : ∀ g, g = W.heap.size → K (a.put (some n) (.slice (some ⟨g, 0, none⟩) 1 1)) (W.alloc (.cells #[.int .i64 k1, .string s1, .int .i64 n1] 41 (0, 0)))) :
    if Region.wanted (hdOp i) (yielded hdOps a.tmps) = true then Oper.wp Tryd.prog (hdOp i) a W K Q else K (a.put (some n) undef) W := by
  refine value_ hw hN ?_ (h _ rfl)
  unfold execOp
  rw [hop]
  simp only [List.map_toArray, List.map_cons, List.map_nil, h1]
  go_simp
theorem hd_build2 (x1 x2 : Operand) {k1 n1 k2 n2 : Int} {s1 s2 : ByteArray} (hop : (hdOp i).op = .buildSlice 24 2 #[(0, x1), (1, x2)]) (hw : Region.wanted (hdOp i) (yielded hdOps a.tmps) = true) (hN : (hdOp i).dst = some n)
    (h1 : a.eval x1 = .agg #[.int .i64 k1, .string s1, .int .i64 n1]) (h2 : a.eval x2 = .agg #[.int .i64 k2, .string s2, .int .i64 n2])
    (h : ∀ g, g = W.heap.size → K (a.put (some n) (.slice (some ⟨g, 0, none⟩) 2 2)) (W.alloc (.cells #[.int .i64 k1, .string s1, .int .i64 n1, .int .i64 k2, .string s2, .int .i64 n2] 41 (0, 0)))) :
    if Region.wanted (hdOp i) (yielded hdOps a.tmps) = true then Oper.wp Tryd.prog (hdOp i) a W K Q else K (a.put (some n) undef) W := by
  refine value_ hw hN ?_ (h _ rfl)
  unfold execOp
  rw [hop]
  simp only [List.map_toArray, List.map_cons, List.map_nil, h1, h2]
  go_simp
theorem hd_build3 (x1 x2 x3 : Operand) {k1 n1 k2 n2 k3 n3 : Int} {s1 s2 s3 : ByteArray} (hop : (hdOp i).op = .buildSlice 24 3 #[(0, x1), (1, x2), (2, x3)]) (hw : Region.wanted (hdOp i) (yielded hdOps a.tmps) = true) (hN : (hdOp i).dst = some n)
    (h1 : a.eval x1 = .agg #[.int .i64 k1, .string s1, .int .i64 n1]) (h2 : a.eval x2 = .agg #[.int .i64 k2, .string s2, .int .i64 n2]) (h3 : a.eval x3 = .agg #[.int .i64 k3, .string s3, .int .i64 n3])
    (h : ∀ g, g = W.heap.size → K (a.put (some n) (.slice (some ⟨g, 0, none⟩) 3 3)) (W.alloc (.cells #[.int .i64 k1, .string s1, .int .i64 n1, .int .i64 k2, .string s2, .int .i64 n2, .int .i64 k3, .string s3, .int .i64 n3] 41 (0, 0)))) :
    if Region.wanted (hdOp i) (yielded hdOps a.tmps) = true then Oper.wp Tryd.prog (hdOp i) a W K Q else K (a.put (some n) undef) W := by
  refine value_ hw hN ?_ (h _ rfl)
  unfold execOp
  rw [hop]
  simp only [List.map_toArray, List.map_cons, List.map_nil, h1, h2, h3]
  go_simp
theorem hd_build4s (x1 x2 x3 x4 : Operand) {s1 s2 s3 s4 : ByteArray} (hop : (hdOp i).op = .buildSlice 25 4 #[(0, x1), (1, x2), (2, x3), (3, x4)]) (hw : Region.wanted (hdOp i) (yielded hdOps a.tmps) = true) (hN : (hdOp i).dst = some n)
    (h1 : a.eval x1 = .string s1) (h2 : a.eval x2 = .string s2) (h3 : a.eval x3 = .string s3) (h4 : a.eval x4 = .string s4)
    (h : ∀ g, g = W.heap.size → K (a.put (some n) (.slice (some ⟨g, 0, none⟩) 4 4)) (W.alloc (.cells #[.string s1, .string s2, .string s3, .string s4] 9 (0, 0)))) :
    if Region.wanted (hdOp i) (yielded hdOps a.tmps) = true then Oper.wp Tryd.prog (hdOp i) a W K Q else K (a.put (some n) undef) W := by
  refine value_ hw hN ?_ (h _ rfl)
  unfold execOp
  rw [hop]
  simp only [List.map_toArray, List.map_cons, List.map_nil, h1, h2, h3, h4]
  go_simp
theorem hd_build5 (x1 x2 x3 x4 x5 : Operand) {k1 n1 k2 n2 k3 n3 k4 n4 k5 n5 : Int} {s1 s2 s3 s4 s5 : ByteArray} (hop : (hdOp i).op = .buildSlice 24 5 #[(0, x1), (1, x2), (2, x3), (3, x4), (4, x5)]) (hw : Region.wanted (hdOp i) (yielded hdOps a.tmps) = true) (hN : (hdOp i).dst = some n)
    (h1 : a.eval x1 = .agg #[.int .i64 k1, .string s1, .int .i64 n1]) (h2 : a.eval x2 = .agg #[.int .i64 k2, .string s2, .int .i64 n2]) (h3 : a.eval x3 = .agg #[.int .i64 k3, .string s3, .int .i64 n3]) (h4 : a.eval x4 = .agg #[.int .i64 k4, .string s4, .int .i64 n4]) (h5 : a.eval x5 = .agg #[.int .i64 k5, .string s5, .int .i64 n5])
    (h : ∀ g, g = W.heap.size → K (a.put (some n) (.slice (some ⟨g, 0, none⟩) 5 5)) (W.alloc (.cells #[.int .i64 k1, .string s1, .int .i64 n1, .int .i64 k2, .string s2, .int .i64 n2, .int .i64 k3, .string s3, .int .i64 n3, .int .i64 k4, .string s4, .int .i64 n4, .int .i64 k5, .string s5, .int .i64 n5] 41 (0, 0)))) :
    if Region.wanted (hdOp i) (yielded hdOps a.tmps) = true then Oper.wp Tryd.prog (hdOp i) a W K Q else K (a.put (some n) undef) W := by
  refine value_ hw hN ?_ (h _ rfl)
  unfold execOp
  rw [hop]
  simp only [List.map_toArray, List.map_cons, List.map_nil, h1, h2, h3, h4, h5]
  go_simp
theorem hd_build6 (x1 x2 x3 x4 x5 x6 : Operand) {k1 n1 k2 n2 k3 n3 k4 n4 k5 n5 k6 n6 : Int} {s1 s2 s3 s4 s5 s6 : ByteArray} (hop : (hdOp i).op = .buildSlice 24 6 #[(0, x1), (1, x2), (2, x3), (3, x4), (4, x5), (5, x6)]) (hw : Region.wanted (hdOp i) (yielded hdOps a.tmps) = true) (hN : (hdOp i).dst = some n)
    (h1 : a.eval x1 = .agg #[.int .i64 k1, .string s1, .int .i64 n1]) (h2 : a.eval x2 = .agg #[.int .i64 k2, .string s2, .int .i64 n2]) (h3 : a.eval x3 = .agg #[.int .i64 k3, .string s3, .int .i64 n3]) (h4 : a.eval x4 = .agg #[.int .i64 k4, .string s4, .int .i64 n4]) (h5 : a.eval x5 = .agg #[.int .i64 k5, .string s5, .int .i64 n5]) (h6 : a.eval x6 = .agg #[.int .i64 k6, .string s6, .int .i64 n6])
    (h : ∀ g, g = W.heap.size → K (a.put (some n) (.slice (some ⟨g, 0, none⟩) 6 6)) (W.alloc (.cells #[.int .i64 k1, .string s1, .int .i64 n1, .int .i64 k2, .string s2, .int .i64 n2, .int .i64 k3, .string s3, .int .i64 n3, .int .i64 k4, .string s4, .int .i64 n4, .int .i64 k5, .string s5, .int .i64 n5, .int .i64 k6, .string s6, .int .i64 n6] 41 (0, 0)))) :
    if Region.wanted (hdOp i) (yielded hdOps a.tmps) = true then Oper.wp Tryd.prog (hdOp i) a W K Q else K (a.put (some n) undef) W := by
  refine value_ hw hN ?_ (h _ rfl)
  unfold execOp
  rw [hop]
  simp only [List.map_toArray, List.map_cons, List.map_nil, h1, h2, h3, h4, h5, h6]
  go_simp
end

def hdK (At An : Option Addr) (ad : Addr) (ct cn cp : Nat) : List (Nat × Value) := [(1, .slice At 6 ct), (2, .slice An 4 cn), (5, .slice (some ad) 2 cp), (6, .int .i64 0), (7, .int .i64 0), (9, .int .i64 5), (10, .int .i64 50), (11, .int .i64 200), (12, .int .i64 0), (13, .int .i64 200), (14, .int .i64 500), (15, .int .i64 500), (16, .int .i64 499)]
section
variable {w : World} {At An Ah A1 A2 : Option Addr} {ad ab : Addr} {ch cb c1 c2 ct cn cp : Nat}
set_option maxHeartbeats 4000000 in
theorem hd_seg0 (hG : Aside0 (GW w)) {Q : Exit → Act → World → Prop} (hQ : ∀ c a d v w, Q (.panic c) (Act.put a d v) w → Q (.panic c) a w) (a : Act) (W : World) (hK : Kn (hdK At An ad ct cn cp) [] a) (hS : HdS w At An ad ab Ah A1 A2 ch cb c1 c2 W)
    (next : ∀ a' W', Kn (hdK At An ad ct cn cp) [(61, .bool true)] a' → HdS w At An ad ab Ah A1 A2 ch cb c1 c2 W' → wpAnyLast Tryd.prog .any hdOps Q (HdS w At An ad ab Ah A1 A2 ch cb c1 c2) [] 140 (hdM 8) a' W') :
    wpAnyLast Tryd.prog .any hdOps Q (HdS w At An ad ab Ah A1 A2 ch cb c1 c2) [] 148 (hdM 0) a W := by
  refine hd_one (i := 0) (j := 1) (m := 147) (n := 54) (by kernel_rfl) rfl (by kernel_rfl) (fun K hKK => ?_)
  refine hd_call2 (f := 20) (x := .const (.string ⟨#[45]⟩)) (y := .const (.int .i64 2)) (ts := #[9, 3]) Tryd.func20 rfl (hd_want0 (by kernel_rfl)) (by kernel_rfl) (by kernel_rfl) (by kernel_rfl) rfl rfl ?_
  refine (sorrellaw05_f.calls ⟨#[45]⟩ 2 3 ⟨#[45]⟩ 2 _ rfl).mono ?_
  rintro e W0 ⟨rfl, hb0⟩
  refine ⟨_, rfl, hKK.out _ _ (hd_keep hS hb0) (fun hS0 => ?_)⟩
  refine hd_after (hK.put 54 (.agg #[.int .i64 3, .string ⟨#[45]⟩, .int .i64 2]) (by decide) rfl rfl) (fun a0 hK0 => ?_)
  refine hd_one (i := 1) (j := 2) (m := 146) (n := 55) (by kernel_rfl) rfl (by kernel_rfl) (fun K hKK => ?_)
  refine hd_call2 (f := 20) (x := .const (.string ⟨#[45]⟩)) (y := .const (.int .i64 2)) (ts := #[9, 3]) Tryd.func20 rfl (hd_want0 (by kernel_rfl)) (by kernel_rfl) (by kernel_rfl) (by kernel_rfl) rfl rfl ?_
  refine (sorrellaw05_f.calls ⟨#[45]⟩ 2 3 ⟨#[45]⟩ 2 _ rfl).mono ?_
  rintro e W1 ⟨rfl, hb1⟩
  refine ⟨_, rfl, hKK.out _ _ (hd_keep hS0 hb1) (fun hS1 => ?_)⟩
  refine hd_after (hK0.put 55 (.agg #[.int .i64 3, .string ⟨#[45]⟩, .int .i64 2]) (by decide) rfl rfl) (fun a1 hK1 => ?_)
  refine hd_one (i := 2) (j := 3) (m := 145) (n := 56) (by kernel_rfl) rfl (by kernel_rfl) (fun K hKK => ?_)
  refine hd_call1 (f := 19) (x := .const (.int .i64 1)) (ts := #[3]) Tryd.func19 rfl (hd_want0 (by kernel_rfl)) (by kernel_rfl) (by kernel_rfl) (by kernel_rfl) rfl ?_
  refine (sorrellaw05_n.calls 1 2 ⟨#[]⟩ 1 _ rfl).mono ?_
  rintro e W2 ⟨rfl, hb2⟩
  refine ⟨_, rfl, hKK.out _ _ (hd_keep hS1 hb2) (fun hS2 => ?_)⟩
  refine hd_after (hK1.put 56 (.agg #[.int .i64 2, .string ⟨#[]⟩, .int .i64 1]) (by decide) rfl rfl) (fun a2 hK2 => ?_)
  refine hd_one (i := 3) (j := 4) (m := 144) (n := 57) (by kernel_rfl) rfl (by kernel_rfl) (fun K hKK => ?_)
  refine hd_call1 (f := 19) (x := .const (.int .i64 2)) (ts := #[3]) Tryd.func19 rfl (hd_want0 (by kernel_rfl)) (by kernel_rfl) (by kernel_rfl) (by kernel_rfl) rfl ?_
  refine (sorrellaw05_n.calls 2 2 ⟨#[]⟩ 2 _ rfl).mono ?_
  rintro e W3 ⟨rfl, hb3⟩
  refine ⟨_, rfl, hKK.out _ _ (hd_keep hS2 hb3) (fun hS3 => ?_)⟩
  refine hd_after (hK2.put 57 (.agg #[.int .i64 2, .string ⟨#[]⟩, .int .i64 2]) (by decide) rfl rfl) (fun a3 hK3 => ?_)
  refine hd_one (i := 4) (j := 5) (m := 143) (n := 58) (by kernel_rfl) rfl (by kernel_rfl) (fun K hKK => ?_)
  refine hd_call1 (f := 19) (x := .const (.int .i64 3)) (ts := #[3]) Tryd.func19 rfl (hd_want0 (by kernel_rfl)) (by kernel_rfl) (by kernel_rfl) (by kernel_rfl) rfl ?_
  refine (sorrellaw05_n.calls 3 2 ⟨#[]⟩ 3 _ rfl).mono ?_
  rintro e W4 ⟨rfl, hb4⟩
  refine ⟨_, rfl, hKK.out _ _ (hd_keep hS3 hb4) (fun hS4 => ?_)⟩
  refine hd_after (hK3.put 58 (.agg #[.int .i64 2, .string ⟨#[]⟩, .int .i64 3]) (by decide) rfl rfl) (fun a4 hK4 => ?_)
  refine hd_one (i := 5) (j := 6) (m := 142) (n := 59) (by kernel_rfl) rfl (by kernel_rfl) (fun K hKK => ?_)
  refine hd_build5 (.tmp 54) (.tmp 55) (.tmp 56) (.tmp 57) (.tmp 58) (by kernel_rfl) (hd_want0 (by kernel_rfl)) (by kernel_rfl) (hK4.ev (.tail _ (.tail _ (.tail _ (.tail _ (.head _)))))) (hK4.ev (.tail _ (.tail _ (.tail _ (.head _))))) (hK4.ev (.tail _ (.tail _ (.head _)))) (hK4.ev (.tail _ (.head _))) (hK4.ev (.head _)) (fun g5 hg5 => ?_)
  refine hKK.out _ _ (hd_keep hS4 (below_alloc (Below.refl _ _) _)) (fun hS5 => ?_)
  refine hd_after (hK4.put 59 (.slice (some ⟨g5, 0, none⟩) 5 5) (by decide) rfl rfl) (fun a5 hK5 => ?_)
  refine hd_one (i := 6) (j := 7) (m := 141) (n := 60) (by kernel_rfl) rfl (by kernel_rfl) (fun K hKK => ?_)
  refine hd_call2 (f := 18) (x := .const (.string ⟨#[49, 32, 45, 32, 50, 32, 45, 32, 51]⟩)) (y := .tmp 59) (ts := #[9, 24]) Tryd.func18 rfl (hd_want0 (by kernel_rfl)) (by kernel_rfl) (by kernel_rfl) (by kernel_rfl) rfl (hK5.ev (.head _)) ?_
  refine (sorrellaw05_gives.calls 100 ⟨#[49, 32, 45, 32, 50, 32, 45, 32, 51]⟩ _ _ hdG0 true _ (cells_C hdG0 (heap_new _ _ _ hg5) rfl (by decide)) (by decide) hd_g0 (GW.belowA hG (hd_k hS5).below)).mono ?_
  rintro e W6 ⟨rfl, hb6⟩
  refine ⟨_, rfl, hKK.out _ _ (hd_keep hS5 hb6) (fun hS6 => ?_)⟩
  refine hd_after (hK5.put 60 (.bool true) (by decide) rfl rfl) (fun a6 hK6 => ?_)
  refine hd_take (i := 7) (j := 8) (m := 140) (n := 61) (v := .bool true) (by kernel_rfl) rfl (by kernel_rfl) (hd_want0 (by kernel_rfl)) (run_move (.tmp 60) (by kernel_rfl) (hK6.ev (.head _))) hQ hS6 ?_
  refine hd_after (hK6.put 61 (.bool true) (by decide) rfl rfl) (fun a7 hK7 => ?_)
  exact next _ _ (hK7.one (.head _)) hS6
set_option maxHeartbeats 4000000 in
theorem hd_seg1 (hG : Aside0 (GW w)) {Q : Exit → Act → World → Prop} (hQ : ∀ c a d v w, Q (.panic c) (Act.put a d v) w → Q (.panic c) a w) (a : Act) (W : World) (hK : Kn (hdK At An ad ct cn cp) [(61, .bool true)] a) (hS : HdS w At An ad ab Ah A1 A2 ch cb c1 c2 W)
    (next : ∀ a' W', Kn (hdK At An ad ct cn cp) [(67, .bool true)] a' → HdS w At An ad ab Ah A1 A2 ch cb c1 c2 W' → wpAnyLast Tryd.prog .any hdOps Q (HdS w At An ad ab Ah A1 A2 ch cb c1 c2) [] 134 (hdM 14) a' W') :
    wpAnyLast Tryd.prog .any hdOps Q (HdS w At An ad ab Ah A1 A2 ch cb c1 c2) [] 140 (hdM 8) a W := by
  refine hd_one (i := 8) (j := 9) (m := 139) (n := 62) (by kernel_rfl) rfl (by kernel_rfl) (fun K hKK => ?_)
  refine hd_call2 (f := 20) (x := .const (.string ⟨#[45]⟩)) (y := .const (.int .i64 1)) (ts := #[9, 3]) Tryd.func20 rfl (hd_want (j := 7) (n := 61) (by kernel_rfl) (by kernel_rfl) hK (.head _)) (by kernel_rfl) (by kernel_rfl) (by kernel_rfl) rfl rfl ?_
  refine (sorrellaw05_f.calls ⟨#[45]⟩ 1 3 ⟨#[45]⟩ 1 _ rfl).mono ?_
  rintro e W8 ⟨rfl, hb8⟩
  refine ⟨_, rfl, hKK.out _ _ (hd_keep hS hb8) (fun hS8 => ?_)⟩
  refine hd_after (hK.put 62 (.agg #[.int .i64 3, .string ⟨#[45]⟩, .int .i64 1]) (by decide) rfl rfl) (fun a8 hK8 => ?_)
  refine hd_one (i := 9) (j := 10) (m := 138) (n := 63) (by kernel_rfl) rfl (by kernel_rfl) (fun K hKK => ?_)
  refine hd_call1 (f := 19) (x := .const (.int .i64 2)) (ts := #[3]) Tryd.func19 rfl (hd_want (j := 7) (n := 61) (by kernel_rfl) (by kernel_rfl) hK8 (.tail _ (.head _))) (by kernel_rfl) (by kernel_rfl) (by kernel_rfl) rfl ?_
  refine (sorrellaw05_n.calls 2 2 ⟨#[]⟩ 2 _ rfl).mono ?_
  rintro e W9 ⟨rfl, hb9⟩
  refine ⟨_, rfl, hKK.out _ _ (hd_keep hS8 hb9) (fun hS9 => ?_)⟩
  refine hd_after (hK8.put 63 (.agg #[.int .i64 2, .string ⟨#[]⟩, .int .i64 2]) (by decide) rfl rfl) (fun a9 hK9 => ?_)
  refine hd_one (i := 10) (j := 11) (m := 137) (n := 64) (by kernel_rfl) rfl (by kernel_rfl) (fun K hKK => ?_)
  refine hd_build2 (.tmp 62) (.tmp 63) (by kernel_rfl) (hd_want (j := 7) (n := 61) (by kernel_rfl) (by kernel_rfl) hK9 (.tail _ (.tail _ (.head _)))) (by kernel_rfl) (hK9.ev (.tail _ (.head _))) (hK9.ev (.head _)) (fun g10 hg10 => ?_)
  refine hKK.out _ _ (hd_keep hS9 (below_alloc (Below.refl _ _) _)) (fun hS10 => ?_)
  refine hd_after (hK9.put 64 (.slice (some ⟨g10, 0, none⟩) 2 2) (by decide) rfl rfl) (fun a10 hK10 => ?_)
  refine hd_one (i := 11) (j := 12) (m := 136) (n := 65) (by kernel_rfl) rfl (by kernel_rfl) (fun K hKK => ?_)
  refine hd_call2 (f := 18) (x := .const (.string ⟨#[45, 32, 50]⟩)) (y := .tmp 64) (ts := #[9, 24]) Tryd.func18 rfl (hd_want (j := 7) (n := 61) (by kernel_rfl) (by kernel_rfl) hK10 (.tail _ (.tail _ (.tail _ (.head _))))) (by kernel_rfl) (by kernel_rfl) (by kernel_rfl) rfl (hK10.ev (.head _)) ?_
  refine (sorrellaw05_gives.calls 100 ⟨#[45, 32, 50]⟩ _ _ hdG1 true _ (cells_C hdG1 (heap_new _ _ _ hg10) rfl (by decide)) (by decide) hd_g1 (GW.belowA hG (hd_k hS10).below)).mono ?_
  rintro e W11 ⟨rfl, hb11⟩
  refine ⟨_, rfl, hKK.out _ _ (hd_keep hS10 hb11) (fun hS11 => ?_)⟩
  refine hd_after (hK10.put 65 (.bool true) (by decide) rfl rfl) (fun a11 hK11 => ?_)
  refine hd_take (i := 12) (j := 13) (m := 135) (n := 66) (v := .bool true) (by kernel_rfl) rfl (by kernel_rfl) (hd_want0 (by kernel_rfl)) (run_pick (.tmp 61) (.tmp 65) (.const (.bool false)) (by kernel_rfl) (hK11.ev (.tail _ (.tail _ (.tail _ (.tail _ (.head _)))))) (hK11.ev (.head _))) hQ hS11 ?_
  refine hd_after (hK11.put 66 (.bool true) (by decide) rfl rfl) (fun a12 hK12 => ?_)
  refine hd_take (i := 13) (j := 14) (m := 134) (n := 67) (v := .bool true) (by kernel_rfl) rfl (by kernel_rfl) (hd_want0 (by kernel_rfl)) (run_move (.tmp 66) (by kernel_rfl) (hK12.ev (.head _))) hQ hS11 ?_
  refine hd_after (hK12.put 67 (.bool true) (by decide) rfl rfl) (fun a13 hK13 => ?_)
  exact next _ _ (hK13.one (.head _)) hS11
set_option maxHeartbeats 4000000 in
theorem hd_seg2 (hG : Aside0 (GW w)) {Q : Exit → Act → World → Prop} (hQ : ∀ c a d v w, Q (.panic c) (Act.put a d v) w → Q (.panic c) a w) (a : Act) (W : World) (hK : Kn (hdK At An ad ct cn cp) [(67, .bool true)] a) (hS : HdS w At An ad ab Ah A1 A2 ch cb c1 c2 W)
    (next : ∀ a' W', Kn (hdK At An ad ct cn cp) [(72, .bool true)] a' → HdS w At An ad ab Ah A1 A2 ch cb c1 c2 W' → wpAnyLast Tryd.prog .any hdOps Q (HdS w At An ad ab Ah A1 A2 ch cb c1 c2) [] 129 (hdM 19) a' W') :
    wpAnyLast Tryd.prog .any hdOps Q (HdS w At An ad ab Ah A1 A2 ch cb c1 c2) [] 134 (hdM 14) a W := by
  refine hd_one (i := 14) (j := 15) (m := 133) (n := 68) (by kernel_rfl) rfl (by kernel_rfl) (fun K hKK => ?_)
  refine hd_call1 (f := 19) (x := .const (.int .i64 (-2))) (ts := #[3]) Tryd.func19 rfl (hd_want (j := 13) (n := 67) (by kernel_rfl) (by kernel_rfl) hK (.head _)) (by kernel_rfl) (by kernel_rfl) (by kernel_rfl) rfl ?_
  refine (sorrellaw05_n.calls (-2) 2 ⟨#[]⟩ (-2) _ rfl).mono ?_
  rintro e W14 ⟨rfl, hb14⟩
  refine ⟨_, rfl, hKK.out _ _ (hd_keep hS hb14) (fun hS14 => ?_)⟩
  refine hd_after (hK.put 68 (.agg #[.int .i64 2, .string ⟨#[]⟩, .int .i64 (-2)]) (by decide) rfl rfl) (fun a14 hK14 => ?_)
  refine hd_one (i := 15) (j := 16) (m := 132) (n := 69) (by kernel_rfl) rfl (by kernel_rfl) (fun K hKK => ?_)
  refine hd_build1 (.tmp 68) (by kernel_rfl) (hd_want (j := 13) (n := 67) (by kernel_rfl) (by kernel_rfl) hK14 (.tail _ (.head _))) (by kernel_rfl) (hK14.ev (.head _)) (fun g15 hg15 => ?_)
  refine hKK.out _ _ (hd_keep hS14 (below_alloc (Below.refl _ _) _)) (fun hS15 => ?_)
  refine hd_after (hK14.put 69 (.slice (some ⟨g15, 0, none⟩) 1 1) (by decide) rfl rfl) (fun a15 hK15 => ?_)
  refine hd_one (i := 16) (j := 17) (m := 131) (n := 70) (by kernel_rfl) rfl (by kernel_rfl) (fun K hKK => ?_)
  refine hd_call2 (f := 18) (x := .const (.string ⟨#[45, 50]⟩)) (y := .tmp 69) (ts := #[9, 24]) Tryd.func18 rfl (hd_want (j := 13) (n := 67) (by kernel_rfl) (by kernel_rfl) hK15 (.tail _ (.tail _ (.head _)))) (by kernel_rfl) (by kernel_rfl) (by kernel_rfl) rfl (hK15.ev (.head _)) ?_
  refine (sorrellaw05_gives.calls 100 ⟨#[45, 50]⟩ _ _ hdG2 true _ (cells_C hdG2 (heap_new _ _ _ hg15) rfl (by decide)) (by decide) hd_g2 (GW.belowA hG (hd_k hS15).below)).mono ?_
  rintro e W16 ⟨rfl, hb16⟩
  refine ⟨_, rfl, hKK.out _ _ (hd_keep hS15 hb16) (fun hS16 => ?_)⟩
  refine hd_after (hK15.put 70 (.bool true) (by decide) rfl rfl) (fun a16 hK16 => ?_)
  refine hd_take (i := 17) (j := 18) (m := 130) (n := 71) (v := .bool true) (by kernel_rfl) rfl (by kernel_rfl) (hd_want0 (by kernel_rfl)) (run_pick (.tmp 67) (.tmp 70) (.const (.bool false)) (by kernel_rfl) (hK16.ev (.tail _ (.tail _ (.tail _ (.head _))))) (hK16.ev (.head _))) hQ hS16 ?_
  refine hd_after (hK16.put 71 (.bool true) (by decide) rfl rfl) (fun a17 hK17 => ?_)
  refine hd_take (i := 18) (j := 19) (m := 129) (n := 72) (v := .bool true) (by kernel_rfl) rfl (by kernel_rfl) (hd_want0 (by kernel_rfl)) (run_move (.tmp 71) (by kernel_rfl) (hK17.ev (.head _))) hQ hS16 ?_
  refine hd_after (hK17.put 72 (.bool true) (by decide) rfl rfl) (fun a18 hK18 => ?_)
  exact next _ _ (hK18.one (.head _)) hS16
set_option maxHeartbeats 4000000 in
theorem hd_seg3 (hG : Aside0 (GW w)) {Q : Exit → Act → World → Prop} (hQ : ∀ c a d v w, Q (.panic c) (Act.put a d v) w → Q (.panic c) a w) (a : Act) (W : World) (hK : Kn (hdK At An ad ct cn cp) [(72, .bool true)] a) (hS : HdS w At An ad ab Ah A1 A2 ch cb c1 c2 W)
    (next : ∀ a' W', Kn (hdK At An ad ct cn cp) [(81, .bool true)] a' → HdS w At An ad ab Ah A1 A2 ch cb c1 c2 W' → wpAnyLast Tryd.prog .any hdOps Q (HdS w At An ad ab Ah A1 A2 ch cb c1 c2) [] 120 (hdM 28) a' W') :
    wpAnyLast Tryd.prog .any hdOps Q (HdS w At An ad ab Ah A1 A2 ch cb c1 c2) [] 129 (hdM 19) a W := by
  refine hd_one (i := 19) (j := 20) (m := 128) (n := 73) (by kernel_rfl) rfl (by kernel_rfl) (fun K hKK => ?_)
  refine hd_call2 (f := 20) (x := .const (.string ⟨#[46]⟩)) (y := .const (.int .i64 2)) (ts := #[9, 3]) Tryd.func20 rfl (hd_want (j := 18) (n := 72) (by kernel_rfl) (by kernel_rfl) hK (.head _)) (by kernel_rfl) (by kernel_rfl) (by kernel_rfl) rfl rfl ?_
  refine (sorrellaw05_f.calls ⟨#[46]⟩ 2 3 ⟨#[46]⟩ 2 _ rfl).mono ?_
  rintro e W19 ⟨rfl, hb19⟩
  refine ⟨_, rfl, hKK.out _ _ (hd_keep hS hb19) (fun hS19 => ?_)⟩
  refine hd_after (hK.put 73 (.agg #[.int .i64 3, .string ⟨#[46]⟩, .int .i64 2]) (by decide) rfl rfl) (fun a19 hK19 => ?_)
  refine hd_one (i := 20) (j := 21) (m := 127) (n := 74) (by kernel_rfl) rfl (by kernel_rfl) (fun K hKK => ?_)
  refine hd_call1 (f := 23) (x := .const (.int .i64 0)) (ts := #[3]) Tryd.func23 rfl (hd_want (j := 18) (n := 72) (by kernel_rfl) (by kernel_rfl) hK19 (.tail _ (.head _))) (by kernel_rfl) (by kernel_rfl) (by kernel_rfl) rfl ?_
  refine (sorrellaw05_v.calls 0 1 ⟨#[]⟩ 0 _ rfl).mono ?_
  rintro e W20 ⟨rfl, hb20⟩
  refine ⟨_, rfl, hKK.out _ _ (hd_keep hS19 hb20) (fun hS20 => ?_)⟩
  refine hd_after (hK19.put 74 (.agg #[.int .i64 1, .string ⟨#[]⟩, .int .i64 0]) (by decide) rfl rfl) (fun a20 hK20 => ?_)
  refine hd_one (i := 21) (j := 22) (m := 126) (n := 75) (by kernel_rfl) rfl (by kernel_rfl) (fun K hKK => ?_)
  refine hd_call2 (f := 20) (x := .const (.string ⟨#[46]⟩)) (y := .const (.int .i64 2)) (ts := #[9, 3]) Tryd.func20 rfl (hd_want (j := 18) (n := 72) (by kernel_rfl) (by kernel_rfl) hK20 (.tail _ (.tail _ (.head _)))) (by kernel_rfl) (by kernel_rfl) (by kernel_rfl) rfl rfl ?_
  refine (sorrellaw05_f.calls ⟨#[46]⟩ 2 3 ⟨#[46]⟩ 2 _ rfl).mono ?_
  rintro e W21 ⟨rfl, hb21⟩
  refine ⟨_, rfl, hKK.out _ _ (hd_keep hS20 hb21) (fun hS21 => ?_)⟩
  refine hd_after (hK20.put 75 (.agg #[.int .i64 3, .string ⟨#[46]⟩, .int .i64 2]) (by decide) rfl rfl) (fun a21 hK21 => ?_)
  refine hd_one (i := 22) (j := 23) (m := 125) (n := 76) (by kernel_rfl) rfl (by kernel_rfl) (fun K hKK => ?_)
  refine hd_call2 (f := 20) (x := .const (.string ⟨#[98]⟩)) (y := .const (.int .i64 0)) (ts := #[9, 3]) Tryd.func20 rfl (hd_want (j := 18) (n := 72) (by kernel_rfl) (by kernel_rfl) hK21 (.tail _ (.tail _ (.tail _ (.head _))))) (by kernel_rfl) (by kernel_rfl) (by kernel_rfl) rfl rfl ?_
  refine (sorrellaw05_f.calls ⟨#[98]⟩ 0 3 ⟨#[98]⟩ 0 _ rfl).mono ?_
  rintro e W22 ⟨rfl, hb22⟩
  refine ⟨_, rfl, hKK.out _ _ (hd_keep hS21 hb22) (fun hS22 => ?_)⟩
  refine hd_after (hK21.put 76 (.agg #[.int .i64 3, .string ⟨#[98]⟩, .int .i64 0]) (by decide) rfl rfl) (fun a22 hK22 => ?_)
  refine hd_one (i := 23) (j := 24) (m := 124) (n := 77) (by kernel_rfl) rfl (by kernel_rfl) (fun K hKK => ?_)
  refine hd_call1 (f := 23) (x := .const (.int .i64 0)) (ts := #[3]) Tryd.func23 rfl (hd_want (j := 18) (n := 72) (by kernel_rfl) (by kernel_rfl) hK22 (.tail _ (.tail _ (.tail _ (.tail _ (.head _)))))) (by kernel_rfl) (by kernel_rfl) (by kernel_rfl) rfl ?_
  refine (sorrellaw05_v.calls 0 1 ⟨#[]⟩ 0 _ rfl).mono ?_
  rintro e W23 ⟨rfl, hb23⟩
  refine ⟨_, rfl, hKK.out _ _ (hd_keep hS22 hb23) (fun hS23 => ?_)⟩
  refine hd_after (hK22.put 77 (.agg #[.int .i64 1, .string ⟨#[]⟩, .int .i64 0]) (by decide) rfl rfl) (fun a23 hK23 => ?_)
  refine hd_one (i := 24) (j := 25) (m := 123) (n := 78) (by kernel_rfl) rfl (by kernel_rfl) (fun K hKK => ?_)
  refine hd_build5 (.tmp 73) (.tmp 74) (.tmp 75) (.tmp 76) (.tmp 77) (by kernel_rfl) (hd_want (j := 18) (n := 72) (by kernel_rfl) (by kernel_rfl) hK23 (.tail _ (.tail _ (.tail _ (.tail _ (.tail _ (.head _))))))) (by kernel_rfl) (hK23.ev (.tail _ (.tail _ (.tail _ (.tail _ (.head _)))))) (hK23.ev (.tail _ (.tail _ (.tail _ (.head _))))) (hK23.ev (.tail _ (.tail _ (.head _)))) (hK23.ev (.tail _ (.head _))) (hK23.ev (.head _)) (fun g24 hg24 => ?_)
  refine hKK.out _ _ (hd_keep hS23 (below_alloc (Below.refl _ _) _)) (fun hS24 => ?_)
  refine hd_after (hK23.put 78 (.slice (some ⟨g24, 0, none⟩) 5 5) (by decide) rfl rfl) (fun a24 hK24 => ?_)
  refine hd_one (i := 25) (j := 26) (m := 122) (n := 79) (by kernel_rfl) rfl (by kernel_rfl) (fun K hKK => ?_)
  refine hd_call2 (f := 18) (x := .const (.string ⟨#[91, 88, 44, 32, 98, 32, 124, 32, 88, 93]⟩)) (y := .tmp 78) (ts := #[9, 24]) Tryd.func18 rfl (hd_want (j := 18) (n := 72) (by kernel_rfl) (by kernel_rfl) hK24 (.tail _ (.tail _ (.tail _ (.tail _ (.tail _ (.tail _ (.head _)))))))) (by kernel_rfl) (by kernel_rfl) (by kernel_rfl) rfl (hK24.ev (.head _)) ?_
  refine (sorrellaw05_gives.calls 100 ⟨#[91, 88, 44, 32, 98, 32, 124, 32, 88, 93]⟩ _ _ hdG3 true _ (cells_C hdG3 (heap_new _ _ _ hg24) rfl (by decide)) (by decide) hd_g3 (GW.belowA hG (hd_k hS24).below)).mono ?_
  rintro e W25 ⟨rfl, hb25⟩
  refine ⟨_, rfl, hKK.out _ _ (hd_keep hS24 hb25) (fun hS25 => ?_)⟩
  refine hd_after (hK24.put 79 (.bool true) (by decide) rfl rfl) (fun a25 hK25 => ?_)
  refine hd_take (i := 26) (j := 27) (m := 121) (n := 80) (v := .bool true) (by kernel_rfl) rfl (by kernel_rfl) (hd_want0 (by kernel_rfl)) (run_pick (.tmp 72) (.tmp 79) (.const (.bool false)) (by kernel_rfl) (hK25.ev (.tail _ (.tail _ (.tail _ (.tail _ (.tail _ (.tail _ (.tail _ (.head _))))))))) (hK25.ev (.head _))) hQ hS25 ?_
  refine hd_after (hK25.put 80 (.bool true) (by decide) rfl rfl) (fun a26 hK26 => ?_)
  refine hd_take (i := 27) (j := 28) (m := 120) (n := 81) (v := .bool true) (by kernel_rfl) rfl (by kernel_rfl) (hd_want0 (by kernel_rfl)) (run_move (.tmp 80) (by kernel_rfl) (hK26.ev (.head _))) hQ hS25 ?_
  refine hd_after (hK26.put 81 (.bool true) (by decide) rfl rfl) (fun a27 hK27 => ?_)
  exact next _ _ (hK27.one (.head _)) hS25
set_option maxHeartbeats 4000000 in
theorem hd_seg4 (hG : Aside0 (GW w)) {Q : Exit → Act → World → Prop} (hQ : ∀ c a d v w, Q (.panic c) (Act.put a d v) w → Q (.panic c) a w) (a : Act) (W : World) (hK : Kn (hdK At An ad ct cn cp) [(81, .bool true)] a) (hS : HdS w At An ad ab Ah A1 A2 ch cb c1 c2 W)
    (next : ∀ a' W', Kn (hdK At An ad ct cn cp) [(84, .bool true)] a' → HdS w At An ad ab Ah A1 A2 ch cb c1 c2 W' → wpAnyLast Tryd.prog .any hdOps Q (HdS w At An ad ab Ah A1 A2 ch cb c1 c2) [] 117 (hdM 31) a' W') :
    wpAnyLast Tryd.prog .any hdOps Q (HdS w At An ad ab Ah A1 A2 ch cb c1 c2) [] 120 (hdM 28) a W := by
  refine hd_one (i := 28) (j := 29) (m := 119) (n := 82) (by kernel_rfl) rfl (by kernel_rfl) (fun K hKK => ?_)
  refine hd_call3 (f := 21) (x := .const (.string ⟨#[97, 32, 61, 32, 98, 32, 61, 32, 99]⟩)) (y := .const (.int .i64 6)) (z := .const (.int .i64 52)) (ts := #[9, 3, 26]) Tryd.func21 rfl (hd_want (j := 27) (n := 81) (by kernel_rfl) (by kernel_rfl) hK (.head _)) (by kernel_rfl) (by kernel_rfl) (by kernel_rfl) rfl rfl rfl ?_
  refine (sorrellaw05_fails.calls _ _ _ true _ hd_f0 (GW.belowA hG (hd_k hS).below)).mono ?_
  rintro e W28 ⟨rfl, hb28⟩
  refine ⟨_, rfl, hKK.out _ _ (hd_keep hS hb28) (fun hS28 => ?_)⟩
  refine hd_after (hK.put 82 (.bool true) (by decide) rfl rfl) (fun a28 hK28 => ?_)
  refine hd_take (i := 29) (j := 30) (m := 118) (n := 83) (v := .bool true) (by kernel_rfl) rfl (by kernel_rfl) (hd_want0 (by kernel_rfl)) (run_pick (.tmp 81) (.tmp 82) (.const (.bool false)) (by kernel_rfl) (hK28.ev (.tail _ (.head _))) (hK28.ev (.head _))) hQ hS28 ?_
  refine hd_after (hK28.put 83 (.bool true) (by decide) rfl rfl) (fun a29 hK29 => ?_)
  refine hd_take (i := 30) (j := 31) (m := 117) (n := 84) (v := .bool true) (by kernel_rfl) rfl (by kernel_rfl) (hd_want0 (by kernel_rfl)) (run_move (.tmp 83) (by kernel_rfl) (hK29.ev (.head _))) hQ hS28 ?_
  refine hd_after (hK29.put 84 (.bool true) (by decide) rfl rfl) (fun a30 hK30 => ?_)
  exact next _ _ (hK30.one (.head _)) hS28
set_option maxHeartbeats 4000000 in
theorem hd_seg5 (hG : Aside0 (GW w)) {Q : Exit → Act → World → Prop} (hQ : ∀ c a d v w, Q (.panic c) (Act.put a d v) w → Q (.panic c) a w) (a : Act) (W : World) (hK : Kn (hdK At An ad ct cn cp) [(84, .bool true)] a) (hS : HdS w At An ad ab Ah A1 A2 ch cb c1 c2 W)
    (next : ∀ a' W', Kn (hdK At An ad ct cn cp) [(87, .bool true)] a' → HdS w At An ad ab Ah A1 A2 ch cb c1 c2 W' → wpAnyLast Tryd.prog .any hdOps Q (HdS w At An ad ab Ah A1 A2 ch cb c1 c2) [] 114 (hdM 34) a' W') :
    wpAnyLast Tryd.prog .any hdOps Q (HdS w At An ad ab Ah A1 A2 ch cb c1 c2) [] 117 (hdM 31) a W := by
  refine hd_one (i := 31) (j := 32) (m := 116) (n := 85) (by kernel_rfl) rfl (by kernel_rfl) (fun K hKK => ?_)
  refine hd_call3 (f := 21) (x := .const (.string ⟨#[102, 40, 97]⟩)) (y := .const (.int .i64 3)) (z := .const (.int .i64 51)) (ts := #[9, 3, 26]) Tryd.func21 rfl (hd_want (j := 30) (n := 84) (by kernel_rfl) (by kernel_rfl) hK (.head _)) (by kernel_rfl) (by kernel_rfl) (by kernel_rfl) rfl rfl rfl ?_
  refine (sorrellaw05_fails.calls _ _ _ true _ hd_f1 (GW.belowA hG (hd_k hS).below)).mono ?_
  rintro e W31 ⟨rfl, hb31⟩
  refine ⟨_, rfl, hKK.out _ _ (hd_keep hS hb31) (fun hS31 => ?_)⟩
  refine hd_after (hK.put 85 (.bool true) (by decide) rfl rfl) (fun a31 hK31 => ?_)
  refine hd_take (i := 32) (j := 33) (m := 115) (n := 86) (v := .bool true) (by kernel_rfl) rfl (by kernel_rfl) (hd_want0 (by kernel_rfl)) (run_pick (.tmp 84) (.tmp 85) (.const (.bool false)) (by kernel_rfl) (hK31.ev (.tail _ (.head _))) (hK31.ev (.head _))) hQ hS31 ?_
  refine hd_after (hK31.put 86 (.bool true) (by decide) rfl rfl) (fun a32 hK32 => ?_)
  refine hd_take (i := 33) (j := 34) (m := 114) (n := 87) (v := .bool true) (by kernel_rfl) rfl (by kernel_rfl) (hd_want0 (by kernel_rfl)) (run_move (.tmp 86) (by kernel_rfl) (hK32.ev (.head _))) hQ hS31 ?_
  refine hd_after (hK32.put 87 (.bool true) (by decide) rfl rfl) (fun a33 hK33 => ?_)
  exact next _ _ (hK33.one (.head _)) hS31
set_option maxHeartbeats 4000000 in
theorem hd_seg6 (hG : Aside0 (GW w)) {Q : Exit → Act → World → Prop} (hQ : ∀ c a d v w, Q (.panic c) (Act.put a d v) w → Q (.panic c) a w) (a : Act) (W : World) (hK : Kn (hdK At An ad ct cn cp) [(87, .bool true)] a) (hS : HdS w At An ad ab Ah A1 A2 ch cb c1 c2 W)
    (next : ∀ a' W', Kn (hdK At An ad ct cn cp) [(90, .bool true)] a' → HdS w At An ad ab Ah A1 A2 ch cb c1 c2 W' → wpAnyLast Tryd.prog .any hdOps Q (HdS w At An ad ab Ah A1 A2 ch cb c1 c2) [] 111 (hdM 37) a' W') :
    wpAnyLast Tryd.prog .any hdOps Q (HdS w At An ad ab Ah A1 A2 ch cb c1 c2) [] 114 (hdM 34) a W := by
  refine hd_one (i := 34) (j := 35) (m := 113) (n := 88) (by kernel_rfl) rfl (by kernel_rfl) (fun K hKK => ?_)
  refine hd_call3 (f := 21) (x := .const (.string ⟨#[]⟩)) (y := .const (.int .i64 0)) (z := .const (.int .i64 51)) (ts := #[9, 3, 26]) Tryd.func21 rfl (hd_want (j := 33) (n := 87) (by kernel_rfl) (by kernel_rfl) hK (.head _)) (by kernel_rfl) (by kernel_rfl) (by kernel_rfl) rfl rfl rfl ?_
  refine (sorrellaw05_fails.calls _ _ _ true _ hd_f2 (GW.belowA hG (hd_k hS).below)).mono ?_
  rintro e W34 ⟨rfl, hb34⟩
  refine ⟨_, rfl, hKK.out _ _ (hd_keep hS hb34) (fun hS34 => ?_)⟩
  refine hd_after (hK.put 88 (.bool true) (by decide) rfl rfl) (fun a34 hK34 => ?_)
  refine hd_take (i := 35) (j := 36) (m := 112) (n := 89) (v := .bool true) (by kernel_rfl) rfl (by kernel_rfl) (hd_want0 (by kernel_rfl)) (run_pick (.tmp 87) (.tmp 88) (.const (.bool false)) (by kernel_rfl) (hK34.ev (.tail _ (.head _))) (hK34.ev (.head _))) hQ hS34 ?_
  refine hd_after (hK34.put 89 (.bool true) (by decide) rfl rfl) (fun a35 hK35 => ?_)
  refine hd_take (i := 36) (j := 37) (m := 111) (n := 90) (v := .bool true) (by kernel_rfl) rfl (by kernel_rfl) (hd_want0 (by kernel_rfl)) (run_move (.tmp 89) (by kernel_rfl) (hK35.ev (.head _))) hQ hS34 ?_
  refine hd_after (hK35.put 90 (.bool true) (by decide) rfl rfl) (fun a36 hK36 => ?_)
  exact next _ _ (hK36.one (.head _)) hS34
set_option maxHeartbeats 4000000 in
theorem hd_seg7 (hG : Aside0 (GW w)) {Q : Exit → Act → World → Prop} (hQ : ∀ c a d v w, Q (.panic c) (Act.put a d v) w → Q (.panic c) a w) (a : Act) (W : World) (hK : Kn (hdK At An ad ct cn cp) [(90, .bool true)] a) (hS : HdS w At An ad ab Ah A1 A2 ch cb c1 c2 W)
    (next : ∀ a' W', Kn (hdK At An ad ct cn cp) [(93, .bool true)] a' → HdS w At An ad ab Ah A1 A2 ch cb c1 c2 W' → wpAnyLast Tryd.prog .any hdOps Q (HdS w At An ad ab Ah A1 A2 ch cb c1 c2) [] 108 (hdM 40) a' W') :
    wpAnyLast Tryd.prog .any hdOps Q (HdS w At An ad ab Ah A1 A2 ch cb c1 c2) [] 111 (hdM 37) a W := by
  refine hd_one (i := 37) (j := 38) (m := 110) (n := 91) (by kernel_rfl) rfl (by kernel_rfl) (fun K hKK => ?_)
  refine hd_call3 (f := 21) (x := .const (.string ⟨#[97, 32, 98]⟩)) (y := .const (.int .i64 2)) (z := .const (.int .i64 50)) (ts := #[9, 3, 26]) Tryd.func21 rfl (hd_want (j := 36) (n := 90) (by kernel_rfl) (by kernel_rfl) hK (.head _)) (by kernel_rfl) (by kernel_rfl) (by kernel_rfl) rfl rfl rfl ?_
  refine (sorrellaw05_fails.calls _ _ _ true _ hd_f3 (GW.belowA hG (hd_k hS).below)).mono ?_
  rintro e W37 ⟨rfl, hb37⟩
  refine ⟨_, rfl, hKK.out _ _ (hd_keep hS hb37) (fun hS37 => ?_)⟩
  refine hd_after (hK.put 91 (.bool true) (by decide) rfl rfl) (fun a37 hK37 => ?_)
  refine hd_take (i := 38) (j := 39) (m := 109) (n := 92) (v := .bool true) (by kernel_rfl) rfl (by kernel_rfl) (hd_want0 (by kernel_rfl)) (run_pick (.tmp 90) (.tmp 91) (.const (.bool false)) (by kernel_rfl) (hK37.ev (.tail _ (.head _))) (hK37.ev (.head _))) hQ hS37 ?_
  refine hd_after (hK37.put 92 (.bool true) (by decide) rfl rfl) (fun a38 hK38 => ?_)
  refine hd_take (i := 39) (j := 40) (m := 108) (n := 93) (v := .bool true) (by kernel_rfl) rfl (by kernel_rfl) (hd_want0 (by kernel_rfl)) (run_move (.tmp 92) (by kernel_rfl) (hK38.ev (.head _))) hQ hS37 ?_
  refine hd_after (hK38.put 93 (.bool true) (by decide) rfl rfl) (fun a39 hK39 => ?_)
  exact next _ _ (hK39.one (.head _)) hS37
set_option maxHeartbeats 4000000 in
theorem hd_seg8 (hlT : 6 ≤ ct) {Q : Exit → Act → World → Prop} (hQ : ∀ c a d v w, Q (.panic c) (Act.put a d v) w → Q (.panic c) a w) (a : Act) (W : World) (hK : Kn (hdK At An ad ct cn cp) [(93, .bool true)] a) (hS : HdS w At An ad ab Ah A1 A2 ch cb c1 c2 W)
    (next : ∀ a' W', Kn (hdK At An ad ct cn cp) [(104, .bool true)] a' → HdS w At An ad ab Ah A1 A2 ch cb c1 c2 W' → wpAnyLast Tryd.prog .any hdOps Q (HdS w At An ad ab Ah A1 A2 ch cb c1 c2) [] 97 (hdM 51) a' W') :
    wpAnyLast Tryd.prog .any hdOps Q (HdS w At An ad ab Ah A1 A2 ch cb c1 c2) [] 108 (hdM 40) a W := by
  refine hd_take (i := 40) (j := 41) (m := 107) (n := 94) (v := .slice At 6 ct) (by kernel_rfl) rfl (by kernel_rfl) (hd_want (j := 39) (n := 93) (by kernel_rfl) (by kernel_rfl) hK (.head _)) (run_move (.tmp 1) (by kernel_rfl) (hK.evB (.head _))) hQ hS ?_
  refine hd_after (hK.put 94 (.slice At 6 ct) (by decide) rfl rfl) (fun a40 hK40 => ?_)
  refine hd_one (i := 41) (j := 42) (m := 106) (n := 95) (by kernel_rfl) rfl (by kernel_rfl) (fun K hKK => ?_)
  refine hd_call2 (f := 20) (x := .const (.string ⟨#[102]⟩)) (y := .const (.int .i64 5)) (ts := #[9, 3]) Tryd.func20 rfl (hd_want (j := 39) (n := 93) (by kernel_rfl) (by kernel_rfl) hK40 (.tail _ (.head _))) (by kernel_rfl) (by kernel_rfl) (by kernel_rfl) rfl rfl ?_
  refine (sorrellaw05_f.calls ⟨#[102]⟩ 5 3 ⟨#[102]⟩ 5 _ rfl).mono ?_
  rintro e W41 ⟨rfl, hb41⟩
  refine ⟨_, rfl, hKK.out _ _ (hd_keep hS hb41) (fun hS41 => ?_)⟩
  refine hd_after (hK40.put 95 (.agg #[.int .i64 3, .string ⟨#[102]⟩, .int .i64 5]) (by decide) rfl rfl) (fun a41 hK41 => ?_)
  refine hd_one (i := 42) (j := 43) (m := 105) (n := 96) (by kernel_rfl) rfl (by kernel_rfl) (fun K hKK => ?_)
  refine hd_call1 (f := 23) (x := .const (.int .i64 0)) (ts := #[3]) Tryd.func23 rfl (hd_want (j := 39) (n := 93) (by kernel_rfl) (by kernel_rfl) hK41 (.tail _ (.tail _ (.head _)))) (by kernel_rfl) (by kernel_rfl) (by kernel_rfl) rfl ?_
  refine (sorrellaw05_v.calls 0 1 ⟨#[]⟩ 0 _ rfl).mono ?_
  rintro e W42 ⟨rfl, hb42⟩
  refine ⟨_, rfl, hKK.out _ _ (hd_keep hS41 hb42) (fun hS42 => ?_)⟩
  refine hd_after (hK41.put 96 (.agg #[.int .i64 1, .string ⟨#[]⟩, .int .i64 0]) (by decide) rfl rfl) (fun a42 hK42 => ?_)
  refine hd_one (i := 43) (j := 44) (m := 104) (n := 97) (by kernel_rfl) rfl (by kernel_rfl) (fun K hKK => ?_)
  refine hd_call1 (f := 23) (x := .const (.int .i64 1)) (ts := #[3]) Tryd.func23 rfl (hd_want (j := 39) (n := 93) (by kernel_rfl) (by kernel_rfl) hK42 (.tail _ (.tail _ (.tail _ (.head _))))) (by kernel_rfl) (by kernel_rfl) (by kernel_rfl) rfl ?_
  refine (sorrellaw05_v.calls 1 1 ⟨#[]⟩ 1 _ rfl).mono ?_
  rintro e W43 ⟨rfl, hb43⟩
  refine ⟨_, rfl, hKK.out _ _ (hd_keep hS42 hb43) (fun hS43 => ?_)⟩
  refine hd_after (hK42.put 97 (.agg #[.int .i64 1, .string ⟨#[]⟩, .int .i64 1]) (by decide) rfl rfl) (fun a43 hK43 => ?_)
  refine hd_one (i := 44) (j := 45) (m := 103) (n := 98) (by kernel_rfl) rfl (by kernel_rfl) (fun K hKK => ?_)
  refine hd_call1 (f := 23) (x := .const (.int .i64 2)) (ts := #[3]) Tryd.func23 rfl (hd_want (j := 39) (n := 93) (by kernel_rfl) (by kernel_rfl) hK43 (.tail _ (.tail _ (.tail _ (.tail _ (.head _)))))) (by kernel_rfl) (by kernel_rfl) (by kernel_rfl) rfl ?_
  refine (sorrellaw05_v.calls 2 1 ⟨#[]⟩ 2 _ rfl).mono ?_
  rintro e W44 ⟨rfl, hb44⟩
  refine ⟨_, rfl, hKK.out _ _ (hd_keep hS43 hb44) (fun hS44 => ?_)⟩
  refine hd_after (hK43.put 98 (.agg #[.int .i64 1, .string ⟨#[]⟩, .int .i64 2]) (by decide) rfl rfl) (fun a44 hK44 => ?_)
  refine hd_one (i := 45) (j := 46) (m := 102) (n := 99) (by kernel_rfl) rfl (by kernel_rfl) (fun K hKK => ?_)
  refine hd_call1 (f := 23) (x := .const (.int .i64 0)) (ts := #[3]) Tryd.func23 rfl (hd_want (j := 39) (n := 93) (by kernel_rfl) (by kernel_rfl) hK44 (.tail _ (.tail _ (.tail _ (.tail _ (.tail _ (.head _))))))) (by kernel_rfl) (by kernel_rfl) (by kernel_rfl) rfl ?_
  refine (sorrellaw05_v.calls 0 1 ⟨#[]⟩ 0 _ rfl).mono ?_
  rintro e W45 ⟨rfl, hb45⟩
  refine ⟨_, rfl, hKK.out _ _ (hd_keep hS44 hb45) (fun hS45 => ?_)⟩
  refine hd_after (hK44.put 99 (.agg #[.int .i64 1, .string ⟨#[]⟩, .int .i64 0]) (by decide) rfl rfl) (fun a45 hK45 => ?_)
  refine hd_one (i := 46) (j := 47) (m := 101) (n := 100) (by kernel_rfl) rfl (by kernel_rfl) (fun K hKK => ?_)
  refine hd_call1 (f := 23) (x := .const (.int .i64 3)) (ts := #[3]) Tryd.func23 rfl (hd_want (j := 39) (n := 93) (by kernel_rfl) (by kernel_rfl) hK45 (.tail _ (.tail _ (.tail _ (.tail _ (.tail _ (.tail _ (.head _)))))))) (by kernel_rfl) (by kernel_rfl) (by kernel_rfl) rfl ?_
  refine (sorrellaw05_v.calls 3 1 ⟨#[]⟩ 3 _ rfl).mono ?_
  rintro e W46 ⟨rfl, hb46⟩
  refine ⟨_, rfl, hKK.out _ _ (hd_keep hS45 hb46) (fun hS46 => ?_)⟩
  refine hd_after (hK45.put 100 (.agg #[.int .i64 1, .string ⟨#[]⟩, .int .i64 3]) (by decide) rfl rfl) (fun a46 hK46 => ?_)
  refine hd_one (i := 47) (j := 48) (m := 100) (n := 101) (by kernel_rfl) rfl (by kernel_rfl) (fun K hKK => ?_)
  refine hd_build6 (.tmp 95) (.tmp 96) (.tmp 97) (.tmp 98) (.tmp 99) (.tmp 100) (by kernel_rfl) (hd_want (j := 39) (n := 93) (by kernel_rfl) (by kernel_rfl) hK46 (.tail _ (.tail _ (.tail _ (.tail _ (.tail _ (.tail _ (.tail _ (.head _))))))))) (by kernel_rfl) (hK46.ev (.tail _ (.tail _ (.tail _ (.tail _ (.tail _ (.head _))))))) (hK46.ev (.tail _ (.tail _ (.tail _ (.tail _ (.head _)))))) (hK46.ev (.tail _ (.tail _ (.tail _ (.head _))))) (hK46.ev (.tail _ (.tail _ (.head _)))) (hK46.ev (.tail _ (.head _))) (hK46.ev (.head _)) (fun g47 hg47 => ?_)
  refine hKK.out _ _ (hd_keep hS46 (below_alloc (Below.refl _ _) _)) (fun hS47 => ?_)
  refine hd_after (hK46.put 101 (.slice (some ⟨g47, 0, none⟩) 6 6) (by decide) rfl rfl) (fun a47 hK47 => ?_)
  refine hd_one (i := 48) (j := 49) (m := 99) (n := 102) (by kernel_rfl) rfl (by kernel_rfl) (fun K hKK => ?_)
  refine hd_call2 (f := 11) (x := .tmp 94) (y := .tmp 101) (ts := #[24, 24]) Tryd.func11 rfl (hd_want (j := 39) (n := 93) (by kernel_rfl) (by kernel_rfl) hK47 (.tail _ (.tail _ (.tail _ (.tail _ (.tail _ (.tail _ (.tail _ (.tail _ (.head _)))))))))) (by kernel_rfl) (by kernel_rfl) (by kernel_rfl) (hK47.ev (.tail _ (.tail _ (.tail _ (.tail _ (.tail _ (.tail _ (.tail _ (.head _))))))))) (hK47.ev (.head _)) ?_
  refine (sorrelref01_Same.calls 100 _ _ hdT _ _ hdT true _ (hd_k hS47).t hlT (cells_C hdT (heap_new _ _ _ hg47) rfl (by decide)) (by decide) hd_sT).mono ?_
  rintro e W48 ⟨rfl, ⟨nd48, rfl⟩⟩
  refine ⟨_, rfl, hKK.out _ _ (hd_keep hS47 (pw_below_drewN (Below.refl _ _) nd48)) (fun hS48 => ?_)⟩
  refine hd_after (hK47.put 102 (.bool true) (by decide) rfl rfl) (fun a48 hK48 => ?_)
  refine hd_take (i := 49) (j := 50) (m := 98) (n := 103) (v := .bool true) (by kernel_rfl) rfl (by kernel_rfl) (hd_want0 (by kernel_rfl)) (run_pick (.tmp 93) (.tmp 102) (.const (.bool false)) (by kernel_rfl) (hK48.ev (.tail _ (.tail _ (.tail _ (.tail _ (.tail _ (.tail _ (.tail _ (.tail _ (.tail _ (.head _))))))))))) (hK48.ev (.head _))) hQ hS48 ?_
  refine hd_after (hK48.put 103 (.bool true) (by decide) rfl rfl) (fun a49 hK49 => ?_)
  refine hd_take (i := 50) (j := 51) (m := 97) (n := 104) (v := .bool true) (by kernel_rfl) rfl (by kernel_rfl) (hd_want0 (by kernel_rfl)) (run_move (.tmp 103) (by kernel_rfl) (hK49.ev (.head _))) hQ hS48 ?_
  refine hd_after (hK49.put 104 (.bool true) (by decide) rfl rfl) (fun a50 hK50 => ?_)
  exact next _ _ (hK50.one (.head _)) hS48
set_option maxHeartbeats 4000000 in
theorem hd_seg9 (hlN : 4 ≤ cn) {Q : Exit → Act → World → Prop} (hQ : ∀ c a d v w, Q (.panic c) (Act.put a d v) w → Q (.panic c) a w) (a : Act) (W : World) (hK : Kn (hdK At An ad ct cn cp) [(104, .bool true)] a) (hS : HdS w At An ad ab Ah A1 A2 ch cb c1 c2 W)
    (next : ∀ a' W', Kn (hdK At An ad ct cn cp) [(109, .bool true)] a' → HdS w At An ad ab Ah A1 A2 ch cb c1 c2 W' → wpAnyLast Tryd.prog .any hdOps Q (HdS w At An ad ab Ah A1 A2 ch cb c1 c2) [] 92 (hdM 56) a' W') :
    wpAnyLast Tryd.prog .any hdOps Q (HdS w At An ad ab Ah A1 A2 ch cb c1 c2) [] 97 (hdM 51) a W := by
  refine hd_take (i := 51) (j := 52) (m := 96) (n := 105) (v := .slice An 4 cn) (by kernel_rfl) rfl (by kernel_rfl) (hd_want (j := 50) (n := 104) (by kernel_rfl) (by kernel_rfl) hK (.head _)) (run_move (.tmp 2) (by kernel_rfl) (hK.evB (.tail _ (.head _)))) hQ hS ?_
  refine hd_after (hK.put 105 (.slice An 4 cn) (by decide) rfl rfl) (fun a51 hK51 => ?_)
  refine hd_one (i := 52) (j := 53) (m := 95) (n := 106) (by kernel_rfl) rfl (by kernel_rfl) (fun K hKK => ?_)
  refine hd_build4s (.const (.string ⟨#[88]⟩)) (.const (.string ⟨#[95]⟩)) (.const (.string ⟨#[89]⟩)) (.const (.string ⟨#[95]⟩)) (by kernel_rfl) (hd_want (j := 50) (n := 104) (by kernel_rfl) (by kernel_rfl) hK51 (.tail _ (.head _))) (by kernel_rfl) rfl rfl rfl rfl (fun g52 hg52 => ?_)
  refine hKK.out _ _ (hd_keep hS (below_alloc (Below.refl _ _) _)) (fun hS52 => ?_)
  refine hd_after (hK51.put 106 (.slice (some ⟨g52, 0, none⟩) 4 4) (by decide) rfl rfl) (fun a52 hK52 => ?_)
  refine hd_one (i := 53) (j := 54) (m := 94) (n := 107) (by kernel_rfl) rfl (by kernel_rfl) (fun K hKK => ?_)
  refine hd_call2 (f := 15) (x := .tmp 105) (y := .tmp 106) (ts := #[25, 25]) Tryd.func15 rfl (hd_want (j := 50) (n := 104) (by kernel_rfl) (by kernel_rfl) hK52 (.tail _ (.tail _ (.head _)))) (by kernel_rfl) (by kernel_rfl) (by kernel_rfl) (hK52.ev (.tail _ (.head _))) (hK52.ev (.head _)) ?_
  refine (sorrelref05_Texts.calls 100 _ _ hdN _ _ hdN true _ (hd_k hS52).n hlN (strs_C hdN (heap_new _ _ _ hg52) rfl (by decide)) (by decide) hd_tx).mono ?_
  rintro e W53 ⟨rfl, ⟨nd53, rfl⟩⟩
  refine ⟨_, rfl, hKK.out _ _ (hd_keep hS52 (pw_below_drewN (Below.refl _ _) nd53)) (fun hS53 => ?_)⟩
  refine hd_after (hK52.put 107 (.bool true) (by decide) rfl rfl) (fun a53 hK53 => ?_)
  refine hd_take (i := 54) (j := 55) (m := 93) (n := 108) (v := .bool true) (by kernel_rfl) rfl (by kernel_rfl) (hd_want0 (by kernel_rfl)) (run_pick (.tmp 104) (.tmp 107) (.const (.bool false)) (by kernel_rfl) (hK53.ev (.tail _ (.tail _ (.tail _ (.head _))))) (hK53.ev (.head _))) hQ hS53 ?_
  refine hd_after (hK53.put 108 (.bool true) (by decide) rfl rfl) (fun a54 hK54 => ?_)
  refine hd_take (i := 55) (j := 56) (m := 92) (n := 109) (v := .bool true) (by kernel_rfl) rfl (by kernel_rfl) (hd_want0 (by kernel_rfl)) (run_move (.tmp 108) (by kernel_rfl) (hK54.ev (.head _))) hQ hS53 ?_
  refine hd_after (hK54.put 109 (.bool true) (by decide) rfl rfl) (fun a55 hK55 => ?_)
  exact next _ _ (hK55.one (.head _)) hS53
set_option maxHeartbeats 4000000 in
theorem hd_seg10 {Q : Exit → Act → World → Prop} (hQ : ∀ c a d v w, Q (.panic c) (Act.put a d v) w → Q (.panic c) a w) (a : Act) (W : World) (hK : Kn (hdK At An ad ct cn cp) [(109, .bool true)] a) (hS : HdS w At An ad ab Ah A1 A2 ch cb c1 c2 W)
    (next : ∀ a' W', Kn (hdK At An ad ct cn cp) [(113, .bool true)] a' → HdS w At An ad ab Ah A1 A2 ch cb c1 c2 W' → wpAnyLast Tryd.prog .any hdOps Q (HdS w At An ad ab Ah A1 A2 ch cb c1 c2) [] 88 (hdM 60) a' W') :
    wpAnyLast Tryd.prog .any hdOps Q (HdS w At An ad ab Ah A1 A2 ch cb c1 c2) [] 92 (hdM 56) a W := by
  refine hd_take (i := 56) (j := 57) (m := 91) (n := 110) (v := .int .i64 0) (by kernel_rfl) rfl (by kernel_rfl) (hd_want (j := 55) (n := 109) (by kernel_rfl) (by kernel_rfl) hK (.head _)) (run_move (.tmp 6) (by kernel_rfl) (hK.evB (.tail _ (.tail _ (.tail _ (.head _)))))) hQ hS ?_
  refine hd_after (hK.put 110 (.int .i64 0) (by decide) rfl rfl) (fun a56 hK56 => ?_)
  refine hd_take (i := 57) (j := 58) (m := 90) (n := 111) (v := .bool true) (by kernel_rfl) rfl (by kernel_rfl) (hd_want (j := 55) (n := 109) (by kernel_rfl) (by kernel_rfl) hK56 (.tail _ (.head _))) (run_eq (.tmp 110) (.const (.int .i64 0)) 0 (by kernel_rfl) (hK56.ev (.head _)) rfl) hQ hS ?_
  refine hd_after (hK56.put 111 (.bool true) (by decide) rfl rfl) (fun a57 hK57 => ?_)
  refine hd_take (i := 58) (j := 59) (m := 89) (n := 112) (v := .bool true) (by kernel_rfl) rfl (by kernel_rfl) (hd_want0 (by kernel_rfl)) (run_pick (.tmp 109) (.tmp 111) (.const (.bool false)) (by kernel_rfl) (hK57.ev (.tail _ (.tail _ (.head _)))) (hK57.ev (.head _))) hQ hS ?_
  refine hd_after (hK57.put 112 (.bool true) (by decide) rfl rfl) (fun a58 hK58 => ?_)
  refine hd_take (i := 59) (j := 60) (m := 88) (n := 113) (v := .bool true) (by kernel_rfl) rfl (by kernel_rfl) (hd_want0 (by kernel_rfl)) (run_move (.tmp 112) (by kernel_rfl) (hK58.ev (.head _))) hQ hS ?_
  refine hd_after (hK58.put 113 (.bool true) (by decide) rfl rfl) (fun a59 hK59 => ?_)
  exact next _ _ (hK59.one (.head _)) hS
set_option maxHeartbeats 4000000 in
theorem hd_seg11 {Q : Exit → Act → World → Prop} (hQ : ∀ c a d v w, Q (.panic c) (Act.put a d v) w → Q (.panic c) a w) (a : Act) (W : World) (hK : Kn (hdK At An ad ct cn cp) [(113, .bool true)] a) (hS : HdS w At An ad ab Ah A1 A2 ch cb c1 c2 W)
    (next : ∀ a' W', Kn (hdK At An ad ct cn cp) [(117, .bool true)] a' → HdS w At An ad ab Ah A1 A2 ch cb c1 c2 W' → wpAnyLast Tryd.prog .any hdOps Q (HdS w At An ad ab Ah A1 A2 ch cb c1 c2) [] 84 (hdM 64) a' W') :
    wpAnyLast Tryd.prog .any hdOps Q (HdS w At An ad ab Ah A1 A2 ch cb c1 c2) [] 88 (hdM 60) a W := by
  refine hd_take (i := 60) (j := 61) (m := 87) (n := 114) (v := .int .i64 0) (by kernel_rfl) rfl (by kernel_rfl) (hd_want (j := 59) (n := 113) (by kernel_rfl) (by kernel_rfl) hK (.head _)) (run_move (.tmp 7) (by kernel_rfl) (hK.evB (.tail _ (.tail _ (.tail _ (.tail _ (.head _))))))) hQ hS ?_
  refine hd_after (hK.put 114 (.int .i64 0) (by decide) rfl rfl) (fun a60 hK60 => ?_)
  refine hd_take (i := 61) (j := 62) (m := 86) (n := 115) (v := .bool true) (by kernel_rfl) rfl (by kernel_rfl) (hd_want (j := 59) (n := 113) (by kernel_rfl) (by kernel_rfl) hK60 (.tail _ (.head _))) (run_eqE (.tmp 114) (.const (.int .i64 0)) 0 (by kernel_rfl) (hK60.ev (.head _)) rfl) hQ hS ?_
  refine hd_after (hK60.put 115 (.bool true) (by decide) rfl rfl) (fun a61 hK61 => ?_)
  refine hd_take (i := 62) (j := 63) (m := 85) (n := 116) (v := .bool true) (by kernel_rfl) rfl (by kernel_rfl) (hd_want0 (by kernel_rfl)) (run_pick (.tmp 113) (.tmp 115) (.const (.bool false)) (by kernel_rfl) (hK61.ev (.tail _ (.tail _ (.head _)))) (hK61.ev (.head _))) hQ hS ?_
  refine hd_after (hK61.put 116 (.bool true) (by decide) rfl rfl) (fun a62 hK62 => ?_)
  refine hd_take (i := 63) (j := 64) (m := 84) (n := 117) (v := .bool true) (by kernel_rfl) rfl (by kernel_rfl) (hd_want0 (by kernel_rfl)) (run_move (.tmp 116) (by kernel_rfl) (hK62.ev (.head _))) hQ hS ?_
  refine hd_after (hK62.put 117 (.bool true) (by decide) rfl rfl) (fun a63 hK63 => ?_)
  exact next _ _ (hK63.one (.head _)) hS
set_option maxHeartbeats 4000000 in
theorem hd_seg12 (hlh : 2 ≤ ch) {Q : Exit → Act → World → Prop} (hQ : ∀ c a d v w, Q (.panic c) (Act.put a d v) w → Q (.panic c) a w) (a : Act) (W : World) (hK : Kn (hdK At An ad ct cn cp) [(117, .bool true)] a) (hS : HdS w At An ad ab Ah A1 A2 ch cb c1 c2 W)
    (next : ∀ a' W', Kn (hdK At An ad ct cn cp) [(127, .bool true)] a' → HdS w At An ad ab Ah A1 A2 ch cb c1 c2 W' → wpAnyLast Tryd.prog .any hdOps Q (HdS w At An ad ab Ah A1 A2 ch cb c1 c2) [] 74 (hdM 74) a' W') :
    wpAnyLast Tryd.prog .any hdOps Q (HdS w At An ad ab Ah A1 A2 ch cb c1 c2) [] 84 (hdM 64) a W := by
  refine hd_take (i := 64) (j := 65) (m := 83) (n := 118) (v := .slice (some ad) 2 cp) (by kernel_rfl) rfl (by kernel_rfl) (hd_want (j := 63) (n := 117) (by kernel_rfl) (by kernel_rfl) hK (.head _)) (run_move (.tmp 5) (by kernel_rfl) (hK.evB (.tail _ (.tail _ (.head _))))) hQ hS ?_
  refine hd_after (hK.put 118 (.slice (some ad) 2 cp) (by decide) rfl rfl) (fun a64 hK64 => ?_)
  refine hd_take (i := 65) (j := 66) (m := 82) (n := 119) (v := .pointer (some ad)) (by kernel_rfl) rfl (by kernel_rfl) (hd_want (j := 63) (n := 117) (by kernel_rfl) (by kernel_rfl) hK64 (.tail _ (.head _))) (run_ixC0 (.tmp 118) (by kernel_rfl) (hK64.ev (.head _))) hQ hS ?_
  refine hd_after (hK64.put 119 (.pointer (some ad)) (by decide) rfl rfl) (fun a65 hK65 => ?_)
  refine hd_take (i := 66) (j := 67) (m := 81) (n := 120) (v := .pointer (some ad)) (by kernel_rfl) rfl (by kernel_rfl) (hd_want (j := 63) (n := 117) (by kernel_rfl) (by kernel_rfl) hK65 (.tail _ (.tail _ (.head _)))) (run_fldC0 (.tmp 119) (by kernel_rfl) (hK65.ev (.head _))) hQ hS ?_
  refine hd_after (hK65.put 120 (.pointer (some ad)) (by decide) rfl rfl) (fun a66 hK66 => ?_)
  refine hd_take (i := 67) (j := 68) (m := 80) (n := 121) (v := .slice Ah 2 ch) (by kernel_rfl) rfl (by kernel_rfl) (hd_want (j := 63) (n := 117) (by kernel_rfl) (by kernel_rfl) hK66 (.tail _ (.tail _ (.tail _ (.head _))))) (run_ldC (.tmp 120) (by kernel_rfl) (hK66.ev (.head _)) (fun W h => h.1)) hQ hS ?_
  refine hd_after (hK66.put 121 (.slice Ah 2 ch) (by decide) rfl rfl) (fun a67 hK67 => ?_)
  refine hd_one (i := 68) (j := 69) (m := 79) (n := 122) (by kernel_rfl) rfl (by kernel_rfl) (fun K hKK => ?_)
  refine hd_call2 (f := 20) (x := .const (.string ⟨#[112]⟩)) (y := .const (.int .i64 1)) (ts := #[9, 3]) Tryd.func20 rfl (hd_want (j := 63) (n := 117) (by kernel_rfl) (by kernel_rfl) hK67 (.tail _ (.tail _ (.tail _ (.tail _ (.head _)))))) (by kernel_rfl) (by kernel_rfl) (by kernel_rfl) rfl rfl ?_
  refine (sorrellaw05_f.calls ⟨#[112]⟩ 1 3 ⟨#[112]⟩ 1 _ rfl).mono ?_
  rintro e W68 ⟨rfl, hb68⟩
  refine ⟨_, rfl, hKK.out _ _ (hd_keep hS hb68) (fun hS68 => ?_)⟩
  refine hd_after (hK67.put 122 (.agg #[.int .i64 3, .string ⟨#[112]⟩, .int .i64 1]) (by decide) rfl rfl) (fun a68 hK68 => ?_)
  refine hd_one (i := 69) (j := 70) (m := 78) (n := 123) (by kernel_rfl) rfl (by kernel_rfl) (fun K hKK => ?_)
  refine hd_call1 (f := 23) (x := .const (.int .i64 0)) (ts := #[3]) Tryd.func23 rfl (hd_want (j := 63) (n := 117) (by kernel_rfl) (by kernel_rfl) hK68 (.tail _ (.tail _ (.tail _ (.tail _ (.tail _ (.head _))))))) (by kernel_rfl) (by kernel_rfl) (by kernel_rfl) rfl ?_
  refine (sorrellaw05_v.calls 0 1 ⟨#[]⟩ 0 _ rfl).mono ?_
  rintro e W69 ⟨rfl, hb69⟩
  refine ⟨_, rfl, hKK.out _ _ (hd_keep hS68 hb69) (fun hS69 => ?_)⟩
  refine hd_after (hK68.put 123 (.agg #[.int .i64 1, .string ⟨#[]⟩, .int .i64 0]) (by decide) rfl rfl) (fun a69 hK69 => ?_)
  refine hd_one (i := 70) (j := 71) (m := 77) (n := 124) (by kernel_rfl) rfl (by kernel_rfl) (fun K hKK => ?_)
  refine hd_build2 (.tmp 122) (.tmp 123) (by kernel_rfl) (hd_want (j := 63) (n := 117) (by kernel_rfl) (by kernel_rfl) hK69 (.tail _ (.tail _ (.tail _ (.tail _ (.tail _ (.tail _ (.head _)))))))) (by kernel_rfl) (hK69.ev (.tail _ (.head _))) (hK69.ev (.head _)) (fun g70 hg70 => ?_)
  refine hKK.out _ _ (hd_keep hS69 (below_alloc (Below.refl _ _) _)) (fun hS70 => ?_)
  refine hd_after (hK69.put 124 (.slice (some ⟨g70, 0, none⟩) 2 2) (by decide) rfl rfl) (fun a70 hK70 => ?_)
  refine hd_one (i := 71) (j := 72) (m := 76) (n := 125) (by kernel_rfl) rfl (by kernel_rfl) (fun K hKK => ?_)
  refine hd_call2 (f := 11) (x := .tmp 121) (y := .tmp 124) (ts := #[24, 24]) Tryd.func11 rfl (hd_want (j := 63) (n := 117) (by kernel_rfl) (by kernel_rfl) hK70 (.tail _ (.tail _ (.tail _ (.tail _ (.tail _ (.tail _ (.tail _ (.head _))))))))) (by kernel_rfl) (by kernel_rfl) (by kernel_rfl) (hK70.ev (.tail _ (.tail _ (.tail _ (.head _))))) (hK70.ev (.head _)) ?_
  refine (sorrelref01_Same.calls 100 _ _ hdH _ _ hdH true _ (hd_k hS70).h hlh (cells_C hdH (heap_new _ _ _ hg70) rfl (by decide)) (by decide) hd_sH).mono ?_
  rintro e W71 ⟨rfl, ⟨nd71, rfl⟩⟩
  refine ⟨_, rfl, hKK.out _ _ (hd_keep hS70 (pw_below_drewN (Below.refl _ _) nd71)) (fun hS71 => ?_)⟩
  refine hd_after (hK70.put 125 (.bool true) (by decide) rfl rfl) (fun a71 hK71 => ?_)
  refine hd_take (i := 72) (j := 73) (m := 75) (n := 126) (v := .bool true) (by kernel_rfl) rfl (by kernel_rfl) (hd_want0 (by kernel_rfl)) (run_pick (.tmp 117) (.tmp 125) (.const (.bool false)) (by kernel_rfl) (hK71.ev (.tail _ (.tail _ (.tail _ (.tail _ (.tail _ (.tail _ (.tail _ (.tail _ (.head _)))))))))) (hK71.ev (.head _))) hQ hS71 ?_
  refine hd_after (hK71.put 126 (.bool true) (by decide) rfl rfl) (fun a72 hK72 => ?_)
  refine hd_take (i := 73) (j := 74) (m := 74) (n := 127) (v := .bool true) (by kernel_rfl) rfl (by kernel_rfl) (hd_want0 (by kernel_rfl)) (run_move (.tmp 126) (by kernel_rfl) (hK72.ev (.head _))) hQ hS71 ?_
  refine hd_after (hK72.put 127 (.bool true) (by decide) rfl rfl) (fun a73 hK73 => ?_)
  exact next _ _ (hK73.one (.head _)) hS71
set_option maxHeartbeats 4000000 in
theorem hd_seg13 {Q : Exit → Act → World → Prop} (hQ : ∀ c a d v w, Q (.panic c) (Act.put a d v) w → Q (.panic c) a w) (a : Act) (W : World) (hK : Kn (hdK At An ad ct cn cp) [(127, .bool true)] a) (hS : HdS w At An ad ab Ah A1 A2 ch cb c1 c2 W)
    (next : ∀ a' W', Kn (hdK At An ad ct cn cp) [(136, .bool true)] a' → HdS w At An ad ab Ah A1 A2 ch cb c1 c2 W' → wpAnyLast Tryd.prog .any hdOps Q (HdS w At An ad ab Ah A1 A2 ch cb c1 c2) [] 65 (hdM 83) a' W') :
    wpAnyLast Tryd.prog .any hdOps Q (HdS w At An ad ab Ah A1 A2 ch cb c1 c2) [] 74 (hdM 74) a W := by
  refine hd_take (i := 74) (j := 75) (m := 73) (n := 128) (v := .slice (some ad) 2 cp) (by kernel_rfl) rfl (by kernel_rfl) (hd_want (j := 73) (n := 127) (by kernel_rfl) (by kernel_rfl) hK (.head _)) (run_move (.tmp 5) (by kernel_rfl) (hK.evB (.tail _ (.tail _ (.head _))))) hQ hS ?_
  refine hd_after (hK.put 128 (.slice (some ad) 2 cp) (by decide) rfl rfl) (fun a74 hK74 => ?_)
  refine hd_take (i := 75) (j := 76) (m := 72) (n := 129) (v := .pointer (some ad)) (by kernel_rfl) rfl (by kernel_rfl) (hd_want (j := 73) (n := 127) (by kernel_rfl) (by kernel_rfl) hK74 (.tail _ (.head _))) (run_ixC0 (.tmp 128) (by kernel_rfl) (hK74.ev (.head _))) hQ hS ?_
  refine hd_after (hK74.put 129 (.pointer (some ad)) (by decide) rfl rfl) (fun a75 hK75 => ?_)
  refine hd_take (i := 76) (j := 77) (m := 71) (n := 130) (v := .pointer (some ⟨ad.block, ad.off + 1, none⟩)) (by kernel_rfl) rfl (by kernel_rfl) (hd_want (j := 73) (n := 127) (by kernel_rfl) (by kernel_rfl) hK75 (.tail _ (.tail _ (.head _)))) (run_fldC1 (.tmp 129) (by kernel_rfl) (hK75.ev (.head _))) hQ hS ?_
  refine hd_after (hK75.put 130 (.pointer (some ⟨ad.block, ad.off + 1, none⟩)) (by decide) rfl rfl) (fun a76 hK76 => ?_)
  refine hd_take (i := 77) (j := 78) (m := 70) (n := 131) (v := .slice (some ab) 2 cb) (by kernel_rfl) rfl (by kernel_rfl) (hd_want (j := 73) (n := 127) (by kernel_rfl) (by kernel_rfl) hK76 (.tail _ (.tail _ (.tail _ (.head _))))) (run_ldL (.tmp 130) (by kernel_rfl) (hK76.ev (.head _)) (fun W h => h.2.1)) hQ hS ?_
  refine hd_after (hK76.put 131 (.slice (some ab) 2 cb) (by decide) rfl rfl) (fun a77 hK77 => ?_)
  refine hd_take (i := 78) (j := 79) (m := 69) (n := 132) (v := .pointer (some ab)) (by kernel_rfl) rfl (by kernel_rfl) (hd_want (j := 73) (n := 127) (by kernel_rfl) (by kernel_rfl) hK77 (.tail _ (.tail _ (.tail _ (.tail _ (.head _)))))) (run_ixL0 (.tmp 131) (by kernel_rfl) (hK77.ev (.head _))) hQ hS ?_
  refine hd_after (hK77.put 132 (.pointer (some ab)) (by decide) rfl rfl) (fun a78 hK78 => ?_)
  refine hd_take (i := 79) (j := 80) (m := 68) (n := 133) (v := .pointer (some ab)) (by kernel_rfl) rfl (by kernel_rfl) (hd_want (j := 73) (n := 127) (by kernel_rfl) (by kernel_rfl) hK78 (.tail _ (.tail _ (.tail _ (.tail _ (.tail _ (.head _))))))) (run_fldL0 (.tmp 132) (by kernel_rfl) (hK78.ev (.head _))) hQ hS ?_
  refine hd_after (hK78.put 133 (.pointer (some ab)) (by decide) rfl rfl) (fun a79 hK79 => ?_)
  refine hd_take (i := 80) (j := 81) (m := 67) (n := 134) (v := .bool true) (by kernel_rfl) rfl (by kernel_rfl) (hd_want (j := 73) (n := 127) (by kernel_rfl) (by kernel_rfl) hK79 (.tail _ (.tail _ (.tail _ (.tail _ (.tail _ (.tail _ (.head _)))))))) (run_ldB (.tmp 133) (by kernel_rfl) (hK79.ev (.head _)) (fun W h => h.2.2.2.1)) hQ hS ?_
  refine hd_after (hK79.put 134 (.bool true) (by decide) rfl rfl) (fun a80 hK80 => ?_)
  refine hd_take (i := 81) (j := 82) (m := 66) (n := 135) (v := .bool true) (by kernel_rfl) rfl (by kernel_rfl) (hd_want0 (by kernel_rfl)) (run_pick (.tmp 127) (.tmp 134) (.const (.bool false)) (by kernel_rfl) (hK80.ev (.tail _ (.tail _ (.tail _ (.tail _ (.tail _ (.tail _ (.tail _ (.head _))))))))) (hK80.ev (.head _))) hQ hS ?_
  refine hd_after (hK80.put 135 (.bool true) (by decide) rfl rfl) (fun a81 hK81 => ?_)
  refine hd_take (i := 82) (j := 83) (m := 65) (n := 136) (v := .bool true) (by kernel_rfl) rfl (by kernel_rfl) (hd_want0 (by kernel_rfl)) (run_move (.tmp 135) (by kernel_rfl) (hK81.ev (.head _))) hQ hS ?_
  refine hd_after (hK81.put 136 (.bool true) (by decide) rfl rfl) (fun a82 hK82 => ?_)
  exact next _ _ (hK82.one (.head _)) hS
set_option maxHeartbeats 4000000 in
theorem hd_seg14 (hlq : 3 ≤ c2) {Q : Exit → Act → World → Prop} (hQ : ∀ c a d v w, Q (.panic c) (Act.put a d v) w → Q (.panic c) a w) (a : Act) (W : World) (hK : Kn (hdK At An ad ct cn cp) [(136, .bool true)] a) (hS : HdS w At An ad ab Ah A1 A2 ch cb c1 c2 W)
    (next : ∀ a' W', Kn (hdK At An ad ct cn cp) [(150, .bool true)] a' → HdS w At An ad ab Ah A1 A2 ch cb c1 c2 W' → wpAnyLast Tryd.prog .any hdOps Q (HdS w At An ad ab Ah A1 A2 ch cb c1 c2) [] 51 (hdM 97) a' W') :
    wpAnyLast Tryd.prog .any hdOps Q (HdS w At An ad ab Ah A1 A2 ch cb c1 c2) [] 65 (hdM 83) a W := by
  refine hd_take (i := 83) (j := 84) (m := 64) (n := 137) (v := .slice (some ad) 2 cp) (by kernel_rfl) rfl (by kernel_rfl) (hd_want (j := 82) (n := 136) (by kernel_rfl) (by kernel_rfl) hK (.head _)) (run_move (.tmp 5) (by kernel_rfl) (hK.evB (.tail _ (.tail _ (.head _))))) hQ hS ?_
  refine hd_after (hK.put 137 (.slice (some ad) 2 cp) (by decide) rfl rfl) (fun a83 hK83 => ?_)
  refine hd_take (i := 84) (j := 85) (m := 63) (n := 138) (v := .pointer (some ad)) (by kernel_rfl) rfl (by kernel_rfl) (hd_want (j := 82) (n := 136) (by kernel_rfl) (by kernel_rfl) hK83 (.tail _ (.head _))) (run_ixC0 (.tmp 137) (by kernel_rfl) (hK83.ev (.head _))) hQ hS ?_
  refine hd_after (hK83.put 138 (.pointer (some ad)) (by decide) rfl rfl) (fun a84 hK84 => ?_)
  refine hd_take (i := 85) (j := 86) (m := 62) (n := 139) (v := .pointer (some ⟨ad.block, ad.off + 1, none⟩)) (by kernel_rfl) rfl (by kernel_rfl) (hd_want (j := 82) (n := 136) (by kernel_rfl) (by kernel_rfl) hK84 (.tail _ (.tail _ (.head _)))) (run_fldC1 (.tmp 138) (by kernel_rfl) (hK84.ev (.head _))) hQ hS ?_
  refine hd_after (hK84.put 139 (.pointer (some ⟨ad.block, ad.off + 1, none⟩)) (by decide) rfl rfl) (fun a85 hK85 => ?_)
  refine hd_take (i := 86) (j := 87) (m := 61) (n := 140) (v := .slice (some ab) 2 cb) (by kernel_rfl) rfl (by kernel_rfl) (hd_want (j := 82) (n := 136) (by kernel_rfl) (by kernel_rfl) hK85 (.tail _ (.tail _ (.tail _ (.head _))))) (run_ldL (.tmp 139) (by kernel_rfl) (hK85.ev (.head _)) (fun W h => h.2.1)) hQ hS ?_
  refine hd_after (hK85.put 140 (.slice (some ab) 2 cb) (by decide) rfl rfl) (fun a86 hK86 => ?_)
  refine hd_take (i := 87) (j := 88) (m := 60) (n := 141) (v := .pointer (some ab)) (by kernel_rfl) rfl (by kernel_rfl) (hd_want (j := 82) (n := 136) (by kernel_rfl) (by kernel_rfl) hK86 (.tail _ (.tail _ (.tail _ (.tail _ (.head _)))))) (run_ixL0 (.tmp 140) (by kernel_rfl) (hK86.ev (.head _))) hQ hS ?_
  refine hd_after (hK86.put 141 (.pointer (some ab)) (by decide) rfl rfl) (fun a87 hK87 => ?_)
  refine hd_take (i := 88) (j := 89) (m := 59) (n := 142) (v := .pointer (some ⟨ab.block, ab.off + 1, none⟩)) (by kernel_rfl) rfl (by kernel_rfl) (hd_want (j := 82) (n := 136) (by kernel_rfl) (by kernel_rfl) hK87 (.tail _ (.tail _ (.tail _ (.tail _ (.tail _ (.head _))))))) (run_fldL1 (.tmp 141) (by kernel_rfl) (hK87.ev (.head _))) hQ hS ?_
  refine hd_after (hK87.put 142 (.pointer (some ⟨ab.block, ab.off + 1, none⟩)) (by decide) rfl rfl) (fun a88 hK88 => ?_)
  refine hd_take (i := 89) (j := 90) (m := 58) (n := 143) (v := .slice A2 3 c2) (by kernel_rfl) rfl (by kernel_rfl) (hd_want (j := 82) (n := 136) (by kernel_rfl) (by kernel_rfl) hK88 (.tail _ (.tail _ (.tail _ (.tail _ (.tail _ (.tail _ (.head _)))))))) (run_ldC (.tmp 142) (by kernel_rfl) (hK88.ev (.head _)) (fun W h => h.2.2.2.2.1)) hQ hS ?_
  refine hd_after (hK88.put 143 (.slice A2 3 c2) (by decide) rfl rfl) (fun a89 hK89 => ?_)
  refine hd_one (i := 90) (j := 91) (m := 57) (n := 144) (by kernel_rfl) rfl (by kernel_rfl) (fun K hKK => ?_)
  refine hd_call2 (f := 20) (x := .const (.string ⟨#[113]⟩)) (y := .const (.int .i64 2)) (ts := #[9, 3]) Tryd.func20 rfl (hd_want (j := 82) (n := 136) (by kernel_rfl) (by kernel_rfl) hK89 (.tail _ (.tail _ (.tail _ (.tail _ (.tail _ (.tail _ (.tail _ (.head _))))))))) (by kernel_rfl) (by kernel_rfl) (by kernel_rfl) rfl rfl ?_
  refine (sorrellaw05_f.calls ⟨#[113]⟩ 2 3 ⟨#[113]⟩ 2 _ rfl).mono ?_
  rintro e W90 ⟨rfl, hb90⟩
  refine ⟨_, rfl, hKK.out _ _ (hd_keep hS hb90) (fun hS90 => ?_)⟩
  refine hd_after (hK89.put 144 (.agg #[.int .i64 3, .string ⟨#[113]⟩, .int .i64 2]) (by decide) rfl rfl) (fun a90 hK90 => ?_)
  refine hd_one (i := 91) (j := 92) (m := 56) (n := 145) (by kernel_rfl) rfl (by kernel_rfl) (fun K hKK => ?_)
  refine hd_call1 (f := 23) (x := .const (.int .i64 0)) (ts := #[3]) Tryd.func23 rfl (hd_want (j := 82) (n := 136) (by kernel_rfl) (by kernel_rfl) hK90 (.tail _ (.tail _ (.tail _ (.tail _ (.tail _ (.tail _ (.tail _ (.tail _ (.head _)))))))))) (by kernel_rfl) (by kernel_rfl) (by kernel_rfl) rfl ?_
  refine (sorrellaw05_v.calls 0 1 ⟨#[]⟩ 0 _ rfl).mono ?_
  rintro e W91 ⟨rfl, hb91⟩
  refine ⟨_, rfl, hKK.out _ _ (hd_keep hS90 hb91) (fun hS91 => ?_)⟩
  refine hd_after (hK90.put 145 (.agg #[.int .i64 1, .string ⟨#[]⟩, .int .i64 0]) (by decide) rfl rfl) (fun a91 hK91 => ?_)
  refine hd_one (i := 92) (j := 93) (m := 55) (n := 146) (by kernel_rfl) rfl (by kernel_rfl) (fun K hKK => ?_)
  refine hd_call1 (f := 23) (x := .const (.int .i64 1)) (ts := #[3]) Tryd.func23 rfl (hd_want (j := 82) (n := 136) (by kernel_rfl) (by kernel_rfl) hK91 (.tail _ (.tail _ (.tail _ (.tail _ (.tail _ (.tail _ (.tail _ (.tail _ (.tail _ (.head _))))))))))) (by kernel_rfl) (by kernel_rfl) (by kernel_rfl) rfl ?_
  refine (sorrellaw05_v.calls 1 1 ⟨#[]⟩ 1 _ rfl).mono ?_
  rintro e W92 ⟨rfl, hb92⟩
  refine ⟨_, rfl, hKK.out _ _ (hd_keep hS91 hb92) (fun hS92 => ?_)⟩
  refine hd_after (hK91.put 146 (.agg #[.int .i64 1, .string ⟨#[]⟩, .int .i64 1]) (by decide) rfl rfl) (fun a92 hK92 => ?_)
  refine hd_one (i := 93) (j := 94) (m := 54) (n := 147) (by kernel_rfl) rfl (by kernel_rfl) (fun K hKK => ?_)
  refine hd_build3 (.tmp 144) (.tmp 145) (.tmp 146) (by kernel_rfl) (hd_want (j := 82) (n := 136) (by kernel_rfl) (by kernel_rfl) hK92 (.tail _ (.tail _ (.tail _ (.tail _ (.tail _ (.tail _ (.tail _ (.tail _ (.tail _ (.tail _ (.head _)))))))))))) (by kernel_rfl) (hK92.ev (.tail _ (.tail _ (.head _)))) (hK92.ev (.tail _ (.head _))) (hK92.ev (.head _)) (fun g93 hg93 => ?_)
  refine hKK.out _ _ (hd_keep hS92 (below_alloc (Below.refl _ _) _)) (fun hS93 => ?_)
  refine hd_after (hK92.put 147 (.slice (some ⟨g93, 0, none⟩) 3 3) (by decide) rfl rfl) (fun a93 hK93 => ?_)
  refine hd_one (i := 94) (j := 95) (m := 53) (n := 148) (by kernel_rfl) rfl (by kernel_rfl) (fun K hKK => ?_)
  refine hd_call2 (f := 11) (x := .tmp 143) (y := .tmp 147) (ts := #[24, 24]) Tryd.func11 rfl (hd_want (j := 82) (n := 136) (by kernel_rfl) (by kernel_rfl) hK93 (.tail _ (.tail _ (.tail _ (.tail _ (.tail _ (.tail _ (.tail _ (.tail _ (.tail _ (.tail _ (.tail _ (.head _))))))))))))) (by kernel_rfl) (by kernel_rfl) (by kernel_rfl) (hK93.ev (.tail _ (.tail _ (.tail _ (.tail _ (.head _)))))) (hK93.ev (.head _)) ?_
  refine (sorrelref01_Same.calls 100 _ _ hdQ _ _ hdQ true _ (hd_k hS93).q hlq (cells_C hdQ (heap_new _ _ _ hg93) rfl (by decide)) (by decide) hd_sQ).mono ?_
  rintro e W94 ⟨rfl, ⟨nd94, rfl⟩⟩
  refine ⟨_, rfl, hKK.out _ _ (hd_keep hS93 (pw_below_drewN (Below.refl _ _) nd94)) (fun hS94 => ?_)⟩
  refine hd_after (hK93.put 148 (.bool true) (by decide) rfl rfl) (fun a94 hK94 => ?_)
  refine hd_take (i := 95) (j := 96) (m := 52) (n := 149) (v := .bool true) (by kernel_rfl) rfl (by kernel_rfl) (hd_want0 (by kernel_rfl)) (run_pick (.tmp 136) (.tmp 148) (.const (.bool false)) (by kernel_rfl) (hK94.ev (.tail _ (.tail _ (.tail _ (.tail _ (.tail _ (.tail _ (.tail _ (.tail _ (.tail _ (.tail _ (.tail _ (.tail _ (.head _)))))))))))))) (hK94.ev (.head _))) hQ hS94 ?_
  refine hd_after (hK94.put 149 (.bool true) (by decide) rfl rfl) (fun a95 hK95 => ?_)
  refine hd_take (i := 96) (j := 97) (m := 51) (n := 150) (v := .bool true) (by kernel_rfl) rfl (by kernel_rfl) (hd_want0 (by kernel_rfl)) (run_move (.tmp 149) (by kernel_rfl) (hK95.ev (.head _))) hQ hS94 ?_
  refine hd_after (hK95.put 150 (.bool true) (by decide) rfl rfl) (fun a96 hK96 => ?_)
  exact next _ _ (hK96.one (.head _)) hS94
set_option maxHeartbeats 4000000 in
theorem hd_seg15 {Q : Exit → Act → World → Prop} (hQ : ∀ c a d v w, Q (.panic c) (Act.put a d v) w → Q (.panic c) a w) (a : Act) (W : World) (hK : Kn (hdK At An ad ct cn cp) [(150, .bool true)] a) (hS : HdS w At An ad ab Ah A1 A2 ch cb c1 c2 W)
    (next : ∀ a' W', Kn (hdK At An ad ct cn cp) [(160, .bool true)] a' → HdS w At An ad ab Ah A1 A2 ch cb c1 c2 W' → wpAnyLast Tryd.prog .any hdOps Q (HdS w At An ad ab Ah A1 A2 ch cb c1 c2) [] 41 (hdM 107) a' W') :
    wpAnyLast Tryd.prog .any hdOps Q (HdS w At An ad ab Ah A1 A2 ch cb c1 c2) [] 51 (hdM 97) a W := by
  refine hd_take (i := 97) (j := 98) (m := 50) (n := 151) (v := .slice (some ad) 2 cp) (by kernel_rfl) rfl (by kernel_rfl) (hd_want (j := 96) (n := 150) (by kernel_rfl) (by kernel_rfl) hK (.head _)) (run_move (.tmp 5) (by kernel_rfl) (hK.evB (.tail _ (.tail _ (.head _))))) hQ hS ?_
  refine hd_after (hK.put 151 (.slice (some ad) 2 cp) (by decide) rfl rfl) (fun a97 hK97 => ?_)
  refine hd_take (i := 98) (j := 99) (m := 49) (n := 152) (v := .pointer (some ad)) (by kernel_rfl) rfl (by kernel_rfl) (hd_want (j := 96) (n := 150) (by kernel_rfl) (by kernel_rfl) hK97 (.tail _ (.head _))) (run_ixC0 (.tmp 151) (by kernel_rfl) (hK97.ev (.head _))) hQ hS ?_
  refine hd_after (hK97.put 152 (.pointer (some ad)) (by decide) rfl rfl) (fun a98 hK98 => ?_)
  refine hd_take (i := 99) (j := 100) (m := 48) (n := 153) (v := .pointer (some ⟨ad.block, ad.off + 1, none⟩)) (by kernel_rfl) rfl (by kernel_rfl) (hd_want (j := 96) (n := 150) (by kernel_rfl) (by kernel_rfl) hK98 (.tail _ (.tail _ (.head _)))) (run_fldC1 (.tmp 152) (by kernel_rfl) (hK98.ev (.head _))) hQ hS ?_
  refine hd_after (hK98.put 153 (.pointer (some ⟨ad.block, ad.off + 1, none⟩)) (by decide) rfl rfl) (fun a99 hK99 => ?_)
  refine hd_take (i := 100) (j := 101) (m := 47) (n := 154) (v := .slice (some ab) 2 cb) (by kernel_rfl) rfl (by kernel_rfl) (hd_want (j := 96) (n := 150) (by kernel_rfl) (by kernel_rfl) hK99 (.tail _ (.tail _ (.tail _ (.head _))))) (run_ldL (.tmp 153) (by kernel_rfl) (hK99.ev (.head _)) (fun W h => h.2.1)) hQ hS ?_
  refine hd_after (hK99.put 154 (.slice (some ab) 2 cb) (by decide) rfl rfl) (fun a100 hK100 => ?_)
  refine hd_take (i := 101) (j := 102) (m := 46) (n := 155) (v := .pointer (some ⟨ab.block, ab.off + 2, none⟩)) (by kernel_rfl) rfl (by kernel_rfl) (hd_want (j := 96) (n := 150) (by kernel_rfl) (by kernel_rfl) hK100 (.tail _ (.tail _ (.tail _ (.tail _ (.head _)))))) (run_ixL1 (.tmp 154) (by kernel_rfl) (hK100.ev (.head _))) hQ hS ?_
  refine hd_after (hK100.put 155 (.pointer (some ⟨ab.block, ab.off + 2, none⟩)) (by decide) rfl rfl) (fun a101 hK101 => ?_)
  refine hd_take (i := 102) (j := 103) (m := 45) (n := 156) (v := .pointer (some ⟨ab.block, ab.off + 2, none⟩)) (by kernel_rfl) rfl (by kernel_rfl) (hd_want (j := 96) (n := 150) (by kernel_rfl) (by kernel_rfl) hK101 (.tail _ (.tail _ (.tail _ (.tail _ (.tail _ (.head _))))))) (run_fldL0 (.tmp 155) (by kernel_rfl) (hK101.ev (.head _))) hQ hS ?_
  refine hd_after (hK101.put 156 (.pointer (some ⟨ab.block, ab.off + 2, none⟩)) (by decide) rfl rfl) (fun a102 hK102 => ?_)
  refine hd_take (i := 103) (j := 104) (m := 44) (n := 157) (v := .bool false) (by kernel_rfl) rfl (by kernel_rfl) (hd_want (j := 96) (n := 150) (by kernel_rfl) (by kernel_rfl) hK102 (.tail _ (.tail _ (.tail _ (.tail _ (.tail _ (.tail _ (.head _)))))))) (run_ldB (.tmp 156) (by kernel_rfl) (hK102.ev (.head _)) (fun W h => h.2.2.2.2.2.1)) hQ hS ?_
  refine hd_after (hK102.put 157 (.bool false) (by decide) rfl rfl) (fun a103 hK103 => ?_)
  refine hd_take (i := 104) (j := 105) (m := 43) (n := 158) (v := .bool true) (by kernel_rfl) rfl (by kernel_rfl) (hd_want (j := 96) (n := 150) (by kernel_rfl) (by kernel_rfl) hK103 (.tail _ (.tail _ (.tail _ (.tail _ (.tail _ (.tail _ (.tail _ (.head _))))))))) (run_not (.tmp 157) (by kernel_rfl) (hK103.ev (.head _))) hQ hS ?_
  refine hd_after (hK103.put 158 (.bool true) (by decide) rfl rfl) (fun a104 hK104 => ?_)
  refine hd_take (i := 105) (j := 106) (m := 42) (n := 159) (v := .bool true) (by kernel_rfl) rfl (by kernel_rfl) (hd_want0 (by kernel_rfl)) (run_pick (.tmp 150) (.tmp 158) (.const (.bool false)) (by kernel_rfl) (hK104.ev (.tail _ (.tail _ (.tail _ (.tail _ (.tail _ (.tail _ (.tail _ (.tail _ (.head _)))))))))) (hK104.ev (.head _))) hQ hS ?_
  refine hd_after (hK104.put 159 (.bool true) (by decide) rfl rfl) (fun a105 hK105 => ?_)
  refine hd_take (i := 106) (j := 107) (m := 41) (n := 160) (v := .bool true) (by kernel_rfl) rfl (by kernel_rfl) (hd_want0 (by kernel_rfl)) (run_move (.tmp 159) (by kernel_rfl) (hK105.ev (.head _))) hQ hS ?_
  refine hd_after (hK105.put 160 (.bool true) (by decide) rfl rfl) (fun a106 hK106 => ?_)
  exact next _ _ (hK106.one (.head _)) hS
set_option maxHeartbeats 4000000 in
theorem hd_seg16 (hls : 1 ≤ c1) {Q : Exit → Act → World → Prop} (hQ : ∀ c a d v w, Q (.panic c) (Act.put a d v) w → Q (.panic c) a w) (a : Act) (W : World) (hK : Kn (hdK At An ad ct cn cp) [(160, .bool true)] a) (hS : HdS w At An ad ab Ah A1 A2 ch cb c1 c2 W)
    (next : ∀ a' W', Kn (hdK At An ad ct cn cp) [(169, .bool true)] a' → HdS w At An ad ab Ah A1 A2 ch cb c1 c2 W' → wpAnyLast Tryd.prog .any hdOps Q (HdS w At An ad ab Ah A1 A2 ch cb c1 c2) [] 32 (hdM 116) a' W') :
    wpAnyLast Tryd.prog .any hdOps Q (HdS w At An ad ab Ah A1 A2 ch cb c1 c2) [] 41 (hdM 107) a W := by
  refine hd_take (i := 107) (j := 108) (m := 40) (n := 161) (v := .slice (some ad) 2 cp) (by kernel_rfl) rfl (by kernel_rfl) (hd_want (j := 106) (n := 160) (by kernel_rfl) (by kernel_rfl) hK (.head _)) (run_move (.tmp 5) (by kernel_rfl) (hK.evB (.tail _ (.tail _ (.head _))))) hQ hS ?_
  refine hd_after (hK.put 161 (.slice (some ad) 2 cp) (by decide) rfl rfl) (fun a107 hK107 => ?_)
  refine hd_take (i := 108) (j := 109) (m := 39) (n := 162) (v := .pointer (some ⟨ad.block, ad.off + 2, none⟩)) (by kernel_rfl) rfl (by kernel_rfl) (hd_want (j := 106) (n := 160) (by kernel_rfl) (by kernel_rfl) hK107 (.tail _ (.head _))) (run_ixC1 (.tmp 161) (by kernel_rfl) (hK107.ev (.head _))) hQ hS ?_
  refine hd_after (hK107.put 162 (.pointer (some ⟨ad.block, ad.off + 2, none⟩)) (by decide) rfl rfl) (fun a108 hK108 => ?_)
  refine hd_take (i := 109) (j := 110) (m := 38) (n := 163) (v := .pointer (some ⟨ad.block, ad.off + 2, none⟩)) (by kernel_rfl) rfl (by kernel_rfl) (hd_want (j := 106) (n := 160) (by kernel_rfl) (by kernel_rfl) hK108 (.tail _ (.tail _ (.head _)))) (run_fldC0 (.tmp 162) (by kernel_rfl) (hK108.ev (.head _))) hQ hS ?_
  refine hd_after (hK108.put 163 (.pointer (some ⟨ad.block, ad.off + 2, none⟩)) (by decide) rfl rfl) (fun a109 hK109 => ?_)
  refine hd_take (i := 110) (j := 111) (m := 37) (n := 164) (v := .slice A1 1 c1) (by kernel_rfl) rfl (by kernel_rfl) (hd_want (j := 106) (n := 160) (by kernel_rfl) (by kernel_rfl) hK109 (.tail _ (.tail _ (.tail _ (.head _))))) (run_ldC (.tmp 163) (by kernel_rfl) (hK109.ev (.head _)) (fun W h => h.2.2.1)) hQ hS ?_
  refine hd_after (hK109.put 164 (.slice A1 1 c1) (by decide) rfl rfl) (fun a110 hK110 => ?_)
  refine hd_one (i := 111) (j := 112) (m := 36) (n := 165) (by kernel_rfl) rfl (by kernel_rfl) (fun K hKK => ?_)
  refine hd_call2 (f := 20) (x := .const (.string ⟨#[115]⟩)) (y := .const (.int .i64 0)) (ts := #[9, 3]) Tryd.func20 rfl (hd_want (j := 106) (n := 160) (by kernel_rfl) (by kernel_rfl) hK110 (.tail _ (.tail _ (.tail _ (.tail _ (.head _)))))) (by kernel_rfl) (by kernel_rfl) (by kernel_rfl) rfl rfl ?_
  refine (sorrellaw05_f.calls ⟨#[115]⟩ 0 3 ⟨#[115]⟩ 0 _ rfl).mono ?_
  rintro e W111 ⟨rfl, hb111⟩
  refine ⟨_, rfl, hKK.out _ _ (hd_keep hS hb111) (fun hS111 => ?_)⟩
  refine hd_after (hK110.put 165 (.agg #[.int .i64 3, .string ⟨#[115]⟩, .int .i64 0]) (by decide) rfl rfl) (fun a111 hK111 => ?_)
  refine hd_one (i := 112) (j := 113) (m := 35) (n := 166) (by kernel_rfl) rfl (by kernel_rfl) (fun K hKK => ?_)
  refine hd_build1 (.tmp 165) (by kernel_rfl) (hd_want (j := 106) (n := 160) (by kernel_rfl) (by kernel_rfl) hK111 (.tail _ (.tail _ (.tail _ (.tail _ (.tail _ (.head _))))))) (by kernel_rfl) (hK111.ev (.head _)) (fun g112 hg112 => ?_)
  refine hKK.out _ _ (hd_keep hS111 (below_alloc (Below.refl _ _) _)) (fun hS112 => ?_)
  refine hd_after (hK111.put 166 (.slice (some ⟨g112, 0, none⟩) 1 1) (by decide) rfl rfl) (fun a112 hK112 => ?_)
  refine hd_one (i := 113) (j := 114) (m := 34) (n := 167) (by kernel_rfl) rfl (by kernel_rfl) (fun K hKK => ?_)
  refine hd_call2 (f := 11) (x := .tmp 164) (y := .tmp 166) (ts := #[24, 24]) Tryd.func11 rfl (hd_want (j := 106) (n := 160) (by kernel_rfl) (by kernel_rfl) hK112 (.tail _ (.tail _ (.tail _ (.tail _ (.tail _ (.tail _ (.head _)))))))) (by kernel_rfl) (by kernel_rfl) (by kernel_rfl) (hK112.ev (.tail _ (.tail _ (.head _)))) (hK112.ev (.head _)) ?_
  refine (sorrelref01_Same.calls 100 _ _ hdS _ _ hdS true _ (hd_k hS112).s hls (cells_C hdS (heap_new _ _ _ hg112) rfl (by decide)) (by decide) hd_sS).mono ?_
  rintro e W113 ⟨rfl, ⟨nd113, rfl⟩⟩
  refine ⟨_, rfl, hKK.out _ _ (hd_keep hS112 (pw_below_drewN (Below.refl _ _) nd113)) (fun hS113 => ?_)⟩
  refine hd_after (hK112.put 167 (.bool true) (by decide) rfl rfl) (fun a113 hK113 => ?_)
  refine hd_take (i := 114) (j := 115) (m := 33) (n := 168) (v := .bool true) (by kernel_rfl) rfl (by kernel_rfl) (hd_want0 (by kernel_rfl)) (run_pick (.tmp 160) (.tmp 167) (.const (.bool false)) (by kernel_rfl) (hK113.ev (.tail _ (.tail _ (.tail _ (.tail _ (.tail _ (.tail _ (.tail _ (.head _))))))))) (hK113.ev (.head _))) hQ hS113 ?_
  refine hd_after (hK113.put 168 (.bool true) (by decide) rfl rfl) (fun a114 hK114 => ?_)
  refine hd_take (i := 115) (j := 116) (m := 32) (n := 169) (v := .bool true) (by kernel_rfl) rfl (by kernel_rfl) (hd_want0 (by kernel_rfl)) (run_move (.tmp 168) (by kernel_rfl) (hK114.ev (.head _))) hQ hS113 ?_
  refine hd_after (hK114.put 169 (.bool true) (by decide) rfl rfl) (fun a115 hK115 => ?_)
  exact next _ _ (hK115.one (.head _)) hS113
set_option maxHeartbeats 4000000 in
theorem hd_seg17 {Q : Exit → Act → World → Prop} (hQ : ∀ c a d v w, Q (.panic c) (Act.put a d v) w → Q (.panic c) a w) (a : Act) (W : World) (hK : Kn (hdK At An ad ct cn cp) [(169, .bool true)] a) (hS : HdS w At An ad ab Ah A1 A2 ch cb c1 c2 W)
    (next : ∀ a' W', Kn (hdK At An ad ct cn cp) [(173, .bool true)] a' → HdS w At An ad ab Ah A1 A2 ch cb c1 c2 W' → wpAnyLast Tryd.prog .any hdOps Q (HdS w At An ad ab Ah A1 A2 ch cb c1 c2) [] 28 (hdM 120) a' W') :
    wpAnyLast Tryd.prog .any hdOps Q (HdS w At An ad ab Ah A1 A2 ch cb c1 c2) [] 32 (hdM 116) a W := by
  refine hd_take (i := 116) (j := 117) (m := 31) (n := 170) (v := .int .i64 5) (by kernel_rfl) rfl (by kernel_rfl) (hd_want (j := 115) (n := 169) (by kernel_rfl) (by kernel_rfl) hK (.head _)) (run_move (.tmp 9) (by kernel_rfl) (hK.evB (.tail _ (.tail _ (.tail _ (.tail _ (.tail _ (.head _)))))))) hQ hS ?_
  refine hd_after (hK.put 170 (.int .i64 5) (by decide) rfl rfl) (fun a116 hK116 => ?_)
  refine hd_take (i := 117) (j := 118) (m := 30) (n := 171) (v := .bool true) (by kernel_rfl) rfl (by kernel_rfl) (hd_want (j := 115) (n := 169) (by kernel_rfl) (by kernel_rfl) hK116 (.tail _ (.head _))) (run_eq (.tmp 170) (.const (.int .i64 5)) 5 (by kernel_rfl) (hK116.ev (.head _)) rfl) hQ hS ?_
  refine hd_after (hK116.put 171 (.bool true) (by decide) rfl rfl) (fun a117 hK117 => ?_)
  refine hd_take (i := 118) (j := 119) (m := 29) (n := 172) (v := .bool true) (by kernel_rfl) rfl (by kernel_rfl) (hd_want0 (by kernel_rfl)) (run_pick (.tmp 169) (.tmp 171) (.const (.bool false)) (by kernel_rfl) (hK117.ev (.tail _ (.tail _ (.head _)))) (hK117.ev (.head _))) hQ hS ?_
  refine hd_after (hK117.put 172 (.bool true) (by decide) rfl rfl) (fun a118 hK118 => ?_)
  refine hd_take (i := 119) (j := 120) (m := 28) (n := 173) (v := .bool true) (by kernel_rfl) rfl (by kernel_rfl) (hd_want0 (by kernel_rfl)) (run_move (.tmp 172) (by kernel_rfl) (hK118.ev (.head _))) hQ hS ?_
  refine hd_after (hK118.put 173 (.bool true) (by decide) rfl rfl) (fun a119 hK119 => ?_)
  exact next _ _ (hK119.one (.head _)) hS
set_option maxHeartbeats 4000000 in
theorem hd_seg18 {Q : Exit → Act → World → Prop} (hQ : ∀ c a d v w, Q (.panic c) (Act.put a d v) w → Q (.panic c) a w) (a : Act) (W : World) (hK : Kn (hdK At An ad ct cn cp) [(173, .bool true)] a) (hS : HdS w At An ad ab Ah A1 A2 ch cb c1 c2 W)
    (next : ∀ a' W', Kn (hdK At An ad ct cn cp) [(177, .bool true)] a' → HdS w At An ad ab Ah A1 A2 ch cb c1 c2 W' → wpAnyLast Tryd.prog .any hdOps Q (HdS w At An ad ab Ah A1 A2 ch cb c1 c2) [] 24 (hdM 124) a' W') :
    wpAnyLast Tryd.prog .any hdOps Q (HdS w At An ad ab Ah A1 A2 ch cb c1 c2) [] 28 (hdM 120) a W := by
  refine hd_take (i := 120) (j := 121) (m := 27) (n := 174) (v := .int .i64 50) (by kernel_rfl) rfl (by kernel_rfl) (hd_want (j := 119) (n := 173) (by kernel_rfl) (by kernel_rfl) hK (.head _)) (run_move (.tmp 10) (by kernel_rfl) (hK.evB (.tail _ (.tail _ (.tail _ (.tail _ (.tail _ (.tail _ (.head _))))))))) hQ hS ?_
  refine hd_after (hK.put 174 (.int .i64 50) (by decide) rfl rfl) (fun a120 hK120 => ?_)
  refine hd_take (i := 121) (j := 122) (m := 26) (n := 175) (v := .bool true) (by kernel_rfl) rfl (by kernel_rfl) (hd_want (j := 119) (n := 173) (by kernel_rfl) (by kernel_rfl) hK120 (.tail _ (.head _))) (run_eqE (.tmp 174) (.const (.int .i64 50)) 50 (by kernel_rfl) (hK120.ev (.head _)) rfl) hQ hS ?_
  refine hd_after (hK120.put 175 (.bool true) (by decide) rfl rfl) (fun a121 hK121 => ?_)
  refine hd_take (i := 122) (j := 123) (m := 25) (n := 176) (v := .bool true) (by kernel_rfl) rfl (by kernel_rfl) (hd_want0 (by kernel_rfl)) (run_pick (.tmp 173) (.tmp 175) (.const (.bool false)) (by kernel_rfl) (hK121.ev (.tail _ (.tail _ (.head _)))) (hK121.ev (.head _))) hQ hS ?_
  refine hd_after (hK121.put 176 (.bool true) (by decide) rfl rfl) (fun a122 hK122 => ?_)
  refine hd_take (i := 123) (j := 124) (m := 24) (n := 177) (v := .bool true) (by kernel_rfl) rfl (by kernel_rfl) (hd_want0 (by kernel_rfl)) (run_move (.tmp 176) (by kernel_rfl) (hK122.ev (.head _))) hQ hS ?_
  refine hd_after (hK122.put 177 (.bool true) (by decide) rfl rfl) (fun a123 hK123 => ?_)
  exact next _ _ (hK123.one (.head _)) hS
set_option maxHeartbeats 4000000 in
theorem hd_seg19 {Q : Exit → Act → World → Prop} (hQ : ∀ c a d v w, Q (.panic c) (Act.put a d v) w → Q (.panic c) a w) (a : Act) (W : World) (hK : Kn (hdK At An ad ct cn cp) [(177, .bool true)] a) (hS : HdS w At An ad ab Ah A1 A2 ch cb c1 c2 W)
    (next : ∀ a' W', Kn (hdK At An ad ct cn cp) [(181, .bool true)] a' → HdS w At An ad ab Ah A1 A2 ch cb c1 c2 W' → wpAnyLast Tryd.prog .any hdOps Q (HdS w At An ad ab Ah A1 A2 ch cb c1 c2) [] 20 (hdM 128) a' W') :
    wpAnyLast Tryd.prog .any hdOps Q (HdS w At An ad ab Ah A1 A2 ch cb c1 c2) [] 24 (hdM 124) a W := by
  refine hd_take (i := 124) (j := 125) (m := 23) (n := 178) (v := .int .i64 200) (by kernel_rfl) rfl (by kernel_rfl) (hd_want (j := 123) (n := 177) (by kernel_rfl) (by kernel_rfl) hK (.head _)) (run_move (.tmp 11) (by kernel_rfl) (hK.evB (.tail _ (.tail _ (.tail _ (.tail _ (.tail _ (.tail _ (.tail _ (.head _)))))))))) hQ hS ?_
  refine hd_after (hK.put 178 (.int .i64 200) (by decide) rfl rfl) (fun a124 hK124 => ?_)
  refine hd_take (i := 125) (j := 126) (m := 22) (n := 179) (v := .bool true) (by kernel_rfl) rfl (by kernel_rfl) (hd_want (j := 123) (n := 177) (by kernel_rfl) (by kernel_rfl) hK124 (.tail _ (.head _))) (run_eq (.tmp 178) (.const (.int .i64 200)) 200 (by kernel_rfl) (hK124.ev (.head _)) rfl) hQ hS ?_
  refine hd_after (hK124.put 179 (.bool true) (by decide) rfl rfl) (fun a125 hK125 => ?_)
  refine hd_take (i := 126) (j := 127) (m := 21) (n := 180) (v := .bool true) (by kernel_rfl) rfl (by kernel_rfl) (hd_want0 (by kernel_rfl)) (run_pick (.tmp 177) (.tmp 179) (.const (.bool false)) (by kernel_rfl) (hK125.ev (.tail _ (.tail _ (.head _)))) (hK125.ev (.head _))) hQ hS ?_
  refine hd_after (hK125.put 180 (.bool true) (by decide) rfl rfl) (fun a126 hK126 => ?_)
  refine hd_take (i := 127) (j := 128) (m := 20) (n := 181) (v := .bool true) (by kernel_rfl) rfl (by kernel_rfl) (hd_want0 (by kernel_rfl)) (run_move (.tmp 180) (by kernel_rfl) (hK126.ev (.head _))) hQ hS ?_
  refine hd_after (hK126.put 181 (.bool true) (by decide) rfl rfl) (fun a127 hK127 => ?_)
  exact next _ _ (hK127.one (.head _)) hS
set_option maxHeartbeats 4000000 in
theorem hd_seg20 {Q : Exit → Act → World → Prop} (hQ : ∀ c a d v w, Q (.panic c) (Act.put a d v) w → Q (.panic c) a w) (a : Act) (W : World) (hK : Kn (hdK At An ad ct cn cp) [(181, .bool true)] a) (hS : HdS w At An ad ab Ah A1 A2 ch cb c1 c2 W)
    (next : ∀ a' W', Kn (hdK At An ad ct cn cp) [(185, .bool true)] a' → HdS w At An ad ab Ah A1 A2 ch cb c1 c2 W' → wpAnyLast Tryd.prog .any hdOps Q (HdS w At An ad ab Ah A1 A2 ch cb c1 c2) [] 16 (hdM 132) a' W') :
    wpAnyLast Tryd.prog .any hdOps Q (HdS w At An ad ab Ah A1 A2 ch cb c1 c2) [] 20 (hdM 128) a W := by
  refine hd_take (i := 128) (j := 129) (m := 19) (n := 182) (v := .int .i64 0) (by kernel_rfl) rfl (by kernel_rfl) (hd_want (j := 127) (n := 181) (by kernel_rfl) (by kernel_rfl) hK (.head _)) (run_move (.tmp 12) (by kernel_rfl) (hK.evB (.tail _ (.tail _ (.tail _ (.tail _ (.tail _ (.tail _ (.tail _ (.tail _ (.head _))))))))))) hQ hS ?_
  refine hd_after (hK.put 182 (.int .i64 0) (by decide) rfl rfl) (fun a128 hK128 => ?_)
  refine hd_take (i := 129) (j := 130) (m := 18) (n := 183) (v := .bool true) (by kernel_rfl) rfl (by kernel_rfl) (hd_want (j := 127) (n := 181) (by kernel_rfl) (by kernel_rfl) hK128 (.tail _ (.head _))) (run_eq (.tmp 182) (.const (.int .i64 0)) 0 (by kernel_rfl) (hK128.ev (.head _)) rfl) hQ hS ?_
  refine hd_after (hK128.put 183 (.bool true) (by decide) rfl rfl) (fun a129 hK129 => ?_)
  refine hd_take (i := 130) (j := 131) (m := 17) (n := 184) (v := .bool true) (by kernel_rfl) rfl (by kernel_rfl) (hd_want0 (by kernel_rfl)) (run_pick (.tmp 181) (.tmp 183) (.const (.bool false)) (by kernel_rfl) (hK129.ev (.tail _ (.tail _ (.head _)))) (hK129.ev (.head _))) hQ hS ?_
  refine hd_after (hK129.put 184 (.bool true) (by decide) rfl rfl) (fun a130 hK130 => ?_)
  refine hd_take (i := 131) (j := 132) (m := 16) (n := 185) (v := .bool true) (by kernel_rfl) rfl (by kernel_rfl) (hd_want0 (by kernel_rfl)) (run_move (.tmp 184) (by kernel_rfl) (hK130.ev (.head _))) hQ hS ?_
  refine hd_after (hK130.put 185 (.bool true) (by decide) rfl rfl) (fun a131 hK131 => ?_)
  exact next _ _ (hK131.one (.head _)) hS
set_option maxHeartbeats 4000000 in
theorem hd_seg21 {Q : Exit → Act → World → Prop} (hQ : ∀ c a d v w, Q (.panic c) (Act.put a d v) w → Q (.panic c) a w) (a : Act) (W : World) (hK : Kn (hdK At An ad ct cn cp) [(185, .bool true)] a) (hS : HdS w At An ad ab Ah A1 A2 ch cb c1 c2 W)
    (next : ∀ a' W', Kn (hdK At An ad ct cn cp) [(189, .bool true)] a' → HdS w At An ad ab Ah A1 A2 ch cb c1 c2 W' → wpAnyLast Tryd.prog .any hdOps Q (HdS w At An ad ab Ah A1 A2 ch cb c1 c2) [] 12 (hdM 136) a' W') :
    wpAnyLast Tryd.prog .any hdOps Q (HdS w At An ad ab Ah A1 A2 ch cb c1 c2) [] 16 (hdM 132) a W := by
  refine hd_take (i := 132) (j := 133) (m := 15) (n := 186) (v := .int .i64 200) (by kernel_rfl) rfl (by kernel_rfl) (hd_want (j := 131) (n := 185) (by kernel_rfl) (by kernel_rfl) hK (.head _)) (run_move (.tmp 13) (by kernel_rfl) (hK.evB (.tail _ (.tail _ (.tail _ (.tail _ (.tail _ (.tail _ (.tail _ (.tail _ (.tail _ (.head _)))))))))))) hQ hS ?_
  refine hd_after (hK.put 186 (.int .i64 200) (by decide) rfl rfl) (fun a132 hK132 => ?_)
  refine hd_take (i := 133) (j := 134) (m := 14) (n := 187) (v := .bool true) (by kernel_rfl) rfl (by kernel_rfl) (hd_want (j := 131) (n := 185) (by kernel_rfl) (by kernel_rfl) hK132 (.tail _ (.head _))) (run_eq (.tmp 186) (.const (.int .i64 200)) 200 (by kernel_rfl) (hK132.ev (.head _)) rfl) hQ hS ?_
  refine hd_after (hK132.put 187 (.bool true) (by decide) rfl rfl) (fun a133 hK133 => ?_)
  refine hd_take (i := 134) (j := 135) (m := 13) (n := 188) (v := .bool true) (by kernel_rfl) rfl (by kernel_rfl) (hd_want0 (by kernel_rfl)) (run_pick (.tmp 185) (.tmp 187) (.const (.bool false)) (by kernel_rfl) (hK133.ev (.tail _ (.tail _ (.head _)))) (hK133.ev (.head _))) hQ hS ?_
  refine hd_after (hK133.put 188 (.bool true) (by decide) rfl rfl) (fun a134 hK134 => ?_)
  refine hd_take (i := 135) (j := 136) (m := 12) (n := 189) (v := .bool true) (by kernel_rfl) rfl (by kernel_rfl) (hd_want0 (by kernel_rfl)) (run_move (.tmp 188) (by kernel_rfl) (hK134.ev (.head _))) hQ hS ?_
  refine hd_after (hK134.put 189 (.bool true) (by decide) rfl rfl) (fun a135 hK135 => ?_)
  exact next _ _ (hK135.one (.head _)) hS
set_option maxHeartbeats 4000000 in
theorem hd_seg22 {Q : Exit → Act → World → Prop} (hQ : ∀ c a d v w, Q (.panic c) (Act.put a d v) w → Q (.panic c) a w) (a : Act) (W : World) (hK : Kn (hdK At An ad ct cn cp) [(189, .bool true)] a) (hS : HdS w At An ad ab Ah A1 A2 ch cb c1 c2 W)
    (next : ∀ a' W', Kn (hdK At An ad ct cn cp) [(193, .bool true)] a' → HdS w At An ad ab Ah A1 A2 ch cb c1 c2 W' → wpAnyLast Tryd.prog .any hdOps Q (HdS w At An ad ab Ah A1 A2 ch cb c1 c2) [] 8 (hdM 140) a' W') :
    wpAnyLast Tryd.prog .any hdOps Q (HdS w At An ad ab Ah A1 A2 ch cb c1 c2) [] 12 (hdM 136) a W := by
  refine hd_take (i := 136) (j := 137) (m := 11) (n := 190) (v := .int .i64 500) (by kernel_rfl) rfl (by kernel_rfl) (hd_want (j := 135) (n := 189) (by kernel_rfl) (by kernel_rfl) hK (.head _)) (run_move (.tmp 14) (by kernel_rfl) (hK.evB (.tail _ (.tail _ (.tail _ (.tail _ (.tail _ (.tail _ (.tail _ (.tail _ (.tail _ (.tail _ (.head _))))))))))))) hQ hS ?_
  refine hd_after (hK.put 190 (.int .i64 500) (by decide) rfl rfl) (fun a136 hK136 => ?_)
  refine hd_take (i := 137) (j := 138) (m := 10) (n := 191) (v := .bool true) (by kernel_rfl) rfl (by kernel_rfl) (hd_want (j := 135) (n := 189) (by kernel_rfl) (by kernel_rfl) hK136 (.tail _ (.head _))) (run_eq (.tmp 190) (.const (.int .i64 500)) 500 (by kernel_rfl) (hK136.ev (.head _)) rfl) hQ hS ?_
  refine hd_after (hK136.put 191 (.bool true) (by decide) rfl rfl) (fun a137 hK137 => ?_)
  refine hd_take (i := 138) (j := 139) (m := 9) (n := 192) (v := .bool true) (by kernel_rfl) rfl (by kernel_rfl) (hd_want0 (by kernel_rfl)) (run_pick (.tmp 189) (.tmp 191) (.const (.bool false)) (by kernel_rfl) (hK137.ev (.tail _ (.tail _ (.head _)))) (hK137.ev (.head _))) hQ hS ?_
  refine hd_after (hK137.put 192 (.bool true) (by decide) rfl rfl) (fun a138 hK138 => ?_)
  refine hd_take (i := 139) (j := 140) (m := 8) (n := 193) (v := .bool true) (by kernel_rfl) rfl (by kernel_rfl) (hd_want0 (by kernel_rfl)) (run_move (.tmp 192) (by kernel_rfl) (hK138.ev (.head _))) hQ hS ?_
  refine hd_after (hK138.put 193 (.bool true) (by decide) rfl rfl) (fun a139 hK139 => ?_)
  exact next _ _ (hK139.one (.head _)) hS
set_option maxHeartbeats 4000000 in
theorem hd_seg23 {Q : Exit → Act → World → Prop} (hQ : ∀ c a d v w, Q (.panic c) (Act.put a d v) w → Q (.panic c) a w) (a : Act) (W : World) (hK : Kn (hdK At An ad ct cn cp) [(193, .bool true)] a) (hS : HdS w At An ad ab Ah A1 A2 ch cb c1 c2 W)
    (next : ∀ a' W', Kn (hdK At An ad ct cn cp) [(197, .bool true)] a' → HdS w At An ad ab Ah A1 A2 ch cb c1 c2 W' → wpAnyLast Tryd.prog .any hdOps Q (HdS w At An ad ab Ah A1 A2 ch cb c1 c2) [] 4 (hdM 144) a' W') :
    wpAnyLast Tryd.prog .any hdOps Q (HdS w At An ad ab Ah A1 A2 ch cb c1 c2) [] 8 (hdM 140) a W := by
  refine hd_take (i := 140) (j := 141) (m := 7) (n := 194) (v := .int .i64 500) (by kernel_rfl) rfl (by kernel_rfl) (hd_want (j := 139) (n := 193) (by kernel_rfl) (by kernel_rfl) hK (.head _)) (run_move (.tmp 15) (by kernel_rfl) (hK.evB (.tail _ (.tail _ (.tail _ (.tail _ (.tail _ (.tail _ (.tail _ (.tail _ (.tail _ (.tail _ (.tail _ (.head _)))))))))))))) hQ hS ?_
  refine hd_after (hK.put 194 (.int .i64 500) (by decide) rfl rfl) (fun a140 hK140 => ?_)
  refine hd_take (i := 141) (j := 142) (m := 6) (n := 195) (v := .bool true) (by kernel_rfl) rfl (by kernel_rfl) (hd_want (j := 139) (n := 193) (by kernel_rfl) (by kernel_rfl) hK140 (.tail _ (.head _))) (run_eq (.tmp 194) (.const (.int .i64 500)) 500 (by kernel_rfl) (hK140.ev (.head _)) rfl) hQ hS ?_
  refine hd_after (hK140.put 195 (.bool true) (by decide) rfl rfl) (fun a141 hK141 => ?_)
  refine hd_take (i := 142) (j := 143) (m := 5) (n := 196) (v := .bool true) (by kernel_rfl) rfl (by kernel_rfl) (hd_want0 (by kernel_rfl)) (run_pick (.tmp 193) (.tmp 195) (.const (.bool false)) (by kernel_rfl) (hK141.ev (.tail _ (.tail _ (.head _)))) (hK141.ev (.head _))) hQ hS ?_
  refine hd_after (hK141.put 196 (.bool true) (by decide) rfl rfl) (fun a142 hK142 => ?_)
  refine hd_take (i := 143) (j := 144) (m := 4) (n := 197) (v := .bool true) (by kernel_rfl) rfl (by kernel_rfl) (hd_want0 (by kernel_rfl)) (run_move (.tmp 196) (by kernel_rfl) (hK142.ev (.head _))) hQ hS ?_
  refine hd_after (hK142.put 197 (.bool true) (by decide) rfl rfl) (fun a143 hK143 => ?_)
  exact next _ _ (hK143.one (.head _)) hS
set_option maxHeartbeats 4000000 in
theorem hd_seg24 {Q : Exit → Act → World → Prop} (hQ : ∀ c a d v w, Q (.panic c) (Act.put a d v) w → Q (.panic c) a w) (a : Act) (W : World) (hK : Kn (hdK At An ad ct cn cp) [(197, .bool true)] a) (hS : HdS w At An ad ab Ah A1 A2 ch cb c1 c2 W)
    (next : ∀ a' W', Kn (hdK At An ad ct cn cp) [(0, .bool true)] a' → HdS w At An ad ab Ah A1 A2 ch cb c1 c2 W' → wpAnyLast Tryd.prog .any hdOps Q (HdS w At An ad ab Ah A1 A2 ch cb c1 c2) [] 0 (hdM 148) a' W') :
    wpAnyLast Tryd.prog .any hdOps Q (HdS w At An ad ab Ah A1 A2 ch cb c1 c2) [] 4 (hdM 144) a W := by
  refine hd_take (i := 144) (j := 145) (m := 3) (n := 198) (v := .int .i64 499) (by kernel_rfl) rfl (by kernel_rfl) (hd_want (j := 143) (n := 197) (by kernel_rfl) (by kernel_rfl) hK (.head _)) (run_move (.tmp 16) (by kernel_rfl) (hK.evB (.tail _ (.tail _ (.tail _ (.tail _ (.tail _ (.tail _ (.tail _ (.tail _ (.tail _ (.tail _ (.tail _ (.tail _ (.head _))))))))))))))) hQ hS ?_
  refine hd_after (hK.put 198 (.int .i64 499) (by decide) rfl rfl) (fun a144 hK144 => ?_)
  refine hd_take (i := 145) (j := 146) (m := 2) (n := 199) (v := .bool true) (by kernel_rfl) rfl (by kernel_rfl) (hd_want (j := 143) (n := 197) (by kernel_rfl) (by kernel_rfl) hK144 (.tail _ (.head _))) (run_eq (.tmp 198) (.const (.int .i64 499)) 499 (by kernel_rfl) (hK144.ev (.head _)) rfl) hQ hS ?_
  refine hd_after (hK144.put 199 (.bool true) (by decide) rfl rfl) (fun a145 hK145 => ?_)
  refine hd_take (i := 146) (j := 147) (m := 1) (n := 200) (v := .bool true) (by kernel_rfl) rfl (by kernel_rfl) (hd_want0 (by kernel_rfl)) (run_pick (.tmp 197) (.tmp 199) (.const (.bool false)) (by kernel_rfl) (hK145.ev (.tail _ (.tail _ (.head _)))) (hK145.ev (.head _))) hQ hS ?_
  refine hd_after (hK145.put 200 (.bool true) (by decide) rfl rfl) (fun a146 hK146 => ?_)
  refine hd_take (i := 147) (j := 148) (m := 0) (n := 0) (v := .bool true) (by kernel_rfl) rfl (by kernel_rfl) (hd_want0 (by kernel_rfl)) (run_asg (.tmp 200) (by kernel_rfl) (hK146.ev (.head _))) hQ hS ?_
  refine hd_after (hK146.put 0 (.bool true) (by decide) rfl rfl) (fun a147 hK147 => ?_)
  exact next _ _ (hK147.one (.head _)) hS
theorem hd_region (hG : Aside0 (GW w)) (hlT : 6 ≤ ct) (hlN : 4 ≤ cn) (hlh : 2 ≤ ch) (hlq : 3 ≤ c2) (hls : 1 ≤ c1) {Q : Exit → Act → World → Prop} (hQ : ∀ c a d v w, Q (.panic c) (Act.put a d v) w → Q (.panic c) a w) (a : Act) (W : World) (hK : Kn (hdK At An ad ct cn cp) [] a) (hS : ∀ W', Below W.heap.size W W' → HdS w At An ad ab Ah A1 A2 ch cb c1 c2 W')
    (fin : ∀ a' W', Kn (hdK At An ad ct cn cp) [(0, .bool true)] a' → HdS w At An ad ab Ah A1 A2 ch cb c1 c2 W' → Q .normal a' W') : (Code.region 8 hdOps true).wp Tryd.prog Q a W := by
  refine start_ (n := 148) (S := HdS w At An ad ab Ah A1 A2 ch cb c1 c2) (ds := []) (hdM 0) (by kernel_rfl) hd_size rfl (hS _ (below_drew1 (Below.refl _ _))) (fun hH => ?_)
  refine hd_seg0 hG hQ _ _ hK hH (fun a0 W0 hK0 hS0 => ?_)
  refine hd_seg1 hG hQ _ _ hK0 hS0 (fun a1 W1 hK1 hS1 => ?_)
  refine hd_seg2 hG hQ _ _ hK1 hS1 (fun a2 W2 hK2 hS2 => ?_)
  refine hd_seg3 hG hQ _ _ hK2 hS2 (fun a3 W3 hK3 hS3 => ?_)
  refine hd_seg4 hG hQ _ _ hK3 hS3 (fun a4 W4 hK4 hS4 => ?_)
  refine hd_seg5 hG hQ _ _ hK4 hS4 (fun a5 W5 hK5 hS5 => ?_)
  refine hd_seg6 hG hQ _ _ hK5 hS5 (fun a6 W6 hK6 hS6 => ?_)
  refine hd_seg7 hG hQ _ _ hK6 hS6 (fun a7 W7 hK7 hS7 => ?_)
  refine hd_seg8 hlT hQ _ _ hK7 hS7 (fun a8 W8 hK8 hS8 => ?_)
  refine hd_seg9 hlN hQ _ _ hK8 hS8 (fun a9 W9 hK9 hS9 => ?_)
  refine hd_seg10 hQ _ _ hK9 hS9 (fun a10 W10 hK10 hS10 => ?_)
  refine hd_seg11 hQ _ _ hK10 hS10 (fun a11 W11 hK11 hS11 => ?_)
  refine hd_seg12 hlh hQ _ _ hK11 hS11 (fun a12 W12 hK12 hS12 => ?_)
  refine hd_seg13 hQ _ _ hK12 hS12 (fun a13 W13 hK13 hS13 => ?_)
  refine hd_seg14 hlq hQ _ _ hK13 hS13 (fun a14 W14 hK14 hS14 => ?_)
  refine hd_seg15 hQ _ _ hK14 hS14 (fun a15 W15 hK15 hS15 => ?_)
  refine hd_seg16 hls hQ _ _ hK15 hS15 (fun a16 W16 hK16 hS16 => ?_)
  refine hd_seg17 hQ _ _ hK16 hS16 (fun a17 W17 hK17 hS17 => ?_)
  refine hd_seg18 hQ _ _ hK17 hS17 (fun a18 W18 hK18 hS18 => ?_)
  refine hd_seg19 hQ _ _ hK18 hS18 (fun a19 W19 hK19 hS19 => ?_)
  refine hd_seg20 hQ _ _ hK19 hS19 (fun a20 W20 hK20 hS20 => ?_)
  refine hd_seg21 hQ _ _ hK20 hS20 (fun a21 W21 hK21 hS21 => ?_)
  refine hd_seg22 hQ _ _ hK21 hS21 (fun a22 W22 hK22 hS22 => ?_)
  refine hd_seg23 hQ _ _ hK22 hS22 (fun a23 W23 hK23 hS23 => ?_)
  refine hd_seg24 hQ _ _ hK23 hS23 (fun a24 W24 hK24 hS24 => ?_)
  exact done_ (done_of hd_tab (by kernel_rfl)) (fin _ _ hK24 hS24)
end
set_option maxHeartbeats 40000000 in
set_option maxRecDepth 100000 in
theorem hd_walk (w : World) (hG : Aside0 (GW w)) :
    Calls Tryd.prog 7 #[] w fun e w' => e = .returned (.bool true) ∧ Below w.heap.size w w' := by
  go_enter Tryd.func7, Tryd.ntmps7
  go_wp2_with fail
  refine (read_Term.calls _ _ _ _ _ _ hd_t1 hG).mono ?_
  rintro e w1 ⟨v0, v1, rfl, ho0, ho1, hb⟩
  have HT := Aside0.mk ho0; have HN := Aside0.mk ho1; have HB := Aside0.mk hb; clear ho0 ho1 hb
  obtain ⟨At, ct, et⟩ := Kd.R_slice HT.out
  obtain ⟨An, cn, en⟩ := Kd.R_slice HN.out
  rw [show hdT.length = 6 from rfl] at et
  rw [show hdN.length = 4 from rfl] at en
  subst et; subst en
  go_wp2_with fail
  refine (read_Program.calls _ _ _ _ _ hd_p1 (GW.belowA hG HB.out)).mono ?_
  rintro e w2 ⟨v0, rfl, ho0, hb⟩
  replace HT := Aside0.mk (Kd.R_below HT.out hb)
  replace HN := Aside0.mk (Kd.R_below HN.out hb)
  have HP := Aside0.mk (Kd.R_lower ho0 (below_size HB.out))
  replace HB := Aside0.mk (below_step HB.out hb)
  clear ho0 hb
  obtain ⟨Ap, cp, et⟩ := Kd.R_slice HP.out
  rw [show hdP.length = 2 from rfl] at et
  subst et
  go_wp2_with fail
  refine (read_Program.calls _ _ _ _ _ hd_p2 (GW.belowA hG HB.out)).mono ?_
  rintro e w3 ⟨v0, rfl, _, hb⟩
  replace HT := Aside0.mk (Kd.R_below HT.out hb)
  replace HN := Aside0.mk (Kd.R_below HN.out hb)
  replace HP := Aside0.mk (Kd.R_below HP.out hb)
  replace HB := Aside0.mk (below_step HB.out hb)
  clear hb
  go_wp2_with fail
  refine (read_Op.calls _ _ _ _ _ _ hd_o1).mono ?_
  rintro e w4 ⟨rfl, hb⟩
  replace HT := Aside0.mk (Kd.R_below HT.out hb)
  replace HN := Aside0.mk (Kd.R_below HN.out hb)
  replace HP := Aside0.mk (Kd.R_below HP.out hb)
  replace HB := Aside0.mk (below_step HB.out hb)
  clear hb
  go_wp2_with fail
  refine (read_Op.calls _ _ _ _ _ _ hd_o2).mono ?_
  rintro e w5 ⟨rfl, hb⟩
  replace HT := Aside0.mk (Kd.R_below HT.out hb)
  replace HN := Aside0.mk (Kd.R_below HN.out hb)
  replace HP := Aside0.mk (Kd.R_below HP.out hb)
  replace HB := Aside0.mk (below_step HB.out hb)
  clear hb
  obtain ⟨ad, ab, Ah, A1, A2, A3, ch, cb, c1, c2, c3, e1, HA⟩ := hd_at HP.out
  subst e1
  have hx := HA.b
  have hlT : 6 ≤ ct := (Kd.R_reads' HT.out).2.1
  have hlN : 4 ≤ cn := (Kd.R_reads' HN.out).2.1
  have hlh := HA.lh
  have hlq := HA.lq
  have hls := HA.ls
  have hS5 : HdS w At An ad ab Ah A1 A2 ch cb c1 c2 w5 := ⟨HA.h, HA.b, HA.s, HA.n, HA.q, HA.m, ⟨(Kd.R_reads' HT.out).2.2, (Kd.R_reads' HN.out).2.2, HA.hh, HA.hq, HA.hs, HB.out⟩⟩
  clear HA HT HN HP
  go_wp2_with fail
  clear hx
  refine hd_region (cp := cp) hG hlT hlN hlh hlq hls ?hQ _ _ ?hK (fun W' hb => hd_keep hS5 hb) ?fin
  case hQ =>
    intro c a d v w h
    cases d <;> exact h
  case hK =>
    refine ⟨rfl, fun p hp => ?_, fun p hp => (by cases hp), rfl⟩
    simp only [hdK, List.mem_cons, List.not_mem_nil, or_false] at hp
    rcases hp with rfl | rfl | rfl | rfl | rfl | rfl | rfl | rfl | rfl | rfl | rfl | rfl | rfl
    all_goals rfl
  case fin =>
    intro a' W' hK' hS'
    simp only [Exit.then]
    go_wp2_with fail
    refine bodyPost_ret (results_tmp rfl _ _ _) hK'.defers ⟨?_, (hd_k hS').below⟩
    exact congrArg Ending.returned (hK'.ev (.head _))
def sorrellaw05_head.f : Option Bool := some true
theorem sorrellaw05_head.calls (r : Bool) (w : World) (h : sorrellaw05_head.f = some r) (hG : Aside0 (GW w)) :
    Calls Tryd.prog 7 #[] w fun e w' => e = .returned (.bool r) ∧ Below w.heap.size w w' := by
  cases h
  exact hd_walk w hG
end Go.Proofs.YthdccdbiichabaaDoor.P
