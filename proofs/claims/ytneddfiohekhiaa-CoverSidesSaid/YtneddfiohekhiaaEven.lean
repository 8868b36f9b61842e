/- Package bow: bent edges: where they cross a line. -/
import Derived.Test.YtneddfiohekhiaaSignR
import Derived.Test.YtneddfiohekhiaaSteps
-- lit6
namespace Go.Proofs.Ytneddfiohekhiaa
open Go.RowKit

structure Spt where
  turn : Int
  p : Int
  q : Int
  d : Int
  m : Int
def noSpt : Spt := ⟨0, 0, 0, 0, 0⟩
def evP (b c ax bx x0 : Int) : Int := 4 * b * b * x0 - 4 * b * c * bx + ax * c * c
def evenS (b c ax bx x0 : Int) : Spt := if 0 < b ∧ c ≤ 0 ∧ -c < 2 * b then ⟨1, evP b c ax bx x0, 0, 0, 4 * b * b⟩ else if b < 0 ∧ 0 < c ∧ c ≤ -2 * b then ⟨-1, evP b c ax bx x0, 0, 0, 4 * b * b⟩ else noSpt
theorem ret_spt {a b c d e : Int} {s : Spt} (h1 : a = s.turn) (h2 : b = s.p) (h3 : c = s.q) (h4 : d = s.d) (h5 : e = s.m) : Ending.returned (.agg #[.int .i64 a, .int .i64 b, .int .i64 c, .int .i64 d, .int .i64 e]) = .returned (.agg #[.int .i64 s.turn, .int .i64 s.p, .int .i64 s.q, .int .i64 s.d, .int .i64 s.m]) := by rw [h1, h2, h3, h4, h5]

structure EvOk (b c ax bx x0 : Int) : Prop where
  b0 : -16382 ≤ b
  b1 : b ≤ 16382
  c0 : -16382 ≤ c
  c1 : c ≤ 16382
  ax0 : -32764 ≤ ax
  ax1 : ax ≤ 32764
  bx0 : -16382 ≤ bx
  bx1 : bx ≤ 16382
  f0 : -8191 ≤ x0
  f1 : x0 ≤ 8191
set_option maxRecDepth 100000 in
set_option maxHeartbeats 1000000 in
theorem even_calls (b c ax bx x0 : Int) (hb : EvOk b c ax bx x0) (w : World) : Calls Try.prog 96 #[.int .i64 b, .int .i64 c, .int .i64 ax, .int .i64 bx, .int .i64 x0] w fun e w' => e = .returned (.agg #[.int .i64 (evenS b c ax bx x0).turn, .int .i64 (evenS b c ax bx x0).p, .int .i64 (evenS b c ax bx x0).q, .int .i64 (evenS b c ax bx x0).d, .int .i64 (evenS b c ax bx x0).m]) ∧ Below w.heap.size w w' := by
  obtain ⟨b0, b1, c0, c1, a0, a1, e0, e1, x0', x1'⟩ := hb
  have hL := Holds.start w
  obtain ⟨k1, k2⟩ := mul_bd (a := 4 * b) (b := b) (A := 65528) (B := 16382) (by omega) (by omega) (by omega) (by omega)
  obtain ⟨k3, k4⟩ := mul_bd (a := 4 * b * b) (b := x0) (A := 1073479696) (B := 8191) (by omega) (by omega) (by omega) (by omega)
  obtain ⟨k5, k6⟩ := mul_bd (a := 4 * b) (b := c) (A := 65528) (B := 16382) (by omega) (by omega) (by omega) (by omega)
  obtain ⟨k7, k8⟩ := mul_bd (a := 4 * b * c) (b := bx) (A := 1073479696) (B := 16382) (by omega) (by omega) (by omega) (by omega)
  obtain ⟨k9, k10⟩ := mul_bd (a := ax) (b := c) (A := 32764) (B := 16382) (by omega) (by omega) (by omega) (by omega)
  obtain ⟨k11, k12⟩ := mul_bd (a := ax * c) (b := c) (A := 536739848) (B := 16382) (by omega) (by omega) (by omega) (by omega)
  have HE := Lib.hid (show evenS b c ax bx x0 = if 0 < b ∧ c ≤ 0 ∧ -c < 2 * b then ⟨1, 4 * b * b * x0 - 4 * b * c * bx + ax * c * c, 0, 0, 4 * b * b⟩ else if b < 0 ∧ 0 < c ∧ c ≤ -2 * b then ⟨-1, 4 * b * b * x0 - 4 * b * c * bx + ax * c * c, 0, 0, 4 * b * b⟩ else noSpt from rfl)
  generalize evenS b c ax bx x0 = s at *
  have n1 : True := trivial; have n2 : True := trivial
  go_enter Try.func96, Try.ntmps96
  go_wp2_with (first | (first | (clear hL n1; with_reducible intro b1 w1 hL) | (clear hL n2; with_reducible intro b2 w2 hL) | (clear hL; with_reducible intro _ _ hL)) | (with_reducible refine wpC_alloc rfl _ rfl _ _ inferInstance hL ?_) | (with_reducible first | refine wpB_agg rfl _ _ _ rfl rfl hL ?_ | refine wpB_one rfl _ _ (.int _ _) rfl rfl rfl hL ?_ | refine wpB_one rfl _ _ (.slice _ _ _) rfl rfl rfl hL ?_ | refine wpB_one rfl _ _ (.bool _) rfl rfl rfl hL ?_ | refine wpB_one rfl _ _ (.pointer _) rfl rfl rfl hL ?_ | refine wpB_one rfl _ _ (.func _ _ _) rfl rfl rfl hL ?_) | (with_reducible first | refine wpH_max rfl _ _ _ _ rfl _ _ rfl rfl ?_ | refine wpH_min rfl _ _ _ _ rfl _ _ rfl rfl ?_) | ((with_reducible refine wpA_load rfl _ _ rfl _ rfl ?_); first | refine loadA hL ?_ | refine loadR hL ?_ | refine loadC hL ?_ | refine loadD ?_ | refine loadE hL ?_ | refine loadF ?_) | ((with_reducible refine wpA_index rfl _ _ _ rfl _ rfl _ rfl ?_); first | (refine indexA ?_; try rw [Int.toNat_natCast]) | refine indexC ?_) | ((with_reducible refine wpA_store rfl _ _ _ rfl _ rfl (.agg _) rfl ?_); refine storeR hL ?_; clear hL; intro _ hL) | ((with_reducible first | refine wpA_store rfl _ _ _ rfl _ rfl (.int _ _) rfl ?_ | refine wpA_store rfl _ _ _ rfl _ rfl (.slice _ _ _) rfl ?_ | refine wpA_store rfl _ _ _ rfl _ rfl (.bool _) rfl ?_ | refine wpA_store rfl _ _ _ rfl _ rfl (.pointer _) rfl ?_ | refine wpA_store rfl _ _ _ rfl _ rfl (.func _ _ _) rfl ?_); (first | refine storeA hL ?_ | refine storeO hL ?_); (clear hL; intro _ hL)) | ((with_reducible refine wpA_lit rfl _ _ _ rfl ?_); first | refine litA1 hL ?_ | refine litA2 hL ?_ | refine litA3 hL ?_ | refine litA4 hL ?_ | refine litA6 hL ?_) | ((with_reducible refine wpA_append rfl _ _ _ rfl (.slice _ _ _) rfl ?_); intro vq hvq; simp [go_sem] at hvq; subst hvq; refine appendA hL ?_; clear hL; intro _ _ _ hL; try dsimp only at hL) | ((with_reducible refine wpA_make rfl _ _ _ rfl _ rfl rfl ?_); refine makeA hL ?_))
  all_goals
    have he := HE.out
    first
    | rw [if_pos (by omega)] at he
    | rw [if_neg (by omega), if_pos (by omega)] at he
    | rw [if_neg (by omega), if_neg (by omega)] at he
    subst he
    exact bodyPost_ret (results_row inferInstance rfl _ hL b1 rfl _ _ (.there .here) rfl) rfl ⟨rfl, hL.below⟩

/-- a struct is stored into a block -/
theorem storeP {P : Program} {w0 w : World} {M M' : List Res} {Φ : List (World → Prop)} {KW : World → Prop} {T : TypeId} {b off n : Nat} {vs : Array Value} [hT : RowT P T n] (hL : Holds w0 w M Φ) {cs : Array Value} {T' : TypeId} {cs' : Array Value} (h : ∀ w', Holds w0 w' M' Φ → KW w')
    (hv1 : vs.all (·.oneCell') = true := by (first | rfl | (simp [Value.oneCell']; done)))
    (hu : Upd M (blk b cs T') (blk b cs' T') M' := by (repeat (first | with_reducible exact Upd.here | with_reducible apply Upd.there)))
    (hcs : (cs.toList.take off ++ vs.toList ++ cs.toList.drop (off + n)).toArray = cs' := by (simp only [List.take_succ_cons, List.take_zero, List.drop_succ_cons, List.drop_zero, List.cons_append, List.nil_append, List.append_nil, Nat.reduceAdd, Nat.reduceMul]; rfl)) (hoff : off + n ≤ cs.size := by (simp only [List.size_toArray, List.length_cons, List.length_nil]; omega)) (hn : n = vs.size := by rfl) : StoreAt P T ⟨b, off, none⟩ (.agg vs) w KW := storeAt_part hT hv1 hL cs T' cs' hu hoff hn hcs h

def bA (e : Edg) : Int := e.y0 - 2 * e.cy + e.y1
def bB (e : Edg) : Int := e.cy - e.y0
def bC (e : Edg) (y : Int) : Int := e.y0 - y
def bAX (e : Edg) : Int := e.x0 - 2 * e.cx + e.x1
def bBX (e : Edg) : Int := e.cx - e.x0
def sideI (a : Int) : Int := if a < 0 then -1 else 1
def oneP (x0 a b d ax bx : Int) : Int := x0 * a * a - 2 * a * b * bx + ax * (b * b + d)
def oneQ (s a b ax bx : Int) : Int := s * (2 * a * bx - 2 * b * ax)
/-- the crossing by the root of a sign -/
def oneS (s x0 a b d ax bx : Int) : Spt :=
  if (0 < s ∧ (sideI a * sgR (-b) s d < 0 ∨ 0 ≤ sideI a * sgR (-b - a) s d)) ∨ (s < 0 ∧ (sideI a * sgR (-b) s d ≤ 0 ∨ 0 < sideI a * sgR (-b - a) s d)) then noSpt else ⟨s, oneP x0 a b d ax bx, oneQ s a b ax bx, d, a * a⟩
def bent1 (x0 a b c ax bx : Int) : Spt := if a = 0 then evenS b c ax bx x0 else if b * b - a * c < 0 ∨ (b * b - a * c = 0 ∧ a < 0) then noSpt else oneS 1 x0 a b (b * b - a * c) ax bx
def bent2 (x0 a b c ax bx : Int) : Spt := if a = 0 then noSpt else if b * b - a * c < 0 ∨ (b * b - a * c = 0 ∧ a < 0) then noSpt else oneS (-1) x0 a b (b * b - a * c) ax bx
def spt1 (e : Edg) (y : Int) : Spt := if e.bent then bent1 e.x0 (bA e) (bB e) (bC e y) (bAX e) (bBX e) else ⟨spT e y, spP e y, 0, 0, spM e y⟩
def spt2 (e : Edg) (y : Int) : Spt := if e.bent then bent2 e.x0 (bA e) (bB e) (bC e y) (bAX e) (bBX e) else noSpt
/-- six coordinates -/
structure Small6 (e : Edg) (y : Int) : Prop where
  a0 : -8191 ≤ e.x0
  a1 : e.x0 ≤ 8191
  b0 : -8191 ≤ e.y0
  b1 : e.y0 ≤ 8191
  c0 : -8191 ≤ e.cx
  c1 : e.cx ≤ 8191
  d0 : -8191 ≤ e.cy
  d1 : e.cy ≤ 8191
  e0 : -8191 ≤ e.x1
  e1 : e.x1 ≤ 8191
  f0 : -8191 ≤ e.y1
  f1 : e.y1 ≤ 8191
  g0 : -8191 ≤ y
  g1 : y ≤ 8191
theorem small6_of {e : Edg} {y : Int} (h : mayE e = true) (hy : near1 y = true) : Small6 e y := by
  simp [mayE, near1] at h hy
  exact ⟨by omega, by omega, by omega, by omega, by omega, by omega, by omega, by omega, by omega, by omega, by omega, by omega, by omega, by omega⟩
end Go.Proofs.Ytneddfiohekhiaa
