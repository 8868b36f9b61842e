/- The document's: where an edge crosses a line. -/
import Derived.Test.YtneddfiohekhiaaTrnM
-- lit6
namespace Go.Proofs.Ytneddfiohekhiaa
open Go.RowKit

def sptC (s : Spt) : List Value := [.int .i64 s.turn, .int .i64 s.p, .int .i64 s.q, .int .i64 s.d, .int .i64 s.m]
/-- a crossing, if it is one -/
def hitL (s : Spt) : List Spt := if s.turn = 0 then [] else [s]
def HitsOut (l : List Spt) (w : World) : Ending → World → Prop := SliceOut 5 (l.map sptC) w
theorem row_one {w : World} {b : Nat} {T : TypeId} {cs : Array Value} {c : List Value} (h : w.heap[b]? = some (.cells cs T (0, 0))) (hc : cs.toList = c) : SliceAt w 5 (.slice (some ⟨b, 0, none⟩) 1 1) [c] := by
  refine ⟨some ⟨b, 0, none⟩, 1, rfl, by simp, by unfold maxLen; omega, fun i hi => ⟨b, 0, rfl, fun j v hj => ?_⟩⟩
  simp only [List.length_cons, List.length_nil] at hi
  obtain rfl : i = 0 := by omega
  rw [Nat.zero_mul, Nat.add_zero, Nat.zero_add, cell_of_row w b j cs T (0, 0) h, ← Array.getElem?_toList, hc]
  exact hj
theorem hits_none {w0 w : World} {M : List Res} (hL : Holds w0 w M []) : HitsOut [] w0 (.returned (.slice none 0 0)) w :=
  ⟨_, rfl, hL.below, (hL.triv (χ := fun w => SliceAt w 5 (.slice none 0 0) []) fun w => ⟨none, 0, rfl, Nat.le_refl _, by unfold maxLen; omega, fun i hi => by simp at hi⟩).fresh⟩
theorem hits_one {w0 w : World} {M : List Res} {b : Nat} {T : TypeId} {cs : Array Value} {s : Spt} (hL : Holds w0 w (blk b cs T :: M) []) (hc : cs.toList = sptC s) : HitsOut [s] w0 (.returned (.slice (some ⟨b, 0, none⟩) 1 1)) w :=
  ⟨_, rfl, hL.below, (hL.settle .here (φ := fun w => SliceAt w 5 (.slice (some ⟨b, 0, none⟩) 1 1) ([s].map sptC)) fun w h => row_one h hc).fresh⟩

set_option maxRecDepth 100000 in
set_option maxHeartbeats 1000000 in
theorem rStraight_calls (e : Edg) (y : Int) (hs : Small e y) (w : World) : Calls Try.prog 81 #[edgeV e, .int .i64 y] w (HitsOut (hitL ⟨spT e y, spP e y, 0, 0, spM e y⟩) w) := by
  obtain ⟨x0, y0, bt, cx, cy, x1, y1⟩ := e
  obtain ⟨a0, a1, b0, b1, c0, c1, d0, d1, f0, f1⟩ := hs
  unfold edgeV spT spP spM
  dsimp only at *
  have hL := Holds.start w
  obtain ⟨p1, p2⟩ := mul_bd (a := x0) (b := y1 - y0) (A := 8191) (B := 16382) (by omega) (by omega) (by omega) (by omega)
  obtain ⟨p3, p4⟩ := mul_bd (a := x1 - x0) (b := y - y0) (A := 16382) (B := 16382) (by omega) (by omega) (by omega) (by omega)
  rcases (by omega : y1 - y0 = 0 ∨ (y1 - y0 ≠ 0 ∧ y < min y0 y1) ∨ (y1 - y0 ≠ 0 ∧ ¬ y < min y0 y1 ∧ max y0 y1 ≤ y) ∨ (y1 - y0 ≠ 0 ∧ ¬ y < min y0 y1 ∧ ¬ max y0 y1 ≤ y)) with h0 | ⟨h0, h⟩ | ⟨h0, h, h2⟩ | ⟨h0, h, h2⟩
  · have hy : y < min y0 y1 ∨ max y0 y1 ≤ y := by omega
    rw [if_pos hy, if_pos hy, if_pos hy]
    have d1 : (y1 - y0 == 0) = true := by simp [h0]
    have H0 := Lib.hid h0; clear h0 hy
    have n1 : True := trivial; have n2 : True := trivial
    go_enter Try.func81, Try.ntmps81
    go_wp2_with (first | (first | (clear hL n1; with_reducible intro b1 w1 hL) | (clear hL n2; with_reducible intro b2 w2 hL) | (clear hL; with_reducible intro _ _ hL)) | (with_reducible refine wpC_alloc rfl _ rfl _ _ inferInstance hL ?_) | (with_reducible first | refine wpB_agg rfl _ _ _ rfl rfl hL ?_ | refine wpB_one rfl _ _ (.int _ _) rfl rfl rfl hL ?_ | refine wpB_one rfl _ _ (.slice _ _ _) rfl rfl rfl hL ?_ | refine wpB_one rfl _ _ (.bool _) rfl rfl rfl hL ?_ | refine wpB_one rfl _ _ (.pointer _) rfl rfl rfl hL ?_ | refine wpB_one rfl _ _ (.func _ _ _) rfl rfl rfl hL ?_) | (with_reducible first | refine wpH_max rfl _ _ _ _ rfl _ _ rfl rfl ?_ | refine wpH_min rfl _ _ _ _ rfl _ _ rfl rfl ?_) | ((with_reducible refine wpA_load rfl _ _ rfl _ rfl ?_); first | refine loadA hL ?_ | refine loadR hL ?_ | refine loadC hL ?_ | refine loadD ?_ | refine loadE hL ?_ | refine loadF ?_) | ((with_reducible refine wpA_index rfl _ _ _ rfl _ rfl _ rfl ?_); first | (refine indexA ?_; try rw [Int.toNat_natCast]) | refine indexC ?_) | ((with_reducible refine wpA_store rfl _ _ _ rfl _ rfl (.agg _) rfl ?_); refine storeR hL ?_; clear hL; intro _ hL) | ((with_reducible first | refine wpA_store rfl _ _ _ rfl _ rfl (.int _ _) rfl ?_ | refine wpA_store rfl _ _ _ rfl _ rfl (.slice _ _ _) rfl ?_ | refine wpA_store rfl _ _ _ rfl _ rfl (.bool _) rfl ?_ | refine wpA_store rfl _ _ _ rfl _ rfl (.pointer _) rfl ?_ | refine wpA_store rfl _ _ _ rfl _ rfl (.func _ _ _) rfl ?_); (first | refine storeA hL ?_ | refine storeO hL ?_); (clear hL; intro _ hL)) | ((with_reducible refine wpA_lit rfl _ _ _ rfl ?_); first | refine litA1 hL ?_ | refine litA2 hL ?_ | refine litA3 hL ?_ | refine litA4 hL ?_ | refine litA6 hL ?_) | ((with_reducible refine wpA_append rfl _ _ _ rfl (.slice _ _ _) rfl ?_); intro vq hvq; simp [go_sem] at hvq; subst hvq; refine appendA hL ?_; clear hL; intro _ _ _ hL; try dsimp only at hL) | ((with_reducible refine wpA_make rfl _ _ _ rfl _ rfl rfl ?_); refine makeA hL ?_))
    go_ret
    exact hits_none hL
  · rw [if_pos (.inl h), if_pos (.inl h), if_pos (.inl h)]
    have d1 : (y1 - y0 == 0) = false := by simp [h0]
    have n1 : True := trivial; have n2 : True := trivial
    go_enter Try.func81, Try.ntmps81
    go_wp2_with (first | (first | (clear hL n1; with_reducible intro b1 w1 hL) | (clear hL n2; with_reducible intro b2 w2 hL) | (clear hL; with_reducible intro _ _ hL)) | (with_reducible refine wpC_alloc rfl _ rfl _ _ inferInstance hL ?_) | (with_reducible first | refine wpB_agg rfl _ _ _ rfl rfl hL ?_ | refine wpB_one rfl _ _ (.int _ _) rfl rfl rfl hL ?_ | refine wpB_one rfl _ _ (.slice _ _ _) rfl rfl rfl hL ?_ | refine wpB_one rfl _ _ (.bool _) rfl rfl rfl hL ?_ | refine wpB_one rfl _ _ (.pointer _) rfl rfl rfl hL ?_ | refine wpB_one rfl _ _ (.func _ _ _) rfl rfl rfl hL ?_) | (with_reducible first | refine wpH_max rfl _ _ _ _ rfl _ _ rfl rfl ?_ | refine wpH_min rfl _ _ _ _ rfl _ _ rfl rfl ?_) | ((with_reducible refine wpA_load rfl _ _ rfl _ rfl ?_); first | refine loadA hL ?_ | refine loadR hL ?_ | refine loadC hL ?_ | refine loadD ?_ | refine loadE hL ?_ | refine loadF ?_) | ((with_reducible refine wpA_index rfl _ _ _ rfl _ rfl _ rfl ?_); first | (refine indexA ?_; try rw [Int.toNat_natCast]) | refine indexC ?_) | ((with_reducible refine wpA_store rfl _ _ _ rfl _ rfl (.agg _) rfl ?_); refine storeR hL ?_; clear hL; intro _ hL) | ((with_reducible first | refine wpA_store rfl _ _ _ rfl _ rfl (.int _ _) rfl ?_ | refine wpA_store rfl _ _ _ rfl _ rfl (.slice _ _ _) rfl ?_ | refine wpA_store rfl _ _ _ rfl _ rfl (.bool _) rfl ?_ | refine wpA_store rfl _ _ _ rfl _ rfl (.pointer _) rfl ?_ | refine wpA_store rfl _ _ _ rfl _ rfl (.func _ _ _) rfl ?_); (first | refine storeA hL ?_ | refine storeO hL ?_); (clear hL; intro _ hL)) | ((with_reducible refine wpA_lit rfl _ _ _ rfl ?_); first | refine litA1 hL ?_ | refine litA2 hL ?_ | refine litA3 hL ?_ | refine litA4 hL ?_ | refine litA6 hL ?_) | ((with_reducible refine wpA_append rfl _ _ _ rfl (.slice _ _ _) rfl ?_); intro vq hvq; simp [go_sem] at hvq; subst hvq; refine appendA hL ?_; clear hL; intro _ _ _ hL; try dsimp only at hL) | ((with_reducible refine wpA_make rfl _ _ _ rfl _ rfl rfl ?_); refine makeA hL ?_))
    go_ret
    exact hits_none hL
  · rw [if_pos (.inr h2), if_pos (.inr h2), if_pos (.inr h2)]
    have d1 : (y1 - y0 == 0) = false := by simp [h0]
    have n1 : True := trivial; have n2 : True := trivial
    go_enter Try.func81, Try.ntmps81
    go_wp2_with (first | (first | (clear hL n1; with_reducible intro b1 w1 hL) | (clear hL n2; with_reducible intro b2 w2 hL) | (clear hL; with_reducible intro _ _ hL)) | (with_reducible refine wpC_alloc rfl _ rfl _ _ inferInstance hL ?_) | (with_reducible first | refine wpB_agg rfl _ _ _ rfl rfl hL ?_ | refine wpB_one rfl _ _ (.int _ _) rfl rfl rfl hL ?_ | refine wpB_one rfl _ _ (.slice _ _ _) rfl rfl rfl hL ?_ | refine wpB_one rfl _ _ (.bool _) rfl rfl rfl hL ?_ | refine wpB_one rfl _ _ (.pointer _) rfl rfl rfl hL ?_ | refine wpB_one rfl _ _ (.func _ _ _) rfl rfl rfl hL ?_) | (with_reducible first | refine wpH_max rfl _ _ _ _ rfl _ _ rfl rfl ?_ | refine wpH_min rfl _ _ _ _ rfl _ _ rfl rfl ?_) | ((with_reducible refine wpA_load rfl _ _ rfl _ rfl ?_); first | refine loadA hL ?_ | refine loadR hL ?_ | refine loadC hL ?_ | refine loadD ?_ | refine loadE hL ?_ | refine loadF ?_) | ((with_reducible refine wpA_index rfl _ _ _ rfl _ rfl _ rfl ?_); first | (refine indexA ?_; try rw [Int.toNat_natCast]) | refine indexC ?_) | ((with_reducible refine wpA_store rfl _ _ _ rfl _ rfl (.agg _) rfl ?_); refine storeR hL ?_; clear hL; intro _ hL) | ((with_reducible first | refine wpA_store rfl _ _ _ rfl _ rfl (.int _ _) rfl ?_ | refine wpA_store rfl _ _ _ rfl _ rfl (.slice _ _ _) rfl ?_ | refine wpA_store rfl _ _ _ rfl _ rfl (.bool _) rfl ?_ | refine wpA_store rfl _ _ _ rfl _ rfl (.pointer _) rfl ?_ | refine wpA_store rfl _ _ _ rfl _ rfl (.func _ _ _) rfl ?_); (first | refine storeA hL ?_ | refine storeO hL ?_); (clear hL; intro _ hL)) | ((with_reducible refine wpA_lit rfl _ _ _ rfl ?_); first | refine litA1 hL ?_ | refine litA2 hL ?_ | refine litA3 hL ?_ | refine litA4 hL ?_ | refine litA6 hL ?_) | ((with_reducible refine wpA_append rfl _ _ _ rfl (.slice _ _ _) rfl ?_); intro vq hvq; simp [go_sem] at hvq; subst hvq; refine appendA hL ?_; clear hL; intro _ _ _ hL; try dsimp only at hL) | ((with_reducible refine wpA_make rfl _ _ _ rfl _ rfl rfl ?_); refine makeA hL ?_))
    go_ret
    exact hits_none hL
  · have hno : ¬ (y < min y0 y1 ∨ max y0 y1 ≤ y) := by omega
    have d1 : (y1 - y0 == 0) = false := by simp [h0]
    simp only [if_neg hno]
    clear hno
    rcases (by omega : y1 - y0 < 0 ∨ ¬ y1 - y0 < 0) with h3 | h3
    · have h4 : ¬ 0 < y1 - y0 := by omega
      simp only [if_pos h3]
      have n1 : True := trivial; have n2 : True := trivial; have n3 : True := trivial
      go_enter Try.func81, Try.ntmps81
      go_wp2_with (first | (first | (clear hL n1; with_reducible intro b1 w1 hL) | (clear hL n2; with_reducible intro b2 w2 hL) | (clear hL n3; with_reducible intro b3 w3 hL) | (clear hL; with_reducible intro _ _ hL)) | (with_reducible refine wpC_alloc rfl _ rfl _ _ inferInstance hL ?_) | (with_reducible first | refine wpB_agg rfl _ _ _ rfl rfl hL ?_ | refine wpB_one rfl _ _ (.int _ _) rfl rfl rfl hL ?_ | refine wpB_one rfl _ _ (.slice _ _ _) rfl rfl rfl hL ?_ | refine wpB_one rfl _ _ (.bool _) rfl rfl rfl hL ?_ | refine wpB_one rfl _ _ (.pointer _) rfl rfl rfl hL ?_ | refine wpB_one rfl _ _ (.func _ _ _) rfl rfl rfl hL ?_) | (with_reducible first | refine wpH_max rfl _ _ _ _ rfl _ _ rfl rfl ?_ | refine wpH_min rfl _ _ _ _ rfl _ _ rfl rfl ?_) | ((with_reducible refine wpA_load rfl _ _ rfl _ rfl ?_); first | refine loadA hL ?_ | refine loadR hL ?_ | refine loadC hL ?_ | refine loadD ?_ | refine loadE hL ?_ | refine loadF ?_) | ((with_reducible refine wpA_index rfl _ _ _ rfl _ rfl _ rfl ?_); first | (refine indexA ?_; try rw [Int.toNat_natCast]) | refine indexC ?_) | ((with_reducible refine wpA_store rfl _ _ _ rfl _ rfl (.agg _) rfl ?_); refine storeR hL ?_; clear hL; intro _ hL) | ((with_reducible first | refine wpA_store rfl _ _ _ rfl _ rfl (.int _ _) rfl ?_ | refine wpA_store rfl _ _ _ rfl _ rfl (.slice _ _ _) rfl ?_ | refine wpA_store rfl _ _ _ rfl _ rfl (.bool _) rfl ?_ | refine wpA_store rfl _ _ _ rfl _ rfl (.pointer _) rfl ?_ | refine wpA_store rfl _ _ _ rfl _ rfl (.func _ _ _) rfl ?_); (first | refine storeA hL ?_ | refine storeO hL ?_); (clear hL; intro _ hL)) | ((with_reducible refine wpA_lit rfl _ _ _ rfl ?_); first | refine litA1 hL ?_ | refine litA2 hL ?_ | refine litA3 hL ?_ | refine litA4 hL ?_ | refine litA6 hL ?_) | ((with_reducible refine wpA_append rfl _ _ _ rfl (.slice _ _ _) rfl ?_); intro vq hvq; simp [go_sem] at hvq; subst hvq; refine appendA hL ?_; clear hL; intro _ _ _ hL; try dsimp only at hL) | ((with_reducible refine wpA_make rfl _ _ _ rfl _ rfl rfl ?_); refine makeA hL ?_))
      go_ret
      exact hits_one hL rfl
    · have h4 : 0 < y1 - y0 := by omega
      simp only [if_neg h3]
      have n1 : True := trivial; have n2 : True := trivial; have n3 : True := trivial
      go_enter Try.func81, Try.ntmps81
      go_wp2_with (first | (first | (clear hL n1; with_reducible intro b1 w1 hL) | (clear hL n2; with_reducible intro b2 w2 hL) | (clear hL n3; with_reducible intro b3 w3 hL) | (clear hL; with_reducible intro _ _ hL)) | (with_reducible refine wpC_alloc rfl _ rfl _ _ inferInstance hL ?_) | (with_reducible first | refine wpB_agg rfl _ _ _ rfl rfl hL ?_ | refine wpB_one rfl _ _ (.int _ _) rfl rfl rfl hL ?_ | refine wpB_one rfl _ _ (.slice _ _ _) rfl rfl rfl hL ?_ | refine wpB_one rfl _ _ (.bool _) rfl rfl rfl hL ?_ | refine wpB_one rfl _ _ (.pointer _) rfl rfl rfl hL ?_ | refine wpB_one rfl _ _ (.func _ _ _) rfl rfl rfl hL ?_) | (with_reducible first | refine wpH_max rfl _ _ _ _ rfl _ _ rfl rfl ?_ | refine wpH_min rfl _ _ _ _ rfl _ _ rfl rfl ?_) | ((with_reducible refine wpA_load rfl _ _ rfl _ rfl ?_); first | refine loadA hL ?_ | refine loadR hL ?_ | refine loadC hL ?_ | refine loadD ?_ | refine loadE hL ?_ | refine loadF ?_) | ((with_reducible refine wpA_index rfl _ _ _ rfl _ rfl _ rfl ?_); first | (refine indexA ?_; try rw [Int.toNat_natCast]) | refine indexC ?_) | ((with_reducible refine wpA_store rfl _ _ _ rfl _ rfl (.agg _) rfl ?_); refine storeR hL ?_; clear hL; intro _ hL) | ((with_reducible first | refine wpA_store rfl _ _ _ rfl _ rfl (.int _ _) rfl ?_ | refine wpA_store rfl _ _ _ rfl _ rfl (.slice _ _ _) rfl ?_ | refine wpA_store rfl _ _ _ rfl _ rfl (.bool _) rfl ?_ | refine wpA_store rfl _ _ _ rfl _ rfl (.pointer _) rfl ?_ | refine wpA_store rfl _ _ _ rfl _ rfl (.func _ _ _) rfl ?_); (first | refine storeA hL ?_ | refine storeO hL ?_); (clear hL; intro _ hL)) | ((with_reducible refine wpA_lit rfl _ _ _ rfl ?_); first | refine litA1 hL ?_ | refine litA2 hL ?_ | refine litA3 hL ?_ | refine litA4 hL ?_ | refine litA6 hL ?_) | ((with_reducible refine wpA_append rfl _ _ _ rfl (.slice _ _ _) rfl ?_); intro vq hvq; simp [go_sem] at hvq; subst hvq; refine appendA hL ?_; clear hL; intro _ _ _ hL; try dsimp only at hL) | ((with_reducible refine wpA_make rfl _ _ _ rfl _ rfl rfl ?_); refine makeA hL ?_))
      go_ret
      exact hits_one hL rfl

theorem even_ring1 (b c ax bx x0 : Int) : x0 * (2 * b) * (2 * b) + 2 * bx * -c * (2 * b) + ax * -c * -c = evP b c ax bx x0 := by unfold evP; grind
theorem even_ring2 (b c ax bx x0 : Int) : x0 * (-2 * b) * (-2 * b) + 2 * bx * c * (-2 * b) + ax * c * c = evP b c ax bx x0 := by unfold evP; grind
theorem even_sq1 (b : Int) : 2 * b * (2 * b) = 4 * b * b := by grind
theorem even_sq2 (b : Int) : -2 * b * (-2 * b) = 4 * b * b := by grind
set_option maxRecDepth 100000 in
set_option maxHeartbeats 4000000 in
theorem rEven_calls (e : Edg) (b c y : Int) (hs : Small6 e y) (hb0 : -16382 ≤ b) (hb1 : b ≤ 16382) (hc0 : -16382 ≤ c) (hc1 : c ≤ 16382) (w : World) : Calls Try.prog 82 #[edgeV e, .int .i64 b, .int .i64 c] w (HitsOut (hitL (evenS b c (bAX e) (bBX e) e.x0)) w) := by
  obtain ⟨x0, y0, bt, cx, cy, x1, y1⟩ := e
  obtain ⟨a0, a1, b0, b1, c0, c1, d0, d1, e0, e1, f0, f1, g0, g1⟩ := hs
  dsimp only [bAX, bBX] at *
  unfold edgeV
  dsimp only
  have hL := Holds.start w
  by_cases hbad : (0 < b ∧ c ≤ 0 ∧ -c < 2 * b) ∨ (b < 0 ∧ 0 < c ∧ c ≤ -2 * b)
  · rcases hbad with ⟨h1, h2, h3⟩ | ⟨h1, h2, h3⟩
    · have HE := Lib.hid (show evenS b c (x0 - 2 * cx + x1) (cx - x0) x0 = ⟨1, evP b c (x0 - 2 * cx + x1) (cx - x0) x0, 0, 0, 4 * b * b⟩ from if_pos ⟨h1, h2, h3⟩)
      generalize evenS b c (x0 - 2 * cx + x1) (cx - x0) x0 = t at *
      have d2 : (-c == 2 * b) = false := by simp; omega
      have n1 : True := trivial; have n2 : True := trivial
      go_enter Try.func82, Try.ntmps82
      go_wp2_with (first | (first | (clear hL n1; with_reducible intro b1 w1 hL) | (clear hL n2; with_reducible intro b2 w2 hL) | (clear hL; with_reducible intro _ _ hL)) | (with_reducible refine wpC_alloc rfl _ rfl _ _ inferInstance hL ?_) | (with_reducible first | refine wpB_agg rfl _ _ _ rfl rfl hL ?_ | refine wpB_one rfl _ _ (.int _ _) rfl rfl rfl hL ?_ | refine wpB_one rfl _ _ (.slice _ _ _) rfl rfl rfl hL ?_ | refine wpB_one rfl _ _ (.bool _) rfl rfl rfl hL ?_ | refine wpB_one rfl _ _ (.pointer _) rfl rfl rfl hL ?_ | refine wpB_one rfl _ _ (.func _ _ _) rfl rfl rfl hL ?_) | (with_reducible first | refine wpH_max rfl _ _ _ _ rfl _ _ rfl rfl ?_ | refine wpH_min rfl _ _ _ _ rfl _ _ rfl rfl ?_) | ((with_reducible refine wpA_load rfl _ _ rfl _ rfl ?_); first | refine loadA hL ?_ | refine loadR hL ?_ | refine loadC hL ?_ | refine loadD ?_ | refine loadE hL ?_ | refine loadF ?_) | ((with_reducible refine wpA_index rfl _ _ _ rfl _ rfl _ rfl ?_); first | (refine indexA ?_; try rw [Int.toNat_natCast]) | refine indexC ?_) | ((with_reducible refine wpA_store rfl _ _ _ rfl _ rfl (.agg _) rfl ?_); refine storeR hL ?_; clear hL; intro _ hL) | ((with_reducible first | refine wpA_store rfl _ _ _ rfl _ rfl (.int _ _) rfl ?_ | refine wpA_store rfl _ _ _ rfl _ rfl (.slice _ _ _) rfl ?_ | refine wpA_store rfl _ _ _ rfl _ rfl (.bool _) rfl ?_ | refine wpA_store rfl _ _ _ rfl _ rfl (.pointer _) rfl ?_ | refine wpA_store rfl _ _ _ rfl _ rfl (.func _ _ _) rfl ?_); (first | refine storeA hL ?_ | refine storeO hL ?_); (clear hL; intro _ hL)) | ((with_reducible refine wpA_lit rfl _ _ _ rfl ?_); first | refine litA1 hL ?_ | refine litA2 hL ?_ | refine litA3 hL ?_ | refine litA4 hL ?_ | refine litA6 hL ?_) | ((with_reducible refine wpA_append rfl _ _ _ rfl (.slice _ _ _) rfl ?_); intro vq hvq; simp [go_sem] at hvq; subst hvq; refine appendA hL ?_; clear hL; intro _ _ _ hL; try dsimp only at hL) | ((with_reducible refine wpA_make rfl _ _ _ rfl _ rfl rfl ?_); refine makeA hL ?_))
      have r0 : w1.cell? ⟨b1, 0, none⟩ = some (.int .i64 x0) := (hL.cell .here).trans rfl
      have r3 : w1.cell? ⟨b1, 3, none⟩ = some (.int .i64 cx) := (hL.cell .here).trans rfl
      have r5 : w1.cell? ⟨b1, 5, none⟩ = some (.int .i64 x1) := (hL.cell .here).trans rfl
      have q6 : IntKind.i64.wrap (2 * cx) = 2 * cx := by rw [IntKind.wrap_i64]; omega
      have q7 : IntKind.i64.wrap (x0 - 2 * cx) = x0 - 2 * cx := by rw [IntKind.wrap_i64]; omega
      have q8 : IntKind.i64.wrap (x0 - 2 * cx + x1) = x0 - 2 * cx + x1 := by rw [IntKind.wrap_i64]; omega
      have q9 : IntKind.i64.wrap (cx - x0) = cx - x0 := by rw [IntKind.wrap_i64]; omega
      have hK := (Holds.start w1).drew
      refine wpH_begin (by kernel_rfl) (fun w' => Below w1.heap.size w1 w') ?_
      refine stH (i := 0) (.pointer (some ⟨b1, 3, none⟩)) hK.below ?_ ?_; (· exact fun w' _ => (by go_simp)); simp only [Act.put, List.setIfInBounds_toArray, List.set_cons_zero, List.set_cons_succ]
      refine stH (i := 1) (.int .i64 cx) hK.below ?_ ?_; (· exact fun w' hw => run_loadOp _ _ rfl _ rfl _ (load_cell (cell_later hw r3))); simp only [Act.put, List.setIfInBounds_toArray, List.set_cons_zero, List.set_cons_succ]
      refine stH (i := 2) (.pointer (some ⟨b1, 0, none⟩)) hK.below ?_ ?_; (· exact fun w' _ => (by go_simp)); simp only [Act.put, List.setIfInBounds_toArray, List.set_cons_zero, List.set_cons_succ]
      refine stH (i := 3) (.int .i64 x0) hK.below ?_ ?_; (· exact fun w' hw => run_loadOp _ _ rfl _ rfl _ (load_cell (cell_later hw r0))); simp only [Act.put, List.setIfInBounds_toArray, List.set_cons_zero, List.set_cons_succ]
      refine stH (i := 4) (.int .i64 (cx - x0)) hK.below ?_ ?_; (· exact fun w' _ => (by go_simp)); simp only [Act.put, List.setIfInBounds_toArray, List.set_cons_zero, List.set_cons_succ]
      refine stH (i := 5) (.pointer (some ⟨b1, 0, none⟩)) hK.below ?_ ?_; (· exact fun w' _ => (by go_simp)); simp only [Act.put, List.setIfInBounds_toArray, List.set_cons_zero, List.set_cons_succ]
      refine stH (i := 6) (.int .i64 x0) hK.below ?_ ?_; (· exact fun w' hw => run_loadOp _ _ rfl _ rfl _ (load_cell (cell_later hw r0))); simp only [Act.put, List.setIfInBounds_toArray, List.set_cons_zero, List.set_cons_succ]
      refine stH (i := 7) (.pointer (some ⟨b1, 3, none⟩)) hK.below ?_ ?_; (· exact fun w' _ => (by go_simp)); simp only [Act.put, List.setIfInBounds_toArray, List.set_cons_zero, List.set_cons_succ]
      refine stH (i := 8) (.int .i64 cx) hK.below ?_ ?_; (· exact fun w' hw => run_loadOp _ _ rfl _ rfl _ (load_cell (cell_later hw r3))); simp only [Act.put, List.setIfInBounds_toArray, List.set_cons_zero, List.set_cons_succ]
      refine stH (i := 9) (.int .i64 (2 * cx)) hK.below ?_ ?_; (· exact fun w' _ => (by go_simp)); simp only [Act.put, List.setIfInBounds_toArray, List.set_cons_zero, List.set_cons_succ]
      refine stH (i := 10) (.int .i64 (x0 - 2 * cx)) hK.below ?_ ?_; (· exact fun w' _ => (by go_simp)); simp only [Act.put, List.setIfInBounds_toArray, List.set_cons_zero, List.set_cons_succ]
      refine stH (i := 11) (.pointer (some ⟨b1, 5, none⟩)) hK.below ?_ ?_; (· exact fun w' _ => (by go_simp)); simp only [Act.put, List.setIfInBounds_toArray, List.set_cons_zero, List.set_cons_succ]
      refine stH (i := 12) (.int .i64 x1) hK.below ?_ ?_; (· exact fun w' hw => run_loadOp _ _ rfl _ rfl _ (load_cell (cell_later hw r5))); simp only [Act.put, List.setIfInBounds_toArray, List.set_cons_zero, List.set_cons_succ]
      refine stH (i := 13) (.int .i64 (x0 - 2 * cx + x1)) hK.below ?_ ?_; (· exact fun w' _ => (by go_simp)); simp only [Act.put, List.setIfInBounds_toArray, List.set_cons_zero, List.set_cons_succ]
      refine stH (i := 14) (.int .i64 (cx - x0)) hK.below ?_ ?_; (· exact fun w' _ => (by go_simp)); simp only [Act.put, List.setIfInBounds_toArray, List.set_cons_zero, List.set_cons_succ]
      refine stH (i := 15) (.int .i64 (x0 - 2 * cx + x1)) hK.below ?_ ?_; (· exact fun w' _ => (by go_simp)); simp only [Act.put, List.setIfInBounds_toArray, List.set_cons_zero, List.set_cons_succ]
      refine wpAnyH_done (by kernel_rfl) ?_ _
      replace hL := hL.drew
      clear hK r0 r3 r5 q6 q7 q8 q9
      have hax : -32764 ≤ x0 - 2 * cx + x1 ∧ x0 - 2 * cx + x1 ≤ 32764 := by omega
      have hbx : -16382 ≤ cx - x0 ∧ cx - x0 ≤ 16382 := by omega
      generalize x0 - 2 * cx + x1 = ax at *
      generalize cx - x0 = bx at *
      obtain ⟨hax1, hax2⟩ := hax
      obtain ⟨hbx1, hbx2⟩ := hbx
      obtain ⟨k1, k2⟩ := mul_bd (a := x0) (b := 2 * b) (A := 8191) (B := 32764) (by omega) (by omega) (by omega) (by omega)
      obtain ⟨l1, l2⟩ := mul_bd (a := x0 * (2 * b)) (b := 2 * b) (A := 268369924) (B := 32764) (by omega) (by omega) (by omega) (by omega)
      obtain ⟨m1, m2⟩ := mul_bd (a := 2 * bx) (b := -c) (A := 32764) (B := 16382) (by omega) (by omega) (by omega) (by omega)
      obtain ⟨n1, n2⟩ := mul_bd (a := 2 * bx * -c) (b := 2 * b) (A := 536739848) (B := 32764) (by omega) (by omega) (by omega) (by omega)
      obtain ⟨o1, o2⟩ := mul_bd (a := ax) (b := -c) (A := 32764) (B := 16382) (by omega) (by omega) (by omega) (by omega)
      obtain ⟨p1, p2⟩ := mul_bd (a := ax * -c) (b := -c) (A := 536739848) (B := 16382) (by omega) (by omega) (by omega) (by omega)
      obtain ⟨q1, q2⟩ := mul_bd (a := 2 * b) (b := 2 * b) (A := 32764) (B := 32764) (by omega) (by omega) (by omega) (by omega)
      go_wp2_with (first | (first | (clear hL n1; with_reducible intro b1 w1 hL) | (clear hL n2; with_reducible intro b2 w2 hL) | (clear hL; with_reducible intro _ _ hL)) | (with_reducible refine wpC_alloc rfl _ rfl _ _ inferInstance hL ?_) | (with_reducible first | refine wpB_agg rfl _ _ _ rfl rfl hL ?_ | refine wpB_one rfl _ _ (.int _ _) rfl rfl rfl hL ?_ | refine wpB_one rfl _ _ (.slice _ _ _) rfl rfl rfl hL ?_ | refine wpB_one rfl _ _ (.bool _) rfl rfl rfl hL ?_ | refine wpB_one rfl _ _ (.pointer _) rfl rfl rfl hL ?_ | refine wpB_one rfl _ _ (.func _ _ _) rfl rfl rfl hL ?_) | (with_reducible first | refine wpH_max rfl _ _ _ _ rfl _ _ rfl rfl ?_ | refine wpH_min rfl _ _ _ _ rfl _ _ rfl rfl ?_) | ((with_reducible refine wpA_load rfl _ _ rfl _ rfl ?_); first | refine loadA hL ?_ | refine loadR hL ?_ | refine loadC hL ?_ | refine loadD ?_ | refine loadE hL ?_ | refine loadF ?_) | ((with_reducible refine wpA_index rfl _ _ _ rfl _ rfl _ rfl ?_); first | (refine indexA ?_; try rw [Int.toNat_natCast]) | refine indexC ?_) | ((with_reducible refine wpA_store rfl _ _ _ rfl _ rfl (.agg _) rfl ?_); refine storeR hL ?_; clear hL; intro _ hL) | ((with_reducible first | refine wpA_store rfl _ _ _ rfl _ rfl (.int _ _) rfl ?_ | refine wpA_store rfl _ _ _ rfl _ rfl (.slice _ _ _) rfl ?_ | refine wpA_store rfl _ _ _ rfl _ rfl (.bool _) rfl ?_ | refine wpA_store rfl _ _ _ rfl _ rfl (.pointer _) rfl ?_ | refine wpA_store rfl _ _ _ rfl _ rfl (.func _ _ _) rfl ?_); (first | refine storeA hL ?_ | refine storeO hL ?_); (clear hL; intro _ hL)) | ((with_reducible refine wpA_lit rfl _ _ _ rfl ?_); first | refine litA1 hL ?_ | refine litA2 hL ?_ | refine litA3 hL ?_ | refine litA4 hL ?_ | refine litA6 hL ?_) | ((with_reducible refine wpA_append rfl _ _ _ rfl (.slice _ _ _) rfl ?_); intro vq hvq; simp [go_sem] at hvq; subst hvq; refine appendA hL ?_; clear hL; intro _ _ _ hL; try dsimp only at hL) | ((with_reducible refine wpA_make rfl _ _ _ rfl _ rfl rfl ?_); refine makeA hL ?_))
      go_ret
      rw [HE.out]
      exact hits_one hL (by simp only [sptC]; rw [← even_ring1, ← even_sq1])
    · have HE := Lib.hid (show evenS b c (x0 - 2 * cx + x1) (cx - x0) x0 = ⟨-1, evP b c (x0 - 2 * cx + x1) (cx - x0) x0, 0, 0, 4 * b * b⟩ from by unfold evenS; rw [if_neg (by omega), if_pos ⟨h1, h2, h3⟩])
      generalize evenS b c (x0 - 2 * cx + x1) (cx - x0) x0 = t at *
      have d2 : (c == 0) = false := by simp; omega
      have n1 : True := trivial; have n2 : True := trivial
      go_enter Try.func82, Try.ntmps82
      go_wp2_with (first | (first | (clear hL n1; with_reducible intro b1 w1 hL) | (clear hL n2; with_reducible intro b2 w2 hL) | (clear hL; with_reducible intro _ _ hL)) | (with_reducible refine wpC_alloc rfl _ rfl _ _ inferInstance hL ?_) | (with_reducible first | refine wpB_agg rfl _ _ _ rfl rfl hL ?_ | refine wpB_one rfl _ _ (.int _ _) rfl rfl rfl hL ?_ | refine wpB_one rfl _ _ (.slice _ _ _) rfl rfl rfl hL ?_ | refine wpB_one rfl _ _ (.bool _) rfl rfl rfl hL ?_ | refine wpB_one rfl _ _ (.pointer _) rfl rfl rfl hL ?_ | refine wpB_one rfl _ _ (.func _ _ _) rfl rfl rfl hL ?_) | (with_reducible first | refine wpH_max rfl _ _ _ _ rfl _ _ rfl rfl ?_ | refine wpH_min rfl _ _ _ _ rfl _ _ rfl rfl ?_) | ((with_reducible refine wpA_load rfl _ _ rfl _ rfl ?_); first | refine loadA hL ?_ | refine loadR hL ?_ | refine loadC hL ?_ | refine loadD ?_ | refine loadE hL ?_ | refine loadF ?_) | ((with_reducible refine wpA_index rfl _ _ _ rfl _ rfl _ rfl ?_); first | (refine indexA ?_; try rw [Int.toNat_natCast]) | refine indexC ?_) | ((with_reducible refine wpA_store rfl _ _ _ rfl _ rfl (.agg _) rfl ?_); refine storeR hL ?_; clear hL; intro _ hL) | ((with_reducible first | refine wpA_store rfl _ _ _ rfl _ rfl (.int _ _) rfl ?_ | refine wpA_store rfl _ _ _ rfl _ rfl (.slice _ _ _) rfl ?_ | refine wpA_store rfl _ _ _ rfl _ rfl (.bool _) rfl ?_ | refine wpA_store rfl _ _ _ rfl _ rfl (.pointer _) rfl ?_ | refine wpA_store rfl _ _ _ rfl _ rfl (.func _ _ _) rfl ?_); (first | refine storeA hL ?_ | refine storeO hL ?_); (clear hL; intro _ hL)) | ((with_reducible refine wpA_lit rfl _ _ _ rfl ?_); first | refine litA1 hL ?_ | refine litA2 hL ?_ | refine litA3 hL ?_ | refine litA4 hL ?_ | refine litA6 hL ?_) | ((with_reducible refine wpA_append rfl _ _ _ rfl (.slice _ _ _) rfl ?_); intro vq hvq; simp [go_sem] at hvq; subst hvq; refine appendA hL ?_; clear hL; intro _ _ _ hL; try dsimp only at hL) | ((with_reducible refine wpA_make rfl _ _ _ rfl _ rfl rfl ?_); refine makeA hL ?_))
      have r0 : w1.cell? ⟨b1, 0, none⟩ = some (.int .i64 x0) := (hL.cell .here).trans rfl
      have r3 : w1.cell? ⟨b1, 3, none⟩ = some (.int .i64 cx) := (hL.cell .here).trans rfl
      have r5 : w1.cell? ⟨b1, 5, none⟩ = some (.int .i64 x1) := (hL.cell .here).trans rfl
      have q6 : IntKind.i64.wrap (2 * cx) = 2 * cx := by rw [IntKind.wrap_i64]; omega
      have q7 : IntKind.i64.wrap (x0 - 2 * cx) = x0 - 2 * cx := by rw [IntKind.wrap_i64]; omega
      have q8 : IntKind.i64.wrap (x0 - 2 * cx + x1) = x0 - 2 * cx + x1 := by rw [IntKind.wrap_i64]; omega
      have q9 : IntKind.i64.wrap (cx - x0) = cx - x0 := by rw [IntKind.wrap_i64]; omega
      have hK := (Holds.start w1).drew
      refine wpH_begin (by kernel_rfl) (fun w' => Below w1.heap.size w1 w') ?_
      refine stH (i := 0) (.pointer (some ⟨b1, 3, none⟩)) hK.below ?_ ?_; (· exact fun w' _ => (by go_simp)); simp only [Act.put, List.setIfInBounds_toArray, List.set_cons_zero, List.set_cons_succ]
      refine stH (i := 1) (.int .i64 cx) hK.below ?_ ?_; (· exact fun w' hw => run_loadOp _ _ rfl _ rfl _ (load_cell (cell_later hw r3))); simp only [Act.put, List.setIfInBounds_toArray, List.set_cons_zero, List.set_cons_succ]
      refine stH (i := 2) (.pointer (some ⟨b1, 0, none⟩)) hK.below ?_ ?_; (· exact fun w' _ => (by go_simp)); simp only [Act.put, List.setIfInBounds_toArray, List.set_cons_zero, List.set_cons_succ]
      refine stH (i := 3) (.int .i64 x0) hK.below ?_ ?_; (· exact fun w' hw => run_loadOp _ _ rfl _ rfl _ (load_cell (cell_later hw r0))); simp only [Act.put, List.setIfInBounds_toArray, List.set_cons_zero, List.set_cons_succ]
      refine stH (i := 4) (.int .i64 (cx - x0)) hK.below ?_ ?_; (· exact fun w' _ => (by go_simp)); simp only [Act.put, List.setIfInBounds_toArray, List.set_cons_zero, List.set_cons_succ]
      refine stH (i := 5) (.pointer (some ⟨b1, 0, none⟩)) hK.below ?_ ?_; (· exact fun w' _ => (by go_simp)); simp only [Act.put, List.setIfInBounds_toArray, List.set_cons_zero, List.set_cons_succ]
      refine stH (i := 6) (.int .i64 x0) hK.below ?_ ?_; (· exact fun w' hw => run_loadOp _ _ rfl _ rfl _ (load_cell (cell_later hw r0))); simp only [Act.put, List.setIfInBounds_toArray, List.set_cons_zero, List.set_cons_succ]
      refine stH (i := 7) (.pointer (some ⟨b1, 3, none⟩)) hK.below ?_ ?_; (· exact fun w' _ => (by go_simp)); simp only [Act.put, List.setIfInBounds_toArray, List.set_cons_zero, List.set_cons_succ]
      refine stH (i := 8) (.int .i64 cx) hK.below ?_ ?_; (· exact fun w' hw => run_loadOp _ _ rfl _ rfl _ (load_cell (cell_later hw r3))); simp only [Act.put, List.setIfInBounds_toArray, List.set_cons_zero, List.set_cons_succ]
      refine stH (i := 9) (.int .i64 (2 * cx)) hK.below ?_ ?_; (· exact fun w' _ => (by go_simp)); simp only [Act.put, List.setIfInBounds_toArray, List.set_cons_zero, List.set_cons_succ]
      refine stH (i := 10) (.int .i64 (x0 - 2 * cx)) hK.below ?_ ?_; (· exact fun w' _ => (by go_simp)); simp only [Act.put, List.setIfInBounds_toArray, List.set_cons_zero, List.set_cons_succ]
      refine stH (i := 11) (.pointer (some ⟨b1, 5, none⟩)) hK.below ?_ ?_; (· exact fun w' _ => (by go_simp)); simp only [Act.put, List.setIfInBounds_toArray, List.set_cons_zero, List.set_cons_succ]
      refine stH (i := 12) (.int .i64 x1) hK.below ?_ ?_; (· exact fun w' hw => run_loadOp _ _ rfl _ rfl _ (load_cell (cell_later hw r5))); simp only [Act.put, List.setIfInBounds_toArray, List.set_cons_zero, List.set_cons_succ]
      refine stH (i := 13) (.int .i64 (x0 - 2 * cx + x1)) hK.below ?_ ?_; (· exact fun w' _ => (by go_simp)); simp only [Act.put, List.setIfInBounds_toArray, List.set_cons_zero, List.set_cons_succ]
      refine stH (i := 14) (.int .i64 (cx - x0)) hK.below ?_ ?_; (· exact fun w' _ => (by go_simp)); simp only [Act.put, List.setIfInBounds_toArray, List.set_cons_zero, List.set_cons_succ]
      refine stH (i := 15) (.int .i64 (x0 - 2 * cx + x1)) hK.below ?_ ?_; (· exact fun w' _ => (by go_simp)); simp only [Act.put, List.setIfInBounds_toArray, List.set_cons_zero, List.set_cons_succ]
      refine wpAnyH_done (by kernel_rfl) ?_ _
      replace hL := hL.drew
      clear hK r0 r3 r5 q6 q7 q8 q9
      have hax : -32764 ≤ x0 - 2 * cx + x1 ∧ x0 - 2 * cx + x1 ≤ 32764 := by omega
      have hbx : -16382 ≤ cx - x0 ∧ cx - x0 ≤ 16382 := by omega
      generalize x0 - 2 * cx + x1 = ax at *
      generalize cx - x0 = bx at *
      obtain ⟨hax1, hax2⟩ := hax
      obtain ⟨hbx1, hbx2⟩ := hbx
      obtain ⟨k1, k2⟩ := mul_bd (a := x0) (b := -2 * b) (A := 8191) (B := 32764) (by omega) (by omega) (by omega) (by omega)
      obtain ⟨l1, l2⟩ := mul_bd (a := x0 * (-2 * b)) (b := -2 * b) (A := 268369924) (B := 32764) (by omega) (by omega) (by omega) (by omega)
      obtain ⟨m1, m2⟩ := mul_bd (a := 2 * bx) (b := c) (A := 32764) (B := 16382) (by omega) (by omega) (by omega) (by omega)
      obtain ⟨n1, n2⟩ := mul_bd (a := 2 * bx * c) (b := -2 * b) (A := 536739848) (B := 32764) (by omega) (by omega) (by omega) (by omega)
      obtain ⟨o1, o2⟩ := mul_bd (a := ax) (b := c) (A := 32764) (B := 16382) (by omega) (by omega) (by omega) (by omega)
      obtain ⟨p1, p2⟩ := mul_bd (a := ax * c) (b := c) (A := 536739848) (B := 16382) (by omega) (by omega) (by omega) (by omega)
      obtain ⟨q1, q2⟩ := mul_bd (a := -2 * b) (b := -2 * b) (A := 32764) (B := 32764) (by omega) (by omega) (by omega) (by omega)
      go_wp2_with (first | (first | (clear hL n1; with_reducible intro b1 w1 hL) | (clear hL n2; with_reducible intro b2 w2 hL) | (clear hL; with_reducible intro _ _ hL)) | (with_reducible refine wpC_alloc rfl _ rfl _ _ inferInstance hL ?_) | (with_reducible first | refine wpB_agg rfl _ _ _ rfl rfl hL ?_ | refine wpB_one rfl _ _ (.int _ _) rfl rfl rfl hL ?_ | refine wpB_one rfl _ _ (.slice _ _ _) rfl rfl rfl hL ?_ | refine wpB_one rfl _ _ (.bool _) rfl rfl rfl hL ?_ | refine wpB_one rfl _ _ (.pointer _) rfl rfl rfl hL ?_ | refine wpB_one rfl _ _ (.func _ _ _) rfl rfl rfl hL ?_) | (with_reducible first | refine wpH_max rfl _ _ _ _ rfl _ _ rfl rfl ?_ | refine wpH_min rfl _ _ _ _ rfl _ _ rfl rfl ?_) | ((with_reducible refine wpA_load rfl _ _ rfl _ rfl ?_); first | refine loadA hL ?_ | refine loadR hL ?_ | refine loadC hL ?_ | refine loadD ?_ | refine loadE hL ?_ | refine loadF ?_) | ((with_reducible refine wpA_index rfl _ _ _ rfl _ rfl _ rfl ?_); first | (refine indexA ?_; try rw [Int.toNat_natCast]) | refine indexC ?_) | ((with_reducible refine wpA_store rfl _ _ _ rfl _ rfl (.agg _) rfl ?_); refine storeR hL ?_; clear hL; intro _ hL) | ((with_reducible first | refine wpA_store rfl _ _ _ rfl _ rfl (.int _ _) rfl ?_ | refine wpA_store rfl _ _ _ rfl _ rfl (.slice _ _ _) rfl ?_ | refine wpA_store rfl _ _ _ rfl _ rfl (.bool _) rfl ?_ | refine wpA_store rfl _ _ _ rfl _ rfl (.pointer _) rfl ?_ | refine wpA_store rfl _ _ _ rfl _ rfl (.func _ _ _) rfl ?_); (first | refine storeA hL ?_ | refine storeO hL ?_); (clear hL; intro _ hL)) | ((with_reducible refine wpA_lit rfl _ _ _ rfl ?_); first | refine litA1 hL ?_ | refine litA2 hL ?_ | refine litA3 hL ?_ | refine litA4 hL ?_ | refine litA6 hL ?_) | ((with_reducible refine wpA_append rfl _ _ _ rfl (.slice _ _ _) rfl ?_); intro vq hvq; simp [go_sem] at hvq; subst hvq; refine appendA hL ?_; clear hL; intro _ _ _ hL; try dsimp only at hL) | ((with_reducible refine wpA_make rfl _ _ _ rfl _ rfl rfl ?_); refine makeA hL ?_))
      go_ret
      rw [HE.out]
      exact hits_one hL (by simp only [sptC]; rw [← even_ring2, ← even_sq2])
  · have HE := Lib.hid (show evenS b c (x0 - 2 * cx + x1) (cx - x0) x0 = noSpt from by unfold evenS; rw [if_neg (by omega), if_neg (by omega)])
    generalize evenS b c (x0 - 2 * cx + x1) (cx - x0) x0 = t at *
    have n1 : True := trivial; have n2 : True := trivial
    go_enter Try.func82, Try.ntmps82
    go_wp2_with (first | (first | (clear hL n1; with_reducible intro b1 w1 hL) | (clear hL n2; with_reducible intro b2 w2 hL) | (clear hL; with_reducible intro _ _ hL)) | (with_reducible refine wpC_alloc rfl _ rfl _ _ inferInstance hL ?_) | (with_reducible first | refine wpB_agg rfl _ _ _ rfl rfl hL ?_ | refine wpB_one rfl _ _ (.int _ _) rfl rfl rfl hL ?_ | refine wpB_one rfl _ _ (.slice _ _ _) rfl rfl rfl hL ?_ | refine wpB_one rfl _ _ (.bool _) rfl rfl rfl hL ?_ | refine wpB_one rfl _ _ (.pointer _) rfl rfl rfl hL ?_ | refine wpB_one rfl _ _ (.func _ _ _) rfl rfl rfl hL ?_) | (with_reducible first | refine wpH_max rfl _ _ _ _ rfl _ _ rfl rfl ?_ | refine wpH_min rfl _ _ _ _ rfl _ _ rfl rfl ?_) | ((with_reducible refine wpA_load rfl _ _ rfl _ rfl ?_); first | refine loadA hL ?_ | refine loadR hL ?_ | refine loadC hL ?_ | refine loadD ?_ | refine loadE hL ?_ | refine loadF ?_) | ((with_reducible refine wpA_index rfl _ _ _ rfl _ rfl _ rfl ?_); first | (refine indexA ?_; try rw [Int.toNat_natCast]) | refine indexC ?_) | ((with_reducible refine wpA_store rfl _ _ _ rfl _ rfl (.agg _) rfl ?_); refine storeR hL ?_; clear hL; intro _ hL) | ((with_reducible first | refine wpA_store rfl _ _ _ rfl _ rfl (.int _ _) rfl ?_ | refine wpA_store rfl _ _ _ rfl _ rfl (.slice _ _ _) rfl ?_ | refine wpA_store rfl _ _ _ rfl _ rfl (.bool _) rfl ?_ | refine wpA_store rfl _ _ _ rfl _ rfl (.pointer _) rfl ?_ | refine wpA_store rfl _ _ _ rfl _ rfl (.func _ _ _) rfl ?_); (first | refine storeA hL ?_ | refine storeO hL ?_); (clear hL; intro _ hL)) | ((with_reducible refine wpA_lit rfl _ _ _ rfl ?_); first | refine litA1 hL ?_ | refine litA2 hL ?_ | refine litA3 hL ?_ | refine litA4 hL ?_ | refine litA6 hL ?_) | ((with_reducible refine wpA_append rfl _ _ _ rfl (.slice _ _ _) rfl ?_); intro vq hvq; simp [go_sem] at hvq; subst hvq; refine appendA hL ?_; clear hL; intro _ _ _ hL; try dsimp only at hL) | ((with_reducible refine wpA_make rfl _ _ _ rfl _ rfl rfl ?_); refine makeA hL ?_))
    all_goals
      first
      | (go_ret; rw [HE.out]; exact hits_none hL)
      | (exfalso; simp only [beq_eq_false_iff_ne, ne_eq] at *; omega)
end Go.Proofs.Ytneddfiohekhiaa
