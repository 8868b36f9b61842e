/- Runs, rows and regions. -/
import Derived.Test.YtfnolaoohmecbaaRgnM
import Derived.Test.YtfnolaoohmecbaaR26
import Derived.Test.YtfnolaoohmecbaaMskM
import Derived.Test.YtfnolaoohmecbaaArmM
namespace Go.Proofs.Ytfnolaoohmecbaa
open Go.RowKit
/-- a region, pixel by pixel -/
def pixReg (W H : Nat) (q : Nat → Nat → Bool) : Reg := ⟨W, H, (List.range H).map fun j => runsTo (q j) W⟩
theorem ret_tup {v : Value} {k : IntKind} {a b : Int} (h : a = b) : Ending.returned (.tuple #[v, .int k a]) = .returned (.tuple #[v, .int k b]) := by rw [h]
theorem flat1 {α : Type} : ∀ l : List α, (l.map fun v => [v]).flatten = l
  | [] => rfl
  | a :: l => by simp [flat1 l]
theorem rows_own {w : World} {B : Nat} {e : TypeId} {v : Value} {n : Nat} {xs : List Value} (h : (own B e 1 v n xs).ok w) (hn : xs.length = n) {F : Nat → List (Int × Int)} (hv : ∀ i v, xs[i]? = some v → RunsAt w v (F i)) :
    RowsAt w v ((List.range n).map F) := by
  refine ⟨xs, by simp [hn], own_sliceAt (els := xs.map fun v => [v]) h (by simp [hn]) (flat1 xs).symm (by simp), fun i v hi => ?_⟩
  have hlt : i < n := by rw [← hn]; exact (List.getElem?_eq_some_iff.1 hi).1
  have e : ((List.range n).map F).getD i [] = F i := by simp [hlt]
  rw [e]
  exact hv i v hi

/-- is a place's byte 1? -/
def maskQ (m : Msk) (j i : Nat) : Bool := m.B.getD (m.W.toNat * j + i) 0 == 1
def ofReg (m : Msk) : Reg := if mayMask m then pixReg m.W.toNat m.H.toNat (maskQ m) else noReg
def ofErr (m : Msk) : Int := if mayMask m then 0 else 1
/-- the first places -/
def upTo (q : Nat → Bool) (n : Nat) (c : Nat) : Bool := decide (c < n) && q c
theorem upTo_set (q : Nat → Bool) (n : Nat) : arrB (fun c => if c = n then q n else upTo q n c) = arrB (upTo q (n + 1)) := by
  refine arrB_congr fun c _ => ?_
  unfold upTo
  by_cases h : c = n
  · subst h; simp
  · have : c < n + 1 ↔ c < n := by omega
    simp [h, this]
theorem runsTo_upTo (q : Nat → Bool) (n : Nat) : runsTo (upTo q n) n = runsTo q n := runsTo_congr fun i hi => by simp [upTo, hi]
theorem mayMask_parts {m : Msk} (h : mayMask m = true) : ∃ W H : Nat, m.W = W ∧ m.H = H ∧ Sides W H ∧ m.B.length = W * H := by
  simp only [mayMask, Bool.and_eq_true, decide_eq_true_eq] at h
  obtain ⟨h1, h2, h3, _⟩ := h
  obtain ⟨a, b, c, d, _, _⟩ := side_mul h1 h2
  obtain ⟨W, hW⟩ := Int.eq_ofNat_of_zero_le (show 0 ≤ m.W by omega)
  obtain ⟨H, hH⟩ := Int.eq_ofNat_of_zero_le (show 0 ≤ m.H by omega)
  refine ⟨W, H, hW, hH, ⟨by omega, by omega, by omega, by omega⟩, ?_⟩
  rw [hW, hH] at h3
  have : ((m.B.length : Nat) : Int) = ((W * H : Nat) : Int) := by rw [h3]; simp
  omega

set_option maxRecDepth 100000 in
set_option maxHeartbeats 2000000 in
theorem refOf_calls (w : World) (v : Value) (m : Msk) (hv : MaskAt w v m) :
    Calls Try.prog 20 #[v] w (RegOut (ofReg m) (ofErr m) w) := by
  have Hm := Lib.hid hv
  obtain ⟨a, cap, rfl, hlc, hcm, hB⟩ := hv.shape
  obtain ⟨a', cap', he, _, _, hel⟩ := hB.parts
  cases he
  clear hB hv
  have hL := Holds.start w
  cases hm : mayMask m with
  | false =>
    have HR := Lib.hid (show ofReg m = noReg by simp [ofReg, hm])
    have HE := Lib.hid (show ofErr m = 1 by simp [ofErr, hm])
    clear hel
    have n1 : True := trivial; have n2 : True := trivial; have n3 : True := trivial
    go_enter Try.func20, Try.ntmps20
    go_wp2_with (first | (go_at_call 51; (with_reducible refine (refMayMask_calls _ _ _ (Hm.out.hold hL)).mono ?_); rintro e _ ⟨rfl, hb⟩; rw [hm]; replace hL := hL.call hb; clear hb) | (first | (clear hL n1; with_reducible intro b1 w1 hL) | (clear hL n2; with_reducible intro b2 w2 hL) | (clear hL n3; with_reducible intro b3 w3 hL) | (clear hL; with_reducible intro _ _ hL)) | (with_reducible refine wpC_alloc rfl _ rfl _ _ inferInstance hL ?_) | (with_reducible first | refine wpB_agg rfl _ _ _ rfl rfl hL ?_ | refine wpB_one rfl _ _ (.int _ _) rfl rfl rfl hL ?_ | refine wpB_one rfl _ _ (.slice _ _ _) rfl rfl rfl hL ?_ | refine wpB_one rfl _ _ (.bool _) rfl rfl rfl hL ?_ | refine wpB_one rfl _ _ (.pointer _) rfl rfl rfl hL ?_ | refine wpB_one rfl _ _ (.func _ _ _) rfl rfl rfl hL ?_) | (with_reducible first | refine wpH_max rfl _ _ _ _ rfl _ _ rfl rfl ?_ | refine wpH_min rfl _ _ _ _ rfl _ _ rfl rfl ?_) | ((with_reducible refine wpA_load rfl _ _ rfl _ rfl ?_); first | refine loadA hL ?_ | refine loadR hL ?_ | refine loadC hL ?_ | refine loadD ?_ | refine loadE hL ?_ | refine loadF ?_) | ((with_reducible refine wpA_index rfl _ _ _ rfl _ rfl _ rfl ?_); first | (refine indexA ?_; try rw [Int.toNat_natCast]) | refine indexC ?_) | ((with_reducible refine wpA_store rfl _ _ _ rfl _ rfl (.agg _) rfl ?_); refine storeR hL ?_; clear hL; intro _ hL) | ((with_reducible first | refine wpA_store rfl _ _ _ rfl _ rfl (.int _ _) rfl ?_ | refine wpA_store rfl _ _ _ rfl _ rfl (.slice _ _ _) rfl ?_ | refine wpA_store rfl _ _ _ rfl _ rfl (.bool _) rfl ?_ | refine wpA_store rfl _ _ _ rfl _ rfl (.pointer _) rfl ?_ | refine wpA_store rfl _ _ _ rfl _ rfl (.func _ _ _) rfl ?_); (first | refine storeA hL ?_ | refine storeO hL ?_); (clear hL; intro _ hL)) | ((with_reducible refine wpA_lit rfl _ _ _ rfl ?_); first | refine litA1 hL ?_ | refine litA2 hL ?_) | ((with_reducible refine wpA_append rfl _ _ _ rfl (.slice _ _ _) rfl ?_); intro vq hvq; simp [go_sem] at hvq; subst hvq; refine appendA hL ?_; clear hL; intro _ _ _ hL; try dsimp only at hL) | ((with_reducible refine wpA_make rfl _ _ _ rfl _ rfl rfl ?_); refine makeA hL ?_))
    exact bodyPost_ret (results_row2 inferInstance rfl _ hL b2 rfl _ _ .here rfl) rfl ⟨_, ret_tup HE.out.symm, hL.below, by rw [HR.out]; exact (hL.triv noReg_at).fresh⟩
  | true =>
    obtain ⟨W, H, hW, hH, hs, hlen⟩ := mayMask_parts hm
    have HR := Lib.hid (show ofReg m = pixReg W H (maskQ m) by simp [ofReg, hm, hW, hH])
    have HE := Lib.hid (show ofErr m = 0 by simp [ofErr, hm])
    obtain ⟨mW, mH, B⟩ := m
    simp only at hW hH hlen hel hlc ⊢
    subst hW; subst hH
    have Hq := Lib.hid (show ∀ j i, maskQ ⟨(W : Int), (H : Int), B⟩ j i = (B.getD (W * j + i) 0 == 1) from fun j i => by simp [maskQ])
    generalize maskQ ⟨(W : Int), (H : Int), B⟩ = q at *
    have Hel := Lib.hid hel; clear hel
    have Hlen := Lib.hid hlen; clear hlen
    obtain ⟨hw0, hw1, hh0, hh1⟩ := id hs
    unfold maxLen at hcm
    have n1 : True := trivial; have n2 : True := trivial; have n3 : True := trivial; have n4 : True := trivial
    go_enter Try.func20, Try.ntmps20
    go_wp2_with (first | (go_at_call 51; (with_reducible refine (refMayMask_calls _ _ _ (Hm.out.hold hL)).mono ?_); rintro e _ ⟨rfl, hb⟩; rw [hm]; replace hL := hL.call hb; clear hb) | (first | (clear hL n1; with_reducible intro b1 w1 hL) | (clear hL n2; with_reducible intro b2 w2 hL) | (clear hL n3; with_reducible intro b3 w3 hL) | (clear hL n4; with_reducible intro b4 w4 hL) | (clear hL; with_reducible intro _ _ hL)) | (with_reducible refine wpC_alloc rfl _ rfl _ _ inferInstance hL ?_) | (with_reducible first | refine wpB_agg rfl _ _ _ rfl rfl hL ?_ | refine wpB_one rfl _ _ (.int _ _) rfl rfl rfl hL ?_ | refine wpB_one rfl _ _ (.slice _ _ _) rfl rfl rfl hL ?_ | refine wpB_one rfl _ _ (.bool _) rfl rfl rfl hL ?_ | refine wpB_one rfl _ _ (.pointer _) rfl rfl rfl hL ?_ | refine wpB_one rfl _ _ (.func _ _ _) rfl rfl rfl hL ?_) | (with_reducible first | refine wpH_max rfl _ _ _ _ rfl _ _ rfl rfl ?_ | refine wpH_min rfl _ _ _ _ rfl _ _ rfl rfl ?_) | ((with_reducible refine wpA_load rfl _ _ rfl _ rfl ?_); first | refine loadA hL ?_ | refine loadR hL ?_ | refine loadC hL ?_ | refine loadD ?_ | refine loadE hL ?_ | refine loadF ?_) | ((with_reducible refine wpA_index rfl _ _ _ rfl _ rfl _ rfl ?_); first | (refine indexA ?_; try rw [Int.toNat_natCast]) | refine indexC ?_) | ((with_reducible refine wpA_store rfl _ _ _ rfl _ rfl (.agg _) rfl ?_); refine storeR hL ?_; clear hL; intro _ hL) | ((with_reducible first | refine wpA_store rfl _ _ _ rfl _ rfl (.int _ _) rfl ?_ | refine wpA_store rfl _ _ _ rfl _ rfl (.slice _ _ _) rfl ?_ | refine wpA_store rfl _ _ _ rfl _ rfl (.bool _) rfl ?_ | refine wpA_store rfl _ _ _ rfl _ rfl (.pointer _) rfl ?_ | refine wpA_store rfl _ _ _ rfl _ rfl (.func _ _ _) rfl ?_); (first | refine storeA hL ?_ | refine storeO hL ?_); (clear hL; intro _ hL)) | ((with_reducible refine wpA_lit rfl _ _ _ rfl ?_); first | refine litA1 hL ?_ | refine litA2 hL ?_) | ((with_reducible refine wpA_append rfl _ _ _ rfl (.slice _ _ _) rfl ?_); intro vq hvq; simp [go_sem] at hvq; subst hvq; refine appendA hL ?_; clear hL; intro _ _ _ hL; try dsimp only at hL) | ((with_reducible refine wpA_make rfl _ _ _ rfl _ rfl rfl ?_); refine makeA hL ?_))
    go_loopw [5] (fun s5 wr => ∃ (j : Nat) (s : Value) (xs : List Value), j ≤ H ∧ s5 = .int .i64 j ∧ xs.length = j ∧ Holds w wr [own w.heap.size 29 1 s j xs, blk b3 #[.int .i64 W, .int .i64 H, s] 37, blk b2 #[.int .i64 0, .int .i64 0, .slice none 0 0] 37, blk b1 #[.int .i64 W, .int .i64 H, .slice a B.length cap] 43] [fun w => ∀ i v, xs[i]? = some v → RunsAt w v (runsTo (q i) W)])
      (fun s5 wr => (64 - intOf s5).toNat)
    case atStart => exact ⟨0, .slice none 0 0, [], by omega, rfl, rfl, hL.newOwn.triv (fun _ i v h => by simp at h)⟩
    case round =>
      clear hL
      obtain ⟨j, s, xs, hj, rfl, hxs, hL⟩ := hrel
      obtain ⟨sa, sc, rfl⟩ := own_slice hL .here
      have Hxs := Lib.hid hxs; clear hxs
      by_cases hjt : j < H
      · go_wp2_with (first | (first | (clear hL n1; with_reducible intro b1 w1 hL) | (clear hL n2; with_reducible intro b2 w2 hL) | (clear hL n3; with_reducible intro b3 w3 hL) | (clear hL n4; with_reducible intro b4 w4 hL) | (clear hL; with_reducible intro _ _ hL)) | (with_reducible refine wpC_alloc rfl _ rfl _ _ inferInstance hL ?_) | (with_reducible first | refine wpB_agg rfl _ _ _ rfl rfl hL ?_ | refine wpB_one rfl _ _ (.int _ _) rfl rfl rfl hL ?_ | refine wpB_one rfl _ _ (.slice _ _ _) rfl rfl rfl hL ?_ | refine wpB_one rfl _ _ (.bool _) rfl rfl rfl hL ?_ | refine wpB_one rfl _ _ (.pointer _) rfl rfl rfl hL ?_ | refine wpB_one rfl _ _ (.func _ _ _) rfl rfl rfl hL ?_) | (with_reducible first | refine wpH_max rfl _ _ _ _ rfl _ _ rfl rfl ?_ | refine wpH_min rfl _ _ _ _ rfl _ _ rfl rfl ?_) | ((with_reducible refine wpA_load rfl _ _ rfl _ rfl ?_); first | refine loadA hL ?_ | refine loadR hL ?_ | refine loadC hL ?_ | refine loadD ?_ | refine loadE hL ?_ | refine loadF ?_) | ((with_reducible refine wpA_index rfl _ _ _ rfl _ rfl _ rfl ?_); first | (refine indexA ?_; try rw [Int.toNat_natCast]) | refine indexC ?_) | ((with_reducible refine wpA_store rfl _ _ _ rfl _ rfl (.agg _) rfl ?_); refine storeR hL ?_; clear hL; intro _ hL) | ((with_reducible first | refine wpA_store rfl _ _ _ rfl _ rfl (.int _ _) rfl ?_ | refine wpA_store rfl _ _ _ rfl _ rfl (.slice _ _ _) rfl ?_ | refine wpA_store rfl _ _ _ rfl _ rfl (.bool _) rfl ?_ | refine wpA_store rfl _ _ _ rfl _ rfl (.pointer _) rfl ?_ | refine wpA_store rfl _ _ _ rfl _ rfl (.func _ _ _) rfl ?_); (first | refine storeA hL ?_ | refine storeO hL ?_); (clear hL; intro _ hL)) | ((with_reducible refine wpA_lit rfl _ _ _ rfl ?_); first | refine litA1 hL ?_ | refine litA2 hL ?_) | ((with_reducible refine wpA_append rfl _ _ _ rfl (.slice _ _ _) rfl ?_); intro vq hvq; simp [go_sem] at hvq; subst hvq; refine appendA hL ?_; clear hL; intro _ _ _ hL; try dsimp only at hL) | ((with_reducible refine wpA_make rfl _ _ _ rfl _ rfl rfl ?_); refine makeA hL ?_))
        go_loopw [7] (fun s7 wr => ∃ i : Nat, i ≤ W ∧ s7 = .int .i64 i ∧ Holds w wr [blk b4 (arrB (upTo (q j) i)) 27, own w.heap.size 29 1 (.slice sa j sc) j xs, blk b3 #[.int .i64 W, .int .i64 H, .slice sa j sc] 37, blk b2 #[.int .i64 0, .int .i64 0, .slice none 0 0] 37, blk b1 #[.int .i64 W, .int .i64 H, .slice a B.length cap] 43] [fun w => ∀ i v, xs[i]? = some v → RunsAt w v (runsTo (q i) W)])
          (fun s7 wr => (64 - intOf s7).toNat)
        case atStart =>
          rw [show arrB (fun _ => false) = arrB (upTo (q j) 0) from arrB_congr fun c _ => by simp [upTo]] at hL
          exact ⟨0, by omega, rfl, hL⟩
        case round =>
          clear hL
          obtain ⟨i, hi, rfl, hL⟩ := hrel
          by_cases hit : i < W
          · have hidx : W * j + i < B.length := by
              have := idx_lt hjt hit
              rw [Hlen.out, Nat.mul_comm W j]; exact this
            obtain ⟨b, o, rfl, hc⟩ := Hel.out (W * j + i) hidx
            have Hx := Lib.hid (Hq.out j i)
            have Hst := Lib.hid (upTo_set (q j) i)
            rw [Hx.out] at Hst
            generalize B.getD (W * j + i) 0 = x at *
            have hidx2 : (W : Int) * (j : Int) + (i : Int) < (B.length : Int) := by
              have : ((W * j + i : Nat) : Int) < (B.length : Int) := by omega
              simpa using this
            have hidx3 : 0 ≤ (W : Int) * (j : Int) := Int.mul_nonneg (by omega) (by omega)
            have hidx4 : (W : Int) * (j : Int) ≤ 4096 := by
              have := Nat.mul_le_mul hw1 (show j ≤ 64 by omega)
              have h : ((W * j : Nat) : Int) ≤ 4096 := by omega
              simpa using h
            go_wp2_with (first | (first | (clear hL n1; with_reducible intro b1 w1 hL) | (clear hL n2; with_reducible intro b2 w2 hL) | (clear hL n3; with_reducible intro b3 w3 hL) | (clear hL n4; with_reducible intro b4 w4 hL) | (clear hL; with_reducible intro _ _ hL)) | (with_reducible refine wpC_alloc rfl _ rfl _ _ inferInstance hL ?_) | (with_reducible first | refine wpB_agg rfl _ _ _ rfl rfl hL ?_ | refine wpB_one rfl _ _ (.int _ _) rfl rfl rfl hL ?_ | refine wpB_one rfl _ _ (.slice _ _ _) rfl rfl rfl hL ?_ | refine wpB_one rfl _ _ (.bool _) rfl rfl rfl hL ?_ | refine wpB_one rfl _ _ (.pointer _) rfl rfl rfl hL ?_ | refine wpB_one rfl _ _ (.func _ _ _) rfl rfl rfl hL ?_) | (with_reducible first | refine wpH_max rfl _ _ _ _ rfl _ _ rfl rfl ?_ | refine wpH_min rfl _ _ _ _ rfl _ _ rfl rfl ?_) | ((with_reducible refine wpA_load rfl _ _ rfl _ rfl ?_); first | refine loadA hL ?_ | refine loadR hL ?_ | refine loadC hL ?_ | refine loadD ?_ | refine loadE hL ?_ | refine loadF ?_) | ((with_reducible refine wpA_index rfl _ _ _ rfl _ rfl _ rfl ?_); first | (refine indexA ?_; try rw [Int.toNat_natCast]) | refine indexC ?_) | ((with_reducible refine wpA_store rfl _ _ _ rfl _ rfl (.agg _) rfl ?_); refine storeR hL ?_; clear hL; intro _ hL) | ((with_reducible first | refine wpA_store rfl _ _ _ rfl _ rfl (.int _ _) rfl ?_ | refine wpA_store rfl _ _ _ rfl _ rfl (.slice _ _ _) rfl ?_ | refine wpA_store rfl _ _ _ rfl _ rfl (.bool _) rfl ?_ | refine wpA_store rfl _ _ _ rfl _ rfl (.pointer _) rfl ?_ | refine wpA_store rfl _ _ _ rfl _ rfl (.func _ _ _) rfl ?_); (first | refine storeA hL ?_ | refine storeO hL ?_); (clear hL; intro _ hL)) | ((with_reducible refine wpA_lit rfl _ _ _ rfl ?_); first | refine litA1 hL ?_ | refine litA2 hL ?_) | ((with_reducible refine wpA_append rfl _ _ _ rfl (.slice _ _ _) rfl ?_); intro vq hvq; simp [go_sem] at hvq; subst hvq; refine appendA hL ?_; clear hL; intro _ _ _ hL; try dsimp only at hL) | ((with_reducible refine wpA_make rfl _ _ _ rfl _ rfl rfl ?_); refine makeA hL ?_))
            go_roundw
            case rel =>
              rw [Hst.out] at hL
              exact ⟨i + 1, by omega, by go_num, hL⟩
            case measure => simp [intOf]; omega
          · have e : i = W := by omega
            subst e
            have Hcut := Lib.hid (show (cutI (i : Int)).toNat = i by unfold cutI; omega)
            go_wp2_with (first | (first | (clear hL n1; with_reducible intro b1 w1 hL) | (clear hL n2; with_reducible intro b2 w2 hL) | (clear hL n3; with_reducible intro b3 w3 hL) | (clear hL n4; with_reducible intro b4 w4 hL) | (clear hL; with_reducible intro _ _ hL)) | (with_reducible refine wpC_alloc rfl _ rfl _ _ inferInstance hL ?_) | (with_reducible first | refine wpB_agg rfl _ _ _ rfl rfl hL ?_ | refine wpB_one rfl _ _ (.int _ _) rfl rfl rfl hL ?_ | refine wpB_one rfl _ _ (.slice _ _ _) rfl rfl rfl hL ?_ | refine wpB_one rfl _ _ (.bool _) rfl rfl rfl hL ?_ | refine wpB_one rfl _ _ (.pointer _) rfl rfl rfl hL ?_ | refine wpB_one rfl _ _ (.func _ _ _) rfl rfl rfl hL ?_) | (with_reducible first | refine wpH_max rfl _ _ _ _ rfl _ _ rfl rfl ?_ | refine wpH_min rfl _ _ _ _ rfl _ _ rfl rfl ?_) | ((with_reducible refine wpA_load rfl _ _ rfl _ rfl ?_); first | refine loadA hL ?_ | refine loadR hL ?_ | refine loadC hL ?_ | refine loadD ?_ | refine loadE hL ?_ | refine loadF ?_) | ((with_reducible refine wpA_index rfl _ _ _ rfl _ rfl _ rfl ?_); first | (refine indexA ?_; try rw [Int.toNat_natCast]) | refine indexC ?_) | ((with_reducible refine wpA_store rfl _ _ _ rfl _ rfl (.agg _) rfl ?_); refine storeR hL ?_; clear hL; intro _ hL) | ((with_reducible first | refine wpA_store rfl _ _ _ rfl _ rfl (.int _ _) rfl ?_ | refine wpA_store rfl _ _ _ rfl _ rfl (.slice _ _ _) rfl ?_ | refine wpA_store rfl _ _ _ rfl _ rfl (.bool _) rfl ?_ | refine wpA_store rfl _ _ _ rfl _ rfl (.pointer _) rfl ?_ | refine wpA_store rfl _ _ _ rfl _ rfl (.func _ _ _) rfl ?_); (first | refine storeA hL ?_ | refine storeO hL ?_); (clear hL; intro _ hL)) | ((with_reducible refine wpA_lit rfl _ _ _ rfl ?_); first | refine litA1 hL ?_ | refine litA2 hL ?_) | ((with_reducible refine wpA_append rfl _ _ _ rfl (.slice _ _ _) rfl ?_); intro vq hvq; simp [go_sem] at hvq; subst hvq; refine appendA hL ?_; clear hL; intro _ _ _ hL; try dsimp only at hL) | ((with_reducible refine wpA_make rfl _ _ _ rfl _ rfl rfl ?_); refine makeA hL ?_))
            replace hL := hL.drew
            refine wpM_begin (by kernel_rfl) (fun w' => w'.cell? ⟨b3, 2, none⟩ = some (.slice sa j sc) ∧ w'.cell? ⟨b1, 0, none⟩ = some (.int .i64 i) ∧ w'.rangeAt b4 0 (arrB (upTo (q j) i)).toList) 9 ?_
            have hS : (fun w' : World => w'.cell? ⟨b3, 2, none⟩ = some (.slice sa j sc) ∧ w'.cell? ⟨b1, 0, none⟩ = some (.int .i64 i) ∧ w'.rangeAt b4 0 (arrB (upTo (q j) i)).toList) _ := ⟨(hL.cell (by (repeat (first | with_reducible exact At.here | with_reducible apply At.there)))).trans rfl, (hL.cell (by (repeat (first | with_reducible exact At.here | with_reducible apply At.there)))).trans rfl, hL.range (by (repeat (first | with_reducible exact At.here | with_reducible apply At.there)))⟩
            refine wpM_take1 (i := 0) (by simp only [List.getElem?_toArray, List.getElem?_cons_zero, List.getElem?_cons_succ]; rfl) ?_
            refine ⟨.pointer (some ⟨b3, 2, none⟩), by kernel_rfl, by kernel_rfl, by kernel_rfl, by kernel_rfl, fun _ _ _ h => h, hS, rfl, (fun w' hw => by go_simp), ?_⟩
            simp only [Act.put, List.setIfInBounds_toArray, List.set_cons_zero, List.set_cons_succ]
            refine wpM_take1 (i := 1) (by simp only [List.getElem?_toArray, List.getElem?_cons_zero, List.getElem?_cons_succ]; rfl) ?_
            refine ⟨.slice sa j sc, by kernel_rfl, by kernel_rfl, by kernel_rfl, by kernel_rfl, fun _ _ _ h => h, hS, rfl, (fun w' hw => run_loadOp _ _ rfl _ rfl _ (load_cell hw.1)), ?_⟩
            simp only [Act.put, List.setIfInBounds_toArray, List.set_cons_zero, List.set_cons_succ]
            refine wpM_take1 (i := 2) (by simp only [List.getElem?_toArray, List.getElem?_cons_zero, List.getElem?_cons_succ]; rfl) ?_
            refine ⟨.agg (arrB (upTo (q j) i)), by kernel_rfl, by kernel_rfl, by kernel_rfl, by kernel_rfl, fun _ _ _ h => h, hS, rfl, (fun w' hw => run_loadOp _ _ rfl _ rfl _ (load_range (by rw [arrB_size]) hw.2.2)), ?_⟩
            simp only [Act.put, List.setIfInBounds_toArray, List.set_cons_zero, List.set_cons_succ]
            refine wpM_take1 (i := 3) (by simp only [List.getElem?_toArray, List.getElem?_cons_zero, List.getElem?_cons_succ]; rfl) ?_
            refine ⟨.pointer (some ⟨b1, 0, none⟩), by kernel_rfl, by kernel_rfl, by kernel_rfl, by kernel_rfl, fun _ _ _ h => h, hS, rfl, (fun w' hw => by go_simp), ?_⟩
            simp only [Act.put, List.setIfInBounds_toArray, List.set_cons_zero, List.set_cons_succ]
            refine wpM_take1 (i := 4) (by simp only [List.getElem?_toArray, List.getElem?_cons_zero, List.getElem?_cons_succ]; rfl) ?_
            refine ⟨.int .i64 i, by kernel_rfl, by kernel_rfl, by kernel_rfl, by kernel_rfl, fun _ _ _ h => h, hS, rfl, (fun w' hw => run_loadOp _ _ rfl _ rfl _ (load_cell hw.2.1)), ?_⟩
            simp only [Act.put, List.setIfInBounds_toArray, List.set_cons_zero, List.set_cons_succ]
            refine wpM_one (i := 5) (by kernel_rfl) (wpOp_of (by simp only [List.getElem?_toArray, List.getElem?_cons_zero, List.getElem?_cons_succ]; rfl) ?_)
            refine st_call rfl 16 #[.agg (arrB (upTo (q j) i)), .int .i64 i] (by go_simp) (refRuns_calls _ _ _) ?_
            rintro e w5 ⟨v, rfl, hb, hf⟩
            rw [Hcut.out, runsTo_upTo] at hf
            obtain ⟨ra, rn, rc, rfl⟩ := SliceAt.shape hf.now
            replace hL := hL.callF hb hf
            clear hb hf hS
            refine ⟨_, rfl, fun _ => ⟨(hL.cell (by (repeat (first | with_reducible exact At.here | with_reducible apply At.there)))).trans rfl, (hL.cell (by (repeat (first | with_reducible exact At.here | with_reducible apply At.there)))).trans rfl, hL.range (by (repeat (first | with_reducible exact At.here | with_reducible apply At.there)))⟩, ?_⟩
            simp only [Act.put, List.setIfInBounds_toArray, List.set_cons_zero, List.set_cons_succ]
            refine wpM_one (i := 6) (by kernel_rfl) (wpOp_of (by simp only [List.getElem?_toArray, List.getElem?_cons_zero, List.getElem?_cons_succ]; rfl) ?_)
            refine st_lit rfl _ _ _ rfl (litAt1 (.slice ra rn rc) (by simp only [List.map_toArray, List.map_cons, List.map_nil]; rfl) inferInstance inferInstance (by simp [go_sem, Value.cells]) (by decide) #[.slice ra rn rc] (by simp [go_sem, litCells, Value.cells]) hL ?_)
            clear hL
            intro b7 w7 hL
            refine ⟨fun _ => ⟨(hL.cell (by (repeat (first | with_reducible exact At.here | with_reducible apply At.there)))).trans rfl, (hL.cell (by (repeat (first | with_reducible exact At.here | with_reducible apply At.there)))).trans rfl, hL.range (by (repeat (first | with_reducible exact At.here | with_reducible apply At.there)))⟩, ?_⟩
            simp only [Act.put, List.setIfInBounds_toArray, List.set_cons_zero, List.set_cons_succ]
            refine wpM_one (i := 7) (by kernel_rfl) (wpOp_of (by simp only [List.getElem?_toArray, List.getElem?_cons_zero, List.getElem?_cons_succ]; rfl) ?_)
            refine st_append rfl _ _ _ rfl (.slice sa j sc) (.slice (some ⟨b7, 0, none⟩) 1 1) rfl rfl (appendAt inferInstance inferInstance hL _ _ .here _ _ _ (fun r' => .there .here) rfl (by decide) rfl (by simp [go_sem, Value.oneCell']) (by omega) (by unfold maxLen; omega) (by omega) ?_)
            clear hL
            intro g cap8 w8 hL
            have hS := (show (fun w' : World => w'.cell? ⟨b3, 2, none⟩ = some (.slice sa j sc) ∧ w'.cell? ⟨b1, 0, none⟩ = some (.int .i64 i) ∧ w'.rangeAt b4 0 (arrB (upTo (q j) i)).toList) w8 from ⟨(hL.cell (by (repeat (first | with_reducible exact At.here | with_reducible apply At.there)))).trans rfl, (hL.cell (by (repeat (first | with_reducible exact At.here | with_reducible apply At.there)))).trans rfl, hL.range (by (repeat (first | with_reducible exact At.here | with_reducible apply At.there)))⟩)
            refine ⟨fun _ => hS, ?_⟩
            simp only [Act.put, List.setIfInBounds_toArray, List.set_cons_zero, List.set_cons_succ]
            refine wpM_take1 (i := 8) (by simp only [List.getElem?_toArray, List.getElem?_cons_zero, List.getElem?_cons_succ]; rfl) ?_
            refine ⟨.pointer (some ⟨b3, 2, none⟩), by kernel_rfl, by kernel_rfl, by kernel_rfl, by kernel_rfl, fun _ _ _ h => h, hS, rfl, (fun w' hw => by go_simp), ?_⟩
            simp only [Act.put, List.setIfInBounds_toArray, List.set_cons_zero, List.set_cons_succ]
            clear hS
            refine wpM_one (i := 9) (by kernel_rfl) (wpOp_of (by simp only [List.getElem?_toArray, List.getElem?_cons_zero, List.getElem?_cons_succ]; rfl) ?_)
            refine st_store rfl _ _ _ rfl ⟨b3, 2, none⟩ rfl (.slice (some ⟨g, 0, none⟩) (j + 1) cap8) rfl (storeAt_cell rfl rfl inferInstance hL _ _ _ (by (repeat (first | with_reducible exact Upd.here | with_reducible apply Upd.there))) (by simp) rfl ?_)
            clear hL
            intro w9 hL
            refine ⟨fun h => absurd rfl h, wpM_done (by kernel_rfl) ?_⟩
            simp only [Act.put, List.setIfInBounds_toArray, List.set_cons_zero, List.set_cons_succ]
            go_wp2
            go_roundw
            case rel =>
              refine ⟨j + 1, _, xs ++ [.slice ra rn rc], by omega, by go_num, by rw [List.length_append, Hxs.out]; rfl, (hL.drop .here).join fun w' h1 h2 y v hi => ?_⟩
              rw [List.getElem?_append] at hi
              split at hi
              · exact h2 y v hi
              · have hij : y = j := by
                  have h3 := (List.getElem?_eq_some_iff.1 hi).1
                  have := Hxs.out
                  simp at h3; omega
                rw [hij, ← Hxs.out] at hi
                simp at hi
                subst hi
                rw [hij]
                exact h1
            case measure => simp [intOf]; omega
      · have e : j = H := by omega
        subst e
        go_wp2_with (first | (first | (clear hL n1; with_reducible intro b1 w1 hL) | (clear hL n2; with_reducible intro b2 w2 hL) | (clear hL n3; with_reducible intro b3 w3 hL) | (clear hL n4; with_reducible intro b4 w4 hL) | (clear hL; with_reducible intro _ _ hL)) | (with_reducible refine wpC_alloc rfl _ rfl _ _ inferInstance hL ?_) | (with_reducible first | refine wpB_agg rfl _ _ _ rfl rfl hL ?_ | refine wpB_one rfl _ _ (.int _ _) rfl rfl rfl hL ?_ | refine wpB_one rfl _ _ (.slice _ _ _) rfl rfl rfl hL ?_ | refine wpB_one rfl _ _ (.bool _) rfl rfl rfl hL ?_ | refine wpB_one rfl _ _ (.pointer _) rfl rfl rfl hL ?_ | refine wpB_one rfl _ _ (.func _ _ _) rfl rfl rfl hL ?_) | (with_reducible first | refine wpH_max rfl _ _ _ _ rfl _ _ rfl rfl ?_ | refine wpH_min rfl _ _ _ _ rfl _ _ rfl rfl ?_) | ((with_reducible refine wpA_load rfl _ _ rfl _ rfl ?_); first | refine loadA hL ?_ | refine loadR hL ?_ | refine loadC hL ?_ | refine loadD ?_ | refine loadE hL ?_ | refine loadF ?_) | ((with_reducible refine wpA_index rfl _ _ _ rfl _ rfl _ rfl ?_); first | (refine indexA ?_; try rw [Int.toNat_natCast]) | refine indexC ?_) | ((with_reducible refine wpA_store rfl _ _ _ rfl _ rfl (.agg _) rfl ?_); refine storeR hL ?_; clear hL; intro _ hL) | ((with_reducible first | refine wpA_store rfl _ _ _ rfl _ rfl (.int _ _) rfl ?_ | refine wpA_store rfl _ _ _ rfl _ rfl (.slice _ _ _) rfl ?_ | refine wpA_store rfl _ _ _ rfl _ rfl (.bool _) rfl ?_ | refine wpA_store rfl _ _ _ rfl _ rfl (.pointer _) rfl ?_ | refine wpA_store rfl _ _ _ rfl _ rfl (.func _ _ _) rfl ?_); (first | refine storeA hL ?_ | refine storeO hL ?_); (clear hL; intro _ hL)) | ((with_reducible refine wpA_lit rfl _ _ _ rfl ?_); first | refine litA1 hL ?_ | refine litA2 hL ?_) | ((with_reducible refine wpA_append rfl _ _ _ rfl (.slice _ _ _) rfl ?_); intro vq hvq; simp [go_sem] at hvq; subst hvq; refine appendA hL ?_; clear hL; intro _ _ _ hL; try dsimp only at hL) | ((with_reducible refine wpA_make rfl _ _ _ rfl _ rfl rfl ?_); refine makeA hL ?_))
        refine bodyPost_ret (results_row2 inferInstance rfl _ hL b2 rfl _ _ (.there (.there .here)) rfl) rfl ⟨_, ret_tup HE.out.symm, hL.below, ?_⟩
        rw [HR.out]
        exact ((hL.settle .here (φ := fun w' => (own w.heap.size 29 1 (.slice sa j sc) j xs).ok w') fun _ h => h).join fun w' h1 h2 => ⟨_, rfl, rows_own h1 Hxs.out h2⟩).fresh
end Go.Proofs.Ytfnolaoohmecbaa
