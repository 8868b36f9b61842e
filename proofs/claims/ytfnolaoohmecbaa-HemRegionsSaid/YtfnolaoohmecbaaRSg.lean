/- The document's strokes: Mask. -/
import Derived.Test.YtfnolaoohmecbaaRSf
import Derived.Test.YtfnolaoohmecbaaMskM
import Derived.Test.YtfnolaoohmecbaaR26
-- uses arrU
-- lit6
namespace Go.Proofs.Ytfnolaoohmecbaa
open Go.RowKit

def upR (p : Nat → Nat → Bool) (j k r c : Nat) : Bool := (decide (r < j) || (decide (r = j) && decide (c < k))) && p r c
theorem upR_zero {W n : Nat} (p : Nat → Nat → Bool) : arrU n (fun _ => 0) = arrU n (maskF W (upR p 0 0)) := arrU_congr fun x _ => by simp [maskF, upR, bit]
theorem upR_at {W j k x : Nat} (hk : k < W) (h : x = W * j + k) : x / W = j ∧ x % W = k := by
  subst h
  exact ⟨by rw [Nat.mul_add_div (by omega), Nat.div_eq_of_lt hk, Nat.add_zero], by rw [Nat.mul_add_mod, Nat.mod_eq_of_lt hk]⟩
theorem upR_off {W j k x : Nat} (h : ¬ x = W * j + k) : ¬ (x / W = j ∧ x % W = k) := fun ⟨h1, h2⟩ => h (by
  have := Nat.div_add_mod x W
  rw [h1, h2] at this; exact this.symm)
theorem upR_next (p : Nat → Nat → Bool) {j k r c : Nat} (h : ¬ (r = j ∧ c = k)) : upR p j (k + 1) r c = upR p j k r c := by
  unfold upR
  by_cases hr : r = j
  · have : c < k + 1 ↔ c < k := by
      have : ¬ c = k := fun e => h ⟨hr, e⟩
      omega
    simp [this]
  · simp [hr]
theorem upR_set {W n j k : Nat} (p : Nat → Nat → Bool) (hk : k < W) (h : p j k = true) : arrU n (fun x => if x = W * j + k then 1 else maskF W (upR p j k) x) = arrU n (maskF W (upR p j (k + 1))) := by
  refine arrU_congr fun x _ => ?_
  unfold maskF
  by_cases hx : x = W * j + k
  · obtain ⟨h1, h2⟩ := upR_at hk hx
    rw [if_pos hx, h1, h2]
    simp [upR, h, bit]
  · rw [if_neg hx, upR_next p (upR_off hx)]
theorem upR_skip {W n j k : Nat} (p : Nat → Nat → Bool) (h : p j k = false) : arrU n (maskF W (upR p j k)) = arrU n (maskF W (upR p j (k + 1))) := by
  refine arrU_congr fun x _ => ?_
  unfold maskF
  by_cases hx : x / W = j ∧ x % W = k
  · rw [hx.1, hx.2]
    simp [upR, h]
  · rw [upR_next p hx]
theorem upR_row {W n j : Nat} (hW : 0 < W) (p : Nat → Nat → Bool) : arrU n (maskF W (upR p j W)) = arrU n (maskF W (upR p (j + 1) 0)) := by
  refine arrU_congr fun x _ => ?_
  unfold maskF upR
  have hm := Nat.mod_lt x hW
  have e : (decide (x / W < j) || (decide (x / W = j) && decide (x % W < W))) = (decide (x / W < j + 1) || (decide (x / W = j + 1) && decide (x % W < 0))) := by
    rw [decide_eq_true hm]
    generalize x / W = r
    rcases Nat.lt_trichotomy r j with h | h | h
    · rw [decide_eq_true h, decide_eq_true (show r < j + 1 by omega)]; rfl
    · rw [decide_eq_true h, decide_eq_true (show r < j + 1 by omega)]; simp
    · rw [decide_eq_false (show ¬ r < j by omega), decide_eq_false (show ¬ r = j by omega), decide_eq_false (show ¬ r < j + 1 by omega)]; simp
  rw [e]
theorem upR_all {W H : Nat} (p : Nat → Nat → Bool) : (List.range (W * H)).map (maskF W (upR p H 0)) = (pixMask W H p).B := by
  unfold pixMask
  refine List.map_congr_left fun x hx => ?_
  have hx : x < W * H := by simpa using hx
  have hd : x / W < H := Nat.div_lt_of_lt_mul hx
  simp [maskF, upR, bit, hd]
def strokeQ (l : List Sg) (s : Sty) (j i : Nat) : Bool := inS l s (16 * (i : Int) + 8) (16 * (j : Int) + 8)
set_option maxRecDepth 100000 in
set_option maxHeartbeats 8000000 in
theorem rMask33_calls {W H : Nat} (hs : Sides W H) (w : World) (v : Value) (l : List Sg) (hv : SegsAt w v l) (hst : straightS l = true) (s : Sty) (hm : mayY s = true) :
    Calls Try.prog 18 #[v, .agg #[.int .i64 s.wide, .int .i64 s.cap, .int .i64 s.join], .int .i64 W, .int .i64 H] w (MaskOut W H (strokeQ l s) w) := by
  have Hv := Lib.hid hv
  obtain ⟨a, cap0, rfl, _⟩ := hv.parts
  clear hv
  obtain ⟨m1, m2, m3⟩ := mask_bounds hs
  have hw0 := hs.w0; have hw1 := hs.w1; have hh0 := hs.h0; have hh1 := hs.h1
  have HPl := Lib.hid (fun w' (hb : Below w.heap.size w w') => rStraight_calls w' (.slice a l.length cap0) l (SliceAt.below Hv.out hb))
  have HMy := Lib.hid (fun w => rMayY_calls s w)
  rw [hst] at HPl
  rw [hm] at HMy
  have HSw := Lib.hid (fun w => refSide_calls (W : Int) w)
  have HSh := Lib.hid (fun w => refSide_calls (H : Int) w)
  rw [side_nat hs.w0 hs.w1] at HSw
  rw [side_nat hs.h0 hs.h1] at HSh
  have hi : ∀ w' (j i : Nat), Below w.heap.size w w' → Calls Try.prog 13 #[.slice a l.length cap0, .agg #[.int .i64 s.wide, .int .i64 s.cap, .int .i64 s.join], .int .i64 (16 * (i : Int) + 8), .int .i64 (16 * (j : Int) + 8)] w' fun r w'' => r = .returned (.bool (strokeQ l s j i)) ∧ Below w'.heap.size w' w'' := fun w' j i hb => rIn33_calls w' _ l (SliceAt.below Hv.out hb) s _ _
  generalize strokeQ l s = p at *
  obtain ⟨wd, cap, join⟩ := s
  dsimp only at *
  have HI := Lib.hid hi
  clear hi hst hm
  have hL := Holds.start w
  have hwr : IntKind.i64.wrap ((W : Int) * (H : Int)) = (W : Int) * (H : Int) := by rw [IntKind.wrap_i64]; omega
  have n1 : True := trivial; have n2 : True := trivial; have n3 : True := trivial; have n4 : True := trivial
  go_enter Try.func18, Try.ntmps18
  go_wp2_with (first | (go_at_call 40; (with_reducible refine (HPl.out _ hL.below).mono ?_); rintro e _ ⟨rfl, hb⟩; replace hL := hL.call hb; clear hb) | (go_at_call 41; (with_reducible refine (HMy.out _).mono ?_); rintro e _ ⟨rfl, hb⟩; replace hL := hL.call hb; clear hb) | (go_at_call 49; (with_reducible first | refine (HSw.out _).mono ?_ | refine (HSh.out _).mono ?_); rintro e _ ⟨rfl, rfl⟩) | ((with_reducible refine wpA_make rfl _ _ _ rfl _ rfl rfl ?_); refine makeU (W * H) (by omega) (by simp) hL ?_) | (first | (clear hL n1; with_reducible intro b1 w1 hL) | (clear hL n2; with_reducible intro b2 w2 hL) | (clear hL n3; with_reducible intro b3 w3 hL) | (clear hL n4; with_reducible intro b4 w4 hL) | (clear hL; with_reducible intro _ _ hL)) | (with_reducible refine wpC_alloc rfl _ rfl _ _ inferInstance hL ?_) | (with_reducible first | refine wpB_agg rfl _ _ _ rfl rfl hL ?_ | refine wpB_one rfl _ _ (.int _ _) rfl rfl rfl hL ?_ | refine wpB_one rfl _ _ (.slice _ _ _) rfl rfl rfl hL ?_ | refine wpB_one rfl _ _ (.bool _) rfl rfl rfl hL ?_ | refine wpB_one rfl _ _ (.pointer _) rfl rfl rfl hL ?_ | refine wpB_one rfl _ _ (.func _ _ _) rfl rfl rfl hL ?_) | (with_reducible first | refine wpH_max rfl _ _ _ _ rfl _ _ rfl rfl ?_ | refine wpH_min rfl _ _ _ _ rfl _ _ rfl rfl ?_) | ((with_reducible refine wpA_load rfl _ _ rfl _ rfl ?_); first | refine loadA hL ?_ | refine loadR hL ?_ | refine loadC hL ?_ | refine loadD ?_ | refine loadE hL ?_ | refine loadF ?_) | ((with_reducible refine wpA_index rfl _ _ _ rfl _ rfl _ rfl ?_); first | (refine indexA ?_; try rw [Int.toNat_natCast]) | refine indexC ?_) | ((with_reducible refine wpA_store rfl _ _ _ rfl _ rfl (.agg _) rfl ?_); refine storeR hL ?_; clear hL; intro _ hL) | ((with_reducible first | refine wpA_store rfl _ _ _ rfl _ rfl (.int _ _) rfl ?_ | refine wpA_store rfl _ _ _ rfl _ rfl (.slice _ _ _) rfl ?_ | refine wpA_store rfl _ _ _ rfl _ rfl (.bool _) rfl ?_ | refine wpA_store rfl _ _ _ rfl _ rfl (.pointer _) rfl ?_ | refine wpA_store rfl _ _ _ rfl _ rfl (.func _ _ _) rfl ?_); (first | refine storeA hL ?_ | refine storeO hL ?_); (clear hL; intro _ hL)) | ((with_reducible refine wpA_lit rfl _ _ _ rfl ?_); first | refine litA1 hL ?_ | refine litA2 hL ?_ | refine litA3 hL ?_ | refine litA4 hL ?_ | refine litA6 hL ?_) | ((with_reducible refine wpA_append rfl _ _ _ rfl (.slice _ _ _) rfl ?_); intro vq hvq; simp [go_sem] at hvq; subst hvq; refine appendA hL ?_; clear hL; intro _ _ _ hL; try dsimp only at hL) | ((with_reducible refine wpA_make rfl _ _ _ rfl _ rfl rfl ?_); refine makeA hL ?_))
  rw [upR_zero (W := W) p] at hL
  go_loopw [11] (fun s11 wr => ∃ j : Nat, j ≤ H ∧ s11 = .int .i64 j ∧ Holds w wr [blk b4 #[.int .i64 W, .int .i64 H, .slice (some ⟨b3, 0, none⟩) (W * H) (W * H)] 43, blk b3 (arrU (W * H) (maskF W (upR p j 0))) 5, blk b2 #[.int .i64 0, .int .i64 0, .slice none 0 0] 43, blk b1 #[.int .i64 wd, .int .i64 cap, .int .i64 join] 24] [])
    (fun s11 wr => H - (intOf s11).toNat)
  case atStart => exact ⟨0, by omega, rfl, hL⟩
  case round =>
    clear hL
    obtain ⟨j, hj, rfl, hL⟩ := hrel
    by_cases hjt : j < H
    · have hjb : (j : Int) < (H : Int) := by omega
      have hfit : j * W + W ≤ W * H := by
        have := Nat.mul_le_mul_right W (show j + 1 ≤ H by omega)
        rw [Nat.add_mul, Nat.mul_comm H W] at this
        omega
      have hjw : (W : Int) * (j : Int) = ((W * j : Nat) : Int) := by simp
      have hjc : W * j = j * W := Nat.mul_comm _ _
      have hwj : IntKind.i64.wrap ((W : Int) * (j : Int)) = (W : Int) * (j : Int) := by rw [IntKind.wrap_i64]; omega
      go_wp2_with (first | (first | (clear hL n1; with_reducible intro b1 w1 hL) | (clear hL n2; with_reducible intro b2 w2 hL) | (clear hL n3; with_reducible intro b3 w3 hL) | (clear hL n4; with_reducible intro b4 w4 hL) | (clear hL; with_reducible intro _ _ hL)) | (with_reducible refine wpC_alloc rfl _ rfl _ _ inferInstance hL ?_) | (with_reducible first | refine wpB_agg rfl _ _ _ rfl rfl hL ?_ | refine wpB_one rfl _ _ (.int _ _) rfl rfl rfl hL ?_ | refine wpB_one rfl _ _ (.slice _ _ _) rfl rfl rfl hL ?_ | refine wpB_one rfl _ _ (.bool _) rfl rfl rfl hL ?_ | refine wpB_one rfl _ _ (.pointer _) rfl rfl rfl hL ?_ | refine wpB_one rfl _ _ (.func _ _ _) rfl rfl rfl hL ?_) | (with_reducible first | refine wpH_max rfl _ _ _ _ rfl _ _ rfl rfl ?_ | refine wpH_min rfl _ _ _ _ rfl _ _ rfl rfl ?_) | ((with_reducible refine wpA_load rfl _ _ rfl _ rfl ?_); first | refine loadA hL ?_ | refine loadR hL ?_ | refine loadC hL ?_ | refine loadD ?_ | refine loadE hL ?_ | refine loadF ?_) | ((with_reducible refine wpA_index rfl _ _ _ rfl _ rfl _ rfl ?_); first | (refine indexA ?_; try rw [Int.toNat_natCast]) | refine indexC ?_) | ((with_reducible refine wpA_store rfl _ _ _ rfl _ rfl (.agg _) rfl ?_); refine storeR hL ?_; clear hL; intro _ hL) | ((with_reducible first | refine wpA_store rfl _ _ _ rfl _ rfl (.int _ _) rfl ?_ | refine wpA_store rfl _ _ _ rfl _ rfl (.slice _ _ _) rfl ?_ | refine wpA_store rfl _ _ _ rfl _ rfl (.bool _) rfl ?_ | refine wpA_store rfl _ _ _ rfl _ rfl (.pointer _) rfl ?_ | refine wpA_store rfl _ _ _ rfl _ rfl (.func _ _ _) rfl ?_); (first | refine storeA hL ?_ | refine storeO hL ?_); (clear hL; intro _ hL)) | ((with_reducible refine wpA_lit rfl _ _ _ rfl ?_); first | refine litA1 hL ?_ | refine litA2 hL ?_ | refine litA3 hL ?_ | refine litA4 hL ?_ | refine litA6 hL ?_) | ((with_reducible refine wpA_append rfl _ _ _ rfl (.slice _ _ _) rfl ?_); intro vq hvq; simp [go_sem] at hvq; subst hvq; refine appendA hL ?_; clear hL; intro _ _ _ hL; try dsimp only at hL) | ((with_reducible refine wpA_make rfl _ _ _ rfl _ rfl rfl ?_); refine makeA hL ?_))
      go_loopw [12] (fun s12 wq => ∃ k : Nat, k ≤ W ∧ s12 = .int .i64 k ∧ Holds w wq [blk b4 #[.int .i64 W, .int .i64 H, .slice (some ⟨b3, 0, none⟩) (W * H) (W * H)] 43, blk b3 (arrU (W * H) (maskF W (upR p j k))) 5, blk b2 #[.int .i64 0, .int .i64 0, .slice none 0 0] 43, blk b1 #[.int .i64 wd, .int .i64 cap, .int .i64 join] 24] [])
        (fun s12 wq => W - (intOf s12).toNat)
      case atStart => exact ⟨0, by omega, rfl, hL⟩
      case round =>
        clear hL
        obtain ⟨k, hk, rfl, hL⟩ := hrel
        by_cases hkt : k < W
        · have hkb : (k : Int) < (W : Int) := by omega
          have hix : ((W : Int) * (j : Int) + (k : Int)).toNat = W * j + k := by omega
          have hi0 : 0 ≤ (W : Int) * (j : Int) + (k : Int) := by omega
          have hi1 : (W : Int) * (j : Int) + (k : Int) < (W : Int) * (H : Int) := by omega
          have hi2 : W * j + k < W * H := by omega
          have hwk : IntKind.i64.wrap ((W : Int) * (j : Int) + (k : Int)) = (W : Int) * (j : Int) + (k : Int) := by rw [IntKind.wrap_i64]; omega
          have HJW := Lib.hid hjw
          have HJC := Lib.hid hjc
          clear hjw hjc
          cases hp : p j k with
          | true =>
            have Hp := Lib.hid hp
            clear hp
            go_wp2_with (first | (go_at_call 13; (with_reducible refine (HI.out _ j k hL.below).mono ?_); rintro e _ ⟨rfl, hb⟩; rw [Hp.out]; replace hL := hL.call hb; clear hb) | (first | (clear hL n1; with_reducible intro b1 w1 hL) | (clear hL n2; with_reducible intro b2 w2 hL) | (clear hL n3; with_reducible intro b3 w3 hL) | (clear hL n4; with_reducible intro b4 w4 hL) | (clear hL; with_reducible intro _ _ hL)) | (with_reducible refine wpC_alloc rfl _ rfl _ _ inferInstance hL ?_) | (with_reducible first | refine wpB_agg rfl _ _ _ rfl rfl hL ?_ | refine wpB_one rfl _ _ (.int _ _) rfl rfl rfl hL ?_ | refine wpB_one rfl _ _ (.slice _ _ _) rfl rfl rfl hL ?_ | refine wpB_one rfl _ _ (.bool _) rfl rfl rfl hL ?_ | refine wpB_one rfl _ _ (.pointer _) rfl rfl rfl hL ?_ | refine wpB_one rfl _ _ (.func _ _ _) rfl rfl rfl hL ?_) | (with_reducible first | refine wpH_max rfl _ _ _ _ rfl _ _ rfl rfl ?_ | refine wpH_min rfl _ _ _ _ rfl _ _ rfl rfl ?_) | ((with_reducible refine wpA_load rfl _ _ rfl _ rfl ?_); first | refine loadA hL ?_ | refine loadR hL ?_ | refine loadC hL ?_ | refine loadD ?_ | refine loadE hL ?_ | refine loadF ?_) | ((with_reducible refine wpA_index rfl _ _ _ rfl _ rfl _ rfl ?_); first | (refine indexA ?_; try rw [Int.toNat_natCast]) | refine indexC ?_) | ((with_reducible refine wpA_store rfl _ _ _ rfl _ rfl (.agg _) rfl ?_); refine storeR hL ?_; clear hL; intro _ hL) | ((with_reducible first | refine wpA_store rfl _ _ _ rfl _ rfl (.int _ _) rfl ?_ | refine wpA_store rfl _ _ _ rfl _ rfl (.slice _ _ _) rfl ?_ | refine wpA_store rfl _ _ _ rfl _ rfl (.bool _) rfl ?_ | refine wpA_store rfl _ _ _ rfl _ rfl (.pointer _) rfl ?_ | refine wpA_store rfl _ _ _ rfl _ rfl (.func _ _ _) rfl ?_); (first | refine storeA hL ?_ | refine storeO hL ?_); (clear hL; intro _ hL)) | ((with_reducible refine wpA_lit rfl _ _ _ rfl ?_); first | refine litA1 hL ?_ | refine litA2 hL ?_ | refine litA3 hL ?_ | refine litA4 hL ?_ | refine litA6 hL ?_) | ((with_reducible refine wpA_append rfl _ _ _ rfl (.slice _ _ _) rfl ?_); intro vq hvq; simp [go_sem] at hvq; subst hvq; refine appendA hL ?_; clear hL; intro _ _ _ hL; try dsimp only at hL) | ((with_reducible refine wpA_make rfl _ _ _ rfl _ rfl rfl ?_); refine makeA hL ?_))
            go_roundw
            case rel =>
              rw [upR_set p hkt Hp.out] at hL
              exact ⟨k + 1, by omega, by go_num, hL⟩
            case measure => simp [intOf]; omega
          | false =>
            have Hp := Lib.hid hp
            clear hp
            go_wp2_with (first | (go_at_call 13; (with_reducible refine (HI.out _ j k hL.below).mono ?_); rintro e _ ⟨rfl, hb⟩; rw [Hp.out]; replace hL := hL.call hb; clear hb) | (first | (clear hL n1; with_reducible intro b1 w1 hL) | (clear hL n2; with_reducible intro b2 w2 hL) | (clear hL n3; with_reducible intro b3 w3 hL) | (clear hL n4; with_reducible intro b4 w4 hL) | (clear hL; with_reducible intro _ _ hL)) | (with_reducible refine wpC_alloc rfl _ rfl _ _ inferInstance hL ?_) | (with_reducible first | refine wpB_agg rfl _ _ _ rfl rfl hL ?_ | refine wpB_one rfl _ _ (.int _ _) rfl rfl rfl hL ?_ | refine wpB_one rfl _ _ (.slice _ _ _) rfl rfl rfl hL ?_ | refine wpB_one rfl _ _ (.bool _) rfl rfl rfl hL ?_ | refine wpB_one rfl _ _ (.pointer _) rfl rfl rfl hL ?_ | refine wpB_one rfl _ _ (.func _ _ _) rfl rfl rfl hL ?_) | (with_reducible first | refine wpH_max rfl _ _ _ _ rfl _ _ rfl rfl ?_ | refine wpH_min rfl _ _ _ _ rfl _ _ rfl rfl ?_) | ((with_reducible refine wpA_load rfl _ _ rfl _ rfl ?_); first | refine loadA hL ?_ | refine loadR hL ?_ | refine loadC hL ?_ | refine loadD ?_ | refine loadE hL ?_ | refine loadF ?_) | ((with_reducible refine wpA_index rfl _ _ _ rfl _ rfl _ rfl ?_); first | (refine indexA ?_; try rw [Int.toNat_natCast]) | refine indexC ?_) | ((with_reducible refine wpA_store rfl _ _ _ rfl _ rfl (.agg _) rfl ?_); refine storeR hL ?_; clear hL; intro _ hL) | ((with_reducible first | refine wpA_store rfl _ _ _ rfl _ rfl (.int _ _) rfl ?_ | refine wpA_store rfl _ _ _ rfl _ rfl (.slice _ _ _) rfl ?_ | refine wpA_store rfl _ _ _ rfl _ rfl (.bool _) rfl ?_ | refine wpA_store rfl _ _ _ rfl _ rfl (.pointer _) rfl ?_ | refine wpA_store rfl _ _ _ rfl _ rfl (.func _ _ _) rfl ?_); (first | refine storeA hL ?_ | refine storeO hL ?_); (clear hL; intro _ hL)) | ((with_reducible refine wpA_lit rfl _ _ _ rfl ?_); first | refine litA1 hL ?_ | refine litA2 hL ?_ | refine litA3 hL ?_ | refine litA4 hL ?_ | refine litA6 hL ?_) | ((with_reducible refine wpA_append rfl _ _ _ rfl (.slice _ _ _) rfl ?_); intro vq hvq; simp [go_sem] at hvq; subst hvq; refine appendA hL ?_; clear hL; intro _ _ _ hL; try dsimp only at hL) | ((with_reducible refine wpA_make rfl _ _ _ rfl _ rfl rfl ?_); refine makeA hL ?_))
            go_roundw
            case rel =>
              rw [upR_skip p Hp.out] at hL
              exact ⟨k + 1, by omega, by go_num, hL⟩
            case measure => simp [intOf]; omega
        · have e : W = k := by omega
          subst e
          go_wp2_with (first | (first | (clear hL n1; with_reducible intro b1 w1 hL) | (clear hL n2; with_reducible intro b2 w2 hL) | (clear hL n3; with_reducible intro b3 w3 hL) | (clear hL n4; with_reducible intro b4 w4 hL) | (clear hL; with_reducible intro _ _ hL)) | (with_reducible refine wpC_alloc rfl _ rfl _ _ inferInstance hL ?_) | (with_reducible first | refine wpB_agg rfl _ _ _ rfl rfl hL ?_ | refine wpB_one rfl _ _ (.int _ _) rfl rfl rfl hL ?_ | refine wpB_one rfl _ _ (.slice _ _ _) rfl rfl rfl hL ?_ | refine wpB_one rfl _ _ (.bool _) rfl rfl rfl hL ?_ | refine wpB_one rfl _ _ (.pointer _) rfl rfl rfl hL ?_ | refine wpB_one rfl _ _ (.func _ _ _) rfl rfl rfl hL ?_) | (with_reducible first | refine wpH_max rfl _ _ _ _ rfl _ _ rfl rfl ?_ | refine wpH_min rfl _ _ _ _ rfl _ _ rfl rfl ?_) | ((with_reducible refine wpA_load rfl _ _ rfl _ rfl ?_); first | refine loadA hL ?_ | refine loadR hL ?_ | refine loadC hL ?_ | refine loadD ?_ | refine loadE hL ?_ | refine loadF ?_) | ((with_reducible refine wpA_index rfl _ _ _ rfl _ rfl _ rfl ?_); first | (refine indexA ?_; try rw [Int.toNat_natCast]) | refine indexC ?_) | ((with_reducible refine wpA_store rfl _ _ _ rfl _ rfl (.agg _) rfl ?_); refine storeR hL ?_; clear hL; intro _ hL) | ((with_reducible first | refine wpA_store rfl _ _ _ rfl _ rfl (.int _ _) rfl ?_ | refine wpA_store rfl _ _ _ rfl _ rfl (.slice _ _ _) rfl ?_ | refine wpA_store rfl _ _ _ rfl _ rfl (.bool _) rfl ?_ | refine wpA_store rfl _ _ _ rfl _ rfl (.pointer _) rfl ?_ | refine wpA_store rfl _ _ _ rfl _ rfl (.func _ _ _) rfl ?_); (first | refine storeA hL ?_ | refine storeO hL ?_); (clear hL; intro _ hL)) | ((with_reducible refine wpA_lit rfl _ _ _ rfl ?_); first | refine litA1 hL ?_ | refine litA2 hL ?_ | refine litA3 hL ?_ | refine litA4 hL ?_ | refine litA6 hL ?_) | ((with_reducible refine wpA_append rfl _ _ _ rfl (.slice _ _ _) rfl ?_); intro vq hvq; simp [go_sem] at hvq; subst hvq; refine appendA hL ?_; clear hL; intro _ _ _ hL; try dsimp only at hL) | ((with_reducible refine wpA_make rfl _ _ _ rfl _ rfl rfl ?_); refine makeA hL ?_))
          go_roundw
          case rel =>
            rw [upR_row (by omega) p] at hL
            exact ⟨j + 1, by omega, by go_num, hL⟩
          case measure => simp [intOf]; omega
    · have e : H = j := by omega
      subst e
      go_wp2_with (first | (first | (clear hL n1; with_reducible intro b1 w1 hL) | (clear hL n2; with_reducible intro b2 w2 hL) | (clear hL n3; with_reducible intro b3 w3 hL) | (clear hL n4; with_reducible intro b4 w4 hL) | (clear hL; with_reducible intro _ _ hL)) | (with_reducible refine wpC_alloc rfl _ rfl _ _ inferInstance hL ?_) | (with_reducible first | refine wpB_agg rfl _ _ _ rfl rfl hL ?_ | refine wpB_one rfl _ _ (.int _ _) rfl rfl rfl hL ?_ | refine wpB_one rfl _ _ (.slice _ _ _) rfl rfl rfl hL ?_ | refine wpB_one rfl _ _ (.bool _) rfl rfl rfl hL ?_ | refine wpB_one rfl _ _ (.pointer _) rfl rfl rfl hL ?_ | refine wpB_one rfl _ _ (.func _ _ _) rfl rfl rfl hL ?_) | (with_reducible first | refine wpH_max rfl _ _ _ _ rfl _ _ rfl rfl ?_ | refine wpH_min rfl _ _ _ _ rfl _ _ rfl rfl ?_) | ((with_reducible refine wpA_load rfl _ _ rfl _ rfl ?_); first | refine loadA hL ?_ | refine loadR hL ?_ | refine loadC hL ?_ | refine loadD ?_ | refine loadE hL ?_ | refine loadF ?_) | ((with_reducible refine wpA_index rfl _ _ _ rfl _ rfl _ rfl ?_); first | (refine indexA ?_; try rw [Int.toNat_natCast]) | refine indexC ?_) | ((with_reducible refine wpA_store rfl _ _ _ rfl _ rfl (.agg _) rfl ?_); refine storeR hL ?_; clear hL; intro _ hL) | ((with_reducible first | refine wpA_store rfl _ _ _ rfl _ rfl (.int _ _) rfl ?_ | refine wpA_store rfl _ _ _ rfl _ rfl (.slice _ _ _) rfl ?_ | refine wpA_store rfl _ _ _ rfl _ rfl (.bool _) rfl ?_ | refine wpA_store rfl _ _ _ rfl _ rfl (.pointer _) rfl ?_ | refine wpA_store rfl _ _ _ rfl _ rfl (.func _ _ _) rfl ?_); (first | refine storeA hL ?_ | refine storeO hL ?_); (clear hL; intro _ hL)) | ((with_reducible refine wpA_lit rfl _ _ _ rfl ?_); first | refine litA1 hL ?_ | refine litA2 hL ?_ | refine litA3 hL ?_ | refine litA4 hL ?_ | refine litA6 hL ?_) | ((with_reducible refine wpA_append rfl _ _ _ rfl (.slice _ _ _) rfl ?_); intro vq hvq; simp [go_sem] at hvq; subst hvq; refine appendA hL ?_; clear hL; intro _ _ _ hL; try dsimp only at hL) | ((with_reducible refine wpA_make rfl _ _ _ rfl _ rfl rfl ?_); refine makeA hL ?_))
      refine bodyPost_ret (results_row2 inferInstance rfl _ hL b2 rfl _ _ (.there (.there .here)) rfl) rfl ⟨some ⟨b3, 0, none⟩, rfl, hL.below, ?_⟩
      refine ((hL.settle (.there .here) (φ := fun w => w.heap[b3]? = some (.cells (arrU (W * H) (maskF W (upR p H 0))) 5 (0, 0))) fun _ h => h).map fun w' h1 => ?_).fresh
      refine ⟨_, rfl, ?_⟩
      have := bytes_of h1 (by unfold maxLen; omega)
      rwa [upR_all] at this
theorem four_bools : ∀ b0 b1 b2 b3 : Bool, (b0 && (b1 && (b2 && b3))) = false → b0 = false ∨ (b0 = true ∧ b1 = false) ∨ (b0 = true ∧ b1 = true ∧ b2 = false) ∨ (b0 = true ∧ b1 = true ∧ b2 = true ∧ b3 = false) := by decide
set_option maxRecDepth 100000 in
set_option maxHeartbeats 4000000 in
theorem rMask33_no (w : World) (v : Value) (l : List Sg) (hv : SegsAt w v l) (s : Sty) (Wi Hi : Int) (h : (straightS l && (mayY s && (isSide Wi && isSide Hi))) = false) :
    Calls Try.prog 18 #[v, .agg #[.int .i64 s.wide, .int .i64 s.cap, .int .i64 s.join], .int .i64 Wi, .int .i64 Hi] w fun e w' => e = .returned (.tuple #[.agg #[.int .i64 0, .int .i64 0, .slice none 0 0], .int .i64 1]) ∧ Below w.heap.size w w' := by
  have Hv := Lib.hid hv
  obtain ⟨a, cap0, rfl, _⟩ := hv.parts
  clear hv
  have HPl := Lib.hid (fun w' (hb : Below w.heap.size w w') => rStraight_calls w' (.slice a l.length cap0) l (SliceAt.below Hv.out hb))
  have HMy := Lib.hid (fun w => rMayY_calls s w)
  have HSw := Lib.hid (fun w => refSide_calls Wi w)
  have HSh := Lib.hid (fun w => refSide_calls Hi w)
  have hL := Holds.start w
  generalize straightS l = b0 at *
  generalize mayY s = b1 at *
  generalize isSide Wi = b2 at *
  generalize isSide Hi = b3 at *
  obtain ⟨wd, cap, join⟩ := s
  dsimp only at *
  rcases four_bools b0 b1 b2 b3 h with rfl | ⟨rfl, rfl⟩ | ⟨rfl, rfl, rfl⟩ | ⟨rfl, rfl, rfl, rfl⟩
  all_goals
    clear h
    have n1 : True := trivial; have n2 : True := trivial
    go_enter Try.func18, Try.ntmps18
    go_wp2_with (first | (go_at_call 40; (with_reducible refine (HPl.out _ hL.below).mono ?_); rintro e _ ⟨rfl, hb⟩; replace hL := hL.call hb; clear hb) | (go_at_call 41; (with_reducible refine (HMy.out _).mono ?_); rintro e _ ⟨rfl, hb⟩; replace hL := hL.call hb; clear hb) | (go_at_call 49; (with_reducible first | refine (HSw.out _).mono ?_ | refine (HSh.out _).mono ?_); rintro e _ ⟨rfl, rfl⟩) | (first | (clear hL n1; with_reducible intro b1 w1 hL) | (clear hL n2; with_reducible intro b2 w2 hL) | (clear hL; with_reducible intro _ _ hL)) | (with_reducible refine wpC_alloc rfl _ rfl _ _ inferInstance hL ?_) | (with_reducible first | refine wpB_agg rfl _ _ _ rfl rfl hL ?_ | refine wpB_one rfl _ _ (.int _ _) rfl rfl rfl hL ?_ | refine wpB_one rfl _ _ (.slice _ _ _) rfl rfl rfl hL ?_ | refine wpB_one rfl _ _ (.bool _) rfl rfl rfl hL ?_ | refine wpB_one rfl _ _ (.pointer _) rfl rfl rfl hL ?_ | refine wpB_one rfl _ _ (.func _ _ _) rfl rfl rfl hL ?_) | (with_reducible first | refine wpH_max rfl _ _ _ _ rfl _ _ rfl rfl ?_ | refine wpH_min rfl _ _ _ _ rfl _ _ rfl rfl ?_) | ((with_reducible refine wpA_load rfl _ _ rfl _ rfl ?_); first | refine loadA hL ?_ | refine loadR hL ?_ | refine loadC hL ?_ | refine loadD ?_ | refine loadE hL ?_ | refine loadF ?_) | ((with_reducible refine wpA_index rfl _ _ _ rfl _ rfl _ rfl ?_); first | (refine indexA ?_; try rw [Int.toNat_natCast]) | refine indexC ?_) | ((with_reducible refine wpA_store rfl _ _ _ rfl _ rfl (.agg _) rfl ?_); refine storeR hL ?_; clear hL; intro _ hL) | ((with_reducible first | refine wpA_store rfl _ _ _ rfl _ rfl (.int _ _) rfl ?_ | refine wpA_store rfl _ _ _ rfl _ rfl (.slice _ _ _) rfl ?_ | refine wpA_store rfl _ _ _ rfl _ rfl (.bool _) rfl ?_ | refine wpA_store rfl _ _ _ rfl _ rfl (.pointer _) rfl ?_ | refine wpA_store rfl _ _ _ rfl _ rfl (.func _ _ _) rfl ?_); (first | refine storeA hL ?_ | refine storeO hL ?_); (clear hL; intro _ hL)) | ((with_reducible refine wpA_lit rfl _ _ _ rfl ?_); first | refine litA1 hL ?_ | refine litA2 hL ?_ | refine litA3 hL ?_ | refine litA4 hL ?_ | refine litA6 hL ?_) | ((with_reducible refine wpA_append rfl _ _ _ rfl (.slice _ _ _) rfl ?_); intro vq hvq; simp [go_sem] at hvq; subst hvq; refine appendA hL ?_; clear hL; intro _ _ _ hL; try dsimp only at hL) | ((with_reducible refine wpA_make rfl _ _ _ rfl _ rfl rfl ?_); refine makeA hL ?_))
    refine bodyPost_ret (results_row2 inferInstance rfl _ hL b2 rfl _ _ .here rfl) rfl ⟨rfl, hL.below⟩
end Go.Proofs.Ytfnolaoohmecbaa
