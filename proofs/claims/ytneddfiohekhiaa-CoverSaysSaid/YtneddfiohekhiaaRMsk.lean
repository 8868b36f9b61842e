/- The document's Fair and Mask. -/
import Derived.Test.YtneddfiohekhiaaREdg
import Derived.Test.YtneddfiohekhiaaR26
import Derived.Test.YtneddfiohekhiaaMskM
import Derived.Test.YtneddfiohekhiaaWSays
-- uses arrU
-- lit6
namespace Go.Proofs.Ytneddfiohekhiaa
open Go.RowKit

def fairS (l : List Sg) (rule wi hi : Int) : Bool := pathMay l && (rule == 0 || rule == 1) && isSide wi && isSide hi
set_option maxRecDepth 100000 in
set_option maxHeartbeats 8000000 in
theorem rFair_calls (w : World) (v : Value) (l : List Sg) (hv : SegsAt w v l) (rule wi hi : Int) :
    Calls Try.prog 42 #[v, .int .i64 rule, .int .i64 wi, .int .i64 hi] w fun e w' => e = .returned (.bool (fairS l rule wi hi)) ∧ Below w.heap.size w w' := by
  have Hv := Lib.hid hv
  obtain ⟨a, cap, rfl, _⟩ := hv.parts
  clear hv
  have hL := Holds.start w
  have HR := Lib.hid (show fairS l rule wi hi = (pathMay l && (rule == 0 || rule == 1) && isSide wi && isSide hi) from rfl)
  have HPM := Lib.hid (fun w' hv' => rMay_calls w' (.slice a l.length cap) l hv')
  have HSW := Lib.hid (fun w' => refSide_calls wi w')
  have HSH := Lib.hid (fun w' => refSide_calls hi w')
  generalize fairS l rule wi hi = R at *
  generalize pathMay l = pm at *
  generalize isSide wi = sw at *
  generalize isSide hi = sh at *
  cases pm with
  | false =>
    go_enter Try.func42, Try.ntmps42
    go_wp2_with (first | (go_at_call 62; (with_reducible refine (HPM.out _ (Hv.out.hold hL)).mono ?_); rintro e _ ⟨rfl, hb⟩; replace hL := hL.call hb; clear hb) | ((clear hL; with_reducible intro _ _ hL)) | (with_reducible refine wpC_alloc rfl _ rfl _ _ inferInstance hL ?_) | (with_reducible first | refine wpB_agg rfl _ _ _ rfl rfl hL ?_ | refine wpB_one rfl _ _ (.int _ _) rfl rfl rfl hL ?_ | refine wpB_one rfl _ _ (.slice _ _ _) rfl rfl rfl hL ?_ | refine wpB_one rfl _ _ (.bool _) rfl rfl rfl hL ?_ | refine wpB_one rfl _ _ (.pointer _) rfl rfl rfl hL ?_ | refine wpB_one rfl _ _ (.func _ _ _) rfl rfl rfl hL ?_) | (with_reducible first | refine wpH_max rfl _ _ _ _ rfl _ _ rfl rfl ?_ | refine wpH_min rfl _ _ _ _ rfl _ _ rfl rfl ?_) | ((with_reducible refine wpA_load rfl _ _ rfl _ rfl ?_); first | refine loadA hL ?_ | refine loadR hL ?_ | refine loadC hL ?_ | refine loadD ?_ | refine loadE hL ?_ | refine loadF ?_) | ((with_reducible refine wpA_index rfl _ _ _ rfl _ rfl _ rfl ?_); first | (refine indexA ?_; try rw [Int.toNat_natCast]) | refine indexC ?_) | ((with_reducible refine wpA_store rfl _ _ _ rfl _ rfl (.agg _) rfl ?_); refine storeR hL ?_; clear hL; intro _ hL) | ((with_reducible first | refine wpA_store rfl _ _ _ rfl _ rfl (.int _ _) rfl ?_ | refine wpA_store rfl _ _ _ rfl _ rfl (.slice _ _ _) rfl ?_ | refine wpA_store rfl _ _ _ rfl _ rfl (.bool _) rfl ?_ | refine wpA_store rfl _ _ _ rfl _ rfl (.pointer _) rfl ?_ | refine wpA_store rfl _ _ _ rfl _ rfl (.func _ _ _) rfl ?_); (first | refine storeA hL ?_ | refine storeO hL ?_); (clear hL; intro _ hL)) | ((with_reducible refine wpA_lit rfl _ _ _ rfl ?_); first | refine litA1 hL ?_ | refine litA2 hL ?_ | refine litA3 hL ?_ | refine litA4 hL ?_ | refine litA6 hL ?_) | ((with_reducible refine wpA_append rfl _ _ _ rfl (.slice _ _ _) rfl ?_); intro vq hvq; simp [go_sem] at hvq; subst hvq; refine appendA hL ?_; clear hL; intro _ _ _ hL; try dsimp only at hL) | ((with_reducible refine wpA_make rfl _ _ _ rfl _ rfl rfl ?_); refine makeA hL ?_))
    go_ret
    exact ⟨ret_bool (by rw [HR.out]; rfl), hL.below⟩
  | true =>
    have hrr : (rule == 0) = true ∨ ((rule == 0) = false ∧ (rule == 1) = true) ∨ ((rule == 0) = false ∧ (rule == 1) = false) := by cases rule == 0 <;> cases rule == 1 <;> simp
    have hsd : (sw = false) ∨ (sw = true ∧ sh = false) ∨ (sw = true ∧ sh = true) := by cases sw <;> cases sh <;> simp
    rcases hrr with h0 | ⟨h0, h1⟩ | ⟨h0, h1⟩
    · rw [h0] at HR
      rcases hsd with h2 | ⟨h2, h3⟩ | ⟨h2, h3⟩
      all_goals
        subst h2
        try subst h3
        go_enter Try.func42, Try.ntmps42
        go_wp2_with (first | (go_at_call 62; (with_reducible refine (HPM.out _ (Hv.out.hold hL)).mono ?_); rintro e _ ⟨rfl, hb⟩; replace hL := hL.call hb; clear hb) | (go_at_call 55; first | ((with_reducible refine (HSW.out _).mono ?_); rintro e _ ⟨rfl, rfl⟩) | ((with_reducible refine (HSH.out _).mono ?_); rintro e _ ⟨rfl, rfl⟩)) | ((clear hL; with_reducible intro _ _ hL)) | (with_reducible refine wpC_alloc rfl _ rfl _ _ inferInstance hL ?_) | (with_reducible first | refine wpB_agg rfl _ _ _ rfl rfl hL ?_ | refine wpB_one rfl _ _ (.int _ _) rfl rfl rfl hL ?_ | refine wpB_one rfl _ _ (.slice _ _ _) rfl rfl rfl hL ?_ | refine wpB_one rfl _ _ (.bool _) rfl rfl rfl hL ?_ | refine wpB_one rfl _ _ (.pointer _) rfl rfl rfl hL ?_ | refine wpB_one rfl _ _ (.func _ _ _) rfl rfl rfl hL ?_) | (with_reducible first | refine wpH_max rfl _ _ _ _ rfl _ _ rfl rfl ?_ | refine wpH_min rfl _ _ _ _ rfl _ _ rfl rfl ?_) | ((with_reducible refine wpA_load rfl _ _ rfl _ rfl ?_); first | refine loadA hL ?_ | refine loadR hL ?_ | refine loadC hL ?_ | refine loadD ?_ | refine loadE hL ?_ | refine loadF ?_) | ((with_reducible refine wpA_index rfl _ _ _ rfl _ rfl _ rfl ?_); first | (refine indexA ?_; try rw [Int.toNat_natCast]) | refine indexC ?_) | ((with_reducible refine wpA_store rfl _ _ _ rfl _ rfl (.agg _) rfl ?_); refine storeR hL ?_; clear hL; intro _ hL) | ((with_reducible first | refine wpA_store rfl _ _ _ rfl _ rfl (.int _ _) rfl ?_ | refine wpA_store rfl _ _ _ rfl _ rfl (.slice _ _ _) rfl ?_ | refine wpA_store rfl _ _ _ rfl _ rfl (.bool _) rfl ?_ | refine wpA_store rfl _ _ _ rfl _ rfl (.pointer _) rfl ?_ | refine wpA_store rfl _ _ _ rfl _ rfl (.func _ _ _) rfl ?_); (first | refine storeA hL ?_ | refine storeO hL ?_); (clear hL; intro _ hL)) | ((with_reducible refine wpA_lit rfl _ _ _ rfl ?_); first | refine litA1 hL ?_ | refine litA2 hL ?_ | refine litA3 hL ?_ | refine litA4 hL ?_ | refine litA6 hL ?_) | ((with_reducible refine wpA_append rfl _ _ _ rfl (.slice _ _ _) rfl ?_); intro vq hvq; simp [go_sem] at hvq; subst hvq; refine appendA hL ?_; clear hL; intro _ _ _ hL; try dsimp only at hL) | ((with_reducible refine wpA_make rfl _ _ _ rfl _ rfl rfl ?_); refine makeA hL ?_))
        go_ret
        exact ⟨ret_bool (by rw [HR.out]; rfl), hL.below⟩
    · rw [h0, h1] at HR
      rcases hsd with h2 | ⟨h2, h3⟩ | ⟨h2, h3⟩
      all_goals
        subst h2
        try subst h3
        go_enter Try.func42, Try.ntmps42
        go_wp2_with (first | (go_at_call 62; (with_reducible refine (HPM.out _ (Hv.out.hold hL)).mono ?_); rintro e _ ⟨rfl, hb⟩; replace hL := hL.call hb; clear hb) | (go_at_call 55; first | ((with_reducible refine (HSW.out _).mono ?_); rintro e _ ⟨rfl, rfl⟩) | ((with_reducible refine (HSH.out _).mono ?_); rintro e _ ⟨rfl, rfl⟩)) | ((clear hL; with_reducible intro _ _ hL)) | (with_reducible refine wpC_alloc rfl _ rfl _ _ inferInstance hL ?_) | (with_reducible first | refine wpB_agg rfl _ _ _ rfl rfl hL ?_ | refine wpB_one rfl _ _ (.int _ _) rfl rfl rfl hL ?_ | refine wpB_one rfl _ _ (.slice _ _ _) rfl rfl rfl hL ?_ | refine wpB_one rfl _ _ (.bool _) rfl rfl rfl hL ?_ | refine wpB_one rfl _ _ (.pointer _) rfl rfl rfl hL ?_ | refine wpB_one rfl _ _ (.func _ _ _) rfl rfl rfl hL ?_) | (with_reducible first | refine wpH_max rfl _ _ _ _ rfl _ _ rfl rfl ?_ | refine wpH_min rfl _ _ _ _ rfl _ _ rfl rfl ?_) | ((with_reducible refine wpA_load rfl _ _ rfl _ rfl ?_); first | refine loadA hL ?_ | refine loadR hL ?_ | refine loadC hL ?_ | refine loadD ?_ | refine loadE hL ?_ | refine loadF ?_) | ((with_reducible refine wpA_index rfl _ _ _ rfl _ rfl _ rfl ?_); first | (refine indexA ?_; try rw [Int.toNat_natCast]) | refine indexC ?_) | ((with_reducible refine wpA_store rfl _ _ _ rfl _ rfl (.agg _) rfl ?_); refine storeR hL ?_; clear hL; intro _ hL) | ((with_reducible first | refine wpA_store rfl _ _ _ rfl _ rfl (.int _ _) rfl ?_ | refine wpA_store rfl _ _ _ rfl _ rfl (.slice _ _ _) rfl ?_ | refine wpA_store rfl _ _ _ rfl _ rfl (.bool _) rfl ?_ | refine wpA_store rfl _ _ _ rfl _ rfl (.pointer _) rfl ?_ | refine wpA_store rfl _ _ _ rfl _ rfl (.func _ _ _) rfl ?_); (first | refine storeA hL ?_ | refine storeO hL ?_); (clear hL; intro _ hL)) | ((with_reducible refine wpA_lit rfl _ _ _ rfl ?_); first | refine litA1 hL ?_ | refine litA2 hL ?_ | refine litA3 hL ?_ | refine litA4 hL ?_ | refine litA6 hL ?_) | ((with_reducible refine wpA_append rfl _ _ _ rfl (.slice _ _ _) rfl ?_); intro vq hvq; simp [go_sem] at hvq; subst hvq; refine appendA hL ?_; clear hL; intro _ _ _ hL; try dsimp only at hL) | ((with_reducible refine wpA_make rfl _ _ _ rfl _ rfl rfl ?_); refine makeA hL ?_))
        go_ret
        exact ⟨ret_bool (by rw [HR.out]; rfl), hL.below⟩
    · rw [h0, h1] at HR
      clear hsd
      go_enter Try.func42, Try.ntmps42
      go_wp2_with (first | (go_at_call 62; (with_reducible refine (HPM.out _ (Hv.out.hold hL)).mono ?_); rintro e _ ⟨rfl, hb⟩; replace hL := hL.call hb; clear hb) | ((clear hL; with_reducible intro _ _ hL)) | (with_reducible refine wpC_alloc rfl _ rfl _ _ inferInstance hL ?_) | (with_reducible first | refine wpB_agg rfl _ _ _ rfl rfl hL ?_ | refine wpB_one rfl _ _ (.int _ _) rfl rfl rfl hL ?_ | refine wpB_one rfl _ _ (.slice _ _ _) rfl rfl rfl hL ?_ | refine wpB_one rfl _ _ (.bool _) rfl rfl rfl hL ?_ | refine wpB_one rfl _ _ (.pointer _) rfl rfl rfl hL ?_ | refine wpB_one rfl _ _ (.func _ _ _) rfl rfl rfl hL ?_) | (with_reducible first | refine wpH_max rfl _ _ _ _ rfl _ _ rfl rfl ?_ | refine wpH_min rfl _ _ _ _ rfl _ _ rfl rfl ?_) | ((with_reducible refine wpA_load rfl _ _ rfl _ rfl ?_); first | refine loadA hL ?_ | refine loadR hL ?_ | refine loadC hL ?_ | refine loadD ?_ | refine loadE hL ?_ | refine loadF ?_) | ((with_reducible refine wpA_index rfl _ _ _ rfl _ rfl _ rfl ?_); first | (refine indexA ?_; try rw [Int.toNat_natCast]) | refine indexC ?_) | ((with_reducible refine wpA_store rfl _ _ _ rfl _ rfl (.agg _) rfl ?_); refine storeR hL ?_; clear hL; intro _ hL) | ((with_reducible first | refine wpA_store rfl _ _ _ rfl _ rfl (.int _ _) rfl ?_ | refine wpA_store rfl _ _ _ rfl _ rfl (.slice _ _ _) rfl ?_ | refine wpA_store rfl _ _ _ rfl _ rfl (.bool _) rfl ?_ | refine wpA_store rfl _ _ _ rfl _ rfl (.pointer _) rfl ?_ | refine wpA_store rfl _ _ _ rfl _ rfl (.func _ _ _) rfl ?_); (first | refine storeA hL ?_ | refine storeO hL ?_); (clear hL; intro _ hL)) | ((with_reducible refine wpA_lit rfl _ _ _ rfl ?_); first | refine litA1 hL ?_ | refine litA2 hL ?_ | refine litA3 hL ?_ | refine litA4 hL ?_ | refine litA6 hL ?_) | ((with_reducible refine wpA_append rfl _ _ _ rfl (.slice _ _ _) rfl ?_); intro vq hvq; simp [go_sem] at hvq; subst hvq; refine appendA hL ?_; clear hL; intro _ _ _ hL; try dsimp only at hL) | ((with_reducible refine wpA_make rfl _ _ _ rfl _ rfl rfl ?_); refine makeA hL ?_))
      go_ret
      exact ⟨ret_bool (by rw [HR.out]; rfl), hL.below⟩
/-- the pixels ahead of one, row by row -/
def upF (p : Nat → Nat → Bool) (j k r c : Nat) : Bool := (decide (r < j) || (decide (r = j) && decide (c < k))) && p r c
theorem upF_zero {W n : Nat} (p : Nat → Nat → Bool) : arrU n (fun _ => 0) = arrU n (maskF W (upF p 0 0)) := arrU_congr fun x _ => by simp [maskF, upF, bit]
theorem upF_at {W j k x : Nat} (hk : k < W) (h : x = W * j + k) : x / W = j ∧ x % W = k := by
  subst h
  exact ⟨by rw [Nat.mul_add_div (by omega), Nat.div_eq_of_lt hk, Nat.add_zero], by rw [Nat.mul_add_mod, Nat.mod_eq_of_lt hk]⟩
theorem upF_off {W j k x : Nat} (h : ¬ x = W * j + k) : ¬ (x / W = j ∧ x % W = k) := fun ⟨h1, h2⟩ => h (by
  have := Nat.div_add_mod x W
  rw [h1, h2] at this; exact this.symm)
theorem upF_next (p : Nat → Nat → Bool) {j k r c : Nat} (h : ¬ (r = j ∧ c = k)) : upF p j (k + 1) r c = upF p j k r c := by
  unfold upF
  by_cases hr : r = j
  · have : c < k + 1 ↔ c < k := by
      have : ¬ c = k := fun e => h ⟨hr, e⟩
      omega
    simp [this]
  · simp [hr]
theorem upF_set {W n j k : Nat} (p : Nat → Nat → Bool) (hk : k < W) (h : p j k = true) : arrU n (fun x => if x = W * j + k then 1 else maskF W (upF p j k) x) = arrU n (maskF W (upF p j (k + 1))) := by
  refine arrU_congr fun x _ => ?_
  unfold maskF
  by_cases hx : x = W * j + k
  · obtain ⟨h1, h2⟩ := upF_at hk hx
    rw [if_pos hx, h1, h2]
    simp [upF, h, bit]
  · rw [if_neg hx, upF_next p (upF_off hx)]
theorem upF_skip {W n j k : Nat} (p : Nat → Nat → Bool) (h : p j k = false) : arrU n (maskF W (upF p j k)) = arrU n (maskF W (upF p j (k + 1))) := by
  refine arrU_congr fun x _ => ?_
  unfold maskF
  by_cases hx : x / W = j ∧ x % W = k
  · rw [hx.1, hx.2]
    simp [upF, h]
  · rw [upF_next p hx]
theorem upF_row {W n j : Nat} (hW : 0 < W) (p : Nat → Nat → Bool) : arrU n (maskF W (upF p j W)) = arrU n (maskF W (upF p (j + 1) 0)) := by
  refine arrU_congr fun x _ => ?_
  unfold maskF upF
  have hm := Nat.mod_lt x hW
  have e : (decide (x / W < j) || (decide (x / W = j) && decide (x % W < W))) = (decide (x / W < j + 1) || (decide (x / W = j + 1) && decide (x % W < 0))) := by
    rw [decide_eq_true hm]
    generalize x / W = r
    rcases Nat.lt_trichotomy r j with h | h | h
    · rw [decide_eq_true h, decide_eq_true (show r < j + 1 by omega)]; rfl
    · rw [decide_eq_true h, decide_eq_true (show r < j + 1 by omega)]; simp
    · rw [decide_eq_false (show ¬ r < j by omega), decide_eq_false (show ¬ r = j by omega), decide_eq_false (show ¬ r < j + 1 by omega)]; simp
  rw [e]
theorem upF_all {W H : Nat} (p : Nat → Nat → Bool) : (List.range (W * H)).map (maskF W (upF p H 0)) = (pixMask W H p).B := by
  unfold pixMask
  refine List.map_congr_left fun x hx => ?_
  have hx : x < W * H := by simpa using hx
  have hd : x / W < H := Nat.div_lt_of_lt_mul hx
  simp [maskF, upF, bit, hd]
set_option maxRecDepth 100000 in
set_option maxHeartbeats 8000000 in
theorem rMask_calls {W H : Nat} (hs : Sides W H) (w : World) (v : Value) (l : List Sg) (hv : SegsAt w v l) (hm : pathMay l = true) (rule : Int) (hr : rule = 0 ∨ rule = 1) :
    Calls Try.prog 15 #[v, .int .i64 rule, .int .i64 W, .int .i64 H] w (MaskOut W H (fun j i => isIn rule (windG (edgesS l) (16 * (i : Int) + 8) (16 * (j : Int) + 8))) w) := by
  have Hv := Lib.hid hv
  obtain ⟨a, cap, rfl, _⟩ := hv.parts
  clear hv
  obtain ⟨m1, m2, m3⟩ := mask_bounds hs
  have hw0 := hs.w0; have hw1 := hs.w1; have hh0 := hs.h0; have hh1 := hs.h1
  have hf : fairS l rule W H = true := by
    unfold fairS
    rw [hm, side_nat hs.w0 hs.w1, side_nat hs.h0 hs.h1]
    rcases hr with h | h <;> subst h <;> rfl
  have HF := Lib.hid (fun w' hv' => hf ▸ rFair_calls w' (.slice a l.length cap) l hv' rule W H)
  clear hf hm hr
  have hlen : (edgesS l).length ≤ 1152921504606846976 := Nat.le_trans (edgesS_len l) (by omega)
  have HE := Lib.hid (fun w' hv => rEdges_calls w' (.slice a l.length cap) l hv)
  generalize edgesS l = E at *
  have hi : ∀ w' ve (j i : Nat), EdgesAt w' ve E → Calls Try.prog 44 #[ve, .int .i64 rule, .int .i64 (16 * (i : Int) + 8), .int .i64 (16 * (j : Int) + 8)] w' fun r w'' => r = .returned (.bool ((fun j i : Nat => isIn rule (windG E (16 * (i : Int) + 8) (16 * (j : Int) + 8))) j i)) ∧ Below w'.heap.size w' w'' := fun w' ve j i hv => rIn_calls w' ve E hv hlen rule _ _
  generalize (fun j i : Nat => isIn rule (windG E (16 * (i : Int) + 8) (16 * (j : Int) + 8))) = p at *
  have HI := Lib.hid hi
  clear hi hlen
  have hL := Holds.start w
  have hwr : IntKind.i64.wrap ((W : Int) * (H : Int)) = (W : Int) * (H : Int) := by rw [IntKind.wrap_i64]; omega
  have n1 : True := trivial; have n2 : True := trivial; have n3 : True := trivial
  go_enter Try.func15, Try.ntmps15
  go_wp2_with (first | (go_at_call 42; (with_reducible refine (HF.out _ (Hv.out.hold hL)).mono ?_); rintro e _ ⟨rfl, hb⟩; replace hL := hL.call hb; clear hb) | ((with_reducible refine wpA_make rfl _ _ _ rfl _ rfl rfl ?_); refine makeU (W * H) (by omega) (by simp) hL ?_) | (go_at_call 43; (with_reducible refine (HE.out _ (Hv.out.hold hL)).mono ?_); rintro e _ ⟨ve, rfl, hb, hf⟩; obtain ⟨ea, ec, rfl, _⟩ := EdgesAt.parts hf.now; replace hL := hL.callF hb hf; clear hb hf) | (first | (clear hL n1; with_reducible intro b1 w1 hL) | (clear hL n2; with_reducible intro b2 w2 hL) | (clear hL n3; with_reducible intro b3 w3 hL) | (clear hL; with_reducible intro _ _ hL)) | (with_reducible refine wpC_alloc rfl _ rfl _ _ inferInstance hL ?_) | (with_reducible first | refine wpB_agg rfl _ _ _ rfl rfl hL ?_ | refine wpB_one rfl _ _ (.int _ _) rfl rfl rfl hL ?_ | refine wpB_one rfl _ _ (.slice _ _ _) rfl rfl rfl hL ?_ | refine wpB_one rfl _ _ (.bool _) rfl rfl rfl hL ?_ | refine wpB_one rfl _ _ (.pointer _) rfl rfl rfl hL ?_ | refine wpB_one rfl _ _ (.func _ _ _) rfl rfl rfl hL ?_) | (with_reducible first | refine wpH_max rfl _ _ _ _ rfl _ _ rfl rfl ?_ | refine wpH_min rfl _ _ _ _ rfl _ _ rfl rfl ?_) | ((with_reducible refine wpA_load rfl _ _ rfl _ rfl ?_); first | refine loadA hL ?_ | refine loadR hL ?_ | refine loadC hL ?_ | refine loadD ?_ | refine loadE hL ?_ | refine loadF ?_) | ((with_reducible refine wpA_index rfl _ _ _ rfl _ rfl _ rfl ?_); first | (refine indexA ?_; try rw [Int.toNat_natCast]) | refine indexC ?_) | ((with_reducible refine wpA_store rfl _ _ _ rfl _ rfl (.agg _) rfl ?_); refine storeR hL ?_; clear hL; intro _ hL) | ((with_reducible first | refine wpA_store rfl _ _ _ rfl _ rfl (.int _ _) rfl ?_ | refine wpA_store rfl _ _ _ rfl _ rfl (.slice _ _ _) rfl ?_ | refine wpA_store rfl _ _ _ rfl _ rfl (.bool _) rfl ?_ | refine wpA_store rfl _ _ _ rfl _ rfl (.pointer _) rfl ?_ | refine wpA_store rfl _ _ _ rfl _ rfl (.func _ _ _) rfl ?_); (first | refine storeA hL ?_ | refine storeO hL ?_); (clear hL; intro _ hL)) | ((with_reducible refine wpA_lit rfl _ _ _ rfl ?_); first | refine litA1 hL ?_ | refine litA2 hL ?_ | refine litA3 hL ?_ | refine litA4 hL ?_ | refine litA6 hL ?_) | ((with_reducible refine wpA_append rfl _ _ _ rfl (.slice _ _ _) rfl ?_); intro vq hvq; simp [go_sem] at hvq; subst hvq; refine appendA hL ?_; clear hL; intro _ _ _ hL; try dsimp only at hL) | ((with_reducible refine wpA_make rfl _ _ _ rfl _ rfl rfl ?_); refine makeA hL ?_))
  rw [upF_zero (W := W) p] at hL
  go_loopw [12] (fun s12 wr => ∃ j : Nat, j ≤ H ∧ s12 = .int .i64 j ∧ Holds w wr [blk b3 #[.int .i64 W, .int .i64 H, .slice (some ⟨b2, 0, none⟩) (W * H) (W * H)] 26, blk b2 (arrU (W * H) (maskF W (upF p j 0))) 5, blk b1 #[.int .i64 0, .int .i64 0, .slice none 0 0] 26] [fun w => EdgesAt w (.slice ea E.length ec) E])
    (fun s12 wr => H - (intOf s12).toNat)
  case atStart => exact ⟨0, by omega, rfl, hL⟩
  case round =>
    clear hL
    obtain ⟨j, hj, rfl, hL⟩ := hrel
    by_cases hjt : j < H
    · have hjb : (j : Int) < (H : Int) := by omega
      have hfit : j * W + W ≤ W * H := by
        have := Nat.mul_le_mul_right W (show j + 1 ≤ H by omega)
        rw [Nat.add_mul, Nat.mul_comm H W] at this
        omega
      have hjw : (W : Int) * (j : Int) = ((W * j : Nat) : Int) := by simp
      have hjc : W * j = j * W := Nat.mul_comm _ _
      have hwj : IntKind.i64.wrap ((W : Int) * (j : Int)) = (W : Int) * (j : Int) := by rw [IntKind.wrap_i64]; omega
      go_wp2_with (first | (first | (clear hL n1; with_reducible intro b1 w1 hL) | (clear hL n2; with_reducible intro b2 w2 hL) | (clear hL n3; with_reducible intro b3 w3 hL) | (clear hL; with_reducible intro _ _ hL)) | (with_reducible refine wpC_alloc rfl _ rfl _ _ inferInstance hL ?_) | (with_reducible first | refine wpB_agg rfl _ _ _ rfl rfl hL ?_ | refine wpB_one rfl _ _ (.int _ _) rfl rfl rfl hL ?_ | refine wpB_one rfl _ _ (.slice _ _ _) rfl rfl rfl hL ?_ | refine wpB_one rfl _ _ (.bool _) rfl rfl rfl hL ?_ | refine wpB_one rfl _ _ (.pointer _) rfl rfl rfl hL ?_ | refine wpB_one rfl _ _ (.func _ _ _) rfl rfl rfl hL ?_) | (with_reducible first | refine wpH_max rfl _ _ _ _ rfl _ _ rfl rfl ?_ | refine wpH_min rfl _ _ _ _ rfl _ _ rfl rfl ?_) | ((with_reducible refine wpA_load rfl _ _ rfl _ rfl ?_); first | refine loadA hL ?_ | refine loadR hL ?_ | refine loadC hL ?_ | refine loadD ?_ | refine loadE hL ?_ | refine loadF ?_) | ((with_reducible refine wpA_index rfl _ _ _ rfl _ rfl _ rfl ?_); first | (refine indexA ?_; try rw [Int.toNat_natCast]) | refine indexC ?_) | ((with_reducible refine wpA_store rfl _ _ _ rfl _ rfl (.agg _) rfl ?_); refine storeR hL ?_; clear hL; intro _ hL) | ((with_reducible first | refine wpA_store rfl _ _ _ rfl _ rfl (.int _ _) rfl ?_ | refine wpA_store rfl _ _ _ rfl _ rfl (.slice _ _ _) rfl ?_ | refine wpA_store rfl _ _ _ rfl _ rfl (.bool _) rfl ?_ | refine wpA_store rfl _ _ _ rfl _ rfl (.pointer _) rfl ?_ | refine wpA_store rfl _ _ _ rfl _ rfl (.func _ _ _) rfl ?_); (first | refine storeA hL ?_ | refine storeO hL ?_); (clear hL; intro _ hL)) | ((with_reducible refine wpA_lit rfl _ _ _ rfl ?_); first | refine litA1 hL ?_ | refine litA2 hL ?_ | refine litA3 hL ?_ | refine litA4 hL ?_ | refine litA6 hL ?_) | ((with_reducible refine wpA_append rfl _ _ _ rfl (.slice _ _ _) rfl ?_); intro vq hvq; simp [go_sem] at hvq; subst hvq; refine appendA hL ?_; clear hL; intro _ _ _ hL; try dsimp only at hL) | ((with_reducible refine wpA_make rfl _ _ _ rfl _ rfl rfl ?_); refine makeA hL ?_))
      go_loopw [13] (fun s13 wq => ∃ k : Nat, k ≤ W ∧ s13 = .int .i64 k ∧ Holds w wq [blk b3 #[.int .i64 W, .int .i64 H, .slice (some ⟨b2, 0, none⟩) (W * H) (W * H)] 26, blk b2 (arrU (W * H) (maskF W (upF p j k))) 5, blk b1 #[.int .i64 0, .int .i64 0, .slice none 0 0] 26] [fun w => EdgesAt w (.slice ea E.length ec) E])
        (fun s13 wq => W - (intOf s13).toNat)
      case atStart => exact ⟨0, by omega, rfl, hL⟩
      case round =>
        clear hL
        obtain ⟨k, hk, rfl, hL⟩ := hrel
        by_cases hkt : k < W
        · have hkb : (k : Int) < (W : Int) := by omega
          have hix : ((W : Int) * (j : Int) + (k : Int)).toNat = W * j + k := by omega
          have hi0 : 0 ≤ (W : Int) * (j : Int) + (k : Int) := by omega
          have hi1 : (W : Int) * (j : Int) + (k : Int) < (W : Int) * (H : Int) := by omega
          have hi2 : W * j + k < W * H := by omega
          have hwk : IntKind.i64.wrap ((W : Int) * (j : Int) + (k : Int)) = (W : Int) * (j : Int) + (k : Int) := by rw [IntKind.wrap_i64]; omega
          have HJW := Lib.hid hjw
          have HJC := Lib.hid hjc
          clear hjw hjc
          cases hp : p j k with
          | true =>
            have Hp := Lib.hid hp
            clear hp
            go_wp2_with (first | (go_at_call 44; (with_reducible refine (HI.out _ _ j k hL.fact0).mono ?_); rintro e _ ⟨rfl, hb⟩; rw [Hp.out]; replace hL := hL.call hb; clear hb) | (first | (clear hL n1; with_reducible intro b1 w1 hL) | (clear hL n2; with_reducible intro b2 w2 hL) | (clear hL n3; with_reducible intro b3 w3 hL) | (clear hL; with_reducible intro _ _ hL)) | (with_reducible refine wpC_alloc rfl _ rfl _ _ inferInstance hL ?_) | (with_reducible first | refine wpB_agg rfl _ _ _ rfl rfl hL ?_ | refine wpB_one rfl _ _ (.int _ _) rfl rfl rfl hL ?_ | refine wpB_one rfl _ _ (.slice _ _ _) rfl rfl rfl hL ?_ | refine wpB_one rfl _ _ (.bool _) rfl rfl rfl hL ?_ | refine wpB_one rfl _ _ (.pointer _) rfl rfl rfl hL ?_ | refine wpB_one rfl _ _ (.func _ _ _) rfl rfl rfl hL ?_) | (with_reducible first | refine wpH_max rfl _ _ _ _ rfl _ _ rfl rfl ?_ | refine wpH_min rfl _ _ _ _ rfl _ _ rfl rfl ?_) | ((with_reducible refine wpA_load rfl _ _ rfl _ rfl ?_); first | refine loadA hL ?_ | refine loadR hL ?_ | refine loadC hL ?_ | refine loadD ?_ | refine loadE hL ?_ | refine loadF ?_) | ((with_reducible refine wpA_index rfl _ _ _ rfl _ rfl _ rfl ?_); first | (refine indexA ?_; try rw [Int.toNat_natCast]) | refine indexC ?_) | ((with_reducible refine wpA_store rfl _ _ _ rfl _ rfl (.agg _) rfl ?_); refine storeR hL ?_; clear hL; intro _ hL) | ((with_reducible first | refine wpA_store rfl _ _ _ rfl _ rfl (.int _ _) rfl ?_ | refine wpA_store rfl _ _ _ rfl _ rfl (.slice _ _ _) rfl ?_ | refine wpA_store rfl _ _ _ rfl _ rfl (.bool _) rfl ?_ | refine wpA_store rfl _ _ _ rfl _ rfl (.pointer _) rfl ?_ | refine wpA_store rfl _ _ _ rfl _ rfl (.func _ _ _) rfl ?_); (first | refine storeA hL ?_ | refine storeO hL ?_); (clear hL; intro _ hL)) | ((with_reducible refine wpA_lit rfl _ _ _ rfl ?_); first | refine litA1 hL ?_ | refine litA2 hL ?_ | refine litA3 hL ?_ | refine litA4 hL ?_ | refine litA6 hL ?_) | ((with_reducible refine wpA_append rfl _ _ _ rfl (.slice _ _ _) rfl ?_); intro vq hvq; simp [go_sem] at hvq; subst hvq; refine appendA hL ?_; clear hL; intro _ _ _ hL; try dsimp only at hL) | ((with_reducible refine wpA_make rfl _ _ _ rfl _ rfl rfl ?_); refine makeA hL ?_))
            go_roundw
            case rel =>
              rw [upF_set p hkt Hp.out] at hL
              exact ⟨k + 1, by omega, by go_num, hL⟩
            case measure => simp [intOf]; omega
          | false =>
            have Hp := Lib.hid hp
            clear hp
            go_wp2_with (first | (go_at_call 44; (with_reducible refine (HI.out _ _ j k hL.fact0).mono ?_); rintro e _ ⟨rfl, hb⟩; rw [Hp.out]; replace hL := hL.call hb; clear hb) | (first | (clear hL n1; with_reducible intro b1 w1 hL) | (clear hL n2; with_reducible intro b2 w2 hL) | (clear hL n3; with_reducible intro b3 w3 hL) | (clear hL; with_reducible intro _ _ hL)) | (with_reducible refine wpC_alloc rfl _ rfl _ _ inferInstance hL ?_) | (with_reducible first | refine wpB_agg rfl _ _ _ rfl rfl hL ?_ | refine wpB_one rfl _ _ (.int _ _) rfl rfl rfl hL ?_ | refine wpB_one rfl _ _ (.slice _ _ _) rfl rfl rfl hL ?_ | refine wpB_one rfl _ _ (.bool _) rfl rfl rfl hL ?_ | refine wpB_one rfl _ _ (.pointer _) rfl rfl rfl hL ?_ | refine wpB_one rfl _ _ (.func _ _ _) rfl rfl rfl hL ?_) | (with_reducible first | refine wpH_max rfl _ _ _ _ rfl _ _ rfl rfl ?_ | refine wpH_min rfl _ _ _ _ rfl _ _ rfl rfl ?_) | ((with_reducible refine wpA_load rfl _ _ rfl _ rfl ?_); first | refine loadA hL ?_ | refine loadR hL ?_ | refine loadC hL ?_ | refine loadD ?_ | refine loadE hL ?_ | refine loadF ?_) | ((with_reducible refine wpA_index rfl _ _ _ rfl _ rfl _ rfl ?_); first | (refine indexA ?_; try rw [Int.toNat_natCast]) | refine indexC ?_) | ((with_reducible refine wpA_store rfl _ _ _ rfl _ rfl (.agg _) rfl ?_); refine storeR hL ?_; clear hL; intro _ hL) | ((with_reducible first | refine wpA_store rfl _ _ _ rfl _ rfl (.int _ _) rfl ?_ | refine wpA_store rfl _ _ _ rfl _ rfl (.slice _ _ _) rfl ?_ | refine wpA_store rfl _ _ _ rfl _ rfl (.bool _) rfl ?_ | refine wpA_store rfl _ _ _ rfl _ rfl (.pointer _) rfl ?_ | refine wpA_store rfl _ _ _ rfl _ rfl (.func _ _ _) rfl ?_); (first | refine storeA hL ?_ | refine storeO hL ?_); (clear hL; intro _ hL)) | ((with_reducible refine wpA_lit rfl _ _ _ rfl ?_); first | refine litA1 hL ?_ | refine litA2 hL ?_ | refine litA3 hL ?_ | refine litA4 hL ?_ | refine litA6 hL ?_) | ((with_reducible refine wpA_append rfl _ _ _ rfl (.slice _ _ _) rfl ?_); intro vq hvq; simp [go_sem] at hvq; subst hvq; refine appendA hL ?_; clear hL; intro _ _ _ hL; try dsimp only at hL) | ((with_reducible refine wpA_make rfl _ _ _ rfl _ rfl rfl ?_); refine makeA hL ?_))
            go_roundw
            case rel =>
              rw [upF_skip p Hp.out] at hL
              exact ⟨k + 1, by omega, by go_num, hL⟩
            case measure => simp [intOf]; omega
        · have e : k = W := by omega
          subst e
          rw [upF_row (by omega) p] at hL
          go_wp2_with (first | (first | (clear hL n1; with_reducible intro b1 w1 hL) | (clear hL n2; with_reducible intro b2 w2 hL) | (clear hL n3; with_reducible intro b3 w3 hL) | (clear hL; with_reducible intro _ _ hL)) | (with_reducible refine wpC_alloc rfl _ rfl _ _ inferInstance hL ?_) | (with_reducible first | refine wpB_agg rfl _ _ _ rfl rfl hL ?_ | refine wpB_one rfl _ _ (.int _ _) rfl rfl rfl hL ?_ | refine wpB_one rfl _ _ (.slice _ _ _) rfl rfl rfl hL ?_ | refine wpB_one rfl _ _ (.bool _) rfl rfl rfl hL ?_ | refine wpB_one rfl _ _ (.pointer _) rfl rfl rfl hL ?_ | refine wpB_one rfl _ _ (.func _ _ _) rfl rfl rfl hL ?_) | (with_reducible first | refine wpH_max rfl _ _ _ _ rfl _ _ rfl rfl ?_ | refine wpH_min rfl _ _ _ _ rfl _ _ rfl rfl ?_) | ((with_reducible refine wpA_load rfl _ _ rfl _ rfl ?_); first | refine loadA hL ?_ | refine loadR hL ?_ | refine loadC hL ?_ | refine loadD ?_ | refine loadE hL ?_ | refine loadF ?_) | ((with_reducible refine wpA_index rfl _ _ _ rfl _ rfl _ rfl ?_); first | (refine indexA ?_; try rw [Int.toNat_natCast]) | refine indexC ?_) | ((with_reducible refine wpA_store rfl _ _ _ rfl _ rfl (.agg _) rfl ?_); refine storeR hL ?_; clear hL; intro _ hL) | ((with_reducible first | refine wpA_store rfl _ _ _ rfl _ rfl (.int _ _) rfl ?_ | refine wpA_store rfl _ _ _ rfl _ rfl (.slice _ _ _) rfl ?_ | refine wpA_store rfl _ _ _ rfl _ rfl (.bool _) rfl ?_ | refine wpA_store rfl _ _ _ rfl _ rfl (.pointer _) rfl ?_ | refine wpA_store rfl _ _ _ rfl _ rfl (.func _ _ _) rfl ?_); (first | refine storeA hL ?_ | refine storeO hL ?_); (clear hL; intro _ hL)) | ((with_reducible refine wpA_lit rfl _ _ _ rfl ?_); first | refine litA1 hL ?_ | refine litA2 hL ?_ | refine litA3 hL ?_ | refine litA4 hL ?_ | refine litA6 hL ?_) | ((with_reducible refine wpA_append rfl _ _ _ rfl (.slice _ _ _) rfl ?_); intro vq hvq; simp [go_sem] at hvq; subst hvq; refine appendA hL ?_; clear hL; intro _ _ _ hL; try dsimp only at hL) | ((with_reducible refine wpA_make rfl _ _ _ rfl _ rfl rfl ?_); refine makeA hL ?_))
          go_roundw
          case rel => exact ⟨j + 1, by omega, by go_num, hL⟩
          case measure => simp [intOf]; omega
    · have e : j = H := by omega
      subst e
      go_wp2_with (first | (first | (clear hL n1; with_reducible intro b1 w1 hL) | (clear hL n2; with_reducible intro b2 w2 hL) | (clear hL n3; with_reducible intro b3 w3 hL) | (clear hL; with_reducible intro _ _ hL)) | (with_reducible refine wpC_alloc rfl _ rfl _ _ inferInstance hL ?_) | (with_reducible first | refine wpB_agg rfl _ _ _ rfl rfl hL ?_ | refine wpB_one rfl _ _ (.int _ _) rfl rfl rfl hL ?_ | refine wpB_one rfl _ _ (.slice _ _ _) rfl rfl rfl hL ?_ | refine wpB_one rfl _ _ (.bool _) rfl rfl rfl hL ?_ | refine wpB_one rfl _ _ (.pointer _) rfl rfl rfl hL ?_ | refine wpB_one rfl _ _ (.func _ _ _) rfl rfl rfl hL ?_) | (with_reducible first | refine wpH_max rfl _ _ _ _ rfl _ _ rfl rfl ?_ | refine wpH_min rfl _ _ _ _ rfl _ _ rfl rfl ?_) | ((with_reducible refine wpA_load rfl _ _ rfl _ rfl ?_); first | refine loadA hL ?_ | refine loadR hL ?_ | refine loadC hL ?_ | refine loadD ?_ | refine loadE hL ?_ | refine loadF ?_) | ((with_reducible refine wpA_index rfl _ _ _ rfl _ rfl _ rfl ?_); first | (refine indexA ?_; try rw [Int.toNat_natCast]) | refine indexC ?_) | ((with_reducible refine wpA_store rfl _ _ _ rfl _ rfl (.agg _) rfl ?_); refine storeR hL ?_; clear hL; intro _ hL) | ((with_reducible first | refine wpA_store rfl _ _ _ rfl _ rfl (.int _ _) rfl ?_ | refine wpA_store rfl _ _ _ rfl _ rfl (.slice _ _ _) rfl ?_ | refine wpA_store rfl _ _ _ rfl _ rfl (.bool _) rfl ?_ | refine wpA_store rfl _ _ _ rfl _ rfl (.pointer _) rfl ?_ | refine wpA_store rfl _ _ _ rfl _ rfl (.func _ _ _) rfl ?_); (first | refine storeA hL ?_ | refine storeO hL ?_); (clear hL; intro _ hL)) | ((with_reducible refine wpA_lit rfl _ _ _ rfl ?_); first | refine litA1 hL ?_ | refine litA2 hL ?_ | refine litA3 hL ?_ | refine litA4 hL ?_ | refine litA6 hL ?_) | ((with_reducible refine wpA_append rfl _ _ _ rfl (.slice _ _ _) rfl ?_); intro vq hvq; simp [go_sem] at hvq; subst hvq; refine appendA hL ?_; clear hL; intro _ _ _ hL; try dsimp only at hL) | ((with_reducible refine wpA_make rfl _ _ _ rfl _ rfl rfl ?_); refine makeA hL ?_))
      refine bodyPost_ret (results_row2 inferInstance rfl _ hL b1 rfl _ _ (.there (.there .here)) rfl) rfl ⟨some ⟨b2, 0, none⟩, rfl, hL.below, ?_⟩
      refine ((hL.settle (.there .here) (φ := fun w => w.heap[b2]? = some (.cells (arrU (W * j) (maskF W (upF p j 0))) 5 (0, 0))) fun _ h => h).map fun w' h1 => ?_).fresh
      refine ⟨_, rfl, ?_⟩
      have := bytes_of h1 (by unfold maxLen; omega)
      rw [upF_all] at this
      exact this
end Go.Proofs.Ytneddfiohekhiaa
