/- Masks that may not be; the references' Has; Meet. -/
import Derived.Test.YtneddfiohekhiaaRBad
import Derived.Test.YtneddfiohekhiaaMskM
import Derived.Test.YtneddfiohekhiaaRCnt
-- uses arrU
-- lit6
namespace Go.Proofs.Ytneddfiohekhiaa
open Go.RowKit

theorem mask_pix {m : Msk} (h : mayMask m = true) (h0 : ∀ n ∈ m.B, 0 ≤ n) : ∃ (W H : Nat) (q : Nat → Nat → Bool), Sides W H ∧ m = pixMask W H q := by
  obtain ⟨mw, mh, B⟩ := m
  simp only [mayMask, Bool.and_eq_true] at h
  obtain ⟨hw, hh, hl, hB⟩ := h
  obtain ⟨W, rfl, w1, w2⟩ := side_get hw
  obtain ⟨H, rfl, h1, h2⟩ := side_get hh
  have hl : B.length = W * H := by
    have hl : (B.length : Int) = (W : Int) * (H : Int) := by simpa using hl
    rw [← Int.natCast_mul] at hl
    exact Int.ofNat.inj hl
  refine ⟨W, H, fun j i => B.getD (j * W + i) 0 == 1, ⟨w1, w2, h1, h2⟩, ?_⟩
  unfold pixMask
  congr 1
  refine List.ext_getElem (by simp [hl]) fun k hk _ => ?_
  have hkm : k / W * W + k % W = k := by rw [Nat.mul_comm]; exact Nat.div_add_mod k W
  have hm := List.getElem_mem hk
  have hb := List.all_eq_true.1 hB _ hm
  have hz := h0 _ hm
  simp only [List.getElem_map, List.getElem_range]
  rw [hkm, show B.getD k 0 = B[k] by simp [hk]]
  generalize B[k] = x at *
  have hb : x ≤ 1 := by simpa using hb
  by_cases hx : x = 1
  · subst hx; rfl
  · have : x = 0 := by
      have : 0 ≤ x := hz
      omega
    subst this; rfl
set_option maxRecDepth 100000 in
set_option maxHeartbeats 4000000 in
theorem coverHasNo_calls (w : World) (v : Value) (m : Msk) (hv : MaskAt w v m) (hm : mayMask m = false) (i j : Int) :
    Calls Try.prog 28 #[v, .int .i64 i, .int .i64 j] w fun e w' => e = .returned (.bool false) ∧ Below w.heap.size w w' := by
  have Hm := Lib.hid hv
  obtain ⟨a, cap, rfl, _⟩ := hv.shape
  clear hv
  have HN := Lib.hid hm
  clear hm
  have hL := Holds.start w
  have n1 : True := trivial
  go_enter Try.func28, Try.ntmps28
  go_wp2_with (first | (go_at_call 20; (with_reducible refine (coverMay_calls _ _ _ (Hm.out.hold hL)).mono ?_); rintro e _ ⟨rfl, hb⟩; rw [HN.out]; replace hL := hL.call hb; clear hb) | (first | (clear hL n1; with_reducible intro b1 w1 hL) | (clear hL; with_reducible intro _ _ hL)) | (with_reducible refine wpC_alloc rfl _ rfl _ _ inferInstance hL ?_) | (with_reducible first | refine wpB_agg rfl _ _ _ rfl rfl hL ?_ | refine wpB_one rfl _ _ (.int _ _) rfl rfl rfl hL ?_ | refine wpB_one rfl _ _ (.slice _ _ _) rfl rfl rfl hL ?_ | refine wpB_one rfl _ _ (.bool _) rfl rfl rfl hL ?_ | refine wpB_one rfl _ _ (.pointer _) rfl rfl rfl hL ?_ | refine wpB_one rfl _ _ (.func _ _ _) rfl rfl rfl hL ?_) | (with_reducible first | refine wpH_max rfl _ _ _ _ rfl _ _ rfl rfl ?_ | refine wpH_min rfl _ _ _ _ rfl _ _ rfl rfl ?_) | ((with_reducible refine wpA_load rfl _ _ rfl _ rfl ?_); first | refine loadA hL ?_ | refine loadR hL ?_ | refine loadC hL ?_ | refine loadD ?_ | refine loadE hL ?_ | refine loadF ?_) | ((with_reducible refine wpA_index rfl _ _ _ rfl _ rfl _ rfl ?_); first | (refine indexA ?_; try rw [Int.toNat_natCast]) | refine indexC ?_) | ((with_reducible refine wpA_store rfl _ _ _ rfl _ rfl (.agg _) rfl ?_); refine storeR hL ?_; clear hL; intro _ hL) | ((with_reducible first | refine wpA_store rfl _ _ _ rfl _ rfl (.int _ _) rfl ?_ | refine wpA_store rfl _ _ _ rfl _ rfl (.slice _ _ _) rfl ?_ | refine wpA_store rfl _ _ _ rfl _ rfl (.bool _) rfl ?_ | refine wpA_store rfl _ _ _ rfl _ rfl (.pointer _) rfl ?_ | refine wpA_store rfl _ _ _ rfl _ rfl (.func _ _ _) rfl ?_); (first | refine storeA hL ?_ | refine storeO hL ?_); (clear hL; intro _ hL)) | ((with_reducible refine wpA_lit rfl _ _ _ rfl ?_); first | refine litA1 hL ?_ | refine litA2 hL ?_ | refine litA3 hL ?_ | refine litA4 hL ?_ | refine litA6 hL ?_) | ((with_reducible refine wpA_append rfl _ _ _ rfl (.slice _ _ _) rfl ?_); intro vq hvq; simp [go_sem] at hvq; subst hvq; refine appendA hL ?_; clear hL; intro _ _ _ hL; try dsimp only at hL) | ((with_reducible refine wpA_make rfl _ _ _ rfl _ rfl rfl ?_); refine makeA hL ?_))
  go_ret
  exact ⟨rfl, hL.below⟩
set_option maxRecDepth 100000 in
set_option maxHeartbeats 4000000 in
theorem rHasNo_calls (w : World) (v : Value) (m : Msk) (hv : MaskAt w v m) (hm : mayMask m = false) (i j : Int) :
    Calls Try.prog 33 #[v, .int .i64 i, .int .i64 j] w fun e w' => e = .returned (.bool false) ∧ Below w.heap.size w w' := by
  have Hm := Lib.hid hv
  obtain ⟨a, cap, rfl, _⟩ := hv.shape
  clear hv
  have HN := Lib.hid hm
  clear hm
  have hL := Holds.start w
  have n1 : True := trivial
  go_enter Try.func33, Try.ntmps33
  go_wp2_with (first | (go_at_call 32; (with_reducible refine (refMayMask_calls _ _ _ (Hm.out.hold hL)).mono ?_); rintro e _ ⟨rfl, hb⟩; rw [HN.out]; replace hL := hL.call hb; clear hb) | (first | (clear hL n1; with_reducible intro b1 w1 hL) | (clear hL; with_reducible intro _ _ hL)) | (with_reducible refine wpC_alloc rfl _ rfl _ _ inferInstance hL ?_) | (with_reducible first | refine wpB_agg rfl _ _ _ rfl rfl hL ?_ | refine wpB_one rfl _ _ (.int _ _) rfl rfl rfl hL ?_ | refine wpB_one rfl _ _ (.slice _ _ _) rfl rfl rfl hL ?_ | refine wpB_one rfl _ _ (.bool _) rfl rfl rfl hL ?_ | refine wpB_one rfl _ _ (.pointer _) rfl rfl rfl hL ?_ | refine wpB_one rfl _ _ (.func _ _ _) rfl rfl rfl hL ?_) | (with_reducible first | refine wpH_max rfl _ _ _ _ rfl _ _ rfl rfl ?_ | refine wpH_min rfl _ _ _ _ rfl _ _ rfl rfl ?_) | ((with_reducible refine wpA_load rfl _ _ rfl _ rfl ?_); first | refine loadA hL ?_ | refine loadR hL ?_ | refine loadC hL ?_ | refine loadD ?_ | refine loadE hL ?_ | refine loadF ?_) | ((with_reducible refine wpA_index rfl _ _ _ rfl _ rfl _ rfl ?_); first | (refine indexA ?_; try rw [Int.toNat_natCast]) | refine indexC ?_) | ((with_reducible refine wpA_store rfl _ _ _ rfl _ rfl (.agg _) rfl ?_); refine storeR hL ?_; clear hL; intro _ hL) | ((with_reducible first | refine wpA_store rfl _ _ _ rfl _ rfl (.int _ _) rfl ?_ | refine wpA_store rfl _ _ _ rfl _ rfl (.slice _ _ _) rfl ?_ | refine wpA_store rfl _ _ _ rfl _ rfl (.bool _) rfl ?_ | refine wpA_store rfl _ _ _ rfl _ rfl (.pointer _) rfl ?_ | refine wpA_store rfl _ _ _ rfl _ rfl (.func _ _ _) rfl ?_); (first | refine storeA hL ?_ | refine storeO hL ?_); (clear hL; intro _ hL)) | ((with_reducible refine wpA_lit rfl _ _ _ rfl ?_); first | refine litA1 hL ?_ | refine litA2 hL ?_ | refine litA3 hL ?_ | refine litA4 hL ?_ | refine litA6 hL ?_) | ((with_reducible refine wpA_append rfl _ _ _ rfl (.slice _ _ _) rfl ?_); intro vq hvq; simp [go_sem] at hvq; subst hvq; refine appendA hL ?_; clear hL; intro _ _ _ hL; try dsimp only at hL) | ((with_reducible refine wpA_make rfl _ _ _ rfl _ rfl rfl ?_); refine makeA hL ?_))
  go_ret
  exact ⟨rfl, hL.below⟩
set_option maxRecDepth 100000 in
set_option maxHeartbeats 4000000 in
theorem coverCountNo_calls (w : World) (v : Value) (m : Msk) (hv : MaskAt w v m) (hm : mayMask m = false) :
    Calls Try.prog 22 #[v] w fun e w' => e = .returned (.int .i64 0) ∧ Below w.heap.size w w' := by
  have Hm := Lib.hid hv
  obtain ⟨a, cap, rfl, _⟩ := hv.shape
  clear hv
  have HN := Lib.hid hm
  clear hm
  have hL := Holds.start w
  have n1 : True := trivial
  go_enter Try.func22, Try.ntmps22
  go_wp2_with (first | (go_at_call 20; (with_reducible refine (coverMay_calls _ _ _ (Hm.out.hold hL)).mono ?_); rintro e _ ⟨rfl, hb⟩; rw [HN.out]; replace hL := hL.call hb; clear hb) | (first | (clear hL n1; with_reducible intro b1 w1 hL) | (clear hL; with_reducible intro _ _ hL)) | (with_reducible refine wpC_alloc rfl _ rfl _ _ inferInstance hL ?_) | (with_reducible first | refine wpB_agg rfl _ _ _ rfl rfl hL ?_ | refine wpB_one rfl _ _ (.int _ _) rfl rfl rfl hL ?_ | refine wpB_one rfl _ _ (.slice _ _ _) rfl rfl rfl hL ?_ | refine wpB_one rfl _ _ (.bool _) rfl rfl rfl hL ?_ | refine wpB_one rfl _ _ (.pointer _) rfl rfl rfl hL ?_ | refine wpB_one rfl _ _ (.func _ _ _) rfl rfl rfl hL ?_) | (with_reducible first | refine wpH_max rfl _ _ _ _ rfl _ _ rfl rfl ?_ | refine wpH_min rfl _ _ _ _ rfl _ _ rfl rfl ?_) | ((with_reducible refine wpA_load rfl _ _ rfl _ rfl ?_); first | refine loadA hL ?_ | refine loadR hL ?_ | refine loadC hL ?_ | refine loadD ?_ | refine loadE hL ?_ | refine loadF ?_) | ((with_reducible refine wpA_index rfl _ _ _ rfl _ rfl _ rfl ?_); first | (refine indexA ?_; try rw [Int.toNat_natCast]) | refine indexC ?_) | ((with_reducible refine wpA_store rfl _ _ _ rfl _ rfl (.agg _) rfl ?_); refine storeR hL ?_; clear hL; intro _ hL) | ((with_reducible first | refine wpA_store rfl _ _ _ rfl _ rfl (.int _ _) rfl ?_ | refine wpA_store rfl _ _ _ rfl _ rfl (.slice _ _ _) rfl ?_ | refine wpA_store rfl _ _ _ rfl _ rfl (.bool _) rfl ?_ | refine wpA_store rfl _ _ _ rfl _ rfl (.pointer _) rfl ?_ | refine wpA_store rfl _ _ _ rfl _ rfl (.func _ _ _) rfl ?_); (first | refine storeA hL ?_ | refine storeO hL ?_); (clear hL; intro _ hL)) | ((with_reducible refine wpA_lit rfl _ _ _ rfl ?_); first | refine litA1 hL ?_ | refine litA2 hL ?_ | refine litA3 hL ?_ | refine litA4 hL ?_ | refine litA6 hL ?_) | ((with_reducible refine wpA_append rfl _ _ _ rfl (.slice _ _ _) rfl ?_); intro vq hvq; simp [go_sem] at hvq; subst hvq; refine appendA hL ?_; clear hL; intro _ _ _ hL; try dsimp only at hL) | ((with_reducible refine wpA_make rfl _ _ _ rfl _ rfl rfl ?_); refine makeA hL ?_))
  go_ret
  exact ⟨rfl, hL.below⟩
set_option maxRecDepth 100000 in
set_option maxHeartbeats 4000000 in
theorem rCountNo_calls (w : World) (v : Value) (m : Msk) (hv : MaskAt w v m) (hm : mayMask m = false) :
    Calls Try.prog 23 #[v] w fun e w' => e = .returned (.int .i64 0) ∧ Below w.heap.size w w' := by
  have Hm := Lib.hid hv
  obtain ⟨a, cap, rfl, _⟩ := hv.shape
  clear hv
  have HN := Lib.hid hm
  clear hm
  have hL := Holds.start w
  have n1 : True := trivial
  go_enter Try.func23, Try.ntmps23
  go_wp2_with (first | (go_at_call 32; (with_reducible refine (refMayMask_calls _ _ _ (Hm.out.hold hL)).mono ?_); rintro e _ ⟨rfl, hb⟩; rw [HN.out]; replace hL := hL.call hb; clear hb) | (first | (clear hL n1; with_reducible intro b1 w1 hL) | (clear hL; with_reducible intro _ _ hL)) | (with_reducible refine wpC_alloc rfl _ rfl _ _ inferInstance hL ?_) | (with_reducible first | refine wpB_agg rfl _ _ _ rfl rfl hL ?_ | refine wpB_one rfl _ _ (.int _ _) rfl rfl rfl hL ?_ | refine wpB_one rfl _ _ (.slice _ _ _) rfl rfl rfl hL ?_ | refine wpB_one rfl _ _ (.bool _) rfl rfl rfl hL ?_ | refine wpB_one rfl _ _ (.pointer _) rfl rfl rfl hL ?_ | refine wpB_one rfl _ _ (.func _ _ _) rfl rfl rfl hL ?_) | (with_reducible first | refine wpH_max rfl _ _ _ _ rfl _ _ rfl rfl ?_ | refine wpH_min rfl _ _ _ _ rfl _ _ rfl rfl ?_) | ((with_reducible refine wpA_load rfl _ _ rfl _ rfl ?_); first | refine loadA hL ?_ | refine loadR hL ?_ | refine loadC hL ?_ | refine loadD ?_ | refine loadE hL ?_ | refine loadF ?_) | ((with_reducible refine wpA_index rfl _ _ _ rfl _ rfl _ rfl ?_); first | (refine indexA ?_; try rw [Int.toNat_natCast]) | refine indexC ?_) | ((with_reducible refine wpA_store rfl _ _ _ rfl _ rfl (.agg _) rfl ?_); refine storeR hL ?_; clear hL; intro _ hL) | ((with_reducible first | refine wpA_store rfl _ _ _ rfl _ rfl (.int _ _) rfl ?_ | refine wpA_store rfl _ _ _ rfl _ rfl (.slice _ _ _) rfl ?_ | refine wpA_store rfl _ _ _ rfl _ rfl (.bool _) rfl ?_ | refine wpA_store rfl _ _ _ rfl _ rfl (.pointer _) rfl ?_ | refine wpA_store rfl _ _ _ rfl _ rfl (.func _ _ _) rfl ?_); (first | refine storeA hL ?_ | refine storeO hL ?_); (clear hL; intro _ hL)) | ((with_reducible refine wpA_lit rfl _ _ _ rfl ?_); first | refine litA1 hL ?_ | refine litA2 hL ?_ | refine litA3 hL ?_ | refine litA4 hL ?_ | refine litA6 hL ?_) | ((with_reducible refine wpA_append rfl _ _ _ rfl (.slice _ _ _) rfl ?_); intro vq hvq; simp [go_sem] at hvq; subst hvq; refine appendA hL ?_; clear hL; intro _ _ _ hL; try dsimp only at hL) | ((with_reducible refine wpA_make rfl _ _ _ rfl _ rfl rfl ?_); refine makeA hL ?_))
  go_ret
  exact ⟨rfl, hL.below⟩
theorem onBitsMeet : OnBits 53 (fun x y => x && y) := ⟨fun x y w => by
  cases x <;> cases y
  all_goals
    simp only [bit, if_true, Bool.false_eq_true, if_false]
    go_enter Try.func53, Try.ntmps53
    go_wp2
    go_ret
    exact ⟨rfl, rfl⟩, fun _ _ _ => by kernel_rfl⟩
end Go.Proofs.Ytneddfiohekhiaa
