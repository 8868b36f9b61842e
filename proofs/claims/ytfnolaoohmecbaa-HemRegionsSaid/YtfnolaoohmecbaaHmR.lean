/- Package root: Floor. -/
import Derived.Test.YtfnolaoohmecbaaHmP
import Derived.Test.YtfnolaoohmecbaaArmM
import Derived.Test.YtfnolaoohmecbaaSgnM
-- lit6
namespace Go.Proofs.Ytfnolaoohmecbaa
open Go.RowKit

theorem or_bit (q k : Nat) : (q * 2 ^ (k + 1)) ||| 2 ^ k = q * 2 ^ (k + 1) + 2 ^ k := by
  rw [show q * 2 ^ (k + 1) = 2 ^ (k + 1) * q from Nat.mul_comm _ _]
  exact (Nat.two_pow_add_eq_or_of_lt (i := k + 1) (b := 2 ^ k) (by rw [Nat.pow_succ]; have := Nat.two_pow_pos k; omega) q).symm
structure RootAt (n k r : Nat) : Prop where
  q : ∃ q, r = q * 2 ^ (32 - k)
  lo : r * r ≤ n
  hi : n < (r + 2 ^ (32 - k)) * (r + 2 ^ (32 - k))
  le : r + 2 ^ (32 - k) ≤ 4294967296
theorem RootAt.start {n : Nat} (hn : n < 18446744073709551616) : RootAt n 0 0 := ⟨⟨0, by simp⟩, Nat.zero_le _, by simpa using hn, by decide⟩
theorem pow_down {k : Nat} (hk : k < 32) : 2 ^ (32 - k) = 2 * 2 ^ (31 - k) := by
  rw [show 32 - k = (31 - k) + 1 by omega, Nat.pow_succ, Nat.mul_comm]
theorem RootAt.up {n k r : Nat} (h : RootAt n k r) (hk : k < 32) (ht : (r + 2 ^ (31 - k)) * (r + 2 ^ (31 - k)) ≤ n) : RootAt n (k + 1) (r + 2 ^ (31 - k)) := by
  obtain ⟨⟨q, hq⟩, h1, h2, h3⟩ := h
  rw [pow_down hk] at hq h2 h3
  have e : 32 - (k + 1) = 31 - k := by omega
  refine ⟨⟨2 * q + 1, ?_⟩, ht, ?_, ?_⟩
  · rw [e, hq, Nat.add_mul, Nat.one_mul]
    have : q * (2 * 2 ^ (31 - k)) = 2 * q * 2 ^ (31 - k) := by rw [Nat.mul_comm 2 q, Nat.mul_assoc]
    omega
  · rw [e, show r + 2 ^ (31 - k) + 2 ^ (31 - k) = r + 2 * 2 ^ (31 - k) by omega]; exact h2
  · rw [e]; omega
theorem RootAt.stay {n k r : Nat} (h : RootAt n k r) (hk : k < 32) (ht : ¬ (r + 2 ^ (31 - k)) * (r + 2 ^ (31 - k)) ≤ n) : RootAt n (k + 1) r := by
  obtain ⟨⟨q, hq⟩, h1, h2, h3⟩ := h
  rw [pow_down hk] at hq h2 h3
  have e : 32 - (k + 1) = 31 - k := by omega
  have := Nat.two_pow_pos (31 - k)
  refine ⟨⟨2 * q, ?_⟩, h1, ?_, ?_⟩
  · rw [e, hq, Nat.mul_comm 2 q, Nat.mul_assoc]
  · rw [e]; omega
  · rw [e]; omega
theorem RootAt.or {n k r : Nat} (h : RootAt n k r) (hk : k < 32) : bits .or .u64 (r : Int) ((2 ^ (31 - k) : Nat) : Int) = ((r + 2 ^ (31 - k) : Nat) : Int) := by
  obtain ⟨⟨q, hq⟩, h1, h2, h3⟩ := h
  have hp := pow_down hk
  have h4 : 2 ^ (31 - k) ≤ 2147483648 := by omega
  have h5 : r < 18446744073709551616 := by omega
  rw [u64_or _ _ (by omega) (by omega) (by omega) (by omega), Int.toNat_natCast, Int.toNat_natCast]
  congr 1
  rw [hq, show 32 - k = (31 - k) + 1 by omega]
  exact or_bit q (31 - k)
set_option maxRecDepth 100000 in
set_option maxHeartbeats 4000000 in
theorem rootFloor_calls (n : Nat) (hn : n < 18446744073709551616) (w : World) : Calls Try.prog 104 #[.int .u64 n] w fun e w' => (∃ r : Nat, e = .returned (.int .u64 r) ∧ r * r ≤ n ∧ n < (r + 1) * (r + 1) ∧ r < 4294967296) ∧ Below w.heap.size w w' := by
  have h0 := Lib.hid (RootAt.start hn)
  have hL := Holds.start w
  go_enter Try.func104, Try.ntmps104
  go_wp2_with (first | ((clear hL; with_reducible intro _ _ hL)) | (with_reducible refine wpC_alloc rfl _ rfl _ _ inferInstance hL ?_) | (with_reducible first | refine wpB_agg rfl _ _ _ rfl rfl hL ?_ | refine wpB_one rfl _ _ (.int _ _) rfl rfl rfl hL ?_ | refine wpB_one rfl _ _ (.slice _ _ _) rfl rfl rfl hL ?_ | refine wpB_one rfl _ _ (.bool _) rfl rfl rfl hL ?_ | refine wpB_one rfl _ _ (.pointer _) rfl rfl rfl hL ?_ | refine wpB_one rfl _ _ (.func _ _ _) rfl rfl rfl hL ?_) | (with_reducible first | refine wpH_max rfl _ _ _ _ rfl _ _ rfl rfl ?_ | refine wpH_min rfl _ _ _ _ rfl _ _ rfl rfl ?_) | ((with_reducible refine wpA_load rfl _ _ rfl _ rfl ?_); first | refine loadA hL ?_ | refine loadR hL ?_ | refine loadC hL ?_ | refine loadD ?_ | refine loadE hL ?_ | refine loadF ?_) | ((with_reducible refine wpA_index rfl _ _ _ rfl _ rfl _ rfl ?_); first | (refine indexA ?_; try rw [Int.toNat_natCast]) | refine indexC ?_) | ((with_reducible refine wpA_store rfl _ _ _ rfl _ rfl (.agg _) rfl ?_); refine storeR hL ?_; clear hL; intro _ hL) | ((with_reducible first | refine wpA_store rfl _ _ _ rfl _ rfl (.int _ _) rfl ?_ | refine wpA_store rfl _ _ _ rfl _ rfl (.slice _ _ _) rfl ?_ | refine wpA_store rfl _ _ _ rfl _ rfl (.bool _) rfl ?_ | refine wpA_store rfl _ _ _ rfl _ rfl (.pointer _) rfl ?_ | refine wpA_store rfl _ _ _ rfl _ rfl (.func _ _ _) rfl ?_); (first | refine storeA hL ?_ | refine storeO hL ?_); (clear hL; intro _ hL)) | ((with_reducible refine wpA_lit rfl _ _ _ rfl ?_); first | refine litA1 hL ?_ | refine litA2 hL ?_ | refine litA3 hL ?_ | refine litA4 hL ?_ | refine litA6 hL ?_) | ((with_reducible refine wpA_append rfl _ _ _ rfl (.slice _ _ _) rfl ?_); intro vq hvq; simp [go_sem] at hvq; subst hvq; refine appendA hL ?_; clear hL; intro _ _ _ hL; try dsimp only at hL) | ((with_reducible refine wpA_make rfl _ _ _ rfl _ rfl rfl ?_); refine makeA hL ?_))
  go_loopw [3, 6] (fun s3 s6 wr => ∃ k r : Nat, k ≤ 32 ∧ s6 = .int .i64 k ∧ s3 = .int .u64 r ∧ Hid (RootAt n k r) ∧ Holds w wr [] [])
    (fun s3 s6 wr => 32 - (intOf s6).toNat)
  case atStart => exact ⟨0, 0, by omega, rfl, rfl, h0, hL⟩
  case round =>
    clear hL
    obtain ⟨k, r, hk, rfl, rfl, hC, hL⟩ := hrel
    by_cases hlt : k < 32
    · have hor := hC.out.or hlt
      have hle := hC.out.le
      rw [pow_down hlt] at hle
      have HU := Lib.hid (hC.out.up hlt)
      have HD := Lib.hid (hC.out.stay hlt)
      have hs0 := Nat.two_pow_pos (31 - k)
      have hS2 : (2 : Int) ^ (31 - k) = ((2 ^ (31 - k) : Nat) : Int) := by simp
      generalize 2 ^ (31 - k) = S at *
      have htt : (r + S) * (r + S) ≤ 4294967295 * 4294967295 := Nat.mul_le_mul (by omega) (by omega)
      generalize r + S = t at *
      have ht0 : (t : Int) * t = ((t * t : Nat) : Int) := by simp
      have w1 : IntKind.u64.wrap ((t : Int) * t) = ((t * t : Nat) : Int) := by rw [IntKind.wrap_u64, ht0]; omega
      have w2 : IntKind.u64.wrap (S : Int) = (S : Int) := by rw [IntKind.wrap_u64]; omega
      clear ht0
      rcases (by omega : t * t ≤ n ∨ ¬ t * t ≤ n) with hr | hr
      · have HA := Lib.hid (HU.out hr)
        have hr2 : ((t * t : Nat) : Int) ≤ (n : Int) := by omega
        generalize t * t = tt at *
        clear HU HD
        go_wp2_with (first | ((clear hL; with_reducible intro _ _ hL)) | (with_reducible refine wpC_alloc rfl _ rfl _ _ inferInstance hL ?_) | (with_reducible first | refine wpB_agg rfl _ _ _ rfl rfl hL ?_ | refine wpB_one rfl _ _ (.int _ _) rfl rfl rfl hL ?_ | refine wpB_one rfl _ _ (.slice _ _ _) rfl rfl rfl hL ?_ | refine wpB_one rfl _ _ (.bool _) rfl rfl rfl hL ?_ | refine wpB_one rfl _ _ (.pointer _) rfl rfl rfl hL ?_ | refine wpB_one rfl _ _ (.func _ _ _) rfl rfl rfl hL ?_) | (with_reducible first | refine wpH_max rfl _ _ _ _ rfl _ _ rfl rfl ?_ | refine wpH_min rfl _ _ _ _ rfl _ _ rfl rfl ?_) | ((with_reducible refine wpA_load rfl _ _ rfl _ rfl ?_); first | refine loadA hL ?_ | refine loadR hL ?_ | refine loadC hL ?_ | refine loadD ?_ | refine loadE hL ?_ | refine loadF ?_) | ((with_reducible refine wpA_index rfl _ _ _ rfl _ rfl _ rfl ?_); first | (refine indexA ?_; try rw [Int.toNat_natCast]) | refine indexC ?_) | ((with_reducible refine wpA_store rfl _ _ _ rfl _ rfl (.agg _) rfl ?_); refine storeR hL ?_; clear hL; intro _ hL) | ((with_reducible first | refine wpA_store rfl _ _ _ rfl _ rfl (.int _ _) rfl ?_ | refine wpA_store rfl _ _ _ rfl _ rfl (.slice _ _ _) rfl ?_ | refine wpA_store rfl _ _ _ rfl _ rfl (.bool _) rfl ?_ | refine wpA_store rfl _ _ _ rfl _ rfl (.pointer _) rfl ?_ | refine wpA_store rfl _ _ _ rfl _ rfl (.func _ _ _) rfl ?_); (first | refine storeA hL ?_ | refine storeO hL ?_); (clear hL; intro _ hL)) | ((with_reducible refine wpA_lit rfl _ _ _ rfl ?_); first | refine litA1 hL ?_ | refine litA2 hL ?_ | refine litA3 hL ?_ | refine litA4 hL ?_ | refine litA6 hL ?_) | ((with_reducible refine wpA_append rfl _ _ _ rfl (.slice _ _ _) rfl ?_); intro vq hvq; simp [go_sem] at hvq; subst hvq; refine appendA hL ?_; clear hL; intro _ _ _ hL; try dsimp only at hL) | ((with_reducible refine wpA_make rfl _ _ _ rfl _ rfl rfl ?_); refine makeA hL ?_))
        go_roundw
        case rel => exact ⟨k + 1, t, by omega, by go_num, rfl, HA, hL⟩
        case measure => simp [intOf]; omega
      · have HA := Lib.hid (HD.out hr)
        have hr2 : ¬ ((t * t : Nat) : Int) ≤ (n : Int) := by omega
        generalize t * t = tt at *
        clear HU HD
        go_wp2_with (first | ((clear hL; with_reducible intro _ _ hL)) | (with_reducible refine wpC_alloc rfl _ rfl _ _ inferInstance hL ?_) | (with_reducible first | refine wpB_agg rfl _ _ _ rfl rfl hL ?_ | refine wpB_one rfl _ _ (.int _ _) rfl rfl rfl hL ?_ | refine wpB_one rfl _ _ (.slice _ _ _) rfl rfl rfl hL ?_ | refine wpB_one rfl _ _ (.bool _) rfl rfl rfl hL ?_ | refine wpB_one rfl _ _ (.pointer _) rfl rfl rfl hL ?_ | refine wpB_one rfl _ _ (.func _ _ _) rfl rfl rfl hL ?_) | (with_reducible first | refine wpH_max rfl _ _ _ _ rfl _ _ rfl rfl ?_ | refine wpH_min rfl _ _ _ _ rfl _ _ rfl rfl ?_) | ((with_reducible refine wpA_load rfl _ _ rfl _ rfl ?_); first | refine loadA hL ?_ | refine loadR hL ?_ | refine loadC hL ?_ | refine loadD ?_ | refine loadE hL ?_ | refine loadF ?_) | ((with_reducible refine wpA_index rfl _ _ _ rfl _ rfl _ rfl ?_); first | (refine indexA ?_; try rw [Int.toNat_natCast]) | refine indexC ?_) | ((with_reducible refine wpA_store rfl _ _ _ rfl _ rfl (.agg _) rfl ?_); refine storeR hL ?_; clear hL; intro _ hL) | ((with_reducible first | refine wpA_store rfl _ _ _ rfl _ rfl (.int _ _) rfl ?_ | refine wpA_store rfl _ _ _ rfl _ rfl (.slice _ _ _) rfl ?_ | refine wpA_store rfl _ _ _ rfl _ rfl (.bool _) rfl ?_ | refine wpA_store rfl _ _ _ rfl _ rfl (.pointer _) rfl ?_ | refine wpA_store rfl _ _ _ rfl _ rfl (.func _ _ _) rfl ?_); (first | refine storeA hL ?_ | refine storeO hL ?_); (clear hL; intro _ hL)) | ((with_reducible refine wpA_lit rfl _ _ _ rfl ?_); first | refine litA1 hL ?_ | refine litA2 hL ?_ | refine litA3 hL ?_ | refine litA4 hL ?_ | refine litA6 hL ?_) | ((with_reducible refine wpA_append rfl _ _ _ rfl (.slice _ _ _) rfl ?_); intro vq hvq; simp [go_sem] at hvq; subst hvq; refine appendA hL ?_; clear hL; intro _ _ _ hL; try dsimp only at hL) | ((with_reducible refine wpA_make rfl _ _ _ rfl _ rfl rfl ?_); refine makeA hL ?_))
        go_roundw
        case rel => exact ⟨k + 1, r, by omega, by go_num, rfl, HA, hL⟩
        case measure => simp [intOf]; omega
    · have e : k = 32 := by omega
      subst e
      obtain ⟨_, h1, h2, h3⟩ := hC.out
      simp at h2
      have h3 : r < 4294967296 := by simp at h3; omega
      have H1 := Lib.hid h1; have H2 := Lib.hid h2; have H3 := Lib.hid h3
      clear h1 h2 h3
      go_wp2_with (first | ((clear hL; with_reducible intro _ _ hL)) | (with_reducible refine wpC_alloc rfl _ rfl _ _ inferInstance hL ?_) | (with_reducible first | refine wpB_agg rfl _ _ _ rfl rfl hL ?_ | refine wpB_one rfl _ _ (.int _ _) rfl rfl rfl hL ?_ | refine wpB_one rfl _ _ (.slice _ _ _) rfl rfl rfl hL ?_ | refine wpB_one rfl _ _ (.bool _) rfl rfl rfl hL ?_ | refine wpB_one rfl _ _ (.pointer _) rfl rfl rfl hL ?_ | refine wpB_one rfl _ _ (.func _ _ _) rfl rfl rfl hL ?_) | (with_reducible first | refine wpH_max rfl _ _ _ _ rfl _ _ rfl rfl ?_ | refine wpH_min rfl _ _ _ _ rfl _ _ rfl rfl ?_) | ((with_reducible refine wpA_load rfl _ _ rfl _ rfl ?_); first | refine loadA hL ?_ | refine loadR hL ?_ | refine loadC hL ?_ | refine loadD ?_ | refine loadE hL ?_ | refine loadF ?_) | ((with_reducible refine wpA_index rfl _ _ _ rfl _ rfl _ rfl ?_); first | (refine indexA ?_; try rw [Int.toNat_natCast]) | refine indexC ?_) | ((with_reducible refine wpA_store rfl _ _ _ rfl _ rfl (.agg _) rfl ?_); refine storeR hL ?_; clear hL; intro _ hL) | ((with_reducible first | refine wpA_store rfl _ _ _ rfl _ rfl (.int _ _) rfl ?_ | refine wpA_store rfl _ _ _ rfl _ rfl (.slice _ _ _) rfl ?_ | refine wpA_store rfl _ _ _ rfl _ rfl (.bool _) rfl ?_ | refine wpA_store rfl _ _ _ rfl _ rfl (.pointer _) rfl ?_ | refine wpA_store rfl _ _ _ rfl _ rfl (.func _ _ _) rfl ?_); (first | refine storeA hL ?_ | refine storeO hL ?_); (clear hL; intro _ hL)) | ((with_reducible refine wpA_lit rfl _ _ _ rfl ?_); first | refine litA1 hL ?_ | refine litA2 hL ?_ | refine litA3 hL ?_ | refine litA4 hL ?_ | refine litA6 hL ?_) | ((with_reducible refine wpA_append rfl _ _ _ rfl (.slice _ _ _) rfl ?_); intro vq hvq; simp [go_sem] at hvq; subst hvq; refine appendA hL ?_; clear hL; intro _ _ _ hL; try dsimp only at hL) | ((with_reducible refine wpA_make rfl _ _ _ rfl _ rfl rfl ?_); refine makeA hL ?_))
      go_ret
      exact ⟨⟨r, rfl, H1.out, H2.out, H3.out⟩, hL.below⟩
end Go.Proofs.Ytfnolaoohmecbaa
