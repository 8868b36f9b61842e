/- Small coordinates. -/
import Derived.Test.YtmoabhfpibkcnaaWindC
import Derived.Test.YtmoabhfpibkcnaaWindP
namespace Go.Proofs.Ytmoabhfpibkcnaa
open Go.RowKit

def ptI (v : Int) : Int := v % 400 - 60
theorem point_calls (v : Int) (w : World) : Calls Try.prog 18 #[.int .i64 v] w fun e w' => e = .returned (.int .i64 (ptI v)) ∧ w = w' := by
  have p1 := Int.emod_nonneg v (show (400 : Int) ≠ 0 by omega)
  have p2 := Int.emod_lt_of_pos v (show (0 : Int) < 400 by omega)
  go_enter Try.func18, Try.ntmps18
  go_wp2_with (first | (go_at_call 25; (with_reducible refine (place_calls _ _ (by omega) (by omega) _).mono ?_); rintro e _ ⟨rfl, rfl⟩) | ((clear hL; with_reducible intro _ _ hL)) | (with_reducible refine wpC_alloc rfl _ rfl _ _ inferInstance hL ?_) | (with_reducible first | refine wpB_agg rfl _ _ _ rfl rfl hL ?_ | refine wpB_one rfl _ _ (.int _ _) rfl rfl rfl hL ?_ | refine wpB_one rfl _ _ (.slice _ _ _) rfl rfl rfl hL ?_ | refine wpB_one rfl _ _ (.bool _) rfl rfl rfl hL ?_ | refine wpB_one rfl _ _ (.pointer _) rfl rfl rfl hL ?_ | refine wpB_one rfl _ _ (.func _ _ _) rfl rfl rfl hL ?_) | (with_reducible first | refine wpH_max rfl _ _ _ _ rfl _ _ rfl rfl ?_ | refine wpH_min rfl _ _ _ _ rfl _ _ rfl rfl ?_) | ((with_reducible refine wpA_load rfl _ _ rfl _ rfl ?_); first | refine loadA hL ?_ | refine loadR hL ?_ | refine loadC hL ?_ | refine loadD ?_ | refine loadE hL ?_ | refine loadF ?_) | ((with_reducible refine wpA_index rfl _ _ _ rfl _ rfl _ rfl ?_); first | (refine indexA ?_; try rw [Int.toNat_natCast]) | refine indexC ?_) | ((with_reducible refine wpA_store rfl _ _ _ rfl _ rfl (.agg _) rfl ?_); refine storeR hL ?_; clear hL; intro _ hL) | ((with_reducible first | refine wpA_store rfl _ _ _ rfl _ rfl (.int _ _) rfl ?_ | refine wpA_store rfl _ _ _ rfl _ rfl (.slice _ _ _) rfl ?_ | refine wpA_store rfl _ _ _ rfl _ rfl (.bool _) rfl ?_ | refine wpA_store rfl _ _ _ rfl _ rfl (.pointer _) rfl ?_ | refine wpA_store rfl _ _ _ rfl _ rfl (.func _ _ _) rfl ?_); (first | refine storeA hL ?_ | refine storeO hL ?_); (clear hL; intro _ hL)) | ((with_reducible refine wpA_lit rfl _ _ _ rfl ?_); first | refine litA1 hL ?_ | refine litA2 hL ?_) | ((with_reducible refine wpA_append rfl _ _ _ rfl (.slice _ _ _) rfl ?_); intro vq hvq; simp [go_sem] at hvq; subst hvq; refine appendA hL ?_; clear hL; intro _ _ _ hL; try dsimp only at hL) | ((with_reducible refine wpA_make rfl _ _ _ rfl _ rfl rfl ?_); refine makeA hL ?_))
  go_ret
  exact ⟨rfl, rfl⟩
theorem ptI_bd (v : Int) : -60 ≤ ptI v ∧ ptI v ≤ 339 := by
  have p1 := Int.emod_nonneg v (show (400 : Int) ≠ 0 by omega)
  have p2 := Int.emod_lt_of_pos v (show (0 : Int) < 400 by omega)
  unfold ptI; omega
theorem near_small {v : Int} (h : -60 ≤ v ∧ v ≤ 339) : near1 v = true := by simp [near1]; omega
theorem turnE_small {a b c d u v : Int} (h1 : -60 ≤ a ∧ a ≤ 339) (h2 : -60 ≤ b ∧ b ≤ 339) (h3 : -60 ≤ c ∧ c ≤ 339) (h4 : -60 ≤ d ∧ d ≤ 339) (h5 : -60 ≤ u ∧ u ≤ 339) (h6 : -60 ≤ v ∧ v ≤ 339) : turnE ⟨a, b, false, 0, 0, c, d⟩ u v = turnS ⟨a, b, false, 0, 0, c, d⟩ u v := by
  unfold turnE mayE
  rw [if_pos]
  simp only [near_small h1, near_small h2, near_small h3, near_small h4, near_small h5, near_small h6]
  rfl
end Go.Proofs.Ytmoabhfpibkcnaa
