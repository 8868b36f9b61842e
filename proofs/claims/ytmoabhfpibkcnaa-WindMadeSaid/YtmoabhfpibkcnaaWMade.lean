/- WindMade returns true. -/
import Derived.Test.YtmoabhfpibkcnaaWSays
import Derived.Test.YtmoabhfpibkcnaaMkd2
import Derived.Test.YtmoabhfpibkcnaaPt
-- lit6
namespace Go.Proofs.Ytmoabhfpibkcnaa
open Go.RowKit

theorem isIn_odd (k : Int) : isIn 1 k = (k.tmod 2 != 0) := by
  have hm : (k.tmod 2 = 0) ↔ (k % 2 = 0) := by rw [Int.tmod_eq_emod]; split <;> omega
  rw [bne_dec]
  show decide (k % 2 ≠ 0) = _
  exact decide_eq_decide.2 (not_congr hm.symm)
theorem isIn_nz (k : Int) : isIn 0 k = (k != 0) := by rw [bne_dec]; rfl
theorem isIn_two (k : Int) : isIn 2 k = false := rfl
theorem isIn_neg (k : Int) : isIn (-1) k = false := rfl

set_option maxRecDepth 100000 in
set_option maxHeartbeats 4000000 in
theorem windMade_calls (w : World) (va : Value) (na : List Int) (ha : NumsAt w va na) (x y : Int) : Calls Try.prog 6 #[va, .int .i64 x, .int .i64 y] w fun e w' => e = .returned (.bool true) ∧ Below w.heap.size w w' := by
  have hL := Holds.start w
  obtain ⟨a, cap, rfl, _⟩ := ha.parts
  have HM := Lib.hid (fun w' hb => made_calls w' _ na (SliceAt.below ha hb) true)
  clear ha
  generalize madeS na true = S at *
  have hlen : (edgesS S).length ≤ 1152921504606846976 := Nat.le_trans (edgesS_len S) (by omega)
  have HE := Lib.hid (fun w' v => edges_calls w' v S)
  have HU := Lib.hid (fun w => point_calls x w)
  have HV := Lib.hid (fun w => point_calls y w)
  generalize ptI x = u at *
  generalize ptI y = v at *
  generalize edgesS S = E at *
  have HA := Lib.hid (fun w' ve hv => windAtG_calls w' ve E hv hlen u v)
  have HR := Lib.hid (fun w' ve hv => rAt_calls w' ve E hv hlen u v)
  have HI := Lib.hid (fun w' ve hv rule => windInG_calls w' ve E hv hlen rule u v)
  generalize windG E u v = k at *
  clear hlen
  go_enter Try.func6, Try.ntmps6
  go_wp2_with (first | (go_at_call 13; (with_reducible refine (known_calls _).mono ?_); rintro e _ ⟨rfl, hb⟩; replace hL := hL.call hb; clear hb) | (go_at_call 18; (first | ((with_reducible refine (HU.out _).mono ?_); rintro e _ ⟨rfl, rfl⟩) | ((with_reducible refine (HV.out _).mono ?_); rintro e _ ⟨rfl, rfl⟩))) | (go_at_call 22; (with_reducible refine (HM.out _ hL.below).mono ?_); rintro e _ ⟨vs, rfl, hb, hf⟩; replace hL := hL.callF hb hf; clear hb hf) | (go_at_call 21; (with_reducible refine (HE.out _ _ hL.fact0).mono ?_); rintro e _ ⟨ve, rfl, hb, hf⟩; obtain ⟨ea, ec, rfl, _⟩ := EdgesAt.parts hf.now; replace hL := hL.callF hb hf; clear hb hf) | (go_at_call 14; (with_reducible refine (HA.out _ _ hL.fact0).mono ?_); rintro e _ ⟨rfl, hb⟩; replace hL := hL.call hb; clear hb) | (go_at_call 15; (with_reducible refine (HR.out _ _ hL.fact0).mono ?_); rintro e _ ⟨rfl, hb⟩; replace hL := hL.call hb; clear hb) | (go_at_call 16; (with_reducible refine (HI.out _ _ hL.fact0 _).mono ?_); rintro e _ ⟨rfl, hb⟩; replace hL := hL.call hb; clear hb; first | rw [isIn_nz] | rw [isIn_odd] | rw [isIn_two] | rw [isIn_neg]) | ((clear hL; with_reducible intro _ _ hL)) | (with_reducible refine wpC_alloc rfl _ rfl _ _ inferInstance hL ?_) | (with_reducible first | refine wpB_agg rfl _ _ _ rfl rfl hL ?_ | refine wpB_one rfl _ _ (.int _ _) rfl rfl rfl hL ?_ | refine wpB_one rfl _ _ (.slice _ _ _) rfl rfl rfl hL ?_ | refine wpB_one rfl _ _ (.bool _) rfl rfl rfl hL ?_ | refine wpB_one rfl _ _ (.pointer _) rfl rfl rfl hL ?_ | refine wpB_one rfl _ _ (.func _ _ _) rfl rfl rfl hL ?_) | (with_reducible first | refine wpH_max rfl _ _ _ _ rfl _ _ rfl rfl ?_ | refine wpH_min rfl _ _ _ _ rfl _ _ rfl rfl ?_) | ((with_reducible refine wpA_load rfl _ _ rfl _ rfl ?_); first | refine loadA hL ?_ | refine loadR hL ?_ | refine loadC hL ?_ | refine loadD ?_ | refine loadE hL ?_ | refine loadF ?_) | ((with_reducible refine wpA_index rfl _ _ _ rfl _ rfl _ rfl ?_); first | (refine indexA ?_; try rw [Int.toNat_natCast]) | refine indexC ?_) | ((with_reducible refine wpA_store rfl _ _ _ rfl _ rfl (.agg _) rfl ?_); refine storeR hL ?_; clear hL; intro _ hL) | ((with_reducible first | refine wpA_store rfl _ _ _ rfl _ rfl (.int _ _) rfl ?_ | refine wpA_store rfl _ _ _ rfl _ rfl (.slice _ _ _) rfl ?_ | refine wpA_store rfl _ _ _ rfl _ rfl (.bool _) rfl ?_ | refine wpA_store rfl _ _ _ rfl _ rfl (.pointer _) rfl ?_ | refine wpA_store rfl _ _ _ rfl _ rfl (.func _ _ _) rfl ?_); (first | refine storeA hL ?_ | refine storeO hL ?_); (clear hL; intro _ hL)) | ((with_reducible refine wpA_lit rfl _ _ _ rfl ?_); first | refine litA1 hL ?_ | refine litA2 hL ?_ | refine litA3 hL ?_ | refine litA4 hL ?_ | refine litA6 hL ?_) | ((with_reducible refine wpA_append rfl _ _ _ rfl (.slice _ _ _) rfl ?_); intro vq hvq; simp [go_sem] at hvq; subst hvq; refine appendA hL ?_; clear hL; intro _ _ _ hL; try dsimp only at hL) | ((with_reducible refine wpA_make rfl _ _ _ rfl _ rfl rfl ?_); refine makeA hL ?_))
  go_ret
  exact ⟨ret_bool (by simp), hL.below⟩
end Go.Proofs.Ytmoabhfpibkcnaa
