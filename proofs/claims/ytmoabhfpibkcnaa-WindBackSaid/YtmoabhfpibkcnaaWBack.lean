/- WindBack returns true. -/
import Derived.Test.YtmoabhfpibkcnaaBkL
import Derived.Test.YtmoabhfpibkcnaaWIn
import Derived.Test.YtmoabhfpibkcnaaPt
-- lit6
namespace Go.Proofs.Ytmoabhfpibkcnaa
open Go.RowKit

theorem two_edges {w : World} {B : Nat} {e : TypeId} {v : Value} {l m : List Edg} (h : (own B e 7 v (l.length + m.length) ((l.map edgeC).flatten ++ (m.map edgeC).flatten)).ok w) : EdgesAt w v (l ++ m) :=
  own_sliceAt h (by simp) (by simp) (edgeC_len _)

set_option maxRecDepth 100000 in
set_option maxHeartbeats 8000000 in
theorem windBack_calls (w : World) (va : Value) (na : List Int) (ha : NumsAt w va na) (px py : Int) : Calls Try.prog 10 #[va, .int .i64 px, .int .i64 py] w fun e w' => e = .returned (.bool true) ∧ Below w.heap.size w w' := by
  have hL := Holds.start w
  obtain ⟨a, cap, rfl, _⟩ := ha.parts
  have HM := Lib.hid (fun w' hb => made_calls w' _ na (SliceAt.below ha hb) true)
  clear ha
  have hmay := made_may na true
  generalize madeS na true = S at *
  have hlen := edgesS_len S
  have hlen2 := edgesS_len (backS S)
  have HE := Lib.hid (fun w' v => edges_calls w' v S)
  have HE2 := Lib.hid (fun w' v => edges_calls w' v (backS S))
  have HBk := Lib.hid (fun w' v hv => back_calls w' v S hv)
  have HU := Lib.hid (fun w => point_calls px w)
  have HV := Lib.hid (fun w => point_calls py w)
  generalize ptI px = u at *
  generalize ptI py = v at *
  have hneg := back_wind hmay u v
  generalize edgesS (backS S) = B at *
  generalize backS S = S2 at *
  generalize edgesS S = E at *
  have hbd := windG_bd u v E
  have h0 : windG (E ++ B) u v = 0 := by rw [windG_append, hneg]; omega
  have h2 : windG (E ++ E) u v = 2 * windG E u v := by rw [windG_append]; omega
  have HA := Lib.hid (fun w' ve hv => windAtG_calls w' ve E hv (by omega) u v)
  have HB := Lib.hid (fun w' ve hv => windAtG_calls w' ve B hv (by omega) u v)
  have HC := Lib.hid (fun w' ve hv => windAtG_calls w' ve (E ++ B) hv (by rw [List.length_append]; omega) u v)
  have HD := Lib.hid (fun w' ve hv => windAtG_calls w' ve (E ++ E) hv (by rw [List.length_append]; omega) u v)
  have HI := Lib.hid (fun w' ve hv => windInX_calls w' ve (E ++ E) hv (by rw [List.length_append]; omega) 1 u v)
  rw [hneg] at HB
  rw [h0] at HC
  rw [h2] at HD HI
  have hodd : isIn 1 (2 * windG E u v) = false := by unfold isIn; simp
  rw [hodd] at HI
  clear hneg h0 h2 hodd hmay
  generalize windG E u v = k at *
  go_enter Try.func10, Try.ntmps10
  go_wp2_with (first | (go_at_call 13; (with_reducible refine (known_calls _).mono ?_); rintro e _ ⟨rfl, hb⟩; replace hL := hL.call hb; clear hb) | (go_at_call 22; (with_reducible refine (HM.out _ hL.below).mono ?_); rintro e _ ⟨vs, rfl, hb, hf⟩; replace hL := hL.callF hb hf; clear hb hf) | (go_at_call 21; (first | ((with_reducible refine (HE.out _ _ hL.fact0).mono ?_); rintro e _ ⟨ve, rfl, hb, hf⟩; obtain ⟨ea, ec, rfl, _⟩ := EdgesAt.parts hf.now; replace hL := hL.callF hb hf; clear hb hf) | ((with_reducible refine (HE2.out _ _ hL.fact0).mono ?_); rintro e _ ⟨ve, rfl, hb, hf⟩; obtain ⟨ba, bc, rfl, _⟩ := EdgesAt.parts hf.now; replace hL := hL.callF hb hf; clear hb hf))) | (go_at_call 27; (with_reducible refine (HBk.out _ _ hL.fact1).mono ?_); rintro e _ ⟨vk, rfl, hb, hf⟩; replace hL := hL.callF hb hf; clear hb hf) | (go_at_call 18; (first | ((with_reducible refine (HU.out _).mono ?_); rintro e _ ⟨rfl, rfl⟩) | ((with_reducible refine (HV.out _).mono ?_); rintro e _ ⟨rfl, rfl⟩))) | ((with_reducible refine wpA_lit rfl _ _ _ rfl ?_); refine litA0 hL ?_; clear hL; intro bl _ hL) | ((with_reducible refine wpA_append rfl _ _ _ rfl (.slice _ _ _) rfl ?_); intro vq hvq; simp [go_sem] at hvq; subst hvq; (first | refine appendE2 hL.fact2 hL (fun r' => .here) rfl ?_ ?_ ?_ | refine appendE2 hL.fact0 hL (fun r' => .here) rfl ?_ ?_ ?_ | refine appendE2 hL.fact3 hL (fun r' => .here) rfl ?_ ?_ ?_); (· unfold maxLen; omega); (· omega); clear hL; intro ve2 _ hL; (try simp only [Nat.zero_add, List.nil_append] at hL); obtain ⟨gz, cz, rfl⟩ := own_slice hL .here; (try (first | replace hL := hL.settle .here (φ := fun w => EdgesAt w (.slice gz (E.length + B.length) cz) (E ++ B)) fun w h => two_edges h | replace hL := hL.settle .here (φ := fun w => EdgesAt w (.slice gz (E.length + E.length) cz) (E ++ E)) fun w h => two_edges h))) | (go_at_call 14; (with_reducible first | refine (HA.out _ _ hL.fact2).mono ?_ | refine (HB.out _ _ hL.fact2).mono ?_ | refine (HC.out _ _ hL.fact1).mono ?_ | refine (HD.out _ _ hL.fact0).mono ?_); rintro e _ ⟨rfl, hb⟩; replace hL := hL.call hb; clear hb) | (go_at_call 16; (with_reducible refine (HI.out _ _ hL.fact0).mono ?_); rintro e _ ⟨rfl, hb⟩; replace hL := hL.call hb; clear hb) | ((clear hL; with_reducible intro _ _ hL)) | (with_reducible refine wpC_alloc rfl _ rfl _ _ inferInstance hL ?_) | (with_reducible first | refine wpB_agg rfl _ _ _ rfl rfl hL ?_ | refine wpB_one rfl _ _ (.int _ _) rfl rfl rfl hL ?_ | refine wpB_one rfl _ _ (.slice _ _ _) rfl rfl rfl hL ?_ | refine wpB_one rfl _ _ (.bool _) rfl rfl rfl hL ?_ | refine wpB_one rfl _ _ (.pointer _) rfl rfl rfl hL ?_ | refine wpB_one rfl _ _ (.func _ _ _) rfl rfl rfl hL ?_) | (with_reducible first | refine wpH_max rfl _ _ _ _ rfl _ _ rfl rfl ?_ | refine wpH_min rfl _ _ _ _ rfl _ _ rfl rfl ?_) | ((with_reducible refine wpA_load rfl _ _ rfl _ rfl ?_); first | refine loadA hL ?_ | refine loadR hL ?_ | refine loadC hL ?_ | refine loadD ?_ | refine loadE hL ?_ | refine loadF ?_) | ((with_reducible refine wpA_index rfl _ _ _ rfl _ rfl _ rfl ?_); first | (refine indexA ?_; try rw [Int.toNat_natCast]) | refine indexC ?_) | ((with_reducible refine wpA_store rfl _ _ _ rfl _ rfl (.agg _) rfl ?_); refine storeR hL ?_; clear hL; intro _ hL) | ((with_reducible first | refine wpA_store rfl _ _ _ rfl _ rfl (.int _ _) rfl ?_ | refine wpA_store rfl _ _ _ rfl _ rfl (.slice _ _ _) rfl ?_ | refine wpA_store rfl _ _ _ rfl _ rfl (.bool _) rfl ?_ | refine wpA_store rfl _ _ _ rfl _ rfl (.pointer _) rfl ?_ | refine wpA_store rfl _ _ _ rfl _ rfl (.func _ _ _) rfl ?_); (first | refine storeA hL ?_ | refine storeO hL ?_); (clear hL; intro _ hL)) | ((with_reducible refine wpA_lit rfl _ _ _ rfl ?_); first | refine litA1 hL ?_ | refine litA2 hL ?_ | refine litA3 hL ?_ | refine litA4 hL ?_ | refine litA6 hL ?_) | ((with_reducible refine wpA_append rfl _ _ _ rfl (.slice _ _ _) rfl ?_); intro vq hvq; simp [go_sem] at hvq; subst hvq; refine appendA hL ?_; clear hL; intro _ _ _ hL; try dsimp only at hL) | ((with_reducible refine wpA_make rfl _ _ _ rfl _ rfl rfl ?_); refine makeA hL ?_))
  go_ret
  exact ⟨ret_bool (by simp), hL.below⟩
end Go.Proofs.Ytmoabhfpibkcnaa
