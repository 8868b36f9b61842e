/- ScanTurned returns true. -/
import Derived.Test.YtkgblkaihblgeaaScnM
import Derived.Test.YtkgblkaihblgeaaShM
import Derived.Test.YtkgblkaihblgeaaBoxM
import Derived.Test.YtkgblkaihblgeaaBak
import Derived.Test.YtkgblkaihblgeaaMkdM
-- lit6
namespace Go.Proofs.Ytkgblkaihblgeaa
open Go.RowKit

theorem edges_part {w : World} {a : Option Addr} {c : Nat} {E : List Edg} (h : EdgesAt w (.slice a E.length c) E) (k : Nat) (hk : k ≤ E.length) : EdgesAt w (sliced a k E.length c 7) (E.drop k) ∧ EdgesAt w (sliced a 0 k c 7) (E.take k) := by
  have h1 := SliceAt.part h hk (Nat.le_refl _)
  have h2 := SliceAt.part h (Nat.zero_le k) hk
  rw [List.take_of_length_le (by simp), ← List.map_drop] at h1
  rw [List.drop_zero, ← List.map_take] at h2
  exact ⟨h1, h2⟩

set_option maxRecDepth 100000 in
set_option maxHeartbeats 8000000 in
theorem scanTurned_calls (w : World) (va : Value) (na : List Int) (ha : NumsAt w va na) (rule by_ line : Int) : Calls Try.prog 9 #[va, .int .i64 rule, .int .i64 by_, .int .i64 line] w fun e w' => e = .returned (.bool true) ∧ Below w.heap.size w w' := by
  have hL := Holds.start w
  obtain ⟨a, cap, rfl, _⟩ := ha.parts
  have HM := Lib.hid (fun w' hb => made_calls w' _ na (SliceAt.below ha hb) true)
  clear ha
  have hmay := made_may na true
  generalize madeS na true = S at *
  have hlen := edgesS_len S
  have HE := Lib.hid (fun w' v => edges_calls w' v S)
  have HP1 := Lib.hid (fun w => place_calls rule 2 (by omega) (by omega) w)
  have HP2 := Lib.hid (fun w => place_calls line 340 (by omega) (by omega) w)
  have q3 := Int.emod_nonneg line (show (340 : Int) ≠ 0 by omega)
  have q4 := Int.emod_lt_of_pos line (show (0 : Int) < 340 by omega)
  have q5 := Int.emod_nonneg by_ (show ((edgesS S).length : Int) + 1 ≠ 0 by omega)
  have q6 := Int.emod_lt_of_pos by_ (show (0 : Int) < ((edgesS S).length : Int) + 1 by omega)
  have HP3 := Lib.hid (fun w => place_calls by_ (((edgesS S).length : Int) + 1) (by omega) (by omega) w)
  generalize by_ % (((edgesS S).length : Int) + 1) = k at *
  generalize line % 340 = yl at *
  generalize rule % 2 = r at *
  have HS := Lib.hid (fun w' v hv => back_calls w' v S hv)
  have HE2 := Lib.hid (fun w' v => edges_calls w' v (backS S))
  have HA := Lib.hid (fun w' ve hv => scanLine_calls w' ve (edgesS S) hv (by omega) r (yl - 40) 20)
  have HB := Lib.hid (fun w' ve hv => scanLine_calls w' ve ((edgesS S).drop k.toNat ++ (edgesS S).take k.toNat) hv (by rw [List.length_append, List.length_drop, List.length_take]; omega) r (yl - 40) 20)
  have HC := Lib.hid (fun w' ve hv => scanLine_calls w' ve (edgesS (backS S)) hv (Nat.le_trans (edgesS_len _) (by omega)) r (yl - 40) 20)
  rw [lineS_congr (m := edgesS S) (fun x => by rw [windG_turn])] at HB
  rw [lineS_congr (m := edgesS S) (fun x => by rw [back_wind hmay, isInX_neg])] at HC
  clear hmay
  have HT := Lib.hid (show decide (lineS (edgesS S) r (yl - 40) 20 = lineS (edgesS S) r (yl - 40) 20) = true by simp)
  generalize lineS (edgesS S) r (yl - 40) 20 = R at *
  generalize edgesS (backS S) = E2 at *
  generalize edgesS S = E at *
  go_enter Try.func9, Try.ntmps9
  go_wp2_with (first | (go_at_call 13; (with_reducible refine (known_calls _).mono ?_); rintro e _ ⟨rfl, hb⟩; replace hL := hL.call hb; clear hb) | (go_at_call 21; (with_reducible refine (HM.out _ hL.below).mono ?_); rintro e _ ⟨vs, rfl, hb, hf⟩; replace hL := hL.callF hb hf; clear hb hf) | (go_at_call 25; (with_reducible refine (HE.out _ _ hL.fact0).mono ?_); rintro e _ ⟨ve, rfl, hb, hf⟩; obtain ⟨ea, ec, rfl, _⟩ := EdgesAt.parts hf.now; replace hL := hL.callF hb hf; clear hb hf) | (go_at_call 22; (with_reducible first | refine (HP1.out _).mono ?_ | refine (HP2.out _).mono ?_ | refine (HP3.out _).mono ?_); rintro e _ ⟨rfl, rfl⟩) | ((clear hL; with_reducible intro _ _ hL)) | (with_reducible refine wpC_alloc rfl _ rfl _ _ inferInstance hL ?_) | (with_reducible first | refine wpB_agg rfl _ _ _ rfl rfl hL ?_ | refine wpB_one rfl _ _ (.int _ _) rfl rfl rfl hL ?_ | refine wpB_one rfl _ _ (.slice _ _ _) rfl rfl rfl hL ?_ | refine wpB_one rfl _ _ (.bool _) rfl rfl rfl hL ?_ | refine wpB_one rfl _ _ (.pointer _) rfl rfl rfl hL ?_ | refine wpB_one rfl _ _ (.func _ _ _) rfl rfl rfl hL ?_) | (with_reducible first | refine wpH_max rfl _ _ _ _ rfl _ _ rfl rfl ?_ | refine wpH_min rfl _ _ _ _ rfl _ _ rfl rfl ?_) | ((with_reducible refine wpA_load rfl _ _ rfl _ rfl ?_); first | refine loadA hL ?_ | refine loadR hL ?_ | refine loadC hL ?_ | refine loadD ?_ | refine loadE hL ?_ | refine loadF ?_) | ((with_reducible refine wpA_index rfl _ _ _ rfl _ rfl _ rfl ?_); first | (refine indexA ?_; try rw [Int.toNat_natCast]) | refine indexC ?_) | ((with_reducible refine wpA_store rfl _ _ _ rfl _ rfl (.agg _) rfl ?_); refine storeR hL ?_; clear hL; intro _ hL) | ((with_reducible first | refine wpA_store rfl _ _ _ rfl _ rfl (.int _ _) rfl ?_ | refine wpA_store rfl _ _ _ rfl _ rfl (.slice _ _ _) rfl ?_ | refine wpA_store rfl _ _ _ rfl _ rfl (.bool _) rfl ?_ | refine wpA_store rfl _ _ _ rfl _ rfl (.pointer _) rfl ?_ | refine wpA_store rfl _ _ _ rfl _ rfl (.func _ _ _) rfl ?_); (first | refine storeA hL ?_ | refine storeO hL ?_); (clear hL; intro _ hL)) | ((with_reducible refine wpA_lit rfl _ _ _ rfl ?_); first | refine litA1 hL ?_ | refine litA2 hL ?_ | refine litA3 hL ?_ | refine litA4 hL ?_ | refine litA6 hL ?_) | ((with_reducible refine wpA_append rfl _ _ _ rfl (.slice _ _ _) rfl ?_); intro vq hvq; simp [go_sem] at hvq; subst hvq; refine appendA hL ?_; clear hL; intro _ _ _ hL; try dsimp only at hL) | ((with_reducible refine wpA_make rfl _ _ _ rfl _ rfl rfl ?_); refine makeA hL ?_))
  replace hL := hL.drew
  refine wpH_begin (by kernel_rfl) (fun _ => True) ?_
  have hS : True := trivial
  refine stH (i := 1) (.slice ea E.length ec) hS ?_ ?_; (· exact fun w' _ => (by go_simp)); simp only [Act.put, List.setIfInBounds_toArray, List.set_cons_zero, List.set_cons_succ]
  refine stH (i := 2) (.int .i64 k) hS ?_ ?_; (· exact fun w' _ => (by go_simp)); simp only [Act.put, List.setIfInBounds_toArray, List.set_cons_zero, List.set_cons_succ]
  refine stH (i := 3) (sliced ea k.toNat E.length ec 7) hS ?_ ?_; (· exact fun w' _ => run_lo _ _ rfl rfl rfl q5 (by omega)); simp only [Act.put, List.setIfInBounds_toArray, List.set_cons_zero, List.set_cons_succ]
  refine stH (i := 5) (.slice ea E.length ec) hS ?_ ?_; (· exact fun w' _ => (by go_simp)); simp only [Act.put, List.setIfInBounds_toArray, List.set_cons_zero, List.set_cons_succ]
  refine stH (i := 6) (.int .i64 k) hS ?_ ?_; (· exact fun w' _ => (by go_simp)); simp only [Act.put, List.setIfInBounds_toArray, List.set_cons_zero, List.set_cons_succ]
  refine stH (i := 7) (sliced ea 0 k.toNat ec 7) hS ?_ ?_; (· exact fun w' _ => run_hi _ _ rfl rfl rfl q5 (by omega)); simp only [Act.put, List.setIfInBounds_toArray, List.set_cons_zero, List.set_cons_succ]
  obtain ⟨sl, hsl⟩ : ∃ s, sliced ea k.toNat E.length ec 7 = s := ⟨_, rfl⟩
  obtain ⟨sh, hsh⟩ : ∃ s, sliced ea 0 k.toNat ec 7 = s := ⟨_, rfl⟩
  rw [hsl, hsh]
  have hpart : ∀ w', EdgesAt w' (.slice ea E.length ec) E → EdgesAt w' sl (E.drop k.toNat) ∧ EdgesAt w' sh (E.take k.toNat) := fun w' h => by rw [← hsl, ← hsh]; exact edges_part h _ (by omega)
  have HPt := Lib.hid hpart
  have hdl : (E.drop k.toNat).length ≤ 300 := by rw [List.length_drop]; omega
  have htl : (E.take k.toNat).length ≤ 300 := by rw [List.length_take]; omega
  clear hpart hsl hsh
  refine wpH_one (i := 0) (by kernel_rfl) (wpOp_of (by simp only [List.getElem?_toArray, List.getElem?_cons_zero, List.getElem?_cons_succ]; rfl) ?_)
  refine st_lit rfl _ _ _ rfl (litA0 hL ?_)
  clear hL
  intro b0 w0 hL
  refine ⟨trivial, ?_⟩
  simp only [Act.put, List.setIfInBounds_toArray, List.set_cons_zero, List.set_cons_succ]
  refine wpH_one (i := 4) (by kernel_rfl) (wpOp_of (by simp only [List.getElem?_toArray, List.getElem?_cons_zero, List.getElem?_cons_succ]; rfl) ?_)
  refine st_append rfl _ _ _ rfl (.slice (some ⟨b0, 0, none⟩) 0 0) sl rfl rfl (appendE (HPt.out _ hL.fact0).1 hL ?_)
  clear hL
  intro v4 w4 hL
  refine ⟨trivial, ?_⟩
  simp only [Act.put, List.setIfInBounds_toArray, List.set_cons_zero, List.set_cons_succ]
  refine wpH_one (i := 8) (by kernel_rfl) (wpOp_of (by simp only [List.getElem?_toArray, List.getElem?_cons_zero, List.getElem?_cons_succ]; rfl) ?_)
  refine st_append rfl _ _ _ rfl v4 sh rfl rfl (appendE (HPt.out _ hL.fact0).2 hL ?_)
  clear hL
  intro v8 w8 hL
  refine ⟨trivial, ?_⟩
  simp only [Act.put, List.setIfInBounds_toArray, List.set_cons_zero, List.set_cons_succ]
  refine stH (i := 9) (v8) hS ?_ ?_; (· exact fun w' _ => (by go_simp)); simp only [Act.put, List.setIfInBounds_toArray, List.set_cons_zero, List.set_cons_succ]
  refine wpAnyH_done (by kernel_rfl) ?_ _
  clear hS hdl htl HPt
  replace hL := hL.settle .here (φ := fun w => EdgesAt w v8 (E.drop k.toNat ++ E.take k.toNat)) fun w h => own_sliceAt h (by simp) (by simp) (edgeC_len _)
  generalize E.drop k.toNat ++ E.take k.toNat = E1 at *
  go_wp2_with (first | (go_at_call 15; (with_reducible first | refine (HA.out _ _ hL.fact1).mono ?_ | refine (HC.out _ _ hL.fact0).mono ?_ | refine (HB.out _ _ hL.fact4).mono ?_); rintro e _ ⟨vl, rfl, hb, hf⟩; replace hf := runsFresh hf; replace hL := hL.callF hb hf; clear hb hf) | (go_at_call 31; (with_reducible refine (HS.out _ _ hL.fact3).mono ?_); rintro e _ ⟨vk, rfl, hb, hf⟩; replace hL := hL.callF hb hf; clear hb hf) | (go_at_call 25; (with_reducible refine (HE2.out _ _ hL.fact0).mono ?_); rintro e _ ⟨ve2, rfl, hb, hf⟩; replace hL := hL.callF hb hf; clear hb hf) | (go_at_call 14; (with_reducible first | refine (sameR_calls _ _ _ R hL.fact0 hL.fact3).mono ?_ | refine (sameR_calls _ _ _ R hL.fact0 hL.fact4).mono ?_); rintro e _ ⟨rfl, hb⟩; replace hL := hL.call hb; clear hb) | ((clear hL; with_reducible intro _ _ hL)) | (with_reducible refine wpC_alloc rfl _ rfl _ _ inferInstance hL ?_) | (with_reducible first | refine wpB_agg rfl _ _ _ rfl rfl hL ?_ | refine wpB_one rfl _ _ (.int _ _) rfl rfl rfl hL ?_ | refine wpB_one rfl _ _ (.slice _ _ _) rfl rfl rfl hL ?_ | refine wpB_one rfl _ _ (.bool _) rfl rfl rfl hL ?_ | refine wpB_one rfl _ _ (.pointer _) rfl rfl rfl hL ?_ | refine wpB_one rfl _ _ (.func _ _ _) rfl rfl rfl hL ?_) | (with_reducible first | refine wpH_max rfl _ _ _ _ rfl _ _ rfl rfl ?_ | refine wpH_min rfl _ _ _ _ rfl _ _ rfl rfl ?_) | ((with_reducible refine wpA_load rfl _ _ rfl _ rfl ?_); first | refine loadA hL ?_ | refine loadR hL ?_ | refine loadC hL ?_ | refine loadD ?_ | refine loadE hL ?_ | refine loadF ?_) | ((with_reducible refine wpA_index rfl _ _ _ rfl _ rfl _ rfl ?_); first | (refine indexA ?_; try rw [Int.toNat_natCast]) | refine indexC ?_) | ((with_reducible refine wpA_store rfl _ _ _ rfl _ rfl (.agg _) rfl ?_); refine storeR hL ?_; clear hL; intro _ hL) | ((with_reducible first | refine wpA_store rfl _ _ _ rfl _ rfl (.int _ _) rfl ?_ | refine wpA_store rfl _ _ _ rfl _ rfl (.slice _ _ _) rfl ?_ | refine wpA_store rfl _ _ _ rfl _ rfl (.bool _) rfl ?_ | refine wpA_store rfl _ _ _ rfl _ rfl (.pointer _) rfl ?_ | refine wpA_store rfl _ _ _ rfl _ rfl (.func _ _ _) rfl ?_); (first | refine storeA hL ?_ | refine storeO hL ?_); (clear hL; intro _ hL)) | ((with_reducible refine wpA_lit rfl _ _ _ rfl ?_); first | refine litA1 hL ?_ | refine litA2 hL ?_ | refine litA3 hL ?_ | refine litA4 hL ?_ | refine litA6 hL ?_) | ((with_reducible refine wpA_append rfl _ _ _ rfl (.slice _ _ _) rfl ?_); intro vq hvq; simp [go_sem] at hvq; subst hvq; refine appendA hL ?_; clear hL; intro _ _ _ hL; try dsimp only at hL) | ((with_reducible refine wpA_make rfl _ _ _ rfl _ rfl rfl ?_); refine makeA hL ?_))
  go_ret
  exact ⟨rfl, hL.below⟩
end Go.Proofs.Ytkgblkaihblgeaa
