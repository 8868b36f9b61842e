/- tympanlaw29.known: the document's example. -/
import Derived.Test.YtneddfiohekhiaaMskM
-- uses arrU
-- lit6
namespace Go.Proofs.Ytneddfiohekhiaa
open Go.RowKit

def knownP (j i : Nat) : Bool := isIn 0 (windG (edgesS (boxS 16 0 48 32)) (16 * (i : Int) + 8) (16 * (j : Int) + 8))
theorem known_bytes : (pixMask 4 2 knownP).B = [0, 1, 1, 0, 0, 1, 1, 0] := by decide +kernel
theorem known_count : pixCount 4 knownP 2 = 4 := by decide +kernel
theorem known_has : atPix 4 2 knownP 1 1 = true ∧ atPix 4 2 knownP 3 0 = false := by decide +kernel
theorem known_str : strOfNums [0, 1, 1, 0, 0, 1, 1, 0] = ⟨#[0, 1, 1, 0, 0, 1, 1, 0]⟩ := by decide +kernel
set_option maxRecDepth 100000 in
set_option maxHeartbeats 2000000 in
theorem known_calls (w : World) : Calls Try.prog 13 #[] w fun e w' => e = .returned (.bool true) ∧ Below w.heap.size w w' := by
  have hs : Sides 4 2 := ⟨by decide, by decide, by decide, by decide⟩
  have hL := Holds.start w
  have HM := Lib.hid (fun w' v hv => coverMaskK_calls (W := 4) (H := 2) (Wi := 4) (Hi := 2) (n := 8) rfl rfl rfl hs w' v (boxS 16 0 48 32) hv (by decide +kernel) 0 (.inl rfl))
  have HY := Lib.hid (fun w' ma h => mayK_calls (W := 4) (H := 2) (Wi := 4) (Hi := 2) (n := 8) rfl rfl rfl hs w' ma knownP h)
  have HC := Lib.hid (fun w' ma h => countK_calls (W := 4) (H := 2) (Wi := 4) (Hi := 2) (n := 8) rfl rfl rfl hs w' ma knownP h)
  rw [known_count] at HC
  have H1 := Lib.hid (fun w' ma h => hasK_calls (W := 4) (H := 2) (Wi := 4) (Hi := 2) (n := 8) rfl rfl rfl hs w' ma knownP h 1 1)
  have H2 := Lib.hid (fun w' ma h => hasK_calls (W := 4) (H := 2) (Wi := 4) (Hi := 2) (n := 8) rfl rfl rfl hs w' ma knownP h 3 0)
  rw [known_has.1] at H1
  rw [known_has.2] at H2
  have HB := Lib.hid (show ∀ w' ma, MaskF (.agg #[.int .i64 4, .int .i64 2, .slice ma 8 8]) (pixMask 4 2 knownP) w' → BytesAt w' (.slice ma 8 8) [0, 1, 1, 0, 0, 1, 1, 0] from fun w' ma h => by
    have := MaskAt.bytes (W := 4) (H := 2) h
    rw [known_bytes] at this
    exact this)
  have hK : (fun j i : Nat => isIn 0 (windG (edgesS (boxS 16 0 48 32)) (16 * (i : Int) + 8) (16 * (j : Int) + 8))) = knownP := rfl
  rw [hK] at HM
  clear hK
  generalize knownP = kp at *
  have n1 : True := trivial
  go_enter Try.func13, Try.ntmps13
  go_wp2_with (first | (go_at_call 36; (with_reducible refine (box_calls _ _ _ _ _).mono ?_); rintro e _ ⟨vb, rfl, hb, hf⟩; replace hL := hL.callF hb hf; clear hb hf) | (go_at_call 14; (with_reducible refine (HM.out _ _ hL.fact0).mono ?_); rintro e _ ⟨ma, rfl, hb, hf⟩; replace hL := hL.callF hb hf; clear hb hf) | (with_reducible refine wpS_conv rfl _ rfl (.slice _ _ _) rfl _ (HB.out _ _ hL.fact0) ?_; rw [known_str]) | (go_at_call 20; (with_reducible refine (HY.out _ _ hL.fact0).mono ?_); rintro e _ ⟨rfl, hb⟩; replace hL := hL.call hb; clear hb) | (go_at_call 22; (with_reducible refine (HC.out _ _ hL.fact0).mono ?_); rintro e _ ⟨rfl, hb⟩; replace hL := hL.call hb; clear hb) | (go_at_call 28; (with_reducible first | refine (H1.out _ _ hL.fact0).mono ?_ | refine (H2.out _ _ hL.fact0).mono ?_); rintro e _ ⟨rfl, hb⟩; replace hL := hL.call hb; clear hb) | (first | (clear hL n1; with_reducible intro b1 w1 hL) | (clear hL; with_reducible intro _ _ hL)) | (with_reducible refine wpC_alloc rfl _ rfl _ _ inferInstance hL ?_) | (with_reducible first | refine wpB_agg rfl _ _ _ rfl rfl hL ?_ | refine wpB_one rfl _ _ (.int _ _) rfl rfl rfl hL ?_ | refine wpB_one rfl _ _ (.slice _ _ _) rfl rfl rfl hL ?_ | refine wpB_one rfl _ _ (.bool _) rfl rfl rfl hL ?_ | refine wpB_one rfl _ _ (.pointer _) rfl rfl rfl hL ?_ | refine wpB_one rfl _ _ (.func _ _ _) rfl rfl rfl hL ?_) | (with_reducible first | refine wpH_max rfl _ _ _ _ rfl _ _ rfl rfl ?_ | refine wpH_min rfl _ _ _ _ rfl _ _ rfl rfl ?_) | ((with_reducible refine wpA_load rfl _ _ rfl _ rfl ?_); first | refine loadA hL ?_ | refine loadR hL ?_ | refine loadC hL ?_ | refine loadD ?_ | refine loadE hL ?_ | refine loadF ?_) | ((with_reducible refine wpA_index rfl _ _ _ rfl _ rfl _ rfl ?_); first | (refine indexA ?_; try rw [Int.toNat_natCast]) | refine indexC ?_) | ((with_reducible refine wpA_store rfl _ _ _ rfl _ rfl (.agg _) rfl ?_); refine storeR hL ?_; clear hL; intro _ hL) | ((with_reducible first | refine wpA_store rfl _ _ _ rfl _ rfl (.int _ _) rfl ?_ | refine wpA_store rfl _ _ _ rfl _ rfl (.slice _ _ _) rfl ?_ | refine wpA_store rfl _ _ _ rfl _ rfl (.bool _) rfl ?_ | refine wpA_store rfl _ _ _ rfl _ rfl (.pointer _) rfl ?_ | refine wpA_store rfl _ _ _ rfl _ rfl (.func _ _ _) rfl ?_); (first | refine storeA hL ?_ | refine storeO hL ?_); (clear hL; intro _ hL)) | ((with_reducible refine wpA_lit rfl _ _ _ rfl ?_); first | refine litA1 hL ?_ | refine litA2 hL ?_ | refine litA3 hL ?_ | refine litA4 hL ?_ | refine litA6 hL ?_) | ((with_reducible refine wpA_append rfl _ _ _ rfl (.slice _ _ _) rfl ?_); intro vq hvq; simp [go_sem] at hvq; subst hvq; refine appendA hL ?_; clear hL; intro _ _ _ hL; try dsimp only at hL) | ((with_reducible refine wpA_make rfl _ _ _ rfl _ rfl rfl ?_); refine makeA hL ?_))
  go_ret
  exact ⟨ret_bool (by simp), hL.below⟩
end Go.Proofs.Ytneddfiohekhiaa
