/- HemRegions returns true. -/
import Derived.Test.YtfnolaoohmecbaaHmK
import Derived.Test.YtfnolaoohmecbaaRSg
import Derived.Test.YtfnolaoohmecbaaRfO
-- uses arrU
-- lit6
namespace Go.Proofs.Ytfnolaoohmecbaa
open Go.RowKit

theorem ofReg_pixS {W H : Nat} (hs : Sides W H) (P : Nat → Nat → Bool) : ofReg (pixMask W H P) = ⟨W, H, (List.range H).map fun j => runsTo (P j) W⟩ ∧ ofErr (pixMask W H P) = 0 := by
  unfold ofReg ofErr
  rw [mask_may hs P, if_pos rfl, if_pos rfl]
  refine ⟨?_, rfl⟩
  unfold pixReg
  have e1 : (pixMask W H P).W.toNat = W := Int.toNat_natCast W
  have e2 : (pixMask W H P).H.toNat = H := Int.toNat_natCast H
  rw [e1, e2]
  congr 1
  refine List.map_congr_left fun j hj => runsTo_congr fun i hi => ?_
  have hj : j < H := by simpa using hj
  unfold maskQ
  rw [e1, Nat.mul_comm W j, pixMask_get P hj hi]
  cases P j i <;> rfl
theorem strokeReg_of {W H : Nat} (hs : Sides W H) {l : List Sg} {s : Sty} (h1 : straightS l = true) (h2 : mayY s = true) : ofReg (pixMask W H (strokeQ l s)) = strokeReg l s W H := by
  rw [(ofReg_pixS hs _).1]
  unfold strokeReg
  have hw1 := hs.w1
  have hh1 := hs.h1
  congr 1
  refine List.map_congr_left fun j hj => runsTo_congr fun i hi => ?_
  have hj : j < H := by simpa using hj
  unfold strokeQ inS
  rw [h1, h2, (near_iff' _).2 (show -8191 ≤ 16 * (i : Int) + 8 ∧ 16 * (i : Int) + 8 ≤ 8191 by omega), (near_iff' _).2 (show -8191 ≤ 16 * (j : Int) + 8 ∧ 16 * (j : Int) + 8 ≤ 8191 by omega)]
  rfl
theorem isSide_iff (a : Int) : isSide a = true ↔ 1 ≤ a ∧ a ≤ 64 := by simp [isSide]
set_option maxRecDepth 100000 in
set_option maxHeartbeats 8000000 in
theorem hemRegions_calls (w : World) (v : Value) (l : List Sg) (hv : SegsAt w v l) (s : Sty) (wi hi : Int) :
    Calls Try.prog 4 #[v, .agg #[.int .i64 s.wide, .int .i64 s.cap, .int .i64 s.join], .int .i64 wi, .int .i64 hi] w fun e w' => e = .returned (.bool true) ∧ Below w.heap.size w w' := by
  have Hv := Lib.hid hv
  obtain ⟨a, cap0, rfl, _⟩ := hv.parts
  clear hv
  have hL := Holds.start w
  by_cases hsk : 30 < l.length ∨ (9 < wi ∧ wi ≤ 64) ∨ (9 < hi ∧ hi ≤ 64)
  · have hsk2 : (30 : Int) < (l.length : Int) ∨ (¬ (30 : Int) < (l.length : Int) ∧ 9 < wi ∧ wi ≤ 64) ∨ (¬ (30 : Int) < (l.length : Int) ∧ ¬ 9 < wi ∧ 9 < hi ∧ hi ≤ 64) ∨ (¬ (30 : Int) < (l.length : Int) ∧ 9 < wi ∧ ¬ wi ≤ 64 ∧ 9 < hi ∧ hi ≤ 64) := by omega
    clear hsk
    rcases hsk2 with h1 | ⟨h1, h2, h3⟩ | ⟨h1, h2, h3, h4⟩ | ⟨h1, h2, h3, h4, h5⟩
    all_goals
      have n1 : True := trivial
      go_enter Try.func4, Try.ntmps4
      go_wp2_with (first | (go_at_call 12; (with_reducible refine (known_calls _).mono ?_); rintro e _ ⟨rfl, hb⟩; replace hL := hL.call hb; clear hb) | (first | (clear hL n1; with_reducible intro b1 w1 hL) | (clear hL; with_reducible intro _ _ hL)) | (with_reducible refine wpC_alloc rfl _ rfl _ _ inferInstance hL ?_) | (with_reducible first | refine wpB_agg rfl _ _ _ rfl rfl hL ?_ | refine wpB_one rfl _ _ (.int _ _) rfl rfl rfl hL ?_ | refine wpB_one rfl _ _ (.slice _ _ _) rfl rfl rfl hL ?_ | refine wpB_one rfl _ _ (.bool _) rfl rfl rfl hL ?_ | refine wpB_one rfl _ _ (.pointer _) rfl rfl rfl hL ?_ | refine wpB_one rfl _ _ (.func _ _ _) rfl rfl rfl hL ?_) | (with_reducible first | refine wpH_max rfl _ _ _ _ rfl _ _ rfl rfl ?_ | refine wpH_min rfl _ _ _ _ rfl _ _ rfl rfl ?_) | ((with_reducible refine wpA_load rfl _ _ rfl _ rfl ?_); first | refine loadA hL ?_ | refine loadR hL ?_ | refine loadC hL ?_ | refine loadD ?_ | refine loadE hL ?_ | refine loadF ?_) | ((with_reducible refine wpA_index rfl _ _ _ rfl _ rfl _ rfl ?_); first | (refine indexA ?_; try rw [Int.toNat_natCast]) | refine indexC ?_) | ((with_reducible refine wpA_store rfl _ _ _ rfl _ rfl (.agg _) rfl ?_); refine storeR hL ?_; clear hL; intro _ hL) | ((with_reducible first | refine wpA_store rfl _ _ _ rfl _ rfl (.int _ _) rfl ?_ | refine wpA_store rfl _ _ _ rfl _ rfl (.slice _ _ _) rfl ?_ | refine wpA_store rfl _ _ _ rfl _ rfl (.bool _) rfl ?_ | refine wpA_store rfl _ _ _ rfl _ rfl (.pointer _) rfl ?_ | refine wpA_store rfl _ _ _ rfl _ rfl (.func _ _ _) rfl ?_); (first | refine storeA hL ?_ | refine storeO hL ?_); (clear hL; intro _ hL)) | ((with_reducible refine wpA_lit rfl _ _ _ rfl ?_); first | refine litA1 hL ?_ | refine litA2 hL ?_ | refine litA3 hL ?_ | refine litA4 hL ?_ | refine litA6 hL ?_) | ((with_reducible refine wpA_append rfl _ _ _ rfl (.slice _ _ _) rfl ?_); intro vq hvq; simp [go_sem] at hvq; subst hvq; refine appendA hL ?_; clear hL; intro _ _ _ hL; try dsimp only at hL) | ((with_reducible refine wpA_make rfl _ _ _ rfl _ rfl rfl ?_); refine makeA hL ?_))
      go_ret
      exact ⟨rfl, hL.below⟩
  have h0 : ¬ (30 : Int) < (l.length : Int) := by omega
  have hcs : (¬ 9 < wi ∧ ¬ 9 < hi) ∨ (¬ 9 < wi ∧ 9 < hi ∧ ¬ hi ≤ 64) ∨ (9 < wi ∧ ¬ wi ≤ 64 ∧ ¬ 9 < hi) ∨ (9 < wi ∧ ¬ wi ≤ 64 ∧ 9 < hi ∧ ¬ hi ≤ 64) := by omega
  clear hsk
  cases hok : (straightS l && (mayY s && (isSide wi && isSide hi))) with
  | false =>
    have HA := Lib.hid (fun w' (hb : Below w.heap.size w w') => hemRegion_no w' (.slice a l.length cap0) l (SliceAt.below Hv.out hb) s wi hi (by
      intro h
      rw [(isSide_iff wi).2 h.2.1, (isSide_iff hi).2 h.2.2] at hok
      have h1 := h.1
      simp only [Bool.and_eq_true] at h1
      rw [h1.1, h1.2] at hok
      cases hok))
    have HB := Lib.hid (fun w' (hb : Below w.heap.size w w') => rMask33_no w' (.slice a l.length cap0) l (SliceAt.below Hv.out hb) s wi hi hok)
    have HH := Lib.hid (fun w' va vb (ha : RegAt w' va noReg) (hb : RegAt w' vb noReg) => sameReg_self noReg ▸ helpRegion_calls w' va vb _ _ ha hb)
    clear hok
    rcases hcs with ⟨h1, h2⟩ | ⟨h1, h2, h3⟩ | ⟨h1, h2, h3⟩ | ⟨h1, h2, h3, h4⟩
    all_goals
      have n1 : True := trivial; have n2 : True := trivial; have n3 : True := trivial
      go_enter Try.func4, Try.ntmps4
      go_wp2_with (first | (go_at_call 12; (with_reducible refine (known_calls _).mono ?_); rintro e _ ⟨rfl, hb⟩; replace hL := hL.call hb; clear hb) | (go_at_call 17; (with_reducible refine (HA.out _ hL.below).mono ?_); rintro e _ ⟨ra, rfl, hb, hf⟩; obtain ⟨sa, sn, sc, rfl, _⟩ := RegAt.shape hf.now; replace hL := hL.callF hb hf; clear hb hf) | (go_at_call 18; (with_reducible refine (HB.out _ hL.below).mono ?_); rintro e _ ⟨rfl, hb⟩; replace hL := hL.call hb; clear hb) | (go_at_call 19; (with_reducible refine (HH.out _ _ _ hL.fact0 (noReg_at _)).mono ?_); rintro e _ ⟨rfl, hb⟩; replace hL := hL.call hb; clear hb) | (first | (clear hL n1; with_reducible intro b1 w1 hL) | (clear hL n2; with_reducible intro b2 w2 hL) | (clear hL n3; with_reducible intro b3 w3 hL) | (clear hL; with_reducible intro _ _ hL)) | (with_reducible refine wpC_alloc rfl _ rfl _ _ inferInstance hL ?_) | (with_reducible first | refine wpB_agg rfl _ _ _ rfl rfl hL ?_ | refine wpB_one rfl _ _ (.int _ _) rfl rfl rfl hL ?_ | refine wpB_one rfl _ _ (.slice _ _ _) rfl rfl rfl hL ?_ | refine wpB_one rfl _ _ (.bool _) rfl rfl rfl hL ?_ | refine wpB_one rfl _ _ (.pointer _) rfl rfl rfl hL ?_ | refine wpB_one rfl _ _ (.func _ _ _) rfl rfl rfl hL ?_) | (with_reducible first | refine wpH_max rfl _ _ _ _ rfl _ _ rfl rfl ?_ | refine wpH_min rfl _ _ _ _ rfl _ _ rfl rfl ?_) | ((with_reducible refine wpA_load rfl _ _ rfl _ rfl ?_); first | refine loadA hL ?_ | refine loadR hL ?_ | refine loadC hL ?_ | refine loadD ?_ | refine loadE hL ?_ | refine loadF ?_) | ((with_reducible refine wpA_index rfl _ _ _ rfl _ rfl _ rfl ?_); first | (refine indexA ?_; try rw [Int.toNat_natCast]) | refine indexC ?_) | ((with_reducible refine wpA_store rfl _ _ _ rfl _ rfl (.agg _) rfl ?_); refine storeR hL ?_; clear hL; intro _ hL) | ((with_reducible first | refine wpA_store rfl _ _ _ rfl _ rfl (.int _ _) rfl ?_ | refine wpA_store rfl _ _ _ rfl _ rfl (.slice _ _ _) rfl ?_ | refine wpA_store rfl _ _ _ rfl _ rfl (.bool _) rfl ?_ | refine wpA_store rfl _ _ _ rfl _ rfl (.pointer _) rfl ?_ | refine wpA_store rfl _ _ _ rfl _ rfl (.func _ _ _) rfl ?_); (first | refine storeA hL ?_ | refine storeO hL ?_); (clear hL; intro _ hL)) | ((with_reducible refine wpA_lit rfl _ _ _ rfl ?_); first | refine litA1 hL ?_ | refine litA2 hL ?_ | refine litA3 hL ?_ | refine litA4 hL ?_ | refine litA6 hL ?_) | ((with_reducible refine wpA_append rfl _ _ _ rfl (.slice _ _ _) rfl ?_); intro vq hvq; simp [go_sem] at hvq; subst hvq; refine appendA hL ?_; clear hL; intro _ _ _ hL; try dsimp only at hL) | ((with_reducible refine wpA_make rfl _ _ _ rfl _ rfl rfl ?_); refine makeA hL ?_))
      go_ret
      exact ⟨rfl, hL.below⟩
  | true =>
    simp only [Bool.and_eq_true] at hok
    obtain ⟨hst, hmy, hsw, hsh⟩ := hok
    obtain ⟨w1, w2⟩ := (isSide_iff wi).1 hsw
    obtain ⟨k1, k2⟩ := (isSide_iff hi).1 hsh
    obtain ⟨W, rfl⟩ := Int.eq_ofNat_of_zero_le (show 0 ≤ wi by omega)
    obtain ⟨H, rfl⟩ := Int.eq_ofNat_of_zero_le (show 0 ≤ hi by omega)
    have hs : Sides W H := ⟨by omega, by omega, by omega, by omega⟩
    have HA := Lib.hid (fun w' (hb : Below w.heap.size w w') => hemRegion_ok (W := W) (H := H) (by omega) (by omega) (by omega) (by omega) w' (.slice a l.length cap0) l (SliceAt.below Hv.out hb) s hst hmy)
    have HB := Lib.hid (fun w' (hb : Below w.heap.size w w') => rMask33_calls hs w' (.slice a l.length cap0) l (SliceAt.below Hv.out hb) hst s hmy)
    have HO := Lib.hid (show ∀ w' mv, MaskF mv (pixMask W H (strokeQ l s)) w' → Calls Try.prog 20 #[mv] w' (RegOut (strokeReg l s W H) 0 w') from fun w' mv h => by
      rw [← strokeReg_of hs hst hmy, ← (ofReg_pixS hs (strokeQ l s)).2]
      exact refOf_calls w' mv _ h)
    generalize strokeQ l s = Q at *
    generalize strokeReg l s W H = R at *
    have HH := Lib.hid (fun w' va vb (ha : RegAt w' va R) (hb : RegAt w' vb R) => sameReg_self R ▸ helpRegion_calls w' va vb _ _ ha hb)
    obtain ⟨rw0, rh0, rr0⟩ := R
    clear hst hmy hsw hsh hs w1 k1
    rcases hcs with ⟨h1, h2⟩ | ⟨h1, h2, h3⟩ | ⟨h1, h2, h3⟩ | ⟨h1, h2, h3, h4⟩
    all_goals first | (exfalso; omega) | skip
    have n1 : True := trivial; have n2 : True := trivial; have n3 : True := trivial; have n4 : True := trivial
    go_enter Try.func4, Try.ntmps4
    go_wp2_with (first | (go_at_call 12; (with_reducible refine (known_calls _).mono ?_); rintro e _ ⟨rfl, hb⟩; replace hL := hL.call hb; clear hb) | (go_at_call 17; (with_reducible refine (HA.out _ hL.below).mono ?_); rintro e _ ⟨ra, rfl, hb, hf⟩; obtain ⟨sa, sn, sc, rfl, _⟩ := RegAt.shape hf.now; replace hL := hL.callF hb hf; clear hb hf) | (go_at_call 18; (with_reducible refine (HB.out _ hL.below).mono ?_); rintro e _ ⟨ma, rfl, hb, hf⟩; replace hL := hL.callF hb hf; clear hb hf) | (go_at_call 20; (with_reducible refine (HO.out _ _ hL.fact0).mono ?_); rintro e _ ⟨rb, rfl, hb, hf⟩; obtain ⟨sb, sm, sd, rfl, _⟩ := RegAt.shape hf.now; replace hL := hL.callF hb hf; clear hb hf) | (go_at_call 19; (with_reducible refine (HH.out _ _ _ hL.fact2 hL.fact0).mono ?_); rintro e _ ⟨rfl, hb⟩; replace hL := hL.call hb; clear hb) | (first | (clear hL n1; with_reducible intro b1 w1 hL) | (clear hL n2; with_reducible intro b2 w2 hL) | (clear hL n3; with_reducible intro b3 w3 hL) | (clear hL n4; with_reducible intro b4 w4 hL) | (clear hL; with_reducible intro _ _ hL)) | (with_reducible refine wpC_alloc rfl _ rfl _ _ inferInstance hL ?_) | (with_reducible first | refine wpB_agg rfl _ _ _ rfl rfl hL ?_ | refine wpB_one rfl _ _ (.int _ _) rfl rfl rfl hL ?_ | refine wpB_one rfl _ _ (.slice _ _ _) rfl rfl rfl hL ?_ | refine wpB_one rfl _ _ (.bool _) rfl rfl rfl hL ?_ | refine wpB_one rfl _ _ (.pointer _) rfl rfl rfl hL ?_ | refine wpB_one rfl _ _ (.func _ _ _) rfl rfl rfl hL ?_) | (with_reducible first | refine wpH_max rfl _ _ _ _ rfl _ _ rfl rfl ?_ | refine wpH_min rfl _ _ _ _ rfl _ _ rfl rfl ?_) | ((with_reducible refine wpA_load rfl _ _ rfl _ rfl ?_); first | refine loadA hL ?_ | refine loadR hL ?_ | refine loadC hL ?_ | refine loadD ?_ | refine loadE hL ?_ | refine loadF ?_) | ((with_reducible refine wpA_index rfl _ _ _ rfl _ rfl _ rfl ?_); first | (refine indexA ?_; try rw [Int.toNat_natCast]) | refine indexC ?_) | ((with_reducible refine wpA_store rfl _ _ _ rfl _ rfl (.agg _) rfl ?_); refine storeR hL ?_; clear hL; intro _ hL) | ((with_reducible first | refine wpA_store rfl _ _ _ rfl _ rfl (.int _ _) rfl ?_ | refine wpA_store rfl _ _ _ rfl _ rfl (.slice _ _ _) rfl ?_ | refine wpA_store rfl _ _ _ rfl _ rfl (.bool _) rfl ?_ | refine wpA_store rfl _ _ _ rfl _ rfl (.pointer _) rfl ?_ | refine wpA_store rfl _ _ _ rfl _ rfl (.func _ _ _) rfl ?_); (first | refine storeA hL ?_ | refine storeO hL ?_); (clear hL; intro _ hL)) | ((with_reducible refine wpA_lit rfl _ _ _ rfl ?_); first | refine litA1 hL ?_ | refine litA2 hL ?_ | refine litA3 hL ?_ | refine litA4 hL ?_ | refine litA6 hL ?_) | ((with_reducible refine wpA_append rfl _ _ _ rfl (.slice _ _ _) rfl ?_); intro vq hvq; simp [go_sem] at hvq; subst hvq; refine appendA hL ?_; clear hL; intro _ _ _ hL; try dsimp only at hL) | ((with_reducible refine wpA_make rfl _ _ _ rfl _ rfl rfl ?_); refine makeA hL ?_))
    go_ret
    exact ⟨rfl, hL.below⟩
end Go.Proofs.Ytfnolaoohmecbaa
