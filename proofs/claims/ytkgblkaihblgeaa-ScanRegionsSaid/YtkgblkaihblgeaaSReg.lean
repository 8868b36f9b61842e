/- ScanRegions returns true. -/
import Derived.Test.YtkgblkaihblgeaaRfO
import Derived.Test.YtkgblkaihblgeaaRBad
import Derived.Test.YtkgblkaihblgeaaScnM
-- uses arrU
-- lit6
namespace Go.Proofs.Ytkgblkaihblgeaa
open Go.RowKit

theorem ofReg_pix {W H : Nat} (hs : Sides W H) (P : Nat → Nat → Bool) : ofReg (pixMask W H P) = ⟨W, H, (List.range H).map fun j => runsTo (P j) W⟩ ∧ ofErr (pixMask W H P) = 0 := by
  unfold ofReg ofErr
  rw [mask_may hs P, if_pos rfl, if_pos rfl]
  refine ⟨?_, rfl⟩
  unfold pixReg
  have e1 : (pixMask W H P).W.toNat = W := Int.toNat_natCast W
  have e2 : (pixMask W H P).H.toNat = H := Int.toNat_natCast H
  rw [e1, e2]
  congr 1
  refine List.map_congr_left fun j hj => runsTo_congr fun i hi => ?_
  have hj : j < H := by simpa using hj
  unfold maskQ
  rw [e1, Nat.mul_comm W j, pixMask_get P hj hi]
  cases P j i <;> rfl
theorem noReg_end {w w' : World} {M : List Res} (hL : Holds w w' M []) : RegOut noReg 1 w (.returned (.tuple #[.agg #[.int .i64 0, .int .i64 0, .slice none 0 0], .int .i64 1])) w' :=
  ⟨_, rfl, hL.below, (hL.triv noReg_at).fresh⟩
set_option maxRecDepth 100000 in
set_option maxHeartbeats 8000000 in
theorem scanRegionBad_calls (w : World) (v : Value) (l : List Sg) (hv : SegsAt w v l) (rule wi hi : Int) (hf : fairS l rule wi hi = false) :
    Calls Try.prog 17 #[v, .int .i64 rule, .int .i64 wi, .int .i64 hi] w (RegOut noReg 1 w) := by
  have Hv := Lib.hid hv
  obtain ⟨a, cap, rfl, _⟩ := hv.parts
  clear hv
  have hL := Holds.start w
  have hf : (pathMay l && (rule == 0 || rule == 1) && isSide wi && isSide hi) = false := hf
  have HPM := Lib.hid (fun w' hv' => pathMay_calls w' (.slice a l.length cap) l hv')
  have hside : ∀ n : Int, isSide n = false → n < 1 ∨ (¬ n < 1 ∧ 64 < n) := fun n h => by
    by_cases h1 : 1 ≤ n
    · by_cases h2 : n ≤ 64
      · simp [isSide, h1, h2] at h
      · omega
    · omega
  have hsw := hside wi
  have hsh := hside hi
  clear hside
  have hsw2 : isSide wi = true → ¬ wi < 1 ∧ ¬ 64 < wi := fun h => by
    simp [isSide] at h
    omega
  generalize pathMay l = pm at *
  generalize isSide wi = sw at *
  generalize isSide hi = sh at *
  have hb0 : (rule != 0) = !(rule == 0) := rfl
  have hb1 : (rule != 1) = !(rule == 1) := rfl
  generalize (rule == 0) = r0 at *
  generalize (rule == 1) = r1 at *
  have hcs : pm = false ∨ (pm = true ∧ r0 = false ∧ r1 = false) ∨ (pm = true ∧ r0 = true ∧ sw = false) ∨ (pm = true ∧ r0 = false ∧ r1 = true ∧ sw = false) ∨ (pm = true ∧ r0 = true ∧ sw = true ∧ sh = false) ∨ (pm = true ∧ r0 = false ∧ r1 = true ∧ sw = true ∧ sh = false) := by
    revert hf
    cases pm <;> cases r0 <;> cases r1 <;> cases sw <;> cases sh <;> simp
  have hcs : pm = false ∨ (pm = true ∧ r0 = false ∧ r1 = false) ∨ (pm = true ∧ (r0 = true ∨ (r0 = false ∧ r1 = true)) ∧ (wi < 1 ∨ (¬ wi < 1 ∧ 64 < wi) ∨ (¬ wi < 1 ∧ ¬ 64 < wi ∧ hi < 1) ∨ (¬ wi < 1 ∧ ¬ 64 < wi ∧ ¬ hi < 1 ∧ 64 < hi))) := by
    rcases hcs with h | h | ⟨h, h2, h3⟩ | ⟨h, h2, h3, h4⟩ | ⟨h, h2, h3, h4⟩ | ⟨h, h2, h3, h4, h5⟩
    · exact .inl h
    · exact .inr (.inl h)
    · refine .inr (.inr ⟨h, .inl h2, ?_⟩)
      rcases hsw h3 with k | ⟨k, k2⟩
      · exact .inl k
      · exact .inr (.inl ⟨k, k2⟩)
    · refine .inr (.inr ⟨h, .inr ⟨h2, h3⟩, ?_⟩)
      rcases hsw h4 with k | ⟨k, k2⟩
      · exact .inl k
      · exact .inr (.inl ⟨k, k2⟩)
    · refine .inr (.inr ⟨h, .inl h2, ?_⟩)
      obtain ⟨k3, k4⟩ := hsw2 h3
      rcases hsh h4 with k | ⟨k, k2⟩
      · exact .inr (.inr (.inl ⟨k3, k4, k⟩))
      · exact .inr (.inr (.inr ⟨k3, k4, k, k2⟩))
    · refine .inr (.inr ⟨h, .inr ⟨h2, h3⟩, ?_⟩)
      obtain ⟨k3, k4⟩ := hsw2 h4
      rcases hsh h5 with k | ⟨k, k2⟩
      · exact .inr (.inr (.inl ⟨k3, k4, k⟩))
      · exact .inr (.inr (.inr ⟨k3, k4, k, k2⟩))
  clear hf hsw hsw2 hsh
  rcases hcs with h | ⟨h, h2, h3⟩ | ⟨h, h2 | ⟨h2, h3⟩, k | ⟨k, k2⟩ | ⟨k, k2, k3⟩ | ⟨k, k2, k3, k4⟩⟩
  all_goals
    subst h
    try subst h2
    try subst h3
    try simp only [Bool.not_true, Bool.not_false] at hb0 hb1
    have n1 : True := trivial
    go_enter Try.func17, Try.ntmps17
    go_wp2_with (first | (go_at_call 42; (with_reducible refine (HPM.out _ (Hv.out.hold hL)).mono ?_); rintro e _ ⟨rfl, hb⟩; replace hL := hL.call hb; clear hb) | (first | (clear hL n1; with_reducible intro b1 w1 hL) | (clear hL; with_reducible intro _ _ hL)) | (with_reducible refine wpC_alloc rfl _ rfl _ _ inferInstance hL ?_) | (with_reducible first | refine wpB_agg rfl _ _ _ rfl rfl hL ?_ | refine wpB_one rfl _ _ (.int _ _) rfl rfl rfl hL ?_ | refine wpB_one rfl _ _ (.slice _ _ _) rfl rfl rfl hL ?_ | refine wpB_one rfl _ _ (.bool _) rfl rfl rfl hL ?_ | refine wpB_one rfl _ _ (.pointer _) rfl rfl rfl hL ?_ | refine wpB_one rfl _ _ (.func _ _ _) rfl rfl rfl hL ?_) | (with_reducible first | refine wpH_max rfl _ _ _ _ rfl _ _ rfl rfl ?_ | refine wpH_min rfl _ _ _ _ rfl _ _ rfl rfl ?_) | ((with_reducible refine wpA_load rfl _ _ rfl _ rfl ?_); first | refine loadA hL ?_ | refine loadR hL ?_ | refine loadC hL ?_ | refine loadD ?_ | refine loadE hL ?_ | refine loadF ?_) | ((with_reducible refine wpA_index rfl _ _ _ rfl _ rfl _ rfl ?_); first | (refine indexA ?_; try rw [Int.toNat_natCast]) | refine indexC ?_) | ((with_reducible refine wpA_store rfl _ _ _ rfl _ rfl (.agg _) rfl ?_); refine storeR hL ?_; clear hL; intro _ hL) | ((with_reducible first | refine wpA_store rfl _ _ _ rfl _ rfl (.int _ _) rfl ?_ | refine wpA_store rfl _ _ _ rfl _ rfl (.slice _ _ _) rfl ?_ | refine wpA_store rfl _ _ _ rfl _ rfl (.bool _) rfl ?_ | refine wpA_store rfl _ _ _ rfl _ rfl (.pointer _) rfl ?_ | refine wpA_store rfl _ _ _ rfl _ rfl (.func _ _ _) rfl ?_); (first | refine storeA hL ?_ | refine storeO hL ?_); (clear hL; intro _ hL)) | ((with_reducible refine wpA_lit rfl _ _ _ rfl ?_); first | refine litA1 hL ?_ | refine litA2 hL ?_ | refine litA3 hL ?_ | refine litA4 hL ?_ | refine litA6 hL ?_) | ((with_reducible refine wpA_append rfl _ _ _ rfl (.slice _ _ _) rfl ?_); intro vq hvq; simp [go_sem] at hvq; subst hvq; refine appendA hL ?_; clear hL; intro _ _ _ hL; try dsimp only at hL) | ((with_reducible refine wpA_make rfl _ _ _ rfl _ rfl rfl ?_); refine makeA hL ?_))
    refine bodyPost_ret (results_row2 inferInstance rfl _ hL b1 rfl _ _ .here rfl) rfl ?_
    exact noReg_end hL
theorem regions_end (l : List Sg) (rule wi hi : Int) : ∃ r m er, (∀ w v, SegsAt w v l → Calls Try.prog 17 #[v, .int .i64 rule, .int .i64 wi, .int .i64 hi] w (RegOut r er w)) ∧ (∀ w v, SegsAt w v l → Calls Try.prog 18 #[v, .int .i64 rule, .int .i64 wi, .int .i64 hi] w (MaskEnd m er w)) ∧ ((er = 1 ∧ r = noReg) ∨ (er = 0 ∧ ofReg m = r ∧ ofErr m = 0)) := by
  cases hf : fairS l rule wi hi with
  | false => exact ⟨_, _, _, fun w v hv => scanRegionBad_calls w v l hv rule wi hi hf, fun w v hv => rMaskBad_calls w v l hv rule wi hi hf, .inl ⟨rfl, rfl⟩⟩
  | true =>
    unfold fairS at hf
    simp only [Bool.and_eq_true] at hf
    obtain ⟨⟨⟨hm, hr⟩, hw⟩, hh⟩ := hf
    obtain ⟨W, rfl, w1, w2⟩ := side_get hw
    obtain ⟨H, rfl, h1, h2⟩ := side_get hh
    have hs : Sides W H := ⟨w1, w2, h1, h2⟩
    have hs2 : Sds W H := ⟨w1, w2, h1, h2⟩
    have hr2 : rule = 0 ∨ rule = 1 := by simpa using hr
    refine ⟨lineReg (edgesS l) rule W H, pixMask W H (fun j i => isIn rule (windG (edgesS l) (16 * (i : Int) + 8) (16 * (j : Int) + 8))), 0, fun w v hv => scanRegion_ok hs2 w v l hv hm rule hr2, fun w v hv => ?_, .inr ⟨rfl, ?_⟩⟩
    · refine (rMask_calls hs w v l hv hm rule hr2).mono ?_
      rintro e w' ⟨ma, rfl, hb, hf⟩
      exact ⟨ma, W * H, rfl, hb, hf⟩
    · exact ofReg_pix hs _
set_option maxRecDepth 100000 in
set_option maxHeartbeats 8000000 in
theorem scanRegions_calls (w : World) (v : Value) (l : List Sg) (hv : SegsAt w v l) (rule wi hi : Int) :
    Calls Try.prog 4 #[v, .int .i64 rule, .int .i64 wi, .int .i64 hi] w fun e w' => e = .returned (.bool true) ∧ Below w.heap.size w w' := by
  have Hv := Lib.hid hv
  obtain ⟨a, cap, rfl, _⟩ := hv.parts
  clear hv
  have hL := Holds.start w
  obtain ⟨⟨rw0, rh0, rr0⟩, ⟨mw, mh, mb⟩, er, hA, hB, hE⟩ := regions_end l rule wi hi
  have HA := Lib.hid (fun w' hv' => hA w' (.slice a l.length cap) hv')
  have HB := Lib.hid (fun w' hv' => hB w' (.slice a l.length cap) hv')
  clear hA hB
  have HH := Lib.hid (fun w' va vb (ha : RegAt w' va ⟨rw0, rh0, rr0⟩) (hb : RegAt w' vb ⟨rw0, rh0, rr0⟩) => sameReg_self ⟨rw0, rh0, rr0⟩ ▸ helpRegion_calls w' va vb _ _ ha hb)
  by_cases h40 : 40 < l.length
  · have h41 : (40 : Int) < (l.length : Int) := by omega
    go_enter Try.func4, Try.ntmps4
    go_wp2_with (first | (go_at_call 13; (with_reducible refine (known_calls _).mono ?_); rintro e _ ⟨rfl, hb⟩; replace hL := hL.call hb; clear hb) | ((clear hL; with_reducible intro _ _ hL)) | (with_reducible refine wpC_alloc rfl _ rfl _ _ inferInstance hL ?_) | (with_reducible first | refine wpB_agg rfl _ _ _ rfl rfl hL ?_ | refine wpB_one rfl _ _ (.int _ _) rfl rfl rfl hL ?_ | refine wpB_one rfl _ _ (.slice _ _ _) rfl rfl rfl hL ?_ | refine wpB_one rfl _ _ (.bool _) rfl rfl rfl hL ?_ | refine wpB_one rfl _ _ (.pointer _) rfl rfl rfl hL ?_ | refine wpB_one rfl _ _ (.func _ _ _) rfl rfl rfl hL ?_) | (with_reducible first | refine wpH_max rfl _ _ _ _ rfl _ _ rfl rfl ?_ | refine wpH_min rfl _ _ _ _ rfl _ _ rfl rfl ?_) | ((with_reducible refine wpA_load rfl _ _ rfl _ rfl ?_); first | refine loadA hL ?_ | refine loadR hL ?_ | refine loadC hL ?_ | refine loadD ?_ | refine loadE hL ?_ | refine loadF ?_) | ((with_reducible refine wpA_index rfl _ _ _ rfl _ rfl _ rfl ?_); first | (refine indexA ?_; try rw [Int.toNat_natCast]) | refine indexC ?_) | ((with_reducible refine wpA_store rfl _ _ _ rfl _ rfl (.agg _) rfl ?_); refine storeR hL ?_; clear hL; intro _ hL) | ((with_reducible first | refine wpA_store rfl _ _ _ rfl _ rfl (.int _ _) rfl ?_ | refine wpA_store rfl _ _ _ rfl _ rfl (.slice _ _ _) rfl ?_ | refine wpA_store rfl _ _ _ rfl _ rfl (.bool _) rfl ?_ | refine wpA_store rfl _ _ _ rfl _ rfl (.pointer _) rfl ?_ | refine wpA_store rfl _ _ _ rfl _ rfl (.func _ _ _) rfl ?_); (first | refine storeA hL ?_ | refine storeO hL ?_); (clear hL; intro _ hL)) | ((with_reducible refine wpA_lit rfl _ _ _ rfl ?_); first | refine litA1 hL ?_ | refine litA2 hL ?_ | refine litA3 hL ?_ | refine litA4 hL ?_ | refine litA6 hL ?_) | ((with_reducible refine wpA_append rfl _ _ _ rfl (.slice _ _ _) rfl ?_); intro vq hvq; simp [go_sem] at hvq; subst hvq; refine appendA hL ?_; clear hL; intro _ _ _ hL; try dsimp only at hL) | ((with_reducible refine wpA_make rfl _ _ _ rfl _ rfl rfl ?_); refine makeA hL ?_))
    go_ret
    exact ⟨rfl, hL.below⟩
  · have h41 : ¬ (40 : Int) < (l.length : Int) := by omega
    rcases hE with ⟨rfl, hE⟩ | ⟨rfl, hE1, hE2⟩
    · have HN := Lib.hid (show ∀ w', RegAt w' (.agg #[.int .i64 0, .int .i64 0, .slice none 0 0]) ⟨rw0, rh0, rr0⟩ from fun w' => by rw [hE]; exact noReg_at w')
      clear hE
      rcases (by omega : (12 < wi ∧ wi ≤ 64) ∨ (¬ 12 < wi ∧ 12 < hi ∧ hi ≤ 64) ∨ (12 < wi ∧ ¬ wi ≤ 64 ∧ 12 < hi ∧ hi ≤ 64) ∨ (¬ 12 < wi ∧ ¬ 12 < hi) ∨ (¬ 12 < wi ∧ 12 < hi ∧ ¬ hi ≤ 64) ∨ (12 < wi ∧ ¬ wi ≤ 64 ∧ ¬ 12 < hi) ∨ (12 < wi ∧ ¬ wi ≤ 64 ∧ 12 < hi ∧ ¬ hi ≤ 64)) with ⟨h1, h2⟩ | ⟨h1, h2, h3⟩ | ⟨h1, h2, h3, h4⟩ | ⟨h1, h2⟩ | ⟨h1, h2, h3⟩ | ⟨h1, h2, h3⟩ | ⟨h1, h2, h3, h4⟩
      all_goals
        have n1 : True := trivial; have n2 : True := trivial
        go_enter Try.func4, Try.ntmps4
        go_wp2_with (first | (go_at_call 13; (with_reducible refine (known_calls _).mono ?_); rintro e _ ⟨rfl, hb⟩; replace hL := hL.call hb; clear hb) | (go_at_call 17; (with_reducible refine (HA.out _ (Hv.out.hold hL)).mono ?_); rintro e _ ⟨ra, rfl, hb, hf⟩; obtain ⟨sa, sn, sc, rfl, _⟩ := RegAt.shape hf.now; replace hL := hL.callF hb hf; clear hb hf) | (go_at_call 18; (with_reducible refine (HB.out _ (Hv.out.hold hL)).mono ?_); rintro e _ ⟨mc, nc, rfl, hb, hf⟩; replace hL := hL.callF hb hf; clear hb hf) | (go_at_call 19; (with_reducible refine (HH.out _ _ _ hL.fact1 (HN.out _)).mono ?_); rintro e _ ⟨rfl, hb⟩; replace hL := hL.call hb; clear hb) | (first | (clear hL n1; with_reducible intro b1 w1 hL) | (clear hL n2; with_reducible intro b2 w2 hL) | (clear hL; with_reducible intro _ _ hL)) | (with_reducible refine wpC_alloc rfl _ rfl _ _ inferInstance hL ?_) | (with_reducible first | refine wpB_agg rfl _ _ _ rfl rfl hL ?_ | refine wpB_one rfl _ _ (.int _ _) rfl rfl rfl hL ?_ | refine wpB_one rfl _ _ (.slice _ _ _) rfl rfl rfl hL ?_ | refine wpB_one rfl _ _ (.bool _) rfl rfl rfl hL ?_ | refine wpB_one rfl _ _ (.pointer _) rfl rfl rfl hL ?_ | refine wpB_one rfl _ _ (.func _ _ _) rfl rfl rfl hL ?_) | (with_reducible first | refine wpH_max rfl _ _ _ _ rfl _ _ rfl rfl ?_ | refine wpH_min rfl _ _ _ _ rfl _ _ rfl rfl ?_) | ((with_reducible refine wpA_load rfl _ _ rfl _ rfl ?_); first | refine loadA hL ?_ | refine loadR hL ?_ | refine loadC hL ?_ | refine loadD ?_ | refine loadE hL ?_ | refine loadF ?_) | ((with_reducible refine wpA_index rfl _ _ _ rfl _ rfl _ rfl ?_); first | (refine indexA ?_; try rw [Int.toNat_natCast]) | refine indexC ?_) | ((with_reducible refine wpA_store rfl _ _ _ rfl _ rfl (.agg _) rfl ?_); refine storeR hL ?_; clear hL; intro _ hL) | ((with_reducible first | refine wpA_store rfl _ _ _ rfl _ rfl (.int _ _) rfl ?_ | refine wpA_store rfl _ _ _ rfl _ rfl (.slice _ _ _) rfl ?_ | refine wpA_store rfl _ _ _ rfl _ rfl (.bool _) rfl ?_ | refine wpA_store rfl _ _ _ rfl _ rfl (.pointer _) rfl ?_ | refine wpA_store rfl _ _ _ rfl _ rfl (.func _ _ _) rfl ?_); (first | refine storeA hL ?_ | refine storeO hL ?_); (clear hL; intro _ hL)) | ((with_reducible refine wpA_lit rfl _ _ _ rfl ?_); first | refine litA1 hL ?_ | refine litA2 hL ?_ | refine litA3 hL ?_ | refine litA4 hL ?_ | refine litA6 hL ?_) | ((with_reducible refine wpA_append rfl _ _ _ rfl (.slice _ _ _) rfl ?_); intro vq hvq; simp [go_sem] at hvq; subst hvq; refine appendA hL ?_; clear hL; intro _ _ _ hL; try dsimp only at hL) | ((with_reducible refine wpA_make rfl _ _ _ rfl _ rfl rfl ?_); refine makeA hL ?_))
        go_ret
        exact ⟨rfl, hL.below⟩
    · have HO := Lib.hid (show ∀ w' mv, MaskF mv ⟨mw, mh, mb⟩ w' → Calls Try.prog 20 #[mv] w' (RegOut ⟨rw0, rh0, rr0⟩ 0 w') from fun w' mv h => by rw [← hE1, ← hE2]; exact refOf_calls w' mv _ h)
      clear hE1 hE2
      rcases (by omega : (12 < wi ∧ wi ≤ 64) ∨ (¬ 12 < wi ∧ 12 < hi ∧ hi ≤ 64) ∨ (12 < wi ∧ ¬ wi ≤ 64 ∧ 12 < hi ∧ hi ≤ 64) ∨ (¬ 12 < wi ∧ ¬ 12 < hi) ∨ (¬ 12 < wi ∧ 12 < hi ∧ ¬ hi ≤ 64) ∨ (12 < wi ∧ ¬ wi ≤ 64 ∧ ¬ 12 < hi) ∨ (12 < wi ∧ ¬ wi ≤ 64 ∧ 12 < hi ∧ ¬ hi ≤ 64)) with ⟨h1, h2⟩ | ⟨h1, h2, h3⟩ | ⟨h1, h2, h3, h4⟩ | ⟨h1, h2⟩ | ⟨h1, h2, h3⟩ | ⟨h1, h2, h3⟩ | ⟨h1, h2, h3, h4⟩
      all_goals
        have n1 : True := trivial; have n2 : True := trivial; have n3 : True := trivial
        go_enter Try.func4, Try.ntmps4
        go_wp2_with (first | (go_at_call 13; (with_reducible refine (known_calls _).mono ?_); rintro e _ ⟨rfl, hb⟩; replace hL := hL.call hb; clear hb) | (go_at_call 17; (with_reducible refine (HA.out _ (Hv.out.hold hL)).mono ?_); rintro e _ ⟨ra, rfl, hb, hf⟩; obtain ⟨sa, sn, sc, rfl, _⟩ := RegAt.shape hf.now; replace hL := hL.callF hb hf; clear hb hf) | (go_at_call 18; (with_reducible refine (HB.out _ (Hv.out.hold hL)).mono ?_); rintro e _ ⟨mc, nc, rfl, hb, hf⟩; replace hL := hL.callF hb hf; clear hb hf) | (go_at_call 20; (with_reducible refine (HO.out _ _ hL.fact0).mono ?_); rintro e _ ⟨rb, rfl, hb, hf⟩; obtain ⟨sb, sm, sd, rfl, _⟩ := RegAt.shape hf.now; replace hL := hL.callF hb hf; clear hb hf) | (go_at_call 19; (with_reducible refine (HH.out _ _ _ hL.fact2 hL.fact0).mono ?_); rintro e _ ⟨rfl, hb⟩; replace hL := hL.call hb; clear hb) | (first | (clear hL n1; with_reducible intro b1 w1 hL) | (clear hL n2; with_reducible intro b2 w2 hL) | (clear hL n3; with_reducible intro b3 w3 hL) | (clear hL; with_reducible intro _ _ hL)) | (with_reducible refine wpC_alloc rfl _ rfl _ _ inferInstance hL ?_) | (with_reducible first | refine wpB_agg rfl _ _ _ rfl rfl hL ?_ | refine wpB_one rfl _ _ (.int _ _) rfl rfl rfl hL ?_ | refine wpB_one rfl _ _ (.slice _ _ _) rfl rfl rfl hL ?_ | refine wpB_one rfl _ _ (.bool _) rfl rfl rfl hL ?_ | refine wpB_one rfl _ _ (.pointer _) rfl rfl rfl hL ?_ | refine wpB_one rfl _ _ (.func _ _ _) rfl rfl rfl hL ?_) | (with_reducible first | refine wpH_max rfl _ _ _ _ rfl _ _ rfl rfl ?_ | refine wpH_min rfl _ _ _ _ rfl _ _ rfl rfl ?_) | ((with_reducible refine wpA_load rfl _ _ rfl _ rfl ?_); first | refine loadA hL ?_ | refine loadR hL ?_ | refine loadC hL ?_ | refine loadD ?_ | refine loadE hL ?_ | refine loadF ?_) | ((with_reducible refine wpA_index rfl _ _ _ rfl _ rfl _ rfl ?_); first | (refine indexA ?_; try rw [Int.toNat_natCast]) | refine indexC ?_) | ((with_reducible refine wpA_store rfl _ _ _ rfl _ rfl (.agg _) rfl ?_); refine storeR hL ?_; clear hL; intro _ hL) | ((with_reducible first | refine wpA_store rfl _ _ _ rfl _ rfl (.int _ _) rfl ?_ | refine wpA_store rfl _ _ _ rfl _ rfl (.slice _ _ _) rfl ?_ | refine wpA_store rfl _ _ _ rfl _ rfl (.bool _) rfl ?_ | refine wpA_store rfl _ _ _ rfl _ rfl (.pointer _) rfl ?_ | refine wpA_store rfl _ _ _ rfl _ rfl (.func _ _ _) rfl ?_); (first | refine storeA hL ?_ | refine storeO hL ?_); (clear hL; intro _ hL)) | ((with_reducible refine wpA_lit rfl _ _ _ rfl ?_); first | refine litA1 hL ?_ | refine litA2 hL ?_ | refine litA3 hL ?_ | refine litA4 hL ?_ | refine litA6 hL ?_) | ((with_reducible refine wpA_append rfl _ _ _ rfl (.slice _ _ _) rfl ?_); intro vq hvq; simp [go_sem] at hvq; subst hvq; refine appendA hL ?_; clear hL; intro _ _ _ hL; try dsimp only at hL) | ((with_reducible refine wpA_make rfl _ _ _ rfl _ rfl rfl ?_); refine makeA hL ?_))
        go_ret
        exact ⟨rfl, hL.below⟩
end Go.Proofs.Ytkgblkaihblgeaa
