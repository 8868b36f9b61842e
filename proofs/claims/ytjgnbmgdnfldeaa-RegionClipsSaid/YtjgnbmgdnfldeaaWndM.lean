/- A slice out of old memory is appended to a slice of the call's own. -/
import Derived.Test.YtjgnbmgdnfldeaaBowM
import Derived.Test.YtjgnbmgdnfldeaaArmM
import Derived.Maps.AppendAt
namespace Go.Proofs.Ytjgnbmgdnfldeaa
open Go.RowKit

theorem small_of {e : Edg} {y : Int} (h : mayE e = true) (hy : near1 y = true) : Small e y := by
  simp [mayE, near1] at h hy
  exact ⟨by omega, by omega, by omega, by omega, by omega, by omega, by omega, by omega, by omega, by omega⟩
theorem turn_sp {e : Edg} {x y : Int} (h : mayE e = true) (hx : near1 x = true) (hy : near1 y = true) : turnE e x y = if spT e y ≠ 0 ∧ 0 < sgn (spP e y - x * spM e y) then spT e y else 0 := by
  have hs : ∀ z : Int, 0 < sgn z ↔ 0 < z := by intro z; unfold sgn; (repeat' split) <;> omega
  unfold turnE
  rw [h, hx, hy]
  simp only [Bool.and_self, if_true, hs]
  unfold turnS spT spP spM
  by_cases h1 : y < min e.y0 e.y1 ∨ max e.y0 e.y1 ≤ y
  · simp [h1]
  · simp only [if_neg h1]
    by_cases h2 : e.y1 - e.y0 < 0
    · simp only [if_pos h2]
      by_cases h3 : 0 < -(e.x0 * (e.y1 - e.y0) + (e.x1 - e.x0) * (y - e.y0)) - x * -(e.y1 - e.y0) <;> simp
    · simp only [if_neg h2]
      by_cases h3 : 0 < e.x0 * (e.y1 - e.y0) + (e.x1 - e.x0) * (y - e.y0) - x * (e.y1 - e.y0) <;> simp
theorem sp_bounds {e : Edg} {y : Int} (hs : Small e y) : (-1 ≤ spT e y ∧ spT e y ≤ 1) ∧ (-402554886 ≤ spP e y ∧ spP e y ≤ 402554886) ∧ (-16382 ≤ spM e y ∧ spM e y ≤ 16382) := by
  obtain ⟨a0, a1, b0, b1, c0, c1, d0, d1, f0, f1⟩ := hs
  obtain ⟨p1, p2⟩ := mul_bd (a := e.x0) (b := e.y1 - e.y0) (A := 8191) (B := 16382) (by omega) (by omega) (by omega) (by omega)
  obtain ⟨p3, p4⟩ := mul_bd (a := e.x1 - e.x0) (b := y - e.y0) (A := 16382) (B := 16382) (by omega) (by omega) (by omega) (by omega)
  unfold spT spP spM
  refine ⟨?_, ?_, ?_⟩ <;> (repeat' split) <;> omega

set_option maxRecDepth 100000 in
set_option maxHeartbeats 2000000 in
theorem turns_calls (e : Edg) (hbt : e.bent = false) (x y : Int) (w : World) : Calls Try.prog 122 #[edgeV e, .int .i64 x, .int .i64 y] w fun r w' => r = .returned (.int .i64 (turnE e x y)) ∧ Below w.heap.size w w' := by
  have hL := Holds.start w
  have HM := Lib.hid (fun w => bowMay_calls e w)
  obtain ⟨ex0, ey0, bt, ecx, ecy, ex1, ey1⟩ := e
  dsimp only at hbt
  subst hbt
  cases hm : mayE ⟨ex0, ey0, false, ecx, ecy, ex1, ey1⟩ with
  | false =>
    have HR := Lib.hid (show turnE ⟨ex0, ey0, false, ecx, ecy, ex1, ey1⟩ x y = 0 by unfold turnE; rw [hm]; rfl)
    rw [hm] at HM
    clear hm
    unfold edgeV at *
    have n1 : True := trivial; have n2 : True := trivial; have n3 : True := trivial
    go_enter Try.func122, Try.ntmps122
    go_wp2_with (first | (go_at_call 113; (with_reducible refine (HM.out _).mono ?_); rintro e _ ⟨rfl, hb⟩; replace hL := hL.call hb; clear hb) | (first | (clear hL n1; with_reducible intro b1 w1 hL) | (clear hL n2; with_reducible intro b2 w2 hL) | (clear hL n3; with_reducible intro b3 w3 hL) | (clear hL; with_reducible intro _ _ hL)) | (with_reducible refine wpC_alloc rfl _ rfl _ _ inferInstance hL ?_) | (with_reducible first | refine wpB_agg rfl _ _ _ rfl rfl hL ?_ | refine wpB_one rfl _ _ (.int _ _) rfl rfl rfl hL ?_ | refine wpB_one rfl _ _ (.slice _ _ _) rfl rfl rfl hL ?_ | refine wpB_one rfl _ _ (.bool _) rfl rfl rfl hL ?_ | refine wpB_one rfl _ _ (.pointer _) rfl rfl rfl hL ?_ | refine wpB_one rfl _ _ (.func _ _ _) rfl rfl rfl hL ?_) | (with_reducible first | refine wpH_max rfl _ _ _ _ rfl _ _ rfl rfl ?_ | refine wpH_min rfl _ _ _ _ rfl _ _ rfl rfl ?_) | ((with_reducible refine wpA_load rfl _ _ rfl _ rfl ?_); first | refine loadA hL ?_ | refine loadR hL ?_ | refine loadC hL ?_ | refine loadD ?_ | refine loadE hL ?_ | refine loadF ?_) | ((with_reducible refine wpA_index rfl _ _ _ rfl _ rfl _ rfl ?_); first | (refine indexA ?_; try rw [Int.toNat_natCast]) | refine indexC ?_) | ((with_reducible refine wpA_store rfl _ _ _ rfl _ rfl (.agg _) rfl ?_); refine storeR hL ?_; clear hL; intro _ hL) | ((with_reducible first | refine wpA_store rfl _ _ _ rfl _ rfl (.int _ _) rfl ?_ | refine wpA_store rfl _ _ _ rfl _ rfl (.slice _ _ _) rfl ?_ | refine wpA_store rfl _ _ _ rfl _ rfl (.bool _) rfl ?_ | refine wpA_store rfl _ _ _ rfl _ rfl (.pointer _) rfl ?_ | refine wpA_store rfl _ _ _ rfl _ rfl (.func _ _ _) rfl ?_); (first | refine storeA hL ?_ | refine storeO hL ?_); (clear hL; intro _ hL)) | ((with_reducible refine wpA_lit rfl _ _ _ rfl ?_); first | refine litA1 hL ?_ | refine litA2 hL ?_ | refine litA3 hL ?_ | refine litA4 hL ?_ | refine litA6 hL ?_) | ((with_reducible refine wpA_append rfl _ _ _ rfl (.slice _ _ _) rfl ?_); intro vq hvq; simp [go_sem] at hvq; subst hvq; refine appendA hL ?_; clear hL; intro _ _ _ hL; try dsimp only at hL) | ((with_reducible refine wpA_make rfl _ _ _ rfl _ rfl rfl ?_); refine makeA hL ?_))
    go_ret
    exact ⟨ret_int HR.out.symm, hL.below⟩
  | true =>
    cases hn : [x, y].all near1 with
    | false =>
      have HR := Lib.hid (show turnE ⟨ex0, ey0, false, ecx, ecy, ex1, ey1⟩ x y = 0 by
        unfold turnE
        rw [if_neg]
        simp only [List.all_cons, List.all_nil, Bool.and_true] at hn
        rw [hn]; simp)
      have Hn := Lib.hid hn; clear hn
      rw [hm] at HM
      clear hm
      unfold edgeV at *
      have n1 : True := trivial; have n2 : True := trivial; have n3 : True := trivial
      go_enter Try.func122, Try.ntmps122
      go_wp2_with (first | (go_at_call 113; (with_reducible refine (HM.out _).mono ?_); rintro e _ ⟨rfl, hb⟩; replace hL := hL.call hb; clear hb) | (go_at_call 114; (refine (near_calls _ _ [x, y] (hL.numsLit [x, y] atO (by rfl))).mono ?_); rintro e _ ⟨rfl, hb⟩; rw [Hn.out]; replace hL := hL.call hb; clear hb) | (first | (clear hL n1; with_reducible intro b1 w1 hL) | (clear hL n2; with_reducible intro b2 w2 hL) | (clear hL n3; with_reducible intro b3 w3 hL) | (clear hL; with_reducible intro _ _ hL)) | (with_reducible refine wpC_alloc rfl _ rfl _ _ inferInstance hL ?_) | (with_reducible first | refine wpB_agg rfl _ _ _ rfl rfl hL ?_ | refine wpB_one rfl _ _ (.int _ _) rfl rfl rfl hL ?_ | refine wpB_one rfl _ _ (.slice _ _ _) rfl rfl rfl hL ?_ | refine wpB_one rfl _ _ (.bool _) rfl rfl rfl hL ?_ | refine wpB_one rfl _ _ (.pointer _) rfl rfl rfl hL ?_ | refine wpB_one rfl _ _ (.func _ _ _) rfl rfl rfl hL ?_) | (with_reducible first | refine wpH_max rfl _ _ _ _ rfl _ _ rfl rfl ?_ | refine wpH_min rfl _ _ _ _ rfl _ _ rfl rfl ?_) | ((with_reducible refine wpA_load rfl _ _ rfl _ rfl ?_); first | refine loadA hL ?_ | refine loadR hL ?_ | refine loadC hL ?_ | refine loadD ?_ | refine loadE hL ?_ | refine loadF ?_) | ((with_reducible refine wpA_index rfl _ _ _ rfl _ rfl _ rfl ?_); first | (refine indexA ?_; try rw [Int.toNat_natCast]) | refine indexC ?_) | ((with_reducible refine wpA_store rfl _ _ _ rfl _ rfl (.agg _) rfl ?_); refine storeR hL ?_; clear hL; intro _ hL) | ((with_reducible first | refine wpA_store rfl _ _ _ rfl _ rfl (.int _ _) rfl ?_ | refine wpA_store rfl _ _ _ rfl _ rfl (.slice _ _ _) rfl ?_ | refine wpA_store rfl _ _ _ rfl _ rfl (.bool _) rfl ?_ | refine wpA_store rfl _ _ _ rfl _ rfl (.pointer _) rfl ?_ | refine wpA_store rfl _ _ _ rfl _ rfl (.func _ _ _) rfl ?_); (first | refine storeA hL ?_ | refine storeO hL ?_); (clear hL; intro _ hL)) | ((with_reducible refine wpA_lit rfl _ _ _ rfl ?_); first | refine litA1 hL ?_ | refine litA2 hL ?_ | refine litA3 hL ?_ | refine litA4 hL ?_ | refine litA6 hL ?_) | ((with_reducible refine wpA_append rfl _ _ _ rfl (.slice _ _ _) rfl ?_); intro vq hvq; simp [go_sem] at hvq; subst hvq; refine appendA hL ?_; clear hL; intro _ _ _ hL; try dsimp only at hL) | ((with_reducible refine wpA_make rfl _ _ _ rfl _ rfl rfl ?_); refine makeA hL ?_))
      go_ret
      exact ⟨ret_int HR.out.symm, hL.below⟩
    | true =>
      have hxy : near1 x = true ∧ near1 y = true := by simpa using hn
      have hs := small_of hm hxy.2
      have HR := Lib.hid (turn_sp hm hxy.1 hxy.2)
      have HS := Lib.hid (fun w => spots_calls ⟨ex0, ey0, false, ecx, ecy, ex1, ey1⟩ rfl y hs w)
      obtain ⟨⟨t1, t2⟩, ⟨p1, p2⟩, ⟨m1, m2⟩⟩ := sp_bounds hs
      have hx : -8191 ≤ x ∧ x ≤ 8191 := by simpa [near1] using hxy.1
      obtain ⟨x1, x2⟩ := hx
      have Hn := Lib.hid hn; clear hn
      rw [hm] at HM
      clear hm hs hxy
      generalize turnE ⟨ex0, ey0, false, ecx, ecy, ex1, ey1⟩ x y = T at *
      generalize spT ⟨ex0, ey0, false, ecx, ecy, ex1, ey1⟩ y = t at *
      generalize spP ⟨ex0, ey0, false, ecx, ecy, ex1, ey1⟩ y = p at *
      generalize spM ⟨ex0, ey0, false, ecx, ecy, ex1, ey1⟩ y = m at *
      unfold edgeV at *
      obtain ⟨k1, k2⟩ := mul_bd (a := x) (b := m) (A := 8191) (B := 16382) (by omega) (by omega) (by omega) (by omega)
      have n1 : True := trivial; have n2 : True := trivial; have n3 : True := trivial
      go_enter Try.func122, Try.ntmps122
      go_wp2_with (first | (go_at_call 113; (with_reducible refine (HM.out _).mono ?_); rintro e _ ⟨rfl, hb⟩; replace hL := hL.call hb; clear hb) | (go_at_call 114; (refine (near_calls _ _ [x, y] (hL.numsLit [x, y] atO (by rfl))).mono ?_); rintro e _ ⟨rfl, hb⟩; rw [Hn.out]; replace hL := hL.call hb; clear hb) | (go_at_call 115; (with_reducible refine (HS.out _).mono ?_); rintro e _ ⟨rfl, hb⟩; replace hL := hL.call hb; clear hb) | (first | (clear hL n1; with_reducible intro b1 w1 hL) | (clear hL n2; with_reducible intro b2 w2 hL) | (clear hL n3; with_reducible intro b3 w3 hL) | (clear hL; with_reducible intro _ _ hL)) | (with_reducible refine wpC_alloc rfl _ rfl _ _ inferInstance hL ?_) | (with_reducible first | refine wpB_agg rfl _ _ _ rfl rfl hL ?_ | refine wpB_one rfl _ _ (.int _ _) rfl rfl rfl hL ?_ | refine wpB_one rfl _ _ (.slice _ _ _) rfl rfl rfl hL ?_ | refine wpB_one rfl _ _ (.bool _) rfl rfl rfl hL ?_ | refine wpB_one rfl _ _ (.pointer _) rfl rfl rfl hL ?_ | refine wpB_one rfl _ _ (.func _ _ _) rfl rfl rfl hL ?_) | (with_reducible first | refine wpH_max rfl _ _ _ _ rfl _ _ rfl rfl ?_ | refine wpH_min rfl _ _ _ _ rfl _ _ rfl rfl ?_) | ((with_reducible refine wpA_load rfl _ _ rfl _ rfl ?_); first | refine loadA hL ?_ | refine loadR hL ?_ | refine loadC hL ?_ | refine loadD ?_ | refine loadE hL ?_ | refine loadF ?_) | ((with_reducible refine wpA_index rfl _ _ _ rfl _ rfl _ rfl ?_); first | (refine indexA ?_; try rw [Int.toNat_natCast]) | refine indexC ?_) | ((with_reducible refine wpA_store rfl _ _ _ rfl _ rfl (.agg _) rfl ?_); refine storeR hL ?_; clear hL; intro _ hL) | ((with_reducible first | refine wpA_store rfl _ _ _ rfl _ rfl (.int _ _) rfl ?_ | refine wpA_store rfl _ _ _ rfl _ rfl (.slice _ _ _) rfl ?_ | refine wpA_store rfl _ _ _ rfl _ rfl (.bool _) rfl ?_ | refine wpA_store rfl _ _ _ rfl _ rfl (.pointer _) rfl ?_ | refine wpA_store rfl _ _ _ rfl _ rfl (.func _ _ _) rfl ?_); (first | refine storeA hL ?_ | refine storeO hL ?_); (clear hL; intro _ hL)) | ((with_reducible refine wpA_lit rfl _ _ _ rfl ?_); first | refine litA1 hL ?_ | refine litA2 hL ?_ | refine litA3 hL ?_ | refine litA4 hL ?_ | refine litA6 hL ?_) | ((with_reducible refine wpA_append rfl _ _ _ rfl (.slice _ _ _) rfl ?_); intro vq hvq; simp [go_sem] at hvq; subst hvq; refine appendA hL ?_; clear hL; intro _ _ _ hL; try dsimp only at hL) | ((with_reducible refine wpA_make rfl _ _ _ rfl _ rfl rfl ?_); refine makeA hL ?_))
      go_loopw [7, 23] (fun s7 s23 wr => ∃ k : Nat, k ≤ 2 ∧ s23 = .int .i64 k ∧ s7 = .int .i64 (if k = 0 then 0 else T) ∧ Holds w wr [] [])
        (fun s7 s23 wr => 2 - (intOf s23).toNat)
      case atStart => exact ⟨0, by omega, rfl, rfl, (hL.drop .here).drop .here⟩
      case round =>
        clear hL
        obtain ⟨k, hk, rfl, rfl, hL⟩ := hrel
        rcases (by omega : k = 0 ∨ k = 1 ∨ k = 2) with rfl | rfl | rfl
        · simp only [if_true]
          rcases (by omega : t = 0 ∨ t ≠ 0) with ht | ht
          · subst ht
            have HR0 := Lib.hid (show T = 0 by rw [HR.out]; simp)
            have n1 : True := trivial; have n2 : True := trivial; have n3 : True := trivial
            go_wp2_with (first | ((with_reducible refine wpA_index rfl _ _ _ rfl _ rfl _ rfl ?_); refine indexS ?_) | (first | (clear hL n1; with_reducible intro b1 w1 hL) | (clear hL n2; with_reducible intro b2 w2 hL) | (clear hL n3; with_reducible intro b3 w3 hL) | (clear hL; with_reducible intro _ _ hL)) | (with_reducible refine wpC_alloc rfl _ rfl _ _ inferInstance hL ?_) | (with_reducible first | refine wpB_agg rfl _ _ _ rfl rfl hL ?_ | refine wpB_one rfl _ _ (.int _ _) rfl rfl rfl hL ?_ | refine wpB_one rfl _ _ (.slice _ _ _) rfl rfl rfl hL ?_ | refine wpB_one rfl _ _ (.bool _) rfl rfl rfl hL ?_ | refine wpB_one rfl _ _ (.pointer _) rfl rfl rfl hL ?_ | refine wpB_one rfl _ _ (.func _ _ _) rfl rfl rfl hL ?_) | (with_reducible first | refine wpH_max rfl _ _ _ _ rfl _ _ rfl rfl ?_ | refine wpH_min rfl _ _ _ _ rfl _ _ rfl rfl ?_) | ((with_reducible refine wpA_load rfl _ _ rfl _ rfl ?_); first | refine loadA hL ?_ | refine loadR hL ?_ | refine loadC hL ?_ | refine loadD ?_ | refine loadE hL ?_ | refine loadF ?_) | ((with_reducible refine wpA_index rfl _ _ _ rfl _ rfl _ rfl ?_); first | (refine indexA ?_; try rw [Int.toNat_natCast]) | refine indexC ?_) | ((with_reducible refine wpA_store rfl _ _ _ rfl _ rfl (.agg _) rfl ?_); refine storeR hL ?_; clear hL; intro _ hL) | ((with_reducible first | refine wpA_store rfl _ _ _ rfl _ rfl (.int _ _) rfl ?_ | refine wpA_store rfl _ _ _ rfl _ rfl (.slice _ _ _) rfl ?_ | refine wpA_store rfl _ _ _ rfl _ rfl (.bool _) rfl ?_ | refine wpA_store rfl _ _ _ rfl _ rfl (.pointer _) rfl ?_ | refine wpA_store rfl _ _ _ rfl _ rfl (.func _ _ _) rfl ?_); (first | refine storeA hL ?_ | refine storeO hL ?_); (clear hL; intro _ hL)) | ((with_reducible refine wpA_lit rfl _ _ _ rfl ?_); first | refine litA1 hL ?_ | refine litA2 hL ?_ | refine litA3 hL ?_ | refine litA4 hL ?_ | refine litA6 hL ?_) | ((with_reducible refine wpA_append rfl _ _ _ rfl (.slice _ _ _) rfl ?_); intro vq hvq; simp [go_sem] at hvq; subst hvq; refine appendA hL ?_; clear hL; intro _ _ _ hL; try dsimp only at hL) | ((with_reducible refine wpA_make rfl _ _ _ rfl _ rfl rfl ?_); refine makeA hL ?_))
            go_roundw
            case rel => exact ⟨1, by omega, rfl, by rw [if_neg (by omega), HR0.out], hL.drop .here⟩
            case measure => simp [intOf]
          · have d1 : (t != 0) = true := by simp [ht]
            rcases (by omega : 0 < p - x * m ∨ ¬ 0 < p - x * m) with hp | hp
            · have hsg : 0 < sgn (p - x * m) := by unfold sgn; (repeat' split) <;> omega
              have HR0 := Lib.hid (show T = t by rw [HR.out, if_pos ⟨ht, hsg⟩])
              have n1 : True := trivial; have n2 : True := trivial; have n3 : True := trivial
              go_wp2_with (first | ((with_reducible refine wpA_index rfl _ _ _ rfl _ rfl _ rfl ?_); refine indexS ?_) | (go_at_call 124; (with_reducible refine (bowSign0_calls _ (by omega) (by omega) _).mono ?_); rintro e _ ⟨rfl, rfl⟩) | (first | (clear hL n1; with_reducible intro b1 w1 hL) | (clear hL n2; with_reducible intro b2 w2 hL) | (clear hL n3; with_reducible intro b3 w3 hL) | (clear hL; with_reducible intro _ _ hL)) | (with_reducible refine wpC_alloc rfl _ rfl _ _ inferInstance hL ?_) | (with_reducible first | refine wpB_agg rfl _ _ _ rfl rfl hL ?_ | refine wpB_one rfl _ _ (.int _ _) rfl rfl rfl hL ?_ | refine wpB_one rfl _ _ (.slice _ _ _) rfl rfl rfl hL ?_ | refine wpB_one rfl _ _ (.bool _) rfl rfl rfl hL ?_ | refine wpB_one rfl _ _ (.pointer _) rfl rfl rfl hL ?_ | refine wpB_one rfl _ _ (.func _ _ _) rfl rfl rfl hL ?_) | (with_reducible first | refine wpH_max rfl _ _ _ _ rfl _ _ rfl rfl ?_ | refine wpH_min rfl _ _ _ _ rfl _ _ rfl rfl ?_) | ((with_reducible refine wpA_load rfl _ _ rfl _ rfl ?_); first | refine loadA hL ?_ | refine loadR hL ?_ | refine loadC hL ?_ | refine loadD ?_ | refine loadE hL ?_ | refine loadF ?_) | ((with_reducible refine wpA_index rfl _ _ _ rfl _ rfl _ rfl ?_); first | (refine indexA ?_; try rw [Int.toNat_natCast]) | refine indexC ?_) | ((with_reducible refine wpA_store rfl _ _ _ rfl _ rfl (.agg _) rfl ?_); refine storeR hL ?_; clear hL; intro _ hL) | ((with_reducible first | refine wpA_store rfl _ _ _ rfl _ rfl (.int _ _) rfl ?_ | refine wpA_store rfl _ _ _ rfl _ rfl (.slice _ _ _) rfl ?_ | refine wpA_store rfl _ _ _ rfl _ rfl (.bool _) rfl ?_ | refine wpA_store rfl _ _ _ rfl _ rfl (.pointer _) rfl ?_ | refine wpA_store rfl _ _ _ rfl _ rfl (.func _ _ _) rfl ?_); (first | refine storeA hL ?_ | refine storeO hL ?_); (clear hL; intro _ hL)) | ((with_reducible refine wpA_lit rfl _ _ _ rfl ?_); first | refine litA1 hL ?_ | refine litA2 hL ?_ | refine litA3 hL ?_ | refine litA4 hL ?_ | refine litA6 hL ?_) | ((with_reducible refine wpA_append rfl _ _ _ rfl (.slice _ _ _) rfl ?_); intro vq hvq; simp [go_sem] at hvq; subst hvq; refine appendA hL ?_; clear hL; intro _ _ _ hL; try dsimp only at hL) | ((with_reducible refine wpA_make rfl _ _ _ rfl _ rfl rfl ?_); refine makeA hL ?_))
              go_roundw
              case rel => exact ⟨1, by omega, rfl, by (rw [if_neg (by omega), HR0.out]; try go_num), hL.drop .here⟩
              case measure => simp [intOf]
            · have hsg : ¬ 0 < sgn (p - x * m) := by unfold sgn; (repeat' split) <;> omega
              have HR0 := Lib.hid (show T = 0 by rw [HR.out, if_neg (fun h => hsg h.2)])
              have n1 : True := trivial; have n2 : True := trivial; have n3 : True := trivial
              go_wp2_with (first | ((with_reducible refine wpA_index rfl _ _ _ rfl _ rfl _ rfl ?_); refine indexS ?_) | (go_at_call 124; (with_reducible refine (bowSign0_calls _ (by omega) (by omega) _).mono ?_); rintro e _ ⟨rfl, rfl⟩) | (first | (clear hL n1; with_reducible intro b1 w1 hL) | (clear hL n2; with_reducible intro b2 w2 hL) | (clear hL n3; with_reducible intro b3 w3 hL) | (clear hL; with_reducible intro _ _ hL)) | (with_reducible refine wpC_alloc rfl _ rfl _ _ inferInstance hL ?_) | (with_reducible first | refine wpB_agg rfl _ _ _ rfl rfl hL ?_ | refine wpB_one rfl _ _ (.int _ _) rfl rfl rfl hL ?_ | refine wpB_one rfl _ _ (.slice _ _ _) rfl rfl rfl hL ?_ | refine wpB_one rfl _ _ (.bool _) rfl rfl rfl hL ?_ | refine wpB_one rfl _ _ (.pointer _) rfl rfl rfl hL ?_ | refine wpB_one rfl _ _ (.func _ _ _) rfl rfl rfl hL ?_) | (with_reducible first | refine wpH_max rfl _ _ _ _ rfl _ _ rfl rfl ?_ | refine wpH_min rfl _ _ _ _ rfl _ _ rfl rfl ?_) | ((with_reducible refine wpA_load rfl _ _ rfl _ rfl ?_); first | refine loadA hL ?_ | refine loadR hL ?_ | refine loadC hL ?_ | refine loadD ?_ | refine loadE hL ?_ | refine loadF ?_) | ((with_reducible refine wpA_index rfl _ _ _ rfl _ rfl _ rfl ?_); first | (refine indexA ?_; try rw [Int.toNat_natCast]) | refine indexC ?_) | ((with_reducible refine wpA_store rfl _ _ _ rfl _ rfl (.agg _) rfl ?_); refine storeR hL ?_; clear hL; intro _ hL) | ((with_reducible first | refine wpA_store rfl _ _ _ rfl _ rfl (.int _ _) rfl ?_ | refine wpA_store rfl _ _ _ rfl _ rfl (.slice _ _ _) rfl ?_ | refine wpA_store rfl _ _ _ rfl _ rfl (.bool _) rfl ?_ | refine wpA_store rfl _ _ _ rfl _ rfl (.pointer _) rfl ?_ | refine wpA_store rfl _ _ _ rfl _ rfl (.func _ _ _) rfl ?_); (first | refine storeA hL ?_ | refine storeO hL ?_); (clear hL; intro _ hL)) | ((with_reducible refine wpA_lit rfl _ _ _ rfl ?_); first | refine litA1 hL ?_ | refine litA2 hL ?_ | refine litA3 hL ?_ | refine litA4 hL ?_ | refine litA6 hL ?_) | ((with_reducible refine wpA_append rfl _ _ _ rfl (.slice _ _ _) rfl ?_); intro vq hvq; simp [go_sem] at hvq; subst hvq; refine appendA hL ?_; clear hL; intro _ _ _ hL; try dsimp only at hL) | ((with_reducible refine wpA_make rfl _ _ _ rfl _ rfl rfl ?_); refine makeA hL ?_))
              go_roundw
              case rel => exact ⟨1, by omega, rfl, by rw [if_neg (by omega), HR0.out], hL.drop .here⟩
              case measure => simp [intOf]
        · rw [if_neg (by omega)]
          have n1 : True := trivial; have n2 : True := trivial; have n3 : True := trivial
          go_wp2_with (first | ((with_reducible refine wpA_index rfl _ _ _ rfl _ rfl _ rfl ?_); refine indexS ?_) | (first | (clear hL n1; with_reducible intro b1 w1 hL) | (clear hL n2; with_reducible intro b2 w2 hL) | (clear hL n3; with_reducible intro b3 w3 hL) | (clear hL; with_reducible intro _ _ hL)) | (with_reducible refine wpC_alloc rfl _ rfl _ _ inferInstance hL ?_) | (with_reducible first | refine wpB_agg rfl _ _ _ rfl rfl hL ?_ | refine wpB_one rfl _ _ (.int _ _) rfl rfl rfl hL ?_ | refine wpB_one rfl _ _ (.slice _ _ _) rfl rfl rfl hL ?_ | refine wpB_one rfl _ _ (.bool _) rfl rfl rfl hL ?_ | refine wpB_one rfl _ _ (.pointer _) rfl rfl rfl hL ?_ | refine wpB_one rfl _ _ (.func _ _ _) rfl rfl rfl hL ?_) | (with_reducible first | refine wpH_max rfl _ _ _ _ rfl _ _ rfl rfl ?_ | refine wpH_min rfl _ _ _ _ rfl _ _ rfl rfl ?_) | ((with_reducible refine wpA_load rfl _ _ rfl _ rfl ?_); first | refine loadA hL ?_ | refine loadR hL ?_ | refine loadC hL ?_ | refine loadD ?_ | refine loadE hL ?_ | refine loadF ?_) | ((with_reducible refine wpA_index rfl _ _ _ rfl _ rfl _ rfl ?_); first | (refine indexA ?_; try rw [Int.toNat_natCast]) | refine indexC ?_) | ((with_reducible refine wpA_store rfl _ _ _ rfl _ rfl (.agg _) rfl ?_); refine storeR hL ?_; clear hL; intro _ hL) | ((with_reducible first | refine wpA_store rfl _ _ _ rfl _ rfl (.int _ _) rfl ?_ | refine wpA_store rfl _ _ _ rfl _ rfl (.slice _ _ _) rfl ?_ | refine wpA_store rfl _ _ _ rfl _ rfl (.bool _) rfl ?_ | refine wpA_store rfl _ _ _ rfl _ rfl (.pointer _) rfl ?_ | refine wpA_store rfl _ _ _ rfl _ rfl (.func _ _ _) rfl ?_); (first | refine storeA hL ?_ | refine storeO hL ?_); (clear hL; intro _ hL)) | ((with_reducible refine wpA_lit rfl _ _ _ rfl ?_); first | refine litA1 hL ?_ | refine litA2 hL ?_ | refine litA3 hL ?_ | refine litA4 hL ?_ | refine litA6 hL ?_) | ((with_reducible refine wpA_append rfl _ _ _ rfl (.slice _ _ _) rfl ?_); intro vq hvq; simp [go_sem] at hvq; subst hvq; refine appendA hL ?_; clear hL; intro _ _ _ hL; try dsimp only at hL) | ((with_reducible refine wpA_make rfl _ _ _ rfl _ rfl rfl ?_); refine makeA hL ?_))
          go_roundw
          case rel => exact ⟨2, by omega, rfl, by rw [if_neg (by omega)], hL.drop .here⟩
          case measure => simp [intOf]
        · rw [if_neg (by omega)]
          go_wp2_with (first | (first | (clear hL n1; with_reducible intro b1 w1 hL) | (clear hL n2; with_reducible intro b2 w2 hL) | (clear hL n3; with_reducible intro b3 w3 hL) | (clear hL; with_reducible intro _ _ hL)) | (with_reducible refine wpC_alloc rfl _ rfl _ _ inferInstance hL ?_) | (with_reducible first | refine wpB_agg rfl _ _ _ rfl rfl hL ?_ | refine wpB_one rfl _ _ (.int _ _) rfl rfl rfl hL ?_ | refine wpB_one rfl _ _ (.slice _ _ _) rfl rfl rfl hL ?_ | refine wpB_one rfl _ _ (.bool _) rfl rfl rfl hL ?_ | refine wpB_one rfl _ _ (.pointer _) rfl rfl rfl hL ?_ | refine wpB_one rfl _ _ (.func _ _ _) rfl rfl rfl hL ?_) | (with_reducible first | refine wpH_max rfl _ _ _ _ rfl _ _ rfl rfl ?_ | refine wpH_min rfl _ _ _ _ rfl _ _ rfl rfl ?_) | ((with_reducible refine wpA_load rfl _ _ rfl _ rfl ?_); first | refine loadA hL ?_ | refine loadR hL ?_ | refine loadC hL ?_ | refine loadD ?_ | refine loadE hL ?_ | refine loadF ?_) | ((with_reducible refine wpA_index rfl _ _ _ rfl _ rfl _ rfl ?_); first | (refine indexA ?_; try rw [Int.toNat_natCast]) | refine indexC ?_) | ((with_reducible refine wpA_store rfl _ _ _ rfl _ rfl (.agg _) rfl ?_); refine storeR hL ?_; clear hL; intro _ hL) | ((with_reducible first | refine wpA_store rfl _ _ _ rfl _ rfl (.int _ _) rfl ?_ | refine wpA_store rfl _ _ _ rfl _ rfl (.slice _ _ _) rfl ?_ | refine wpA_store rfl _ _ _ rfl _ rfl (.bool _) rfl ?_ | refine wpA_store rfl _ _ _ rfl _ rfl (.pointer _) rfl ?_ | refine wpA_store rfl _ _ _ rfl _ rfl (.func _ _ _) rfl ?_); (first | refine storeA hL ?_ | refine storeO hL ?_); (clear hL; intro _ hL)) | ((with_reducible refine wpA_lit rfl _ _ _ rfl ?_); first | refine litA1 hL ?_ | refine litA2 hL ?_ | refine litA3 hL ?_ | refine litA4 hL ?_ | refine litA6 hL ?_) | ((with_reducible refine wpA_append rfl _ _ _ rfl (.slice _ _ _) rfl ?_); intro vq hvq; simp [go_sem] at hvq; subst hvq; refine appendA hL ?_; clear hL; intro _ _ _ hL; try dsimp only at hL) | ((with_reducible refine wpA_make rfl _ _ _ rfl _ rfl rfl ?_); refine makeA hL ?_))
          go_ret
          exact ⟨rfl, hL.below⟩
open Go.RowKit

/-- a cell of a block that was there is written -/
theorem storeAt_old {P : Program} {w : World} {KW : World → Prop} {T T' : TypeId} {b off : Nat} {v : Value} {cs : Array Value} [hT : ScalarT P T] (h1 : v.cells = #[v]) (hv1 : v.oneCell' = true) (hb : w.heap[b]? = some (.cells cs T' (0, 0))) (hoff : off < cs.size)
    (h : KW (w.setCell ⟨b, off, none⟩ v)) : StoreAt P T ⟨b, off, none⟩ v w KW := by
  refine ⟨w.setCell ⟨b, off, none⟩ v, ?_, h⟩
  have hc : w.cell? ⟨b, off, none⟩ = some cs[off] := by rw [cell_of_row w b off cs T' (0, 0) hb]; simp [hoff]
  have hf : w.frozen? ⟨b, off, none⟩ = false := frozen_of_row w b off cs T' hb
  have hi := hT.size
  cases hq : P.info? T with
  | none => simp [hq] at hi
  | some i =>
    have hs : i.size = 1 := by simpa [hq] using hi
    simp [Sem.run_bind, storeVar, sizeOf, typeInfo, hq, hs, h1, storeCells, run_store, hv1, hc, hf, Addr.add]
theorem turnE_bd (e : Edg) (x y : Int) : -1 ≤ turnE e x y ∧ turnE e x y ≤ 1 := by
  unfold turnE turnS; (repeat' split) <;> omega
theorem windS_step {l : List Edg} {k : Nat} (h : k < l.length) (x y : Int) : windS (l.take (k + 1)) x y = windS (l.take k) x y + turnE (l.getD k default) x y := by
  unfold windS
  rw [List.take_succ_eq_append_getElem h, List.map_append, List.sum_append]
  simp [h]
theorem windS_bd (x y : Int) : ∀ l : List Edg, -(l.length : Int) ≤ windS l x y ∧ windS l x y ≤ l.length
  | [] => by simp [windS]
  | e :: l => by
    have h1 := windS_bd x y l
    have h2 := turnE_bd e x y
    have h3 : windS (e :: l) x y = turnE e x y + windS l x y := by simp [windS]
    rw [h3, List.length_cons]
    omega

set_option maxRecDepth 100000 in
set_option maxHeartbeats 2000000 in
theorem pointAdd_calls (w : World) (b : Nat) (x y n : Int) (T' : TypeId) (hp : w.heap[b]? = some (.cells #[.int .i64 x, .int .i64 y, .int .i64 n] T' (0, 0))) (e : Edg) (hbt : e.bent = false) (hn1 : -9223372036854775806 ≤ n) (hn2 : n ≤ 9223372036854775806) :
    Calls Try.prog 117 #[.pointer (some ⟨b, 0, none⟩), edgeV e] w fun r w' => r = .returned (.tuple #[]) ∧ ∃ w1, Below w.heap.size w w1 ∧ w' = w1.setCell ⟨b, 2, none⟩ (.int .i64 (n + turnE e x y)) := by
  have hblt : b < w.heap.size := (Array.getElem?_eq_some_iff.1 hp).1
  have q0 : w.cell? ⟨b, 0, none⟩ = some (.int .i64 x) := (cell_of_row w b 0 _ T' (0, 0) hp).trans rfl
  have q1 : w.cell? ⟨b, 1, none⟩ = some (.int .i64 y) := (cell_of_row w b 1 _ T' (0, 0) hp).trans rfl
  have q2 : w.cell? ⟨b, 2, none⟩ = some (.int .i64 n) := (cell_of_row w b 2 _ T' (0, 0) hp).trans rfl
  have HT := Lib.hid (fun w => turns_calls e hbt x y w)
  have hbd := turnE_bd e x y
  obtain ⟨d1, d2⟩ := hbd
  generalize turnE e x y = T at *
  obtain ⟨ex0, ey0, bt, ecx, ecy, ex1, ey1⟩ := e
  dsimp only at hbt
  subst hbt
  unfold edgeV at *
  dsimp only at HT
  have hL := Holds.start w
  have Hp := Lib.hid hp; clear hp
  have n1 : True := trivial
  go_enter Try.func117, Try.ntmps117
  go_wp2_with (first | (first | (clear hL n1; with_reducible intro b1 w1 hL) | (clear hL; with_reducible intro _ _ hL)) | (with_reducible refine wpC_alloc rfl _ rfl _ _ inferInstance hL ?_) | (with_reducible first | refine wpB_agg rfl _ _ _ rfl rfl hL ?_ | refine wpB_one rfl _ _ (.int _ _) rfl rfl rfl hL ?_ | refine wpB_one rfl _ _ (.slice _ _ _) rfl rfl rfl hL ?_ | refine wpB_one rfl _ _ (.bool _) rfl rfl rfl hL ?_ | refine wpB_one rfl _ _ (.pointer _) rfl rfl rfl hL ?_ | refine wpB_one rfl _ _ (.func _ _ _) rfl rfl rfl hL ?_) | (with_reducible first | refine wpH_max rfl _ _ _ _ rfl _ _ rfl rfl ?_ | refine wpH_min rfl _ _ _ _ rfl _ _ rfl rfl ?_) | ((with_reducible refine wpA_load rfl _ _ rfl _ rfl ?_); first | refine loadA hL ?_ | refine loadR hL ?_ | refine loadC hL ?_ | refine loadD ?_ | refine loadE hL ?_ | refine loadF ?_) | ((with_reducible refine wpA_index rfl _ _ _ rfl _ rfl _ rfl ?_); first | (refine indexA ?_; try rw [Int.toNat_natCast]) | refine indexC ?_) | ((with_reducible refine wpA_store rfl _ _ _ rfl _ rfl (.agg _) rfl ?_); refine storeR hL ?_; clear hL; intro _ hL) | ((with_reducible first | refine wpA_store rfl _ _ _ rfl _ rfl (.int _ _) rfl ?_ | refine wpA_store rfl _ _ _ rfl _ rfl (.slice _ _ _) rfl ?_ | refine wpA_store rfl _ _ _ rfl _ rfl (.bool _) rfl ?_ | refine wpA_store rfl _ _ _ rfl _ rfl (.pointer _) rfl ?_ | refine wpA_store rfl _ _ _ rfl _ rfl (.func _ _ _) rfl ?_); (first | refine storeA hL ?_ | refine storeO hL ?_); (clear hL; intro _ hL)) | ((with_reducible refine wpA_lit rfl _ _ _ rfl ?_); first | refine litA1 hL ?_ | refine litA2 hL ?_ | refine litA3 hL ?_ | refine litA4 hL ?_ | refine litA6 hL ?_) | ((with_reducible refine wpA_append rfl _ _ _ rfl (.slice _ _ _) rfl ?_); intro vq hvq; simp [go_sem] at hvq; subst hvq; refine appendA hL ?_; clear hL; intro _ _ _ hL; try dsimp only at hL) | ((with_reducible refine wpA_make rfl _ _ _ rfl _ rfl rfl ?_); refine makeA hL ?_))
  have hK := (Holds.start w1).drew
  have r0 := hL.old q0
  have r1 := hL.old q1
  have r2 := hL.old q2
  have r3 : w1.rangeAt b1 0 [.int .i64 ex0, .int .i64 ey0, .bool false, .int .i64 ecx, .int .i64 ecy, .int .i64 ex1, .int .i64 ey1] := fun j v hj => by
    rw [Nat.zero_add, hL.cell .here]; simpa using hj
  clear q0 q1 q2
  have hwr : IntKind.i64.wrap (n + T) = n + T := by rw [IntKind.wrap_i64]; omega
  refine wpM_begin (by kernel_rfl) (fun w' => Below w1.heap.size w1 w') 17 ?_
  refine stM (i := 0) (.pointer (some ⟨b, 0, none⟩)) hK.below ?_ ?_; (· exact fun w' _ => (by go_simp)); simp only [Act.put, List.setIfInBounds_toArray, List.set_cons_zero, List.set_cons_succ]
  refine stM (i := 1) (.pointer (some ⟨b, 0, none⟩)) hK.below ?_ ?_; (· exact fun w' _ => (by go_simp)); simp only [Act.put, List.setIfInBounds_toArray, List.set_cons_zero, List.set_cons_succ]
  refine stM (i := 2) (.pointer (some ⟨b, 2, none⟩)) hK.below ?_ ?_; (· exact fun w' _ => (by go_simp)); simp only [Act.put, List.setIfInBounds_toArray, List.set_cons_zero, List.set_cons_succ]
  refine stM (i := 3) (.int .i64 n) hK.below ?_ ?_; (· exact fun w' hw => run_loadOp _ _ rfl _ rfl _ (load_cell (cell_later hw r2))); simp only [Act.put, List.setIfInBounds_toArray, List.set_cons_zero, List.set_cons_succ]
  refine stM (i := 4) (.agg #[.int .i64 ex0, .int .i64 ey0, .bool false, .int .i64 ecx, .int .i64 ecy, .int .i64 ex1, .int .i64 ey1]) hK.below ?_ ?_; (· exact fun w' hw => run_loadOp _ _ rfl _ rfl _ (load_range rfl (rangeAt_below r3 hw))); simp only [Act.put, List.setIfInBounds_toArray, List.set_cons_zero, List.set_cons_succ]
  refine stM (i := 5) (.pointer (some ⟨b, 0, none⟩)) hK.below ?_ ?_; (· exact fun w' _ => (by go_simp)); simp only [Act.put, List.setIfInBounds_toArray, List.set_cons_zero, List.set_cons_succ]
  refine stM (i := 6) (.pointer (some ⟨b, 0, none⟩)) hK.below ?_ ?_; (· exact fun w' _ => (by go_simp)); simp only [Act.put, List.setIfInBounds_toArray, List.set_cons_zero, List.set_cons_succ]
  refine stM (i := 7) (.pointer (some ⟨b, 0, none⟩)) hK.below ?_ ?_; (· exact fun w' _ => (by go_simp)); simp only [Act.put, List.setIfInBounds_toArray, List.set_cons_zero, List.set_cons_succ]
  refine stM (i := 8) (.int .i64 x) hK.below ?_ ?_; (· exact fun w' hw => run_loadOp _ _ rfl _ rfl _ (load_cell (cell_later hw r0))); simp only [Act.put, List.setIfInBounds_toArray, List.set_cons_zero, List.set_cons_succ]
  refine stM (i := 9) (.pointer (some ⟨b, 0, none⟩)) hK.below ?_ ?_; (· exact fun w' _ => (by go_simp)); simp only [Act.put, List.setIfInBounds_toArray, List.set_cons_zero, List.set_cons_succ]
  refine stM (i := 10) (.pointer (some ⟨b, 0, none⟩)) hK.below ?_ ?_; (· exact fun w' _ => (by go_simp)); simp only [Act.put, List.setIfInBounds_toArray, List.set_cons_zero, List.set_cons_succ]
  refine stM (i := 11) (.pointer (some ⟨b, 1, none⟩)) hK.below ?_ ?_; (· exact fun w' _ => (by go_simp)); simp only [Act.put, List.setIfInBounds_toArray, List.set_cons_zero, List.set_cons_succ]
  refine stM (i := 12) (.int .i64 y) hK.below ?_ ?_; (· exact fun w' hw => run_loadOp _ _ rfl _ rfl _ (load_cell (cell_later hw r1))); simp only [Act.put, List.setIfInBounds_toArray, List.set_cons_zero, List.set_cons_succ]
  refine wpM_one (i := 13) (by kernel_rfl) (wpOp_of (by simp only [List.getElem?_toArray, List.getElem?_cons_zero, List.getElem?_cons_succ]; rfl) ?_)
  refine st_call rfl 122 #[.agg #[.int .i64 ex0, .int .i64 ey0, .bool false, .int .i64 ecx, .int .i64 ecy, .int .i64 ex1, .int .i64 ey1], .int .i64 x, .int .i64 y] (by go_simp) (HT.out _) ?_
  rintro e w5 ⟨rfl, hb⟩
  replace hK := hK.call hb
  clear hb
  refine ⟨_, rfl, fun _ => hK.below, ?_⟩
  simp only [Act.put, List.setIfInBounds_toArray, List.set_cons_zero, List.set_cons_succ]
  refine stM (i := 14) (.int .i64 (n + T)) hK.below ?_ ?_; (· exact fun w' _ => (by go_simp)); simp only [Act.put, List.setIfInBounds_toArray, List.set_cons_zero, List.set_cons_succ]
  refine stO (i := 15) (.pointer (some ⟨b, 0, none⟩)) hK.below ?_ ?_; (· exact fun w' => (by go_simp)); simp only [Act.put, List.setIfInBounds_toArray, List.set_cons_zero, List.set_cons_succ]
  refine stM (i := 16) (.pointer (some ⟨b, 2, none⟩)) hK.below ?_ ?_; (· exact fun w' _ => (by go_simp)); simp only [Act.put, List.setIfInBounds_toArray, List.set_cons_zero, List.set_cons_succ]
  have hB : Below w.heap.size w w5 := hL.below.trans (hK.below.mono hL.size)
  refine wpM_one (i := 17) (by kernel_rfl) (wpOp_of (by simp only [List.getElem?_toArray, List.getElem?_cons_zero, List.getElem?_cons_succ]; rfl) ?_)
  refine st_store rfl _ _ _ rfl ⟨b, 2, none⟩ rfl (.int .i64 (n + T)) rfl (storeAt_old rfl rfl ((hB.block b hblt).trans Hp.out) (by simp) ?_)
  refine ⟨fun h => absurd rfl h, wpM_done (by kernel_rfl) ?_⟩
  simp only [Act.put]
  go_wp2
  exact bodyPost_end (results_none rfl _ _ _) rfl ⟨rfl, w5, hB, rfl⟩
open Go.RowKit

set_option maxRecDepth 100000 in
set_option maxHeartbeats 2000000 in
theorem windAt_calls (w : World) (v : Value) (l : List Edg) (hv : EdgesAt w v l) (hst : ∀ e ∈ l, e.bent = false) (x y : Int) :
    Calls Try.prog 111 #[v, .int .i64 x, .int .i64 y] w fun r w' => r = .returned (.int .i64 (windS l x y)) ∧ Below w.heap.size w w' := by
  obtain ⟨a, cap, rfl, hlc, hcm, hel⟩ := hv.parts
  clear hv
  unfold maxLen at hcm
  have Hel := Lib.hid hel; clear hel
  have Hst := Lib.hid hst; clear hst
  have hL := Holds.start w
  have n1 : True := trivial
  go_enter Try.func111, Try.ntmps111
  go_wp2_with (first | (first | (clear hL n1; with_reducible intro b1 w1 hL) | (clear hL; with_reducible intro _ _ hL)) | (with_reducible refine wpC_alloc rfl _ rfl _ _ inferInstance hL ?_) | (with_reducible first | refine wpB_agg rfl _ _ _ rfl rfl hL ?_ | refine wpB_one rfl _ _ (.int _ _) rfl rfl rfl hL ?_ | refine wpB_one rfl _ _ (.slice _ _ _) rfl rfl rfl hL ?_ | refine wpB_one rfl _ _ (.bool _) rfl rfl rfl hL ?_ | refine wpB_one rfl _ _ (.pointer _) rfl rfl rfl hL ?_ | refine wpB_one rfl _ _ (.func _ _ _) rfl rfl rfl hL ?_) | (with_reducible first | refine wpH_max rfl _ _ _ _ rfl _ _ rfl rfl ?_ | refine wpH_min rfl _ _ _ _ rfl _ _ rfl rfl ?_) | ((with_reducible refine wpA_load rfl _ _ rfl _ rfl ?_); first | refine loadA hL ?_ | refine loadR hL ?_ | refine loadC hL ?_ | refine loadD ?_ | refine loadE hL ?_ | refine loadF ?_) | ((with_reducible refine wpA_index rfl _ _ _ rfl _ rfl _ rfl ?_); first | (refine indexA ?_; try rw [Int.toNat_natCast]) | refine indexC ?_) | ((with_reducible refine wpA_store rfl _ _ _ rfl _ rfl (.agg _) rfl ?_); refine storeR hL ?_; clear hL; intro _ hL) | ((with_reducible first | refine wpA_store rfl _ _ _ rfl _ rfl (.int _ _) rfl ?_ | refine wpA_store rfl _ _ _ rfl _ rfl (.slice _ _ _) rfl ?_ | refine wpA_store rfl _ _ _ rfl _ rfl (.bool _) rfl ?_ | refine wpA_store rfl _ _ _ rfl _ rfl (.pointer _) rfl ?_ | refine wpA_store rfl _ _ _ rfl _ rfl (.func _ _ _) rfl ?_); (first | refine storeA hL ?_ | refine storeO hL ?_); (clear hL; intro _ hL)) | ((with_reducible refine wpA_lit rfl _ _ _ rfl ?_); first | refine litA1 hL ?_ | refine litA2 hL ?_ | refine litA3 hL ?_ | refine litA4 hL ?_ | refine litA6 hL ?_) | ((with_reducible refine wpA_append rfl _ _ _ rfl (.slice _ _ _) rfl ?_); intro vq hvq; simp [go_sem] at hvq; subst hvq; refine appendA hL ?_; clear hL; intro _ _ _ hL; try dsimp only at hL) | ((with_reducible refine wpA_make rfl _ _ _ rfl _ rfl rfl ?_); refine makeA hL ?_))
  generalize b1 = bp at *
  go_loopw [19] (fun s19 wr => ∃ (k : Nat), k ≤ l.length ∧ s19 = .int .i64 k ∧ Holds w wr [blk bp #[.int .i64 x, .int .i64 y, .int .i64 (windS (l.take k) x y)] 134] [])
    (fun s19 wr => l.length - (intOf s19).toNat)
  case atStart => exact ⟨0, by omega, rfl, hL⟩
  case round =>
    clear hL
    obtain ⟨k, hk, rfl, hL⟩ := hrel
    by_cases hkt : k < l.length
    · obtain ⟨b, o, rfl, hc⟩ := Hel.out k hkt
      have hbt : (l.getD k default).bent = false := Hst.out _ (by simp [hkt])
      have hstep := windS_step hkt x y
      have hbd := windS_bd x y (l.take k)
      rw [List.length_take] at hbd
      have hlk : ((min k l.length : Nat) : Int) ≤ l.length := by omega
      have hpa := fun w0 hp hn1 hn2 => pointAdd_calls w0 bp x y (windS (l.take k) x y) 134 hp _ hbt hn1 hn2
      have Hstep := Lib.hid hstep; clear hstep
      generalize windS (l.take k) x y = S0 at *
      generalize l.getD k default = e at *
      obtain ⟨ex0, ey0, bt, ecx, ecy, ex1, ey1⟩ := e
      dsimp only at hbt
      subst hbt
      unfold edgeV at hpa
      unfold edgeC at hc
      dsimp only at hpa hc
      generalize turnE ⟨ex0, ey0, false, ecx, ecy, ex1, ey1⟩ x y = T at *
      have Hpa := Lib.hid hpa
      clear hpa
      have hkb : (k : Int) < (l.length : Int) := by omega
      obtain ⟨g1, g2⟩ := hbd
      have n1 : True := trivial; have n2 : True := trivial
      go_wp2_with (first | (go_at_call 117; (with_reducible refine (Hpa.out _ (hL.row atO) (by omega) (by omega)).mono ?_); rintro e _ ⟨rfl, w9, hb, rfl⟩; replace hL := (hL.call hb).setCell (b := bp) (o := 2) (v := .int .i64 (S0 + T)) updO; clear hb; simp only [List.setIfInBounds_toArray, List.set_cons_zero, List.set_cons_succ] at hL) | (first | (clear hL n1; with_reducible intro b1 w1 hL) | (clear hL n2; with_reducible intro b2 w2 hL) | (clear hL; with_reducible intro _ _ hL)) | (with_reducible refine wpC_alloc rfl _ rfl _ _ inferInstance hL ?_) | (with_reducible first | refine wpB_agg rfl _ _ _ rfl rfl hL ?_ | refine wpB_one rfl _ _ (.int _ _) rfl rfl rfl hL ?_ | refine wpB_one rfl _ _ (.slice _ _ _) rfl rfl rfl hL ?_ | refine wpB_one rfl _ _ (.bool _) rfl rfl rfl hL ?_ | refine wpB_one rfl _ _ (.pointer _) rfl rfl rfl hL ?_ | refine wpB_one rfl _ _ (.func _ _ _) rfl rfl rfl hL ?_) | (with_reducible first | refine wpH_max rfl _ _ _ _ rfl _ _ rfl rfl ?_ | refine wpH_min rfl _ _ _ _ rfl _ _ rfl rfl ?_) | ((with_reducible refine wpA_load rfl _ _ rfl _ rfl ?_); first | refine loadA hL ?_ | refine loadR hL ?_ | refine loadC hL ?_ | refine loadD ?_ | refine loadE hL ?_ | refine loadF ?_) | ((with_reducible refine wpA_index rfl _ _ _ rfl _ rfl _ rfl ?_); first | (refine indexA ?_; try rw [Int.toNat_natCast]) | refine indexC ?_) | ((with_reducible refine wpA_store rfl _ _ _ rfl _ rfl (.agg _) rfl ?_); refine storeR hL ?_; clear hL; intro _ hL) | ((with_reducible first | refine wpA_store rfl _ _ _ rfl _ rfl (.int _ _) rfl ?_ | refine wpA_store rfl _ _ _ rfl _ rfl (.slice _ _ _) rfl ?_ | refine wpA_store rfl _ _ _ rfl _ rfl (.bool _) rfl ?_ | refine wpA_store rfl _ _ _ rfl _ rfl (.pointer _) rfl ?_ | refine wpA_store rfl _ _ _ rfl _ rfl (.func _ _ _) rfl ?_); (first | refine storeA hL ?_ | refine storeO hL ?_); (clear hL; intro _ hL)) | ((with_reducible refine wpA_lit rfl _ _ _ rfl ?_); first | refine litA1 hL ?_ | refine litA2 hL ?_ | refine litA3 hL ?_ | refine litA4 hL ?_ | refine litA6 hL ?_) | ((with_reducible refine wpA_append rfl _ _ _ rfl (.slice _ _ _) rfl ?_); intro vq hvq; simp [go_sem] at hvq; subst hvq; refine appendA hL ?_; clear hL; intro _ _ _ hL; try dsimp only at hL) | ((with_reducible refine wpA_make rfl _ _ _ rfl _ rfl rfl ?_); refine makeA hL ?_))
      go_roundw
      case rel => exact ⟨k + 1, by omega, by go_num, by rw [show windS (l.take (k + 1)) x y = S0 + T from Hstep.out]; exact hL.drop .here⟩
      case measure => simp [intOf]; omega
    · have e : k = l.length := by omega
      subst e
      rw [List.take_length] at hL
      go_wp2_with (first | (first | (clear hL n1; with_reducible intro b1 w1 hL) | (clear hL n2; with_reducible intro b2 w2 hL) | (clear hL; with_reducible intro _ _ hL)) | (with_reducible refine wpC_alloc rfl _ rfl _ _ inferInstance hL ?_) | (with_reducible first | refine wpB_agg rfl _ _ _ rfl rfl hL ?_ | refine wpB_one rfl _ _ (.int _ _) rfl rfl rfl hL ?_ | refine wpB_one rfl _ _ (.slice _ _ _) rfl rfl rfl hL ?_ | refine wpB_one rfl _ _ (.bool _) rfl rfl rfl hL ?_ | refine wpB_one rfl _ _ (.pointer _) rfl rfl rfl hL ?_ | refine wpB_one rfl _ _ (.func _ _ _) rfl rfl rfl hL ?_) | (with_reducible first | refine wpH_max rfl _ _ _ _ rfl _ _ rfl rfl ?_ | refine wpH_min rfl _ _ _ _ rfl _ _ rfl rfl ?_) | ((with_reducible refine wpA_load rfl _ _ rfl _ rfl ?_); first | refine loadA hL ?_ | refine loadR hL ?_ | refine loadC hL ?_ | refine loadD ?_ | refine loadE hL ?_ | refine loadF ?_) | ((with_reducible refine wpA_index rfl _ _ _ rfl _ rfl _ rfl ?_); first | (refine indexA ?_; try rw [Int.toNat_natCast]) | refine indexC ?_) | ((with_reducible refine wpA_store rfl _ _ _ rfl _ rfl (.agg _) rfl ?_); refine storeR hL ?_; clear hL; intro _ hL) | ((with_reducible first | refine wpA_store rfl _ _ _ rfl _ rfl (.int _ _) rfl ?_ | refine wpA_store rfl _ _ _ rfl _ rfl (.slice _ _ _) rfl ?_ | refine wpA_store rfl _ _ _ rfl _ rfl (.bool _) rfl ?_ | refine wpA_store rfl _ _ _ rfl _ rfl (.pointer _) rfl ?_ | refine wpA_store rfl _ _ _ rfl _ rfl (.func _ _ _) rfl ?_); (first | refine storeA hL ?_ | refine storeO hL ?_); (clear hL; intro _ hL)) | ((with_reducible refine wpA_lit rfl _ _ _ rfl ?_); first | refine litA1 hL ?_ | refine litA2 hL ?_ | refine litA3 hL ?_ | refine litA4 hL ?_ | refine litA6 hL ?_) | ((with_reducible refine wpA_append rfl _ _ _ rfl (.slice _ _ _) rfl ?_); intro vq hvq; simp [go_sem] at hvq; subst hvq; refine appendA hL ?_; clear hL; intro _ _ _ hL; try dsimp only at hL) | ((with_reducible refine wpA_make rfl _ _ _ rfl _ rfl rfl ?_); refine makeA hL ?_))
      go_ret
      exact ⟨rfl, hL.below⟩
theorem flatten_get {k : Nat} : ∀ {els : List (List Value)} (_ : ∀ e ∈ els, e.length = k) (i : Nat) (h : i < els.length) (j : Nat) (v : Value), els[i][j]? = some v → els.flatten[i * k + j]? = some v
  | e :: els, hk, 0, _, j, v, hj => by
    simp at hj
    rw [List.flatten_cons, Nat.zero_mul, Nat.zero_add, List.getElem?_append_left (by have := (List.getElem?_eq_some_iff.1 hj).1; exact this)]
    exact hj
  | e :: els, hk, i + 1, h, j, v, hj => by
    have he := hk e (by simp)
    have := flatten_get (els := els) (fun x hx => hk x (by simp [hx])) i (by simpa using h) j v (by simpa using hj)
    rw [List.flatten_cons, List.getElem?_append_right (by rw [he, Nat.add_mul]; omega), he, show (i + 1) * k + j - k = i * k + j by rw [Nat.add_mul]; omega]
    exact this
theorem edgeC_len (l : List Edg) : ∀ c ∈ l.map edgeC, c.length = 7 := by
  intro c hc
  obtain ⟨e, _, rfl⟩ := List.mem_map.1 hc
  rfl
/-- a literal list of edges -/
theorem Holds.edgesLit {w0 w : World} {M : List Res} {Φ : List (World → Prop)} {b : Nat} {cs : Array Value} {T : TypeId} (l : List Edg) (hL : Holds w0 w M Φ) (k : At M (blk b cs T)) (hcs : cs.toList = (l.map edgeC).flatten) (hm : l.length ≤ maxLen := by (unfold maxLen; simp only [List.length_cons, List.length_nil]; omega)) : EdgesAt w (.slice (some ⟨b, 0, none⟩) l.length l.length) l := by
  refine ⟨some ⟨b, 0, none⟩, l.length, by simp, by simp, hm, fun i hi => ⟨b, 0, rfl, fun j v hj => ?_⟩⟩
  rw [hL.cell k, Nat.zero_add, ← Array.getElem?_toList, hcs]
  exact flatten_get (edgeC_len l) i hi j v hj
theorem none_bent : ∀ e ∈ ([] : List Edg), e.bent = false := by simp
theorem noEdges_at (w : World) : EdgesAt w (.slice none 0 0) [] := ⟨none, 0, rfl, Nat.le_refl _, by unfold maxLen; omega, fun i hi => by simp at hi⟩

def isIn (rule n : Int) : Bool := if rule = 0 then decide (n ≠ 0) else if rule = 1 then decide (n % 2 ≠ 0) else false
set_option maxRecDepth 100000 in
theorem windInA_calls (w : World) (v : Value) (l : List Edg) (hv : EdgesAt w v l) (hst : ∀ e ∈ l, e.bent = false) (x y : Int) (hN : windS l x y = (-1)) : Calls Try.prog 99 #[v, .int .i64 0, .int .i64 x, .int .i64 y] w fun r w' => r = .returned (.bool true) ∧ Below w.heap.size w w' := by
  have HW := Lib.hid (windAt_calls w v l hv hst x y)
  have HN := Lib.hid hN
  clear hN hv hst
  have hL := Holds.start w
  go_enter Try.func99, Try.ntmps99
  go_wp2_with (first | (go_at_call 111; (with_reducible refine HW.out.mono ?_); rintro e _ ⟨rfl, hb⟩; rw [HN.out]; replace hL := hL.call hb; clear hb) | ((clear hL; with_reducible intro _ _ hL)) | (with_reducible refine wpC_alloc rfl _ rfl _ _ inferInstance hL ?_) | (with_reducible first | refine wpB_agg rfl _ _ _ rfl rfl hL ?_ | refine wpB_one rfl _ _ (.int _ _) rfl rfl rfl hL ?_ | refine wpB_one rfl _ _ (.slice _ _ _) rfl rfl rfl hL ?_ | refine wpB_one rfl _ _ (.bool _) rfl rfl rfl hL ?_ | refine wpB_one rfl _ _ (.pointer _) rfl rfl rfl hL ?_ | refine wpB_one rfl _ _ (.func _ _ _) rfl rfl rfl hL ?_) | (with_reducible first | refine wpH_max rfl _ _ _ _ rfl _ _ rfl rfl ?_ | refine wpH_min rfl _ _ _ _ rfl _ _ rfl rfl ?_) | ((with_reducible refine wpA_load rfl _ _ rfl _ rfl ?_); first | refine loadA hL ?_ | refine loadR hL ?_ | refine loadC hL ?_ | refine loadD ?_ | refine loadE hL ?_ | refine loadF ?_) | ((with_reducible refine wpA_index rfl _ _ _ rfl _ rfl _ rfl ?_); first | (refine indexA ?_; try rw [Int.toNat_natCast]) | refine indexC ?_) | ((with_reducible refine wpA_store rfl _ _ _ rfl _ rfl (.agg _) rfl ?_); refine storeR hL ?_; clear hL; intro _ hL) | ((with_reducible first | refine wpA_store rfl _ _ _ rfl _ rfl (.int _ _) rfl ?_ | refine wpA_store rfl _ _ _ rfl _ rfl (.slice _ _ _) rfl ?_ | refine wpA_store rfl _ _ _ rfl _ rfl (.bool _) rfl ?_ | refine wpA_store rfl _ _ _ rfl _ rfl (.pointer _) rfl ?_ | refine wpA_store rfl _ _ _ rfl _ rfl (.func _ _ _) rfl ?_); (first | refine storeA hL ?_ | refine storeO hL ?_); (clear hL; intro _ hL)) | ((with_reducible refine wpA_lit rfl _ _ _ rfl ?_); first | refine litA1 hL ?_ | refine litA2 hL ?_ | refine litA3 hL ?_ | refine litA4 hL ?_ | refine litA6 hL ?_) | ((with_reducible refine wpA_append rfl _ _ _ rfl (.slice _ _ _) rfl ?_); intro vq hvq; simp [go_sem] at hvq; subst hvq; refine appendA hL ?_; clear hL; intro _ _ _ hL; try dsimp only at hL) | ((with_reducible refine wpA_make rfl _ _ _ rfl _ rfl rfl ?_); refine makeA hL ?_))
  go_ret
  exact ⟨rfl, hL.below⟩
set_option maxRecDepth 100000 in
theorem windInB_calls (w : World) (v : Value) (l : List Edg) (hv : EdgesAt w v l) (hst : ∀ e ∈ l, e.bent = false) (x y : Int) (hN : windS l x y = (-1)) : Calls Try.prog 99 #[v, .int .i64 1, .int .i64 x, .int .i64 y] w fun r w' => r = .returned (.bool true) ∧ Below w.heap.size w w' := by
  have HW := Lib.hid (windAt_calls w v l hv hst x y)
  have HN := Lib.hid hN
  clear hN hv hst
  have hL := Holds.start w
  go_enter Try.func99, Try.ntmps99
  go_wp2_with (first | (go_at_call 111; (with_reducible refine HW.out.mono ?_); rintro e _ ⟨rfl, hb⟩; rw [HN.out]; replace hL := hL.call hb; clear hb) | ((clear hL; with_reducible intro _ _ hL)) | (with_reducible refine wpC_alloc rfl _ rfl _ _ inferInstance hL ?_) | (with_reducible first | refine wpB_agg rfl _ _ _ rfl rfl hL ?_ | refine wpB_one rfl _ _ (.int _ _) rfl rfl rfl hL ?_ | refine wpB_one rfl _ _ (.slice _ _ _) rfl rfl rfl hL ?_ | refine wpB_one rfl _ _ (.bool _) rfl rfl rfl hL ?_ | refine wpB_one rfl _ _ (.pointer _) rfl rfl rfl hL ?_ | refine wpB_one rfl _ _ (.func _ _ _) rfl rfl rfl hL ?_) | (with_reducible first | refine wpH_max rfl _ _ _ _ rfl _ _ rfl rfl ?_ | refine wpH_min rfl _ _ _ _ rfl _ _ rfl rfl ?_) | ((with_reducible refine wpA_load rfl _ _ rfl _ rfl ?_); first | refine loadA hL ?_ | refine loadR hL ?_ | refine loadC hL ?_ | refine loadD ?_ | refine loadE hL ?_ | refine loadF ?_) | ((with_reducible refine wpA_index rfl _ _ _ rfl _ rfl _ rfl ?_); first | (refine indexA ?_; try rw [Int.toNat_natCast]) | refine indexC ?_) | ((with_reducible refine wpA_store rfl _ _ _ rfl _ rfl (.agg _) rfl ?_); refine storeR hL ?_; clear hL; intro _ hL) | ((with_reducible first | refine wpA_store rfl _ _ _ rfl _ rfl (.int _ _) rfl ?_ | refine wpA_store rfl _ _ _ rfl _ rfl (.slice _ _ _) rfl ?_ | refine wpA_store rfl _ _ _ rfl _ rfl (.bool _) rfl ?_ | refine wpA_store rfl _ _ _ rfl _ rfl (.pointer _) rfl ?_ | refine wpA_store rfl _ _ _ rfl _ rfl (.func _ _ _) rfl ?_); (first | refine storeA hL ?_ | refine storeO hL ?_); (clear hL; intro _ hL)) | ((with_reducible refine wpA_lit rfl _ _ _ rfl ?_); first | refine litA1 hL ?_ | refine litA2 hL ?_ | refine litA3 hL ?_ | refine litA4 hL ?_ | refine litA6 hL ?_) | ((with_reducible refine wpA_append rfl _ _ _ rfl (.slice _ _ _) rfl ?_); intro vq hvq; simp [go_sem] at hvq; subst hvq; refine appendA hL ?_; clear hL; intro _ _ _ hL; try dsimp only at hL) | ((with_reducible refine wpA_make rfl _ _ _ rfl _ rfl rfl ?_); refine makeA hL ?_))
  go_ret
  exact ⟨rfl, hL.below⟩
set_option maxRecDepth 100000 in
theorem windInC_calls (w : World) (v : Value) (l : List Edg) (hv : EdgesAt w v l) (hst : ∀ e ∈ l, e.bent = false) (x y : Int) (hN : windS l x y = 0) : Calls Try.prog 99 #[v, .int .i64 0, .int .i64 x, .int .i64 y] w fun r w' => r = .returned (.bool false) ∧ Below w.heap.size w w' := by
  have HW := Lib.hid (windAt_calls w v l hv hst x y)
  have HN := Lib.hid hN
  clear hN hv hst
  have hL := Holds.start w
  go_enter Try.func99, Try.ntmps99
  go_wp2_with (first | (go_at_call 111; (with_reducible refine HW.out.mono ?_); rintro e _ ⟨rfl, hb⟩; rw [HN.out]; replace hL := hL.call hb; clear hb) | ((clear hL; with_reducible intro _ _ hL)) | (with_reducible refine wpC_alloc rfl _ rfl _ _ inferInstance hL ?_) | (with_reducible first | refine wpB_agg rfl _ _ _ rfl rfl hL ?_ | refine wpB_one rfl _ _ (.int _ _) rfl rfl rfl hL ?_ | refine wpB_one rfl _ _ (.slice _ _ _) rfl rfl rfl hL ?_ | refine wpB_one rfl _ _ (.bool _) rfl rfl rfl hL ?_ | refine wpB_one rfl _ _ (.pointer _) rfl rfl rfl hL ?_ | refine wpB_one rfl _ _ (.func _ _ _) rfl rfl rfl hL ?_) | (with_reducible first | refine wpH_max rfl _ _ _ _ rfl _ _ rfl rfl ?_ | refine wpH_min rfl _ _ _ _ rfl _ _ rfl rfl ?_) | ((with_reducible refine wpA_load rfl _ _ rfl _ rfl ?_); first | refine loadA hL ?_ | refine loadR hL ?_ | refine loadC hL ?_ | refine loadD ?_ | refine loadE hL ?_ | refine loadF ?_) | ((with_reducible refine wpA_index rfl _ _ _ rfl _ rfl _ rfl ?_); first | (refine indexA ?_; try rw [Int.toNat_natCast]) | refine indexC ?_) | ((with_reducible refine wpA_store rfl _ _ _ rfl _ rfl (.agg _) rfl ?_); refine storeR hL ?_; clear hL; intro _ hL) | ((with_reducible first | refine wpA_store rfl _ _ _ rfl _ rfl (.int _ _) rfl ?_ | refine wpA_store rfl _ _ _ rfl _ rfl (.slice _ _ _) rfl ?_ | refine wpA_store rfl _ _ _ rfl _ rfl (.bool _) rfl ?_ | refine wpA_store rfl _ _ _ rfl _ rfl (.pointer _) rfl ?_ | refine wpA_store rfl _ _ _ rfl _ rfl (.func _ _ _) rfl ?_); (first | refine storeA hL ?_ | refine storeO hL ?_); (clear hL; intro _ hL)) | ((with_reducible refine wpA_lit rfl _ _ _ rfl ?_); first | refine litA1 hL ?_ | refine litA2 hL ?_ | refine litA3 hL ?_ | refine litA4 hL ?_ | refine litA6 hL ?_) | ((with_reducible refine wpA_append rfl _ _ _ rfl (.slice _ _ _) rfl ?_); intro vq hvq; simp [go_sem] at hvq; subst hvq; refine appendA hL ?_; clear hL; intro _ _ _ hL; try dsimp only at hL) | ((with_reducible refine wpA_make rfl _ _ _ rfl _ rfl rfl ?_); refine makeA hL ?_))
  go_ret
  exact ⟨rfl, hL.below⟩

def knownL : List Edg := [⟨0, 0, false, 0, 0, 0, 16⟩, ⟨0, 16, false, 0, 0, 16, 16⟩, ⟨16, 16, false, 0, 0, 16, 0⟩, ⟨16, 0, false, 0, 0, 0, 0⟩]
theorem knownL_at {w0 w : World} {M : List Res} {Φ : List (World → Prop)} {b : Nat} {T : TypeId} (hL : Holds w0 w M Φ) (k : At M (blk b #[.int .i64 0, .int .i64 0, .bool false, .int .i64 0, .int .i64 0, .int .i64 0, .int .i64 16, .int .i64 0, .int .i64 16, .bool false, .int .i64 0, .int .i64 0, .int .i64 16, .int .i64 16, .int .i64 16, .int .i64 16, .bool false, .int .i64 0, .int .i64 0, .int .i64 16, .int .i64 0, .int .i64 16, .int .i64 0, .bool false, .int .i64 0, .int .i64 0, .int .i64 0, .int .i64 0] T)) : EdgesAt w (.slice (some ⟨b, 0, none⟩) 4 4) knownL := hL.edgesLit knownL k rfl (by decide)
open Go.RowKit

def ptI (v : Int) : Int := v % 400 - 60
theorem ptI_bd (v : Int) : -60 ≤ ptI v ∧ ptI v ≤ 339 := by
  have p1 := Int.emod_nonneg v (show (400 : Int) ≠ 0 by omega)
  have p2 := Int.emod_lt_of_pos v (show (0 : Int) < 400 by omega)
  unfold ptI; omega
theorem near_small {v : Int} (h : -60 ≤ v ∧ v ≤ 339) : near1 v = true := by simp [near1]; omega
theorem turnE_small {a b c d u v : Int} (h1 : -60 ≤ a ∧ a ≤ 339) (h2 : -60 ≤ b ∧ b ≤ 339) (h3 : -60 ≤ c ∧ c ≤ 339) (h4 : -60 ≤ d ∧ d ≤ 339) (h5 : -60 ≤ u ∧ u ≤ 339) (h6 : -60 ≤ v ∧ v ≤ 339) : turnE ⟨a, b, false, 0, 0, c, d⟩ u v = turnS ⟨a, b, false, 0, 0, c, d⟩ u v := by
  unfold turnE mayE
  rw [if_pos]
  simp only [near_small h1, near_small h2, near_small h3, near_small h4, near_small h5, near_small h6]
  rfl
open Go.RowKit

theorem own_sliceAt {w : World} {B : Nat} {e : TypeId} {k : Nat} {v : Value} {n : Nat} {xs : List Value} (h : (own B e k v n xs).ok w) {els : List (List Value)} (hn : n = els.length) (hx : xs = els.flatten) (hk : ∀ e ∈ els, e.length = k) :
    SliceAt w k v els := by
  subst hn; subst hx
  obtain ⟨h1, h2 | ⟨g, cap, cur, rfl, hb, hg, hnc, hcm, hcs, ht⟩⟩ := h
  · obtain ⟨rfl, h0⟩ := h2
    refine ⟨none, 0, by rw [h0], by omega, by omega, fun i hi => by omega⟩
  · refine ⟨_, cap, rfl, hnc, hcm, fun i hi => ⟨g, 0, rfl, fun j u hju => ?_⟩⟩
    rw [cell_of_row w g _ cur e (0, 0) hg]
    have := flatten_get hk i hi j u hju
    rw [← ht, List.getElem?_take] at this
    split at this
    · rw [Nat.zero_add]; simpa using this
    · cases this

/-- a list of numbers, less its first -/
def tailV : Value → Value
  | .slice (some ⟨b, o, none⟩) (n + 1) (c + 2) => .slice (some ⟨b, o + 1, none⟩) n (c + 1)
  | .slice (some ⟨b, o, none⟩) (n + 1) 1 => .slice (some ⟨b, o, none⟩) n 0
  | v => v
theorem NumsAt.tail {w : World} {v : Value} {l : List Int} (h : NumsAt w v l) : NumsAt w (tailV v) l.tail := by
  cases l with
  | nil =>
    obtain ⟨a, cap, rfl, _⟩ := h.parts
    have : tailV (.slice a 0 cap) = .slice a 0 cap := by unfold tailV; split <;> simp_all
    simpa [this] using h
  | cons z l =>
    obtain ⟨a, cap, rfl, hlc, hcm, hel⟩ := h.parts
    simp only [List.length_cons] at hlc hel ⊢
    obtain ⟨b, o, rfl, _⟩ := hel 0 (by omega)
    rcases (by omega : cap = 1 ∨ 2 ≤ cap) with rfl | hc2
    · exact ⟨some ⟨b, o, none⟩, 0, by rw [List.length_map, List.tail_cons, show l.length = 0 by omega]; rfl, by simp only [List.tail_cons, List.length_map]; omega, by unfold maxLen; omega, fun i hi => by simp only [List.tail_cons, List.length_map] at hi; omega⟩
    obtain ⟨c, rfl⟩ : ∃ c, cap = c + 2 := ⟨cap - 2, by omega⟩
    refine ⟨some ⟨b, o + 1, none⟩, c + 1, by simp [tailV], by simp; omega, by omega, fun i hi => ⟨b, o + 1, rfl, fun j u hj => ?_⟩⟩
    simp only [List.tail_cons, List.length_map] at hi
    obtain ⟨b', o', e, hc⟩ := hel (i + 1) (by omega)
    cases e
    rcases j with _ | j
    · simp only [List.tail_cons, List.getElem_map, List.getElem?_cons_zero, Option.some.injEq] at hj
      rw [← hj, Nat.mul_one, Nat.add_zero, show o + 1 + i = o + (i + 1) by omega, hc]
      simp [hi]
    · simp at hj
theorem setCell_same {w : World} {b : Nat} {v : Value} {T : TypeId} (h : w.heap[b]? = some (.cells #[v] T (0, 0))) : w.setCell ⟨b, 0, none⟩ v = w := by
  have hh : w.heap.modify b (fun o => match o with
      | .cells c elem frozen => .cells (if (⟨b, 0, none⟩ : Addr).spot.isSome then c else c.setIfInBounds (⟨b, 0, none⟩ : Addr).off v) elem frozen
      | o => o) = w.heap := by
    apply Array.ext_getElem?
    intro i
    rw [Array.getElem?_modify]
    split
    · rename_i e; subst e; rw [h]; rfl
    · rfl
  exact congrArg (fun x => ({ w with heap := x } : World)) hh

set_option maxRecDepth 100000 in
set_option maxHeartbeats 1000000 in
theorem next_calls (w : World) (b : Nat) (T : TypeId) (s : Value) (hp : w.heap[b]? = some (.cells #[s] T (0, 0))) (l : List Int) (hs : NumsAt w s l) (n : Int) (hn : 0 < n) (hn2 : n < 1073741824) :
    Calls Try.prog 109 #[.pointer (some ⟨b, 0, none⟩), .int .i64 n] w fun r w' => r = .returned (.int .i64 (l.headD 0 % n)) ∧ w' = w.setCell ⟨b, 0, none⟩ (tailV s) := by
  have q0 : w.cell? ⟨b, 0, none⟩ = some s := (cell_of_row w b 0 _ T (0, 0) hp).trans rfl
  have hL := Holds.start w
  obtain ⟨a, cap, rfl, hlc, hcm, hel⟩ := hs.parts
  clear hs
  have Hp := Lib.hid hp; clear hp
  cases l with
  | nil =>
    go_enter Try.func109, Try.ntmps109
    go_wp2_with (first | ((clear hL; with_reducible intro _ _ hL)) | (with_reducible refine wpC_alloc rfl _ rfl _ _ inferInstance hL ?_) | (with_reducible first | refine wpB_agg rfl _ _ _ rfl rfl hL ?_ | refine wpB_one rfl _ _ (.int _ _) rfl rfl rfl hL ?_ | refine wpB_one rfl _ _ (.slice _ _ _) rfl rfl rfl hL ?_ | refine wpB_one rfl _ _ (.bool _) rfl rfl rfl hL ?_ | refine wpB_one rfl _ _ (.pointer _) rfl rfl rfl hL ?_ | refine wpB_one rfl _ _ (.func _ _ _) rfl rfl rfl hL ?_) | (with_reducible first | refine wpH_max rfl _ _ _ _ rfl _ _ rfl rfl ?_ | refine wpH_min rfl _ _ _ _ rfl _ _ rfl rfl ?_) | ((with_reducible refine wpA_load rfl _ _ rfl _ rfl ?_); first | refine loadA hL ?_ | refine loadR hL ?_ | refine loadC hL ?_ | refine loadD ?_ | refine loadE hL ?_ | refine loadF ?_) | ((with_reducible refine wpA_index rfl _ _ _ rfl _ rfl _ rfl ?_); first | (refine indexA ?_; try rw [Int.toNat_natCast]) | refine indexC ?_) | ((with_reducible refine wpA_store rfl _ _ _ rfl _ rfl (.agg _) rfl ?_); refine storeR hL ?_; clear hL; intro _ hL) | ((with_reducible first | refine wpA_store rfl _ _ _ rfl _ rfl (.int _ _) rfl ?_ | refine wpA_store rfl _ _ _ rfl _ rfl (.slice _ _ _) rfl ?_ | refine wpA_store rfl _ _ _ rfl _ rfl (.bool _) rfl ?_ | refine wpA_store rfl _ _ _ rfl _ rfl (.pointer _) rfl ?_ | refine wpA_store rfl _ _ _ rfl _ rfl (.func _ _ _) rfl ?_); (first | refine storeA hL ?_ | refine storeO hL ?_); (clear hL; intro _ hL)) | ((with_reducible refine wpA_lit rfl _ _ _ rfl ?_); first | refine litA1 hL ?_ | refine litA2 hL ?_ | refine litA3 hL ?_ | refine litA4 hL ?_ | refine litA6 hL ?_) | ((with_reducible refine wpA_append rfl _ _ _ rfl (.slice _ _ _) rfl ?_); intro vq hvq; simp [go_sem] at hvq; subst hvq; refine appendA hL ?_; clear hL; intro _ _ _ hL; try dsimp only at hL) | ((with_reducible refine wpA_make rfl _ _ _ rfl _ rfl rfl ?_); refine makeA hL ?_))
    go_ret
    exact ⟨ret_int (by simp), (setCell_same (by simpa [tailV] using Hp.out)).symm⟩
  | cons z l =>
    simp only [List.length_cons] at *
    obtain ⟨b2, o, rfl, hc⟩ := hel 0 (by omega)
    simp only [Nat.add_zero, List.getD_cons_zero] at hc
    clear hel
    rcases (by omega : cap = 1 ∨ 2 ≤ cap) with rfl | hc2
    · have hl0 : l.length = 0 := by omega
      have HT := Lib.hid (show tailV (.slice (some ⟨b2, o, none⟩) (l.length + 1) 1) = .slice (some ⟨b2, o, none⟩) 0 0 by simp [tailV, hl0])
      clear hl0
      go_enter Try.func109, Try.ntmps109
      go_wp2_with (first | (go_at_call 34; (with_reducible refine (place_calls _ _ (by omega) (by omega) _).mono ?_); rintro e _ ⟨rfl, rfl⟩) | ((with_reducible refine wpA_store rfl _ _ _ rfl _ rfl (.slice _ _ _) rfl ?_); refine storeAt_old rfl rfl Hp.out (by simp) ?_) | ((clear hL; with_reducible intro _ _ hL)) | (with_reducible refine wpC_alloc rfl _ rfl _ _ inferInstance hL ?_) | (with_reducible first | refine wpB_agg rfl _ _ _ rfl rfl hL ?_ | refine wpB_one rfl _ _ (.int _ _) rfl rfl rfl hL ?_ | refine wpB_one rfl _ _ (.slice _ _ _) rfl rfl rfl hL ?_ | refine wpB_one rfl _ _ (.bool _) rfl rfl rfl hL ?_ | refine wpB_one rfl _ _ (.pointer _) rfl rfl rfl hL ?_ | refine wpB_one rfl _ _ (.func _ _ _) rfl rfl rfl hL ?_) | (with_reducible first | refine wpH_max rfl _ _ _ _ rfl _ _ rfl rfl ?_ | refine wpH_min rfl _ _ _ _ rfl _ _ rfl rfl ?_) | ((with_reducible refine wpA_load rfl _ _ rfl _ rfl ?_); first | refine loadA hL ?_ | refine loadR hL ?_ | refine loadC hL ?_ | refine loadD ?_ | refine loadE hL ?_ | refine loadF ?_) | ((with_reducible refine wpA_index rfl _ _ _ rfl _ rfl _ rfl ?_); first | (refine indexA ?_; try rw [Int.toNat_natCast]) | refine indexC ?_) | ((with_reducible refine wpA_store rfl _ _ _ rfl _ rfl (.agg _) rfl ?_); refine storeR hL ?_; clear hL; intro _ hL) | ((with_reducible first | refine wpA_store rfl _ _ _ rfl _ rfl (.int _ _) rfl ?_ | refine wpA_store rfl _ _ _ rfl _ rfl (.slice _ _ _) rfl ?_ | refine wpA_store rfl _ _ _ rfl _ rfl (.bool _) rfl ?_ | refine wpA_store rfl _ _ _ rfl _ rfl (.pointer _) rfl ?_ | refine wpA_store rfl _ _ _ rfl _ rfl (.func _ _ _) rfl ?_); (first | refine storeA hL ?_ | refine storeO hL ?_); (clear hL; intro _ hL)) | ((with_reducible refine wpA_lit rfl _ _ _ rfl ?_); first | refine litA1 hL ?_ | refine litA2 hL ?_ | refine litA3 hL ?_ | refine litA4 hL ?_ | refine litA6 hL ?_) | ((with_reducible refine wpA_append rfl _ _ _ rfl (.slice _ _ _) rfl ?_); intro vq hvq; simp [go_sem] at hvq; subst hvq; refine appendA hL ?_; clear hL; intro _ _ _ hL; try dsimp only at hL) | ((with_reducible refine wpA_make rfl _ _ _ rfl _ rfl rfl ?_); refine makeA hL ?_))
      go_ret
      exact ⟨ret_int (by simp), by rw [HT.out]⟩
    · obtain ⟨c, rfl⟩ : ∃ c, cap = c + 2 := ⟨cap - 2, by omega⟩
      go_enter Try.func109, Try.ntmps109
      go_wp2_with (first | (go_at_call 34; (with_reducible refine (place_calls _ _ (by omega) (by omega) _).mono ?_); rintro e _ ⟨rfl, rfl⟩) | ((with_reducible refine wpA_store rfl _ _ _ rfl _ rfl (.slice _ _ _) rfl ?_); refine storeAt_old rfl rfl Hp.out (by simp) ?_) | ((clear hL; with_reducible intro _ _ hL)) | (with_reducible refine wpC_alloc rfl _ rfl _ _ inferInstance hL ?_) | (with_reducible first | refine wpB_agg rfl _ _ _ rfl rfl hL ?_ | refine wpB_one rfl _ _ (.int _ _) rfl rfl rfl hL ?_ | refine wpB_one rfl _ _ (.slice _ _ _) rfl rfl rfl hL ?_ | refine wpB_one rfl _ _ (.bool _) rfl rfl rfl hL ?_ | refine wpB_one rfl _ _ (.pointer _) rfl rfl rfl hL ?_ | refine wpB_one rfl _ _ (.func _ _ _) rfl rfl rfl hL ?_) | (with_reducible first | refine wpH_max rfl _ _ _ _ rfl _ _ rfl rfl ?_ | refine wpH_min rfl _ _ _ _ rfl _ _ rfl rfl ?_) | ((with_reducible refine wpA_load rfl _ _ rfl _ rfl ?_); first | refine loadA hL ?_ | refine loadR hL ?_ | refine loadC hL ?_ | refine loadD ?_ | refine loadE hL ?_ | refine loadF ?_) | ((with_reducible refine wpA_index rfl _ _ _ rfl _ rfl _ rfl ?_); first | (refine indexA ?_; try rw [Int.toNat_natCast]) | refine indexC ?_) | ((with_reducible refine wpA_store rfl _ _ _ rfl _ rfl (.agg _) rfl ?_); refine storeR hL ?_; clear hL; intro _ hL) | ((with_reducible first | refine wpA_store rfl _ _ _ rfl _ rfl (.int _ _) rfl ?_ | refine wpA_store rfl _ _ _ rfl _ rfl (.slice _ _ _) rfl ?_ | refine wpA_store rfl _ _ _ rfl _ rfl (.bool _) rfl ?_ | refine wpA_store rfl _ _ _ rfl _ rfl (.pointer _) rfl ?_ | refine wpA_store rfl _ _ _ rfl _ rfl (.func _ _ _) rfl ?_); (first | refine storeA hL ?_ | refine storeO hL ?_); (clear hL; intro _ hL)) | ((with_reducible refine wpA_lit rfl _ _ _ rfl ?_); first | refine litA1 hL ?_ | refine litA2 hL ?_ | refine litA3 hL ?_ | refine litA4 hL ?_ | refine litA6 hL ?_) | ((with_reducible refine wpA_append rfl _ _ _ rfl (.slice _ _ _) rfl ?_); intro vq hvq; simp [go_sem] at hvq; subst hvq; refine appendA hL ?_; clear hL; intro _ _ _ hL; try dsimp only at hL) | ((with_reducible refine wpA_make rfl _ _ _ rfl _ rfl rfl ?_); refine makeA hL ?_))
      go_ret
      exact ⟨ret_int (by simp), rfl⟩
open Go.RowKit

def coI (l : List Int) : Int := l.headD 0 % 320 - 32
theorem coI_bd (l : List Int) : -32 ≤ coI l ∧ coI l ≤ 287 := by
  have p1 := Int.emod_nonneg (l.headD 0) (show (320 : Int) ≠ 0 by omega)
  have p2 := Int.emod_lt_of_pos (l.headD 0) (show (0 : Int) < 320 by omega)
  unfold coI; omega
set_option maxRecDepth 100000 in
theorem coord_calls (w : World) (b : Nat) (T : TypeId) (s : Value) (hp : w.heap[b]? = some (.cells #[s] T (0, 0))) (l : List Int) (hs : NumsAt w s l) :
    Calls Try.prog 110 #[.pointer (some ⟨b, 0, none⟩)] w fun r w' => r = .returned (.int .i64 (coI l)) ∧ w' = w.setCell ⟨b, 0, none⟩ (tailV s) := by
  have H := Lib.hid (next_calls w b T s hp l hs 320 (by omega) (by omega))
  have p1 := Int.emod_nonneg (l.headD 0) (show (320 : Int) ≠ 0 by omega)
  have p2 := Int.emod_lt_of_pos (l.headD 0) (show (0 : Int) < 320 by omega)
  unfold coI
  generalize l.headD 0 % 320 = z at *
  clear hp hs
  go_enter Try.func110, Try.ntmps110
  go_wp2_with (first | (go_at_call 109; (with_reducible refine H.out.mono ?_); rintro e _ ⟨rfl, rfl⟩) | ((clear hL; with_reducible intro _ _ hL)) | (with_reducible refine wpC_alloc rfl _ rfl _ _ inferInstance hL ?_) | (with_reducible first | refine wpB_agg rfl _ _ _ rfl rfl hL ?_ | refine wpB_one rfl _ _ (.int _ _) rfl rfl rfl hL ?_ | refine wpB_one rfl _ _ (.slice _ _ _) rfl rfl rfl hL ?_ | refine wpB_one rfl _ _ (.bool _) rfl rfl rfl hL ?_ | refine wpB_one rfl _ _ (.pointer _) rfl rfl rfl hL ?_ | refine wpB_one rfl _ _ (.func _ _ _) rfl rfl rfl hL ?_) | (with_reducible first | refine wpH_max rfl _ _ _ _ rfl _ _ rfl rfl ?_ | refine wpH_min rfl _ _ _ _ rfl _ _ rfl rfl ?_) | ((with_reducible refine wpA_load rfl _ _ rfl _ rfl ?_); first | refine loadA hL ?_ | refine loadR hL ?_ | refine loadC hL ?_ | refine loadD ?_ | refine loadE hL ?_ | refine loadF ?_) | ((with_reducible refine wpA_index rfl _ _ _ rfl _ rfl _ rfl ?_); first | (refine indexA ?_; try rw [Int.toNat_natCast]) | refine indexC ?_) | ((with_reducible refine wpA_store rfl _ _ _ rfl _ rfl (.agg _) rfl ?_); refine storeR hL ?_; clear hL; intro _ hL) | ((with_reducible first | refine wpA_store rfl _ _ _ rfl _ rfl (.int _ _) rfl ?_ | refine wpA_store rfl _ _ _ rfl _ rfl (.slice _ _ _) rfl ?_ | refine wpA_store rfl _ _ _ rfl _ rfl (.bool _) rfl ?_ | refine wpA_store rfl _ _ _ rfl _ rfl (.pointer _) rfl ?_ | refine wpA_store rfl _ _ _ rfl _ rfl (.func _ _ _) rfl ?_); (first | refine storeA hL ?_ | refine storeO hL ?_); (clear hL; intro _ hL)) | ((with_reducible refine wpA_lit rfl _ _ _ rfl ?_); first | refine litA1 hL ?_ | refine litA2 hL ?_ | refine litA3 hL ?_ | refine litA4 hL ?_ | refine litA6 hL ?_) | ((with_reducible refine wpA_append rfl _ _ _ rfl (.slice _ _ _) rfl ?_); intro vq hvq; simp [go_sem] at hvq; subst hvq; refine appendA hL ?_; clear hL; intro _ _ _ hL; try dsimp only at hL) | ((with_reducible refine wpA_make rfl _ _ _ rfl _ rfl rfl ?_); refine makeA hL ?_))
  go_ret
  exact ⟨rfl, rfl⟩

def boxL (x0 y0 x1 y1 : Int) : List Edg := [⟨x0, y0, false, 0, 0, x1, y0⟩, ⟨x1, y0, false, 0, 0, x1, y1⟩, ⟨x1, y1, false, 0, 0, x0, y1⟩, ⟨x0, y1, false, 0, 0, x0, y0⟩]
theorem boxK_eq (x0 y0 x1 y1 u v : Int) : boxK x0 y0 x1 y1 u v = if (min x0 x1 ≤ u ∧ u < max x0 x1) ∧ (min y0 y1 ≤ v ∧ v < max y0 y1) then (if (x0 < x1 ↔ y0 < y1) then 1 else -1) else 0 := by
  unfold boxK
  simp only [decide_eq_decide]
theorem windS_append (x y : Int) (l m : List Edg) : windS (l ++ m) x y = windS l x y + windS m x y := by
  simp [windS]
theorem box_windS {x0 y0 x1 y1 u v : Int} (h0 : -32 ≤ x0 ∧ x0 ≤ 287) (h1 : -32 ≤ y0 ∧ y0 ≤ 287) (h2 : -32 ≤ x1 ∧ x1 ≤ 287) (h3 : -32 ≤ y1 ∧ y1 ≤ 287) (h6 : -60 ≤ u ∧ u ≤ 339) (h7 : -60 ≤ v ∧ v ≤ 339) :
    windS (boxL x0 y0 x1 y1) u v = boxK x0 y0 x1 y1 u v := by
  rw [← box_wind]
  simp only [windS, boxL, List.map_cons, List.map_nil, List.sum_cons, List.sum_nil]
  rw [turnE_small (by omega) (by omega) (by omega) (by omega) h6 h7, turnE_small (by omega) (by omega) (by omega) (by omega) h6 h7, turnE_small (by omega) (by omega) (by omega) (by omega) h6 h7, turnE_small (by omega) (by omega) (by omega) (by omega) h6 h7]
  omega
theorem boxL_straight {l : List Edg} (h : ∀ e ∈ l, e.bent = false) (x0 y0 x1 y1 : Int) : ∀ e ∈ l ++ boxL x0 y0 x1 y1, e.bent = false := by
  intro e he
  rcases List.mem_append.1 he with he | he
  · exact h e he
  · simp [boxL] at he
    rcases he with rfl | rfl | rfl | rfl <;> rfl

open Go.RowKit

section
variable {P : Program} {w0 w : World} {M M' : List Res} {Φ : List (World → Prop)} {K2 : Value → World → Prop}
theorem cells_flat {w : World} {b o k : Nat} : ∀ {els : List (List Value)} (_ : ∀ x ∈ els, x.length = k) (p : Nat) (_ : ∀ i (h : i < els.length), w.rangeAt b (o + (p + i) * k) els[i]) (j : Nat) (u : Value), els.flatten[j]? = some u → w.cell? ⟨b, o + p * k + j, none⟩ = some u
  | [], _, _, _, j, u, hj => by simp at hj
  | e :: els, hk, p, h, j, u, hj => by
    rw [List.flatten_cons, List.getElem?_append] at hj
    have he := hk e List.mem_cons_self
    split at hj
    · have := h 0 (by simp) j u hj
      simpa using this
    · rename_i hge
      have h2 := cells_flat (o := o) (fun x hx => hk x (List.mem_cons_of_mem _ hx)) (p + 1) (fun i hi => by
        have := h (i + 1) (by simpa using hi)
        rw [show p + (i + 1) = p + 1 + i by omega] at this
        simpa using this) (j - e.length) u hj
      rw [← h2]
      congr 2
      rw [Nat.add_mul, Nat.one_mul]
      omega
theorem appendOld {t ty e size bytes : Nat} {z v u : Value} [ht : SliceT P t e] [hi : ElemT P e size bytes z] {els : List (List Value)} (hs : SliceAt w size u els) (hk : ∀ x ∈ els, x.length = size) (h1 : ∀ x ∈ els, ∀ y ∈ x, y.oneCell' = true)
    (hL : Holds w0 w M Φ) {n : Nat} {xs : List Value} {f : Res → List Res} (hu : ∀ r', Upd M (own w0.heap.size e size v n xs) r' (f r'))
    (hz : z.cells.size = size) (hp : 0 < size) (h63 : n + els.length ≤ maxLen) (hbytes : (n + els.length) * bytes ≤ 140737488355328)
    (h : ∀ v' w', Holds w0 w' (f (own w0.heap.size e size v' (n + els.length) (xs ++ els.flatten))) Φ → K2 v' w') : AppendAt P t ty v u w K2 := by
  obtain ⟨i, hi1, hi2, hi3, hi4⟩ := info_parts hi.info
  obtain ⟨a, cap, rfl, hlc, hcm, hel⟩ := hs
  have hown := hL.at (hu (own w0.heap.size e size v n xs)).at
  cases a with
  | none =>
    have h0 : els.length = 0 := by
      rcases Nat.eq_zero_or_pos els.length with h0 | h0
      · exact h0
      · obtain ⟨b, o, e, _⟩ := hel 0 h0; cases e
    have he : els = [] := List.length_eq_zero_iff.1 h0
    subst he
    refine ⟨v, w, ?_, h v w ?_⟩
    · have hownr : w.ownsRow w0.heap.size e size v n xs := hown
      rcases hownr.2 with ⟨rfl, rfl⟩ | ⟨g, cap', cur, rfl, _, _, hnc, _⟩
      · simp [Builtin.append_, run_underlying ht.out, sizeOf, typeInfo, hi1, Builtin.lenOf, Builtin.firstCells]
      · simp [Builtin.append_, run_underlying ht.out, sizeOf, typeInfo, hi1, Builtin.lenOf, Builtin.firstCells, hnc, storeCells]
    · refine hL.upd (hu _) ⟨rfl, rfl, rfl, Nat.le_refl _, fun _ _ _ => rfl⟩ ?_ (fun b hb => .inl hb)
      simpa using hown
  | some a =>
    have hlen : els.flatten.length = els.length * size := by
      clear hel h hbytes h63 h1 hlc
      induction els with
      | nil => simp
      | cons x els ih => rw [List.flatten_cons, List.length_append, ih fun y hy => hk y (List.mem_cons_of_mem _ hy), hk x List.mem_cons_self, List.length_cons, Nat.add_mul]; omega
    obtain ⟨v', w', hr, h2, h3, _, h5⟩ := run_append_own_at (P := P) w w0.heap.size t ty e i z size bytes ht.out hi1 hi2 hi3 hi4 hz hp v n xs hown a els.length cap els.flatten hlen (fun j y hj => by
      have hpos : 0 < els.length := by
        rcases Nat.eq_zero_or_pos els.length with h0 | h0
        · rw [List.length_eq_zero_iff.1 h0] at hj; simp at hj
        · exact h0
      obtain ⟨b, o, e, _⟩ := hel 0 hpos
      cases e
      have := cells_flat (w := w) (b := b) (o := o) hk 0 (fun i hi => by
        obtain ⟨b', o', e', hr⟩ := hel i hi
        cases e'
        simpa using hr) j y hj
      have hadd : (⟨b, o, none⟩ : Addr).add j = ⟨b, o + j, none⟩ := by unfold Addr.add; split <;> simp_all
      rw [hadd]
      simpa using this) (fun y hy => by
      obtain ⟨x, hx, hyx⟩ := List.mem_flatten.1 hy
      exact h1 x hx y hyx) h63 hbytes hL.size
    refine ⟨v', w', hr, h v' w' (hL.upd (hu _) h3 h2 (fun b' hb' => ?_))⟩
    have hb'' : v'.ownBlock = some b' := hb'
    rcases h5 with h5 | h5
    · exact .inl (h5.symm.trans hb'')
    · rw [h5] at hb''; cases hb''; exact .inr (Nat.le_refl _)
theorem loadG {T : TypeId} {b off n : Nat} [hT : RowT P T n] {cs : List Value} {KV : Value → Prop} (hL : Holds w0 w M ((fun w => w.rangeAt b off cs) :: Φ)) (hn : n = cs.length) (h : KV (.agg cs.toArray)) : LoadAt P T ⟨b, off, none⟩ w KV := loadAt_cells hT cs hL.fact0 hn h
theorem Holds.dup {φ : World → Prop} (h : Holds w0 w M (φ :: Φ)) : Holds w0 w M (φ :: φ :: Φ) := h.facts fun ψ hψ => h.firm ψ (by simp only [List.mem_cons] at hψ ⊢; rcases hψ with h | h | h <;> simp [h])
end
end Go.Proofs.Ytjgnbmgdnfldeaa
