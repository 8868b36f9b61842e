/- Package bow and wind: any edges. -/
import Derived.Test.YtneddfiohekhiaaTurnsG
import Derived.Test.YtneddfiohekhiaaWindC
-- lit6
namespace Go.Proofs.Ytneddfiohekhiaa
open Go.RowKit

/-- a crossing's turn, if it lies above -/
def hitT (s : Spt) (x : Int) : Int := if s.turn ≠ 0 ∧ 0 < sgR (s.p - x * s.m) s.q s.d then s.turn else 0
def turnG (e : Edg) (x y : Int) : Int := if mayE e && (near1 x && near1 y) then hitT (spt1 e y) x + hitT (spt2 e y) x else 0
theorem FitAt.fit {s : Spt} {x : Int} (h : FitAt s x) : Fit (s.p - x * s.m) s.q s.d := by
  obtain ⟨x0, x1, p0, p1, q0, q1, d0, d1, m0, m1⟩ := h
  obtain ⟨k1, k2⟩ := mul_bd (a := x) (b := s.m) (A := 8191) (B := 2147483648) (by omega) (by omega) (by omega) (by omega)
  exact ⟨by omega, by omega, q0, q1, d0, d1⟩
theorem hitT_bd (s : Spt) (x : Int) (h : -1 ≤ s.turn ∧ s.turn ≤ 1) : -1 ≤ hitT s x ∧ hitT s x ≤ 1 := by unfold hitT; split <;> omega

set_option maxRecDepth 100000 in
set_option maxHeartbeats 4000000 in
theorem turnsG_calls (e : Edg) (x y : Int) (w : World) : Calls Try.prog 71 #[edgeV e, .int .i64 x, .int .i64 y] w fun r w' => r = .returned (.int .i64 (turnG e x y)) ∧ Below w.heap.size w w' := by
  have hL := Holds.start w
  have HM := Lib.hid (fun w => bowMay_calls e w)
  cases hm : mayE e with
  | false =>
    have HR := Lib.hid (show turnG e x y = 0 by unfold turnG; rw [hm]; rfl)
    rw [hm] at HM
    clear hm
    generalize turnG e x y = T at *
    obtain ⟨ex0, ey0, bt, ecx, ecy, ex1, ey1⟩ := e
    unfold edgeV at *
    dsimp only at *
    have n1 : True := trivial; have n2 : True := trivial; have n3 : True := trivial
    go_enter Try.func71, Try.ntmps71
    go_wp2_with (first | (go_at_call 77; (with_reducible refine (HM.out _).mono ?_); rintro e _ ⟨rfl, hb⟩; replace hL := hL.call hb; clear hb) | (first | (clear hL n1; with_reducible intro b1 w1 hL) | (clear hL n2; with_reducible intro b2 w2 hL) | (clear hL n3; with_reducible intro b3 w3 hL) | (clear hL; with_reducible intro _ _ hL)) | (with_reducible refine wpC_alloc rfl _ rfl _ _ inferInstance hL ?_) | (with_reducible first | refine wpB_agg rfl _ _ _ rfl rfl hL ?_ | refine wpB_one rfl _ _ (.int _ _) rfl rfl rfl hL ?_ | refine wpB_one rfl _ _ (.slice _ _ _) rfl rfl rfl hL ?_ | refine wpB_one rfl _ _ (.bool _) rfl rfl rfl hL ?_ | refine wpB_one rfl _ _ (.pointer _) rfl rfl rfl hL ?_ | refine wpB_one rfl _ _ (.func _ _ _) rfl rfl rfl hL ?_) | (with_reducible first | refine wpH_max rfl _ _ _ _ rfl _ _ rfl rfl ?_ | refine wpH_min rfl _ _ _ _ rfl _ _ rfl rfl ?_) | ((with_reducible refine wpA_load rfl _ _ rfl _ rfl ?_); first | refine loadA hL ?_ | refine loadR hL ?_ | refine loadC hL ?_ | refine loadD ?_ | refine loadE hL ?_ | refine loadF ?_) | ((with_reducible refine wpA_index rfl _ _ _ rfl _ rfl _ rfl ?_); first | (refine indexA ?_; try rw [Int.toNat_natCast]) | refine indexC ?_) | ((with_reducible refine wpA_store rfl _ _ _ rfl _ rfl (.agg _) rfl ?_); refine storeR hL ?_; clear hL; intro _ hL) | ((with_reducible first | refine wpA_store rfl _ _ _ rfl _ rfl (.int _ _) rfl ?_ | refine wpA_store rfl _ _ _ rfl _ rfl (.slice _ _ _) rfl ?_ | refine wpA_store rfl _ _ _ rfl _ rfl (.bool _) rfl ?_ | refine wpA_store rfl _ _ _ rfl _ rfl (.pointer _) rfl ?_ | refine wpA_store rfl _ _ _ rfl _ rfl (.func _ _ _) rfl ?_); (first | refine storeA hL ?_ | refine storeO hL ?_); (clear hL; intro _ hL)) | ((with_reducible refine wpA_lit rfl _ _ _ rfl ?_); first | refine litA1 hL ?_ | refine litA2 hL ?_ | refine litA3 hL ?_ | refine litA4 hL ?_ | refine litA6 hL ?_) | ((with_reducible refine wpA_append rfl _ _ _ rfl (.slice _ _ _) rfl ?_); intro vq hvq; simp [go_sem] at hvq; subst hvq; refine appendA hL ?_; clear hL; intro _ _ _ hL; try dsimp only at hL) | ((with_reducible refine wpA_make rfl _ _ _ rfl _ rfl rfl ?_); refine makeA hL ?_))
    go_ret
    exact ⟨ret_int HR.out.symm, hL.below⟩
  | true =>
    cases hn : [x, y].all near1 with
    | false =>
      have HR := Lib.hid (show turnG e x y = 0 by
        unfold turnG
        rw [if_neg]
        simp only [List.all_cons, List.all_nil, Bool.and_true] at hn
        rw [hn]; simp)
      have Hn := Lib.hid hn; clear hn
      rw [hm] at HM
      clear hm
      generalize turnG e x y = T at *
      obtain ⟨ex0, ey0, bt, ecx, ecy, ex1, ey1⟩ := e
      unfold edgeV at *
      dsimp only at *
      have n1 : True := trivial; have n2 : True := trivial; have n3 : True := trivial
      go_enter Try.func71, Try.ntmps71
      go_wp2_with (first | (go_at_call 77; (with_reducible refine (HM.out _).mono ?_); rintro e _ ⟨rfl, hb⟩; replace hL := hL.call hb; clear hb) | (go_at_call 78; (refine (near_calls _ _ [x, y] (hL.numsLit [x, y] atO (by rfl))).mono ?_); rintro e _ ⟨rfl, hb⟩; rw [Hn.out]; replace hL := hL.call hb; clear hb) | (first | (clear hL n1; with_reducible intro b1 w1 hL) | (clear hL n2; with_reducible intro b2 w2 hL) | (clear hL n3; with_reducible intro b3 w3 hL) | (clear hL; with_reducible intro _ _ hL)) | (with_reducible refine wpC_alloc rfl _ rfl _ _ inferInstance hL ?_) | (with_reducible first | refine wpB_agg rfl _ _ _ rfl rfl hL ?_ | refine wpB_one rfl _ _ (.int _ _) rfl rfl rfl hL ?_ | refine wpB_one rfl _ _ (.slice _ _ _) rfl rfl rfl hL ?_ | refine wpB_one rfl _ _ (.bool _) rfl rfl rfl hL ?_ | refine wpB_one rfl _ _ (.pointer _) rfl rfl rfl hL ?_ | refine wpB_one rfl _ _ (.func _ _ _) rfl rfl rfl hL ?_) | (with_reducible first | refine wpH_max rfl _ _ _ _ rfl _ _ rfl rfl ?_ | refine wpH_min rfl _ _ _ _ rfl _ _ rfl rfl ?_) | ((with_reducible refine wpA_load rfl _ _ rfl _ rfl ?_); first | refine loadA hL ?_ | refine loadR hL ?_ | refine loadC hL ?_ | refine loadD ?_ | refine loadE hL ?_ | refine loadF ?_) | ((with_reducible refine wpA_index rfl _ _ _ rfl _ rfl _ rfl ?_); first | (refine indexA ?_; try rw [Int.toNat_natCast]) | refine indexC ?_) | ((with_reducible refine wpA_store rfl _ _ _ rfl _ rfl (.agg _) rfl ?_); refine storeR hL ?_; clear hL; intro _ hL) | ((with_reducible first | refine wpA_store rfl _ _ _ rfl _ rfl (.int _ _) rfl ?_ | refine wpA_store rfl _ _ _ rfl _ rfl (.slice _ _ _) rfl ?_ | refine wpA_store rfl _ _ _ rfl _ rfl (.bool _) rfl ?_ | refine wpA_store rfl _ _ _ rfl _ rfl (.pointer _) rfl ?_ | refine wpA_store rfl _ _ _ rfl _ rfl (.func _ _ _) rfl ?_); (first | refine storeA hL ?_ | refine storeO hL ?_); (clear hL; intro _ hL)) | ((with_reducible refine wpA_lit rfl _ _ _ rfl ?_); first | refine litA1 hL ?_ | refine litA2 hL ?_ | refine litA3 hL ?_ | refine litA4 hL ?_ | refine litA6 hL ?_) | ((with_reducible refine wpA_append rfl _ _ _ rfl (.slice _ _ _) rfl ?_); intro vq hvq; simp [go_sem] at hvq; subst hvq; refine appendA hL ?_; clear hL; intro _ _ _ hL; try dsimp only at hL) | ((with_reducible refine wpA_make rfl _ _ _ rfl _ rfl rfl ?_); refine makeA hL ?_))
      go_ret
      exact ⟨ret_int HR.out.symm, hL.below⟩
    | true =>
      have hxy : near1 x = true ∧ near1 y = true := by simpa using hn
      have hs := small6_of hm hxy.2
      have HR := Lib.hid (show turnG e x y = hitT (spt1 e y) x + hitT (spt2 e y) x by unfold turnG; rw [hm, hxy.1, hxy.2]; rfl)
      have HS := Lib.hid (fun w => spotsG_calls e y hs w)
      have hx : -8191 ≤ x ∧ x ≤ 8191 := by simpa [near1] using hxy.1
      obtain ⟨x1, x2⟩ := hx
      have hft := spt_fit hs x1 x2
      have htr := spt_turn e y
      have Hn := Lib.hid hn; clear hn
      rw [hm] at HM
      clear hm hs hxy
      generalize turnG e x y = T at *
      generalize spt1 e y = t1 at *
      generalize spt2 e y = t2 at *
      have HF1 := Lib.hid hft.1
      have HF2 := Lib.hid hft.2
      obtain ⟨k1, k2⟩ := mul_bd (a := x) (b := t1.m) (A := 8191) (B := 2147483648) (by omega) (by omega) (by have := hft.1.m0; omega) (by have := hft.1.m1; omega)
      obtain ⟨k3, k4⟩ := mul_bd (a := x) (b := t2.m) (A := 8191) (B := 2147483648) (by omega) (by omega) (by have := hft.2.m0; omega) (by have := hft.2.m1; omega)
      have p1 := hft.1.p0
      have p2 := hft.1.p1
      have p3 := hft.2.p0
      have p4 := hft.2.p1
      have h1 := hitT_bd t1 x htr.1
      obtain ⟨⟨u1, u2⟩, ⟨u3, u4⟩⟩ := htr
      obtain ⟨h1, h2⟩ := h1
      clear hft
      obtain ⟨ex0, ey0, bt, ecx, ecy, ex1, ey1⟩ := e
      unfold edgeV at *
      dsimp only at *
      have n1 : True := trivial; have n2 : True := trivial; have n3 : True := trivial
      go_enter Try.func71, Try.ntmps71
      go_wp2_with (first | (go_at_call 77; (with_reducible refine (HM.out _).mono ?_); rintro e _ ⟨rfl, hb⟩; replace hL := hL.call hb; clear hb) | (go_at_call 78; (refine (near_calls _ _ [x, y] (hL.numsLit [x, y] atO (by rfl))).mono ?_); rintro e _ ⟨rfl, hb⟩; rw [Hn.out]; replace hL := hL.call hb; clear hb) | (go_at_call 79; (with_reducible refine (HS.out _).mono ?_); rintro e _ ⟨rfl, hb⟩; replace hL := hL.call hb; clear hb) | (first | (clear hL n1; with_reducible intro b1 w1 hL) | (clear hL n2; with_reducible intro b2 w2 hL) | (clear hL n3; with_reducible intro b3 w3 hL) | (clear hL; with_reducible intro _ _ hL)) | (with_reducible refine wpC_alloc rfl _ rfl _ _ inferInstance hL ?_) | (with_reducible first | refine wpB_agg rfl _ _ _ rfl rfl hL ?_ | refine wpB_one rfl _ _ (.int _ _) rfl rfl rfl hL ?_ | refine wpB_one rfl _ _ (.slice _ _ _) rfl rfl rfl hL ?_ | refine wpB_one rfl _ _ (.bool _) rfl rfl rfl hL ?_ | refine wpB_one rfl _ _ (.pointer _) rfl rfl rfl hL ?_ | refine wpB_one rfl _ _ (.func _ _ _) rfl rfl rfl hL ?_) | (with_reducible first | refine wpH_max rfl _ _ _ _ rfl _ _ rfl rfl ?_ | refine wpH_min rfl _ _ _ _ rfl _ _ rfl rfl ?_) | ((with_reducible refine wpA_load rfl _ _ rfl _ rfl ?_); first | refine loadA hL ?_ | refine loadR hL ?_ | refine loadC hL ?_ | refine loadD ?_ | refine loadE hL ?_ | refine loadF ?_) | ((with_reducible refine wpA_index rfl _ _ _ rfl _ rfl _ rfl ?_); first | (refine indexA ?_; try rw [Int.toNat_natCast]) | refine indexC ?_) | ((with_reducible refine wpA_store rfl _ _ _ rfl _ rfl (.agg _) rfl ?_); refine storeR hL ?_; clear hL; intro _ hL) | ((with_reducible first | refine wpA_store rfl _ _ _ rfl _ rfl (.int _ _) rfl ?_ | refine wpA_store rfl _ _ _ rfl _ rfl (.slice _ _ _) rfl ?_ | refine wpA_store rfl _ _ _ rfl _ rfl (.bool _) rfl ?_ | refine wpA_store rfl _ _ _ rfl _ rfl (.pointer _) rfl ?_ | refine wpA_store rfl _ _ _ rfl _ rfl (.func _ _ _) rfl ?_); (first | refine storeA hL ?_ | refine storeO hL ?_); (clear hL; intro _ hL)) | ((with_reducible refine wpA_lit rfl _ _ _ rfl ?_); first | refine litA1 hL ?_ | refine litA2 hL ?_ | refine litA3 hL ?_ | refine litA4 hL ?_ | refine litA6 hL ?_) | ((with_reducible refine wpA_append rfl _ _ _ rfl (.slice _ _ _) rfl ?_); intro vq hvq; simp [go_sem] at hvq; subst hvq; refine appendA hL ?_; clear hL; intro _ _ _ hL; try dsimp only at hL) | ((with_reducible refine wpA_make rfl _ _ _ rfl _ rfl rfl ?_); refine makeA hL ?_))
      go_loopw [7, 23] (fun s7 s23 wr => ∃ k : Nat, k ≤ 2 ∧ s23 = .int .i64 k ∧ s7 = .int .i64 (if k = 0 then 0 else if k = 1 then hitT t1 x else hitT t1 x + hitT t2 x) ∧ Holds w wr [] [])
        (fun s7 s23 wr => 2 - (intOf s23).toNat)
      case atStart => exact ⟨0, by omega, rfl, rfl, (hL.drop .here).drop .here⟩
      case round =>
        clear hL
        obtain ⟨k, hk, rfl, rfl, hL⟩ := hrel
        rcases (by omega : k = 0 ∨ k = 1 ∨ k = 2) with rfl | rfl | rfl
        · simp only [if_true]
          rcases (by omega : t1.turn = 0 ∨ t1.turn ≠ 0) with ht | ht
          · have d1 : (t1.turn != 0) = false := by simp [ht]
            have HR0 := Lib.hid (show hitT t1 x = 0 by unfold hitT; rw [if_neg (fun h => h.1 ht)])
            clear ht
            have n1 : True := trivial; have n2 : True := trivial; have n3 : True := trivial
            go_wp2_with (first | ((with_reducible refine wpA_index rfl _ _ _ rfl _ rfl _ rfl ?_); refine indexS ?_) | (first | (clear hL n1; with_reducible intro b1 w1 hL) | (clear hL n2; with_reducible intro b2 w2 hL) | (clear hL n3; with_reducible intro b3 w3 hL) | (clear hL; with_reducible intro _ _ hL)) | (with_reducible refine wpC_alloc rfl _ rfl _ _ inferInstance hL ?_) | (with_reducible first | refine wpB_agg rfl _ _ _ rfl rfl hL ?_ | refine wpB_one rfl _ _ (.int _ _) rfl rfl rfl hL ?_ | refine wpB_one rfl _ _ (.slice _ _ _) rfl rfl rfl hL ?_ | refine wpB_one rfl _ _ (.bool _) rfl rfl rfl hL ?_ | refine wpB_one rfl _ _ (.pointer _) rfl rfl rfl hL ?_ | refine wpB_one rfl _ _ (.func _ _ _) rfl rfl rfl hL ?_) | (with_reducible first | refine wpH_max rfl _ _ _ _ rfl _ _ rfl rfl ?_ | refine wpH_min rfl _ _ _ _ rfl _ _ rfl rfl ?_) | ((with_reducible refine wpA_load rfl _ _ rfl _ rfl ?_); first | refine loadA hL ?_ | refine loadR hL ?_ | refine loadC hL ?_ | refine loadD ?_ | refine loadE hL ?_ | refine loadF ?_) | ((with_reducible refine wpA_index rfl _ _ _ rfl _ rfl _ rfl ?_); first | (refine indexA ?_; try rw [Int.toNat_natCast]) | refine indexC ?_) | ((with_reducible refine wpA_store rfl _ _ _ rfl _ rfl (.agg _) rfl ?_); refine storeR hL ?_; clear hL; intro _ hL) | ((with_reducible first | refine wpA_store rfl _ _ _ rfl _ rfl (.int _ _) rfl ?_ | refine wpA_store rfl _ _ _ rfl _ rfl (.slice _ _ _) rfl ?_ | refine wpA_store rfl _ _ _ rfl _ rfl (.bool _) rfl ?_ | refine wpA_store rfl _ _ _ rfl _ rfl (.pointer _) rfl ?_ | refine wpA_store rfl _ _ _ rfl _ rfl (.func _ _ _) rfl ?_); (first | refine storeA hL ?_ | refine storeO hL ?_); (clear hL; intro _ hL)) | ((with_reducible refine wpA_lit rfl _ _ _ rfl ?_); first | refine litA1 hL ?_ | refine litA2 hL ?_ | refine litA3 hL ?_ | refine litA4 hL ?_ | refine litA6 hL ?_) | ((with_reducible refine wpA_append rfl _ _ _ rfl (.slice _ _ _) rfl ?_); intro vq hvq; simp [go_sem] at hvq; subst hvq; refine appendA hL ?_; clear hL; intro _ _ _ hL; try dsimp only at hL) | ((with_reducible refine wpA_make rfl _ _ _ rfl _ rfl rfl ?_); refine makeA hL ?_))
            go_roundw
            case rel => exact ⟨1, by omega, rfl, by (rw [if_neg (by omega), if_pos rfl, HR0.out]), hL.drop .here⟩
            case measure => simp [intOf]
          · have d1 : (t1.turn != 0) = true := by simp [ht]
            have HHt := Lib.hid (show ∀ v, sgR (t1.p - x * t1.m) t1.q t1.d = v → hitT t1 x = if 0 < v then t1.turn else 0 from fun v hv => by
              unfold hitT
              subst hv
              by_cases hp : 0 < sgR (t1.p - x * t1.m) t1.q t1.d
              · rw [if_pos ⟨ht, hp⟩, if_pos hp]
              · rw [if_neg (fun h => hp h.2), if_neg hp])
            clear ht
            obtain ⟨v, hv⟩ : ∃ v, sgR (t1.p - x * t1.m) t1.q t1.d = v := ⟨_, rfl⟩
            have hsg := fun w => bowSign_calls (t1.p - x * t1.m) t1.q t1.d (HF1.out.fit) w
            rw [hv] at hsg
            have HSG := Lib.hid hsg
            have HV := Lib.hid (HHt.out v hv)
            clear hsg hv HHt
            rcases (by omega : 0 < v ∨ ¬ 0 < v) with hp | hp
            all_goals
              have n1 : True := trivial; have n2 : True := trivial; have n3 : True := trivial
              go_wp2_with (first | ((with_reducible refine wpA_index rfl _ _ _ rfl _ rfl _ rfl ?_); refine indexS ?_) | (go_at_call 80; (with_reducible refine (HSG.out _).mono ?_); rintro e _ ⟨rfl, hb⟩; replace hL := hL.call hb; clear hb) | (first | (clear hL n1; with_reducible intro b1 w1 hL) | (clear hL n2; with_reducible intro b2 w2 hL) | (clear hL n3; with_reducible intro b3 w3 hL) | (clear hL; with_reducible intro _ _ hL)) | (with_reducible refine wpC_alloc rfl _ rfl _ _ inferInstance hL ?_) | (with_reducible first | refine wpB_agg rfl _ _ _ rfl rfl hL ?_ | refine wpB_one rfl _ _ (.int _ _) rfl rfl rfl hL ?_ | refine wpB_one rfl _ _ (.slice _ _ _) rfl rfl rfl hL ?_ | refine wpB_one rfl _ _ (.bool _) rfl rfl rfl hL ?_ | refine wpB_one rfl _ _ (.pointer _) rfl rfl rfl hL ?_ | refine wpB_one rfl _ _ (.func _ _ _) rfl rfl rfl hL ?_) | (with_reducible first | refine wpH_max rfl _ _ _ _ rfl _ _ rfl rfl ?_ | refine wpH_min rfl _ _ _ _ rfl _ _ rfl rfl ?_) | ((with_reducible refine wpA_load rfl _ _ rfl _ rfl ?_); first | refine loadA hL ?_ | refine loadR hL ?_ | refine loadC hL ?_ | refine loadD ?_ | refine loadE hL ?_ | refine loadF ?_) | ((with_reducible refine wpA_index rfl _ _ _ rfl _ rfl _ rfl ?_); first | (refine indexA ?_; try rw [Int.toNat_natCast]) | refine indexC ?_) | ((with_reducible refine wpA_store rfl _ _ _ rfl _ rfl (.agg _) rfl ?_); refine storeR hL ?_; clear hL; intro _ hL) | ((with_reducible first | refine wpA_store rfl _ _ _ rfl _ rfl (.int _ _) rfl ?_ | refine wpA_store rfl _ _ _ rfl _ rfl (.slice _ _ _) rfl ?_ | refine wpA_store rfl _ _ _ rfl _ rfl (.bool _) rfl ?_ | refine wpA_store rfl _ _ _ rfl _ rfl (.pointer _) rfl ?_ | refine wpA_store rfl _ _ _ rfl _ rfl (.func _ _ _) rfl ?_); (first | refine storeA hL ?_ | refine storeO hL ?_); (clear hL; intro _ hL)) | ((with_reducible refine wpA_lit rfl _ _ _ rfl ?_); first | refine litA1 hL ?_ | refine litA2 hL ?_ | refine litA3 hL ?_ | refine litA4 hL ?_ | refine litA6 hL ?_) | ((with_reducible refine wpA_append rfl _ _ _ rfl (.slice _ _ _) rfl ?_); intro vq hvq; simp [go_sem] at hvq; subst hvq; refine appendA hL ?_; clear hL; intro _ _ _ hL; try dsimp only at hL) | ((with_reducible refine wpA_make rfl _ _ _ rfl _ rfl rfl ?_); refine makeA hL ?_))
              go_roundw
              case rel => exact ⟨1, by omega, rfl, by (rw [if_neg (by omega), if_pos rfl, HV.out]; first | rw [if_pos hp] | rw [if_neg (by omega)]), hL.drop .here⟩
              case measure => simp [intOf]
        · rw [if_neg (by omega), if_pos rfl]
          rcases (by omega : t2.turn = 0 ∨ t2.turn ≠ 0) with ht | ht
          · have d1 : (t2.turn != 0) = false := by simp [ht]
            have HR0 := Lib.hid (show hitT t2 x = 0 by unfold hitT; rw [if_neg (fun h => h.1 ht)])
            clear ht
            have n1 : True := trivial; have n2 : True := trivial; have n3 : True := trivial
            go_wp2_with (first | ((with_reducible refine wpA_index rfl _ _ _ rfl _ rfl _ rfl ?_); refine indexS ?_) | (first | (clear hL n1; with_reducible intro b1 w1 hL) | (clear hL n2; with_reducible intro b2 w2 hL) | (clear hL n3; with_reducible intro b3 w3 hL) | (clear hL; with_reducible intro _ _ hL)) | (with_reducible refine wpC_alloc rfl _ rfl _ _ inferInstance hL ?_) | (with_reducible first | refine wpB_agg rfl _ _ _ rfl rfl hL ?_ | refine wpB_one rfl _ _ (.int _ _) rfl rfl rfl hL ?_ | refine wpB_one rfl _ _ (.slice _ _ _) rfl rfl rfl hL ?_ | refine wpB_one rfl _ _ (.bool _) rfl rfl rfl hL ?_ | refine wpB_one rfl _ _ (.pointer _) rfl rfl rfl hL ?_ | refine wpB_one rfl _ _ (.func _ _ _) rfl rfl rfl hL ?_) | (with_reducible first | refine wpH_max rfl _ _ _ _ rfl _ _ rfl rfl ?_ | refine wpH_min rfl _ _ _ _ rfl _ _ rfl rfl ?_) | ((with_reducible refine wpA_load rfl _ _ rfl _ rfl ?_); first | refine loadA hL ?_ | refine loadR hL ?_ | refine loadC hL ?_ | refine loadD ?_ | refine loadE hL ?_ | refine loadF ?_) | ((with_reducible refine wpA_index rfl _ _ _ rfl _ rfl _ rfl ?_); first | (refine indexA ?_; try rw [Int.toNat_natCast]) | refine indexC ?_) | ((with_reducible refine wpA_store rfl _ _ _ rfl _ rfl (.agg _) rfl ?_); refine storeR hL ?_; clear hL; intro _ hL) | ((with_reducible first | refine wpA_store rfl _ _ _ rfl _ rfl (.int _ _) rfl ?_ | refine wpA_store rfl _ _ _ rfl _ rfl (.slice _ _ _) rfl ?_ | refine wpA_store rfl _ _ _ rfl _ rfl (.bool _) rfl ?_ | refine wpA_store rfl _ _ _ rfl _ rfl (.pointer _) rfl ?_ | refine wpA_store rfl _ _ _ rfl _ rfl (.func _ _ _) rfl ?_); (first | refine storeA hL ?_ | refine storeO hL ?_); (clear hL; intro _ hL)) | ((with_reducible refine wpA_lit rfl _ _ _ rfl ?_); first | refine litA1 hL ?_ | refine litA2 hL ?_ | refine litA3 hL ?_ | refine litA4 hL ?_ | refine litA6 hL ?_) | ((with_reducible refine wpA_append rfl _ _ _ rfl (.slice _ _ _) rfl ?_); intro vq hvq; simp [go_sem] at hvq; subst hvq; refine appendA hL ?_; clear hL; intro _ _ _ hL; try dsimp only at hL) | ((with_reducible refine wpA_make rfl _ _ _ rfl _ rfl rfl ?_); refine makeA hL ?_))
            go_roundw
            case rel => exact ⟨2, by omega, rfl, by (rw [if_neg (by omega), if_neg (by omega), HR0.out, Int.add_zero]), hL.drop .here⟩
            case measure => simp [intOf]
          · have d1 : (t2.turn != 0) = true := by simp [ht]
            have HHt := Lib.hid (show ∀ v, sgR (t2.p - x * t2.m) t2.q t2.d = v → hitT t2 x = if 0 < v then t2.turn else 0 from fun v hv => by
              unfold hitT
              subst hv
              by_cases hp : 0 < sgR (t2.p - x * t2.m) t2.q t2.d
              · rw [if_pos ⟨ht, hp⟩, if_pos hp]
              · rw [if_neg (fun h => hp h.2), if_neg hp])
            clear ht
            obtain ⟨v, hv⟩ : ∃ v, sgR (t2.p - x * t2.m) t2.q t2.d = v := ⟨_, rfl⟩
            have hsg := fun w => bowSign_calls (t2.p - x * t2.m) t2.q t2.d (HF2.out.fit) w
            rw [hv] at hsg
            have HSG := Lib.hid hsg
            have HV := Lib.hid (HHt.out v hv)
            clear hsg hv HHt
            rcases (by omega : 0 < v ∨ ¬ 0 < v) with hp | hp
            all_goals
              have n1 : True := trivial; have n2 : True := trivial; have n3 : True := trivial
              go_wp2_with (first | ((with_reducible refine wpA_index rfl _ _ _ rfl _ rfl _ rfl ?_); refine indexS ?_) | (go_at_call 80; (with_reducible refine (HSG.out _).mono ?_); rintro e _ ⟨rfl, hb⟩; replace hL := hL.call hb; clear hb) | (first | (clear hL n1; with_reducible intro b1 w1 hL) | (clear hL n2; with_reducible intro b2 w2 hL) | (clear hL n3; with_reducible intro b3 w3 hL) | (clear hL; with_reducible intro _ _ hL)) | (with_reducible refine wpC_alloc rfl _ rfl _ _ inferInstance hL ?_) | (with_reducible first | refine wpB_agg rfl _ _ _ rfl rfl hL ?_ | refine wpB_one rfl _ _ (.int _ _) rfl rfl rfl hL ?_ | refine wpB_one rfl _ _ (.slice _ _ _) rfl rfl rfl hL ?_ | refine wpB_one rfl _ _ (.bool _) rfl rfl rfl hL ?_ | refine wpB_one rfl _ _ (.pointer _) rfl rfl rfl hL ?_ | refine wpB_one rfl _ _ (.func _ _ _) rfl rfl rfl hL ?_) | (with_reducible first | refine wpH_max rfl _ _ _ _ rfl _ _ rfl rfl ?_ | refine wpH_min rfl _ _ _ _ rfl _ _ rfl rfl ?_) | ((with_reducible refine wpA_load rfl _ _ rfl _ rfl ?_); first | refine loadA hL ?_ | refine loadR hL ?_ | refine loadC hL ?_ | refine loadD ?_ | refine loadE hL ?_ | refine loadF ?_) | ((with_reducible refine wpA_index rfl _ _ _ rfl _ rfl _ rfl ?_); first | (refine indexA ?_; try rw [Int.toNat_natCast]) | refine indexC ?_) | ((with_reducible refine wpA_store rfl _ _ _ rfl _ rfl (.agg _) rfl ?_); refine storeR hL ?_; clear hL; intro _ hL) | ((with_reducible first | refine wpA_store rfl _ _ _ rfl _ rfl (.int _ _) rfl ?_ | refine wpA_store rfl _ _ _ rfl _ rfl (.slice _ _ _) rfl ?_ | refine wpA_store rfl _ _ _ rfl _ rfl (.bool _) rfl ?_ | refine wpA_store rfl _ _ _ rfl _ rfl (.pointer _) rfl ?_ | refine wpA_store rfl _ _ _ rfl _ rfl (.func _ _ _) rfl ?_); (first | refine storeA hL ?_ | refine storeO hL ?_); (clear hL; intro _ hL)) | ((with_reducible refine wpA_lit rfl _ _ _ rfl ?_); first | refine litA1 hL ?_ | refine litA2 hL ?_ | refine litA3 hL ?_ | refine litA4 hL ?_ | refine litA6 hL ?_) | ((with_reducible refine wpA_append rfl _ _ _ rfl (.slice _ _ _) rfl ?_); intro vq hvq; simp [go_sem] at hvq; subst hvq; refine appendA hL ?_; clear hL; intro _ _ _ hL; try dsimp only at hL) | ((with_reducible refine wpA_make rfl _ _ _ rfl _ rfl rfl ?_); refine makeA hL ?_))
              go_roundw
              case rel => exact ⟨2, by omega, rfl, by (rw [if_neg (by omega), if_neg (by omega), HV.out]; first | rw [if_pos hp] | rw [if_neg (by omega), Int.add_zero]), hL.drop .here⟩
              case measure => simp [intOf]
        · rw [if_neg (by omega), if_neg (by omega)]
          go_wp2_with (first | (first | (clear hL n1; with_reducible intro b1 w1 hL) | (clear hL n2; with_reducible intro b2 w2 hL) | (clear hL n3; with_reducible intro b3 w3 hL) | (clear hL; with_reducible intro _ _ hL)) | (with_reducible refine wpC_alloc rfl _ rfl _ _ inferInstance hL ?_) | (with_reducible first | refine wpB_agg rfl _ _ _ rfl rfl hL ?_ | refine wpB_one rfl _ _ (.int _ _) rfl rfl rfl hL ?_ | refine wpB_one rfl _ _ (.slice _ _ _) rfl rfl rfl hL ?_ | refine wpB_one rfl _ _ (.bool _) rfl rfl rfl hL ?_ | refine wpB_one rfl _ _ (.pointer _) rfl rfl rfl hL ?_ | refine wpB_one rfl _ _ (.func _ _ _) rfl rfl rfl hL ?_) | (with_reducible first | refine wpH_max rfl _ _ _ _ rfl _ _ rfl rfl ?_ | refine wpH_min rfl _ _ _ _ rfl _ _ rfl rfl ?_) | ((with_reducible refine wpA_load rfl _ _ rfl _ rfl ?_); first | refine loadA hL ?_ | refine loadR hL ?_ | refine loadC hL ?_ | refine loadD ?_ | refine loadE hL ?_ | refine loadF ?_) | ((with_reducible refine wpA_index rfl _ _ _ rfl _ rfl _ rfl ?_); first | (refine indexA ?_; try rw [Int.toNat_natCast]) | refine indexC ?_) | ((with_reducible refine wpA_store rfl _ _ _ rfl _ rfl (.agg _) rfl ?_); refine storeR hL ?_; clear hL; intro _ hL) | ((with_reducible first | refine wpA_store rfl _ _ _ rfl _ rfl (.int _ _) rfl ?_ | refine wpA_store rfl _ _ _ rfl _ rfl (.slice _ _ _) rfl ?_ | refine wpA_store rfl _ _ _ rfl _ rfl (.bool _) rfl ?_ | refine wpA_store rfl _ _ _ rfl _ rfl (.pointer _) rfl ?_ | refine wpA_store rfl _ _ _ rfl _ rfl (.func _ _ _) rfl ?_); (first | refine storeA hL ?_ | refine storeO hL ?_); (clear hL; intro _ hL)) | ((with_reducible refine wpA_lit rfl _ _ _ rfl ?_); first | refine litA1 hL ?_ | refine litA2 hL ?_ | refine litA3 hL ?_ | refine litA4 hL ?_ | refine litA6 hL ?_) | ((with_reducible refine wpA_append rfl _ _ _ rfl (.slice _ _ _) rfl ?_); intro vq hvq; simp [go_sem] at hvq; subst hvq; refine appendA hL ?_; clear hL; intro _ _ _ hL; try dsimp only at hL) | ((with_reducible refine wpA_make rfl _ _ _ rfl _ rfl rfl ?_); refine makeA hL ?_))
          go_ret
          exact ⟨ret_int HR.out.symm, hL.below⟩
end Go.Proofs.Ytneddfiohekhiaa
