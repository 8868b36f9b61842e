/- Runs, rows and regions. -/
import Derived.Test.YtfnolaoohmecbaaRgnM
import Derived.Test.YtfnolaoohmecbaaScnM
import Derived.Test.YtfnolaoohmecbaaMskM
import Derived.Test.YtfnolaoohmecbaaHulM
namespace Go.Proofs.Ytfnolaoohmecbaa
open Go.RowKit
theorem side_calls (a : Int) (w : World) :
    Calls Try.prog 80 #[.int .i64 a] w fun e w' => e = .returned (.bool (isSide a)) ∧ w = w' := by
  rcases (by omega : (1 ≤ a ∧ a ≤ 64) ∨ ¬ 1 ≤ a ∨ (1 ≤ a ∧ ¬ a ≤ 64)) with ⟨h1, h2⟩ | h1 | ⟨h1, h2⟩
  · have Hr := Lib.hid (show isSide a = true by simp [isSide, h1, h2])
    go_enter Try.func80, Try.ntmps80
    go_wp2
    go_ret
    exact ⟨ret_bool (by rw [Hr.out]), rfl⟩
  · have Hr := Lib.hid (show isSide a = false by simp [isSide, h1])
    go_enter Try.func80, Try.ntmps80
    go_wp2
    go_ret
    exact ⟨ret_bool (by rw [Hr.out]), rfl⟩
  · have Hr := Lib.hid (show isSide a = false by simp [isSide, h2])
    go_enter Try.func80, Try.ntmps80
    go_wp2
    go_ret
    exact ⟨ret_bool (by rw [Hr.out]), rfl⟩

/-- may a region be? -/
def mayReg (R : Reg) : Bool := isSide R.W && (isSide R.H && (decide ((R.rows.length : Int) = R.H) && R.rows.all fun l => mayRuns l R.W))

set_option maxRecDepth 100000 in
set_option maxHeartbeats 1000000 in
theorem regMay_calls (w : World) (v : Value) (R : Reg) (hv : RegAt w v R) :
    Calls Try.prog 52 #[v] w fun e w' => e = .returned (.bool (mayReg R)) ∧ Below w.heap.size w w' := by
  obtain ⟨s, rfl, hs⟩ := hv
  obtain ⟨a, cap, rfl, hlc, hcm, hel⟩ := hs.parts
  clear hs
  obtain ⟨W, H, rows⟩ := R
  simp only at hlc hel ⊢
  unfold maxLen at hcm
  have Hel := Lib.hid hel; clear hel
  have hL := Holds.start w
  cases h1 : isSide W with
  | false =>
    have Hr := Lib.hid (show mayReg ⟨W, H, rows⟩ = false by simp [mayReg, h1])
    have n1 : True := trivial; have n2 : True := trivial
    go_enter Try.func52, Try.ntmps52
    go_wp2_with (first | (go_at_call 80; (with_reducible refine (side_calls _ _).mono ?_); rintro e _ ⟨rfl, rfl⟩) | (first | (clear hL n1; with_reducible intro b1 w1 hL) | (clear hL n2; with_reducible intro b2 w2 hL) | (clear hL; with_reducible intro _ _ hL)) | (with_reducible refine wpC_alloc rfl _ rfl _ _ inferInstance hL ?_) | (with_reducible first | refine wpB_agg rfl _ _ _ rfl rfl hL ?_ | refine wpB_one rfl _ _ (.int _ _) rfl rfl rfl hL ?_ | refine wpB_one rfl _ _ (.slice _ _ _) rfl rfl rfl hL ?_ | refine wpB_one rfl _ _ (.bool _) rfl rfl rfl hL ?_ | refine wpB_one rfl _ _ (.pointer _) rfl rfl rfl hL ?_ | refine wpB_one rfl _ _ (.func _ _ _) rfl rfl rfl hL ?_) | (with_reducible first | refine wpH_max rfl _ _ _ _ rfl _ _ rfl rfl ?_ | refine wpH_min rfl _ _ _ _ rfl _ _ rfl rfl ?_) | ((with_reducible refine wpA_load rfl _ _ rfl _ rfl ?_); first | refine loadA hL ?_ | refine loadR hL ?_ | refine loadC hL ?_ | refine loadD ?_ | refine loadE hL ?_ | refine loadF ?_) | ((with_reducible refine wpA_index rfl _ _ _ rfl _ rfl _ rfl ?_); first | (refine indexA ?_; try rw [Int.toNat_natCast]) | refine indexC ?_) | ((with_reducible refine wpA_store rfl _ _ _ rfl _ rfl (.agg _) rfl ?_); refine storeR hL ?_; clear hL; intro _ hL) | ((with_reducible first | refine wpA_store rfl _ _ _ rfl _ rfl (.int _ _) rfl ?_ | refine wpA_store rfl _ _ _ rfl _ rfl (.slice _ _ _) rfl ?_ | refine wpA_store rfl _ _ _ rfl _ rfl (.bool _) rfl ?_ | refine wpA_store rfl _ _ _ rfl _ rfl (.pointer _) rfl ?_ | refine wpA_store rfl _ _ _ rfl _ rfl (.func _ _ _) rfl ?_); (first | refine storeA hL ?_ | refine storeO hL ?_); (clear hL; intro _ hL)) | ((with_reducible refine wpA_lit rfl _ _ _ rfl ?_); first | refine litA1 hL ?_ | refine litA2 hL ?_) | ((with_reducible refine wpA_append rfl _ _ _ rfl (.slice _ _ _) rfl ?_); intro vq hvq; simp [go_sem] at hvq; subst hvq; refine appendA hL ?_; clear hL; intro _ _ _ hL; try dsimp only at hL) | ((with_reducible refine wpA_make rfl _ _ _ rfl _ rfl rfl ?_); refine makeA hL ?_))
    go_ret
    exact ⟨ret_bool (by rw [Hr.out]), hL.below⟩
  | true =>
    cases h2 : isSide H with
    | false =>
      have Hr := Lib.hid (show mayReg ⟨W, H, rows⟩ = false by simp [mayReg, h2])
      have n1 : True := trivial; have n2 : True := trivial
      go_enter Try.func52, Try.ntmps52
      go_wp2_with (first | (go_at_call 80; (with_reducible refine (side_calls _ _).mono ?_); rintro e _ ⟨rfl, rfl⟩) | (first | (clear hL n1; with_reducible intro b1 w1 hL) | (clear hL n2; with_reducible intro b2 w2 hL) | (clear hL; with_reducible intro _ _ hL)) | (with_reducible refine wpC_alloc rfl _ rfl _ _ inferInstance hL ?_) | (with_reducible first | refine wpB_agg rfl _ _ _ rfl rfl hL ?_ | refine wpB_one rfl _ _ (.int _ _) rfl rfl rfl hL ?_ | refine wpB_one rfl _ _ (.slice _ _ _) rfl rfl rfl hL ?_ | refine wpB_one rfl _ _ (.bool _) rfl rfl rfl hL ?_ | refine wpB_one rfl _ _ (.pointer _) rfl rfl rfl hL ?_ | refine wpB_one rfl _ _ (.func _ _ _) rfl rfl rfl hL ?_) | (with_reducible first | refine wpH_max rfl _ _ _ _ rfl _ _ rfl rfl ?_ | refine wpH_min rfl _ _ _ _ rfl _ _ rfl rfl ?_) | ((with_reducible refine wpA_load rfl _ _ rfl _ rfl ?_); first | refine loadA hL ?_ | refine loadR hL ?_ | refine loadC hL ?_ | refine loadD ?_ | refine loadE hL ?_ | refine loadF ?_) | ((with_reducible refine wpA_index rfl _ _ _ rfl _ rfl _ rfl ?_); first | (refine indexA ?_; try rw [Int.toNat_natCast]) | refine indexC ?_) | ((with_reducible refine wpA_store rfl _ _ _ rfl _ rfl (.agg _) rfl ?_); refine storeR hL ?_; clear hL; intro _ hL) | ((with_reducible first | refine wpA_store rfl _ _ _ rfl _ rfl (.int _ _) rfl ?_ | refine wpA_store rfl _ _ _ rfl _ rfl (.slice _ _ _) rfl ?_ | refine wpA_store rfl _ _ _ rfl _ rfl (.bool _) rfl ?_ | refine wpA_store rfl _ _ _ rfl _ rfl (.pointer _) rfl ?_ | refine wpA_store rfl _ _ _ rfl _ rfl (.func _ _ _) rfl ?_); (first | refine storeA hL ?_ | refine storeO hL ?_); (clear hL; intro _ hL)) | ((with_reducible refine wpA_lit rfl _ _ _ rfl ?_); first | refine litA1 hL ?_ | refine litA2 hL ?_) | ((with_reducible refine wpA_append rfl _ _ _ rfl (.slice _ _ _) rfl ?_); intro vq hvq; simp [go_sem] at hvq; subst hvq; refine appendA hL ?_; clear hL; intro _ _ _ hL; try dsimp only at hL) | ((with_reducible refine wpA_make rfl _ _ _ rfl _ rfl rfl ?_); refine makeA hL ?_))
      go_ret
      exact ⟨ret_bool (by rw [Hr.out]), hL.below⟩
    | true =>
      cases h3 : ((rows.length : Int) != H) with
      | true =>
        have Hr := Lib.hid (show mayReg ⟨W, H, rows⟩ = false by simp at h3; simp [mayReg, h3])
        have n1 : True := trivial; have n2 : True := trivial
        go_enter Try.func52, Try.ntmps52
        go_wp2_with (first | (go_at_call 80; (with_reducible refine (side_calls _ _).mono ?_); rintro e _ ⟨rfl, rfl⟩) | (first | (clear hL n1; with_reducible intro b1 w1 hL) | (clear hL n2; with_reducible intro b2 w2 hL) | (clear hL; with_reducible intro _ _ hL)) | (with_reducible refine wpC_alloc rfl _ rfl _ _ inferInstance hL ?_) | (with_reducible first | refine wpB_agg rfl _ _ _ rfl rfl hL ?_ | refine wpB_one rfl _ _ (.int _ _) rfl rfl rfl hL ?_ | refine wpB_one rfl _ _ (.slice _ _ _) rfl rfl rfl hL ?_ | refine wpB_one rfl _ _ (.bool _) rfl rfl rfl hL ?_ | refine wpB_one rfl _ _ (.pointer _) rfl rfl rfl hL ?_ | refine wpB_one rfl _ _ (.func _ _ _) rfl rfl rfl hL ?_) | (with_reducible first | refine wpH_max rfl _ _ _ _ rfl _ _ rfl rfl ?_ | refine wpH_min rfl _ _ _ _ rfl _ _ rfl rfl ?_) | ((with_reducible refine wpA_load rfl _ _ rfl _ rfl ?_); first | refine loadA hL ?_ | refine loadR hL ?_ | refine loadC hL ?_ | refine loadD ?_ | refine loadE hL ?_ | refine loadF ?_) | ((with_reducible refine wpA_index rfl _ _ _ rfl _ rfl _ rfl ?_); first | (refine indexA ?_; try rw [Int.toNat_natCast]) | refine indexC ?_) | ((with_reducible refine wpA_store rfl _ _ _ rfl _ rfl (.agg _) rfl ?_); refine storeR hL ?_; clear hL; intro _ hL) | ((with_reducible first | refine wpA_store rfl _ _ _ rfl _ rfl (.int _ _) rfl ?_ | refine wpA_store rfl _ _ _ rfl _ rfl (.slice _ _ _) rfl ?_ | refine wpA_store rfl _ _ _ rfl _ rfl (.bool _) rfl ?_ | refine wpA_store rfl _ _ _ rfl _ rfl (.pointer _) rfl ?_ | refine wpA_store rfl _ _ _ rfl _ rfl (.func _ _ _) rfl ?_); (first | refine storeA hL ?_ | refine storeO hL ?_); (clear hL; intro _ hL)) | ((with_reducible refine wpA_lit rfl _ _ _ rfl ?_); first | refine litA1 hL ?_ | refine litA2 hL ?_) | ((with_reducible refine wpA_append rfl _ _ _ rfl (.slice _ _ _) rfl ?_); intro vq hvq; simp [go_sem] at hvq; subst hvq; refine appendA hL ?_; clear hL; intro _ _ _ hL; try dsimp only at hL) | ((with_reducible refine wpA_make rfl _ _ _ rfl _ rfl rfl ?_); refine makeA hL ?_))
        go_ret
        exact ⟨ret_bool (by rw [Hr.out]), hL.below⟩
      | false =>
        have Hr := Lib.hid (show mayReg ⟨W, H, rows⟩ = rows.all fun l => mayRuns l W by simp at h3; simp [mayReg, h1, h2, h3])
        have n1 : True := trivial; have n2 : True := trivial
        go_enter Try.func52, Try.ntmps52
        go_wp2_with (first | (go_at_call 80; (with_reducible refine (side_calls _ _).mono ?_); rintro e _ ⟨rfl, rfl⟩) | (first | (clear hL n1; with_reducible intro b1 w1 hL) | (clear hL n2; with_reducible intro b2 w2 hL) | (clear hL; with_reducible intro _ _ hL)) | (with_reducible refine wpC_alloc rfl _ rfl _ _ inferInstance hL ?_) | (with_reducible first | refine wpB_agg rfl _ _ _ rfl rfl hL ?_ | refine wpB_one rfl _ _ (.int _ _) rfl rfl rfl hL ?_ | refine wpB_one rfl _ _ (.slice _ _ _) rfl rfl rfl hL ?_ | refine wpB_one rfl _ _ (.bool _) rfl rfl rfl hL ?_ | refine wpB_one rfl _ _ (.pointer _) rfl rfl rfl hL ?_ | refine wpB_one rfl _ _ (.func _ _ _) rfl rfl rfl hL ?_) | (with_reducible first | refine wpH_max rfl _ _ _ _ rfl _ _ rfl rfl ?_ | refine wpH_min rfl _ _ _ _ rfl _ _ rfl rfl ?_) | ((with_reducible refine wpA_load rfl _ _ rfl _ rfl ?_); first | refine loadA hL ?_ | refine loadR hL ?_ | refine loadC hL ?_ | refine loadD ?_ | refine loadE hL ?_ | refine loadF ?_) | ((with_reducible refine wpA_index rfl _ _ _ rfl _ rfl _ rfl ?_); first | (refine indexA ?_; try rw [Int.toNat_natCast]) | refine indexC ?_) | ((with_reducible refine wpA_store rfl _ _ _ rfl _ rfl (.agg _) rfl ?_); refine storeR hL ?_; clear hL; intro _ hL) | ((with_reducible first | refine wpA_store rfl _ _ _ rfl _ rfl (.int _ _) rfl ?_ | refine wpA_store rfl _ _ _ rfl _ rfl (.slice _ _ _) rfl ?_ | refine wpA_store rfl _ _ _ rfl _ rfl (.bool _) rfl ?_ | refine wpA_store rfl _ _ _ rfl _ rfl (.pointer _) rfl ?_ | refine wpA_store rfl _ _ _ rfl _ rfl (.func _ _ _) rfl ?_); (first | refine storeA hL ?_ | refine storeO hL ?_); (clear hL; intro _ hL)) | ((with_reducible refine wpA_lit rfl _ _ _ rfl ?_); first | refine litA1 hL ?_ | refine litA2 hL ?_) | ((with_reducible refine wpA_append rfl _ _ _ rfl (.slice _ _ _) rfl ?_); intro vq hvq; simp [go_sem] at hvq; subst hvq; refine appendA hL ?_; clear hL; intro _ _ _ hL; try dsimp only at hL) | ((with_reducible refine wpA_make rfl _ _ _ rfl _ rfl rfl ?_); refine makeA hL ?_))
        go_loopw [26] (fun s26 wr => ∃ k : Nat, k ≤ rows.length ∧ s26 = .int .i64 k ∧ ((rows.take k).all fun l => mayRuns l W) = true ∧ Holds w wr [blk b1 #[.int .i64 W, .int .i64 H, .slice a rows.length cap] 37] [])
          (fun s26 wr => rows.length - (intOf s26).toNat)
        case atStart => exact ⟨0, by omega, rfl, rfl, hL⟩
        case round =>
          clear hL
          obtain ⟨k, hk, rfl, hm, hL⟩ := hrel
          by_cases hlt : k < rows.length
          · obtain ⟨b, o, rfl, va, vn, vc, hc, hr⟩ := Hel.out k hlt
            have Hs := Lib.hid (all_take_step (fun l => mayRuns l W) rows k [] hlt)
            rw [hm] at Hs
            have Hf := Lib.hid (all_take_false (fun l => mayRuns l W) rows (k + 1))
            clear hm
            generalize rows.getD k [] = rk at *
            have Hrr := Lib.hid hr; clear hr
            cases hmk : mayRuns rk W with
            | true =>
              rw [hmk] at Hs
              go_wp2_with (first | (go_at_call 37; (with_reducible refine (spanMay_calls _ _ _ (Hrr.out.hold hL) _).mono ?_); rintro e _ ⟨rfl, hb⟩; replace hL := hL.call hb; clear hb) | (first | (clear hL n1; with_reducible intro b1 w1 hL) | (clear hL n2; with_reducible intro b2 w2 hL) | (clear hL; with_reducible intro _ _ hL)) | (with_reducible refine wpC_alloc rfl _ rfl _ _ inferInstance hL ?_) | (with_reducible first | refine wpB_agg rfl _ _ _ rfl rfl hL ?_ | refine wpB_one rfl _ _ (.int _ _) rfl rfl rfl hL ?_ | refine wpB_one rfl _ _ (.slice _ _ _) rfl rfl rfl hL ?_ | refine wpB_one rfl _ _ (.bool _) rfl rfl rfl hL ?_ | refine wpB_one rfl _ _ (.pointer _) rfl rfl rfl hL ?_ | refine wpB_one rfl _ _ (.func _ _ _) rfl rfl rfl hL ?_) | (with_reducible first | refine wpH_max rfl _ _ _ _ rfl _ _ rfl rfl ?_ | refine wpH_min rfl _ _ _ _ rfl _ _ rfl rfl ?_) | ((with_reducible refine wpA_load rfl _ _ rfl _ rfl ?_); first | refine loadA hL ?_ | refine loadR hL ?_ | refine loadC hL ?_ | refine loadD ?_ | refine loadE hL ?_ | refine loadF ?_) | ((with_reducible refine wpA_index rfl _ _ _ rfl _ rfl _ rfl ?_); first | (refine indexA ?_; try rw [Int.toNat_natCast]) | refine indexC ?_) | ((with_reducible refine wpA_store rfl _ _ _ rfl _ rfl (.agg _) rfl ?_); refine storeR hL ?_; clear hL; intro _ hL) | ((with_reducible first | refine wpA_store rfl _ _ _ rfl _ rfl (.int _ _) rfl ?_ | refine wpA_store rfl _ _ _ rfl _ rfl (.slice _ _ _) rfl ?_ | refine wpA_store rfl _ _ _ rfl _ rfl (.bool _) rfl ?_ | refine wpA_store rfl _ _ _ rfl _ rfl (.pointer _) rfl ?_ | refine wpA_store rfl _ _ _ rfl _ rfl (.func _ _ _) rfl ?_); (first | refine storeA hL ?_ | refine storeO hL ?_); (clear hL; intro _ hL)) | ((with_reducible refine wpA_lit rfl _ _ _ rfl ?_); first | refine litA1 hL ?_ | refine litA2 hL ?_) | ((with_reducible refine wpA_append rfl _ _ _ rfl (.slice _ _ _) rfl ?_); intro vq hvq; simp [go_sem] at hvq; subst hvq; refine appendA hL ?_; clear hL; intro _ _ _ hL; try dsimp only at hL) | ((with_reducible refine wpA_make rfl _ _ _ rfl _ rfl rfl ?_); refine makeA hL ?_))
              go_roundw
              case rel => exact ⟨k + 1, by omega, by go_num, by rw [Hs.out]; rfl, hL⟩
              case measure => simp [intOf]; omega
            | false =>
              rw [hmk] at Hs
              go_wp2_with (first | (go_at_call 37; (with_reducible refine (spanMay_calls _ _ _ (Hrr.out.hold hL) _).mono ?_); rintro e _ ⟨rfl, hb⟩; replace hL := hL.call hb; clear hb) | (first | (clear hL n1; with_reducible intro b1 w1 hL) | (clear hL n2; with_reducible intro b2 w2 hL) | (clear hL; with_reducible intro _ _ hL)) | (with_reducible refine wpC_alloc rfl _ rfl _ _ inferInstance hL ?_) | (with_reducible first | refine wpB_agg rfl _ _ _ rfl rfl hL ?_ | refine wpB_one rfl _ _ (.int _ _) rfl rfl rfl hL ?_ | refine wpB_one rfl _ _ (.slice _ _ _) rfl rfl rfl hL ?_ | refine wpB_one rfl _ _ (.bool _) rfl rfl rfl hL ?_ | refine wpB_one rfl _ _ (.pointer _) rfl rfl rfl hL ?_ | refine wpB_one rfl _ _ (.func _ _ _) rfl rfl rfl hL ?_) | (with_reducible first | refine wpH_max rfl _ _ _ _ rfl _ _ rfl rfl ?_ | refine wpH_min rfl _ _ _ _ rfl _ _ rfl rfl ?_) | ((with_reducible refine wpA_load rfl _ _ rfl _ rfl ?_); first | refine loadA hL ?_ | refine loadR hL ?_ | refine loadC hL ?_ | refine loadD ?_ | refine loadE hL ?_ | refine loadF ?_) | ((with_reducible refine wpA_index rfl _ _ _ rfl _ rfl _ rfl ?_); first | (refine indexA ?_; try rw [Int.toNat_natCast]) | refine indexC ?_) | ((with_reducible refine wpA_store rfl _ _ _ rfl _ rfl (.agg _) rfl ?_); refine storeR hL ?_; clear hL; intro _ hL) | ((with_reducible first | refine wpA_store rfl _ _ _ rfl _ rfl (.int _ _) rfl ?_ | refine wpA_store rfl _ _ _ rfl _ rfl (.slice _ _ _) rfl ?_ | refine wpA_store rfl _ _ _ rfl _ rfl (.bool _) rfl ?_ | refine wpA_store rfl _ _ _ rfl _ rfl (.pointer _) rfl ?_ | refine wpA_store rfl _ _ _ rfl _ rfl (.func _ _ _) rfl ?_); (first | refine storeA hL ?_ | refine storeO hL ?_); (clear hL; intro _ hL)) | ((with_reducible refine wpA_lit rfl _ _ _ rfl ?_); first | refine litA1 hL ?_ | refine litA2 hL ?_) | ((with_reducible refine wpA_append rfl _ _ _ rfl (.slice _ _ _) rfl ?_); intro vq hvq; simp [go_sem] at hvq; subst hvq; refine appendA hL ?_; clear hL; intro _ _ _ hL; try dsimp only at hL) | ((with_reducible refine wpA_make rfl _ _ _ rfl _ rfl rfl ?_); refine makeA hL ?_))
              go_ret
              exact ⟨ret_bool (by rw [Hr.out, Hf.out (by rw [Hs.out]; rfl)]), hL.below⟩
          · have e : k = rows.length := by omega
            subst e
            rw [List.take_length] at hm
            have Hm := Lib.hid hm; clear hm
            go_wp2_with (first | (first | (clear hL n1; with_reducible intro b1 w1 hL) | (clear hL n2; with_reducible intro b2 w2 hL) | (clear hL; with_reducible intro _ _ hL)) | (with_reducible refine wpC_alloc rfl _ rfl _ _ inferInstance hL ?_) | (with_reducible first | refine wpB_agg rfl _ _ _ rfl rfl hL ?_ | refine wpB_one rfl _ _ (.int _ _) rfl rfl rfl hL ?_ | refine wpB_one rfl _ _ (.slice _ _ _) rfl rfl rfl hL ?_ | refine wpB_one rfl _ _ (.bool _) rfl rfl rfl hL ?_ | refine wpB_one rfl _ _ (.pointer _) rfl rfl rfl hL ?_ | refine wpB_one rfl _ _ (.func _ _ _) rfl rfl rfl hL ?_) | (with_reducible first | refine wpH_max rfl _ _ _ _ rfl _ _ rfl rfl ?_ | refine wpH_min rfl _ _ _ _ rfl _ _ rfl rfl ?_) | ((with_reducible refine wpA_load rfl _ _ rfl _ rfl ?_); first | refine loadA hL ?_ | refine loadR hL ?_ | refine loadC hL ?_ | refine loadD ?_ | refine loadE hL ?_ | refine loadF ?_) | ((with_reducible refine wpA_index rfl _ _ _ rfl _ rfl _ rfl ?_); first | (refine indexA ?_; try rw [Int.toNat_natCast]) | refine indexC ?_) | ((with_reducible refine wpA_store rfl _ _ _ rfl _ rfl (.agg _) rfl ?_); refine storeR hL ?_; clear hL; intro _ hL) | ((with_reducible first | refine wpA_store rfl _ _ _ rfl _ rfl (.int _ _) rfl ?_ | refine wpA_store rfl _ _ _ rfl _ rfl (.slice _ _ _) rfl ?_ | refine wpA_store rfl _ _ _ rfl _ rfl (.bool _) rfl ?_ | refine wpA_store rfl _ _ _ rfl _ rfl (.pointer _) rfl ?_ | refine wpA_store rfl _ _ _ rfl _ rfl (.func _ _ _) rfl ?_); (first | refine storeA hL ?_ | refine storeO hL ?_); (clear hL; intro _ hL)) | ((with_reducible refine wpA_lit rfl _ _ _ rfl ?_); first | refine litA1 hL ?_ | refine litA2 hL ?_) | ((with_reducible refine wpA_append rfl _ _ _ rfl (.slice _ _ _) rfl ?_); intro vq hvq; simp [go_sem] at hvq; subst hvq; refine appendA hL ?_; clear hL; intro _ _ _ hL; try dsimp only at hL) | ((with_reducible refine wpA_make rfl _ _ _ rfl _ rfl rfl ?_); refine makeA hL ?_))
            go_ret
            exact ⟨ret_bool (by rw [Hr.out, Hm.out]), hL.below⟩
theorem Below.from {w0 w w1 : World} {M : List Res} {Φ : List (World → Prop)} (hL : Holds w0 w M Φ) (h : Below w.heap.size w w1) : Below w0.heap.size w0 w1 := hL.below.trans (h.mono hL.size)

theorem mayReg_len {R : Reg} (h : mayReg R = true) : isSide R.W = true ∧ isSide R.H = true ∧ (R.rows.length : Int) = R.H := by
  simp [mayReg] at h; exact ⟨h.1, h.2.1, h.2.2.1⟩
/-- is a pixel in? -/
def hasReg (R : Reg) (i j : Int) : Bool := mayReg R && (decide (0 ≤ j) && (decide (j < R.H) && hasP (R.rows.getD j.toNat []) i))

set_option maxRecDepth 100000 in
set_option maxHeartbeats 1000000 in
theorem regHas_calls (w : World) (v : Value) (R : Reg) (hv : RegAt w v R) (i j : Int) :
    Calls Try.prog 23 #[v, .int .i64 i, .int .i64 j] w fun e w' => e = .returned (.bool (hasReg R i j)) ∧ Below w.heap.size w w' := by
  have Hv := Lib.hid hv
  obtain ⟨xa, na, ca, rfl, hsa⟩ := hv.shape
  clear hv
  obtain ⟨a, cap, hslice, hlc, hcm, hel⟩ := hsa.parts
  cases hslice
  clear hsa
  unfold maxLen at hcm
  have Hel := Lib.hid hel; clear hel
  have hL := Holds.start w
  cases hm : mayReg R with
  | false =>
    have HR := Lib.hid (show hasReg R i j = false by simp [hasReg, hm])
    have n1 : True := trivial; have n2 : True := trivial
    go_enter Try.func23, Try.ntmps23
    go_wp2_with (first | (go_at_call 52; (with_reducible refine (regMay_calls _ _ _ (Hv.out.hold hL)).mono ?_); rintro e _ ⟨rfl, hb⟩; rw [hm]; replace hL := hL.call hb; clear hb) | (first | (clear hL n1; with_reducible intro b1 w1 hL) | (clear hL n2; with_reducible intro b2 w2 hL) | (clear hL; with_reducible intro _ _ hL)) | (with_reducible refine wpC_alloc rfl _ rfl _ _ inferInstance hL ?_) | (with_reducible first | refine wpB_agg rfl _ _ _ rfl rfl hL ?_ | refine wpB_one rfl _ _ (.int _ _) rfl rfl rfl hL ?_ | refine wpB_one rfl _ _ (.slice _ _ _) rfl rfl rfl hL ?_ | refine wpB_one rfl _ _ (.bool _) rfl rfl rfl hL ?_ | refine wpB_one rfl _ _ (.pointer _) rfl rfl rfl hL ?_ | refine wpB_one rfl _ _ (.func _ _ _) rfl rfl rfl hL ?_) | (with_reducible first | refine wpH_max rfl _ _ _ _ rfl _ _ rfl rfl ?_ | refine wpH_min rfl _ _ _ _ rfl _ _ rfl rfl ?_) | ((with_reducible refine wpA_load rfl _ _ rfl _ rfl ?_); first | refine loadA hL ?_ | refine loadR hL ?_ | refine loadC hL ?_ | refine loadD ?_ | refine loadE hL ?_ | refine loadF ?_) | ((with_reducible refine wpA_index rfl _ _ _ rfl _ rfl _ rfl ?_); first | (refine indexA ?_; try rw [Int.toNat_natCast]) | refine indexC ?_) | ((with_reducible refine wpA_store rfl _ _ _ rfl _ rfl (.agg _) rfl ?_); refine storeR hL ?_; clear hL; intro _ hL) | ((with_reducible first | refine wpA_store rfl _ _ _ rfl _ rfl (.int _ _) rfl ?_ | refine wpA_store rfl _ _ _ rfl _ rfl (.slice _ _ _) rfl ?_ | refine wpA_store rfl _ _ _ rfl _ rfl (.bool _) rfl ?_ | refine wpA_store rfl _ _ _ rfl _ rfl (.pointer _) rfl ?_ | refine wpA_store rfl _ _ _ rfl _ rfl (.func _ _ _) rfl ?_); (first | refine storeA hL ?_ | refine storeO hL ?_); (clear hL; intro _ hL)) | ((with_reducible refine wpA_lit rfl _ _ _ rfl ?_); first | refine litA1 hL ?_ | refine litA2 hL ?_) | ((with_reducible refine wpA_append rfl _ _ _ rfl (.slice _ _ _) rfl ?_); intro vq hvq; simp [go_sem] at hvq; subst hvq; refine appendA hL ?_; clear hL; intro _ _ _ hL; try dsimp only at hL) | ((with_reducible refine wpA_make rfl _ _ _ rfl _ rfl rfl ?_); refine makeA hL ?_))
    go_ret
    exact ⟨ret_bool HR.out.symm, hL.below⟩
  | true =>
    have hlen := (mayReg_len hm).2.2
    cases g1 : decide (0 ≤ j) with
    | false =>
      have HR := Lib.hid (show hasReg R i j = false by simp only [hasReg, g1, Bool.false_and, Bool.and_false])
      have n1 : True := trivial; have n2 : True := trivial
      go_enter Try.func23, Try.ntmps23
      go_wp2_with (first | (go_at_call 52; (with_reducible refine (regMay_calls _ _ _ (Hv.out.hold hL)).mono ?_); rintro e _ ⟨rfl, hb⟩; rw [hm]; replace hL := hL.call hb; clear hb) | (first | (clear hL n1; with_reducible intro b1 w1 hL) | (clear hL n2; with_reducible intro b2 w2 hL) | (clear hL; with_reducible intro _ _ hL)) | (with_reducible refine wpC_alloc rfl _ rfl _ _ inferInstance hL ?_) | (with_reducible first | refine wpB_agg rfl _ _ _ rfl rfl hL ?_ | refine wpB_one rfl _ _ (.int _ _) rfl rfl rfl hL ?_ | refine wpB_one rfl _ _ (.slice _ _ _) rfl rfl rfl hL ?_ | refine wpB_one rfl _ _ (.bool _) rfl rfl rfl hL ?_ | refine wpB_one rfl _ _ (.pointer _) rfl rfl rfl hL ?_ | refine wpB_one rfl _ _ (.func _ _ _) rfl rfl rfl hL ?_) | (with_reducible first | refine wpH_max rfl _ _ _ _ rfl _ _ rfl rfl ?_ | refine wpH_min rfl _ _ _ _ rfl _ _ rfl rfl ?_) | ((with_reducible refine wpA_load rfl _ _ rfl _ rfl ?_); first | refine loadA hL ?_ | refine loadR hL ?_ | refine loadC hL ?_ | refine loadD ?_ | refine loadE hL ?_ | refine loadF ?_) | ((with_reducible refine wpA_index rfl _ _ _ rfl _ rfl _ rfl ?_); first | (refine indexA ?_; try rw [Int.toNat_natCast]) | refine indexC ?_) | ((with_reducible refine wpA_store rfl _ _ _ rfl _ rfl (.agg _) rfl ?_); refine storeR hL ?_; clear hL; intro _ hL) | ((with_reducible first | refine wpA_store rfl _ _ _ rfl _ rfl (.int _ _) rfl ?_ | refine wpA_store rfl _ _ _ rfl _ rfl (.slice _ _ _) rfl ?_ | refine wpA_store rfl _ _ _ rfl _ rfl (.bool _) rfl ?_ | refine wpA_store rfl _ _ _ rfl _ rfl (.pointer _) rfl ?_ | refine wpA_store rfl _ _ _ rfl _ rfl (.func _ _ _) rfl ?_); (first | refine storeA hL ?_ | refine storeO hL ?_); (clear hL; intro _ hL)) | ((with_reducible refine wpA_lit rfl _ _ _ rfl ?_); first | refine litA1 hL ?_ | refine litA2 hL ?_) | ((with_reducible refine wpA_append rfl _ _ _ rfl (.slice _ _ _) rfl ?_); intro vq hvq; simp [go_sem] at hvq; subst hvq; refine appendA hL ?_; clear hL; intro _ _ _ hL; try dsimp only at hL) | ((with_reducible refine wpA_make rfl _ _ _ rfl _ rfl rfl ?_); refine makeA hL ?_))
      go_ret
      exact ⟨ret_bool HR.out.symm, hL.below⟩
    | true =>
      cases g2 : decide (j < R.H) with
      | false =>
        have HR := Lib.hid (show hasReg R i j = false by simp only [hasReg, g2, Bool.false_and, Bool.and_false])
        have n1 : True := trivial; have n2 : True := trivial
        go_enter Try.func23, Try.ntmps23
        go_wp2_with (first | (go_at_call 52; (with_reducible refine (regMay_calls _ _ _ (Hv.out.hold hL)).mono ?_); rintro e _ ⟨rfl, hb⟩; rw [hm]; replace hL := hL.call hb; clear hb) | (first | (clear hL n1; with_reducible intro b1 w1 hL) | (clear hL n2; with_reducible intro b2 w2 hL) | (clear hL; with_reducible intro _ _ hL)) | (with_reducible refine wpC_alloc rfl _ rfl _ _ inferInstance hL ?_) | (with_reducible first | refine wpB_agg rfl _ _ _ rfl rfl hL ?_ | refine wpB_one rfl _ _ (.int _ _) rfl rfl rfl hL ?_ | refine wpB_one rfl _ _ (.slice _ _ _) rfl rfl rfl hL ?_ | refine wpB_one rfl _ _ (.bool _) rfl rfl rfl hL ?_ | refine wpB_one rfl _ _ (.pointer _) rfl rfl rfl hL ?_ | refine wpB_one rfl _ _ (.func _ _ _) rfl rfl rfl hL ?_) | (with_reducible first | refine wpH_max rfl _ _ _ _ rfl _ _ rfl rfl ?_ | refine wpH_min rfl _ _ _ _ rfl _ _ rfl rfl ?_) | ((with_reducible refine wpA_load rfl _ _ rfl _ rfl ?_); first | refine loadA hL ?_ | refine loadR hL ?_ | refine loadC hL ?_ | refine loadD ?_ | refine loadE hL ?_ | refine loadF ?_) | ((with_reducible refine wpA_index rfl _ _ _ rfl _ rfl _ rfl ?_); first | (refine indexA ?_; try rw [Int.toNat_natCast]) | refine indexC ?_) | ((with_reducible refine wpA_store rfl _ _ _ rfl _ rfl (.agg _) rfl ?_); refine storeR hL ?_; clear hL; intro _ hL) | ((with_reducible first | refine wpA_store rfl _ _ _ rfl _ rfl (.int _ _) rfl ?_ | refine wpA_store rfl _ _ _ rfl _ rfl (.slice _ _ _) rfl ?_ | refine wpA_store rfl _ _ _ rfl _ rfl (.bool _) rfl ?_ | refine wpA_store rfl _ _ _ rfl _ rfl (.pointer _) rfl ?_ | refine wpA_store rfl _ _ _ rfl _ rfl (.func _ _ _) rfl ?_); (first | refine storeA hL ?_ | refine storeO hL ?_); (clear hL; intro _ hL)) | ((with_reducible refine wpA_lit rfl _ _ _ rfl ?_); first | refine litA1 hL ?_ | refine litA2 hL ?_) | ((with_reducible refine wpA_append rfl _ _ _ rfl (.slice _ _ _) rfl ?_); intro vq hvq; simp [go_sem] at hvq; subst hvq; refine appendA hL ?_; clear hL; intro _ _ _ hL; try dsimp only at hL) | ((with_reducible refine wpA_make rfl _ _ _ rfl _ rfl rfl ?_); refine makeA hL ?_))
        go_ret
        exact ⟨ret_bool HR.out.symm, hL.below⟩
      | true =>
        have HR := Lib.hid (show hasReg R i j = hasP (R.rows.getD j.toNat []) i by simp only [hasReg, hm, g1, g2, Bool.true_and])
        obtain ⟨m, rfl⟩ := Int.eq_ofNat_of_zero_le (show 0 ≤ j by simpa using g1)
        have hml : m < R.rows.length := by simp at g2; omega
        obtain ⟨b, o, rfl, va, vn, vc, hc, hr⟩ := Hel.out m hml
        rw [Int.toNat_natCast] at HR
        generalize R.rows.getD m [] = rk at *
        have Hr := Lib.hid hr; clear hr
        have n1 : True := trivial; have n2 : True := trivial
        go_enter Try.func23, Try.ntmps23
        go_wp2_with (first | (go_at_call 52; (with_reducible refine (regMay_calls _ _ _ (Hv.out.hold hL)).mono ?_); rintro e _ ⟨rfl, hb⟩; rw [hm]; replace hL := hL.call hb; clear hb) | (go_at_call 35; (with_reducible refine (spanHas_calls _ _ _ (Hr.out.hold hL) _).mono ?_); rintro e _ ⟨rfl, hb⟩; replace hL := hL.call hb; clear hb) | (first | (clear hL n1; with_reducible intro b1 w1 hL) | (clear hL n2; with_reducible intro b2 w2 hL) | (clear hL; with_reducible intro _ _ hL)) | (with_reducible refine wpC_alloc rfl _ rfl _ _ inferInstance hL ?_) | (with_reducible first | refine wpB_agg rfl _ _ _ rfl rfl hL ?_ | refine wpB_one rfl _ _ (.int _ _) rfl rfl rfl hL ?_ | refine wpB_one rfl _ _ (.slice _ _ _) rfl rfl rfl hL ?_ | refine wpB_one rfl _ _ (.bool _) rfl rfl rfl hL ?_ | refine wpB_one rfl _ _ (.pointer _) rfl rfl rfl hL ?_ | refine wpB_one rfl _ _ (.func _ _ _) rfl rfl rfl hL ?_) | (with_reducible first | refine wpH_max rfl _ _ _ _ rfl _ _ rfl rfl ?_ | refine wpH_min rfl _ _ _ _ rfl _ _ rfl rfl ?_) | ((with_reducible refine wpA_load rfl _ _ rfl _ rfl ?_); first | refine loadA hL ?_ | refine loadR hL ?_ | refine loadC hL ?_ | refine loadD ?_ | refine loadE hL ?_ | refine loadF ?_) | ((with_reducible refine wpA_index rfl _ _ _ rfl _ rfl _ rfl ?_); first | (refine indexA ?_; try rw [Int.toNat_natCast]) | refine indexC ?_) | ((with_reducible refine wpA_store rfl _ _ _ rfl _ rfl (.agg _) rfl ?_); refine storeR hL ?_; clear hL; intro _ hL) | ((with_reducible first | refine wpA_store rfl _ _ _ rfl _ rfl (.int _ _) rfl ?_ | refine wpA_store rfl _ _ _ rfl _ rfl (.slice _ _ _) rfl ?_ | refine wpA_store rfl _ _ _ rfl _ rfl (.bool _) rfl ?_ | refine wpA_store rfl _ _ _ rfl _ rfl (.pointer _) rfl ?_ | refine wpA_store rfl _ _ _ rfl _ rfl (.func _ _ _) rfl ?_); (first | refine storeA hL ?_ | refine storeO hL ?_); (clear hL; intro _ hL)) | ((with_reducible refine wpA_lit rfl _ _ _ rfl ?_); first | refine litA1 hL ?_ | refine litA2 hL ?_) | ((with_reducible refine wpA_append rfl _ _ _ rfl (.slice _ _ _) rfl ?_); intro vq hvq; simp [go_sem] at hvq; subst hvq; refine appendA hL ?_; clear hL; intro _ _ _ hL; try dsimp only at hL) | ((with_reducible refine wpA_make rfl _ _ _ rfl _ rfl rfl ?_); refine makeA hL ?_))
        go_ret
        exact ⟨ret_bool HR.out.symm, hL.below⟩
/-- a region, pixel by pixel -/
def pixReg (W H : Nat) (q : Nat → Nat → Bool) : Reg := ⟨W, H, (List.range H).map fun j => runsTo (q j) W⟩
theorem pix_row {W H : Nat} (q : Nat → Nat → Bool) {j : Nat} (hj : j < H) : (pixReg W H q).rows.getD j [] = runsTo (q j) W := by
  simp [pixReg, hj]
theorem pix_in {W H : Nat} (hW : W ≤ 64) (q : Nat → Nat → Bool) {j : Nat} (hj : j < H) (i : Nat) : inRuns ((pixReg W H q).rows.getD j []) i = (decide (i < W) && q j i) := by
  rw [pix_row q hj, inRuns_runsTo _ hW]
theorem pix_may {W H : Nat} (hW0 : 1 ≤ W) (hW : W ≤ 64) (hH0 : 1 ≤ H) (hH : H ≤ 64) (q : Nat → Nat → Bool) : mayReg (pixReg W H q) = true := by
  simp only [mayReg, pixReg, side_nat hW0 hW, side_nat hH0 hH, Bool.true_and, Bool.and_eq_true, decide_eq_true_eq]
  refine ⟨by simp, ?_⟩
  simp only [List.all_eq_true, List.mem_map]
  rintro l ⟨j, _, rfl⟩
  exact mayRuns_runsTo _ hW
def RegF (v : Value) (R : Reg) (w : World) : Prop := RegAt w v R
/-- a region of pixels is returned, and no error -/
def PixOut (W H : Nat) (q : Nat → Nat → Bool) (w : World) (e : Ending) (w' : World) : Prop :=
  ∃ sa sn sc, e = .returned (.tuple #[.agg #[.int .i64 W, .int .i64 H, .slice sa sn sc], .int .i64 0]) ∧ Below w.heap.size w w' ∧ Fresh w w' (RegF (.agg #[.int .i64 W, .int .i64 H, .slice sa sn sc]) (pixReg W H q))
theorem PixOut.of {W H : Nat} {q : Nat → Nat → Bool} {R : Reg} {err : Int} {w : World} {e : Ending} {w' : World} (h : RegOut R err w e w') (hR : R = pixReg W H q) (he : err = 0) : PixOut W H q w e w' := by
  subst hR; subst he
  obtain ⟨v, rfl, hb, hf⟩ := h
  obtain ⟨sa, sn, sc, rfl, _⟩ := RegAt.shape hf.now
  exact ⟨sa, sn, sc, rfl, hb, hf⟩

section
variable {W H : Nat} (hs : Sides W H)
include hs
theorem has_pix (p : Nat → Nat → Bool) (i j : Int) : hasReg (pixReg W H p) i j = atPix W H p i j := by
  have hw := hs.w1
  unfold hasReg atPix
  rw [pix_may hs.w0 hs.w1 hs.h0 hs.h1]
  show (true && (decide (0 ≤ j) && (decide (j < (H : Int)) && hasP ((pixReg W H p).rows.getD j.toNat []) i))) = _
  cases h1 : decide (0 ≤ j) with
  | false => simp
  | true =>
    cases h2 : decide (j < (H : Int)) with
    | false => simp
    | true =>
      simp at h1 h2
      unfold hasP
      rw [pix_in hs.w1 _ (by omega)]
      by_cases hx : 0 ≤ i
      · have e1 : (i.toNat < W) ↔ i < W := by omega
        have e2 : decide (i < W) = (decide (i < 64) && decide (i < W)) := by
          rw [Bool.eq_iff_iff]; simp; omega
        rw [e2]
        simp [hx, e1, Bool.and_assoc]
      · have : decide (0 ≤ i) = false := by simp; omega
        rw [this]; rfl
theorem pixRHas_calls (w : World) (v : Value) (p : Nat → Nat → Bool) (h : RegAt w v (pixReg W H p)) (i j : Int) : Calls Try.prog 23 #[v, .int .i64 i, .int .i64 j] w fun e w' => e = .returned (.bool (atPix W H p i j)) ∧ Below w.heap.size w w' :=
  (regHas_calls w v _ h i j).mono fun _ _ h => by rw [has_pix hs] at h; exact h
end

end Go.Proofs.Ytfnolaoohmecbaa
