/- WindFlat returns true. -/
import Derived.Test.YtmoabhfpibkcnaaFltP
import Derived.Test.YtmoabhfpibkcnaaMM3
import Derived.Test.YtmoabhfpibkcnaaTrnM
import Derived.Test.YtmoabhfpibkcnaaShM
import Derived.Test.YtmoabhfpibkcnaaWndM
-- lit6
namespace Go.Proofs.Ytmoabhfpibkcnaa
open Go.RowKit

def inBowBox (u v : Int) (e : Edg) : Prop := min (min e.x0 e.cx) e.x1 ≤ u ∧ u ≤ max (max e.x0 e.cx) e.x1 ∧ min (min e.y0 e.cy) e.y1 ≤ v ∧ v ≤ max (max e.y0 e.cy) e.y1
set_option maxRecDepth 100000 in
set_option maxHeartbeats 8000000 in
theorem windFlat_calls (w : World) (va : Value) (na : List Int) (ha : NumsAt w va na) (px py : Int) : Calls Try.prog 12 #[va, .int .i64 px, .int .i64 py] w fun e w' => e = .returned (.bool true) ∧ Below w.heap.size w w' := by
  have hL := Holds.start w
  obtain ⟨a, cap, rfl, _⟩ := ha.parts
  have HM := Lib.hid (fun w' hb => made_calls w' _ na (SliceAt.below ha hb) true)
  clear ha
  have hmay := made_may na true
  generalize madeS na true = S at *
  have HP := fun w' v hv => flatPath_calls w' v S hv hmay
  by_cases hlen : (flatS cntE 0 0 S).length ≤ 300
  · have HP2 : ∀ w' v, SegsAt w' v S → Calls Try.prog 29 #[v] w' fun e w'' => ∃ u, e = .returned (.tuple #[u, .int .i64 0]) ∧ Below w'.heap.size w' w'' ∧ Fresh w' w'' (fun w => SegsAt w u (flatS cntE 0 0 S)) := fun w' v hv => (HP w' v hv).mono fun e w'' h => by
      rcases h with ⟨h, _⟩ | ⟨_, h⟩
      · omega
      · exact h
    have HF := Lib.hid HP2
    have HU := Lib.hid (fun w => point_calls px w)
    have HV := Lib.hid (fun w => point_calls py w)
    have hub := near_small (ptI_bd px)
    have hvb := near_small (ptI_bd py)
    generalize ptI px = u at *
    generalize ptI py = v at *
    have HW := Lib.hid (fun h => (flat_winds (cnt := cntE) (fun e => (cntE_bd e).1) hmay hlen hub hvb h).2)
    have hEl := edgesS_len S
    have hFl := edgesS_len (flatS cntE 0 0 S)
    have HE1 := Lib.hid (fun w' v => edges_calls w' v S)
    have HE2 := Lib.hid (fun w' v => edges_calls w' v (flatS cntE 0 0 S))
    have HA1 := Lib.hid (fun w' ve hv => windAtG_calls w' ve (edgesS S) hv (by omega) u v)
    have HA2 := Lib.hid (fun w' ve hv => windAtG_calls w' ve (edgesS (flatS cntE 0 0 S)) hv (by omega) u v)
    clear HP HP2 hub hvb hmay hlen
    generalize flatS cntE 0 0 S = F at *
    generalize windG (edgesS F) u v = R2 at *
    generalize edgesS F = E2 at *
    generalize windG (edgesS S) u v = R1 at *
    generalize edgesS S = E at *
    go_enter Try.func12, Try.ntmps12
    go_wp2_with (first | (go_at_call 13; (with_reducible refine (known_calls _).mono ?_); rintro e _ ⟨rfl, hb⟩; replace hL := hL.call hb; clear hb) | (go_at_call 22; (with_reducible refine (HM.out _ hL.below).mono ?_); rintro e _ ⟨vs, rfl, hb, hf⟩; replace hL := hL.callF hb hf; clear hb hf) | (go_at_call 29; (with_reducible refine (HF.out _ _ hL.fact0).mono ?_); rintro e _ ⟨vf, rfl, hb, hf⟩; replace hL := hL.callF hb hf; clear hb hf) | (go_at_call 21; (with_reducible refine (HE1.out _ _ hL.fact1).mono ?_); rintro e _ ⟨ve, rfl, hb, hf⟩; obtain ⟨ea, ec, rfl, _⟩ := EdgesAt.parts hf.now; replace hL := hL.callF hb hf; clear hb hf) | (go_at_call 18; (with_reducible first | refine (HU.out _).mono ?_ | refine (HV.out _).mono ?_); rintro e _ ⟨rfl, rfl⟩) | ((clear hL; with_reducible intro _ _ hL)) | (with_reducible refine wpC_alloc rfl _ rfl _ _ inferInstance hL ?_) | (with_reducible first | refine wpB_agg rfl _ _ _ rfl rfl hL ?_ | refine wpB_one rfl _ _ (.int _ _) rfl rfl rfl hL ?_ | refine wpB_one rfl _ _ (.slice _ _ _) rfl rfl rfl hL ?_ | refine wpB_one rfl _ _ (.bool _) rfl rfl rfl hL ?_ | refine wpB_one rfl _ _ (.pointer _) rfl rfl rfl hL ?_ | refine wpB_one rfl _ _ (.func _ _ _) rfl rfl rfl hL ?_) | (with_reducible first | refine wpH_max rfl _ _ _ _ rfl _ _ rfl rfl ?_ | refine wpH_min rfl _ _ _ _ rfl _ _ rfl rfl ?_) | ((with_reducible refine wpA_load rfl _ _ rfl _ rfl ?_); first | refine loadA hL ?_ | refine loadR hL ?_ | refine loadC hL ?_ | refine loadD ?_ | refine loadE hL ?_ | refine loadF ?_) | ((with_reducible refine wpA_index rfl _ _ _ rfl _ rfl _ rfl ?_); first | (refine indexA ?_; try rw [Int.toNat_natCast]) | refine indexC ?_) | ((with_reducible refine wpA_store rfl _ _ _ rfl _ rfl (.agg _) rfl ?_); refine storeR hL ?_; clear hL; intro _ hL) | ((with_reducible first | refine wpA_store rfl _ _ _ rfl _ rfl (.int _ _) rfl ?_ | refine wpA_store rfl _ _ _ rfl _ rfl (.slice _ _ _) rfl ?_ | refine wpA_store rfl _ _ _ rfl _ rfl (.bool _) rfl ?_ | refine wpA_store rfl _ _ _ rfl _ rfl (.pointer _) rfl ?_ | refine wpA_store rfl _ _ _ rfl _ rfl (.func _ _ _) rfl ?_); (first | refine storeA hL ?_ | refine storeO hL ?_); (clear hL; intro _ hL)) | ((with_reducible refine wpA_lit rfl _ _ _ rfl ?_); first | refine litA1 hL ?_ | refine litA2 hL ?_ | refine litA3 hL ?_ | refine litA4 hL ?_ | refine litA6 hL ?_) | ((with_reducible refine wpA_append rfl _ _ _ rfl (.slice _ _ _) rfl ?_); intro vq hvq; simp [go_sem] at hvq; subst hvq; refine appendA hL ?_; clear hL; intro _ _ _ hL; try dsimp only at hL) | ((with_reducible refine wpA_make rfl _ _ _ rfl _ rfl rfl ?_); refine makeA hL ?_))
    go_loopw [13] (fun s13 wr => ∃ k : Nat, k ≤ E.length ∧ s13 = .int .i64 k ∧ (∀ i, i < k → (E.getD i default).bent = true → ¬ inBowBox u v (E.getD i default)) ∧ Holds w wr [] [fun w => EdgesAt w (.slice ea E.length ec) E, fun w => SegsAt w vf F, fun w => SegsAt w vs S])
      (fun s13 wr => E.length - (intOf s13).toNat)
    case atStart => exact ⟨0, by omega, rfl, fun i hi => absurd hi (by omega), hL⟩
    case round =>
      clear hL
      obtain ⟨k, hk, rfl, hall, hL⟩ := hrel
      by_cases hkt : k < E.length
      · have hkb : (k : Int) < (E.length : Int) := by omega
        have hk0 : (0 : Int) ≤ (k : Int) := by omega
        have hstep : ((E.getD k default).bent = true → ¬ inBowBox u v (E.getD k default)) → ∀ i, i < k + 1 → (E.getD i default).bent = true → ¬ inBowBox u v (E.getD i default) := by
          intro h i hi
          rcases (by omega : i < k ∨ i = k) with h2 | rfl
          · exact hall i h2
          · exact h
        clear hall
        have HST := Lib.hid hstep
        clear hstep
        obtain ⟨be, oe, hea, hc⟩ : ∃ be oe, ea = some ⟨be, oe, none⟩ ∧ World.rangeAt _ be (oe + k * 7) (edgeC (E.getD k default)) := by
          obtain ⟨a', c', he, _, _, hel⟩ := EdgesAt.parts hL.fact0
          injection he with he _ _
          subst he
          exact hel k hkt
        subst hea
        generalize E.getD k default = e at *
        obtain ⟨x0, y0, bt, cx, cy, x1, y1⟩ := e
        unfold edgeC at hc
        unfold inBowBox at HST
        dsimp only at hc HST
        cases bt with
        | false =>
          have HS2 := Lib.hid (HST.out (fun h => by simp at h))
          clear HST
          have n1 : True := trivial
          go_wp2_with (first | (first | (clear hL n1; with_reducible intro b1 w1 hL) | (clear hL; with_reducible intro _ _ hL)) | (with_reducible refine wpC_alloc rfl _ rfl _ _ inferInstance hL ?_) | (with_reducible first | refine wpB_agg rfl _ _ _ rfl rfl hL ?_ | refine wpB_one rfl _ _ (.int _ _) rfl rfl rfl hL ?_ | refine wpB_one rfl _ _ (.slice _ _ _) rfl rfl rfl hL ?_ | refine wpB_one rfl _ _ (.bool _) rfl rfl rfl hL ?_ | refine wpB_one rfl _ _ (.pointer _) rfl rfl rfl hL ?_ | refine wpB_one rfl _ _ (.func _ _ _) rfl rfl rfl hL ?_) | (with_reducible first | refine wpH_max rfl _ _ _ _ rfl _ _ rfl rfl ?_ | refine wpH_min rfl _ _ _ _ rfl _ _ rfl rfl ?_) | ((with_reducible refine wpA_load rfl _ _ rfl _ rfl ?_); first | refine loadA hL ?_ | refine loadR hL ?_ | refine loadC hL ?_ | refine loadD ?_ | refine loadE hL ?_ | refine loadF ?_) | ((with_reducible refine wpA_index rfl _ _ _ rfl _ rfl _ rfl ?_); first | (refine indexA ?_; try rw [Int.toNat_natCast]) | refine indexC ?_) | ((with_reducible refine wpA_store rfl _ _ _ rfl _ rfl (.agg _) rfl ?_); refine storeR hL ?_; clear hL; intro _ hL) | ((with_reducible first | refine wpA_store rfl _ _ _ rfl _ rfl (.int _ _) rfl ?_ | refine wpA_store rfl _ _ _ rfl _ rfl (.slice _ _ _) rfl ?_ | refine wpA_store rfl _ _ _ rfl _ rfl (.bool _) rfl ?_ | refine wpA_store rfl _ _ _ rfl _ rfl (.pointer _) rfl ?_ | refine wpA_store rfl _ _ _ rfl _ rfl (.func _ _ _) rfl ?_); (first | refine storeA hL ?_ | refine storeO hL ?_); (clear hL; intro _ hL)) | ((with_reducible refine wpA_lit rfl _ _ _ rfl ?_); first | refine litA1 hL ?_ | refine litA2 hL ?_ | refine litA3 hL ?_ | refine litA4 hL ?_ | refine litA6 hL ?_) | ((with_reducible refine wpA_append rfl _ _ _ rfl (.slice _ _ _) rfl ?_); intro vq hvq; simp [go_sem] at hvq; subst hvq; refine appendA hL ?_; clear hL; intro _ _ _ hL; try dsimp only at hL) | ((with_reducible refine wpA_make rfl _ _ _ rfl _ rfl rfl ?_); refine makeA hL ?_))
          go_roundw
          case rel => exact ⟨k + 1, by omega, by go_num, HS2.out, hL.drop .here⟩
          case measure => simp [intOf]; omega
        | true =>
          generalize hm1 : min (min x0 cx) x1 = m1 at *
          generalize hm2 : max (max x0 cx) x1 = m2 at *
          generalize hm3 : min (min y0 cy) y1 = m3 at *
          generalize hm4 : max (max y0 cy) y1 = m4 at *
          have H1 := Lib.hid hm1; have H2 := Lib.hid hm2; have H3 := Lib.hid hm3; have H4 := Lib.hid hm4
          clear hm1 hm2 hm3 hm4
          rcases (by omega : u < m1 ∨ (m1 ≤ u ∧ m2 < u) ∨ (m1 ≤ u ∧ u ≤ m2 ∧ v < m3) ∨ (m1 ≤ u ∧ u ≤ m2 ∧ m3 ≤ v ∧ m4 < v) ∨ (m1 ≤ u ∧ u ≤ m2 ∧ m3 ≤ v ∧ v ≤ m4)) with g1 | ⟨g1, g2⟩ | ⟨g1, g2, g3⟩ | ⟨g1, g2, g3, g4⟩ | ⟨g1, g2, g3, g4⟩
          · have HS2 := Lib.hid (HST.out (fun _ h => by omega))
            clear HST
            have d1 : decide (m1 ≤ u) = false := by simp; omega
            have n1 : True := trivial
            go_wp2_with (first | (with_reducible first | refine wpH_min3 rfl _ _ _ _ _ _ rfl _ _ _ rfl rfl rfl _ H1.out ?_ | refine wpH_min3 rfl _ _ _ _ _ _ rfl _ _ _ rfl rfl rfl _ H3.out ?_ | refine wpH_max3 rfl _ _ _ _ _ _ rfl _ _ _ rfl rfl rfl _ H2.out ?_ | refine wpH_max3 rfl _ _ _ _ _ _ rfl _ _ _ rfl rfl rfl _ H4.out ?_) | (first | (clear hL n1; with_reducible intro b1 w1 hL) | (clear hL; with_reducible intro _ _ hL)) | (with_reducible refine wpC_alloc rfl _ rfl _ _ inferInstance hL ?_) | (with_reducible first | refine wpB_agg rfl _ _ _ rfl rfl hL ?_ | refine wpB_one rfl _ _ (.int _ _) rfl rfl rfl hL ?_ | refine wpB_one rfl _ _ (.slice _ _ _) rfl rfl rfl hL ?_ | refine wpB_one rfl _ _ (.bool _) rfl rfl rfl hL ?_ | refine wpB_one rfl _ _ (.pointer _) rfl rfl rfl hL ?_ | refine wpB_one rfl _ _ (.func _ _ _) rfl rfl rfl hL ?_) | (with_reducible first | refine wpH_max rfl _ _ _ _ rfl _ _ rfl rfl ?_ | refine wpH_min rfl _ _ _ _ rfl _ _ rfl rfl ?_) | ((with_reducible refine wpA_load rfl _ _ rfl _ rfl ?_); first | refine loadA hL ?_ | refine loadR hL ?_ | refine loadC hL ?_ | refine loadD ?_ | refine loadE hL ?_ | refine loadF ?_) | ((with_reducible refine wpA_index rfl _ _ _ rfl _ rfl _ rfl ?_); first | (refine indexA ?_; try rw [Int.toNat_natCast]) | refine indexC ?_) | ((with_reducible refine wpA_store rfl _ _ _ rfl _ rfl (.agg _) rfl ?_); refine storeR hL ?_; clear hL; intro _ hL) | ((with_reducible first | refine wpA_store rfl _ _ _ rfl _ rfl (.int _ _) rfl ?_ | refine wpA_store rfl _ _ _ rfl _ rfl (.slice _ _ _) rfl ?_ | refine wpA_store rfl _ _ _ rfl _ rfl (.bool _) rfl ?_ | refine wpA_store rfl _ _ _ rfl _ rfl (.pointer _) rfl ?_ | refine wpA_store rfl _ _ _ rfl _ rfl (.func _ _ _) rfl ?_); (first | refine storeA hL ?_ | refine storeO hL ?_); (clear hL; intro _ hL)) | ((with_reducible refine wpA_lit rfl _ _ _ rfl ?_); first | refine litA1 hL ?_ | refine litA2 hL ?_ | refine litA3 hL ?_ | refine litA4 hL ?_ | refine litA6 hL ?_) | ((with_reducible refine wpA_append rfl _ _ _ rfl (.slice _ _ _) rfl ?_); intro vq hvq; simp [go_sem] at hvq; subst hvq; refine appendA hL ?_; clear hL; intro _ _ _ hL; try dsimp only at hL) | ((with_reducible refine wpA_make rfl _ _ _ rfl _ rfl rfl ?_); refine makeA hL ?_))
            go_roundw
            case rel => exact ⟨k + 1, by omega, by go_num, HS2.out, hL.drop .here⟩
            case measure => simp [intOf]; omega
          · have HS2 := Lib.hid (HST.out (fun _ h => by omega))
            clear HST
            have d1 : decide (m1 ≤ u) = true := by simp; omega
            have d2 : decide (u ≤ m2) = false := by simp; omega
            have n1 : True := trivial
            go_wp2_with (first | (with_reducible first | refine wpH_min3 rfl _ _ _ _ _ _ rfl _ _ _ rfl rfl rfl _ H1.out ?_ | refine wpH_min3 rfl _ _ _ _ _ _ rfl _ _ _ rfl rfl rfl _ H3.out ?_ | refine wpH_max3 rfl _ _ _ _ _ _ rfl _ _ _ rfl rfl rfl _ H2.out ?_ | refine wpH_max3 rfl _ _ _ _ _ _ rfl _ _ _ rfl rfl rfl _ H4.out ?_) | (first | (clear hL n1; with_reducible intro b1 w1 hL) | (clear hL; with_reducible intro _ _ hL)) | (with_reducible refine wpC_alloc rfl _ rfl _ _ inferInstance hL ?_) | (with_reducible first | refine wpB_agg rfl _ _ _ rfl rfl hL ?_ | refine wpB_one rfl _ _ (.int _ _) rfl rfl rfl hL ?_ | refine wpB_one rfl _ _ (.slice _ _ _) rfl rfl rfl hL ?_ | refine wpB_one rfl _ _ (.bool _) rfl rfl rfl hL ?_ | refine wpB_one rfl _ _ (.pointer _) rfl rfl rfl hL ?_ | refine wpB_one rfl _ _ (.func _ _ _) rfl rfl rfl hL ?_) | (with_reducible first | refine wpH_max rfl _ _ _ _ rfl _ _ rfl rfl ?_ | refine wpH_min rfl _ _ _ _ rfl _ _ rfl rfl ?_) | ((with_reducible refine wpA_load rfl _ _ rfl _ rfl ?_); first | refine loadA hL ?_ | refine loadR hL ?_ | refine loadC hL ?_ | refine loadD ?_ | refine loadE hL ?_ | refine loadF ?_) | ((with_reducible refine wpA_index rfl _ _ _ rfl _ rfl _ rfl ?_); first | (refine indexA ?_; try rw [Int.toNat_natCast]) | refine indexC ?_) | ((with_reducible refine wpA_store rfl _ _ _ rfl _ rfl (.agg _) rfl ?_); refine storeR hL ?_; clear hL; intro _ hL) | ((with_reducible first | refine wpA_store rfl _ _ _ rfl _ rfl (.int _ _) rfl ?_ | refine wpA_store rfl _ _ _ rfl _ rfl (.slice _ _ _) rfl ?_ | refine wpA_store rfl _ _ _ rfl _ rfl (.bool _) rfl ?_ | refine wpA_store rfl _ _ _ rfl _ rfl (.pointer _) rfl ?_ | refine wpA_store rfl _ _ _ rfl _ rfl (.func _ _ _) rfl ?_); (first | refine storeA hL ?_ | refine storeO hL ?_); (clear hL; intro _ hL)) | ((with_reducible refine wpA_lit rfl _ _ _ rfl ?_); first | refine litA1 hL ?_ | refine litA2 hL ?_ | refine litA3 hL ?_ | refine litA4 hL ?_ | refine litA6 hL ?_) | ((with_reducible refine wpA_append rfl _ _ _ rfl (.slice _ _ _) rfl ?_); intro vq hvq; simp [go_sem] at hvq; subst hvq; refine appendA hL ?_; clear hL; intro _ _ _ hL; try dsimp only at hL) | ((with_reducible refine wpA_make rfl _ _ _ rfl _ rfl rfl ?_); refine makeA hL ?_))
            go_roundw
            case rel => exact ⟨k + 1, by omega, by go_num, HS2.out, hL.drop .here⟩
            case measure => simp [intOf]; omega
          · have HS2 := Lib.hid (HST.out (fun _ h => by omega))
            clear HST
            have d1 : decide (m1 ≤ u) = true := by simp; omega
            have d2 : decide (u ≤ m2) = true := by simp; omega
            have d3 : decide (m3 ≤ v) = false := by simp; omega
            have n1 : True := trivial
            go_wp2_with (first | (with_reducible first | refine wpH_min3 rfl _ _ _ _ _ _ rfl _ _ _ rfl rfl rfl _ H1.out ?_ | refine wpH_min3 rfl _ _ _ _ _ _ rfl _ _ _ rfl rfl rfl _ H3.out ?_ | refine wpH_max3 rfl _ _ _ _ _ _ rfl _ _ _ rfl rfl rfl _ H2.out ?_ | refine wpH_max3 rfl _ _ _ _ _ _ rfl _ _ _ rfl rfl rfl _ H4.out ?_) | (first | (clear hL n1; with_reducible intro b1 w1 hL) | (clear hL; with_reducible intro _ _ hL)) | (with_reducible refine wpC_alloc rfl _ rfl _ _ inferInstance hL ?_) | (with_reducible first | refine wpB_agg rfl _ _ _ rfl rfl hL ?_ | refine wpB_one rfl _ _ (.int _ _) rfl rfl rfl hL ?_ | refine wpB_one rfl _ _ (.slice _ _ _) rfl rfl rfl hL ?_ | refine wpB_one rfl _ _ (.bool _) rfl rfl rfl hL ?_ | refine wpB_one rfl _ _ (.pointer _) rfl rfl rfl hL ?_ | refine wpB_one rfl _ _ (.func _ _ _) rfl rfl rfl hL ?_) | (with_reducible first | refine wpH_max rfl _ _ _ _ rfl _ _ rfl rfl ?_ | refine wpH_min rfl _ _ _ _ rfl _ _ rfl rfl ?_) | ((with_reducible refine wpA_load rfl _ _ rfl _ rfl ?_); first | refine loadA hL ?_ | refine loadR hL ?_ | refine loadC hL ?_ | refine loadD ?_ | refine loadE hL ?_ | refine loadF ?_) | ((with_reducible refine wpA_index rfl _ _ _ rfl _ rfl _ rfl ?_); first | (refine indexA ?_; try rw [Int.toNat_natCast]) | refine indexC ?_) | ((with_reducible refine wpA_store rfl _ _ _ rfl _ rfl (.agg _) rfl ?_); refine storeR hL ?_; clear hL; intro _ hL) | ((with_reducible first | refine wpA_store rfl _ _ _ rfl _ rfl (.int _ _) rfl ?_ | refine wpA_store rfl _ _ _ rfl _ rfl (.slice _ _ _) rfl ?_ | refine wpA_store rfl _ _ _ rfl _ rfl (.bool _) rfl ?_ | refine wpA_store rfl _ _ _ rfl _ rfl (.pointer _) rfl ?_ | refine wpA_store rfl _ _ _ rfl _ rfl (.func _ _ _) rfl ?_); (first | refine storeA hL ?_ | refine storeO hL ?_); (clear hL; intro _ hL)) | ((with_reducible refine wpA_lit rfl _ _ _ rfl ?_); first | refine litA1 hL ?_ | refine litA2 hL ?_ | refine litA3 hL ?_ | refine litA4 hL ?_ | refine litA6 hL ?_) | ((with_reducible refine wpA_append rfl _ _ _ rfl (.slice _ _ _) rfl ?_); intro vq hvq; simp [go_sem] at hvq; subst hvq; refine appendA hL ?_; clear hL; intro _ _ _ hL; try dsimp only at hL) | ((with_reducible refine wpA_make rfl _ _ _ rfl _ rfl rfl ?_); refine makeA hL ?_))
            go_roundw
            case rel => exact ⟨k + 1, by omega, by go_num, HS2.out, hL.drop .here⟩
            case measure => simp [intOf]; omega
          · have HS2 := Lib.hid (HST.out (fun _ h => by omega))
            clear HST
            have d1 : decide (m1 ≤ u) = true := by simp; omega
            have d2 : decide (u ≤ m2) = true := by simp; omega
            have d3 : decide (m3 ≤ v) = true := by simp; omega
            have d4 : decide (v ≤ m4) = false := by simp; omega
            have n1 : True := trivial
            go_wp2_with (first | (with_reducible first | refine wpH_min3 rfl _ _ _ _ _ _ rfl _ _ _ rfl rfl rfl _ H1.out ?_ | refine wpH_min3 rfl _ _ _ _ _ _ rfl _ _ _ rfl rfl rfl _ H3.out ?_ | refine wpH_max3 rfl _ _ _ _ _ _ rfl _ _ _ rfl rfl rfl _ H2.out ?_ | refine wpH_max3 rfl _ _ _ _ _ _ rfl _ _ _ rfl rfl rfl _ H4.out ?_) | (first | (clear hL n1; with_reducible intro b1 w1 hL) | (clear hL; with_reducible intro _ _ hL)) | (with_reducible refine wpC_alloc rfl _ rfl _ _ inferInstance hL ?_) | (with_reducible first | refine wpB_agg rfl _ _ _ rfl rfl hL ?_ | refine wpB_one rfl _ _ (.int _ _) rfl rfl rfl hL ?_ | refine wpB_one rfl _ _ (.slice _ _ _) rfl rfl rfl hL ?_ | refine wpB_one rfl _ _ (.bool _) rfl rfl rfl hL ?_ | refine wpB_one rfl _ _ (.pointer _) rfl rfl rfl hL ?_ | refine wpB_one rfl _ _ (.func _ _ _) rfl rfl rfl hL ?_) | (with_reducible first | refine wpH_max rfl _ _ _ _ rfl _ _ rfl rfl ?_ | refine wpH_min rfl _ _ _ _ rfl _ _ rfl rfl ?_) | ((with_reducible refine wpA_load rfl _ _ rfl _ rfl ?_); first | refine loadA hL ?_ | refine loadR hL ?_ | refine loadC hL ?_ | refine loadD ?_ | refine loadE hL ?_ | refine loadF ?_) | ((with_reducible refine wpA_index rfl _ _ _ rfl _ rfl _ rfl ?_); first | (refine indexA ?_; try rw [Int.toNat_natCast]) | refine indexC ?_) | ((with_reducible refine wpA_store rfl _ _ _ rfl _ rfl (.agg _) rfl ?_); refine storeR hL ?_; clear hL; intro _ hL) | ((with_reducible first | refine wpA_store rfl _ _ _ rfl _ rfl (.int _ _) rfl ?_ | refine wpA_store rfl _ _ _ rfl _ rfl (.slice _ _ _) rfl ?_ | refine wpA_store rfl _ _ _ rfl _ rfl (.bool _) rfl ?_ | refine wpA_store rfl _ _ _ rfl _ rfl (.pointer _) rfl ?_ | refine wpA_store rfl _ _ _ rfl _ rfl (.func _ _ _) rfl ?_); (first | refine storeA hL ?_ | refine storeO hL ?_); (clear hL; intro _ hL)) | ((with_reducible refine wpA_lit rfl _ _ _ rfl ?_); first | refine litA1 hL ?_ | refine litA2 hL ?_ | refine litA3 hL ?_ | refine litA4 hL ?_ | refine litA6 hL ?_) | ((with_reducible refine wpA_append rfl _ _ _ rfl (.slice _ _ _) rfl ?_); intro vq hvq; simp [go_sem] at hvq; subst hvq; refine appendA hL ?_; clear hL; intro _ _ _ hL; try dsimp only at hL) | ((with_reducible refine wpA_make rfl _ _ _ rfl _ rfl rfl ?_); refine makeA hL ?_))
            go_roundw
            case rel => exact ⟨k + 1, by omega, by go_num, HS2.out, hL.drop .here⟩
            case measure => simp [intOf]; omega
          · clear HST
            have d1 : decide (m1 ≤ u) = true := by simp; omega
            have d2 : decide (u ≤ m2) = true := by simp; omega
            have d3 : decide (m3 ≤ v) = true := by simp; omega
            have d4 : decide (v ≤ m4) = true := by simp; omega
            have n1 : True := trivial
            go_wp2_with (first | (with_reducible first | refine wpH_min3 rfl _ _ _ _ _ _ rfl _ _ _ rfl rfl rfl _ H1.out ?_ | refine wpH_min3 rfl _ _ _ _ _ _ rfl _ _ _ rfl rfl rfl _ H3.out ?_ | refine wpH_max3 rfl _ _ _ _ _ _ rfl _ _ _ rfl rfl rfl _ H2.out ?_ | refine wpH_max3 rfl _ _ _ _ _ _ rfl _ _ _ rfl rfl rfl _ H4.out ?_) | (first | (clear hL n1; with_reducible intro b1 w1 hL) | (clear hL; with_reducible intro _ _ hL)) | (with_reducible refine wpC_alloc rfl _ rfl _ _ inferInstance hL ?_) | (with_reducible first | refine wpB_agg rfl _ _ _ rfl rfl hL ?_ | refine wpB_one rfl _ _ (.int _ _) rfl rfl rfl hL ?_ | refine wpB_one rfl _ _ (.slice _ _ _) rfl rfl rfl hL ?_ | refine wpB_one rfl _ _ (.bool _) rfl rfl rfl hL ?_ | refine wpB_one rfl _ _ (.pointer _) rfl rfl rfl hL ?_ | refine wpB_one rfl _ _ (.func _ _ _) rfl rfl rfl hL ?_) | (with_reducible first | refine wpH_max rfl _ _ _ _ rfl _ _ rfl rfl ?_ | refine wpH_min rfl _ _ _ _ rfl _ _ rfl rfl ?_) | ((with_reducible refine wpA_load rfl _ _ rfl _ rfl ?_); first | refine loadA hL ?_ | refine loadR hL ?_ | refine loadC hL ?_ | refine loadD ?_ | refine loadE hL ?_ | refine loadF ?_) | ((with_reducible refine wpA_index rfl _ _ _ rfl _ rfl _ rfl ?_); first | (refine indexA ?_; try rw [Int.toNat_natCast]) | refine indexC ?_) | ((with_reducible refine wpA_store rfl _ _ _ rfl _ rfl (.agg _) rfl ?_); refine storeR hL ?_; clear hL; intro _ hL) | ((with_reducible first | refine wpA_store rfl _ _ _ rfl _ rfl (.int _ _) rfl ?_ | refine wpA_store rfl _ _ _ rfl _ rfl (.slice _ _ _) rfl ?_ | refine wpA_store rfl _ _ _ rfl _ rfl (.bool _) rfl ?_ | refine wpA_store rfl _ _ _ rfl _ rfl (.pointer _) rfl ?_ | refine wpA_store rfl _ _ _ rfl _ rfl (.func _ _ _) rfl ?_); (first | refine storeA hL ?_ | refine storeO hL ?_); (clear hL; intro _ hL)) | ((with_reducible refine wpA_lit rfl _ _ _ rfl ?_); first | refine litA1 hL ?_ | refine litA2 hL ?_ | refine litA3 hL ?_ | refine litA4 hL ?_ | refine litA6 hL ?_) | ((with_reducible refine wpA_append rfl _ _ _ rfl (.slice _ _ _) rfl ?_); intro vq hvq; simp [go_sem] at hvq; subst hvq; refine appendA hL ?_; clear hL; intro _ _ _ hL; try dsimp only at hL) | ((with_reducible refine wpA_make rfl _ _ _ rfl _ rfl rfl ?_); refine makeA hL ?_))
            go_ret
            exact ⟨rfl, hL.below⟩
      · have e : k = E.length := by omega
        subst e
        have hR := HW.out (fun e he hb h => by
          obtain ⟨i, hi, rfl⟩ := List.getElem_of_mem he
          have := hall i hi
          rw [show E.getD i default = E[i] by simp [hi]] at this
          exact this hb h)
        subst hR
        clear hall
        go_wp2_with (first | (go_at_call 21; (with_reducible refine (HE2.out _ _ hL.fact1).mono ?_); rintro e _ ⟨ve2, rfl, hb, hf⟩; replace hL := hL.callF hb hf; clear hb hf) | (go_at_call 14; (with_reducible first | refine (HA2.out _ _ hL.fact0).mono ?_ | refine (HA1.out _ _ hL.fact1).mono ?_); rintro e _ ⟨rfl, hb⟩; replace hL := hL.call hb; clear hb) | (first | (clear hL n1; with_reducible intro b1 w1 hL) | (clear hL; with_reducible intro _ _ hL)) | (with_reducible refine wpC_alloc rfl _ rfl _ _ inferInstance hL ?_) | (with_reducible first | refine wpB_agg rfl _ _ _ rfl rfl hL ?_ | refine wpB_one rfl _ _ (.int _ _) rfl rfl rfl hL ?_ | refine wpB_one rfl _ _ (.slice _ _ _) rfl rfl rfl hL ?_ | refine wpB_one rfl _ _ (.bool _) rfl rfl rfl hL ?_ | refine wpB_one rfl _ _ (.pointer _) rfl rfl rfl hL ?_ | refine wpB_one rfl _ _ (.func _ _ _) rfl rfl rfl hL ?_) | (with_reducible first | refine wpH_max rfl _ _ _ _ rfl _ _ rfl rfl ?_ | refine wpH_min rfl _ _ _ _ rfl _ _ rfl rfl ?_) | ((with_reducible refine wpA_load rfl _ _ rfl _ rfl ?_); first | refine loadA hL ?_ | refine loadR hL ?_ | refine loadC hL ?_ | refine loadD ?_ | refine loadE hL ?_ | refine loadF ?_) | ((with_reducible refine wpA_index rfl _ _ _ rfl _ rfl _ rfl ?_); first | (refine indexA ?_; try rw [Int.toNat_natCast]) | refine indexC ?_) | ((with_reducible refine wpA_store rfl _ _ _ rfl _ rfl (.agg _) rfl ?_); refine storeR hL ?_; clear hL; intro _ hL) | ((with_reducible first | refine wpA_store rfl _ _ _ rfl _ rfl (.int _ _) rfl ?_ | refine wpA_store rfl _ _ _ rfl _ rfl (.slice _ _ _) rfl ?_ | refine wpA_store rfl _ _ _ rfl _ rfl (.bool _) rfl ?_ | refine wpA_store rfl _ _ _ rfl _ rfl (.pointer _) rfl ?_ | refine wpA_store rfl _ _ _ rfl _ rfl (.func _ _ _) rfl ?_); (first | refine storeA hL ?_ | refine storeO hL ?_); (clear hL; intro _ hL)) | ((with_reducible refine wpA_lit rfl _ _ _ rfl ?_); first | refine litA1 hL ?_ | refine litA2 hL ?_ | refine litA3 hL ?_ | refine litA4 hL ?_ | refine litA6 hL ?_) | ((with_reducible refine wpA_append rfl _ _ _ rfl (.slice _ _ _) rfl ?_); intro vq hvq; simp [go_sem] at hvq; subst hvq; refine appendA hL ?_; clear hL; intro _ _ _ hL; try dsimp only at hL) | ((with_reducible refine wpA_make rfl _ _ _ rfl _ rfl rfl ?_); refine makeA hL ?_))
        go_ret
        exact ⟨ret_bool (by simp), hL.below⟩
  · have HP2 : ∀ w' v, SegsAt w' v S → Calls Try.prog 29 #[v] w' fun e w'' => e = .returned (.tuple #[.slice none 0 0, .int .i64 5]) ∧ Below w'.heap.size w' w'' := fun w' v hv => (HP w' v hv).mono fun e w'' h => by
      rcases h with ⟨_, h⟩ | ⟨h, _⟩
      · exact h
      · omega
    have HF := Lib.hid HP2
    clear HP HP2 hmay hlen
    go_enter Try.func12, Try.ntmps12
    go_wp2_with (first | (go_at_call 13; (with_reducible refine (known_calls _).mono ?_); rintro e _ ⟨rfl, hb⟩; replace hL := hL.call hb; clear hb) | (go_at_call 22; (with_reducible refine (HM.out _ hL.below).mono ?_); rintro e _ ⟨vs, rfl, hb, hf⟩; replace hL := hL.callF hb hf; clear hb hf) | (go_at_call 29; (with_reducible refine (HF.out _ _ hL.fact0).mono ?_); rintro e _ ⟨rfl, hb⟩; replace hL := hL.call hb; clear hb) | (first | (clear hL n1; with_reducible intro b1 w1 hL) | (clear hL; with_reducible intro _ _ hL)) | (with_reducible refine wpC_alloc rfl _ rfl _ _ inferInstance hL ?_) | (with_reducible first | refine wpB_agg rfl _ _ _ rfl rfl hL ?_ | refine wpB_one rfl _ _ (.int _ _) rfl rfl rfl hL ?_ | refine wpB_one rfl _ _ (.slice _ _ _) rfl rfl rfl hL ?_ | refine wpB_one rfl _ _ (.bool _) rfl rfl rfl hL ?_ | refine wpB_one rfl _ _ (.pointer _) rfl rfl rfl hL ?_ | refine wpB_one rfl _ _ (.func _ _ _) rfl rfl rfl hL ?_) | (with_reducible first | refine wpH_max rfl _ _ _ _ rfl _ _ rfl rfl ?_ | refine wpH_min rfl _ _ _ _ rfl _ _ rfl rfl ?_) | ((with_reducible refine wpA_load rfl _ _ rfl _ rfl ?_); first | refine loadA hL ?_ | refine loadR hL ?_ | refine loadC hL ?_ | refine loadD ?_ | refine loadE hL ?_ | refine loadF ?_) | ((with_reducible refine wpA_index rfl _ _ _ rfl _ rfl _ rfl ?_); first | (refine indexA ?_; try rw [Int.toNat_natCast]) | refine indexC ?_) | ((with_reducible refine wpA_store rfl _ _ _ rfl _ rfl (.agg _) rfl ?_); refine storeR hL ?_; clear hL; intro _ hL) | ((with_reducible first | refine wpA_store rfl _ _ _ rfl _ rfl (.int _ _) rfl ?_ | refine wpA_store rfl _ _ _ rfl _ rfl (.slice _ _ _) rfl ?_ | refine wpA_store rfl _ _ _ rfl _ rfl (.bool _) rfl ?_ | refine wpA_store rfl _ _ _ rfl _ rfl (.pointer _) rfl ?_ | refine wpA_store rfl _ _ _ rfl _ rfl (.func _ _ _) rfl ?_); (first | refine storeA hL ?_ | refine storeO hL ?_); (clear hL; intro _ hL)) | ((with_reducible refine wpA_lit rfl _ _ _ rfl ?_); first | refine litA1 hL ?_ | refine litA2 hL ?_ | refine litA3 hL ?_ | refine litA4 hL ?_ | refine litA6 hL ?_) | ((with_reducible refine wpA_append rfl _ _ _ rfl (.slice _ _ _) rfl ?_); intro vq hvq; simp [go_sem] at hvq; subst hvq; refine appendA hL ?_; clear hL; intro _ _ _ hL; try dsimp only at hL) | ((with_reducible refine wpA_make rfl _ _ _ rfl _ rfl rfl ?_); refine makeA hL ?_))
    go_ret
    exact ⟨rfl, hL.below⟩
end Go.Proofs.Ytmoabhfpibkcnaa
