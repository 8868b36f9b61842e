/- WindOut returns true. -/
import Derived.Test.YtmoabhfpibkcnaaBxPM
import Derived.Test.YtmoabhfpibkcnaaHulM
import Derived.Test.YtmoabhfpibkcnaaWndM
-- lit6
namespace Go.Proofs.Ytmoabhfpibkcnaa
open Go.RowKit

def smallB (q : Bx) : Prop := (smallI q.x0 ∧ smallI q.y0) ∧ smallI q.x1 ∧ smallI q.y1
theorem wid_small {q : Bx} {x y : Int} (h : smallB q) (hx : smallI x) (hy : smallI y) : smallB (wid q x y) := by
  unfold smallB wid smallI at *; dsimp only; omega
theorem boxFold_small : ∀ (l : List Sg) (q : Bx), (∀ s ∈ l, SmallS s) → smallB q → smallB (l.foldl boxStep q)
  | [], _, _, h => h
  | s :: l, q, hs, h => by
    obtain ⟨h1, h2, h3, h4⟩ := hs s List.mem_cons_self
    refine boxFold_small l _ (fun t ht => hs t (List.mem_cons_of_mem _ ht)) ?_
    unfold boxStep
    split
    · exact h
    · split
      · exact wid_small (wid_small h h3 h4) h1 h2
      · exact wid_small h h1 h2
theorem box_small {l : List Sg} (h : ∀ s ∈ l, SmallS s) (h0 : l.length ≠ 0) : smallB (boxOf l) := by
  unfold boxOf boxAt
  rw [List.take_length]
  have hm : l.getD 0 default ∈ l := by rw [show l.getD 0 default = l[0]'(by omega) by simp [show 0 < l.length by omega]]; exact List.getElem_mem _
  obtain ⟨h1, h2, _, _⟩ := h _ hm
  exact boxFold_small l _ h ⟨⟨h1, h2⟩, h1, h2⟩
def EdgeIn (q : Bx) (e : Edg) : Prop := InBx q e.x0 e.y0 ∧ InBx q e.x1 e.y1 ∧ (e.bent = true → InBx q e.cx e.cy)
theorem edges_in (l : List Sg) : ∀ e ∈ edgesS l, EdgeIn (boxOf l) e :=
  edges_all (EdgeIn (boxOf l)) (InBx (boxOf l)) l (fun a b c d h1 h2 => ⟨h1, h2, fun h => by cases h⟩) (fun s hs h4 => (boxOf_in hs).1 h4) (fun s hs _ h4 x y hxy => by
    refine ⟨hxy, (boxOf_in hs).1 h4, fun h => ?_⟩
    unfold segE at h
    have h3 : s.kind = 3 := by simpa using h
    exact (boxOf_in hs).2 h3)
/-- beside the box -/
theorem wind_box {l : List Sg} (hm : pathMay l = true) {x y : Int} (h : x < (boxOf l).x0 ∨ (boxOf l).x1 ≤ x ∨ y < (boxOf l).y0 ∨ (boxOf l).y1 ≤ y) : windG (edgesS l) x y = 0 := by
  have hi := edges_in l
  rcases h with h | h | h | h
  · refine wind_left (edges_may hm) fun e he => ?_
    obtain ⟨⟨h1, _⟩, ⟨h2, _⟩, h3⟩ := hi e he
    exact ⟨by omega, by omega, fun hb => by obtain ⟨k, _⟩ := h3 hb; omega⟩
  · refine wind_right fun e he => ?_
    obtain ⟨⟨h1, _⟩, ⟨h2, _⟩, h3⟩ := hi e he
    exact ⟨by omega, by omega, fun hb => by obtain ⟨k, _⟩ := h3 hb; omega⟩
  · refine wind_flat fun e he => .inl ?_
    obtain ⟨⟨_, h1⟩, ⟨_, h2⟩, h3⟩ := hi e he
    exact ⟨by omega, by omega, fun hb => by obtain ⟨_, k⟩ := h3 hb; omega⟩
  · refine wind_flat fun e he => .inr ?_
    obtain ⟨⟨_, h1⟩, ⟨_, h2⟩, h3⟩ := hi e he
    exact ⟨by omega, by omega, fun hb => by obtain ⟨_, k⟩ := h3 hb; omega⟩
set_option maxRecDepth 100000 in
set_option maxHeartbeats 4000000 in
theorem windOut_calls (w : World) (va : Value) (na : List Int) (ha : NumsAt w va na) (px py far : Int) : Calls Try.prog 8 #[va, .int .i64 px, .int .i64 py, .int .i64 far] w fun e w' => e = .returned (.bool true) ∧ Below w.heap.size w w' := by
  have hL := Holds.start w
  obtain ⟨a, cap, rfl, _⟩ := ha.parts
  have HM := Lib.hid (fun w' hb => made_calls w' _ na (SliceAt.below ha hb) true)
  clear ha
  have hgood := (made_good na true).1.small
  have hmay := made_may na true
  generalize madeS na true = S at *
  have hlen := edgesS_len S
  have HE := Lib.hid (fun w' v => edges_calls w' v S)
  have hB := fun w' v hv => pathBox_calls w' v S hv hmay
  have HU := Lib.hid (fun w => point_calls px w)
  have HV := Lib.hid (fun w => point_calls py w)
  have hub := ptI_bd px
  have hvb := ptI_bd py
  generalize ptI px = u at *
  generalize ptI py = v at *
  have q1 := Int.emod_nonneg far (show (1000 : Int) ≠ 0 by omega)
  have q2 := Int.emod_lt_of_pos far (show (0 : Int) < 1000 by omega)
  have HP1 := Lib.hid (fun w => place_calls far 1000 (by omega) (by omega) w)
  generalize far % 1000 = k at *
  by_cases h0 : S.length = 0
  · unfold boxRet at hB
    simp only [if_pos h0] at hB
    have HB := Lib.hid hB
    clear hB h0 hmay hgood
    generalize edgesS S = E at *
    go_enter Try.func8, Try.ntmps8
    go_wp2_with (first | (go_at_call 13; (with_reducible refine (known_calls _).mono ?_); rintro e _ ⟨rfl, hb⟩; replace hL := hL.call hb; clear hb) | (go_at_call 22; (with_reducible refine (HM.out _ hL.below).mono ?_); rintro e _ ⟨vs, rfl, hb, hf⟩; replace hL := hL.callF hb hf; clear hb hf) | (go_at_call 21; (with_reducible refine (HE.out _ _ hL.fact0).mono ?_); rintro e _ ⟨ve, rfl, hb, hf⟩; replace hL := hL.callF hb hf; clear hb hf) | (go_at_call 24; (with_reducible refine (HB.out _ _ hL.fact1).mono ?_); rintro e _ ⟨rfl, hb⟩; replace hL := hL.call hb; clear hb) | (go_at_call 25; (with_reducible refine (HP1.out _).mono ?_); rintro e _ ⟨rfl, rfl⟩) | ((clear hL; with_reducible intro _ _ hL)) | (with_reducible refine wpC_alloc rfl _ rfl _ _ inferInstance hL ?_) | (with_reducible first | refine wpB_agg rfl _ _ _ rfl rfl hL ?_ | refine wpB_one rfl _ _ (.int _ _) rfl rfl rfl hL ?_ | refine wpB_one rfl _ _ (.slice _ _ _) rfl rfl rfl hL ?_ | refine wpB_one rfl _ _ (.bool _) rfl rfl rfl hL ?_ | refine wpB_one rfl _ _ (.pointer _) rfl rfl rfl hL ?_ | refine wpB_one rfl _ _ (.func _ _ _) rfl rfl rfl hL ?_) | (with_reducible first | refine wpH_max rfl _ _ _ _ rfl _ _ rfl rfl ?_ | refine wpH_min rfl _ _ _ _ rfl _ _ rfl rfl ?_) | ((with_reducible refine wpA_load rfl _ _ rfl _ rfl ?_); first | refine loadA hL ?_ | refine loadR hL ?_ | refine loadC hL ?_ | refine loadD ?_ | refine loadE hL ?_ | refine loadF ?_) | ((with_reducible refine wpA_index rfl _ _ _ rfl _ rfl _ rfl ?_); first | (refine indexA ?_; try rw [Int.toNat_natCast]) | refine indexC ?_) | ((with_reducible refine wpA_store rfl _ _ _ rfl _ rfl (.agg _) rfl ?_); refine storeR hL ?_; clear hL; intro _ hL) | ((with_reducible first | refine wpA_store rfl _ _ _ rfl _ rfl (.int _ _) rfl ?_ | refine wpA_store rfl _ _ _ rfl _ rfl (.slice _ _ _) rfl ?_ | refine wpA_store rfl _ _ _ rfl _ rfl (.bool _) rfl ?_ | refine wpA_store rfl _ _ _ rfl _ rfl (.pointer _) rfl ?_ | refine wpA_store rfl _ _ _ rfl _ rfl (.func _ _ _) rfl ?_); (first | refine storeA hL ?_ | refine storeO hL ?_); (clear hL; intro _ hL)) | ((with_reducible refine wpA_lit rfl _ _ _ rfl ?_); first | refine litA1 hL ?_ | refine litA2 hL ?_ | refine litA3 hL ?_ | refine litA4 hL ?_ | refine litA6 hL ?_) | ((with_reducible refine wpA_append rfl _ _ _ rfl (.slice _ _ _) rfl ?_); intro vq hvq; simp [go_sem] at hvq; subst hvq; refine appendA hL ?_; clear hL; intro _ _ _ hL; try dsimp only at hL) | ((with_reducible refine wpA_make rfl _ _ _ rfl _ rfl rfl ?_); refine makeA hL ?_))
    go_ret
    exact ⟨rfl, hL.below⟩
  · have hbs := box_small hgood h0
    unfold boxRet at hB
    simp only [if_neg h0] at hB
    have HB := Lib.hid hB
    have hz := fun {x y : Int} h => wind_box hmay (x := x) (y := y) h
    clear hB h0 hgood
    generalize boxOf S = q at *
    obtain ⟨X0, Y0, X1, Y1⟩ := q
    obtain ⟨⟨s1, s2⟩, s3, s4⟩ := hbs
    unfold smallI at s1 s2 s3 s4
    dsimp only at *
    have HA1 := Lib.hid (show ∀ w' ve, EdgesAt w' ve (edgesS S) → Calls Try.prog 14 #[ve, .int .i64 (X0 - (1 + k)), .int .i64 v] w' fun r w'' => r = .returned (.int .i64 0) ∧ Below w'.heap.size w' w'' from fun w' ve hv => by
      have h := windAtG_calls w' ve (edgesS S) hv (by omega) (X0 - (1 + k)) v
      rwa [hz (.inl (by omega))] at h)
    have HA2 := Lib.hid (show ∀ w' ve, EdgesAt w' ve (edgesS S) → Calls Try.prog 14 #[ve, .int .i64 (X1 + (1 + k) - 1), .int .i64 v] w' fun r w'' => r = .returned (.int .i64 0) ∧ Below w'.heap.size w' w'' from fun w' ve hv => by
      have h := windAtG_calls w' ve (edgesS S) hv (by omega) (X1 + (1 + k) - 1) v
      rwa [hz (.inr (.inl (by omega)))] at h)
    have HA3 := Lib.hid (show ∀ w' ve, EdgesAt w' ve (edgesS S) → Calls Try.prog 14 #[ve, .int .i64 u, .int .i64 (Y0 - (1 + k))] w' fun r w'' => r = .returned (.int .i64 0) ∧ Below w'.heap.size w' w'' from fun w' ve hv => by
      have h := windAtG_calls w' ve (edgesS S) hv (by omega) u (Y0 - (1 + k))
      rwa [hz (.inr (.inr (.inl (by omega))))] at h)
    have HA4 := Lib.hid (show ∀ w' ve, EdgesAt w' ve (edgesS S) → Calls Try.prog 14 #[ve, .int .i64 u, .int .i64 (Y1 + (1 + k) - 1)] w' fun r w'' => r = .returned (.int .i64 0) ∧ Below w'.heap.size w' w'' from fun w' ve hv => by
      have h := windAtG_calls w' ve (edgesS S) hv (by omega) u (Y1 + (1 + k) - 1)
      rwa [hz (.inr (.inr (.inr (by omega))))] at h)
    clear hz hmay
    generalize edgesS S = E at *
    go_enter Try.func8, Try.ntmps8
    go_wp2_with (first | (go_at_call 13; (with_reducible refine (known_calls _).mono ?_); rintro e _ ⟨rfl, hb⟩; replace hL := hL.call hb; clear hb) | (go_at_call 22; (with_reducible refine (HM.out _ hL.below).mono ?_); rintro e _ ⟨vs, rfl, hb, hf⟩; replace hL := hL.callF hb hf; clear hb hf) | (go_at_call 21; (with_reducible refine (HE.out _ _ hL.fact0).mono ?_); rintro e _ ⟨ve, rfl, hb, hf⟩; replace hL := hL.callF hb hf; clear hb hf) | (go_at_call 24; (with_reducible refine (HB.out _ _ hL.fact1).mono ?_); rintro e _ ⟨rfl, hb⟩; replace hL := hL.call hb; clear hb) | (go_at_call 25; (with_reducible refine (HP1.out _).mono ?_); rintro e _ ⟨rfl, rfl⟩) | (go_at_call 18; (with_reducible first | refine (HU.out _).mono ?_ | refine (HV.out _).mono ?_); rintro e _ ⟨rfl, rfl⟩) | (go_at_call 14; (with_reducible first | refine (HA1.out _ _ hL.fact0).mono ?_ | refine (HA2.out _ _ hL.fact0).mono ?_ | refine (HA3.out _ _ hL.fact0).mono ?_ | refine (HA4.out _ _ hL.fact0).mono ?_); rintro e _ ⟨rfl, hb⟩; replace hL := hL.call hb; clear hb) | ((clear hL; with_reducible intro _ _ hL)) | (with_reducible refine wpC_alloc rfl _ rfl _ _ inferInstance hL ?_) | (with_reducible first | refine wpB_agg rfl _ _ _ rfl rfl hL ?_ | refine wpB_one rfl _ _ (.int _ _) rfl rfl rfl hL ?_ | refine wpB_one rfl _ _ (.slice _ _ _) rfl rfl rfl hL ?_ | refine wpB_one rfl _ _ (.bool _) rfl rfl rfl hL ?_ | refine wpB_one rfl _ _ (.pointer _) rfl rfl rfl hL ?_ | refine wpB_one rfl _ _ (.func _ _ _) rfl rfl rfl hL ?_) | (with_reducible first | refine wpH_max rfl _ _ _ _ rfl _ _ rfl rfl ?_ | refine wpH_min rfl _ _ _ _ rfl _ _ rfl rfl ?_) | ((with_reducible refine wpA_load rfl _ _ rfl _ rfl ?_); first | refine loadA hL ?_ | refine loadR hL ?_ | refine loadC hL ?_ | refine loadD ?_ | refine loadE hL ?_ | refine loadF ?_) | ((with_reducible refine wpA_index rfl _ _ _ rfl _ rfl _ rfl ?_); first | (refine indexA ?_; try rw [Int.toNat_natCast]) | refine indexC ?_) | ((with_reducible refine wpA_store rfl _ _ _ rfl _ rfl (.agg _) rfl ?_); refine storeR hL ?_; clear hL; intro _ hL) | ((with_reducible first | refine wpA_store rfl _ _ _ rfl _ rfl (.int _ _) rfl ?_ | refine wpA_store rfl _ _ _ rfl _ rfl (.slice _ _ _) rfl ?_ | refine wpA_store rfl _ _ _ rfl _ rfl (.bool _) rfl ?_ | refine wpA_store rfl _ _ _ rfl _ rfl (.pointer _) rfl ?_ | refine wpA_store rfl _ _ _ rfl _ rfl (.func _ _ _) rfl ?_); (first | refine storeA hL ?_ | refine storeO hL ?_); (clear hL; intro _ hL)) | ((with_reducible refine wpA_lit rfl _ _ _ rfl ?_); first | refine litA1 hL ?_ | refine litA2 hL ?_ | refine litA3 hL ?_ | refine litA4 hL ?_ | refine litA6 hL ?_) | ((with_reducible refine wpA_append rfl _ _ _ rfl (.slice _ _ _) rfl ?_); intro vq hvq; simp [go_sem] at hvq; subst hvq; refine appendA hL ?_; clear hL; intro _ _ _ hL; try dsimp only at hL) | ((with_reducible refine wpA_make rfl _ _ _ rfl _ rfl rfl ?_); refine makeA hL ?_))
    go_ret
    exact ⟨rfl, hL.below⟩
end Go.Proofs.Ytmoabhfpibkcnaa
