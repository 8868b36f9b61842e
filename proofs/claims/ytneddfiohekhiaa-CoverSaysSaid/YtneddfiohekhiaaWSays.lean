/- WindSays returns true. -/
import Derived.Test.YtneddfiohekhiaaRefJ
import Derived.Test.YtneddfiohekhiaaRefE
import Derived.Test.YtneddfiohekhiaaTrnM
-- lit6
namespace Go.Proofs.Ytneddfiohekhiaa
open Go.RowKit

def hsum (l : List Spt) (x : Int) : Int := (l.map fun s => if 0 < sgR (s.p - x * s.m) s.q s.d then s.turn else 0).sum
theorem hsum_hitL (s : Spt) (x : Int) : hsum (hitL s) x = hitT s x := by
  unfold hitL hitT
  by_cases h : s.turn = 0
  · simp [h, hsum]
  · rw [if_neg h]
    by_cases h2 : 0 < sgR (s.p - x * s.m) s.q s.d
    · rw [if_pos ⟨h, h2⟩]; simp [hsum, h2]
    · rw [if_neg (fun k => h2 k.2)]; simp [hsum, h2]
theorem hsum_append (l m : List Spt) (x : Int) : hsum (l ++ m) x = hsum l x + hsum m x := by simp [hsum]
theorem hsum_refL (e : Edg) (x y : Int) : hsum (refL e y) x = hitT (spt1 e y) x + hitT (spt2 e y) x := by rw [refL, hsum_append, hsum_hitL, hsum_hitL]
theorem hsum_step {l : List Spt} {k : Nat} (h : k < l.length) (x : Int) : hsum (l.take (k + 1)) x = hsum (l.take k) x + (if 0 < sgR ((l.getD k noSpt).p - x * (l.getD k noSpt).m) (l.getD k noSpt).q (l.getD k noSpt).d then (l.getD k noSpt).turn else 0) := by
  unfold hsum
  rw [List.take_succ_eq_append_getElem h, List.map_append, List.sum_append]
  simp [h]
theorem refL_mem {e : Edg} {y : Int} {s : Spt} (h : s ∈ refL e y) : s = spt1 e y ∨ s = spt2 e y := by
  unfold refL hitL at h
  rcases List.mem_append.1 h with h | h <;> (split at h) <;> simp at h
  · exact .inl h
  · exact .inr h
theorem refL_len (e : Edg) (y : Int) : (refL e y).length ≤ 2 := by
  unfold refL hitL
  split <;> split <;> simp
theorem hsum_bd {l : List Spt} (h : ∀ s ∈ l, -1 ≤ s.turn ∧ s.turn ≤ 1) (x : Int) : -(l.length : Int) ≤ hsum l x ∧ hsum l x ≤ l.length := by
  induction l with
  | nil => simp [hsum]
  | cons s l ih =>
    have h1 := ih fun t ht => h t (List.mem_cons_of_mem _ ht)
    have h2 := h s List.mem_cons_self
    have h3 : hsum (s :: l) x = (if 0 < sgR (s.p - x * s.m) s.q s.d then s.turn else 0) + hsum l x := by simp [hsum]
    rw [h3, List.length_cons]
    split <;> omega
theorem hit_at {w : World} {a : Option Addr} {n cap k b o : Nat} {l : List Spt} (h : SliceAt w 5 (.slice a n cap) (l.map sptC)) (hk : k < l.length) (ha : a = some ⟨b, o, none⟩) : w.rangeAt b (o + k * 5) (sptC (l.getD k noSpt)) := by
  obtain ⟨a', cap', he, _, _, hel⟩ := h
  cases he
  obtain ⟨b', o', e, hr⟩ := hel k (by rw [List.length_map]; exact hk)
  rw [ha] at e
  cases e
  simp only [List.getElem_map] at hr
  rw [show l.getD k noSpt = l[k] by simp [hk]]
  exact hr

set_option maxRecDepth 100000 in
set_option maxHeartbeats 4000000 in
theorem rTurns_calls (e : Edg) (x y : Int) (w : World) : Calls Try.prog 70 #[edgeV e, .int .i64 x, .int .i64 y] w fun r w' => r = .returned (.int .i64 (turnG e x y)) ∧ Below w.heap.size w w' := by
  have hL := Holds.start w
  have HM := Lib.hid (fun w => refIsEdge_calls e w)
  have HX := Lib.hid (fun w => refIsCoord_calls x w)
  have HY := Lib.hid (fun w => refIsCoord_calls y w)
  by_cases hok : mayE e = true ∧ near1 x = true ∧ near1 y = true
  · obtain ⟨hm, hx, hy⟩ := hok
    have hs := small6_of hm hy
    have HR := Lib.hid (show turnG e x y = hsum (refL e y) x by unfold turnG; rw [hm, hx, hy, hsum_refL]; rfl)
    have HH := Lib.hid (fun w => rHits_calls e y hs w)
    have hxb : -8191 ≤ x ∧ x ≤ 8191 := by simpa [near1] using hx
    have hft : ∀ s ∈ refL e y, FitAt s x ∧ (-1 ≤ s.turn ∧ s.turn ≤ 1) := fun s h => by
      have h1 := spt_fit hs hxb.1 hxb.2
      have h2 := spt_turn e y
      rcases refL_mem h with rfl | rfl
      · exact ⟨h1.1, h2.1⟩
      · exact ⟨h1.2, h2.2⟩
    have HFt := Lib.hid hft; clear hft
    have hlen := refL_len e y
    rw [hm] at HM
    rw [hx] at HX
    rw [hy] at HY
    clear hm hx hy hs hxb
    generalize turnG e x y = T at *
    generalize refL e y = l at *
    obtain ⟨ex0, ey0, bt, ecx, ecy, ex1, ey1⟩ := e
    unfold edgeV at *
    dsimp only at *
    have n1 : True := trivial
    go_enter Try.func70, Try.ntmps70
    go_wp2_with (first | (go_at_call 73; (with_reducible refine (HM.out _).mono ?_); rintro e _ ⟨rfl, hb⟩; replace hL := hL.call hb; clear hb) | (go_at_call 74; (first | ((with_reducible refine (HX.out _).mono ?_); rintro e _ ⟨rfl, rfl⟩) | ((with_reducible refine (HY.out _).mono ?_); rintro e _ ⟨rfl, rfl⟩))) | (go_at_call 75; (with_reducible refine (HH.out _).mono ?_); rintro e _ ⟨v, rfl, hb, hf⟩; obtain ⟨va, vc, hv, _⟩ := hf.now; rw [List.length_map] at hv; subst hv; replace hL := hL.callF hb hf; clear hb hf) | (first | (clear hL n1; with_reducible intro b1 w1 hL) | (clear hL; with_reducible intro _ _ hL)) | (with_reducible refine wpC_alloc rfl _ rfl _ _ inferInstance hL ?_) | (with_reducible first | refine wpB_agg rfl _ _ _ rfl rfl hL ?_ | refine wpB_one rfl _ _ (.int _ _) rfl rfl rfl hL ?_ | refine wpB_one rfl _ _ (.slice _ _ _) rfl rfl rfl hL ?_ | refine wpB_one rfl _ _ (.bool _) rfl rfl rfl hL ?_ | refine wpB_one rfl _ _ (.pointer _) rfl rfl rfl hL ?_ | refine wpB_one rfl _ _ (.func _ _ _) rfl rfl rfl hL ?_) | (with_reducible first | refine wpH_max rfl _ _ _ _ rfl _ _ rfl rfl ?_ | refine wpH_min rfl _ _ _ _ rfl _ _ rfl rfl ?_) | ((with_reducible refine wpA_load rfl _ _ rfl _ rfl ?_); first | refine loadA hL ?_ | refine loadR hL ?_ | refine loadC hL ?_ | refine loadD ?_ | refine loadE hL ?_ | refine loadF ?_) | ((with_reducible refine wpA_index rfl _ _ _ rfl _ rfl _ rfl ?_); first | (refine indexA ?_; try rw [Int.toNat_natCast]) | refine indexC ?_) | ((with_reducible refine wpA_store rfl _ _ _ rfl _ rfl (.agg _) rfl ?_); refine storeR hL ?_; clear hL; intro _ hL) | ((with_reducible first | refine wpA_store rfl _ _ _ rfl _ rfl (.int _ _) rfl ?_ | refine wpA_store rfl _ _ _ rfl _ rfl (.slice _ _ _) rfl ?_ | refine wpA_store rfl _ _ _ rfl _ rfl (.bool _) rfl ?_ | refine wpA_store rfl _ _ _ rfl _ rfl (.pointer _) rfl ?_ | refine wpA_store rfl _ _ _ rfl _ rfl (.func _ _ _) rfl ?_); (first | refine storeA hL ?_ | refine storeO hL ?_); (clear hL; intro _ hL)) | ((with_reducible refine wpA_lit rfl _ _ _ rfl ?_); first | refine litA1 hL ?_ | refine litA2 hL ?_ | refine litA3 hL ?_ | refine litA4 hL ?_ | refine litA6 hL ?_) | ((with_reducible refine wpA_append rfl _ _ _ rfl (.slice _ _ _) rfl ?_); intro vq hvq; simp [go_sem] at hvq; subst hvq; refine appendA hL ?_; clear hL; intro _ _ _ hL; try dsimp only at hL) | ((with_reducible refine wpA_make rfl _ _ _ rfl _ rfl rfl ?_); refine makeA hL ?_))
    go_loopw [7, 9] (fun s7 s9 wr => ∃ k : Nat, k ≤ l.length ∧ s9 = .int .i64 k ∧ s7 = .int .i64 (hsum (l.take k) x) ∧ Holds w wr [blk b1 #[.int .i64 ex0, .int .i64 ey0, .bool bt, .int .i64 ecx, .int .i64 ecy, .int .i64 ex1, .int .i64 ey1] 47] [fun w => SliceAt w 5 (.slice va l.length vc) (l.map sptC)])
      (fun s7 s9 wr => 2 - (intOf s9).toNat)
    case atStart => exact ⟨0, by omega, rfl, rfl, hL⟩
    case round =>
      clear hL
      obtain ⟨k, hk, rfl, rfl, hL⟩ := hrel
      by_cases hkt : k < l.length
      · obtain ⟨va', vc', hv', _, _, hel⟩ := hL.fact0
        simp only [List.length_map, Value.slice.injEq, true_and] at hv'
        obtain ⟨rfl, rfl⟩ := hv'
        obtain ⟨b, o, rfl, _⟩ := hel k (by rw [List.length_map]; exact hkt)
        clear hel
        have hmem : l.getD k noSpt ∈ l := by simp [hkt]
        have hfit := (HFt.out _ hmem).1
        have htn := (HFt.out _ hmem).2
        have hstep := hsum_step hkt x
        have hbd := hsum_bd (fun s hs => (HFt.out s (List.mem_of_mem_take hs)).2 : ∀ s ∈ l.take k, -1 ≤ s.turn ∧ s.turn ≤ 1) x
        rw [List.length_take] at hbd
        have hr := hit_at hL.fact0 hkt rfl
        have HAt := Lib.hid (fun (w : World) (h : SliceAt w 5 (.slice (some ⟨b, o, none⟩) l.length vc) (l.map sptC)) => hit_at h hkt rfl)
        have HA := Lib.hid (fun w => rAbove_calls (l.getD k noSpt) x hfit w)
        have Hstep := Lib.hid hstep
        clear hstep hmem hfit
        generalize hsum (l.take k) x = S0 at *
        generalize l.getD k noSpt = s at *
        obtain ⟨turn, p, q, d, m⟩ := s
        unfold sptV at HA
        unfold sptC at hr HAt
        dsimp only at *
        generalize sgR (p - x * m) q d = v at *
        obtain ⟨t1, t2⟩ := htn
        obtain ⟨s1, s2⟩ := hbd
        have hkb : (k : Int) < (l.length : Int) := by omega
        rcases (by omega : 0 < v ∨ ¬ 0 < v) with hp | hp
        all_goals
          go_wp2_with (first | (go_at_call 76; (with_reducible refine (HA.out _).mono ?_); rintro e _ ⟨rfl, hb⟩; replace hL := hL.call hb; clear hb; have hc2 := (HAt.out _ hL.fact0) 0 _ rfl; rw [Nat.add_zero] at hc2) | (first | (clear hL n1; with_reducible intro b1 w1 hL) | (clear hL; with_reducible intro _ _ hL)) | (with_reducible refine wpC_alloc rfl _ rfl _ _ inferInstance hL ?_) | (with_reducible first | refine wpB_agg rfl _ _ _ rfl rfl hL ?_ | refine wpB_one rfl _ _ (.int _ _) rfl rfl rfl hL ?_ | refine wpB_one rfl _ _ (.slice _ _ _) rfl rfl rfl hL ?_ | refine wpB_one rfl _ _ (.bool _) rfl rfl rfl hL ?_ | refine wpB_one rfl _ _ (.pointer _) rfl rfl rfl hL ?_ | refine wpB_one rfl _ _ (.func _ _ _) rfl rfl rfl hL ?_) | (with_reducible first | refine wpH_max rfl _ _ _ _ rfl _ _ rfl rfl ?_ | refine wpH_min rfl _ _ _ _ rfl _ _ rfl rfl ?_) | ((with_reducible refine wpA_load rfl _ _ rfl _ rfl ?_); first | refine loadA hL ?_ | refine loadR hL ?_ | refine loadC hL ?_ | refine loadD ?_ | refine loadE hL ?_ | refine loadF ?_) | ((with_reducible refine wpA_index rfl _ _ _ rfl _ rfl _ rfl ?_); first | (refine indexA ?_; try rw [Int.toNat_natCast]) | refine indexC ?_) | ((with_reducible refine wpA_store rfl _ _ _ rfl _ rfl (.agg _) rfl ?_); refine storeR hL ?_; clear hL; intro _ hL) | ((with_reducible first | refine wpA_store rfl _ _ _ rfl _ rfl (.int _ _) rfl ?_ | refine wpA_store rfl _ _ _ rfl _ rfl (.slice _ _ _) rfl ?_ | refine wpA_store rfl _ _ _ rfl _ rfl (.bool _) rfl ?_ | refine wpA_store rfl _ _ _ rfl _ rfl (.pointer _) rfl ?_ | refine wpA_store rfl _ _ _ rfl _ rfl (.func _ _ _) rfl ?_); (first | refine storeA hL ?_ | refine storeO hL ?_); (clear hL; intro _ hL)) | ((with_reducible refine wpA_lit rfl _ _ _ rfl ?_); first | refine litA1 hL ?_ | refine litA2 hL ?_ | refine litA3 hL ?_ | refine litA4 hL ?_ | refine litA6 hL ?_) | ((with_reducible refine wpA_append rfl _ _ _ rfl (.slice _ _ _) rfl ?_); intro vq hvq; simp [go_sem] at hvq; subst hvq; refine appendA hL ?_; clear hL; intro _ _ _ hL; try dsimp only at hL) | ((with_reducible refine wpA_make rfl _ _ _ rfl _ rfl rfl ?_); refine makeA hL ?_))
          go_roundw
          case rel => exact ⟨k + 1, by omega, by go_num, by (rw [Hstep.out]; first | rw [if_pos hp] | rw [if_neg (by omega), Int.add_zero]), hL⟩
          case measure => simp [intOf]; omega
      · have e : k = l.length := by omega
        subst e
        rw [List.take_length]
        go_wp2_with (first | (first | (clear hL n1; with_reducible intro b1 w1 hL) | (clear hL; with_reducible intro _ _ hL)) | (with_reducible refine wpC_alloc rfl _ rfl _ _ inferInstance hL ?_) | (with_reducible first | refine wpB_agg rfl _ _ _ rfl rfl hL ?_ | refine wpB_one rfl _ _ (.int _ _) rfl rfl rfl hL ?_ | refine wpB_one rfl _ _ (.slice _ _ _) rfl rfl rfl hL ?_ | refine wpB_one rfl _ _ (.bool _) rfl rfl rfl hL ?_ | refine wpB_one rfl _ _ (.pointer _) rfl rfl rfl hL ?_ | refine wpB_one rfl _ _ (.func _ _ _) rfl rfl rfl hL ?_) | (with_reducible first | refine wpH_max rfl _ _ _ _ rfl _ _ rfl rfl ?_ | refine wpH_min rfl _ _ _ _ rfl _ _ rfl rfl ?_) | ((with_reducible refine wpA_load rfl _ _ rfl _ rfl ?_); first | refine loadA hL ?_ | refine loadR hL ?_ | refine loadC hL ?_ | refine loadD ?_ | refine loadE hL ?_ | refine loadF ?_) | ((with_reducible refine wpA_index rfl _ _ _ rfl _ rfl _ rfl ?_); first | (refine indexA ?_; try rw [Int.toNat_natCast]) | refine indexC ?_) | ((with_reducible refine wpA_store rfl _ _ _ rfl _ rfl (.agg _) rfl ?_); refine storeR hL ?_; clear hL; intro _ hL) | ((with_reducible first | refine wpA_store rfl _ _ _ rfl _ rfl (.int _ _) rfl ?_ | refine wpA_store rfl _ _ _ rfl _ rfl (.slice _ _ _) rfl ?_ | refine wpA_store rfl _ _ _ rfl _ rfl (.bool _) rfl ?_ | refine wpA_store rfl _ _ _ rfl _ rfl (.pointer _) rfl ?_ | refine wpA_store rfl _ _ _ rfl _ rfl (.func _ _ _) rfl ?_); (first | refine storeA hL ?_ | refine storeO hL ?_); (clear hL; intro _ hL)) | ((with_reducible refine wpA_lit rfl _ _ _ rfl ?_); first | refine litA1 hL ?_ | refine litA2 hL ?_ | refine litA3 hL ?_ | refine litA4 hL ?_ | refine litA6 hL ?_) | ((with_reducible refine wpA_append rfl _ _ _ rfl (.slice _ _ _) rfl ?_); intro vq hvq; simp [go_sem] at hvq; subst hvq; refine appendA hL ?_; clear hL; intro _ _ _ hL; try dsimp only at hL) | ((with_reducible refine wpA_make rfl _ _ _ rfl _ rfl rfl ?_); refine makeA hL ?_))
        go_ret
        exact ⟨ret_int HR.out.symm, hL.below⟩
  · have HR := Lib.hid (show turnG e x y = 0 by
      unfold turnG
      rw [if_neg]
      intro h
      simp only [Bool.and_eq_true] at h
      exact hok ⟨h.1, h.2.1, h.2.2⟩)
    have hc : mayE e = false ∨ (mayE e = true ∧ near1 x = false) ∨ (mayE e = true ∧ near1 x = true ∧ near1 y = false) := by
      revert hok
      cases mayE e <;> cases near1 x <;> cases near1 y <;> simp
    clear hok
    generalize turnG e x y = T at *
    rcases hc with h | ⟨h, h2⟩ | ⟨h, h2, h3⟩
    all_goals
      rw [h] at HM
      try rw [h2] at HX
      try rw [h3] at HY
      clear h
      try clear h2
      try clear h3
    all_goals
      obtain ⟨ex0, ey0, bt, ecx, ecy, ex1, ey1⟩ := e
      unfold edgeV at *
      dsimp only at *
      have n1 : True := trivial
      go_enter Try.func70, Try.ntmps70
      go_wp2_with (first | (go_at_call 73; (with_reducible refine (HM.out _).mono ?_); rintro e _ ⟨rfl, hb⟩; replace hL := hL.call hb; clear hb) | (go_at_call 74; (first | ((with_reducible refine (HX.out _).mono ?_); rintro e _ ⟨rfl, rfl⟩) | ((with_reducible refine (HY.out _).mono ?_); rintro e _ ⟨rfl, rfl⟩))) | (first | (clear hL n1; with_reducible intro b1 w1 hL) | (clear hL; with_reducible intro _ _ hL)) | (with_reducible refine wpC_alloc rfl _ rfl _ _ inferInstance hL ?_) | (with_reducible first | refine wpB_agg rfl _ _ _ rfl rfl hL ?_ | refine wpB_one rfl _ _ (.int _ _) rfl rfl rfl hL ?_ | refine wpB_one rfl _ _ (.slice _ _ _) rfl rfl rfl hL ?_ | refine wpB_one rfl _ _ (.bool _) rfl rfl rfl hL ?_ | refine wpB_one rfl _ _ (.pointer _) rfl rfl rfl hL ?_ | refine wpB_one rfl _ _ (.func _ _ _) rfl rfl rfl hL ?_) | (with_reducible first | refine wpH_max rfl _ _ _ _ rfl _ _ rfl rfl ?_ | refine wpH_min rfl _ _ _ _ rfl _ _ rfl rfl ?_) | ((with_reducible refine wpA_load rfl _ _ rfl _ rfl ?_); first | refine loadA hL ?_ | refine loadR hL ?_ | refine loadC hL ?_ | refine loadD ?_ | refine loadE hL ?_ | refine loadF ?_) | ((with_reducible refine wpA_index rfl _ _ _ rfl _ rfl _ rfl ?_); first | (refine indexA ?_; try rw [Int.toNat_natCast]) | refine indexC ?_) | ((with_reducible refine wpA_store rfl _ _ _ rfl _ rfl (.agg _) rfl ?_); refine storeR hL ?_; clear hL; intro _ hL) | ((with_reducible first | refine wpA_store rfl _ _ _ rfl _ rfl (.int _ _) rfl ?_ | refine wpA_store rfl _ _ _ rfl _ rfl (.slice _ _ _) rfl ?_ | refine wpA_store rfl _ _ _ rfl _ rfl (.bool _) rfl ?_ | refine wpA_store rfl _ _ _ rfl _ rfl (.pointer _) rfl ?_ | refine wpA_store rfl _ _ _ rfl _ rfl (.func _ _ _) rfl ?_); (first | refine storeA hL ?_ | refine storeO hL ?_); (clear hL; intro _ hL)) | ((with_reducible refine wpA_lit rfl _ _ _ rfl ?_); first | refine litA1 hL ?_ | refine litA2 hL ?_ | refine litA3 hL ?_ | refine litA4 hL ?_ | refine litA6 hL ?_) | ((with_reducible refine wpA_append rfl _ _ _ rfl (.slice _ _ _) rfl ?_); intro vq hvq; simp [go_sem] at hvq; subst hvq; refine appendA hL ?_; clear hL; intro _ _ _ hL; try dsimp only at hL) | ((with_reducible refine wpA_make rfl _ _ _ rfl _ rfl rfl ?_); refine makeA hL ?_))
      go_ret
      exact ⟨ret_int HR.out.symm, hL.below⟩

set_option maxRecDepth 100000 in
set_option maxHeartbeats 2000000 in
theorem rAt_calls (w : World) (v : Value) (l : List Edg) (hv : EdgesAt w v l) (hlen : l.length ≤ 1152921504606846976) (x y : Int) :
    Calls Try.prog 66 #[v, .int .i64 x, .int .i64 y] w fun r w' => r = .returned (.int .i64 (windG l x y)) ∧ Below w.heap.size w w' := by
  obtain ⟨a, cap, rfl, hlc, hcm, hel⟩ := hv.parts
  clear hv
  unfold maxLen at hcm
  have Hel := Lib.hid hel; clear hel
  have hL := Holds.start w
  go_enter Try.func66, Try.ntmps66
  go_wp2_with (first | ((clear hL; with_reducible intro _ _ hL)) | (with_reducible refine wpC_alloc rfl _ rfl _ _ inferInstance hL ?_) | (with_reducible first | refine wpB_agg rfl _ _ _ rfl rfl hL ?_ | refine wpB_one rfl _ _ (.int _ _) rfl rfl rfl hL ?_ | refine wpB_one rfl _ _ (.slice _ _ _) rfl rfl rfl hL ?_ | refine wpB_one rfl _ _ (.bool _) rfl rfl rfl hL ?_ | refine wpB_one rfl _ _ (.pointer _) rfl rfl rfl hL ?_ | refine wpB_one rfl _ _ (.func _ _ _) rfl rfl rfl hL ?_) | (with_reducible first | refine wpH_max rfl _ _ _ _ rfl _ _ rfl rfl ?_ | refine wpH_min rfl _ _ _ _ rfl _ _ rfl rfl ?_) | ((with_reducible refine wpA_load rfl _ _ rfl _ rfl ?_); first | refine loadA hL ?_ | refine loadR hL ?_ | refine loadC hL ?_ | refine loadD ?_ | refine loadE hL ?_ | refine loadF ?_) | ((with_reducible refine wpA_index rfl _ _ _ rfl _ rfl _ rfl ?_); first | (refine indexA ?_; try rw [Int.toNat_natCast]) | refine indexC ?_) | ((with_reducible refine wpA_store rfl _ _ _ rfl _ rfl (.agg _) rfl ?_); refine storeR hL ?_; clear hL; intro _ hL) | ((with_reducible first | refine wpA_store rfl _ _ _ rfl _ rfl (.int _ _) rfl ?_ | refine wpA_store rfl _ _ _ rfl _ rfl (.slice _ _ _) rfl ?_ | refine wpA_store rfl _ _ _ rfl _ rfl (.bool _) rfl ?_ | refine wpA_store rfl _ _ _ rfl _ rfl (.pointer _) rfl ?_ | refine wpA_store rfl _ _ _ rfl _ rfl (.func _ _ _) rfl ?_); (first | refine storeA hL ?_ | refine storeO hL ?_); (clear hL; intro _ hL)) | ((with_reducible refine wpA_lit rfl _ _ _ rfl ?_); first | refine litA1 hL ?_ | refine litA2 hL ?_ | refine litA3 hL ?_ | refine litA4 hL ?_ | refine litA6 hL ?_) | ((with_reducible refine wpA_append rfl _ _ _ rfl (.slice _ _ _) rfl ?_); intro vq hvq; simp [go_sem] at hvq; subst hvq; refine appendA hL ?_; clear hL; intro _ _ _ hL; try dsimp only at hL) | ((with_reducible refine wpA_make rfl _ _ _ rfl _ rfl rfl ?_); refine makeA hL ?_))
  go_loopw [7, 8] (fun s7 s8 wr => ∃ (k : Nat), k ≤ l.length ∧ s8 = .int .i64 k ∧ s7 = .int .i64 (windG (l.take k) x y) ∧ Holds w wr [] [])
    (fun s7 s8 wr => l.length - (intOf s8).toNat)
  case atStart => exact ⟨0, by omega, rfl, rfl, hL⟩
  case round =>
    clear hL
    obtain ⟨k, hk, rfl, rfl, hL⟩ := hrel
    by_cases hkt : k < l.length
    · obtain ⟨b, o, rfl, hc⟩ := Hel.out k hkt
      have hstep := windG_step hkt x y
      have hbd := windG_bd x y (l.take k)
      rw [List.length_take] at hbd
      have hlk : ((min k l.length : Nat) : Int) ≤ l.length := by omega
      have HT := Lib.hid (fun w => rTurns_calls (l.getD k default) x y w)
      have htb := turnG_bd (l.getD k default) x y
      have Hstep := Lib.hid hstep; clear hstep
      generalize windG (l.take k) x y = S0 at *
      generalize l.getD k default = e at *
      obtain ⟨ex0, ey0, bt, ecx, ecy, ex1, ey1⟩ := e
      unfold edgeV at HT
      unfold edgeC at hc
      dsimp only at HT hc
      generalize turnG ⟨ex0, ey0, bt, ecx, ecy, ex1, ey1⟩ x y = T at *
      obtain ⟨g1, g2⟩ := hbd
      obtain ⟨g3, g4⟩ := htb
      have hkb : (k : Int) < (l.length : Int) := by omega
      go_wp2_with (first | (go_at_call 70; (with_reducible refine (HT.out _).mono ?_); rintro e _ ⟨rfl, hb⟩; replace hL := hL.call hb; clear hb) | ((clear hL; with_reducible intro _ _ hL)) | (with_reducible refine wpC_alloc rfl _ rfl _ _ inferInstance hL ?_) | (with_reducible first | refine wpB_agg rfl _ _ _ rfl rfl hL ?_ | refine wpB_one rfl _ _ (.int _ _) rfl rfl rfl hL ?_ | refine wpB_one rfl _ _ (.slice _ _ _) rfl rfl rfl hL ?_ | refine wpB_one rfl _ _ (.bool _) rfl rfl rfl hL ?_ | refine wpB_one rfl _ _ (.pointer _) rfl rfl rfl hL ?_ | refine wpB_one rfl _ _ (.func _ _ _) rfl rfl rfl hL ?_) | (with_reducible first | refine wpH_max rfl _ _ _ _ rfl _ _ rfl rfl ?_ | refine wpH_min rfl _ _ _ _ rfl _ _ rfl rfl ?_) | ((with_reducible refine wpA_load rfl _ _ rfl _ rfl ?_); first | refine loadA hL ?_ | refine loadR hL ?_ | refine loadC hL ?_ | refine loadD ?_ | refine loadE hL ?_ | refine loadF ?_) | ((with_reducible refine wpA_index rfl _ _ _ rfl _ rfl _ rfl ?_); first | (refine indexA ?_; try rw [Int.toNat_natCast]) | refine indexC ?_) | ((with_reducible refine wpA_store rfl _ _ _ rfl _ rfl (.agg _) rfl ?_); refine storeR hL ?_; clear hL; intro _ hL) | ((with_reducible first | refine wpA_store rfl _ _ _ rfl _ rfl (.int _ _) rfl ?_ | refine wpA_store rfl _ _ _ rfl _ rfl (.slice _ _ _) rfl ?_ | refine wpA_store rfl _ _ _ rfl _ rfl (.bool _) rfl ?_ | refine wpA_store rfl _ _ _ rfl _ rfl (.pointer _) rfl ?_ | refine wpA_store rfl _ _ _ rfl _ rfl (.func _ _ _) rfl ?_); (first | refine storeA hL ?_ | refine storeO hL ?_); (clear hL; intro _ hL)) | ((with_reducible refine wpA_lit rfl _ _ _ rfl ?_); first | refine litA1 hL ?_ | refine litA2 hL ?_ | refine litA3 hL ?_ | refine litA4 hL ?_ | refine litA6 hL ?_) | ((with_reducible refine wpA_append rfl _ _ _ rfl (.slice _ _ _) rfl ?_); intro vq hvq; simp [go_sem] at hvq; subst hvq; refine appendA hL ?_; clear hL; intro _ _ _ hL; try dsimp only at hL) | ((with_reducible refine wpA_make rfl _ _ _ rfl _ rfl rfl ?_); refine makeA hL ?_))
      go_roundw
      case rel => exact ⟨k + 1, by omega, by go_num, by rw [Hstep.out], hL⟩
      case measure => simp [intOf]; omega
    · have e : k = l.length := by omega
      subst e
      rw [List.take_length]
      go_wp2_with (first | ((clear hL; with_reducible intro _ _ hL)) | (with_reducible refine wpC_alloc rfl _ rfl _ _ inferInstance hL ?_) | (with_reducible first | refine wpB_agg rfl _ _ _ rfl rfl hL ?_ | refine wpB_one rfl _ _ (.int _ _) rfl rfl rfl hL ?_ | refine wpB_one rfl _ _ (.slice _ _ _) rfl rfl rfl hL ?_ | refine wpB_one rfl _ _ (.bool _) rfl rfl rfl hL ?_ | refine wpB_one rfl _ _ (.pointer _) rfl rfl rfl hL ?_ | refine wpB_one rfl _ _ (.func _ _ _) rfl rfl rfl hL ?_) | (with_reducible first | refine wpH_max rfl _ _ _ _ rfl _ _ rfl rfl ?_ | refine wpH_min rfl _ _ _ _ rfl _ _ rfl rfl ?_) | ((with_reducible refine wpA_load rfl _ _ rfl _ rfl ?_); first | refine loadA hL ?_ | refine loadR hL ?_ | refine loadC hL ?_ | refine loadD ?_ | refine loadE hL ?_ | refine loadF ?_) | ((with_reducible refine wpA_index rfl _ _ _ rfl _ rfl _ rfl ?_); first | (refine indexA ?_; try rw [Int.toNat_natCast]) | refine indexC ?_) | ((with_reducible refine wpA_store rfl _ _ _ rfl _ rfl (.agg _) rfl ?_); refine storeR hL ?_; clear hL; intro _ hL) | ((with_reducible first | refine wpA_store rfl _ _ _ rfl _ rfl (.int _ _) rfl ?_ | refine wpA_store rfl _ _ _ rfl _ rfl (.slice _ _ _) rfl ?_ | refine wpA_store rfl _ _ _ rfl _ rfl (.bool _) rfl ?_ | refine wpA_store rfl _ _ _ rfl _ rfl (.pointer _) rfl ?_ | refine wpA_store rfl _ _ _ rfl _ rfl (.func _ _ _) rfl ?_); (first | refine storeA hL ?_ | refine storeO hL ?_); (clear hL; intro _ hL)) | ((with_reducible refine wpA_lit rfl _ _ _ rfl ?_); first | refine litA1 hL ?_ | refine litA2 hL ?_ | refine litA3 hL ?_ | refine litA4 hL ?_ | refine litA6 hL ?_) | ((with_reducible refine wpA_append rfl _ _ _ rfl (.slice _ _ _) rfl ?_); intro vq hvq; simp [go_sem] at hvq; subst hvq; refine appendA hL ?_; clear hL; intro _ _ _ hL; try dsimp only at hL) | ((with_reducible refine wpA_make rfl _ _ _ rfl _ rfl rfl ?_); refine makeA hL ?_))
      go_ret
      exact ⟨rfl, hL.below⟩

theorem bne_dec (a : Int) : (a != 0) = decide (a ≠ 0) := by by_cases h : a = 0 <;> simp [h]
theorem rIsIn_calls (rule n : Int) (w : World) : Calls Try.prog 65 #[.int .i64 rule, .int .i64 n] w fun e w' => e = .returned (.bool (isIn rule n)) ∧ w = w' := by
  have hm : (n.tmod 2 = 0) ↔ (n % 2 = 0) := by rw [Int.tmod_eq_emod]; split <;> omega
  rcases (by omega : rule = 0 ∨ rule = 1 ∨ (rule ≠ 0 ∧ rule ≠ 1)) with h | h | ⟨h, h2⟩
  · subst h
    rcases (by omega : n = 0 ∨ n ≠ 0) with h3 | h3
    · subst h3
      go_enter Try.func65, Try.ntmps65
      go_wp2
      go_ret
      exact ⟨rfl, rfl⟩
    · have d1 : (n != 0) = true := by simp [h3]
      go_enter Try.func65, Try.ntmps65
      go_wp2
      go_ret
      exact ⟨ret_bool (by simp [isIn, h3]), rfl⟩
  · subst h
    have HM := Lib.hid hm; clear hm
    go_enter Try.func65, Try.ntmps65
    go_wp2
    go_ret
    exact ⟨ret_bool (by show (n.tmod 2 != 0) = decide (n % 2 ≠ 0); rw [bne_dec]; exact decide_eq_decide.2 (not_congr HM.out)), rfl⟩
  · have d1 : (rule == 0) = false := by simp [h]
    have d2 : (rule == 1) = false := by simp [h2]
    have HI := Lib.hid (show isIn rule n = false by simp [isIn, h, h2])
    clear hm h h2
    go_enter Try.func65, Try.ntmps65
    go_wp2
    go_ret
    exact ⟨ret_bool HI.out.symm, rfl⟩
set_option maxRecDepth 100000 in
theorem rIn_calls (w : World) (v : Value) (l : List Edg) (hv : EdgesAt w v l) (hlen : l.length ≤ 1152921504606846976) (rule x y : Int) :
    Calls Try.prog 44 #[v, .int .i64 rule, .int .i64 x, .int .i64 y] w fun r w' => r = .returned (.bool (isIn rule (windG l x y))) ∧ Below w.heap.size w w' := by
  have HA := Lib.hid (rAt_calls w v l hv hlen x y)
  have HI := Lib.hid (fun w => rIsIn_calls rule (windG l x y) w)
  clear hv hlen
  generalize windG l x y = n at *
  have hL := Holds.start w
  go_enter Try.func44, Try.ntmps44
  go_wp2_with (first | (go_at_call 66; (with_reducible refine HA.out.mono ?_); rintro e _ ⟨rfl, hb⟩; replace hL := hL.call hb; clear hb) | (go_at_call 65; (with_reducible refine (HI.out _).mono ?_); rintro e _ ⟨rfl, rfl⟩) | ((clear hL; with_reducible intro _ _ hL)) | (with_reducible refine wpC_alloc rfl _ rfl _ _ inferInstance hL ?_) | (with_reducible first | refine wpB_agg rfl _ _ _ rfl rfl hL ?_ | refine wpB_one rfl _ _ (.int _ _) rfl rfl rfl hL ?_ | refine wpB_one rfl _ _ (.slice _ _ _) rfl rfl rfl hL ?_ | refine wpB_one rfl _ _ (.bool _) rfl rfl rfl hL ?_ | refine wpB_one rfl _ _ (.pointer _) rfl rfl rfl hL ?_ | refine wpB_one rfl _ _ (.func _ _ _) rfl rfl rfl hL ?_) | (with_reducible first | refine wpH_max rfl _ _ _ _ rfl _ _ rfl rfl ?_ | refine wpH_min rfl _ _ _ _ rfl _ _ rfl rfl ?_) | ((with_reducible refine wpA_load rfl _ _ rfl _ rfl ?_); first | refine loadA hL ?_ | refine loadR hL ?_ | refine loadC hL ?_ | refine loadD ?_ | refine loadE hL ?_ | refine loadF ?_) | ((with_reducible refine wpA_index rfl _ _ _ rfl _ rfl _ rfl ?_); first | (refine indexA ?_; try rw [Int.toNat_natCast]) | refine indexC ?_) | ((with_reducible refine wpA_store rfl _ _ _ rfl _ rfl (.agg _) rfl ?_); refine storeR hL ?_; clear hL; intro _ hL) | ((with_reducible first | refine wpA_store rfl _ _ _ rfl _ rfl (.int _ _) rfl ?_ | refine wpA_store rfl _ _ _ rfl _ rfl (.slice _ _ _) rfl ?_ | refine wpA_store rfl _ _ _ rfl _ rfl (.bool _) rfl ?_ | refine wpA_store rfl _ _ _ rfl _ rfl (.pointer _) rfl ?_ | refine wpA_store rfl _ _ _ rfl _ rfl (.func _ _ _) rfl ?_); (first | refine storeA hL ?_ | refine storeO hL ?_); (clear hL; intro _ hL)) | ((with_reducible refine wpA_lit rfl _ _ _ rfl ?_); first | refine litA1 hL ?_ | refine litA2 hL ?_ | refine litA3 hL ?_ | refine litA4 hL ?_ | refine litA6 hL ?_) | ((with_reducible refine wpA_append rfl _ _ _ rfl (.slice _ _ _) rfl ?_); intro vq hvq; simp [go_sem] at hvq; subst hvq; refine appendA hL ?_; clear hL; intro _ _ _ hL; try dsimp only at hL) | ((with_reducible refine wpA_make rfl _ _ _ rfl _ rfl rfl ?_); refine makeA hL ?_))
  go_ret
  exact ⟨rfl, hL.below⟩

theorem and_bit (n : Int) : bits .and .i64 n 1 = n % 2 := by
  have h1 : (BitVec.ofInt 64 1).toNat = 2 ^ 1 - 1 := by decide
  have key : (BitVec.ofInt 64 n &&& BitVec.ofInt 64 1).toNat = (n % ((2 ^ 64 : Nat) : Int)).toNat % 2 ^ 1 := by
    rw [BitVec.toNat_and, BitVec.toNat_ofInt, h1, Nat.and_two_pow_sub_one_eq_mod]
  show IntKind.i64.wrap ((BitVec.ofInt 64 n &&& BitVec.ofInt 64 1).toNat : Nat) = n % 2
  rw [key, IntKind.wrap_i64]
  omega
set_option maxRecDepth 100000 in
theorem windInG_calls (w : World) (v : Value) (l : List Edg) (hv : EdgesAt w v l) (hlen : l.length ≤ 1152921504606846976) (rule x y : Int) :
    Calls Try.prog 41 #[v, .int .i64 rule, .int .i64 x, .int .i64 y] w fun r w' => r = .returned (.bool (isIn rule (windG l x y))) ∧ Below w.heap.size w w' := by
  have HA := Lib.hid (windAtG_calls w v l hv hlen x y)
  clear hv hlen
  generalize windG l x y = n at *
  have eb := and_bit n
  have hL := Holds.start w
  rcases (by omega : rule = 0 ∨ rule = 1 ∨ (rule ≠ 0 ∧ rule ≠ 1)) with h | h | ⟨h, h2⟩
  · subst h
    go_enter Try.func41, Try.ntmps41
    go_wp2_with (first | (go_at_call 61; (with_reducible refine HA.out.mono ?_); rintro e _ ⟨rfl, hb⟩; replace hL := hL.call hb; clear hb) | ((clear hL; with_reducible intro _ _ hL)) | (with_reducible refine wpC_alloc rfl _ rfl _ _ inferInstance hL ?_) | (with_reducible first | refine wpB_agg rfl _ _ _ rfl rfl hL ?_ | refine wpB_one rfl _ _ (.int _ _) rfl rfl rfl hL ?_ | refine wpB_one rfl _ _ (.slice _ _ _) rfl rfl rfl hL ?_ | refine wpB_one rfl _ _ (.bool _) rfl rfl rfl hL ?_ | refine wpB_one rfl _ _ (.pointer _) rfl rfl rfl hL ?_ | refine wpB_one rfl _ _ (.func _ _ _) rfl rfl rfl hL ?_) | (with_reducible first | refine wpH_max rfl _ _ _ _ rfl _ _ rfl rfl ?_ | refine wpH_min rfl _ _ _ _ rfl _ _ rfl rfl ?_) | ((with_reducible refine wpA_load rfl _ _ rfl _ rfl ?_); first | refine loadA hL ?_ | refine loadR hL ?_ | refine loadC hL ?_ | refine loadD ?_ | refine loadE hL ?_ | refine loadF ?_) | ((with_reducible refine wpA_index rfl _ _ _ rfl _ rfl _ rfl ?_); first | (refine indexA ?_; try rw [Int.toNat_natCast]) | refine indexC ?_) | ((with_reducible refine wpA_store rfl _ _ _ rfl _ rfl (.agg _) rfl ?_); refine storeR hL ?_; clear hL; intro _ hL) | ((with_reducible first | refine wpA_store rfl _ _ _ rfl _ rfl (.int _ _) rfl ?_ | refine wpA_store rfl _ _ _ rfl _ rfl (.slice _ _ _) rfl ?_ | refine wpA_store rfl _ _ _ rfl _ rfl (.bool _) rfl ?_ | refine wpA_store rfl _ _ _ rfl _ rfl (.pointer _) rfl ?_ | refine wpA_store rfl _ _ _ rfl _ rfl (.func _ _ _) rfl ?_); (first | refine storeA hL ?_ | refine storeO hL ?_); (clear hL; intro _ hL)) | ((with_reducible refine wpA_lit rfl _ _ _ rfl ?_); first | refine litA1 hL ?_ | refine litA2 hL ?_ | refine litA3 hL ?_ | refine litA4 hL ?_ | refine litA6 hL ?_) | ((with_reducible refine wpA_append rfl _ _ _ rfl (.slice _ _ _) rfl ?_); intro vq hvq; simp [go_sem] at hvq; subst hvq; refine appendA hL ?_; clear hL; intro _ _ _ hL; try dsimp only at hL) | ((with_reducible refine wpA_make rfl _ _ _ rfl _ rfl rfl ?_); refine makeA hL ?_))
    go_ret
    exact ⟨ret_bool (by show (n != 0) = decide (n ≠ 0); exact bne_dec n), hL.below⟩
  · subst h
    go_enter Try.func41, Try.ntmps41
    go_wp2_with (first | (go_at_call 61; (with_reducible refine HA.out.mono ?_); rintro e _ ⟨rfl, hb⟩; replace hL := hL.call hb; clear hb) | ((clear hL; with_reducible intro _ _ hL)) | (with_reducible refine wpC_alloc rfl _ rfl _ _ inferInstance hL ?_) | (with_reducible first | refine wpB_agg rfl _ _ _ rfl rfl hL ?_ | refine wpB_one rfl _ _ (.int _ _) rfl rfl rfl hL ?_ | refine wpB_one rfl _ _ (.slice _ _ _) rfl rfl rfl hL ?_ | refine wpB_one rfl _ _ (.bool _) rfl rfl rfl hL ?_ | refine wpB_one rfl _ _ (.pointer _) rfl rfl rfl hL ?_ | refine wpB_one rfl _ _ (.func _ _ _) rfl rfl rfl hL ?_) | (with_reducible first | refine wpH_max rfl _ _ _ _ rfl _ _ rfl rfl ?_ | refine wpH_min rfl _ _ _ _ rfl _ _ rfl rfl ?_) | ((with_reducible refine wpA_load rfl _ _ rfl _ rfl ?_); first | refine loadA hL ?_ | refine loadR hL ?_ | refine loadC hL ?_ | refine loadD ?_ | refine loadE hL ?_ | refine loadF ?_) | ((with_reducible refine wpA_index rfl _ _ _ rfl _ rfl _ rfl ?_); first | (refine indexA ?_; try rw [Int.toNat_natCast]) | refine indexC ?_) | ((with_reducible refine wpA_store rfl _ _ _ rfl _ rfl (.agg _) rfl ?_); refine storeR hL ?_; clear hL; intro _ hL) | ((with_reducible first | refine wpA_store rfl _ _ _ rfl _ rfl (.int _ _) rfl ?_ | refine wpA_store rfl _ _ _ rfl _ rfl (.slice _ _ _) rfl ?_ | refine wpA_store rfl _ _ _ rfl _ rfl (.bool _) rfl ?_ | refine wpA_store rfl _ _ _ rfl _ rfl (.pointer _) rfl ?_ | refine wpA_store rfl _ _ _ rfl _ rfl (.func _ _ _) rfl ?_); (first | refine storeA hL ?_ | refine storeO hL ?_); (clear hL; intro _ hL)) | ((with_reducible refine wpA_lit rfl _ _ _ rfl ?_); first | refine litA1 hL ?_ | refine litA2 hL ?_ | refine litA3 hL ?_ | refine litA4 hL ?_ | refine litA6 hL ?_) | ((with_reducible refine wpA_append rfl _ _ _ rfl (.slice _ _ _) rfl ?_); intro vq hvq; simp [go_sem] at hvq; subst hvq; refine appendA hL ?_; clear hL; intro _ _ _ hL; try dsimp only at hL) | ((with_reducible refine wpA_make rfl _ _ _ rfl _ rfl rfl ?_); refine makeA hL ?_))
    go_ret
    exact ⟨ret_bool (by show _ = decide (n % 2 ≠ 0); first | exact bne_dec _ | (rw [eb]; exact bne_dec _)), hL.below⟩
  · have d1 : (rule == 0) = false := by simp [h]
    have d2 : (rule == 1) = false := by simp [h2]
    have HI := Lib.hid (show isIn rule n = false by simp [isIn, h, h2])
    go_enter Try.func41, Try.ntmps41
    go_wp2_with (first | (go_at_call 61; (with_reducible refine HA.out.mono ?_); rintro e _ ⟨rfl, hb⟩; replace hL := hL.call hb; clear hb) | ((clear hL; with_reducible intro _ _ hL)) | (with_reducible refine wpC_alloc rfl _ rfl _ _ inferInstance hL ?_) | (with_reducible first | refine wpB_agg rfl _ _ _ rfl rfl hL ?_ | refine wpB_one rfl _ _ (.int _ _) rfl rfl rfl hL ?_ | refine wpB_one rfl _ _ (.slice _ _ _) rfl rfl rfl hL ?_ | refine wpB_one rfl _ _ (.bool _) rfl rfl rfl hL ?_ | refine wpB_one rfl _ _ (.pointer _) rfl rfl rfl hL ?_ | refine wpB_one rfl _ _ (.func _ _ _) rfl rfl rfl hL ?_) | (with_reducible first | refine wpH_max rfl _ _ _ _ rfl _ _ rfl rfl ?_ | refine wpH_min rfl _ _ _ _ rfl _ _ rfl rfl ?_) | ((with_reducible refine wpA_load rfl _ _ rfl _ rfl ?_); first | refine loadA hL ?_ | refine loadR hL ?_ | refine loadC hL ?_ | refine loadD ?_ | refine loadE hL ?_ | refine loadF ?_) | ((with_reducible refine wpA_index rfl _ _ _ rfl _ rfl _ rfl ?_); first | (refine indexA ?_; try rw [Int.toNat_natCast]) | refine indexC ?_) | ((with_reducible refine wpA_store rfl _ _ _ rfl _ rfl (.agg _) rfl ?_); refine storeR hL ?_; clear hL; intro _ hL) | ((with_reducible first | refine wpA_store rfl _ _ _ rfl _ rfl (.int _ _) rfl ?_ | refine wpA_store rfl _ _ _ rfl _ rfl (.slice _ _ _) rfl ?_ | refine wpA_store rfl _ _ _ rfl _ rfl (.bool _) rfl ?_ | refine wpA_store rfl _ _ _ rfl _ rfl (.pointer _) rfl ?_ | refine wpA_store rfl _ _ _ rfl _ rfl (.func _ _ _) rfl ?_); (first | refine storeA hL ?_ | refine storeO hL ?_); (clear hL; intro _ hL)) | ((with_reducible refine wpA_lit rfl _ _ _ rfl ?_); first | refine litA1 hL ?_ | refine litA2 hL ?_ | refine litA3 hL ?_ | refine litA4 hL ?_ | refine litA6 hL ?_) | ((with_reducible refine wpA_append rfl _ _ _ rfl (.slice _ _ _) rfl ?_); intro vq hvq; simp [go_sem] at hvq; subst hvq; refine appendA hL ?_; clear hL; intro _ _ _ hL; try dsimp only at hL) | ((with_reducible refine wpA_make rfl _ _ _ rfl _ rfl rfl ?_); refine makeA hL ?_))
    go_ret
    exact ⟨ret_bool HI.out.symm, hL.below⟩

end Go.Proofs.Ytneddfiohekhiaa
