/- WindBoxes returns true. -/
import Derived.Test.YtmoabhfpibkcnaaBoxW
-- lit6
namespace Go.Proofs.Ytmoabhfpibkcnaa
open Go.RowKit

def coI (l : List Int) : Int := l.headD 0 % 320 - 32
theorem coI_bd (l : List Int) : -32 ≤ coI l ∧ coI l ≤ 287 := by
  have p1 := Int.emod_nonneg (l.headD 0) (show (320 : Int) ≠ 0 by omega)
  have p2 := Int.emod_lt_of_pos (l.headD 0) (show (0 : Int) < 320 by omega)
  unfold coI; omega
set_option maxRecDepth 100000 in
theorem coord_calls (w : World) (b : Nat) (T : TypeId) (s : Value) (hp : w.heap[b]? = some (.cells #[s] T (0, 0))) (l : List Int) (hs : NumsAt w s l) :
    Calls Try.prog 20 #[.pointer (some ⟨b, 0, none⟩)] w fun r w' => r = .returned (.int .i64 (coI l)) ∧ w' = w.setCell ⟨b, 0, none⟩ (tailV s) := by
  have H := Lib.hid (next_calls w b T s hp l hs 320 (by omega) (by omega))
  have p1 := Int.emod_nonneg (l.headD 0) (show (320 : Int) ≠ 0 by omega)
  have p2 := Int.emod_lt_of_pos (l.headD 0) (show (0 : Int) < 320 by omega)
  unfold coI
  generalize l.headD 0 % 320 = z at *
  clear hp hs
  go_enter Try.func20, Try.ntmps20
  go_wp2_with (first | (go_at_call 33; (with_reducible refine H.out.mono ?_); rintro e _ ⟨rfl, rfl⟩) | ((clear hL; with_reducible intro _ _ hL)) | (with_reducible refine wpC_alloc rfl _ rfl _ _ inferInstance hL ?_) | (with_reducible first | refine wpB_agg rfl _ _ _ rfl rfl hL ?_ | refine wpB_one rfl _ _ (.int _ _) rfl rfl rfl hL ?_ | refine wpB_one rfl _ _ (.slice _ _ _) rfl rfl rfl hL ?_ | refine wpB_one rfl _ _ (.bool _) rfl rfl rfl hL ?_ | refine wpB_one rfl _ _ (.pointer _) rfl rfl rfl hL ?_ | refine wpB_one rfl _ _ (.func _ _ _) rfl rfl rfl hL ?_) | (with_reducible first | refine wpH_max rfl _ _ _ _ rfl _ _ rfl rfl ?_ | refine wpH_min rfl _ _ _ _ rfl _ _ rfl rfl ?_) | ((with_reducible refine wpA_load rfl _ _ rfl _ rfl ?_); first | refine loadA hL ?_ | refine loadR hL ?_ | refine loadC hL ?_ | refine loadD ?_ | refine loadE hL ?_ | refine loadF ?_) | ((with_reducible refine wpA_index rfl _ _ _ rfl _ rfl _ rfl ?_); first | (refine indexA ?_; try rw [Int.toNat_natCast]) | refine indexC ?_) | ((with_reducible refine wpA_store rfl _ _ _ rfl _ rfl (.agg _) rfl ?_); refine storeR hL ?_; clear hL; intro _ hL) | ((with_reducible first | refine wpA_store rfl _ _ _ rfl _ rfl (.int _ _) rfl ?_ | refine wpA_store rfl _ _ _ rfl _ rfl (.slice _ _ _) rfl ?_ | refine wpA_store rfl _ _ _ rfl _ rfl (.bool _) rfl ?_ | refine wpA_store rfl _ _ _ rfl _ rfl (.pointer _) rfl ?_ | refine wpA_store rfl _ _ _ rfl _ rfl (.func _ _ _) rfl ?_); (first | refine storeA hL ?_ | refine storeO hL ?_); (clear hL; intro _ hL)) | ((with_reducible refine wpA_lit rfl _ _ _ rfl ?_); first | refine litA1 hL ?_ | refine litA2 hL ?_ | refine litA3 hL ?_ | refine litA4 hL ?_ | refine litA6 hL ?_) | ((with_reducible refine wpA_append rfl _ _ _ rfl (.slice _ _ _) rfl ?_); intro vq hvq; simp [go_sem] at hvq; subst hvq; refine appendA hL ?_; clear hL; intro _ _ _ hL; try dsimp only at hL) | ((with_reducible refine wpA_make rfl _ _ _ rfl _ rfl rfl ?_); refine makeA hL ?_))
  go_ret
  exact ⟨rfl, rfl⟩

def boxL (x0 y0 x1 y1 : Int) : List Edg := [⟨x0, y0, false, 0, 0, x1, y0⟩, ⟨x1, y0, false, 0, 0, x1, y1⟩, ⟨x1, y1, false, 0, 0, x0, y1⟩, ⟨x0, y1, false, 0, 0, x0, y0⟩]
theorem boxK_eq (x0 y0 x1 y1 u v : Int) : boxK x0 y0 x1 y1 u v = if (min x0 x1 ≤ u ∧ u < max x0 x1) ∧ (min y0 y1 ≤ v ∧ v < max y0 y1) then (if (x0 < x1 ↔ y0 < y1) then 1 else -1) else 0 := by
  unfold boxK
  simp only [decide_eq_decide]
theorem windS_append (x y : Int) (l m : List Edg) : windS (l ++ m) x y = windS l x y + windS m x y := by
  simp [windS]
theorem box_windS {x0 y0 x1 y1 u v : Int} (h0 : -32 ≤ x0 ∧ x0 ≤ 287) (h1 : -32 ≤ y0 ∧ y0 ≤ 287) (h2 : -32 ≤ x1 ∧ x1 ≤ 287) (h3 : -32 ≤ y1 ∧ y1 ≤ 287) (h6 : -60 ≤ u ∧ u ≤ 339) (h7 : -60 ≤ v ∧ v ≤ 339) :
    windS (boxL x0 y0 x1 y1) u v = boxK x0 y0 x1 y1 u v := by
  rw [← box_wind]
  simp only [windS, boxL, List.map_cons, List.map_nil, List.sum_cons, List.sum_nil]
  rw [turnE_small (by omega) (by omega) (by omega) (by omega) h6 h7, turnE_small (by omega) (by omega) (by omega) (by omega) h6 h7, turnE_small (by omega) (by omega) (by omega) (by omega) h6 h7, turnE_small (by omega) (by omega) (by omega) (by omega) h6 h7]
  omega
theorem boxL_straight {l : List Edg} (h : ∀ e ∈ l, e.bent = false) (x0 y0 x1 y1 : Int) : ∀ e ∈ l ++ boxL x0 y0 x1 y1, e.bent = false := by
  intro e he
  rcases List.mem_append.1 he with he | he
  · exact h e he
  · simp [boxL] at he
    rcases he with rfl | rfl | rfl | rfl <;> rfl

set_option maxRecDepth 100000 in
set_option maxHeartbeats 8000000 in
theorem windBoxes_calls (w : World) (va : Value) (na : List Int) (ha : NumsAt w va na) (x y : Int) : Calls Try.prog 5 #[va, .int .i64 x, .int .i64 y] w fun e w' => e = .returned (.bool true) ∧ Below w.heap.size w w' := by
  have hL := Holds.start w
  have hU := ptI_bd x
  have hV := ptI_bd y
  have HU := Lib.hid (fun w => point_calls x w)
  have HV := Lib.hid (fun w => point_calls y w)
  generalize ptI x = u at *
  generalize ptI y = v at *
  obtain ⟨hu0, hu1⟩ := hU
  obtain ⟨hv0, hv1⟩ := hV
  obtain ⟨a, cap, rfl, hlc, hcm, _⟩ := ha.parts
  have Ha := Lib.hid ha
  clear ha
  have n1 : True := trivial
  go_enter Try.func5, Try.ntmps5
  go_wp2_with (first | (go_at_call 13; (with_reducible refine (known_calls _).mono ?_); rintro e _ ⟨rfl, hb⟩; replace hL := hL.call hb; clear hb) | (go_at_call 18; (first | ((with_reducible refine (HU.out _).mono ?_); rintro e _ ⟨rfl, rfl⟩) | ((with_reducible refine (HV.out _).mono ?_); rintro e _ ⟨rfl, rfl⟩))) | (first | (clear hL n1; with_reducible intro b1 w1 hL) | (clear hL; with_reducible intro _ _ hL)) | (with_reducible refine wpC_alloc rfl _ rfl _ _ inferInstance hL ?_) | (with_reducible first | refine wpB_agg rfl _ _ _ rfl rfl hL ?_ | refine wpB_one rfl _ _ (.int _ _) rfl rfl rfl hL ?_ | refine wpB_one rfl _ _ (.slice _ _ _) rfl rfl rfl hL ?_ | refine wpB_one rfl _ _ (.bool _) rfl rfl rfl hL ?_ | refine wpB_one rfl _ _ (.pointer _) rfl rfl rfl hL ?_ | refine wpB_one rfl _ _ (.func _ _ _) rfl rfl rfl hL ?_) | (with_reducible first | refine wpH_max rfl _ _ _ _ rfl _ _ rfl rfl ?_ | refine wpH_min rfl _ _ _ _ rfl _ _ rfl rfl ?_) | ((with_reducible refine wpA_load rfl _ _ rfl _ rfl ?_); first | refine loadA hL ?_ | refine loadR hL ?_ | refine loadC hL ?_ | refine loadD ?_ | refine loadE hL ?_ | refine loadF ?_) | ((with_reducible refine wpA_index rfl _ _ _ rfl _ rfl _ rfl ?_); first | (refine indexA ?_; try rw [Int.toNat_natCast]) | refine indexC ?_) | ((with_reducible refine wpA_store rfl _ _ _ rfl _ rfl (.agg _) rfl ?_); refine storeR hL ?_; clear hL; intro _ hL) | ((with_reducible first | refine wpA_store rfl _ _ _ rfl _ rfl (.int _ _) rfl ?_ | refine wpA_store rfl _ _ _ rfl _ rfl (.slice _ _ _) rfl ?_ | refine wpA_store rfl _ _ _ rfl _ rfl (.bool _) rfl ?_ | refine wpA_store rfl _ _ _ rfl _ rfl (.pointer _) rfl ?_ | refine wpA_store rfl _ _ _ rfl _ rfl (.func _ _ _) rfl ?_); (first | refine storeA hL ?_ | refine storeO hL ?_); (clear hL; intro _ hL)) | ((with_reducible refine wpA_lit rfl _ _ _ rfl ?_); first | refine litA1 hL ?_ | refine litA2 hL ?_ | refine litA3 hL ?_ | refine litA4 hL ?_ | refine litA6 hL ?_) | ((with_reducible refine wpA_append rfl _ _ _ rfl (.slice _ _ _) rfl ?_); intro vq hvq; simp [go_sem] at hvq; subst hvq; refine appendA hL ?_; clear hL; intro _ _ _ hL; try dsimp only at hL) | ((with_reducible refine wpA_make rfl _ _ _ rfl _ rfl rfl ?_); refine makeA hL ?_))
  generalize b1 = bp at *
  go_loopw [10, 11, 12] (fun s10 s11 s12 wr => ∃ (k : Nat) (s : Value) (l : List Int) (es : List Edg) (wt : Int), k ≤ 6 ∧ s12 = .int .i64 k ∧ s11 = .int .i64 wt ∧ NumsAt w s l ∧ es.length = 4 * k ∧ (∀ e ∈ es, e.bent = false) ∧ windS es u v = wt ∧ -(k : Int) ≤ wt ∧ wt ≤ k ∧ Holds w wr [own w.heap.size 30 7 s10 (4 * k) (es.map edgeC).flatten, blk bp #[s] 35] [])
    (fun s10 s11 s12 wr => 6 - (intOf s12).toNat)
  case atStart => exact ⟨0, _, na, [], 0, by omega, rfl, rfl, Ha.out, rfl, none_bent, rfl, by omega, by omega, hL.newOwn⟩
  case round =>
    clear hL
    obtain ⟨k, s, l, es, wt, hk, rfl, rfl, hs, hes, hst, hwt, hw1, hw2, hL⟩ := hrel
    obtain ⟨sa, sc, hsv, hslc, hscm, _⟩ := hs.parts
    have HSt := Lib.hid hst
    have HWt := Lib.hid hwt
    have HS := Lib.hid hs
    have HEs := Lib.hid hes
    clear hst hwt hs hes
    by_cases hgo : 0 < l.length ∧ k < 6
    · obtain ⟨hg1, hg2⟩ := hgo
      have hg1' : (0 : Int) < (l.length : Int) := by omega
      have hg2' : (k : Int) < 6 := by omega
      subst hsv
      have hs1 := HS.out.tail
      obtain ⟨s1, e1⟩ : ∃ s1, tailV (.slice sa l.length sc) = s1 := ⟨_, rfl⟩
      rw [e1] at hs1
      have hs2 := hs1.tail
      obtain ⟨s2, e2⟩ : ∃ s2, tailV s1 = s2 := ⟨_, rfl⟩
      rw [e2] at hs2
      have hs3 := hs2.tail
      obtain ⟨s3, e3⟩ : ∃ s3, tailV s2 = s3 := ⟨_, rfl⟩
      rw [e3] at hs3
      have hs4 := hs3.tail
      obtain ⟨s4, e4⟩ : ∃ s4, tailV s3 = s4 := ⟨_, rfl⟩
      rw [e4] at hs4
      have hc0 := fun w0 hp hs => coord_calls w0 bp 35 (.slice sa l.length sc) hp l hs
      have hc1 := fun w0 hp hs => coord_calls w0 bp 35 s1 hp l.tail hs
      have hc2 := fun w0 hp hs => coord_calls w0 bp 35 s2 hp l.tail.tail hs
      have hc3 := fun w0 hp hs => coord_calls w0 bp 35 s3 hp l.tail.tail.tail hs
      rw [e1] at hc0; rw [e2] at hc1; rw [e3] at hc2; rw [e4] at hc3
      obtain ⟨c00, c01⟩ := coI_bd l
      obtain ⟨c10, c11⟩ := coI_bd l.tail
      obtain ⟨c20, c21⟩ := coI_bd l.tail.tail
      obtain ⟨c30, c31⟩ := coI_bd l.tail.tail.tail
      generalize coI l = x0 at *
      generalize coI l.tail = y0 at *
      generalize coI l.tail.tail = x1 at *
      generalize coI l.tail.tail.tail = y1 at *
      have HB := Lib.hid (box_windS (x0 := x0) (y0 := y0) (x1 := x1) (y1 := y1) ⟨c00, c01⟩ ⟨c10, c11⟩ ⟨c20, c21⟩ ⟨c30, c31⟩ ⟨hu0, hu1⟩ ⟨hv0, hv1⟩)
      have HS1 := Lib.hid hs1; have HS2 := Lib.hid hs2; have HS3 := Lib.hid hs3; have HS4 := Lib.hid hs4
      have HC0 := Lib.hid hc0; have HC1 := Lib.hid hc1; have HC2 := Lib.hid hc2; have HC3 := Lib.hid hc3
      clear hs1 hs2 hs3 hs4 hc0 hc1 hc2 hc3 e1 e2 e3 e4
      have n1 : True := trivial; have n2 : True := trivial
      go_wp2_with (first | (go_at_call 20; (first | ((refine (HC0.out _ (hL.row (.there .here)) (HS.out.hold hL)).mono ?_); rintro e _ ⟨rfl, rfl⟩; replace hL := hL.setCell (b := bp) (o := 0) (v := s1) updO) | ((refine (HC1.out _ (hL.row (.there .here)) (HS1.out.hold hL)).mono ?_); rintro e _ ⟨rfl, rfl⟩; replace hL := hL.setCell (b := bp) (o := 0) (v := s2) updO) | ((refine (HC2.out _ (hL.row (.there .here)) (HS2.out.hold hL)).mono ?_); rintro e _ ⟨rfl, rfl⟩; replace hL := hL.setCell (b := bp) (o := 0) (v := s3) updO) | ((refine (HC3.out _ (hL.row (.there .here)) (HS3.out.hold hL)).mono ?_); rintro e _ ⟨rfl, rfl⟩; replace hL := hL.setCell (b := bp) (o := 0) (v := s4) updO)); simp only [List.setIfInBounds_toArray, List.set_cons_zero, List.set_cons_succ] at hL) | (first | (clear hL n1; with_reducible intro b1 w1 hL) | (clear hL n2; with_reducible intro b2 w2 hL) | (clear hL; with_reducible intro _ _ hL)) | (with_reducible refine wpC_alloc rfl _ rfl _ _ inferInstance hL ?_) | (with_reducible first | refine wpB_agg rfl _ _ _ rfl rfl hL ?_ | refine wpB_one rfl _ _ (.int _ _) rfl rfl rfl hL ?_ | refine wpB_one rfl _ _ (.slice _ _ _) rfl rfl rfl hL ?_ | refine wpB_one rfl _ _ (.bool _) rfl rfl rfl hL ?_ | refine wpB_one rfl _ _ (.pointer _) rfl rfl rfl hL ?_ | refine wpB_one rfl _ _ (.func _ _ _) rfl rfl rfl hL ?_) | (with_reducible first | refine wpH_max rfl _ _ _ _ rfl _ _ rfl rfl ?_ | refine wpH_min rfl _ _ _ _ rfl _ _ rfl rfl ?_) | ((with_reducible refine wpA_load rfl _ _ rfl _ rfl ?_); first | refine loadA hL ?_ | refine loadR hL ?_ | refine loadC hL ?_ | refine loadD ?_ | refine loadE hL ?_ | refine loadF ?_) | ((with_reducible refine wpA_index rfl _ _ _ rfl _ rfl _ rfl ?_); first | (refine indexA ?_; try rw [Int.toNat_natCast]) | refine indexC ?_) | ((with_reducible refine wpA_store rfl _ _ _ rfl _ rfl (.agg _) rfl ?_); refine storeR hL ?_; clear hL; intro _ hL) | ((with_reducible first | refine wpA_store rfl _ _ _ rfl _ rfl (.int _ _) rfl ?_ | refine wpA_store rfl _ _ _ rfl _ rfl (.slice _ _ _) rfl ?_ | refine wpA_store rfl _ _ _ rfl _ rfl (.bool _) rfl ?_ | refine wpA_store rfl _ _ _ rfl _ rfl (.pointer _) rfl ?_ | refine wpA_store rfl _ _ _ rfl _ rfl (.func _ _ _) rfl ?_); (first | refine storeA hL ?_ | refine storeO hL ?_); (clear hL; intro _ hL)) | ((with_reducible refine wpA_lit rfl _ _ _ rfl ?_); first | refine litA1 hL ?_ | refine litA2 hL ?_ | refine litA3 hL ?_ | refine litA4 hL ?_ | refine litA6 hL ?_) | ((with_reducible refine wpA_append rfl _ _ _ rfl (.slice _ _ _) rfl ?_); intro vq hvq; simp [go_sem] at hvq; subst hvq; refine appendA hL ?_; clear hL; intro _ _ _ hL; try dsimp only at hL) | ((with_reducible refine wpA_make rfl _ _ _ rfl _ rfl rfl ?_); refine makeA hL ?_))
      all_goals
        try simp only [beq_iff_eq, beq_eq_false_iff_ne, ne_eq, decide_eq_decide] at *
        go_roundw
        case rel =>
          refine ⟨k + 1, s4, _, es ++ boxL x0 y0 x1 y1, _, by omega, by go_num, rfl, HS4.out, by simp only [boxL, List.length_append, List.length_cons, List.length_nil]; have := HEs.out; omega, boxL_straight HSt.out _ _ _ _, ?_, by omega, by omega, ?_⟩
          · rw [windS_append, HWt.out, HB.out, boxK_eq]
            (repeat' split) <;> omega
          · rw [List.map_append, List.flatten_append]
            exact hL
        case measure => simp [intOf]; omega
    · replace hL := hL.settle .here (φ := fun w => EdgesAt w _ es) fun w h => own_sliceAt h (by rw [List.length_map]; exact HEs.out.symm) rfl (edgeC_len es)
      have hs4 : sa = sa := rfl
      clear hs4
      rcases (by omega : (l.length : Int) = 0 ∨ (0 < (l.length : Int) ∧ k = 6)) with g1 | ⟨g1, g2⟩
      all_goals
        try subst g2
        subst hsv
        go_wp2_with (first | (go_at_call 14; (refine (windAt_calls _ _ es hL.fact0 HSt.out u v).mono ?_); rintro e _ ⟨rfl, hb⟩; rw [HWt.out]; replace hL := hL.call hb; clear hb) | (first | (clear hL n1; with_reducible intro b1 w1 hL) | (clear hL n2; with_reducible intro b2 w2 hL) | (clear hL; with_reducible intro _ _ hL)) | (with_reducible refine wpC_alloc rfl _ rfl _ _ inferInstance hL ?_) | (with_reducible first | refine wpB_agg rfl _ _ _ rfl rfl hL ?_ | refine wpB_one rfl _ _ (.int _ _) rfl rfl rfl hL ?_ | refine wpB_one rfl _ _ (.slice _ _ _) rfl rfl rfl hL ?_ | refine wpB_one rfl _ _ (.bool _) rfl rfl rfl hL ?_ | refine wpB_one rfl _ _ (.pointer _) rfl rfl rfl hL ?_ | refine wpB_one rfl _ _ (.func _ _ _) rfl rfl rfl hL ?_) | (with_reducible first | refine wpH_max rfl _ _ _ _ rfl _ _ rfl rfl ?_ | refine wpH_min rfl _ _ _ _ rfl _ _ rfl rfl ?_) | ((with_reducible refine wpA_load rfl _ _ rfl _ rfl ?_); first | refine loadA hL ?_ | refine loadR hL ?_ | refine loadC hL ?_ | refine loadD ?_ | refine loadE hL ?_ | refine loadF ?_) | ((with_reducible refine wpA_index rfl _ _ _ rfl _ rfl _ rfl ?_); first | (refine indexA ?_; try rw [Int.toNat_natCast]) | refine indexC ?_) | ((with_reducible refine wpA_store rfl _ _ _ rfl _ rfl (.agg _) rfl ?_); refine storeR hL ?_; clear hL; intro _ hL) | ((with_reducible first | refine wpA_store rfl _ _ _ rfl _ rfl (.int _ _) rfl ?_ | refine wpA_store rfl _ _ _ rfl _ rfl (.slice _ _ _) rfl ?_ | refine wpA_store rfl _ _ _ rfl _ rfl (.bool _) rfl ?_ | refine wpA_store rfl _ _ _ rfl _ rfl (.pointer _) rfl ?_ | refine wpA_store rfl _ _ _ rfl _ rfl (.func _ _ _) rfl ?_); (first | refine storeA hL ?_ | refine storeO hL ?_); (clear hL; intro _ hL)) | ((with_reducible refine wpA_lit rfl _ _ _ rfl ?_); first | refine litA1 hL ?_ | refine litA2 hL ?_ | refine litA3 hL ?_ | refine litA4 hL ?_ | refine litA6 hL ?_) | ((with_reducible refine wpA_append rfl _ _ _ rfl (.slice _ _ _) rfl ?_); intro vq hvq; simp [go_sem] at hvq; subst hvq; refine appendA hL ?_; clear hL; intro _ _ _ hL; try dsimp only at hL) | ((with_reducible refine wpA_make rfl _ _ _ rfl _ rfl rfl ?_); refine makeA hL ?_))
        go_ret
        exact ⟨ret_bool (by simp), hL.below⟩
end Go.Proofs.Ytmoabhfpibkcnaa
