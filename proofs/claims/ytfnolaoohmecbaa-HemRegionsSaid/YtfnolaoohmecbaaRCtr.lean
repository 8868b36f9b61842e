/- The document's contours: the walk. -/
import Derived.Test.YtfnolaoohmecbaaRMay
import Derived.Test.YtfnolaoohmecbaaCtrM
-- lit6
namespace Go.Proofs.Ytfnolaoohmecbaa
open Go.RowKit

theorem ctFold_shut {rest : List Sg} (h : maySF 4 rest = true) (done : List Ct) (c : Ct) (x y x' y' : Int) : ctFold rest done (some c) x y = ctFold rest done (some c) x' y' := by
  cases rest with
  | nil => rfl
  | cons s rest =>
    have h1 : s.kind = 1 := by
      rw [maySF, Bool.and_eq_true] at h
      have hr := h.1
      unfold rightS at hr
      by_cases h1 : s.kind = 1
      · exact h1
      · by_cases h4 : s.kind = 4 <;> by_cases h2 : s.kind = 2 ∨ s.kind = 3 <;> simp [h1, h4, h2] at hr
    rw [ctFold, ctFold, if_pos h1, if_pos h1]
/-- what stands of the contours, and how they lie -/
def RtHeld (w wr : World) (s3 : Value) (done : List Ct) (c : Ct) : Prop := ∃ (vs : List Value) (ve : Value), vs.length = done.length ∧
  Holds w wr [own w.heap.size 106 7 ve c.edges.length (c.edges.map edgeC).flatten, own w.heap.size 85 4 s3 (done.length + 1) ((List.zipWith ctC vs done).flatten ++ ctC ve c)] [fun w => ∀ i u, vs[i]? = some u → EdgesAt w u (done.getD i default).edges]

/-- the last contour joins those that are done -/
theorem RtHeld.settle {w wr : World} {s3 : Value} {done : List Ct} {c : Ct} (h : RtHeld w wr s3 done c) : ∃ vs : List Value, vs.length = (done ++ [c]).length ∧ Holds w wr [own w.heap.size 85 4 s3 (done ++ [c]).length (List.zipWith ctC vs (done ++ [c])).flatten] [fun w => ∀ i u, vs[i]? = some u → EdgesAt w u ((done ++ [c]).getD i default).edges] := by
  obtain ⟨vs, ve, hl, hL⟩ := h
  refine ⟨vs ++ [ve], by simp [hl], ?_⟩
  have h1 := (hL.settle .here (φ := fun w => EdgesAt w ve c.edges) fun w h => own_sliceAt h (by rw [List.length_map]) rfl (edgeC_len _)).join (χ := fun w => ∀ i u, (vs ++ [ve])[i]? = some u → EdgesAt w u ((done ++ [c]).getD i default).edges) fun w h1 h2 i u hu => by
    by_cases hi : i < vs.length
    · rw [List.getElem?_append_left hi] at hu
      have := h2 i u hu
      rwa [show (done ++ [c]).getD i default = done.getD i default by simp [List.getD, List.getElem?_append_left (show i < done.length by omega)]]
    · rw [List.getElem?_append_right (by omega)] at hu
      have hi0 : i - vs.length = 0 := by
        have := (List.getElem?_eq_some_iff.1 hu).1
        simp at this; omega
      rw [hi0] at hu
      simp at hu
      subst hu
      have hid : i = done.length := by omega
      rwa [show (done ++ [c]).getD i default = c by simp [hid]]
  rw [List.zipWith_append hl, List.flatten_append]
  simpa using h1
set_option maxRecDepth 100000 in
set_option maxHeartbeats 8000000 in
theorem rContours_calls (w : World) (v : Value) (l : List Sg) (hv : SegsAt w v l) : Calls Try.prog 43 #[v] w (CtsOut (contoursS l) w) := by
  have Hv := Lib.hid hv
  obtain ⟨a, cap, rfl, hlc, hcm, hel⟩ := hv.parts
  clear hv
  unfold maxLen at hcm
  have Hel := Lib.hid hel; clear hel
  have hL := Holds.start w
  cases hm : pathMay l with
  | false =>
    have HR := Lib.hid (show contoursS l = [] by unfold contoursS; rw [hm]; rfl)
    have HM := Lib.hid hm; clear hm
    generalize contoursS l = L at *
    go_enter Try.func43, Try.ntmps43
    go_wp2_with (first | (go_at_call 71; (with_reducible refine (rMay_calls _ _ l (Hv.out.hold hL)).mono ?_); rintro e _ ⟨rfl, hb⟩; rw [HM.out]; replace hL := hL.call hb; clear hb) | ((clear hL; with_reducible intro _ _ hL)) | (with_reducible refine wpC_alloc rfl _ rfl _ _ inferInstance hL ?_) | (with_reducible first | refine wpB_agg rfl _ _ _ rfl rfl hL ?_ | refine wpB_one rfl _ _ (.int _ _) rfl rfl rfl hL ?_ | refine wpB_one rfl _ _ (.slice _ _ _) rfl rfl rfl hL ?_ | refine wpB_one rfl _ _ (.bool _) rfl rfl rfl hL ?_ | refine wpB_one rfl _ _ (.pointer _) rfl rfl rfl hL ?_ | refine wpB_one rfl _ _ (.func _ _ _) rfl rfl rfl hL ?_) | (with_reducible first | refine wpH_max rfl _ _ _ _ rfl _ _ rfl rfl ?_ | refine wpH_min rfl _ _ _ _ rfl _ _ rfl rfl ?_) | ((with_reducible refine wpA_load rfl _ _ rfl _ rfl ?_); first | refine loadA hL ?_ | refine loadR hL ?_ | refine loadC hL ?_ | refine loadD ?_ | refine loadE hL ?_ | refine loadF ?_) | ((with_reducible refine wpA_index rfl _ _ _ rfl _ rfl _ rfl ?_); first | (refine indexA ?_; try rw [Int.toNat_natCast]) | refine indexC ?_) | ((with_reducible refine wpA_store rfl _ _ _ rfl _ rfl (.agg _) rfl ?_); refine storeR hL ?_; clear hL; intro _ hL) | ((with_reducible first | refine wpA_store rfl _ _ _ rfl _ rfl (.int _ _) rfl ?_ | refine wpA_store rfl _ _ _ rfl _ rfl (.slice _ _ _) rfl ?_ | refine wpA_store rfl _ _ _ rfl _ rfl (.bool _) rfl ?_ | refine wpA_store rfl _ _ _ rfl _ rfl (.pointer _) rfl ?_ | refine wpA_store rfl _ _ _ rfl _ rfl (.func _ _ _) rfl ?_); (first | refine storeA hL ?_ | refine storeO hL ?_); (clear hL; intro _ hL)) | ((with_reducible refine wpA_lit rfl _ _ _ rfl ?_); first | refine litA1 hL ?_ | refine litA2 hL ?_ | refine litA3 hL ?_ | refine litA4 hL ?_ | refine litA6 hL ?_) | ((with_reducible refine wpA_append rfl _ _ _ rfl (.slice _ _ _) rfl ?_); intro vq hvq; simp [go_sem] at hvq; subst hvq; refine appendA hL ?_; clear hL; intro _ _ _ hL; try dsimp only at hL) | ((with_reducible refine wpA_make rfl _ _ _ rfl _ rfl rfl ?_); refine makeA hL ?_))
    go_ret
    rw [HR.out]
    exact ⟨_, [], rfl, rfl, hL.below, (hL.triv (χ := fun w => CtsAt w (.slice none 0 0) [] []) fun w => ⟨⟨none, 0, rfl, Nat.le_refl _, by unfold maxLen; omega, fun i hi => by simp at hi⟩, fun i u hi => by simp at hi⟩).fresh⟩
  | true =>
    have HR := Lib.hid (show contoursS l = ctFold l [] none 0 0 by unfold contoursS; rw [hm]; rfl)
    have hmm : l.length ≤ 300 ∧ maySF 0 l = true := by simpa [pathMay] using hm
    obtain ⟨hl300, hmay⟩ := hmm
    have HM := Lib.hid hm; clear hm
    have HMay := Lib.hid hmay; clear hmay
    generalize contoursS l = L at *
    go_enter Try.func43, Try.ntmps43
    go_wp2_with (first | (go_at_call 71; (with_reducible refine (rMay_calls _ _ l (Hv.out.hold hL)).mono ?_); rintro e _ ⟨rfl, hb⟩; rw [HM.out]; replace hL := hL.call hb; clear hb) | ((clear hL; with_reducible intro _ _ hL)) | (with_reducible refine wpC_alloc rfl _ rfl _ _ inferInstance hL ?_) | (with_reducible first | refine wpB_agg rfl _ _ _ rfl rfl hL ?_ | refine wpB_one rfl _ _ (.int _ _) rfl rfl rfl hL ?_ | refine wpB_one rfl _ _ (.slice _ _ _) rfl rfl rfl hL ?_ | refine wpB_one rfl _ _ (.bool _) rfl rfl rfl hL ?_ | refine wpB_one rfl _ _ (.pointer _) rfl rfl rfl hL ?_ | refine wpB_one rfl _ _ (.func _ _ _) rfl rfl rfl hL ?_) | (with_reducible first | refine wpH_max rfl _ _ _ _ rfl _ _ rfl rfl ?_ | refine wpH_min rfl _ _ _ _ rfl _ _ rfl rfl ?_) | ((with_reducible refine wpA_load rfl _ _ rfl _ rfl ?_); first | refine loadA hL ?_ | refine loadR hL ?_ | refine loadC hL ?_ | refine loadD ?_ | refine loadE hL ?_ | refine loadF ?_) | ((with_reducible refine wpA_index rfl _ _ _ rfl _ rfl _ rfl ?_); first | (refine indexA ?_; try rw [Int.toNat_natCast]) | refine indexC ?_) | ((with_reducible refine wpA_store rfl _ _ _ rfl _ rfl (.agg _) rfl ?_); refine storeR hL ?_; clear hL; intro _ hL) | ((with_reducible first | refine wpA_store rfl _ _ _ rfl _ rfl (.int _ _) rfl ?_ | refine wpA_store rfl _ _ _ rfl _ rfl (.slice _ _ _) rfl ?_ | refine wpA_store rfl _ _ _ rfl _ rfl (.bool _) rfl ?_ | refine wpA_store rfl _ _ _ rfl _ rfl (.pointer _) rfl ?_ | refine wpA_store rfl _ _ _ rfl _ rfl (.func _ _ _) rfl ?_); (first | refine storeA hL ?_ | refine storeO hL ?_); (clear hL; intro _ hL)) | ((with_reducible refine wpA_lit rfl _ _ _ rfl ?_); first | refine litA1 hL ?_ | refine litA2 hL ?_ | refine litA3 hL ?_ | refine litA4 hL ?_ | refine litA6 hL ?_) | ((with_reducible refine wpA_append rfl _ _ _ rfl (.slice _ _ _) rfl ?_); intro vq hvq; simp [go_sem] at hvq; subst hvq; refine appendA hL ?_; clear hL; intro _ _ _ hL; try dsimp only at hL) | ((with_reducible refine wpA_make rfl _ _ _ rfl _ rfl rfl ?_); refine makeA hL ?_))
    go_loopw [3, 4, 5, 6] (fun s3 s4 s5 s14 wr => ∃ (k : Nat) (x y : Int), k ≤ l.length ∧ s14 = .int .i64 k ∧ s4 = .int .i64 x ∧ s5 = .int .i64 y ∧ maySF (lastK l k) (l.drop k) = true ∧ ((k = 0 ∧ s3 = .slice none 0 0 ∧ L = ctFold l [] none x y ∧ Holds w wr [] []) ∨ (0 < k ∧ ∃ (done : List Ct) (c : Ct), L = ctFold (l.drop k) done (some c) x y ∧ done.length + 1 ≤ k ∧ c.edges.length ≤ k ∧ RtHeld w wr s3 done c)))
      (fun s3 s4 s5 s14 wr => l.length - (intOf s14).toNat)
    case atStart => exact ⟨0, 0, 0, by omega, rfl, rfl, rfl, HMay.out, .inl ⟨rfl, rfl, HR.out, hL⟩⟩
    case round =>
      clear hL
      obtain ⟨k, x, y, hk, rfl, rfl, rfl, hmay, hst⟩ := hrel
      by_cases hkt : k < l.length
      · obtain ⟨b, o, rfl, hc⟩ := Hel.out k hkt
        rw [maySF_step hkt] at hmay
        simp only [Bool.and_eq_true] at hmay
        obtain ⟨hr, hmay⟩ := hmay
        have hdrop : l.drop k = l.getD k default :: l.drop (k + 1) := by rw [List.drop_eq_getElem_cons hkt]; simp [hkt]
        have hls := lastK_succ l k
        have HMay2 := Lib.hid hmay; clear hmay
        have hkb : (k : Int) < (l.length : Int) := by omega
        rcases hst with ⟨hk0, hs3, hfold, hL⟩ | ⟨hk0, done, c, hfold, hd1, hd2, hst⟩
        · subst hs3
          have hk1 : (l.getD k default).kind = 1 := rightS_first (by rw [hk0] at hr ⊢; exact hr)
          have hf2 : L = ctFold (l.drop (k + 1)) [] (some ⟨(l.getD k default).x, (l.getD k default).y, [], false⟩) (l.getD k default).x (l.getD k default).y := by
            rw [hfold]
            have hd0 : l = l.getD k default :: l.drop (k + 1) := by rw [← hdrop, hk0]; rfl
            have key : ∀ m : List Sg, m = l.getD k default :: l.drop (k + 1) → ctFold m [] none x y = ctFold (l.drop (k + 1)) [] (some ⟨(l.getD k default).x, (l.getD k default).y, [], false⟩) (l.getD k default).x (l.getD k default).y := fun m hm => by
              rw [hm, ctFold, if_pos hk1]; simp
            exact key l hd0
          have HF := Lib.hid hf2
          have HLs := Lib.hid hls
          have HK0 := Lib.hid hk0
          clear hf2 hfold hr hdrop hls hk0
          generalize l.getD k default = s at *
          obtain ⟨kind, sx, sy, scx, scy⟩ := s
          unfold segC at hc
          dsimp only at hc hk1
          subst hk1
          replace hL := hL.newOwn (B := w.heap.size) (e := 85) (size := 4)
          have n1 : True := trivial
          go_wp2_with (first | (first | (clear hL n1; with_reducible intro b1 w1 hL) | (clear hL; with_reducible intro _ _ hL)) | (with_reducible refine wpC_alloc rfl _ rfl _ _ inferInstance hL ?_) | (with_reducible first | refine wpB_agg rfl _ _ _ rfl rfl hL ?_ | refine wpB_one rfl _ _ (.int _ _) rfl rfl rfl hL ?_ | refine wpB_one rfl _ _ (.slice _ _ _) rfl rfl rfl hL ?_ | refine wpB_one rfl _ _ (.bool _) rfl rfl rfl hL ?_ | refine wpB_one rfl _ _ (.pointer _) rfl rfl rfl hL ?_ | refine wpB_one rfl _ _ (.func _ _ _) rfl rfl rfl hL ?_) | (with_reducible first | refine wpH_max rfl _ _ _ _ rfl _ _ rfl rfl ?_ | refine wpH_min rfl _ _ _ _ rfl _ _ rfl rfl ?_) | ((with_reducible refine wpA_load rfl _ _ rfl _ rfl ?_); first | refine loadA hL ?_ | refine loadR hL ?_ | refine loadC hL ?_ | refine loadD ?_ | refine loadE hL ?_ | refine loadF ?_) | ((with_reducible refine wpA_index rfl _ _ _ rfl _ rfl _ rfl ?_); first | (refine indexA ?_; try rw [Int.toNat_natCast]) | refine indexC ?_) | ((with_reducible refine wpA_store rfl _ _ _ rfl _ rfl (.agg _) rfl ?_); refine storeR hL ?_; clear hL; intro _ hL) | ((with_reducible first | refine wpA_store rfl _ _ _ rfl _ rfl (.int _ _) rfl ?_ | refine wpA_store rfl _ _ _ rfl _ rfl (.slice _ _ _) rfl ?_ | refine wpA_store rfl _ _ _ rfl _ rfl (.bool _) rfl ?_ | refine wpA_store rfl _ _ _ rfl _ rfl (.pointer _) rfl ?_ | refine wpA_store rfl _ _ _ rfl _ rfl (.func _ _ _) rfl ?_); (first | refine storeA hL ?_ | refine storeO hL ?_); (clear hL; intro _ hL)) | ((with_reducible refine wpA_lit rfl _ _ _ rfl ?_); first | refine litA1 hL ?_ | refine litA2 hL ?_ | refine litA3 hL ?_ | refine litA4 hL ?_ | refine litA6 hL ?_) | ((with_reducible refine wpA_append rfl _ _ _ rfl (.slice _ _ _) rfl ?_); intro vq hvq; simp [go_sem] at hvq; subst hvq; refine appendA hL ?_; clear hL; intro _ _ _ hL; try dsimp only at hL) | ((with_reducible refine wpA_make rfl _ _ _ rfl _ rfl rfl ?_); refine makeA hL ?_))
          replace hL := hL.drew
          have hS : (fun w' : World => w'.cell? ⟨b1, 1, none⟩ = some (.int .i64 sx) ∧ w'.cell? ⟨b1, 2, none⟩ = some (.int .i64 sy)) _ := ⟨(hL.cell .here).trans rfl, (hL.cell .here).trans rfl⟩
          refine wpH_begin (by kernel_rfl) (fun w' : World => w'.cell? ⟨b1, 1, none⟩ = some (.int .i64 sx) ∧ w'.cell? ⟨b1, 2, none⟩ = some (.int .i64 sy)) ?_
          refine stH (i := 0) (.pointer (some ⟨b1, 1, none⟩)) hS ?_ ?_; (· exact fun w' _ => (by go_simp)); simp only [Act.put, List.setIfInBounds_toArray, List.set_cons_zero, List.set_cons_succ]
          refine stH (i := 1) (.int .i64 sx) hS ?_ ?_; (· exact fun w' hw => run_loadOp _ _ rfl _ rfl _ (load_cell hw.1)); simp only [Act.put, List.setIfInBounds_toArray, List.set_cons_zero, List.set_cons_succ]
          refine stH (i := 2) (.pointer (some ⟨b1, 2, none⟩)) hS ?_ ?_; (· exact fun w' _ => (by go_simp)); simp only [Act.put, List.setIfInBounds_toArray, List.set_cons_zero, List.set_cons_succ]
          refine stH (i := 3) (.int .i64 sy) hS ?_ ?_; (· exact fun w' hw => run_loadOp _ _ rfl _ rfl _ (load_cell hw.2)); simp only [Act.put, List.setIfInBounds_toArray, List.set_cons_zero, List.set_cons_succ]
          refine stH (i := 4) (.int .i64 sx) hS ?_ ?_; (· exact fun w' _ => (by go_simp)); simp only [Act.put, List.setIfInBounds_toArray, List.set_cons_zero, List.set_cons_succ]
          refine stH (i := 5) (.int .i64 sy) hS ?_ ?_; (· exact fun w' _ => (by go_simp)); simp only [Act.put, List.setIfInBounds_toArray, List.set_cons_zero, List.set_cons_succ]
          refine wpAnyH_done (by kernel_rfl) ?_ _
          clear hS
          go_wp2
          go_roundw
          case rel =>
            refine ⟨k + 1, sx, sy, by omega, by go_num, rfl, rfl, by rw [HLs.out]; exact HMay2.out, .inr ⟨by omega, [], ⟨sx, sy, [], false⟩, HF.out, by simp, by simp, [], .slice none 0 0, rfl, ?_⟩⟩
            exact ((hL.drop .here).newOwn (B := w.heap.size) (e := 106) (size := 7)).triv fun w i u hu => by simp at hu
          case measure => simp [intOf]; omega
        · have hkind := rightS_kind hr
          rcases (by omega : (l.getD k default).kind = 1 ∨ (l.getD k default).kind = 4 ∨ ((l.getD k default).kind = 2 ∨ (l.getD k default).kind = 3)) with hk1 | hk1 | hk1
          · have hf2 : L = ctFold (l.drop (k + 1)) (done ++ [c]) (some ⟨(l.getD k default).x, (l.getD k default).y, [], false⟩) (l.getD k default).x (l.getD k default).y := by
              rw [hfold, hdrop, ctFold, if_pos hk1]; rfl
            obtain ⟨vs, hvl, hL⟩ := hst.settle
            obtain ⟨g3, c3, rfl⟩ := own_slice hL .here
            have hd3 : (done ++ [c]).length ≤ k := by simpa using hd1
            have HF := Lib.hid hf2
            have HLs := Lib.hid hls
            clear hf2 hfold hr hdrop hls hst hkind
            generalize done ++ [c] = done2 at *
            generalize l.getD k default = s at *
            obtain ⟨kind, sx, sy, scx, scy⟩ := s
            unfold segC at hc
            dsimp only at hc hk1
            subst hk1
            have n1 : True := trivial
            go_wp2_with (first | (first | (clear hL n1; with_reducible intro b1 w1 hL) | (clear hL; with_reducible intro _ _ hL)) | (with_reducible refine wpC_alloc rfl _ rfl _ _ inferInstance hL ?_) | (with_reducible first | refine wpB_agg rfl _ _ _ rfl rfl hL ?_ | refine wpB_one rfl _ _ (.int _ _) rfl rfl rfl hL ?_ | refine wpB_one rfl _ _ (.slice _ _ _) rfl rfl rfl hL ?_ | refine wpB_one rfl _ _ (.bool _) rfl rfl rfl hL ?_ | refine wpB_one rfl _ _ (.pointer _) rfl rfl rfl hL ?_ | refine wpB_one rfl _ _ (.func _ _ _) rfl rfl rfl hL ?_) | (with_reducible first | refine wpH_max rfl _ _ _ _ rfl _ _ rfl rfl ?_ | refine wpH_min rfl _ _ _ _ rfl _ _ rfl rfl ?_) | ((with_reducible refine wpA_load rfl _ _ rfl _ rfl ?_); first | refine loadA hL ?_ | refine loadR hL ?_ | refine loadC hL ?_ | refine loadD ?_ | refine loadE hL ?_ | refine loadF ?_) | ((with_reducible refine wpA_index rfl _ _ _ rfl _ rfl _ rfl ?_); first | (refine indexA ?_; try rw [Int.toNat_natCast]) | refine indexC ?_) | ((with_reducible refine wpA_store rfl _ _ _ rfl _ rfl (.agg _) rfl ?_); refine storeR hL ?_; clear hL; intro _ hL) | ((with_reducible first | refine wpA_store rfl _ _ _ rfl _ rfl (.int _ _) rfl ?_ | refine wpA_store rfl _ _ _ rfl _ rfl (.slice _ _ _) rfl ?_ | refine wpA_store rfl _ _ _ rfl _ rfl (.bool _) rfl ?_ | refine wpA_store rfl _ _ _ rfl _ rfl (.pointer _) rfl ?_ | refine wpA_store rfl _ _ _ rfl _ rfl (.func _ _ _) rfl ?_); (first | refine storeA hL ?_ | refine storeO hL ?_); (clear hL; intro _ hL)) | ((with_reducible refine wpA_lit rfl _ _ _ rfl ?_); first | refine litA1 hL ?_ | refine litA2 hL ?_ | refine litA3 hL ?_ | refine litA4 hL ?_ | refine litA6 hL ?_) | ((with_reducible refine wpA_append rfl _ _ _ rfl (.slice _ _ _) rfl ?_); intro vq hvq; simp [go_sem] at hvq; subst hvq; refine appendA hL ?_; clear hL; intro _ _ _ hL; try dsimp only at hL) | ((with_reducible refine wpA_make rfl _ _ _ rfl _ rfl rfl ?_); refine makeA hL ?_))
            replace hL := hL.drew
            have hS : (fun w' : World => w'.cell? ⟨b1, 1, none⟩ = some (.int .i64 sx) ∧ w'.cell? ⟨b1, 2, none⟩ = some (.int .i64 sy)) _ := ⟨(hL.cell .here).trans rfl, (hL.cell .here).trans rfl⟩
            refine wpH_begin (by kernel_rfl) (fun w' : World => w'.cell? ⟨b1, 1, none⟩ = some (.int .i64 sx) ∧ w'.cell? ⟨b1, 2, none⟩ = some (.int .i64 sy)) ?_
            refine stH (i := 0) (.pointer (some ⟨b1, 1, none⟩)) hS ?_ ?_; (· exact fun w' _ => (by go_simp)); simp only [Act.put, List.setIfInBounds_toArray, List.set_cons_zero, List.set_cons_succ]
            refine stH (i := 1) (.int .i64 sx) hS ?_ ?_; (· exact fun w' hw => run_loadOp _ _ rfl _ rfl _ (load_cell hw.1)); simp only [Act.put, List.setIfInBounds_toArray, List.set_cons_zero, List.set_cons_succ]
            refine stH (i := 2) (.pointer (some ⟨b1, 2, none⟩)) hS ?_ ?_; (· exact fun w' _ => (by go_simp)); simp only [Act.put, List.setIfInBounds_toArray, List.set_cons_zero, List.set_cons_succ]
            refine stH (i := 3) (.int .i64 sy) hS ?_ ?_; (· exact fun w' hw => run_loadOp _ _ rfl _ rfl _ (load_cell hw.2)); simp only [Act.put, List.setIfInBounds_toArray, List.set_cons_zero, List.set_cons_succ]
            refine stH (i := 4) (.int .i64 sx) hS ?_ ?_; (· exact fun w' _ => (by go_simp)); simp only [Act.put, List.setIfInBounds_toArray, List.set_cons_zero, List.set_cons_succ]
            refine stH (i := 5) (.int .i64 sy) hS ?_ ?_; (· exact fun w' _ => (by go_simp)); simp only [Act.put, List.setIfInBounds_toArray, List.set_cons_zero, List.set_cons_succ]
            refine wpAnyH_done (by kernel_rfl) ?_ _
            clear hS
            go_wp2
            go_roundw
            case rel =>
              refine ⟨k + 1, sx, sy, by omega, by go_num, rfl, rfl, by rw [HLs.out]; exact HMay2.out, .inr ⟨by omega, done2, ⟨sx, sy, [], false⟩, HF.out, by omega, by simp, vs, .slice none 0 0, hvl, ?_⟩⟩
              exact (hL.drop .here).newOwn (B := w.heap.size) (e := 106) (size := 7)
            case measure => simp [intOf]; omega
          · have hk11 : ¬ (l.getD k default).kind = 1 := by omega
            have hf2 : L = ctFold (l.drop (k + 1)) done (some ⟨c.x, c.y, c.edges, true⟩) (l.getD k default).x (l.getD k default).y := by
              rw [hfold, hdrop, ctFold, if_neg hk11]
              simp only [hk1, if_true]
              exact ctFold_shut (by have := HMay2.out; rwa [hk1] at this) _ _ _ _ _ _
            obtain ⟨vs, ve, hvl, hL⟩ := hst
            obtain ⟨g, oc, rfl, _, _⟩ := (hL.at (.there .here)).form (by omega)
            have hzl : ((List.zipWith ctC vs done).flatten ++ ctC ve c).length = done.length * 4 + 4 := by rw [List.length_append, zip_flat_len vs done hvl]; rfl
            have HX := Lib.hid (show ((List.zipWith ctC vs done).flatten ++ ctC ve c).set (done.length * 4 + 3) (.bool true) = (List.zipWith ctC vs done).flatten ++ ctC ve ⟨c.x, c.y, c.edges, true⟩ by
              rw [List.set_append_right (h := by rw [zip_flat_len vs done hvl]; omega), zip_flat_len vs done hvl, show done.length * 4 + 3 - done.length * 4 = 3 by omega]; rfl)
            generalize (List.zipWith ctC vs done).flatten ++ ctC ve c = xs at *
            have HF := Lib.hid hf2
            have HLs := Lib.hid hls
            clear hf2 hfold hr hdrop hls hkind hk11
            generalize l.getD k default = s at *
            obtain ⟨kind, sx, sy, scx, scy⟩ := s
            unfold segC at hc
            dsimp only at hc hk1
            subst hk1
            have n1 : True := trivial
            go_wp2_with (first | (first | (clear hL n1; with_reducible intro b1 w1 hL) | (clear hL; with_reducible intro _ _ hL)) | (with_reducible refine wpC_alloc rfl _ rfl _ _ inferInstance hL ?_) | (with_reducible first | refine wpB_agg rfl _ _ _ rfl rfl hL ?_ | refine wpB_one rfl _ _ (.int _ _) rfl rfl rfl hL ?_ | refine wpB_one rfl _ _ (.slice _ _ _) rfl rfl rfl hL ?_ | refine wpB_one rfl _ _ (.bool _) rfl rfl rfl hL ?_ | refine wpB_one rfl _ _ (.pointer _) rfl rfl rfl hL ?_ | refine wpB_one rfl _ _ (.func _ _ _) rfl rfl rfl hL ?_) | (with_reducible first | refine wpH_max rfl _ _ _ _ rfl _ _ rfl rfl ?_ | refine wpH_min rfl _ _ _ _ rfl _ _ rfl rfl ?_) | ((with_reducible refine wpA_load rfl _ _ rfl _ rfl ?_); first | refine loadA hL ?_ | refine loadR hL ?_ | refine loadC hL ?_ | refine loadD ?_ | refine loadE hL ?_ | refine loadF ?_) | ((with_reducible refine wpA_index rfl _ _ _ rfl _ rfl _ rfl ?_); first | (refine indexA ?_; try rw [Int.toNat_natCast]) | refine indexC ?_) | ((with_reducible refine wpA_store rfl _ _ _ rfl _ rfl (.agg _) rfl ?_); refine storeR hL ?_; clear hL; intro _ hL) | ((with_reducible first | refine wpA_store rfl _ _ _ rfl _ rfl (.int _ _) rfl ?_ | refine wpA_store rfl _ _ _ rfl _ rfl (.slice _ _ _) rfl ?_ | refine wpA_store rfl _ _ _ rfl _ rfl (.bool _) rfl ?_ | refine wpA_store rfl _ _ _ rfl _ rfl (.pointer _) rfl ?_ | refine wpA_store rfl _ _ _ rfl _ rfl (.func _ _ _) rfl ?_); (first | refine storeA hL ?_ | refine storeO hL ?_); (clear hL; intro _ hL)) | ((with_reducible refine wpA_lit rfl _ _ _ rfl ?_); first | refine litA1 hL ?_ | refine litA2 hL ?_ | refine litA3 hL ?_ | refine litA4 hL ?_ | refine litA6 hL ?_) | ((with_reducible refine wpA_append rfl _ _ _ rfl (.slice _ _ _) rfl ?_); intro vq hvq; simp [go_sem] at hvq; subst hvq; refine appendA hL ?_; clear hL; intro _ _ _ hL; try dsimp only at hL) | ((with_reducible refine wpA_make rfl _ _ _ rfl _ rfl rfl ?_); refine makeA hL ?_))
            replace hL := hL.drew
            have hS : (fun w' : World => w'.cell? ⟨b1, 1, none⟩ = some (.int .i64 sx) ∧ w'.cell? ⟨b1, 2, none⟩ = some (.int .i64 sy)) _ := ⟨(hL.cell .here).trans rfl, (hL.cell .here).trans rfl⟩
            refine wpH_begin (by kernel_rfl) (fun w' : World => w'.cell? ⟨b1, 1, none⟩ = some (.int .i64 sx) ∧ w'.cell? ⟨b1, 2, none⟩ = some (.int .i64 sy)) ?_
            refine stH (i := 0) (.pointer (some ⟨b1, 1, none⟩)) hS ?_ ?_; (· exact fun w' _ => (by go_simp)); simp only [Act.put, List.setIfInBounds_toArray, List.set_cons_zero, List.set_cons_succ]
            refine stH (i := 1) (.int .i64 sx) hS ?_ ?_; (· exact fun w' hw => run_loadOp _ _ rfl _ rfl _ (load_cell hw.1)); simp only [Act.put, List.setIfInBounds_toArray, List.set_cons_zero, List.set_cons_succ]
            refine stH (i := 2) (.pointer (some ⟨b1, 2, none⟩)) hS ?_ ?_; (· exact fun w' _ => (by go_simp)); simp only [Act.put, List.setIfInBounds_toArray, List.set_cons_zero, List.set_cons_succ]
            refine stH (i := 3) (.int .i64 sy) hS ?_ ?_; (· exact fun w' hw => run_loadOp _ _ rfl _ rfl _ (load_cell hw.2)); simp only [Act.put, List.setIfInBounds_toArray, List.set_cons_zero, List.set_cons_succ]
            refine stH (i := 4) (.int .i64 sx) hS ?_ ?_; (· exact fun w' _ => (by go_simp)); simp only [Act.put, List.setIfInBounds_toArray, List.set_cons_zero, List.set_cons_succ]
            refine stH (i := 5) (.int .i64 sy) hS ?_ ?_; (· exact fun w' _ => (by go_simp)); simp only [Act.put, List.setIfInBounds_toArray, List.set_cons_zero, List.set_cons_succ]
            refine wpAnyH_done (by kernel_rfl) ?_ _
            clear hS
            go_wp2
            go_roundw
            case rel =>
              refine ⟨k + 1, sx, sy, by omega, by go_num, rfl, rfl, by rw [HLs.out]; exact HMay2.out, .inr ⟨by omega, done, ⟨c.x, c.y, c.edges, true⟩, HF.out, by omega, by simp only; omega, vs, ve, hvl, ?_⟩⟩
              rw [HX.out] at hL
              exact hL.drop .here
            case measure => simp [intOf]; omega
          · have hk11 : ¬ (l.getD k default).kind = 1 := by omega
            have hk14 : ¬ (l.getD k default).kind = 4 := by omega
            have hf2 : L = ctFold (l.drop (k + 1)) done (some ⟨c.x, c.y, c.edges ++ [segE x y (l.getD k default)], c.shut⟩) (l.getD k default).x (l.getD k default).y := by
              rw [hfold, hdrop, ctFold, if_neg hk11]
              simp only [hk14, if_false]
            obtain ⟨vs, ve, hvl, hL⟩ := hst
            obtain ⟨g, oc, rfl, _, _⟩ := (hL.at (.there .here)).form (by omega)
            obtain ⟨ea, ec, rfl⟩ := own_slice hL .here
            have hnb : ¬ ((done.length : Int) + 1 ≤ (done.length : Int)) := by omega
            have hzl : ((List.zipWith ctC vs done).flatten ++ ctC (.slice ea c.edges.length ec) c).length = done.length * 4 + 4 := by rw [List.length_append, zip_flat_len vs done hvl]; rfl
            have HG := Lib.hid (show ((List.zipWith ctC vs done).flatten ++ ctC (.slice ea c.edges.length ec) c)[done.length * 4 + 2]? = some (.slice ea c.edges.length ec) by
              rw [List.getElem?_append_right (by rw [zip_flat_len vs done hvl]; omega), zip_flat_len vs done hvl, show done.length * 4 + 2 - done.length * 4 = 2 by omega]; rfl)
            have HX := Lib.hid (show ∀ u es, ((List.zipWith ctC vs done).flatten ++ ctC (.slice ea c.edges.length ec) c).set (done.length * 4 + 2) u = (List.zipWith ctC vs done).flatten ++ ctC u ⟨c.x, c.y, es, c.shut⟩ by
              intro u es
              rw [List.set_append_right (h := by rw [zip_flat_len vs done hvl]; omega), zip_flat_len vs done hvl, show done.length * 4 + 2 - done.length * 4 = 2 by omega]; rfl)
            have HE := Lib.hid (show ((c.edges ++ [segE x y (l.getD k default)]).map edgeC).flatten = (c.edges.map edgeC).flatten ++ [.int .i64 x, .int .i64 y, .bool ((l.getD k default).kind == 3), .int .i64 (l.getD k default).cx, .int .i64 (l.getD k default).cy, .int .i64 (l.getD k default).x, .int .i64 (l.getD k default).y] by
              rw [List.map_append, List.flatten_append]
              simp only [List.map_cons, List.map_nil, List.flatten_cons, List.flatten_nil, List.append_nil, segE, edgeC]; congr 3)
            have HEl := Lib.hid (show (c.edges ++ [segE x y (l.getD k default)]).length = c.edges.length + 1 by rw [List.length_append]; rfl)
            generalize (List.zipWith ctC vs done).flatten ++ ctC (.slice ea c.edges.length ec) c = xs at *
            generalize (c.edges.map edgeC).flatten = es at *
            have HF := Lib.hid hf2
            have HLs := Lib.hid hls
            clear hf2 hfold hr hdrop hls hkind hk1
            generalize c.edges ++ [segE x y (l.getD k default)] = edges2 at *
            generalize l.getD k default = s at *
            obtain ⟨kind, sx, sy, scx, scy⟩ := s
            unfold segC at hc
            dsimp only at hc hk11 hk14
            have n1 : True := trivial
            go_wp2_with (first | (first | (clear hL n1; with_reducible intro b1 w1 hL) | (clear hL; with_reducible intro _ _ hL)) | (with_reducible refine wpC_alloc rfl _ rfl _ _ inferInstance hL ?_) | (with_reducible first | refine wpB_agg rfl _ _ _ rfl rfl hL ?_ | refine wpB_one rfl _ _ (.int _ _) rfl rfl rfl hL ?_ | refine wpB_one rfl _ _ (.slice _ _ _) rfl rfl rfl hL ?_ | refine wpB_one rfl _ _ (.bool _) rfl rfl rfl hL ?_ | refine wpB_one rfl _ _ (.pointer _) rfl rfl rfl hL ?_ | refine wpB_one rfl _ _ (.func _ _ _) rfl rfl rfl hL ?_) | (with_reducible first | refine wpH_max rfl _ _ _ _ rfl _ _ rfl rfl ?_ | refine wpH_min rfl _ _ _ _ rfl _ _ rfl rfl ?_) | ((with_reducible refine wpA_load rfl _ _ rfl _ rfl ?_); first | refine loadA hL ?_ | refine loadR hL ?_ | refine loadC hL ?_ | refine loadD ?_ | refine loadE hL ?_ | refine loadF ?_) | ((with_reducible refine wpA_index rfl _ _ _ rfl _ rfl _ rfl ?_); first | (refine indexA ?_; try rw [Int.toNat_natCast]) | refine indexC ?_) | ((with_reducible refine wpA_store rfl _ _ _ rfl _ rfl (.agg _) rfl ?_); refine storeR hL ?_; clear hL; intro _ hL) | ((with_reducible first | refine wpA_store rfl _ _ _ rfl _ rfl (.int _ _) rfl ?_ | refine wpA_store rfl _ _ _ rfl _ rfl (.slice _ _ _) rfl ?_ | refine wpA_store rfl _ _ _ rfl _ rfl (.bool _) rfl ?_ | refine wpA_store rfl _ _ _ rfl _ rfl (.pointer _) rfl ?_ | refine wpA_store rfl _ _ _ rfl _ rfl (.func _ _ _) rfl ?_); (first | refine storeA hL ?_ | refine storeO hL ?_); (clear hL; intro _ hL)) | ((with_reducible refine wpA_lit rfl _ _ _ rfl ?_); first | refine litA1 hL ?_ | refine litA2 hL ?_ | refine litA3 hL ?_ | refine litA4 hL ?_ | refine litA6 hL ?_) | ((with_reducible refine wpA_append rfl _ _ _ rfl (.slice _ _ _) rfl ?_); intro vq hvq; simp [go_sem] at hvq; subst hvq; refine appendA hL ?_; clear hL; intro _ _ _ hL; try dsimp only at hL) | ((with_reducible refine wpA_make rfl _ _ _ rfl _ rfl rfl ?_); refine makeA hL ?_))
            replace hL := hL.drew
            refine wpM_begin (by kernel_rfl) (fun w' => w'.cell? ⟨b1, 0, none⟩ = some (.int .i64 kind) ∧ w'.cell? ⟨b1, 1, none⟩ = some (.int .i64 sx) ∧ w'.cell? ⟨b1, 2, none⟩ = some (.int .i64 sy) ∧ w'.cell? ⟨b1, 3, none⟩ = some (.int .i64 scx) ∧ w'.cell? ⟨b1, 4, none⟩ = some (.int .i64 scy) ∧ w'.cell? ⟨g, done.length * 4 + 2, none⟩ = some (.slice ea c.edges.length ec)) 25 ?_
            have hS : (fun w' : World => w'.cell? ⟨b1, 0, none⟩ = some (.int .i64 kind) ∧ w'.cell? ⟨b1, 1, none⟩ = some (.int .i64 sx) ∧ w'.cell? ⟨b1, 2, none⟩ = some (.int .i64 sy) ∧ w'.cell? ⟨b1, 3, none⟩ = some (.int .i64 scx) ∧ w'.cell? ⟨b1, 4, none⟩ = some (.int .i64 scy) ∧ w'.cell? ⟨g, done.length * 4 + 2, none⟩ = some (.slice ea c.edges.length ec)) _ := ⟨(hL.cell (by (repeat (first | with_reducible exact At.here | with_reducible apply At.there)))).trans rfl, (hL.cell (by (repeat (first | with_reducible exact At.here | with_reducible apply At.there)))).trans rfl, (hL.cell (by (repeat (first | with_reducible exact At.here | with_reducible apply At.there)))).trans rfl, (hL.cell (by (repeat (first | with_reducible exact At.here | with_reducible apply At.there)))).trans rfl, (hL.cell (by (repeat (first | with_reducible exact At.here | with_reducible apply At.there)))).trans rfl, hL.ownCell (by (repeat (first | with_reducible exact At.here | with_reducible apply At.there))) HG.out⟩
            refine stM (i := 0) (.slice (some ⟨g, 0, none⟩) (done.length + 1) oc) hS ?_ ?_; (· exact fun w' _ => (by go_simp)); simp only [Act.put, List.setIfInBounds_toArray, List.set_cons_zero, List.set_cons_succ]
            refine stM (i := 1) (.int .i64 (done.length : Int)) hS ?_ ?_; (· exact fun w' _ => (by go_simp)); simp only [Act.put, List.setIfInBounds_toArray, List.set_cons_zero, List.set_cons_succ]
            refine stM (i := 2) (.slice (some ⟨g, 0, none⟩) (done.length + 1) oc) hS ?_ ?_; (· exact fun w' _ => (by go_simp)); simp only [Act.put, List.setIfInBounds_toArray, List.set_cons_zero, List.set_cons_succ]
            refine stM (i := 3) (.int .i64 (done.length : Int)) hS ?_ ?_; (· exact fun w' _ => (by go_simp)); simp only [Act.put, List.setIfInBounds_toArray, List.set_cons_zero, List.set_cons_succ]
            refine stM (i := 4) (.pointer (some ⟨g, done.length * 4, none⟩)) hS ?_ ?_; (· exact fun w' _ => (by go_simp)); simp only [Act.put, List.setIfInBounds_toArray, List.set_cons_zero, List.set_cons_succ]
            refine stM (i := 5) (.pointer (some ⟨g, done.length * 4 + 2, none⟩)) hS ?_ ?_; (· exact fun w' _ => (by go_simp)); simp only [Act.put, List.setIfInBounds_toArray, List.set_cons_zero, List.set_cons_succ]
            refine stM (i := 6) (.slice ea c.edges.length ec) hS ?_ ?_; (· exact fun w' hw => run_loadOp _ _ rfl _ rfl _ (load_cell hw.2.2.2.2.2)); simp only [Act.put, List.setIfInBounds_toArray, List.set_cons_zero, List.set_cons_succ]
            refine stM (i := 7) (.int .i64 x) hS ?_ ?_; (· exact fun w' _ => (by go_simp)); simp only [Act.put, List.setIfInBounds_toArray, List.set_cons_zero, List.set_cons_succ]
            refine stM (i := 8) (.int .i64 y) hS ?_ ?_; (· exact fun w' _ => (by go_simp)); simp only [Act.put, List.setIfInBounds_toArray, List.set_cons_zero, List.set_cons_succ]
            refine stM (i := 9) (.pointer (some ⟨b1, 0, none⟩)) hS ?_ ?_; (· exact fun w' _ => (by go_simp)); simp only [Act.put, List.setIfInBounds_toArray, List.set_cons_zero, List.set_cons_succ]
            refine stM (i := 10) (.int .i64 kind) hS ?_ ?_; (· exact fun w' hw => run_loadOp _ _ rfl _ rfl _ (load_cell hw.1)); simp only [Act.put, List.setIfInBounds_toArray, List.set_cons_zero, List.set_cons_succ]
            refine stM (i := 11) (.bool (kind == 3)) hS ?_ ?_; (· exact fun w' _ => (by go_simp)); simp only [Act.put, List.setIfInBounds_toArray, List.set_cons_zero, List.set_cons_succ]
            refine stM (i := 12) (.pointer (some ⟨b1, 3, none⟩)) hS ?_ ?_; (· exact fun w' _ => (by go_simp)); simp only [Act.put, List.setIfInBounds_toArray, List.set_cons_zero, List.set_cons_succ]
            refine stM (i := 13) (.int .i64 scx) hS ?_ ?_; (· exact fun w' hw => run_loadOp _ _ rfl _ rfl _ (load_cell hw.2.2.2.1)); simp only [Act.put, List.setIfInBounds_toArray, List.set_cons_zero, List.set_cons_succ]
            refine stM (i := 14) (.pointer (some ⟨b1, 4, none⟩)) hS ?_ ?_; (· exact fun w' _ => (by go_simp)); simp only [Act.put, List.setIfInBounds_toArray, List.set_cons_zero, List.set_cons_succ]
            refine stM (i := 15) (.int .i64 scy) hS ?_ ?_; (· exact fun w' hw => run_loadOp _ _ rfl _ rfl _ (load_cell hw.2.2.2.2.1)); simp only [Act.put, List.setIfInBounds_toArray, List.set_cons_zero, List.set_cons_succ]
            refine stM (i := 16) (.pointer (some ⟨b1, 1, none⟩)) hS ?_ ?_; (· exact fun w' _ => (by go_simp)); simp only [Act.put, List.setIfInBounds_toArray, List.set_cons_zero, List.set_cons_succ]
            refine stM (i := 17) (.int .i64 sx) hS ?_ ?_; (· exact fun w' hw => run_loadOp _ _ rfl _ rfl _ (load_cell hw.2.1)); simp only [Act.put, List.setIfInBounds_toArray, List.set_cons_zero, List.set_cons_succ]
            refine stM (i := 18) (.pointer (some ⟨b1, 2, none⟩)) hS ?_ ?_; (· exact fun w' _ => (by go_simp)); simp only [Act.put, List.setIfInBounds_toArray, List.set_cons_zero, List.set_cons_succ]
            refine stM (i := 19) (.int .i64 sy) hS ?_ ?_; (· exact fun w' hw => run_loadOp _ _ rfl _ rfl _ (load_cell hw.2.2.1)); simp only [Act.put, List.setIfInBounds_toArray, List.set_cons_zero, List.set_cons_succ]
            refine stM (i := 20) (.agg #[.int .i64 x, .int .i64 y, .bool (kind == 3), .int .i64 scx, .int .i64 scy, .int .i64 sx, .int .i64 sy]) hS ?_ ?_; (· exact fun w' _ => (by go_simp)); simp only [Act.put, List.setIfInBounds_toArray, List.set_cons_zero, List.set_cons_succ]
            clear hS
            refine wpM_one (i := 21) (by kernel_rfl) (wpOp_of (by simp only [List.getElem?_toArray, List.getElem?_cons_zero, List.getElem?_cons_succ]; rfl) ?_)
            refine st_lit rfl _ _ _ rfl (litAt1 (.agg #[.int .i64 x, .int .i64 y, .bool (kind == 3), .int .i64 scx, .int .i64 scy, .int .i64 sx, .int .i64 sy]) (by simp only [List.map_toArray, List.map_cons, List.map_nil]; rfl) inferInstance inferInstance (by simp [go_sem, Value.cells]) (by decide) #[.int .i64 x, .int .i64 y, .bool (kind == 3), .int .i64 scx, .int .i64 scy, .int .i64 sx, .int .i64 sy] (by simp [go_sem, litCells, Value.cells]) hL ?_)
            clear hL
            intro b7 w7 hL
            have hS := (show (fun w' : World => w'.cell? ⟨b1, 0, none⟩ = some (.int .i64 kind) ∧ w'.cell? ⟨b1, 1, none⟩ = some (.int .i64 sx) ∧ w'.cell? ⟨b1, 2, none⟩ = some (.int .i64 sy) ∧ w'.cell? ⟨b1, 3, none⟩ = some (.int .i64 scx) ∧ w'.cell? ⟨b1, 4, none⟩ = some (.int .i64 scy) ∧ w'.cell? ⟨g, done.length * 4 + 2, none⟩ = some (.slice ea c.edges.length ec)) w7 from ⟨(hL.cell (by (repeat (first | with_reducible exact At.here | with_reducible apply At.there)))).trans rfl, (hL.cell (by (repeat (first | with_reducible exact At.here | with_reducible apply At.there)))).trans rfl, (hL.cell (by (repeat (first | with_reducible exact At.here | with_reducible apply At.there)))).trans rfl, (hL.cell (by (repeat (first | with_reducible exact At.here | with_reducible apply At.there)))).trans rfl, (hL.cell (by (repeat (first | with_reducible exact At.here | with_reducible apply At.there)))).trans rfl, hL.ownCell (by (repeat (first | with_reducible exact At.here | with_reducible apply At.there))) HG.out⟩)
            refine ⟨fun _ => hS, ?_⟩
            clear hS
            simp only [Act.put, List.setIfInBounds_toArray, List.set_cons_zero, List.set_cons_succ]
            refine wpM_one (i := 22) (by kernel_rfl) (wpOp_of (by simp only [List.getElem?_toArray, List.getElem?_cons_zero, List.getElem?_cons_succ]; rfl) ?_)
            refine st_append rfl _ _ _ rfl (.slice ea c.edges.length ec) (.slice (some ⟨b7, 0, none⟩) 1 1) rfl rfl (appendAt inferInstance inferInstance hL _ _ .here _ _ _ (fun r' => .there .here) rfl (by decide) rfl (by simp [go_sem, Value.oneCell']) (by omega) (by unfold maxLen; omega) (by omega) ?_)
            clear hL
            intro ng ncap w8 hL
            have hS := (show (fun w' : World => w'.cell? ⟨b1, 0, none⟩ = some (.int .i64 kind) ∧ w'.cell? ⟨b1, 1, none⟩ = some (.int .i64 sx) ∧ w'.cell? ⟨b1, 2, none⟩ = some (.int .i64 sy) ∧ w'.cell? ⟨b1, 3, none⟩ = some (.int .i64 scx) ∧ w'.cell? ⟨b1, 4, none⟩ = some (.int .i64 scy) ∧ w'.cell? ⟨g, done.length * 4 + 2, none⟩ = some (.slice ea c.edges.length ec)) w8 from ⟨(hL.cell (by (repeat (first | with_reducible exact At.here | with_reducible apply At.there)))).trans rfl, (hL.cell (by (repeat (first | with_reducible exact At.here | with_reducible apply At.there)))).trans rfl, (hL.cell (by (repeat (first | with_reducible exact At.here | with_reducible apply At.there)))).trans rfl, (hL.cell (by (repeat (first | with_reducible exact At.here | with_reducible apply At.there)))).trans rfl, (hL.cell (by (repeat (first | with_reducible exact At.here | with_reducible apply At.there)))).trans rfl, hL.ownCell (by (repeat (first | with_reducible exact At.here | with_reducible apply At.there))) HG.out⟩)
            refine ⟨fun _ => hS, ?_⟩
            simp only [Act.put, List.setIfInBounds_toArray, List.set_cons_zero, List.set_cons_succ]
            refine stO (i := 23) (.pointer (some ⟨g, done.length * 4, none⟩)) hS ?_ ?_; (· exact fun w' => (by go_simp)); simp only [Act.put, List.setIfInBounds_toArray, List.set_cons_zero, List.set_cons_succ]
            refine stM (i := 24) (.pointer (some ⟨g, done.length * 4 + 2, none⟩)) hS ?_ ?_; (· exact fun w' _ => (by go_simp)); simp only [Act.put, List.setIfInBounds_toArray, List.set_cons_zero, List.set_cons_succ]
            clear hS
            refine wpM_one (i := 25) (by kernel_rfl) (wpOp_of (by simp only [List.getElem?_toArray, List.getElem?_cons_zero, List.getElem?_cons_succ]; rfl) ?_)
            refine st_store rfl _ _ _ rfl ⟨g, done.length * 4 + 2, none⟩ rfl (.slice (some ⟨ng, 0, none⟩) (c.edges.length + 1) ncap) rfl (storeO hL ?_)
            clear hL
            intro w9 hL
            refine ⟨fun h => absurd rfl h, wpM_done (by kernel_rfl) ?_⟩
            simp only [Act.put]
            go_wp2
            replace hL := hL.drew
            have hS : (fun w' : World => w'.cell? ⟨b1, 1, none⟩ = some (.int .i64 sx) ∧ w'.cell? ⟨b1, 2, none⟩ = some (.int .i64 sy)) _ := ⟨(hL.cell .here).trans rfl, (hL.cell .here).trans rfl⟩
            refine wpH_begin (by kernel_rfl) (fun w' : World => w'.cell? ⟨b1, 1, none⟩ = some (.int .i64 sx) ∧ w'.cell? ⟨b1, 2, none⟩ = some (.int .i64 sy)) ?_
            refine stH (i := 0) (.pointer (some ⟨b1, 1, none⟩)) hS ?_ ?_; (· exact fun w' _ => (by go_simp)); simp only [Act.put, List.setIfInBounds_toArray, List.set_cons_zero, List.set_cons_succ]
            refine stH (i := 1) (.int .i64 sx) hS ?_ ?_; (· exact fun w' hw => run_loadOp _ _ rfl _ rfl _ (load_cell hw.1)); simp only [Act.put, List.setIfInBounds_toArray, List.set_cons_zero, List.set_cons_succ]
            refine stH (i := 2) (.pointer (some ⟨b1, 2, none⟩)) hS ?_ ?_; (· exact fun w' _ => (by go_simp)); simp only [Act.put, List.setIfInBounds_toArray, List.set_cons_zero, List.set_cons_succ]
            refine stH (i := 3) (.int .i64 sy) hS ?_ ?_; (· exact fun w' hw => run_loadOp _ _ rfl _ rfl _ (load_cell hw.2)); simp only [Act.put, List.setIfInBounds_toArray, List.set_cons_zero, List.set_cons_succ]
            refine stH (i := 4) (.int .i64 sx) hS ?_ ?_; (· exact fun w' _ => (by go_simp)); simp only [Act.put, List.setIfInBounds_toArray, List.set_cons_zero, List.set_cons_succ]
            refine stH (i := 5) (.int .i64 sy) hS ?_ ?_; (· exact fun w' _ => (by go_simp)); simp only [Act.put, List.setIfInBounds_toArray, List.set_cons_zero, List.set_cons_succ]
            refine wpAnyH_done (by kernel_rfl) ?_ _
            clear hS
            go_wp2
            go_roundw
            case rel =>
              refine ⟨k + 1, sx, sy, by omega, by go_num, rfl, rfl, by rw [HLs.out]; exact HMay2.out, .inr ⟨by omega, done, ⟨c.x, c.y, edges2, c.shut⟩, HF.out, by omega, by have := HEl.out; simp only; omega, vs, .slice (some ⟨ng, 0, none⟩) (c.edges.length + 1) ncap, hvl, ?_⟩⟩
              rw [HX.out _ edges2, ← HE.out, ← HEl.out] at hL
              have h3 := hL.drop .here
              simp only [HEl.out] at h3 ⊢
              exact h3
            case measure => simp [intOf]; omega
      · have e : k = l.length := by omega
        subst e
        rcases hst with ⟨hk0, hs3, hfold, hL⟩ | ⟨hk0, done, c, hfold, hd1, hd2, hst⟩
        · subst hs3
          have hnil : L = [] := by
            rw [hfold, List.length_eq_zero_iff.1 hk0]; rfl
          have HN := Lib.hid hnil
          clear hfold hnil
          go_wp2_with (first | (first | (clear hL n1; with_reducible intro b1 w1 hL) | (clear hL; with_reducible intro _ _ hL)) | (with_reducible refine wpC_alloc rfl _ rfl _ _ inferInstance hL ?_) | (with_reducible first | refine wpB_agg rfl _ _ _ rfl rfl hL ?_ | refine wpB_one rfl _ _ (.int _ _) rfl rfl rfl hL ?_ | refine wpB_one rfl _ _ (.slice _ _ _) rfl rfl rfl hL ?_ | refine wpB_one rfl _ _ (.bool _) rfl rfl rfl hL ?_ | refine wpB_one rfl _ _ (.pointer _) rfl rfl rfl hL ?_ | refine wpB_one rfl _ _ (.func _ _ _) rfl rfl rfl hL ?_) | (with_reducible first | refine wpH_max rfl _ _ _ _ rfl _ _ rfl rfl ?_ | refine wpH_min rfl _ _ _ _ rfl _ _ rfl rfl ?_) | ((with_reducible refine wpA_load rfl _ _ rfl _ rfl ?_); first | refine loadA hL ?_ | refine loadR hL ?_ | refine loadC hL ?_ | refine loadD ?_ | refine loadE hL ?_ | refine loadF ?_) | ((with_reducible refine wpA_index rfl _ _ _ rfl _ rfl _ rfl ?_); first | (refine indexA ?_; try rw [Int.toNat_natCast]) | refine indexC ?_) | ((with_reducible refine wpA_store rfl _ _ _ rfl _ rfl (.agg _) rfl ?_); refine storeR hL ?_; clear hL; intro _ hL) | ((with_reducible first | refine wpA_store rfl _ _ _ rfl _ rfl (.int _ _) rfl ?_ | refine wpA_store rfl _ _ _ rfl _ rfl (.slice _ _ _) rfl ?_ | refine wpA_store rfl _ _ _ rfl _ rfl (.bool _) rfl ?_ | refine wpA_store rfl _ _ _ rfl _ rfl (.pointer _) rfl ?_ | refine wpA_store rfl _ _ _ rfl _ rfl (.func _ _ _) rfl ?_); (first | refine storeA hL ?_ | refine storeO hL ?_); (clear hL; intro _ hL)) | ((with_reducible refine wpA_lit rfl _ _ _ rfl ?_); first | refine litA1 hL ?_ | refine litA2 hL ?_ | refine litA3 hL ?_ | refine litA4 hL ?_ | refine litA6 hL ?_) | ((with_reducible refine wpA_append rfl _ _ _ rfl (.slice _ _ _) rfl ?_); intro vq hvq; simp [go_sem] at hvq; subst hvq; refine appendA hL ?_; clear hL; intro _ _ _ hL; try dsimp only at hL) | ((with_reducible refine wpA_make rfl _ _ _ rfl _ rfl rfl ?_); refine makeA hL ?_))
          go_ret
          rw [HN.out]
          exact ⟨_, [], rfl, rfl, hL.below, (hL.triv (χ := fun w => CtsAt w (.slice none 0 0) [] []) fun w => ⟨⟨none, 0, rfl, Nat.le_refl _, by unfold maxLen; omega, fun i hi => by simp at hi⟩, fun i u hi => by simp at hi⟩).fresh⟩
        · obtain ⟨vs, hvl, hL⟩ := hst.settle
          rw [List.drop_length] at hfold
          have hL2 : L = done ++ [c] := by rw [hfold]; rfl
          have HN := Lib.hid hL2
          clear hL2 hfold hst
          generalize done ++ [c] = d2 at *
          obtain ⟨g, oc, rfl⟩ := own_slice hL .here
          go_wp2_with (first | (first | (clear hL n1; with_reducible intro b1 w1 hL) | (clear hL; with_reducible intro _ _ hL)) | (with_reducible refine wpC_alloc rfl _ rfl _ _ inferInstance hL ?_) | (with_reducible first | refine wpB_agg rfl _ _ _ rfl rfl hL ?_ | refine wpB_one rfl _ _ (.int _ _) rfl rfl rfl hL ?_ | refine wpB_one rfl _ _ (.slice _ _ _) rfl rfl rfl hL ?_ | refine wpB_one rfl _ _ (.bool _) rfl rfl rfl hL ?_ | refine wpB_one rfl _ _ (.pointer _) rfl rfl rfl hL ?_ | refine wpB_one rfl _ _ (.func _ _ _) rfl rfl rfl hL ?_) | (with_reducible first | refine wpH_max rfl _ _ _ _ rfl _ _ rfl rfl ?_ | refine wpH_min rfl _ _ _ _ rfl _ _ rfl rfl ?_) | ((with_reducible refine wpA_load rfl _ _ rfl _ rfl ?_); first | refine loadA hL ?_ | refine loadR hL ?_ | refine loadC hL ?_ | refine loadD ?_ | refine loadE hL ?_ | refine loadF ?_) | ((with_reducible refine wpA_index rfl _ _ _ rfl _ rfl _ rfl ?_); first | (refine indexA ?_; try rw [Int.toNat_natCast]) | refine indexC ?_) | ((with_reducible refine wpA_store rfl _ _ _ rfl _ rfl (.agg _) rfl ?_); refine storeR hL ?_; clear hL; intro _ hL) | ((with_reducible first | refine wpA_store rfl _ _ _ rfl _ rfl (.int _ _) rfl ?_ | refine wpA_store rfl _ _ _ rfl _ rfl (.slice _ _ _) rfl ?_ | refine wpA_store rfl _ _ _ rfl _ rfl (.bool _) rfl ?_ | refine wpA_store rfl _ _ _ rfl _ rfl (.pointer _) rfl ?_ | refine wpA_store rfl _ _ _ rfl _ rfl (.func _ _ _) rfl ?_); (first | refine storeA hL ?_ | refine storeO hL ?_); (clear hL; intro _ hL)) | ((with_reducible refine wpA_lit rfl _ _ _ rfl ?_); first | refine litA1 hL ?_ | refine litA2 hL ?_ | refine litA3 hL ?_ | refine litA4 hL ?_ | refine litA6 hL ?_) | ((with_reducible refine wpA_append rfl _ _ _ rfl (.slice _ _ _) rfl ?_); intro vq hvq; simp [go_sem] at hvq; subst hvq; refine appendA hL ?_; clear hL; intro _ _ _ hL; try dsimp only at hL) | ((with_reducible refine wpA_make rfl _ _ _ rfl _ rfl rfl ?_); refine makeA hL ?_))
          go_ret
          rw [HN.out]
          exact ⟨_, vs, rfl, hvl, hL.below, ((hL.settle .here (φ := fun w => SliceAt w 4 (.slice g d2.length oc) (List.zipWith ctC vs d2)) fun w h => own_sliceAt h (by simp [hvl]) rfl zip_len).join (χ := fun w => CtsAt w (.slice g d2.length oc) vs d2) fun w h1 h2 => ⟨h1, h2⟩).fresh⟩
end Go.Proofs.Ytfnolaoohmecbaa
