/- Package hem: row. -/
import Derived.Test.YtfnolaoohmecbaaHmC
import Derived.Test.YtfnolaoohmecbaaRgnM
-- lit6
namespace Go.Proofs.Ytfnolaoohmecbaa
open Go.RowKit

theorem fnK_enter (k : Nat) (a b : Value) (w : World) : (callFunc (fnK k) #[a, b]).run Try.prog w = .ok (.enter (fnK k) #[a, b]) w := by
  unfold fnK
  split
  · kernel_rfl
  · split <;> kernel_rfl
theorem run_snoc (p : List (Int × Int)) (r : Int × Int) : ((p ++ [r]).map runC).flatten = (p.map runC).flatten ++ runC r := by simp
theorem run_len (p : List (Int × Int)) (r : Int × Int) : (p ++ [r]).length = p.length + 1 := by simp
theorem runC_lens (l : List (Int × Int)) : ∀ c ∈ l.map runC, c.length = 2 := by
  intro c hc
  obtain ⟨s, _, rfl⟩ := List.mem_map.1 hc
  rfl
theorem normTo {acc : List (Int × Int)} {p : Nat → Bool} {W : Int} (hW : 0 ≤ W ∧ W ≤ 64) (h : ∀ i, i < 64 → inRuns acc i = p i) : runsTo (shiftP acc 0 W) 64 = runsTo p W.toNat := by
  have hc : cutI W = W := by unfold cutI; omega
  rw [runsTo_beyond (n := W.toNat) (by omega) (fun i h1 h2 => ?_)]
  · refine runsTo_congr fun i hi => ?_
    unfold shiftP
    rw [hc, Int.sub_zero, Int.toNat_natCast, h i (by omega), decide_eq_true (show (i : Int) < W by omega), decide_eq_true (show (0 : Int) ≤ (i : Int) by omega)]
    rfl
  · unfold shiftP
    rw [hc, decide_eq_false (show ¬ (i : Int) < W by omega)]
    rfl
theorem cover_run {s : Shp} {lo hi y : Int} (h : ∀ x, -8191 ≤ x → x ≤ 8191 → ((lo ≤ x ∧ x ≤ hi) ↔ covS s x y = true)) {i : Nat} (hi64 : i < 64) : inRun (-((8 - lo) / 16), (hi - 8) / 16 + 1) i = covS s (16 * (i : Int) + 8) y := by
  have k := h (16 * (i : Int) + 8) (by omega) (by omega)
  have e : inRun (-((8 - lo) / 16), (hi - 8) / 16 + 1) i = true ↔ (lo ≤ 16 * (i : Int) + 8 ∧ 16 * (i : Int) + 8 ≤ hi) := by
    unfold inRun
    simp only [Bool.and_eq_true, decide_eq_true_eq]
    omega
  rw [Bool.eq_iff_iff, e, k]
set_option maxRecDepth 100000 in
set_option maxHeartbeats 4000000 in
theorem hemRow_calls (w : World) (v : Value) (L : List Shp) (hv : ShpsAt w v L) (hlen : L.length ≤ 1000) (hg : ∀ s ∈ L, GoodS s) (y W : Int) (hy : -8191 ≤ y ∧ y ≤ 8191) (hW : 0 ≤ W ∧ W ≤ 64) :
    Calls Try.prog 46 #[v, .int .i64 y, .int .i64 W] w (RunsOut (runsTo (fun i => covL L (16 * (i : Int) + 8) y) W.toNat) w) := by
  obtain ⟨a, cap, rfl, hlc, hcm, hel⟩ := hv.parts
  clear hv
  unfold maxLen at hcm
  have Hel := Lib.hid hel; clear hel
  have HG := Lib.hid hg; clear hg
  have hL := Holds.start w
  have HCL := Lib.hid (show ∀ i : Nat, covL L (16 * (i : Int) + 8) y = covL (L.take L.length) (16 * (i : Int) + 8) y by intro i; rw [List.take_length])
  generalize hR : runsTo (fun i => covL L (16 * (i : Int) + 8) y) W.toNat = R
  have HR := Lib.hid hR
  clear hR
  go_enter Try.func46, Try.ntmps46
  go_wp2_with (first | ((clear hL; with_reducible intro _ _ hL)) | (with_reducible refine wpC_alloc rfl _ rfl _ _ inferInstance hL ?_) | (with_reducible first | refine wpB_agg rfl _ _ _ rfl rfl hL ?_ | refine wpB_one rfl _ _ (.int _ _) rfl rfl rfl hL ?_ | refine wpB_one rfl _ _ (.slice _ _ _) rfl rfl rfl hL ?_ | refine wpB_one rfl _ _ (.bool _) rfl rfl rfl hL ?_ | refine wpB_one rfl _ _ (.pointer _) rfl rfl rfl hL ?_ | refine wpB_one rfl _ _ (.func _ _ _) rfl rfl rfl hL ?_) | (with_reducible first | refine wpH_max rfl _ _ _ _ rfl _ _ rfl rfl ?_ | refine wpH_min rfl _ _ _ _ rfl _ _ rfl rfl ?_) | ((with_reducible refine wpA_load rfl _ _ rfl _ rfl ?_); first | refine loadA hL ?_ | refine loadR hL ?_ | refine loadC hL ?_ | refine loadD ?_ | refine loadE hL ?_ | refine loadF ?_) | ((with_reducible refine wpA_index rfl _ _ _ rfl _ rfl _ rfl ?_); first | (refine indexA ?_; try rw [Int.toNat_natCast]) | refine indexC ?_) | ((with_reducible refine wpA_store rfl _ _ _ rfl _ rfl (.agg _) rfl ?_); refine storeR hL ?_; clear hL; intro _ hL) | ((with_reducible first | refine wpA_store rfl _ _ _ rfl _ rfl (.int _ _) rfl ?_ | refine wpA_store rfl _ _ _ rfl _ rfl (.slice _ _ _) rfl ?_ | refine wpA_store rfl _ _ _ rfl _ rfl (.bool _) rfl ?_ | refine wpA_store rfl _ _ _ rfl _ rfl (.pointer _) rfl ?_ | refine wpA_store rfl _ _ _ rfl _ rfl (.func _ _ _) rfl ?_); (first | refine storeA hL ?_ | refine storeO hL ?_); (clear hL; intro _ hL)) | ((with_reducible refine wpA_lit rfl _ _ _ rfl ?_); first | refine litA1 hL ?_ | refine litA2 hL ?_ | refine litA3 hL ?_ | refine litA4 hL ?_ | refine litA6 hL ?_) | ((with_reducible refine wpA_append rfl _ _ _ rfl (.slice _ _ _) rfl ?_); intro vq hvq; simp [go_sem] at hvq; subst hvq; refine appendA hL ?_; clear hL; intro _ _ _ hL; try dsimp only at hL) | ((with_reducible refine wpA_make rfl _ _ _ rfl _ rfl rfl ?_); refine makeA hL ?_))
  go_loopw [7, 15] (fun s7 s15 wr => ∃ (k : Nat) (acc : List (Int × Int)), k ≤ L.length ∧ s15 = .int .i64 k ∧ acc.length ≤ k ∧ (∀ i : Nat, i < 64 → inRuns acc i = covL (L.take k) (16 * (i : Int) + 8) y) ∧ Holds w wr [own w.heap.size 33 2 s7 acc.length (acc.map runC).flatten] [])
    (fun s7 s15 wr => L.length - (intOf s15).toNat)
  case atStart => exact ⟨0, [], by omega, rfl, Nat.le_refl _, fun i _ => rfl, hL.newOwn⟩
  case round =>
    clear hL
    obtain ⟨k, acc, hk, rfl, hal, hin, hL⟩ := hrel
    obtain ⟨ga, gc, rfl⟩ := own_slice hL .here
    by_cases hkt : k < L.length
    · obtain ⟨b, o, rfl, hc⟩ := Hel.out k hkt
      have hkb : (k : Int) < (L.length : Int) := by omega
      have hgs := HG.out (L.getD k default) (by rw [show L.getD k default = L[k] by simp [hkt]]; exact List.getElem_mem hkt)
      have hstep : ∀ x, covL (L.take (k + 1)) x y = (covL (L.take k) x y || covS (L.getD k default) x y) := by
        intro x
        rw [List.take_succ_eq_append_getElem hkt]
        unfold covL
        rw [List.any_append]
        simp [hkt]
      have HE := Lib.hid (fun w => ends_calls (L.getD k default) hgs y hy w)
      have HST := Lib.hid hstep
      have HIN := Lib.hid hin
      clear hgs hstep hin
      generalize hs0 : L.getD k default = s at *
      clear hs0
      have hG2 := fnK_enter s.kind
      unfold CovOut at HE
      obtain ⟨C, hC⟩ : ∃ C, covS s = C := ⟨_, rfl⟩
      have HCo := Lib.hid hC
      clear hC
      have HCR := Lib.hid (fun (lo hi : Int) h i hi64 => cover_run (s := s) (y := y) (lo := lo) (hi := hi) h (i := i) hi64)
      unfold shpC at hc HE
      obtain ⟨⟨x0, y0, bt, cx, cy, x1, y1⟩, wd, fi, la, kd⟩ := s
      dsimp only at hc HE hG2
      generalize fnK kd = G at *
      have n1 : True := trivial; have n2 : True := trivial; have n3 : True := trivial
      go_wp2_with (first | ((refine (HE.out _).mono ?_); rintro e _ ⟨⟨lo, hi, rfl, hsb, hcov⟩, hb⟩; have HCV := Lib.hid (HCR.out lo hi hcov); clear hcov; replace hL := hL.call hb; clear hb) | (first | (clear hL n1; with_reducible intro b1 w1 hL) | (clear hL n2; with_reducible intro b2 w2 hL) | (clear hL n3; with_reducible intro b3 w3 hL) | (clear hL; with_reducible intro _ _ hL)) | (with_reducible refine wpC_alloc rfl _ rfl _ _ inferInstance hL ?_) | (with_reducible first | refine wpB_agg rfl _ _ _ rfl rfl hL ?_ | refine wpB_one rfl _ _ (.int _ _) rfl rfl rfl hL ?_ | refine wpB_one rfl _ _ (.slice _ _ _) rfl rfl rfl hL ?_ | refine wpB_one rfl _ _ (.bool _) rfl rfl rfl hL ?_ | refine wpB_one rfl _ _ (.pointer _) rfl rfl rfl hL ?_ | refine wpB_one rfl _ _ (.func _ _ _) rfl rfl rfl hL ?_) | (with_reducible first | refine wpH_max rfl _ _ _ _ rfl _ _ rfl rfl ?_ | refine wpH_min rfl _ _ _ _ rfl _ _ rfl rfl ?_) | ((with_reducible refine wpA_load rfl _ _ rfl _ rfl ?_); first | refine loadA hL ?_ | refine loadR hL ?_ | refine loadC hL ?_ | refine loadD ?_ | refine loadE hL ?_ | refine loadF ?_) | ((with_reducible refine wpA_index rfl _ _ _ rfl _ rfl _ rfl ?_); first | (refine indexA ?_; try rw [Int.toNat_natCast]) | refine indexC ?_) | ((with_reducible refine wpA_store rfl _ _ _ rfl _ rfl (.agg _) rfl ?_); refine storeR hL ?_; clear hL; intro _ hL) | ((with_reducible first | refine wpA_store rfl _ _ _ rfl _ rfl (.int _ _) rfl ?_ | refine wpA_store rfl _ _ _ rfl _ rfl (.slice _ _ _) rfl ?_ | refine wpA_store rfl _ _ _ rfl _ rfl (.bool _) rfl ?_ | refine wpA_store rfl _ _ _ rfl _ rfl (.pointer _) rfl ?_ | refine wpA_store rfl _ _ _ rfl _ rfl (.func _ _ _) rfl ?_); (first | refine storeA hL ?_ | refine storeO hL ?_); (clear hL; intro _ hL)) | ((with_reducible refine wpA_lit rfl _ _ _ rfl ?_); first | refine litA1 hL ?_ | refine litA2 hL ?_ | refine litA3 hL ?_ | refine litA4 hL ?_ | refine litA6 hL ?_) | ((with_reducible refine wpA_append rfl _ _ _ rfl (.slice _ _ _) rfl ?_); intro vq hvq; simp [go_sem] at hvq; subst hvq; refine appendA hL ?_; clear hL; intro _ _ _ hL; try dsimp only at hL) | ((with_reducible refine wpA_make rfl _ _ _ rfl _ rfl rfl ?_); refine makeA hL ?_))
      obtain ⟨q1, q2, q3, q4⟩ := hsb
      have HD1 := Lib.hid (fun w => down_calls (8 - lo) 16 (by omega) (by omega) (by omega) (by omega) w)
      have HD2 := Lib.hid (fun w => down_calls (hi - 8) 16 (by omega) (by omega) (by omega) (by omega) w)
      have wP1 : IntKind.i64.wrap (8 - lo) = 8 - lo := by rw [IntKind.wrap_i64]; omega
      have wP2 : IntKind.i64.wrap (hi - 8) = hi - 8 := by rw [IntKind.wrap_i64]; omega
      have r1 := div_bd (v := 8 - lo) (m := 16) (B := 17592186044500) (by omega) (by omega) (by omega) (by omega)
      have r2 := div_bd (v := hi - 8) (m := 16) (B := 17592186044500) (by omega) (by omega) (by omega) (by omega)
      generalize hP1 : 8 - lo = P1 at *
      generalize hP2 : hi - 8 = P2 at *
      generalize P1 / 16 = D1 at *
      generalize P2 / 16 = D2 at *
      have wD1 : IntKind.i64.wrap (-D1) = -D1 := by rw [IntKind.wrap_i64]; omega
      have wD2 : IntKind.i64.wrap (D2 + 1) = D2 + 1 := by rw [IntKind.wrap_i64]; omega
      replace hL := hL.drew
      have hS : (fun w' : World => w'.rangeAt b2 0 [.int .i64 lo, .int .i64 hi]) _ := hL.range (by (repeat (first | with_reducible exact At.here | with_reducible apply At.there)))
      refine wpH_begin (by kernel_rfl) (fun w' : World => w'.rangeAt b2 0 [.int .i64 lo, .int .i64 hi]) ?_
      refine stH (i := 0) (.pointer (some ⟨b2, 0, none⟩)) hS ?_ ?_; (· exact fun w' _ => (by go_simp)); simp only [Act.put, List.setIfInBounds_toArray, List.set_cons_zero, List.set_cons_succ]
      refine stH (i := 1) (.int .i64 lo) hS ?_ ?_; (· exact fun w' hw => run_loadOp _ _ rfl _ rfl _ (load_cell (hw 0 _ rfl))); simp only [Act.put, List.setIfInBounds_toArray, List.set_cons_zero, List.set_cons_succ]
      refine stH (i := 2) (.int .i64 P1) hS ?_ ?_; (· exact fun w' _ => (by go_simp)); simp only [Act.put, List.setIfInBounds_toArray, List.set_cons_zero, List.set_cons_succ]
      refine stH (i := 5) (.pointer (some ⟨b2, 1, none⟩)) hS ?_ ?_; (· exact fun w' _ => (by go_simp)); simp only [Act.put, List.setIfInBounds_toArray, List.set_cons_zero, List.set_cons_succ]
      refine stH (i := 6) (.int .i64 hi) hS ?_ ?_; (· exact fun w' hw => run_loadOp _ _ rfl _ rfl _ (load_cell (hw 1 _ rfl))); simp only [Act.put, List.setIfInBounds_toArray, List.set_cons_zero, List.set_cons_succ]
      refine stH (i := 7) (.int .i64 P2) hS ?_ ?_; (· exact fun w' _ => (by go_simp)); simp only [Act.put, List.setIfInBounds_toArray, List.set_cons_zero, List.set_cons_succ]
      refine wpH_one (i := 3) (by kernel_rfl) (wpOp_of (by simp only [List.getElem?_toArray, List.getElem?_cons_zero, List.getElem?_cons_succ]; rfl) ?_)
      refine st_call rfl 78 #[.int .i64 P1, .int .i64 16] (by go_simp) (HD1.out _) ?_
      rintro e _ ⟨rfl, rfl⟩
      refine ⟨_, rfl, hS, ?_⟩
      simp only [Act.put, List.setIfInBounds_toArray, List.set_cons_zero, List.set_cons_succ]
      refine stH (i := 4) (.int .i64 (-D1)) hS ?_ ?_; (· exact fun w' _ => (by go_simp)); simp only [Act.put, List.setIfInBounds_toArray, List.set_cons_zero, List.set_cons_succ]
      refine wpH_one (i := 8) (by kernel_rfl) (wpOp_of (by simp only [List.getElem?_toArray, List.getElem?_cons_zero, List.getElem?_cons_succ]; rfl) ?_)
      refine st_call rfl 78 #[.int .i64 P2, .int .i64 16] (by go_simp) (HD2.out _) ?_
      rintro e _ ⟨rfl, rfl⟩
      refine ⟨_, rfl, hS, ?_⟩
      simp only [Act.put, List.setIfInBounds_toArray, List.set_cons_zero, List.set_cons_succ]
      refine stH (i := 9) (.int .i64 (D2 + 1)) hS ?_ ?_; (· exact fun w' _ => (by go_simp)); simp only [Act.put, List.setIfInBounds_toArray, List.set_cons_zero, List.set_cons_succ]
      refine stH (i := 10) (.int .i64 (-D1)) hS ?_ ?_; (· exact fun w' _ => (by go_simp)); simp only [Act.put, List.setIfInBounds_toArray, List.set_cons_zero, List.set_cons_succ]
      refine stH (i := 11) (.int .i64 (D2 + 1)) hS ?_ ?_; (· exact fun w' _ => (by go_simp)); simp only [Act.put, List.setIfInBounds_toArray, List.set_cons_zero, List.set_cons_succ]
      refine wpAnyH_done (by kernel_rfl) ?_ _
      clear hS
      by_cases hft : -D1 < D2 + 1
      · have n3 : True := trivial
        go_wp2_with (first | (first | (clear hL n1; with_reducible intro b1 w1 hL) | (clear hL n2; with_reducible intro b2 w2 hL) | (clear hL n3; with_reducible intro b3 w3 hL) | (clear hL; with_reducible intro _ _ hL)) | (with_reducible refine wpC_alloc rfl _ rfl _ _ inferInstance hL ?_) | (with_reducible first | refine wpB_agg rfl _ _ _ rfl rfl hL ?_ | refine wpB_one rfl _ _ (.int _ _) rfl rfl rfl hL ?_ | refine wpB_one rfl _ _ (.slice _ _ _) rfl rfl rfl hL ?_ | refine wpB_one rfl _ _ (.bool _) rfl rfl rfl hL ?_ | refine wpB_one rfl _ _ (.pointer _) rfl rfl rfl hL ?_ | refine wpB_one rfl _ _ (.func _ _ _) rfl rfl rfl hL ?_) | (with_reducible first | refine wpH_max rfl _ _ _ _ rfl _ _ rfl rfl ?_ | refine wpH_min rfl _ _ _ _ rfl _ _ rfl rfl ?_) | ((with_reducible refine wpA_load rfl _ _ rfl _ rfl ?_); first | refine loadA hL ?_ | refine loadR hL ?_ | refine loadC hL ?_ | refine loadD ?_ | refine loadE hL ?_ | refine loadF ?_) | ((with_reducible refine wpA_index rfl _ _ _ rfl _ rfl _ rfl ?_); first | (refine indexA ?_; try rw [Int.toNat_natCast]) | refine indexC ?_) | ((with_reducible refine wpA_store rfl _ _ _ rfl _ rfl (.agg _) rfl ?_); refine storeR hL ?_; clear hL; intro _ hL) | ((with_reducible first | refine wpA_store rfl _ _ _ rfl _ rfl (.int _ _) rfl ?_ | refine wpA_store rfl _ _ _ rfl _ rfl (.slice _ _ _) rfl ?_ | refine wpA_store rfl _ _ _ rfl _ rfl (.bool _) rfl ?_ | refine wpA_store rfl _ _ _ rfl _ rfl (.pointer _) rfl ?_ | refine wpA_store rfl _ _ _ rfl _ rfl (.func _ _ _) rfl ?_); (first | refine storeA hL ?_ | refine storeO hL ?_); (clear hL; intro _ hL)) | ((with_reducible refine wpA_lit rfl _ _ _ rfl ?_); first | refine litA1 hL ?_ | refine litA2 hL ?_ | refine litA3 hL ?_ | refine litA4 hL ?_ | refine litA6 hL ?_) | ((with_reducible refine wpA_append rfl _ _ _ rfl (.slice _ _ _) rfl ?_); intro vq hvq; simp [go_sem] at hvq; subst hvq; refine appendA hL ?_; clear hL; intro _ _ _ hL; try dsimp only at hL) | ((with_reducible refine wpA_make rfl _ _ _ rfl _ rfl rfl ?_); refine makeA hL ?_))
        go_roundw
        case rel =>
          refine ⟨k + 1, acc ++ [(-D1, D2 + 1)], by omega, by go_num, by rw [run_len]; omega, fun i hi => ?_, ?_⟩
          · rw [inRuns_append, HIN.out i hi, HST.out, ← HCV.out i hi]
            simp [inRuns]
          · rw [run_snoc, run_len]
            exact (hL.drop .here).drop .here
        case measure => simp [intOf]; omega
      · go_wp2_with (first | (first | (clear hL n1; with_reducible intro b1 w1 hL) | (clear hL n2; with_reducible intro b2 w2 hL) | (clear hL n3; with_reducible intro b3 w3 hL) | (clear hL; with_reducible intro _ _ hL)) | (with_reducible refine wpC_alloc rfl _ rfl _ _ inferInstance hL ?_) | (with_reducible first | refine wpB_agg rfl _ _ _ rfl rfl hL ?_ | refine wpB_one rfl _ _ (.int _ _) rfl rfl rfl hL ?_ | refine wpB_one rfl _ _ (.slice _ _ _) rfl rfl rfl hL ?_ | refine wpB_one rfl _ _ (.bool _) rfl rfl rfl hL ?_ | refine wpB_one rfl _ _ (.pointer _) rfl rfl rfl hL ?_ | refine wpB_one rfl _ _ (.func _ _ _) rfl rfl rfl hL ?_) | (with_reducible first | refine wpH_max rfl _ _ _ _ rfl _ _ rfl rfl ?_ | refine wpH_min rfl _ _ _ _ rfl _ _ rfl rfl ?_) | ((with_reducible refine wpA_load rfl _ _ rfl _ rfl ?_); first | refine loadA hL ?_ | refine loadR hL ?_ | refine loadC hL ?_ | refine loadD ?_ | refine loadE hL ?_ | refine loadF ?_) | ((with_reducible refine wpA_index rfl _ _ _ rfl _ rfl _ rfl ?_); first | (refine indexA ?_; try rw [Int.toNat_natCast]) | refine indexC ?_) | ((with_reducible refine wpA_store rfl _ _ _ rfl _ rfl (.agg _) rfl ?_); refine storeR hL ?_; clear hL; intro _ hL) | ((with_reducible first | refine wpA_store rfl _ _ _ rfl _ rfl (.int _ _) rfl ?_ | refine wpA_store rfl _ _ _ rfl _ rfl (.slice _ _ _) rfl ?_ | refine wpA_store rfl _ _ _ rfl _ rfl (.bool _) rfl ?_ | refine wpA_store rfl _ _ _ rfl _ rfl (.pointer _) rfl ?_ | refine wpA_store rfl _ _ _ rfl _ rfl (.func _ _ _) rfl ?_); (first | refine storeA hL ?_ | refine storeO hL ?_); (clear hL; intro _ hL)) | ((with_reducible refine wpA_lit rfl _ _ _ rfl ?_); first | refine litA1 hL ?_ | refine litA2 hL ?_ | refine litA3 hL ?_ | refine litA4 hL ?_ | refine litA6 hL ?_) | ((with_reducible refine wpA_append rfl _ _ _ rfl (.slice _ _ _) rfl ?_); intro vq hvq; simp [go_sem] at hvq; subst hvq; refine appendA hL ?_; clear hL; intro _ _ _ hL; try dsimp only at hL) | ((with_reducible refine wpA_make rfl _ _ _ rfl _ rfl rfl ?_); refine makeA hL ?_))
        go_roundw
        case rel =>
          refine ⟨k + 1, acc, by omega, by go_num, by omega, fun i hi => ?_, (hL.drop .here).drop .here⟩
          rw [HIN.out i hi, HST.out, ← HCV.out i hi]
          have : inRun (-D1, D2 + 1) i = false := by unfold inRun; simp; omega
          rw [this, Bool.or_false]
        case measure => simp [intOf]; omega
    · have e : k = L.length := by omega
      subst e
      have HN := Lib.hid (fun w v (h : RunsAt w v acc) => spanNorm_calls w v acc h W)
      rw [normTo hW (fun i hi => (hin i hi).trans (HCL.out i).symm), HR.out] at HN
      clear hin
      replace hL := hL.settle .here (φ := fun w => RunsAt w (.slice ga acc.length gc) acc) fun w h => own_sliceAt h (by rw [List.length_map]) rfl (runC_lens _)
      go_wp2_with (first | (go_at_call 34; (with_reducible refine (HN.out _ _ hL.fact0).mono ?_); rintro e _ ⟨vr, rfl, hb, hf⟩; replace hL := hL.callF hb hf; clear hb hf) | (first | (clear hL n1; with_reducible intro b1 w1 hL) | (clear hL n2; with_reducible intro b2 w2 hL) | (clear hL n3; with_reducible intro b3 w3 hL) | (clear hL; with_reducible intro _ _ hL)) | (with_reducible refine wpC_alloc rfl _ rfl _ _ inferInstance hL ?_) | (with_reducible first | refine wpB_agg rfl _ _ _ rfl rfl hL ?_ | refine wpB_one rfl _ _ (.int _ _) rfl rfl rfl hL ?_ | refine wpB_one rfl _ _ (.slice _ _ _) rfl rfl rfl hL ?_ | refine wpB_one rfl _ _ (.bool _) rfl rfl rfl hL ?_ | refine wpB_one rfl _ _ (.pointer _) rfl rfl rfl hL ?_ | refine wpB_one rfl _ _ (.func _ _ _) rfl rfl rfl hL ?_) | (with_reducible first | refine wpH_max rfl _ _ _ _ rfl _ _ rfl rfl ?_ | refine wpH_min rfl _ _ _ _ rfl _ _ rfl rfl ?_) | ((with_reducible refine wpA_load rfl _ _ rfl _ rfl ?_); first | refine loadA hL ?_ | refine loadR hL ?_ | refine loadC hL ?_ | refine loadD ?_ | refine loadE hL ?_ | refine loadF ?_) | ((with_reducible refine wpA_index rfl _ _ _ rfl _ rfl _ rfl ?_); first | (refine indexA ?_; try rw [Int.toNat_natCast]) | refine indexC ?_) | ((with_reducible refine wpA_store rfl _ _ _ rfl _ rfl (.agg _) rfl ?_); refine storeR hL ?_; clear hL; intro _ hL) | ((with_reducible first | refine wpA_store rfl _ _ _ rfl _ rfl (.int _ _) rfl ?_ | refine wpA_store rfl _ _ _ rfl _ rfl (.slice _ _ _) rfl ?_ | refine wpA_store rfl _ _ _ rfl _ rfl (.bool _) rfl ?_ | refine wpA_store rfl _ _ _ rfl _ rfl (.pointer _) rfl ?_ | refine wpA_store rfl _ _ _ rfl _ rfl (.func _ _ _) rfl ?_); (first | refine storeA hL ?_ | refine storeO hL ?_); (clear hL; intro _ hL)) | ((with_reducible refine wpA_lit rfl _ _ _ rfl ?_); first | refine litA1 hL ?_ | refine litA2 hL ?_ | refine litA3 hL ?_ | refine litA4 hL ?_ | refine litA6 hL ?_) | ((with_reducible refine wpA_append rfl _ _ _ rfl (.slice _ _ _) rfl ?_); intro vq hvq; simp [go_sem] at hvq; subst hvq; refine appendA hL ?_; clear hL; intro _ _ _ hL; try dsimp only at hL) | ((with_reducible refine wpA_make rfl _ _ _ rfl _ rfl rfl ?_); refine makeA hL ?_))
      go_ret
      exact ⟨_, rfl, hL.below, hL.fresh⟩
end Go.Proofs.Ytfnolaoohmecbaa
