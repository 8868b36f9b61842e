/- Package bow: Halve: of an edge that is four times as large. -/
import Derived.Test.YtkgblkaihblgeaaBxPM
import Derived.Test.YtkgblkaihblgeaaHulM
-- lit6
namespace Go.Proofs.Ytkgblkaihblgeaa
open Go.RowKit

theorem and_3 (n : Int) : bits .and .i64 n 3 = n % 4 := by
  have h1 : (BitVec.ofInt 64 3).toNat = 2 ^ 2 - 1 := by decide
  have key : (BitVec.ofInt 64 n &&& BitVec.ofInt 64 3).toNat = (n % ((2 ^ 64 : Nat) : Int)).toNat % 2 ^ 2 := by
    rw [BitVec.toNat_and, BitVec.toNat_ofInt, h1, Nat.and_two_pow_sub_one_eq_mod]
  show IntKind.i64.wrap ((BitVec.ofInt 64 n &&& BitVec.ofInt 64 3).toNat : Nat) = n % 4
  rw [key, IntKind.wrap_i64]
  omega
theorem and_1 {n : Int} (h : n % 2 = 0) : bits .and .i64 n 1 = 0 := by rw [and_bitX]; exact h
theorem and_3z {n : Int} (h : n % 4 = 0) : bits .and .i64 n 3 = 0 := by rw [and_3]; exact h
theorem tdiv_2 {n k : Int} (h : n = 2 * k) : n.tdiv 2 = k := by subst h; exact Int.mul_tdiv_cancel_left _ (by decide)
theorem tdiv_4 {n k : Int} (h : n = 4 * k) : n.tdiv 4 = k := by subst h; exact Int.mul_tdiv_cancel_left _ (by decide)
set_option maxRecDepth 100000 in
set_option maxHeartbeats 8000000 in
theorem halve_calls (e : Edg) (hs : SmallE e) (hm : mayE (quadE e) = true) (w : World) : Calls Try.prog 30 #[edgeV (quadE e)] w fun r w' => r = .returned (.tuple #[edgeV (halfA e), edgeV (halfB e), .bool true]) ∧ Below w.heap.size w w' := by
  have hL := Holds.start w
  have HM := Lib.hid (fun w => bowMay_calls (quadE e) w)
  rw [hm] at HM
  clear hm
  obtain ⟨x0, y0, bt, cx, cy, x1, y1⟩ := e
  unfold SmallE smallI at hs
  dsimp only at hs
  obtain ⟨⟨⟨a1, a2⟩, a3, a4⟩, ⟨⟨a5, a6⟩, a7, a8⟩, ⟨a9, a10⟩, a11, a12⟩ := hs
  unfold edgeV quadE halfA halfB at *
  dsimp only at *
  cases bt with
  | false =>
    simp only [Bool.false_eq_true, if_false] at *
    have k1 : bits .and .i64 (4 * x0 + 4 * x1) 1 = 0 := by exact and_1 (by omega)
    have k2 : bits .and .i64 (4 * y0 + 4 * y1) 1 = 0 := by exact and_1 (by omega)
    have k3 : (4 * x0 + 4 * x1).tdiv 2 = 2 * (x0 + x1) := by exact tdiv_2 (by omega)
    have k4 : (4 * y0 + 4 * y1).tdiv 2 = 2 * (y0 + y1) := by exact tdiv_2 (by omega)
    have v1 : IntKind.i64.wrap (4 * x0 + 4 * x1) = 4 * x0 + 4 * x1 := by rw [IntKind.wrap_i64]; omega
    have v2 : IntKind.i64.wrap (4 * y0 + 4 * y1) = 4 * y0 + 4 * y1 := by rw [IntKind.wrap_i64]; omega
    have n1 : True := trivial; have n2 : True := trivial; have n3 : True := trivial
    go_enter Try.func30, Try.ntmps30
    go_wp2_with (first | (go_at_call 56; (with_reducible refine (HM.out _).mono ?_); rintro e _ ⟨rfl, hb⟩; replace hL := hL.call hb; clear hb) | (first | (clear hL n1; with_reducible intro b1 w1 hL) | (clear hL n2; with_reducible intro b2 w2 hL) | (clear hL n3; with_reducible intro b3 w3 hL) | (clear hL; with_reducible intro _ _ hL)) | (with_reducible refine wpC_alloc rfl _ rfl _ _ inferInstance hL ?_) | (with_reducible first | refine wpB_agg rfl _ _ _ rfl rfl hL ?_ | refine wpB_one rfl _ _ (.int _ _) rfl rfl rfl hL ?_ | refine wpB_one rfl _ _ (.slice _ _ _) rfl rfl rfl hL ?_ | refine wpB_one rfl _ _ (.bool _) rfl rfl rfl hL ?_ | refine wpB_one rfl _ _ (.pointer _) rfl rfl rfl hL ?_ | refine wpB_one rfl _ _ (.func _ _ _) rfl rfl rfl hL ?_) | (with_reducible first | refine wpH_max rfl _ _ _ _ rfl _ _ rfl rfl ?_ | refine wpH_min rfl _ _ _ _ rfl _ _ rfl rfl ?_) | ((with_reducible refine wpA_load rfl _ _ rfl _ rfl ?_); first | refine loadA hL ?_ | refine loadR hL ?_ | refine loadC hL ?_ | refine loadD ?_ | refine loadE hL ?_ | refine loadF ?_) | ((with_reducible refine wpA_index rfl _ _ _ rfl _ rfl _ rfl ?_); first | (refine indexA ?_; try rw [Int.toNat_natCast]) | refine indexC ?_) | ((with_reducible refine wpA_store rfl _ _ _ rfl _ rfl (.agg _) rfl ?_); refine storeR hL ?_; clear hL; intro _ hL) | ((with_reducible first | refine wpA_store rfl _ _ _ rfl _ rfl (.int _ _) rfl ?_ | refine wpA_store rfl _ _ _ rfl _ rfl (.slice _ _ _) rfl ?_ | refine wpA_store rfl _ _ _ rfl _ rfl (.bool _) rfl ?_ | refine wpA_store rfl _ _ _ rfl _ rfl (.pointer _) rfl ?_ | refine wpA_store rfl _ _ _ rfl _ rfl (.func _ _ _) rfl ?_); (first | refine storeA hL ?_ | refine storeO hL ?_); (clear hL; intro _ hL)) | ((with_reducible refine wpA_lit rfl _ _ _ rfl ?_); first | refine litA1 hL ?_ | refine litA2 hL ?_ | refine litA3 hL ?_ | refine litA4 hL ?_ | refine litA6 hL ?_) | ((with_reducible refine wpA_append rfl _ _ _ rfl (.slice _ _ _) rfl ?_); intro vq hvq; simp [go_sem] at hvq; subst hvq; refine appendA hL ?_; clear hL; intro _ _ _ hL; try dsimp only at hL) | ((with_reducible refine wpA_make rfl _ _ _ rfl _ rfl rfl ?_); refine makeA hL ?_))
    have C0 := Lib.hid ((hL.cell (o := 0) (.there (.there .here))).trans rfl)
    have C1 := Lib.hid ((hL.cell (o := 1) (.there (.there .here))).trans rfl)
    have C5 := Lib.hid ((hL.cell (o := 5) (.there (.there .here))).trans rfl)
    have C6 := Lib.hid ((hL.cell (o := 6) (.there (.there .here))).trans rfl)
    refine wpH_laterN (by kernel_rfl) fun hS => ?_
    replace hL := hL.drew
    refine stH (i := 0) (.pointer (some ⟨b1, 0, none⟩)) hS ?_ ?_; (· exact fun w' _ => (by go_simp)); simp only [Act.put, List.setIfInBounds_toArray, List.set_cons_zero, List.set_cons_succ]
    refine stH (i := 1) (.int .i64 (4 * x0)) hS ?_ ?_; (· exact fun w' hw => run_loadOp _ _ rfl _ rfl _ (load_cell (laterN_cell hw C0.out))); simp only [Act.put, List.setIfInBounds_toArray, List.set_cons_zero, List.set_cons_succ]
    refine stH (i := 2) (.pointer (some ⟨b1, 5, none⟩)) hS ?_ ?_; (· exact fun w' _ => (by go_simp)); simp only [Act.put, List.setIfInBounds_toArray, List.set_cons_zero, List.set_cons_succ]
    refine stH (i := 3) (.int .i64 (4 * x1)) hS ?_ ?_; (· exact fun w' hw => run_loadOp _ _ rfl _ rfl _ (load_cell (laterN_cell hw C5.out))); simp only [Act.put, List.setIfInBounds_toArray, List.set_cons_zero, List.set_cons_succ]
    refine stH (i := 4) (.int .i64 ((4 * x0) + (4 * x1))) hS ?_ ?_; (· exact fun w' _ => (by go_simp)); simp only [Act.put, List.setIfInBounds_toArray, List.set_cons_zero, List.set_cons_succ]
    refine stH (i := 5) (.pointer (some ⟨b1, 1, none⟩)) hS ?_ ?_; (· exact fun w' _ => (by go_simp)); simp only [Act.put, List.setIfInBounds_toArray, List.set_cons_zero, List.set_cons_succ]
    refine stH (i := 6) (.int .i64 (4 * y0)) hS ?_ ?_; (· exact fun w' hw => run_loadOp _ _ rfl _ rfl _ (load_cell (laterN_cell hw C1.out))); simp only [Act.put, List.setIfInBounds_toArray, List.set_cons_zero, List.set_cons_succ]
    refine stH (i := 7) (.pointer (some ⟨b1, 6, none⟩)) hS ?_ ?_; (· exact fun w' _ => (by go_simp)); simp only [Act.put, List.setIfInBounds_toArray, List.set_cons_zero, List.set_cons_succ]
    refine stH (i := 8) (.int .i64 (4 * y1)) hS ?_ ?_; (· exact fun w' hw => run_loadOp _ _ rfl _ rfl _ (load_cell (laterN_cell hw C6.out))); simp only [Act.put, List.setIfInBounds_toArray, List.set_cons_zero, List.set_cons_succ]
    refine stH (i := 9) (.int .i64 ((4 * y0) + (4 * y1))) hS ?_ ?_; (· exact fun w' _ => (by go_simp)); simp only [Act.put, List.setIfInBounds_toArray, List.set_cons_zero, List.set_cons_succ]
    refine stH (i := 10) (.int .i64 ((4 * x0) + (4 * x1))) hS ?_ ?_; (· exact fun w' _ => (by go_simp)); simp only [Act.put, List.setIfInBounds_toArray, List.set_cons_zero, List.set_cons_succ]
    refine stH (i := 11) (.int .i64 ((4 * y0) + (4 * y1))) hS ?_ ?_; (· exact fun w' _ => (by go_simp)); simp only [Act.put, List.setIfInBounds_toArray, List.set_cons_zero, List.set_cons_succ]
    refine wpAnyH_done (by kernel_rfl) ?_ _
    clear hS
    clear C0 C1 C5 C6
    go_wp2_with (first | (first | (clear hL n1; with_reducible intro b1 w1 hL) | (clear hL n2; with_reducible intro b2 w2 hL) | (clear hL n3; with_reducible intro b3 w3 hL) | (clear hL; with_reducible intro _ _ hL)) | (with_reducible refine wpC_alloc rfl _ rfl _ _ inferInstance hL ?_) | (with_reducible first | refine wpB_agg rfl _ _ _ rfl rfl hL ?_ | refine wpB_one rfl _ _ (.int _ _) rfl rfl rfl hL ?_ | refine wpB_one rfl _ _ (.slice _ _ _) rfl rfl rfl hL ?_ | refine wpB_one rfl _ _ (.bool _) rfl rfl rfl hL ?_ | refine wpB_one rfl _ _ (.pointer _) rfl rfl rfl hL ?_ | refine wpB_one rfl _ _ (.func _ _ _) rfl rfl rfl hL ?_) | (with_reducible first | refine wpH_max rfl _ _ _ _ rfl _ _ rfl rfl ?_ | refine wpH_min rfl _ _ _ _ rfl _ _ rfl rfl ?_) | ((with_reducible refine wpA_load rfl _ _ rfl _ rfl ?_); first | refine loadA hL ?_ | refine loadR hL ?_ | refine loadC hL ?_ | refine loadD ?_ | refine loadE hL ?_ | refine loadF ?_) | ((with_reducible refine wpA_index rfl _ _ _ rfl _ rfl _ rfl ?_); first | (refine indexA ?_; try rw [Int.toNat_natCast]) | refine indexC ?_) | ((with_reducible refine wpA_store rfl _ _ _ rfl _ rfl (.agg _) rfl ?_); refine storeR hL ?_; clear hL; intro _ hL) | ((with_reducible first | refine wpA_store rfl _ _ _ rfl _ rfl (.int _ _) rfl ?_ | refine wpA_store rfl _ _ _ rfl _ rfl (.slice _ _ _) rfl ?_ | refine wpA_store rfl _ _ _ rfl _ rfl (.bool _) rfl ?_ | refine wpA_store rfl _ _ _ rfl _ rfl (.pointer _) rfl ?_ | refine wpA_store rfl _ _ _ rfl _ rfl (.func _ _ _) rfl ?_); (first | refine storeA hL ?_ | refine storeO hL ?_); (clear hL; intro _ hL)) | ((with_reducible refine wpA_lit rfl _ _ _ rfl ?_); first | refine litA1 hL ?_ | refine litA2 hL ?_ | refine litA3 hL ?_ | refine litA4 hL ?_ | refine litA6 hL ?_) | ((with_reducible refine wpA_append rfl _ _ _ rfl (.slice _ _ _) rfl ?_); intro vq hvq; simp [go_sem] at hvq; subst hvq; refine appendA hL ?_; clear hL; intro _ _ _ hL; try dsimp only at hL) | ((with_reducible refine wpA_make rfl _ _ _ rfl _ rfl rfl ?_); refine makeA hL ?_))
    replace hL := hL.drew
    apply exContW (H := fun w8 => Holds w w8 [blk b3 #[.int .i64 (4 * x0), .int .i64 (4 * y0), .bool false, .int .i64 (4 * cx), .int .i64 (4 * cy), .int .i64 (4 * x1), .int .i64 (4 * y1)] 55, blk b2 #[.int .i64 (4 * x0), .int .i64 (4 * y0), .bool false, .int .i64 (4 * cx), .int .i64 (4 * cy), .int .i64 (4 * x1), .int .i64 (4 * y1)] 55, blk b1 #[.int .i64 (4 * x0), .int .i64 (4 * y0), .bool false, .int .i64 (4 * cx), .int .i64 (4 * cy), .int .i64 (4 * x1), .int .i64 (4 * y1)] 55] [])
    · intro hcont
      refine wpN_begin0 (by kernel_rfl) ?_
      refine wpN_two (i := 0) (j := 1) (by kernel_rfl) (wpOp_of (by simp only [List.getElem?_toArray, List.getElem?_cons_zero, List.getElem?_cons_succ]; rfl) (st_run rfl (.agg #[.int .i64 (4 * x0), .int .i64 (4 * y0), .bool false, .int .i64 (4 * cx), .int .i64 (4 * cy), .int .i64 (4 * x1), .int .i64 (4 * y1)]) _ (run_loadOp _ _ rfl _ rfl _ (load_range rfl (hL.range (.there (.there .here))))) ⟨fun h => absurd h (by decide), ?_⟩)) (wpOp_of (by simp only [List.getElem?_toArray, List.getElem?_cons_zero, List.getElem?_cons_succ]; rfl) (st_run rfl (.agg #[.int .i64 (4 * x0), .int .i64 (4 * y0), .bool false, .int .i64 (4 * cx), .int .i64 (4 * cy), .int .i64 (4 * x1), .int .i64 (4 * y1)]) _ (run_loadOp _ _ rfl _ rfl _ (load_range rfl (hL.range (.there (.there .here))))) ⟨fun h => absurd h (by decide), ?_⟩))
      · simp only [Act.put, List.setIfInBounds_toArray, List.set_cons_zero, List.set_cons_succ]
        refine wpN_two (i := 1) (j := 2) (by kernel_rfl) (wpOp_of (by simp only [List.getElem?_toArray, List.getElem?_cons_zero, List.getElem?_cons_succ]; rfl) (st_run rfl (.agg #[.int .i64 (4 * x0), .int .i64 (4 * y0), .bool false, .int .i64 (4 * cx), .int .i64 (4 * cy), .int .i64 (4 * x1), .int .i64 (4 * y1)]) _ (run_loadOp _ _ rfl _ rfl _ (load_range rfl (hL.range (.there (.there .here))))) ⟨fun h => absurd h (by decide), ?_⟩)) (wpOp_of (by simp only [List.getElem?_toArray, List.getElem?_cons_zero, List.getElem?_cons_succ]; rfl) (st_store rfl _ _ _ rfl ⟨b2, 0, none⟩ rfl (.agg #[.int .i64 (4 * x0), .int .i64 (4 * y0), .bool false, .int .i64 (4 * cx), .int .i64 (4 * cy), .int .i64 (4 * x1), .int .i64 (4 * y1)]) rfl (storeR hL ?_)))
        · simp only [Act.put, List.setIfInBounds_toArray, List.set_cons_zero, List.set_cons_succ]
          refine wpN_one (i := 2) (by kernel_rfl) (wpOp_of (by simp only [List.getElem?_toArray, List.getElem?_cons_zero, List.getElem?_cons_succ]; rfl) (st_store rfl _ _ _ rfl ⟨b2, 0, none⟩ rfl (.agg #[.int .i64 (4 * x0), .int .i64 (4 * y0), .bool false, .int .i64 (4 * cx), .int .i64 (4 * cy), .int .i64 (4 * x1), .int .i64 (4 * y1)]) rfl (storeR hL ?_)))
          intro w4 hL
          refine ⟨fun h => absurd h (by decide), ?_⟩
          simp only [Act.put, List.setIfInBounds_toArray, List.set_cons_zero, List.set_cons_succ]
          refine wpN_one (i := 3) (by kernel_rfl) (wpOp_of (by simp only [List.getElem?_toArray, List.getElem?_cons_zero, List.getElem?_cons_succ]; rfl) (st_store rfl _ _ _ rfl ⟨b3, 0, none⟩ rfl (.agg #[.int .i64 (4 * x0), .int .i64 (4 * y0), .bool false, .int .i64 (4 * cx), .int .i64 (4 * cy), .int .i64 (4 * x1), .int .i64 (4 * y1)]) rfl (storeR hL ?_)))
          intro w5 hL
          refine ⟨fun h => absurd h (by decide), ?_⟩
          simp only [Act.put, List.setIfInBounds_toArray, List.set_cons_zero, List.set_cons_succ]
          exact wpN_done (by kernel_rfl) (hcont _ hL)
        · intro w4 hL
          refine ⟨fun h => absurd h (by decide), ?_⟩
          simp only [Act.put, List.setIfInBounds_toArray, List.set_cons_zero, List.set_cons_succ]
          refine wpN_one (i := 1) (by kernel_rfl) (wpOp_of (by simp only [List.getElem?_toArray, List.getElem?_cons_zero, List.getElem?_cons_succ]; rfl) (st_run rfl (.agg #[.int .i64 (4 * x0), .int .i64 (4 * y0), .bool false, .int .i64 (4 * cx), .int .i64 (4 * cy), .int .i64 (4 * x1), .int .i64 (4 * y1)]) _ (run_loadOp _ _ rfl _ rfl _ (load_range rfl (hL.range (.there (.there .here))))) ⟨fun h => absurd h (by decide), ?_⟩))
          simp only [Act.put, List.setIfInBounds_toArray, List.set_cons_zero, List.set_cons_succ]
          refine wpN_one (i := 3) (by kernel_rfl) (wpOp_of (by simp only [List.getElem?_toArray, List.getElem?_cons_zero, List.getElem?_cons_succ]; rfl) (st_store rfl _ _ _ rfl ⟨b3, 0, none⟩ rfl (.agg #[.int .i64 (4 * x0), .int .i64 (4 * y0), .bool false, .int .i64 (4 * cx), .int .i64 (4 * cy), .int .i64 (4 * x1), .int .i64 (4 * y1)]) rfl (storeR hL ?_)))
          intro w5 hL
          refine ⟨fun h => absurd h (by decide), ?_⟩
          simp only [Act.put, List.setIfInBounds_toArray, List.set_cons_zero, List.set_cons_succ]
          exact wpN_done (by kernel_rfl) (hcont _ hL)
      · simp only [Act.put, List.setIfInBounds_toArray, List.set_cons_zero, List.set_cons_succ]
        refine wpN_one (i := 0) (by kernel_rfl) (wpOp_of (by simp only [List.getElem?_toArray, List.getElem?_cons_zero, List.getElem?_cons_succ]; rfl) (st_run rfl (.agg #[.int .i64 (4 * x0), .int .i64 (4 * y0), .bool false, .int .i64 (4 * cx), .int .i64 (4 * cy), .int .i64 (4 * x1), .int .i64 (4 * y1)]) _ (run_loadOp _ _ rfl _ rfl _ (load_range rfl (hL.range (.there (.there .here))))) ⟨fun h => absurd h (by decide), ?_⟩))
        simp only [Act.put, List.setIfInBounds_toArray, List.set_cons_zero, List.set_cons_succ]
        refine wpN_one (i := 2) (by kernel_rfl) (wpOp_of (by simp only [List.getElem?_toArray, List.getElem?_cons_zero, List.getElem?_cons_succ]; rfl) (st_store rfl _ _ _ rfl ⟨b2, 0, none⟩ rfl (.agg #[.int .i64 (4 * x0), .int .i64 (4 * y0), .bool false, .int .i64 (4 * cx), .int .i64 (4 * cy), .int .i64 (4 * x1), .int .i64 (4 * y1)]) rfl (storeR hL ?_)))
        intro w4 hL
        refine ⟨fun h => absurd h (by decide), ?_⟩
        simp only [Act.put, List.setIfInBounds_toArray, List.set_cons_zero, List.set_cons_succ]
        refine wpN_one (i := 3) (by kernel_rfl) (wpOp_of (by simp only [List.getElem?_toArray, List.getElem?_cons_zero, List.getElem?_cons_succ]; rfl) (st_store rfl _ _ _ rfl ⟨b3, 0, none⟩ rfl (.agg #[.int .i64 (4 * x0), .int .i64 (4 * y0), .bool false, .int .i64 (4 * cx), .int .i64 (4 * cy), .int .i64 (4 * x1), .int .i64 (4 * y1)]) rfl (storeR hL ?_)))
        intro w5 hL
        refine ⟨fun h => absurd h (by decide), ?_⟩
        simp only [Act.put, List.setIfInBounds_toArray, List.set_cons_zero, List.set_cons_succ]
        exact wpN_done (by kernel_rfl) (hcont _ hL)
    · intro w8 hL
      go_wp2_with (first | (first | (clear hL n1; with_reducible intro b1 w1 hL) | (clear hL n2; with_reducible intro b2 w2 hL) | (clear hL n3; with_reducible intro b3 w3 hL) | (clear hL; with_reducible intro _ _ hL)) | (with_reducible refine wpC_alloc rfl _ rfl _ _ inferInstance hL ?_) | (with_reducible first | refine wpB_agg rfl _ _ _ rfl rfl hL ?_ | refine wpB_one rfl _ _ (.int _ _) rfl rfl rfl hL ?_ | refine wpB_one rfl _ _ (.slice _ _ _) rfl rfl rfl hL ?_ | refine wpB_one rfl _ _ (.bool _) rfl rfl rfl hL ?_ | refine wpB_one rfl _ _ (.pointer _) rfl rfl rfl hL ?_ | refine wpB_one rfl _ _ (.func _ _ _) rfl rfl rfl hL ?_) | (with_reducible first | refine wpH_max rfl _ _ _ _ rfl _ _ rfl rfl ?_ | refine wpH_min rfl _ _ _ _ rfl _ _ rfl rfl ?_) | ((with_reducible refine wpA_load rfl _ _ rfl _ rfl ?_); first | refine loadA hL ?_ | refine loadR hL ?_ | refine loadC hL ?_ | refine loadD ?_ | refine loadE hL ?_ | refine loadF ?_) | ((with_reducible refine wpA_index rfl _ _ _ rfl _ rfl _ rfl ?_); first | (refine indexA ?_; try rw [Int.toNat_natCast]) | refine indexC ?_) | ((with_reducible refine wpA_store rfl _ _ _ rfl _ rfl (.agg _) rfl ?_); refine storeR hL ?_; clear hL; intro _ hL) | ((with_reducible first | refine wpA_store rfl _ _ _ rfl _ rfl (.int _ _) rfl ?_ | refine wpA_store rfl _ _ _ rfl _ rfl (.slice _ _ _) rfl ?_ | refine wpA_store rfl _ _ _ rfl _ rfl (.bool _) rfl ?_ | refine wpA_store rfl _ _ _ rfl _ rfl (.pointer _) rfl ?_ | refine wpA_store rfl _ _ _ rfl _ rfl (.func _ _ _) rfl ?_); (first | refine storeA hL ?_ | refine storeO hL ?_); (clear hL; intro _ hL)) | ((with_reducible refine wpA_lit rfl _ _ _ rfl ?_); first | refine litA1 hL ?_ | refine litA2 hL ?_ | refine litA3 hL ?_ | refine litA4 hL ?_ | refine litA6 hL ?_) | ((with_reducible refine wpA_append rfl _ _ _ rfl (.slice _ _ _) rfl ?_); intro vq hvq; simp [go_sem] at hvq; subst hvq; refine appendA hL ?_; clear hL; intro _ _ _ hL; try dsimp only at hL) | ((with_reducible refine wpA_make rfl _ _ _ rfl _ rfl rfl ?_); refine makeA hL ?_))
      replace hL := hL.drew
      apply exContW (H := fun w8 => Holds w w8 [blk b3 #[.int .i64 (2 * (x0 + x1)), .int .i64 (2 * (y0 + y1)), .bool false, .int .i64 (4 * cx), .int .i64 (4 * cy), .int .i64 (4 * x1), .int .i64 (4 * y1)] 55, blk b2 #[.int .i64 (4 * x0), .int .i64 (4 * y0), .bool false, .int .i64 (4 * cx), .int .i64 (4 * cy), .int .i64 (2 * (x0 + x1)), .int .i64 (2 * (y0 + y1))] 55, blk b1 #[.int .i64 (4 * x0), .int .i64 (4 * y0), .bool false, .int .i64 (4 * cx), .int .i64 (4 * cy), .int .i64 (4 * x1), .int .i64 (4 * y1)] 55] [])
      · intro hcont
        refine wpN_begin0 (by kernel_rfl) ?_
        refine wpN_two (i := 0) (j := 1) (by kernel_rfl) (wpOp_of (by simp only [List.getElem?_toArray, List.getElem?_cons_zero, List.getElem?_cons_succ]; rfl) (st_run rfl (.agg #[.int .i64 (4 * x0), .int .i64 (4 * y0), .bool false, .int .i64 (4 * cx), .int .i64 (4 * cy), .int .i64 (2 * (x0 + x1)), .int .i64 (2 * (y0 + y1))]) _ (run_loadOp _ _ rfl _ rfl _ (load_range rfl (hL.range (.there .here)))) ⟨fun h => absurd h (by decide), ?_⟩)) (wpOp_of (by simp only [List.getElem?_toArray, List.getElem?_cons_zero, List.getElem?_cons_succ]; rfl) (st_run rfl (.agg #[.int .i64 (2 * (x0 + x1)), .int .i64 (2 * (y0 + y1)), .bool false, .int .i64 (4 * cx), .int .i64 (4 * cy), .int .i64 (4 * x1), .int .i64 (4 * y1)]) _ (run_loadOp _ _ rfl _ rfl _ (load_range rfl (hL.range .here))) ⟨fun h => absurd h (by decide), ?_⟩))
        · simp only [Act.put, List.setIfInBounds_toArray, List.set_cons_zero, List.set_cons_succ]
          refine wpN_two (i := 1) (j := 2) (by kernel_rfl) (wpOp_of (by simp only [List.getElem?_toArray, List.getElem?_cons_zero, List.getElem?_cons_succ]; rfl) (st_run rfl (.agg #[.int .i64 (2 * (x0 + x1)), .int .i64 (2 * (y0 + y1)), .bool false, .int .i64 (4 * cx), .int .i64 (4 * cy), .int .i64 (4 * x1), .int .i64 (4 * y1)]) _ (run_loadOp _ _ rfl _ rfl _ (load_range rfl (hL.range .here))) ⟨fun h => absurd h (by decide), ?_⟩)) (wpOp_of (by simp only [List.getElem?_toArray, List.getElem?_cons_zero, List.getElem?_cons_succ]; rfl) (st_store rfl _ _ _ rfl ⟨b2, 0, none⟩ rfl (.agg #[.int .i64 (4 * x0), .int .i64 (4 * y0), .bool false, .int .i64 (4 * cx), .int .i64 (4 * cy), .int .i64 (2 * (x0 + x1)), .int .i64 (2 * (y0 + y1))]) rfl (storeR hL ?_)))
          · simp only [Act.put, List.setIfInBounds_toArray, List.set_cons_zero, List.set_cons_succ]
            refine wpN_one (i := 2) (by kernel_rfl) (wpOp_of (by simp only [List.getElem?_toArray, List.getElem?_cons_zero, List.getElem?_cons_succ]; rfl) (st_store rfl _ _ _ rfl ⟨b2, 0, none⟩ rfl (.agg #[.int .i64 (4 * x0), .int .i64 (4 * y0), .bool false, .int .i64 (4 * cx), .int .i64 (4 * cy), .int .i64 (2 * (x0 + x1)), .int .i64 (2 * (y0 + y1))]) rfl (storeR hL ?_)))
            intro w4 hL
            refine ⟨fun h => absurd h (by decide), ?_⟩
            simp only [Act.put, List.setIfInBounds_toArray, List.set_cons_zero, List.set_cons_succ]
            refine wpN_one (i := 3) (by kernel_rfl) (wpOp_of (by simp only [List.getElem?_toArray, List.getElem?_cons_zero, List.getElem?_cons_succ]; rfl) (st_store rfl _ _ _ rfl ⟨b3, 0, none⟩ rfl (.agg #[.int .i64 (2 * (x0 + x1)), .int .i64 (2 * (y0 + y1)), .bool false, .int .i64 (4 * cx), .int .i64 (4 * cy), .int .i64 (4 * x1), .int .i64 (4 * y1)]) rfl (storeR hL ?_)))
            intro w5 hL
            refine ⟨fun h => absurd h (by decide), ?_⟩
            simp only [Act.put, List.setIfInBounds_toArray, List.set_cons_zero, List.set_cons_succ]
            refine wpN_one (i := 4) (by kernel_rfl) (wpOp_of (by simp only [List.getElem?_toArray, List.getElem?_cons_zero, List.getElem?_cons_succ]; rfl) (st_run rfl (.bool true) w5 (by go_simp) ⟨fun h => absurd h (by decide), ?_⟩))
            simp only [Act.put, List.setIfInBounds_toArray, List.set_cons_zero, List.set_cons_succ]
            exact wpN_done (by kernel_rfl) (hcont _ hL)
          · intro w4 hL
            refine ⟨fun h => absurd h (by decide), ?_⟩
            simp only [Act.put, List.setIfInBounds_toArray, List.set_cons_zero, List.set_cons_succ]
            refine wpN_one (i := 1) (by kernel_rfl) (wpOp_of (by simp only [List.getElem?_toArray, List.getElem?_cons_zero, List.getElem?_cons_succ]; rfl) (st_run rfl (.agg #[.int .i64 (2 * (x0 + x1)), .int .i64 (2 * (y0 + y1)), .bool false, .int .i64 (4 * cx), .int .i64 (4 * cy), .int .i64 (4 * x1), .int .i64 (4 * y1)]) _ (run_loadOp _ _ rfl _ rfl _ (load_range rfl (hL.range .here))) ⟨fun h => absurd h (by decide), ?_⟩))
            simp only [Act.put, List.setIfInBounds_toArray, List.set_cons_zero, List.set_cons_succ]
            refine wpN_one (i := 3) (by kernel_rfl) (wpOp_of (by simp only [List.getElem?_toArray, List.getElem?_cons_zero, List.getElem?_cons_succ]; rfl) (st_store rfl _ _ _ rfl ⟨b3, 0, none⟩ rfl (.agg #[.int .i64 (2 * (x0 + x1)), .int .i64 (2 * (y0 + y1)), .bool false, .int .i64 (4 * cx), .int .i64 (4 * cy), .int .i64 (4 * x1), .int .i64 (4 * y1)]) rfl (storeR hL ?_)))
            intro w5 hL
            refine ⟨fun h => absurd h (by decide), ?_⟩
            simp only [Act.put, List.setIfInBounds_toArray, List.set_cons_zero, List.set_cons_succ]
            refine wpN_one (i := 4) (by kernel_rfl) (wpOp_of (by simp only [List.getElem?_toArray, List.getElem?_cons_zero, List.getElem?_cons_succ]; rfl) (st_run rfl (.bool true) w5 (by go_simp) ⟨fun h => absurd h (by decide), ?_⟩))
            simp only [Act.put, List.setIfInBounds_toArray, List.set_cons_zero, List.set_cons_succ]
            exact wpN_done (by kernel_rfl) (hcont _ hL)
        · simp only [Act.put, List.setIfInBounds_toArray, List.set_cons_zero, List.set_cons_succ]
          refine wpN_one (i := 0) (by kernel_rfl) (wpOp_of (by simp only [List.getElem?_toArray, List.getElem?_cons_zero, List.getElem?_cons_succ]; rfl) (st_run rfl (.agg #[.int .i64 (4 * x0), .int .i64 (4 * y0), .bool false, .int .i64 (4 * cx), .int .i64 (4 * cy), .int .i64 (2 * (x0 + x1)), .int .i64 (2 * (y0 + y1))]) _ (run_loadOp _ _ rfl _ rfl _ (load_range rfl (hL.range (.there .here)))) ⟨fun h => absurd h (by decide), ?_⟩))
          simp only [Act.put, List.setIfInBounds_toArray, List.set_cons_zero, List.set_cons_succ]
          refine wpN_one (i := 2) (by kernel_rfl) (wpOp_of (by simp only [List.getElem?_toArray, List.getElem?_cons_zero, List.getElem?_cons_succ]; rfl) (st_store rfl _ _ _ rfl ⟨b2, 0, none⟩ rfl (.agg #[.int .i64 (4 * x0), .int .i64 (4 * y0), .bool false, .int .i64 (4 * cx), .int .i64 (4 * cy), .int .i64 (2 * (x0 + x1)), .int .i64 (2 * (y0 + y1))]) rfl (storeR hL ?_)))
          intro w4 hL
          refine ⟨fun h => absurd h (by decide), ?_⟩
          simp only [Act.put, List.setIfInBounds_toArray, List.set_cons_zero, List.set_cons_succ]
          refine wpN_one (i := 3) (by kernel_rfl) (wpOp_of (by simp only [List.getElem?_toArray, List.getElem?_cons_zero, List.getElem?_cons_succ]; rfl) (st_store rfl _ _ _ rfl ⟨b3, 0, none⟩ rfl (.agg #[.int .i64 (2 * (x0 + x1)), .int .i64 (2 * (y0 + y1)), .bool false, .int .i64 (4 * cx), .int .i64 (4 * cy), .int .i64 (4 * x1), .int .i64 (4 * y1)]) rfl (storeR hL ?_)))
          intro w5 hL
          refine ⟨fun h => absurd h (by decide), ?_⟩
          simp only [Act.put, List.setIfInBounds_toArray, List.set_cons_zero, List.set_cons_succ]
          refine wpN_one (i := 4) (by kernel_rfl) (wpOp_of (by simp only [List.getElem?_toArray, List.getElem?_cons_zero, List.getElem?_cons_succ]; rfl) (st_run rfl (.bool true) w5 (by go_simp) ⟨fun h => absurd h (by decide), ?_⟩))
          simp only [Act.put, List.setIfInBounds_toArray, List.set_cons_zero, List.set_cons_succ]
          exact wpN_done (by kernel_rfl) (hcont _ hL)
      · intro w8 hL
        go_wp2
        exact bodyPost_ret (results_rows2 inferInstance rfl _ hL b2 b3 rfl rfl _ _ _ _ (.there .here) .here rfl rfl) rfl ⟨rfl, hL.below⟩
  | true =>
    simp only [if_true] at *
    have k0 : bits .and .i64 (4 * x0 + 4 * cx) 1 = 0 := by exact and_1 (by omega)
    have k1 : bits .and .i64 (4 * y0 + 4 * cy) 1 = 0 := by exact and_1 (by omega)
    have k2 : bits .and .i64 (4 * cx + 4 * x1) 1 = 0 := by exact and_1 (by omega)
    have k3 : bits .and .i64 (4 * cy + 4 * y1) 1 = 0 := by exact and_1 (by omega)
    have l0 : bits .and .i64 (4 * x0 + 2 * (4 * cx) + 4 * x1) 3 = 0 := by exact and_3z (by omega)
    have l1 : bits .and .i64 (4 * y0 + 2 * (4 * cy) + 4 * y1) 3 = 0 := by exact and_3z (by omega)
    have d0 : (4 * x0 + 4 * cx).tdiv 2 = 2 * (x0 + cx) := by exact tdiv_2 (by omega)
    have d1 : (4 * y0 + 4 * cy).tdiv 2 = 2 * (y0 + cy) := by exact tdiv_2 (by omega)
    have d2 : (4 * cx + 4 * x1).tdiv 2 = 2 * (cx + x1) := by exact tdiv_2 (by omega)
    have d3 : (4 * cy + 4 * y1).tdiv 2 = 2 * (cy + y1) := by exact tdiv_2 (by omega)
    have g0 : (4 * x0 + 2 * (4 * cx) + 4 * x1).tdiv 4 = x0 + 2 * cx + x1 := by exact tdiv_4 (by omega)
    have g1 : (4 * y0 + 2 * (4 * cy) + 4 * y1).tdiv 4 = y0 + 2 * cy + y1 := by exact tdiv_4 (by omega)
    have v0 : IntKind.i64.wrap (2 * (4 * cx)) = 2 * (4 * cx) := by rw [IntKind.wrap_i64]; omega
    have v1 : IntKind.i64.wrap (2 * (4 * cy)) = 2 * (4 * cy) := by rw [IntKind.wrap_i64]; omega
    have v2 : IntKind.i64.wrap (4 * x0 + 2 * (4 * cx)) = 4 * x0 + 2 * (4 * cx) := by rw [IntKind.wrap_i64]; omega
    have v3 : IntKind.i64.wrap (4 * y0 + 2 * (4 * cy)) = 4 * y0 + 2 * (4 * cy) := by rw [IntKind.wrap_i64]; omega
    have v4 : IntKind.i64.wrap (4 * x0 + 2 * (4 * cx) + 4 * x1) = 4 * x0 + 2 * (4 * cx) + 4 * x1 := by rw [IntKind.wrap_i64]; omega
    have v5 : IntKind.i64.wrap (4 * y0 + 2 * (4 * cy) + 4 * y1) = 4 * y0 + 2 * (4 * cy) + 4 * y1 := by rw [IntKind.wrap_i64]; omega
    have n1 : True := trivial; have n2 : True := trivial; have n3 : True := trivial
    go_enter Try.func30, Try.ntmps30
    go_wp2_with (first | (go_at_call 56; (with_reducible refine (HM.out _).mono ?_); rintro e _ ⟨rfl, hb⟩; replace hL := hL.call hb; clear hb) | (first | (clear hL n1; with_reducible intro b1 w1 hL) | (clear hL n2; with_reducible intro b2 w2 hL) | (clear hL n3; with_reducible intro b3 w3 hL) | (clear hL; with_reducible intro _ _ hL)) | (with_reducible refine wpC_alloc rfl _ rfl _ _ inferInstance hL ?_) | (with_reducible first | refine wpB_agg rfl _ _ _ rfl rfl hL ?_ | refine wpB_one rfl _ _ (.int _ _) rfl rfl rfl hL ?_ | refine wpB_one rfl _ _ (.slice _ _ _) rfl rfl rfl hL ?_ | refine wpB_one rfl _ _ (.bool _) rfl rfl rfl hL ?_ | refine wpB_one rfl _ _ (.pointer _) rfl rfl rfl hL ?_ | refine wpB_one rfl _ _ (.func _ _ _) rfl rfl rfl hL ?_) | (with_reducible first | refine wpH_max rfl _ _ _ _ rfl _ _ rfl rfl ?_ | refine wpH_min rfl _ _ _ _ rfl _ _ rfl rfl ?_) | ((with_reducible refine wpA_load rfl _ _ rfl _ rfl ?_); first | refine loadA hL ?_ | refine loadR hL ?_ | refine loadC hL ?_ | refine loadD ?_ | refine loadE hL ?_ | refine loadF ?_) | ((with_reducible refine wpA_index rfl _ _ _ rfl _ rfl _ rfl ?_); first | (refine indexA ?_; try rw [Int.toNat_natCast]) | refine indexC ?_) | ((with_reducible refine wpA_store rfl _ _ _ rfl _ rfl (.agg _) rfl ?_); refine storeR hL ?_; clear hL; intro _ hL) | ((with_reducible first | refine wpA_store rfl _ _ _ rfl _ rfl (.int _ _) rfl ?_ | refine wpA_store rfl _ _ _ rfl _ rfl (.slice _ _ _) rfl ?_ | refine wpA_store rfl _ _ _ rfl _ rfl (.bool _) rfl ?_ | refine wpA_store rfl _ _ _ rfl _ rfl (.pointer _) rfl ?_ | refine wpA_store rfl _ _ _ rfl _ rfl (.func _ _ _) rfl ?_); (first | refine storeA hL ?_ | refine storeO hL ?_); (clear hL; intro _ hL)) | ((with_reducible refine wpA_lit rfl _ _ _ rfl ?_); first | refine litA1 hL ?_ | refine litA2 hL ?_ | refine litA3 hL ?_ | refine litA4 hL ?_ | refine litA6 hL ?_) | ((with_reducible refine wpA_append rfl _ _ _ rfl (.slice _ _ _) rfl ?_); intro vq hvq; simp [go_sem] at hvq; subst hvq; refine appendA hL ?_; clear hL; intro _ _ _ hL; try dsimp only at hL) | ((with_reducible refine wpA_make rfl _ _ _ rfl _ rfl rfl ?_); refine makeA hL ?_))
    have C0 := Lib.hid ((hL.cell (o := 0) (.there (.there .here))).trans rfl)
    have C1 := Lib.hid ((hL.cell (o := 1) (.there (.there .here))).trans rfl)
    have C3 := Lib.hid ((hL.cell (o := 3) (.there (.there .here))).trans rfl)
    have C4 := Lib.hid ((hL.cell (o := 4) (.there (.there .here))).trans rfl)
    have C5 := Lib.hid ((hL.cell (o := 5) (.there (.there .here))).trans rfl)
    have C6 := Lib.hid ((hL.cell (o := 6) (.there (.there .here))).trans rfl)
    refine wpH_laterN (by kernel_rfl) fun hS => ?_
    replace hL := hL.drew
    refine stH (i := 0) (.pointer (some ⟨b1, 0, none⟩)) hS ?_ ?_; (· exact fun w' _ => (by go_simp)); simp only [Act.put, List.setIfInBounds_toArray, List.set_cons_zero, List.set_cons_succ]
    refine stH (i := 1) (.int .i64 (4 * x0)) hS ?_ ?_; (· exact fun w' hw => run_loadOp _ _ rfl _ rfl _ (load_cell (laterN_cell hw C0.out))); simp only [Act.put, List.setIfInBounds_toArray, List.set_cons_zero, List.set_cons_succ]
    refine stH (i := 2) (.pointer (some ⟨b1, 3, none⟩)) hS ?_ ?_; (· exact fun w' _ => (by go_simp)); simp only [Act.put, List.setIfInBounds_toArray, List.set_cons_zero, List.set_cons_succ]
    refine stH (i := 3) (.int .i64 (4 * cx)) hS ?_ ?_; (· exact fun w' hw => run_loadOp _ _ rfl _ rfl _ (load_cell (laterN_cell hw C3.out))); simp only [Act.put, List.setIfInBounds_toArray, List.set_cons_zero, List.set_cons_succ]
    refine stH (i := 4) (.int .i64 (2 * (4 * cx))) hS ?_ ?_; (· exact fun w' _ => (by go_simp)); simp only [Act.put, List.setIfInBounds_toArray, List.set_cons_zero, List.set_cons_succ]
    refine stH (i := 5) (.int .i64 ((4 * x0) + (2 * (4 * cx)))) hS ?_ ?_; (· exact fun w' _ => (by go_simp)); simp only [Act.put, List.setIfInBounds_toArray, List.set_cons_zero, List.set_cons_succ]
    refine stH (i := 6) (.pointer (some ⟨b1, 5, none⟩)) hS ?_ ?_; (· exact fun w' _ => (by go_simp)); simp only [Act.put, List.setIfInBounds_toArray, List.set_cons_zero, List.set_cons_succ]
    refine stH (i := 7) (.int .i64 (4 * x1)) hS ?_ ?_; (· exact fun w' hw => run_loadOp _ _ rfl _ rfl _ (load_cell (laterN_cell hw C5.out))); simp only [Act.put, List.setIfInBounds_toArray, List.set_cons_zero, List.set_cons_succ]
    refine stH (i := 8) (.int .i64 (((4 * x0) + (2 * (4 * cx))) + (4 * x1))) hS ?_ ?_; (· exact fun w' _ => (by go_simp)); simp only [Act.put, List.setIfInBounds_toArray, List.set_cons_zero, List.set_cons_succ]
    refine stH (i := 9) (.pointer (some ⟨b1, 1, none⟩)) hS ?_ ?_; (· exact fun w' _ => (by go_simp)); simp only [Act.put, List.setIfInBounds_toArray, List.set_cons_zero, List.set_cons_succ]
    refine stH (i := 10) (.int .i64 (4 * y0)) hS ?_ ?_; (· exact fun w' hw => run_loadOp _ _ rfl _ rfl _ (load_cell (laterN_cell hw C1.out))); simp only [Act.put, List.setIfInBounds_toArray, List.set_cons_zero, List.set_cons_succ]
    refine stH (i := 11) (.pointer (some ⟨b1, 4, none⟩)) hS ?_ ?_; (· exact fun w' _ => (by go_simp)); simp only [Act.put, List.setIfInBounds_toArray, List.set_cons_zero, List.set_cons_succ]
    refine stH (i := 12) (.int .i64 (4 * cy)) hS ?_ ?_; (· exact fun w' hw => run_loadOp _ _ rfl _ rfl _ (load_cell (laterN_cell hw C4.out))); simp only [Act.put, List.setIfInBounds_toArray, List.set_cons_zero, List.set_cons_succ]
    refine stH (i := 13) (.int .i64 (2 * (4 * cy))) hS ?_ ?_; (· exact fun w' _ => (by go_simp)); simp only [Act.put, List.setIfInBounds_toArray, List.set_cons_zero, List.set_cons_succ]
    refine stH (i := 14) (.int .i64 ((4 * y0) + (2 * (4 * cy)))) hS ?_ ?_; (· exact fun w' _ => (by go_simp)); simp only [Act.put, List.setIfInBounds_toArray, List.set_cons_zero, List.set_cons_succ]
    refine stH (i := 15) (.pointer (some ⟨b1, 6, none⟩)) hS ?_ ?_; (· exact fun w' _ => (by go_simp)); simp only [Act.put, List.setIfInBounds_toArray, List.set_cons_zero, List.set_cons_succ]
    refine stH (i := 16) (.int .i64 (4 * y1)) hS ?_ ?_; (· exact fun w' hw => run_loadOp _ _ rfl _ rfl _ (load_cell (laterN_cell hw C6.out))); simp only [Act.put, List.setIfInBounds_toArray, List.set_cons_zero, List.set_cons_succ]
    refine stH (i := 17) (.int .i64 (((4 * y0) + (2 * (4 * cy))) + (4 * y1))) hS ?_ ?_; (· exact fun w' _ => (by go_simp)); simp only [Act.put, List.setIfInBounds_toArray, List.set_cons_zero, List.set_cons_succ]
    refine stH (i := 18) (.int .i64 (((4 * x0) + (2 * (4 * cx))) + (4 * x1))) hS ?_ ?_; (· exact fun w' _ => (by go_simp)); simp only [Act.put, List.setIfInBounds_toArray, List.set_cons_zero, List.set_cons_succ]
    refine stH (i := 19) (.int .i64 (((4 * y0) + (2 * (4 * cy))) + (4 * y1))) hS ?_ ?_; (· exact fun w' _ => (by go_simp)); simp only [Act.put, List.setIfInBounds_toArray, List.set_cons_zero, List.set_cons_succ]
    refine wpAnyH_done (by kernel_rfl) ?_ _
    clear hS
    clear C0 C1 C3 C4 C5 C6
    go_wp2_with (first | (first | (clear hL n1; with_reducible intro b1 w1 hL) | (clear hL n2; with_reducible intro b2 w2 hL) | (clear hL n3; with_reducible intro b3 w3 hL) | (clear hL; with_reducible intro _ _ hL)) | (with_reducible refine wpC_alloc rfl _ rfl _ _ inferInstance hL ?_) | (with_reducible first | refine wpB_agg rfl _ _ _ rfl rfl hL ?_ | refine wpB_one rfl _ _ (.int _ _) rfl rfl rfl hL ?_ | refine wpB_one rfl _ _ (.slice _ _ _) rfl rfl rfl hL ?_ | refine wpB_one rfl _ _ (.bool _) rfl rfl rfl hL ?_ | refine wpB_one rfl _ _ (.pointer _) rfl rfl rfl hL ?_ | refine wpB_one rfl _ _ (.func _ _ _) rfl rfl rfl hL ?_) | (with_reducible first | refine wpH_max rfl _ _ _ _ rfl _ _ rfl rfl ?_ | refine wpH_min rfl _ _ _ _ rfl _ _ rfl rfl ?_) | ((with_reducible refine wpA_load rfl _ _ rfl _ rfl ?_); first | refine loadA hL ?_ | refine loadR hL ?_ | refine loadC hL ?_ | refine loadD ?_ | refine loadE hL ?_ | refine loadF ?_) | ((with_reducible refine wpA_index rfl _ _ _ rfl _ rfl _ rfl ?_); first | (refine indexA ?_; try rw [Int.toNat_natCast]) | refine indexC ?_) | ((with_reducible refine wpA_store rfl _ _ _ rfl _ rfl (.agg _) rfl ?_); refine storeR hL ?_; clear hL; intro _ hL) | ((with_reducible first | refine wpA_store rfl _ _ _ rfl _ rfl (.int _ _) rfl ?_ | refine wpA_store rfl _ _ _ rfl _ rfl (.slice _ _ _) rfl ?_ | refine wpA_store rfl _ _ _ rfl _ rfl (.bool _) rfl ?_ | refine wpA_store rfl _ _ _ rfl _ rfl (.pointer _) rfl ?_ | refine wpA_store rfl _ _ _ rfl _ rfl (.func _ _ _) rfl ?_); (first | refine storeA hL ?_ | refine storeO hL ?_); (clear hL; intro _ hL)) | ((with_reducible refine wpA_lit rfl _ _ _ rfl ?_); first | refine litA1 hL ?_ | refine litA2 hL ?_ | refine litA3 hL ?_ | refine litA4 hL ?_ | refine litA6 hL ?_) | ((with_reducible refine wpA_append rfl _ _ _ rfl (.slice _ _ _) rfl ?_); intro vq hvq; simp [go_sem] at hvq; subst hvq; refine appendA hL ?_; clear hL; intro _ _ _ hL; try dsimp only at hL) | ((with_reducible refine wpA_make rfl _ _ _ rfl _ rfl rfl ?_); refine makeA hL ?_))
    replace hL := hL.drew
    apply exContW (H := fun w8 => Holds w w8 [blk b3 #[.int .i64 (x0 + 2 * cx + x1), .int .i64 (y0 + 2 * cy + y1), .bool true, .int .i64 (2 * (cx + x1)), .int .i64 (2 * (cy + y1)), .int .i64 (4 * x1), .int .i64 (4 * y1)] 55, blk b2 #[.int .i64 (4 * x0), .int .i64 (4 * y0), .bool true, .int .i64 (2 * (x0 + cx)), .int .i64 (2 * (y0 + cy)), .int .i64 (x0 + 2 * cx + x1), .int .i64 (y0 + 2 * cy + y1)] 55, blk b1 #[.int .i64 (4 * x0), .int .i64 (4 * y0), .bool true, .int .i64 (4 * cx), .int .i64 (4 * cy), .int .i64 (4 * x1), .int .i64 (4 * y1)] 55] [])
    · intro hcont
      refine wpN_begin0 (by kernel_rfl) ?_
      refine wpN_two (i := 0) (j := 1) (by kernel_rfl) (wpOp_of (by simp only [List.getElem?_toArray, List.getElem?_cons_zero, List.getElem?_cons_succ]; rfl) (st_run rfl (.agg #[.int .i64 (4 * x0), .int .i64 (4 * y0), .bool true, .int .i64 (2 * (x0 + cx)), .int .i64 (2 * (y0 + cy)), .int .i64 (x0 + 2 * cx + x1), .int .i64 (y0 + 2 * cy + y1)]) _ (run_loadOp _ _ rfl _ rfl _ (load_range rfl (hL.range (.there .here)))) ⟨fun h => absurd h (by decide), ?_⟩)) (wpOp_of (by simp only [List.getElem?_toArray, List.getElem?_cons_zero, List.getElem?_cons_succ]; rfl) (st_run rfl (.agg #[.int .i64 (x0 + 2 * cx + x1), .int .i64 (y0 + 2 * cy + y1), .bool true, .int .i64 (2 * (cx + x1)), .int .i64 (2 * (cy + y1)), .int .i64 (4 * x1), .int .i64 (4 * y1)]) _ (run_loadOp _ _ rfl _ rfl _ (load_range rfl (hL.range .here))) ⟨fun h => absurd h (by decide), ?_⟩))
      · simp only [Act.put, List.setIfInBounds_toArray, List.set_cons_zero, List.set_cons_succ]
        refine wpN_two (i := 1) (j := 2) (by kernel_rfl) (wpOp_of (by simp only [List.getElem?_toArray, List.getElem?_cons_zero, List.getElem?_cons_succ]; rfl) (st_run rfl (.agg #[.int .i64 (x0 + 2 * cx + x1), .int .i64 (y0 + 2 * cy + y1), .bool true, .int .i64 (2 * (cx + x1)), .int .i64 (2 * (cy + y1)), .int .i64 (4 * x1), .int .i64 (4 * y1)]) _ (run_loadOp _ _ rfl _ rfl _ (load_range rfl (hL.range .here))) ⟨fun h => absurd h (by decide), ?_⟩)) (wpOp_of (by simp only [List.getElem?_toArray, List.getElem?_cons_zero, List.getElem?_cons_succ]; rfl) (st_store rfl _ _ _ rfl ⟨b2, 0, none⟩ rfl (.agg #[.int .i64 (4 * x0), .int .i64 (4 * y0), .bool true, .int .i64 (2 * (x0 + cx)), .int .i64 (2 * (y0 + cy)), .int .i64 (x0 + 2 * cx + x1), .int .i64 (y0 + 2 * cy + y1)]) rfl (storeR hL ?_)))
        · simp only [Act.put, List.setIfInBounds_toArray, List.set_cons_zero, List.set_cons_succ]
          refine wpN_one (i := 2) (by kernel_rfl) (wpOp_of (by simp only [List.getElem?_toArray, List.getElem?_cons_zero, List.getElem?_cons_succ]; rfl) (st_store rfl _ _ _ rfl ⟨b2, 0, none⟩ rfl (.agg #[.int .i64 (4 * x0), .int .i64 (4 * y0), .bool true, .int .i64 (2 * (x0 + cx)), .int .i64 (2 * (y0 + cy)), .int .i64 (x0 + 2 * cx + x1), .int .i64 (y0 + 2 * cy + y1)]) rfl (storeR hL ?_)))
          intro w4 hL
          refine ⟨fun h => absurd h (by decide), ?_⟩
          simp only [Act.put, List.setIfInBounds_toArray, List.set_cons_zero, List.set_cons_succ]
          refine wpN_one (i := 3) (by kernel_rfl) (wpOp_of (by simp only [List.getElem?_toArray, List.getElem?_cons_zero, List.getElem?_cons_succ]; rfl) (st_store rfl _ _ _ rfl ⟨b3, 0, none⟩ rfl (.agg #[.int .i64 (x0 + 2 * cx + x1), .int .i64 (y0 + 2 * cy + y1), .bool true, .int .i64 (2 * (cx + x1)), .int .i64 (2 * (cy + y1)), .int .i64 (4 * x1), .int .i64 (4 * y1)]) rfl (storeR hL ?_)))
          intro w5 hL
          refine ⟨fun h => absurd h (by decide), ?_⟩
          simp only [Act.put, List.setIfInBounds_toArray, List.set_cons_zero, List.set_cons_succ]
          refine wpN_one (i := 4) (by kernel_rfl) (wpOp_of (by simp only [List.getElem?_toArray, List.getElem?_cons_zero, List.getElem?_cons_succ]; rfl) (st_run rfl (.bool true) w5 (by go_simp) ⟨fun h => absurd h (by decide), ?_⟩))
          simp only [Act.put, List.setIfInBounds_toArray, List.set_cons_zero, List.set_cons_succ]
          exact wpN_done (by kernel_rfl) (hcont _ hL)
        · intro w4 hL
          refine ⟨fun h => absurd h (by decide), ?_⟩
          simp only [Act.put, List.setIfInBounds_toArray, List.set_cons_zero, List.set_cons_succ]
          refine wpN_one (i := 1) (by kernel_rfl) (wpOp_of (by simp only [List.getElem?_toArray, List.getElem?_cons_zero, List.getElem?_cons_succ]; rfl) (st_run rfl (.agg #[.int .i64 (x0 + 2 * cx + x1), .int .i64 (y0 + 2 * cy + y1), .bool true, .int .i64 (2 * (cx + x1)), .int .i64 (2 * (cy + y1)), .int .i64 (4 * x1), .int .i64 (4 * y1)]) _ (run_loadOp _ _ rfl _ rfl _ (load_range rfl (hL.range .here))) ⟨fun h => absurd h (by decide), ?_⟩))
          simp only [Act.put, List.setIfInBounds_toArray, List.set_cons_zero, List.set_cons_succ]
          refine wpN_one (i := 3) (by kernel_rfl) (wpOp_of (by simp only [List.getElem?_toArray, List.getElem?_cons_zero, List.getElem?_cons_succ]; rfl) (st_store rfl _ _ _ rfl ⟨b3, 0, none⟩ rfl (.agg #[.int .i64 (x0 + 2 * cx + x1), .int .i64 (y0 + 2 * cy + y1), .bool true, .int .i64 (2 * (cx + x1)), .int .i64 (2 * (cy + y1)), .int .i64 (4 * x1), .int .i64 (4 * y1)]) rfl (storeR hL ?_)))
          intro w5 hL
          refine ⟨fun h => absurd h (by decide), ?_⟩
          simp only [Act.put, List.setIfInBounds_toArray, List.set_cons_zero, List.set_cons_succ]
          refine wpN_one (i := 4) (by kernel_rfl) (wpOp_of (by simp only [List.getElem?_toArray, List.getElem?_cons_zero, List.getElem?_cons_succ]; rfl) (st_run rfl (.bool true) w5 (by go_simp) ⟨fun h => absurd h (by decide), ?_⟩))
          simp only [Act.put, List.setIfInBounds_toArray, List.set_cons_zero, List.set_cons_succ]
          exact wpN_done (by kernel_rfl) (hcont _ hL)
      · simp only [Act.put, List.setIfInBounds_toArray, List.set_cons_zero, List.set_cons_succ]
        refine wpN_one (i := 0) (by kernel_rfl) (wpOp_of (by simp only [List.getElem?_toArray, List.getElem?_cons_zero, List.getElem?_cons_succ]; rfl) (st_run rfl (.agg #[.int .i64 (4 * x0), .int .i64 (4 * y0), .bool true, .int .i64 (2 * (x0 + cx)), .int .i64 (2 * (y0 + cy)), .int .i64 (x0 + 2 * cx + x1), .int .i64 (y0 + 2 * cy + y1)]) _ (run_loadOp _ _ rfl _ rfl _ (load_range rfl (hL.range (.there .here)))) ⟨fun h => absurd h (by decide), ?_⟩))
        simp only [Act.put, List.setIfInBounds_toArray, List.set_cons_zero, List.set_cons_succ]
        refine wpN_one (i := 2) (by kernel_rfl) (wpOp_of (by simp only [List.getElem?_toArray, List.getElem?_cons_zero, List.getElem?_cons_succ]; rfl) (st_store rfl _ _ _ rfl ⟨b2, 0, none⟩ rfl (.agg #[.int .i64 (4 * x0), .int .i64 (4 * y0), .bool true, .int .i64 (2 * (x0 + cx)), .int .i64 (2 * (y0 + cy)), .int .i64 (x0 + 2 * cx + x1), .int .i64 (y0 + 2 * cy + y1)]) rfl (storeR hL ?_)))
        intro w4 hL
        refine ⟨fun h => absurd h (by decide), ?_⟩
        simp only [Act.put, List.setIfInBounds_toArray, List.set_cons_zero, List.set_cons_succ]
        refine wpN_one (i := 3) (by kernel_rfl) (wpOp_of (by simp only [List.getElem?_toArray, List.getElem?_cons_zero, List.getElem?_cons_succ]; rfl) (st_store rfl _ _ _ rfl ⟨b3, 0, none⟩ rfl (.agg #[.int .i64 (x0 + 2 * cx + x1), .int .i64 (y0 + 2 * cy + y1), .bool true, .int .i64 (2 * (cx + x1)), .int .i64 (2 * (cy + y1)), .int .i64 (4 * x1), .int .i64 (4 * y1)]) rfl (storeR hL ?_)))
        intro w5 hL
        refine ⟨fun h => absurd h (by decide), ?_⟩
        simp only [Act.put, List.setIfInBounds_toArray, List.set_cons_zero, List.set_cons_succ]
        refine wpN_one (i := 4) (by kernel_rfl) (wpOp_of (by simp only [List.getElem?_toArray, List.getElem?_cons_zero, List.getElem?_cons_succ]; rfl) (st_run rfl (.bool true) w5 (by go_simp) ⟨fun h => absurd h (by decide), ?_⟩))
        simp only [Act.put, List.setIfInBounds_toArray, List.set_cons_zero, List.set_cons_succ]
        exact wpN_done (by kernel_rfl) (hcont _ hL)
    · intro w8 hL
      go_wp2
      exact bodyPost_ret (results_rows2 inferInstance rfl _ hL b2 b3 rfl rfl _ _ _ _ (.there .here) .here rfl rfl) rfl ⟨rfl, hL.below⟩
end Go.Proofs.Ytkgblkaihblgeaa
