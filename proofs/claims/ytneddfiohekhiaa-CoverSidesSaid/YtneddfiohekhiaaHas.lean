/- Package cover: Has, of masks that are said pixel by pixel; a literal of five; Mask with given sides. -/
import Derived.Test.YtneddfiohekhiaaCMk
-- uses arrU
-- lit6
namespace Go.Proofs.Ytneddfiohekhiaa
open Go.RowKit

/-- is a place's pixel in? -/
def atPix (W H : Nat) (p : Nat → Nat → Bool) (i j : Int) : Bool := decide (0 ≤ i) && (decide (i < W) && (decide (0 ≤ j) && (decide (j < H) && p j.toNat i.toNat)))
set_option maxRecDepth 100000 in
set_option maxHeartbeats 4000000 in
theorem pixHas_calls {W H : Nat} (hs : Sides W H) (w : World) (ma : Option Addr) (q : Nat → Nat → Bool) (h : MaskAt w (.agg #[.int .i64 W, .int .i64 H, .slice ma (W * H) (W * H)]) (pixMask W H q)) (i j : Int) :
    Calls Try.prog 28 #[.agg #[.int .i64 W, .int .i64 H, .slice ma (W * H) (W * H)], .int .i64 i, .int .i64 j] w fun e w' => e = .returned (.bool (atPix W H q i j)) ∧ Below w.heap.size w w' := by
  have Hm := Lib.hid h
  obtain ⟨b, o, rfl, hc⟩ := mask_cells hs h
  have Hc := Lib.hid hc
  clear h hc
  have Hmay := Lib.hid (mask_may hs q)
  obtain ⟨m1, m2, m3⟩ := mask_bounds hs
  have hL := Holds.start w
  rcases (by omega : i < 0 ∨ (0 ≤ i ∧ (W : Int) ≤ i) ∨ (0 ≤ i ∧ i < W ∧ j < 0) ∨ (0 ≤ i ∧ i < W ∧ 0 ≤ j ∧ (H : Int) ≤ j) ∨ (0 ≤ i ∧ i < W ∧ 0 ≤ j ∧ j < H)) with h1 | ⟨h1, h2⟩ | ⟨h1, h2, h3⟩ | ⟨h1, h2, h3, h4⟩ | ⟨h1, h2, h3, h4⟩
  · have HR := Lib.hid (show atPix W H q i j = false by unfold atPix; rw [decide_eq_false (by omega)]; rfl)
    have n1 : True := trivial; have n2 : True := trivial
    go_enter Try.func28, Try.ntmps28
    go_wp2_with (first | (go_at_call 20; (with_reducible refine (coverMay_calls _ _ _ (Hm.out.hold hL)).mono ?_); rintro e _ ⟨rfl, hb⟩; rw [Hmay.out]; replace hL := hL.call hb; clear hb) | (first | (clear hL n1; with_reducible intro b1 w1 hL) | (clear hL n2; with_reducible intro b2 w2 hL) | (clear hL; with_reducible intro _ _ hL)) | (with_reducible refine wpC_alloc rfl _ rfl _ _ inferInstance hL ?_) | (with_reducible first | refine wpB_agg rfl _ _ _ rfl rfl hL ?_ | refine wpB_one rfl _ _ (.int _ _) rfl rfl rfl hL ?_ | refine wpB_one rfl _ _ (.slice _ _ _) rfl rfl rfl hL ?_ | refine wpB_one rfl _ _ (.bool _) rfl rfl rfl hL ?_ | refine wpB_one rfl _ _ (.pointer _) rfl rfl rfl hL ?_ | refine wpB_one rfl _ _ (.func _ _ _) rfl rfl rfl hL ?_) | (with_reducible first | refine wpH_max rfl _ _ _ _ rfl _ _ rfl rfl ?_ | refine wpH_min rfl _ _ _ _ rfl _ _ rfl rfl ?_) | ((with_reducible refine wpA_load rfl _ _ rfl _ rfl ?_); first | refine loadA hL ?_ | refine loadR hL ?_ | refine loadC hL ?_ | refine loadD ?_ | refine loadE hL ?_ | refine loadF ?_) | ((with_reducible refine wpA_index rfl _ _ _ rfl _ rfl _ rfl ?_); first | (refine indexA ?_; try rw [Int.toNat_natCast]) | refine indexC ?_) | ((with_reducible refine wpA_store rfl _ _ _ rfl _ rfl (.agg _) rfl ?_); refine storeR hL ?_; clear hL; intro _ hL) | ((with_reducible first | refine wpA_store rfl _ _ _ rfl _ rfl (.int _ _) rfl ?_ | refine wpA_store rfl _ _ _ rfl _ rfl (.slice _ _ _) rfl ?_ | refine wpA_store rfl _ _ _ rfl _ rfl (.bool _) rfl ?_ | refine wpA_store rfl _ _ _ rfl _ rfl (.pointer _) rfl ?_ | refine wpA_store rfl _ _ _ rfl _ rfl (.func _ _ _) rfl ?_); (first | refine storeA hL ?_ | refine storeO hL ?_); (clear hL; intro _ hL)) | ((with_reducible refine wpA_lit rfl _ _ _ rfl ?_); first | refine litA1 hL ?_ | refine litA2 hL ?_ | refine litA3 hL ?_ | refine litA4 hL ?_ | refine litA6 hL ?_) | ((with_reducible refine wpA_append rfl _ _ _ rfl (.slice _ _ _) rfl ?_); intro vq hvq; simp [go_sem] at hvq; subst hvq; refine appendA hL ?_; clear hL; intro _ _ _ hL; try dsimp only at hL) | ((with_reducible refine wpA_make rfl _ _ _ rfl _ rfl rfl ?_); refine makeA hL ?_))
    go_ret
    exact ⟨ret_bool HR.out.symm, hL.below⟩
  · have HR := Lib.hid (show atPix W H q i j = false by unfold atPix; rw [decide_eq_false (show ¬ i < (W : Int) by omega)]; simp)
    have n1 : True := trivial; have n2 : True := trivial
    go_enter Try.func28, Try.ntmps28
    go_wp2_with (first | (go_at_call 20; (with_reducible refine (coverMay_calls _ _ _ (Hm.out.hold hL)).mono ?_); rintro e _ ⟨rfl, hb⟩; rw [Hmay.out]; replace hL := hL.call hb; clear hb) | (first | (clear hL n1; with_reducible intro b1 w1 hL) | (clear hL n2; with_reducible intro b2 w2 hL) | (clear hL; with_reducible intro _ _ hL)) | (with_reducible refine wpC_alloc rfl _ rfl _ _ inferInstance hL ?_) | (with_reducible first | refine wpB_agg rfl _ _ _ rfl rfl hL ?_ | refine wpB_one rfl _ _ (.int _ _) rfl rfl rfl hL ?_ | refine wpB_one rfl _ _ (.slice _ _ _) rfl rfl rfl hL ?_ | refine wpB_one rfl _ _ (.bool _) rfl rfl rfl hL ?_ | refine wpB_one rfl _ _ (.pointer _) rfl rfl rfl hL ?_ | refine wpB_one rfl _ _ (.func _ _ _) rfl rfl rfl hL ?_) | (with_reducible first | refine wpH_max rfl _ _ _ _ rfl _ _ rfl rfl ?_ | refine wpH_min rfl _ _ _ _ rfl _ _ rfl rfl ?_) | ((with_reducible refine wpA_load rfl _ _ rfl _ rfl ?_); first | refine loadA hL ?_ | refine loadR hL ?_ | refine loadC hL ?_ | refine loadD ?_ | refine loadE hL ?_ | refine loadF ?_) | ((with_reducible refine wpA_index rfl _ _ _ rfl _ rfl _ rfl ?_); first | (refine indexA ?_; try rw [Int.toNat_natCast]) | refine indexC ?_) | ((with_reducible refine wpA_store rfl _ _ _ rfl _ rfl (.agg _) rfl ?_); refine storeR hL ?_; clear hL; intro _ hL) | ((with_reducible first | refine wpA_store rfl _ _ _ rfl _ rfl (.int _ _) rfl ?_ | refine wpA_store rfl _ _ _ rfl _ rfl (.slice _ _ _) rfl ?_ | refine wpA_store rfl _ _ _ rfl _ rfl (.bool _) rfl ?_ | refine wpA_store rfl _ _ _ rfl _ rfl (.pointer _) rfl ?_ | refine wpA_store rfl _ _ _ rfl _ rfl (.func _ _ _) rfl ?_); (first | refine storeA hL ?_ | refine storeO hL ?_); (clear hL; intro _ hL)) | ((with_reducible refine wpA_lit rfl _ _ _ rfl ?_); first | refine litA1 hL ?_ | refine litA2 hL ?_ | refine litA3 hL ?_ | refine litA4 hL ?_ | refine litA6 hL ?_) | ((with_reducible refine wpA_append rfl _ _ _ rfl (.slice _ _ _) rfl ?_); intro vq hvq; simp [go_sem] at hvq; subst hvq; refine appendA hL ?_; clear hL; intro _ _ _ hL; try dsimp only at hL) | ((with_reducible refine wpA_make rfl _ _ _ rfl _ rfl rfl ?_); refine makeA hL ?_))
    go_ret
    exact ⟨ret_bool HR.out.symm, hL.below⟩
  · have HR := Lib.hid (show atPix W H q i j = false by unfold atPix; rw [decide_eq_false (show ¬ 0 ≤ j by omega)]; simp)
    have n1 : True := trivial; have n2 : True := trivial
    go_enter Try.func28, Try.ntmps28
    go_wp2_with (first | (go_at_call 20; (with_reducible refine (coverMay_calls _ _ _ (Hm.out.hold hL)).mono ?_); rintro e _ ⟨rfl, hb⟩; rw [Hmay.out]; replace hL := hL.call hb; clear hb) | (first | (clear hL n1; with_reducible intro b1 w1 hL) | (clear hL n2; with_reducible intro b2 w2 hL) | (clear hL; with_reducible intro _ _ hL)) | (with_reducible refine wpC_alloc rfl _ rfl _ _ inferInstance hL ?_) | (with_reducible first | refine wpB_agg rfl _ _ _ rfl rfl hL ?_ | refine wpB_one rfl _ _ (.int _ _) rfl rfl rfl hL ?_ | refine wpB_one rfl _ _ (.slice _ _ _) rfl rfl rfl hL ?_ | refine wpB_one rfl _ _ (.bool _) rfl rfl rfl hL ?_ | refine wpB_one rfl _ _ (.pointer _) rfl rfl rfl hL ?_ | refine wpB_one rfl _ _ (.func _ _ _) rfl rfl rfl hL ?_) | (with_reducible first | refine wpH_max rfl _ _ _ _ rfl _ _ rfl rfl ?_ | refine wpH_min rfl _ _ _ _ rfl _ _ rfl rfl ?_) | ((with_reducible refine wpA_load rfl _ _ rfl _ rfl ?_); first | refine loadA hL ?_ | refine loadR hL ?_ | refine loadC hL ?_ | refine loadD ?_ | refine loadE hL ?_ | refine loadF ?_) | ((with_reducible refine wpA_index rfl _ _ _ rfl _ rfl _ rfl ?_); first | (refine indexA ?_; try rw [Int.toNat_natCast]) | refine indexC ?_) | ((with_reducible refine wpA_store rfl _ _ _ rfl _ rfl (.agg _) rfl ?_); refine storeR hL ?_; clear hL; intro _ hL) | ((with_reducible first | refine wpA_store rfl _ _ _ rfl _ rfl (.int _ _) rfl ?_ | refine wpA_store rfl _ _ _ rfl _ rfl (.slice _ _ _) rfl ?_ | refine wpA_store rfl _ _ _ rfl _ rfl (.bool _) rfl ?_ | refine wpA_store rfl _ _ _ rfl _ rfl (.pointer _) rfl ?_ | refine wpA_store rfl _ _ _ rfl _ rfl (.func _ _ _) rfl ?_); (first | refine storeA hL ?_ | refine storeO hL ?_); (clear hL; intro _ hL)) | ((with_reducible refine wpA_lit rfl _ _ _ rfl ?_); first | refine litA1 hL ?_ | refine litA2 hL ?_ | refine litA3 hL ?_ | refine litA4 hL ?_ | refine litA6 hL ?_) | ((with_reducible refine wpA_append rfl _ _ _ rfl (.slice _ _ _) rfl ?_); intro vq hvq; simp [go_sem] at hvq; subst hvq; refine appendA hL ?_; clear hL; intro _ _ _ hL; try dsimp only at hL) | ((with_reducible refine wpA_make rfl _ _ _ rfl _ rfl rfl ?_); refine makeA hL ?_))
    go_ret
    exact ⟨ret_bool HR.out.symm, hL.below⟩
  · have HR := Lib.hid (show atPix W H q i j = false by unfold atPix; rw [decide_eq_false (show ¬ j < (H : Int) by omega)]; simp)
    have n1 : True := trivial; have n2 : True := trivial
    go_enter Try.func28, Try.ntmps28
    go_wp2_with (first | (go_at_call 20; (with_reducible refine (coverMay_calls _ _ _ (Hm.out.hold hL)).mono ?_); rintro e _ ⟨rfl, hb⟩; rw [Hmay.out]; replace hL := hL.call hb; clear hb) | (first | (clear hL n1; with_reducible intro b1 w1 hL) | (clear hL n2; with_reducible intro b2 w2 hL) | (clear hL; with_reducible intro _ _ hL)) | (with_reducible refine wpC_alloc rfl _ rfl _ _ inferInstance hL ?_) | (with_reducible first | refine wpB_agg rfl _ _ _ rfl rfl hL ?_ | refine wpB_one rfl _ _ (.int _ _) rfl rfl rfl hL ?_ | refine wpB_one rfl _ _ (.slice _ _ _) rfl rfl rfl hL ?_ | refine wpB_one rfl _ _ (.bool _) rfl rfl rfl hL ?_ | refine wpB_one rfl _ _ (.pointer _) rfl rfl rfl hL ?_ | refine wpB_one rfl _ _ (.func _ _ _) rfl rfl rfl hL ?_) | (with_reducible first | refine wpH_max rfl _ _ _ _ rfl _ _ rfl rfl ?_ | refine wpH_min rfl _ _ _ _ rfl _ _ rfl rfl ?_) | ((with_reducible refine wpA_load rfl _ _ rfl _ rfl ?_); first | refine loadA hL ?_ | refine loadR hL ?_ | refine loadC hL ?_ | refine loadD ?_ | refine loadE hL ?_ | refine loadF ?_) | ((with_reducible refine wpA_index rfl _ _ _ rfl _ rfl _ rfl ?_); first | (refine indexA ?_; try rw [Int.toNat_natCast]) | refine indexC ?_) | ((with_reducible refine wpA_store rfl _ _ _ rfl _ rfl (.agg _) rfl ?_); refine storeR hL ?_; clear hL; intro _ hL) | ((with_reducible first | refine wpA_store rfl _ _ _ rfl _ rfl (.int _ _) rfl ?_ | refine wpA_store rfl _ _ _ rfl _ rfl (.slice _ _ _) rfl ?_ | refine wpA_store rfl _ _ _ rfl _ rfl (.bool _) rfl ?_ | refine wpA_store rfl _ _ _ rfl _ rfl (.pointer _) rfl ?_ | refine wpA_store rfl _ _ _ rfl _ rfl (.func _ _ _) rfl ?_); (first | refine storeA hL ?_ | refine storeO hL ?_); (clear hL; intro _ hL)) | ((with_reducible refine wpA_lit rfl _ _ _ rfl ?_); first | refine litA1 hL ?_ | refine litA2 hL ?_ | refine litA3 hL ?_ | refine litA4 hL ?_ | refine litA6 hL ?_) | ((with_reducible refine wpA_append rfl _ _ _ rfl (.slice _ _ _) rfl ?_); intro vq hvq; simp [go_sem] at hvq; subst hvq; refine appendA hL ?_; clear hL; intro _ _ _ hL; try dsimp only at hL) | ((with_reducible refine wpA_make rfl _ _ _ rfl _ rfl rfl ?_); refine makeA hL ?_))
    go_ret
    exact ⟨ret_bool HR.out.symm, hL.below⟩
  · obtain ⟨x, rfl⟩ : ∃ x : Nat, i = x := ⟨i.toNat, by omega⟩
    obtain ⟨y, rfl⟩ : ∃ y : Nat, j = y := ⟨j.toNat, by omega⟩
    have hx : x < W := by omega
    have hy : y < H := by omega
    have HR := Lib.hid (show atPix W H q x y = q y x by unfold atPix; rw [decide_eq_true h1, decide_eq_true h2, decide_eq_true h3, decide_eq_true h4]; simp)
    have hidx := idx_lt hy hx
    obtain ⟨d1, d2⟩ := (divmod_eq (W := W) (i := x) (j := y) (x := y * W + x) hx).1 rfl
    have hc := Hc.out _ hidx
    rw [d1, d2] at hc
    have hidx2 : (y : Int) * (W : Int) + (x : Int) < ((W * H : Nat) : Int) := by
      have : ((y * W + x : Nat) : Int) < ((W * H : Nat) : Int) := by omega
      simpa using this
    have hidx3 : 0 ≤ (y : Int) * (W : Int) := Int.mul_nonneg (by omega) (by omega)
    clear d1 d2 h1 h3
    generalize q y x = r at *
    cases r
    all_goals
      simp only [bit, if_true, Bool.false_eq_true, if_false] at hc
      have n1 : True := trivial; have n2 : True := trivial
      go_enter Try.func28, Try.ntmps28
      go_wp2_with (first | (go_at_call 20; (with_reducible refine (coverMay_calls _ _ _ (Hm.out.hold hL)).mono ?_); rintro e _ ⟨rfl, hb⟩; rw [Hmay.out]; replace hL := hL.call hb; clear hb) | (first | (clear hL n1; with_reducible intro b1 w1 hL) | (clear hL n2; with_reducible intro b2 w2 hL) | (clear hL; with_reducible intro _ _ hL)) | (with_reducible refine wpC_alloc rfl _ rfl _ _ inferInstance hL ?_) | (with_reducible first | refine wpB_agg rfl _ _ _ rfl rfl hL ?_ | refine wpB_one rfl _ _ (.int _ _) rfl rfl rfl hL ?_ | refine wpB_one rfl _ _ (.slice _ _ _) rfl rfl rfl hL ?_ | refine wpB_one rfl _ _ (.bool _) rfl rfl rfl hL ?_ | refine wpB_one rfl _ _ (.pointer _) rfl rfl rfl hL ?_ | refine wpB_one rfl _ _ (.func _ _ _) rfl rfl rfl hL ?_) | (with_reducible first | refine wpH_max rfl _ _ _ _ rfl _ _ rfl rfl ?_ | refine wpH_min rfl _ _ _ _ rfl _ _ rfl rfl ?_) | ((with_reducible refine wpA_load rfl _ _ rfl _ rfl ?_); first | refine loadA hL ?_ | refine loadR hL ?_ | refine loadC hL ?_ | refine loadD ?_ | refine loadE hL ?_ | refine loadF ?_) | ((with_reducible refine wpA_index rfl _ _ _ rfl _ rfl _ rfl ?_); first | (refine indexA ?_; try rw [Int.toNat_natCast]) | refine indexC ?_) | ((with_reducible refine wpA_store rfl _ _ _ rfl _ rfl (.agg _) rfl ?_); refine storeR hL ?_; clear hL; intro _ hL) | ((with_reducible first | refine wpA_store rfl _ _ _ rfl _ rfl (.int _ _) rfl ?_ | refine wpA_store rfl _ _ _ rfl _ rfl (.slice _ _ _) rfl ?_ | refine wpA_store rfl _ _ _ rfl _ rfl (.bool _) rfl ?_ | refine wpA_store rfl _ _ _ rfl _ rfl (.pointer _) rfl ?_ | refine wpA_store rfl _ _ _ rfl _ rfl (.func _ _ _) rfl ?_); (first | refine storeA hL ?_ | refine storeO hL ?_); (clear hL; intro _ hL)) | ((with_reducible refine wpA_lit rfl _ _ _ rfl ?_); first | refine litA1 hL ?_ | refine litA2 hL ?_ | refine litA3 hL ?_ | refine litA4 hL ?_ | refine litA6 hL ?_) | ((with_reducible refine wpA_append rfl _ _ _ rfl (.slice _ _ _) rfl ?_); intro vq hvq; simp [go_sem] at hvq; subst hvq; refine appendA hL ?_; clear hL; intro _ _ _ hL; try dsimp only at hL) | ((with_reducible refine wpA_make rfl _ _ _ rfl _ rfl rfl ?_); refine makeA hL ?_))
      go_ret
      exact ⟨ret_bool HR.out.symm, hL.below⟩
/-! the same with sides that are numbers -/
def maskVI (Wi Hi : Int) (n : Nat) (ma : Option Addr) : Value := .agg #[.int .i64 Wi, .int .i64 Hi, .slice ma n n]
def MaskOutK (W H : Nat) (Wi Hi : Int) (n : Nat) (q : Nat → Nat → Bool) (w : World) (e : Ending) (w' : World) : Prop :=
  ∃ ma, e = .returned (.tuple #[.agg #[.int .i64 Wi, .int .i64 Hi, .slice ma n n], .int .i64 0]) ∧ Below w.heap.size w w' ∧ Fresh w w' (MaskF (.agg #[.int .i64 Wi, .int .i64 Hi, .slice ma n n]) (pixMask W H q))
section
variable {W H : Nat} {Wi Hi : Int} {n : Nat}
theorem coverMaskK_calls (hW : Wi = (W : Int)) (hH : Hi = (H : Int)) (hn : n = W * H) (hs : Sides W H) (w : World) (v : Value) (l : List Sg) (hv : SegsAt w v l) (hm : pathMay l = true) (rule : Int) (hr : rule = 0 ∨ rule = 1) :
    Calls Try.prog 14 #[v, .int .i64 rule, .int .i64 Wi, .int .i64 Hi] w (MaskOutK W H Wi Hi n (fun j i => isIn rule (windG (edgesS l) (16 * (i : Int) + 8) (16 * (j : Int) + 8))) w) := by
  subst hW; subst hH; subst hn; exact coverMask_calls hs w v l hv hm rule hr
theorem hasK_calls (hW : Wi = (W : Int)) (hH : Hi = (H : Int)) (hn : n = W * H) (hs : Sides W H) (w : World) (ma : Option Addr) (q : Nat → Nat → Bool) (h : MaskF (.agg #[.int .i64 Wi, .int .i64 Hi, .slice ma n n]) (pixMask W H q) w) (i j : Int) :
    Calls Try.prog 28 #[.agg #[.int .i64 Wi, .int .i64 Hi, .slice ma n n], .int .i64 i, .int .i64 j] w fun e w' => e = .returned (.bool (atPix W H q i j)) ∧ Below w.heap.size w w' := by
  subst hW; subst hH; subst hn; exact pixHas_calls hs w ma q h i j
theorem mayK_calls (hW : Wi = (W : Int)) (hH : Hi = (H : Int)) (hn : n = W * H) (hs : Sides W H) (w : World) (ma : Option Addr) (q : Nat → Nat → Bool) (h : MaskF (.agg #[.int .i64 Wi, .int .i64 Hi, .slice ma n n]) (pixMask W H q) w) :
    Calls Try.prog 20 #[.agg #[.int .i64 Wi, .int .i64 Hi, .slice ma n n]] w fun e w' => e = .returned (.bool true) ∧ Below w.heap.size w w' := by
  subst hW; subst hH; subst hn
  have := coverMay_calls w _ _ h
  rw [mask_may hs q] at this
  exact this
theorem countK_calls (hW : Wi = (W : Int)) (hH : Hi = (H : Int)) (hn : n = W * H) (hs : Sides W H) (w : World) (ma : Option Addr) (q : Nat → Nat → Bool) (h : MaskF (.agg #[.int .i64 Wi, .int .i64 Hi, .slice ma n n]) (pixMask W H q) w) :
    Calls Try.prog 22 #[.agg #[.int .i64 Wi, .int .i64 Hi, .slice ma n n]] w fun e w' => e = .returned (.int .i64 (pixCount W q H)) ∧ Below w.heap.size w w' := by
  subst hW; subst hH; subst hn; exact pixCoverCount_calls hs w ma q h
theorem sameK_calls (hW : Wi = (W : Int)) (hH : Hi = (H : Int)) (hn : n = W * H) (hs : Sides W H) (w : World) (ma mb : Option Addr) (p q : Nat → Nat → Bool) (ha : MaskF (.agg #[.int .i64 Wi, .int .i64 Hi, .slice ma n n]) (pixMask W H p) w) (hb : MaskF (.agg #[.int .i64 Wi, .int .i64 Hi, .slice mb n n]) (pixMask W H q) w) (e : ∀ j, j < H → ∀ i, i < W → p j i = q j i) :
    Calls Try.prog 21 #[.agg #[.int .i64 Wi, .int .i64 Hi, .slice ma n n], .agg #[.int .i64 Wi, .int .i64 Hi, .slice mb n n]] w fun e w' => e = .returned (.bool true) ∧ Below w.heap.size w w' := by
  subst hW; subst hH; subst hn; exact pixCoverSame_calls hs w ma mb p q ha hb e
theorem otherK_calls (hW : Wi = (W : Int)) (hH : Hi = (H : Int)) (hn : n = W * H) (hs : Sides W H) (w : World) (ma mb : Option Addr) (p q : Nat → Nat → Bool) (ha : MaskF (.agg #[.int .i64 Wi, .int .i64 Hi, .slice ma n n]) (pixMask W H p) w) (hb : MaskF (.agg #[.int .i64 Wi, .int .i64 Hi, .slice mb n n]) (pixMask W H q) w) :
    Calls Try.prog 26 #[.agg #[.int .i64 Wi, .int .i64 Hi, .slice ma n n], .agg #[.int .i64 Wi, .int .i64 Hi, .slice mb n n]] w (MaskOutK W H Wi Hi n (fun j i => p j i != q j i) w) := by
  subst hW; subst hH; subst hn; exact pixCoverOther_calls hs w ma mb p q ha hb
end
theorem Holds.range {w0 w : World} {M : List Res} {Φ : List (World → Prop)} {b : Nat} {cs : Array Value} {T : TypeId} (hL : Holds w0 w M Φ) (hat : At M (blk b cs T)) : w.rangeAt b 0 cs.toList := fun j v hv => by
  rw [Nat.zero_add, hL.cell hat]; simpa using hv
theorem litA5 {P : Program} {w0 w : World} {M : List Res} {Φ : List (World → Prop)} {K2 : Value → World → Prop} {t e size bytes : Nat} {z : Value} {vp : Array (Nat × Value)} {v0 v1 v2 v3 v4 : Value} {cs : Array Value} [ht : SliceT P t e] [hi : ElemT P e size bytes z]
    (hL : Holds w0 w M Φ) (h : ∀ b w', Holds w0 w' (blk b cs e :: M) Φ → K2 (.slice (some ⟨b, 0, none⟩) 5 5) w')
    (hvs : vp = #[(0, v0), (1, v1), (2, v2), (3, v3), (4, v4)] := by (simp only [List.map_toArray, List.map_cons, List.map_nil]; rfl)) (hv : [v0, v1, v2, v3, v4].all (fun v => decide (v.cells.size = size)) = true := by (simp [go_sem, Value.cells]; done)) (hsm : 5 * size ≤ 16777216 := by decide) (hcs : litCells [v0, v1, v2, v3, v4] = cs := by (simp [go_sem, litCells, Value.cells]; rfl)) : LitAt P t 5 vp w K2 :=
  litAt ht hi [v0, v1, v2, v3, v4] hvs rfl hv hsm cs hcs hL h
theorem Holds.segsLit {w0 w : World} {M : List Res} {Φ : List (World → Prop)} {b : Nat} {cs : Array Value} {T : TypeId} (l : List Sg) (hL : Holds w0 w M Φ) (k : At M (blk b cs T)) (hcs : cs.toList = (l.map segC).flatten) (hm : l.length ≤ maxLen) : SegsAt w (.slice (some ⟨b, 0, none⟩) l.length l.length) l := by
  refine ⟨_, l.length, by simp, by simp, hm, fun i hi => ⟨b, 0, rfl, fun j v hj => ?_⟩⟩
  rw [hL.cell k, ← Array.getElem?_toList, hcs, Nat.zero_add]
  exact flatten_get (segC_len l) i hi j v hj
/-- an upright box -/
def boxS (x0 y0 x1 y1 : Int) : List Sg := [⟨1, x0, y0, 0, 0⟩, ⟨2, x1, y0, 0, 0⟩, ⟨2, x1, y1, 0, 0⟩, ⟨2, x0, y1, 0, 0⟩, ⟨4, 0, 0, 0, 0⟩]
set_option maxRecDepth 100000 in
theorem box_calls (w : World) (x0 y0 x1 y1 : Int) : Calls Try.prog 36 #[.int .i64 x0, .int .i64 y0, .int .i64 x1, .int .i64 y1] w (SegsOut (boxS x0 y0 x1 y1) w) := by
  have hL := Holds.start w
  have n1 : True := trivial
  go_enter Try.func36, Try.ntmps36
  go_wp2_with (first | ((with_reducible refine wpA_lit rfl _ _ _ rfl ?_); refine litA5 hL ?_) | (first | (clear hL n1; with_reducible intro b1 w1 hL) | (clear hL; with_reducible intro _ _ hL)) | (with_reducible refine wpC_alloc rfl _ rfl _ _ inferInstance hL ?_) | (with_reducible first | refine wpB_agg rfl _ _ _ rfl rfl hL ?_ | refine wpB_one rfl _ _ (.int _ _) rfl rfl rfl hL ?_ | refine wpB_one rfl _ _ (.slice _ _ _) rfl rfl rfl hL ?_ | refine wpB_one rfl _ _ (.bool _) rfl rfl rfl hL ?_ | refine wpB_one rfl _ _ (.pointer _) rfl rfl rfl hL ?_ | refine wpB_one rfl _ _ (.func _ _ _) rfl rfl rfl hL ?_) | (with_reducible first | refine wpH_max rfl _ _ _ _ rfl _ _ rfl rfl ?_ | refine wpH_min rfl _ _ _ _ rfl _ _ rfl rfl ?_) | ((with_reducible refine wpA_load rfl _ _ rfl _ rfl ?_); first | refine loadA hL ?_ | refine loadR hL ?_ | refine loadC hL ?_ | refine loadD ?_ | refine loadE hL ?_ | refine loadF ?_) | ((with_reducible refine wpA_index rfl _ _ _ rfl _ rfl _ rfl ?_); first | (refine indexA ?_; try rw [Int.toNat_natCast]) | refine indexC ?_) | ((with_reducible refine wpA_store rfl _ _ _ rfl _ rfl (.agg _) rfl ?_); refine storeR hL ?_; clear hL; intro _ hL) | ((with_reducible first | refine wpA_store rfl _ _ _ rfl _ rfl (.int _ _) rfl ?_ | refine wpA_store rfl _ _ _ rfl _ rfl (.slice _ _ _) rfl ?_ | refine wpA_store rfl _ _ _ rfl _ rfl (.bool _) rfl ?_ | refine wpA_store rfl _ _ _ rfl _ rfl (.pointer _) rfl ?_ | refine wpA_store rfl _ _ _ rfl _ rfl (.func _ _ _) rfl ?_); (first | refine storeA hL ?_ | refine storeO hL ?_); (clear hL; intro _ hL)) | ((with_reducible refine wpA_lit rfl _ _ _ rfl ?_); first | refine litA1 hL ?_ | refine litA2 hL ?_ | refine litA3 hL ?_ | refine litA4 hL ?_ | refine litA6 hL ?_) | ((with_reducible refine wpA_append rfl _ _ _ rfl (.slice _ _ _) rfl ?_); intro vq hvq; simp [go_sem] at hvq; subst hvq; refine appendA hL ?_; clear hL; intro _ _ _ hL; try dsimp only at hL) | ((with_reducible refine wpA_make rfl _ _ _ rfl _ rfl rfl ?_); refine makeA hL ?_))
  go_ret
  refine ⟨_, rfl, hL.below, ?_⟩
  exact (hL.settle .here (φ := fun w => w.heap[b1]? = some (.cells #[.int .i64 1, .int .i64 x0, .int .i64 y0, .int .i64 0, .int .i64 0, .int .i64 2, .int .i64 x1, .int .i64 y0, .int .i64 0, .int .i64 0, .int .i64 2, .int .i64 x1, .int .i64 y1, .int .i64 0, .int .i64 0, .int .i64 2, .int .i64 x0, .int .i64 y1, .int .i64 0, .int .i64 0, .int .i64 4, .int .i64 0, .int .i64 0, .int .i64 0, .int .i64 0] 45 (0, 0))) fun _ h => h).map (χ := fun w => SegsAt w (.slice (some ⟨b1, 0, none⟩) 5 5) (boxS x0 y0 x1 y1)) (fun w' h => by
    refine ⟨_, 5, rfl, by simp [boxS], by decide, fun i hi => ⟨b1, 0, rfl, fun j v hj => ?_⟩⟩
    rw [cell_of_row w' b1 _ _ _ (0, 0) h, Nat.zero_add]
    have := flatten_get (segC_len (boxS x0 y0 x1 y1)) i hi j v hj
    rw [← Array.getElem?_toList]
    exact this) |>.fresh
end Go.Proofs.Ytneddfiohekhiaa
