/- Package span, the rest of its functions. -/
import Derived.Test.YtjgnbmgdnfldeaaSpan
import Derived.Deep.RegionHeld3
namespace Go.Proofs.Ytjgnbmgdnfldeaa
open Go.RowKit

set_option maxHeartbeats 400000 in
theorem joinF_calls (x y : Bool) (w : World) : Calls Try.prog 65 #[.bool x, .bool y] w fun e w' => e = .returned (.bool (x || y)) ∧ w = w' := by
  cases x <;>
    (go_enter Try.func65, Try.ntmps65
     go_wp2
     go_ret
     exact ⟨rfl, rfl⟩)
set_option maxHeartbeats 400000 in
theorem meetF_calls (x y : Bool) (w : World) : Calls Try.prog 66 #[.bool x, .bool y] w fun e w' => e = .returned (.bool (x && y)) ∧ w = w' := by
  cases x <;>
    (go_enter Try.func66, Try.ntmps66
     go_wp2
     go_ret
     exact ⟨rfl, rfl⟩)
set_option maxHeartbeats 400000 in
theorem lessF_calls (x y : Bool) (w : World) : Calls Try.prog 67 #[.bool x, .bool y] w fun e w' => e = .returned (.bool (x && !y)) ∧ w = w' := by
  cases x <;> cases y <;>
    (go_enter Try.func67, Try.ntmps67
     go_wp2
     go_ret
     exact ⟨rfl, rfl⟩)
set_option maxHeartbeats 400000 in
theorem otherF_calls (x y : Bool) (w : World) : Calls Try.prog 68 #[.bool x, .bool y] w fun e w' => e = .returned (.bool (x != y)) ∧ w = w' := by
  cases x <;> cases y <;>
    (go_enter Try.func68, Try.ntmps68
     go_wp2
     go_ret
     exact ⟨rfl, rfl⟩)

set_option maxRecDepth 100000 in
set_option maxHeartbeats 400000 in
theorem beside_calls (w : World) (p q : Nat → Bool) (F : Nat) (h : Bool → Bool → Bool) (hF : ∀ x y w, Calls Try.prog F #[.bool x, .bool y] w fun e w' => e = .returned (.bool (h x y)) ∧ w = w')
    (hC : ∀ x y w, (callFunc F #[.bool x, .bool y]).run Try.prog w = .ok (.enter F #[.bool x, .bool y]) w) :
    Calls Try.prog 102 #[.agg (arrB p), .agg (arrB q), .func (.func F) #[] #[]] w fun e w' => e = .returned (.agg (arrB fun i => h (p i) (q i))) ∧ Below w.heap.size w w' := by
  have hL := Holds.start w
  have HF := Lib.hid hF; clear hF
  have n1 : True := trivial; have n2 : True := trivial; have n3 : True := trivial; have n4 : True := trivial; have n5 : True := trivial; have n6 : True := trivial
  go_enter Try.func102, Try.ntmps102
  go_wp2_with (first | (first | (clear hL n1; with_reducible intro b1 w1 hL) | (clear hL n2; with_reducible intro b2 w2 hL) | (clear hL n3; with_reducible intro b3 w3 hL) | (clear hL n4; with_reducible intro b4 w4 hL) | (clear hL n5; with_reducible intro b5 w5 hL) | (clear hL n6; with_reducible intro b6 w6 hL) | (clear hL; with_reducible intro _ _ hL)) | (with_reducible refine wpC_alloc rfl _ rfl _ _ inferInstance hL ?_) | (with_reducible first | refine wpB_agg rfl _ _ _ rfl rfl hL ?_ | refine wpB_one rfl _ _ (.int _ _) rfl rfl rfl hL ?_ | refine wpB_one rfl _ _ (.slice _ _ _) rfl rfl rfl hL ?_ | refine wpB_one rfl _ _ (.bool _) rfl rfl rfl hL ?_ | refine wpB_one rfl _ _ (.pointer _) rfl rfl rfl hL ?_ | refine wpB_one rfl _ _ (.func _ _ _) rfl rfl rfl hL ?_) | (with_reducible first | refine wpH_max rfl _ _ _ _ rfl _ _ rfl rfl ?_ | refine wpH_min rfl _ _ _ _ rfl _ _ rfl rfl ?_) | ((with_reducible refine wpA_load rfl _ _ rfl _ rfl ?_); first | refine loadA hL ?_ | refine loadR hL ?_ | refine loadC hL ?_ | refine loadD ?_ | refine loadE hL ?_ | refine loadF ?_) | ((with_reducible refine wpA_index rfl _ _ _ rfl _ rfl _ rfl ?_); first | (refine indexA ?_; try rw [Int.toNat_natCast]) | refine indexC ?_) | ((with_reducible refine wpA_store rfl _ _ _ rfl _ rfl (.agg _) rfl ?_); refine storeR hL ?_; clear hL; intro _ hL) | ((with_reducible first | refine wpA_store rfl _ _ _ rfl _ rfl (.int _ _) rfl ?_ | refine wpA_store rfl _ _ _ rfl _ rfl (.slice _ _ _) rfl ?_ | refine wpA_store rfl _ _ _ rfl _ rfl (.bool _) rfl ?_ | refine wpA_store rfl _ _ _ rfl _ rfl (.pointer _) rfl ?_ | refine wpA_store rfl _ _ _ rfl _ rfl (.func _ _ _) rfl ?_); (first | refine storeA hL ?_ | refine storeO hL ?_); (clear hL; intro _ hL)) | ((with_reducible refine wpA_lit rfl _ _ _ rfl ?_); first | refine litA1 hL ?_ | refine litA2 hL ?_) | ((with_reducible refine wpA_append rfl _ _ _ rfl (.slice _ _ _) rfl ?_); intro vq hvq; simp [go_sem] at hvq; subst hvq; refine appendA hL ?_; clear hL; intro _ _ _ hL; try dsimp only at hL) | ((with_reducible refine wpA_make rfl _ _ _ rfl _ rfl rfl ?_); refine makeA hL ?_))
  go_loopw [9] (fun s9 wr => ∃ i : Nat, i ≤ 64 ∧ s9 = .int .i64 i ∧ Holds w wr [blk b4 (arrB fun j => decide (j < i) && h (p j) (q j)) 75, blk b3 (arrB fun _ => false) 75, blk b2 (arrB q) 75, blk b1 (arrB p) 75] [])
    (fun s9 wr => (64 - intOf s9).toNat)
  case atStart => exact ⟨0, by omega, rfl, by simpa using hL⟩
  case round =>
    clear hL
    obtain ⟨i, hi, rfl, hL⟩ := hrel
    by_cases hlt : i < 64
    · go_wp2_with (first | (first | (clear hL n1; with_reducible intro b1 w1 hL) | (clear hL n2; with_reducible intro b2 w2 hL) | (clear hL n3; with_reducible intro b3 w3 hL) | (clear hL n4; with_reducible intro b4 w4 hL) | (clear hL n5; with_reducible intro b5 w5 hL) | (clear hL n6; with_reducible intro b6 w6 hL) | (clear hL; with_reducible intro _ _ hL)) | (with_reducible refine wpC_alloc rfl _ rfl _ _ inferInstance hL ?_) | (with_reducible first | refine wpB_agg rfl _ _ _ rfl rfl hL ?_ | refine wpB_one rfl _ _ (.int _ _) rfl rfl rfl hL ?_ | refine wpB_one rfl _ _ (.slice _ _ _) rfl rfl rfl hL ?_ | refine wpB_one rfl _ _ (.bool _) rfl rfl rfl hL ?_ | refine wpB_one rfl _ _ (.pointer _) rfl rfl rfl hL ?_ | refine wpB_one rfl _ _ (.func _ _ _) rfl rfl rfl hL ?_) | (with_reducible first | refine wpH_max rfl _ _ _ _ rfl _ _ rfl rfl ?_ | refine wpH_min rfl _ _ _ _ rfl _ _ rfl rfl ?_) | ((with_reducible refine wpA_load rfl _ _ rfl _ rfl ?_); first | refine loadA hL ?_ | refine loadR hL ?_ | refine loadC hL ?_ | refine loadD ?_ | refine loadE hL ?_ | refine loadF ?_) | ((with_reducible refine wpA_index rfl _ _ _ rfl _ rfl _ rfl ?_); first | (refine indexA ?_; try rw [Int.toNat_natCast]) | refine indexC ?_) | ((with_reducible refine wpA_store rfl _ _ _ rfl _ rfl (.agg _) rfl ?_); refine storeR hL ?_; clear hL; intro _ hL) | ((with_reducible first | refine wpA_store rfl _ _ _ rfl _ rfl (.int _ _) rfl ?_ | refine wpA_store rfl _ _ _ rfl _ rfl (.slice _ _ _) rfl ?_ | refine wpA_store rfl _ _ _ rfl _ rfl (.bool _) rfl ?_ | refine wpA_store rfl _ _ _ rfl _ rfl (.pointer _) rfl ?_ | refine wpA_store rfl _ _ _ rfl _ rfl (.func _ _ _) rfl ?_); (first | refine storeA hL ?_ | refine storeO hL ?_); (clear hL; intro _ hL)) | ((with_reducible refine wpA_lit rfl _ _ _ rfl ?_); first | refine litA1 hL ?_ | refine litA2 hL ?_) | ((with_reducible refine wpA_append rfl _ _ _ rfl (.slice _ _ _) rfl ?_); intro vq hvq; simp [go_sem] at hvq; subst hvq; refine appendA hL ?_; clear hL; intro _ _ _ hL; try dsimp only at hL) | ((with_reducible refine wpA_make rfl _ _ _ rfl _ rfl rfl ?_); refine makeA hL ?_))
      have c1 := hL.cell (o := i) (.there (.there (.there .here)))
      rw [arrB_get _ hlt] at c1
      have c2 := hL.cell (o := i) (.there (.there .here))
      rw [arrB_get _ hlt] at c2
      have c3 := hL.cell (o := i) .here
      rw [arrB_get _ hlt] at c3
      have c4 := hL.soft (o := i) .here
      have hne := hL.apart
      simp [blk] at hne
      obtain ⟨⟨_, f42, f41⟩, _⟩ := hne
      have e42 : ¬ b4 = b2 := fun e => f42 e.symm
      have e41 : ¬ b4 = b1 := fun e => f41 e.symm
      have ha := (hL.setCell (o := i) (v := .bool (h (p i) (q i))) .here).drew
      rw [arrB_set _ _ hlt] at ha
      clear hL
      go_region_held3 (fun w' => w'.cell? ⟨b1, i, none⟩ = some (.bool (p i)) ∧ w'.cell? ⟨b2, i, none⟩ = some (.bool (q i))) (first | go_keep | (refine ⟨?_, ?_⟩ <;> (rw [World.cell?_drew, World.cell?_setCell_other _ _ _ _ (by simp [e41, e42])]; assumption)))
        ((refine (HF.out _ _ _).mono ?_; rintro e w' ⟨rfl, rfl⟩))
      go_wp2
      go_roundw
      case rel =>
        refine ⟨i + 1, by omega, by go_num, ?_⟩
        have e : arrB (fun j => if j = i then h (p i) (q i) else decide (j < i) && h (p j) (q j)) = arrB (fun j => decide (j < i + 1) && h (p j) (q j)) := by
          refine arrB_congr fun j _ => ?_
          by_cases hj : j = i
          · subst hj; simp
          · have : j < i + 1 ↔ j < i := by omega
            simp [hj, this]
        rw [← e]
        exact ha
      case measure => simp [intOf]; omega
    · have e : arrB (fun j => decide (j < i) && h (p j) (q j)) = arrB (fun j => h (p j) (q j)) := by
        refine arrB_congr fun j hj => ?_
        have : j < i := by omega
        simp [this]
      rw [e] at hL
      clear e
      go_wp2_with (first | (first | (clear hL n1; with_reducible intro b1 w1 hL) | (clear hL n2; with_reducible intro b2 w2 hL) | (clear hL n3; with_reducible intro b3 w3 hL) | (clear hL n4; with_reducible intro b4 w4 hL) | (clear hL n5; with_reducible intro b5 w5 hL) | (clear hL n6; with_reducible intro b6 w6 hL) | (clear hL; with_reducible intro _ _ hL)) | (with_reducible refine wpC_alloc rfl _ rfl _ _ inferInstance hL ?_) | (with_reducible first | refine wpB_agg rfl _ _ _ rfl rfl hL ?_ | refine wpB_one rfl _ _ (.int _ _) rfl rfl rfl hL ?_ | refine wpB_one rfl _ _ (.slice _ _ _) rfl rfl rfl hL ?_ | refine wpB_one rfl _ _ (.bool _) rfl rfl rfl hL ?_ | refine wpB_one rfl _ _ (.pointer _) rfl rfl rfl hL ?_ | refine wpB_one rfl _ _ (.func _ _ _) rfl rfl rfl hL ?_) | (with_reducible first | refine wpH_max rfl _ _ _ _ rfl _ _ rfl rfl ?_ | refine wpH_min rfl _ _ _ _ rfl _ _ rfl rfl ?_) | ((with_reducible refine wpA_load rfl _ _ rfl _ rfl ?_); first | refine loadA hL ?_ | refine loadR hL ?_ | refine loadC hL ?_ | refine loadD ?_ | refine loadE hL ?_ | refine loadF ?_) | ((with_reducible refine wpA_index rfl _ _ _ rfl _ rfl _ rfl ?_); first | (refine indexA ?_; try rw [Int.toNat_natCast]) | refine indexC ?_) | ((with_reducible refine wpA_store rfl _ _ _ rfl _ rfl (.agg _) rfl ?_); refine storeR hL ?_; clear hL; intro _ hL) | ((with_reducible first | refine wpA_store rfl _ _ _ rfl _ rfl (.int _ _) rfl ?_ | refine wpA_store rfl _ _ _ rfl _ rfl (.slice _ _ _) rfl ?_ | refine wpA_store rfl _ _ _ rfl _ rfl (.bool _) rfl ?_ | refine wpA_store rfl _ _ _ rfl _ rfl (.pointer _) rfl ?_ | refine wpA_store rfl _ _ _ rfl _ rfl (.func _ _ _) rfl ?_); (first | refine storeA hL ?_ | refine storeO hL ?_); (clear hL; intro _ hL)) | ((with_reducible refine wpA_lit rfl _ _ _ rfl ?_); first | refine litA1 hL ?_ | refine litA2 hL ?_) | ((with_reducible refine wpA_append rfl _ _ _ rfl (.slice _ _ _) rfl ?_); intro vq hvq; simp [go_sem] at hvq; subst hvq; refine appendA hL ?_; clear hL; intro _ _ _ hL; try dsimp only at hL) | ((with_reducible refine wpA_make rfl _ _ _ rfl _ rfl rfl ?_); refine makeA hL ?_))
      exact bodyPost_ret (results_row inferInstance rfl _ hL b3 rfl _ _ (.there .here) (by rw [arrB_size])) rfl ⟨rfl, hL.below⟩

theorem RunsAt.hold {w0 w : World} {M : List Res} {Φ : List (World → Prop)} {v : Value} {l : List (Int × Int)} (h : RunsAt w0 v l) (hL : Holds w0 w M Φ) : RunsAt w v l := SliceAt.below h hL.below
theorem Holds.out0 {w0 w : World} {M : List Res} {Φ : List (World → Prop)} {k : Nat} {v : Value} {els : List (List Value)} (h : Holds w0 w M ((fun w => SliceAt w k v els) :: Φ)) : SliceOut k els w0 (.returned v) w :=
  ⟨v, rfl, h.below, h.fresh⟩
/-- a width, cut to what there may be -/
def cutI (a : Int) : Int := max 0 (min a 64)
theorem cutI_le (a : Int) : 0 ≤ cutI a ∧ cutI a ≤ 64 := by unfold cutI; omega
attribute [irreducible] cutI

set_option maxHeartbeats 400000 in
theorem cut_calls (a : Int) (w : World) :
    Calls Try.prog 69 #[.int .i64 a] w fun e w' => e = .returned (.int .i64 (cutI a)) ∧ w = w' := by
  have hL := Holds.start w
  go_enter Try.func69, Try.ntmps69
  go_wp2_with (first | ((clear hL; with_reducible intro _ _ hL)) | (with_reducible refine wpC_alloc rfl _ rfl _ _ inferInstance hL ?_) | (with_reducible first | refine wpB_agg rfl _ _ _ rfl rfl hL ?_ | refine wpB_one rfl _ _ (.int _ _) rfl rfl rfl hL ?_ | refine wpB_one rfl _ _ (.slice _ _ _) rfl rfl rfl hL ?_ | refine wpB_one rfl _ _ (.bool _) rfl rfl rfl hL ?_ | refine wpB_one rfl _ _ (.pointer _) rfl rfl rfl hL ?_ | refine wpB_one rfl _ _ (.func _ _ _) rfl rfl rfl hL ?_) | (with_reducible first | refine wpH_max rfl _ _ _ _ rfl _ _ rfl rfl ?_ | refine wpH_min rfl _ _ _ _ rfl _ _ rfl rfl ?_) | ((with_reducible refine wpA_load rfl _ _ rfl _ rfl ?_); first | refine loadA hL ?_ | refine loadR hL ?_ | refine loadC hL ?_ | refine loadD ?_ | refine loadE hL ?_ | refine loadF ?_) | ((with_reducible refine wpA_index rfl _ _ _ rfl _ rfl _ rfl ?_); first | (refine indexA ?_; try rw [Int.toNat_natCast]) | refine indexC ?_) | ((with_reducible refine wpA_store rfl _ _ _ rfl _ rfl (.agg _) rfl ?_); refine storeR hL ?_; clear hL; intro _ hL) | ((with_reducible first | refine wpA_store rfl _ _ _ rfl _ rfl (.int _ _) rfl ?_ | refine wpA_store rfl _ _ _ rfl _ rfl (.slice _ _ _) rfl ?_ | refine wpA_store rfl _ _ _ rfl _ rfl (.bool _) rfl ?_ | refine wpA_store rfl _ _ _ rfl _ rfl (.pointer _) rfl ?_ | refine wpA_store rfl _ _ _ rfl _ rfl (.func _ _ _) rfl ?_); (first | refine storeA hL ?_ | refine storeO hL ?_); (clear hL; intro _ hL)) | ((with_reducible refine wpA_lit rfl _ _ _ rfl ?_); first | refine litA1 hL ?_ | refine litA2 hL ?_) | ((with_reducible refine wpA_append rfl _ _ _ rfl (.slice _ _ _) rfl ?_); intro vq hvq; simp [go_sem] at hvq; subst hvq; refine appendA hL ?_; clear hL; intro _ _ _ hL; try dsimp only at hL) | ((with_reducible refine wpA_make rfl _ _ _ rfl _ rfl rfl ?_); refine makeA hL ?_))
  go_ret
  exact ⟨by unfold cutI; rfl, rfl⟩

set_option maxRecDepth 100000 in
set_option maxHeartbeats 400000 in
theorem spanBoth_calls (w : World) (a b : Value) (la lb : List (Int × Int)) (ha : RunsAt w a la) (hb : RunsAt w b lb) (F : Nat) (h : Bool → Bool → Bool) (hF : ∀ x y w, Calls Try.prog F #[.bool x, .bool y] w fun e w' => e = .returned (.bool (h x y)) ∧ w = w')
    (hC : ∀ x y w, (callFunc F #[.bool x, .bool y]).run Try.prog w = .ok (.enter F #[.bool x, .bool y]) w) :
    Calls Try.prog 64 #[a, b, .func (.func F) #[] #[]] w (RunsOut (runsTo (fun i => h (inRuns la i) (inRuns lb i)) 64) w) := by
  have hL := Holds.start w
  have Ha := Lib.hid ha; clear ha
  have Hb := Lib.hid hb; clear hb
  have HF := Lib.hid hF; clear hF
  have HC := Lib.hid hC; clear hC
  go_enter Try.func64, Try.ntmps64
  go_wp2_with (first | (go_at_call 103; (first | (with_reducible refine (of_calls _ a la (Ha.out.hold hL)).mono ?_) | (with_reducible refine (of_calls _ b lb (Hb.out.hold hL)).mono ?_)); rintro e _ ⟨rfl, hb⟩; replace hL := hL.call hb; clear hb) | (go_at_call 102; (with_reducible refine (beside_calls _ _ _ F h HF.out HC.out).mono ?_); rintro e _ ⟨rfl, hb⟩; replace hL := hL.call hb; clear hb) | (go_at_call 104; (with_reducible refine (runs_calls _ _).mono ?_); rintro e _ ⟨v, rfl, hb, hf⟩; replace hL := hL.callF hb hf; clear hb hf) | ((clear hL; with_reducible intro _ _ hL)) | (with_reducible refine wpC_alloc rfl _ rfl _ _ inferInstance hL ?_) | (with_reducible first | refine wpB_agg rfl _ _ _ rfl rfl hL ?_ | refine wpB_one rfl _ _ (.int _ _) rfl rfl rfl hL ?_ | refine wpB_one rfl _ _ (.slice _ _ _) rfl rfl rfl hL ?_ | refine wpB_one rfl _ _ (.bool _) rfl rfl rfl hL ?_ | refine wpB_one rfl _ _ (.pointer _) rfl rfl rfl hL ?_ | refine wpB_one rfl _ _ (.func _ _ _) rfl rfl rfl hL ?_) | (with_reducible first | refine wpH_max rfl _ _ _ _ rfl _ _ rfl rfl ?_ | refine wpH_min rfl _ _ _ _ rfl _ _ rfl rfl ?_) | ((with_reducible refine wpA_load rfl _ _ rfl _ rfl ?_); first | refine loadA hL ?_ | refine loadR hL ?_ | refine loadC hL ?_ | refine loadD ?_ | refine loadE hL ?_ | refine loadF ?_) | ((with_reducible refine wpA_index rfl _ _ _ rfl _ rfl _ rfl ?_); first | (refine indexA ?_; try rw [Int.toNat_natCast]) | refine indexC ?_) | ((with_reducible refine wpA_store rfl _ _ _ rfl _ rfl (.agg _) rfl ?_); refine storeR hL ?_; clear hL; intro _ hL) | ((with_reducible first | refine wpA_store rfl _ _ _ rfl _ rfl (.int _ _) rfl ?_ | refine wpA_store rfl _ _ _ rfl _ rfl (.slice _ _ _) rfl ?_ | refine wpA_store rfl _ _ _ rfl _ rfl (.bool _) rfl ?_ | refine wpA_store rfl _ _ _ rfl _ rfl (.pointer _) rfl ?_ | refine wpA_store rfl _ _ _ rfl _ rfl (.func _ _ _) rfl ?_); (first | refine storeA hL ?_ | refine storeO hL ?_); (clear hL; intro _ hL)) | ((with_reducible refine wpA_lit rfl _ _ _ rfl ?_); first | refine litA1 hL ?_ | refine litA2 hL ?_) | ((with_reducible refine wpA_append rfl _ _ _ rfl (.slice _ _ _) rfl ?_); intro vq hvq; simp [go_sem] at hvq; subst hvq; refine appendA hL ?_; clear hL; intro _ _ _ hL; try dsimp only at hL) | ((with_reducible refine wpA_make rfl _ _ _ rfl _ rfl rfl ?_); refine makeA hL ?_))
  go_ret
  exact hL.out0

theorem spanJoin_calls (w : World) (a b : Value) (la lb : List (Int × Int)) (ha : RunsAt w a la) (hb : RunsAt w b lb) :
    Calls Try.prog 22 #[a, b] w (RunsOut (runsTo (fun i => inRuns la i || inRuns lb i) 64) w) := by
  have hL := Holds.start w
  have Ha := Lib.hid ha; clear ha
  have Hb := Lib.hid hb; clear hb
  go_enter Try.func22, Try.ntmps22
  go_wp2_with (first | (go_at_call 64; (with_reducible refine (spanBoth_calls _ _ _ la lb (Ha.out.hold hL) (Hb.out.hold hL) _ (fun x y => x || y) joinF_calls (fun _ _ _ => by kernel_rfl)).mono ?_); rintro e _ ⟨v, rfl, hb, hf⟩; replace hL := hL.callF hb hf; clear hb hf) | ((clear hL; with_reducible intro _ _ hL)) | (with_reducible refine wpC_alloc rfl _ rfl _ _ inferInstance hL ?_) | (with_reducible first | refine wpB_agg rfl _ _ _ rfl rfl hL ?_ | refine wpB_one rfl _ _ (.int _ _) rfl rfl rfl hL ?_ | refine wpB_one rfl _ _ (.slice _ _ _) rfl rfl rfl hL ?_ | refine wpB_one rfl _ _ (.bool _) rfl rfl rfl hL ?_ | refine wpB_one rfl _ _ (.pointer _) rfl rfl rfl hL ?_ | refine wpB_one rfl _ _ (.func _ _ _) rfl rfl rfl hL ?_) | (with_reducible first | refine wpH_max rfl _ _ _ _ rfl _ _ rfl rfl ?_ | refine wpH_min rfl _ _ _ _ rfl _ _ rfl rfl ?_) | ((with_reducible refine wpA_load rfl _ _ rfl _ rfl ?_); first | refine loadA hL ?_ | refine loadR hL ?_ | refine loadC hL ?_ | refine loadD ?_ | refine loadE hL ?_ | refine loadF ?_) | ((with_reducible refine wpA_index rfl _ _ _ rfl _ rfl _ rfl ?_); first | (refine indexA ?_; try rw [Int.toNat_natCast]) | refine indexC ?_) | ((with_reducible refine wpA_store rfl _ _ _ rfl _ rfl (.agg _) rfl ?_); refine storeR hL ?_; clear hL; intro _ hL) | ((with_reducible first | refine wpA_store rfl _ _ _ rfl _ rfl (.int _ _) rfl ?_ | refine wpA_store rfl _ _ _ rfl _ rfl (.slice _ _ _) rfl ?_ | refine wpA_store rfl _ _ _ rfl _ rfl (.bool _) rfl ?_ | refine wpA_store rfl _ _ _ rfl _ rfl (.pointer _) rfl ?_ | refine wpA_store rfl _ _ _ rfl _ rfl (.func _ _ _) rfl ?_); (first | refine storeA hL ?_ | refine storeO hL ?_); (clear hL; intro _ hL)) | ((with_reducible refine wpA_lit rfl _ _ _ rfl ?_); first | refine litA1 hL ?_ | refine litA2 hL ?_) | ((with_reducible refine wpA_append rfl _ _ _ rfl (.slice _ _ _) rfl ?_); intro vq hvq; simp [go_sem] at hvq; subst hvq; refine appendA hL ?_; clear hL; intro _ _ _ hL; try dsimp only at hL) | ((with_reducible refine wpA_make rfl _ _ _ rfl _ rfl rfl ?_); refine makeA hL ?_))
  go_ret
  exact hL.out0

theorem spanMeet_calls (w : World) (a b : Value) (la lb : List (Int × Int)) (ha : RunsAt w a la) (hb : RunsAt w b lb) :
    Calls Try.prog 23 #[a, b] w (RunsOut (runsTo (fun i => inRuns la i && inRuns lb i) 64) w) := by
  have hL := Holds.start w
  have Ha := Lib.hid ha; clear ha
  have Hb := Lib.hid hb; clear hb
  go_enter Try.func23, Try.ntmps23
  go_wp2_with (first | (go_at_call 64; (with_reducible refine (spanBoth_calls _ _ _ la lb (Ha.out.hold hL) (Hb.out.hold hL) _ (fun x y => x && y) meetF_calls (fun _ _ _ => by kernel_rfl)).mono ?_); rintro e _ ⟨v, rfl, hb, hf⟩; replace hL := hL.callF hb hf; clear hb hf) | ((clear hL; with_reducible intro _ _ hL)) | (with_reducible refine wpC_alloc rfl _ rfl _ _ inferInstance hL ?_) | (with_reducible first | refine wpB_agg rfl _ _ _ rfl rfl hL ?_ | refine wpB_one rfl _ _ (.int _ _) rfl rfl rfl hL ?_ | refine wpB_one rfl _ _ (.slice _ _ _) rfl rfl rfl hL ?_ | refine wpB_one rfl _ _ (.bool _) rfl rfl rfl hL ?_ | refine wpB_one rfl _ _ (.pointer _) rfl rfl rfl hL ?_ | refine wpB_one rfl _ _ (.func _ _ _) rfl rfl rfl hL ?_) | (with_reducible first | refine wpH_max rfl _ _ _ _ rfl _ _ rfl rfl ?_ | refine wpH_min rfl _ _ _ _ rfl _ _ rfl rfl ?_) | ((with_reducible refine wpA_load rfl _ _ rfl _ rfl ?_); first | refine loadA hL ?_ | refine loadR hL ?_ | refine loadC hL ?_ | refine loadD ?_ | refine loadE hL ?_ | refine loadF ?_) | ((with_reducible refine wpA_index rfl _ _ _ rfl _ rfl _ rfl ?_); first | (refine indexA ?_; try rw [Int.toNat_natCast]) | refine indexC ?_) | ((with_reducible refine wpA_store rfl _ _ _ rfl _ rfl (.agg _) rfl ?_); refine storeR hL ?_; clear hL; intro _ hL) | ((with_reducible first | refine wpA_store rfl _ _ _ rfl _ rfl (.int _ _) rfl ?_ | refine wpA_store rfl _ _ _ rfl _ rfl (.slice _ _ _) rfl ?_ | refine wpA_store rfl _ _ _ rfl _ rfl (.bool _) rfl ?_ | refine wpA_store rfl _ _ _ rfl _ rfl (.pointer _) rfl ?_ | refine wpA_store rfl _ _ _ rfl _ rfl (.func _ _ _) rfl ?_); (first | refine storeA hL ?_ | refine storeO hL ?_); (clear hL; intro _ hL)) | ((with_reducible refine wpA_lit rfl _ _ _ rfl ?_); first | refine litA1 hL ?_ | refine litA2 hL ?_) | ((with_reducible refine wpA_append rfl _ _ _ rfl (.slice _ _ _) rfl ?_); intro vq hvq; simp [go_sem] at hvq; subst hvq; refine appendA hL ?_; clear hL; intro _ _ _ hL; try dsimp only at hL) | ((with_reducible refine wpA_make rfl _ _ _ rfl _ rfl rfl ?_); refine makeA hL ?_))
  go_ret
  exact hL.out0

theorem spanLess_calls (w : World) (a b : Value) (la lb : List (Int × Int)) (ha : RunsAt w a la) (hb : RunsAt w b lb) :
    Calls Try.prog 24 #[a, b] w (RunsOut (runsTo (fun i => inRuns la i && !inRuns lb i) 64) w) := by
  have hL := Holds.start w
  have Ha := Lib.hid ha; clear ha
  have Hb := Lib.hid hb; clear hb
  go_enter Try.func24, Try.ntmps24
  go_wp2_with (first | (go_at_call 64; (with_reducible refine (spanBoth_calls _ _ _ la lb (Ha.out.hold hL) (Hb.out.hold hL) _ (fun x y => x && !y) lessF_calls (fun _ _ _ => by kernel_rfl)).mono ?_); rintro e _ ⟨v, rfl, hb, hf⟩; replace hL := hL.callF hb hf; clear hb hf) | ((clear hL; with_reducible intro _ _ hL)) | (with_reducible refine wpC_alloc rfl _ rfl _ _ inferInstance hL ?_) | (with_reducible first | refine wpB_agg rfl _ _ _ rfl rfl hL ?_ | refine wpB_one rfl _ _ (.int _ _) rfl rfl rfl hL ?_ | refine wpB_one rfl _ _ (.slice _ _ _) rfl rfl rfl hL ?_ | refine wpB_one rfl _ _ (.bool _) rfl rfl rfl hL ?_ | refine wpB_one rfl _ _ (.pointer _) rfl rfl rfl hL ?_ | refine wpB_one rfl _ _ (.func _ _ _) rfl rfl rfl hL ?_) | (with_reducible first | refine wpH_max rfl _ _ _ _ rfl _ _ rfl rfl ?_ | refine wpH_min rfl _ _ _ _ rfl _ _ rfl rfl ?_) | ((with_reducible refine wpA_load rfl _ _ rfl _ rfl ?_); first | refine loadA hL ?_ | refine loadR hL ?_ | refine loadC hL ?_ | refine loadD ?_ | refine loadE hL ?_ | refine loadF ?_) | ((with_reducible refine wpA_index rfl _ _ _ rfl _ rfl _ rfl ?_); first | (refine indexA ?_; try rw [Int.toNat_natCast]) | refine indexC ?_) | ((with_reducible refine wpA_store rfl _ _ _ rfl _ rfl (.agg _) rfl ?_); refine storeR hL ?_; clear hL; intro _ hL) | ((with_reducible first | refine wpA_store rfl _ _ _ rfl _ rfl (.int _ _) rfl ?_ | refine wpA_store rfl _ _ _ rfl _ rfl (.slice _ _ _) rfl ?_ | refine wpA_store rfl _ _ _ rfl _ rfl (.bool _) rfl ?_ | refine wpA_store rfl _ _ _ rfl _ rfl (.pointer _) rfl ?_ | refine wpA_store rfl _ _ _ rfl _ rfl (.func _ _ _) rfl ?_); (first | refine storeA hL ?_ | refine storeO hL ?_); (clear hL; intro _ hL)) | ((with_reducible refine wpA_lit rfl _ _ _ rfl ?_); first | refine litA1 hL ?_ | refine litA2 hL ?_) | ((with_reducible refine wpA_append rfl _ _ _ rfl (.slice _ _ _) rfl ?_); intro vq hvq; simp [go_sem] at hvq; subst hvq; refine appendA hL ?_; clear hL; intro _ _ _ hL; try dsimp only at hL) | ((with_reducible refine wpA_make rfl _ _ _ rfl _ rfl rfl ?_); refine makeA hL ?_))
  go_ret
  exact hL.out0

theorem spanOther_calls (w : World) (a b : Value) (la lb : List (Int × Int)) (ha : RunsAt w a la) (hb : RunsAt w b lb) :
    Calls Try.prog 25 #[a, b] w (RunsOut (runsTo (fun i => inRuns la i != inRuns lb i) 64) w) := by
  have hL := Holds.start w
  have Ha := Lib.hid ha; clear ha
  have Hb := Lib.hid hb; clear hb
  go_enter Try.func25, Try.ntmps25
  go_wp2_with (first | (go_at_call 64; (with_reducible refine (spanBoth_calls _ _ _ la lb (Ha.out.hold hL) (Hb.out.hold hL) _ (fun x y => x != y) otherF_calls (fun _ _ _ => by kernel_rfl)).mono ?_); rintro e _ ⟨v, rfl, hb, hf⟩; replace hL := hL.callF hb hf; clear hb hf) | ((clear hL; with_reducible intro _ _ hL)) | (with_reducible refine wpC_alloc rfl _ rfl _ _ inferInstance hL ?_) | (with_reducible first | refine wpB_agg rfl _ _ _ rfl rfl hL ?_ | refine wpB_one rfl _ _ (.int _ _) rfl rfl rfl hL ?_ | refine wpB_one rfl _ _ (.slice _ _ _) rfl rfl rfl hL ?_ | refine wpB_one rfl _ _ (.bool _) rfl rfl rfl hL ?_ | refine wpB_one rfl _ _ (.pointer _) rfl rfl rfl hL ?_ | refine wpB_one rfl _ _ (.func _ _ _) rfl rfl rfl hL ?_) | (with_reducible first | refine wpH_max rfl _ _ _ _ rfl _ _ rfl rfl ?_ | refine wpH_min rfl _ _ _ _ rfl _ _ rfl rfl ?_) | ((with_reducible refine wpA_load rfl _ _ rfl _ rfl ?_); first | refine loadA hL ?_ | refine loadR hL ?_ | refine loadC hL ?_ | refine loadD ?_ | refine loadE hL ?_ | refine loadF ?_) | ((with_reducible refine wpA_index rfl _ _ _ rfl _ rfl _ rfl ?_); first | (refine indexA ?_; try rw [Int.toNat_natCast]) | refine indexC ?_) | ((with_reducible refine wpA_store rfl _ _ _ rfl _ rfl (.agg _) rfl ?_); refine storeR hL ?_; clear hL; intro _ hL) | ((with_reducible first | refine wpA_store rfl _ _ _ rfl _ rfl (.int _ _) rfl ?_ | refine wpA_store rfl _ _ _ rfl _ rfl (.slice _ _ _) rfl ?_ | refine wpA_store rfl _ _ _ rfl _ rfl (.bool _) rfl ?_ | refine wpA_store rfl _ _ _ rfl _ rfl (.pointer _) rfl ?_ | refine wpA_store rfl _ _ _ rfl _ rfl (.func _ _ _) rfl ?_); (first | refine storeA hL ?_ | refine storeO hL ?_); (clear hL; intro _ hL)) | ((with_reducible refine wpA_lit rfl _ _ _ rfl ?_); first | refine litA1 hL ?_ | refine litA2 hL ?_) | ((with_reducible refine wpA_append rfl _ _ _ rfl (.slice _ _ _) rfl ?_); intro vq hvq; simp [go_sem] at hvq; subst hvq; refine appendA hL ?_; clear hL; intro _ _ _ hL; try dsimp only at hL) | ((with_reducible refine wpA_make rfl _ _ _ rfl _ rfl rfl ?_); refine makeA hL ?_))
  go_ret
  exact hL.out0
end Go.Proofs.Ytjgnbmgdnfldeaa
