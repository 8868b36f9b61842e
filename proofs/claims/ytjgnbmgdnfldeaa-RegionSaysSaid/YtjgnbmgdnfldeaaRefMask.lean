/- The reference's Mask. -/
import Derived.Test.YtjgnbmgdnfldeaaCover2
import Derived.Test.YtjgnbmgdnfldeaaRef30f
import Derived.Test.YtjgnbmgdnfldeaaRefOf
-- uses arrU
namespace Go.Proofs.Ytjgnbmgdnfldeaa
open Go.RowKit

theorem upTo_on {q : Nat → Bool} {i : Nat} (h : q i = true) : (fun c => if c = i then true else upTo q i c) = upTo q (i + 1) := by
  funext c
  unfold upTo
  by_cases hc : c = i
  · subst hc; simp [h]
  · have : c < i + 1 ↔ c < i := by omega
    simp [hc, this]
theorem upTo_off {q : Nat → Bool} {i : Nat} (h : q i = false) : upTo q i = upTo q (i + 1) := by
  funext c
  unfold upTo
  by_cases hc : c = i
  · subst hc; simp [h]
  · have : c < i + 1 ↔ c < i := by omega
    simp [this]

set_option maxRecDepth 100000 in
set_option maxHeartbeats 2000000 in
theorem refMask_calls {W H : Nat} (hs : Sides W H) (w : World) (sa : Option Addr) (sn sc : Nat) (p : Nat → Nat → Bool) (h : RegAt w (.agg #[.int .i64 W, .int .i64 H, .slice sa sn sc]) (pixReg W H p)) :
    Calls Try.prog 49 #[.agg #[.int .i64 W, .int .i64 H, .slice sa sn sc]] w (MaskOut W H p w) := by
  obtain ⟨hsn, hrow⟩ := regRow h
  have hsn := hsn.symm
  subst hsn
  clear hsn
  have Hp := Lib.hid h
  clear h
  have Hrow := Lib.hid hrow; clear hrow
  have Hmay := Lib.hid (pix_may hs.w0 hs.w1 hs.h0 hs.h1 p)
  obtain ⟨hw0, hw1, hh0, hh1⟩ := id hs
  obtain ⟨g1, g2⟩ := mul_le100 (x := (W : Int)) (y := (H : Int)) (by omega) (by omega) (by omega) (by omega)
  have hL := Holds.start w
  have n1 : True := trivial; have n2 : True := trivial; have n3 : True := trivial
  go_enter Try.func49, Try.ntmps49
  go_wp2_with (first | (go_at_call 39; (with_reducible refine (refMayReg_calls _ _ _ (Hp.out.hold hL)).mono ?_); rintro e w3 ⟨rfl, hb⟩; rw [Hmay.out]; replace hL := hL.call hb; clear hb) | (first | (clear hL n1; with_reducible intro b1 w1 hL) | (clear hL n2; with_reducible intro b2 w2 hL) | (clear hL n3; with_reducible intro b3 w3 hL) | (clear hL; with_reducible intro _ _ hL)) | (with_reducible refine wpC_alloc rfl _ rfl _ _ inferInstance hL ?_) | (with_reducible first | refine wpB_agg rfl _ _ _ rfl rfl hL ?_ | refine wpB_one rfl _ _ (.int _ _) rfl rfl rfl hL ?_ | refine wpB_one rfl _ _ (.slice _ _ _) rfl rfl rfl hL ?_ | refine wpB_one rfl _ _ (.bool _) rfl rfl rfl hL ?_ | refine wpB_one rfl _ _ (.pointer _) rfl rfl rfl hL ?_ | refine wpB_one rfl _ _ (.func _ _ _) rfl rfl rfl hL ?_) | (with_reducible first | refine wpH_max rfl _ _ _ _ rfl _ _ rfl rfl ?_ | refine wpH_min rfl _ _ _ _ rfl _ _ rfl rfl ?_) | ((with_reducible refine wpA_load rfl _ _ rfl _ rfl ?_); first | refine loadA hL ?_ | refine loadR hL ?_ | refine loadC hL ?_ | refine loadD ?_ | refine loadE hL ?_ | refine loadF ?_) | ((with_reducible refine wpA_index rfl _ _ _ rfl _ rfl _ rfl ?_); first | (refine indexA ?_; try rw [Int.toNat_natCast]) | refine indexC ?_) | ((with_reducible refine wpA_store rfl _ _ _ rfl _ rfl (.agg _) rfl ?_); refine storeR hL ?_; clear hL; intro _ hL) | ((with_reducible first | refine wpA_store rfl _ _ _ rfl _ rfl (.int _ _) rfl ?_ | refine wpA_store rfl _ _ _ rfl _ rfl (.slice _ _ _) rfl ?_ | refine wpA_store rfl _ _ _ rfl _ rfl (.bool _) rfl ?_ | refine wpA_store rfl _ _ _ rfl _ rfl (.pointer _) rfl ?_ | refine wpA_store rfl _ _ _ rfl _ rfl (.func _ _ _) rfl ?_); (first | refine storeA hL ?_ | refine storeO hL ?_); (clear hL; intro _ hL)) | ((with_reducible refine wpA_lit rfl _ _ _ rfl ?_); first | refine litA1 hL ?_ | refine litA2 hL ?_) | ((with_reducible refine wpA_append rfl _ _ _ rfl (.slice _ _ _) rfl ?_); intro vq hvq; simp [go_sem] at hvq; subst hvq; refine appendA hL ?_; clear hL; intro _ _ _ hL; try dsimp only at hL) | ((with_reducible refine wpA_make rfl _ _ _ rfl _ rfl rfl ?_); refine makeA hL ?_))
  have c0 := (hL.cell (o := 0) (b := b1) (by (repeat (first | with_reducible exact At.here | with_reducible apply At.there)))).trans rfl
  have c1 := (hL.cell (o := 1) (b := b1) (by (repeat (first | with_reducible exact At.here | with_reducible apply At.there)))).trans rfl
  have hwr : IntKind.i64.wrap ((W : Int) * (H : Int)) = (W : Int) * (H : Int) := by rw [IntKind.wrap_i64]; omega
  have hmk := fun w => run_makeU (n := W * H) (L := (W : Int) * (H : Int)) (by have := Nat.mul_le_mul hw1 hh1; omega) (by simp) w
  go_region_held3 (fun w' => w'.cell? ⟨b1, 0, none⟩ = some (.int .i64 W) ∧ w'.cell? ⟨b1, 1, none⟩ = some (.int .i64 H)) (first | go_keep | exact ⟨c0, c1⟩ | exact ⟨cell_later (by repeat (first | exact Below.refl _ _ | refine Below.drew ?_ | refine Below.alloc ?_ (by simp) _)) c0, cell_later (by repeat (first | exact Below.refl _ _ | refine Below.drew ?_ | refine Below.alloc ?_ (by simp) _)) c1⟩) (fail)
  all_goals clear c0 c1 hmk hwr
  · rename_i hH
    clear hH
    replace hL := (hL.alloc2 (arrU (W * H) fun _ => 0) #[.int .i64 W, .int .i64 H, .slice (some ⟨w3.heap.size, 0, none⟩) (W * H) (W * H)] 5 43)
    obtain ⟨w4, hw4⟩ : ∃ w4, w4 = ((w3.alloc (.cells (arrU (W * H) fun _ => 0) 5)).alloc (.cells #[.int .i64 W, .int .i64 H, .slice (some ⟨w3.heap.size, 0, none⟩) (W * H) (W * H)] 43)).drew := ⟨_, rfl⟩
    rw [← hw4] at hL ⊢
    clear hw4
    generalize w3.heap.size + 1 = bh at hL ⊢
    generalize w3.heap.size = bm at hL ⊢
    rw [show arrU (W * H) (fun _ => 0) = arrU (W * H) (maskF W (rowF p 0 fun _ => false)) from arrU_congr fun x _ => by simp [maskF, rowF]] at hL
    go_wp2_with (first | (first | (clear hL n1; with_reducible intro b1 w1 hL) | (clear hL n2; with_reducible intro b2 w2 hL) | (clear hL n3; with_reducible intro b3 w3 hL) | (clear hL; with_reducible intro _ _ hL)) | (with_reducible refine wpC_alloc rfl _ rfl _ _ inferInstance hL ?_) | (with_reducible first | refine wpB_agg rfl _ _ _ rfl rfl hL ?_ | refine wpB_one rfl _ _ (.int _ _) rfl rfl rfl hL ?_ | refine wpB_one rfl _ _ (.slice _ _ _) rfl rfl rfl hL ?_ | refine wpB_one rfl _ _ (.bool _) rfl rfl rfl hL ?_ | refine wpB_one rfl _ _ (.pointer _) rfl rfl rfl hL ?_ | refine wpB_one rfl _ _ (.func _ _ _) rfl rfl rfl hL ?_) | (with_reducible first | refine wpH_max rfl _ _ _ _ rfl _ _ rfl rfl ?_ | refine wpH_min rfl _ _ _ _ rfl _ _ rfl rfl ?_) | ((with_reducible refine wpA_load rfl _ _ rfl _ rfl ?_); first | refine loadA hL ?_ | refine loadR hL ?_ | refine loadC hL ?_ | refine loadD ?_ | refine loadE hL ?_ | refine loadF ?_) | ((with_reducible refine wpA_index rfl _ _ _ rfl _ rfl _ rfl ?_); first | (refine indexA ?_; try rw [Int.toNat_natCast]) | refine indexC ?_) | ((with_reducible refine wpA_store rfl _ _ _ rfl _ rfl (.agg _) rfl ?_); refine storeR hL ?_; clear hL; intro _ hL) | ((with_reducible first | refine wpA_store rfl _ _ _ rfl _ rfl (.int _ _) rfl ?_ | refine wpA_store rfl _ _ _ rfl _ rfl (.slice _ _ _) rfl ?_ | refine wpA_store rfl _ _ _ rfl _ rfl (.bool _) rfl ?_ | refine wpA_store rfl _ _ _ rfl _ rfl (.pointer _) rfl ?_ | refine wpA_store rfl _ _ _ rfl _ rfl (.func _ _ _) rfl ?_); (first | refine storeA hL ?_ | refine storeO hL ?_); (clear hL; intro _ hL)) | ((with_reducible refine wpA_lit rfl _ _ _ rfl ?_); first | refine litA1 hL ?_ | refine litA2 hL ?_) | ((with_reducible refine wpA_append rfl _ _ _ rfl (.slice _ _ _) rfl ?_); intro vq hvq; simp [go_sem] at hvq; subst hvq; refine appendA hL ?_; clear hL; intro _ _ _ hL; try dsimp only at hL) | ((with_reducible refine wpA_make rfl _ _ _ rfl _ rfl rfl ?_); refine makeA hL ?_))
    go_loopw [5] (fun s5 wr => ∃ j : Nat, j ≤ H ∧ s5 = .int .i64 j ∧ Holds w wr [blk bh #[.int .i64 W, .int .i64 H, .slice (some ⟨bm, 0, none⟩) (W * H) (W * H)] 43, blk bm (arrU (W * H) (maskF W (rowF p j fun _ => false))) 5, blk b2 #[.int .i64 0, .int .i64 0, .slice none 0 0] 43, blk b1 #[.int .i64 W, .int .i64 H, .slice sa H sc] 26] [])
      (fun s5 wr => (64 - intOf s5).toNat)
    case atStart => exact ⟨0, by omega, rfl, hL⟩
    case round =>
      clear hL
      obtain ⟨j, hj, rfl, hL⟩ := hrel
      by_cases hjt : j < H
      · obtain ⟨b, o, va, vn, vc, rfl, hc, hr⟩ := Hrow.out j hjt
        have Hr := Lib.hid hr; clear hr
        have hq := Lib.hid (show ∀ c, c < W → inRuns (runsTo (p j) W) c = p j c from fun c hc => by rw [inRuns_runsTo _ (by omega)]; simp [hc])
        generalize runsTo (p j) W = l at *
        go_wp2_with (first | (go_at_call 88; (with_reducible refine (refPlaces_calls _ _ l (Hr.out.hold hL)).mono ?_); rintro e _ ⟨rfl, hb⟩; replace hL := hL.call hb; clear hb) | (first | (clear hL n1; with_reducible intro b1 w1 hL) | (clear hL n2; with_reducible intro b2 w2 hL) | (clear hL n3; with_reducible intro b3 w3 hL) | (clear hL; with_reducible intro _ _ hL)) | (with_reducible refine wpC_alloc rfl _ rfl _ _ inferInstance hL ?_) | (with_reducible first | refine wpB_agg rfl _ _ _ rfl rfl hL ?_ | refine wpB_one rfl _ _ (.int _ _) rfl rfl rfl hL ?_ | refine wpB_one rfl _ _ (.slice _ _ _) rfl rfl rfl hL ?_ | refine wpB_one rfl _ _ (.bool _) rfl rfl rfl hL ?_ | refine wpB_one rfl _ _ (.pointer _) rfl rfl rfl hL ?_ | refine wpB_one rfl _ _ (.func _ _ _) rfl rfl rfl hL ?_) | (with_reducible first | refine wpH_max rfl _ _ _ _ rfl _ _ rfl rfl ?_ | refine wpH_min rfl _ _ _ _ rfl _ _ rfl rfl ?_) | ((with_reducible refine wpA_load rfl _ _ rfl _ rfl ?_); first | refine loadA hL ?_ | refine loadR hL ?_ | refine loadC hL ?_ | refine loadD ?_ | refine loadE hL ?_ | refine loadF ?_) | ((with_reducible refine wpA_index rfl _ _ _ rfl _ rfl _ rfl ?_); first | (refine indexA ?_; try rw [Int.toNat_natCast]) | refine indexC ?_) | ((with_reducible refine wpA_store rfl _ _ _ rfl _ rfl (.agg _) rfl ?_); refine storeR hL ?_; clear hL; intro _ hL) | ((with_reducible first | refine wpA_store rfl _ _ _ rfl _ rfl (.int _ _) rfl ?_ | refine wpA_store rfl _ _ _ rfl _ rfl (.slice _ _ _) rfl ?_ | refine wpA_store rfl _ _ _ rfl _ rfl (.bool _) rfl ?_ | refine wpA_store rfl _ _ _ rfl _ rfl (.pointer _) rfl ?_ | refine wpA_store rfl _ _ _ rfl _ rfl (.func _ _ _) rfl ?_); (first | refine storeA hL ?_ | refine storeO hL ?_); (clear hL; intro _ hL)) | ((with_reducible refine wpA_lit rfl _ _ _ rfl ?_); first | refine litA1 hL ?_ | refine litA2 hL ?_) | ((with_reducible refine wpA_append rfl _ _ _ rfl (.slice _ _ _) rfl ?_); intro vq hvq; simp [go_sem] at hvq; subst hvq; refine appendA hL ?_; clear hL; intro _ _ _ hL; try dsimp only at hL) | ((with_reducible refine wpA_make rfl _ _ _ rfl _ rfl rfl ?_); refine makeA hL ?_))
        go_loopw [7] (fun s7 wr => ∃ i : Nat, i ≤ W ∧ s7 = .int .i64 i ∧ Holds w wr [blk b3 (arrB (inRuns l)) 76, blk bh #[.int .i64 W, .int .i64 H, .slice (some ⟨bm, 0, none⟩) (W * H) (W * H)] 43, blk bm (arrU (W * H) (maskF W (rowF p j (upTo (p j) i)))) 5, blk b2 #[.int .i64 0, .int .i64 0, .slice none 0 0] 43, blk b1 #[.int .i64 W, .int .i64 H, .slice (some ⟨b, o, none⟩) H sc] 26] [])
          (fun s7 wr => (64 - intOf s7).toNat)
        case atStart =>
          rw [show rowF p j (fun _ => false) = rowF p j (upTo (p j) 0) by congr 1] at hL
          exact ⟨0, by omega, rfl, hL⟩
        case round =>
          clear hL
          obtain ⟨i, hi, rfl, hL⟩ := hrel
          by_cases hit : i < W
          · have hidx : W * j + i < W * H := by
              have := idx_lt hjt hit
              rw [Nat.mul_comm W j]; exact this
            have hidx2 : (W : Int) * (j : Int) + (i : Int) < ((W * H : Nat) : Int) := by
              have : ((W * j + i : Nat) : Int) < ((W * H : Nat) : Int) := by omega
              simpa using this
            have hidx3 : 0 ≤ (W : Int) * (j : Int) := Int.mul_nonneg (by omega) (by omega)
            have hidx4 : ((W * H : Nat) : Int) = (W : Int) * (H : Int) := by simp
            have Hqi := Lib.hid (hq.out i hit)
            go_wp2_with (first | (first | (clear hL n1; with_reducible intro b1 w1 hL) | (clear hL n2; with_reducible intro b2 w2 hL) | (clear hL n3; with_reducible intro b3 w3 hL) | (clear hL; with_reducible intro _ _ hL)) | (with_reducible refine wpC_alloc rfl _ rfl _ _ inferInstance hL ?_) | (with_reducible first | refine wpB_agg rfl _ _ _ rfl rfl hL ?_ | refine wpB_one rfl _ _ (.int _ _) rfl rfl rfl hL ?_ | refine wpB_one rfl _ _ (.slice _ _ _) rfl rfl rfl hL ?_ | refine wpB_one rfl _ _ (.bool _) rfl rfl rfl hL ?_ | refine wpB_one rfl _ _ (.pointer _) rfl rfl rfl hL ?_ | refine wpB_one rfl _ _ (.func _ _ _) rfl rfl rfl hL ?_) | (with_reducible first | refine wpH_max rfl _ _ _ _ rfl _ _ rfl rfl ?_ | refine wpH_min rfl _ _ _ _ rfl _ _ rfl rfl ?_) | ((with_reducible refine wpA_load rfl _ _ rfl _ rfl ?_); first | refine loadA hL ?_ | refine loadR hL ?_ | refine loadC hL ?_ | refine loadD ?_ | refine loadE hL ?_ | refine loadF ?_) | ((with_reducible refine wpA_index rfl _ _ _ rfl _ rfl _ rfl ?_); first | (refine indexA ?_; try rw [Int.toNat_natCast]) | refine indexC ?_) | ((with_reducible refine wpA_store rfl _ _ _ rfl _ rfl (.agg _) rfl ?_); refine storeR hL ?_; clear hL; intro _ hL) | ((with_reducible first | refine wpA_store rfl _ _ _ rfl _ rfl (.int _ _) rfl ?_ | refine wpA_store rfl _ _ _ rfl _ rfl (.slice _ _ _) rfl ?_ | refine wpA_store rfl _ _ _ rfl _ rfl (.bool _) rfl ?_ | refine wpA_store rfl _ _ _ rfl _ rfl (.pointer _) rfl ?_ | refine wpA_store rfl _ _ _ rfl _ rfl (.func _ _ _) rfl ?_); (first | refine storeA hL ?_ | refine storeO hL ?_); (clear hL; intro _ hL)) | ((with_reducible refine wpA_lit rfl _ _ _ rfl ?_); first | refine litA1 hL ?_ | refine litA2 hL ?_) | ((with_reducible refine wpA_append rfl _ _ _ rfl (.slice _ _ _) rfl ?_); intro vq hvq; simp [go_sem] at hvq; subst hvq; refine appendA hL ?_; clear hL; intro _ _ _ hL; try dsimp only at hL) | ((with_reducible refine wpA_make rfl _ _ _ rfl _ rfl rfl ?_); refine makeA hL ?_))
            · rename_i hp _
              go_roundw
              case rel =>
                rw [Nat.mul_comm W j, maskF_set p _ hit, upTo_on (by rw [← Hqi.out]; exact hp)] at hL
                exact ⟨i + 1, by omega, by go_num, hL⟩
              case measure => simp [intOf]; omega
            · rename_i hp
              go_roundw
              case rel =>
                rw [upTo_off (by rw [← Hqi.out]; simpa using hp)] at hL
                exact ⟨i + 1, by omega, by go_num, hL⟩
              case measure => simp [intOf]; omega
          · have e : i = W := by omega
            subst e
            rw [maskF_congr hw0 (rowF_next p j _ (fun c hc => by simp [upTo, hc]))] at hL
            go_wp2_with (first | (first | (clear hL n1; with_reducible intro b1 w1 hL) | (clear hL n2; with_reducible intro b2 w2 hL) | (clear hL n3; with_reducible intro b3 w3 hL) | (clear hL; with_reducible intro _ _ hL)) | (with_reducible refine wpC_alloc rfl _ rfl _ _ inferInstance hL ?_) | (with_reducible first | refine wpB_agg rfl _ _ _ rfl rfl hL ?_ | refine wpB_one rfl _ _ (.int _ _) rfl rfl rfl hL ?_ | refine wpB_one rfl _ _ (.slice _ _ _) rfl rfl rfl hL ?_ | refine wpB_one rfl _ _ (.bool _) rfl rfl rfl hL ?_ | refine wpB_one rfl _ _ (.pointer _) rfl rfl rfl hL ?_ | refine wpB_one rfl _ _ (.func _ _ _) rfl rfl rfl hL ?_) | (with_reducible first | refine wpH_max rfl _ _ _ _ rfl _ _ rfl rfl ?_ | refine wpH_min rfl _ _ _ _ rfl _ _ rfl rfl ?_) | ((with_reducible refine wpA_load rfl _ _ rfl _ rfl ?_); first | refine loadA hL ?_ | refine loadR hL ?_ | refine loadC hL ?_ | refine loadD ?_ | refine loadE hL ?_ | refine loadF ?_) | ((with_reducible refine wpA_index rfl _ _ _ rfl _ rfl _ rfl ?_); first | (refine indexA ?_; try rw [Int.toNat_natCast]) | refine indexC ?_) | ((with_reducible refine wpA_store rfl _ _ _ rfl _ rfl (.agg _) rfl ?_); refine storeR hL ?_; clear hL; intro _ hL) | ((with_reducible first | refine wpA_store rfl _ _ _ rfl _ rfl (.int _ _) rfl ?_ | refine wpA_store rfl _ _ _ rfl _ rfl (.slice _ _ _) rfl ?_ | refine wpA_store rfl _ _ _ rfl _ rfl (.bool _) rfl ?_ | refine wpA_store rfl _ _ _ rfl _ rfl (.pointer _) rfl ?_ | refine wpA_store rfl _ _ _ rfl _ rfl (.func _ _ _) rfl ?_); (first | refine storeA hL ?_ | refine storeO hL ?_); (clear hL; intro _ hL)) | ((with_reducible refine wpA_lit rfl _ _ _ rfl ?_); first | refine litA1 hL ?_ | refine litA2 hL ?_) | ((with_reducible refine wpA_append rfl _ _ _ rfl (.slice _ _ _) rfl ?_); intro vq hvq; simp [go_sem] at hvq; subst hvq; refine appendA hL ?_; clear hL; intro _ _ _ hL; try dsimp only at hL) | ((with_reducible refine wpA_make rfl _ _ _ rfl _ rfl rfl ?_); refine makeA hL ?_))
            go_roundw
            case rel => exact ⟨j + 1, by omega, by go_num, hL.drop .here⟩
            case measure => simp [intOf]; omega
      · have e : j = H := by omega
        subst e
        go_wp2_with (first | (first | (clear hL n1; with_reducible intro b1 w1 hL) | (clear hL n2; with_reducible intro b2 w2 hL) | (clear hL n3; with_reducible intro b3 w3 hL) | (clear hL; with_reducible intro _ _ hL)) | (with_reducible refine wpC_alloc rfl _ rfl _ _ inferInstance hL ?_) | (with_reducible first | refine wpB_agg rfl _ _ _ rfl rfl hL ?_ | refine wpB_one rfl _ _ (.int _ _) rfl rfl rfl hL ?_ | refine wpB_one rfl _ _ (.slice _ _ _) rfl rfl rfl hL ?_ | refine wpB_one rfl _ _ (.bool _) rfl rfl rfl hL ?_ | refine wpB_one rfl _ _ (.pointer _) rfl rfl rfl hL ?_ | refine wpB_one rfl _ _ (.func _ _ _) rfl rfl rfl hL ?_) | (with_reducible first | refine wpH_max rfl _ _ _ _ rfl _ _ rfl rfl ?_ | refine wpH_min rfl _ _ _ _ rfl _ _ rfl rfl ?_) | ((with_reducible refine wpA_load rfl _ _ rfl _ rfl ?_); first | refine loadA hL ?_ | refine loadR hL ?_ | refine loadC hL ?_ | refine loadD ?_ | refine loadE hL ?_ | refine loadF ?_) | ((with_reducible refine wpA_index rfl _ _ _ rfl _ rfl _ rfl ?_); first | (refine indexA ?_; try rw [Int.toNat_natCast]) | refine indexC ?_) | ((with_reducible refine wpA_store rfl _ _ _ rfl _ rfl (.agg _) rfl ?_); refine storeR hL ?_; clear hL; intro _ hL) | ((with_reducible first | refine wpA_store rfl _ _ _ rfl _ rfl (.int _ _) rfl ?_ | refine wpA_store rfl _ _ _ rfl _ rfl (.slice _ _ _) rfl ?_ | refine wpA_store rfl _ _ _ rfl _ rfl (.bool _) rfl ?_ | refine wpA_store rfl _ _ _ rfl _ rfl (.pointer _) rfl ?_ | refine wpA_store rfl _ _ _ rfl _ rfl (.func _ _ _) rfl ?_); (first | refine storeA hL ?_ | refine storeO hL ?_); (clear hL; intro _ hL)) | ((with_reducible refine wpA_lit rfl _ _ _ rfl ?_); first | refine litA1 hL ?_ | refine litA2 hL ?_) | ((with_reducible refine wpA_append rfl _ _ _ rfl (.slice _ _ _) rfl ?_); intro vq hvq; simp [go_sem] at hvq; subst hvq; refine appendA hL ?_; clear hL; intro _ _ _ hL; try dsimp only at hL) | ((with_reducible refine wpA_make rfl _ _ _ rfl _ rfl rfl ?_); refine makeA hL ?_))
        refine bodyPost_ret (results_row2 inferInstance rfl _ hL b2 rfl _ _ (.there (.there .here)) rfl) rfl ⟨some ⟨bm, 0, none⟩, rfl, hL.below, ?_⟩
        refine ((hL.settle (.there .here) (φ := fun w => w.heap[bm]? = some (.cells (arrU (W * j) (maskF W (rowF p j fun _ => false))) 5 (0, 0))) fun _ h => h).map fun w' h1 => ?_).fresh
        refine ⟨_, rfl, ?_⟩
        have := bytes_of h1 (by unfold maxLen; omega)
        rw [show (List.range (W * j)).map (maskF W (rowF p j fun _ => false)) = (pixMask W j p).B from ?_] at this
        · exact this
        · refine List.map_congr_left fun x hx => ?_
          have hx : x < W * j := by simpa using hx
          have : x / W < j := Nat.div_lt_of_lt_mul hx
          simp [maskF, rowF, this]
  · rename_i hH
    clear hH
    replace hL := (hL.alloc2 #[.int .i64 W, .int .i64 H, .slice (some ⟨w3.heap.size + 1, 0, none⟩) (W * H) (W * H)] (arrU (W * H) fun _ => 0) 43 5).swapM
    obtain ⟨w4, hw4⟩ : ∃ w4, w4 = ((w3.alloc (.cells #[.int .i64 W, .int .i64 H, .slice (some ⟨w3.heap.size + 1, 0, none⟩) (W * H) (W * H)] 43)).alloc (.cells (arrU (W * H) fun _ => 0) 5)).drew := ⟨_, rfl⟩
    rw [← hw4] at hL ⊢
    clear hw4
    generalize w3.heap.size + 1 = bm at hL ⊢
    generalize w3.heap.size = bh at hL ⊢
    rw [show arrU (W * H) (fun _ => 0) = arrU (W * H) (maskF W (rowF p 0 fun _ => false)) from arrU_congr fun x _ => by simp [maskF, rowF]] at hL
    go_wp2_with (first | (first | (clear hL n1; with_reducible intro b1 w1 hL) | (clear hL n2; with_reducible intro b2 w2 hL) | (clear hL n3; with_reducible intro b3 w3 hL) | (clear hL; with_reducible intro _ _ hL)) | (with_reducible refine wpC_alloc rfl _ rfl _ _ inferInstance hL ?_) | (with_reducible first | refine wpB_agg rfl _ _ _ rfl rfl hL ?_ | refine wpB_one rfl _ _ (.int _ _) rfl rfl rfl hL ?_ | refine wpB_one rfl _ _ (.slice _ _ _) rfl rfl rfl hL ?_ | refine wpB_one rfl _ _ (.bool _) rfl rfl rfl hL ?_ | refine wpB_one rfl _ _ (.pointer _) rfl rfl rfl hL ?_ | refine wpB_one rfl _ _ (.func _ _ _) rfl rfl rfl hL ?_) | (with_reducible first | refine wpH_max rfl _ _ _ _ rfl _ _ rfl rfl ?_ | refine wpH_min rfl _ _ _ _ rfl _ _ rfl rfl ?_) | ((with_reducible refine wpA_load rfl _ _ rfl _ rfl ?_); first | refine loadA hL ?_ | refine loadR hL ?_ | refine loadC hL ?_ | refine loadD ?_ | refine loadE hL ?_ | refine loadF ?_) | ((with_reducible refine wpA_index rfl _ _ _ rfl _ rfl _ rfl ?_); first | (refine indexA ?_; try rw [Int.toNat_natCast]) | refine indexC ?_) | ((with_reducible refine wpA_store rfl _ _ _ rfl _ rfl (.agg _) rfl ?_); refine storeR hL ?_; clear hL; intro _ hL) | ((with_reducible first | refine wpA_store rfl _ _ _ rfl _ rfl (.int _ _) rfl ?_ | refine wpA_store rfl _ _ _ rfl _ rfl (.slice _ _ _) rfl ?_ | refine wpA_store rfl _ _ _ rfl _ rfl (.bool _) rfl ?_ | refine wpA_store rfl _ _ _ rfl _ rfl (.pointer _) rfl ?_ | refine wpA_store rfl _ _ _ rfl _ rfl (.func _ _ _) rfl ?_); (first | refine storeA hL ?_ | refine storeO hL ?_); (clear hL; intro _ hL)) | ((with_reducible refine wpA_lit rfl _ _ _ rfl ?_); first | refine litA1 hL ?_ | refine litA2 hL ?_) | ((with_reducible refine wpA_append rfl _ _ _ rfl (.slice _ _ _) rfl ?_); intro vq hvq; simp [go_sem] at hvq; subst hvq; refine appendA hL ?_; clear hL; intro _ _ _ hL; try dsimp only at hL) | ((with_reducible refine wpA_make rfl _ _ _ rfl _ rfl rfl ?_); refine makeA hL ?_))
    go_loopw [5] (fun s5 wr => ∃ j : Nat, j ≤ H ∧ s5 = .int .i64 j ∧ Holds w wr [blk bh #[.int .i64 W, .int .i64 H, .slice (some ⟨bm, 0, none⟩) (W * H) (W * H)] 43, blk bm (arrU (W * H) (maskF W (rowF p j fun _ => false))) 5, blk b2 #[.int .i64 0, .int .i64 0, .slice none 0 0] 43, blk b1 #[.int .i64 W, .int .i64 H, .slice sa H sc] 26] [])
      (fun s5 wr => (64 - intOf s5).toNat)
    case atStart => exact ⟨0, by omega, rfl, hL⟩
    case round =>
      clear hL
      obtain ⟨j, hj, rfl, hL⟩ := hrel
      by_cases hjt : j < H
      · obtain ⟨b, o, va, vn, vc, rfl, hc, hr⟩ := Hrow.out j hjt
        have Hr := Lib.hid hr; clear hr
        have hq := Lib.hid (show ∀ c, c < W → inRuns (runsTo (p j) W) c = p j c from fun c hc => by rw [inRuns_runsTo _ (by omega)]; simp [hc])
        generalize runsTo (p j) W = l at *
        go_wp2_with (first | (go_at_call 88; (with_reducible refine (refPlaces_calls _ _ l (Hr.out.hold hL)).mono ?_); rintro e _ ⟨rfl, hb⟩; replace hL := hL.call hb; clear hb) | (first | (clear hL n1; with_reducible intro b1 w1 hL) | (clear hL n2; with_reducible intro b2 w2 hL) | (clear hL n3; with_reducible intro b3 w3 hL) | (clear hL; with_reducible intro _ _ hL)) | (with_reducible refine wpC_alloc rfl _ rfl _ _ inferInstance hL ?_) | (with_reducible first | refine wpB_agg rfl _ _ _ rfl rfl hL ?_ | refine wpB_one rfl _ _ (.int _ _) rfl rfl rfl hL ?_ | refine wpB_one rfl _ _ (.slice _ _ _) rfl rfl rfl hL ?_ | refine wpB_one rfl _ _ (.bool _) rfl rfl rfl hL ?_ | refine wpB_one rfl _ _ (.pointer _) rfl rfl rfl hL ?_ | refine wpB_one rfl _ _ (.func _ _ _) rfl rfl rfl hL ?_) | (with_reducible first | refine wpH_max rfl _ _ _ _ rfl _ _ rfl rfl ?_ | refine wpH_min rfl _ _ _ _ rfl _ _ rfl rfl ?_) | ((with_reducible refine wpA_load rfl _ _ rfl _ rfl ?_); first | refine loadA hL ?_ | refine loadR hL ?_ | refine loadC hL ?_ | refine loadD ?_ | refine loadE hL ?_ | refine loadF ?_) | ((with_reducible refine wpA_index rfl _ _ _ rfl _ rfl _ rfl ?_); first | (refine indexA ?_; try rw [Int.toNat_natCast]) | refine indexC ?_) | ((with_reducible refine wpA_store rfl _ _ _ rfl _ rfl (.agg _) rfl ?_); refine storeR hL ?_; clear hL; intro _ hL) | ((with_reducible first | refine wpA_store rfl _ _ _ rfl _ rfl (.int _ _) rfl ?_ | refine wpA_store rfl _ _ _ rfl _ rfl (.slice _ _ _) rfl ?_ | refine wpA_store rfl _ _ _ rfl _ rfl (.bool _) rfl ?_ | refine wpA_store rfl _ _ _ rfl _ rfl (.pointer _) rfl ?_ | refine wpA_store rfl _ _ _ rfl _ rfl (.func _ _ _) rfl ?_); (first | refine storeA hL ?_ | refine storeO hL ?_); (clear hL; intro _ hL)) | ((with_reducible refine wpA_lit rfl _ _ _ rfl ?_); first | refine litA1 hL ?_ | refine litA2 hL ?_) | ((with_reducible refine wpA_append rfl _ _ _ rfl (.slice _ _ _) rfl ?_); intro vq hvq; simp [go_sem] at hvq; subst hvq; refine appendA hL ?_; clear hL; intro _ _ _ hL; try dsimp only at hL) | ((with_reducible refine wpA_make rfl _ _ _ rfl _ rfl rfl ?_); refine makeA hL ?_))
        go_loopw [7] (fun s7 wr => ∃ i : Nat, i ≤ W ∧ s7 = .int .i64 i ∧ Holds w wr [blk b3 (arrB (inRuns l)) 76, blk bh #[.int .i64 W, .int .i64 H, .slice (some ⟨bm, 0, none⟩) (W * H) (W * H)] 43, blk bm (arrU (W * H) (maskF W (rowF p j (upTo (p j) i)))) 5, blk b2 #[.int .i64 0, .int .i64 0, .slice none 0 0] 43, blk b1 #[.int .i64 W, .int .i64 H, .slice (some ⟨b, o, none⟩) H sc] 26] [])
          (fun s7 wr => (64 - intOf s7).toNat)
        case atStart =>
          rw [show rowF p j (fun _ => false) = rowF p j (upTo (p j) 0) by congr 1] at hL
          exact ⟨0, by omega, rfl, hL⟩
        case round =>
          clear hL
          obtain ⟨i, hi, rfl, hL⟩ := hrel
          by_cases hit : i < W
          · have hidx : W * j + i < W * H := by
              have := idx_lt hjt hit
              rw [Nat.mul_comm W j]; exact this
            have hidx2 : (W : Int) * (j : Int) + (i : Int) < ((W * H : Nat) : Int) := by
              have : ((W * j + i : Nat) : Int) < ((W * H : Nat) : Int) := by omega
              simpa using this
            have hidx3 : 0 ≤ (W : Int) * (j : Int) := Int.mul_nonneg (by omega) (by omega)
            have hidx4 : ((W * H : Nat) : Int) = (W : Int) * (H : Int) := by simp
            have Hqi := Lib.hid (hq.out i hit)
            go_wp2_with (first | (first | (clear hL n1; with_reducible intro b1 w1 hL) | (clear hL n2; with_reducible intro b2 w2 hL) | (clear hL n3; with_reducible intro b3 w3 hL) | (clear hL; with_reducible intro _ _ hL)) | (with_reducible refine wpC_alloc rfl _ rfl _ _ inferInstance hL ?_) | (with_reducible first | refine wpB_agg rfl _ _ _ rfl rfl hL ?_ | refine wpB_one rfl _ _ (.int _ _) rfl rfl rfl hL ?_ | refine wpB_one rfl _ _ (.slice _ _ _) rfl rfl rfl hL ?_ | refine wpB_one rfl _ _ (.bool _) rfl rfl rfl hL ?_ | refine wpB_one rfl _ _ (.pointer _) rfl rfl rfl hL ?_ | refine wpB_one rfl _ _ (.func _ _ _) rfl rfl rfl hL ?_) | (with_reducible first | refine wpH_max rfl _ _ _ _ rfl _ _ rfl rfl ?_ | refine wpH_min rfl _ _ _ _ rfl _ _ rfl rfl ?_) | ((with_reducible refine wpA_load rfl _ _ rfl _ rfl ?_); first | refine loadA hL ?_ | refine loadR hL ?_ | refine loadC hL ?_ | refine loadD ?_ | refine loadE hL ?_ | refine loadF ?_) | ((with_reducible refine wpA_index rfl _ _ _ rfl _ rfl _ rfl ?_); first | (refine indexA ?_; try rw [Int.toNat_natCast]) | refine indexC ?_) | ((with_reducible refine wpA_store rfl _ _ _ rfl _ rfl (.agg _) rfl ?_); refine storeR hL ?_; clear hL; intro _ hL) | ((with_reducible first | refine wpA_store rfl _ _ _ rfl _ rfl (.int _ _) rfl ?_ | refine wpA_store rfl _ _ _ rfl _ rfl (.slice _ _ _) rfl ?_ | refine wpA_store rfl _ _ _ rfl _ rfl (.bool _) rfl ?_ | refine wpA_store rfl _ _ _ rfl _ rfl (.pointer _) rfl ?_ | refine wpA_store rfl _ _ _ rfl _ rfl (.func _ _ _) rfl ?_); (first | refine storeA hL ?_ | refine storeO hL ?_); (clear hL; intro _ hL)) | ((with_reducible refine wpA_lit rfl _ _ _ rfl ?_); first | refine litA1 hL ?_ | refine litA2 hL ?_) | ((with_reducible refine wpA_append rfl _ _ _ rfl (.slice _ _ _) rfl ?_); intro vq hvq; simp [go_sem] at hvq; subst hvq; refine appendA hL ?_; clear hL; intro _ _ _ hL; try dsimp only at hL) | ((with_reducible refine wpA_make rfl _ _ _ rfl _ rfl rfl ?_); refine makeA hL ?_))
            · rename_i hp _
              go_roundw
              case rel =>
                rw [Nat.mul_comm W j, maskF_set p _ hit, upTo_on (by rw [← Hqi.out]; exact hp)] at hL
                exact ⟨i + 1, by omega, by go_num, hL⟩
              case measure => simp [intOf]; omega
            · rename_i hp
              go_roundw
              case rel =>
                rw [upTo_off (by rw [← Hqi.out]; simpa using hp)] at hL
                exact ⟨i + 1, by omega, by go_num, hL⟩
              case measure => simp [intOf]; omega
          · have e : i = W := by omega
            subst e
            rw [maskF_congr hw0 (rowF_next p j _ (fun c hc => by simp [upTo, hc]))] at hL
            go_wp2_with (first | (first | (clear hL n1; with_reducible intro b1 w1 hL) | (clear hL n2; with_reducible intro b2 w2 hL) | (clear hL n3; with_reducible intro b3 w3 hL) | (clear hL; with_reducible intro _ _ hL)) | (with_reducible refine wpC_alloc rfl _ rfl _ _ inferInstance hL ?_) | (with_reducible first | refine wpB_agg rfl _ _ _ rfl rfl hL ?_ | refine wpB_one rfl _ _ (.int _ _) rfl rfl rfl hL ?_ | refine wpB_one rfl _ _ (.slice _ _ _) rfl rfl rfl hL ?_ | refine wpB_one rfl _ _ (.bool _) rfl rfl rfl hL ?_ | refine wpB_one rfl _ _ (.pointer _) rfl rfl rfl hL ?_ | refine wpB_one rfl _ _ (.func _ _ _) rfl rfl rfl hL ?_) | (with_reducible first | refine wpH_max rfl _ _ _ _ rfl _ _ rfl rfl ?_ | refine wpH_min rfl _ _ _ _ rfl _ _ rfl rfl ?_) | ((with_reducible refine wpA_load rfl _ _ rfl _ rfl ?_); first | refine loadA hL ?_ | refine loadR hL ?_ | refine loadC hL ?_ | refine loadD ?_ | refine loadE hL ?_ | refine loadF ?_) | ((with_reducible refine wpA_index rfl _ _ _ rfl _ rfl _ rfl ?_); first | (refine indexA ?_; try rw [Int.toNat_natCast]) | refine indexC ?_) | ((with_reducible refine wpA_store rfl _ _ _ rfl _ rfl (.agg _) rfl ?_); refine storeR hL ?_; clear hL; intro _ hL) | ((with_reducible first | refine wpA_store rfl _ _ _ rfl _ rfl (.int _ _) rfl ?_ | refine wpA_store rfl _ _ _ rfl _ rfl (.slice _ _ _) rfl ?_ | refine wpA_store rfl _ _ _ rfl _ rfl (.bool _) rfl ?_ | refine wpA_store rfl _ _ _ rfl _ rfl (.pointer _) rfl ?_ | refine wpA_store rfl _ _ _ rfl _ rfl (.func _ _ _) rfl ?_); (first | refine storeA hL ?_ | refine storeO hL ?_); (clear hL; intro _ hL)) | ((with_reducible refine wpA_lit rfl _ _ _ rfl ?_); first | refine litA1 hL ?_ | refine litA2 hL ?_) | ((with_reducible refine wpA_append rfl _ _ _ rfl (.slice _ _ _) rfl ?_); intro vq hvq; simp [go_sem] at hvq; subst hvq; refine appendA hL ?_; clear hL; intro _ _ _ hL; try dsimp only at hL) | ((with_reducible refine wpA_make rfl _ _ _ rfl _ rfl rfl ?_); refine makeA hL ?_))
            go_roundw
            case rel => exact ⟨j + 1, by omega, by go_num, hL.drop .here⟩
            case measure => simp [intOf]; omega
      · have e : j = H := by omega
        subst e
        go_wp2_with (first | (first | (clear hL n1; with_reducible intro b1 w1 hL) | (clear hL n2; with_reducible intro b2 w2 hL) | (clear hL n3; with_reducible intro b3 w3 hL) | (clear hL; with_reducible intro _ _ hL)) | (with_reducible refine wpC_alloc rfl _ rfl _ _ inferInstance hL ?_) | (with_reducible first | refine wpB_agg rfl _ _ _ rfl rfl hL ?_ | refine wpB_one rfl _ _ (.int _ _) rfl rfl rfl hL ?_ | refine wpB_one rfl _ _ (.slice _ _ _) rfl rfl rfl hL ?_ | refine wpB_one rfl _ _ (.bool _) rfl rfl rfl hL ?_ | refine wpB_one rfl _ _ (.pointer _) rfl rfl rfl hL ?_ | refine wpB_one rfl _ _ (.func _ _ _) rfl rfl rfl hL ?_) | (with_reducible first | refine wpH_max rfl _ _ _ _ rfl _ _ rfl rfl ?_ | refine wpH_min rfl _ _ _ _ rfl _ _ rfl rfl ?_) | ((with_reducible refine wpA_load rfl _ _ rfl _ rfl ?_); first | refine loadA hL ?_ | refine loadR hL ?_ | refine loadC hL ?_ | refine loadD ?_ | refine loadE hL ?_ | refine loadF ?_) | ((with_reducible refine wpA_index rfl _ _ _ rfl _ rfl _ rfl ?_); first | (refine indexA ?_; try rw [Int.toNat_natCast]) | refine indexC ?_) | ((with_reducible refine wpA_store rfl _ _ _ rfl _ rfl (.agg _) rfl ?_); refine storeR hL ?_; clear hL; intro _ hL) | ((with_reducible first | refine wpA_store rfl _ _ _ rfl _ rfl (.int _ _) rfl ?_ | refine wpA_store rfl _ _ _ rfl _ rfl (.slice _ _ _) rfl ?_ | refine wpA_store rfl _ _ _ rfl _ rfl (.bool _) rfl ?_ | refine wpA_store rfl _ _ _ rfl _ rfl (.pointer _) rfl ?_ | refine wpA_store rfl _ _ _ rfl _ rfl (.func _ _ _) rfl ?_); (first | refine storeA hL ?_ | refine storeO hL ?_); (clear hL; intro _ hL)) | ((with_reducible refine wpA_lit rfl _ _ _ rfl ?_); first | refine litA1 hL ?_ | refine litA2 hL ?_) | ((with_reducible refine wpA_append rfl _ _ _ rfl (.slice _ _ _) rfl ?_); intro vq hvq; simp [go_sem] at hvq; subst hvq; refine appendA hL ?_; clear hL; intro _ _ _ hL; try dsimp only at hL) | ((with_reducible refine wpA_make rfl _ _ _ rfl _ rfl rfl ?_); refine makeA hL ?_))
        refine bodyPost_ret (results_row2 inferInstance rfl _ hL b2 rfl _ _ (.there (.there .here)) rfl) rfl ⟨some ⟨bm, 0, none⟩, rfl, hL.below, ?_⟩
        refine ((hL.settle (.there .here) (φ := fun w => w.heap[bm]? = some (.cells (arrU (W * j) (maskF W (rowF p j fun _ => false))) 5 (0, 0))) fun _ h => h).map fun w' h1 => ?_).fresh
        refine ⟨_, rfl, ?_⟩
        have := bytes_of h1 (by unfold maxLen; omega)
        rw [show (List.range (W * j)).map (maskF W (rowF p j fun _ => false)) = (pixMask W j p).B from ?_] at this
        · exact this
        · refine List.map_congr_left fun x hx => ?_
          have hx : x < W * j := by simpa using hx
          have : x / W < j := Nat.div_lt_of_lt_mul hx
          simp [maskF, rowF, this]
end Go.Proofs.Ytjgnbmgdnfldeaa
