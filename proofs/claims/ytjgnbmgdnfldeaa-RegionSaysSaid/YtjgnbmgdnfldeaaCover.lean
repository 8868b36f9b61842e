/- Package cover: Count, Same, Join, Less, Other, of masks that are said pixel by pixel. -/
import Derived.Test.YtjgnbmgdnfldeaaOf
import Derived.Laws.BytesArg
-- uses arrU
namespace Go.Proofs.Ytjgnbmgdnfldeaa
open Go.RowKit

def maskV (W H : Nat) (ma : Option Addr) : Value := .agg #[.int .i64 W, .int .i64 H, .slice ma (W * H) (W * H)]
def MaskF (v : Value) (m : Msk) (w : World) : Prop := MaskAt w v m
theorem Holds.mask {w0 w : World} {M : List Res} {Φ : List (World → Prop)} {v : Value} {m : Msk} (hL : Holds w0 w M Φ) (h : FactAt Φ (MaskF v m)) : MaskAt w v m := hL.fact h
theorem MaskAt.bytes {w : World} {W H : Nat} {ma : Option Addr} {q : Nat → Nat → Bool} (h : MaskAt w (.agg #[.int .i64 W, .int .i64 H, .slice ma (W * H) (W * H)]) (pixMask W H q)) : BytesAt w (.slice ma (W * H) (W * H)) (pixMask W H q).B := by
  obtain ⟨s, hv, hB⟩ := h
  simp at hv
  obtain ⟨_, _, rfl⟩ := hv
  exact hB
theorem pixMask_at {W H x : Nat} (q : Nat → Nat → Bool) (h : x < W * H) : (pixMask W H q).B.getD x 0 = bit (q (x / W) (x % W)) := by
  simp [pixMask, h, bit]
/-- a mask's bytes, where they lie -/
theorem mask_cells {w : World} {W H : Nat} (hs : Sides W H) {ma : Option Addr} {q : Nat → Nat → Bool} (h : MaskAt w (.agg #[.int .i64 W, .int .i64 H, .slice ma (W * H) (W * H)]) (pixMask W H q)) :
    ∃ b o, ma = some ⟨b, o, none⟩ ∧ ∀ x, x < W * H → w.cell? ⟨b, o + x, none⟩ = some (.int .u8 (bit (q (x / W) (x % W)))) := by
  obtain ⟨a', cap', he, _, _, hel⟩ := h.bytes.parts
  rw [pixMask_len] at he hel
  cases he
  have h0 : 0 < W * H := Nat.mul_pos hs.w0 hs.h0
  obtain ⟨b, o, rfl, _⟩ := hel 0 h0
  refine ⟨b, o, rfl, fun x hx => ?_⟩
  obtain ⟨b', o', e, hc⟩ := hel x hx
  cases e
  rw [pixMask_at q hx] at hc
  exact hc
theorem mask_bounds {W H : Nat} (hs : Sides W H) : 1 ≤ W * H ∧ W * H ≤ 4096 ∧ ((W * H : Nat) : Int) = (W : Int) * (H : Int) :=
  ⟨Nat.mul_pos hs.w0 hs.h0, Nat.mul_le_mul hs.w1 hs.h1, by simp⟩
theorem pixMask_congr {W H : Nat} {p q : Nat → Nat → Bool} (hs : Sides W H) (h : ∀ j, j < H → ∀ i, i < W → p j i = q j i) : pixMask W H p = pixMask W H q := by
  unfold pixMask
  congr 1
  refine List.map_congr_left fun x hx => ?_
  have hx : x < W * H := by simpa using hx
  rw [h _ (Nat.div_lt_of_lt_mul hx) _ (Nat.mod_lt _ hs.w0)]

theorem BytesAt.hold {w0 w : World} {M : List Res} {Φ : List (World → Prop)} {v : Value} {l : List Int} (h : BytesAt w0 v l) (hL : Holds w0 w M Φ) : BytesAt w v l := SliceAt.below h hL.below

def byteSum (W : Nat) (q : Nat → Nat → Bool) : Nat → Nat
  | 0 => 0
  | n + 1 => byteSum W q n + (if q (n / W) (n % W) then 1 else 0)
theorem byteSum_le (W : Nat) (q : Nat → Nat → Bool) : ∀ n, byteSum W q n ≤ n
  | 0 => Nat.le_refl _
  | n + 1 => by
    have := byteSum_le W q n
    simp only [byteSum]; split <;> omega
theorem byteSum_row {W : Nat} (hW : 0 < W) (q : Nat → Nat → Bool) (j : Nat) : ∀ i, i ≤ W → byteSum W q (j * W + i) = byteSum W q (j * W) + countTo (q j) i
  | 0, _ => rfl
  | i + 1, hi => by
    have ih := byteSum_row hW q j i (by omega)
    obtain ⟨h1, h2⟩ := (divmod_eq (W := W) (i := i) (j := j) (x := j * W + i) (by omega)).1 rfl
    rw [← Nat.add_assoc]
    simp only [byteSum, countTo, ih, h1, h2]
    split <;> omega
theorem byteSum_all {W : Nat} (hW : 0 < W) (q : Nat → Nat → Bool) : ∀ n, byteSum W q (n * W) = pixCount W q n
  | 0 => by simp [byteSum, pixCount]
  | n + 1 => by
    rw [Nat.add_mul, Nat.one_mul, byteSum_row hW q n W (Nat.le_refl _), byteSum_all hW q n]; rfl

set_option maxRecDepth 100000 in
set_option maxHeartbeats 1000000 in
theorem pixCoverCount_calls {W H : Nat} (hs : Sides W H) (w : World) (ma : Option Addr) (q : Nat → Nat → Bool) (h : MaskAt w (.agg #[.int .i64 W, .int .i64 H, .slice ma (W * H) (W * H)]) (pixMask W H q)) :
    Calls Try.prog 52 #[.agg #[.int .i64 W, .int .i64 H, .slice ma (W * H) (W * H)]] w fun e w' => e = .returned (.int .i64 (pixCount W q H)) ∧ Below w.heap.size w w' := by
  have Hm := Lib.hid h
  obtain ⟨b, o, rfl, hc⟩ := mask_cells hs h
  have Hc := Lib.hid hc
  clear h hc
  have Hmay := Lib.hid (mask_may hs q)
  obtain ⟨m1, m2, m3⟩ := mask_bounds hs
  have HR := Lib.hid (show byteSum W q (W * H) = pixCount W q H by rw [Nat.mul_comm]; exact byteSum_all hs.w0 q H)
  have hL := Holds.start w
  have n1 : True := trivial; have n2 : True := trivial
  go_enter Try.func52, Try.ntmps52
  go_wp2_with (first | (go_at_call 51; (with_reducible refine (coverMay_calls _ _ _ (Hm.out.hold hL)).mono ?_); rintro e _ ⟨rfl, hb⟩; rw [Hmay.out]; replace hL := hL.call hb; clear hb) | (first | (clear hL n1; with_reducible intro b1 w1 hL) | (clear hL n2; with_reducible intro b2 w2 hL) | (clear hL; with_reducible intro _ _ hL)) | (with_reducible refine wpC_alloc rfl _ rfl _ _ inferInstance hL ?_) | (with_reducible first | refine wpB_agg rfl _ _ _ rfl rfl hL ?_ | refine wpB_one rfl _ _ (.int _ _) rfl rfl rfl hL ?_ | refine wpB_one rfl _ _ (.slice _ _ _) rfl rfl rfl hL ?_ | refine wpB_one rfl _ _ (.bool _) rfl rfl rfl hL ?_ | refine wpB_one rfl _ _ (.pointer _) rfl rfl rfl hL ?_ | refine wpB_one rfl _ _ (.func _ _ _) rfl rfl rfl hL ?_) | (with_reducible first | refine wpH_max rfl _ _ _ _ rfl _ _ rfl rfl ?_ | refine wpH_min rfl _ _ _ _ rfl _ _ rfl rfl ?_) | ((with_reducible refine wpA_load rfl _ _ rfl _ rfl ?_); first | refine loadA hL ?_ | refine loadR hL ?_ | refine loadC hL ?_ | refine loadD ?_ | refine loadE hL ?_ | refine loadF ?_) | ((with_reducible refine wpA_index rfl _ _ _ rfl _ rfl _ rfl ?_); first | (refine indexA ?_; try rw [Int.toNat_natCast]) | refine indexC ?_) | ((with_reducible refine wpA_store rfl _ _ _ rfl _ rfl (.agg _) rfl ?_); refine storeR hL ?_; clear hL; intro _ hL) | ((with_reducible first | refine wpA_store rfl _ _ _ rfl _ rfl (.int _ _) rfl ?_ | refine wpA_store rfl _ _ _ rfl _ rfl (.slice _ _ _) rfl ?_ | refine wpA_store rfl _ _ _ rfl _ rfl (.bool _) rfl ?_ | refine wpA_store rfl _ _ _ rfl _ rfl (.pointer _) rfl ?_ | refine wpA_store rfl _ _ _ rfl _ rfl (.func _ _ _) rfl ?_); (first | refine storeA hL ?_ | refine storeO hL ?_); (clear hL; intro _ hL)) | ((with_reducible refine wpA_lit rfl _ _ _ rfl ?_); first | refine litA1 hL ?_ | refine litA2 hL ?_) | ((with_reducible refine wpA_append rfl _ _ _ rfl (.slice _ _ _) rfl ?_); intro vq hvq; simp [go_sem] at hvq; subst hvq; refine appendA hL ?_; clear hL; intro _ _ _ hL; try dsimp only at hL) | ((with_reducible refine wpA_make rfl _ _ _ rfl _ rfl rfl ?_); refine makeA hL ?_))
  go_loopw [3, 11] (fun s3 s11 wr => ∃ k : Nat, k ≤ W * H ∧ s11 = .int .i64 k ∧ s3 = .int .i64 (byteSum W q k) ∧ Holds w wr [blk b1 #[.int .i64 W, .int .i64 H, .slice (some ⟨b, o, none⟩) (W * H) (W * H)] 43] [])
    (fun s3 s11 wr => W * H - (intOf s11).toNat)
  case atStart => exact ⟨0, by omega, rfl, rfl, hL⟩
  case round =>
    clear hL
    obtain ⟨k, hk, rfl, rfl, hL⟩ := hrel
    by_cases hkt : k < W * H
    · have hc := Hc.out k hkt
      have s1 := byteSum_le W q k
      have Hs := Lib.hid (show byteSum W q (k + 1) = byteSum W q k + (if q (k / W) (k % W) then 1 else 0) from rfl)
      generalize q (k / W) (k % W) = bq at *
      cases bq
      all_goals
        simp only [bit, if_true, Bool.false_eq_true, if_false] at hc Hs
        go_wp2_with (first | (first | (clear hL n1; with_reducible intro b1 w1 hL) | (clear hL n2; with_reducible intro b2 w2 hL) | (clear hL; with_reducible intro _ _ hL)) | (with_reducible refine wpC_alloc rfl _ rfl _ _ inferInstance hL ?_) | (with_reducible first | refine wpB_agg rfl _ _ _ rfl rfl hL ?_ | refine wpB_one rfl _ _ (.int _ _) rfl rfl rfl hL ?_ | refine wpB_one rfl _ _ (.slice _ _ _) rfl rfl rfl hL ?_ | refine wpB_one rfl _ _ (.bool _) rfl rfl rfl hL ?_ | refine wpB_one rfl _ _ (.pointer _) rfl rfl rfl hL ?_ | refine wpB_one rfl _ _ (.func _ _ _) rfl rfl rfl hL ?_) | (with_reducible first | refine wpH_max rfl _ _ _ _ rfl _ _ rfl rfl ?_ | refine wpH_min rfl _ _ _ _ rfl _ _ rfl rfl ?_) | ((with_reducible refine wpA_load rfl _ _ rfl _ rfl ?_); first | refine loadA hL ?_ | refine loadR hL ?_ | refine loadC hL ?_ | refine loadD ?_ | refine loadE hL ?_ | refine loadF ?_) | ((with_reducible refine wpA_index rfl _ _ _ rfl _ rfl _ rfl ?_); first | (refine indexA ?_; try rw [Int.toNat_natCast]) | refine indexC ?_) | ((with_reducible refine wpA_store rfl _ _ _ rfl _ rfl (.agg _) rfl ?_); refine storeR hL ?_; clear hL; intro _ hL) | ((with_reducible first | refine wpA_store rfl _ _ _ rfl _ rfl (.int _ _) rfl ?_ | refine wpA_store rfl _ _ _ rfl _ rfl (.slice _ _ _) rfl ?_ | refine wpA_store rfl _ _ _ rfl _ rfl (.bool _) rfl ?_ | refine wpA_store rfl _ _ _ rfl _ rfl (.pointer _) rfl ?_ | refine wpA_store rfl _ _ _ rfl _ rfl (.func _ _ _) rfl ?_); (first | refine storeA hL ?_ | refine storeO hL ?_); (clear hL; intro _ hL)) | ((with_reducible refine wpA_lit rfl _ _ _ rfl ?_); first | refine litA1 hL ?_ | refine litA2 hL ?_) | ((with_reducible refine wpA_append rfl _ _ _ rfl (.slice _ _ _) rfl ?_); intro vq hvq; simp [go_sem] at hvq; subst hvq; refine appendA hL ?_; clear hL; intro _ _ _ hL; try dsimp only at hL) | ((with_reducible refine wpA_make rfl _ _ _ rfl _ rfl rfl ?_); refine makeA hL ?_))
        go_roundw
        case rel => exact ⟨k + 1, by omega, by go_num, by rw [Hs.out]; go_num, hL⟩
        case measure => simp [intOf]; omega
    · have e : k = W * H := by omega
      subst e
      go_wp2_with (first | (first | (clear hL n1; with_reducible intro b1 w1 hL) | (clear hL n2; with_reducible intro b2 w2 hL) | (clear hL; with_reducible intro _ _ hL)) | (with_reducible refine wpC_alloc rfl _ rfl _ _ inferInstance hL ?_) | (with_reducible first | refine wpB_agg rfl _ _ _ rfl rfl hL ?_ | refine wpB_one rfl _ _ (.int _ _) rfl rfl rfl hL ?_ | refine wpB_one rfl _ _ (.slice _ _ _) rfl rfl rfl hL ?_ | refine wpB_one rfl _ _ (.bool _) rfl rfl rfl hL ?_ | refine wpB_one rfl _ _ (.pointer _) rfl rfl rfl hL ?_ | refine wpB_one rfl _ _ (.func _ _ _) rfl rfl rfl hL ?_) | (with_reducible first | refine wpH_max rfl _ _ _ _ rfl _ _ rfl rfl ?_ | refine wpH_min rfl _ _ _ _ rfl _ _ rfl rfl ?_) | ((with_reducible refine wpA_load rfl _ _ rfl _ rfl ?_); first | refine loadA hL ?_ | refine loadR hL ?_ | refine loadC hL ?_ | refine loadD ?_ | refine loadE hL ?_ | refine loadF ?_) | ((with_reducible refine wpA_index rfl _ _ _ rfl _ rfl _ rfl ?_); first | (refine indexA ?_; try rw [Int.toNat_natCast]) | refine indexC ?_) | ((with_reducible refine wpA_store rfl _ _ _ rfl _ rfl (.agg _) rfl ?_); refine storeR hL ?_; clear hL; intro _ hL) | ((with_reducible first | refine wpA_store rfl _ _ _ rfl _ rfl (.int _ _) rfl ?_ | refine wpA_store rfl _ _ _ rfl _ rfl (.slice _ _ _) rfl ?_ | refine wpA_store rfl _ _ _ rfl _ rfl (.bool _) rfl ?_ | refine wpA_store rfl _ _ _ rfl _ rfl (.pointer _) rfl ?_ | refine wpA_store rfl _ _ _ rfl _ rfl (.func _ _ _) rfl ?_); (first | refine storeA hL ?_ | refine storeO hL ?_); (clear hL; intro _ hL)) | ((with_reducible refine wpA_lit rfl _ _ _ rfl ?_); first | refine litA1 hL ?_ | refine litA2 hL ?_) | ((with_reducible refine wpA_append rfl _ _ _ rfl (.slice _ _ _) rfl ?_); intro vq hvq; simp [go_sem] at hvq; subst hvq; refine appendA hL ?_; clear hL; intro _ _ _ hL; try dsimp only at hL) | ((with_reducible refine wpA_make rfl _ _ _ rfl _ rfl rfl ?_); refine makeA hL ?_))
      go_ret
      exact ⟨ret_int (by rw [HR.out]), hL.below⟩

theorem conv_bytes {w : World} {v : Value} {l : List Int} (h : BytesAt w v l) : (convert 41 9 v).run Try.prog w = .ok (.string (strOfNums l)) w := by
  obtain ⟨a, cap, rfl, _, _, hel⟩ := h.parts
  have hS : SliceT Try.prog 41 5 := inferInstance
  cases a with
  | none =>
    cases l with
    | nil => exact run_convert_bytes_nil w _ _ hS.out Try.underlying5 _ _ _ Try.underlying9
    | cons x l => obtain ⟨b, o, e, _⟩ := hel 0 (by simp); cases e
  | some a =>
    by_cases h0 : 0 < l.length
    · obtain ⟨b, o, e, _⟩ := hel 0 h0
      cases e
      exact run_convert_bytes_arg w _ _ hS.out Try.underlying5 b o l.length cap l rfl (fun i hi => by obtain ⟨b', o', e, hc⟩ := hel i hi; cases e; exact hc) _ Try.underlying9
    · have hl : l = [] := by
        cases l with
        | nil => rfl
        | cons => simp at h0
      subst hl
      rw [run_convert_bytes_string w _ _ _ _ _ _ hS.out Try.underlying5 Try.underlying9]
      have := run_bytesToString (P := Try.prog) w a 0 cap [] (by have := run_loadCells_list (P := Try.prog) w a [] (fun j v hv => by cases hv); exact this)
      exact this
theorem wpS_conv {w : World} {ops : Array Oper} {rest : List Oper} {o : Oper} {a : Act} {Q : Exit → Act → World → Prop} (hgd : Region.wanted o (yielded ops a.tmps) = true) (x : Operand) (ho : o.op = .convert 41 9 x) (v : Value) (hx : a.eval x = v) (l : List Int) (hB : BytesAt w v l)
    (h : wpList Try.prog ops Q rest (a.put o.dst (.string (strOfNums l))) w) : wpList Try.prog ops Q (o :: rest) a w := by
  subst hx
  refine wpList_run hgd _ w ?_ h
  unfold execOp
  simp only [ho, Sem.run_bind, conv_bytes hB]
  rfl
set_option maxRecDepth 100000 in
set_option maxHeartbeats 1000000 in
theorem pixCoverSame_calls {W H : Nat} (hs : Sides W H) (w : World) (ma mb : Option Addr) (p q : Nat → Nat → Bool) (ha : MaskAt w (.agg #[.int .i64 W, .int .i64 H, .slice ma (W * H) (W * H)]) (pixMask W H p)) (hb : MaskAt w (.agg #[.int .i64 W, .int .i64 H, .slice mb (W * H) (W * H)]) (pixMask W H q)) (e : ∀ j, j < H → ∀ i, i < W → p j i = q j i) :
    Calls Try.prog 54 #[.agg #[.int .i64 W, .int .i64 H, .slice ma (W * H) (W * H)], .agg #[.int .i64 W, .int .i64 H, .slice mb (W * H) (W * H)]] w fun e w' => e = .returned (.bool true) ∧ Below w.heap.size w w' := by
  rw [← pixMask_congr hs e] at hb
  have Ha := Lib.hid ha.bytes
  have Hb := Lib.hid hb.bytes
  clear ha hb e
  have hL := Holds.start w
  have n1 : True := trivial; have n2 : True := trivial
  go_enter Try.func54, Try.ntmps54
  go_wp2_with (first | (first | (with_reducible refine wpS_conv rfl _ rfl (.slice _ _ _) rfl _ (Ha.out.hold hL) ?_) | (with_reducible refine wpS_conv rfl _ rfl (.slice _ _ _) rfl _ (Hb.out.hold hL) ?_)) | (first | (clear hL n1; with_reducible intro b1 w1 hL) | (clear hL n2; with_reducible intro b2 w2 hL) | (clear hL; with_reducible intro _ _ hL)) | (with_reducible refine wpC_alloc rfl _ rfl _ _ inferInstance hL ?_) | (with_reducible first | refine wpB_agg rfl _ _ _ rfl rfl hL ?_ | refine wpB_one rfl _ _ (.int _ _) rfl rfl rfl hL ?_ | refine wpB_one rfl _ _ (.slice _ _ _) rfl rfl rfl hL ?_ | refine wpB_one rfl _ _ (.bool _) rfl rfl rfl hL ?_ | refine wpB_one rfl _ _ (.pointer _) rfl rfl rfl hL ?_ | refine wpB_one rfl _ _ (.func _ _ _) rfl rfl rfl hL ?_) | (with_reducible first | refine wpH_max rfl _ _ _ _ rfl _ _ rfl rfl ?_ | refine wpH_min rfl _ _ _ _ rfl _ _ rfl rfl ?_) | ((with_reducible refine wpA_load rfl _ _ rfl _ rfl ?_); first | refine loadA hL ?_ | refine loadR hL ?_ | refine loadC hL ?_ | refine loadD ?_ | refine loadE hL ?_ | refine loadF ?_) | ((with_reducible refine wpA_index rfl _ _ _ rfl _ rfl _ rfl ?_); first | (refine indexA ?_; try rw [Int.toNat_natCast]) | refine indexC ?_) | ((with_reducible refine wpA_store rfl _ _ _ rfl _ rfl (.agg _) rfl ?_); refine storeR hL ?_; clear hL; intro _ hL) | ((with_reducible first | refine wpA_store rfl _ _ _ rfl _ rfl (.int _ _) rfl ?_ | refine wpA_store rfl _ _ _ rfl _ rfl (.slice _ _ _) rfl ?_ | refine wpA_store rfl _ _ _ rfl _ rfl (.bool _) rfl ?_ | refine wpA_store rfl _ _ _ rfl _ rfl (.pointer _) rfl ?_ | refine wpA_store rfl _ _ _ rfl _ rfl (.func _ _ _) rfl ?_); (first | refine storeA hL ?_ | refine storeO hL ?_); (clear hL; intro _ hL)) | ((with_reducible refine wpA_lit rfl _ _ _ rfl ?_); first | refine litA1 hL ?_ | refine litA2 hL ?_) | ((with_reducible refine wpA_append rfl _ _ _ rfl (.slice _ _ _) rfl ?_); intro vq hvq; simp [go_sem] at hvq; subst hvq; refine appendA hL ?_; clear hL; intro _ _ _ hL; try dsimp only at hL) | ((with_reducible refine wpA_make rfl _ _ _ rfl _ rfl rfl ?_); refine makeA hL ?_))
  go_ret
  exact ⟨ret_bool (by simp), hL.below⟩
end Go.Proofs.Ytjgnbmgdnfldeaa
