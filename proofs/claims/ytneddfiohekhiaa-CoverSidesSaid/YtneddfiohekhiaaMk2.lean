/- Package cover: Count, Same, Join, Meet, Less, Other, of masks that are said pixel by pixel. -/
import Derived.Test.YtneddfiohekhiaaMk
import Derived.Laws.BytesArg
-- uses arrU
namespace Go.Proofs.Ytneddfiohekhiaa
open Go.RowKit

def maskV (W H : Nat) (ma : Option Addr) : Value := .agg #[.int .i64 W, .int .i64 H, .slice ma (W * H) (W * H)]
def MaskF (v : Value) (m : Msk) (w : World) : Prop := MaskAt w v m
theorem Holds.mask {w0 w : World} {M : List Res} {Φ : List (World → Prop)} {v : Value} {m : Msk} (hL : Holds w0 w M Φ) (h : FactAt Φ (MaskF v m)) : MaskAt w v m := hL.fact h
theorem MaskAt.bytes {w : World} {W H : Nat} {ma : Option Addr} {q : Nat → Nat → Bool} (h : MaskAt w (.agg #[.int .i64 W, .int .i64 H, .slice ma (W * H) (W * H)]) (pixMask W H q)) : BytesAt w (.slice ma (W * H) (W * H)) (pixMask W H q).B := by
  obtain ⟨s, hv, hB⟩ := h
  simp at hv
  obtain ⟨_, _, rfl⟩ := hv
  exact hB
theorem pixMask_at {W H x : Nat} (q : Nat → Nat → Bool) (h : x < W * H) : (pixMask W H q).B.getD x 0 = bit (q (x / W) (x % W)) := by
  simp [pixMask, h, bit]
/-- a mask's bytes, where they lie -/
theorem mask_cells {w : World} {W H : Nat} (hs : Sides W H) {ma : Option Addr} {q : Nat → Nat → Bool} (h : MaskAt w (.agg #[.int .i64 W, .int .i64 H, .slice ma (W * H) (W * H)]) (pixMask W H q)) :
    ∃ b o, ma = some ⟨b, o, none⟩ ∧ ∀ x, x < W * H → w.cell? ⟨b, o + x, none⟩ = some (.int .u8 (bit (q (x / W) (x % W)))) := by
  obtain ⟨a', cap', he, _, _, hel⟩ := h.bytes.parts
  rw [pixMask_len] at he hel
  cases he
  have h0 : 0 < W * H := Nat.mul_pos hs.w0 hs.h0
  obtain ⟨b, o, rfl, _⟩ := hel 0 h0
  refine ⟨b, o, rfl, fun x hx => ?_⟩
  obtain ⟨b', o', e, hc⟩ := hel x hx
  cases e
  rw [pixMask_at q hx] at hc
  exact hc
theorem mask_bounds {W H : Nat} (hs : Sides W H) : 1 ≤ W * H ∧ W * H ≤ 4096 ∧ ((W * H : Nat) : Int) = (W : Int) * (H : Int) :=
  ⟨Nat.mul_pos hs.w0 hs.h0, Nat.mul_le_mul hs.w1 hs.h1, by simp⟩
theorem pixMask_congr {W H : Nat} {p q : Nat → Nat → Bool} (hs : Sides W H) (h : ∀ j, j < H → ∀ i, i < W → p j i = q j i) : pixMask W H p = pixMask W H q := by
  unfold pixMask
  congr 1
  refine List.map_congr_left fun x hx => ?_
  have hx : x < W * H := by simpa using hx
  rw [h _ (Nat.div_lt_of_lt_mul hx) _ (Nat.mod_lt _ hs.w0)]

theorem BytesAt.hold {w0 w : World} {M : List Res} {Φ : List (World → Prop)} {v : Value} {l : List Int} (h : BytesAt w0 v l) (hL : Holds w0 w M Φ) : BytesAt w v l := SliceAt.below h hL.below

def byteSum (W : Nat) (q : Nat → Nat → Bool) : Nat → Nat
  | 0 => 0
  | n + 1 => byteSum W q n + (if q (n / W) (n % W) then 1 else 0)
theorem byteSum_le (W : Nat) (q : Nat → Nat → Bool) : ∀ n, byteSum W q n ≤ n
  | 0 => Nat.le_refl _
  | n + 1 => by
    have := byteSum_le W q n
    simp only [byteSum]; split <;> omega
theorem byteSum_row {W : Nat} (hW : 0 < W) (q : Nat → Nat → Bool) (j : Nat) : ∀ i, i ≤ W → byteSum W q (j * W + i) = byteSum W q (j * W) + countTo (q j) i
  | 0, _ => rfl
  | i + 1, hi => by
    have ih := byteSum_row hW q j i (by omega)
    obtain ⟨h1, h2⟩ := (divmod_eq (W := W) (i := i) (j := j) (x := j * W + i) (by omega)).1 rfl
    rw [← Nat.add_assoc]
    simp only [byteSum, countTo, ih, h1, h2]
    split <;> omega
theorem byteSum_all {W : Nat} (hW : 0 < W) (q : Nat → Nat → Bool) : ∀ n, byteSum W q (n * W) = pixCount W q n
  | 0 => by simp [byteSum, pixCount]
  | n + 1 => by
    rw [Nat.add_mul, Nat.one_mul, byteSum_row hW q n W (Nat.le_refl _), byteSum_all hW q n]; rfl

set_option maxRecDepth 100000 in
set_option maxHeartbeats 1000000 in
theorem pixCoverCount_calls {W H : Nat} (hs : Sides W H) (w : World) (ma : Option Addr) (q : Nat → Nat → Bool) (h : MaskAt w (.agg #[.int .i64 W, .int .i64 H, .slice ma (W * H) (W * H)]) (pixMask W H q)) :
    Calls Try.prog 22 #[.agg #[.int .i64 W, .int .i64 H, .slice ma (W * H) (W * H)]] w fun e w' => e = .returned (.int .i64 (pixCount W q H)) ∧ Below w.heap.size w w' := by
  have Hm := Lib.hid h
  obtain ⟨b, o, rfl, hc⟩ := mask_cells hs h
  have Hc := Lib.hid hc
  clear h hc
  have Hmay := Lib.hid (mask_may hs q)
  obtain ⟨m1, m2, m3⟩ := mask_bounds hs
  have HR := Lib.hid (show byteSum W q (W * H) = pixCount W q H by rw [Nat.mul_comm]; exact byteSum_all hs.w0 q H)
  have hL := Holds.start w
  have n1 : True := trivial; have n2 : True := trivial
  go_enter Try.func22, Try.ntmps22
  go_wp2_with (first | (go_at_call 20; (with_reducible refine (coverMay_calls _ _ _ (Hm.out.hold hL)).mono ?_); rintro e _ ⟨rfl, hb⟩; rw [Hmay.out]; replace hL := hL.call hb; clear hb) | (first | (clear hL n1; with_reducible intro b1 w1 hL) | (clear hL n2; with_reducible intro b2 w2 hL) | (clear hL; with_reducible intro _ _ hL)) | (with_reducible refine wpC_alloc rfl _ rfl _ _ inferInstance hL ?_) | (with_reducible first | refine wpB_agg rfl _ _ _ rfl rfl hL ?_ | refine wpB_one rfl _ _ (.int _ _) rfl rfl rfl hL ?_ | refine wpB_one rfl _ _ (.slice _ _ _) rfl rfl rfl hL ?_ | refine wpB_one rfl _ _ (.bool _) rfl rfl rfl hL ?_ | refine wpB_one rfl _ _ (.pointer _) rfl rfl rfl hL ?_ | refine wpB_one rfl _ _ (.func _ _ _) rfl rfl rfl hL ?_) | (with_reducible first | refine wpH_max rfl _ _ _ _ rfl _ _ rfl rfl ?_ | refine wpH_min rfl _ _ _ _ rfl _ _ rfl rfl ?_) | ((with_reducible refine wpA_load rfl _ _ rfl _ rfl ?_); first | refine loadA hL ?_ | refine loadR hL ?_ | refine loadC hL ?_ | refine loadD ?_ | refine loadE hL ?_ | refine loadF ?_) | ((with_reducible refine wpA_index rfl _ _ _ rfl _ rfl _ rfl ?_); first | (refine indexA ?_; try rw [Int.toNat_natCast]) | refine indexC ?_) | ((with_reducible refine wpA_store rfl _ _ _ rfl _ rfl (.agg _) rfl ?_); refine storeR hL ?_; clear hL; intro _ hL) | ((with_reducible first | refine wpA_store rfl _ _ _ rfl _ rfl (.int _ _) rfl ?_ | refine wpA_store rfl _ _ _ rfl _ rfl (.slice _ _ _) rfl ?_ | refine wpA_store rfl _ _ _ rfl _ rfl (.bool _) rfl ?_ | refine wpA_store rfl _ _ _ rfl _ rfl (.pointer _) rfl ?_ | refine wpA_store rfl _ _ _ rfl _ rfl (.func _ _ _) rfl ?_); (first | refine storeA hL ?_ | refine storeO hL ?_); (clear hL; intro _ hL)) | ((with_reducible refine wpA_lit rfl _ _ _ rfl ?_); first | refine litA1 hL ?_ | refine litA2 hL ?_) | ((with_reducible refine wpA_append rfl _ _ _ rfl (.slice _ _ _) rfl ?_); intro vq hvq; simp [go_sem] at hvq; subst hvq; refine appendA hL ?_; clear hL; intro _ _ _ hL; try dsimp only at hL) | ((with_reducible refine wpA_make rfl _ _ _ rfl _ rfl rfl ?_); refine makeA hL ?_))
  go_loopw [3, 11] (fun s3 s11 wr => ∃ k : Nat, k ≤ W * H ∧ s11 = .int .i64 k ∧ s3 = .int .i64 (byteSum W q k) ∧ Holds w wr [blk b1 #[.int .i64 W, .int .i64 H, .slice (some ⟨b, o, none⟩) (W * H) (W * H)] 26] [])
    (fun s3 s11 wr => W * H - (intOf s11).toNat)
  case atStart => exact ⟨0, by omega, rfl, rfl, hL⟩
  case round =>
    clear hL
    obtain ⟨k, hk, rfl, rfl, hL⟩ := hrel
    by_cases hkt : k < W * H
    · have hc := Hc.out k hkt
      have s1 := byteSum_le W q k
      have Hs := Lib.hid (show byteSum W q (k + 1) = byteSum W q k + (if q (k / W) (k % W) then 1 else 0) from rfl)
      generalize q (k / W) (k % W) = bq at *
      cases bq
      all_goals
        simp only [bit, if_true, Bool.false_eq_true, if_false] at hc Hs
        go_wp2_with (first | (first | (clear hL n1; with_reducible intro b1 w1 hL) | (clear hL n2; with_reducible intro b2 w2 hL) | (clear hL; with_reducible intro _ _ hL)) | (with_reducible refine wpC_alloc rfl _ rfl _ _ inferInstance hL ?_) | (with_reducible first | refine wpB_agg rfl _ _ _ rfl rfl hL ?_ | refine wpB_one rfl _ _ (.int _ _) rfl rfl rfl hL ?_ | refine wpB_one rfl _ _ (.slice _ _ _) rfl rfl rfl hL ?_ | refine wpB_one rfl _ _ (.bool _) rfl rfl rfl hL ?_ | refine wpB_one rfl _ _ (.pointer _) rfl rfl rfl hL ?_ | refine wpB_one rfl _ _ (.func _ _ _) rfl rfl rfl hL ?_) | (with_reducible first | refine wpH_max rfl _ _ _ _ rfl _ _ rfl rfl ?_ | refine wpH_min rfl _ _ _ _ rfl _ _ rfl rfl ?_) | ((with_reducible refine wpA_load rfl _ _ rfl _ rfl ?_); first | refine loadA hL ?_ | refine loadR hL ?_ | refine loadC hL ?_ | refine loadD ?_ | refine loadE hL ?_ | refine loadF ?_) | ((with_reducible refine wpA_index rfl _ _ _ rfl _ rfl _ rfl ?_); first | (refine indexA ?_; try rw [Int.toNat_natCast]) | refine indexC ?_) | ((with_reducible refine wpA_store rfl _ _ _ rfl _ rfl (.agg _) rfl ?_); refine storeR hL ?_; clear hL; intro _ hL) | ((with_reducible first | refine wpA_store rfl _ _ _ rfl _ rfl (.int _ _) rfl ?_ | refine wpA_store rfl _ _ _ rfl _ rfl (.slice _ _ _) rfl ?_ | refine wpA_store rfl _ _ _ rfl _ rfl (.bool _) rfl ?_ | refine wpA_store rfl _ _ _ rfl _ rfl (.pointer _) rfl ?_ | refine wpA_store rfl _ _ _ rfl _ rfl (.func _ _ _) rfl ?_); (first | refine storeA hL ?_ | refine storeO hL ?_); (clear hL; intro _ hL)) | ((with_reducible refine wpA_lit rfl _ _ _ rfl ?_); first | refine litA1 hL ?_ | refine litA2 hL ?_) | ((with_reducible refine wpA_append rfl _ _ _ rfl (.slice _ _ _) rfl ?_); intro vq hvq; simp [go_sem] at hvq; subst hvq; refine appendA hL ?_; clear hL; intro _ _ _ hL; try dsimp only at hL) | ((with_reducible refine wpA_make rfl _ _ _ rfl _ rfl rfl ?_); refine makeA hL ?_))
        go_roundw
        case rel => exact ⟨k + 1, by omega, by go_num, by rw [Hs.out]; go_num, hL⟩
        case measure => simp [intOf]; omega
    · have e : k = W * H := by omega
      subst e
      go_wp2_with (first | (first | (clear hL n1; with_reducible intro b1 w1 hL) | (clear hL n2; with_reducible intro b2 w2 hL) | (clear hL; with_reducible intro _ _ hL)) | (with_reducible refine wpC_alloc rfl _ rfl _ _ inferInstance hL ?_) | (with_reducible first | refine wpB_agg rfl _ _ _ rfl rfl hL ?_ | refine wpB_one rfl _ _ (.int _ _) rfl rfl rfl hL ?_ | refine wpB_one rfl _ _ (.slice _ _ _) rfl rfl rfl hL ?_ | refine wpB_one rfl _ _ (.bool _) rfl rfl rfl hL ?_ | refine wpB_one rfl _ _ (.pointer _) rfl rfl rfl hL ?_ | refine wpB_one rfl _ _ (.func _ _ _) rfl rfl rfl hL ?_) | (with_reducible first | refine wpH_max rfl _ _ _ _ rfl _ _ rfl rfl ?_ | refine wpH_min rfl _ _ _ _ rfl _ _ rfl rfl ?_) | ((with_reducible refine wpA_load rfl _ _ rfl _ rfl ?_); first | refine loadA hL ?_ | refine loadR hL ?_ | refine loadC hL ?_ | refine loadD ?_ | refine loadE hL ?_ | refine loadF ?_) | ((with_reducible refine wpA_index rfl _ _ _ rfl _ rfl _ rfl ?_); first | (refine indexA ?_; try rw [Int.toNat_natCast]) | refine indexC ?_) | ((with_reducible refine wpA_store rfl _ _ _ rfl _ rfl (.agg _) rfl ?_); refine storeR hL ?_; clear hL; intro _ hL) | ((with_reducible first | refine wpA_store rfl _ _ _ rfl _ rfl (.int _ _) rfl ?_ | refine wpA_store rfl _ _ _ rfl _ rfl (.slice _ _ _) rfl ?_ | refine wpA_store rfl _ _ _ rfl _ rfl (.bool _) rfl ?_ | refine wpA_store rfl _ _ _ rfl _ rfl (.pointer _) rfl ?_ | refine wpA_store rfl _ _ _ rfl _ rfl (.func _ _ _) rfl ?_); (first | refine storeA hL ?_ | refine storeO hL ?_); (clear hL; intro _ hL)) | ((with_reducible refine wpA_lit rfl _ _ _ rfl ?_); first | refine litA1 hL ?_ | refine litA2 hL ?_) | ((with_reducible refine wpA_append rfl _ _ _ rfl (.slice _ _ _) rfl ?_); intro vq hvq; simp [go_sem] at hvq; subst hvq; refine appendA hL ?_; clear hL; intro _ _ _ hL; try dsimp only at hL) | ((with_reducible refine wpA_make rfl _ _ _ rfl _ rfl rfl ?_); refine makeA hL ?_))
      go_ret
      exact ⟨ret_int (by rw [HR.out]), hL.below⟩

theorem conv_bytes {w : World} {v : Value} {l : List Int} (h : BytesAt w v l) : (convert 24 9 v).run Try.prog w = .ok (.string (strOfNums l)) w := by
  obtain ⟨a, cap, rfl, _, _, hel⟩ := h.parts
  have hS : SliceT Try.prog 24 5 := inferInstance
  cases a with
  | none =>
    cases l with
    | nil => exact run_convert_bytes_nil w _ _ hS.out Try.underlying5 _ _ _ Try.underlying9
    | cons x l => obtain ⟨b, o, e, _⟩ := hel 0 (by simp); cases e
  | some a =>
    by_cases h0 : 0 < l.length
    · obtain ⟨b, o, e, _⟩ := hel 0 h0
      cases e
      exact run_convert_bytes_arg w _ _ hS.out Try.underlying5 b o l.length cap l rfl (fun i hi => by obtain ⟨b', o', e, hc⟩ := hel i hi; cases e; exact hc) _ Try.underlying9
    · have hl : l = [] := by
        cases l with
        | nil => rfl
        | cons => simp at h0
      subst hl
      rw [run_convert_bytes_string w _ _ _ _ _ _ hS.out Try.underlying5 Try.underlying9]
      have := run_bytesToString (P := Try.prog) w a 0 cap [] (by have := run_loadCells_list (P := Try.prog) w a [] (fun j v hv => by cases hv); exact this)
      exact this
theorem wpS_conv {w : World} {ops : Array Oper} {rest : List Oper} {o : Oper} {a : Act} {Q : Exit → Act → World → Prop} (hgd : Region.wanted o (yielded ops a.tmps) = true) (x : Operand) (ho : o.op = .convert 24 9 x) (v : Value) (hx : a.eval x = v) (l : List Int) (hB : BytesAt w v l)
    (h : wpList Try.prog ops Q rest (a.put o.dst (.string (strOfNums l))) w) : wpList Try.prog ops Q (o :: rest) a w := by
  subst hx
  refine wpList_run hgd _ w ?_ h
  unfold execOp
  simp only [ho, Sem.run_bind, conv_bytes hB]
  rfl
set_option maxRecDepth 100000 in
set_option maxHeartbeats 1000000 in
theorem pixCoverSame_calls {W H : Nat} (hs : Sides W H) (w : World) (ma mb : Option Addr) (p q : Nat → Nat → Bool) (ha : MaskAt w (.agg #[.int .i64 W, .int .i64 H, .slice ma (W * H) (W * H)]) (pixMask W H p)) (hb : MaskAt w (.agg #[.int .i64 W, .int .i64 H, .slice mb (W * H) (W * H)]) (pixMask W H q)) (e : ∀ j, j < H → ∀ i, i < W → p j i = q j i) :
    Calls Try.prog 21 #[.agg #[.int .i64 W, .int .i64 H, .slice ma (W * H) (W * H)], .agg #[.int .i64 W, .int .i64 H, .slice mb (W * H) (W * H)]] w fun e w' => e = .returned (.bool true) ∧ Below w.heap.size w w' := by
  rw [← pixMask_congr hs e] at hb
  have Ha := Lib.hid ha.bytes
  have Hb := Lib.hid hb.bytes
  clear ha hb e
  have hL := Holds.start w
  have n1 : True := trivial; have n2 : True := trivial
  go_enter Try.func21, Try.ntmps21
  go_wp2_with (first | (first | (with_reducible refine wpS_conv rfl _ rfl (.slice _ _ _) rfl _ (Ha.out.hold hL) ?_) | (with_reducible refine wpS_conv rfl _ rfl (.slice _ _ _) rfl _ (Hb.out.hold hL) ?_)) | (first | (clear hL n1; with_reducible intro b1 w1 hL) | (clear hL n2; with_reducible intro b2 w2 hL) | (clear hL; with_reducible intro _ _ hL)) | (with_reducible refine wpC_alloc rfl _ rfl _ _ inferInstance hL ?_) | (with_reducible first | refine wpB_agg rfl _ _ _ rfl rfl hL ?_ | refine wpB_one rfl _ _ (.int _ _) rfl rfl rfl hL ?_ | refine wpB_one rfl _ _ (.slice _ _ _) rfl rfl rfl hL ?_ | refine wpB_one rfl _ _ (.bool _) rfl rfl rfl hL ?_ | refine wpB_one rfl _ _ (.pointer _) rfl rfl rfl hL ?_ | refine wpB_one rfl _ _ (.func _ _ _) rfl rfl rfl hL ?_) | (with_reducible first | refine wpH_max rfl _ _ _ _ rfl _ _ rfl rfl ?_ | refine wpH_min rfl _ _ _ _ rfl _ _ rfl rfl ?_) | ((with_reducible refine wpA_load rfl _ _ rfl _ rfl ?_); first | refine loadA hL ?_ | refine loadR hL ?_ | refine loadC hL ?_ | refine loadD ?_ | refine loadE hL ?_ | refine loadF ?_) | ((with_reducible refine wpA_index rfl _ _ _ rfl _ rfl _ rfl ?_); first | (refine indexA ?_; try rw [Int.toNat_natCast]) | refine indexC ?_) | ((with_reducible refine wpA_store rfl _ _ _ rfl _ rfl (.agg _) rfl ?_); refine storeR hL ?_; clear hL; intro _ hL) | ((with_reducible first | refine wpA_store rfl _ _ _ rfl _ rfl (.int _ _) rfl ?_ | refine wpA_store rfl _ _ _ rfl _ rfl (.slice _ _ _) rfl ?_ | refine wpA_store rfl _ _ _ rfl _ rfl (.bool _) rfl ?_ | refine wpA_store rfl _ _ _ rfl _ rfl (.pointer _) rfl ?_ | refine wpA_store rfl _ _ _ rfl _ rfl (.func _ _ _) rfl ?_); (first | refine storeA hL ?_ | refine storeO hL ?_); (clear hL; intro _ hL)) | ((with_reducible refine wpA_lit rfl _ _ _ rfl ?_); first | refine litA1 hL ?_ | refine litA2 hL ?_) | ((with_reducible refine wpA_append rfl _ _ _ rfl (.slice _ _ _) rfl ?_); intro vq hvq; simp [go_sem] at hvq; subst hvq; refine appendA hL ?_; clear hL; intro _ _ _ hL; try dsimp only at hL) | ((with_reducible refine wpA_make rfl _ _ _ rfl _ rfl rfl ?_); refine makeA hL ?_))
  go_ret
  exact ⟨ret_bool (by simp), hL.below⟩
/-- what a function on two bytes returns -/
def OnBits (G : Nat) (f : Bool → Bool → Bool) : Prop :=
  (∀ x y w, Calls Try.prog G #[.int .u8 (bit x), .int .u8 (bit y)] w fun e w' => e = .returned (.int .u8 (bit (f x y))) ∧ w = w') ∧ ∀ a b w, (callFunc G #[a, b]).run Try.prog w = .ok (.enter G #[a, b]) w
def MaskOut (W H : Nat) (q : Nat → Nat → Bool) (w : World) (e : Ending) (w' : World) : Prop :=
  ∃ ma, e = .returned (.tuple #[.agg #[.int .i64 W, .int .i64 H, .slice ma (W * H) (W * H)], .int .i64 0]) ∧ Below w.heap.size w w' ∧ Fresh w w' (MaskF (.agg #[.int .i64 W, .int .i64 H, .slice ma (W * H) (W * H)]) (pixMask W H q))
/-- the first places of two masks, put together -/
def bothF (W : Nat) (f : Bool → Bool → Bool) (p q : Nat → Nat → Bool) (k x : Nat) : Int := if x < k then bit (f (p (x / W) (x % W)) (q (x / W) (x % W))) else 0
theorem bothF_set (W n : Nat) (f : Bool → Bool → Bool) (p q : Nat → Nat → Bool) (k : Nat) : arrU n (fun x => if x = k then bit (f (p (k / W) (k % W)) (q (k / W) (k % W))) else bothF W f p q k x) = arrU n (bothF W f p q (k + 1)) := by
  refine arrU_congr fun x _ => ?_
  unfold bothF
  by_cases h : x = k
  · subst h; simp
  · have : x < k + 1 ↔ x < k := by omega
    simp [h, this]

theorem Holds.lowAt {w0 w : World} {M : List Res} {Φ : List (World → Prop)} (hL : Holds w0 w M Φ) {b : Nat} {cs : Array Value} {T : TypeId} (h : At M (blk b cs T)) : w0.heap.size ≤ b := hL.low _ h b rfl
theorem blk_ne {w0 w : World} {M : List Res} {Φ : List (World → Prop)} (hL : Holds w0 w M Φ) {b b' : Nat} {cs cs' : Array Value} {T T' : TypeId} (h : At M (blk b cs T)) (h' : At M (blk b' cs' T')) (hT : T ≠ T') : ¬ b = b' := by
  intro e
  subst e
  have h1 : w.heap[b]? = some (.cells cs T (0, 0)) := hL.at h
  have h2 : w.heap[b]? = some (.cells cs' T' (0, 0)) := hL.at h'
  rw [h1] at h2
  simp at h2
  exact hT h2.2
theorem cell_set_other {w : World} {b o b' o' : Nat} {v x : Value} (h : ¬ b' = b) (c : w.cell? ⟨b, o, none⟩ = some x) : (w.setCell ⟨b', o', none⟩ v).cell? ⟨b, o, none⟩ = some x := by
  rw [World.cell?_setCell_other _ _ _ _ (by simp [h])]; exact c
theorem cell_set_otherD {w : World} {b o b' o' : Nat} {v x : Value} (h : ¬ b' = b) (c : w.drew.cell? ⟨b, o, none⟩ = some x) : (w.setCell ⟨b', o', none⟩ v).drew.cell? ⟨b, o, none⟩ = some x :=
  cell_set_other (w := w) h c

set_option maxRecDepth 100000 in
set_option maxHeartbeats 2000000 in
theorem coverBoth_calls {W H : Nat} (hs : Sides W H) (w : World) (ma mb : Option Addr) (p q : Nat → Nat → Bool) (ha : MaskAt w (.agg #[.int .i64 W, .int .i64 H, .slice ma (W * H) (W * H)]) (pixMask W H p)) (hb : MaskAt w (.agg #[.int .i64 W, .int .i64 H, .slice mb (W * H) (W * H)]) (pixMask W H q))
    (G : Nat) (f : Bool → Bool → Bool) (hG : OnBits G f) :
    Calls Try.prog 49 #[.agg #[.int .i64 W, .int .i64 H, .slice ma (W * H) (W * H)], .agg #[.int .i64 W, .int .i64 H, .slice mb (W * H) (W * H)], .func (.func G) #[] #[]] w (MaskOut W H (fun j i => f (p j i) (q j i)) w) := by
  have Ha := Lib.hid ha
  have Hb := Lib.hid hb
  obtain ⟨ba, oa, rfl, hca⟩ := mask_cells hs ha
  obtain ⟨bb, ob, rfl, hcb⟩ := mask_cells hs hb
  have Hca := Lib.hid hca; have Hcb := Lib.hid hcb
  clear ha hb hca hcb
  have Hma := Lib.hid (mask_may hs p)
  have Hmb := Lib.hid (mask_may hs q)
  obtain ⟨m1, m2, m3⟩ := mask_bounds hs
  obtain ⟨hG1, hG2⟩ := hG
  have HG := Lib.hid hG1; clear hG1
  have hL := Holds.start w
  have n1 : True := trivial; have n2 : True := trivial; have n3 : True := trivial
  go_enter Try.func49, Try.ntmps49
  go_wp2_with (first | (go_at_call 20; (first | (with_reducible refine (coverMay_calls _ _ _ (Ha.out.hold hL)).mono ?_) | (with_reducible refine (coverMay_calls _ _ _ (Hb.out.hold hL)).mono ?_)); rintro e w3 ⟨rfl, hb⟩; (first | rw [Hma.out] | rw [Hmb.out]); replace hL := hL.call hb; clear hb) | (first | (clear hL n1; with_reducible intro b1 w1 hL) | (clear hL n2; with_reducible intro b2 w2 hL) | (clear hL n3; with_reducible intro b3 w3 hL) | (clear hL; with_reducible intro _ _ hL)) | (with_reducible refine wpC_alloc rfl _ rfl _ _ inferInstance hL ?_) | (with_reducible first | refine wpB_agg rfl _ _ _ rfl rfl hL ?_ | refine wpB_one rfl _ _ (.int _ _) rfl rfl rfl hL ?_ | refine wpB_one rfl _ _ (.slice _ _ _) rfl rfl rfl hL ?_ | refine wpB_one rfl _ _ (.bool _) rfl rfl rfl hL ?_ | refine wpB_one rfl _ _ (.pointer _) rfl rfl rfl hL ?_ | refine wpB_one rfl _ _ (.func _ _ _) rfl rfl rfl hL ?_) | (with_reducible first | refine wpH_max rfl _ _ _ _ rfl _ _ rfl rfl ?_ | refine wpH_min rfl _ _ _ _ rfl _ _ rfl rfl ?_) | ((with_reducible refine wpA_load rfl _ _ rfl _ rfl ?_); first | refine loadA hL ?_ | refine loadR hL ?_ | refine loadC hL ?_ | refine loadD ?_ | refine loadE hL ?_ | refine loadF ?_) | ((with_reducible refine wpA_index rfl _ _ _ rfl _ rfl _ rfl ?_); first | (refine indexA ?_; try rw [Int.toNat_natCast]) | refine indexC ?_) | ((with_reducible refine wpA_store rfl _ _ _ rfl _ rfl (.agg _) rfl ?_); refine storeR hL ?_; clear hL; intro _ hL) | ((with_reducible first | refine wpA_store rfl _ _ _ rfl _ rfl (.int _ _) rfl ?_ | refine wpA_store rfl _ _ _ rfl _ rfl (.slice _ _ _) rfl ?_ | refine wpA_store rfl _ _ _ rfl _ rfl (.bool _) rfl ?_ | refine wpA_store rfl _ _ _ rfl _ rfl (.pointer _) rfl ?_ | refine wpA_store rfl _ _ _ rfl _ rfl (.func _ _ _) rfl ?_); (first | refine storeA hL ?_ | refine storeO hL ?_); (clear hL; intro _ hL)) | ((with_reducible refine wpA_lit rfl _ _ _ rfl ?_); first | refine litA1 hL ?_ | refine litA2 hL ?_) | ((with_reducible refine wpA_append rfl _ _ _ rfl (.slice _ _ _) rfl ?_); intro vq hvq; simp [go_sem] at hvq; subst hvq; refine appendA hL ?_; clear hL; intro _ _ _ hL; try dsimp only at hL) | ((with_reducible refine wpA_make rfl _ _ _ rfl _ rfl rfl ?_); refine makeA hL ?_))
  have c0 : w3.cell? ⟨b1, 0, none⟩ = some (.int .i64 W) := (hL.cell (by (repeat (first | with_reducible exact At.here | with_reducible apply At.there)))).trans rfl
  have c1 : w3.cell? ⟨b1, 1, none⟩ = some (.int .i64 H) := (hL.cell (by (repeat (first | with_reducible exact At.here | with_reducible apply At.there)))).trans rfl
  have c2 : w3.cell? ⟨b1, 2, none⟩ = some (.slice (some ⟨ba, oa, none⟩) (W * H) (W * H)) := (hL.cell (by (repeat (first | with_reducible exact At.here | with_reducible apply At.there)))).trans rfl
  have hmk := fun w => run_makeU (n := W * H) (L := (W : Int) * (H : Int)) (by omega) (by simp) w
  go_region_held3 (fun w' => w'.cell? ⟨b1, 0, none⟩ = some (.int .i64 W) ∧ w'.cell? ⟨b1, 1, none⟩ = some (.int .i64 H) ∧ w'.cell? ⟨b1, 2, none⟩ = some (.slice (some ⟨ba, oa, none⟩) (W * H) (W * H))) (first | go_keep | exact ⟨c0, c1, c2⟩ | exact ⟨cell_later (by repeat (first | exact Below.refl _ _ | refine Below.drew ?_ | refine Below.alloc ?_ (by simp) _)) c0, cell_later (by repeat (first | exact Below.refl _ _ | refine Below.drew ?_ | refine Below.alloc ?_ (by simp) _)) c1, cell_later (by repeat (first | exact Below.refl _ _ | refine Below.drew ?_ | refine Below.alloc ?_ (by simp) _)) c2⟩) (fail)
  all_goals clear c0 c1 c2 hmk
  · rename_i hH
    clear hH
    replace hL := (hL.alloc2 (arrU (W * H) fun _ => 0) #[.int .i64 W, .int .i64 H, .slice (some ⟨w3.heap.size, 0, none⟩) (W * H) (W * H)] 5 26)
    obtain ⟨w4, hw4⟩ : ∃ w4, w4 = ((w3.alloc (.cells (arrU (W * H) fun _ => 0) 5)).alloc (.cells #[.int .i64 W, .int .i64 H, .slice (some ⟨w3.heap.size, 0, none⟩) (W * H) (W * H)] 26)).drew := ⟨_, rfl⟩
    rw [← hw4] at hL ⊢
    clear hw4
    generalize w3.heap.size + 1 = bh at hL ⊢
    generalize w3.heap.size = bm at hL ⊢
    rw [show arrU (W * H) (fun _ => 0) = arrU (W * H) (bothF W f p q 0) from arrU_congr fun x _ => by simp [bothF]] at hL
    go_wp2_with (first | (first | (clear hL n1; with_reducible intro b1 w1 hL) | (clear hL n2; with_reducible intro b2 w2 hL) | (clear hL n3; with_reducible intro b3 w3 hL) | (clear hL; with_reducible intro _ _ hL)) | (with_reducible refine wpC_alloc rfl _ rfl _ _ inferInstance hL ?_) | (with_reducible first | refine wpB_agg rfl _ _ _ rfl rfl hL ?_ | refine wpB_one rfl _ _ (.int _ _) rfl rfl rfl hL ?_ | refine wpB_one rfl _ _ (.slice _ _ _) rfl rfl rfl hL ?_ | refine wpB_one rfl _ _ (.bool _) rfl rfl rfl hL ?_ | refine wpB_one rfl _ _ (.pointer _) rfl rfl rfl hL ?_ | refine wpB_one rfl _ _ (.func _ _ _) rfl rfl rfl hL ?_) | (with_reducible first | refine wpH_max rfl _ _ _ _ rfl _ _ rfl rfl ?_ | refine wpH_min rfl _ _ _ _ rfl _ _ rfl rfl ?_) | ((with_reducible refine wpA_load rfl _ _ rfl _ rfl ?_); first | refine loadA hL ?_ | refine loadR hL ?_ | refine loadC hL ?_ | refine loadD ?_ | refine loadE hL ?_ | refine loadF ?_) | ((with_reducible refine wpA_index rfl _ _ _ rfl _ rfl _ rfl ?_); first | (refine indexA ?_; try rw [Int.toNat_natCast]) | refine indexC ?_) | ((with_reducible refine wpA_store rfl _ _ _ rfl _ rfl (.agg _) rfl ?_); refine storeR hL ?_; clear hL; intro _ hL) | ((with_reducible first | refine wpA_store rfl _ _ _ rfl _ rfl (.int _ _) rfl ?_ | refine wpA_store rfl _ _ _ rfl _ rfl (.slice _ _ _) rfl ?_ | refine wpA_store rfl _ _ _ rfl _ rfl (.bool _) rfl ?_ | refine wpA_store rfl _ _ _ rfl _ rfl (.pointer _) rfl ?_ | refine wpA_store rfl _ _ _ rfl _ rfl (.func _ _ _) rfl ?_); (first | refine storeA hL ?_ | refine storeO hL ?_); (clear hL; intro _ hL)) | ((with_reducible refine wpA_lit rfl _ _ _ rfl ?_); first | refine litA1 hL ?_ | refine litA2 hL ?_) | ((with_reducible refine wpA_append rfl _ _ _ rfl (.slice _ _ _) rfl ?_); intro vq hvq; simp [go_sem] at hvq; subst hvq; refine appendA hL ?_; clear hL; intro _ _ _ hL; try dsimp only at hL) | ((with_reducible refine wpA_make rfl _ _ _ rfl _ rfl rfl ?_); refine makeA hL ?_))
    go_loopw [45] (fun s45 wr => ∃ k : Nat, k ≤ W * H ∧ s45 = .int .i64 k ∧ Holds w wr [blk bh #[.int .i64 W, .int .i64 H, .slice (some ⟨bm, 0, none⟩) (W * H) (W * H)] 26, blk bm (arrU (W * H) (bothF W f p q k)) 5, blk b3 #[.int .i64 0, .int .i64 0, .slice none 0 0] 26, blk b2 #[.int .i64 W, .int .i64 H, .slice (some ⟨bb, ob, none⟩) (W * H) (W * H)] 26, blk b1 #[.int .i64 W, .int .i64 H, .slice (some ⟨ba, oa, none⟩) (W * H) (W * H)] 26] [])
      (fun s45 wr => W * H - (intOf s45).toNat)
    case atStart => exact ⟨0, by omega, rfl, hL⟩
    case round =>
      clear hL
      obtain ⟨k, hk, rfl, hL⟩ := hrel
      by_cases hkt : k < W * H
      · rename_i wr _ _
        have hca := Hca.out k hkt
        have hcb := Hcb.out k hkt
        have Hst := Lib.hid (bothF_set W (W * H) f p q k)
        generalize p (k / W) (k % W) = xa at *
        generalize q (k / W) (k % W) = xb at *
        go_wp2_with (first | (first | (clear hL n1; with_reducible intro b1 w1 hL) | (clear hL n2; with_reducible intro b2 w2 hL) | (clear hL n3; with_reducible intro b3 w3 hL) | (clear hL; with_reducible intro _ _ hL)) | (with_reducible refine wpC_alloc rfl _ rfl _ _ inferInstance hL ?_) | (with_reducible first | refine wpB_agg rfl _ _ _ rfl rfl hL ?_ | refine wpB_one rfl _ _ (.int _ _) rfl rfl rfl hL ?_ | refine wpB_one rfl _ _ (.slice _ _ _) rfl rfl rfl hL ?_ | refine wpB_one rfl _ _ (.bool _) rfl rfl rfl hL ?_ | refine wpB_one rfl _ _ (.pointer _) rfl rfl rfl hL ?_ | refine wpB_one rfl _ _ (.func _ _ _) rfl rfl rfl hL ?_) | (with_reducible first | refine wpH_max rfl _ _ _ _ rfl _ _ rfl rfl ?_ | refine wpH_min rfl _ _ _ _ rfl _ _ rfl rfl ?_) | ((with_reducible refine wpA_load rfl _ _ rfl _ rfl ?_); first | refine loadA hL ?_ | refine loadR hL ?_ | refine loadC hL ?_ | refine loadD ?_ | refine loadE hL ?_ | refine loadF ?_) | ((with_reducible refine wpA_index rfl _ _ _ rfl _ rfl _ rfl ?_); first | (refine indexA ?_; try rw [Int.toNat_natCast]) | refine indexC ?_) | ((with_reducible refine wpA_store rfl _ _ _ rfl _ rfl (.agg _) rfl ?_); refine storeR hL ?_; clear hL; intro _ hL) | ((with_reducible first | refine wpA_store rfl _ _ _ rfl _ rfl (.int _ _) rfl ?_ | refine wpA_store rfl _ _ _ rfl _ rfl (.slice _ _ _) rfl ?_ | refine wpA_store rfl _ _ _ rfl _ rfl (.bool _) rfl ?_ | refine wpA_store rfl _ _ _ rfl _ rfl (.pointer _) rfl ?_ | refine wpA_store rfl _ _ _ rfl _ rfl (.func _ _ _) rfl ?_); (first | refine storeA hL ?_ | refine storeO hL ?_); (clear hL; intro _ hL)) | ((with_reducible refine wpA_lit rfl _ _ _ rfl ?_); first | refine litA1 hL ?_ | refine litA2 hL ?_) | ((with_reducible refine wpA_append rfl _ _ _ rfl (.slice _ _ _) rfl ?_); intro vq hvq; simp [go_sem] at hvq; subst hvq; refine appendA hL ?_; clear hL; intro _ _ _ hL; try dsimp only at hL) | ((with_reducible refine wpA_make rfl _ _ _ rfl _ rfl rfl ?_); refine makeA hL ?_))
        replace hL := hL.drew
        have d0 : wr.drew.cell? ⟨bh, 2, none⟩ = some (.slice (some ⟨bm, 0, none⟩) (W * H) (W * H)) := (hL.cell (by (repeat (first | with_reducible exact At.here | with_reducible apply At.there)))).trans rfl
        have d1 : wr.drew.cell? ⟨b1, 2, none⟩ = some (.slice (some ⟨ba, oa, none⟩) (W * H) (W * H)) := (hL.cell (by (repeat (first | with_reducible exact At.here | with_reducible apply At.there)))).trans rfl
        have d2 : wr.drew.cell? ⟨b2, 2, none⟩ = some (.slice (some ⟨bb, ob, none⟩) (W * H) (W * H)) := (hL.cell (by (repeat (first | with_reducible exact At.here | with_reducible apply At.there)))).trans rfl
        have d3 := hL.old hca
        have d4 := hL.old hcb
        have cc := hL.cell (o := k) (b := bm) (by (repeat (first | with_reducible exact At.here | with_reducible apply At.there)))
        rw [arrU_get _ hkt] at cc
        have cf := hL.soft (o := k) (b := bm) (by (repeat (first | with_reducible exact At.here | with_reducible apply At.there)))
        have n0 := blk_ne hL (b := bm) (b' := bh) (by (repeat (first | with_reducible exact At.here | with_reducible apply At.there))) (by (repeat (first | with_reducible exact At.here | with_reducible apply At.there))) (by decide)
        have n1 := blk_ne hL (b := bm) (b' := b1) (by (repeat (first | with_reducible exact At.here | with_reducible apply At.there))) (by (repeat (first | with_reducible exact At.here | with_reducible apply At.there))) (by decide)
        have n2 := blk_ne hL (b := bm) (b' := b2) (by (repeat (first | with_reducible exact At.here | with_reducible apply At.there))) (by (repeat (first | with_reducible exact At.here | with_reducible apply At.there))) (by decide)
        have low : w.heap.size ≤ bm := hL.lowAt (b := bm) (by (repeat (first | with_reducible exact At.here | with_reducible apply At.there)))
        have n3 : ¬ bm = ba := by have h9 : ba < w.heap.size := block_lt_of_cell hca; omega
        have n4 : ¬ bm = bb := by have h9 : bb < w.heap.size := block_lt_of_cell hcb; omega
        go_region_held3 (fun w' => w'.cell? ⟨bh, 2, none⟩ = some (.slice (some ⟨bm, 0, none⟩) (W * H) (W * H)) ∧ w'.cell? ⟨b1, 2, none⟩ = some (.slice (some ⟨ba, oa, none⟩) (W * H) (W * H)) ∧ w'.cell? ⟨b2, 2, none⟩ = some (.slice (some ⟨bb, ob, none⟩) (W * H) (W * H)) ∧ w'.cell? ⟨ba, oa + k, none⟩ = some (.int .u8 (bit xa)) ∧ w'.cell? ⟨bb, ob + k, none⟩ = some (.int .u8 (bit xb))) (first | exact ⟨d0, d1, d2, d3, d4⟩ | exact ⟨cell_set_otherD n0 d0, cell_set_otherD n1 d1, cell_set_otherD n2 d2, cell_set_otherD n3 d3, cell_set_otherD n4 d4⟩) (((refine (HG.out _ _ _).mono ?_); rintro e w2 ⟨rfl, rfl⟩))
        go_wp2
        go_roundw
        case rel =>
          have h2 := hL.setCell (o := k) (v := .int .u8 (bit (f xa xb))) (.there .here)
          rw [arrU_set _ _ hkt, Hst.out] at h2
          exact ⟨k + 1, by omega, by go_num, h2⟩
        case measure => simp [intOf]; omega
      · have e : k = W * H := by omega
        subst e
        go_wp2_with (first | (first | (clear hL n1; with_reducible intro b1 w1 hL) | (clear hL n2; with_reducible intro b2 w2 hL) | (clear hL n3; with_reducible intro b3 w3 hL) | (clear hL; with_reducible intro _ _ hL)) | (with_reducible refine wpC_alloc rfl _ rfl _ _ inferInstance hL ?_) | (with_reducible first | refine wpB_agg rfl _ _ _ rfl rfl hL ?_ | refine wpB_one rfl _ _ (.int _ _) rfl rfl rfl hL ?_ | refine wpB_one rfl _ _ (.slice _ _ _) rfl rfl rfl hL ?_ | refine wpB_one rfl _ _ (.bool _) rfl rfl rfl hL ?_ | refine wpB_one rfl _ _ (.pointer _) rfl rfl rfl hL ?_ | refine wpB_one rfl _ _ (.func _ _ _) rfl rfl rfl hL ?_) | (with_reducible first | refine wpH_max rfl _ _ _ _ rfl _ _ rfl rfl ?_ | refine wpH_min rfl _ _ _ _ rfl _ _ rfl rfl ?_) | ((with_reducible refine wpA_load rfl _ _ rfl _ rfl ?_); first | refine loadA hL ?_ | refine loadR hL ?_ | refine loadC hL ?_ | refine loadD ?_ | refine loadE hL ?_ | refine loadF ?_) | ((with_reducible refine wpA_index rfl _ _ _ rfl _ rfl _ rfl ?_); first | (refine indexA ?_; try rw [Int.toNat_natCast]) | refine indexC ?_) | ((with_reducible refine wpA_store rfl _ _ _ rfl _ rfl (.agg _) rfl ?_); refine storeR hL ?_; clear hL; intro _ hL) | ((with_reducible first | refine wpA_store rfl _ _ _ rfl _ rfl (.int _ _) rfl ?_ | refine wpA_store rfl _ _ _ rfl _ rfl (.slice _ _ _) rfl ?_ | refine wpA_store rfl _ _ _ rfl _ rfl (.bool _) rfl ?_ | refine wpA_store rfl _ _ _ rfl _ rfl (.pointer _) rfl ?_ | refine wpA_store rfl _ _ _ rfl _ rfl (.func _ _ _) rfl ?_); (first | refine storeA hL ?_ | refine storeO hL ?_); (clear hL; intro _ hL)) | ((with_reducible refine wpA_lit rfl _ _ _ rfl ?_); first | refine litA1 hL ?_ | refine litA2 hL ?_) | ((with_reducible refine wpA_append rfl _ _ _ rfl (.slice _ _ _) rfl ?_); intro vq hvq; simp [go_sem] at hvq; subst hvq; refine appendA hL ?_; clear hL; intro _ _ _ hL; try dsimp only at hL) | ((with_reducible refine wpA_make rfl _ _ _ rfl _ rfl rfl ?_); refine makeA hL ?_))
        refine bodyPost_ret (results_row2 inferInstance rfl _ hL b3 rfl _ _ (.there (.there .here)) rfl) rfl ⟨some ⟨bm, 0, none⟩, rfl, hL.below, ?_⟩
        refine ((hL.settle (.there .here) (φ := fun w => w.heap[bm]? = some (.cells (arrU (W * H) (bothF W f p q (W * H))) 5 (0, 0))) fun _ h => h).map fun w' h1 => ?_).fresh
        refine ⟨_, rfl, ?_⟩
        have := bytes_of h1 (by unfold maxLen; omega)
        rw [show (List.range (W * H)).map (bothF W f p q (W * H)) = (pixMask W H (fun j i => f (p j i) (q j i))).B from ?_] at this
        · exact this
        · refine List.map_congr_left fun x hx => ?_
          have hx : x < W * H := by simpa using hx
          simp [bothF, hx, bit]
  · rename_i hH
    clear hH
    replace hL := (hL.alloc2 #[.int .i64 W, .int .i64 H, .slice (some ⟨w3.heap.size + 1, 0, none⟩) (W * H) (W * H)] (arrU (W * H) fun _ => 0) 26 5).swapM
    obtain ⟨w4, hw4⟩ : ∃ w4, w4 = ((w3.alloc (.cells #[.int .i64 W, .int .i64 H, .slice (some ⟨w3.heap.size + 1, 0, none⟩) (W * H) (W * H)] 26)).alloc (.cells (arrU (W * H) fun _ => 0) 5)).drew := ⟨_, rfl⟩
    rw [← hw4] at hL ⊢
    clear hw4
    generalize w3.heap.size + 1 = bm at hL ⊢
    generalize w3.heap.size = bh at hL ⊢
    rw [show arrU (W * H) (fun _ => 0) = arrU (W * H) (bothF W f p q 0) from arrU_congr fun x _ => by simp [bothF]] at hL
    go_wp2_with (first | (first | (clear hL n1; with_reducible intro b1 w1 hL) | (clear hL n2; with_reducible intro b2 w2 hL) | (clear hL n3; with_reducible intro b3 w3 hL) | (clear hL; with_reducible intro _ _ hL)) | (with_reducible refine wpC_alloc rfl _ rfl _ _ inferInstance hL ?_) | (with_reducible first | refine wpB_agg rfl _ _ _ rfl rfl hL ?_ | refine wpB_one rfl _ _ (.int _ _) rfl rfl rfl hL ?_ | refine wpB_one rfl _ _ (.slice _ _ _) rfl rfl rfl hL ?_ | refine wpB_one rfl _ _ (.bool _) rfl rfl rfl hL ?_ | refine wpB_one rfl _ _ (.pointer _) rfl rfl rfl hL ?_ | refine wpB_one rfl _ _ (.func _ _ _) rfl rfl rfl hL ?_) | (with_reducible first | refine wpH_max rfl _ _ _ _ rfl _ _ rfl rfl ?_ | refine wpH_min rfl _ _ _ _ rfl _ _ rfl rfl ?_) | ((with_reducible refine wpA_load rfl _ _ rfl _ rfl ?_); first | refine loadA hL ?_ | refine loadR hL ?_ | refine loadC hL ?_ | refine loadD ?_ | refine loadE hL ?_ | refine loadF ?_) | ((with_reducible refine wpA_index rfl _ _ _ rfl _ rfl _ rfl ?_); first | (refine indexA ?_; try rw [Int.toNat_natCast]) | refine indexC ?_) | ((with_reducible refine wpA_store rfl _ _ _ rfl _ rfl (.agg _) rfl ?_); refine storeR hL ?_; clear hL; intro _ hL) | ((with_reducible first | refine wpA_store rfl _ _ _ rfl _ rfl (.int _ _) rfl ?_ | refine wpA_store rfl _ _ _ rfl _ rfl (.slice _ _ _) rfl ?_ | refine wpA_store rfl _ _ _ rfl _ rfl (.bool _) rfl ?_ | refine wpA_store rfl _ _ _ rfl _ rfl (.pointer _) rfl ?_ | refine wpA_store rfl _ _ _ rfl _ rfl (.func _ _ _) rfl ?_); (first | refine storeA hL ?_ | refine storeO hL ?_); (clear hL; intro _ hL)) | ((with_reducible refine wpA_lit rfl _ _ _ rfl ?_); first | refine litA1 hL ?_ | refine litA2 hL ?_) | ((with_reducible refine wpA_append rfl _ _ _ rfl (.slice _ _ _) rfl ?_); intro vq hvq; simp [go_sem] at hvq; subst hvq; refine appendA hL ?_; clear hL; intro _ _ _ hL; try dsimp only at hL) | ((with_reducible refine wpA_make rfl _ _ _ rfl _ rfl rfl ?_); refine makeA hL ?_))
    go_loopw [45] (fun s45 wr => ∃ k : Nat, k ≤ W * H ∧ s45 = .int .i64 k ∧ Holds w wr [blk bh #[.int .i64 W, .int .i64 H, .slice (some ⟨bm, 0, none⟩) (W * H) (W * H)] 26, blk bm (arrU (W * H) (bothF W f p q k)) 5, blk b3 #[.int .i64 0, .int .i64 0, .slice none 0 0] 26, blk b2 #[.int .i64 W, .int .i64 H, .slice (some ⟨bb, ob, none⟩) (W * H) (W * H)] 26, blk b1 #[.int .i64 W, .int .i64 H, .slice (some ⟨ba, oa, none⟩) (W * H) (W * H)] 26] [])
      (fun s45 wr => W * H - (intOf s45).toNat)
    case atStart => exact ⟨0, by omega, rfl, hL⟩
    case round =>
      clear hL
      obtain ⟨k, hk, rfl, hL⟩ := hrel
      by_cases hkt : k < W * H
      · rename_i wr _ _
        have hca := Hca.out k hkt
        have hcb := Hcb.out k hkt
        have Hst := Lib.hid (bothF_set W (W * H) f p q k)
        generalize p (k / W) (k % W) = xa at *
        generalize q (k / W) (k % W) = xb at *
        go_wp2_with (first | (first | (clear hL n1; with_reducible intro b1 w1 hL) | (clear hL n2; with_reducible intro b2 w2 hL) | (clear hL n3; with_reducible intro b3 w3 hL) | (clear hL; with_reducible intro _ _ hL)) | (with_reducible refine wpC_alloc rfl _ rfl _ _ inferInstance hL ?_) | (with_reducible first | refine wpB_agg rfl _ _ _ rfl rfl hL ?_ | refine wpB_one rfl _ _ (.int _ _) rfl rfl rfl hL ?_ | refine wpB_one rfl _ _ (.slice _ _ _) rfl rfl rfl hL ?_ | refine wpB_one rfl _ _ (.bool _) rfl rfl rfl hL ?_ | refine wpB_one rfl _ _ (.pointer _) rfl rfl rfl hL ?_ | refine wpB_one rfl _ _ (.func _ _ _) rfl rfl rfl hL ?_) | (with_reducible first | refine wpH_max rfl _ _ _ _ rfl _ _ rfl rfl ?_ | refine wpH_min rfl _ _ _ _ rfl _ _ rfl rfl ?_) | ((with_reducible refine wpA_load rfl _ _ rfl _ rfl ?_); first | refine loadA hL ?_ | refine loadR hL ?_ | refine loadC hL ?_ | refine loadD ?_ | refine loadE hL ?_ | refine loadF ?_) | ((with_reducible refine wpA_index rfl _ _ _ rfl _ rfl _ rfl ?_); first | (refine indexA ?_; try rw [Int.toNat_natCast]) | refine indexC ?_) | ((with_reducible refine wpA_store rfl _ _ _ rfl _ rfl (.agg _) rfl ?_); refine storeR hL ?_; clear hL; intro _ hL) | ((with_reducible first | refine wpA_store rfl _ _ _ rfl _ rfl (.int _ _) rfl ?_ | refine wpA_store rfl _ _ _ rfl _ rfl (.slice _ _ _) rfl ?_ | refine wpA_store rfl _ _ _ rfl _ rfl (.bool _) rfl ?_ | refine wpA_store rfl _ _ _ rfl _ rfl (.pointer _) rfl ?_ | refine wpA_store rfl _ _ _ rfl _ rfl (.func _ _ _) rfl ?_); (first | refine storeA hL ?_ | refine storeO hL ?_); (clear hL; intro _ hL)) | ((with_reducible refine wpA_lit rfl _ _ _ rfl ?_); first | refine litA1 hL ?_ | refine litA2 hL ?_) | ((with_reducible refine wpA_append rfl _ _ _ rfl (.slice _ _ _) rfl ?_); intro vq hvq; simp [go_sem] at hvq; subst hvq; refine appendA hL ?_; clear hL; intro _ _ _ hL; try dsimp only at hL) | ((with_reducible refine wpA_make rfl _ _ _ rfl _ rfl rfl ?_); refine makeA hL ?_))
        replace hL := hL.drew
        have d0 : wr.drew.cell? ⟨bh, 2, none⟩ = some (.slice (some ⟨bm, 0, none⟩) (W * H) (W * H)) := (hL.cell (by (repeat (first | with_reducible exact At.here | with_reducible apply At.there)))).trans rfl
        have d1 : wr.drew.cell? ⟨b1, 2, none⟩ = some (.slice (some ⟨ba, oa, none⟩) (W * H) (W * H)) := (hL.cell (by (repeat (first | with_reducible exact At.here | with_reducible apply At.there)))).trans rfl
        have d2 : wr.drew.cell? ⟨b2, 2, none⟩ = some (.slice (some ⟨bb, ob, none⟩) (W * H) (W * H)) := (hL.cell (by (repeat (first | with_reducible exact At.here | with_reducible apply At.there)))).trans rfl
        have d3 := hL.old hca
        have d4 := hL.old hcb
        have cc := hL.cell (o := k) (b := bm) (by (repeat (first | with_reducible exact At.here | with_reducible apply At.there)))
        rw [arrU_get _ hkt] at cc
        have cf := hL.soft (o := k) (b := bm) (by (repeat (first | with_reducible exact At.here | with_reducible apply At.there)))
        have n0 := blk_ne hL (b := bm) (b' := bh) (by (repeat (first | with_reducible exact At.here | with_reducible apply At.there))) (by (repeat (first | with_reducible exact At.here | with_reducible apply At.there))) (by decide)
        have n1 := blk_ne hL (b := bm) (b' := b1) (by (repeat (first | with_reducible exact At.here | with_reducible apply At.there))) (by (repeat (first | with_reducible exact At.here | with_reducible apply At.there))) (by decide)
        have n2 := blk_ne hL (b := bm) (b' := b2) (by (repeat (first | with_reducible exact At.here | with_reducible apply At.there))) (by (repeat (first | with_reducible exact At.here | with_reducible apply At.there))) (by decide)
        have low : w.heap.size ≤ bm := hL.lowAt (b := bm) (by (repeat (first | with_reducible exact At.here | with_reducible apply At.there)))
        have n3 : ¬ bm = ba := by have h9 : ba < w.heap.size := block_lt_of_cell hca; omega
        have n4 : ¬ bm = bb := by have h9 : bb < w.heap.size := block_lt_of_cell hcb; omega
        go_region_held3 (fun w' => w'.cell? ⟨bh, 2, none⟩ = some (.slice (some ⟨bm, 0, none⟩) (W * H) (W * H)) ∧ w'.cell? ⟨b1, 2, none⟩ = some (.slice (some ⟨ba, oa, none⟩) (W * H) (W * H)) ∧ w'.cell? ⟨b2, 2, none⟩ = some (.slice (some ⟨bb, ob, none⟩) (W * H) (W * H)) ∧ w'.cell? ⟨ba, oa + k, none⟩ = some (.int .u8 (bit xa)) ∧ w'.cell? ⟨bb, ob + k, none⟩ = some (.int .u8 (bit xb))) (first | exact ⟨d0, d1, d2, d3, d4⟩ | exact ⟨cell_set_otherD n0 d0, cell_set_otherD n1 d1, cell_set_otherD n2 d2, cell_set_otherD n3 d3, cell_set_otherD n4 d4⟩) (((refine (HG.out _ _ _).mono ?_); rintro e w2 ⟨rfl, rfl⟩))
        go_wp2
        go_roundw
        case rel =>
          have h2 := hL.setCell (o := k) (v := .int .u8 (bit (f xa xb))) (.there .here)
          rw [arrU_set _ _ hkt, Hst.out] at h2
          exact ⟨k + 1, by omega, by go_num, h2⟩
        case measure => simp [intOf]; omega
      · have e : k = W * H := by omega
        subst e
        go_wp2_with (first | (first | (clear hL n1; with_reducible intro b1 w1 hL) | (clear hL n2; with_reducible intro b2 w2 hL) | (clear hL n3; with_reducible intro b3 w3 hL) | (clear hL; with_reducible intro _ _ hL)) | (with_reducible refine wpC_alloc rfl _ rfl _ _ inferInstance hL ?_) | (with_reducible first | refine wpB_agg rfl _ _ _ rfl rfl hL ?_ | refine wpB_one rfl _ _ (.int _ _) rfl rfl rfl hL ?_ | refine wpB_one rfl _ _ (.slice _ _ _) rfl rfl rfl hL ?_ | refine wpB_one rfl _ _ (.bool _) rfl rfl rfl hL ?_ | refine wpB_one rfl _ _ (.pointer _) rfl rfl rfl hL ?_ | refine wpB_one rfl _ _ (.func _ _ _) rfl rfl rfl hL ?_) | (with_reducible first | refine wpH_max rfl _ _ _ _ rfl _ _ rfl rfl ?_ | refine wpH_min rfl _ _ _ _ rfl _ _ rfl rfl ?_) | ((with_reducible refine wpA_load rfl _ _ rfl _ rfl ?_); first | refine loadA hL ?_ | refine loadR hL ?_ | refine loadC hL ?_ | refine loadD ?_ | refine loadE hL ?_ | refine loadF ?_) | ((with_reducible refine wpA_index rfl _ _ _ rfl _ rfl _ rfl ?_); first | (refine indexA ?_; try rw [Int.toNat_natCast]) | refine indexC ?_) | ((with_reducible refine wpA_store rfl _ _ _ rfl _ rfl (.agg _) rfl ?_); refine storeR hL ?_; clear hL; intro _ hL) | ((with_reducible first | refine wpA_store rfl _ _ _ rfl _ rfl (.int _ _) rfl ?_ | refine wpA_store rfl _ _ _ rfl _ rfl (.slice _ _ _) rfl ?_ | refine wpA_store rfl _ _ _ rfl _ rfl (.bool _) rfl ?_ | refine wpA_store rfl _ _ _ rfl _ rfl (.pointer _) rfl ?_ | refine wpA_store rfl _ _ _ rfl _ rfl (.func _ _ _) rfl ?_); (first | refine storeA hL ?_ | refine storeO hL ?_); (clear hL; intro _ hL)) | ((with_reducible refine wpA_lit rfl _ _ _ rfl ?_); first | refine litA1 hL ?_ | refine litA2 hL ?_) | ((with_reducible refine wpA_append rfl _ _ _ rfl (.slice _ _ _) rfl ?_); intro vq hvq; simp [go_sem] at hvq; subst hvq; refine appendA hL ?_; clear hL; intro _ _ _ hL; try dsimp only at hL) | ((with_reducible refine wpA_make rfl _ _ _ rfl _ rfl rfl ?_); refine makeA hL ?_))
        refine bodyPost_ret (results_row2 inferInstance rfl _ hL b3 rfl _ _ (.there (.there .here)) rfl) rfl ⟨some ⟨bm, 0, none⟩, rfl, hL.below, ?_⟩
        refine ((hL.settle (.there .here) (φ := fun w => w.heap[bm]? = some (.cells (arrU (W * H) (bothF W f p q (W * H))) 5 (0, 0))) fun _ h => h).map fun w' h1 => ?_).fresh
        refine ⟨_, rfl, ?_⟩
        have := bytes_of h1 (by unfold maxLen; omega)
        rw [show (List.range (W * H)).map (bothF W f p q (W * H)) = (pixMask W H (fun j i => f (p j i) (q j i))).B from ?_] at this
        · exact this
        · refine List.map_congr_left fun x hx => ?_
          have hx : x < W * H := by simpa using hx
          simp [bothF, hx, bit]

theorem onBitsJoin : OnBits 54 (fun x y => x || y) := ⟨fun x y w => by
  cases x <;> cases y
  all_goals
    simp only [bit, if_true, Bool.false_eq_true, if_false]
    go_enter Try.func54, Try.ntmps54
    go_wp2
    go_ret
    exact ⟨rfl, rfl⟩, fun _ _ _ => by kernel_rfl⟩
theorem onBitsLess : OnBits 57 (fun x y => x && !y) := ⟨fun x y w => by
  cases x <;> cases y
  all_goals
    simp only [bit, if_true, Bool.false_eq_true, if_false]
    go_enter Try.func57, Try.ntmps57
    go_wp2
    go_ret
    exact ⟨rfl, rfl⟩, fun _ _ _ => by kernel_rfl⟩
theorem onBitsOther : OnBits 50 (fun x y => x != y) := ⟨fun x y w => by
  cases x <;> cases y
  all_goals
    simp only [bit, if_true, Bool.false_eq_true, if_false]
    go_enter Try.func50, Try.ntmps50
    go_wp2
    go_ret
    exact ⟨rfl, rfl⟩, fun _ _ _ => by kernel_rfl⟩

theorem pixCoverJoin_calls {W H : Nat} (hs : Sides W H) (w : World) (ma mb : Option Addr) (p q : Nat → Nat → Bool) (ha : MaskAt w (.agg #[.int .i64 W, .int .i64 H, .slice ma (W * H) (W * H)]) (pixMask W H p)) (hb : MaskAt w (.agg #[.int .i64 W, .int .i64 H, .slice mb (W * H) (W * H)]) (pixMask W H q)) :
    Calls Try.prog 31 #[.agg #[.int .i64 W, .int .i64 H, .slice ma (W * H) (W * H)], .agg #[.int .i64 W, .int .i64 H, .slice mb (W * H) (W * H)]] w (MaskOut W H (fun j i => p j i || q j i) w) := by
  have Ha := Lib.hid ha
  have Hb := Lib.hid hb
  clear ha hb
  have hL := Holds.start w
  have n1 : True := trivial; have n2 : True := trivial; have n3 : True := trivial; have n4 : True := trivial
  go_enter Try.func31, Try.ntmps31
  go_wp2_with (first | (go_at_call 49; (with_reducible refine (coverBoth_calls hs _ _ _ p q (Ha.out.hold hL) (Hb.out.hold hL) _ _ onBitsJoin).mono ?_); rintro e _ ⟨sa, rfl, hb, hf⟩; replace hL := hL.callF hb hf; clear hb hf) | (first | (clear hL n1; with_reducible intro b1 w1 hL) | (clear hL n2; with_reducible intro b2 w2 hL) | (clear hL n3; with_reducible intro b3 w3 hL) | (clear hL n4; with_reducible intro b4 w4 hL) | (clear hL; with_reducible intro _ _ hL)) | (with_reducible refine wpC_alloc rfl _ rfl _ _ inferInstance hL ?_) | (with_reducible first | refine wpB_agg rfl _ _ _ rfl rfl hL ?_ | refine wpB_one rfl _ _ (.int _ _) rfl rfl rfl hL ?_ | refine wpB_one rfl _ _ (.slice _ _ _) rfl rfl rfl hL ?_ | refine wpB_one rfl _ _ (.bool _) rfl rfl rfl hL ?_ | refine wpB_one rfl _ _ (.pointer _) rfl rfl rfl hL ?_ | refine wpB_one rfl _ _ (.func _ _ _) rfl rfl rfl hL ?_) | (with_reducible first | refine wpH_max rfl _ _ _ _ rfl _ _ rfl rfl ?_ | refine wpH_min rfl _ _ _ _ rfl _ _ rfl rfl ?_) | ((with_reducible refine wpA_load rfl _ _ rfl _ rfl ?_); first | refine loadA hL ?_ | refine loadR hL ?_ | refine loadC hL ?_ | refine loadD ?_ | refine loadE hL ?_ | refine loadF ?_) | ((with_reducible refine wpA_index rfl _ _ _ rfl _ rfl _ rfl ?_); first | (refine indexA ?_; try rw [Int.toNat_natCast]) | refine indexC ?_) | ((with_reducible refine wpA_store rfl _ _ _ rfl _ rfl (.agg _) rfl ?_); refine storeR hL ?_; clear hL; intro _ hL) | ((with_reducible first | refine wpA_store rfl _ _ _ rfl _ rfl (.int _ _) rfl ?_ | refine wpA_store rfl _ _ _ rfl _ rfl (.slice _ _ _) rfl ?_ | refine wpA_store rfl _ _ _ rfl _ rfl (.bool _) rfl ?_ | refine wpA_store rfl _ _ _ rfl _ rfl (.pointer _) rfl ?_ | refine wpA_store rfl _ _ _ rfl _ rfl (.func _ _ _) rfl ?_); (first | refine storeA hL ?_ | refine storeO hL ?_); (clear hL; intro _ hL)) | ((with_reducible refine wpA_lit rfl _ _ _ rfl ?_); first | refine litA1 hL ?_ | refine litA2 hL ?_) | ((with_reducible refine wpA_append rfl _ _ _ rfl (.slice _ _ _) rfl ?_); intro vq hvq; simp [go_sem] at hvq; subst hvq; refine appendA hL ?_; clear hL; intro _ _ _ hL; try dsimp only at hL) | ((with_reducible refine wpA_make rfl _ _ _ rfl _ rfl rfl ?_); refine makeA hL ?_))
  exact bodyPost_ret (results_row2 inferInstance rfl _ hL b3 rfl _ _ .here rfl) rfl ⟨sa, rfl, hL.below, hL.fresh⟩

theorem pixCoverLess_calls {W H : Nat} (hs : Sides W H) (w : World) (ma mb : Option Addr) (p q : Nat → Nat → Bool) (ha : MaskAt w (.agg #[.int .i64 W, .int .i64 H, .slice ma (W * H) (W * H)]) (pixMask W H p)) (hb : MaskAt w (.agg #[.int .i64 W, .int .i64 H, .slice mb (W * H) (W * H)]) (pixMask W H q)) :
    Calls Try.prog 35 #[.agg #[.int .i64 W, .int .i64 H, .slice ma (W * H) (W * H)], .agg #[.int .i64 W, .int .i64 H, .slice mb (W * H) (W * H)]] w (MaskOut W H (fun j i => p j i && !q j i) w) := by
  have Ha := Lib.hid ha
  have Hb := Lib.hid hb
  clear ha hb
  have hL := Holds.start w
  have n1 : True := trivial; have n2 : True := trivial; have n3 : True := trivial; have n4 : True := trivial
  go_enter Try.func35, Try.ntmps35
  go_wp2_with (first | (go_at_call 49; (with_reducible refine (coverBoth_calls hs _ _ _ p q (Ha.out.hold hL) (Hb.out.hold hL) _ _ onBitsLess).mono ?_); rintro e _ ⟨sa, rfl, hb, hf⟩; replace hL := hL.callF hb hf; clear hb hf) | (first | (clear hL n1; with_reducible intro b1 w1 hL) | (clear hL n2; with_reducible intro b2 w2 hL) | (clear hL n3; with_reducible intro b3 w3 hL) | (clear hL n4; with_reducible intro b4 w4 hL) | (clear hL; with_reducible intro _ _ hL)) | (with_reducible refine wpC_alloc rfl _ rfl _ _ inferInstance hL ?_) | (with_reducible first | refine wpB_agg rfl _ _ _ rfl rfl hL ?_ | refine wpB_one rfl _ _ (.int _ _) rfl rfl rfl hL ?_ | refine wpB_one rfl _ _ (.slice _ _ _) rfl rfl rfl hL ?_ | refine wpB_one rfl _ _ (.bool _) rfl rfl rfl hL ?_ | refine wpB_one rfl _ _ (.pointer _) rfl rfl rfl hL ?_ | refine wpB_one rfl _ _ (.func _ _ _) rfl rfl rfl hL ?_) | (with_reducible first | refine wpH_max rfl _ _ _ _ rfl _ _ rfl rfl ?_ | refine wpH_min rfl _ _ _ _ rfl _ _ rfl rfl ?_) | ((with_reducible refine wpA_load rfl _ _ rfl _ rfl ?_); first | refine loadA hL ?_ | refine loadR hL ?_ | refine loadC hL ?_ | refine loadD ?_ | refine loadE hL ?_ | refine loadF ?_) | ((with_reducible refine wpA_index rfl _ _ _ rfl _ rfl _ rfl ?_); first | (refine indexA ?_; try rw [Int.toNat_natCast]) | refine indexC ?_) | ((with_reducible refine wpA_store rfl _ _ _ rfl _ rfl (.agg _) rfl ?_); refine storeR hL ?_; clear hL; intro _ hL) | ((with_reducible first | refine wpA_store rfl _ _ _ rfl _ rfl (.int _ _) rfl ?_ | refine wpA_store rfl _ _ _ rfl _ rfl (.slice _ _ _) rfl ?_ | refine wpA_store rfl _ _ _ rfl _ rfl (.bool _) rfl ?_ | refine wpA_store rfl _ _ _ rfl _ rfl (.pointer _) rfl ?_ | refine wpA_store rfl _ _ _ rfl _ rfl (.func _ _ _) rfl ?_); (first | refine storeA hL ?_ | refine storeO hL ?_); (clear hL; intro _ hL)) | ((with_reducible refine wpA_lit rfl _ _ _ rfl ?_); first | refine litA1 hL ?_ | refine litA2 hL ?_) | ((with_reducible refine wpA_append rfl _ _ _ rfl (.slice _ _ _) rfl ?_); intro vq hvq; simp [go_sem] at hvq; subst hvq; refine appendA hL ?_; clear hL; intro _ _ _ hL; try dsimp only at hL) | ((with_reducible refine wpA_make rfl _ _ _ rfl _ rfl rfl ?_); refine makeA hL ?_))
  exact bodyPost_ret (results_row2 inferInstance rfl _ hL b3 rfl _ _ .here rfl) rfl ⟨sa, rfl, hL.below, hL.fresh⟩

theorem pixCoverOther_calls {W H : Nat} (hs : Sides W H) (w : World) (ma mb : Option Addr) (p q : Nat → Nat → Bool) (ha : MaskAt w (.agg #[.int .i64 W, .int .i64 H, .slice ma (W * H) (W * H)]) (pixMask W H p)) (hb : MaskAt w (.agg #[.int .i64 W, .int .i64 H, .slice mb (W * H) (W * H)]) (pixMask W H q)) :
    Calls Try.prog 26 #[.agg #[.int .i64 W, .int .i64 H, .slice ma (W * H) (W * H)], .agg #[.int .i64 W, .int .i64 H, .slice mb (W * H) (W * H)]] w (MaskOut W H (fun j i => p j i != q j i) w) := by
  have Ha := Lib.hid ha
  have Hb := Lib.hid hb
  clear ha hb
  have hL := Holds.start w
  have n1 : True := trivial; have n2 : True := trivial; have n3 : True := trivial; have n4 : True := trivial
  go_enter Try.func26, Try.ntmps26
  go_wp2_with (first | (go_at_call 49; (with_reducible refine (coverBoth_calls hs _ _ _ p q (Ha.out.hold hL) (Hb.out.hold hL) _ _ onBitsOther).mono ?_); rintro e _ ⟨sa, rfl, hb, hf⟩; replace hL := hL.callF hb hf; clear hb hf) | (first | (clear hL n1; with_reducible intro b1 w1 hL) | (clear hL n2; with_reducible intro b2 w2 hL) | (clear hL n3; with_reducible intro b3 w3 hL) | (clear hL n4; with_reducible intro b4 w4 hL) | (clear hL; with_reducible intro _ _ hL)) | (with_reducible refine wpC_alloc rfl _ rfl _ _ inferInstance hL ?_) | (with_reducible first | refine wpB_agg rfl _ _ _ rfl rfl hL ?_ | refine wpB_one rfl _ _ (.int _ _) rfl rfl rfl hL ?_ | refine wpB_one rfl _ _ (.slice _ _ _) rfl rfl rfl hL ?_ | refine wpB_one rfl _ _ (.bool _) rfl rfl rfl hL ?_ | refine wpB_one rfl _ _ (.pointer _) rfl rfl rfl hL ?_ | refine wpB_one rfl _ _ (.func _ _ _) rfl rfl rfl hL ?_) | (with_reducible first | refine wpH_max rfl _ _ _ _ rfl _ _ rfl rfl ?_ | refine wpH_min rfl _ _ _ _ rfl _ _ rfl rfl ?_) | ((with_reducible refine wpA_load rfl _ _ rfl _ rfl ?_); first | refine loadA hL ?_ | refine loadR hL ?_ | refine loadC hL ?_ | refine loadD ?_ | refine loadE hL ?_ | refine loadF ?_) | ((with_reducible refine wpA_index rfl _ _ _ rfl _ rfl _ rfl ?_); first | (refine indexA ?_; try rw [Int.toNat_natCast]) | refine indexC ?_) | ((with_reducible refine wpA_store rfl _ _ _ rfl _ rfl (.agg _) rfl ?_); refine storeR hL ?_; clear hL; intro _ hL) | ((with_reducible first | refine wpA_store rfl _ _ _ rfl _ rfl (.int _ _) rfl ?_ | refine wpA_store rfl _ _ _ rfl _ rfl (.slice _ _ _) rfl ?_ | refine wpA_store rfl _ _ _ rfl _ rfl (.bool _) rfl ?_ | refine wpA_store rfl _ _ _ rfl _ rfl (.pointer _) rfl ?_ | refine wpA_store rfl _ _ _ rfl _ rfl (.func _ _ _) rfl ?_); (first | refine storeA hL ?_ | refine storeO hL ?_); (clear hL; intro _ hL)) | ((with_reducible refine wpA_lit rfl _ _ _ rfl ?_); first | refine litA1 hL ?_ | refine litA2 hL ?_) | ((with_reducible refine wpA_append rfl _ _ _ rfl (.slice _ _ _) rfl ?_); intro vq hvq; simp [go_sem] at hvq; subst hvq; refine appendA hL ?_; clear hL; intro _ _ _ hL; try dsimp only at hL) | ((with_reducible refine wpA_make rfl _ _ _ rfl _ rfl rfl ?_); refine makeA hL ?_))
  exact bodyPost_ret (results_row2 inferInstance rfl _ hL b3 rfl _ _ .here rfl) rfl ⟨sa, rfl, hL.below, hL.fresh⟩
end Go.Proofs.Ytneddfiohekhiaa
