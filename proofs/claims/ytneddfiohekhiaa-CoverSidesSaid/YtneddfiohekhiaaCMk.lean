/- Package cover: Mask, of a path and sides that may be. -/
import Derived.Test.YtneddfiohekhiaaMk2
import Derived.Test.YtneddfiohekhiaaWIn
import Derived.Laws.CopyOwn
-- uses arrU
-- lit6
namespace Go.Proofs.Ytneddfiohekhiaa
open Go.RowKit

theorem makeU {w0 w : World} {M : List Res} {Φ : List (World → Prop)} {K2 : Value → World → Prop} {L : Int} (n : Nat) (hn : n ≤ 10000) (hLn : L = (n : Int)) (hL : Holds w0 w M Φ)
    (h : ∀ b w', Holds w0 w' (blk b (arrU n fun _ => 0) 5 :: M) Φ → K2 (.slice (some ⟨b, 0, none⟩) n n) w') : MakeAt Try.prog 24 L w K2 :=
  ⟨_, _, run_makeU hn hLn w, h _ _ (hL.alloc _ _)⟩
def maskF (W : Nat) (P : Nat → Nat → Bool) (k : Nat) : Int := bit (P (k / W) (k % W))
/-- rows below j whole -/
def rowsF (p : Nat → Nat → Bool) (j : Nat) (r c : Nat) : Bool := decide (r < j) && p r c
def partF (q : Nat → Bool) (k : Nat) (i : Nat) : Int := if i < k then bit (q i) else 0
theorem partF_set (q : Nat → Bool) (n k : Nat) (h : q k = true) : arrU n (fun i => if i = k then 1 else partF q k i) = arrU n (partF q (k + 1)) := by
  refine arrU_congr fun i _ => ?_
  unfold partF
  by_cases hi : i = k
  · subst hi; simp [h, bit]
  · have : i < k + 1 ↔ i < k := by omega
    simp [hi, this]
theorem partF_skip (q : Nat → Bool) (n k : Nat) (h : q k = false) : arrU n (partF q k) = arrU n (partF q (k + 1)) := by
  refine arrU_congr fun i _ => ?_
  unfold partF
  by_cases hi : i = k
  · subst hi; simp [h, bit]
  · have : i < k + 1 ↔ i < k := by omega
    simp [this]
theorem arrU_at {n : Nat} {f : Nat → Int} {i : Nat} (h : i < n) : (arrU n f).toList[i]? = some (.int .u8 (f i)) := by
  rw [Array.getElem?_toList, arrU_get _ h]
/-- a row is copied into a mask -/
theorem copy_arrU {n W o : Nat} (f g : Nat → Int) (h : o + W ≤ n) : ((arrU n f).toList.take o ++ ((arrU W g).toList ++ (arrU n f).toList.drop (o + (arrU W g).toList.length))).toArray = arrU n (fun x => if o ≤ x ∧ x < o + W then g (x - o) else f x) := by
  have l1 : (arrU n f).toList.length = n := by rw [Array.length_toList, arrU_size]
  have l2 : (arrU W g).toList.length = W := by rw [Array.length_toList, arrU_size]
  apply Array.ext_getElem?
  intro i
  rw [List.getElem?_toArray]
  by_cases hi : i < n
  · rw [arrU_get _ hi]
    by_cases h1 : i < o
    · rw [List.getElem?_append_left (by rw [List.length_take, l1]; omega), List.getElem?_take, if_pos h1, arrU_at hi, if_neg (by omega)]
    · rw [List.getElem?_append_right (by rw [List.length_take, l1]; omega), List.length_take, l1, Nat.min_eq_left (by omega)]
      by_cases h2 : i < o + W
      · rw [List.getElem?_append_left (by rw [l2]; omega), arrU_at (by omega), if_pos ⟨by omega, h2⟩]
      · rw [List.getElem?_append_right (by rw [l2]; omega), l2, List.getElem?_drop, show o + W + (i - o - W) = i by omega, arrU_at hi, if_neg (by omega)]
  · rw [List.getElem?_eq_none (by simp only [List.length_append, List.length_take, List.length_drop, l1, l2]; omega), Array.getElem?_eq_none (by rw [arrU_size]; omega)]
theorem maskF_row {W n j : Nat} (hW : 0 < W) (p : Nat → Nat → Bool) (h : j * W + W ≤ n) : arrU n (fun x => if j * W ≤ x ∧ x < j * W + W then partF (p j) W (x - j * W) else maskF W (rowsF p j) x) = arrU n (maskF W (rowsF p (j + 1))) := by
  refine arrU_congr fun x hx => ?_
  unfold maskF rowsF partF
  by_cases h1 : j * W ≤ x ∧ x < j * W + W
  · obtain ⟨h2, h3⟩ := (divmod_eq (W := W) (i := x - j * W) (j := j) (x := x) (by omega)).1 (by omega)
    rw [if_pos h1, if_pos (by omega), h2, h3]
    simp
  · rw [if_neg h1]
    have : ¬ x / W = j := by
      intro e
      have hd := Nat.div_add_mod x W
      have hmod := Nat.mod_lt x hW
      rw [e, Nat.mul_comm] at hd
      exact h1 ⟨by omega, by omega⟩
    have h2 : x / W < j + 1 ↔ x / W < j := by omega
    simp [h2]

theorem cells_src {w0 w : World} {M : List Res} {Φ : List (World → Prop)} {b : Nat} {cs : Array Value} {T : TypeId} (hL : Holds w0 w M Φ) (hat : At M (blk b cs T)) : ∀ j v, cs.toList[j]? = some v → w.cell? ((⟨b, 0, none⟩ : Addr).add j) = some v := by
  intro j v hj
  have hadd : (⟨b, 0, none⟩ : Addr).add j = ⟨b, j, none⟩ := by unfold Addr.add; split <;> simp_all
  rw [hadd, hL.cell hat]
  simpa using hj
theorem cells_one (n : Nat) (f : Nat → Int) : ∀ v ∈ (arrU n f).toList, v.oneCell' = true := fun v hv => Array.all_eq_true_iff_forall_mem.1 (arrU_one n f) v (by simpa using hv)
set_option maxRecDepth 100000 in
set_option maxHeartbeats 8000000 in
theorem coverMask_calls {W H : Nat} (hs : Sides W H) (w : World) (v : Value) (l : List Sg) (hv : SegsAt w v l) (hm : pathMay l = true) (rule : Int) (hr : rule = 0 ∨ rule = 1) :
    Calls Try.prog 14 #[v, .int .i64 rule, .int .i64 W, .int .i64 H] w (MaskOut W H (fun j i => isIn rule (windG (edgesS l) (16 * (i : Int) + 8) (16 * (j : Int) + 8))) w) := by
  have Hv := Lib.hid hv
  obtain ⟨a, cap, rfl, _⟩ := hv.parts
  clear hv
  obtain ⟨m1, m2, m3⟩ := mask_bounds hs
  have hw0 := hs.w0; have hw1 := hs.w1; have hh0 := hs.h0; have hh1 := hs.h1
  have HsW := Lib.hid (side_nat hs.w0 hs.w1)
  have HsH := Lib.hid (side_nat hs.h0 hs.h1)
  have HM := Lib.hid hm
  clear hm
  have hlen : (edgesS l).length ≤ 1152921504606846976 := Nat.le_trans (edgesS_len l) (by omega)
  have HE := Lib.hid (fun w' hv => edges_calls w' (.slice a l.length cap) l hv)
  generalize edgesS l = E at *
  have hi : ∀ w' ve (j i : Nat), EdgesAt w' ve E → Calls Try.prog 41 #[ve, .int .i64 rule, .int .i64 (16 * (i : Int) + 8), .int .i64 (16 * (j : Int) + 8)] w' fun r w'' => r = .returned (.bool ((fun j i : Nat => isIn rule (windG E (16 * (i : Int) + 8) (16 * (j : Int) + 8))) j i)) ∧ Below w'.heap.size w' w'' := fun w' ve j i hv => windInX_calls w' ve E hv hlen rule _ _
  generalize (fun j i : Nat => isIn rule (windG E (16 * (i : Int) + 8) (16 * (j : Int) + 8))) = p at *
  have HI := Lib.hid hi
  clear hi hlen
  have hL := Holds.start w
  have hr2 : (rule != 0) = false ∨ ((rule != 0) = true ∧ (rule != 1) = false) := by rcases hr with h | h <;> subst h <;> simp
  clear hr
  have hwr : IntKind.i64.wrap ((W : Int) * (H : Int)) = (W : Int) * (H : Int) := by rw [IntKind.wrap_i64]; omega
  rcases hr2 with hr3 | ⟨hr3, hr4⟩
  all_goals
    have n1 : True := trivial; have n2 : True := trivial; have n3 : True := trivial
    go_enter Try.func14, Try.ntmps14
    go_wp2_with (first | (go_at_call 39; (with_reducible refine (pathMay_calls _ _ l (Hv.out.hold hL)).mono ?_); rintro e _ ⟨rfl, hb⟩; rw [HM.out]; replace hL := hL.call hb; clear hb) | (go_at_call 40; (with_reducible refine (coverSide_calls _ _).mono ?_); rintro e _ ⟨rfl, rfl⟩; first | rw [HsW.out] | rw [HsH.out]) | ((with_reducible refine wpA_make rfl _ _ _ rfl _ rfl rfl ?_); refine makeU (W * H) (by omega) (by simp) hL ?_) | (go_at_call 25; (with_reducible refine (HE.out _ (Hv.out.hold hL)).mono ?_); rintro e _ ⟨ve, rfl, hb, hf⟩; obtain ⟨ea, ec, rfl, _⟩ := EdgesAt.parts hf.now; replace hL := hL.callF hb hf; clear hb hf) | (first | (clear hL n1; with_reducible intro b1 w1 hL) | (clear hL n2; with_reducible intro b2 w2 hL) | (clear hL n3; with_reducible intro b3 w3 hL) | (clear hL; with_reducible intro _ _ hL)) | (with_reducible refine wpC_alloc rfl _ rfl _ _ inferInstance hL ?_) | (with_reducible first | refine wpB_agg rfl _ _ _ rfl rfl hL ?_ | refine wpB_one rfl _ _ (.int _ _) rfl rfl rfl hL ?_ | refine wpB_one rfl _ _ (.slice _ _ _) rfl rfl rfl hL ?_ | refine wpB_one rfl _ _ (.bool _) rfl rfl rfl hL ?_ | refine wpB_one rfl _ _ (.pointer _) rfl rfl rfl hL ?_ | refine wpB_one rfl _ _ (.func _ _ _) rfl rfl rfl hL ?_) | (with_reducible first | refine wpH_max rfl _ _ _ _ rfl _ _ rfl rfl ?_ | refine wpH_min rfl _ _ _ _ rfl _ _ rfl rfl ?_) | ((with_reducible refine wpA_load rfl _ _ rfl _ rfl ?_); first | refine loadA hL ?_ | refine loadR hL ?_ | refine loadC hL ?_ | refine loadD ?_ | refine loadE hL ?_ | refine loadF ?_) | ((with_reducible refine wpA_index rfl _ _ _ rfl _ rfl _ rfl ?_); first | (refine indexA ?_; try rw [Int.toNat_natCast]) | refine indexC ?_) | ((with_reducible refine wpA_store rfl _ _ _ rfl _ rfl (.agg _) rfl ?_); refine storeR hL ?_; clear hL; intro _ hL) | ((with_reducible first | refine wpA_store rfl _ _ _ rfl _ rfl (.int _ _) rfl ?_ | refine wpA_store rfl _ _ _ rfl _ rfl (.slice _ _ _) rfl ?_ | refine wpA_store rfl _ _ _ rfl _ rfl (.bool _) rfl ?_ | refine wpA_store rfl _ _ _ rfl _ rfl (.pointer _) rfl ?_ | refine wpA_store rfl _ _ _ rfl _ rfl (.func _ _ _) rfl ?_); (first | refine storeA hL ?_ | refine storeO hL ?_); (clear hL; intro _ hL)) | ((with_reducible refine wpA_lit rfl _ _ _ rfl ?_); first | refine litA1 hL ?_ | refine litA2 hL ?_ | refine litA3 hL ?_ | refine litA4 hL ?_ | refine litA6 hL ?_) | ((with_reducible refine wpA_append rfl _ _ _ rfl (.slice _ _ _) rfl ?_); intro vq hvq; simp [go_sem] at hvq; subst hvq; refine appendA hL ?_; clear hL; intro _ _ _ hL; try dsimp only at hL) | ((with_reducible refine wpA_make rfl _ _ _ rfl _ rfl rfl ?_); refine makeA hL ?_))
    rw [show arrU (W * H) (fun _ => 0) = arrU (W * H) (maskF W (rowsF p 0)) from arrU_congr fun x _ => by simp [maskF, rowsF, bit]] at hL
    go_loopw [47] (fun s47 wr => ∃ j : Nat, j ≤ H ∧ s47 = .int .i64 j ∧ Holds w wr [blk b3 #[.int .i64 W, .int .i64 H, .slice (some ⟨b2, 0, none⟩) (W * H) (W * H)] 26, blk b2 (arrU (W * H) (maskF W (rowsF p j))) 5, blk b1 #[.int .i64 0, .int .i64 0, .slice none 0 0] 26] [fun w => EdgesAt w (.slice ea E.length ec) E])
      (fun s47 wr => H - (intOf s47).toNat)
    case atStart => exact ⟨0, by omega, rfl, hL⟩
    case round =>
      clear hL
      obtain ⟨j, hj, rfl, hL⟩ := hrel
      by_cases hjt : j < H
      · have hjb : (j : Int) < (H : Int) := by omega
        have hfit : j * W + W ≤ W * H := by
          have := Nat.mul_le_mul_right W (show j + 1 ≤ H by omega)
          rw [Nat.add_mul, Nat.mul_comm H W] at this
          omega
        have hjw : ((j : Int) * (W : Int)).toNat = j * W := by rw [← Int.natCast_mul, Int.toNat_natCast]
        have hjw0 : 0 ≤ (j : Int) * (W : Int) := Int.mul_nonneg (by omega) (by omega)
        have hjw1 : (j : Int) * (W : Int) ≤ ((W * H : Nat) : Int) := by rw [← Int.natCast_mul]; omega
        have hne : ¬ W * H = j * W := by omega
        have n1 : True := trivial; have n2 : True := trivial; have n3 : True := trivial; have n4 : True := trivial
        clear n1 n2 n3
        go_wp2_with (first | ((with_reducible refine wpA_make rfl _ _ _ rfl _ rfl rfl ?_); refine makeU W (by omega) rfl hL ?_) | (first | (clear hL n1; with_reducible intro b1 w1 hL) | (clear hL n2; with_reducible intro b2 w2 hL) | (clear hL n3; with_reducible intro b3 w3 hL) | (clear hL n4; with_reducible intro b4 w4 hL) | (clear hL; with_reducible intro _ _ hL)) | (with_reducible refine wpC_alloc rfl _ rfl _ _ inferInstance hL ?_) | (with_reducible first | refine wpB_agg rfl _ _ _ rfl rfl hL ?_ | refine wpB_one rfl _ _ (.int _ _) rfl rfl rfl hL ?_ | refine wpB_one rfl _ _ (.slice _ _ _) rfl rfl rfl hL ?_ | refine wpB_one rfl _ _ (.bool _) rfl rfl rfl hL ?_ | refine wpB_one rfl _ _ (.pointer _) rfl rfl rfl hL ?_ | refine wpB_one rfl _ _ (.func _ _ _) rfl rfl rfl hL ?_) | (with_reducible first | refine wpH_max rfl _ _ _ _ rfl _ _ rfl rfl ?_ | refine wpH_min rfl _ _ _ _ rfl _ _ rfl rfl ?_) | ((with_reducible refine wpA_load rfl _ _ rfl _ rfl ?_); first | refine loadA hL ?_ | refine loadR hL ?_ | refine loadC hL ?_ | refine loadD ?_ | refine loadE hL ?_ | refine loadF ?_) | ((with_reducible refine wpA_index rfl _ _ _ rfl _ rfl _ rfl ?_); first | (refine indexA ?_; try rw [Int.toNat_natCast]) | refine indexC ?_) | ((with_reducible refine wpA_store rfl _ _ _ rfl _ rfl (.agg _) rfl ?_); refine storeR hL ?_; clear hL; intro _ hL) | ((with_reducible first | refine wpA_store rfl _ _ _ rfl _ rfl (.int _ _) rfl ?_ | refine wpA_store rfl _ _ _ rfl _ rfl (.slice _ _ _) rfl ?_ | refine wpA_store rfl _ _ _ rfl _ rfl (.bool _) rfl ?_ | refine wpA_store rfl _ _ _ rfl _ rfl (.pointer _) rfl ?_ | refine wpA_store rfl _ _ _ rfl _ rfl (.func _ _ _) rfl ?_); (first | refine storeA hL ?_ | refine storeO hL ?_); (clear hL; intro _ hL)) | ((with_reducible refine wpA_lit rfl _ _ _ rfl ?_); first | refine litA1 hL ?_ | refine litA2 hL ?_ | refine litA3 hL ?_ | refine litA4 hL ?_ | refine litA6 hL ?_) | ((with_reducible refine wpA_append rfl _ _ _ rfl (.slice _ _ _) rfl ?_); intro vq hvq; simp [go_sem] at hvq; subst hvq; refine appendA hL ?_; clear hL; intro _ _ _ hL; try dsimp only at hL) | ((with_reducible refine wpA_make rfl _ _ _ rfl _ rfl rfl ?_); refine makeA hL ?_))
        rw [show arrU W (fun _ => 0) = arrU W (partF (p j) 0) from arrU_congr fun x _ => by simp [partF]] at hL
        go_loopw [54] (fun s54 wq => ∃ k : Nat, k ≤ W ∧ s54 = .int .i64 k ∧ Holds w wq [blk b4 (arrU W (partF (p j) k)) 5, blk b3 #[.int .i64 W, .int .i64 H, .slice (some ⟨b2, 0, none⟩) (W * H) (W * H)] 26, blk b2 (arrU (W * H) (maskF W (rowsF p j))) 5, blk b1 #[.int .i64 0, .int .i64 0, .slice none 0 0] 26] [fun w => EdgesAt w (.slice ea E.length ec) E])
          (fun s54 wq => W - (intOf s54).toNat)
        case atStart => exact ⟨0, by omega, rfl, hL⟩
        case round =>
          clear hL
          obtain ⟨k, hk, rfl, hL⟩ := hrel
          by_cases hkt : k < W
          · have hkb : (k : Int) < (W : Int) := by omega
            cases hp : p j k with
            | true =>
              have Hp := Lib.hid hp
              clear hp
              go_wp2_with (first | (go_at_call 41; (with_reducible refine (HI.out _ _ j k hL.fact0).mono ?_); rintro e _ ⟨rfl, hb⟩; rw [Hp.out]; replace hL := hL.call hb; clear hb) | (first | (clear hL n1; with_reducible intro b1 w1 hL) | (clear hL n2; with_reducible intro b2 w2 hL) | (clear hL n3; with_reducible intro b3 w3 hL) | (clear hL n4; with_reducible intro b4 w4 hL) | (clear hL; with_reducible intro _ _ hL)) | (with_reducible refine wpC_alloc rfl _ rfl _ _ inferInstance hL ?_) | (with_reducible first | refine wpB_agg rfl _ _ _ rfl rfl hL ?_ | refine wpB_one rfl _ _ (.int _ _) rfl rfl rfl hL ?_ | refine wpB_one rfl _ _ (.slice _ _ _) rfl rfl rfl hL ?_ | refine wpB_one rfl _ _ (.bool _) rfl rfl rfl hL ?_ | refine wpB_one rfl _ _ (.pointer _) rfl rfl rfl hL ?_ | refine wpB_one rfl _ _ (.func _ _ _) rfl rfl rfl hL ?_) | (with_reducible first | refine wpH_max rfl _ _ _ _ rfl _ _ rfl rfl ?_ | refine wpH_min rfl _ _ _ _ rfl _ _ rfl rfl ?_) | ((with_reducible refine wpA_load rfl _ _ rfl _ rfl ?_); first | refine loadA hL ?_ | refine loadR hL ?_ | refine loadC hL ?_ | refine loadD ?_ | refine loadE hL ?_ | refine loadF ?_) | ((with_reducible refine wpA_index rfl _ _ _ rfl _ rfl _ rfl ?_); first | (refine indexA ?_; try rw [Int.toNat_natCast]) | refine indexC ?_) | ((with_reducible refine wpA_store rfl _ _ _ rfl _ rfl (.agg _) rfl ?_); refine storeR hL ?_; clear hL; intro _ hL) | ((with_reducible first | refine wpA_store rfl _ _ _ rfl _ rfl (.int _ _) rfl ?_ | refine wpA_store rfl _ _ _ rfl _ rfl (.slice _ _ _) rfl ?_ | refine wpA_store rfl _ _ _ rfl _ rfl (.bool _) rfl ?_ | refine wpA_store rfl _ _ _ rfl _ rfl (.pointer _) rfl ?_ | refine wpA_store rfl _ _ _ rfl _ rfl (.func _ _ _) rfl ?_); (first | refine storeA hL ?_ | refine storeO hL ?_); (clear hL; intro _ hL)) | ((with_reducible refine wpA_lit rfl _ _ _ rfl ?_); first | refine litA1 hL ?_ | refine litA2 hL ?_ | refine litA3 hL ?_ | refine litA4 hL ?_ | refine litA6 hL ?_) | ((with_reducible refine wpA_append rfl _ _ _ rfl (.slice _ _ _) rfl ?_); intro vq hvq; simp [go_sem] at hvq; subst hvq; refine appendA hL ?_; clear hL; intro _ _ _ hL; try dsimp only at hL) | ((with_reducible refine wpA_make rfl _ _ _ rfl _ rfl rfl ?_); refine makeA hL ?_))
              go_roundw
              case rel =>
                rw [partF_set _ _ _ Hp.out] at hL
                exact ⟨k + 1, by omega, by go_num, hL⟩
              case measure => simp [intOf]; omega
            | false =>
              have Hp := Lib.hid hp
              clear hp
              go_wp2_with (first | (go_at_call 41; (with_reducible refine (HI.out _ _ j k hL.fact0).mono ?_); rintro e _ ⟨rfl, hb⟩; rw [Hp.out]; replace hL := hL.call hb; clear hb) | (first | (clear hL n1; with_reducible intro b1 w1 hL) | (clear hL n2; with_reducible intro b2 w2 hL) | (clear hL n3; with_reducible intro b3 w3 hL) | (clear hL n4; with_reducible intro b4 w4 hL) | (clear hL; with_reducible intro _ _ hL)) | (with_reducible refine wpC_alloc rfl _ rfl _ _ inferInstance hL ?_) | (with_reducible first | refine wpB_agg rfl _ _ _ rfl rfl hL ?_ | refine wpB_one rfl _ _ (.int _ _) rfl rfl rfl hL ?_ | refine wpB_one rfl _ _ (.slice _ _ _) rfl rfl rfl hL ?_ | refine wpB_one rfl _ _ (.bool _) rfl rfl rfl hL ?_ | refine wpB_one rfl _ _ (.pointer _) rfl rfl rfl hL ?_ | refine wpB_one rfl _ _ (.func _ _ _) rfl rfl rfl hL ?_) | (with_reducible first | refine wpH_max rfl _ _ _ _ rfl _ _ rfl rfl ?_ | refine wpH_min rfl _ _ _ _ rfl _ _ rfl rfl ?_) | ((with_reducible refine wpA_load rfl _ _ rfl _ rfl ?_); first | refine loadA hL ?_ | refine loadR hL ?_ | refine loadC hL ?_ | refine loadD ?_ | refine loadE hL ?_ | refine loadF ?_) | ((with_reducible refine wpA_index rfl _ _ _ rfl _ rfl _ rfl ?_); first | (refine indexA ?_; try rw [Int.toNat_natCast]) | refine indexC ?_) | ((with_reducible refine wpA_store rfl _ _ _ rfl _ rfl (.agg _) rfl ?_); refine storeR hL ?_; clear hL; intro _ hL) | ((with_reducible first | refine wpA_store rfl _ _ _ rfl _ rfl (.int _ _) rfl ?_ | refine wpA_store rfl _ _ _ rfl _ rfl (.slice _ _ _) rfl ?_ | refine wpA_store rfl _ _ _ rfl _ rfl (.bool _) rfl ?_ | refine wpA_store rfl _ _ _ rfl _ rfl (.pointer _) rfl ?_ | refine wpA_store rfl _ _ _ rfl _ rfl (.func _ _ _) rfl ?_); (first | refine storeA hL ?_ | refine storeO hL ?_); (clear hL; intro _ hL)) | ((with_reducible refine wpA_lit rfl _ _ _ rfl ?_); first | refine litA1 hL ?_ | refine litA2 hL ?_ | refine litA3 hL ?_ | refine litA4 hL ?_ | refine litA6 hL ?_) | ((with_reducible refine wpA_append rfl _ _ _ rfl (.slice _ _ _) rfl ?_); intro vq hvq; simp [go_sem] at hvq; subst hvq; refine appendA hL ?_; clear hL; intro _ _ _ hL; try dsimp only at hL) | ((with_reducible refine wpA_make rfl _ _ _ rfl _ rfl rfl ?_); refine makeA hL ?_))
              go_roundw
              case rel =>
                rw [partF_skip _ _ _ Hp.out] at hL
                exact ⟨k + 1, by omega, by go_num, hL⟩
              case measure => simp [intOf]; omega
          · have e : k = W := by omega
            subst e
            have HC := Lib.hid (copy_arrU (n := k * H) (W := k) (o := j * k) (maskF k (rowsF p j)) (partF (p j) k) hfit)
            have HR := Lib.hid (maskF_row (W := k) (n := k * H) (j := j) (by omega) p hfit)
            go_wp2_with (first | (refine wpList_copy_own rfl _ _ _ _ rfl 5 (by kernel_rfl) (by kernel_rfl) b2 (j * k) _ _ ⟨b4, 0, none⟩ _ _ rfl rfl (arrU (k * H) (maskF k (rowsF p j))) 5 (hL.row (.there (.there .here))) (arrU k (partF (p j) k)).toList ?_ ?_ ?_ ?_ ?_; (· rw [Array.length_toList, arrU_size]; exact (Nat.min_eq_left (by omega)).symm); (· exact cells_src hL .here); (· rw [Array.length_toList, arrU_size, arrU_size]; exact hfit); (· exact cells_one _ _); rw [HC.out, HR.out]; have h9 := hL.setRow (cs' := arrU (k * H) (maskF k (rowsF p (j + 1)))) (.there (.there .here)); clear hL; revert h9; generalize World.setRow _ _ _ = w9; intro hL) | (first | (clear hL n1; with_reducible intro b1 w1 hL) | (clear hL n2; with_reducible intro b2 w2 hL) | (clear hL n3; with_reducible intro b3 w3 hL) | (clear hL n4; with_reducible intro b4 w4 hL) | (clear hL; with_reducible intro _ _ hL)) | (with_reducible refine wpC_alloc rfl _ rfl _ _ inferInstance hL ?_) | (with_reducible first | refine wpB_agg rfl _ _ _ rfl rfl hL ?_ | refine wpB_one rfl _ _ (.int _ _) rfl rfl rfl hL ?_ | refine wpB_one rfl _ _ (.slice _ _ _) rfl rfl rfl hL ?_ | refine wpB_one rfl _ _ (.bool _) rfl rfl rfl hL ?_ | refine wpB_one rfl _ _ (.pointer _) rfl rfl rfl hL ?_ | refine wpB_one rfl _ _ (.func _ _ _) rfl rfl rfl hL ?_) | (with_reducible first | refine wpH_max rfl _ _ _ _ rfl _ _ rfl rfl ?_ | refine wpH_min rfl _ _ _ _ rfl _ _ rfl rfl ?_) | ((with_reducible refine wpA_load rfl _ _ rfl _ rfl ?_); first | refine loadA hL ?_ | refine loadR hL ?_ | refine loadC hL ?_ | refine loadD ?_ | refine loadE hL ?_ | refine loadF ?_) | ((with_reducible refine wpA_index rfl _ _ _ rfl _ rfl _ rfl ?_); first | (refine indexA ?_; try rw [Int.toNat_natCast]) | refine indexC ?_) | ((with_reducible refine wpA_store rfl _ _ _ rfl _ rfl (.agg _) rfl ?_); refine storeR hL ?_; clear hL; intro _ hL) | ((with_reducible first | refine wpA_store rfl _ _ _ rfl _ rfl (.int _ _) rfl ?_ | refine wpA_store rfl _ _ _ rfl _ rfl (.slice _ _ _) rfl ?_ | refine wpA_store rfl _ _ _ rfl _ rfl (.bool _) rfl ?_ | refine wpA_store rfl _ _ _ rfl _ rfl (.pointer _) rfl ?_ | refine wpA_store rfl _ _ _ rfl _ rfl (.func _ _ _) rfl ?_); (first | refine storeA hL ?_ | refine storeO hL ?_); (clear hL; intro _ hL)) | ((with_reducible refine wpA_lit rfl _ _ _ rfl ?_); first | refine litA1 hL ?_ | refine litA2 hL ?_ | refine litA3 hL ?_ | refine litA4 hL ?_ | refine litA6 hL ?_) | ((with_reducible refine wpA_append rfl _ _ _ rfl (.slice _ _ _) rfl ?_); intro vq hvq; simp [go_sem] at hvq; subst hvq; refine appendA hL ?_; clear hL; intro _ _ _ hL; try dsimp only at hL) | ((with_reducible refine wpA_make rfl _ _ _ rfl _ rfl rfl ?_); refine makeA hL ?_))
            go_roundw
            case rel => exact ⟨j + 1, by omega, by go_num, hL.drop .here⟩
            case measure => simp [intOf]; omega
      · have e : j = H := by omega
        subst e
        go_wp2_with (first | (first | (clear hL n1; with_reducible intro b1 w1 hL) | (clear hL n2; with_reducible intro b2 w2 hL) | (clear hL n3; with_reducible intro b3 w3 hL) | (clear hL n4; with_reducible intro b4 w4 hL) | (clear hL; with_reducible intro _ _ hL)) | (with_reducible refine wpC_alloc rfl _ rfl _ _ inferInstance hL ?_) | (with_reducible first | refine wpB_agg rfl _ _ _ rfl rfl hL ?_ | refine wpB_one rfl _ _ (.int _ _) rfl rfl rfl hL ?_ | refine wpB_one rfl _ _ (.slice _ _ _) rfl rfl rfl hL ?_ | refine wpB_one rfl _ _ (.bool _) rfl rfl rfl hL ?_ | refine wpB_one rfl _ _ (.pointer _) rfl rfl rfl hL ?_ | refine wpB_one rfl _ _ (.func _ _ _) rfl rfl rfl hL ?_) | (with_reducible first | refine wpH_max rfl _ _ _ _ rfl _ _ rfl rfl ?_ | refine wpH_min rfl _ _ _ _ rfl _ _ rfl rfl ?_) | ((with_reducible refine wpA_load rfl _ _ rfl _ rfl ?_); first | refine loadA hL ?_ | refine loadR hL ?_ | refine loadC hL ?_ | refine loadD ?_ | refine loadE hL ?_ | refine loadF ?_) | ((with_reducible refine wpA_index rfl _ _ _ rfl _ rfl _ rfl ?_); first | (refine indexA ?_; try rw [Int.toNat_natCast]) | refine indexC ?_) | ((with_reducible refine wpA_store rfl _ _ _ rfl _ rfl (.agg _) rfl ?_); refine storeR hL ?_; clear hL; intro _ hL) | ((with_reducible first | refine wpA_store rfl _ _ _ rfl _ rfl (.int _ _) rfl ?_ | refine wpA_store rfl _ _ _ rfl _ rfl (.slice _ _ _) rfl ?_ | refine wpA_store rfl _ _ _ rfl _ rfl (.bool _) rfl ?_ | refine wpA_store rfl _ _ _ rfl _ rfl (.pointer _) rfl ?_ | refine wpA_store rfl _ _ _ rfl _ rfl (.func _ _ _) rfl ?_); (first | refine storeA hL ?_ | refine storeO hL ?_); (clear hL; intro _ hL)) | ((with_reducible refine wpA_lit rfl _ _ _ rfl ?_); first | refine litA1 hL ?_ | refine litA2 hL ?_ | refine litA3 hL ?_ | refine litA4 hL ?_ | refine litA6 hL ?_) | ((with_reducible refine wpA_append rfl _ _ _ rfl (.slice _ _ _) rfl ?_); intro vq hvq; simp [go_sem] at hvq; subst hvq; refine appendA hL ?_; clear hL; intro _ _ _ hL; try dsimp only at hL) | ((with_reducible refine wpA_make rfl _ _ _ rfl _ rfl rfl ?_); refine makeA hL ?_))
        refine bodyPost_ret (results_row2 inferInstance rfl _ hL b1 rfl _ _ (.there (.there .here)) rfl) rfl ⟨some ⟨b2, 0, none⟩, rfl, hL.below, ?_⟩
        refine ((hL.settle (.there .here) (φ := fun w => w.heap[b2]? = some (.cells (arrU (W * j) (maskF W (rowsF p j))) 5 (0, 0))) fun _ h => h).map fun w' h1 => ?_).fresh
        refine ⟨_, rfl, ?_⟩
        have := bytes_of h1 (by unfold maxLen; omega)
        rw [show (List.range (W * j)).map (maskF W (rowsF p j)) = (pixMask W j p).B from ?_] at this
        · exact this
        · refine List.map_congr_left fun x hx => ?_
          have hx : x < W * j := by simpa using hx
          have hd : x / W < j := Nat.div_lt_of_lt_mul hx
          simp [maskF, rowsF, bit, hd]
end Go.Proofs.Ytneddfiohekhiaa
