/- Package region: Mask. -/
import Derived.Test.YtjgnbmgdnfldeaaMask
import Derived.Test.YtjgnbmgdnfldeaaRowC
import Derived.Deep.RegionWith
-- uses arrU
namespace Go.Proofs.Ytjgnbmgdnfldeaa
open Go.RowKit

/-- a region's mask -/
def pixMask (W H : Nat) (q : Nat → Nat → Bool) : Msk := ⟨W, H, (List.range (W * H)).map fun k => if q (k / W) (k % W) then 1 else 0⟩

theorem run_makeU {n : Nat} (hn : n ≤ 10000) {L : Int} (hL : L = (n : Int)) (w : World) :
    (Instr.makeSlice 41 (.int .i64 L) (.int .i64 L)).run Try.prog w = .ok (.slice (some ⟨w.heap.size, 0, none⟩) n n) (w.alloc (.cells (arrU n fun _ => 0) 5)) := by
  have hS : SliceT Try.prog 41 5 := inferInstance
  have hE : ElemT Try.prog 5 1 1 (.int .u8 0) := inferInstance
  obtain ⟨i, hi1, hi2, hi3, hi4⟩ := info_parts hE.info
  subst hL
  have hb' : (i.bytes : Int) * (n : Int) ≤ 281474976710656 := by rw [hi4]; omega
  have hrun := run_make (P := Try.prog) w _ _ i _ hS.out hi1 hi2 .i64 .i64 (n : Int) (n : Int) (by omega) (Int.le_refl _) hb' (by omega)
  simp only [Int.toNat_natCast, hi3, Nat.mul_one, Value.cells, madeCells_one, arrU_zero] at hrun
  exact hrun

theorem alloc_size (w : World) (o : Obj) : (w.alloc o).heap.size = w.heap.size + 1 := by simp
theorem Holds.alloc2 {w0 w : World} {M : List Res} {Φ : List (World → Prop)} (hL : Holds w0 w M Φ) (c1 c2 : Array Value) (T1 T2 : TypeId) : Holds w0 ((w.alloc (.cells c1 T1)).alloc (.cells c2 T2)).drew (blk (w.heap.size + 1) c2 T2 :: blk w.heap.size c1 T1 :: M) Φ := by
  have h := ((hL.alloc c1 T1).alloc c2 T2).drew
  rw [alloc_size] at h
  exact h
theorem Holds.swapM {w0 w : World} {r s : Res} {M : List Res} {Φ : List (World → Prop)} (h : Holds w0 w (r :: s :: M) Φ) : Holds w0 w (s :: r :: M) Φ := by
  have hp := List.pairwise_cons.1 h.apart
  have hp2 := List.pairwise_cons.1 hp.2
  have mem : ∀ t, t ∈ s :: r :: M → t ∈ r :: s :: M := by
    intro t ht
    rcases List.mem_cons.1 ht with rfl | ht
    · exact .tail _ (.head _)
    · rcases List.mem_cons.1 ht with rfl | ht
      · exact .head _
      · exact .tail _ (.tail _ ht)
  refine ⟨h.below, fun t ht => h.ok t (mem t ht), fun t ht => h.low t (mem t ht), ?_, fun φ hφ => ?_⟩
  · refine List.Pairwise.cons (fun t ht b hb e => ?_) (List.Pairwise.cons (fun t ht => hp.1 t (.tail _ ht)) hp2.2)
    rcases List.mem_cons.1 ht with rfl | ht
    · exact hp.1 s (.head _) b e hb
    · exact hp2.1 t ht b hb e
  · obtain ⟨F, h1, h2⟩ := h.firm φ hφ
    exact ⟨F, fun b hb => ⟨(h1 b hb).1, (h1 b hb).2.1, fun t ht => (h1 b hb).2.2 t (mem t ht)⟩, h2⟩
theorem mayFrom_bounds {w : Int} : ∀ (l : List (Int × Int)) (at_ : Int), mayFrom at_ w l = true → ∀ k, k < l.length → at_ < (l.getD k (0, 0)).1 ∧ (l.getD k (0, 0)).1 < (l.getD k (0, 0)).2 ∧ (l.getD k (0, 0)).2 ≤ w
  | [], _, _, k, hk => by simp at hk
  | r :: l, at_, h, 0, _ => by
    simp [mayFrom] at h
    exact ⟨h.1, h.2.1, h.2.2.1⟩
  | r :: l, at_, h, k + 1, hk => by
    simp [mayFrom] at h
    have := mayFrom_bounds l r.2 h.2.2.2 k (by simpa using hk)
    simp only [List.getD_cons_succ]
    omega
/-- the places of a mask, row by row -/
def maskF (W : Nat) (P : Nat → Nat → Bool) (k : Nat) : Int := if P (k / W) (k % W) then 1 else 0
/-- rows below j whole, of row j some -/
def rowF (p : Nat → Nat → Bool) (j : Nat) (S : Nat → Bool) (r c : Nat) : Bool := (decide (r < j) && p r c) || (decide (r = j) && S c)
theorem divmod_eq {W i j x : Nat} (hi : i < W) : x = j * W + i ↔ x / W = j ∧ x % W = i := by
  constructor
  · rintro rfl
    rw [Nat.mul_comm, Nat.mul_add_div (by omega), Nat.mul_add_mod, Nat.div_eq_of_lt hi, Nat.mod_eq_of_lt hi]
    exact ⟨by omega, rfl⟩
  · rintro ⟨h1, h2⟩
    have := Nat.div_add_mod x W
    rw [h1, h2, Nat.mul_comm] at this
    exact this.symm
theorem maskF_set {W n i j : Nat} (p : Nat → Nat → Bool) (S : Nat → Bool) (hi : i < W) : arrU n (fun x => if x = j * W + i then 1 else maskF W (rowF p j S) x) = arrU n (maskF W (rowF p j fun c => if c = i then true else S c)) := by
  refine arrU_congr fun x _ => ?_
  unfold maskF rowF
  by_cases h : x = j * W + i
  · rw [if_pos h]
    obtain ⟨h1, h2⟩ := (divmod_eq hi).1 h
    simp [h1, h2]
  · rw [if_neg h]
    by_cases h1 : x / W = j
    · have h2 : ¬ x % W = i := fun e => h ((divmod_eq hi).2 ⟨h1, e⟩)
      simp [h1, h2]
    · simp [h1]
theorem maskF_congr {W n : Nat} {P Q : Nat → Nat → Bool} (hW : 0 < W) (h : ∀ r c, c < W → P r c = Q r c) : arrU n (maskF W P) = arrU n (maskF W Q) := by
  refine arrU_congr fun x _ => ?_
  unfold maskF
  rw [h _ _ (Nat.mod_lt _ hW)]
theorem rowF_next (p : Nat → Nat → Bool) (j : Nat) (S : Nat → Bool) {W : Nat} (h : ∀ c, c < W → S c = p j c) (r c : Nat) (hc : c < W) : rowF p j S r c = rowF p (j + 1) (fun _ => false) r c := by
  unfold rowF
  by_cases h1 : r = j
  · subst h1; simp [h c hc]
  · have : r < j + 1 ↔ r < j := by omega
    simp [h1, this]
theorem bytes_of {w : World} {b n : Nat} {f : Nat → Int} {T : TypeId} (hb : w.heap[b]? = some (.cells (arrU n f) T (0, 0))) (hm : n ≤ maxLen) : BytesAt w (.slice (some ⟨b, 0, none⟩) n n) ((List.range n).map f) := by
  refine ⟨_, n, by simp, by simp, hm, fun i hi => ⟨b, 0, rfl, fun j v hj => ?_⟩⟩
  simp at hi
  rcases j with _ | j
  · rw [cell_of_row w b _ (arrU n f) T (0, 0) hb]
    simp at hj
    simp only [Nat.zero_add, Nat.mul_one, Nat.add_zero]
    rw [arrU_get _ hi, hj]
  · simp at hj

set_option maxRecDepth 100000 in
set_option maxHeartbeats 2000000 in
theorem pixMask_calls {W H : Nat} (hs : Sides W H) (w : World) (sa : Option Addr) (sn sc : Nat) (p : Nat → Nat → Bool) (h : RegAt w (.agg #[.int .i64 W, .int .i64 H, .slice sa sn sc]) (pixReg W H p)) :
    Calls Try.prog 48 #[.agg #[.int .i64 W, .int .i64 H, .slice sa sn sc]] w fun e w' => ∃ ma, e = .returned (.tuple #[.agg #[.int .i64 W, .int .i64 H, .slice ma (W * H) (W * H)], .int .i64 0]) ∧ Below w.heap.size w w' ∧ Fresh w w' (fun w => MaskAt w (.agg #[.int .i64 W, .int .i64 H, .slice ma (W * H) (W * H)]) (pixMask W H p)) := by
  obtain ⟨hsn, hrow⟩ := regRow h
  have hsn := hsn.symm
  subst hsn
  have Hp := Lib.hid h
  clear h
  have Hrow := Lib.hid hrow; clear hrow
  obtain ⟨hw0, hw1, hh0, hh1⟩ := id hs
  obtain ⟨g1, g2⟩ := mul_le100 (x := (W : Int)) (y := (H : Int)) (by omega) (by omega) (by omega) (by omega)
  have hL := Holds.start w
  have n1 : True := trivial; have n2 : True := trivial; have n3 : True := trivial
  go_enter Try.func48, Try.ntmps48
  go_wp2_with (first | (go_at_call 38; (with_reducible refine (pixMay_calls hs _ _ _ (Hp.out.hold hL)).mono ?_); rintro e w3 ⟨rfl, hb⟩; replace hL := hL.call hb; clear hb) | (first | (clear hL n1; with_reducible intro b1 w1 hL) | (clear hL n2; with_reducible intro b2 w2 hL) | (clear hL n3; with_reducible intro b3 w3 hL) | (clear hL; with_reducible intro _ _ hL)) | (with_reducible refine wpC_alloc rfl _ rfl _ _ inferInstance hL ?_) | (with_reducible first | refine wpB_agg rfl _ _ _ rfl rfl hL ?_ | refine wpB_one rfl _ _ (.int _ _) rfl rfl rfl hL ?_ | refine wpB_one rfl _ _ (.slice _ _ _) rfl rfl rfl hL ?_ | refine wpB_one rfl _ _ (.bool _) rfl rfl rfl hL ?_ | refine wpB_one rfl _ _ (.pointer _) rfl rfl rfl hL ?_ | refine wpB_one rfl _ _ (.func _ _ _) rfl rfl rfl hL ?_) | (with_reducible first | refine wpH_max rfl _ _ _ _ rfl _ _ rfl rfl ?_ | refine wpH_min rfl _ _ _ _ rfl _ _ rfl rfl ?_) | ((with_reducible refine wpA_load rfl _ _ rfl _ rfl ?_); first | refine loadA hL ?_ | refine loadR hL ?_ | refine loadC hL ?_ | refine loadD ?_ | refine loadE hL ?_ | refine loadF ?_) | ((with_reducible refine wpA_index rfl _ _ _ rfl _ rfl _ rfl ?_); first | (refine indexA ?_; try rw [Int.toNat_natCast]) | refine indexC ?_) | ((with_reducible refine wpA_store rfl _ _ _ rfl _ rfl (.agg _) rfl ?_); refine storeR hL ?_; clear hL; intro _ hL) | ((with_reducible first | refine wpA_store rfl _ _ _ rfl _ rfl (.int _ _) rfl ?_ | refine wpA_store rfl _ _ _ rfl _ rfl (.slice _ _ _) rfl ?_ | refine wpA_store rfl _ _ _ rfl _ rfl (.bool _) rfl ?_ | refine wpA_store rfl _ _ _ rfl _ rfl (.pointer _) rfl ?_ | refine wpA_store rfl _ _ _ rfl _ rfl (.func _ _ _) rfl ?_); (first | refine storeA hL ?_ | refine storeO hL ?_); (clear hL; intro _ hL)) | ((with_reducible refine wpA_lit rfl _ _ _ rfl ?_); first | refine litA1 hL ?_ | refine litA2 hL ?_) | ((with_reducible refine wpA_append rfl _ _ _ rfl (.slice _ _ _) rfl ?_); intro vq hvq; simp [go_sem] at hvq; subst hvq; refine appendA hL ?_; clear hL; intro _ _ _ hL; try dsimp only at hL) | ((with_reducible refine wpA_make rfl _ _ _ rfl _ rfl rfl ?_); refine makeA hL ?_))
  have c0 := (hL.cell (o := 0) (b := b1) (by (repeat (first | with_reducible exact At.here | with_reducible apply At.there)))).trans rfl
  have c1 := (hL.cell (o := 1) (b := b1) (by (repeat (first | with_reducible exact At.here | with_reducible apply At.there)))).trans rfl
  have hwr : IntKind.i64.wrap ((W : Int) * (H : Int)) = (W : Int) * (H : Int) := by rw [IntKind.wrap_i64]; omega
  have hmk := fun w => run_makeU (n := W * H) (L := (W : Int) * (H : Int)) (by have := Nat.mul_le_mul hw1 hh1; omega) (by simp) w
  go_region_held3 (fun w' => w'.cell? ⟨b1, 0, none⟩ = some (.int .i64 W) ∧ w'.cell? ⟨b1, 1, none⟩ = some (.int .i64 H)) (first | go_keep | exact ⟨c0, c1⟩ | exact ⟨cell_later (by repeat (first | exact Below.refl _ _ | refine Below.drew ?_ | refine Below.alloc ?_ (by simp) _)) c0, cell_later (by repeat (first | exact Below.refl _ _ | refine Below.drew ?_ | refine Below.alloc ?_ (by simp) _)) c1⟩) (fail)
  all_goals clear c0 c1 hmk hwr
  · rename_i hH
    clear hH
    replace hL := hL.alloc2 (arrU (W * H) fun _ => 0) #[.int .i64 W, .int .i64 H, .slice (some ⟨w3.heap.size, 0, none⟩) (W * H) (W * H)] 5 43
    obtain ⟨w4, hw4⟩ : ∃ w4, w4 = ((w3.alloc (.cells (arrU (W * H) fun _ => 0) 5)).alloc (.cells #[.int .i64 W, .int .i64 H, .slice (some ⟨w3.heap.size, 0, none⟩) (W * H) (W * H)] 43)).drew := ⟨_, rfl⟩
    rw [← hw4] at hL ⊢
    clear hw4
    generalize w3.heap.size + 1 = bh at hL ⊢
    generalize w3.heap.size = bm at hL ⊢
    rw [show arrU (W * H) (fun _ => 0) = arrU (W * H) (maskF W (rowF p 0 fun _ => false)) from arrU_congr fun x _ => by simp [maskF, rowF]] at hL
    go_wp2_with (first | (first | (clear hL n1; with_reducible intro b1 w1 hL) | (clear hL n2; with_reducible intro b2 w2 hL) | (clear hL n3; with_reducible intro b3 w3 hL) | (clear hL; with_reducible intro _ _ hL)) | (with_reducible refine wpC_alloc rfl _ rfl _ _ inferInstance hL ?_) | (with_reducible first | refine wpB_agg rfl _ _ _ rfl rfl hL ?_ | refine wpB_one rfl _ _ (.int _ _) rfl rfl rfl hL ?_ | refine wpB_one rfl _ _ (.slice _ _ _) rfl rfl rfl hL ?_ | refine wpB_one rfl _ _ (.bool _) rfl rfl rfl hL ?_ | refine wpB_one rfl _ _ (.pointer _) rfl rfl rfl hL ?_ | refine wpB_one rfl _ _ (.func _ _ _) rfl rfl rfl hL ?_) | (with_reducible first | refine wpH_max rfl _ _ _ _ rfl _ _ rfl rfl ?_ | refine wpH_min rfl _ _ _ _ rfl _ _ rfl rfl ?_) | ((with_reducible refine wpA_load rfl _ _ rfl _ rfl ?_); first | refine loadA hL ?_ | refine loadR hL ?_ | refine loadC hL ?_ | refine loadD ?_ | refine loadE hL ?_ | refine loadF ?_) | ((with_reducible refine wpA_index rfl _ _ _ rfl _ rfl _ rfl ?_); first | (refine indexA ?_; try rw [Int.toNat_natCast]) | refine indexC ?_) | ((with_reducible refine wpA_store rfl _ _ _ rfl _ rfl (.agg _) rfl ?_); refine storeR hL ?_; clear hL; intro _ hL) | ((with_reducible first | refine wpA_store rfl _ _ _ rfl _ rfl (.int _ _) rfl ?_ | refine wpA_store rfl _ _ _ rfl _ rfl (.slice _ _ _) rfl ?_ | refine wpA_store rfl _ _ _ rfl _ rfl (.bool _) rfl ?_ | refine wpA_store rfl _ _ _ rfl _ rfl (.pointer _) rfl ?_ | refine wpA_store rfl _ _ _ rfl _ rfl (.func _ _ _) rfl ?_); (first | refine storeA hL ?_ | refine storeO hL ?_); (clear hL; intro _ hL)) | ((with_reducible refine wpA_lit rfl _ _ _ rfl ?_); first | refine litA1 hL ?_ | refine litA2 hL ?_) | ((with_reducible refine wpA_append rfl _ _ _ rfl (.slice _ _ _) rfl ?_); intro vq hvq; simp [go_sem] at hvq; subst hvq; refine appendA hL ?_; clear hL; intro _ _ _ hL; try dsimp only at hL) | ((with_reducible refine wpA_make rfl _ _ _ rfl _ rfl rfl ?_); refine makeA hL ?_))
    go_loopw [28] (fun s28 wr => ∃ j : Nat, j ≤ H ∧ s28 = .int .i64 j ∧ Holds w wr [blk bh #[.int .i64 W, .int .i64 H, .slice (some ⟨bm, 0, none⟩) (W * H) (W * H)] 43, blk bm (arrU (W * H) (maskF W (rowF p j fun _ => false))) 5, blk b2 #[.int .i64 0, .int .i64 0, .slice none 0 0] 43, blk b1 #[.int .i64 W, .int .i64 H, .slice sa H sc] 26] [])
      (fun s28 wr => (64 - intOf s28).toNat)
    case atStart => exact ⟨0, by omega, rfl, hL⟩
    case round =>
      clear hL
      obtain ⟨j, hj, rfl, hL⟩ := hrel
      by_cases hjt : j < H
      · obtain ⟨b, o, va, vn, vc, rfl, hc, hr⟩ := Hrow.out j hjt
        obtain ⟨a2, cap2, he, hlc, hcm, hel⟩ := hr.parts
        cases he
        have HP := Lib.hid (show ∀ c, c < W → inRuns (runsTo (p j) W) c = p j c from fun c hc => by rw [inRuns_runsTo _ (by omega)]; simp [hc])
        have HB := Lib.hid (mayFrom_bounds (runsTo (p j) W) (-1) (mayFrom_runsTo (p j) W).1)
        generalize runsTo (p j) W = l at *
        have Hl := Lib.hid hel
        clear hel hr
        unfold maxLen at hcm
        go_wp2_with (first | (first | (clear hL n1; with_reducible intro b1 w1 hL) | (clear hL n2; with_reducible intro b2 w2 hL) | (clear hL n3; with_reducible intro b3 w3 hL) | (clear hL; with_reducible intro _ _ hL)) | (with_reducible refine wpC_alloc rfl _ rfl _ _ inferInstance hL ?_) | (with_reducible first | refine wpB_agg rfl _ _ _ rfl rfl hL ?_ | refine wpB_one rfl _ _ (.int _ _) rfl rfl rfl hL ?_ | refine wpB_one rfl _ _ (.slice _ _ _) rfl rfl rfl hL ?_ | refine wpB_one rfl _ _ (.bool _) rfl rfl rfl hL ?_ | refine wpB_one rfl _ _ (.pointer _) rfl rfl rfl hL ?_ | refine wpB_one rfl _ _ (.func _ _ _) rfl rfl rfl hL ?_) | (with_reducible first | refine wpH_max rfl _ _ _ _ rfl _ _ rfl rfl ?_ | refine wpH_min rfl _ _ _ _ rfl _ _ rfl rfl ?_) | ((with_reducible refine wpA_load rfl _ _ rfl _ rfl ?_); first | refine loadA hL ?_ | refine loadR hL ?_ | refine loadC hL ?_ | refine loadD ?_ | refine loadE hL ?_ | refine loadF ?_) | ((with_reducible refine wpA_index rfl _ _ _ rfl _ rfl _ rfl ?_); first | (refine indexA ?_; try rw [Int.toNat_natCast]) | refine indexC ?_) | ((with_reducible refine wpA_store rfl _ _ _ rfl _ rfl (.agg _) rfl ?_); refine storeR hL ?_; clear hL; intro _ hL) | ((with_reducible first | refine wpA_store rfl _ _ _ rfl _ rfl (.int _ _) rfl ?_ | refine wpA_store rfl _ _ _ rfl _ rfl (.slice _ _ _) rfl ?_ | refine wpA_store rfl _ _ _ rfl _ rfl (.bool _) rfl ?_ | refine wpA_store rfl _ _ _ rfl _ rfl (.pointer _) rfl ?_ | refine wpA_store rfl _ _ _ rfl _ rfl (.func _ _ _) rfl ?_); (first | refine storeA hL ?_ | refine storeO hL ?_); (clear hL; intro _ hL)) | ((with_reducible refine wpA_lit rfl _ _ _ rfl ?_); first | refine litA1 hL ?_ | refine litA2 hL ?_) | ((with_reducible refine wpA_append rfl _ _ _ rfl (.slice _ _ _) rfl ?_); intro vq hvq; simp [go_sem] at hvq; subst hvq; refine appendA hL ?_; clear hL; intro _ _ _ hL; try dsimp only at hL) | ((with_reducible refine wpA_make rfl _ _ _ rfl _ rfl rfl ?_); refine makeA hL ?_))
        go_loopw [35] (fun s35 wr => ∃ k : Nat, k ≤ l.length ∧ s35 = .int .i64 k ∧ Holds w wr [blk bh #[.int .i64 W, .int .i64 H, .slice (some ⟨bm, 0, none⟩) (W * H) (W * H)] 43, blk bm (arrU (W * H) (maskF W (rowF p j (inRuns (l.take k))))) 5, blk b2 #[.int .i64 0, .int .i64 0, .slice none 0 0] 43, blk b1 #[.int .i64 W, .int .i64 H, .slice (some ⟨b, o, none⟩) H sc] 26] [])
          (fun s35 wr => l.length - (intOf s35).toNat)
        case atStart => exact ⟨0, by omega, rfl, hL⟩
        case round =>
          clear hL
          obtain ⟨k, hk, rfl, hL⟩ := hrel
          by_cases hkt : k < l.length
          · obtain ⟨b', o', rfl, hrr⟩ := Hl.out k hkt
            obtain ⟨f1, f2, f3⟩ := HB.out k hkt
            have He := Lib.hid (ofMid_end l k hkt)
            have Hs := Lib.hid (ofMid_start l k (l.getD k (0, 0)).1)
            have Ht := Lib.hid (ofMid_step l k (l.getD k (0, 0)).1)
            generalize (l.getD k (0,0)).1 = f at *
            generalize (l.getD k (0,0)).2 = t at *
            go_wp2_with (first | (first | (clear hL n1; with_reducible intro b1 w1 hL) | (clear hL n2; with_reducible intro b2 w2 hL) | (clear hL n3; with_reducible intro b3 w3 hL) | (clear hL; with_reducible intro _ _ hL)) | (with_reducible refine wpC_alloc rfl _ rfl _ _ inferInstance hL ?_) | (with_reducible first | refine wpB_agg rfl _ _ _ rfl rfl hL ?_ | refine wpB_one rfl _ _ (.int _ _) rfl rfl rfl hL ?_ | refine wpB_one rfl _ _ (.slice _ _ _) rfl rfl rfl hL ?_ | refine wpB_one rfl _ _ (.bool _) rfl rfl rfl hL ?_ | refine wpB_one rfl _ _ (.pointer _) rfl rfl rfl hL ?_ | refine wpB_one rfl _ _ (.func _ _ _) rfl rfl rfl hL ?_) | (with_reducible first | refine wpH_max rfl _ _ _ _ rfl _ _ rfl rfl ?_ | refine wpH_min rfl _ _ _ _ rfl _ _ rfl rfl ?_) | ((with_reducible refine wpA_load rfl _ _ rfl _ rfl ?_); first | refine loadA hL ?_ | refine loadR hL ?_ | refine loadC hL ?_ | refine loadD ?_ | refine loadE hL ?_ | refine loadF ?_) | ((with_reducible refine wpA_index rfl _ _ _ rfl _ rfl _ rfl ?_); first | (refine indexA ?_; try rw [Int.toNat_natCast]) | refine indexC ?_) | ((with_reducible refine wpA_store rfl _ _ _ rfl _ rfl (.agg _) rfl ?_); refine storeR hL ?_; clear hL; intro _ hL) | ((with_reducible first | refine wpA_store rfl _ _ _ rfl _ rfl (.int _ _) rfl ?_ | refine wpA_store rfl _ _ _ rfl _ rfl (.slice _ _ _) rfl ?_ | refine wpA_store rfl _ _ _ rfl _ rfl (.bool _) rfl ?_ | refine wpA_store rfl _ _ _ rfl _ rfl (.pointer _) rfl ?_ | refine wpA_store rfl _ _ _ rfl _ rfl (.func _ _ _) rfl ?_); (first | refine storeA hL ?_ | refine storeO hL ?_); (clear hL; intro _ hL)) | ((with_reducible refine wpA_lit rfl _ _ _ rfl ?_); first | refine litA1 hL ?_ | refine litA2 hL ?_) | ((with_reducible refine wpA_append rfl _ _ _ rfl (.slice _ _ _) rfl ?_); intro vq hvq; simp [go_sem] at hvq; subst hvq; refine appendA hL ?_; clear hL; intro _ _ _ hL; try dsimp only at hL) | ((with_reducible refine wpA_make rfl _ _ _ rfl _ rfl rfl ?_); refine makeA hL ?_))
            go_loopw [9] (fun s9 wr => ∃ i : Nat, s9 = .int .i64 i ∧ f ≤ (i : Int) ∧ (i : Int) ≤ t ∧ Holds w wr [blk b3 #[.int .i64 f, .int .i64 t] 35, blk bh #[.int .i64 W, .int .i64 H, .slice (some ⟨bm, 0, none⟩) (W * H) (W * H)] 43, blk bm (arrU (W * H) (maskF W (rowF p j (ofMid l k f i)))) 5, blk b2 #[.int .i64 0, .int .i64 0, .slice none 0 0] 43, blk b1 #[.int .i64 W, .int .i64 H, .slice (some ⟨b, o, none⟩) H sc] 26] [])
              (fun s9 wr => (64 - intOf s9).toNat)
            case atStart =>
              rw [← Hs.out] at hL
              have e1 : max 0 f = f := by omega
              have e2 : ((f.toNat : Nat) : Int) = f := by omega
              rw [e1] at hL
              exact ⟨f.toNat, by rw [e2], by omega, by omega, by rw [e2]; exact hL⟩
            case round =>
              clear hL
              obtain ⟨i, rfl, hi1, hi2, hL⟩ := hrel
              by_cases hit : (i : Int) < t
              · have hiW : i < W := by omega
                have hidx : j * W + i < W * H := by
                  have := Nat.mul_le_mul_right W (show j + 1 ≤ H by omega)
                  rw [Nat.add_mul, Nat.mul_comm H W] at this
                  omega
                have hidx2 : (j : Int) * (W : Int) + (i : Int) < ((W * H : Nat) : Int) := by
                  have : ((j * W + i : Nat) : Int) < ((W * H : Nat) : Int) := by omega
                  simpa using this
                have hidx3 : 0 ≤ (j : Int) * (W : Int) := Int.mul_nonneg (by omega) (by omega)
                have hidx4 : ((W * H : Nat) : Int) = (W : Int) * (H : Int) := by simp
                go_wp2_with (first | (first | (clear hL n1; with_reducible intro b1 w1 hL) | (clear hL n2; with_reducible intro b2 w2 hL) | (clear hL n3; with_reducible intro b3 w3 hL) | (clear hL; with_reducible intro _ _ hL)) | (with_reducible refine wpC_alloc rfl _ rfl _ _ inferInstance hL ?_) | (with_reducible first | refine wpB_agg rfl _ _ _ rfl rfl hL ?_ | refine wpB_one rfl _ _ (.int _ _) rfl rfl rfl hL ?_ | refine wpB_one rfl _ _ (.slice _ _ _) rfl rfl rfl hL ?_ | refine wpB_one rfl _ _ (.bool _) rfl rfl rfl hL ?_ | refine wpB_one rfl _ _ (.pointer _) rfl rfl rfl hL ?_ | refine wpB_one rfl _ _ (.func _ _ _) rfl rfl rfl hL ?_) | (with_reducible first | refine wpH_max rfl _ _ _ _ rfl _ _ rfl rfl ?_ | refine wpH_min rfl _ _ _ _ rfl _ _ rfl rfl ?_) | ((with_reducible refine wpA_load rfl _ _ rfl _ rfl ?_); first | refine loadA hL ?_ | refine loadR hL ?_ | refine loadC hL ?_ | refine loadD ?_ | refine loadE hL ?_ | refine loadF ?_) | ((with_reducible refine wpA_index rfl _ _ _ rfl _ rfl _ rfl ?_); first | (refine indexA ?_; try rw [Int.toNat_natCast]) | refine indexC ?_) | ((with_reducible refine wpA_store rfl _ _ _ rfl _ rfl (.agg _) rfl ?_); refine storeR hL ?_; clear hL; intro _ hL) | ((with_reducible first | refine wpA_store rfl _ _ _ rfl _ rfl (.int _ _) rfl ?_ | refine wpA_store rfl _ _ _ rfl _ rfl (.slice _ _ _) rfl ?_ | refine wpA_store rfl _ _ _ rfl _ rfl (.bool _) rfl ?_ | refine wpA_store rfl _ _ _ rfl _ rfl (.pointer _) rfl ?_ | refine wpA_store rfl _ _ _ rfl _ rfl (.func _ _ _) rfl ?_); (first | refine storeA hL ?_ | refine storeO hL ?_); (clear hL; intro _ hL)) | ((with_reducible refine wpA_lit rfl _ _ _ rfl ?_); first | refine litA1 hL ?_ | refine litA2 hL ?_) | ((with_reducible refine wpA_append rfl _ _ _ rfl (.slice _ _ _) rfl ?_); intro vq hvq; simp [go_sem] at hvq; subst hvq; refine appendA hL ?_; clear hL; intro _ _ _ hL; try dsimp only at hL) | ((with_reducible refine wpA_make rfl _ _ _ rfl _ rfl rfl ?_); refine makeA hL ?_))
                go_roundw
                case rel =>
                  rw [maskF_set p _ hiW, Ht.out i (by omega)] at hL
                  exact ⟨i + 1, by go_num, by omega, by omega, hL⟩
                case measure => simp [intOf]; omega
              · have He2 := He.out i (by omega) (by omega) (by omega)
                rw [He2] at hL
                clear He2
                go_wp2_with (first | (first | (clear hL n1; with_reducible intro b1 w1 hL) | (clear hL n2; with_reducible intro b2 w2 hL) | (clear hL n3; with_reducible intro b3 w3 hL) | (clear hL; with_reducible intro _ _ hL)) | (with_reducible refine wpC_alloc rfl _ rfl _ _ inferInstance hL ?_) | (with_reducible first | refine wpB_agg rfl _ _ _ rfl rfl hL ?_ | refine wpB_one rfl _ _ (.int _ _) rfl rfl rfl hL ?_ | refine wpB_one rfl _ _ (.slice _ _ _) rfl rfl rfl hL ?_ | refine wpB_one rfl _ _ (.bool _) rfl rfl rfl hL ?_ | refine wpB_one rfl _ _ (.pointer _) rfl rfl rfl hL ?_ | refine wpB_one rfl _ _ (.func _ _ _) rfl rfl rfl hL ?_) | (with_reducible first | refine wpH_max rfl _ _ _ _ rfl _ _ rfl rfl ?_ | refine wpH_min rfl _ _ _ _ rfl _ _ rfl rfl ?_) | ((with_reducible refine wpA_load rfl _ _ rfl _ rfl ?_); first | refine loadA hL ?_ | refine loadR hL ?_ | refine loadC hL ?_ | refine loadD ?_ | refine loadE hL ?_ | refine loadF ?_) | ((with_reducible refine wpA_index rfl _ _ _ rfl _ rfl _ rfl ?_); first | (refine indexA ?_; try rw [Int.toNat_natCast]) | refine indexC ?_) | ((with_reducible refine wpA_store rfl _ _ _ rfl _ rfl (.agg _) rfl ?_); refine storeR hL ?_; clear hL; intro _ hL) | ((with_reducible first | refine wpA_store rfl _ _ _ rfl _ rfl (.int _ _) rfl ?_ | refine wpA_store rfl _ _ _ rfl _ rfl (.slice _ _ _) rfl ?_ | refine wpA_store rfl _ _ _ rfl _ rfl (.bool _) rfl ?_ | refine wpA_store rfl _ _ _ rfl _ rfl (.pointer _) rfl ?_ | refine wpA_store rfl _ _ _ rfl _ rfl (.func _ _ _) rfl ?_); (first | refine storeA hL ?_ | refine storeO hL ?_); (clear hL; intro _ hL)) | ((with_reducible refine wpA_lit rfl _ _ _ rfl ?_); first | refine litA1 hL ?_ | refine litA2 hL ?_) | ((with_reducible refine wpA_append rfl _ _ _ rfl (.slice _ _ _) rfl ?_); intro vq hvq; simp [go_sem] at hvq; subst hvq; refine appendA hL ?_; clear hL; intro _ _ _ hL; try dsimp only at hL) | ((with_reducible refine wpA_make rfl _ _ _ rfl _ rfl rfl ?_); refine makeA hL ?_))
                go_roundw
                case rel => exact ⟨k + 1, by omega, by go_num, hL.drop .here⟩
                case measure => simp [intOf]; omega
          · have e : k = l.length := by omega
            subst e
            rw [List.take_length, maskF_congr hw0 (rowF_next p j _ HP.out)] at hL
            go_wp2_with (first | (first | (clear hL n1; with_reducible intro b1 w1 hL) | (clear hL n2; with_reducible intro b2 w2 hL) | (clear hL n3; with_reducible intro b3 w3 hL) | (clear hL; with_reducible intro _ _ hL)) | (with_reducible refine wpC_alloc rfl _ rfl _ _ inferInstance hL ?_) | (with_reducible first | refine wpB_agg rfl _ _ _ rfl rfl hL ?_ | refine wpB_one rfl _ _ (.int _ _) rfl rfl rfl hL ?_ | refine wpB_one rfl _ _ (.slice _ _ _) rfl rfl rfl hL ?_ | refine wpB_one rfl _ _ (.bool _) rfl rfl rfl hL ?_ | refine wpB_one rfl _ _ (.pointer _) rfl rfl rfl hL ?_ | refine wpB_one rfl _ _ (.func _ _ _) rfl rfl rfl hL ?_) | (with_reducible first | refine wpH_max rfl _ _ _ _ rfl _ _ rfl rfl ?_ | refine wpH_min rfl _ _ _ _ rfl _ _ rfl rfl ?_) | ((with_reducible refine wpA_load rfl _ _ rfl _ rfl ?_); first | refine loadA hL ?_ | refine loadR hL ?_ | refine loadC hL ?_ | refine loadD ?_ | refine loadE hL ?_ | refine loadF ?_) | ((with_reducible refine wpA_index rfl _ _ _ rfl _ rfl _ rfl ?_); first | (refine indexA ?_; try rw [Int.toNat_natCast]) | refine indexC ?_) | ((with_reducible refine wpA_store rfl _ _ _ rfl _ rfl (.agg _) rfl ?_); refine storeR hL ?_; clear hL; intro _ hL) | ((with_reducible first | refine wpA_store rfl _ _ _ rfl _ rfl (.int _ _) rfl ?_ | refine wpA_store rfl _ _ _ rfl _ rfl (.slice _ _ _) rfl ?_ | refine wpA_store rfl _ _ _ rfl _ rfl (.bool _) rfl ?_ | refine wpA_store rfl _ _ _ rfl _ rfl (.pointer _) rfl ?_ | refine wpA_store rfl _ _ _ rfl _ rfl (.func _ _ _) rfl ?_); (first | refine storeA hL ?_ | refine storeO hL ?_); (clear hL; intro _ hL)) | ((with_reducible refine wpA_lit rfl _ _ _ rfl ?_); first | refine litA1 hL ?_ | refine litA2 hL ?_) | ((with_reducible refine wpA_append rfl _ _ _ rfl (.slice _ _ _) rfl ?_); intro vq hvq; simp [go_sem] at hvq; subst hvq; refine appendA hL ?_; clear hL; intro _ _ _ hL; try dsimp only at hL) | ((with_reducible refine wpA_make rfl _ _ _ rfl _ rfl rfl ?_); refine makeA hL ?_))
            go_roundw
            case rel => exact ⟨j + 1, by omega, by go_num, hL⟩
            case measure => simp [intOf]; omega
      · have e : j = H := by omega
        subst e
        go_wp2_with (first | (first | (clear hL n1; with_reducible intro b1 w1 hL) | (clear hL n2; with_reducible intro b2 w2 hL) | (clear hL n3; with_reducible intro b3 w3 hL) | (clear hL; with_reducible intro _ _ hL)) | (with_reducible refine wpC_alloc rfl _ rfl _ _ inferInstance hL ?_) | (with_reducible first | refine wpB_agg rfl _ _ _ rfl rfl hL ?_ | refine wpB_one rfl _ _ (.int _ _) rfl rfl rfl hL ?_ | refine wpB_one rfl _ _ (.slice _ _ _) rfl rfl rfl hL ?_ | refine wpB_one rfl _ _ (.bool _) rfl rfl rfl hL ?_ | refine wpB_one rfl _ _ (.pointer _) rfl rfl rfl hL ?_ | refine wpB_one rfl _ _ (.func _ _ _) rfl rfl rfl hL ?_) | (with_reducible first | refine wpH_max rfl _ _ _ _ rfl _ _ rfl rfl ?_ | refine wpH_min rfl _ _ _ _ rfl _ _ rfl rfl ?_) | ((with_reducible refine wpA_load rfl _ _ rfl _ rfl ?_); first | refine loadA hL ?_ | refine loadR hL ?_ | refine loadC hL ?_ | refine loadD ?_ | refine loadE hL ?_ | refine loadF ?_) | ((with_reducible refine wpA_index rfl _ _ _ rfl _ rfl _ rfl ?_); first | (refine indexA ?_; try rw [Int.toNat_natCast]) | refine indexC ?_) | ((with_reducible refine wpA_store rfl _ _ _ rfl _ rfl (.agg _) rfl ?_); refine storeR hL ?_; clear hL; intro _ hL) | ((with_reducible first | refine wpA_store rfl _ _ _ rfl _ rfl (.int _ _) rfl ?_ | refine wpA_store rfl _ _ _ rfl _ rfl (.slice _ _ _) rfl ?_ | refine wpA_store rfl _ _ _ rfl _ rfl (.bool _) rfl ?_ | refine wpA_store rfl _ _ _ rfl _ rfl (.pointer _) rfl ?_ | refine wpA_store rfl _ _ _ rfl _ rfl (.func _ _ _) rfl ?_); (first | refine storeA hL ?_ | refine storeO hL ?_); (clear hL; intro _ hL)) | ((with_reducible refine wpA_lit rfl _ _ _ rfl ?_); first | refine litA1 hL ?_ | refine litA2 hL ?_) | ((with_reducible refine wpA_append rfl _ _ _ rfl (.slice _ _ _) rfl ?_); intro vq hvq; simp [go_sem] at hvq; subst hvq; refine appendA hL ?_; clear hL; intro _ _ _ hL; try dsimp only at hL) | ((with_reducible refine wpA_make rfl _ _ _ rfl _ rfl rfl ?_); refine makeA hL ?_))
        refine bodyPost_ret (results_row2 inferInstance rfl _ hL b2 rfl _ _ (.there (.there .here)) rfl) rfl ⟨some ⟨bm, 0, none⟩, rfl, hL.below, ?_⟩
        refine ((hL.settle (.there .here) (φ := fun w => w.heap[bm]? = some (.cells (arrU (W * j) (maskF W (rowF p j fun _ => false))) 5 (0, 0))) fun _ h => h).map fun w' h1 => ?_).fresh
        refine ⟨_, rfl, ?_⟩
        have := bytes_of h1 (by unfold maxLen; omega)
        rw [show (List.range (W * j)).map (maskF W (rowF p j fun _ => false)) = (pixMask W j p).B from ?_] at this
        · exact this
        · refine List.map_congr_left fun x hx => ?_
          have hx : x < W * j := by simpa using hx
          have : x / W < j := Nat.div_lt_of_lt_mul hx
          simp [maskF, rowF, this]
  · rename_i hH
    clear hH
    replace hL := (hL.alloc2 #[.int .i64 W, .int .i64 H, .slice (some ⟨w3.heap.size + 1, 0, none⟩) (W * H) (W * H)] (arrU (W * H) fun _ => 0) 43 5).swapM
    obtain ⟨w4, hw4⟩ : ∃ w4, w4 = ((w3.alloc (.cells #[.int .i64 W, .int .i64 H, .slice (some ⟨w3.heap.size + 1, 0, none⟩) (W * H) (W * H)] 43)).alloc (.cells (arrU (W * H) fun _ => 0) 5)).drew := ⟨_, rfl⟩
    rw [← hw4] at hL ⊢
    clear hw4
    generalize w3.heap.size + 1 = bm at hL ⊢
    generalize w3.heap.size = bh at hL ⊢
    rw [show arrU (W * H) (fun _ => 0) = arrU (W * H) (maskF W (rowF p 0 fun _ => false)) from arrU_congr fun x _ => by simp [maskF, rowF]] at hL
    go_wp2_with (first | (first | (clear hL n1; with_reducible intro b1 w1 hL) | (clear hL n2; with_reducible intro b2 w2 hL) | (clear hL n3; with_reducible intro b3 w3 hL) | (clear hL; with_reducible intro _ _ hL)) | (with_reducible refine wpC_alloc rfl _ rfl _ _ inferInstance hL ?_) | (with_reducible first | refine wpB_agg rfl _ _ _ rfl rfl hL ?_ | refine wpB_one rfl _ _ (.int _ _) rfl rfl rfl hL ?_ | refine wpB_one rfl _ _ (.slice _ _ _) rfl rfl rfl hL ?_ | refine wpB_one rfl _ _ (.bool _) rfl rfl rfl hL ?_ | refine wpB_one rfl _ _ (.pointer _) rfl rfl rfl hL ?_ | refine wpB_one rfl _ _ (.func _ _ _) rfl rfl rfl hL ?_) | (with_reducible first | refine wpH_max rfl _ _ _ _ rfl _ _ rfl rfl ?_ | refine wpH_min rfl _ _ _ _ rfl _ _ rfl rfl ?_) | ((with_reducible refine wpA_load rfl _ _ rfl _ rfl ?_); first | refine loadA hL ?_ | refine loadR hL ?_ | refine loadC hL ?_ | refine loadD ?_ | refine loadE hL ?_ | refine loadF ?_) | ((with_reducible refine wpA_index rfl _ _ _ rfl _ rfl _ rfl ?_); first | (refine indexA ?_; try rw [Int.toNat_natCast]) | refine indexC ?_) | ((with_reducible refine wpA_store rfl _ _ _ rfl _ rfl (.agg _) rfl ?_); refine storeR hL ?_; clear hL; intro _ hL) | ((with_reducible first | refine wpA_store rfl _ _ _ rfl _ rfl (.int _ _) rfl ?_ | refine wpA_store rfl _ _ _ rfl _ rfl (.slice _ _ _) rfl ?_ | refine wpA_store rfl _ _ _ rfl _ rfl (.bool _) rfl ?_ | refine wpA_store rfl _ _ _ rfl _ rfl (.pointer _) rfl ?_ | refine wpA_store rfl _ _ _ rfl _ rfl (.func _ _ _) rfl ?_); (first | refine storeA hL ?_ | refine storeO hL ?_); (clear hL; intro _ hL)) | ((with_reducible refine wpA_lit rfl _ _ _ rfl ?_); first | refine litA1 hL ?_ | refine litA2 hL ?_) | ((with_reducible refine wpA_append rfl _ _ _ rfl (.slice _ _ _) rfl ?_); intro vq hvq; simp [go_sem] at hvq; subst hvq; refine appendA hL ?_; clear hL; intro _ _ _ hL; try dsimp only at hL) | ((with_reducible refine wpA_make rfl _ _ _ rfl _ rfl rfl ?_); refine makeA hL ?_))
    go_loopw [28] (fun s28 wr => ∃ j : Nat, j ≤ H ∧ s28 = .int .i64 j ∧ Holds w wr [blk bh #[.int .i64 W, .int .i64 H, .slice (some ⟨bm, 0, none⟩) (W * H) (W * H)] 43, blk bm (arrU (W * H) (maskF W (rowF p j fun _ => false))) 5, blk b2 #[.int .i64 0, .int .i64 0, .slice none 0 0] 43, blk b1 #[.int .i64 W, .int .i64 H, .slice sa H sc] 26] [])
      (fun s28 wr => (64 - intOf s28).toNat)
    case atStart => exact ⟨0, by omega, rfl, hL⟩
    case round =>
      clear hL
      obtain ⟨j, hj, rfl, hL⟩ := hrel
      by_cases hjt : j < H
      · obtain ⟨b, o, va, vn, vc, rfl, hc, hr⟩ := Hrow.out j hjt
        obtain ⟨a2, cap2, he, hlc, hcm, hel⟩ := hr.parts
        cases he
        have HP := Lib.hid (show ∀ c, c < W → inRuns (runsTo (p j) W) c = p j c from fun c hc => by rw [inRuns_runsTo _ (by omega)]; simp [hc])
        have HB := Lib.hid (mayFrom_bounds (runsTo (p j) W) (-1) (mayFrom_runsTo (p j) W).1)
        generalize runsTo (p j) W = l at *
        have Hl := Lib.hid hel
        clear hel hr
        unfold maxLen at hcm
        go_wp2_with (first | (first | (clear hL n1; with_reducible intro b1 w1 hL) | (clear hL n2; with_reducible intro b2 w2 hL) | (clear hL n3; with_reducible intro b3 w3 hL) | (clear hL; with_reducible intro _ _ hL)) | (with_reducible refine wpC_alloc rfl _ rfl _ _ inferInstance hL ?_) | (with_reducible first | refine wpB_agg rfl _ _ _ rfl rfl hL ?_ | refine wpB_one rfl _ _ (.int _ _) rfl rfl rfl hL ?_ | refine wpB_one rfl _ _ (.slice _ _ _) rfl rfl rfl hL ?_ | refine wpB_one rfl _ _ (.bool _) rfl rfl rfl hL ?_ | refine wpB_one rfl _ _ (.pointer _) rfl rfl rfl hL ?_ | refine wpB_one rfl _ _ (.func _ _ _) rfl rfl rfl hL ?_) | (with_reducible first | refine wpH_max rfl _ _ _ _ rfl _ _ rfl rfl ?_ | refine wpH_min rfl _ _ _ _ rfl _ _ rfl rfl ?_) | ((with_reducible refine wpA_load rfl _ _ rfl _ rfl ?_); first | refine loadA hL ?_ | refine loadR hL ?_ | refine loadC hL ?_ | refine loadD ?_ | refine loadE hL ?_ | refine loadF ?_) | ((with_reducible refine wpA_index rfl _ _ _ rfl _ rfl _ rfl ?_); first | (refine indexA ?_; try rw [Int.toNat_natCast]) | refine indexC ?_) | ((with_reducible refine wpA_store rfl _ _ _ rfl _ rfl (.agg _) rfl ?_); refine storeR hL ?_; clear hL; intro _ hL) | ((with_reducible first | refine wpA_store rfl _ _ _ rfl _ rfl (.int _ _) rfl ?_ | refine wpA_store rfl _ _ _ rfl _ rfl (.slice _ _ _) rfl ?_ | refine wpA_store rfl _ _ _ rfl _ rfl (.bool _) rfl ?_ | refine wpA_store rfl _ _ _ rfl _ rfl (.pointer _) rfl ?_ | refine wpA_store rfl _ _ _ rfl _ rfl (.func _ _ _) rfl ?_); (first | refine storeA hL ?_ | refine storeO hL ?_); (clear hL; intro _ hL)) | ((with_reducible refine wpA_lit rfl _ _ _ rfl ?_); first | refine litA1 hL ?_ | refine litA2 hL ?_) | ((with_reducible refine wpA_append rfl _ _ _ rfl (.slice _ _ _) rfl ?_); intro vq hvq; simp [go_sem] at hvq; subst hvq; refine appendA hL ?_; clear hL; intro _ _ _ hL; try dsimp only at hL) | ((with_reducible refine wpA_make rfl _ _ _ rfl _ rfl rfl ?_); refine makeA hL ?_))
        go_loopw [35] (fun s35 wr => ∃ k : Nat, k ≤ l.length ∧ s35 = .int .i64 k ∧ Holds w wr [blk bh #[.int .i64 W, .int .i64 H, .slice (some ⟨bm, 0, none⟩) (W * H) (W * H)] 43, blk bm (arrU (W * H) (maskF W (rowF p j (inRuns (l.take k))))) 5, blk b2 #[.int .i64 0, .int .i64 0, .slice none 0 0] 43, blk b1 #[.int .i64 W, .int .i64 H, .slice (some ⟨b, o, none⟩) H sc] 26] [])
          (fun s35 wr => l.length - (intOf s35).toNat)
        case atStart => exact ⟨0, by omega, rfl, hL⟩
        case round =>
          clear hL
          obtain ⟨k, hk, rfl, hL⟩ := hrel
          by_cases hkt : k < l.length
          · obtain ⟨b', o', rfl, hrr⟩ := Hl.out k hkt
            obtain ⟨f1, f2, f3⟩ := HB.out k hkt
            have He := Lib.hid (ofMid_end l k hkt)
            have Hs := Lib.hid (ofMid_start l k (l.getD k (0, 0)).1)
            have Ht := Lib.hid (ofMid_step l k (l.getD k (0, 0)).1)
            generalize (l.getD k (0,0)).1 = f at *
            generalize (l.getD k (0,0)).2 = t at *
            go_wp2_with (first | (first | (clear hL n1; with_reducible intro b1 w1 hL) | (clear hL n2; with_reducible intro b2 w2 hL) | (clear hL n3; with_reducible intro b3 w3 hL) | (clear hL; with_reducible intro _ _ hL)) | (with_reducible refine wpC_alloc rfl _ rfl _ _ inferInstance hL ?_) | (with_reducible first | refine wpB_agg rfl _ _ _ rfl rfl hL ?_ | refine wpB_one rfl _ _ (.int _ _) rfl rfl rfl hL ?_ | refine wpB_one rfl _ _ (.slice _ _ _) rfl rfl rfl hL ?_ | refine wpB_one rfl _ _ (.bool _) rfl rfl rfl hL ?_ | refine wpB_one rfl _ _ (.pointer _) rfl rfl rfl hL ?_ | refine wpB_one rfl _ _ (.func _ _ _) rfl rfl rfl hL ?_) | (with_reducible first | refine wpH_max rfl _ _ _ _ rfl _ _ rfl rfl ?_ | refine wpH_min rfl _ _ _ _ rfl _ _ rfl rfl ?_) | ((with_reducible refine wpA_load rfl _ _ rfl _ rfl ?_); first | refine loadA hL ?_ | refine loadR hL ?_ | refine loadC hL ?_ | refine loadD ?_ | refine loadE hL ?_ | refine loadF ?_) | ((with_reducible refine wpA_index rfl _ _ _ rfl _ rfl _ rfl ?_); first | (refine indexA ?_; try rw [Int.toNat_natCast]) | refine indexC ?_) | ((with_reducible refine wpA_store rfl _ _ _ rfl _ rfl (.agg _) rfl ?_); refine storeR hL ?_; clear hL; intro _ hL) | ((with_reducible first | refine wpA_store rfl _ _ _ rfl _ rfl (.int _ _) rfl ?_ | refine wpA_store rfl _ _ _ rfl _ rfl (.slice _ _ _) rfl ?_ | refine wpA_store rfl _ _ _ rfl _ rfl (.bool _) rfl ?_ | refine wpA_store rfl _ _ _ rfl _ rfl (.pointer _) rfl ?_ | refine wpA_store rfl _ _ _ rfl _ rfl (.func _ _ _) rfl ?_); (first | refine storeA hL ?_ | refine storeO hL ?_); (clear hL; intro _ hL)) | ((with_reducible refine wpA_lit rfl _ _ _ rfl ?_); first | refine litA1 hL ?_ | refine litA2 hL ?_) | ((with_reducible refine wpA_append rfl _ _ _ rfl (.slice _ _ _) rfl ?_); intro vq hvq; simp [go_sem] at hvq; subst hvq; refine appendA hL ?_; clear hL; intro _ _ _ hL; try dsimp only at hL) | ((with_reducible refine wpA_make rfl _ _ _ rfl _ rfl rfl ?_); refine makeA hL ?_))
            go_loopw [9] (fun s9 wr => ∃ i : Nat, s9 = .int .i64 i ∧ f ≤ (i : Int) ∧ (i : Int) ≤ t ∧ Holds w wr [blk b3 #[.int .i64 f, .int .i64 t] 35, blk bh #[.int .i64 W, .int .i64 H, .slice (some ⟨bm, 0, none⟩) (W * H) (W * H)] 43, blk bm (arrU (W * H) (maskF W (rowF p j (ofMid l k f i)))) 5, blk b2 #[.int .i64 0, .int .i64 0, .slice none 0 0] 43, blk b1 #[.int .i64 W, .int .i64 H, .slice (some ⟨b, o, none⟩) H sc] 26] [])
              (fun s9 wr => (64 - intOf s9).toNat)
            case atStart =>
              rw [← Hs.out] at hL
              have e1 : max 0 f = f := by omega
              have e2 : ((f.toNat : Nat) : Int) = f := by omega
              rw [e1] at hL
              exact ⟨f.toNat, by rw [e2], by omega, by omega, by rw [e2]; exact hL⟩
            case round =>
              clear hL
              obtain ⟨i, rfl, hi1, hi2, hL⟩ := hrel
              by_cases hit : (i : Int) < t
              · have hiW : i < W := by omega
                have hidx : j * W + i < W * H := by
                  have := Nat.mul_le_mul_right W (show j + 1 ≤ H by omega)
                  rw [Nat.add_mul, Nat.mul_comm H W] at this
                  omega
                have hidx2 : (j : Int) * (W : Int) + (i : Int) < ((W * H : Nat) : Int) := by
                  have : ((j * W + i : Nat) : Int) < ((W * H : Nat) : Int) := by omega
                  simpa using this
                have hidx3 : 0 ≤ (j : Int) * (W : Int) := Int.mul_nonneg (by omega) (by omega)
                have hidx4 : ((W * H : Nat) : Int) = (W : Int) * (H : Int) := by simp
                go_wp2_with (first | (first | (clear hL n1; with_reducible intro b1 w1 hL) | (clear hL n2; with_reducible intro b2 w2 hL) | (clear hL n3; with_reducible intro b3 w3 hL) | (clear hL; with_reducible intro _ _ hL)) | (with_reducible refine wpC_alloc rfl _ rfl _ _ inferInstance hL ?_) | (with_reducible first | refine wpB_agg rfl _ _ _ rfl rfl hL ?_ | refine wpB_one rfl _ _ (.int _ _) rfl rfl rfl hL ?_ | refine wpB_one rfl _ _ (.slice _ _ _) rfl rfl rfl hL ?_ | refine wpB_one rfl _ _ (.bool _) rfl rfl rfl hL ?_ | refine wpB_one rfl _ _ (.pointer _) rfl rfl rfl hL ?_ | refine wpB_one rfl _ _ (.func _ _ _) rfl rfl rfl hL ?_) | (with_reducible first | refine wpH_max rfl _ _ _ _ rfl _ _ rfl rfl ?_ | refine wpH_min rfl _ _ _ _ rfl _ _ rfl rfl ?_) | ((with_reducible refine wpA_load rfl _ _ rfl _ rfl ?_); first | refine loadA hL ?_ | refine loadR hL ?_ | refine loadC hL ?_ | refine loadD ?_ | refine loadE hL ?_ | refine loadF ?_) | ((with_reducible refine wpA_index rfl _ _ _ rfl _ rfl _ rfl ?_); first | (refine indexA ?_; try rw [Int.toNat_natCast]) | refine indexC ?_) | ((with_reducible refine wpA_store rfl _ _ _ rfl _ rfl (.agg _) rfl ?_); refine storeR hL ?_; clear hL; intro _ hL) | ((with_reducible first | refine wpA_store rfl _ _ _ rfl _ rfl (.int _ _) rfl ?_ | refine wpA_store rfl _ _ _ rfl _ rfl (.slice _ _ _) rfl ?_ | refine wpA_store rfl _ _ _ rfl _ rfl (.bool _) rfl ?_ | refine wpA_store rfl _ _ _ rfl _ rfl (.pointer _) rfl ?_ | refine wpA_store rfl _ _ _ rfl _ rfl (.func _ _ _) rfl ?_); (first | refine storeA hL ?_ | refine storeO hL ?_); (clear hL; intro _ hL)) | ((with_reducible refine wpA_lit rfl _ _ _ rfl ?_); first | refine litA1 hL ?_ | refine litA2 hL ?_) | ((with_reducible refine wpA_append rfl _ _ _ rfl (.slice _ _ _) rfl ?_); intro vq hvq; simp [go_sem] at hvq; subst hvq; refine appendA hL ?_; clear hL; intro _ _ _ hL; try dsimp only at hL) | ((with_reducible refine wpA_make rfl _ _ _ rfl _ rfl rfl ?_); refine makeA hL ?_))
                go_roundw
                case rel =>
                  rw [maskF_set p _ hiW, Ht.out i (by omega)] at hL
                  exact ⟨i + 1, by go_num, by omega, by omega, hL⟩
                case measure => simp [intOf]; omega
              · have He2 := He.out i (by omega) (by omega) (by omega)
                rw [He2] at hL
                clear He2
                go_wp2_with (first | (first | (clear hL n1; with_reducible intro b1 w1 hL) | (clear hL n2; with_reducible intro b2 w2 hL) | (clear hL n3; with_reducible intro b3 w3 hL) | (clear hL; with_reducible intro _ _ hL)) | (with_reducible refine wpC_alloc rfl _ rfl _ _ inferInstance hL ?_) | (with_reducible first | refine wpB_agg rfl _ _ _ rfl rfl hL ?_ | refine wpB_one rfl _ _ (.int _ _) rfl rfl rfl hL ?_ | refine wpB_one rfl _ _ (.slice _ _ _) rfl rfl rfl hL ?_ | refine wpB_one rfl _ _ (.bool _) rfl rfl rfl hL ?_ | refine wpB_one rfl _ _ (.pointer _) rfl rfl rfl hL ?_ | refine wpB_one rfl _ _ (.func _ _ _) rfl rfl rfl hL ?_) | (with_reducible first | refine wpH_max rfl _ _ _ _ rfl _ _ rfl rfl ?_ | refine wpH_min rfl _ _ _ _ rfl _ _ rfl rfl ?_) | ((with_reducible refine wpA_load rfl _ _ rfl _ rfl ?_); first | refine loadA hL ?_ | refine loadR hL ?_ | refine loadC hL ?_ | refine loadD ?_ | refine loadE hL ?_ | refine loadF ?_) | ((with_reducible refine wpA_index rfl _ _ _ rfl _ rfl _ rfl ?_); first | (refine indexA ?_; try rw [Int.toNat_natCast]) | refine indexC ?_) | ((with_reducible refine wpA_store rfl _ _ _ rfl _ rfl (.agg _) rfl ?_); refine storeR hL ?_; clear hL; intro _ hL) | ((with_reducible first | refine wpA_store rfl _ _ _ rfl _ rfl (.int _ _) rfl ?_ | refine wpA_store rfl _ _ _ rfl _ rfl (.slice _ _ _) rfl ?_ | refine wpA_store rfl _ _ _ rfl _ rfl (.bool _) rfl ?_ | refine wpA_store rfl _ _ _ rfl _ rfl (.pointer _) rfl ?_ | refine wpA_store rfl _ _ _ rfl _ rfl (.func _ _ _) rfl ?_); (first | refine storeA hL ?_ | refine storeO hL ?_); (clear hL; intro _ hL)) | ((with_reducible refine wpA_lit rfl _ _ _ rfl ?_); first | refine litA1 hL ?_ | refine litA2 hL ?_) | ((with_reducible refine wpA_append rfl _ _ _ rfl (.slice _ _ _) rfl ?_); intro vq hvq; simp [go_sem] at hvq; subst hvq; refine appendA hL ?_; clear hL; intro _ _ _ hL; try dsimp only at hL) | ((with_reducible refine wpA_make rfl _ _ _ rfl _ rfl rfl ?_); refine makeA hL ?_))
                go_roundw
                case rel => exact ⟨k + 1, by omega, by go_num, hL.drop .here⟩
                case measure => simp [intOf]; omega
          · have e : k = l.length := by omega
            subst e
            rw [List.take_length, maskF_congr hw0 (rowF_next p j _ HP.out)] at hL
            go_wp2_with (first | (first | (clear hL n1; with_reducible intro b1 w1 hL) | (clear hL n2; with_reducible intro b2 w2 hL) | (clear hL n3; with_reducible intro b3 w3 hL) | (clear hL; with_reducible intro _ _ hL)) | (with_reducible refine wpC_alloc rfl _ rfl _ _ inferInstance hL ?_) | (with_reducible first | refine wpB_agg rfl _ _ _ rfl rfl hL ?_ | refine wpB_one rfl _ _ (.int _ _) rfl rfl rfl hL ?_ | refine wpB_one rfl _ _ (.slice _ _ _) rfl rfl rfl hL ?_ | refine wpB_one rfl _ _ (.bool _) rfl rfl rfl hL ?_ | refine wpB_one rfl _ _ (.pointer _) rfl rfl rfl hL ?_ | refine wpB_one rfl _ _ (.func _ _ _) rfl rfl rfl hL ?_) | (with_reducible first | refine wpH_max rfl _ _ _ _ rfl _ _ rfl rfl ?_ | refine wpH_min rfl _ _ _ _ rfl _ _ rfl rfl ?_) | ((with_reducible refine wpA_load rfl _ _ rfl _ rfl ?_); first | refine loadA hL ?_ | refine loadR hL ?_ | refine loadC hL ?_ | refine loadD ?_ | refine loadE hL ?_ | refine loadF ?_) | ((with_reducible refine wpA_index rfl _ _ _ rfl _ rfl _ rfl ?_); first | (refine indexA ?_; try rw [Int.toNat_natCast]) | refine indexC ?_) | ((with_reducible refine wpA_store rfl _ _ _ rfl _ rfl (.agg _) rfl ?_); refine storeR hL ?_; clear hL; intro _ hL) | ((with_reducible first | refine wpA_store rfl _ _ _ rfl _ rfl (.int _ _) rfl ?_ | refine wpA_store rfl _ _ _ rfl _ rfl (.slice _ _ _) rfl ?_ | refine wpA_store rfl _ _ _ rfl _ rfl (.bool _) rfl ?_ | refine wpA_store rfl _ _ _ rfl _ rfl (.pointer _) rfl ?_ | refine wpA_store rfl _ _ _ rfl _ rfl (.func _ _ _) rfl ?_); (first | refine storeA hL ?_ | refine storeO hL ?_); (clear hL; intro _ hL)) | ((with_reducible refine wpA_lit rfl _ _ _ rfl ?_); first | refine litA1 hL ?_ | refine litA2 hL ?_) | ((with_reducible refine wpA_append rfl _ _ _ rfl (.slice _ _ _) rfl ?_); intro vq hvq; simp [go_sem] at hvq; subst hvq; refine appendA hL ?_; clear hL; intro _ _ _ hL; try dsimp only at hL) | ((with_reducible refine wpA_make rfl _ _ _ rfl _ rfl rfl ?_); refine makeA hL ?_))
            go_roundw
            case rel => exact ⟨j + 1, by omega, by go_num, hL⟩
            case measure => simp [intOf]; omega
      · have e : j = H := by omega
        subst e
        go_wp2_with (first | (first | (clear hL n1; with_reducible intro b1 w1 hL) | (clear hL n2; with_reducible intro b2 w2 hL) | (clear hL n3; with_reducible intro b3 w3 hL) | (clear hL; with_reducible intro _ _ hL)) | (with_reducible refine wpC_alloc rfl _ rfl _ _ inferInstance hL ?_) | (with_reducible first | refine wpB_agg rfl _ _ _ rfl rfl hL ?_ | refine wpB_one rfl _ _ (.int _ _) rfl rfl rfl hL ?_ | refine wpB_one rfl _ _ (.slice _ _ _) rfl rfl rfl hL ?_ | refine wpB_one rfl _ _ (.bool _) rfl rfl rfl hL ?_ | refine wpB_one rfl _ _ (.pointer _) rfl rfl rfl hL ?_ | refine wpB_one rfl _ _ (.func _ _ _) rfl rfl rfl hL ?_) | (with_reducible first | refine wpH_max rfl _ _ _ _ rfl _ _ rfl rfl ?_ | refine wpH_min rfl _ _ _ _ rfl _ _ rfl rfl ?_) | ((with_reducible refine wpA_load rfl _ _ rfl _ rfl ?_); first | refine loadA hL ?_ | refine loadR hL ?_ | refine loadC hL ?_ | refine loadD ?_ | refine loadE hL ?_ | refine loadF ?_) | ((with_reducible refine wpA_index rfl _ _ _ rfl _ rfl _ rfl ?_); first | (refine indexA ?_; try rw [Int.toNat_natCast]) | refine indexC ?_) | ((with_reducible refine wpA_store rfl _ _ _ rfl _ rfl (.agg _) rfl ?_); refine storeR hL ?_; clear hL; intro _ hL) | ((with_reducible first | refine wpA_store rfl _ _ _ rfl _ rfl (.int _ _) rfl ?_ | refine wpA_store rfl _ _ _ rfl _ rfl (.slice _ _ _) rfl ?_ | refine wpA_store rfl _ _ _ rfl _ rfl (.bool _) rfl ?_ | refine wpA_store rfl _ _ _ rfl _ rfl (.pointer _) rfl ?_ | refine wpA_store rfl _ _ _ rfl _ rfl (.func _ _ _) rfl ?_); (first | refine storeA hL ?_ | refine storeO hL ?_); (clear hL; intro _ hL)) | ((with_reducible refine wpA_lit rfl _ _ _ rfl ?_); first | refine litA1 hL ?_ | refine litA2 hL ?_) | ((with_reducible refine wpA_append rfl _ _ _ rfl (.slice _ _ _) rfl ?_); intro vq hvq; simp [go_sem] at hvq; subst hvq; refine appendA hL ?_; clear hL; intro _ _ _ hL; try dsimp only at hL) | ((with_reducible refine wpA_make rfl _ _ _ rfl _ rfl rfl ?_); refine makeA hL ?_))
        refine bodyPost_ret (results_row2 inferInstance rfl _ hL b2 rfl _ _ (.there (.there .here)) rfl) rfl ⟨some ⟨bm, 0, none⟩, rfl, hL.below, ?_⟩
        refine ((hL.settle (.there .here) (φ := fun w => w.heap[bm]? = some (.cells (arrU (W * j) (maskF W (rowF p j fun _ => false))) 5 (0, 0))) fun _ h => h).map fun w' h1 => ?_).fresh
        refine ⟨_, rfl, ?_⟩
        have := bytes_of h1 (by unfold maxLen; omega)
        rw [show (List.range (W * j)).map (maskF W (rowF p j fun _ => false)) = (pixMask W j p).B from ?_] at this
        · exact this
        · refine List.map_congr_left fun x hx => ?_
          have hx : x < W * j := by simpa using hx
          have : x / W < j := Nat.div_lt_of_lt_mul hx
          simp [maskF, rowF, this]
end Go.Proofs.Ytjgnbmgdnfldeaa
