/- Runs, rows and regions. -/
import Derived.Test.YtjgnbmgdnfldeaaRgC
import Derived.Test.YtjgnbmgdnfldeaaBxPM
import Derived.Deep.RegionWith
namespace Go.Proofs.Ytjgnbmgdnfldeaa
open Go.RowKit
def RunsF (v : Value) (l : List (Int × Int)) (w : World) : Prop := RunsAt w v l
theorem Holds.runs {w0 w : World} {M : List Res} {Φ : List (World → Prop)} {v : Value} {l : List (Int × Int)} (hL : Holds w0 w M Φ) (h : FactAt Φ (RunsF v l)) : RunsAt w v l := hL.fact h
/-- a new row is returned -/
def RowOut (l : List (Int × Int)) (w : World) (e : Ending) (w' : World) : Prop :=
  ∃ sa sn sc, e = .returned (.slice sa sn sc) ∧ Below w.heap.size w w' ∧ Fresh w w' (RunsF (.slice sa sn sc) l)
theorem RowOut.of {l l' : List (Int × Int)} {w : World} {e : Ending} {w' : World} (h : RunsOut l w e w') (hl : l = l') : RowOut l' w e w' := by
  subst hl
  obtain ⟨v, rfl, hb, hf⟩ := h
  obtain ⟨sa, sn, sc, rfl⟩ := SliceAt.shape hf.now
  exact ⟨sa, sn, sc, rfl, hb, hf⟩
section
variable {W : Nat} (hW : W ≤ 64)
include hW
end
/-- a region's row -/
theorem regRow {w : World} {W H : Nat} {q : Nat → Nat → Bool} {sa : Option Addr} {sn sc : Nat} (h : RegAt w (.agg #[.int .i64 W, .int .i64 H, .slice sa sn sc]) (pixReg W H q)) :
    sn = H ∧ ∀ y, y < H → ∃ b o va vn vc, sa = some ⟨b, o, none⟩ ∧ w.cell? ⟨b, o + y, none⟩ = some (.slice va vn vc) ∧ RunsAt w (.slice va vn vc) (runsTo (q y) W) := by
  obtain ⟨s, hv, hs⟩ := h
  simp at hv
  obtain ⟨_, _, rfl⟩ := hv
  obtain ⟨a, cap, e, _, _, he⟩ := hs.parts
  have hl : (pixReg W H q).rows.length = H := by simp [pixReg]
  rw [hl] at e he
  simp at e
  obtain ⟨rfl, rfl, rfl⟩ := e
  refine ⟨rfl, fun y hy => ?_⟩
  obtain ⟨b, o, rfl, va, vn, vc, hc, hr⟩ := he y hy
  rw [pix_row q hy] at hr
  exact ⟨b, o, va, vn, vc, rfl, hc, hr⟩
/-- the same, with the rows' number -/
def PixOutH (W H : Nat) (q : Nat → Nat → Bool) (w : World) (e : Ending) (w' : World) : Prop :=
  ∃ sa sc, e = .returned (.tuple #[.agg #[.int .i64 W, .int .i64 H, .slice sa H sc], .int .i64 0]) ∧ Below w.heap.size w w' ∧ Fresh w w' (RegF (.agg #[.int .i64 W, .int .i64 H, .slice sa H sc]) (pixReg W H q))
theorem PixOut.len {W H : Nat} {q : Nat → Nat → Bool} {w : World} {e : Ending} {w' : World} (h : PixOut W H q w e w') : PixOutH W H q w e w' := by
  obtain ⟨sa, sn, sc, rfl, hb, hf⟩ := h
  obtain ⟨rfl, _⟩ := regRow hf.now
  exact ⟨sa, sc, rfl, hb, hf⟩
theorem mayFrom_bounds {w : Int} : ∀ (l : List (Int × Int)) (at_ : Int), mayFrom at_ w l = true → ∀ k, k < l.length → at_ < (l.getD k (0, 0)).1 ∧ (l.getD k (0, 0)).1 < (l.getD k (0, 0)).2 ∧ (l.getD k (0, 0)).2 ≤ w
  | [], _, _, k, hk => by simp at hk
  | r :: l, at_, h, 0, _ => by
    simp [mayFrom] at h
    exact ⟨h.1, h.2.1, h.2.2.1⟩
  | r :: l, at_, h, k + 1, hk => by
    simp [mayFrom] at h
    have := mayFrom_bounds l r.2 h.2.2.2 k (by simpa using hk)
    simp only [List.getD_cons_succ]
    omega
/-- the places of a mask, row by row -/
def maskG (W : Nat) (P : Nat → Nat → Bool) (k : Nat) : Int := if P (k / W) (k % W) then 1 else 0
/-- rows below j whole, of row j some -/
def rowF (p : Nat → Nat → Bool) (j : Nat) (S : Nat → Bool) (r c : Nat) : Bool := (decide (r < j) && p r c) || (decide (r = j) && S c)
theorem maskG_set {W n i j : Nat} (p : Nat → Nat → Bool) (S : Nat → Bool) (hi : i < W) : arrU n (fun x => if x = j * W + i then 1 else maskG W (rowF p j S) x) = arrU n (maskG W (rowF p j fun c => if c = i then true else S c)) := by
  refine arrU_congr fun x _ => ?_
  unfold maskG rowF
  by_cases h : x = j * W + i
  · rw [if_pos h]
    obtain ⟨h1, h2⟩ := (divmod_eq hi).1 h
    simp [h1, h2]
  · rw [if_neg h]
    by_cases h1 : x / W = j
    · have h2 : ¬ x % W = i := fun e => h ((divmod_eq hi).2 ⟨h1, e⟩)
      simp [h1, h2]
    · simp [h1]
theorem maskG_congr {W n : Nat} {P Q : Nat → Nat → Bool} (hW : 0 < W) (h : ∀ r c, c < W → P r c = Q r c) : arrU n (maskG W P) = arrU n (maskG W Q) := by
  refine arrU_congr fun x _ => ?_
  unfold maskG
  rw [h _ _ (Nat.mod_lt _ hW)]
theorem rowF_next (p : Nat → Nat → Bool) (j : Nat) (S : Nat → Bool) {W : Nat} (h : ∀ c, c < W → S c = p j c) (r c : Nat) (hc : c < W) : rowF p j S r c = rowF p (j + 1) (fun _ => false) r c := by
  unfold rowF
  by_cases h1 : r = j
  · subst h1; simp [h c hc]
  · have : r < j + 1 ↔ r < j := by omega
    simp [h1, this]
set_option maxRecDepth 100000 in
set_option maxHeartbeats 2000000 in
theorem pixMask_calls {W H : Nat} (hs : Sides W H) (w : World) (sa : Option Addr) (sn sc : Nat) (p : Nat → Nat → Bool) (h : RegAt w (.agg #[.int .i64 W, .int .i64 H, .slice sa sn sc]) (pixReg W H p)) :
    Calls Try.prog 48 #[.agg #[.int .i64 W, .int .i64 H, .slice sa sn sc]] w fun e w' => ∃ ma, e = .returned (.tuple #[.agg #[.int .i64 W, .int .i64 H, .slice ma (W * H) (W * H)], .int .i64 0]) ∧ Below w.heap.size w w' ∧ Fresh w w' (fun w => MaskAt w (.agg #[.int .i64 W, .int .i64 H, .slice ma (W * H) (W * H)]) (pixMask W H p)) := by
  obtain ⟨hsn, hrow⟩ := regRow h
  have hsn := hsn.symm
  subst hsn
  have Hp := Lib.hid h
  clear h
  have Hrow := Lib.hid hrow; clear hrow
  obtain ⟨hw0, hw1, hh0, hh1⟩ := id hs
  obtain ⟨g1, g2⟩ := mul_le100 (x := (W : Int)) (y := (H : Int)) (by omega) (by omega) (by omega) (by omega)
  have hL := Holds.start w
  have n1 : True := trivial; have n2 : True := trivial; have n3 : True := trivial
  go_enter Try.func48, Try.ntmps48
  go_wp2_with (first | (go_at_call 38; (with_reducible refine (pixMay_calls hs _ _ _ (Hp.out.hold hL)).mono ?_); rintro e w3 ⟨rfl, hb⟩; replace hL := hL.call hb; clear hb) | (first | (clear hL n1; with_reducible intro b1 w1 hL) | (clear hL n2; with_reducible intro b2 w2 hL) | (clear hL n3; with_reducible intro b3 w3 hL) | (clear hL; with_reducible intro _ _ hL)) | (with_reducible refine wpC_alloc rfl _ rfl _ _ inferInstance hL ?_) | (with_reducible first | refine wpB_agg rfl _ _ _ rfl rfl hL ?_ | refine wpB_one rfl _ _ (.int _ _) rfl rfl rfl hL ?_ | refine wpB_one rfl _ _ (.slice _ _ _) rfl rfl rfl hL ?_ | refine wpB_one rfl _ _ (.bool _) rfl rfl rfl hL ?_ | refine wpB_one rfl _ _ (.pointer _) rfl rfl rfl hL ?_ | refine wpB_one rfl _ _ (.func _ _ _) rfl rfl rfl hL ?_) | (with_reducible first | refine wpH_max rfl _ _ _ _ rfl _ _ rfl rfl ?_ | refine wpH_min rfl _ _ _ _ rfl _ _ rfl rfl ?_) | ((with_reducible refine wpA_load rfl _ _ rfl _ rfl ?_); first | refine loadA hL ?_ | refine loadR hL ?_ | refine loadC hL ?_ | refine loadD ?_ | refine loadE hL ?_ | refine loadF ?_) | ((with_reducible refine wpA_index rfl _ _ _ rfl _ rfl _ rfl ?_); first | (refine indexA ?_; try rw [Int.toNat_natCast]) | refine indexC ?_) | ((with_reducible refine wpA_store rfl _ _ _ rfl _ rfl (.agg _) rfl ?_); refine storeR hL ?_; clear hL; intro _ hL) | ((with_reducible first | refine wpA_store rfl _ _ _ rfl _ rfl (.int _ _) rfl ?_ | refine wpA_store rfl _ _ _ rfl _ rfl (.slice _ _ _) rfl ?_ | refine wpA_store rfl _ _ _ rfl _ rfl (.bool _) rfl ?_ | refine wpA_store rfl _ _ _ rfl _ rfl (.pointer _) rfl ?_ | refine wpA_store rfl _ _ _ rfl _ rfl (.func _ _ _) rfl ?_); (first | refine storeA hL ?_ | refine storeO hL ?_); (clear hL; intro _ hL)) | ((with_reducible refine wpA_lit rfl _ _ _ rfl ?_); first | refine litA1 hL ?_ | refine litA2 hL ?_) | ((with_reducible refine wpA_append rfl _ _ _ rfl (.slice _ _ _) rfl ?_); intro vq hvq; simp [go_sem] at hvq; subst hvq; refine appendA hL ?_; clear hL; intro _ _ _ hL; try dsimp only at hL) | ((with_reducible refine wpA_make rfl _ _ _ rfl _ rfl rfl ?_); refine makeA hL ?_))
  have c0 := (hL.cell (o := 0) (b := b1) (by (repeat (first | with_reducible exact At.here | with_reducible apply At.there)))).trans rfl
  have c1 := (hL.cell (o := 1) (b := b1) (by (repeat (first | with_reducible exact At.here | with_reducible apply At.there)))).trans rfl
  have hwr : IntKind.i64.wrap ((W : Int) * (H : Int)) = (W : Int) * (H : Int) := by rw [IntKind.wrap_i64]; omega
  have hmk := fun w => run_makeU (n := W * H) (L := (W : Int) * (H : Int)) (by have := Nat.mul_le_mul hw1 hh1; omega) (by simp) w
  go_region_held3 (fun w' => w'.cell? ⟨b1, 0, none⟩ = some (.int .i64 W) ∧ w'.cell? ⟨b1, 1, none⟩ = some (.int .i64 H)) (first | go_keep | exact ⟨c0, c1⟩ | exact ⟨cell_later (by repeat (first | exact Below.refl _ _ | refine Below.drew ?_ | refine Below.alloc ?_ (by simp) _)) c0, cell_later (by repeat (first | exact Below.refl _ _ | refine Below.drew ?_ | refine Below.alloc ?_ (by simp) _)) c1⟩) (fail)
  all_goals clear c0 c1 hmk hwr
  · rename_i hH
    clear hH
    replace hL := hL.alloc2 (arrU (W * H) fun _ => 0) #[.int .i64 W, .int .i64 H, .slice (some ⟨w3.heap.size, 0, none⟩) (W * H) (W * H)] 5 43
    obtain ⟨w4, hw4⟩ : ∃ w4, w4 = ((w3.alloc (.cells (arrU (W * H) fun _ => 0) 5)).alloc (.cells #[.int .i64 W, .int .i64 H, .slice (some ⟨w3.heap.size, 0, none⟩) (W * H) (W * H)] 43)).drew := ⟨_, rfl⟩
    rw [← hw4] at hL ⊢
    clear hw4
    generalize w3.heap.size + 1 = bh at hL ⊢
    generalize w3.heap.size = bm at hL ⊢
    rw [show arrU (W * H) (fun _ => 0) = arrU (W * H) (maskG W (rowF p 0 fun _ => false)) from arrU_congr fun x _ => by simp [maskG, rowF]] at hL
    go_wp2_with (first | (first | (clear hL n1; with_reducible intro b1 w1 hL) | (clear hL n2; with_reducible intro b2 w2 hL) | (clear hL n3; with_reducible intro b3 w3 hL) | (clear hL; with_reducible intro _ _ hL)) | (with_reducible refine wpC_alloc rfl _ rfl _ _ inferInstance hL ?_) | (with_reducible first | refine wpB_agg rfl _ _ _ rfl rfl hL ?_ | refine wpB_one rfl _ _ (.int _ _) rfl rfl rfl hL ?_ | refine wpB_one rfl _ _ (.slice _ _ _) rfl rfl rfl hL ?_ | refine wpB_one rfl _ _ (.bool _) rfl rfl rfl hL ?_ | refine wpB_one rfl _ _ (.pointer _) rfl rfl rfl hL ?_ | refine wpB_one rfl _ _ (.func _ _ _) rfl rfl rfl hL ?_) | (with_reducible first | refine wpH_max rfl _ _ _ _ rfl _ _ rfl rfl ?_ | refine wpH_min rfl _ _ _ _ rfl _ _ rfl rfl ?_) | ((with_reducible refine wpA_load rfl _ _ rfl _ rfl ?_); first | refine loadA hL ?_ | refine loadR hL ?_ | refine loadC hL ?_ | refine loadD ?_ | refine loadE hL ?_ | refine loadF ?_) | ((with_reducible refine wpA_index rfl _ _ _ rfl _ rfl _ rfl ?_); first | (refine indexA ?_; try rw [Int.toNat_natCast]) | refine indexC ?_) | ((with_reducible refine wpA_store rfl _ _ _ rfl _ rfl (.agg _) rfl ?_); refine storeR hL ?_; clear hL; intro _ hL) | ((with_reducible first | refine wpA_store rfl _ _ _ rfl _ rfl (.int _ _) rfl ?_ | refine wpA_store rfl _ _ _ rfl _ rfl (.slice _ _ _) rfl ?_ | refine wpA_store rfl _ _ _ rfl _ rfl (.bool _) rfl ?_ | refine wpA_store rfl _ _ _ rfl _ rfl (.pointer _) rfl ?_ | refine wpA_store rfl _ _ _ rfl _ rfl (.func _ _ _) rfl ?_); (first | refine storeA hL ?_ | refine storeO hL ?_); (clear hL; intro _ hL)) | ((with_reducible refine wpA_lit rfl _ _ _ rfl ?_); first | refine litA1 hL ?_ | refine litA2 hL ?_) | ((with_reducible refine wpA_append rfl _ _ _ rfl (.slice _ _ _) rfl ?_); intro vq hvq; simp [go_sem] at hvq; subst hvq; refine appendA hL ?_; clear hL; intro _ _ _ hL; try dsimp only at hL) | ((with_reducible refine wpA_make rfl _ _ _ rfl _ rfl rfl ?_); refine makeA hL ?_))
    go_loopw [28] (fun s28 wr => ∃ j : Nat, j ≤ H ∧ s28 = .int .i64 j ∧ Holds w wr [blk bh #[.int .i64 W, .int .i64 H, .slice (some ⟨bm, 0, none⟩) (W * H) (W * H)] 43, blk bm (arrU (W * H) (maskG W (rowF p j fun _ => false))) 5, blk b2 #[.int .i64 0, .int .i64 0, .slice none 0 0] 43, blk b1 #[.int .i64 W, .int .i64 H, .slice sa H sc] 26] [])
      (fun s28 wr => (64 - intOf s28).toNat)
    case atStart => exact ⟨0, by omega, rfl, hL⟩
    case round =>
      clear hL
      obtain ⟨j, hj, rfl, hL⟩ := hrel
      by_cases hjt : j < H
      · obtain ⟨b, o, va, vn, vc, rfl, hc, hr⟩ := Hrow.out j hjt
        obtain ⟨a2, cap2, he, hlc, hcm, hel⟩ := hr.parts
        cases he
        have HP := Lib.hid (show ∀ c, c < W → inRuns (runsTo (p j) W) c = p j c from fun c hc => by rw [inRuns_runsTo _ (by omega)]; simp [hc])
        have HB := Lib.hid (mayFrom_bounds (runsTo (p j) W) (-1) (mayFrom_runsTo (p j) W).1)
        generalize runsTo (p j) W = l at *
        have Hl := Lib.hid hel
        clear hel hr
        unfold maxLen at hcm
        go_wp2_with (first | (first | (clear hL n1; with_reducible intro b1 w1 hL) | (clear hL n2; with_reducible intro b2 w2 hL) | (clear hL n3; with_reducible intro b3 w3 hL) | (clear hL; with_reducible intro _ _ hL)) | (with_reducible refine wpC_alloc rfl _ rfl _ _ inferInstance hL ?_) | (with_reducible first | refine wpB_agg rfl _ _ _ rfl rfl hL ?_ | refine wpB_one rfl _ _ (.int _ _) rfl rfl rfl hL ?_ | refine wpB_one rfl _ _ (.slice _ _ _) rfl rfl rfl hL ?_ | refine wpB_one rfl _ _ (.bool _) rfl rfl rfl hL ?_ | refine wpB_one rfl _ _ (.pointer _) rfl rfl rfl hL ?_ | refine wpB_one rfl _ _ (.func _ _ _) rfl rfl rfl hL ?_) | (with_reducible first | refine wpH_max rfl _ _ _ _ rfl _ _ rfl rfl ?_ | refine wpH_min rfl _ _ _ _ rfl _ _ rfl rfl ?_) | ((with_reducible refine wpA_load rfl _ _ rfl _ rfl ?_); first | refine loadA hL ?_ | refine loadR hL ?_ | refine loadC hL ?_ | refine loadD ?_ | refine loadE hL ?_ | refine loadF ?_) | ((with_reducible refine wpA_index rfl _ _ _ rfl _ rfl _ rfl ?_); first | (refine indexA ?_; try rw [Int.toNat_natCast]) | refine indexC ?_) | ((with_reducible refine wpA_store rfl _ _ _ rfl _ rfl (.agg _) rfl ?_); refine storeR hL ?_; clear hL; intro _ hL) | ((with_reducible first | refine wpA_store rfl _ _ _ rfl _ rfl (.int _ _) rfl ?_ | refine wpA_store rfl _ _ _ rfl _ rfl (.slice _ _ _) rfl ?_ | refine wpA_store rfl _ _ _ rfl _ rfl (.bool _) rfl ?_ | refine wpA_store rfl _ _ _ rfl _ rfl (.pointer _) rfl ?_ | refine wpA_store rfl _ _ _ rfl _ rfl (.func _ _ _) rfl ?_); (first | refine storeA hL ?_ | refine storeO hL ?_); (clear hL; intro _ hL)) | ((with_reducible refine wpA_lit rfl _ _ _ rfl ?_); first | refine litA1 hL ?_ | refine litA2 hL ?_) | ((with_reducible refine wpA_append rfl _ _ _ rfl (.slice _ _ _) rfl ?_); intro vq hvq; simp [go_sem] at hvq; subst hvq; refine appendA hL ?_; clear hL; intro _ _ _ hL; try dsimp only at hL) | ((with_reducible refine wpA_make rfl _ _ _ rfl _ rfl rfl ?_); refine makeA hL ?_))
        go_loopw [35] (fun s35 wr => ∃ k : Nat, k ≤ l.length ∧ s35 = .int .i64 k ∧ Holds w wr [blk bh #[.int .i64 W, .int .i64 H, .slice (some ⟨bm, 0, none⟩) (W * H) (W * H)] 43, blk bm (arrU (W * H) (maskG W (rowF p j (inRuns (l.take k))))) 5, blk b2 #[.int .i64 0, .int .i64 0, .slice none 0 0] 43, blk b1 #[.int .i64 W, .int .i64 H, .slice (some ⟨b, o, none⟩) H sc] 26] [])
          (fun s35 wr => l.length - (intOf s35).toNat)
        case atStart => exact ⟨0, by omega, rfl, hL⟩
        case round =>
          clear hL
          obtain ⟨k, hk, rfl, hL⟩ := hrel
          by_cases hkt : k < l.length
          · obtain ⟨b', o', rfl, hrr⟩ := Hl.out k hkt
            obtain ⟨f1, f2, f3⟩ := HB.out k hkt
            have He := Lib.hid (ofMid_end l k hkt)
            have Hs := Lib.hid (ofMid_start l k (l.getD k (0, 0)).1)
            have Ht := Lib.hid (ofMid_step l k (l.getD k (0, 0)).1)
            generalize (l.getD k (0,0)).1 = f at *
            generalize (l.getD k (0,0)).2 = t at *
            go_wp2_with (first | (first | (clear hL n1; with_reducible intro b1 w1 hL) | (clear hL n2; with_reducible intro b2 w2 hL) | (clear hL n3; with_reducible intro b3 w3 hL) | (clear hL; with_reducible intro _ _ hL)) | (with_reducible refine wpC_alloc rfl _ rfl _ _ inferInstance hL ?_) | (with_reducible first | refine wpB_agg rfl _ _ _ rfl rfl hL ?_ | refine wpB_one rfl _ _ (.int _ _) rfl rfl rfl hL ?_ | refine wpB_one rfl _ _ (.slice _ _ _) rfl rfl rfl hL ?_ | refine wpB_one rfl _ _ (.bool _) rfl rfl rfl hL ?_ | refine wpB_one rfl _ _ (.pointer _) rfl rfl rfl hL ?_ | refine wpB_one rfl _ _ (.func _ _ _) rfl rfl rfl hL ?_) | (with_reducible first | refine wpH_max rfl _ _ _ _ rfl _ _ rfl rfl ?_ | refine wpH_min rfl _ _ _ _ rfl _ _ rfl rfl ?_) | ((with_reducible refine wpA_load rfl _ _ rfl _ rfl ?_); first | refine loadA hL ?_ | refine loadR hL ?_ | refine loadC hL ?_ | refine loadD ?_ | refine loadE hL ?_ | refine loadF ?_) | ((with_reducible refine wpA_index rfl _ _ _ rfl _ rfl _ rfl ?_); first | (refine indexA ?_; try rw [Int.toNat_natCast]) | refine indexC ?_) | ((with_reducible refine wpA_store rfl _ _ _ rfl _ rfl (.agg _) rfl ?_); refine storeR hL ?_; clear hL; intro _ hL) | ((with_reducible first | refine wpA_store rfl _ _ _ rfl _ rfl (.int _ _) rfl ?_ | refine wpA_store rfl _ _ _ rfl _ rfl (.slice _ _ _) rfl ?_ | refine wpA_store rfl _ _ _ rfl _ rfl (.bool _) rfl ?_ | refine wpA_store rfl _ _ _ rfl _ rfl (.pointer _) rfl ?_ | refine wpA_store rfl _ _ _ rfl _ rfl (.func _ _ _) rfl ?_); (first | refine storeA hL ?_ | refine storeO hL ?_); (clear hL; intro _ hL)) | ((with_reducible refine wpA_lit rfl _ _ _ rfl ?_); first | refine litA1 hL ?_ | refine litA2 hL ?_) | ((with_reducible refine wpA_append rfl _ _ _ rfl (.slice _ _ _) rfl ?_); intro vq hvq; simp [go_sem] at hvq; subst hvq; refine appendA hL ?_; clear hL; intro _ _ _ hL; try dsimp only at hL) | ((with_reducible refine wpA_make rfl _ _ _ rfl _ rfl rfl ?_); refine makeA hL ?_))
            go_loopw [9] (fun s9 wr => ∃ i : Nat, s9 = .int .i64 i ∧ f ≤ (i : Int) ∧ (i : Int) ≤ t ∧ Holds w wr [blk b3 #[.int .i64 f, .int .i64 t] 35, blk bh #[.int .i64 W, .int .i64 H, .slice (some ⟨bm, 0, none⟩) (W * H) (W * H)] 43, blk bm (arrU (W * H) (maskG W (rowF p j (ofMid l k f i)))) 5, blk b2 #[.int .i64 0, .int .i64 0, .slice none 0 0] 43, blk b1 #[.int .i64 W, .int .i64 H, .slice (some ⟨b, o, none⟩) H sc] 26] [])
              (fun s9 wr => (64 - intOf s9).toNat)
            case atStart =>
              rw [← Hs.out] at hL
              have e1 : max 0 f = f := by omega
              have e2 : ((f.toNat : Nat) : Int) = f := by omega
              rw [e1] at hL
              exact ⟨f.toNat, by rw [e2], by omega, by omega, by rw [e2]; exact hL⟩
            case round =>
              clear hL
              obtain ⟨i, rfl, hi1, hi2, hL⟩ := hrel
              by_cases hit : (i : Int) < t
              · have hiW : i < W := by omega
                have hidx : j * W + i < W * H := by
                  have := Nat.mul_le_mul_right W (show j + 1 ≤ H by omega)
                  rw [Nat.add_mul, Nat.mul_comm H W] at this
                  omega
                have hidx2 : (j : Int) * (W : Int) + (i : Int) < ((W * H : Nat) : Int) := by
                  have : ((j * W + i : Nat) : Int) < ((W * H : Nat) : Int) := by omega
                  simpa using this
                have hidx3 : 0 ≤ (j : Int) * (W : Int) := Int.mul_nonneg (by omega) (by omega)
                have hidx4 : ((W * H : Nat) : Int) = (W : Int) * (H : Int) := by simp
                go_wp2_with (first | (first | (clear hL n1; with_reducible intro b1 w1 hL) | (clear hL n2; with_reducible intro b2 w2 hL) | (clear hL n3; with_reducible intro b3 w3 hL) | (clear hL; with_reducible intro _ _ hL)) | (with_reducible refine wpC_alloc rfl _ rfl _ _ inferInstance hL ?_) | (with_reducible first | refine wpB_agg rfl _ _ _ rfl rfl hL ?_ | refine wpB_one rfl _ _ (.int _ _) rfl rfl rfl hL ?_ | refine wpB_one rfl _ _ (.slice _ _ _) rfl rfl rfl hL ?_ | refine wpB_one rfl _ _ (.bool _) rfl rfl rfl hL ?_ | refine wpB_one rfl _ _ (.pointer _) rfl rfl rfl hL ?_ | refine wpB_one rfl _ _ (.func _ _ _) rfl rfl rfl hL ?_) | (with_reducible first | refine wpH_max rfl _ _ _ _ rfl _ _ rfl rfl ?_ | refine wpH_min rfl _ _ _ _ rfl _ _ rfl rfl ?_) | ((with_reducible refine wpA_load rfl _ _ rfl _ rfl ?_); first | refine loadA hL ?_ | refine loadR hL ?_ | refine loadC hL ?_ | refine loadD ?_ | refine loadE hL ?_ | refine loadF ?_) | ((with_reducible refine wpA_index rfl _ _ _ rfl _ rfl _ rfl ?_); first | (refine indexA ?_; try rw [Int.toNat_natCast]) | refine indexC ?_) | ((with_reducible refine wpA_store rfl _ _ _ rfl _ rfl (.agg _) rfl ?_); refine storeR hL ?_; clear hL; intro _ hL) | ((with_reducible first | refine wpA_store rfl _ _ _ rfl _ rfl (.int _ _) rfl ?_ | refine wpA_store rfl _ _ _ rfl _ rfl (.slice _ _ _) rfl ?_ | refine wpA_store rfl _ _ _ rfl _ rfl (.bool _) rfl ?_ | refine wpA_store rfl _ _ _ rfl _ rfl (.pointer _) rfl ?_ | refine wpA_store rfl _ _ _ rfl _ rfl (.func _ _ _) rfl ?_); (first | refine storeA hL ?_ | refine storeO hL ?_); (clear hL; intro _ hL)) | ((with_reducible refine wpA_lit rfl _ _ _ rfl ?_); first | refine litA1 hL ?_ | refine litA2 hL ?_) | ((with_reducible refine wpA_append rfl _ _ _ rfl (.slice _ _ _) rfl ?_); intro vq hvq; simp [go_sem] at hvq; subst hvq; refine appendA hL ?_; clear hL; intro _ _ _ hL; try dsimp only at hL) | ((with_reducible refine wpA_make rfl _ _ _ rfl _ rfl rfl ?_); refine makeA hL ?_))
                go_roundw
                case rel =>
                  rw [maskG_set p _ hiW, Ht.out i (by omega)] at hL
                  exact ⟨i + 1, by go_num, by omega, by omega, hL⟩
                case measure => simp [intOf]; omega
              · have He2 := He.out i (by omega) (by omega) (by omega)
                rw [He2] at hL
                clear He2
                go_wp2_with (first | (first | (clear hL n1; with_reducible intro b1 w1 hL) | (clear hL n2; with_reducible intro b2 w2 hL) | (clear hL n3; with_reducible intro b3 w3 hL) | (clear hL; with_reducible intro _ _ hL)) | (with_reducible refine wpC_alloc rfl _ rfl _ _ inferInstance hL ?_) | (with_reducible first | refine wpB_agg rfl _ _ _ rfl rfl hL ?_ | refine wpB_one rfl _ _ (.int _ _) rfl rfl rfl hL ?_ | refine wpB_one rfl _ _ (.slice _ _ _) rfl rfl rfl hL ?_ | refine wpB_one rfl _ _ (.bool _) rfl rfl rfl hL ?_ | refine wpB_one rfl _ _ (.pointer _) rfl rfl rfl hL ?_ | refine wpB_one rfl _ _ (.func _ _ _) rfl rfl rfl hL ?_) | (with_reducible first | refine wpH_max rfl _ _ _ _ rfl _ _ rfl rfl ?_ | refine wpH_min rfl _ _ _ _ rfl _ _ rfl rfl ?_) | ((with_reducible refine wpA_load rfl _ _ rfl _ rfl ?_); first | refine loadA hL ?_ | refine loadR hL ?_ | refine loadC hL ?_ | refine loadD ?_ | refine loadE hL ?_ | refine loadF ?_) | ((with_reducible refine wpA_index rfl _ _ _ rfl _ rfl _ rfl ?_); first | (refine indexA ?_; try rw [Int.toNat_natCast]) | refine indexC ?_) | ((with_reducible refine wpA_store rfl _ _ _ rfl _ rfl (.agg _) rfl ?_); refine storeR hL ?_; clear hL; intro _ hL) | ((with_reducible first | refine wpA_store rfl _ _ _ rfl _ rfl (.int _ _) rfl ?_ | refine wpA_store rfl _ _ _ rfl _ rfl (.slice _ _ _) rfl ?_ | refine wpA_store rfl _ _ _ rfl _ rfl (.bool _) rfl ?_ | refine wpA_store rfl _ _ _ rfl _ rfl (.pointer _) rfl ?_ | refine wpA_store rfl _ _ _ rfl _ rfl (.func _ _ _) rfl ?_); (first | refine storeA hL ?_ | refine storeO hL ?_); (clear hL; intro _ hL)) | ((with_reducible refine wpA_lit rfl _ _ _ rfl ?_); first | refine litA1 hL ?_ | refine litA2 hL ?_) | ((with_reducible refine wpA_append rfl _ _ _ rfl (.slice _ _ _) rfl ?_); intro vq hvq; simp [go_sem] at hvq; subst hvq; refine appendA hL ?_; clear hL; intro _ _ _ hL; try dsimp only at hL) | ((with_reducible refine wpA_make rfl _ _ _ rfl _ rfl rfl ?_); refine makeA hL ?_))
                go_roundw
                case rel => exact ⟨k + 1, by omega, by go_num, hL.drop .here⟩
                case measure => simp [intOf]; omega
          · have e : k = l.length := by omega
            subst e
            rw [List.take_length, maskG_congr hw0 (rowF_next p j _ HP.out)] at hL
            go_wp2_with (first | (first | (clear hL n1; with_reducible intro b1 w1 hL) | (clear hL n2; with_reducible intro b2 w2 hL) | (clear hL n3; with_reducible intro b3 w3 hL) | (clear hL; with_reducible intro _ _ hL)) | (with_reducible refine wpC_alloc rfl _ rfl _ _ inferInstance hL ?_) | (with_reducible first | refine wpB_agg rfl _ _ _ rfl rfl hL ?_ | refine wpB_one rfl _ _ (.int _ _) rfl rfl rfl hL ?_ | refine wpB_one rfl _ _ (.slice _ _ _) rfl rfl rfl hL ?_ | refine wpB_one rfl _ _ (.bool _) rfl rfl rfl hL ?_ | refine wpB_one rfl _ _ (.pointer _) rfl rfl rfl hL ?_ | refine wpB_one rfl _ _ (.func _ _ _) rfl rfl rfl hL ?_) | (with_reducible first | refine wpH_max rfl _ _ _ _ rfl _ _ rfl rfl ?_ | refine wpH_min rfl _ _ _ _ rfl _ _ rfl rfl ?_) | ((with_reducible refine wpA_load rfl _ _ rfl _ rfl ?_); first | refine loadA hL ?_ | refine loadR hL ?_ | refine loadC hL ?_ | refine loadD ?_ | refine loadE hL ?_ | refine loadF ?_) | ((with_reducible refine wpA_index rfl _ _ _ rfl _ rfl _ rfl ?_); first | (refine indexA ?_; try rw [Int.toNat_natCast]) | refine indexC ?_) | ((with_reducible refine wpA_store rfl _ _ _ rfl _ rfl (.agg _) rfl ?_); refine storeR hL ?_; clear hL; intro _ hL) | ((with_reducible first | refine wpA_store rfl _ _ _ rfl _ rfl (.int _ _) rfl ?_ | refine wpA_store rfl _ _ _ rfl _ rfl (.slice _ _ _) rfl ?_ | refine wpA_store rfl _ _ _ rfl _ rfl (.bool _) rfl ?_ | refine wpA_store rfl _ _ _ rfl _ rfl (.pointer _) rfl ?_ | refine wpA_store rfl _ _ _ rfl _ rfl (.func _ _ _) rfl ?_); (first | refine storeA hL ?_ | refine storeO hL ?_); (clear hL; intro _ hL)) | ((with_reducible refine wpA_lit rfl _ _ _ rfl ?_); first | refine litA1 hL ?_ | refine litA2 hL ?_) | ((with_reducible refine wpA_append rfl _ _ _ rfl (.slice _ _ _) rfl ?_); intro vq hvq; simp [go_sem] at hvq; subst hvq; refine appendA hL ?_; clear hL; intro _ _ _ hL; try dsimp only at hL) | ((with_reducible refine wpA_make rfl _ _ _ rfl _ rfl rfl ?_); refine makeA hL ?_))
            go_roundw
            case rel => exact ⟨j + 1, by omega, by go_num, hL⟩
            case measure => simp [intOf]; omega
      · have e : j = H := by omega
        subst e
        go_wp2_with (first | (first | (clear hL n1; with_reducible intro b1 w1 hL) | (clear hL n2; with_reducible intro b2 w2 hL) | (clear hL n3; with_reducible intro b3 w3 hL) | (clear hL; with_reducible intro _ _ hL)) | (with_reducible refine wpC_alloc rfl _ rfl _ _ inferInstance hL ?_) | (with_reducible first | refine wpB_agg rfl _ _ _ rfl rfl hL ?_ | refine wpB_one rfl _ _ (.int _ _) rfl rfl rfl hL ?_ | refine wpB_one rfl _ _ (.slice _ _ _) rfl rfl rfl hL ?_ | refine wpB_one rfl _ _ (.bool _) rfl rfl rfl hL ?_ | refine wpB_one rfl _ _ (.pointer _) rfl rfl rfl hL ?_ | refine wpB_one rfl _ _ (.func _ _ _) rfl rfl rfl hL ?_) | (with_reducible first | refine wpH_max rfl _ _ _ _ rfl _ _ rfl rfl ?_ | refine wpH_min rfl _ _ _ _ rfl _ _ rfl rfl ?_) | ((with_reducible refine wpA_load rfl _ _ rfl _ rfl ?_); first | refine loadA hL ?_ | refine loadR hL ?_ | refine loadC hL ?_ | refine loadD ?_ | refine loadE hL ?_ | refine loadF ?_) | ((with_reducible refine wpA_index rfl _ _ _ rfl _ rfl _ rfl ?_); first | (refine indexA ?_; try rw [Int.toNat_natCast]) | refine indexC ?_) | ((with_reducible refine wpA_store rfl _ _ _ rfl _ rfl (.agg _) rfl ?_); refine storeR hL ?_; clear hL; intro _ hL) | ((with_reducible first | refine wpA_store rfl _ _ _ rfl _ rfl (.int _ _) rfl ?_ | refine wpA_store rfl _ _ _ rfl _ rfl (.slice _ _ _) rfl ?_ | refine wpA_store rfl _ _ _ rfl _ rfl (.bool _) rfl ?_ | refine wpA_store rfl _ _ _ rfl _ rfl (.pointer _) rfl ?_ | refine wpA_store rfl _ _ _ rfl _ rfl (.func _ _ _) rfl ?_); (first | refine storeA hL ?_ | refine storeO hL ?_); (clear hL; intro _ hL)) | ((with_reducible refine wpA_lit rfl _ _ _ rfl ?_); first | refine litA1 hL ?_ | refine litA2 hL ?_) | ((with_reducible refine wpA_append rfl _ _ _ rfl (.slice _ _ _) rfl ?_); intro vq hvq; simp [go_sem] at hvq; subst hvq; refine appendA hL ?_; clear hL; intro _ _ _ hL; try dsimp only at hL) | ((with_reducible refine wpA_make rfl _ _ _ rfl _ rfl rfl ?_); refine makeA hL ?_))
        refine bodyPost_ret (results_row2 inferInstance rfl _ hL b2 rfl _ _ (.there (.there .here)) rfl) rfl ⟨some ⟨bm, 0, none⟩, rfl, hL.below, ?_⟩
        refine ((hL.settle (.there .here) (φ := fun w => w.heap[bm]? = some (.cells (arrU (W * j) (maskG W (rowF p j fun _ => false))) 5 (0, 0))) fun _ h => h).map fun w' h1 => ?_).fresh
        refine ⟨_, rfl, ?_⟩
        have := bytes_of h1 (by unfold maxLen; omega)
        rw [show (List.range (W * j)).map (maskG W (rowF p j fun _ => false)) = (pixMask W j p).B from ?_] at this
        · exact this
        · refine List.map_congr_left fun x hx => ?_
          have hx : x < W * j := by simpa using hx
          have : x / W < j := Nat.div_lt_of_lt_mul hx
          simp [maskG, rowF, this]
  · rename_i hH
    clear hH
    replace hL := (hL.alloc2 #[.int .i64 W, .int .i64 H, .slice (some ⟨w3.heap.size + 1, 0, none⟩) (W * H) (W * H)] (arrU (W * H) fun _ => 0) 43 5).swapM
    obtain ⟨w4, hw4⟩ : ∃ w4, w4 = ((w3.alloc (.cells #[.int .i64 W, .int .i64 H, .slice (some ⟨w3.heap.size + 1, 0, none⟩) (W * H) (W * H)] 43)).alloc (.cells (arrU (W * H) fun _ => 0) 5)).drew := ⟨_, rfl⟩
    rw [← hw4] at hL ⊢
    clear hw4
    generalize w3.heap.size + 1 = bm at hL ⊢
    generalize w3.heap.size = bh at hL ⊢
    rw [show arrU (W * H) (fun _ => 0) = arrU (W * H) (maskG W (rowF p 0 fun _ => false)) from arrU_congr fun x _ => by simp [maskG, rowF]] at hL
    go_wp2_with (first | (first | (clear hL n1; with_reducible intro b1 w1 hL) | (clear hL n2; with_reducible intro b2 w2 hL) | (clear hL n3; with_reducible intro b3 w3 hL) | (clear hL; with_reducible intro _ _ hL)) | (with_reducible refine wpC_alloc rfl _ rfl _ _ inferInstance hL ?_) | (with_reducible first | refine wpB_agg rfl _ _ _ rfl rfl hL ?_ | refine wpB_one rfl _ _ (.int _ _) rfl rfl rfl hL ?_ | refine wpB_one rfl _ _ (.slice _ _ _) rfl rfl rfl hL ?_ | refine wpB_one rfl _ _ (.bool _) rfl rfl rfl hL ?_ | refine wpB_one rfl _ _ (.pointer _) rfl rfl rfl hL ?_ | refine wpB_one rfl _ _ (.func _ _ _) rfl rfl rfl hL ?_) | (with_reducible first | refine wpH_max rfl _ _ _ _ rfl _ _ rfl rfl ?_ | refine wpH_min rfl _ _ _ _ rfl _ _ rfl rfl ?_) | ((with_reducible refine wpA_load rfl _ _ rfl _ rfl ?_); first | refine loadA hL ?_ | refine loadR hL ?_ | refine loadC hL ?_ | refine loadD ?_ | refine loadE hL ?_ | refine loadF ?_) | ((with_reducible refine wpA_index rfl _ _ _ rfl _ rfl _ rfl ?_); first | (refine indexA ?_; try rw [Int.toNat_natCast]) | refine indexC ?_) | ((with_reducible refine wpA_store rfl _ _ _ rfl _ rfl (.agg _) rfl ?_); refine storeR hL ?_; clear hL; intro _ hL) | ((with_reducible first | refine wpA_store rfl _ _ _ rfl _ rfl (.int _ _) rfl ?_ | refine wpA_store rfl _ _ _ rfl _ rfl (.slice _ _ _) rfl ?_ | refine wpA_store rfl _ _ _ rfl _ rfl (.bool _) rfl ?_ | refine wpA_store rfl _ _ _ rfl _ rfl (.pointer _) rfl ?_ | refine wpA_store rfl _ _ _ rfl _ rfl (.func _ _ _) rfl ?_); (first | refine storeA hL ?_ | refine storeO hL ?_); (clear hL; intro _ hL)) | ((with_reducible refine wpA_lit rfl _ _ _ rfl ?_); first | refine litA1 hL ?_ | refine litA2 hL ?_) | ((with_reducible refine wpA_append rfl _ _ _ rfl (.slice _ _ _) rfl ?_); intro vq hvq; simp [go_sem] at hvq; subst hvq; refine appendA hL ?_; clear hL; intro _ _ _ hL; try dsimp only at hL) | ((with_reducible refine wpA_make rfl _ _ _ rfl _ rfl rfl ?_); refine makeA hL ?_))
    go_loopw [28] (fun s28 wr => ∃ j : Nat, j ≤ H ∧ s28 = .int .i64 j ∧ Holds w wr [blk bh #[.int .i64 W, .int .i64 H, .slice (some ⟨bm, 0, none⟩) (W * H) (W * H)] 43, blk bm (arrU (W * H) (maskG W (rowF p j fun _ => false))) 5, blk b2 #[.int .i64 0, .int .i64 0, .slice none 0 0] 43, blk b1 #[.int .i64 W, .int .i64 H, .slice sa H sc] 26] [])
      (fun s28 wr => (64 - intOf s28).toNat)
    case atStart => exact ⟨0, by omega, rfl, hL⟩
    case round =>
      clear hL
      obtain ⟨j, hj, rfl, hL⟩ := hrel
      by_cases hjt : j < H
      · obtain ⟨b, o, va, vn, vc, rfl, hc, hr⟩ := Hrow.out j hjt
        obtain ⟨a2, cap2, he, hlc, hcm, hel⟩ := hr.parts
        cases he
        have HP := Lib.hid (show ∀ c, c < W → inRuns (runsTo (p j) W) c = p j c from fun c hc => by rw [inRuns_runsTo _ (by omega)]; simp [hc])
        have HB := Lib.hid (mayFrom_bounds (runsTo (p j) W) (-1) (mayFrom_runsTo (p j) W).1)
        generalize runsTo (p j) W = l at *
        have Hl := Lib.hid hel
        clear hel hr
        unfold maxLen at hcm
        go_wp2_with (first | (first | (clear hL n1; with_reducible intro b1 w1 hL) | (clear hL n2; with_reducible intro b2 w2 hL) | (clear hL n3; with_reducible intro b3 w3 hL) | (clear hL; with_reducible intro _ _ hL)) | (with_reducible refine wpC_alloc rfl _ rfl _ _ inferInstance hL ?_) | (with_reducible first | refine wpB_agg rfl _ _ _ rfl rfl hL ?_ | refine wpB_one rfl _ _ (.int _ _) rfl rfl rfl hL ?_ | refine wpB_one rfl _ _ (.slice _ _ _) rfl rfl rfl hL ?_ | refine wpB_one rfl _ _ (.bool _) rfl rfl rfl hL ?_ | refine wpB_one rfl _ _ (.pointer _) rfl rfl rfl hL ?_ | refine wpB_one rfl _ _ (.func _ _ _) rfl rfl rfl hL ?_) | (with_reducible first | refine wpH_max rfl _ _ _ _ rfl _ _ rfl rfl ?_ | refine wpH_min rfl _ _ _ _ rfl _ _ rfl rfl ?_) | ((with_reducible refine wpA_load rfl _ _ rfl _ rfl ?_); first | refine loadA hL ?_ | refine loadR hL ?_ | refine loadC hL ?_ | refine loadD ?_ | refine loadE hL ?_ | refine loadF ?_) | ((with_reducible refine wpA_index rfl _ _ _ rfl _ rfl _ rfl ?_); first | (refine indexA ?_; try rw [Int.toNat_natCast]) | refine indexC ?_) | ((with_reducible refine wpA_store rfl _ _ _ rfl _ rfl (.agg _) rfl ?_); refine storeR hL ?_; clear hL; intro _ hL) | ((with_reducible first | refine wpA_store rfl _ _ _ rfl _ rfl (.int _ _) rfl ?_ | refine wpA_store rfl _ _ _ rfl _ rfl (.slice _ _ _) rfl ?_ | refine wpA_store rfl _ _ _ rfl _ rfl (.bool _) rfl ?_ | refine wpA_store rfl _ _ _ rfl _ rfl (.pointer _) rfl ?_ | refine wpA_store rfl _ _ _ rfl _ rfl (.func _ _ _) rfl ?_); (first | refine storeA hL ?_ | refine storeO hL ?_); (clear hL; intro _ hL)) | ((with_reducible refine wpA_lit rfl _ _ _ rfl ?_); first | refine litA1 hL ?_ | refine litA2 hL ?_) | ((with_reducible refine wpA_append rfl _ _ _ rfl (.slice _ _ _) rfl ?_); intro vq hvq; simp [go_sem] at hvq; subst hvq; refine appendA hL ?_; clear hL; intro _ _ _ hL; try dsimp only at hL) | ((with_reducible refine wpA_make rfl _ _ _ rfl _ rfl rfl ?_); refine makeA hL ?_))
        go_loopw [35] (fun s35 wr => ∃ k : Nat, k ≤ l.length ∧ s35 = .int .i64 k ∧ Holds w wr [blk bh #[.int .i64 W, .int .i64 H, .slice (some ⟨bm, 0, none⟩) (W * H) (W * H)] 43, blk bm (arrU (W * H) (maskG W (rowF p j (inRuns (l.take k))))) 5, blk b2 #[.int .i64 0, .int .i64 0, .slice none 0 0] 43, blk b1 #[.int .i64 W, .int .i64 H, .slice (some ⟨b, o, none⟩) H sc] 26] [])
          (fun s35 wr => l.length - (intOf s35).toNat)
        case atStart => exact ⟨0, by omega, rfl, hL⟩
        case round =>
          clear hL
          obtain ⟨k, hk, rfl, hL⟩ := hrel
          by_cases hkt : k < l.length
          · obtain ⟨b', o', rfl, hrr⟩ := Hl.out k hkt
            obtain ⟨f1, f2, f3⟩ := HB.out k hkt
            have He := Lib.hid (ofMid_end l k hkt)
            have Hs := Lib.hid (ofMid_start l k (l.getD k (0, 0)).1)
            have Ht := Lib.hid (ofMid_step l k (l.getD k (0, 0)).1)
            generalize (l.getD k (0,0)).1 = f at *
            generalize (l.getD k (0,0)).2 = t at *
            go_wp2_with (first | (first | (clear hL n1; with_reducible intro b1 w1 hL) | (clear hL n2; with_reducible intro b2 w2 hL) | (clear hL n3; with_reducible intro b3 w3 hL) | (clear hL; with_reducible intro _ _ hL)) | (with_reducible refine wpC_alloc rfl _ rfl _ _ inferInstance hL ?_) | (with_reducible first | refine wpB_agg rfl _ _ _ rfl rfl hL ?_ | refine wpB_one rfl _ _ (.int _ _) rfl rfl rfl hL ?_ | refine wpB_one rfl _ _ (.slice _ _ _) rfl rfl rfl hL ?_ | refine wpB_one rfl _ _ (.bool _) rfl rfl rfl hL ?_ | refine wpB_one rfl _ _ (.pointer _) rfl rfl rfl hL ?_ | refine wpB_one rfl _ _ (.func _ _ _) rfl rfl rfl hL ?_) | (with_reducible first | refine wpH_max rfl _ _ _ _ rfl _ _ rfl rfl ?_ | refine wpH_min rfl _ _ _ _ rfl _ _ rfl rfl ?_) | ((with_reducible refine wpA_load rfl _ _ rfl _ rfl ?_); first | refine loadA hL ?_ | refine loadR hL ?_ | refine loadC hL ?_ | refine loadD ?_ | refine loadE hL ?_ | refine loadF ?_) | ((with_reducible refine wpA_index rfl _ _ _ rfl _ rfl _ rfl ?_); first | (refine indexA ?_; try rw [Int.toNat_natCast]) | refine indexC ?_) | ((with_reducible refine wpA_store rfl _ _ _ rfl _ rfl (.agg _) rfl ?_); refine storeR hL ?_; clear hL; intro _ hL) | ((with_reducible first | refine wpA_store rfl _ _ _ rfl _ rfl (.int _ _) rfl ?_ | refine wpA_store rfl _ _ _ rfl _ rfl (.slice _ _ _) rfl ?_ | refine wpA_store rfl _ _ _ rfl _ rfl (.bool _) rfl ?_ | refine wpA_store rfl _ _ _ rfl _ rfl (.pointer _) rfl ?_ | refine wpA_store rfl _ _ _ rfl _ rfl (.func _ _ _) rfl ?_); (first | refine storeA hL ?_ | refine storeO hL ?_); (clear hL; intro _ hL)) | ((with_reducible refine wpA_lit rfl _ _ _ rfl ?_); first | refine litA1 hL ?_ | refine litA2 hL ?_) | ((with_reducible refine wpA_append rfl _ _ _ rfl (.slice _ _ _) rfl ?_); intro vq hvq; simp [go_sem] at hvq; subst hvq; refine appendA hL ?_; clear hL; intro _ _ _ hL; try dsimp only at hL) | ((with_reducible refine wpA_make rfl _ _ _ rfl _ rfl rfl ?_); refine makeA hL ?_))
            go_loopw [9] (fun s9 wr => ∃ i : Nat, s9 = .int .i64 i ∧ f ≤ (i : Int) ∧ (i : Int) ≤ t ∧ Holds w wr [blk b3 #[.int .i64 f, .int .i64 t] 35, blk bh #[.int .i64 W, .int .i64 H, .slice (some ⟨bm, 0, none⟩) (W * H) (W * H)] 43, blk bm (arrU (W * H) (maskG W (rowF p j (ofMid l k f i)))) 5, blk b2 #[.int .i64 0, .int .i64 0, .slice none 0 0] 43, blk b1 #[.int .i64 W, .int .i64 H, .slice (some ⟨b, o, none⟩) H sc] 26] [])
              (fun s9 wr => (64 - intOf s9).toNat)
            case atStart =>
              rw [← Hs.out] at hL
              have e1 : max 0 f = f := by omega
              have e2 : ((f.toNat : Nat) : Int) = f := by omega
              rw [e1] at hL
              exact ⟨f.toNat, by rw [e2], by omega, by omega, by rw [e2]; exact hL⟩
            case round =>
              clear hL
              obtain ⟨i, rfl, hi1, hi2, hL⟩ := hrel
              by_cases hit : (i : Int) < t
              · have hiW : i < W := by omega
                have hidx : j * W + i < W * H := by
                  have := Nat.mul_le_mul_right W (show j + 1 ≤ H by omega)
                  rw [Nat.add_mul, Nat.mul_comm H W] at this
                  omega
                have hidx2 : (j : Int) * (W : Int) + (i : Int) < ((W * H : Nat) : Int) := by
                  have : ((j * W + i : Nat) : Int) < ((W * H : Nat) : Int) := by omega
                  simpa using this
                have hidx3 : 0 ≤ (j : Int) * (W : Int) := Int.mul_nonneg (by omega) (by omega)
                have hidx4 : ((W * H : Nat) : Int) = (W : Int) * (H : Int) := by simp
                go_wp2_with (first | (first | (clear hL n1; with_reducible intro b1 w1 hL) | (clear hL n2; with_reducible intro b2 w2 hL) | (clear hL n3; with_reducible intro b3 w3 hL) | (clear hL; with_reducible intro _ _ hL)) | (with_reducible refine wpC_alloc rfl _ rfl _ _ inferInstance hL ?_) | (with_reducible first | refine wpB_agg rfl _ _ _ rfl rfl hL ?_ | refine wpB_one rfl _ _ (.int _ _) rfl rfl rfl hL ?_ | refine wpB_one rfl _ _ (.slice _ _ _) rfl rfl rfl hL ?_ | refine wpB_one rfl _ _ (.bool _) rfl rfl rfl hL ?_ | refine wpB_one rfl _ _ (.pointer _) rfl rfl rfl hL ?_ | refine wpB_one rfl _ _ (.func _ _ _) rfl rfl rfl hL ?_) | (with_reducible first | refine wpH_max rfl _ _ _ _ rfl _ _ rfl rfl ?_ | refine wpH_min rfl _ _ _ _ rfl _ _ rfl rfl ?_) | ((with_reducible refine wpA_load rfl _ _ rfl _ rfl ?_); first | refine loadA hL ?_ | refine loadR hL ?_ | refine loadC hL ?_ | refine loadD ?_ | refine loadE hL ?_ | refine loadF ?_) | ((with_reducible refine wpA_index rfl _ _ _ rfl _ rfl _ rfl ?_); first | (refine indexA ?_; try rw [Int.toNat_natCast]) | refine indexC ?_) | ((with_reducible refine wpA_store rfl _ _ _ rfl _ rfl (.agg _) rfl ?_); refine storeR hL ?_; clear hL; intro _ hL) | ((with_reducible first | refine wpA_store rfl _ _ _ rfl _ rfl (.int _ _) rfl ?_ | refine wpA_store rfl _ _ _ rfl _ rfl (.slice _ _ _) rfl ?_ | refine wpA_store rfl _ _ _ rfl _ rfl (.bool _) rfl ?_ | refine wpA_store rfl _ _ _ rfl _ rfl (.pointer _) rfl ?_ | refine wpA_store rfl _ _ _ rfl _ rfl (.func _ _ _) rfl ?_); (first | refine storeA hL ?_ | refine storeO hL ?_); (clear hL; intro _ hL)) | ((with_reducible refine wpA_lit rfl _ _ _ rfl ?_); first | refine litA1 hL ?_ | refine litA2 hL ?_) | ((with_reducible refine wpA_append rfl _ _ _ rfl (.slice _ _ _) rfl ?_); intro vq hvq; simp [go_sem] at hvq; subst hvq; refine appendA hL ?_; clear hL; intro _ _ _ hL; try dsimp only at hL) | ((with_reducible refine wpA_make rfl _ _ _ rfl _ rfl rfl ?_); refine makeA hL ?_))
                go_roundw
                case rel =>
                  rw [maskG_set p _ hiW, Ht.out i (by omega)] at hL
                  exact ⟨i + 1, by go_num, by omega, by omega, hL⟩
                case measure => simp [intOf]; omega
              · have He2 := He.out i (by omega) (by omega) (by omega)
                rw [He2] at hL
                clear He2
                go_wp2_with (first | (first | (clear hL n1; with_reducible intro b1 w1 hL) | (clear hL n2; with_reducible intro b2 w2 hL) | (clear hL n3; with_reducible intro b3 w3 hL) | (clear hL; with_reducible intro _ _ hL)) | (with_reducible refine wpC_alloc rfl _ rfl _ _ inferInstance hL ?_) | (with_reducible first | refine wpB_agg rfl _ _ _ rfl rfl hL ?_ | refine wpB_one rfl _ _ (.int _ _) rfl rfl rfl hL ?_ | refine wpB_one rfl _ _ (.slice _ _ _) rfl rfl rfl hL ?_ | refine wpB_one rfl _ _ (.bool _) rfl rfl rfl hL ?_ | refine wpB_one rfl _ _ (.pointer _) rfl rfl rfl hL ?_ | refine wpB_one rfl _ _ (.func _ _ _) rfl rfl rfl hL ?_) | (with_reducible first | refine wpH_max rfl _ _ _ _ rfl _ _ rfl rfl ?_ | refine wpH_min rfl _ _ _ _ rfl _ _ rfl rfl ?_) | ((with_reducible refine wpA_load rfl _ _ rfl _ rfl ?_); first | refine loadA hL ?_ | refine loadR hL ?_ | refine loadC hL ?_ | refine loadD ?_ | refine loadE hL ?_ | refine loadF ?_) | ((with_reducible refine wpA_index rfl _ _ _ rfl _ rfl _ rfl ?_); first | (refine indexA ?_; try rw [Int.toNat_natCast]) | refine indexC ?_) | ((with_reducible refine wpA_store rfl _ _ _ rfl _ rfl (.agg _) rfl ?_); refine storeR hL ?_; clear hL; intro _ hL) | ((with_reducible first | refine wpA_store rfl _ _ _ rfl _ rfl (.int _ _) rfl ?_ | refine wpA_store rfl _ _ _ rfl _ rfl (.slice _ _ _) rfl ?_ | refine wpA_store rfl _ _ _ rfl _ rfl (.bool _) rfl ?_ | refine wpA_store rfl _ _ _ rfl _ rfl (.pointer _) rfl ?_ | refine wpA_store rfl _ _ _ rfl _ rfl (.func _ _ _) rfl ?_); (first | refine storeA hL ?_ | refine storeO hL ?_); (clear hL; intro _ hL)) | ((with_reducible refine wpA_lit rfl _ _ _ rfl ?_); first | refine litA1 hL ?_ | refine litA2 hL ?_) | ((with_reducible refine wpA_append rfl _ _ _ rfl (.slice _ _ _) rfl ?_); intro vq hvq; simp [go_sem] at hvq; subst hvq; refine appendA hL ?_; clear hL; intro _ _ _ hL; try dsimp only at hL) | ((with_reducible refine wpA_make rfl _ _ _ rfl _ rfl rfl ?_); refine makeA hL ?_))
                go_roundw
                case rel => exact ⟨k + 1, by omega, by go_num, hL.drop .here⟩
                case measure => simp [intOf]; omega
          · have e : k = l.length := by omega
            subst e
            rw [List.take_length, maskG_congr hw0 (rowF_next p j _ HP.out)] at hL
            go_wp2_with (first | (first | (clear hL n1; with_reducible intro b1 w1 hL) | (clear hL n2; with_reducible intro b2 w2 hL) | (clear hL n3; with_reducible intro b3 w3 hL) | (clear hL; with_reducible intro _ _ hL)) | (with_reducible refine wpC_alloc rfl _ rfl _ _ inferInstance hL ?_) | (with_reducible first | refine wpB_agg rfl _ _ _ rfl rfl hL ?_ | refine wpB_one rfl _ _ (.int _ _) rfl rfl rfl hL ?_ | refine wpB_one rfl _ _ (.slice _ _ _) rfl rfl rfl hL ?_ | refine wpB_one rfl _ _ (.bool _) rfl rfl rfl hL ?_ | refine wpB_one rfl _ _ (.pointer _) rfl rfl rfl hL ?_ | refine wpB_one rfl _ _ (.func _ _ _) rfl rfl rfl hL ?_) | (with_reducible first | refine wpH_max rfl _ _ _ _ rfl _ _ rfl rfl ?_ | refine wpH_min rfl _ _ _ _ rfl _ _ rfl rfl ?_) | ((with_reducible refine wpA_load rfl _ _ rfl _ rfl ?_); first | refine loadA hL ?_ | refine loadR hL ?_ | refine loadC hL ?_ | refine loadD ?_ | refine loadE hL ?_ | refine loadF ?_) | ((with_reducible refine wpA_index rfl _ _ _ rfl _ rfl _ rfl ?_); first | (refine indexA ?_; try rw [Int.toNat_natCast]) | refine indexC ?_) | ((with_reducible refine wpA_store rfl _ _ _ rfl _ rfl (.agg _) rfl ?_); refine storeR hL ?_; clear hL; intro _ hL) | ((with_reducible first | refine wpA_store rfl _ _ _ rfl _ rfl (.int _ _) rfl ?_ | refine wpA_store rfl _ _ _ rfl _ rfl (.slice _ _ _) rfl ?_ | refine wpA_store rfl _ _ _ rfl _ rfl (.bool _) rfl ?_ | refine wpA_store rfl _ _ _ rfl _ rfl (.pointer _) rfl ?_ | refine wpA_store rfl _ _ _ rfl _ rfl (.func _ _ _) rfl ?_); (first | refine storeA hL ?_ | refine storeO hL ?_); (clear hL; intro _ hL)) | ((with_reducible refine wpA_lit rfl _ _ _ rfl ?_); first | refine litA1 hL ?_ | refine litA2 hL ?_) | ((with_reducible refine wpA_append rfl _ _ _ rfl (.slice _ _ _) rfl ?_); intro vq hvq; simp [go_sem] at hvq; subst hvq; refine appendA hL ?_; clear hL; intro _ _ _ hL; try dsimp only at hL) | ((with_reducible refine wpA_make rfl _ _ _ rfl _ rfl rfl ?_); refine makeA hL ?_))
            go_roundw
            case rel => exact ⟨j + 1, by omega, by go_num, hL⟩
            case measure => simp [intOf]; omega
      · have e : j = H := by omega
        subst e
        go_wp2_with (first | (first | (clear hL n1; with_reducible intro b1 w1 hL) | (clear hL n2; with_reducible intro b2 w2 hL) | (clear hL n3; with_reducible intro b3 w3 hL) | (clear hL; with_reducible intro _ _ hL)) | (with_reducible refine wpC_alloc rfl _ rfl _ _ inferInstance hL ?_) | (with_reducible first | refine wpB_agg rfl _ _ _ rfl rfl hL ?_ | refine wpB_one rfl _ _ (.int _ _) rfl rfl rfl hL ?_ | refine wpB_one rfl _ _ (.slice _ _ _) rfl rfl rfl hL ?_ | refine wpB_one rfl _ _ (.bool _) rfl rfl rfl hL ?_ | refine wpB_one rfl _ _ (.pointer _) rfl rfl rfl hL ?_ | refine wpB_one rfl _ _ (.func _ _ _) rfl rfl rfl hL ?_) | (with_reducible first | refine wpH_max rfl _ _ _ _ rfl _ _ rfl rfl ?_ | refine wpH_min rfl _ _ _ _ rfl _ _ rfl rfl ?_) | ((with_reducible refine wpA_load rfl _ _ rfl _ rfl ?_); first | refine loadA hL ?_ | refine loadR hL ?_ | refine loadC hL ?_ | refine loadD ?_ | refine loadE hL ?_ | refine loadF ?_) | ((with_reducible refine wpA_index rfl _ _ _ rfl _ rfl _ rfl ?_); first | (refine indexA ?_; try rw [Int.toNat_natCast]) | refine indexC ?_) | ((with_reducible refine wpA_store rfl _ _ _ rfl _ rfl (.agg _) rfl ?_); refine storeR hL ?_; clear hL; intro _ hL) | ((with_reducible first | refine wpA_store rfl _ _ _ rfl _ rfl (.int _ _) rfl ?_ | refine wpA_store rfl _ _ _ rfl _ rfl (.slice _ _ _) rfl ?_ | refine wpA_store rfl _ _ _ rfl _ rfl (.bool _) rfl ?_ | refine wpA_store rfl _ _ _ rfl _ rfl (.pointer _) rfl ?_ | refine wpA_store rfl _ _ _ rfl _ rfl (.func _ _ _) rfl ?_); (first | refine storeA hL ?_ | refine storeO hL ?_); (clear hL; intro _ hL)) | ((with_reducible refine wpA_lit rfl _ _ _ rfl ?_); first | refine litA1 hL ?_ | refine litA2 hL ?_) | ((with_reducible refine wpA_append rfl _ _ _ rfl (.slice _ _ _) rfl ?_); intro vq hvq; simp [go_sem] at hvq; subst hvq; refine appendA hL ?_; clear hL; intro _ _ _ hL; try dsimp only at hL) | ((with_reducible refine wpA_make rfl _ _ _ rfl _ rfl rfl ?_); refine makeA hL ?_))
        refine bodyPost_ret (results_row2 inferInstance rfl _ hL b2 rfl _ _ (.there (.there .here)) rfl) rfl ⟨some ⟨bm, 0, none⟩, rfl, hL.below, ?_⟩
        refine ((hL.settle (.there .here) (φ := fun w => w.heap[bm]? = some (.cells (arrU (W * j) (maskG W (rowF p j fun _ => false))) 5 (0, 0))) fun _ h => h).map fun w' h1 => ?_).fresh
        refine ⟨_, rfl, ?_⟩
        have := bytes_of h1 (by unfold maxLen; omega)
        rw [show (List.range (W * j)).map (maskG W (rowF p j fun _ => false)) = (pixMask W j p).B from ?_] at this
        · exact this
        · refine List.map_congr_left fun x hx => ?_
          have hx : x < W * j := by simpa using hx
          have : x / W < j := Nat.div_lt_of_lt_mul hx
          simp [maskG, rowF, this]
def ofRow (q : Nat → Bool) (n : Nat) : List (Int × Int) := (List.range n).map fun (i : Nat) => ((i : Int), (i : Int) + bit (q i))
theorem ofRow_succ (q : Nat → Bool) (n : Nat) : ofRow q (n + 1) = ofRow q n ++ [((n : Int), (n : Int) + bit (q n))] := by
  simp [ofRow, List.range_succ]
theorem inRuns_ofRow (q : Nat → Bool) : ∀ (n : Nat), n ≤ 64 → ∀ i, inRuns (ofRow q n) i = (decide (i < n) && q i)
  | 0, _, i => by simp [ofRow, inRuns]
  | n + 1, hn, i => by
    rw [ofRow_succ, inRuns_append, inRuns_ofRow q n (by omega) i]
    have e : inRuns [((n : Int), (n : Int) + bit (q n))] i = (decide (i = n) && q n) := by
      simp only [inRuns, List.any_cons, List.any_nil, Bool.or_false, inRun, bit]
      rw [Bool.eq_iff_iff]
      cases q n <;> simp <;> omega
    rw [e]
    by_cases h : i = n
    · subst h; simp
    · have : i < n + 1 ↔ i < n := by omega
      simp [h, this]
set_option maxRecDepth 100000 in
set_option maxHeartbeats 1000000 in
theorem ofRow_calls {W H : Nat} (hs : Sides W H) (w : World) (j bx : Nat) (ma : Option Addr) (q : Nat → Nat → Bool) (h0 : w.cell? ⟨bx, 0, none⟩ = some (.int .i64 W)) (h2 : w.cell? ⟨bx, 2, none⟩ = some (.slice ma (W * H) (W * H)))
    (hB : BytesAt w (.slice ma (W * H) (W * H)) (pixMask W H q).B) (hj : j < H) :
    Calls Try.prog 74 #[.int .i64 j, .pointer (some ⟨bx, 0, none⟩)] w (RunsRet (ofRow (q j) W) w) := by
  obtain ⟨a', cap', he, _, _, hel⟩ := hB.parts
  rw [pixMask_len] at he hel
  cases he
  obtain ⟨hw0, hw1, hh0, hh1⟩ := id hs
  obtain ⟨b, o, rfl, _⟩ := hel (j * W + 0) (idx_lt hj (by omega))
  have Hc := Lib.hid (show ∀ i, i < W → w.cell? ⟨b, o + j * W + i, none⟩ = some (.int .u8 (bit (q j i))) from fun i hi => by
    obtain ⟨b', o', e, hc⟩ := hel (j * W + i) (idx_lt hj hi)
    cases e
    rw [pixMask_get q hj hi] at hc
    rw [Nat.add_assoc]; exact hc)
  clear hel hB
  have g0 : 0 ≤ (j : Int) * (W : Int) := Int.mul_nonneg (by omega) (by omega)
  have g1 : (j : Int) * (W : Int) ≤ 4096 := by
    have := Nat.mul_le_mul (show j ≤ 64 by omega) hw1
    have h : ((j * W : Nat) : Int) ≤ 4096 := by omega
    simpa using h
  have g2 : ((j : Int) + 1) * (W : Int) = (j : Int) * (W : Int) + (W : Int) := by rw [Int.add_mul, Int.one_mul]
  have g3 : (j : Int) * (W : Int) + (W : Int) ≤ ((W * H : Nat) : Int) := by
    have := Nat.mul_le_mul_right W (show j + 1 ≤ H by omega)
    rw [Nat.add_mul, Nat.mul_comm H W, Nat.one_mul] at this
    have h : ((j * W + W : Nat) : Int) ≤ ((W * H : Nat) : Int) := by omega
    simpa using h
  have hL := Holds.start w
  have n1 : True := trivial; have n2 : True := trivial
  go_enter Try.func74, Try.ntmps74
  go_wp2_with (first | (first | (clear hL n1; with_reducible intro b1 w1 hL) | (clear hL n2; with_reducible intro b2 w2 hL) | (clear hL; with_reducible intro _ _ hL)) | (with_reducible refine wpC_alloc rfl _ rfl _ _ inferInstance hL ?_) | (with_reducible first | refine wpB_agg rfl _ _ _ rfl rfl hL ?_ | refine wpB_one rfl _ _ (.int _ _) rfl rfl rfl hL ?_ | refine wpB_one rfl _ _ (.slice _ _ _) rfl rfl rfl hL ?_ | refine wpB_one rfl _ _ (.bool _) rfl rfl rfl hL ?_ | refine wpB_one rfl _ _ (.pointer _) rfl rfl rfl hL ?_ | refine wpB_one rfl _ _ (.func _ _ _) rfl rfl rfl hL ?_) | (with_reducible first | refine wpH_max rfl _ _ _ _ rfl _ _ rfl rfl ?_ | refine wpH_min rfl _ _ _ _ rfl _ _ rfl rfl ?_) | ((with_reducible refine wpA_load rfl _ _ rfl _ rfl ?_); first | refine loadA hL ?_ | refine loadR hL ?_ | refine loadC hL ?_ | refine loadD ?_ | refine loadE hL ?_ | refine loadF ?_) | ((with_reducible refine wpA_index rfl _ _ _ rfl _ rfl _ rfl ?_); first | (refine indexA ?_; try rw [Int.toNat_natCast]) | refine indexC ?_) | ((with_reducible refine wpA_store rfl _ _ _ rfl _ rfl (.agg _) rfl ?_); refine storeR hL ?_; clear hL; intro _ hL) | ((with_reducible first | refine wpA_store rfl _ _ _ rfl _ rfl (.int _ _) rfl ?_ | refine wpA_store rfl _ _ _ rfl _ rfl (.slice _ _ _) rfl ?_ | refine wpA_store rfl _ _ _ rfl _ rfl (.bool _) rfl ?_ | refine wpA_store rfl _ _ _ rfl _ rfl (.pointer _) rfl ?_ | refine wpA_store rfl _ _ _ rfl _ rfl (.func _ _ _) rfl ?_); (first | refine storeA hL ?_ | refine storeO hL ?_); (clear hL; intro _ hL)) | ((with_reducible refine wpA_lit rfl _ _ _ rfl ?_); first | refine litA1 hL ?_ | refine litA2 hL ?_) | ((with_reducible refine wpA_append rfl _ _ _ rfl (.slice _ _ _) rfl ?_); intro vq hvq; simp [go_sem] at hvq; subst hvq; refine appendA hL ?_; clear hL; intro _ _ _ hL; try dsimp only at hL) | ((with_reducible refine wpA_make rfl _ _ _ rfl _ rfl rfl ?_); refine makeA hL ?_))
  simp only [Nat.add_sub_cancel_left]
  go_loopw [4, 20] (fun s4 s20 wr => ∃ i : Nat, i ≤ W ∧ s20 = .int .i64 i ∧ Holds w wr [own w.heap.size 35 2 s4 (ofRow (q j) i).length ((ofRow (q j) i).map runC).flatten] [])
    (fun s4 s20 wr => (64 - intOf s20).toNat)
  case atStart => exact ⟨0, by omega, rfl, hL.newOwn⟩
  case round =>
    clear hL
    obtain ⟨i, hi, rfl, hL⟩ := hrel
    by_cases hit : i < W
    · have hc := Hc.out i hit
      have Hr := Lib.hid (ofRow_succ (q j) i)
      have hlen : (ofRow (q j) i).length = i := by simp [ofRow]
      rw [hlen] at hL
      have Hlen := Lib.hid hlen; clear hlen
      generalize hl : ofRow (q j) i = l at *
      have Hlr := Lib.hid hl; clear hl
      generalize q j i = bq at *
      cases bq
      all_goals
        simp only [bit, if_true, Bool.false_eq_true, if_false] at hc Hr
        go_wp2_with (first | (first | (clear hL n1; with_reducible intro b1 w1 hL) | (clear hL n2; with_reducible intro b2 w2 hL) | (clear hL; with_reducible intro _ _ hL)) | (with_reducible refine wpC_alloc rfl _ rfl _ _ inferInstance hL ?_) | (with_reducible first | refine wpB_agg rfl _ _ _ rfl rfl hL ?_ | refine wpB_one rfl _ _ (.int _ _) rfl rfl rfl hL ?_ | refine wpB_one rfl _ _ (.slice _ _ _) rfl rfl rfl hL ?_ | refine wpB_one rfl _ _ (.bool _) rfl rfl rfl hL ?_ | refine wpB_one rfl _ _ (.pointer _) rfl rfl rfl hL ?_ | refine wpB_one rfl _ _ (.func _ _ _) rfl rfl rfl hL ?_) | (with_reducible first | refine wpH_max rfl _ _ _ _ rfl _ _ rfl rfl ?_ | refine wpH_min rfl _ _ _ _ rfl _ _ rfl rfl ?_) | ((with_reducible refine wpA_load rfl _ _ rfl _ rfl ?_); first | refine loadA hL ?_ | refine loadR hL ?_ | refine loadC hL ?_ | refine loadD ?_ | refine loadE hL ?_ | refine loadF ?_) | ((with_reducible refine wpA_index rfl _ _ _ rfl _ rfl _ rfl ?_); first | (refine indexA ?_; try rw [Int.toNat_natCast]) | refine indexC ?_) | ((with_reducible refine wpA_store rfl _ _ _ rfl _ rfl (.agg _) rfl ?_); refine storeR hL ?_; clear hL; intro _ hL) | ((with_reducible first | refine wpA_store rfl _ _ _ rfl _ rfl (.int _ _) rfl ?_ | refine wpA_store rfl _ _ _ rfl _ rfl (.slice _ _ _) rfl ?_ | refine wpA_store rfl _ _ _ rfl _ rfl (.bool _) rfl ?_ | refine wpA_store rfl _ _ _ rfl _ rfl (.pointer _) rfl ?_ | refine wpA_store rfl _ _ _ rfl _ rfl (.func _ _ _) rfl ?_); (first | refine storeA hL ?_ | refine storeO hL ?_); (clear hL; intro _ hL)) | ((with_reducible refine wpA_lit rfl _ _ _ rfl ?_); first | refine litA1 hL ?_ | refine litA2 hL ?_) | ((with_reducible refine wpA_append rfl _ _ _ rfl (.slice _ _ _) rfl ?_); intro vq hvq; simp [go_sem] at hvq; subst hvq; refine appendA hL ?_; clear hL; intro _ _ _ hL; try dsimp only at hL) | ((with_reducible refine wpA_make rfl _ _ _ rfl _ rfl rfl ?_); refine makeA hL ?_))
        go_roundw
        case rel =>
          refine ⟨i + 1, by omega, by go_num, ?_⟩
          rw [Hr.out]
          simp only [List.length_append, List.map_append, List.flatten_append, List.length_cons, List.length_nil, Hlen.out]
          exact hL
        case measure => simp [intOf]; omega
    · have e : i = W := by omega
      subst e
      go_wp2_with (first | (first | (clear hL n1; with_reducible intro b1 w1 hL) | (clear hL n2; with_reducible intro b2 w2 hL) | (clear hL; with_reducible intro _ _ hL)) | (with_reducible refine wpC_alloc rfl _ rfl _ _ inferInstance hL ?_) | (with_reducible first | refine wpB_agg rfl _ _ _ rfl rfl hL ?_ | refine wpB_one rfl _ _ (.int _ _) rfl rfl rfl hL ?_ | refine wpB_one rfl _ _ (.slice _ _ _) rfl rfl rfl hL ?_ | refine wpB_one rfl _ _ (.bool _) rfl rfl rfl hL ?_ | refine wpB_one rfl _ _ (.pointer _) rfl rfl rfl hL ?_ | refine wpB_one rfl _ _ (.func _ _ _) rfl rfl rfl hL ?_) | (with_reducible first | refine wpH_max rfl _ _ _ _ rfl _ _ rfl rfl ?_ | refine wpH_min rfl _ _ _ _ rfl _ _ rfl rfl ?_) | ((with_reducible refine wpA_load rfl _ _ rfl _ rfl ?_); first | refine loadA hL ?_ | refine loadR hL ?_ | refine loadC hL ?_ | refine loadD ?_ | refine loadE hL ?_ | refine loadF ?_) | ((with_reducible refine wpA_index rfl _ _ _ rfl _ rfl _ rfl ?_); first | (refine indexA ?_; try rw [Int.toNat_natCast]) | refine indexC ?_) | ((with_reducible refine wpA_store rfl _ _ _ rfl _ rfl (.agg _) rfl ?_); refine storeR hL ?_; clear hL; intro _ hL) | ((with_reducible first | refine wpA_store rfl _ _ _ rfl _ rfl (.int _ _) rfl ?_ | refine wpA_store rfl _ _ _ rfl _ rfl (.slice _ _ _) rfl ?_ | refine wpA_store rfl _ _ _ rfl _ rfl (.bool _) rfl ?_ | refine wpA_store rfl _ _ _ rfl _ rfl (.pointer _) rfl ?_ | refine wpA_store rfl _ _ _ rfl _ rfl (.func _ _ _) rfl ?_); (first | refine storeA hL ?_ | refine storeO hL ?_); (clear hL; intro _ hL)) | ((with_reducible refine wpA_lit rfl _ _ _ rfl ?_); first | refine litA1 hL ?_ | refine litA2 hL ?_) | ((with_reducible refine wpA_append rfl _ _ _ rfl (.slice _ _ _) rfl ?_); intro vq hvq; simp [go_sem] at hvq; subst hvq; refine appendA hL ?_; clear hL; intro _ _ _ hL; try dsimp only at hL) | ((with_reducible refine wpA_make rfl _ _ _ rfl _ rfl rfl ?_); refine makeA hL ?_))
      go_ret
      obtain ⟨v, hv, hb, hf⟩ := hL.sliceOut .here (by simp) rfl (runC_len _)
      exact ⟨v, hv, hb, hf.now⟩

theorem ofRow_pix {W H : Nat} (hs : Sides W H) (q : Nat → Nat → Bool) : madeReg W H (fun j => ofRow (q j) W) = pixReg W H q :=
  made_pix hs.w0 hs.w1 hs.h0 hs.h1 fun j _ i hi => by rw [inRuns_ofRow _ _ hs.w1]; simp [hi]

set_option maxHeartbeats 1000000 in
theorem pixOf_calls {W H : Nat} (hs : Sides W H) (w : World) (ma : Option Addr) (q : Nat → Nat → Bool) (h : MaskAt w (.agg #[.int .i64 W, .int .i64 H, .slice ma (W * H) (W * H)]) (pixMask W H q)) :
    Calls Try.prog 32 #[.agg #[.int .i64 W, .int .i64 H, .slice ma (W * H) (W * H)]] w (PixOut W H q w) := by
  have Hm := Lib.hid h
  obtain ⟨s, hv, hB⟩ := h
  simp at hv
  obtain ⟨e1, e2, rfl⟩ := hv
  clear e1 e2
  have HB := Lib.hid hB; clear hB
  have Hmay := Lib.hid (mask_may hs q)
  have hL := Holds.start w
  have n1 : True := trivial; have n2 : True := trivial; have n3 : True := trivial
  go_enter Try.func32, Try.ntmps32
  go_wp2_with (first | (go_at_call 51; (with_reducible refine (coverMay_calls _ _ _ (Hm.out.hold hL)).mono ?_); rintro e _ ⟨rfl, hb⟩; rw [Hmay.out]; replace hL := hL.call hb; clear hb) | (first | (clear hL n1; with_reducible intro b1 w1 hL) | (clear hL n2; with_reducible intro b2 w2 hL) | (clear hL n3; with_reducible intro b3 w3 hL) | (clear hL; with_reducible intro _ _ hL)) | (with_reducible refine wpC_alloc rfl _ rfl _ _ inferInstance hL ?_) | (with_reducible first | refine wpB_agg rfl _ _ _ rfl rfl hL ?_ | refine wpB_one rfl _ _ (.int _ _) rfl rfl rfl hL ?_ | refine wpB_one rfl _ _ (.slice _ _ _) rfl rfl rfl hL ?_ | refine wpB_one rfl _ _ (.bool _) rfl rfl rfl hL ?_ | refine wpB_one rfl _ _ (.pointer _) rfl rfl rfl hL ?_ | refine wpB_one rfl _ _ (.func _ _ _) rfl rfl rfl hL ?_) | (with_reducible first | refine wpH_max rfl _ _ _ _ rfl _ _ rfl rfl ?_ | refine wpH_min rfl _ _ _ _ rfl _ _ rfl rfl ?_) | ((with_reducible refine wpA_load rfl _ _ rfl _ rfl ?_); first | refine loadA hL ?_ | refine loadR hL ?_ | refine loadC hL ?_ | refine loadD ?_ | refine loadE hL ?_ | refine loadF ?_) | ((with_reducible refine wpA_index rfl _ _ _ rfl _ rfl _ rfl ?_); first | (refine indexA ?_; try rw [Int.toNat_natCast]) | refine indexC ?_) | ((with_reducible refine wpA_store rfl _ _ _ rfl _ rfl (.agg _) rfl ?_); refine storeR hL ?_; clear hL; intro _ hL) | ((with_reducible first | refine wpA_store rfl _ _ _ rfl _ rfl (.int _ _) rfl ?_ | refine wpA_store rfl _ _ _ rfl _ rfl (.slice _ _ _) rfl ?_ | refine wpA_store rfl _ _ _ rfl _ rfl (.bool _) rfl ?_ | refine wpA_store rfl _ _ _ rfl _ rfl (.pointer _) rfl ?_ | refine wpA_store rfl _ _ _ rfl _ rfl (.func _ _ _) rfl ?_); (first | refine storeA hL ?_ | refine storeO hL ?_); (clear hL; intro _ hL)) | ((with_reducible refine wpA_lit rfl _ _ _ rfl ?_); first | refine litA1 hL ?_ | refine litA2 hL ?_) | ((with_reducible refine wpA_append rfl _ _ _ rfl (.slice _ _ _) rfl ?_); intro vq hvq; simp [go_sem] at hvq; subst hvq; refine appendA hL ?_; clear hL; intro _ _ _ hL; try dsimp only at hL) | ((with_reducible refine wpA_make rfl _ _ _ rfl _ rfl rfl ?_); refine makeA hL ?_))
  have c0 := hL.cell (o := 0) (.there .here)
  have c2 := hL.cell (o := 2) (.there .here)
  simp only [List.getElem?_toArray, List.getElem?_cons_zero, List.getElem?_cons_succ] at c0 c2
  refine (regMade_calls _ _ _ _ _ (fun j => ofRow (q j) W) (fun j => #[.int .i64 j, .pointer (some ⟨b1, 0, none⟩)]) (fun j => rfl) (fun j hj w1 hb1 => ?_) (fun j w => ?_)).mono ?_
  · exact ofRow_calls hs w1 j b1 ma q (cell_later hb1 c0) (cell_later hb1 c2) (SliceAt.below HB.out (Below.from hL hb1)) (by omega)
  · kernel_rfl
  rintro e _ ⟨v, rfl, hb, hf⟩
  rw [ofRow_pix hs] at hf
  rw [madeErr_pix hs.w0 hs.w1 hs.h0 hs.h1]
  obtain ⟨sa, sn, sc, rfl, _⟩ := RegAt.shape hf.now
  replace hL := hL.callF hb hf
  clear hb hf c0 c2
  go_wp2_with (first | (first | (clear hL n1; with_reducible intro b1 w1 hL) | (clear hL n2; with_reducible intro b2 w2 hL) | (clear hL n3; with_reducible intro b3 w3 hL) | (clear hL; with_reducible intro _ _ hL)) | (with_reducible refine wpC_alloc rfl _ rfl _ _ inferInstance hL ?_) | (with_reducible first | refine wpB_agg rfl _ _ _ rfl rfl hL ?_ | refine wpB_one rfl _ _ (.int _ _) rfl rfl rfl hL ?_ | refine wpB_one rfl _ _ (.slice _ _ _) rfl rfl rfl hL ?_ | refine wpB_one rfl _ _ (.bool _) rfl rfl rfl hL ?_ | refine wpB_one rfl _ _ (.pointer _) rfl rfl rfl hL ?_ | refine wpB_one rfl _ _ (.func _ _ _) rfl rfl rfl hL ?_) | (with_reducible first | refine wpH_max rfl _ _ _ _ rfl _ _ rfl rfl ?_ | refine wpH_min rfl _ _ _ _ rfl _ _ rfl rfl ?_) | ((with_reducible refine wpA_load rfl _ _ rfl _ rfl ?_); first | refine loadA hL ?_ | refine loadR hL ?_ | refine loadC hL ?_ | refine loadD ?_ | refine loadE hL ?_ | refine loadF ?_) | ((with_reducible refine wpA_index rfl _ _ _ rfl _ rfl _ rfl ?_); first | (refine indexA ?_; try rw [Int.toNat_natCast]) | refine indexC ?_) | ((with_reducible refine wpA_store rfl _ _ _ rfl _ rfl (.agg _) rfl ?_); refine storeR hL ?_; clear hL; intro _ hL) | ((with_reducible first | refine wpA_store rfl _ _ _ rfl _ rfl (.int _ _) rfl ?_ | refine wpA_store rfl _ _ _ rfl _ rfl (.slice _ _ _) rfl ?_ | refine wpA_store rfl _ _ _ rfl _ rfl (.bool _) rfl ?_ | refine wpA_store rfl _ _ _ rfl _ rfl (.pointer _) rfl ?_ | refine wpA_store rfl _ _ _ rfl _ rfl (.func _ _ _) rfl ?_); (first | refine storeA hL ?_ | refine storeO hL ?_); (clear hL; intro _ hL)) | ((with_reducible refine wpA_lit rfl _ _ _ rfl ?_); first | refine litA1 hL ?_ | refine litA2 hL ?_) | ((with_reducible refine wpA_append rfl _ _ _ rfl (.slice _ _ _) rfl ?_); intro vq hvq; simp [go_sem] at hvq; subst hvq; refine appendA hL ?_; clear hL; intro _ _ _ hL; try dsimp only at hL) | ((with_reducible refine wpA_make rfl _ _ _ rfl _ rfl rfl ?_); refine makeA hL ?_))
  exact bodyPost_ret (results_row2 inferInstance rfl _ hL b2 rfl _ _ .here rfl) rfl ⟨sa, sn, sc, rfl, hL.below, hL.fresh⟩
end Go.Proofs.Ytjgnbmgdnfldeaa
