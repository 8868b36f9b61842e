/- The document's: the crossings of an edge. -/
import Derived.Test.YtneddfiohekhiaaRefI
import Derived.Test.YtneddfiohekhiaaWndM
-- lit6
namespace Go.Proofs.Ytneddfiohekhiaa
open Go.RowKit

theorem sdR_eq (a p s d : Int) : sdR a p s d = sideI a * sgR p s d := by
  unfold sdR sideI
  split
  · rw [Int.neg_one_mul]
  · rw [Int.one_mul]
def refL (e : Edg) (y : Int) : List Spt := hitL (spt1 e y) ++ hitL (spt2 e y)
theorem sptC_len (l : List Spt) : ∀ c ∈ l.map sptC, c.length = 5 := by
  intro c hc
  obtain ⟨e, _, rfl⟩ := List.mem_map.1 hc
  rfl
theorem hits_own {w0 w : World} {M M' : List Res} {B : Nat} {T : TypeId} {v : Value} {n : Nat} {xs : List Value} (l : List Spt) (hL : Holds w0 w M []) (hr : Rem M (own B T 5 v n xs) M') (hn : n = l.length) (hx : xs = (l.map sptC).flatten) : HitsOut l w0 (.returned v) w :=
  ⟨_, rfl, hL.below, (hL.settle hr (φ := fun w => SliceAt w 5 v (l.map sptC)) fun w h => own_sliceAt h (by rw [List.length_map]; exact hn) hx (sptC_len l)).fresh⟩
theorem hitL_one1 (x0 a b d ax bx : Int) : hitL (oneS 1 x0 a b d ax bx) = if decide (0 ≤ sdR a (-b) 1 d) && !decide (0 ≤ sdR a (-b - a) 1 d) then [⟨1, oneP x0 a b d ax bx, oneQ 1 a b ax bx, d, a * a⟩] else [] := by
  unfold oneS
  rw [← sdR_eq, ← sdR_eq]
  by_cases h1 : 0 ≤ sdR a (-b) 1 d <;> by_cases h2 : 0 ≤ sdR a (-b - a) 1 d
  all_goals
    first
    | (rw [if_pos (by omega)]; simp [h1, h2, hitL, noSpt])
    | (rw [if_neg (by omega)]; simp [h1, h2, hitL])
theorem hitL_one2 (x0 a b d ax bx : Int) : hitL (oneS (-1) x0 a b d ax bx) = if !decide (sdR a (-b) (-1) d ≤ 0) && decide (sdR a (-b - a) (-1) d ≤ 0) then [⟨-1, oneP x0 a b d ax bx, oneQ (-1) a b ax bx, d, a * a⟩] else [] := by
  unfold oneS
  rw [← sdR_eq, ← sdR_eq]
  by_cases h1 : sdR a (-b) (-1) d ≤ 0 <;> by_cases h2 : sdR a (-b - a) (-1) d ≤ 0
  all_goals
    first
    | (rw [if_pos (by omega)]; simp [h1, h2, hitL, noSpt])
    | (rw [if_neg (by omega)]; simp [h1, h2, hitL])

set_option maxRecDepth 100000 in
set_option maxHeartbeats 8000000 in
theorem rHits_calls (e : Edg) (y : Int) (hs : Small6 e y) (w : World) : Calls Try.prog 75 #[edgeV e, .int .i64 y] w (HitsOut (refL e y) w) := by
  cases hbt : e.bent with
  | false =>
    have HR := Lib.hid (show refL e y = hitL ⟨spT e y, spP e y, 0, 0, spM e y⟩ by unfold refL spt1 spt2; rw [hbt]; exact List.append_nil _)
    have HS := Lib.hid (fun w => rStraight_calls e y ⟨hs.a0, hs.a1, hs.b0, hs.b1, hs.e0, hs.e1, hs.f0, hs.f1, hs.g0, hs.g1⟩ w)
    obtain ⟨x0, y0, bt, cx, cy, x1, y1⟩ := e
    dsimp only at hbt
    subst hbt
    clear hs
    generalize refL ⟨x0, y0, false, cx, cy, x1, y1⟩ y = l at *
    generalize hitL ⟨spT ⟨x0, y0, false, cx, cy, x1, y1⟩ y, spP ⟨x0, y0, false, cx, cy, x1, y1⟩ y, 0, 0, spM ⟨x0, y0, false, cx, cy, x1, y1⟩ y⟩ = l2 at *
    unfold edgeV at *
    dsimp only at *
    have hL := Holds.start w
    have n1 : True := trivial
    go_enter Try.func75, Try.ntmps75
    go_wp2_with (first | (go_at_call 81; (with_reducible refine (HS.out _).mono ?_); rintro e _ ⟨v, rfl, hb, hf⟩; replace hL := hL.callF hb hf; clear hb hf) | (first | (clear hL n1; with_reducible intro b1 w1 hL) | (clear hL; with_reducible intro _ _ hL)) | (with_reducible refine wpC_alloc rfl _ rfl _ _ inferInstance hL ?_) | (with_reducible first | refine wpB_agg rfl _ _ _ rfl rfl hL ?_ | refine wpB_one rfl _ _ (.int _ _) rfl rfl rfl hL ?_ | refine wpB_one rfl _ _ (.slice _ _ _) rfl rfl rfl hL ?_ | refine wpB_one rfl _ _ (.bool _) rfl rfl rfl hL ?_ | refine wpB_one rfl _ _ (.pointer _) rfl rfl rfl hL ?_ | refine wpB_one rfl _ _ (.func _ _ _) rfl rfl rfl hL ?_) | (with_reducible first | refine wpH_max rfl _ _ _ _ rfl _ _ rfl rfl ?_ | refine wpH_min rfl _ _ _ _ rfl _ _ rfl rfl ?_) | ((with_reducible refine wpA_load rfl _ _ rfl _ rfl ?_); first | refine loadA hL ?_ | refine loadR hL ?_ | refine loadC hL ?_ | refine loadD ?_ | refine loadE hL ?_ | refine loadF ?_) | ((with_reducible refine wpA_index rfl _ _ _ rfl _ rfl _ rfl ?_); first | (refine indexA ?_; try rw [Int.toNat_natCast]) | refine indexC ?_) | ((with_reducible refine wpA_store rfl _ _ _ rfl _ rfl (.agg _) rfl ?_); refine storeR hL ?_; clear hL; intro _ hL) | ((with_reducible first | refine wpA_store rfl _ _ _ rfl _ rfl (.int _ _) rfl ?_ | refine wpA_store rfl _ _ _ rfl _ rfl (.slice _ _ _) rfl ?_ | refine wpA_store rfl _ _ _ rfl _ rfl (.bool _) rfl ?_ | refine wpA_store rfl _ _ _ rfl _ rfl (.pointer _) rfl ?_ | refine wpA_store rfl _ _ _ rfl _ rfl (.func _ _ _) rfl ?_); (first | refine storeA hL ?_ | refine storeO hL ?_); (clear hL; intro _ hL)) | ((with_reducible refine wpA_lit rfl _ _ _ rfl ?_); first | refine litA1 hL ?_ | refine litA2 hL ?_ | refine litA3 hL ?_ | refine litA4 hL ?_ | refine litA6 hL ?_) | ((with_reducible refine wpA_append rfl _ _ _ rfl (.slice _ _ _) rfl ?_); intro vq hvq; simp [go_sem] at hvq; subst hvq; refine appendA hL ?_; clear hL; intro _ _ _ hL; try dsimp only at hL) | ((with_reducible refine wpA_make rfl _ _ _ rfl _ rfl rfl ?_); refine makeA hL ?_))
    go_ret
    rw [HR.out]
    exact ⟨_, rfl, hL.below, hL.fresh⟩
  | true =>
    have H1 := Lib.hid (show refL e y = hitL (bent1 e.x0 (bA e) (bB e) (bC e y) (bAX e) (bBX e)) ++ hitL (bent2 e.x0 (bA e) (bB e) (bC e y) (bAX e) (bBX e)) by unfold refL spt1 spt2; rw [hbt]; rfl)
    have hbb : -16382 ≤ bB e ∧ bB e ≤ 16382 := by have := hs.b0; have := hs.b1; have := hs.d0; have := hs.d1; unfold bB; omega
    have hcc : -16382 ≤ bC e y ∧ bC e y ≤ 16382 := by have := hs.b0; have := hs.b1; have := hs.g0; have := hs.g1; unfold bC; omega
    have haa : -32764 ≤ bA e ∧ bA e ≤ 32764 := by have := hs.b0; have := hs.b1; have := hs.d0; have := hs.d1; have := hs.f0; have := hs.f1; unfold bA; omega
    have haxx : -32764 ≤ bAX e ∧ bAX e ≤ 32764 := by have := hs.a0; have := hs.a1; have := hs.c0; have := hs.c1; have := hs.e0; have := hs.e1; unfold bAX; omega
    have hbxx : -16382 ≤ bBX e ∧ bBX e ≤ 16382 := by have := hs.a0; have := hs.a1; have := hs.c0; have := hs.c1; unfold bBX; omega
    have HEv := Lib.hid (fun w => rEven_calls e (bB e) (bC e y) y hs hbb.1 hbb.2 hcc.1 hcc.2 w)
    have HHit := Lib.hid (fun s d w (hd0 : 0 ≤ d) (hd1 : d ≤ 805109772) (hs1 : s = 1 ∨ s = -1) (hq : bB e * bB e + d ≤ 1073479696) => rHit_calls e (bA e) (bB e) s d y hs ⟨hbb.1, hbb.2, haa.1, haa.2, haxx.1, haxx.2, hbxx.1, hbxx.2, hs.a0, hs.a1, hd0, hd1⟩ hq hs1 w)
    obtain ⟨x0, y0, bt, cx, cy, x1, y1⟩ := e
    obtain ⟨a0, a1, b0, b1, c0, c1, d0, d1, e0, e1, f0, f1, g0, g1⟩ := hs
    dsimp only at hbt
    subst hbt
    dsimp only [bA, bB, bC] at *
    generalize bAX ⟨x0, y0, true, cx, cy, x1, y1⟩ = ax at *
    generalize bBX ⟨x0, y0, true, cx, cy, x1, y1⟩ = bx at *
    generalize refL ⟨x0, y0, true, cx, cy, x1, y1⟩ y = l at *
    unfold edgeV at *
    dsimp only at *
    have hL := Holds.start w
    have n1 : True := trivial
    go_enter Try.func75, Try.ntmps75
    go_wp2_with (first | (first | (clear hL n1; with_reducible intro b1 w1 hL) | (clear hL; with_reducible intro _ _ hL)) | (with_reducible refine wpC_alloc rfl _ rfl _ _ inferInstance hL ?_) | (with_reducible first | refine wpB_agg rfl _ _ _ rfl rfl hL ?_ | refine wpB_one rfl _ _ (.int _ _) rfl rfl rfl hL ?_ | refine wpB_one rfl _ _ (.slice _ _ _) rfl rfl rfl hL ?_ | refine wpB_one rfl _ _ (.bool _) rfl rfl rfl hL ?_ | refine wpB_one rfl _ _ (.pointer _) rfl rfl rfl hL ?_ | refine wpB_one rfl _ _ (.func _ _ _) rfl rfl rfl hL ?_) | (with_reducible first | refine wpH_max rfl _ _ _ _ rfl _ _ rfl rfl ?_ | refine wpH_min rfl _ _ _ _ rfl _ _ rfl rfl ?_) | ((with_reducible refine wpA_load rfl _ _ rfl _ rfl ?_); first | refine loadA hL ?_ | refine loadR hL ?_ | refine loadC hL ?_ | refine loadD ?_ | refine loadE hL ?_ | refine loadF ?_) | ((with_reducible refine wpA_index rfl _ _ _ rfl _ rfl _ rfl ?_); first | (refine indexA ?_; try rw [Int.toNat_natCast]) | refine indexC ?_) | ((with_reducible refine wpA_store rfl _ _ _ rfl _ rfl (.agg _) rfl ?_); refine storeR hL ?_; clear hL; intro _ hL) | ((with_reducible first | refine wpA_store rfl _ _ _ rfl _ rfl (.int _ _) rfl ?_ | refine wpA_store rfl _ _ _ rfl _ rfl (.slice _ _ _) rfl ?_ | refine wpA_store rfl _ _ _ rfl _ rfl (.bool _) rfl ?_ | refine wpA_store rfl _ _ _ rfl _ rfl (.pointer _) rfl ?_ | refine wpA_store rfl _ _ _ rfl _ rfl (.func _ _ _) rfl ?_); (first | refine storeA hL ?_ | refine storeO hL ?_); (clear hL; intro _ hL)) | ((with_reducible refine wpA_lit rfl _ _ _ rfl ?_); first | refine litA1 hL ?_ | refine litA2 hL ?_ | refine litA3 hL ?_ | refine litA4 hL ?_ | refine litA6 hL ?_) | ((with_reducible refine wpA_append rfl _ _ _ rfl (.slice _ _ _) rfl ?_); intro vq hvq; simp [go_sem] at hvq; subst hvq; refine appendA hL ?_; clear hL; intro _ _ _ hL; try dsimp only at hL) | ((with_reducible refine wpA_make rfl _ _ _ rfl _ rfl rfl ?_); refine makeA hL ?_))
    have r0 : w1.cell? ⟨b1, 1, none⟩ = some (.int .i64 y0) := (hL.cell .here).trans rfl
    have r4 : w1.cell? ⟨b1, 4, none⟩ = some (.int .i64 cy) := (hL.cell .here).trans rfl
    have r6 : w1.cell? ⟨b1, 6, none⟩ = some (.int .i64 y1) := (hL.cell .here).trans rfl
    have q1 : IntKind.i64.wrap (2 * cy) = 2 * cy := by rw [IntKind.wrap_i64]; omega
    have q2 : IntKind.i64.wrap (y0 - 2 * cy) = y0 - 2 * cy := by rw [IntKind.wrap_i64]; omega
    have q3 : IntKind.i64.wrap (y0 - 2 * cy + y1) = y0 - 2 * cy + y1 := by rw [IntKind.wrap_i64]; omega
    have q4 : IntKind.i64.wrap (cy - y0) = cy - y0 := by rw [IntKind.wrap_i64]; omega
    have q5 : IntKind.i64.wrap (y0 - y) = y0 - y := by rw [IntKind.wrap_i64]; omega
    have hK := (Holds.start w1).drew
    refine wpH_begin (by kernel_rfl) (fun w' => Below w1.heap.size w1 w') ?_
    refine stH (i := 0) (.pointer (some ⟨b1, 1, none⟩)) hK.below ?_ ?_; (· exact fun w' _ => (by go_simp)); simp only [Act.put, List.setIfInBounds_toArray, List.set_cons_zero, List.set_cons_succ]
    refine stH (i := 1) (.int .i64 y0) hK.below ?_ ?_; (· exact fun w' hw => run_loadOp _ _ rfl _ rfl _ (load_cell (cell_later hw r0))); simp only [Act.put, List.setIfInBounds_toArray, List.set_cons_zero, List.set_cons_succ]
    refine stH (i := 2) (.pointer (some ⟨b1, 4, none⟩)) hK.below ?_ ?_; (· exact fun w' _ => (by go_simp)); simp only [Act.put, List.setIfInBounds_toArray, List.set_cons_zero, List.set_cons_succ]
    refine stH (i := 3) (.int .i64 cy) hK.below ?_ ?_; (· exact fun w' hw => run_loadOp _ _ rfl _ rfl _ (load_cell (cell_later hw r4))); simp only [Act.put, List.setIfInBounds_toArray, List.set_cons_zero, List.set_cons_succ]
    refine stH (i := 4) (.int .i64 (2 * cy)) hK.below ?_ ?_; (· exact fun w' _ => (by go_simp)); simp only [Act.put, List.setIfInBounds_toArray, List.set_cons_zero, List.set_cons_succ]
    refine stH (i := 5) (.int .i64 (y0 - 2 * cy)) hK.below ?_ ?_; (· exact fun w' _ => (by go_simp)); simp only [Act.put, List.setIfInBounds_toArray, List.set_cons_zero, List.set_cons_succ]
    refine stH (i := 6) (.pointer (some ⟨b1, 6, none⟩)) hK.below ?_ ?_; (· exact fun w' _ => (by go_simp)); simp only [Act.put, List.setIfInBounds_toArray, List.set_cons_zero, List.set_cons_succ]
    refine stH (i := 7) (.int .i64 y1) hK.below ?_ ?_; (· exact fun w' hw => run_loadOp _ _ rfl _ rfl _ (load_cell (cell_later hw r6))); simp only [Act.put, List.setIfInBounds_toArray, List.set_cons_zero, List.set_cons_succ]
    refine stH (i := 8) (.int .i64 (y0 - 2 * cy + y1)) hK.below ?_ ?_; (· exact fun w' _ => (by go_simp)); simp only [Act.put, List.setIfInBounds_toArray, List.set_cons_zero, List.set_cons_succ]
    refine stH (i := 9) (.pointer (some ⟨b1, 4, none⟩)) hK.below ?_ ?_; (· exact fun w' _ => (by go_simp)); simp only [Act.put, List.setIfInBounds_toArray, List.set_cons_zero, List.set_cons_succ]
    refine stH (i := 10) (.int .i64 cy) hK.below ?_ ?_; (· exact fun w' hw => run_loadOp _ _ rfl _ rfl _ (load_cell (cell_later hw r4))); simp only [Act.put, List.setIfInBounds_toArray, List.set_cons_zero, List.set_cons_succ]
    refine stH (i := 11) (.pointer (some ⟨b1, 1, none⟩)) hK.below ?_ ?_; (· exact fun w' _ => (by go_simp)); simp only [Act.put, List.setIfInBounds_toArray, List.set_cons_zero, List.set_cons_succ]
    refine stH (i := 12) (.int .i64 y0) hK.below ?_ ?_; (· exact fun w' hw => run_loadOp _ _ rfl _ rfl _ (load_cell (cell_later hw r0))); simp only [Act.put, List.setIfInBounds_toArray, List.set_cons_zero, List.set_cons_succ]
    refine stH (i := 13) (.int .i64 (cy - y0)) hK.below ?_ ?_; (· exact fun w' _ => (by go_simp)); simp only [Act.put, List.setIfInBounds_toArray, List.set_cons_zero, List.set_cons_succ]
    refine stH (i := 14) (.pointer (some ⟨b1, 1, none⟩)) hK.below ?_ ?_; (· exact fun w' _ => (by go_simp)); simp only [Act.put, List.setIfInBounds_toArray, List.set_cons_zero, List.set_cons_succ]
    refine stH (i := 15) (.int .i64 y0) hK.below ?_ ?_; (· exact fun w' hw => run_loadOp _ _ rfl _ rfl _ (load_cell (cell_later hw r0))); simp only [Act.put, List.setIfInBounds_toArray, List.set_cons_zero, List.set_cons_succ]
    refine stH (i := 16) (.int .i64 y) hK.below ?_ ?_; (· exact fun w' _ => (by go_simp)); simp only [Act.put, List.setIfInBounds_toArray, List.set_cons_zero, List.set_cons_succ]
    refine stH (i := 17) (.int .i64 (y0 - y)) hK.below ?_ ?_; (· exact fun w' _ => (by go_simp)); simp only [Act.put, List.setIfInBounds_toArray, List.set_cons_zero, List.set_cons_succ]
    refine stH (i := 18) (.int .i64 (y0 - 2 * cy + y1)) hK.below ?_ ?_; (· exact fun w' _ => (by go_simp)); simp only [Act.put, List.setIfInBounds_toArray, List.set_cons_zero, List.set_cons_succ]
    refine stH (i := 19) (.int .i64 (cy - y0)) hK.below ?_ ?_; (· exact fun w' _ => (by go_simp)); simp only [Act.put, List.setIfInBounds_toArray, List.set_cons_zero, List.set_cons_succ]
    refine stH (i := 20) (.int .i64 (y0 - y)) hK.below ?_ ?_; (· exact fun w' _ => (by go_simp)); simp only [Act.put, List.setIfInBounds_toArray, List.set_cons_zero, List.set_cons_succ]
    refine wpAnyH_done (by kernel_rfl) ?_ _
    replace hL := hL.drew
    clear hK r0 r4 r6 q1 q2 q3 q4 q5
    generalize y0 - 2 * cy + y1 = a at *
    generalize cy - y0 = b at *
    generalize y0 - y = c at *
    obtain ⟨ha1, ha2⟩ := haa
    obtain ⟨hb1, hb2⟩ := hbb
    obtain ⟨hc1, hc2⟩ := hcc
    rcases (by omega : (a = 0 ∧ b = 0) ∨ (a = 0 ∧ b ≠ 0) ∨ a ≠ 0) with ⟨h0, hb0⟩ | ⟨h0, hb0⟩ | h0
    · subst h0; subst hb0
      have e1 : l = [] := by rw [H1.out]; rfl
      subst e1
      go_wp2_with (first | (first | (clear hL n1; with_reducible intro b1 w1 hL) | (clear hL; with_reducible intro _ _ hL)) | (with_reducible refine wpC_alloc rfl _ rfl _ _ inferInstance hL ?_) | (with_reducible first | refine wpB_agg rfl _ _ _ rfl rfl hL ?_ | refine wpB_one rfl _ _ (.int _ _) rfl rfl rfl hL ?_ | refine wpB_one rfl _ _ (.slice _ _ _) rfl rfl rfl hL ?_ | refine wpB_one rfl _ _ (.bool _) rfl rfl rfl hL ?_ | refine wpB_one rfl _ _ (.pointer _) rfl rfl rfl hL ?_ | refine wpB_one rfl _ _ (.func _ _ _) rfl rfl rfl hL ?_) | (with_reducible first | refine wpH_max rfl _ _ _ _ rfl _ _ rfl rfl ?_ | refine wpH_min rfl _ _ _ _ rfl _ _ rfl rfl ?_) | ((with_reducible refine wpA_load rfl _ _ rfl _ rfl ?_); first | refine loadA hL ?_ | refine loadR hL ?_ | refine loadC hL ?_ | refine loadD ?_ | refine loadE hL ?_ | refine loadF ?_) | ((with_reducible refine wpA_index rfl _ _ _ rfl _ rfl _ rfl ?_); first | (refine indexA ?_; try rw [Int.toNat_natCast]) | refine indexC ?_) | ((with_reducible refine wpA_store rfl _ _ _ rfl _ rfl (.agg _) rfl ?_); refine storeR hL ?_; clear hL; intro _ hL) | ((with_reducible first | refine wpA_store rfl _ _ _ rfl _ rfl (.int _ _) rfl ?_ | refine wpA_store rfl _ _ _ rfl _ rfl (.slice _ _ _) rfl ?_ | refine wpA_store rfl _ _ _ rfl _ rfl (.bool _) rfl ?_ | refine wpA_store rfl _ _ _ rfl _ rfl (.pointer _) rfl ?_ | refine wpA_store rfl _ _ _ rfl _ rfl (.func _ _ _) rfl ?_); (first | refine storeA hL ?_ | refine storeO hL ?_); (clear hL; intro _ hL)) | ((with_reducible refine wpA_lit rfl _ _ _ rfl ?_); first | refine litA1 hL ?_ | refine litA2 hL ?_ | refine litA3 hL ?_ | refine litA4 hL ?_ | refine litA6 hL ?_) | ((with_reducible refine wpA_append rfl _ _ _ rfl (.slice _ _ _) rfl ?_); intro vq hvq; simp [go_sem] at hvq; subst hvq; refine appendA hL ?_; clear hL; intro _ _ _ hL; try dsimp only at hL) | ((with_reducible refine wpA_make rfl _ _ _ rfl _ rfl rfl ?_); refine makeA hL ?_))
      go_ret
      exact hits_none hL
    · subst h0
      have d2 : (b == 0) = false := by simp [hb0]
      have e1 : l = hitL (evenS b c ax bx x0) := by rw [H1.out]; exact List.append_nil _
      have E1 := Lib.hid e1
      clear e1
      go_wp2_with (first | (go_at_call 82; (with_reducible refine (HEv.out _).mono ?_); rintro e _ ⟨v, rfl, hb, hf⟩; replace hL := hL.callF hb hf; clear hb hf) | (first | (clear hL n1; with_reducible intro b1 w1 hL) | (clear hL; with_reducible intro _ _ hL)) | (with_reducible refine wpC_alloc rfl _ rfl _ _ inferInstance hL ?_) | (with_reducible first | refine wpB_agg rfl _ _ _ rfl rfl hL ?_ | refine wpB_one rfl _ _ (.int _ _) rfl rfl rfl hL ?_ | refine wpB_one rfl _ _ (.slice _ _ _) rfl rfl rfl hL ?_ | refine wpB_one rfl _ _ (.bool _) rfl rfl rfl hL ?_ | refine wpB_one rfl _ _ (.pointer _) rfl rfl rfl hL ?_ | refine wpB_one rfl _ _ (.func _ _ _) rfl rfl rfl hL ?_) | (with_reducible first | refine wpH_max rfl _ _ _ _ rfl _ _ rfl rfl ?_ | refine wpH_min rfl _ _ _ _ rfl _ _ rfl rfl ?_) | ((with_reducible refine wpA_load rfl _ _ rfl _ rfl ?_); first | refine loadA hL ?_ | refine loadR hL ?_ | refine loadC hL ?_ | refine loadD ?_ | refine loadE hL ?_ | refine loadF ?_) | ((with_reducible refine wpA_index rfl _ _ _ rfl _ rfl _ rfl ?_); first | (refine indexA ?_; try rw [Int.toNat_natCast]) | refine indexC ?_) | ((with_reducible refine wpA_store rfl _ _ _ rfl _ rfl (.agg _) rfl ?_); refine storeR hL ?_; clear hL; intro _ hL) | ((with_reducible first | refine wpA_store rfl _ _ _ rfl _ rfl (.int _ _) rfl ?_ | refine wpA_store rfl _ _ _ rfl _ rfl (.slice _ _ _) rfl ?_ | refine wpA_store rfl _ _ _ rfl _ rfl (.bool _) rfl ?_ | refine wpA_store rfl _ _ _ rfl _ rfl (.pointer _) rfl ?_ | refine wpA_store rfl _ _ _ rfl _ rfl (.func _ _ _) rfl ?_); (first | refine storeA hL ?_ | refine storeO hL ?_); (clear hL; intro _ hL)) | ((with_reducible refine wpA_lit rfl _ _ _ rfl ?_); first | refine litA1 hL ?_ | refine litA2 hL ?_ | refine litA3 hL ?_ | refine litA4 hL ?_ | refine litA6 hL ?_) | ((with_reducible refine wpA_append rfl _ _ _ rfl (.slice _ _ _) rfl ?_); intro vq hvq; simp [go_sem] at hvq; subst hvq; refine appendA hL ?_; clear hL; intro _ _ _ hL; try dsimp only at hL) | ((with_reducible refine wpA_make rfl _ _ _ rfl _ rfl rfl ?_); refine makeA hL ?_))
      go_ret
      rw [E1.out]
      exact ⟨_, rfl, hL.below, hL.fresh⟩
    · have d1 : (a == 0) = false := by simp [h0]
      obtain ⟨k1, k2⟩ := mul_bd (a := b) (b := b) (A := 16382) (B := 16382) (by omega) (by omega) (by omega) (by omega)
      obtain ⟨k3, k4⟩ := mul_bd (a := a) (b := c) (A := 32764) (B := 16382) (by omega) (by omega) (by omega) (by omega)
      rcases (by omega : b * b - a * c < 0 ∨ (b * b - a * c = 0 ∧ a < 0) ∨ ¬ (b * b - a * c < 0 ∨ (b * b - a * c = 0 ∧ a < 0))) with h1 | ⟨h1, h2⟩ | h1
      · have e1 : l = [] := by rw [H1.out, bent1, bent2, if_neg h0, if_neg h0, if_pos (.inl h1), if_pos (.inl h1)]; rfl
        subst e1
        go_wp2_with (first | (first | (clear hL n1; with_reducible intro b1 w1 hL) | (clear hL; with_reducible intro _ _ hL)) | (with_reducible refine wpC_alloc rfl _ rfl _ _ inferInstance hL ?_) | (with_reducible first | refine wpB_agg rfl _ _ _ rfl rfl hL ?_ | refine wpB_one rfl _ _ (.int _ _) rfl rfl rfl hL ?_ | refine wpB_one rfl _ _ (.slice _ _ _) rfl rfl rfl hL ?_ | refine wpB_one rfl _ _ (.bool _) rfl rfl rfl hL ?_ | refine wpB_one rfl _ _ (.pointer _) rfl rfl rfl hL ?_ | refine wpB_one rfl _ _ (.func _ _ _) rfl rfl rfl hL ?_) | (with_reducible first | refine wpH_max rfl _ _ _ _ rfl _ _ rfl rfl ?_ | refine wpH_min rfl _ _ _ _ rfl _ _ rfl rfl ?_) | ((with_reducible refine wpA_load rfl _ _ rfl _ rfl ?_); first | refine loadA hL ?_ | refine loadR hL ?_ | refine loadC hL ?_ | refine loadD ?_ | refine loadE hL ?_ | refine loadF ?_) | ((with_reducible refine wpA_index rfl _ _ _ rfl _ rfl _ rfl ?_); first | (refine indexA ?_; try rw [Int.toNat_natCast]) | refine indexC ?_) | ((with_reducible refine wpA_store rfl _ _ _ rfl _ rfl (.agg _) rfl ?_); refine storeR hL ?_; clear hL; intro _ hL) | ((with_reducible first | refine wpA_store rfl _ _ _ rfl _ rfl (.int _ _) rfl ?_ | refine wpA_store rfl _ _ _ rfl _ rfl (.slice _ _ _) rfl ?_ | refine wpA_store rfl _ _ _ rfl _ rfl (.bool _) rfl ?_ | refine wpA_store rfl _ _ _ rfl _ rfl (.pointer _) rfl ?_ | refine wpA_store rfl _ _ _ rfl _ rfl (.func _ _ _) rfl ?_); (first | refine storeA hL ?_ | refine storeO hL ?_); (clear hL; intro _ hL)) | ((with_reducible refine wpA_lit rfl _ _ _ rfl ?_); first | refine litA1 hL ?_ | refine litA2 hL ?_ | refine litA3 hL ?_ | refine litA4 hL ?_ | refine litA6 hL ?_) | ((with_reducible refine wpA_append rfl _ _ _ rfl (.slice _ _ _) rfl ?_); intro vq hvq; simp [go_sem] at hvq; subst hvq; refine appendA hL ?_; clear hL; intro _ _ _ hL; try dsimp only at hL) | ((with_reducible refine wpA_make rfl _ _ _ rfl _ rfl rfl ?_); refine makeA hL ?_))
        go_ret
        exact hits_none hL
      · have e1 : l = [] := by rw [H1.out, bent1, bent2, if_neg h0, if_neg h0, if_pos (.inr ⟨h1, h2⟩), if_pos (.inr ⟨h1, h2⟩)]; rfl
        subst e1
        have d2 : (b * b - a * c == 0) = true := by simp [h1]
        have H1' := Lib.hid h1; clear h1
        have h1 : 0 ≤ b * b - a * c := by have := H1'.out; omega
        go_wp2_with (first | (first | (clear hL n1; with_reducible intro b1 w1 hL) | (clear hL; with_reducible intro _ _ hL)) | (with_reducible refine wpC_alloc rfl _ rfl _ _ inferInstance hL ?_) | (with_reducible first | refine wpB_agg rfl _ _ _ rfl rfl hL ?_ | refine wpB_one rfl _ _ (.int _ _) rfl rfl rfl hL ?_ | refine wpB_one rfl _ _ (.slice _ _ _) rfl rfl rfl hL ?_ | refine wpB_one rfl _ _ (.bool _) rfl rfl rfl hL ?_ | refine wpB_one rfl _ _ (.pointer _) rfl rfl rfl hL ?_ | refine wpB_one rfl _ _ (.func _ _ _) rfl rfl rfl hL ?_) | (with_reducible first | refine wpH_max rfl _ _ _ _ rfl _ _ rfl rfl ?_ | refine wpH_min rfl _ _ _ _ rfl _ _ rfl rfl ?_) | ((with_reducible refine wpA_load rfl _ _ rfl _ rfl ?_); first | refine loadA hL ?_ | refine loadR hL ?_ | refine loadC hL ?_ | refine loadD ?_ | refine loadE hL ?_ | refine loadF ?_) | ((with_reducible refine wpA_index rfl _ _ _ rfl _ rfl _ rfl ?_); first | (refine indexA ?_; try rw [Int.toNat_natCast]) | refine indexC ?_) | ((with_reducible refine wpA_store rfl _ _ _ rfl _ rfl (.agg _) rfl ?_); refine storeR hL ?_; clear hL; intro _ hL) | ((with_reducible first | refine wpA_store rfl _ _ _ rfl _ rfl (.int _ _) rfl ?_ | refine wpA_store rfl _ _ _ rfl _ rfl (.slice _ _ _) rfl ?_ | refine wpA_store rfl _ _ _ rfl _ rfl (.bool _) rfl ?_ | refine wpA_store rfl _ _ _ rfl _ rfl (.pointer _) rfl ?_ | refine wpA_store rfl _ _ _ rfl _ rfl (.func _ _ _) rfl ?_); (first | refine storeA hL ?_ | refine storeO hL ?_); (clear hL; intro _ hL)) | ((with_reducible refine wpA_lit rfl _ _ _ rfl ?_); first | refine litA1 hL ?_ | refine litA2 hL ?_ | refine litA3 hL ?_ | refine litA4 hL ?_ | refine litA6 hL ?_) | ((with_reducible refine wpA_append rfl _ _ _ rfl (.slice _ _ _) rfl ?_); intro vq hvq; simp [go_sem] at hvq; subst hvq; refine appendA hL ?_; clear hL; intro _ _ _ hL; try dsimp only at hL) | ((with_reducible refine wpA_make rfl _ _ _ rfl _ rfl rfl ?_); refine makeA hL ?_))
        go_ret
        exact hits_none hL
      · have e1 : l = hitL (oneS 1 x0 a b (b * b - a * c) ax bx) ++ hitL (oneS (-1) x0 a b (b * b - a * c) ax bx) := by rw [H1.out, bent1, bent2, if_neg h0, if_neg h0, if_neg h1, if_neg h1]
        rw [hitL_one1, hitL_one2] at e1
        have hcase : (a < 0 ∧ ((b * b - a * c == 0) = false)) ∨ (0 < a ∧ ((b * b - a * c == 0) = true)) ∨ (0 < a ∧ ((b * b - a * c == 0) = false)) := by
          simp only [beq_iff_eq, beq_eq_false_iff_ne, ne_eq]
          omega
        have hd : 0 ≤ b * b - a * c ∧ b * b - a * c ≤ 805109772 := by omega
        obtain ⟨hd0, hd1⟩ := hd
        have HF := Lib.hid (fun w => rFrom_calls a b 1 (b * b - a * c) hb1 hb2 ⟨by omega, by omega, by omega, by omega, by omega, by omega⟩ w)
        have HT := Lib.hid (fun w => rTo_calls a b 1 (b * b - a * c) true ha1 ha2 hb1 hb2 ⟨by omega, by omega, by omega, by omega, by omega, by omega⟩ w)
        have HF0 := Lib.hid (fun w => rFrom0_calls a b (-1) (b * b - a * c) hb1 hb2 ⟨by omega, by omega, by omega, by omega, by omega, by omega⟩ w)
        have HT0 := Lib.hid (fun w => rTo_calls a b (-1) (b * b - a * c) false ha1 ha2 hb1 hb2 ⟨by omega, by omega, by omega, by omega, by omega, by omega⟩ w)
        have HH1 := Lib.hid (fun w => HHit.out 1 (b * b - a * c) w hd0 hd1 (.inl rfl) (by omega))
        have HH2 := Lib.hid (fun w => HHit.out (-1) (b * b - a * c) w hd0 hd1 (.inr rfl) (by omega))
        simp only [if_true, Bool.false_eq_true, if_false] at HT HT0
        generalize decide (0 ≤ sdR a (-b) 1 (b * b - a * c)) = f1 at *
        generalize decide (0 ≤ sdR a (-b - a) 1 (b * b - a * c)) = g1 at *
        generalize decide (sdR a (-b) (-1) (b * b - a * c) ≤ 0) = f2 at *
        generalize decide (sdR a (-b - a) (-1) (b * b - a * c) ≤ 0) = g2 at *
        generalize oneP x0 a b (b * b - a * c) ax bx = PP at *
        generalize oneQ 1 a b ax bx = Q1 at *
        generalize oneQ (-1) a b ax bx = Q2 at *
        have E1 := Lib.hid e1
        clear e1 H1 h1 HHit HEv
        have hsel1 : f1 = false ∨ (f1 = true ∧ g1 = true) ∨ (f1 = true ∧ g1 = false) := by cases f1 <;> cases g1 <;> simp
        have hsel2 : f2 = true ∨ (f2 = false ∧ g2 = true) ∨ (f2 = false ∧ g2 = false) := by cases f2 <;> cases g2 <;> simp
        rcases hcase with ⟨hs, d2⟩ | ⟨hs, d2⟩ | ⟨hs, d2⟩
        all_goals
          replace hL := hL.newOwn (B := w.heap.size) (e := 104) (size := 5)
          rcases hsel1 with rfl | ⟨rfl, rfl⟩ | ⟨rfl, rfl⟩ <;> rcases hsel2 with rfl | ⟨rfl, rfl⟩ | ⟨rfl, rfl⟩
          all_goals
            have n1 : True := trivial
            go_wp2_with (first | (go_at_call 83; (with_reducible refine (HF.out _).mono ?_); rintro e _ ⟨rfl, hb⟩; replace hL := hL.call hb; clear hb) | (go_at_call 86; (with_reducible refine (HF0.out _).mono ?_); rintro e _ ⟨rfl, hb⟩; replace hL := hL.call hb; clear hb) | (go_at_call 84; (first | ((with_reducible refine (HT.out _).mono ?_); rintro e _ ⟨rfl, hb⟩; replace hL := hL.call hb; clear hb) | ((with_reducible refine (HT0.out _).mono ?_); rintro e _ ⟨rfl, hb⟩; replace hL := hL.call hb; clear hb))) | (go_at_call 85; (first | ((with_reducible refine (HH1.out _).mono ?_); rintro e _ ⟨rfl, hb⟩; replace hL := hL.call hb; clear hb) | ((with_reducible refine (HH2.out _).mono ?_); rintro e _ ⟨rfl, hb⟩; replace hL := hL.call hb; clear hb))) | (first | (clear hL n1; with_reducible intro b1 w1 hL) | (clear hL; with_reducible intro _ _ hL)) | (with_reducible refine wpC_alloc rfl _ rfl _ _ inferInstance hL ?_) | (with_reducible first | refine wpB_agg rfl _ _ _ rfl rfl hL ?_ | refine wpB_one rfl _ _ (.int _ _) rfl rfl rfl hL ?_ | refine wpB_one rfl _ _ (.slice _ _ _) rfl rfl rfl hL ?_ | refine wpB_one rfl _ _ (.bool _) rfl rfl rfl hL ?_ | refine wpB_one rfl _ _ (.pointer _) rfl rfl rfl hL ?_ | refine wpB_one rfl _ _ (.func _ _ _) rfl rfl rfl hL ?_) | (with_reducible first | refine wpH_max rfl _ _ _ _ rfl _ _ rfl rfl ?_ | refine wpH_min rfl _ _ _ _ rfl _ _ rfl rfl ?_) | ((with_reducible refine wpA_load rfl _ _ rfl _ rfl ?_); first | refine loadA hL ?_ | refine loadR hL ?_ | refine loadC hL ?_ | refine loadD ?_ | refine loadE hL ?_ | refine loadF ?_) | ((with_reducible refine wpA_index rfl _ _ _ rfl _ rfl _ rfl ?_); first | (refine indexA ?_; try rw [Int.toNat_natCast]) | refine indexC ?_) | ((with_reducible refine wpA_store rfl _ _ _ rfl _ rfl (.agg _) rfl ?_); refine storeR hL ?_; clear hL; intro _ hL) | ((with_reducible first | refine wpA_store rfl _ _ _ rfl _ rfl (.int _ _) rfl ?_ | refine wpA_store rfl _ _ _ rfl _ rfl (.slice _ _ _) rfl ?_ | refine wpA_store rfl _ _ _ rfl _ rfl (.bool _) rfl ?_ | refine wpA_store rfl _ _ _ rfl _ rfl (.pointer _) rfl ?_ | refine wpA_store rfl _ _ _ rfl _ rfl (.func _ _ _) rfl ?_); (first | refine storeA hL ?_ | refine storeO hL ?_); (clear hL; intro _ hL)) | ((with_reducible refine wpA_lit rfl _ _ _ rfl ?_); first | refine litA1 hL ?_ | refine litA2 hL ?_ | refine litA3 hL ?_ | refine litA4 hL ?_ | refine litA6 hL ?_) | ((with_reducible refine wpA_append rfl _ _ _ rfl (.slice _ _ _) rfl ?_); intro vq hvq; simp [go_sem] at hvq; subst hvq; refine appendA hL ?_; clear hL; intro _ _ _ hL; try dsimp only at hL) | ((with_reducible refine wpA_make rfl _ _ _ rfl _ rfl rfl ?_); refine makeA hL ?_))
            go_ret
            have e1 := E1.out
            simp only [Bool.not_true, Bool.not_false, Bool.and_false, Bool.false_and, Bool.and_self, if_true, Bool.false_eq_true, if_false, List.append_nil, List.nil_append, List.cons_append] at e1
            subst e1
            first | exact hits_own _ hL .here rfl rfl | exact hits_own _ hL (.there .here) rfl rfl
end Go.Proofs.Ytneddfiohekhiaa
