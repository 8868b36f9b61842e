/- Package wind: any edges. -/
import Derived.Test.YtneddfiohekhiaaTurnsH
-- lit6
namespace Go.Proofs.Ytneddfiohekhiaa
open Go.RowKit

def windG (l : List Edg) (x y : Int) : Int := (l.map fun e => turnG e x y).sum
theorem turnG_bd (e : Edg) (x y : Int) : -2 ≤ turnG e x y ∧ turnG e x y ≤ 2 := by
  have h := spt_turn e y
  have h1 := hitT_bd _ x h.1
  have h2 := hitT_bd _ x h.2
  unfold turnG; split <;> omega
theorem windG_step {l : List Edg} {k : Nat} (h : k < l.length) (x y : Int) : windG (l.take (k + 1)) x y = windG (l.take k) x y + turnG (l.getD k default) x y := by
  unfold windG
  rw [List.take_succ_eq_append_getElem h, List.map_append, List.sum_append]
  simp [h]
theorem windG_bd (x y : Int) : ∀ l : List Edg, -(2 * (l.length : Int)) ≤ windG l x y ∧ windG l x y ≤ 2 * l.length
  | [] => by simp [windG]
  | e :: l => by
    have h1 := windG_bd x y l
    have h2 := turnG_bd e x y
    have h3 : windG (e :: l) x y = turnG e x y + windG l x y := by simp [windG]
    rw [h3, List.length_cons]
    omega

set_option maxRecDepth 100000 in
set_option maxHeartbeats 2000000 in
theorem pointAddG_calls (w : World) (b : Nat) (x y n : Int) (T' : TypeId) (hp : w.heap[b]? = some (.cells #[.int .i64 x, .int .i64 y, .int .i64 n] T' (0, 0))) (e : Edg) (hn1 : -4611686018427387904 ≤ n) (hn2 : n ≤ 4611686018427387904) :
    Calls Try.prog 68 #[.pointer (some ⟨b, 0, none⟩), edgeV e] w fun r w' => r = .returned (.tuple #[]) ∧ ∃ w1, Below w.heap.size w w1 ∧ w' = w1.setCell ⟨b, 2, none⟩ (.int .i64 (n + turnG e x y)) := by
  have hblt : b < w.heap.size := (Array.getElem?_eq_some_iff.1 hp).1
  have q0 : w.cell? ⟨b, 0, none⟩ = some (.int .i64 x) := (cell_of_row w b 0 _ T' (0, 0) hp).trans rfl
  have q1 : w.cell? ⟨b, 1, none⟩ = some (.int .i64 y) := (cell_of_row w b 1 _ T' (0, 0) hp).trans rfl
  have q2 : w.cell? ⟨b, 2, none⟩ = some (.int .i64 n) := (cell_of_row w b 2 _ T' (0, 0) hp).trans rfl
  have HT := Lib.hid (fun w => turnsG_calls e x y w)
  have hbd := turnG_bd e x y
  obtain ⟨d1, d2⟩ := hbd
  generalize turnG e x y = T at *
  obtain ⟨ex0, ey0, bt, ecx, ecy, ex1, ey1⟩ := e
  unfold edgeV at *
  dsimp only at HT
  have hL := Holds.start w
  have Hp := Lib.hid hp; clear hp
  have n1 : True := trivial
  go_enter Try.func68, Try.ntmps68
  go_wp2_with (first | (first | (clear hL n1; with_reducible intro b1 w1 hL) | (clear hL; with_reducible intro _ _ hL)) | (with_reducible refine wpC_alloc rfl _ rfl _ _ inferInstance hL ?_) | (with_reducible first | refine wpB_agg rfl _ _ _ rfl rfl hL ?_ | refine wpB_one rfl _ _ (.int _ _) rfl rfl rfl hL ?_ | refine wpB_one rfl _ _ (.slice _ _ _) rfl rfl rfl hL ?_ | refine wpB_one rfl _ _ (.bool _) rfl rfl rfl hL ?_ | refine wpB_one rfl _ _ (.pointer _) rfl rfl rfl hL ?_ | refine wpB_one rfl _ _ (.func _ _ _) rfl rfl rfl hL ?_) | (with_reducible first | refine wpH_max rfl _ _ _ _ rfl _ _ rfl rfl ?_ | refine wpH_min rfl _ _ _ _ rfl _ _ rfl rfl ?_) | ((with_reducible refine wpA_load rfl _ _ rfl _ rfl ?_); first | refine loadA hL ?_ | refine loadR hL ?_ | refine loadC hL ?_ | refine loadD ?_ | refine loadE hL ?_ | refine loadF ?_) | ((with_reducible refine wpA_index rfl _ _ _ rfl _ rfl _ rfl ?_); first | (refine indexA ?_; try rw [Int.toNat_natCast]) | refine indexC ?_) | ((with_reducible refine wpA_store rfl _ _ _ rfl _ rfl (.agg _) rfl ?_); refine storeR hL ?_; clear hL; intro _ hL) | ((with_reducible first | refine wpA_store rfl _ _ _ rfl _ rfl (.int _ _) rfl ?_ | refine wpA_store rfl _ _ _ rfl _ rfl (.slice _ _ _) rfl ?_ | refine wpA_store rfl _ _ _ rfl _ rfl (.bool _) rfl ?_ | refine wpA_store rfl _ _ _ rfl _ rfl (.pointer _) rfl ?_ | refine wpA_store rfl _ _ _ rfl _ rfl (.func _ _ _) rfl ?_); (first | refine storeA hL ?_ | refine storeO hL ?_); (clear hL; intro _ hL)) | ((with_reducible refine wpA_lit rfl _ _ _ rfl ?_); first | refine litA1 hL ?_ | refine litA2 hL ?_ | refine litA3 hL ?_ | refine litA4 hL ?_ | refine litA6 hL ?_) | ((with_reducible refine wpA_append rfl _ _ _ rfl (.slice _ _ _) rfl ?_); intro vq hvq; simp [go_sem] at hvq; subst hvq; refine appendA hL ?_; clear hL; intro _ _ _ hL; try dsimp only at hL) | ((with_reducible refine wpA_make rfl _ _ _ rfl _ rfl rfl ?_); refine makeA hL ?_))
  have hK := (Holds.start w1).drew
  have r0 := hL.old q0
  have r1 := hL.old q1
  have r2 := hL.old q2
  have r3 : w1.rangeAt b1 0 [.int .i64 ex0, .int .i64 ey0, .bool bt, .int .i64 ecx, .int .i64 ecy, .int .i64 ex1, .int .i64 ey1] := fun j v hj => by
    rw [Nat.zero_add, hL.cell .here]; simpa using hj
  clear q0 q1 q2
  have hwr : IntKind.i64.wrap (n + T) = n + T := by rw [IntKind.wrap_i64]; omega
  refine wpM_begin (by kernel_rfl) (fun w' => Below w1.heap.size w1 w') 17 ?_
  refine stM (i := 0) (.pointer (some ⟨b, 0, none⟩)) hK.below ?_ ?_; (· exact fun w' _ => (by go_simp)); simp only [Act.put, List.setIfInBounds_toArray, List.set_cons_zero, List.set_cons_succ]
  refine stM (i := 1) (.pointer (some ⟨b, 0, none⟩)) hK.below ?_ ?_; (· exact fun w' _ => (by go_simp)); simp only [Act.put, List.setIfInBounds_toArray, List.set_cons_zero, List.set_cons_succ]
  refine stM (i := 2) (.pointer (some ⟨b, 2, none⟩)) hK.below ?_ ?_; (· exact fun w' _ => (by go_simp)); simp only [Act.put, List.setIfInBounds_toArray, List.set_cons_zero, List.set_cons_succ]
  refine stM (i := 3) (.int .i64 n) hK.below ?_ ?_; (· exact fun w' hw => run_loadOp _ _ rfl _ rfl _ (load_cell (cell_later hw r2))); simp only [Act.put, List.setIfInBounds_toArray, List.set_cons_zero, List.set_cons_succ]
  refine stM (i := 4) (.agg #[.int .i64 ex0, .int .i64 ey0, .bool bt, .int .i64 ecx, .int .i64 ecy, .int .i64 ex1, .int .i64 ey1]) hK.below ?_ ?_; (· exact fun w' hw => run_loadOp _ _ rfl _ rfl _ (load_range rfl (rangeAt_below r3 hw))); simp only [Act.put, List.setIfInBounds_toArray, List.set_cons_zero, List.set_cons_succ]
  refine stM (i := 5) (.pointer (some ⟨b, 0, none⟩)) hK.below ?_ ?_; (· exact fun w' _ => (by go_simp)); simp only [Act.put, List.setIfInBounds_toArray, List.set_cons_zero, List.set_cons_succ]
  refine stM (i := 6) (.pointer (some ⟨b, 0, none⟩)) hK.below ?_ ?_; (· exact fun w' _ => (by go_simp)); simp only [Act.put, List.setIfInBounds_toArray, List.set_cons_zero, List.set_cons_succ]
  refine stM (i := 7) (.pointer (some ⟨b, 0, none⟩)) hK.below ?_ ?_; (· exact fun w' _ => (by go_simp)); simp only [Act.put, List.setIfInBounds_toArray, List.set_cons_zero, List.set_cons_succ]
  refine stM (i := 8) (.int .i64 x) hK.below ?_ ?_; (· exact fun w' hw => run_loadOp _ _ rfl _ rfl _ (load_cell (cell_later hw r0))); simp only [Act.put, List.setIfInBounds_toArray, List.set_cons_zero, List.set_cons_succ]
  refine stM (i := 9) (.pointer (some ⟨b, 0, none⟩)) hK.below ?_ ?_; (· exact fun w' _ => (by go_simp)); simp only [Act.put, List.setIfInBounds_toArray, List.set_cons_zero, List.set_cons_succ]
  refine stM (i := 10) (.pointer (some ⟨b, 0, none⟩)) hK.below ?_ ?_; (· exact fun w' _ => (by go_simp)); simp only [Act.put, List.setIfInBounds_toArray, List.set_cons_zero, List.set_cons_succ]
  refine stM (i := 11) (.pointer (some ⟨b, 1, none⟩)) hK.below ?_ ?_; (· exact fun w' _ => (by go_simp)); simp only [Act.put, List.setIfInBounds_toArray, List.set_cons_zero, List.set_cons_succ]
  refine stM (i := 12) (.int .i64 y) hK.below ?_ ?_; (· exact fun w' hw => run_loadOp _ _ rfl _ rfl _ (load_cell (cell_later hw r1))); simp only [Act.put, List.setIfInBounds_toArray, List.set_cons_zero, List.set_cons_succ]
  refine wpM_one (i := 13) (by kernel_rfl) (wpOp_of (by simp only [List.getElem?_toArray, List.getElem?_cons_zero, List.getElem?_cons_succ]; rfl) ?_)
  refine st_call rfl 71 #[.agg #[.int .i64 ex0, .int .i64 ey0, .bool bt, .int .i64 ecx, .int .i64 ecy, .int .i64 ex1, .int .i64 ey1], .int .i64 x, .int .i64 y] (by go_simp) (HT.out _) ?_
  rintro e w5 ⟨rfl, hb⟩
  replace hK := hK.call hb
  clear hb
  refine ⟨_, rfl, fun _ => hK.below, ?_⟩
  simp only [Act.put, List.setIfInBounds_toArray, List.set_cons_zero, List.set_cons_succ]
  refine stM (i := 14) (.int .i64 (n + T)) hK.below ?_ ?_; (· exact fun w' _ => (by go_simp)); simp only [Act.put, List.setIfInBounds_toArray, List.set_cons_zero, List.set_cons_succ]
  refine stO (i := 15) (.pointer (some ⟨b, 0, none⟩)) hK.below ?_ ?_; (· exact fun w' => (by go_simp)); simp only [Act.put, List.setIfInBounds_toArray, List.set_cons_zero, List.set_cons_succ]
  refine stM (i := 16) (.pointer (some ⟨b, 2, none⟩)) hK.below ?_ ?_; (· exact fun w' _ => (by go_simp)); simp only [Act.put, List.setIfInBounds_toArray, List.set_cons_zero, List.set_cons_succ]
  have hB : Below w.heap.size w w5 := hL.below.trans (hK.below.mono hL.size)
  refine wpM_one (i := 17) (by kernel_rfl) (wpOp_of (by simp only [List.getElem?_toArray, List.getElem?_cons_zero, List.getElem?_cons_succ]; rfl) ?_)
  refine st_store rfl _ _ _ rfl ⟨b, 2, none⟩ rfl (.int .i64 (n + T)) rfl (storeAt_old rfl rfl ((hB.block b hblt).trans Hp.out) (by simp) ?_)
  refine ⟨fun h => absurd rfl h, wpM_done (by kernel_rfl) ?_⟩
  simp only [Act.put]
  go_wp2
  exact bodyPost_end (results_none rfl _ _ _) rfl ⟨rfl, w5, hB, rfl⟩

set_option maxRecDepth 100000 in
set_option maxHeartbeats 2000000 in
theorem windAtG_calls (w : World) (v : Value) (l : List Edg) (hv : EdgesAt w v l) (hlen : l.length ≤ 1152921504606846976) (x y : Int) :
    Calls Try.prog 61 #[v, .int .i64 x, .int .i64 y] w fun r w' => r = .returned (.int .i64 (windG l x y)) ∧ Below w.heap.size w w' := by
  obtain ⟨a, cap, rfl, hlc, hcm, hel⟩ := hv.parts
  clear hv
  unfold maxLen at hcm
  have Hel := Lib.hid hel; clear hel
  have hL := Holds.start w
  have n1 : True := trivial
  go_enter Try.func61, Try.ntmps61
  go_wp2_with (first | (first | (clear hL n1; with_reducible intro b1 w1 hL) | (clear hL; with_reducible intro _ _ hL)) | (with_reducible refine wpC_alloc rfl _ rfl _ _ inferInstance hL ?_) | (with_reducible first | refine wpB_agg rfl _ _ _ rfl rfl hL ?_ | refine wpB_one rfl _ _ (.int _ _) rfl rfl rfl hL ?_ | refine wpB_one rfl _ _ (.slice _ _ _) rfl rfl rfl hL ?_ | refine wpB_one rfl _ _ (.bool _) rfl rfl rfl hL ?_ | refine wpB_one rfl _ _ (.pointer _) rfl rfl rfl hL ?_ | refine wpB_one rfl _ _ (.func _ _ _) rfl rfl rfl hL ?_) | (with_reducible first | refine wpH_max rfl _ _ _ _ rfl _ _ rfl rfl ?_ | refine wpH_min rfl _ _ _ _ rfl _ _ rfl rfl ?_) | ((with_reducible refine wpA_load rfl _ _ rfl _ rfl ?_); first | refine loadA hL ?_ | refine loadR hL ?_ | refine loadC hL ?_ | refine loadD ?_ | refine loadE hL ?_ | refine loadF ?_) | ((with_reducible refine wpA_index rfl _ _ _ rfl _ rfl _ rfl ?_); first | (refine indexA ?_; try rw [Int.toNat_natCast]) | refine indexC ?_) | ((with_reducible refine wpA_store rfl _ _ _ rfl _ rfl (.agg _) rfl ?_); refine storeR hL ?_; clear hL; intro _ hL) | ((with_reducible first | refine wpA_store rfl _ _ _ rfl _ rfl (.int _ _) rfl ?_ | refine wpA_store rfl _ _ _ rfl _ rfl (.slice _ _ _) rfl ?_ | refine wpA_store rfl _ _ _ rfl _ rfl (.bool _) rfl ?_ | refine wpA_store rfl _ _ _ rfl _ rfl (.pointer _) rfl ?_ | refine wpA_store rfl _ _ _ rfl _ rfl (.func _ _ _) rfl ?_); (first | refine storeA hL ?_ | refine storeO hL ?_); (clear hL; intro _ hL)) | ((with_reducible refine wpA_lit rfl _ _ _ rfl ?_); first | refine litA1 hL ?_ | refine litA2 hL ?_ | refine litA3 hL ?_ | refine litA4 hL ?_ | refine litA6 hL ?_) | ((with_reducible refine wpA_append rfl _ _ _ rfl (.slice _ _ _) rfl ?_); intro vq hvq; simp [go_sem] at hvq; subst hvq; refine appendA hL ?_; clear hL; intro _ _ _ hL; try dsimp only at hL) | ((with_reducible refine wpA_make rfl _ _ _ rfl _ rfl rfl ?_); refine makeA hL ?_))
  generalize b1 = bp at *
  go_loopw [19] (fun s19 wr => ∃ (k : Nat), k ≤ l.length ∧ s19 = .int .i64 k ∧ Holds w wr [blk bp #[.int .i64 x, .int .i64 y, .int .i64 (windG (l.take k) x y)] 96] [])
    (fun s19 wr => l.length - (intOf s19).toNat)
  case atStart => exact ⟨0, by omega, rfl, hL⟩
  case round =>
    clear hL
    obtain ⟨k, hk, rfl, hL⟩ := hrel
    by_cases hkt : k < l.length
    · obtain ⟨b, o, rfl, hc⟩ := Hel.out k hkt
      have hstep := windG_step hkt x y
      have hbd := windG_bd x y (l.take k)
      rw [List.length_take] at hbd
      have hlk : ((min k l.length : Nat) : Int) ≤ l.length := by omega
      have hpa := fun w0 hp hn1 hn2 => pointAddG_calls w0 bp x y (windG (l.take k) x y) 96 hp (l.getD k default) hn1 hn2
      have Hstep := Lib.hid hstep; clear hstep
      generalize windG (l.take k) x y = S0 at *
      generalize l.getD k default = e at *
      obtain ⟨ex0, ey0, bt, ecx, ecy, ex1, ey1⟩ := e
      unfold edgeV at hpa
      unfold edgeC at hc
      dsimp only at hpa hc
      generalize turnG ⟨ex0, ey0, bt, ecx, ecy, ex1, ey1⟩ x y = T at *
      have Hpa := Lib.hid hpa
      clear hpa
      have hkb : (k : Int) < (l.length : Int) := by omega
      obtain ⟨g1, g2⟩ := hbd
      have n1 : True := trivial; have n2 : True := trivial
      go_wp2_with (first | (go_at_call 68; (with_reducible refine (Hpa.out _ (hL.row atO) (by omega) (by omega)).mono ?_); rintro e _ ⟨rfl, w9, hb, rfl⟩; replace hL := (hL.call hb).setCell (b := bp) (o := 2) (v := .int .i64 (S0 + T)) updO; clear hb; simp only [List.setIfInBounds_toArray, List.set_cons_zero, List.set_cons_succ] at hL) | (first | (clear hL n1; with_reducible intro b1 w1 hL) | (clear hL n2; with_reducible intro b2 w2 hL) | (clear hL; with_reducible intro _ _ hL)) | (with_reducible refine wpC_alloc rfl _ rfl _ _ inferInstance hL ?_) | (with_reducible first | refine wpB_agg rfl _ _ _ rfl rfl hL ?_ | refine wpB_one rfl _ _ (.int _ _) rfl rfl rfl hL ?_ | refine wpB_one rfl _ _ (.slice _ _ _) rfl rfl rfl hL ?_ | refine wpB_one rfl _ _ (.bool _) rfl rfl rfl hL ?_ | refine wpB_one rfl _ _ (.pointer _) rfl rfl rfl hL ?_ | refine wpB_one rfl _ _ (.func _ _ _) rfl rfl rfl hL ?_) | (with_reducible first | refine wpH_max rfl _ _ _ _ rfl _ _ rfl rfl ?_ | refine wpH_min rfl _ _ _ _ rfl _ _ rfl rfl ?_) | ((with_reducible refine wpA_load rfl _ _ rfl _ rfl ?_); first | refine loadA hL ?_ | refine loadR hL ?_ | refine loadC hL ?_ | refine loadD ?_ | refine loadE hL ?_ | refine loadF ?_) | ((with_reducible refine wpA_index rfl _ _ _ rfl _ rfl _ rfl ?_); first | (refine indexA ?_; try rw [Int.toNat_natCast]) | refine indexC ?_) | ((with_reducible refine wpA_store rfl _ _ _ rfl _ rfl (.agg _) rfl ?_); refine storeR hL ?_; clear hL; intro _ hL) | ((with_reducible first | refine wpA_store rfl _ _ _ rfl _ rfl (.int _ _) rfl ?_ | refine wpA_store rfl _ _ _ rfl _ rfl (.slice _ _ _) rfl ?_ | refine wpA_store rfl _ _ _ rfl _ rfl (.bool _) rfl ?_ | refine wpA_store rfl _ _ _ rfl _ rfl (.pointer _) rfl ?_ | refine wpA_store rfl _ _ _ rfl _ rfl (.func _ _ _) rfl ?_); (first | refine storeA hL ?_ | refine storeO hL ?_); (clear hL; intro _ hL)) | ((with_reducible refine wpA_lit rfl _ _ _ rfl ?_); first | refine litA1 hL ?_ | refine litA2 hL ?_ | refine litA3 hL ?_ | refine litA4 hL ?_ | refine litA6 hL ?_) | ((with_reducible refine wpA_append rfl _ _ _ rfl (.slice _ _ _) rfl ?_); intro vq hvq; simp [go_sem] at hvq; subst hvq; refine appendA hL ?_; clear hL; intro _ _ _ hL; try dsimp only at hL) | ((with_reducible refine wpA_make rfl _ _ _ rfl _ rfl rfl ?_); refine makeA hL ?_))
      go_roundw
      case rel => exact ⟨k + 1, by omega, by go_num, by rw [show windG (l.take (k + 1)) x y = S0 + T from Hstep.out]; exact hL.drop .here⟩
      case measure => simp [intOf]; omega
    · have e : k = l.length := by omega
      subst e
      rw [List.take_length] at hL
      go_wp2_with (first | (first | (clear hL n1; with_reducible intro b1 w1 hL) | (clear hL n2; with_reducible intro b2 w2 hL) | (clear hL; with_reducible intro _ _ hL)) | (with_reducible refine wpC_alloc rfl _ rfl _ _ inferInstance hL ?_) | (with_reducible first | refine wpB_agg rfl _ _ _ rfl rfl hL ?_ | refine wpB_one rfl _ _ (.int _ _) rfl rfl rfl hL ?_ | refine wpB_one rfl _ _ (.slice _ _ _) rfl rfl rfl hL ?_ | refine wpB_one rfl _ _ (.bool _) rfl rfl rfl hL ?_ | refine wpB_one rfl _ _ (.pointer _) rfl rfl rfl hL ?_ | refine wpB_one rfl _ _ (.func _ _ _) rfl rfl rfl hL ?_) | (with_reducible first | refine wpH_max rfl _ _ _ _ rfl _ _ rfl rfl ?_ | refine wpH_min rfl _ _ _ _ rfl _ _ rfl rfl ?_) | ((with_reducible refine wpA_load rfl _ _ rfl _ rfl ?_); first | refine loadA hL ?_ | refine loadR hL ?_ | refine loadC hL ?_ | refine loadD ?_ | refine loadE hL ?_ | refine loadF ?_) | ((with_reducible refine wpA_index rfl _ _ _ rfl _ rfl _ rfl ?_); first | (refine indexA ?_; try rw [Int.toNat_natCast]) | refine indexC ?_) | ((with_reducible refine wpA_store rfl _ _ _ rfl _ rfl (.agg _) rfl ?_); refine storeR hL ?_; clear hL; intro _ hL) | ((with_reducible first | refine wpA_store rfl _ _ _ rfl _ rfl (.int _ _) rfl ?_ | refine wpA_store rfl _ _ _ rfl _ rfl (.slice _ _ _) rfl ?_ | refine wpA_store rfl _ _ _ rfl _ rfl (.bool _) rfl ?_ | refine wpA_store rfl _ _ _ rfl _ rfl (.pointer _) rfl ?_ | refine wpA_store rfl _ _ _ rfl _ rfl (.func _ _ _) rfl ?_); (first | refine storeA hL ?_ | refine storeO hL ?_); (clear hL; intro _ hL)) | ((with_reducible refine wpA_lit rfl _ _ _ rfl ?_); first | refine litA1 hL ?_ | refine litA2 hL ?_ | refine litA3 hL ?_ | refine litA4 hL ?_ | refine litA6 hL ?_) | ((with_reducible refine wpA_append rfl _ _ _ rfl (.slice _ _ _) rfl ?_); intro vq hvq; simp [go_sem] at hvq; subst hvq; refine appendA hL ?_; clear hL; intro _ _ _ hL; try dsimp only at hL) | ((with_reducible refine wpA_make rfl _ _ _ rfl _ rfl rfl ?_); refine makeA hL ?_))
      go_ret
      exact ⟨rfl, hL.below⟩
end Go.Proofs.Ytneddfiohekhiaa
