/- Package wind, for straight edges: how often they go round a point. -/
import Derived.Test.YtneddfiohekhiaaTurns
import Derived.Test.YtneddfiohekhiaaSteps
-- lit6
namespace Go.Proofs.Ytneddfiohekhiaa
open Go.RowKit

/-- a cell of a block that was there is written -/
theorem storeAt_old {P : Program} {w : World} {KW : World → Prop} {T T' : TypeId} {b off : Nat} {v : Value} {cs : Array Value} [hT : ScalarT P T] (h1 : v.cells = #[v]) (hv1 : v.oneCell' = true) (hb : w.heap[b]? = some (.cells cs T' (0, 0))) (hoff : off < cs.size)
    (h : KW (w.setCell ⟨b, off, none⟩ v)) : StoreAt P T ⟨b, off, none⟩ v w KW := by
  refine ⟨w.setCell ⟨b, off, none⟩ v, ?_, h⟩
  have hc : w.cell? ⟨b, off, none⟩ = some cs[off] := by rw [cell_of_row w b off cs T' (0, 0) hb]; simp [hoff]
  have hf : w.frozen? ⟨b, off, none⟩ = false := frozen_of_row w b off cs T' hb
  have hi := hT.size
  cases hq : P.info? T with
  | none => simp [hq] at hi
  | some i =>
    have hs : i.size = 1 := by simpa [hq] using hi
    simp [Sem.run_bind, storeVar, sizeOf, typeInfo, hq, hs, h1, storeCells, run_store, hv1, hc, hf, Addr.add]
theorem turnE_bd (e : Edg) (x y : Int) : -1 ≤ turnE e x y ∧ turnE e x y ≤ 1 := by
  unfold turnE turnS; (repeat' split) <;> omega
theorem windS_step {l : List Edg} {k : Nat} (h : k < l.length) (x y : Int) : windS (l.take (k + 1)) x y = windS (l.take k) x y + turnE (l.getD k default) x y := by
  unfold windS
  rw [List.take_succ_eq_append_getElem h, List.map_append, List.sum_append]
  simp [h]
theorem windS_bd (x y : Int) : ∀ l : List Edg, -(l.length : Int) ≤ windS l x y ∧ windS l x y ≤ l.length
  | [] => by simp [windS]
  | e :: l => by
    have h1 := windS_bd x y l
    have h2 := turnE_bd e x y
    have h3 : windS (e :: l) x y = turnE e x y + windS l x y := by simp [windS]
    rw [h3, List.length_cons]
    omega

set_option maxRecDepth 100000 in
set_option maxHeartbeats 2000000 in
theorem pointAdd_calls (w : World) (b : Nat) (x y n : Int) (T' : TypeId) (hp : w.heap[b]? = some (.cells #[.int .i64 x, .int .i64 y, .int .i64 n] T' (0, 0))) (e : Edg) (hbt : e.bent = false) (hn1 : -9223372036854775806 ≤ n) (hn2 : n ≤ 9223372036854775806) :
    Calls Try.prog 68 #[.pointer (some ⟨b, 0, none⟩), edgeV e] w fun r w' => r = .returned (.tuple #[]) ∧ ∃ w1, Below w.heap.size w w1 ∧ w' = w1.setCell ⟨b, 2, none⟩ (.int .i64 (n + turnE e x y)) := by
  have hblt : b < w.heap.size := (Array.getElem?_eq_some_iff.1 hp).1
  have q0 : w.cell? ⟨b, 0, none⟩ = some (.int .i64 x) := (cell_of_row w b 0 _ T' (0, 0) hp).trans rfl
  have q1 : w.cell? ⟨b, 1, none⟩ = some (.int .i64 y) := (cell_of_row w b 1 _ T' (0, 0) hp).trans rfl
  have q2 : w.cell? ⟨b, 2, none⟩ = some (.int .i64 n) := (cell_of_row w b 2 _ T' (0, 0) hp).trans rfl
  have HT := Lib.hid (fun w => turns_calls e hbt x y w)
  have hbd := turnE_bd e x y
  obtain ⟨d1, d2⟩ := hbd
  generalize turnE e x y = T at *
  obtain ⟨ex0, ey0, bt, ecx, ecy, ex1, ey1⟩ := e
  dsimp only at hbt
  subst hbt
  unfold edgeV at *
  dsimp only at HT
  have hL := Holds.start w
  have Hp := Lib.hid hp; clear hp
  have n1 : True := trivial
  go_enter Try.func68, Try.ntmps68
  go_wp2_with (first | (first | (clear hL n1; with_reducible intro b1 w1 hL) | (clear hL; with_reducible intro _ _ hL)) | (with_reducible refine wpC_alloc rfl _ rfl _ _ inferInstance hL ?_) | (with_reducible first | refine wpB_agg rfl _ _ _ rfl rfl hL ?_ | refine wpB_one rfl _ _ (.int _ _) rfl rfl rfl hL ?_ | refine wpB_one rfl _ _ (.slice _ _ _) rfl rfl rfl hL ?_ | refine wpB_one rfl _ _ (.bool _) rfl rfl rfl hL ?_ | refine wpB_one rfl _ _ (.pointer _) rfl rfl rfl hL ?_ | refine wpB_one rfl _ _ (.func _ _ _) rfl rfl rfl hL ?_) | (with_reducible first | refine wpH_max rfl _ _ _ _ rfl _ _ rfl rfl ?_ | refine wpH_min rfl _ _ _ _ rfl _ _ rfl rfl ?_) | ((with_reducible refine wpA_load rfl _ _ rfl _ rfl ?_); first | refine loadA hL ?_ | refine loadR hL ?_ | refine loadC hL ?_ | refine loadD ?_ | refine loadE hL ?_ | refine loadF ?_) | ((with_reducible refine wpA_index rfl _ _ _ rfl _ rfl _ rfl ?_); first | (refine indexA ?_; try rw [Int.toNat_natCast]) | refine indexC ?_) | ((with_reducible refine wpA_store rfl _ _ _ rfl _ rfl (.agg _) rfl ?_); refine storeR hL ?_; clear hL; intro _ hL) | ((with_reducible first | refine wpA_store rfl _ _ _ rfl _ rfl (.int _ _) rfl ?_ | refine wpA_store rfl _ _ _ rfl _ rfl (.slice _ _ _) rfl ?_ | refine wpA_store rfl _ _ _ rfl _ rfl (.bool _) rfl ?_ | refine wpA_store rfl _ _ _ rfl _ rfl (.pointer _) rfl ?_ | refine wpA_store rfl _ _ _ rfl _ rfl (.func _ _ _) rfl ?_); (first | refine storeA hL ?_ | refine storeO hL ?_); (clear hL; intro _ hL)) | ((with_reducible refine wpA_lit rfl _ _ _ rfl ?_); first | refine litA1 hL ?_ | refine litA2 hL ?_ | refine litA3 hL ?_ | refine litA4 hL ?_ | refine litA6 hL ?_) | ((with_reducible refine wpA_append rfl _ _ _ rfl (.slice _ _ _) rfl ?_); intro vq hvq; simp [go_sem] at hvq; subst hvq; refine appendA hL ?_; clear hL; intro _ _ _ hL; try dsimp only at hL) | ((with_reducible refine wpA_make rfl _ _ _ rfl _ rfl rfl ?_); refine makeA hL ?_))
  have hK := (Holds.start w1).drew
  have r0 := hL.old q0
  have r1 := hL.old q1
  have r2 := hL.old q2
  have r3 : w1.rangeAt b1 0 [.int .i64 ex0, .int .i64 ey0, .bool false, .int .i64 ecx, .int .i64 ecy, .int .i64 ex1, .int .i64 ey1] := fun j v hj => by
    rw [Nat.zero_add, hL.cell .here]; simpa using hj
  clear q0 q1 q2
  have hwr : IntKind.i64.wrap (n + T) = n + T := by rw [IntKind.wrap_i64]; omega
  refine wpM_begin (by kernel_rfl) (fun w' => Below w1.heap.size w1 w') 17 ?_
  refine stM (i := 0) (.pointer (some ⟨b, 0, none⟩)) hK.below ?_ ?_; (· exact fun w' _ => (by go_simp)); simp only [Act.put, List.setIfInBounds_toArray, List.set_cons_zero, List.set_cons_succ]
  refine stM (i := 1) (.pointer (some ⟨b, 0, none⟩)) hK.below ?_ ?_; (· exact fun w' _ => (by go_simp)); simp only [Act.put, List.setIfInBounds_toArray, List.set_cons_zero, List.set_cons_succ]
  refine stM (i := 2) (.pointer (some ⟨b, 2, none⟩)) hK.below ?_ ?_; (· exact fun w' _ => (by go_simp)); simp only [Act.put, List.setIfInBounds_toArray, List.set_cons_zero, List.set_cons_succ]
  refine stM (i := 3) (.int .i64 n) hK.below ?_ ?_; (· exact fun w' hw => run_loadOp _ _ rfl _ rfl _ (load_cell (cell_later hw r2))); simp only [Act.put, List.setIfInBounds_toArray, List.set_cons_zero, List.set_cons_succ]
  refine stM (i := 4) (.agg #[.int .i64 ex0, .int .i64 ey0, .bool false, .int .i64 ecx, .int .i64 ecy, .int .i64 ex1, .int .i64 ey1]) hK.below ?_ ?_; (· exact fun w' hw => run_loadOp _ _ rfl _ rfl _ (load_range rfl (rangeAt_below r3 hw))); simp only [Act.put, List.setIfInBounds_toArray, List.set_cons_zero, List.set_cons_succ]
  refine stM (i := 5) (.pointer (some ⟨b, 0, none⟩)) hK.below ?_ ?_; (· exact fun w' _ => (by go_simp)); simp only [Act.put, List.setIfInBounds_toArray, List.set_cons_zero, List.set_cons_succ]
  refine stM (i := 6) (.pointer (some ⟨b, 0, none⟩)) hK.below ?_ ?_; (· exact fun w' _ => (by go_simp)); simp only [Act.put, List.setIfInBounds_toArray, List.set_cons_zero, List.set_cons_succ]
  refine stM (i := 7) (.pointer (some ⟨b, 0, none⟩)) hK.below ?_ ?_; (· exact fun w' _ => (by go_simp)); simp only [Act.put, List.setIfInBounds_toArray, List.set_cons_zero, List.set_cons_succ]
  refine stM (i := 8) (.int .i64 x) hK.below ?_ ?_; (· exact fun w' hw => run_loadOp _ _ rfl _ rfl _ (load_cell (cell_later hw r0))); simp only [Act.put, List.setIfInBounds_toArray, List.set_cons_zero, List.set_cons_succ]
  refine stM (i := 9) (.pointer (some ⟨b, 0, none⟩)) hK.below ?_ ?_; (· exact fun w' _ => (by go_simp)); simp only [Act.put, List.setIfInBounds_toArray, List.set_cons_zero, List.set_cons_succ]
  refine stM (i := 10) (.pointer (some ⟨b, 0, none⟩)) hK.below ?_ ?_; (· exact fun w' _ => (by go_simp)); simp only [Act.put, List.setIfInBounds_toArray, List.set_cons_zero, List.set_cons_succ]
  refine stM (i := 11) (.pointer (some ⟨b, 1, none⟩)) hK.below ?_ ?_; (· exact fun w' _ => (by go_simp)); simp only [Act.put, List.setIfInBounds_toArray, List.set_cons_zero, List.set_cons_succ]
  refine stM (i := 12) (.int .i64 y) hK.below ?_ ?_; (· exact fun w' hw => run_loadOp _ _ rfl _ rfl _ (load_cell (cell_later hw r1))); simp only [Act.put, List.setIfInBounds_toArray, List.set_cons_zero, List.set_cons_succ]
  refine wpM_one (i := 13) (by kernel_rfl) (wpOp_of (by simp only [List.getElem?_toArray, List.getElem?_cons_zero, List.getElem?_cons_succ]; rfl) ?_)
  refine st_call rfl 71 #[.agg #[.int .i64 ex0, .int .i64 ey0, .bool false, .int .i64 ecx, .int .i64 ecy, .int .i64 ex1, .int .i64 ey1], .int .i64 x, .int .i64 y] (by go_simp) (HT.out _) ?_
  rintro e w5 ⟨rfl, hb⟩
  replace hK := hK.call hb
  clear hb
  refine ⟨_, rfl, fun _ => hK.below, ?_⟩
  simp only [Act.put, List.setIfInBounds_toArray, List.set_cons_zero, List.set_cons_succ]
  refine stM (i := 14) (.int .i64 (n + T)) hK.below ?_ ?_; (· exact fun w' _ => (by go_simp)); simp only [Act.put, List.setIfInBounds_toArray, List.set_cons_zero, List.set_cons_succ]
  refine stO (i := 15) (.pointer (some ⟨b, 0, none⟩)) hK.below ?_ ?_; (· exact fun w' => (by go_simp)); simp only [Act.put, List.setIfInBounds_toArray, List.set_cons_zero, List.set_cons_succ]
  refine stM (i := 16) (.pointer (some ⟨b, 2, none⟩)) hK.below ?_ ?_; (· exact fun w' _ => (by go_simp)); simp only [Act.put, List.setIfInBounds_toArray, List.set_cons_zero, List.set_cons_succ]
  have hB : Below w.heap.size w w5 := hL.below.trans (hK.below.mono hL.size)
  refine wpM_one (i := 17) (by kernel_rfl) (wpOp_of (by simp only [List.getElem?_toArray, List.getElem?_cons_zero, List.getElem?_cons_succ]; rfl) ?_)
  refine st_store rfl _ _ _ rfl ⟨b, 2, none⟩ rfl (.int .i64 (n + T)) rfl (storeAt_old rfl rfl ((hB.block b hblt).trans Hp.out) (by simp) ?_)
  refine ⟨fun h => absurd rfl h, wpM_done (by kernel_rfl) ?_⟩
  simp only [Act.put]
  go_wp2
  exact bodyPost_end (results_none rfl _ _ _) rfl ⟨rfl, w5, hB, rfl⟩
end Go.Proofs.Ytneddfiohekhiaa
