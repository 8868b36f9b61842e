/- WindBoxes returns true. -/
import Derived.Test.YtneddfiohekhiaaBoxW
-- lit6
namespace Go.Proofs.Ytneddfiohekhiaa
open Go.RowKit

def coI (l : List Int) : Int := l.headD 0 % 320 - 32
theorem coI_bd (l : List Int) : -32 ≤ coI l ∧ coI l ≤ 287 := by
  have p1 := Int.emod_nonneg (l.headD 0) (show (320 : Int) ≠ 0 by omega)
  have p2 := Int.emod_lt_of_pos (l.headD 0) (show (0 : Int) < 320 by omega)
  unfold coI; omega
set_option maxRecDepth 100000 in
theorem coord_calls (w : World) (b : Nat) (T : TypeId) (s : Value) (hp : w.heap[b]? = some (.cells #[s] T (0, 0))) (l : List Int) (hs : NumsAt w s l) :
    Calls Try.prog 47 #[.pointer (some ⟨b, 0, none⟩)] w fun r w' => r = .returned (.int .i64 (coI l)) ∧ w' = w.setCell ⟨b, 0, none⟩ (tailV s) := by
  have H := Lib.hid (next_calls w b T s hp l hs 320 (by omega) (by omega))
  have p1 := Int.emod_nonneg (l.headD 0) (show (320 : Int) ≠ 0 by omega)
  have p2 := Int.emod_lt_of_pos (l.headD 0) (show (0 : Int) < 320 by omega)
  unfold coI
  generalize l.headD 0 % 320 = z at *
  clear hp hs
  go_enter Try.func47, Try.ntmps47
  go_wp2_with (first | (go_at_call 67; (with_reducible refine H.out.mono ?_); rintro e _ ⟨rfl, rfl⟩) | ((clear hL; with_reducible intro _ _ hL)) | (with_reducible refine wpC_alloc rfl _ rfl _ _ inferInstance hL ?_) | (with_reducible first | refine wpB_agg rfl _ _ _ rfl rfl hL ?_ | refine wpB_one rfl _ _ (.int _ _) rfl rfl rfl hL ?_ | refine wpB_one rfl _ _ (.slice _ _ _) rfl rfl rfl hL ?_ | refine wpB_one rfl _ _ (.bool _) rfl rfl rfl hL ?_ | refine wpB_one rfl _ _ (.pointer _) rfl rfl rfl hL ?_ | refine wpB_one rfl _ _ (.func _ _ _) rfl rfl rfl hL ?_) | (with_reducible first | refine wpH_max rfl _ _ _ _ rfl _ _ rfl rfl ?_ | refine wpH_min rfl _ _ _ _ rfl _ _ rfl rfl ?_) | ((with_reducible refine wpA_load rfl _ _ rfl _ rfl ?_); first | refine loadA hL ?_ | refine loadR hL ?_ | refine loadC hL ?_ | refine loadD ?_ | refine loadE hL ?_ | refine loadF ?_) | ((with_reducible refine wpA_index rfl _ _ _ rfl _ rfl _ rfl ?_); first | (refine indexA ?_; try rw [Int.toNat_natCast]) | refine indexC ?_) | ((with_reducible refine wpA_store rfl _ _ _ rfl _ rfl (.agg _) rfl ?_); refine storeR hL ?_; clear hL; intro _ hL) | ((with_reducible first | refine wpA_store rfl _ _ _ rfl _ rfl (.int _ _) rfl ?_ | refine wpA_store rfl _ _ _ rfl _ rfl (.slice _ _ _) rfl ?_ | refine wpA_store rfl _ _ _ rfl _ rfl (.bool _) rfl ?_ | refine wpA_store rfl _ _ _ rfl _ rfl (.pointer _) rfl ?_ | refine wpA_store rfl _ _ _ rfl _ rfl (.func _ _ _) rfl ?_); (first | refine storeA hL ?_ | refine storeO hL ?_); (clear hL; intro _ hL)) | ((with_reducible refine wpA_lit rfl _ _ _ rfl ?_); first | refine litA1 hL ?_ | refine litA2 hL ?_ | refine litA3 hL ?_ | refine litA4 hL ?_ | refine litA6 hL ?_) | ((with_reducible refine wpA_append rfl _ _ _ rfl (.slice _ _ _) rfl ?_); intro vq hvq; simp [go_sem] at hvq; subst hvq; refine appendA hL ?_; clear hL; intro _ _ _ hL; try dsimp only at hL) | ((with_reducible refine wpA_make rfl _ _ _ rfl _ rfl rfl ?_); refine makeA hL ?_))
  go_ret
  exact ⟨rfl, rfl⟩

def boxL (x0 y0 x1 y1 : Int) : List Edg := [⟨x0, y0, false, 0, 0, x1, y0⟩, ⟨x1, y0, false, 0, 0, x1, y1⟩, ⟨x1, y1, false, 0, 0, x0, y1⟩, ⟨x0, y1, false, 0, 0, x0, y0⟩]
theorem boxK_eq (x0 y0 x1 y1 u v : Int) : boxK x0 y0 x1 y1 u v = if (min x0 x1 ≤ u ∧ u < max x0 x1) ∧ (min y0 y1 ≤ v ∧ v < max y0 y1) then (if (x0 < x1 ↔ y0 < y1) then 1 else -1) else 0 := by
  unfold boxK
  simp only [decide_eq_decide]
theorem windS_append (x y : Int) (l m : List Edg) : windS (l ++ m) x y = windS l x y + windS m x y := by
  simp [windS]
theorem box_windS {x0 y0 x1 y1 u v : Int} (h0 : -32 ≤ x0 ∧ x0 ≤ 287) (h1 : -32 ≤ y0 ∧ y0 ≤ 287) (h2 : -32 ≤ x1 ∧ x1 ≤ 287) (h3 : -32 ≤ y1 ∧ y1 ≤ 287) (h6 : -60 ≤ u ∧ u ≤ 339) (h7 : -60 ≤ v ∧ v ≤ 339) :
    windS (boxL x0 y0 x1 y1) u v = boxK x0 y0 x1 y1 u v := by
  rw [← box_wind]
  simp only [windS, boxL, List.map_cons, List.map_nil, List.sum_cons, List.sum_nil]
  rw [turnE_small (by omega) (by omega) (by omega) (by omega) h6 h7, turnE_small (by omega) (by omega) (by omega) (by omega) h6 h7, turnE_small (by omega) (by omega) (by omega) (by omega) h6 h7, turnE_small (by omega) (by omega) (by omega) (by omega) h6 h7]
  omega
theorem boxL_straight {l : List Edg} (h : ∀ e ∈ l, e.bent = false) (x0 y0 x1 y1 : Int) : ∀ e ∈ l ++ boxL x0 y0 x1 y1, e.bent = false := by
  intro e he
  rcases List.mem_append.1 he with he | he
  · exact h e he
  · simp [boxL] at he
    rcases he with rfl | rfl | rfl | rfl <;> rfl

end Go.Proofs.Ytneddfiohekhiaa
