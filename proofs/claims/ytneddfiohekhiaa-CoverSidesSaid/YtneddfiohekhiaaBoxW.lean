/- WindBoxes returns true. -/
import Derived.Test.YtneddfiohekhiaaPt
-- lit6
namespace Go.Proofs.Ytneddfiohekhiaa
open Go.RowKit

theorem own_sliceAt {w : World} {B : Nat} {e : TypeId} {k : Nat} {v : Value} {n : Nat} {xs : List Value} (h : (own B e k v n xs).ok w) {els : List (List Value)} (hn : n = els.length) (hx : xs = els.flatten) (hk : ∀ e ∈ els, e.length = k) :
    SliceAt w k v els := by
  subst hn; subst hx
  obtain ⟨h1, h2 | ⟨g, cap, cur, rfl, hb, hg, hnc, hcm, hcs, ht⟩⟩ := h
  · obtain ⟨rfl, h0⟩ := h2
    refine ⟨none, 0, by rw [h0], by omega, by omega, fun i hi => by omega⟩
  · refine ⟨_, cap, rfl, hnc, hcm, fun i hi => ⟨g, 0, rfl, fun j u hju => ?_⟩⟩
    rw [cell_of_row w g _ cur e (0, 0) hg]
    have := flatten_get hk i hi j u hju
    rw [← ht, List.getElem?_take] at this
    split at this
    · rw [Nat.zero_add]; simpa using this
    · cases this

/-- a list of numbers, less its first -/
def tailV : Value → Value
  | .slice (some ⟨b, o, none⟩) (n + 1) (c + 2) => .slice (some ⟨b, o + 1, none⟩) n (c + 1)
  | .slice (some ⟨b, o, none⟩) (n + 1) 1 => .slice (some ⟨b, o, none⟩) n 0
  | v => v
theorem NumsAt.tail {w : World} {v : Value} {l : List Int} (h : NumsAt w v l) : NumsAt w (tailV v) l.tail := by
  cases l with
  | nil =>
    obtain ⟨a, cap, rfl, _⟩ := h.parts
    have : tailV (.slice a 0 cap) = .slice a 0 cap := by unfold tailV; split <;> simp_all
    simpa [this] using h
  | cons z l =>
    obtain ⟨a, cap, rfl, hlc, hcm, hel⟩ := h.parts
    simp only [List.length_cons] at hlc hel ⊢
    obtain ⟨b, o, rfl, _⟩ := hel 0 (by omega)
    rcases (by omega : cap = 1 ∨ 2 ≤ cap) with rfl | hc2
    · exact ⟨some ⟨b, o, none⟩, 0, by rw [List.length_map, List.tail_cons, show l.length = 0 by omega]; rfl, by simp only [List.tail_cons, List.length_map]; omega, by unfold maxLen; omega, fun i hi => by simp only [List.tail_cons, List.length_map] at hi; omega⟩
    obtain ⟨c, rfl⟩ : ∃ c, cap = c + 2 := ⟨cap - 2, by omega⟩
    refine ⟨some ⟨b, o + 1, none⟩, c + 1, by simp [tailV], by simp; omega, by omega, fun i hi => ⟨b, o + 1, rfl, fun j u hj => ?_⟩⟩
    simp only [List.tail_cons, List.length_map] at hi
    obtain ⟨b', o', e, hc⟩ := hel (i + 1) (by omega)
    cases e
    rcases j with _ | j
    · simp only [List.tail_cons, List.getElem_map, List.getElem?_cons_zero, Option.some.injEq] at hj
      rw [← hj, Nat.mul_one, Nat.add_zero, show o + 1 + i = o + (i + 1) by omega, hc]
      simp [hi]
    · simp at hj
theorem setCell_same {w : World} {b : Nat} {v : Value} {T : TypeId} (h : w.heap[b]? = some (.cells #[v] T (0, 0))) : w.setCell ⟨b, 0, none⟩ v = w := by
  have hh : w.heap.modify b (fun o => match o with
      | .cells c elem frozen => .cells (if (⟨b, 0, none⟩ : Addr).spot.isSome then c else c.setIfInBounds (⟨b, 0, none⟩ : Addr).off v) elem frozen
      | o => o) = w.heap := by
    apply Array.ext_getElem?
    intro i
    rw [Array.getElem?_modify]
    split
    · rename_i e; subst e; rw [h]; rfl
    · rfl
  exact congrArg (fun x => ({ w with heap := x } : World)) hh

set_option maxRecDepth 100000 in
set_option maxHeartbeats 1000000 in
theorem next_calls (w : World) (b : Nat) (T : TypeId) (s : Value) (hp : w.heap[b]? = some (.cells #[s] T (0, 0))) (l : List Int) (hs : NumsAt w s l) (n : Int) (hn : 0 < n) (hn2 : n < 1073741824) :
    Calls Try.prog 67 #[.pointer (some ⟨b, 0, none⟩), .int .i64 n] w fun r w' => r = .returned (.int .i64 (l.headD 0 % n)) ∧ w' = w.setCell ⟨b, 0, none⟩ (tailV s) := by
  have q0 : w.cell? ⟨b, 0, none⟩ = some s := (cell_of_row w b 0 _ T (0, 0) hp).trans rfl
  have hL := Holds.start w
  obtain ⟨a, cap, rfl, hlc, hcm, hel⟩ := hs.parts
  clear hs
  have Hp := Lib.hid hp; clear hp
  cases l with
  | nil =>
    go_enter Try.func67, Try.ntmps67
    go_wp2_with (first | ((clear hL; with_reducible intro _ _ hL)) | (with_reducible refine wpC_alloc rfl _ rfl _ _ inferInstance hL ?_) | (with_reducible first | refine wpB_agg rfl _ _ _ rfl rfl hL ?_ | refine wpB_one rfl _ _ (.int _ _) rfl rfl rfl hL ?_ | refine wpB_one rfl _ _ (.slice _ _ _) rfl rfl rfl hL ?_ | refine wpB_one rfl _ _ (.bool _) rfl rfl rfl hL ?_ | refine wpB_one rfl _ _ (.pointer _) rfl rfl rfl hL ?_ | refine wpB_one rfl _ _ (.func _ _ _) rfl rfl rfl hL ?_) | (with_reducible first | refine wpH_max rfl _ _ _ _ rfl _ _ rfl rfl ?_ | refine wpH_min rfl _ _ _ _ rfl _ _ rfl rfl ?_) | ((with_reducible refine wpA_load rfl _ _ rfl _ rfl ?_); first | refine loadA hL ?_ | refine loadR hL ?_ | refine loadC hL ?_ | refine loadD ?_ | refine loadE hL ?_ | refine loadF ?_) | ((with_reducible refine wpA_index rfl _ _ _ rfl _ rfl _ rfl ?_); first | (refine indexA ?_; try rw [Int.toNat_natCast]) | refine indexC ?_) | ((with_reducible refine wpA_store rfl _ _ _ rfl _ rfl (.agg _) rfl ?_); refine storeR hL ?_; clear hL; intro _ hL) | ((with_reducible first | refine wpA_store rfl _ _ _ rfl _ rfl (.int _ _) rfl ?_ | refine wpA_store rfl _ _ _ rfl _ rfl (.slice _ _ _) rfl ?_ | refine wpA_store rfl _ _ _ rfl _ rfl (.bool _) rfl ?_ | refine wpA_store rfl _ _ _ rfl _ rfl (.pointer _) rfl ?_ | refine wpA_store rfl _ _ _ rfl _ rfl (.func _ _ _) rfl ?_); (first | refine storeA hL ?_ | refine storeO hL ?_); (clear hL; intro _ hL)) | ((with_reducible refine wpA_lit rfl _ _ _ rfl ?_); first | refine litA1 hL ?_ | refine litA2 hL ?_ | refine litA3 hL ?_ | refine litA4 hL ?_ | refine litA6 hL ?_) | ((with_reducible refine wpA_append rfl _ _ _ rfl (.slice _ _ _) rfl ?_); intro vq hvq; simp [go_sem] at hvq; subst hvq; refine appendA hL ?_; clear hL; intro _ _ _ hL; try dsimp only at hL) | ((with_reducible refine wpA_make rfl _ _ _ rfl _ rfl rfl ?_); refine makeA hL ?_))
    go_ret
    exact ⟨ret_int (by simp), (setCell_same (by simpa [tailV] using Hp.out)).symm⟩
  | cons z l =>
    simp only [List.length_cons] at *
    obtain ⟨b2, o, rfl, hc⟩ := hel 0 (by omega)
    simp only [Nat.add_zero, List.getD_cons_zero] at hc
    clear hel
    rcases (by omega : cap = 1 ∨ 2 ≤ cap) with rfl | hc2
    · have hl0 : l.length = 0 := by omega
      have HT := Lib.hid (show tailV (.slice (some ⟨b2, o, none⟩) (l.length + 1) 1) = .slice (some ⟨b2, o, none⟩) 0 0 by simp [tailV, hl0])
      clear hl0
      go_enter Try.func67, Try.ntmps67
      go_wp2_with (first | (go_at_call 18; (with_reducible refine (place_calls _ _ (by omega) (by omega) _).mono ?_); rintro e _ ⟨rfl, rfl⟩) | ((with_reducible refine wpA_store rfl _ _ _ rfl _ rfl (.slice _ _ _) rfl ?_); refine storeAt_old rfl rfl Hp.out (by simp) ?_) | ((clear hL; with_reducible intro _ _ hL)) | (with_reducible refine wpC_alloc rfl _ rfl _ _ inferInstance hL ?_) | (with_reducible first | refine wpB_agg rfl _ _ _ rfl rfl hL ?_ | refine wpB_one rfl _ _ (.int _ _) rfl rfl rfl hL ?_ | refine wpB_one rfl _ _ (.slice _ _ _) rfl rfl rfl hL ?_ | refine wpB_one rfl _ _ (.bool _) rfl rfl rfl hL ?_ | refine wpB_one rfl _ _ (.pointer _) rfl rfl rfl hL ?_ | refine wpB_one rfl _ _ (.func _ _ _) rfl rfl rfl hL ?_) | (with_reducible first | refine wpH_max rfl _ _ _ _ rfl _ _ rfl rfl ?_ | refine wpH_min rfl _ _ _ _ rfl _ _ rfl rfl ?_) | ((with_reducible refine wpA_load rfl _ _ rfl _ rfl ?_); first | refine loadA hL ?_ | refine loadR hL ?_ | refine loadC hL ?_ | refine loadD ?_ | refine loadE hL ?_ | refine loadF ?_) | ((with_reducible refine wpA_index rfl _ _ _ rfl _ rfl _ rfl ?_); first | (refine indexA ?_; try rw [Int.toNat_natCast]) | refine indexC ?_) | ((with_reducible refine wpA_store rfl _ _ _ rfl _ rfl (.agg _) rfl ?_); refine storeR hL ?_; clear hL; intro _ hL) | ((with_reducible first | refine wpA_store rfl _ _ _ rfl _ rfl (.int _ _) rfl ?_ | refine wpA_store rfl _ _ _ rfl _ rfl (.slice _ _ _) rfl ?_ | refine wpA_store rfl _ _ _ rfl _ rfl (.bool _) rfl ?_ | refine wpA_store rfl _ _ _ rfl _ rfl (.pointer _) rfl ?_ | refine wpA_store rfl _ _ _ rfl _ rfl (.func _ _ _) rfl ?_); (first | refine storeA hL ?_ | refine storeO hL ?_); (clear hL; intro _ hL)) | ((with_reducible refine wpA_lit rfl _ _ _ rfl ?_); first | refine litA1 hL ?_ | refine litA2 hL ?_ | refine litA3 hL ?_ | refine litA4 hL ?_ | refine litA6 hL ?_) | ((with_reducible refine wpA_append rfl _ _ _ rfl (.slice _ _ _) rfl ?_); intro vq hvq; simp [go_sem] at hvq; subst hvq; refine appendA hL ?_; clear hL; intro _ _ _ hL; try dsimp only at hL) | ((with_reducible refine wpA_make rfl _ _ _ rfl _ rfl rfl ?_); refine makeA hL ?_))
      go_ret
      exact ⟨ret_int (by simp), by rw [HT.out]⟩
    · obtain ⟨c, rfl⟩ : ∃ c, cap = c + 2 := ⟨cap - 2, by omega⟩
      go_enter Try.func67, Try.ntmps67
      go_wp2_with (first | (go_at_call 18; (with_reducible refine (place_calls _ _ (by omega) (by omega) _).mono ?_); rintro e _ ⟨rfl, rfl⟩) | ((with_reducible refine wpA_store rfl _ _ _ rfl _ rfl (.slice _ _ _) rfl ?_); refine storeAt_old rfl rfl Hp.out (by simp) ?_) | ((clear hL; with_reducible intro _ _ hL)) | (with_reducible refine wpC_alloc rfl _ rfl _ _ inferInstance hL ?_) | (with_reducible first | refine wpB_agg rfl _ _ _ rfl rfl hL ?_ | refine wpB_one rfl _ _ (.int _ _) rfl rfl rfl hL ?_ | refine wpB_one rfl _ _ (.slice _ _ _) rfl rfl rfl hL ?_ | refine wpB_one rfl _ _ (.bool _) rfl rfl rfl hL ?_ | refine wpB_one rfl _ _ (.pointer _) rfl rfl rfl hL ?_ | refine wpB_one rfl _ _ (.func _ _ _) rfl rfl rfl hL ?_) | (with_reducible first | refine wpH_max rfl _ _ _ _ rfl _ _ rfl rfl ?_ | refine wpH_min rfl _ _ _ _ rfl _ _ rfl rfl ?_) | ((with_reducible refine wpA_load rfl _ _ rfl _ rfl ?_); first | refine loadA hL ?_ | refine loadR hL ?_ | refine loadC hL ?_ | refine loadD ?_ | refine loadE hL ?_ | refine loadF ?_) | ((with_reducible refine wpA_index rfl _ _ _ rfl _ rfl _ rfl ?_); first | (refine indexA ?_; try rw [Int.toNat_natCast]) | refine indexC ?_) | ((with_reducible refine wpA_store rfl _ _ _ rfl _ rfl (.agg _) rfl ?_); refine storeR hL ?_; clear hL; intro _ hL) | ((with_reducible first | refine wpA_store rfl _ _ _ rfl _ rfl (.int _ _) rfl ?_ | refine wpA_store rfl _ _ _ rfl _ rfl (.slice _ _ _) rfl ?_ | refine wpA_store rfl _ _ _ rfl _ rfl (.bool _) rfl ?_ | refine wpA_store rfl _ _ _ rfl _ rfl (.pointer _) rfl ?_ | refine wpA_store rfl _ _ _ rfl _ rfl (.func _ _ _) rfl ?_); (first | refine storeA hL ?_ | refine storeO hL ?_); (clear hL; intro _ hL)) | ((with_reducible refine wpA_lit rfl _ _ _ rfl ?_); first | refine litA1 hL ?_ | refine litA2 hL ?_ | refine litA3 hL ?_ | refine litA4 hL ?_ | refine litA6 hL ?_) | ((with_reducible refine wpA_append rfl _ _ _ rfl (.slice _ _ _) rfl ?_); intro vq hvq; simp [go_sem] at hvq; subst hvq; refine appendA hL ?_; clear hL; intro _ _ _ hL; try dsimp only at hL) | ((with_reducible refine wpA_make rfl _ _ _ rfl _ rfl rfl ?_); refine makeA hL ?_))
      go_ret
      exact ⟨ret_int (by simp), rfl⟩
end Go.Proofs.Ytneddfiohekhiaa
