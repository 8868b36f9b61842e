/- Package hem: around, shapes. -/
import Derived.Test.YtfnolaoohmecbaaHmD
import Derived.Test.YtfnolaoohmecbaaHmB
-- lit6
namespace Go.Proofs.Ytfnolaoohmecbaa
open Go.RowKit

def ShpsAt (w : World) (v : Value) (l : List Shp) : Prop := SliceAt w 11 v (l.map shpC)
def ShpsOut (l : List Shp) (w : World) (e : Ending) (w' : World) : Prop := ∃ v, e = .returned v ∧ Below w.heap.size w w' ∧ Fresh w w' (fun w => ShpsAt w v l)
theorem ShpsAt.parts {w : World} {s : Value} {l : List Shp} (h : ShpsAt w s l) :
    ∃ a cap, s = .slice a l.length cap ∧ l.length ≤ cap ∧ cap ≤ maxLen ∧ ∀ i, i < l.length → ∃ b o, a = some ⟨b, o, none⟩ ∧ w.rangeAt b (o + i * 11) (shpC (l.getD i default)) := by
  obtain ⟨a, cap, h2, h3, h4, h5⟩ := h
  simp only [List.length_map] at h2 h3 h5
  refine ⟨a, cap, h2, h3, h4, fun i hi => ?_⟩
  obtain ⟨b, o, e, hr⟩ := h5 i hi
  refine ⟨b, o, e, ?_⟩
  simp only [List.getElem_map] at hr
  rw [show l.getD i default = l[i] by simp [hi]]
  exact hr
theorem shpC_len (l : List Shp) : ∀ c ∈ l.map shpC, c.length = 11 := by
  intro c hc
  obtain ⟨s, _, rfl⟩ := List.mem_map.1 hc
  rfl
theorem shp_snoc (p : List Shp) (s : Shp) : ((p ++ [s]).map shpC).flatten = (p.map shpC).flatten ++ shpC s := by simp
theorem shp_len (p : List Shp) (s : Shp) : (p ++ [s]).length = p.length + 1 := by simp
theorem around_calls (x y wd : Int) (f : Fn) (g h : Array Value) (w : World) : Calls Try.prog 95 #[.int .i64 x, .int .i64 y, .int .i64 wd, .func f g h] w fun e w' => e = .returned (.agg #[.int .i64 x, .int .i64 y, .bool false, .int .i64 0, .int .i64 0, .int .i64 0, .int .i64 0, .int .i64 wd, .bool false, .bool false, .func f g h]) ∧ Below w.heap.size w w' := by
  have hL := Holds.start w
  have n1 : True := trivial
  go_enter Try.func95, Try.ntmps95
  go_wp2_with (first | (first | (clear hL n1; with_reducible intro b1 w1 hL) | (clear hL; with_reducible intro _ _ hL)) | (with_reducible refine wpC_alloc rfl _ rfl _ _ inferInstance hL ?_) | (with_reducible first | refine wpB_agg rfl _ _ _ rfl rfl hL ?_ | refine wpB_one rfl _ _ (.int _ _) rfl rfl rfl hL ?_ | refine wpB_one rfl _ _ (.slice _ _ _) rfl rfl rfl hL ?_ | refine wpB_one rfl _ _ (.bool _) rfl rfl rfl hL ?_ | refine wpB_one rfl _ _ (.pointer _) rfl rfl rfl hL ?_ | refine wpB_one rfl _ _ (.func _ _ _) rfl rfl rfl hL ?_) | (with_reducible first | refine wpH_max rfl _ _ _ _ rfl _ _ rfl rfl ?_ | refine wpH_min rfl _ _ _ _ rfl _ _ rfl rfl ?_) | ((with_reducible refine wpA_load rfl _ _ rfl _ rfl ?_); first | refine loadA hL ?_ | refine loadR hL ?_ | refine loadC hL ?_ | refine loadD ?_ | refine loadE hL ?_ | refine loadF ?_) | ((with_reducible refine wpA_index rfl _ _ _ rfl _ rfl _ rfl ?_); first | (refine indexA ?_; try rw [Int.toNat_natCast]) | refine indexC ?_) | ((with_reducible refine wpA_store rfl _ _ _ rfl _ rfl (.agg _) rfl ?_); refine storeR hL ?_; clear hL; intro _ hL) | ((with_reducible first | refine wpA_store rfl _ _ _ rfl _ rfl (.int _ _) rfl ?_ | refine wpA_store rfl _ _ _ rfl _ rfl (.slice _ _ _) rfl ?_ | refine wpA_store rfl _ _ _ rfl _ rfl (.bool _) rfl ?_ | refine wpA_store rfl _ _ _ rfl _ rfl (.pointer _) rfl ?_ | refine wpA_store rfl _ _ _ rfl _ rfl (.func _ _ _) rfl ?_); (first | refine storeA hL ?_ | refine storeO hL ?_); (clear hL; intro _ hL)) | ((with_reducible refine wpA_lit rfl _ _ _ rfl ?_); first | refine litA1 hL ?_ | refine litA2 hL ?_ | refine litA3 hL ?_ | refine litA4 hL ?_ | refine litA6 hL ?_) | ((with_reducible refine wpA_append rfl _ _ _ rfl (.slice _ _ _) rfl ?_); intro vq hvq; simp [go_sem] at hvq; subst hvq; refine appendA hL ?_; clear hL; intro _ _ _ hL; try dsimp only at hL) | ((with_reducible refine wpA_make rfl _ _ _ rfl _ rfl rfl ?_); refine makeA hL ?_))
  exact bodyPost_ret (results_row inferInstance rfl _ hL b1 rfl _ _ .here rfl) rfl ⟨rfl, hL.below⟩
end Go.Proofs.Ytfnolaoohmecbaa
