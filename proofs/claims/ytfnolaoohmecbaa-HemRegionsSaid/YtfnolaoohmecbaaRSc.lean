/- The document's strokes: dots and ends. -/
import Derived.Test.YtfnolaoohmecbaaRSb
-- lit6
namespace Go.Proofs.Ytfnolaoohmecbaa
open Go.RowKit

theorem Holds.swapQ {w0 w : World} {r s : Res} {M : List Res} {Φ : List (World → Prop)} (h : Holds w0 w (r :: s :: M) Φ) : Holds w0 w (s :: r :: M) Φ := by
  have hp := List.pairwise_cons.1 h.apart
  have hp2 := List.pairwise_cons.1 hp.2
  have mem : ∀ t, t ∈ s :: r :: M → t ∈ r :: s :: M := by
    intro t ht
    rcases List.mem_cons.1 ht with rfl | ht
    · exact .tail _ (.head _)
    · rcases List.mem_cons.1 ht with rfl | ht
      · exact .head _
      · exact .tail _ (.tail _ ht)
  refine ⟨h.below, fun t ht => h.ok t (mem t ht), fun t ht => h.low t (mem t ht), ?_, fun φ hφ => ?_⟩
  · refine List.Pairwise.cons (fun t ht b hb e => ?_) (List.Pairwise.cons (fun t ht => hp.1 t (.tail _ ht)) hp2.2)
    rcases List.mem_cons.1 ht with rfl | ht
    · exact hp.1 s (.head _) b e hb
    · exact hp2.1 t ht b hb e
  · obtain ⟨F, h1, h2⟩ := h.firm φ hφ
    exact ⟨F, fun b hb => ⟨(h1 b hb).1, (h1 b hb).2.1, fun t ht => (h1 b hb).2.2 t (mem t ht)⟩, h2⟩
section
variable {P : Program} {w0 w : World} {M : List Res} {Φ : List (World → Prop)} {ops : Array Oper} {o : Oper} {a : Act} {Q : Exit → Act → World → Prop} {K : Act → World → Prop}
theorem st_allocQ (hgd : Region.wanted o (yielded ops a.tmps) = true) (T : TypeId) (ho : o.op = .alloc T) {z : Value} {cs : Array Value} [hz : ZeroT P T z cs]
    (hL : Holds w0 w M Φ) (h : ∀ b w', Holds w0 w' (blk b cs T :: M) Φ → K (a.put o.dst (.pointer (some ⟨b, 0, none⟩))) w') : wpStep P ops Q o K a w := by
  obtain ⟨hz1, hz2⟩ := hz
  subst hz2
  refine st_run hgd (.pointer (some ⟨w.heap.size, 0, none⟩)) (w.alloc (.cells z.cells T)) ?_ (h _ _ (hL.alloc _ _))
  unfold execOp
  have : (Instr.alloc T true (.tuple #[])).run P w = .ok (.pointer (some ⟨w.heap.size, 0, none⟩)) (w.alloc (.cells z.cells T)) := by
    unfold Instr.alloc
    rw [Sem.run_bind, hz1]
    rfl
  simp only [ho, Sem.run_bind, this, Result.andThen_ok]
  rfl
theorem load_rangeO {T : TypeId} {b f n : Nat} {cs : Array Value} {w : World} [hT : RowT P T n] (hn : n = cs.size) (hc : w.rangeAt b f cs.toList) : LoadAt P T ⟨b, f, none⟩ w fun u => u = .agg cs := loadAt_cells hT cs.toList hc (by simpa using hn) (by simp)
end
theorem exContQ {G : Prop} {H P : Nat → Nat → World → Prop} (h1 : (∀ a b w, H a b w → P a b w) → G) (h2 : ∀ a b w, H a b w → P a b w) : G := h1 h2
def dotIn (c : Ct) (s : Sty) (x y : Int) : Bool := if s.cap = 1 then discIn c.x c.y s.wide x y else if s.cap = 2 then squareIn c.x c.y s.wide x y else false
set_option maxRecDepth 100000 in
set_option maxHeartbeats 4000000 in
theorem rDot_calls (v : Value) (cx cy : Int) (es : List Edg) (sh : Bool) (h1 : -8191 ≤ cx ∧ cx ≤ 8191) (h2 : -8191 ≤ cy ∧ cy ≤ 8191) (wd cap join : Int) (hw : 0 ≤ wd ∧ wd ≤ 2048) (hcap : cap = 0 ∨ cap = 1 ∨ cap = 2) (x y : Int) (hx : -8191 ≤ x ∧ x ≤ 8191) (hy : -8191 ≤ y ∧ y ≤ 8191) (w : World) :
    Calls Try.prog 73 #[.agg #[.int .i64 cx, .int .i64 cy, v, .bool sh], .agg #[.int .i64 wd, .int .i64 cap, .int .i64 join], .int .i64 x, .int .i64 y] w fun e w' => e = .returned (.bool (dotIn ⟨cx, cy, es, sh⟩ ⟨wd, cap, join⟩ x y)) ∧ Below w.heap.size w w' := by
  have hL := Holds.start w
  have HD := Lib.hid (fun w => rDisc_calls cx cy wd x y h1 h2 hw hx hy w)
  have hR : dotIn ⟨cx, cy, es, sh⟩ ⟨wd, cap, join⟩ x y = if cap = 1 then discIn cx cy wd x y else if cap = 2 then ((decide (2 * (x - cx) ≤ wd) && decide (2 * (cx - x) ≤ wd)) && (decide (2 * (y - cy) ≤ wd) && decide (2 * (cy - y) ≤ wd))) else false := rfl
  generalize dotIn ⟨cx, cy, es, sh⟩ ⟨wd, cap, join⟩ x y = R at *
  rcases hcap with rfl | rfl | rfl
  · rw [if_neg (by decide), if_neg (by decide)] at hR
    subst hR
    clear HD
    have n1 : True := trivial; have n2 : True := trivial
    go_enter Try.func73, Try.ntmps73
    go_wp2_with (first | (first | (clear hL n1; with_reducible intro b1 w1 hL) | (clear hL n2; with_reducible intro b2 w2 hL) | (clear hL; with_reducible intro _ _ hL)) | (with_reducible refine wpC_alloc rfl _ rfl _ _ inferInstance hL ?_) | (with_reducible first | refine wpB_agg rfl _ _ _ rfl rfl hL ?_ | refine wpB_one rfl _ _ (.int _ _) rfl rfl rfl hL ?_ | refine wpB_one rfl _ _ (.slice _ _ _) rfl rfl rfl hL ?_ | refine wpB_one rfl _ _ (.bool _) rfl rfl rfl hL ?_ | refine wpB_one rfl _ _ (.pointer _) rfl rfl rfl hL ?_ | refine wpB_one rfl _ _ (.func _ _ _) rfl rfl rfl hL ?_) | (with_reducible first | refine wpH_max rfl _ _ _ _ rfl _ _ rfl rfl ?_ | refine wpH_min rfl _ _ _ _ rfl _ _ rfl rfl ?_) | ((with_reducible refine wpA_load rfl _ _ rfl _ rfl ?_); first | refine loadA hL ?_ | refine loadR hL ?_ | refine loadC hL ?_ | refine loadD ?_ | refine loadE hL ?_ | refine loadF ?_) | ((with_reducible refine wpA_index rfl _ _ _ rfl _ rfl _ rfl ?_); first | (refine indexA ?_; try rw [Int.toNat_natCast]) | refine indexC ?_) | ((with_reducible refine wpA_store rfl _ _ _ rfl _ rfl (.agg _) rfl ?_); refine storeR hL ?_; clear hL; intro _ hL) | ((with_reducible first | refine wpA_store rfl _ _ _ rfl _ rfl (.int _ _) rfl ?_ | refine wpA_store rfl _ _ _ rfl _ rfl (.slice _ _ _) rfl ?_ | refine wpA_store rfl _ _ _ rfl _ rfl (.bool _) rfl ?_ | refine wpA_store rfl _ _ _ rfl _ rfl (.pointer _) rfl ?_ | refine wpA_store rfl _ _ _ rfl _ rfl (.func _ _ _) rfl ?_); (first | refine storeA hL ?_ | refine storeO hL ?_); (clear hL; intro _ hL)) | ((with_reducible refine wpA_lit rfl _ _ _ rfl ?_); first | refine litA1 hL ?_ | refine litA2 hL ?_ | refine litA3 hL ?_ | refine litA4 hL ?_ | refine litA6 hL ?_) | ((with_reducible refine wpA_append rfl _ _ _ rfl (.slice _ _ _) rfl ?_); intro vq hvq; simp [go_sem] at hvq; subst hvq; refine appendA hL ?_; clear hL; intro _ _ _ hL; try dsimp only at hL) | ((with_reducible refine wpA_make rfl _ _ _ rfl _ rfl rfl ?_); refine makeA hL ?_))
    go_ret
    exact ⟨rfl, hL.below⟩
  · rw [if_pos rfl] at hR
    generalize discIn cx cy wd x y = d at *
    subst hR
    have n1 : True := trivial; have n2 : True := trivial
    go_enter Try.func73, Try.ntmps73
    go_wp2_with (first | (go_at_call 76; (with_reducible refine (HD.out _).mono ?_); rintro e _ ⟨rfl, hb⟩; replace hL := hL.call hb; clear hb) | (first | (clear hL n1; with_reducible intro b1 w1 hL) | (clear hL n2; with_reducible intro b2 w2 hL) | (clear hL; with_reducible intro _ _ hL)) | (with_reducible refine wpC_alloc rfl _ rfl _ _ inferInstance hL ?_) | (with_reducible first | refine wpB_agg rfl _ _ _ rfl rfl hL ?_ | refine wpB_one rfl _ _ (.int _ _) rfl rfl rfl hL ?_ | refine wpB_one rfl _ _ (.slice _ _ _) rfl rfl rfl hL ?_ | refine wpB_one rfl _ _ (.bool _) rfl rfl rfl hL ?_ | refine wpB_one rfl _ _ (.pointer _) rfl rfl rfl hL ?_ | refine wpB_one rfl _ _ (.func _ _ _) rfl rfl rfl hL ?_) | (with_reducible first | refine wpH_max rfl _ _ _ _ rfl _ _ rfl rfl ?_ | refine wpH_min rfl _ _ _ _ rfl _ _ rfl rfl ?_) | ((with_reducible refine wpA_load rfl _ _ rfl _ rfl ?_); first | refine loadA hL ?_ | refine loadR hL ?_ | refine loadC hL ?_ | refine loadD ?_ | refine loadE hL ?_ | refine loadF ?_) | ((with_reducible refine wpA_index rfl _ _ _ rfl _ rfl _ rfl ?_); first | (refine indexA ?_; try rw [Int.toNat_natCast]) | refine indexC ?_) | ((with_reducible refine wpA_store rfl _ _ _ rfl _ rfl (.agg _) rfl ?_); refine storeR hL ?_; clear hL; intro _ hL) | ((with_reducible first | refine wpA_store rfl _ _ _ rfl _ rfl (.int _ _) rfl ?_ | refine wpA_store rfl _ _ _ rfl _ rfl (.slice _ _ _) rfl ?_ | refine wpA_store rfl _ _ _ rfl _ rfl (.bool _) rfl ?_ | refine wpA_store rfl _ _ _ rfl _ rfl (.pointer _) rfl ?_ | refine wpA_store rfl _ _ _ rfl _ rfl (.func _ _ _) rfl ?_); (first | refine storeA hL ?_ | refine storeO hL ?_); (clear hL; intro _ hL)) | ((with_reducible refine wpA_lit rfl _ _ _ rfl ?_); first | refine litA1 hL ?_ | refine litA2 hL ?_ | refine litA3 hL ?_ | refine litA4 hL ?_ | refine litA6 hL ?_) | ((with_reducible refine wpA_append rfl _ _ _ rfl (.slice _ _ _) rfl ?_); intro vq hvq; simp [go_sem] at hvq; subst hvq; refine appendA hL ?_; clear hL; intro _ _ _ hL; try dsimp only at hL) | ((with_reducible refine wpA_make rfl _ _ _ rfl _ rfl rfl ?_); refine makeA hL ?_))
    go_ret
    exact ⟨rfl, hL.below⟩
  · rw [if_neg (by decide), if_pos rfl] at hR
    clear HD
    obtain ⟨m, hm⟩ : ∃ m, max (x - cx) (cx - x) = m := ⟨_, rfl⟩
    obtain ⟨n, hn⟩ : ∃ n, max (y - cy) (cy - y) = n := ⟨_, rfl⟩
    rcases (by omega : ¬ 2 * m ≤ wd ∨ (2 * m ≤ wd ∧ ¬ 2 * n ≤ wd) ∨ (2 * m ≤ wd ∧ 2 * n ≤ wd)) with g | ⟨g, g1⟩ | ⟨g, g1⟩
    · have HR := Lib.hid (show R = false by rw [hR]; simp; omega)
      have d1 : decide (2 * m ≤ wd) = false := decide_eq_false g
      clear hR
      have n1 : True := trivial; have n2 : True := trivial
      go_enter Try.func73, Try.ntmps73
      go_wp2_with (first | (first | (clear hL n1; with_reducible intro b1 w1 hL) | (clear hL n2; with_reducible intro b2 w2 hL) | (clear hL; with_reducible intro _ _ hL)) | (with_reducible refine wpC_alloc rfl _ rfl _ _ inferInstance hL ?_) | (with_reducible first | refine wpB_agg rfl _ _ _ rfl rfl hL ?_ | refine wpB_one rfl _ _ (.int _ _) rfl rfl rfl hL ?_ | refine wpB_one rfl _ _ (.slice _ _ _) rfl rfl rfl hL ?_ | refine wpB_one rfl _ _ (.bool _) rfl rfl rfl hL ?_ | refine wpB_one rfl _ _ (.pointer _) rfl rfl rfl hL ?_ | refine wpB_one rfl _ _ (.func _ _ _) rfl rfl rfl hL ?_) | (with_reducible first | refine wpH_max rfl _ _ _ _ rfl _ _ rfl rfl ?_ | refine wpH_min rfl _ _ _ _ rfl _ _ rfl rfl ?_) | ((with_reducible refine wpA_load rfl _ _ rfl _ rfl ?_); first | refine loadA hL ?_ | refine loadR hL ?_ | refine loadC hL ?_ | refine loadD ?_ | refine loadE hL ?_ | refine loadF ?_) | ((with_reducible refine wpA_index rfl _ _ _ rfl _ rfl _ rfl ?_); first | (refine indexA ?_; try rw [Int.toNat_natCast]) | refine indexC ?_) | ((with_reducible refine wpA_store rfl _ _ _ rfl _ rfl (.agg _) rfl ?_); refine storeR hL ?_; clear hL; intro _ hL) | ((with_reducible first | refine wpA_store rfl _ _ _ rfl _ rfl (.int _ _) rfl ?_ | refine wpA_store rfl _ _ _ rfl _ rfl (.slice _ _ _) rfl ?_ | refine wpA_store rfl _ _ _ rfl _ rfl (.bool _) rfl ?_ | refine wpA_store rfl _ _ _ rfl _ rfl (.pointer _) rfl ?_ | refine wpA_store rfl _ _ _ rfl _ rfl (.func _ _ _) rfl ?_); (first | refine storeA hL ?_ | refine storeO hL ?_); (clear hL; intro _ hL)) | ((with_reducible refine wpA_lit rfl _ _ _ rfl ?_); first | refine litA1 hL ?_ | refine litA2 hL ?_ | refine litA3 hL ?_ | refine litA4 hL ?_ | refine litA6 hL ?_) | ((with_reducible refine wpA_append rfl _ _ _ rfl (.slice _ _ _) rfl ?_); intro vq hvq; simp [go_sem] at hvq; subst hvq; refine appendA hL ?_; clear hL; intro _ _ _ hL; try dsimp only at hL) | ((with_reducible refine wpA_make rfl _ _ _ rfl _ rfl rfl ?_); refine makeA hL ?_))
      go_ret
      exact ⟨ret_bool HR.out.symm, hL.below⟩
    · have HR := Lib.hid (show R = false by rw [hR]; simp; omega)
      have d1 : decide (2 * m ≤ wd) = true := decide_eq_true g
      have d2 : decide (2 * n ≤ wd) = false := decide_eq_false g1
      clear hR
      have n1 : True := trivial; have n2 : True := trivial
      go_enter Try.func73, Try.ntmps73
      go_wp2_with (first | (first | (clear hL n1; with_reducible intro b1 w1 hL) | (clear hL n2; with_reducible intro b2 w2 hL) | (clear hL; with_reducible intro _ _ hL)) | (with_reducible refine wpC_alloc rfl _ rfl _ _ inferInstance hL ?_) | (with_reducible first | refine wpB_agg rfl _ _ _ rfl rfl hL ?_ | refine wpB_one rfl _ _ (.int _ _) rfl rfl rfl hL ?_ | refine wpB_one rfl _ _ (.slice _ _ _) rfl rfl rfl hL ?_ | refine wpB_one rfl _ _ (.bool _) rfl rfl rfl hL ?_ | refine wpB_one rfl _ _ (.pointer _) rfl rfl rfl hL ?_ | refine wpB_one rfl _ _ (.func _ _ _) rfl rfl rfl hL ?_) | (with_reducible first | refine wpH_max rfl _ _ _ _ rfl _ _ rfl rfl ?_ | refine wpH_min rfl _ _ _ _ rfl _ _ rfl rfl ?_) | ((with_reducible refine wpA_load rfl _ _ rfl _ rfl ?_); first | refine loadA hL ?_ | refine loadR hL ?_ | refine loadC hL ?_ | refine loadD ?_ | refine loadE hL ?_ | refine loadF ?_) | ((with_reducible refine wpA_index rfl _ _ _ rfl _ rfl _ rfl ?_); first | (refine indexA ?_; try rw [Int.toNat_natCast]) | refine indexC ?_) | ((with_reducible refine wpA_store rfl _ _ _ rfl _ rfl (.agg _) rfl ?_); refine storeR hL ?_; clear hL; intro _ hL) | ((with_reducible first | refine wpA_store rfl _ _ _ rfl _ rfl (.int _ _) rfl ?_ | refine wpA_store rfl _ _ _ rfl _ rfl (.slice _ _ _) rfl ?_ | refine wpA_store rfl _ _ _ rfl _ rfl (.bool _) rfl ?_ | refine wpA_store rfl _ _ _ rfl _ rfl (.pointer _) rfl ?_ | refine wpA_store rfl _ _ _ rfl _ rfl (.func _ _ _) rfl ?_); (first | refine storeA hL ?_ | refine storeO hL ?_); (clear hL; intro _ hL)) | ((with_reducible refine wpA_lit rfl _ _ _ rfl ?_); first | refine litA1 hL ?_ | refine litA2 hL ?_ | refine litA3 hL ?_ | refine litA4 hL ?_ | refine litA6 hL ?_) | ((with_reducible refine wpA_append rfl _ _ _ rfl (.slice _ _ _) rfl ?_); intro vq hvq; simp [go_sem] at hvq; subst hvq; refine appendA hL ?_; clear hL; intro _ _ _ hL; try dsimp only at hL) | ((with_reducible refine wpA_make rfl _ _ _ rfl _ rfl rfl ?_); refine makeA hL ?_))
      go_ret
      exact ⟨ret_bool HR.out.symm, hL.below⟩
    · have HR := Lib.hid (show R = true by rw [hR]; simp; omega)
      have d1 : decide (2 * m ≤ wd) = true := decide_eq_true g
      have d2 : decide (2 * n ≤ wd) = true := decide_eq_true g1
      clear hR
      have n1 : True := trivial; have n2 : True := trivial
      go_enter Try.func73, Try.ntmps73
      go_wp2_with (first | (first | (clear hL n1; with_reducible intro b1 w1 hL) | (clear hL n2; with_reducible intro b2 w2 hL) | (clear hL; with_reducible intro _ _ hL)) | (with_reducible refine wpC_alloc rfl _ rfl _ _ inferInstance hL ?_) | (with_reducible first | refine wpB_agg rfl _ _ _ rfl rfl hL ?_ | refine wpB_one rfl _ _ (.int _ _) rfl rfl rfl hL ?_ | refine wpB_one rfl _ _ (.slice _ _ _) rfl rfl rfl hL ?_ | refine wpB_one rfl _ _ (.bool _) rfl rfl rfl hL ?_ | refine wpB_one rfl _ _ (.pointer _) rfl rfl rfl hL ?_ | refine wpB_one rfl _ _ (.func _ _ _) rfl rfl rfl hL ?_) | (with_reducible first | refine wpH_max rfl _ _ _ _ rfl _ _ rfl rfl ?_ | refine wpH_min rfl _ _ _ _ rfl _ _ rfl rfl ?_) | ((with_reducible refine wpA_load rfl _ _ rfl _ rfl ?_); first | refine loadA hL ?_ | refine loadR hL ?_ | refine loadC hL ?_ | refine loadD ?_ | refine loadE hL ?_ | refine loadF ?_) | ((with_reducible refine wpA_index rfl _ _ _ rfl _ rfl _ rfl ?_); first | (refine indexA ?_; try rw [Int.toNat_natCast]) | refine indexC ?_) | ((with_reducible refine wpA_store rfl _ _ _ rfl _ rfl (.agg _) rfl ?_); refine storeR hL ?_; clear hL; intro _ hL) | ((with_reducible first | refine wpA_store rfl _ _ _ rfl _ rfl (.int _ _) rfl ?_ | refine wpA_store rfl _ _ _ rfl _ rfl (.slice _ _ _) rfl ?_ | refine wpA_store rfl _ _ _ rfl _ rfl (.bool _) rfl ?_ | refine wpA_store rfl _ _ _ rfl _ rfl (.pointer _) rfl ?_ | refine wpA_store rfl _ _ _ rfl _ rfl (.func _ _ _) rfl ?_); (first | refine storeA hL ?_ | refine storeO hL ?_); (clear hL; intro _ hL)) | ((with_reducible refine wpA_lit rfl _ _ _ rfl ?_); first | refine litA1 hL ?_ | refine litA2 hL ?_ | refine litA3 hL ?_ | refine litA4 hL ?_ | refine litA6 hL ?_) | ((with_reducible refine wpA_append rfl _ _ _ rfl (.slice _ _ _) rfl ?_); intro vq hvq; simp [go_sem] at hvq; subst hvq; refine appendA hL ?_; clear hL; intro _ _ _ hL; try dsimp only at hL) | ((with_reducible refine wpA_make rfl _ _ _ rfl _ rfl rfl ?_); refine makeA hL ?_))
      go_ret
      exact ⟨ret_bool HR.out.symm, hL.below⟩
def endsIn (l : List Edg) (s : Sty) (x y : Int) : Bool := if s.cap = 1 then discIn (l.getD 0 default).x0 (l.getD 0 default).y0 s.wide x y || discIn (l.getD (l.length - 1) default).x1 (l.getD (l.length - 1) default).y1 s.wide x y
  else if s.cap = 2 then aheadA (armU (l.getD 0 default) x y) (armK (l.getD 0 default) x y) (armL (l.getD 0 default)) s.wide || behindA (armU (l.getD (l.length - 1) default) x y) (armK (l.getD (l.length - 1) default) x y) (armL (l.getD (l.length - 1) default)) s.wide else false
set_option maxRecDepth 100000 in
set_option maxHeartbeats 8000000 in
theorem rEnds_calls (w : World) (v : Value) (l : List Edg) (hv : EdgesAt w v l) (hl : l.length ≠ 0) (hg : ∀ e ∈ l, NearE' e) (wd cap join : Int) (hw : 0 ≤ wd ∧ wd ≤ 2048) (hcap : cap = 0 ∨ cap = 1 ∨ cap = 2) (x y : Int) (hx : -8191 ≤ x ∧ x ≤ 8191) (hy : -8191 ≤ y ∧ y ≤ 8191) :
    Calls Try.prog 77 #[v, .agg #[.int .i64 wd, .int .i64 cap, .int .i64 join], .int .i64 x, .int .i64 y] w fun e w' => e = .returned (.bool (endsIn l ⟨wd, cap, join⟩ x y)) ∧ Below w.heap.size w w' := by
  obtain ⟨ea, ec, rfl, hlc, hcm, hel⟩ := EdgesAt.parts hv
  clear hv
  unfold maxLen at hcm
  obtain ⟨m, hm⟩ : ∃ m, l.length = m + 1 := ⟨l.length - 1, by omega⟩
  obtain ⟨be, oe, rfl, hcA⟩ := hel 0 (by omega)
  obtain ⟨be2, oe2, e2, hcZ⟩ := hel m (by omega)
  injection e2 with e2
  injection e2 with e2 e3
  subst e2; subst e3
  have gA := hg (l.getD 0 default) (by rw [show l.getD 0 default = l[0]'(by omega) by simp [show 0 < l.length by omega]]; exact List.getElem_mem _)
  have gZ := hg (l.getD m default) (by rw [show l.getD m default = l[m]'(by omega) by simp [show m < l.length by omega]]; exact List.getElem_mem _)
  have hR : endsIn l ⟨wd, cap, join⟩ x y = if cap = 1 then discIn (l.getD 0 default).x0 (l.getD 0 default).y0 wd x y || discIn (l.getD m default).x1 (l.getD m default).y1 wd x y
      else if cap = 2 then aheadA (armU (l.getD 0 default) x y) (armK (l.getD 0 default) x y) (armL (l.getD 0 default)) wd || behindA (armU (l.getD m default) x y) (armK (l.getD m default) x y) (armL (l.getD m default)) wd else false := by
    unfold endsIn
    rw [show l.length - 1 = m by omega]
  generalize endsIn l ⟨wd, cap, join⟩ x y = R at *
  rw [Nat.zero_mul, Nat.add_zero] at hcA
  rw [hm] at hlc ⊢
  clear hel hg hm hl
  generalize l.getD 0 default = eA at *
  generalize l.getD m default = eZ at *
  have HAa := Lib.hid (fun w => rArm_calls eA gA x y hx hy w)
  have HAz := Lib.hid (fun w => rArm_calls eZ gZ x y hx hy w)
  have HAh := Lib.hid (fun w => armAhead_calls _ _ _ (arm_bd gA hx hy) wd hw w)
  have HBe := Lib.hid (fun w => armBehind_calls _ _ _ (arm_bd gZ hx hy) wd hw w)
  have HD1 := Lib.hid (fun w => rDisc_calls eA.x0 eA.y0 wd x y gA.1.1 gA.1.2 hw hx hy w)
  have HD2 := Lib.hid (fun w => rDisc_calls eZ.x1 eZ.y1 wd x y gZ.2.1 gZ.2.2 hw hx hy w)
  clear gA gZ
  generalize armU eA x y = U1 at *
  generalize armK eA x y = K1 at *
  generalize armL eA = L1 at *
  generalize armU eZ x y = U2 at *
  generalize armK eZ x y = K2 at *
  generalize armL eZ = L2 at *
  generalize aheadA U1 K1 L1 wd = h1 at *
  generalize behindA U2 K2 L2 wd = h2 at *
  obtain ⟨ax0, ay0, abt, adx, ady, ax1, ay1⟩ := eA
  obtain ⟨zx0, zy0, zbt, zdx, zdy, zx1, zy1⟩ := eZ
  unfold edgeC at hcA hcZ HAa HAz
  dsimp only at *
  generalize discIn ax0 ay0 wd x y = d1 at *
  generalize discIn zx1 zy1 wd x y = d2 at *
  have HcA := Lib.hid hcA
  have HcZ := Lib.hid hcZ
  clear hcA hcZ
  have wm : IntKind.i64.wrap ((m + 1 : Nat) : Int) = ((m + 1 : Nat) : Int) := by rw [IntKind.wrap_i64]; omega
  have wm2 : IntKind.i64.wrap (m : Int) = (m : Int) := by rw [IntKind.wrap_i64]; omega
  have hm1 : (m : Int) < (m : Int) + 1 := by omega
  have hL := Holds.start w
  have HR := Lib.hid hR
  clear hR
  have n1 : True := trivial
  go_enter Try.func77, Try.ntmps77
  go_wp2_with (first | (first | (clear hL n1; with_reducible intro b1 w1 hL) | (clear hL; with_reducible intro _ _ hL)) | (with_reducible refine wpC_alloc rfl _ rfl _ _ inferInstance hL ?_) | (with_reducible first | refine wpB_agg rfl _ _ _ rfl rfl hL ?_ | refine wpB_one rfl _ _ (.int _ _) rfl rfl rfl hL ?_ | refine wpB_one rfl _ _ (.slice _ _ _) rfl rfl rfl hL ?_ | refine wpB_one rfl _ _ (.bool _) rfl rfl rfl hL ?_ | refine wpB_one rfl _ _ (.pointer _) rfl rfl rfl hL ?_ | refine wpB_one rfl _ _ (.func _ _ _) rfl rfl rfl hL ?_) | (with_reducible first | refine wpH_max rfl _ _ _ _ rfl _ _ rfl rfl ?_ | refine wpH_min rfl _ _ _ _ rfl _ _ rfl rfl ?_) | ((with_reducible refine wpA_load rfl _ _ rfl _ rfl ?_); first | refine loadA hL ?_ | refine loadR hL ?_ | refine loadC hL ?_ | refine loadD ?_ | refine loadE hL ?_ | refine loadF ?_) | ((with_reducible refine wpA_index rfl _ _ _ rfl _ rfl _ rfl ?_); first | (refine indexA ?_; try rw [Int.toNat_natCast]) | refine indexC ?_) | ((with_reducible refine wpA_store rfl _ _ _ rfl _ rfl (.agg _) rfl ?_); refine storeR hL ?_; clear hL; intro _ hL) | ((with_reducible first | refine wpA_store rfl _ _ _ rfl _ rfl (.int _ _) rfl ?_ | refine wpA_store rfl _ _ _ rfl _ rfl (.slice _ _ _) rfl ?_ | refine wpA_store rfl _ _ _ rfl _ rfl (.bool _) rfl ?_ | refine wpA_store rfl _ _ _ rfl _ rfl (.pointer _) rfl ?_ | refine wpA_store rfl _ _ _ rfl _ rfl (.func _ _ _) rfl ?_); (first | refine storeA hL ?_ | refine storeO hL ?_); (clear hL; intro _ hL)) | ((with_reducible refine wpA_lit rfl _ _ _ rfl ?_); first | refine litA1 hL ?_ | refine litA2 hL ?_ | refine litA3 hL ?_ | refine litA4 hL ?_ | refine litA6 hL ?_) | ((with_reducible refine wpA_append rfl _ _ _ rfl (.slice _ _ _) rfl ?_); intro vq hvq; simp [go_sem] at hvq; subst hvq; refine appendA hL ?_; clear hL; intro _ _ _ hL; try dsimp only at hL) | ((with_reducible refine wpA_make rfl _ _ _ rfl _ rfl rfl ?_); refine makeA hL ?_))
  replace hL := hL.drew
  apply exContQ (H := fun ba bz w8 => Holds w w8 [blk bz #[.int .i64 zx0, .int .i64 zy0, .bool zbt, .int .i64 zdx, .int .i64 zdy, .int .i64 zx1, .int .i64 zy1] 106, blk ba #[.int .i64 ax0, .int .i64 ay0, .bool abt, .int .i64 adx, .int .i64 ady, .int .i64 ax1, .int .i64 ay1] 106, blk b1 #[.int .i64 wd, .int .i64 cap, .int .i64 join] 24] [])
  · intro hcont
    have hS := (show (fun w' : World => w'.rangeAt be oe #[.int .i64 ax0, .int .i64 ay0, .bool abt, .int .i64 adx, .int .i64 ady, .int .i64 ax1, .int .i64 ay1].toList ∧ w'.rangeAt be (oe + m * 7) #[.int .i64 zx0, .int .i64 zy0, .bool zbt, .int .i64 zdx, .int .i64 zdy, .int .i64 zx1, .int .i64 zy1].toList) _ from ⟨hL.olds HcA.out, hL.olds HcZ.out⟩)
    refine wpH_begin (by kernel_rfl) (fun w' : World => w'.rangeAt be oe #[.int .i64 ax0, .int .i64 ay0, .bool abt, .int .i64 adx, .int .i64 ady, .int .i64 ax1, .int .i64 ay1].toList ∧ w'.rangeAt be (oe + m * 7) #[.int .i64 zx0, .int .i64 zy0, .bool zbt, .int .i64 zdx, .int .i64 zdy, .int .i64 zx1, .int .i64 zy1].toList) ?_
    refine stH (i := 0) (.slice (some ⟨be, oe, none⟩) (m + 1) ec) hS ?_ ?_; (· exact fun w' _ => (by go_simp)); simp only [Act.put, List.setIfInBounds_toArray, List.set_cons_zero, List.set_cons_succ]
    refine stH (i := 1) (.pointer (some ⟨be, oe, none⟩)) hS ?_ ?_; (· exact fun w' _ => (by go_simp)); simp only [Act.put, List.setIfInBounds_toArray, List.set_cons_zero, List.set_cons_succ]
    refine stH (i := 2) (.agg #[.int .i64 ax0, .int .i64 ay0, .bool abt, .int .i64 adx, .int .i64 ady, .int .i64 ax1, .int .i64 ay1]) hS ?_ ?_; (· exact fun w' hw => run_loadOp _ _ rfl _ rfl _ (load_rangeO (cs := #[.int .i64 ax0, .int .i64 ay0, .bool abt, .int .i64 adx, .int .i64 ady, .int .i64 ax1, .int .i64 ay1]) rfl hw.1)); simp only [Act.put, List.setIfInBounds_toArray, List.set_cons_zero, List.set_cons_succ]
    refine stH (i := 3) (.slice (some ⟨be, oe, none⟩) (m + 1) ec) hS ?_ ?_; (· exact fun w' _ => (by go_simp)); simp only [Act.put, List.setIfInBounds_toArray, List.set_cons_zero, List.set_cons_succ]
    refine stH (i := 4) (.slice (some ⟨be, oe, none⟩) (m + 1) ec) hS ?_ ?_; (· exact fun w' _ => (by go_simp)); simp only [Act.put, List.setIfInBounds_toArray, List.set_cons_zero, List.set_cons_succ]
    refine stH (i := 5) (.int .i64 ((m + 1 : Nat) : Int)) hS ?_ ?_; (· exact fun w' _ => (by go_simp)); simp only [Act.put, List.setIfInBounds_toArray, List.set_cons_zero, List.set_cons_succ]
    refine stH (i := 6) (.int .i64 (m : Int)) hS ?_ ?_; (· exact fun w' _ => (by go_simp)); simp only [Act.put, List.setIfInBounds_toArray, List.set_cons_zero, List.set_cons_succ]
    refine stH (i := 7) (.pointer (some ⟨be, oe + m * 7, none⟩)) hS ?_ ?_; (· exact fun w' _ => (by go_simp)); simp only [Act.put, List.setIfInBounds_toArray, List.set_cons_zero, List.set_cons_succ]
    refine stH (i := 8) (.agg #[.int .i64 zx0, .int .i64 zy0, .bool zbt, .int .i64 zdx, .int .i64 zdy, .int .i64 zx1, .int .i64 zy1]) hS ?_ ?_; (· exact fun w' hw => run_loadOp _ _ rfl _ rfl _ (load_rangeO (cs := #[.int .i64 zx0, .int .i64 zy0, .bool zbt, .int .i64 zdx, .int .i64 zdy, .int .i64 zx1, .int .i64 zy1]) rfl hw.2)); simp only [Act.put, List.setIfInBounds_toArray, List.set_cons_zero, List.set_cons_succ]
    refine wpH_two (i := 9) (j := 10) (by kernel_rfl) (wpOp_of (by simp only [List.getElem?_toArray, List.getElem?_cons_zero, List.getElem?_cons_succ]; rfl) ?_) (wpOp_of (by simp only [List.getElem?_toArray, List.getElem?_cons_zero, List.getElem?_cons_succ]; rfl) ?_)
    · refine st_allocQ rfl _ rfl hL ?_
      intro p1 wq hL
      have hS := (show (fun w' : World => w'.rangeAt be oe #[.int .i64 ax0, .int .i64 ay0, .bool abt, .int .i64 adx, .int .i64 ady, .int .i64 ax1, .int .i64 ay1].toList ∧ w'.rangeAt be (oe + m * 7) #[.int .i64 zx0, .int .i64 zy0, .bool zbt, .int .i64 zdx, .int .i64 zdy, .int .i64 zx1, .int .i64 zy1].toList) _ from ⟨hL.olds HcA.out, hL.olds HcZ.out⟩)
      refine ⟨hS, ?_⟩
      simp only [Act.put, List.setIfInBounds_toArray, List.set_cons_zero, List.set_cons_succ]
      refine wpH_one (i := 10) (by kernel_rfl) (wpOp_of (by simp only [List.getElem?_toArray, List.getElem?_cons_zero, List.getElem?_cons_succ]; rfl) ?_)
      refine st_allocQ rfl _ rfl hL ?_
      intro p2 wq hL
      have hS := (show (fun w' : World => w'.rangeAt be oe #[.int .i64 ax0, .int .i64 ay0, .bool abt, .int .i64 adx, .int .i64 ady, .int .i64 ax1, .int .i64 ay1].toList ∧ w'.rangeAt be (oe + m * 7) #[.int .i64 zx0, .int .i64 zy0, .bool zbt, .int .i64 zdx, .int .i64 zdy, .int .i64 zx1, .int .i64 zy1].toList) _ from ⟨hL.olds HcA.out, hL.olds HcZ.out⟩)
      refine ⟨hS, ?_⟩
      simp only [Act.put, List.setIfInBounds_toArray, List.set_cons_zero, List.set_cons_succ]
      refine wpH_one (i := 11) (by kernel_rfl) (wpOp_of (by simp only [List.getElem?_toArray, List.getElem?_cons_zero, List.getElem?_cons_succ]; rfl) ?_)
      refine st_store rfl _ _ _ rfl ⟨p1, 0, none⟩ rfl (.agg #[.int .i64 ax0, .int .i64 ay0, .bool abt, .int .i64 adx, .int .i64 ady, .int .i64 ax1, .int .i64 ay1]) rfl (storeR hL ?_)
      intro w9 hL
      have hS := (show (fun w' : World => w'.rangeAt be oe #[.int .i64 ax0, .int .i64 ay0, .bool abt, .int .i64 adx, .int .i64 ady, .int .i64 ax1, .int .i64 ay1].toList ∧ w'.rangeAt be (oe + m * 7) #[.int .i64 zx0, .int .i64 zy0, .bool zbt, .int .i64 zdx, .int .i64 zdy, .int .i64 zx1, .int .i64 zy1].toList) _ from ⟨hL.olds HcA.out, hL.olds HcZ.out⟩)
      refine ⟨hS, ?_⟩
      simp only [Act.put]
      refine wpH_one (i := 12) (by kernel_rfl) (wpOp_of (by simp only [List.getElem?_toArray, List.getElem?_cons_zero, List.getElem?_cons_succ]; rfl) ?_)
      refine st_store rfl _ _ _ rfl ⟨p2, 0, none⟩ rfl (.agg #[.int .i64 zx0, .int .i64 zy0, .bool zbt, .int .i64 zdx, .int .i64 zdy, .int .i64 zx1, .int .i64 zy1]) rfl (storeR hL ?_)
      intro w9 hL
      have hS := (show (fun w' : World => w'.rangeAt be oe #[.int .i64 ax0, .int .i64 ay0, .bool abt, .int .i64 adx, .int .i64 ady, .int .i64 ax1, .int .i64 ay1].toList ∧ w'.rangeAt be (oe + m * 7) #[.int .i64 zx0, .int .i64 zy0, .bool zbt, .int .i64 zdx, .int .i64 zdy, .int .i64 zx1, .int .i64 zy1].toList) _ from ⟨hL.olds HcA.out, hL.olds HcZ.out⟩)
      refine ⟨hS, ?_⟩
      simp only [Act.put]
      refine wpAnyH_done (by kernel_rfl) ?_ _
      clear hS
      exact hcont p1 p2 _ hL
    · refine st_allocQ rfl _ rfl hL ?_
      intro p1 wq hL
      have hS := (show (fun w' : World => w'.rangeAt be oe #[.int .i64 ax0, .int .i64 ay0, .bool abt, .int .i64 adx, .int .i64 ady, .int .i64 ax1, .int .i64 ay1].toList ∧ w'.rangeAt be (oe + m * 7) #[.int .i64 zx0, .int .i64 zy0, .bool zbt, .int .i64 zdx, .int .i64 zdy, .int .i64 zx1, .int .i64 zy1].toList) _ from ⟨hL.olds HcA.out, hL.olds HcZ.out⟩)
      refine ⟨hS, ?_⟩
      simp only [Act.put, List.setIfInBounds_toArray, List.set_cons_zero, List.set_cons_succ]
      refine wpH_one (i := 9) (by kernel_rfl) (wpOp_of (by simp only [List.getElem?_toArray, List.getElem?_cons_zero, List.getElem?_cons_succ]; rfl) ?_)
      refine st_allocQ rfl _ rfl hL ?_
      intro p2 wq hL
      have hS := (show (fun w' : World => w'.rangeAt be oe #[.int .i64 ax0, .int .i64 ay0, .bool abt, .int .i64 adx, .int .i64 ady, .int .i64 ax1, .int .i64 ay1].toList ∧ w'.rangeAt be (oe + m * 7) #[.int .i64 zx0, .int .i64 zy0, .bool zbt, .int .i64 zdx, .int .i64 zdy, .int .i64 zx1, .int .i64 zy1].toList) _ from ⟨hL.olds HcA.out, hL.olds HcZ.out⟩)
      refine ⟨hS, ?_⟩
      simp only [Act.put, List.setIfInBounds_toArray, List.set_cons_zero, List.set_cons_succ]
      refine wpH_one (i := 11) (by kernel_rfl) (wpOp_of (by simp only [List.getElem?_toArray, List.getElem?_cons_zero, List.getElem?_cons_succ]; rfl) ?_)
      refine st_store rfl _ _ _ rfl ⟨p2, 0, none⟩ rfl (.agg #[.int .i64 ax0, .int .i64 ay0, .bool abt, .int .i64 adx, .int .i64 ady, .int .i64 ax1, .int .i64 ay1]) rfl (storeR hL ?_)
      intro w9 hL
      have hS := (show (fun w' : World => w'.rangeAt be oe #[.int .i64 ax0, .int .i64 ay0, .bool abt, .int .i64 adx, .int .i64 ady, .int .i64 ax1, .int .i64 ay1].toList ∧ w'.rangeAt be (oe + m * 7) #[.int .i64 zx0, .int .i64 zy0, .bool zbt, .int .i64 zdx, .int .i64 zdy, .int .i64 zx1, .int .i64 zy1].toList) _ from ⟨hL.olds HcA.out, hL.olds HcZ.out⟩)
      refine ⟨hS, ?_⟩
      simp only [Act.put]
      refine wpH_one (i := 12) (by kernel_rfl) (wpOp_of (by simp only [List.getElem?_toArray, List.getElem?_cons_zero, List.getElem?_cons_succ]; rfl) ?_)
      refine st_store rfl _ _ _ rfl ⟨p1, 0, none⟩ rfl (.agg #[.int .i64 zx0, .int .i64 zy0, .bool zbt, .int .i64 zdx, .int .i64 zdy, .int .i64 zx1, .int .i64 zy1]) rfl (storeR hL ?_)
      intro w9 hL
      have hS := (show (fun w' : World => w'.rangeAt be oe #[.int .i64 ax0, .int .i64 ay0, .bool abt, .int .i64 adx, .int .i64 ady, .int .i64 ax1, .int .i64 ay1].toList ∧ w'.rangeAt be (oe + m * 7) #[.int .i64 zx0, .int .i64 zy0, .bool zbt, .int .i64 zdx, .int .i64 zdy, .int .i64 zx1, .int .i64 zy1].toList) _ from ⟨hL.olds HcA.out, hL.olds HcZ.out⟩)
      refine ⟨hS, ?_⟩
      simp only [Act.put]
      refine wpAnyH_done (by kernel_rfl) ?_ _
      clear hS
      exact hcont p2 p1 _ hL.swapQ
  intro ba bz w8 hL
  rcases hcap with rfl | rfl | rfl
  · rw [if_neg (by decide), if_neg (by decide)] at HR
    go_wp2_with (first | (first | (clear hL n1; with_reducible intro b1 w1 hL) | (clear hL; with_reducible intro _ _ hL)) | (with_reducible refine wpC_alloc rfl _ rfl _ _ inferInstance hL ?_) | (with_reducible first | refine wpB_agg rfl _ _ _ rfl rfl hL ?_ | refine wpB_one rfl _ _ (.int _ _) rfl rfl rfl hL ?_ | refine wpB_one rfl _ _ (.slice _ _ _) rfl rfl rfl hL ?_ | refine wpB_one rfl _ _ (.bool _) rfl rfl rfl hL ?_ | refine wpB_one rfl _ _ (.pointer _) rfl rfl rfl hL ?_ | refine wpB_one rfl _ _ (.func _ _ _) rfl rfl rfl hL ?_) | (with_reducible first | refine wpH_max rfl _ _ _ _ rfl _ _ rfl rfl ?_ | refine wpH_min rfl _ _ _ _ rfl _ _ rfl rfl ?_) | ((with_reducible refine wpA_load rfl _ _ rfl _ rfl ?_); first | refine loadA hL ?_ | refine loadR hL ?_ | refine loadC hL ?_ | refine loadD ?_ | refine loadE hL ?_ | refine loadF ?_) | ((with_reducible refine wpA_index rfl _ _ _ rfl _ rfl _ rfl ?_); first | (refine indexA ?_; try rw [Int.toNat_natCast]) | refine indexC ?_) | ((with_reducible refine wpA_store rfl _ _ _ rfl _ rfl (.agg _) rfl ?_); refine storeR hL ?_; clear hL; intro _ hL) | ((with_reducible first | refine wpA_store rfl _ _ _ rfl _ rfl (.int _ _) rfl ?_ | refine wpA_store rfl _ _ _ rfl _ rfl (.slice _ _ _) rfl ?_ | refine wpA_store rfl _ _ _ rfl _ rfl (.bool _) rfl ?_ | refine wpA_store rfl _ _ _ rfl _ rfl (.pointer _) rfl ?_ | refine wpA_store rfl _ _ _ rfl _ rfl (.func _ _ _) rfl ?_); (first | refine storeA hL ?_ | refine storeO hL ?_); (clear hL; intro _ hL)) | ((with_reducible refine wpA_lit rfl _ _ _ rfl ?_); first | refine litA1 hL ?_ | refine litA2 hL ?_ | refine litA3 hL ?_ | refine litA4 hL ?_ | refine litA6 hL ?_) | ((with_reducible refine wpA_append rfl _ _ _ rfl (.slice _ _ _) rfl ?_); intro vq hvq; simp [go_sem] at hvq; subst hvq; refine appendA hL ?_; clear hL; intro _ _ _ hL; try dsimp only at hL) | ((with_reducible refine wpA_make rfl _ _ _ rfl _ rfl rfl ?_); refine makeA hL ?_))
    go_ret
    exact ⟨ret_bool HR.out.symm, hL.below⟩
  · rw [if_pos rfl] at HR
    cases d1
    · go_wp2_with (first | (go_at_call 76; (with_reducible refine (HD1.out _).mono ?_); rintro e _ ⟨rfl, hb⟩; replace hL := hL.call hb; clear hb) | (go_at_call 76; (with_reducible refine (HD2.out _).mono ?_); rintro e _ ⟨rfl, hb⟩; replace hL := hL.call hb; clear hb) | (first | (clear hL n1; with_reducible intro b1 w1 hL) | (clear hL; with_reducible intro _ _ hL)) | (with_reducible refine wpC_alloc rfl _ rfl _ _ inferInstance hL ?_) | (with_reducible first | refine wpB_agg rfl _ _ _ rfl rfl hL ?_ | refine wpB_one rfl _ _ (.int _ _) rfl rfl rfl hL ?_ | refine wpB_one rfl _ _ (.slice _ _ _) rfl rfl rfl hL ?_ | refine wpB_one rfl _ _ (.bool _) rfl rfl rfl hL ?_ | refine wpB_one rfl _ _ (.pointer _) rfl rfl rfl hL ?_ | refine wpB_one rfl _ _ (.func _ _ _) rfl rfl rfl hL ?_) | (with_reducible first | refine wpH_max rfl _ _ _ _ rfl _ _ rfl rfl ?_ | refine wpH_min rfl _ _ _ _ rfl _ _ rfl rfl ?_) | ((with_reducible refine wpA_load rfl _ _ rfl _ rfl ?_); first | refine loadA hL ?_ | refine loadR hL ?_ | refine loadC hL ?_ | refine loadD ?_ | refine loadE hL ?_ | refine loadF ?_) | ((with_reducible refine wpA_index rfl _ _ _ rfl _ rfl _ rfl ?_); first | (refine indexA ?_; try rw [Int.toNat_natCast]) | refine indexC ?_) | ((with_reducible refine wpA_store rfl _ _ _ rfl _ rfl (.agg _) rfl ?_); refine storeR hL ?_; clear hL; intro _ hL) | ((with_reducible first | refine wpA_store rfl _ _ _ rfl _ rfl (.int _ _) rfl ?_ | refine wpA_store rfl _ _ _ rfl _ rfl (.slice _ _ _) rfl ?_ | refine wpA_store rfl _ _ _ rfl _ rfl (.bool _) rfl ?_ | refine wpA_store rfl _ _ _ rfl _ rfl (.pointer _) rfl ?_ | refine wpA_store rfl _ _ _ rfl _ rfl (.func _ _ _) rfl ?_); (first | refine storeA hL ?_ | refine storeO hL ?_); (clear hL; intro _ hL)) | ((with_reducible refine wpA_lit rfl _ _ _ rfl ?_); first | refine litA1 hL ?_ | refine litA2 hL ?_ | refine litA3 hL ?_ | refine litA4 hL ?_ | refine litA6 hL ?_) | ((with_reducible refine wpA_append rfl _ _ _ rfl (.slice _ _ _) rfl ?_); intro vq hvq; simp [go_sem] at hvq; subst hvq; refine appendA hL ?_; clear hL; intro _ _ _ hL; try dsimp only at hL) | ((with_reducible refine wpA_make rfl _ _ _ rfl _ rfl rfl ?_); refine makeA hL ?_))
      go_ret
      exact ⟨ret_bool (by rw [HR.out]; rfl), hL.below⟩
    · go_wp2_with (first | (go_at_call 76; (with_reducible refine (HD1.out _).mono ?_); rintro e _ ⟨rfl, hb⟩; replace hL := hL.call hb; clear hb) | (go_at_call 76; (with_reducible refine (HD2.out _).mono ?_); rintro e _ ⟨rfl, hb⟩; replace hL := hL.call hb; clear hb) | (first | (clear hL n1; with_reducible intro b1 w1 hL) | (clear hL; with_reducible intro _ _ hL)) | (with_reducible refine wpC_alloc rfl _ rfl _ _ inferInstance hL ?_) | (with_reducible first | refine wpB_agg rfl _ _ _ rfl rfl hL ?_ | refine wpB_one rfl _ _ (.int _ _) rfl rfl rfl hL ?_ | refine wpB_one rfl _ _ (.slice _ _ _) rfl rfl rfl hL ?_ | refine wpB_one rfl _ _ (.bool _) rfl rfl rfl hL ?_ | refine wpB_one rfl _ _ (.pointer _) rfl rfl rfl hL ?_ | refine wpB_one rfl _ _ (.func _ _ _) rfl rfl rfl hL ?_) | (with_reducible first | refine wpH_max rfl _ _ _ _ rfl _ _ rfl rfl ?_ | refine wpH_min rfl _ _ _ _ rfl _ _ rfl rfl ?_) | ((with_reducible refine wpA_load rfl _ _ rfl _ rfl ?_); first | refine loadA hL ?_ | refine loadR hL ?_ | refine loadC hL ?_ | refine loadD ?_ | refine loadE hL ?_ | refine loadF ?_) | ((with_reducible refine wpA_index rfl _ _ _ rfl _ rfl _ rfl ?_); first | (refine indexA ?_; try rw [Int.toNat_natCast]) | refine indexC ?_) | ((with_reducible refine wpA_store rfl _ _ _ rfl _ rfl (.agg _) rfl ?_); refine storeR hL ?_; clear hL; intro _ hL) | ((with_reducible first | refine wpA_store rfl _ _ _ rfl _ rfl (.int _ _) rfl ?_ | refine wpA_store rfl _ _ _ rfl _ rfl (.slice _ _ _) rfl ?_ | refine wpA_store rfl _ _ _ rfl _ rfl (.bool _) rfl ?_ | refine wpA_store rfl _ _ _ rfl _ rfl (.pointer _) rfl ?_ | refine wpA_store rfl _ _ _ rfl _ rfl (.func _ _ _) rfl ?_); (first | refine storeA hL ?_ | refine storeO hL ?_); (clear hL; intro _ hL)) | ((with_reducible refine wpA_lit rfl _ _ _ rfl ?_); first | refine litA1 hL ?_ | refine litA2 hL ?_ | refine litA3 hL ?_ | refine litA4 hL ?_ | refine litA6 hL ?_) | ((with_reducible refine wpA_append rfl _ _ _ rfl (.slice _ _ _) rfl ?_); intro vq hvq; simp [go_sem] at hvq; subst hvq; refine appendA hL ?_; clear hL; intro _ _ _ hL; try dsimp only at hL) | ((with_reducible refine wpA_make rfl _ _ _ rfl _ rfl rfl ?_); refine makeA hL ?_))
      go_ret
      exact ⟨ret_bool (by rw [HR.out]; rfl), hL.below⟩
  · rw [if_neg (by decide), if_pos rfl] at HR
    cases h1
    · go_wp2_with (first | (first | (clear hL n1; with_reducible intro b1 w1 hL) | (clear hL; with_reducible intro _ _ hL)) | (with_reducible refine wpC_alloc rfl _ rfl _ _ inferInstance hL ?_) | (with_reducible first | refine wpB_agg rfl _ _ _ rfl rfl hL ?_ | refine wpB_one rfl _ _ (.int _ _) rfl rfl rfl hL ?_ | refine wpB_one rfl _ _ (.slice _ _ _) rfl rfl rfl hL ?_ | refine wpB_one rfl _ _ (.bool _) rfl rfl rfl hL ?_ | refine wpB_one rfl _ _ (.pointer _) rfl rfl rfl hL ?_ | refine wpB_one rfl _ _ (.func _ _ _) rfl rfl rfl hL ?_) | (with_reducible first | refine wpH_max rfl _ _ _ _ rfl _ _ rfl rfl ?_ | refine wpH_min rfl _ _ _ _ rfl _ _ rfl rfl ?_) | ((with_reducible refine wpA_load rfl _ _ rfl _ rfl ?_); first | refine loadA hL ?_ | refine loadR hL ?_ | refine loadC hL ?_ | refine loadD ?_ | refine loadE hL ?_ | refine loadF ?_) | ((with_reducible refine wpA_index rfl _ _ _ rfl _ rfl _ rfl ?_); first | (refine indexA ?_; try rw [Int.toNat_natCast]) | refine indexC ?_) | ((with_reducible refine wpA_store rfl _ _ _ rfl _ rfl (.agg _) rfl ?_); refine storeR hL ?_; clear hL; intro _ hL) | ((with_reducible first | refine wpA_store rfl _ _ _ rfl _ rfl (.int _ _) rfl ?_ | refine wpA_store rfl _ _ _ rfl _ rfl (.slice _ _ _) rfl ?_ | refine wpA_store rfl _ _ _ rfl _ rfl (.bool _) rfl ?_ | refine wpA_store rfl _ _ _ rfl _ rfl (.pointer _) rfl ?_ | refine wpA_store rfl _ _ _ rfl _ rfl (.func _ _ _) rfl ?_); (first | refine storeA hL ?_ | refine storeO hL ?_); (clear hL; intro _ hL)) | ((with_reducible refine wpA_lit rfl _ _ _ rfl ?_); first | refine litA1 hL ?_ | refine litA2 hL ?_ | refine litA3 hL ?_ | refine litA4 hL ?_ | refine litA6 hL ?_) | ((with_reducible refine wpA_append rfl _ _ _ rfl (.slice _ _ _) rfl ?_); intro vq hvq; simp [go_sem] at hvq; subst hvq; refine appendA hL ?_; clear hL; intro _ _ _ hL; try dsimp only at hL) | ((with_reducible refine wpA_make rfl _ _ _ rfl _ rfl rfl ?_); refine makeA hL ?_))
      replace hL := hL.drew
      have hS := (show (fun w' : World => w'.rangeAt ba 0 #[.int .i64 ax0, .int .i64 ay0, .bool abt, .int .i64 adx, .int .i64 ady, .int .i64 ax1, .int .i64 ay1].toList ∧ (w'.rangeAt bz 0 #[.int .i64 zx0, .int .i64 zy0, .bool zbt, .int .i64 zdx, .int .i64 zdy, .int .i64 zx1, .int .i64 zy1].toList ∧ w'.rangeAt b1 0 #[.int .i64 wd, .int .i64 2, .int .i64 join].toList)) _ from ⟨hL.range (by (repeat (first | with_reducible exact At.here | with_reducible apply At.there))), hL.range (by (repeat (first | with_reducible exact At.here | with_reducible apply At.there))), hL.range (by (repeat (first | with_reducible exact At.here | with_reducible apply At.there)))⟩)
      refine wpH_begin (by kernel_rfl) (fun w' : World => w'.rangeAt ba 0 #[.int .i64 ax0, .int .i64 ay0, .bool abt, .int .i64 adx, .int .i64 ady, .int .i64 ax1, .int .i64 ay1].toList ∧ (w'.rangeAt bz 0 #[.int .i64 zx0, .int .i64 zy0, .bool zbt, .int .i64 zdx, .int .i64 zdy, .int .i64 zx1, .int .i64 zy1].toList ∧ w'.rangeAt b1 0 #[.int .i64 wd, .int .i64 2, .int .i64 join].toList)) ?_
      refine stH (i := 0) (.agg #[.int .i64 ax0, .int .i64 ay0, .bool abt, .int .i64 adx, .int .i64 ady, .int .i64 ax1, .int .i64 ay1]) hS ?_ ?_; (· exact fun w' hw => run_loadOp _ _ rfl _ rfl _ (load_range (cs := #[.int .i64 ax0, .int .i64 ay0, .bool abt, .int .i64 adx, .int .i64 ady, .int .i64 ax1, .int .i64 ay1]) rfl hw.1)); simp only [Act.put, List.setIfInBounds_toArray, List.set_cons_zero, List.set_cons_succ]
      refine stH (i := 1) (.int .i64 x) hS ?_ ?_; (· exact fun w' _ => (by go_simp)); simp only [Act.put, List.setIfInBounds_toArray, List.set_cons_zero, List.set_cons_succ]
      refine stH (i := 2) (.int .i64 y) hS ?_ ?_; (· exact fun w' _ => (by go_simp)); simp only [Act.put, List.setIfInBounds_toArray, List.set_cons_zero, List.set_cons_succ]
      refine stH (i := 4) (.pointer (some ⟨b1, 0, none⟩)) hS ?_ ?_; (· exact fun w' _ => (by go_simp)); simp only [Act.put, List.setIfInBounds_toArray, List.set_cons_zero, List.set_cons_succ]
      refine stH (i := 5) (.int .i64 wd) hS ?_ ?_; (· exact fun w' hw => run_loadOp _ _ rfl _ rfl _ (load_cell (hw.2.2 0 _ rfl))); simp only [Act.put, List.setIfInBounds_toArray, List.set_cons_zero, List.set_cons_succ]
      refine wpH_one (i := 3) (by kernel_rfl) (wpOp_of (by simp only [List.getElem?_toArray, List.getElem?_cons_zero, List.getElem?_cons_succ]; rfl) ?_)
      refine st_call rfl 74 #[.agg #[.int .i64 ax0, .int .i64 ay0, .bool abt, .int .i64 adx, .int .i64 ady, .int .i64 ax1, .int .i64 ay1], .int .i64 x, .int .i64 y] (by go_simp) (HAa.out _) ?_
      rintro e _ ⟨rfl, hb⟩
      replace hL := hL.call hb
      clear hb
      have hS := (show (fun w' : World => w'.rangeAt ba 0 #[.int .i64 ax0, .int .i64 ay0, .bool abt, .int .i64 adx, .int .i64 ady, .int .i64 ax1, .int .i64 ay1].toList ∧ (w'.rangeAt bz 0 #[.int .i64 zx0, .int .i64 zy0, .bool zbt, .int .i64 zdx, .int .i64 zdy, .int .i64 zx1, .int .i64 zy1].toList ∧ w'.rangeAt b1 0 #[.int .i64 wd, .int .i64 2, .int .i64 join].toList)) _ from ⟨hL.range (by (repeat (first | with_reducible exact At.here | with_reducible apply At.there))), hL.range (by (repeat (first | with_reducible exact At.here | with_reducible apply At.there))), hL.range (by (repeat (first | with_reducible exact At.here | with_reducible apply At.there)))⟩)
      refine ⟨_, rfl, hS, ?_⟩
      simp only [Act.put, List.setIfInBounds_toArray, List.set_cons_zero, List.set_cons_succ]
      refine wpH_one (i := 6) (by kernel_rfl) (wpOp_of (by simp only [List.getElem?_toArray, List.getElem?_cons_zero, List.getElem?_cons_succ]; rfl) ?_)
      refine st_call rfl 92 #[.agg #[.int .i64 U1, .int .i64 K1, .int .i64 L1], .int .i64 wd] (by go_simp) (HAh.out _) ?_
      rintro e _ ⟨rfl, hb⟩
      replace hL := hL.call hb
      clear hb
      have hS := (show (fun w' : World => w'.rangeAt ba 0 #[.int .i64 ax0, .int .i64 ay0, .bool abt, .int .i64 adx, .int .i64 ady, .int .i64 ax1, .int .i64 ay1].toList ∧ (w'.rangeAt bz 0 #[.int .i64 zx0, .int .i64 zy0, .bool zbt, .int .i64 zdx, .int .i64 zdy, .int .i64 zx1, .int .i64 zy1].toList ∧ w'.rangeAt b1 0 #[.int .i64 wd, .int .i64 2, .int .i64 join].toList)) _ from ⟨hL.range (by (repeat (first | with_reducible exact At.here | with_reducible apply At.there))), hL.range (by (repeat (first | with_reducible exact At.here | with_reducible apply At.there))), hL.range (by (repeat (first | with_reducible exact At.here | with_reducible apply At.there)))⟩)
      refine ⟨_, rfl, hS, ?_⟩
      simp only [Act.put, List.setIfInBounds_toArray, List.set_cons_zero, List.set_cons_succ]
      refine stH (i := 7) (.bool false) hS ?_ ?_; (· exact fun w' _ => (by go_simp)); simp only [Act.put, List.setIfInBounds_toArray, List.set_cons_zero, List.set_cons_succ]
      refine stH (i := 8) (.agg #[.int .i64 zx0, .int .i64 zy0, .bool zbt, .int .i64 zdx, .int .i64 zdy, .int .i64 zx1, .int .i64 zy1]) hS ?_ ?_; (· exact fun w' hw => run_loadOp _ _ rfl _ rfl _ (load_range (cs := #[.int .i64 zx0, .int .i64 zy0, .bool zbt, .int .i64 zdx, .int .i64 zdy, .int .i64 zx1, .int .i64 zy1]) rfl hw.2.1)); simp only [Act.put, List.setIfInBounds_toArray, List.set_cons_zero, List.set_cons_succ]
      refine stH (i := 9) (.int .i64 x) hS ?_ ?_; (· exact fun w' _ => (by go_simp)); simp only [Act.put, List.setIfInBounds_toArray, List.set_cons_zero, List.set_cons_succ]
      refine stH (i := 10) (.int .i64 y) hS ?_ ?_; (· exact fun w' _ => (by go_simp)); simp only [Act.put, List.setIfInBounds_toArray, List.set_cons_zero, List.set_cons_succ]
      refine stH (i := 12) (.pointer (some ⟨b1, 0, none⟩)) hS ?_ ?_; (· exact fun w' _ => (by go_simp)); simp only [Act.put, List.setIfInBounds_toArray, List.set_cons_zero, List.set_cons_succ]
      refine stH (i := 13) (.int .i64 wd) hS ?_ ?_; (· exact fun w' hw => run_loadOp _ _ rfl _ rfl _ (load_cell (hw.2.2 0 _ rfl))); simp only [Act.put, List.setIfInBounds_toArray, List.set_cons_zero, List.set_cons_succ]
      refine wpH_one (i := 11) (by kernel_rfl) (wpOp_of (by simp only [List.getElem?_toArray, List.getElem?_cons_zero, List.getElem?_cons_succ]; rfl) ?_)
      refine st_call rfl 74 #[.agg #[.int .i64 zx0, .int .i64 zy0, .bool zbt, .int .i64 zdx, .int .i64 zdy, .int .i64 zx1, .int .i64 zy1], .int .i64 x, .int .i64 y] (by go_simp) (HAz.out _) ?_
      rintro e _ ⟨rfl, hb⟩
      replace hL := hL.call hb
      clear hb
      have hS := (show (fun w' : World => w'.rangeAt ba 0 #[.int .i64 ax0, .int .i64 ay0, .bool abt, .int .i64 adx, .int .i64 ady, .int .i64 ax1, .int .i64 ay1].toList ∧ (w'.rangeAt bz 0 #[.int .i64 zx0, .int .i64 zy0, .bool zbt, .int .i64 zdx, .int .i64 zdy, .int .i64 zx1, .int .i64 zy1].toList ∧ w'.rangeAt b1 0 #[.int .i64 wd, .int .i64 2, .int .i64 join].toList)) _ from ⟨hL.range (by (repeat (first | with_reducible exact At.here | with_reducible apply At.there))), hL.range (by (repeat (first | with_reducible exact At.here | with_reducible apply At.there))), hL.range (by (repeat (first | with_reducible exact At.here | with_reducible apply At.there)))⟩)
      refine ⟨_, rfl, hS, ?_⟩
      simp only [Act.put, List.setIfInBounds_toArray, List.set_cons_zero, List.set_cons_succ]
      refine wpH_one (i := 14) (by kernel_rfl) (wpOp_of (by simp only [List.getElem?_toArray, List.getElem?_cons_zero, List.getElem?_cons_succ]; rfl) ?_)
      refine st_call rfl 93 #[.agg #[.int .i64 U2, .int .i64 K2, .int .i64 L2], .int .i64 wd] (by go_simp) (HBe.out _) ?_
      rintro e _ ⟨rfl, hb⟩
      replace hL := hL.call hb
      clear hb
      have hS := (show (fun w' : World => w'.rangeAt ba 0 #[.int .i64 ax0, .int .i64 ay0, .bool abt, .int .i64 adx, .int .i64 ady, .int .i64 ax1, .int .i64 ay1].toList ∧ (w'.rangeAt bz 0 #[.int .i64 zx0, .int .i64 zy0, .bool zbt, .int .i64 zdx, .int .i64 zdy, .int .i64 zx1, .int .i64 zy1].toList ∧ w'.rangeAt b1 0 #[.int .i64 wd, .int .i64 2, .int .i64 join].toList)) _ from ⟨hL.range (by (repeat (first | with_reducible exact At.here | with_reducible apply At.there))), hL.range (by (repeat (first | with_reducible exact At.here | with_reducible apply At.there))), hL.range (by (repeat (first | with_reducible exact At.here | with_reducible apply At.there)))⟩)
      refine ⟨_, rfl, hS, ?_⟩
      simp only [Act.put, List.setIfInBounds_toArray, List.set_cons_zero, List.set_cons_succ]
      refine stH (i := 15) (.bool h2) hS ?_ ?_; (· exact fun w' _ => (by go_simp)); simp only [Act.put, List.setIfInBounds_toArray, List.set_cons_zero, List.set_cons_succ]
      refine stH (i := 16) (.bool h2) hS ?_ ?_; (· exact fun w' _ => (by go_simp)); simp only [Act.put, List.setIfInBounds_toArray, List.set_cons_zero, List.set_cons_succ]
      refine wpAnyH_done (by kernel_rfl) ?_ _
      clear hS
      go_wp2
      go_ret
      exact ⟨ret_bool (by rw [HR.out]; first | rfl | simp), hL.below⟩
    · go_wp2_with (first | (first | (clear hL n1; with_reducible intro b1 w1 hL) | (clear hL; with_reducible intro _ _ hL)) | (with_reducible refine wpC_alloc rfl _ rfl _ _ inferInstance hL ?_) | (with_reducible first | refine wpB_agg rfl _ _ _ rfl rfl hL ?_ | refine wpB_one rfl _ _ (.int _ _) rfl rfl rfl hL ?_ | refine wpB_one rfl _ _ (.slice _ _ _) rfl rfl rfl hL ?_ | refine wpB_one rfl _ _ (.bool _) rfl rfl rfl hL ?_ | refine wpB_one rfl _ _ (.pointer _) rfl rfl rfl hL ?_ | refine wpB_one rfl _ _ (.func _ _ _) rfl rfl rfl hL ?_) | (with_reducible first | refine wpH_max rfl _ _ _ _ rfl _ _ rfl rfl ?_ | refine wpH_min rfl _ _ _ _ rfl _ _ rfl rfl ?_) | ((with_reducible refine wpA_load rfl _ _ rfl _ rfl ?_); first | refine loadA hL ?_ | refine loadR hL ?_ | refine loadC hL ?_ | refine loadD ?_ | refine loadE hL ?_ | refine loadF ?_) | ((with_reducible refine wpA_index rfl _ _ _ rfl _ rfl _ rfl ?_); first | (refine indexA ?_; try rw [Int.toNat_natCast]) | refine indexC ?_) | ((with_reducible refine wpA_store rfl _ _ _ rfl _ rfl (.agg _) rfl ?_); refine storeR hL ?_; clear hL; intro _ hL) | ((with_reducible first | refine wpA_store rfl _ _ _ rfl _ rfl (.int _ _) rfl ?_ | refine wpA_store rfl _ _ _ rfl _ rfl (.slice _ _ _) rfl ?_ | refine wpA_store rfl _ _ _ rfl _ rfl (.bool _) rfl ?_ | refine wpA_store rfl _ _ _ rfl _ rfl (.pointer _) rfl ?_ | refine wpA_store rfl _ _ _ rfl _ rfl (.func _ _ _) rfl ?_); (first | refine storeA hL ?_ | refine storeO hL ?_); (clear hL; intro _ hL)) | ((with_reducible refine wpA_lit rfl _ _ _ rfl ?_); first | refine litA1 hL ?_ | refine litA2 hL ?_ | refine litA3 hL ?_ | refine litA4 hL ?_ | refine litA6 hL ?_) | ((with_reducible refine wpA_append rfl _ _ _ rfl (.slice _ _ _) rfl ?_); intro vq hvq; simp [go_sem] at hvq; subst hvq; refine appendA hL ?_; clear hL; intro _ _ _ hL; try dsimp only at hL) | ((with_reducible refine wpA_make rfl _ _ _ rfl _ rfl rfl ?_); refine makeA hL ?_))
      replace hL := hL.drew
      have hS := (show (fun w' : World => w'.rangeAt ba 0 #[.int .i64 ax0, .int .i64 ay0, .bool abt, .int .i64 adx, .int .i64 ady, .int .i64 ax1, .int .i64 ay1].toList ∧ (w'.rangeAt bz 0 #[.int .i64 zx0, .int .i64 zy0, .bool zbt, .int .i64 zdx, .int .i64 zdy, .int .i64 zx1, .int .i64 zy1].toList ∧ w'.rangeAt b1 0 #[.int .i64 wd, .int .i64 2, .int .i64 join].toList)) _ from ⟨hL.range (by (repeat (first | with_reducible exact At.here | with_reducible apply At.there))), hL.range (by (repeat (first | with_reducible exact At.here | with_reducible apply At.there))), hL.range (by (repeat (first | with_reducible exact At.here | with_reducible apply At.there)))⟩)
      refine wpH_begin (by kernel_rfl) (fun w' : World => w'.rangeAt ba 0 #[.int .i64 ax0, .int .i64 ay0, .bool abt, .int .i64 adx, .int .i64 ady, .int .i64 ax1, .int .i64 ay1].toList ∧ (w'.rangeAt bz 0 #[.int .i64 zx0, .int .i64 zy0, .bool zbt, .int .i64 zdx, .int .i64 zdy, .int .i64 zx1, .int .i64 zy1].toList ∧ w'.rangeAt b1 0 #[.int .i64 wd, .int .i64 2, .int .i64 join].toList)) ?_
      refine stH (i := 0) (.agg #[.int .i64 ax0, .int .i64 ay0, .bool abt, .int .i64 adx, .int .i64 ady, .int .i64 ax1, .int .i64 ay1]) hS ?_ ?_; (· exact fun w' hw => run_loadOp _ _ rfl _ rfl _ (load_range (cs := #[.int .i64 ax0, .int .i64 ay0, .bool abt, .int .i64 adx, .int .i64 ady, .int .i64 ax1, .int .i64 ay1]) rfl hw.1)); simp only [Act.put, List.setIfInBounds_toArray, List.set_cons_zero, List.set_cons_succ]
      refine stH (i := 1) (.int .i64 x) hS ?_ ?_; (· exact fun w' _ => (by go_simp)); simp only [Act.put, List.setIfInBounds_toArray, List.set_cons_zero, List.set_cons_succ]
      refine stH (i := 2) (.int .i64 y) hS ?_ ?_; (· exact fun w' _ => (by go_simp)); simp only [Act.put, List.setIfInBounds_toArray, List.set_cons_zero, List.set_cons_succ]
      refine stH (i := 4) (.pointer (some ⟨b1, 0, none⟩)) hS ?_ ?_; (· exact fun w' _ => (by go_simp)); simp only [Act.put, List.setIfInBounds_toArray, List.set_cons_zero, List.set_cons_succ]
      refine stH (i := 5) (.int .i64 wd) hS ?_ ?_; (· exact fun w' hw => run_loadOp _ _ rfl _ rfl _ (load_cell (hw.2.2 0 _ rfl))); simp only [Act.put, List.setIfInBounds_toArray, List.set_cons_zero, List.set_cons_succ]
      refine wpH_one (i := 3) (by kernel_rfl) (wpOp_of (by simp only [List.getElem?_toArray, List.getElem?_cons_zero, List.getElem?_cons_succ]; rfl) ?_)
      refine st_call rfl 74 #[.agg #[.int .i64 ax0, .int .i64 ay0, .bool abt, .int .i64 adx, .int .i64 ady, .int .i64 ax1, .int .i64 ay1], .int .i64 x, .int .i64 y] (by go_simp) (HAa.out _) ?_
      rintro e _ ⟨rfl, hb⟩
      replace hL := hL.call hb
      clear hb
      have hS := (show (fun w' : World => w'.rangeAt ba 0 #[.int .i64 ax0, .int .i64 ay0, .bool abt, .int .i64 adx, .int .i64 ady, .int .i64 ax1, .int .i64 ay1].toList ∧ (w'.rangeAt bz 0 #[.int .i64 zx0, .int .i64 zy0, .bool zbt, .int .i64 zdx, .int .i64 zdy, .int .i64 zx1, .int .i64 zy1].toList ∧ w'.rangeAt b1 0 #[.int .i64 wd, .int .i64 2, .int .i64 join].toList)) _ from ⟨hL.range (by (repeat (first | with_reducible exact At.here | with_reducible apply At.there))), hL.range (by (repeat (first | with_reducible exact At.here | with_reducible apply At.there))), hL.range (by (repeat (first | with_reducible exact At.here | with_reducible apply At.there)))⟩)
      refine ⟨_, rfl, hS, ?_⟩
      simp only [Act.put, List.setIfInBounds_toArray, List.set_cons_zero, List.set_cons_succ]
      refine wpH_one (i := 6) (by kernel_rfl) (wpOp_of (by simp only [List.getElem?_toArray, List.getElem?_cons_zero, List.getElem?_cons_succ]; rfl) ?_)
      refine st_call rfl 92 #[.agg #[.int .i64 U1, .int .i64 K1, .int .i64 L1], .int .i64 wd] (by go_simp) (HAh.out _) ?_
      rintro e _ ⟨rfl, hb⟩
      replace hL := hL.call hb
      clear hb
      have hS := (show (fun w' : World => w'.rangeAt ba 0 #[.int .i64 ax0, .int .i64 ay0, .bool abt, .int .i64 adx, .int .i64 ady, .int .i64 ax1, .int .i64 ay1].toList ∧ (w'.rangeAt bz 0 #[.int .i64 zx0, .int .i64 zy0, .bool zbt, .int .i64 zdx, .int .i64 zdy, .int .i64 zx1, .int .i64 zy1].toList ∧ w'.rangeAt b1 0 #[.int .i64 wd, .int .i64 2, .int .i64 join].toList)) _ from ⟨hL.range (by (repeat (first | with_reducible exact At.here | with_reducible apply At.there))), hL.range (by (repeat (first | with_reducible exact At.here | with_reducible apply At.there))), hL.range (by (repeat (first | with_reducible exact At.here | with_reducible apply At.there)))⟩)
      refine ⟨_, rfl, hS, ?_⟩
      simp only [Act.put, List.setIfInBounds_toArray, List.set_cons_zero, List.set_cons_succ]
      refine stH (i := 7) (.bool true) hS ?_ ?_; (· exact fun w' _ => (by go_simp)); simp only [Act.put, List.setIfInBounds_toArray, List.set_cons_zero, List.set_cons_succ]
      refine skH (i := 8) hS ?_
      simp only [Act.put, List.setIfInBounds_toArray, List.set_cons_zero, List.set_cons_succ]
      refine skH (i := 9) hS ?_
      simp only [Act.put, List.setIfInBounds_toArray, List.set_cons_zero, List.set_cons_succ]
      refine skH (i := 10) hS ?_
      simp only [Act.put, List.setIfInBounds_toArray, List.set_cons_zero, List.set_cons_succ]
      refine skH (i := 11) hS ?_
      simp only [Act.put, List.setIfInBounds_toArray, List.set_cons_zero, List.set_cons_succ]
      refine skH (i := 12) hS ?_
      simp only [Act.put, List.setIfInBounds_toArray, List.set_cons_zero, List.set_cons_succ]
      refine skH (i := 13) hS ?_
      simp only [Act.put, List.setIfInBounds_toArray, List.set_cons_zero, List.set_cons_succ]
      refine skH (i := 14) hS ?_
      simp only [Act.put, List.setIfInBounds_toArray, List.set_cons_zero, List.set_cons_succ]
      refine stH (i := 15) (.bool true) hS ?_ ?_; (· exact fun w' _ => (by go_simp)); simp only [Act.put, List.setIfInBounds_toArray, List.set_cons_zero, List.set_cons_succ]
      refine stH (i := 16) (.bool true) hS ?_ ?_; (· exact fun w' _ => (by go_simp)); simp only [Act.put, List.setIfInBounds_toArray, List.set_cons_zero, List.set_cons_succ]
      refine wpAnyH_done (by kernel_rfl) ?_ _
      clear hS
      go_wp2
      go_ret
      exact ⟨ret_bool (by rw [HR.out]; first | rfl | simp), hL.below⟩
end Go.Proofs.Ytfnolaoohmecbaa
