/- Package path: Edges: the walk. -/
import Derived.Test.YtneddfiohekhiaaCtr2
import Derived.Test.YtneddfiohekhiaaEdg
import Derived.Test.YtneddfiohekhiaaApd
namespace Go.Proofs.Ytneddfiohekhiaa
open Go.RowKit

def EdgesOut (l : List Edg) (w : World) (e : Ending) (w' : World) : Prop := ∃ v, e = .returned v ∧ Below w.heap.size w w' ∧ Fresh w w' (fun w => EdgesAt w v l)
theorem appendE {P : Program} {w0 w : World} {M : List Res} {Φ : List (World → Prop)} {K2 : Value → World → Prop} {t ty e bytes : Nat} {z v u : Value} [ht : SliceT P t e] [hi : ElemT P e 7 bytes z] {l : List Edg} (hs : EdgesAt w u l)
    (hL : Holds w0 w M Φ) {n : Nat} {xs : List Value} {f : Res → List Res}
    (h : ∀ v' w', Holds w0 w' (f (own w0.heap.size e 7 v' (n + l.length) (xs ++ (l.map edgeC).flatten))) Φ → K2 v' w')
    (hu : ∀ r', Upd M (own w0.heap.size e 7 v n xs) r' (f r') := by intro _; (repeat (first | with_reducible exact Upd.here | with_reducible apply Upd.there)))
    (hz : z.cells.size = 7 := by rfl) (h63 : n + l.length ≤ maxLen := by (unfold maxLen; omega)) (hbytes : (n + l.length) * bytes ≤ 140737488355328 := by omega) : AppendAt P t ty v u w K2 :=
  appendOld hs (edgeC_len l) (by intro x hx y hy; obtain ⟨e, _, rfl⟩ := List.mem_map.1 hx; unfold edgeC at hy; simp only [List.mem_cons, List.not_mem_nil, or_false] at hy; rcases hy with h | h | h | h | h | h | h <;> subst h <;> rfl) hL hu hz (by decide) (by rw [List.length_map]; exact h63) (by rw [List.length_map]; exact hbytes) (by intro v' w' h'; rw [List.length_map] at h'; exact h v' w' h')

set_option maxRecDepth 100000 in
set_option maxHeartbeats 1000000 in
theorem edges_calls (w : World) (v : Value) (l : List Sg) (hv : SegsAt w v l) : Calls Try.prog 25 #[v] w (EdgesOut (edgesS l) w) := by
  have Hv := Lib.hid hv
  obtain ⟨a, cap, rfl, hlc, hcm, hel⟩ := hv.parts
  clear hv hel
  unfold maxLen at hcm
  have hL := Holds.start w
  have HR := Lib.hid (show edgesS l = ((contoursS l).take (contoursS l).length).flatMap edgesC by rw [List.take_length]; rfl)
  have hW := contours_weight l
  have hC := contours_len l
  generalize edgesS l = L at *
  have Hc : ∀ w' : World, Below w.heap.size w w' → Calls Try.prog 48 #[.slice a l.length cap] w' (CtsOut (contoursS l) w') := fun w' hb => contours_calls w' _ l (SliceAt.below Hv.out hb)
  have HC := Lib.hid Hc
  clear Hc
  generalize contoursS l = cts at *
  have HW := Lib.hid hW
  clear hW
  go_enter Try.func25, Try.ntmps25
  go_wp2_with (first | (go_at_call 48; (with_reducible refine (HC.out _ hL.below).mono ?_); rintro e _ ⟨vc, vs, rfl, hvl, hb, hf⟩; obtain ⟨sa, sc, rfl⟩ : ∃ sa sc, vc = .slice sa cts.length sc := (by obtain ⟨h1, _⟩ := hf.now; obtain ⟨a, c, h, _⟩ := h1; refine ⟨a, c, ?_⟩; rw [h, List.length_zipWith, hvl, Nat.min_self]); replace hL := hL.callF hb hf; clear hb hf) | ((clear hL; with_reducible intro _ _ hL)) | (with_reducible refine wpC_alloc rfl _ rfl _ _ inferInstance hL ?_) | (with_reducible first | refine wpB_agg rfl _ _ _ rfl rfl hL ?_ | refine wpB_one rfl _ _ (.int _ _) rfl rfl rfl hL ?_ | refine wpB_one rfl _ _ (.slice _ _ _) rfl rfl rfl hL ?_ | refine wpB_one rfl _ _ (.bool _) rfl rfl rfl hL ?_ | refine wpB_one rfl _ _ (.pointer _) rfl rfl rfl hL ?_ | refine wpB_one rfl _ _ (.func _ _ _) rfl rfl rfl hL ?_) | (with_reducible first | refine wpH_max rfl _ _ _ _ rfl _ _ rfl rfl ?_ | refine wpH_min rfl _ _ _ _ rfl _ _ rfl rfl ?_) | ((with_reducible refine wpA_load rfl _ _ rfl _ rfl ?_); first | refine loadA hL ?_ | refine loadR hL ?_ | refine loadC hL ?_ | refine loadD ?_ | refine loadE hL ?_ | refine loadF ?_) | ((with_reducible refine wpA_index rfl _ _ _ rfl _ rfl _ rfl ?_); first | (refine indexA ?_; try rw [Int.toNat_natCast]) | refine indexC ?_) | ((with_reducible refine wpA_store rfl _ _ _ rfl _ rfl (.agg _) rfl ?_); refine storeR hL ?_; clear hL; intro _ hL) | ((with_reducible first | refine wpA_store rfl _ _ _ rfl _ rfl (.int _ _) rfl ?_ | refine wpA_store rfl _ _ _ rfl _ rfl (.slice _ _ _) rfl ?_ | refine wpA_store rfl _ _ _ rfl _ rfl (.bool _) rfl ?_ | refine wpA_store rfl _ _ _ rfl _ rfl (.pointer _) rfl ?_ | refine wpA_store rfl _ _ _ rfl _ rfl (.func _ _ _) rfl ?_); (first | refine storeA hL ?_ | refine storeO hL ?_); (clear hL; intro _ hL)) | ((with_reducible refine wpA_lit rfl _ _ _ rfl ?_); first | refine litA1 hL ?_ | refine litA2 hL ?_) | ((with_reducible refine wpA_append rfl _ _ _ rfl (.slice _ _ _) rfl ?_); intro vq hvq; simp [go_sem] at hvq; subst hvq; refine appendA hL ?_; clear hL; intro _ _ _ hL; try dsimp only at hL) | ((with_reducible refine wpA_make rfl _ _ _ rfl _ rfl rfl ?_); refine makeA hL ?_))
  go_loopw [3, 10] (fun s3 s10 wr => ∃ (k : Nat) (acc : List Edg), k ≤ cts.length ∧ s10 = .int .i64 k ∧ acc = (cts.take k).flatMap edgesC ∧ Holds w wr [own w.heap.size 47 7 s3 acc.length (acc.map edgeC).flatten] [fun w => CtsAt w (.slice sa cts.length sc) vs cts])
    (fun s3 s10 wr => cts.length - (intOf s10).toNat)
  case atStart => exact ⟨0, [], by omega, rfl, by simp, hL.newOwn⟩
  case round =>
    clear hL
    obtain ⟨k, acc, hk, rfl, hacc, hL⟩ := hrel
    by_cases hkt : k < cts.length
    · have hwt := Nat.le_trans (take_weight cts k hkt) HW.out
      rw [← hacc] at hwt
      have hnext := take_flat cts k hkt
      rw [← hacc] at hnext
      have hget : ∃ bx ox u, sa = some ⟨bx, ox, none⟩ ∧ vs[k]? = some u ∧ wr.rangeAt bx (ox + k * 4) (ctC u (cts.getD k default)) := by
        obtain ⟨⟨a', c', he, _, _, h5⟩, _⟩ := hL.fact0
        injection he with he _ _
        subst he
        have hzl : (List.zipWith ctC vs cts).length = cts.length := by rw [List.length_zipWith, hvl, Nat.min_self]
        obtain ⟨bx, ox, e, hr⟩ := h5 k (by omega)
        obtain ⟨u, hu, hz⟩ := zip_get vs cts hvl k hkt
        rw [hz (by omega)] at hr
        exact ⟨bx, ox, u, e, hu, hr⟩
      obtain ⟨bx, ox, u, rfl, hu, hc⟩ := hget
      have hkb : (k : Int) < (cts.length : Int) := by omega
      replace hL := (hL.dup).map (χ := fun w => EdgesAt w u (cts.getD k default).edges) fun w h => h.2 k u hu
      have HN := Lib.hid hnext
      have HACC := Lib.hid hacc
      clear hnext hu hacc
      generalize cts.getD k default = c at *
      obtain ⟨cx, cy, ces, csh⟩ := c
      unfold ctC at hc
      unfold ctW at hwt
      dsimp only at hc hwt hL
      by_cases h0 : ces.length = 0
      · have HE := Lib.hid (edgesC_nil (c := ⟨cx, cy, ces, csh⟩) h0)
        obtain ⟨ea, ec, rfl, _⟩ := EdgesAt.parts hL.fact0
        rw [h0] at hL hc
        have n1 : True := trivial; have n2 : True := trivial; have n3 : True := trivial
        go_wp2_with (first | (first | (clear hL n1; with_reducible intro b1 w1 hL) | (clear hL n2; with_reducible intro b2 w2 hL) | (clear hL n3; with_reducible intro b3 w3 hL) | (clear hL; with_reducible intro _ _ hL)) | (with_reducible refine wpC_alloc rfl _ rfl _ _ inferInstance hL ?_) | (with_reducible first | refine wpB_agg rfl _ _ _ rfl rfl hL ?_ | refine wpB_one rfl _ _ (.int _ _) rfl rfl rfl hL ?_ | refine wpB_one rfl _ _ (.slice _ _ _) rfl rfl rfl hL ?_ | refine wpB_one rfl _ _ (.bool _) rfl rfl rfl hL ?_ | refine wpB_one rfl _ _ (.pointer _) rfl rfl rfl hL ?_ | refine wpB_one rfl _ _ (.func _ _ _) rfl rfl rfl hL ?_) | (with_reducible first | refine wpH_max rfl _ _ _ _ rfl _ _ rfl rfl ?_ | refine wpH_min rfl _ _ _ _ rfl _ _ rfl rfl ?_) | ((with_reducible refine wpA_load rfl _ _ rfl _ rfl ?_); first | refine loadA hL ?_ | refine loadR hL ?_ | refine loadC hL ?_ | refine loadD ?_ | refine loadE hL ?_ | refine loadF ?_) | ((with_reducible refine wpA_index rfl _ _ _ rfl _ rfl _ rfl ?_); first | (refine indexA ?_; try rw [Int.toNat_natCast]) | refine indexC ?_) | ((with_reducible refine wpA_store rfl _ _ _ rfl _ rfl (.agg _) rfl ?_); refine storeR hL ?_; clear hL; intro _ hL) | ((with_reducible first | refine wpA_store rfl _ _ _ rfl _ rfl (.int _ _) rfl ?_ | refine wpA_store rfl _ _ _ rfl _ rfl (.slice _ _ _) rfl ?_ | refine wpA_store rfl _ _ _ rfl _ rfl (.bool _) rfl ?_ | refine wpA_store rfl _ _ _ rfl _ rfl (.pointer _) rfl ?_ | refine wpA_store rfl _ _ _ rfl _ rfl (.func _ _ _) rfl ?_); (first | refine storeA hL ?_ | refine storeO hL ?_); (clear hL; intro _ hL)) | ((with_reducible refine wpA_lit rfl _ _ _ rfl ?_); first | refine litA1 hL ?_ | refine litA2 hL ?_) | ((with_reducible refine wpA_append rfl _ _ _ rfl (.slice _ _ _) rfl ?_); intro vq hvq; simp [go_sem] at hvq; subst hvq; refine appendA hL ?_; clear hL; intro _ _ _ hL; try dsimp only at hL) | ((with_reducible refine wpA_make rfl _ _ _ rfl _ rfl rfl ?_); refine makeA hL ?_))
        go_roundw
        case rel => exact ⟨k + 1, acc, by omega, by go_num, by rw [HN.out, HE.out, List.append_nil], (hL.forget).drop .here⟩
        case measure => simp [intOf]; omega
      · obtain ⟨m, hm⟩ : ∃ m, ces.length = m + 1 := ⟨ces.length - 1, by omega⟩
        obtain ⟨ea, ec, rfl, hec1, hec2, hel⟩ := EdgesAt.parts hL.fact0
        obtain ⟨be, oe, rfl, _⟩ := hel m (by omega)
        clear hel
        unfold maxLen at hec2
        have HEd := Lib.hid (show endE ⟨cx, cy, ces, csh⟩ = ces.getD m default by unfold endE; rw [hm]; rfl)
        replace hL := (hL.dup).map (χ := fun w => w.rangeAt be (oe + m * 7) (edgeC (ces.getD m default))) fun w h => by
          obtain ⟨a', c', he, _, _, h5⟩ := EdgesAt.parts h
          cases he
          obtain ⟨b', o', e, hr⟩ := h5 m (by omega)
          cases e
          exact hr
        have hcs : (((endE ⟨cx, cy, ces, csh⟩).x1 = cx ∧ (endE ⟨cx, cy, ces, csh⟩).y1 = cy) ∧ edgesC ⟨cx, cy, ces, csh⟩ = ces) ∨ (¬ (endE ⟨cx, cy, ces, csh⟩).x1 = cx ∧ edgesC ⟨cx, cy, ces, csh⟩ = ces ++ [⟨(endE ⟨cx, cy, ces, csh⟩).x1, (endE ⟨cx, cy, ces, csh⟩).y1, false, 0, 0, cx, cy⟩]) ∨ (((endE ⟨cx, cy, ces, csh⟩).x1 = cx ∧ ¬ (endE ⟨cx, cy, ces, csh⟩).y1 = cy) ∧ edgesC ⟨cx, cy, ces, csh⟩ = ces ++ [⟨(endE ⟨cx, cy, ces, csh⟩).x1, (endE ⟨cx, cy, ces, csh⟩).y1, false, 0, 0, cx, cy⟩]) := by
          by_cases h1 : (endE ⟨cx, cy, ces, csh⟩).x1 = cx
          · by_cases h2 : (endE ⟨cx, cy, ces, csh⟩).y1 = cy
            · exact .inl ⟨⟨h1, h2⟩, edgesC_shut h0 ⟨h1, h2⟩⟩
            · exact .inr (.inr ⟨⟨h1, h2⟩, edgesC_open h0 (fun h => h2 h.2)⟩)
          · exact .inr (.inl ⟨h1, edgesC_open h0 (fun h => h1 h.1)⟩)
        rw [HEd.out] at hcs
        clear HEd
        generalize edgesC ⟨cx, cy, ces, csh⟩ = NE at *
        generalize ces.getD m default = ed at *
        obtain ⟨ex0, ey0, eb, ecx, ecy, ex1, ey1⟩ := ed
        unfold edgeC at hL
        dsimp only at hL hcs
        rw [hm] at hc
        have hL : Holds w wr [own w.heap.size 47 7 u3 acc.length (acc.map edgeC).flatten] [fun w => w.rangeAt be (oe + m * 7) [.int .i64 ex0, .int .i64 ey0, .bool eb, .int .i64 ecx, .int .i64 ecy, .int .i64 ex1, .int .i64 ey1], fun w => EdgesAt w (.slice (some ⟨be, oe, none⟩) (m + 1) ec) ces, fun w => CtsAt w (.slice (some ⟨bx, ox, none⟩) cts.length sc) vs cts] := by rw [hm] at hL; exact hL
        obtain ⟨g3, c3, rfl⟩ := own_slice hL .here
        have hm1 : ces.length ≤ m + 1 := by omega
        have hm2 : m + 1 ≤ ces.length := by omega
        have HM := Lib.hid hm
        clear hm
        rcases hcs with ⟨⟨hx, hy⟩, hE⟩ | ⟨hx, hE⟩ | ⟨⟨hx, hy⟩, hE⟩
        · subst hx; subst hy
          have HE := Lib.hid hE
          clear hE
          have n1 : True := trivial; have n2 : True := trivial; have n3 : True := trivial
          go_wp2_with (first | ((with_reducible refine wpA_append rfl _ _ _ rfl (.slice _ _ _) rfl ?_); intro vq hvq; simp [go_sem] at hvq; subst hvq; refine appendE hL.fact1 hL ?_; clear hL; intro ve2 _ hL) | ((with_reducible refine wpA_load rfl _ _ rfl _ rfl ?_); (with_reducible refine loadG hL ?_ ?_); (· rfl)) | (first | (clear hL n1; with_reducible intro b1 w1 hL) | (clear hL n2; with_reducible intro b2 w2 hL) | (clear hL n3; with_reducible intro b3 w3 hL) | (clear hL; with_reducible intro _ _ hL)) | (with_reducible refine wpC_alloc rfl _ rfl _ _ inferInstance hL ?_) | (with_reducible first | refine wpB_agg rfl _ _ _ rfl rfl hL ?_ | refine wpB_one rfl _ _ (.int _ _) rfl rfl rfl hL ?_ | refine wpB_one rfl _ _ (.slice _ _ _) rfl rfl rfl hL ?_ | refine wpB_one rfl _ _ (.bool _) rfl rfl rfl hL ?_ | refine wpB_one rfl _ _ (.pointer _) rfl rfl rfl hL ?_ | refine wpB_one rfl _ _ (.func _ _ _) rfl rfl rfl hL ?_) | (with_reducible first | refine wpH_max rfl _ _ _ _ rfl _ _ rfl rfl ?_ | refine wpH_min rfl _ _ _ _ rfl _ _ rfl rfl ?_) | ((with_reducible refine wpA_load rfl _ _ rfl _ rfl ?_); first | refine loadA hL ?_ | refine loadR hL ?_ | refine loadC hL ?_ | refine loadD ?_ | refine loadE hL ?_ | refine loadF ?_) | ((with_reducible refine wpA_index rfl _ _ _ rfl _ rfl _ rfl ?_); first | (refine indexA ?_; try rw [Int.toNat_natCast]) | refine indexC ?_) | ((with_reducible refine wpA_store rfl _ _ _ rfl _ rfl (.agg _) rfl ?_); refine storeR hL ?_; clear hL; intro _ hL) | ((with_reducible first | refine wpA_store rfl _ _ _ rfl _ rfl (.int _ _) rfl ?_ | refine wpA_store rfl _ _ _ rfl _ rfl (.slice _ _ _) rfl ?_ | refine wpA_store rfl _ _ _ rfl _ rfl (.bool _) rfl ?_ | refine wpA_store rfl _ _ _ rfl _ rfl (.pointer _) rfl ?_ | refine wpA_store rfl _ _ _ rfl _ rfl (.func _ _ _) rfl ?_); (first | refine storeA hL ?_ | refine storeO hL ?_); (clear hL; intro _ hL)) | ((with_reducible refine wpA_lit rfl _ _ _ rfl ?_); first | refine litA1 hL ?_ | refine litA2 hL ?_) | ((with_reducible refine wpA_append rfl _ _ _ rfl (.slice _ _ _) rfl ?_); intro vq hvq; simp [go_sem] at hvq; subst hvq; refine appendA hL ?_; clear hL; intro _ _ _ hL; try dsimp only at hL) | ((with_reducible refine wpA_make rfl _ _ _ rfl _ rfl rfl ?_); refine makeA hL ?_))
          go_roundw
          case rel =>
            refine ⟨k + 1, acc ++ ces, by omega, by go_num, by rw [HN.out, HE.out], ?_⟩
            rw [List.length_append, List.map_append, List.flatten_append]
            exact (((hL.drop .here).drop .here).forget).forget
          case measure => simp [intOf]; omega
        · have HE := Lib.hid hE
          clear hE
          have n1 : True := trivial; have n2 : True := trivial; have n3 : True := trivial
          go_wp2_with (first | ((with_reducible refine wpA_append rfl _ _ _ rfl (.slice _ _ _) rfl ?_); intro vq hvq; simp [go_sem] at hvq; subst hvq; refine appendE hL.fact1 hL ?_; clear hL; intro ve2 _ hL) | ((with_reducible refine wpA_load rfl _ _ rfl _ rfl ?_); (with_reducible refine loadG hL ?_ ?_); (· rfl)) | (first | (clear hL n1; with_reducible intro b1 w1 hL) | (clear hL n2; with_reducible intro b2 w2 hL) | (clear hL n3; with_reducible intro b3 w3 hL) | (clear hL; with_reducible intro _ _ hL)) | (with_reducible refine wpC_alloc rfl _ rfl _ _ inferInstance hL ?_) | (with_reducible first | refine wpB_agg rfl _ _ _ rfl rfl hL ?_ | refine wpB_one rfl _ _ (.int _ _) rfl rfl rfl hL ?_ | refine wpB_one rfl _ _ (.slice _ _ _) rfl rfl rfl hL ?_ | refine wpB_one rfl _ _ (.bool _) rfl rfl rfl hL ?_ | refine wpB_one rfl _ _ (.pointer _) rfl rfl rfl hL ?_ | refine wpB_one rfl _ _ (.func _ _ _) rfl rfl rfl hL ?_) | (with_reducible first | refine wpH_max rfl _ _ _ _ rfl _ _ rfl rfl ?_ | refine wpH_min rfl _ _ _ _ rfl _ _ rfl rfl ?_) | ((with_reducible refine wpA_load rfl _ _ rfl _ rfl ?_); first | refine loadA hL ?_ | refine loadR hL ?_ | refine loadC hL ?_ | refine loadD ?_ | refine loadE hL ?_ | refine loadF ?_) | ((with_reducible refine wpA_index rfl _ _ _ rfl _ rfl _ rfl ?_); first | (refine indexA ?_; try rw [Int.toNat_natCast]) | refine indexC ?_) | ((with_reducible refine wpA_store rfl _ _ _ rfl _ rfl (.agg _) rfl ?_); refine storeR hL ?_; clear hL; intro _ hL) | ((with_reducible first | refine wpA_store rfl _ _ _ rfl _ rfl (.int _ _) rfl ?_ | refine wpA_store rfl _ _ _ rfl _ rfl (.slice _ _ _) rfl ?_ | refine wpA_store rfl _ _ _ rfl _ rfl (.bool _) rfl ?_ | refine wpA_store rfl _ _ _ rfl _ rfl (.pointer _) rfl ?_ | refine wpA_store rfl _ _ _ rfl _ rfl (.func _ _ _) rfl ?_); (first | refine storeA hL ?_ | refine storeO hL ?_); (clear hL; intro _ hL)) | ((with_reducible refine wpA_lit rfl _ _ _ rfl ?_); first | refine litA1 hL ?_ | refine litA2 hL ?_) | ((with_reducible refine wpA_append rfl _ _ _ rfl (.slice _ _ _) rfl ?_); intro vq hvq; simp [go_sem] at hvq; subst hvq; refine appendA hL ?_; clear hL; intro _ _ _ hL; try dsimp only at hL) | ((with_reducible refine wpA_make rfl _ _ _ rfl _ rfl rfl ?_); refine makeA hL ?_))
          go_roundw
          case rel =>
            refine ⟨k + 1, acc ++ (ces ++ [⟨ex1, ey1, false, 0, 0, cx, cy⟩]), by omega, by go_num, by rw [HN.out, HE.out], ?_⟩
            have hL2 := (((hL.drop .here).drop .here).forget).forget
            rw [List.length_append, List.length_append, List.map_append, List.flatten_append, List.map_append, List.flatten_append, ← List.append_assoc, ← Nat.add_assoc]
            exact hL2
          case measure => simp [intOf]; omega
        · subst hx
          have HE := Lib.hid hE
          clear hE
          have n1 : True := trivial; have n2 : True := trivial; have n3 : True := trivial
          go_wp2_with (first | ((with_reducible refine wpA_append rfl _ _ _ rfl (.slice _ _ _) rfl ?_); intro vq hvq; simp [go_sem] at hvq; subst hvq; refine appendE hL.fact1 hL ?_; clear hL; intro ve2 _ hL) | ((with_reducible refine wpA_load rfl _ _ rfl _ rfl ?_); (with_reducible refine loadG hL ?_ ?_); (· rfl)) | (first | (clear hL n1; with_reducible intro b1 w1 hL) | (clear hL n2; with_reducible intro b2 w2 hL) | (clear hL n3; with_reducible intro b3 w3 hL) | (clear hL; with_reducible intro _ _ hL)) | (with_reducible refine wpC_alloc rfl _ rfl _ _ inferInstance hL ?_) | (with_reducible first | refine wpB_agg rfl _ _ _ rfl rfl hL ?_ | refine wpB_one rfl _ _ (.int _ _) rfl rfl rfl hL ?_ | refine wpB_one rfl _ _ (.slice _ _ _) rfl rfl rfl hL ?_ | refine wpB_one rfl _ _ (.bool _) rfl rfl rfl hL ?_ | refine wpB_one rfl _ _ (.pointer _) rfl rfl rfl hL ?_ | refine wpB_one rfl _ _ (.func _ _ _) rfl rfl rfl hL ?_) | (with_reducible first | refine wpH_max rfl _ _ _ _ rfl _ _ rfl rfl ?_ | refine wpH_min rfl _ _ _ _ rfl _ _ rfl rfl ?_) | ((with_reducible refine wpA_load rfl _ _ rfl _ rfl ?_); first | refine loadA hL ?_ | refine loadR hL ?_ | refine loadC hL ?_ | refine loadD ?_ | refine loadE hL ?_ | refine loadF ?_) | ((with_reducible refine wpA_index rfl _ _ _ rfl _ rfl _ rfl ?_); first | (refine indexA ?_; try rw [Int.toNat_natCast]) | refine indexC ?_) | ((with_reducible refine wpA_store rfl _ _ _ rfl _ rfl (.agg _) rfl ?_); refine storeR hL ?_; clear hL; intro _ hL) | ((with_reducible first | refine wpA_store rfl _ _ _ rfl _ rfl (.int _ _) rfl ?_ | refine wpA_store rfl _ _ _ rfl _ rfl (.slice _ _ _) rfl ?_ | refine wpA_store rfl _ _ _ rfl _ rfl (.bool _) rfl ?_ | refine wpA_store rfl _ _ _ rfl _ rfl (.pointer _) rfl ?_ | refine wpA_store rfl _ _ _ rfl _ rfl (.func _ _ _) rfl ?_); (first | refine storeA hL ?_ | refine storeO hL ?_); (clear hL; intro _ hL)) | ((with_reducible refine wpA_lit rfl _ _ _ rfl ?_); first | refine litA1 hL ?_ | refine litA2 hL ?_) | ((with_reducible refine wpA_append rfl _ _ _ rfl (.slice _ _ _) rfl ?_); intro vq hvq; simp [go_sem] at hvq; subst hvq; refine appendA hL ?_; clear hL; intro _ _ _ hL; try dsimp only at hL) | ((with_reducible refine wpA_make rfl _ _ _ rfl _ rfl rfl ?_); refine makeA hL ?_))
          go_roundw
          case rel =>
            refine ⟨k + 1, acc ++ (ces ++ [⟨ex1, ey1, false, 0, 0, ex1, cy⟩]), by omega, by go_num, by rw [HN.out, HE.out], ?_⟩
            have hL2 := (((hL.drop .here).drop .here).forget).forget
            rw [List.length_append, List.length_append, List.map_append, List.flatten_append, List.map_append, List.flatten_append, ← List.append_assoc, ← Nat.add_assoc]
            exact hL2
          case measure => simp [intOf]; omega
    · have e : k = cts.length := by omega
      subst e
      have HA := Lib.hid (show L = acc by rw [hacc, HR.out])
      clear hacc
      obtain ⟨g, oc, rfl⟩ := own_slice hL .here
      have n1 : True := trivial; have n2 : True := trivial; have n3 : True := trivial
      go_wp2_with (first | (first | (clear hL n1; with_reducible intro b1 w1 hL) | (clear hL n2; with_reducible intro b2 w2 hL) | (clear hL n3; with_reducible intro b3 w3 hL) | (clear hL; with_reducible intro _ _ hL)) | (with_reducible refine wpC_alloc rfl _ rfl _ _ inferInstance hL ?_) | (with_reducible first | refine wpB_agg rfl _ _ _ rfl rfl hL ?_ | refine wpB_one rfl _ _ (.int _ _) rfl rfl rfl hL ?_ | refine wpB_one rfl _ _ (.slice _ _ _) rfl rfl rfl hL ?_ | refine wpB_one rfl _ _ (.bool _) rfl rfl rfl hL ?_ | refine wpB_one rfl _ _ (.pointer _) rfl rfl rfl hL ?_ | refine wpB_one rfl _ _ (.func _ _ _) rfl rfl rfl hL ?_) | (with_reducible first | refine wpH_max rfl _ _ _ _ rfl _ _ rfl rfl ?_ | refine wpH_min rfl _ _ _ _ rfl _ _ rfl rfl ?_) | ((with_reducible refine wpA_load rfl _ _ rfl _ rfl ?_); first | refine loadA hL ?_ | refine loadR hL ?_ | refine loadC hL ?_ | refine loadD ?_ | refine loadE hL ?_ | refine loadF ?_) | ((with_reducible refine wpA_index rfl _ _ _ rfl _ rfl _ rfl ?_); first | (refine indexA ?_; try rw [Int.toNat_natCast]) | refine indexC ?_) | ((with_reducible refine wpA_store rfl _ _ _ rfl _ rfl (.agg _) rfl ?_); refine storeR hL ?_; clear hL; intro _ hL) | ((with_reducible first | refine wpA_store rfl _ _ _ rfl _ rfl (.int _ _) rfl ?_ | refine wpA_store rfl _ _ _ rfl _ rfl (.slice _ _ _) rfl ?_ | refine wpA_store rfl _ _ _ rfl _ rfl (.bool _) rfl ?_ | refine wpA_store rfl _ _ _ rfl _ rfl (.pointer _) rfl ?_ | refine wpA_store rfl _ _ _ rfl _ rfl (.func _ _ _) rfl ?_); (first | refine storeA hL ?_ | refine storeO hL ?_); (clear hL; intro _ hL)) | ((with_reducible refine wpA_lit rfl _ _ _ rfl ?_); first | refine litA1 hL ?_ | refine litA2 hL ?_) | ((with_reducible refine wpA_append rfl _ _ _ rfl (.slice _ _ _) rfl ?_); intro vq hvq; simp [go_sem] at hvq; subst hvq; refine appendA hL ?_; clear hL; intro _ _ _ hL; try dsimp only at hL) | ((with_reducible refine wpA_make rfl _ _ _ rfl _ rfl rfl ?_); refine makeA hL ?_))
      go_ret
      rw [HA.out]
      exact ⟨_, rfl, hL.below, (hL.settle .here (φ := fun w => EdgesAt w (.slice g acc.length oc) acc) fun w h => own_sliceAt h (by rw [List.length_map]) rfl (edgeC_len _)).fresh⟩
end Go.Proofs.Ytneddfiohekhiaa
