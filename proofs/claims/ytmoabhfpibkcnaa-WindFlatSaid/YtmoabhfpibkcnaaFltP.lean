/- Package flat: Path: the walk. -/
import Derived.Test.YtmoabhfpibkcnaaFltC
-- lit6
namespace Go.Proofs.Ytmoabhfpibkcnaa
open Go.RowKit

def FlatOut (l : List Sg) (w : World) (e : Ending) (w' : World) : Prop :=
  (300 < l.length ∧ e = .returned (.tuple #[.slice none 0 0, .int .i64 5]) ∧ Below w.heap.size w w') ∨
  (l.length ≤ 300 ∧ ∃ v, e = .returned (.tuple #[v, .int .i64 0]) ∧ Below w.heap.size w w' ∧ Fresh w w' (fun w => SegsAt w v l))
def lineG (e : Edg) : Sg := ⟨2, e.x1, e.y1, 0, 0⟩
theorem linesOf_map : ∀ (l : List (Int × Int)) (a b : Int), (linesOf a b l).map lineG = l.map lineS
  | [], _, _ => rfl
  | (c, d) :: r, a, b => by
    rw [linesOf, List.map_cons, List.map_cons, linesOf_map r]; rfl
theorem flatE_len (e : Edg) : (flatE (cntE e) e).length ≤ 256 := by
  have hlin : ∀ (l : List (Int × Int)) (a b : Int), (linesOf a b l).length = l.length := by
    intro l
    induction l with
    | nil => intro a b; rfl
    | cons p l ih => intro a b; obtain ⟨c, d⟩ := p; rw [linesOf, List.length_cons, ih, List.length_cons]
  have := (cntE_bd e).2
  unfold flatE
  split
  · rw [hlin]; unfold flatPts; simpa using this
  · simp
theorem flat_step (x y : Int) (s : Sg) (r : List Sg) : flatS cntE x y (s :: r) = (if s.kind = 3 then (flatE (cntE (segE x y s)) (segE x y s)).map lineG else [s]) ++ flatS cntE s.x s.y r := by
  rw [flatS]
  congr 1
  by_cases h : s.kind = 3
  · rw [if_pos h, if_pos h]
    unfold flatE
    rw [if_pos (by unfold segE; simp [h]), linesOf_map]
  · rw [if_neg h, if_neg h]
set_option maxRecDepth 100000 in
set_option maxHeartbeats 8000000 in
theorem flatPath_calls (w : World) (v : Value) (l : List Sg) (hv : SegsAt w v l) (hm : pathMay l = true) : Calls Try.prog 29 #[v] w (FlatOut (flatS cntE 0 0 l) w) := by
  have Hv := Lib.hid hv
  obtain ⟨a, cap, rfl, hlc, hcm, hel⟩ := hv.parts
  clear hv
  unfold maxLen at hcm
  have Hel := Lib.hid hel; clear hel
  have hL := Holds.start w
  have hmm : l.length ≤ 300 ∧ maySF 0 l = true := by simpa [pathMay] using hm
  obtain ⟨hl300, hms⟩ := hmm
  have HM := Lib.hid hm; clear hm
  have HF0 := Lib.hid (show flatS cntE 0 0 l = [] ++ flatS cntE 0 0 (l.drop 0) from rfl)
  have HMS := Lib.hid (show maySF 0 (l.drop 0) = true from hms)
  clear hms
  generalize flatS cntE 0 0 l = R at *
  go_enter Try.func29, Try.ntmps29
  go_wp2_with (first | (go_at_call 36; (with_reducible refine (pathMay_calls _ _ l (Hv.out.hold hL)).mono ?_); rintro e _ ⟨rfl, hb⟩; rw [HM.out]; replace hL := hL.call hb; clear hb) | ((clear hL; with_reducible intro _ _ hL)) | (with_reducible refine wpC_alloc rfl _ rfl _ _ inferInstance hL ?_) | (with_reducible first | refine wpB_agg rfl _ _ _ rfl rfl hL ?_ | refine wpB_one rfl _ _ (.int _ _) rfl rfl rfl hL ?_ | refine wpB_one rfl _ _ (.slice _ _ _) rfl rfl rfl hL ?_ | refine wpB_one rfl _ _ (.bool _) rfl rfl rfl hL ?_ | refine wpB_one rfl _ _ (.pointer _) rfl rfl rfl hL ?_ | refine wpB_one rfl _ _ (.func _ _ _) rfl rfl rfl hL ?_) | (with_reducible first | refine wpH_max rfl _ _ _ _ rfl _ _ rfl rfl ?_ | refine wpH_min rfl _ _ _ _ rfl _ _ rfl rfl ?_) | ((with_reducible refine wpA_load rfl _ _ rfl _ rfl ?_); first | refine loadA hL ?_ | refine loadR hL ?_ | refine loadC hL ?_ | refine loadD ?_ | refine loadE hL ?_ | refine loadF ?_) | ((with_reducible refine wpA_index rfl _ _ _ rfl _ rfl _ rfl ?_); first | (refine indexA ?_; try rw [Int.toNat_natCast]) | refine indexC ?_) | ((with_reducible refine wpA_store rfl _ _ _ rfl _ rfl (.agg _) rfl ?_); refine storeR hL ?_; clear hL; intro _ hL) | ((with_reducible first | refine wpA_store rfl _ _ _ rfl _ rfl (.int _ _) rfl ?_ | refine wpA_store rfl _ _ _ rfl _ rfl (.slice _ _ _) rfl ?_ | refine wpA_store rfl _ _ _ rfl _ rfl (.bool _) rfl ?_ | refine wpA_store rfl _ _ _ rfl _ rfl (.pointer _) rfl ?_ | refine wpA_store rfl _ _ _ rfl _ rfl (.func _ _ _) rfl ?_); (first | refine storeA hL ?_ | refine storeO hL ?_); (clear hL; intro _ hL)) | ((with_reducible refine wpA_lit rfl _ _ _ rfl ?_); first | refine litA1 hL ?_ | refine litA2 hL ?_ | refine litA3 hL ?_ | refine litA4 hL ?_ | refine litA6 hL ?_) | ((with_reducible refine wpA_append rfl _ _ _ rfl (.slice _ _ _) rfl ?_); intro vq hvq; simp [go_sem] at hvq; subst hvq; refine appendA hL ?_; clear hL; intro _ _ _ hL; try dsimp only at hL) | ((with_reducible refine wpA_make rfl _ _ _ rfl _ rfl rfl ?_); refine makeA hL ?_))
  go_loopw [4, 5, 6, 16] (fun s4 s5 s6 s16 wr => ∃ (k : Nat) (acc : List Sg) (x y kd : Int), k ≤ l.length ∧ s16 = .int .i64 k ∧ s5 = .int .i64 x ∧ s6 = .int .i64 y ∧ acc.length ≤ 300 ∧ (near1 x = true ∧ near1 y = true) ∧ R = acc ++ flatS cntE x y (l.drop k) ∧ maySF kd (l.drop k) = true ∧ Holds w wr [own w.heap.size 67 5 s4 acc.length (acc.map segC).flatten] [])
    (fun s4 s5 s6 s16 wr => l.length - (intOf s16).toNat)
  case atStart => exact ⟨0, [], 0, 0, 0, by omega, rfl, rfl, rfl, by simp, by decide, HF0.out, HMS.out, hL.newOwn⟩
  case round =>
    clear hL
    obtain ⟨k, acc, x, y, kd, hk, rfl, rfl, rfl, hacc, ⟨hnx, hny⟩, hRk, hmk, hL⟩ := hrel
    obtain ⟨ga, gc, rfl⟩ := own_slice hL .here
    by_cases hkt : k < l.length
    · obtain ⟨b, o, rfl, hc⟩ := Hel.out k hkt
      have hkb : (k : Int) < (l.length : Int) := by omega
      have hdrop : l.drop k = l.getD k default :: l.drop (k + 1) := by rw [List.drop_eq_getElem_cons hkt]; simp [hkt]
      rw [hdrop] at hRk hmk
      clear hdrop
      generalize l.getD k default = s at *
      rw [flat_step, ← List.append_assoc] at hRk
      rw [maySF, Bool.and_eq_true] at hmk
      obtain ⟨hr, hmk⟩ := hmk
      obtain ⟨n1, n2, n3, n4⟩ := right_near hr
      obtain ⟨kind, sx, sy, scx, scy⟩ := s
      unfold segC at hc
      dsimp only at hRk hmk n1 n2 n3 n4 hc
      have HMK := Lib.hid hmk
      have HN12 := Lib.hid (And.intro n1 n2)
      clear hmk hr
      by_cases h3 : kind = 3
      · subst h3
        rw [if_pos rfl, show segE x y ⟨3, sx, sy, scx, scy⟩ = ⟨x, y, true, scx, scy, sx, sy⟩ from rfl] at hRk
        have HE := Lib.hid (fun w => flatEdges_calls ⟨x, y, true, scx, scy, sx, sy⟩ (by unfold mayE; simp only [hnx, hny, n1, n2, n3, n4, Bool.true_and, Bool.true_or]) w)
        have hEl := flatE_len ⟨x, y, true, scx, scy, sx, sy⟩
        generalize flatE (cntE ⟨x, y, true, scx, scy, sx, sy⟩) ⟨x, y, true, scx, scy, sx, sy⟩ = E at *
        have HRK := Lib.hid hRk
        unfold edgeV at HE
        dsimp only at HE
        clear hRk hnx hny n1 n2 n3 n4
        have n1 : True := trivial; have n2 : True := trivial; have n3 : True := trivial
        clear n2 n3
        go_wp2_with (first | (go_at_call 40; (with_reducible refine (HE.out _).mono ?_); rintro e _ ⟨ve, rfl, hb, hf⟩; obtain ⟨ea, ec, rfl, _⟩ := EdgesAt.parts hf.now; replace hL := hL.callF hb hf; clear hb hf) | (first | (clear hL n1; with_reducible intro b1 w1 hL) | (clear hL n2; with_reducible intro b2 w2 hL) | (clear hL n3; with_reducible intro b3 w3 hL) | (clear hL; with_reducible intro _ _ hL)) | (with_reducible refine wpC_alloc rfl _ rfl _ _ inferInstance hL ?_) | (with_reducible first | refine wpB_agg rfl _ _ _ rfl rfl hL ?_ | refine wpB_one rfl _ _ (.int _ _) rfl rfl rfl hL ?_ | refine wpB_one rfl _ _ (.slice _ _ _) rfl rfl rfl hL ?_ | refine wpB_one rfl _ _ (.bool _) rfl rfl rfl hL ?_ | refine wpB_one rfl _ _ (.pointer _) rfl rfl rfl hL ?_ | refine wpB_one rfl _ _ (.func _ _ _) rfl rfl rfl hL ?_) | (with_reducible first | refine wpH_max rfl _ _ _ _ rfl _ _ rfl rfl ?_ | refine wpH_min rfl _ _ _ _ rfl _ _ rfl rfl ?_) | ((with_reducible refine wpA_load rfl _ _ rfl _ rfl ?_); first | refine loadA hL ?_ | refine loadR hL ?_ | refine loadC hL ?_ | refine loadD ?_ | refine loadE hL ?_ | refine loadF ?_) | ((with_reducible refine wpA_index rfl _ _ _ rfl _ rfl _ rfl ?_); first | (refine indexA ?_; try rw [Int.toNat_natCast]) | refine indexC ?_) | ((with_reducible refine wpA_store rfl _ _ _ rfl _ rfl (.agg _) rfl ?_); refine storeR hL ?_; clear hL; intro _ hL) | ((with_reducible first | refine wpA_store rfl _ _ _ rfl _ rfl (.int _ _) rfl ?_ | refine wpA_store rfl _ _ _ rfl _ rfl (.slice _ _ _) rfl ?_ | refine wpA_store rfl _ _ _ rfl _ rfl (.bool _) rfl ?_ | refine wpA_store rfl _ _ _ rfl _ rfl (.pointer _) rfl ?_ | refine wpA_store rfl _ _ _ rfl _ rfl (.func _ _ _) rfl ?_); (first | refine storeA hL ?_ | refine storeO hL ?_); (clear hL; intro _ hL)) | ((with_reducible refine wpA_lit rfl _ _ _ rfl ?_); first | refine litA1 hL ?_ | refine litA2 hL ?_ | refine litA3 hL ?_ | refine litA4 hL ?_ | refine litA6 hL ?_) | ((with_reducible refine wpA_append rfl _ _ _ rfl (.slice _ _ _) rfl ?_); intro vq hvq; simp [go_sem] at hvq; subst hvq; refine appendA hL ?_; clear hL; intro _ _ _ hL; try dsimp only at hL) | ((with_reducible refine wpA_make rfl _ _ _ rfl _ rfl rfl ?_); refine makeA hL ?_))
        go_loopw [4, 36] (fun s4 s36 wq => ∃ (j : Nat) (a2 : List Sg), j ≤ E.length ∧ s36 = .int .i64 j ∧ a2 = acc ++ (E.take j).map lineG ∧ Holds w wq [blk b1 #[.int .i64 3, .int .i64 sx, .int .i64 sy, .int .i64 scx, .int .i64 scy] 67, own w.heap.size 67 5 s4 a2.length (a2.map segC).flatten] [fun w => EdgesAt w (.slice ea E.length ec) E])
          (fun s4 s36 wq => E.length - (intOf s36).toNat)
        case atStart => exact ⟨0, acc, by omega, rfl, by simp, hL⟩
        case round =>
          clear hL
          obtain ⟨j, a2, hj, rfl, ha2, hL⟩ := hrel
          obtain ⟨gb, gd, rfl⟩ := own_slice hL (.there .here)
          have ha2l : a2.length ≤ 300 + j := by rw [ha2, List.length_append, List.length_map, List.length_take]; omega
          by_cases hjt : j < E.length
          · have hjb : (j : Int) < (E.length : Int) := by omega
            have hstep : a2 ++ [lineG (E.getD j default)] = acc ++ (E.take (j + 1)).map lineG := by
              rw [ha2, List.take_succ_eq_append_getElem hjt, List.map_append, List.append_assoc]
              simp [hjt]
            obtain ⟨be, oe, hea, hce⟩ : ∃ be oe, ea = some ⟨be, oe, none⟩ ∧ World.rangeAt _ be (oe + j * 7) (edgeC (E.getD j default)) := by
              obtain ⟨a', c', he, _, _, hel⟩ := EdgesAt.parts hL.fact0
              injection he with he _ _
              subst he
              exact hel j hjt
            subst hea
            generalize E.getD j default = ed at *
            obtain ⟨e0, e1, eb, e2, e3, e4, e5⟩ := ed
            unfold edgeC at hce
            unfold lineG at hstep
            dsimp only at hce hstep
            have HST := Lib.hid hstep
            clear hstep ha2
            have n2 : True := trivial
            have n3 : True := trivial
            go_wp2_with (first | (first | (clear hL n1; with_reducible intro b1 w1 hL) | (clear hL n2; with_reducible intro b2 w2 hL) | (clear hL n3; with_reducible intro b3 w3 hL) | (clear hL; with_reducible intro _ _ hL)) | (with_reducible refine wpC_alloc rfl _ rfl _ _ inferInstance hL ?_) | (with_reducible first | refine wpB_agg rfl _ _ _ rfl rfl hL ?_ | refine wpB_one rfl _ _ (.int _ _) rfl rfl rfl hL ?_ | refine wpB_one rfl _ _ (.slice _ _ _) rfl rfl rfl hL ?_ | refine wpB_one rfl _ _ (.bool _) rfl rfl rfl hL ?_ | refine wpB_one rfl _ _ (.pointer _) rfl rfl rfl hL ?_ | refine wpB_one rfl _ _ (.func _ _ _) rfl rfl rfl hL ?_) | (with_reducible first | refine wpH_max rfl _ _ _ _ rfl _ _ rfl rfl ?_ | refine wpH_min rfl _ _ _ _ rfl _ _ rfl rfl ?_) | ((with_reducible refine wpA_load rfl _ _ rfl _ rfl ?_); first | refine loadA hL ?_ | refine loadR hL ?_ | refine loadC hL ?_ | refine loadD ?_ | refine loadE hL ?_ | refine loadF ?_) | ((with_reducible refine wpA_index rfl _ _ _ rfl _ rfl _ rfl ?_); first | (refine indexA ?_; try rw [Int.toNat_natCast]) | refine indexC ?_) | ((with_reducible refine wpA_store rfl _ _ _ rfl _ rfl (.agg _) rfl ?_); refine storeR hL ?_; clear hL; intro _ hL) | ((with_reducible first | refine wpA_store rfl _ _ _ rfl _ rfl (.int _ _) rfl ?_ | refine wpA_store rfl _ _ _ rfl _ rfl (.slice _ _ _) rfl ?_ | refine wpA_store rfl _ _ _ rfl _ rfl (.bool _) rfl ?_ | refine wpA_store rfl _ _ _ rfl _ rfl (.pointer _) rfl ?_ | refine wpA_store rfl _ _ _ rfl _ rfl (.func _ _ _) rfl ?_); (first | refine storeA hL ?_ | refine storeO hL ?_); (clear hL; intro _ hL)) | ((with_reducible refine wpA_lit rfl _ _ _ rfl ?_); first | refine litA1 hL ?_ | refine litA2 hL ?_ | refine litA3 hL ?_ | refine litA4 hL ?_ | refine litA6 hL ?_) | ((with_reducible refine wpA_append rfl _ _ _ rfl (.slice _ _ _) rfl ?_); intro vq hvq; simp [go_sem] at hvq; subst hvq; refine appendA hL ?_; clear hL; intro _ _ _ hL; try dsimp only at hL) | ((with_reducible refine wpA_make rfl _ _ _ rfl _ rfl rfl ?_); refine makeA hL ?_))
            go_roundw
            case rel =>
              refine ⟨j + 1, a2 ++ [⟨2, e4, e5, 0, 0⟩], by omega, by go_num, HST.out, ?_⟩
              rw [segs_snoc, segs_snoc_len]
              exact hL.drop .here
            case measure => simp [intOf]; omega
          · have e : j = E.length := by omega
            subst e
            rw [List.take_length] at ha2
            rw [← ha2] at HRK
            clear ha2
            rcases (by omega : 300 < a2.length ∨ a2.length ≤ 300) with h | h
            · have HRl := Lib.hid (show 300 < R.length by rw [HRK.out, List.length_append]; omega)
              have hb : (300 : Int) < (a2.length : Int) := by omega
              go_wp2_with (first | (first | (clear hL n1; with_reducible intro b1 w1 hL) | (clear hL n2; with_reducible intro b2 w2 hL) | (clear hL n3; with_reducible intro b3 w3 hL) | (clear hL; with_reducible intro _ _ hL)) | (with_reducible refine wpC_alloc rfl _ rfl _ _ inferInstance hL ?_) | (with_reducible first | refine wpB_agg rfl _ _ _ rfl rfl hL ?_ | refine wpB_one rfl _ _ (.int _ _) rfl rfl rfl hL ?_ | refine wpB_one rfl _ _ (.slice _ _ _) rfl rfl rfl hL ?_ | refine wpB_one rfl _ _ (.bool _) rfl rfl rfl hL ?_ | refine wpB_one rfl _ _ (.pointer _) rfl rfl rfl hL ?_ | refine wpB_one rfl _ _ (.func _ _ _) rfl rfl rfl hL ?_) | (with_reducible first | refine wpH_max rfl _ _ _ _ rfl _ _ rfl rfl ?_ | refine wpH_min rfl _ _ _ _ rfl _ _ rfl rfl ?_) | ((with_reducible refine wpA_load rfl _ _ rfl _ rfl ?_); first | refine loadA hL ?_ | refine loadR hL ?_ | refine loadC hL ?_ | refine loadD ?_ | refine loadE hL ?_ | refine loadF ?_) | ((with_reducible refine wpA_index rfl _ _ _ rfl _ rfl _ rfl ?_); first | (refine indexA ?_; try rw [Int.toNat_natCast]) | refine indexC ?_) | ((with_reducible refine wpA_store rfl _ _ _ rfl _ rfl (.agg _) rfl ?_); refine storeR hL ?_; clear hL; intro _ hL) | ((with_reducible first | refine wpA_store rfl _ _ _ rfl _ rfl (.int _ _) rfl ?_ | refine wpA_store rfl _ _ _ rfl _ rfl (.slice _ _ _) rfl ?_ | refine wpA_store rfl _ _ _ rfl _ rfl (.bool _) rfl ?_ | refine wpA_store rfl _ _ _ rfl _ rfl (.pointer _) rfl ?_ | refine wpA_store rfl _ _ _ rfl _ rfl (.func _ _ _) rfl ?_); (first | refine storeA hL ?_ | refine storeO hL ?_); (clear hL; intro _ hL)) | ((with_reducible refine wpA_lit rfl _ _ _ rfl ?_); first | refine litA1 hL ?_ | refine litA2 hL ?_ | refine litA3 hL ?_ | refine litA4 hL ?_ | refine litA6 hL ?_) | ((with_reducible refine wpA_append rfl _ _ _ rfl (.slice _ _ _) rfl ?_); intro vq hvq; simp [go_sem] at hvq; subst hvq; refine appendA hL ?_; clear hL; intro _ _ _ hL; try dsimp only at hL) | ((with_reducible refine wpA_make rfl _ _ _ rfl _ rfl rfl ?_); refine makeA hL ?_))
              go_ret2
              exact .inl ⟨HRl.out, rfl, hL.below⟩
            · have hb : ¬ (300 : Int) < (a2.length : Int) := by omega
              go_wp2_with (first | (first | (clear hL n1; with_reducible intro b1 w1 hL) | (clear hL n2; with_reducible intro b2 w2 hL) | (clear hL n3; with_reducible intro b3 w3 hL) | (clear hL; with_reducible intro _ _ hL)) | (with_reducible refine wpC_alloc rfl _ rfl _ _ inferInstance hL ?_) | (with_reducible first | refine wpB_agg rfl _ _ _ rfl rfl hL ?_ | refine wpB_one rfl _ _ (.int _ _) rfl rfl rfl hL ?_ | refine wpB_one rfl _ _ (.slice _ _ _) rfl rfl rfl hL ?_ | refine wpB_one rfl _ _ (.bool _) rfl rfl rfl hL ?_ | refine wpB_one rfl _ _ (.pointer _) rfl rfl rfl hL ?_ | refine wpB_one rfl _ _ (.func _ _ _) rfl rfl rfl hL ?_) | (with_reducible first | refine wpH_max rfl _ _ _ _ rfl _ _ rfl rfl ?_ | refine wpH_min rfl _ _ _ _ rfl _ _ rfl rfl ?_) | ((with_reducible refine wpA_load rfl _ _ rfl _ rfl ?_); first | refine loadA hL ?_ | refine loadR hL ?_ | refine loadC hL ?_ | refine loadD ?_ | refine loadE hL ?_ | refine loadF ?_) | ((with_reducible refine wpA_index rfl _ _ _ rfl _ rfl _ rfl ?_); first | (refine indexA ?_; try rw [Int.toNat_natCast]) | refine indexC ?_) | ((with_reducible refine wpA_store rfl _ _ _ rfl _ rfl (.agg _) rfl ?_); refine storeR hL ?_; clear hL; intro _ hL) | ((with_reducible first | refine wpA_store rfl _ _ _ rfl _ rfl (.int _ _) rfl ?_ | refine wpA_store rfl _ _ _ rfl _ rfl (.slice _ _ _) rfl ?_ | refine wpA_store rfl _ _ _ rfl _ rfl (.bool _) rfl ?_ | refine wpA_store rfl _ _ _ rfl _ rfl (.pointer _) rfl ?_ | refine wpA_store rfl _ _ _ rfl _ rfl (.func _ _ _) rfl ?_); (first | refine storeA hL ?_ | refine storeO hL ?_); (clear hL; intro _ hL)) | ((with_reducible refine wpA_lit rfl _ _ _ rfl ?_); first | refine litA1 hL ?_ | refine litA2 hL ?_ | refine litA3 hL ?_ | refine litA4 hL ?_ | refine litA6 hL ?_) | ((with_reducible refine wpA_append rfl _ _ _ rfl (.slice _ _ _) rfl ?_); intro vq hvq; simp [go_sem] at hvq; subst hvq; refine appendA hL ?_; clear hL; intro _ _ _ hL; try dsimp only at hL) | ((with_reducible refine wpA_make rfl _ _ _ rfl _ rfl rfl ?_); refine makeA hL ?_))
              replace hL := hL.drew
              have hS : (fun w' : World => w'.rangeAt b1 0 [.int .i64 3, .int .i64 sx, .int .i64 sy, .int .i64 scx, .int .i64 scy]) _ := hL.range .here
              refine wpH_begin (by kernel_rfl) (fun w' : World => w'.rangeAt b1 0 [.int .i64 3, .int .i64 sx, .int .i64 sy, .int .i64 scx, .int .i64 scy]) ?_
              refine stH (i := 0) (.pointer (some ⟨b1, 1, none⟩)) hS ?_ ?_; (· exact fun w' _ => (by go_simp)); simp only [Act.put, List.setIfInBounds_toArray, List.set_cons_zero, List.set_cons_succ]
              refine stH (i := 1) (.int .i64 sx) hS ?_ ?_; (· exact fun w' hw => run_loadOp _ _ rfl _ rfl _ (load_cell (hw 1 _ rfl))); simp only [Act.put, List.setIfInBounds_toArray, List.set_cons_zero, List.set_cons_succ]
              refine stH (i := 2) (.pointer (some ⟨b1, 2, none⟩)) hS ?_ ?_; (· exact fun w' _ => (by go_simp)); simp only [Act.put, List.setIfInBounds_toArray, List.set_cons_zero, List.set_cons_succ]
              refine stH (i := 3) (.int .i64 sy) hS ?_ ?_; (· exact fun w' hw => run_loadOp _ _ rfl _ rfl _ (load_cell (hw 2 _ rfl))); simp only [Act.put, List.setIfInBounds_toArray, List.set_cons_zero, List.set_cons_succ]
              refine stH (i := 4) (.int .i64 sx) hS ?_ ?_; (· exact fun w' _ => (by go_simp)); simp only [Act.put, List.setIfInBounds_toArray, List.set_cons_zero, List.set_cons_succ]
              refine stH (i := 5) (.int .i64 sy) hS ?_ ?_; (· exact fun w' _ => (by go_simp)); simp only [Act.put, List.setIfInBounds_toArray, List.set_cons_zero, List.set_cons_succ]
              refine wpAnyH_done (by kernel_rfl) ?_ _
              clear hS
              go_wp2
              go_roundw
              case rel => exact ⟨k + 1, a2, sx, sy, 3, by omega, by go_num, rfl, rfl, h, HN12.out, HRK.out, HMK.out, (hL.drop .here).forget⟩
              case measure => simp [intOf]; omega
      · rw [if_neg h3] at hRk
        have HRK := Lib.hid hRk
        have hk3 : (kind == 3) = false := by simp [h3]
        clear hRk hnx hny n1 n2 n3 n4 h3
        rcases (by omega : 300 < acc.length + 1 ∨ acc.length + 1 ≤ 300) with h | h
        · have HRl := Lib.hid (show 300 < R.length by rw [HRK.out, List.length_append, List.length_append, List.length_singleton]; omega)
          have hb : (300 : Int) < ((acc.length + 1 : Nat) : Int) := by omega
          have n1 : True := trivial; have n2 : True := trivial; have n3 : True := trivial
          go_wp2_with (first | (first | (clear hL n1; with_reducible intro b1 w1 hL) | (clear hL n2; with_reducible intro b2 w2 hL) | (clear hL n3; with_reducible intro b3 w3 hL) | (clear hL; with_reducible intro _ _ hL)) | (with_reducible refine wpC_alloc rfl _ rfl _ _ inferInstance hL ?_) | (with_reducible first | refine wpB_agg rfl _ _ _ rfl rfl hL ?_ | refine wpB_one rfl _ _ (.int _ _) rfl rfl rfl hL ?_ | refine wpB_one rfl _ _ (.slice _ _ _) rfl rfl rfl hL ?_ | refine wpB_one rfl _ _ (.bool _) rfl rfl rfl hL ?_ | refine wpB_one rfl _ _ (.pointer _) rfl rfl rfl hL ?_ | refine wpB_one rfl _ _ (.func _ _ _) rfl rfl rfl hL ?_) | (with_reducible first | refine wpH_max rfl _ _ _ _ rfl _ _ rfl rfl ?_ | refine wpH_min rfl _ _ _ _ rfl _ _ rfl rfl ?_) | ((with_reducible refine wpA_load rfl _ _ rfl _ rfl ?_); first | refine loadA hL ?_ | refine loadR hL ?_ | refine loadC hL ?_ | refine loadD ?_ | refine loadE hL ?_ | refine loadF ?_) | ((with_reducible refine wpA_index rfl _ _ _ rfl _ rfl _ rfl ?_); first | (refine indexA ?_; try rw [Int.toNat_natCast]) | refine indexC ?_) | ((with_reducible refine wpA_store rfl _ _ _ rfl _ rfl (.agg _) rfl ?_); refine storeR hL ?_; clear hL; intro _ hL) | ((with_reducible first | refine wpA_store rfl _ _ _ rfl _ rfl (.int _ _) rfl ?_ | refine wpA_store rfl _ _ _ rfl _ rfl (.slice _ _ _) rfl ?_ | refine wpA_store rfl _ _ _ rfl _ rfl (.bool _) rfl ?_ | refine wpA_store rfl _ _ _ rfl _ rfl (.pointer _) rfl ?_ | refine wpA_store rfl _ _ _ rfl _ rfl (.func _ _ _) rfl ?_); (first | refine storeA hL ?_ | refine storeO hL ?_); (clear hL; intro _ hL)) | ((with_reducible refine wpA_lit rfl _ _ _ rfl ?_); first | refine litA1 hL ?_ | refine litA2 hL ?_ | refine litA3 hL ?_ | refine litA4 hL ?_ | refine litA6 hL ?_) | ((with_reducible refine wpA_append rfl _ _ _ rfl (.slice _ _ _) rfl ?_); intro vq hvq; simp [go_sem] at hvq; subst hvq; refine appendA hL ?_; clear hL; intro _ _ _ hL; try dsimp only at hL) | ((with_reducible refine wpA_make rfl _ _ _ rfl _ rfl rfl ?_); refine makeA hL ?_))
          go_ret2
          exact .inl ⟨HRl.out, rfl, hL.below⟩
        · have hb : ¬ (300 : Int) < ((acc.length + 1 : Nat) : Int) := by omega
          have n1 : True := trivial; have n2 : True := trivial; have n3 : True := trivial
          go_wp2_with (first | (first | (clear hL n1; with_reducible intro b1 w1 hL) | (clear hL n2; with_reducible intro b2 w2 hL) | (clear hL n3; with_reducible intro b3 w3 hL) | (clear hL; with_reducible intro _ _ hL)) | (with_reducible refine wpC_alloc rfl _ rfl _ _ inferInstance hL ?_) | (with_reducible first | refine wpB_agg rfl _ _ _ rfl rfl hL ?_ | refine wpB_one rfl _ _ (.int _ _) rfl rfl rfl hL ?_ | refine wpB_one rfl _ _ (.slice _ _ _) rfl rfl rfl hL ?_ | refine wpB_one rfl _ _ (.bool _) rfl rfl rfl hL ?_ | refine wpB_one rfl _ _ (.pointer _) rfl rfl rfl hL ?_ | refine wpB_one rfl _ _ (.func _ _ _) rfl rfl rfl hL ?_) | (with_reducible first | refine wpH_max rfl _ _ _ _ rfl _ _ rfl rfl ?_ | refine wpH_min rfl _ _ _ _ rfl _ _ rfl rfl ?_) | ((with_reducible refine wpA_load rfl _ _ rfl _ rfl ?_); first | refine loadA hL ?_ | refine loadR hL ?_ | refine loadC hL ?_ | refine loadD ?_ | refine loadE hL ?_ | refine loadF ?_) | ((with_reducible refine wpA_index rfl _ _ _ rfl _ rfl _ rfl ?_); first | (refine indexA ?_; try rw [Int.toNat_natCast]) | refine indexC ?_) | ((with_reducible refine wpA_store rfl _ _ _ rfl _ rfl (.agg _) rfl ?_); refine storeR hL ?_; clear hL; intro _ hL) | ((with_reducible first | refine wpA_store rfl _ _ _ rfl _ rfl (.int _ _) rfl ?_ | refine wpA_store rfl _ _ _ rfl _ rfl (.slice _ _ _) rfl ?_ | refine wpA_store rfl _ _ _ rfl _ rfl (.bool _) rfl ?_ | refine wpA_store rfl _ _ _ rfl _ rfl (.pointer _) rfl ?_ | refine wpA_store rfl _ _ _ rfl _ rfl (.func _ _ _) rfl ?_); (first | refine storeA hL ?_ | refine storeO hL ?_); (clear hL; intro _ hL)) | ((with_reducible refine wpA_lit rfl _ _ _ rfl ?_); first | refine litA1 hL ?_ | refine litA2 hL ?_ | refine litA3 hL ?_ | refine litA4 hL ?_ | refine litA6 hL ?_) | ((with_reducible refine wpA_append rfl _ _ _ rfl (.slice _ _ _) rfl ?_); intro vq hvq; simp [go_sem] at hvq; subst hvq; refine appendA hL ?_; clear hL; intro _ _ _ hL; try dsimp only at hL) | ((with_reducible refine wpA_make rfl _ _ _ rfl _ rfl rfl ?_); refine makeA hL ?_))
          replace hL := hL.drew
          have hS : (fun w' : World => w'.rangeAt b1 0 [.int .i64 kind, .int .i64 sx, .int .i64 sy, .int .i64 scx, .int .i64 scy]) _ := hL.range .here
          refine wpH_begin (by kernel_rfl) (fun w' : World => w'.rangeAt b1 0 [.int .i64 kind, .int .i64 sx, .int .i64 sy, .int .i64 scx, .int .i64 scy]) ?_
          refine stH (i := 0) (.pointer (some ⟨b1, 1, none⟩)) hS ?_ ?_; (· exact fun w' _ => (by go_simp)); simp only [Act.put, List.setIfInBounds_toArray, List.set_cons_zero, List.set_cons_succ]
          refine stH (i := 1) (.int .i64 sx) hS ?_ ?_; (· exact fun w' hw => run_loadOp _ _ rfl _ rfl _ (load_cell (hw 1 _ rfl))); simp only [Act.put, List.setIfInBounds_toArray, List.set_cons_zero, List.set_cons_succ]
          refine stH (i := 2) (.pointer (some ⟨b1, 2, none⟩)) hS ?_ ?_; (· exact fun w' _ => (by go_simp)); simp only [Act.put, List.setIfInBounds_toArray, List.set_cons_zero, List.set_cons_succ]
          refine stH (i := 3) (.int .i64 sy) hS ?_ ?_; (· exact fun w' hw => run_loadOp _ _ rfl _ rfl _ (load_cell (hw 2 _ rfl))); simp only [Act.put, List.setIfInBounds_toArray, List.set_cons_zero, List.set_cons_succ]
          refine stH (i := 4) (.int .i64 sx) hS ?_ ?_; (· exact fun w' _ => (by go_simp)); simp only [Act.put, List.setIfInBounds_toArray, List.set_cons_zero, List.set_cons_succ]
          refine stH (i := 5) (.int .i64 sy) hS ?_ ?_; (· exact fun w' _ => (by go_simp)); simp only [Act.put, List.setIfInBounds_toArray, List.set_cons_zero, List.set_cons_succ]
          refine wpAnyH_done (by kernel_rfl) ?_ _
          clear hS
          go_wp2
          go_roundw
          case rel =>
            refine ⟨k + 1, acc ++ [⟨kind, sx, sy, scx, scy⟩], sx, sy, kind, by omega, by go_num, rfl, rfl, by rw [segs_snoc_len]; exact h, HN12.out, HRK.out, HMK.out, ?_⟩
            rw [segs_snoc, segs_snoc_len]
            exact hL.drop .here
          case measure => simp [intOf]; omega
    · have e : k = l.length := by omega
      subst e
      rw [List.drop_length, flatS, List.append_nil] at hRk
      have hF := own_segs (p := acc) hL
      have HF := Lib.hid hF
      have HRK := Lib.hid hRk
      clear hF hRk hmk hnx hny
      go_wp2_with (first | (first | (clear hL n1; with_reducible intro b1 w1 hL) | (clear hL n2; with_reducible intro b2 w2 hL) | (clear hL n3; with_reducible intro b3 w3 hL) | (clear hL; with_reducible intro _ _ hL)) | (with_reducible refine wpC_alloc rfl _ rfl _ _ inferInstance hL ?_) | (with_reducible first | refine wpB_agg rfl _ _ _ rfl rfl hL ?_ | refine wpB_one rfl _ _ (.int _ _) rfl rfl rfl hL ?_ | refine wpB_one rfl _ _ (.slice _ _ _) rfl rfl rfl hL ?_ | refine wpB_one rfl _ _ (.bool _) rfl rfl rfl hL ?_ | refine wpB_one rfl _ _ (.pointer _) rfl rfl rfl hL ?_ | refine wpB_one rfl _ _ (.func _ _ _) rfl rfl rfl hL ?_) | (with_reducible first | refine wpH_max rfl _ _ _ _ rfl _ _ rfl rfl ?_ | refine wpH_min rfl _ _ _ _ rfl _ _ rfl rfl ?_) | ((with_reducible refine wpA_load rfl _ _ rfl _ rfl ?_); first | refine loadA hL ?_ | refine loadR hL ?_ | refine loadC hL ?_ | refine loadD ?_ | refine loadE hL ?_ | refine loadF ?_) | ((with_reducible refine wpA_index rfl _ _ _ rfl _ rfl _ rfl ?_); first | (refine indexA ?_; try rw [Int.toNat_natCast]) | refine indexC ?_) | ((with_reducible refine wpA_store rfl _ _ _ rfl _ rfl (.agg _) rfl ?_); refine storeR hL ?_; clear hL; intro _ hL) | ((with_reducible first | refine wpA_store rfl _ _ _ rfl _ rfl (.int _ _) rfl ?_ | refine wpA_store rfl _ _ _ rfl _ rfl (.slice _ _ _) rfl ?_ | refine wpA_store rfl _ _ _ rfl _ rfl (.bool _) rfl ?_ | refine wpA_store rfl _ _ _ rfl _ rfl (.pointer _) rfl ?_ | refine wpA_store rfl _ _ _ rfl _ rfl (.func _ _ _) rfl ?_); (first | refine storeA hL ?_ | refine storeO hL ?_); (clear hL; intro _ hL)) | ((with_reducible refine wpA_lit rfl _ _ _ rfl ?_); first | refine litA1 hL ?_ | refine litA2 hL ?_ | refine litA3 hL ?_ | refine litA4 hL ?_ | refine litA6 hL ?_) | ((with_reducible refine wpA_append rfl _ _ _ rfl (.slice _ _ _) rfl ?_); intro vq hvq; simp [go_sem] at hvq; subst hvq; refine appendA hL ?_; clear hL; intro _ _ _ hL; try dsimp only at hL) | ((with_reducible refine wpA_make rfl _ _ _ rfl _ rfl rfl ?_); refine makeA hL ?_))
      go_ret2
      refine .inr ⟨by rw [HRK.out]; exact hacc, _, rfl, hL.below, by rw [HRK.out]; exact HF.out⟩
end Go.Proofs.Ytmoabhfpibkcnaa
