/- The references' runs of places; small helpers. -/
import Derived.Test.YtjgnbmgdnfldeaaReg5
namespace Go.Proofs.Ytjgnbmgdnfldeaa
open Go.RowKit

/-- a cell of a slice of the call's own is written -/
theorem Holds.setOwn {w0 w : World} {M M' : List Res} {Φ : List (World → Prop)} {B : Nat} {e : TypeId} {k n cap g off : Nat} {xs : List Value} {v : Value} (h : Holds w0 w M Φ)
    (hu : Upd M (own B e k (.slice (some ⟨g, 0, none⟩) n cap) n xs) (own B e k (.slice (some ⟨g, 0, none⟩) n cap) n (xs.set off v)) M') (hoff : off < xs.length) :
    Holds w0 (w.setCell ⟨g, off, none⟩ v) M' Φ ∧ w.cell? ⟨g, off, none⟩ = some xs[off] ∧ w.frozen? ⟨g, off, none⟩ = false := by
  obtain ⟨h1, h2 | ⟨g', cap', cur, hv, hb, hg, hnc, hcm, hcs, ht⟩⟩ := h.at hu.at
  · cases h2.1
  · cases hv
    have hlt : off < n * k := by omega
    have hoc : off < cur.size := by rw [hcs]; exact Nat.lt_of_lt_of_le hlt (Nat.mul_le_mul_right k hnc)
    have hc : w.cell? ⟨g, off, none⟩ = some xs[off] := by
      rw [cell_of_row w g off cur e (0, 0) hg]
      have : xs[off]? = cur[off]? := by rw [← ht, List.getElem?_take, if_pos hlt]; simp
      rw [← this]; simp [hoff]
    refine ⟨?_, hc, frozen_of_row w g off cur e hg⟩
    rw [setCell_eq_setRow w g off cur e (0, 0) v hg]
    refine h.upd hu ⟨rfl, rfl, rfl, by simp, fun b hb' hne => setRow_other w g b _ (fun e => hne (by subst e; rfl))⟩ ⟨by rw [List.length_set]; exact h1, .inr ⟨g, cap, cur.setIfInBounds off v, rfl, hb, setRow_heap w g cur _ e (0, 0) hg, hnc, hcm, by rw [Array.size_setIfInBounds]; exact hcs, ?_⟩⟩ (fun b hb' => .inl hb')
    rw [← ht]
    apply List.ext_getElem?
    intro i
    rw [List.getElem?_take, List.getElem?_set, List.getElem?_take]
    simp only [Array.getElem?_toList, Array.getElem?_setIfInBounds]
    by_cases hi : i < n * k
    · simp only [hi, if_true]
      by_cases hio : off = i
      · subst hio; simp [hoc]
        omega
      · simp [hio]
    · have : ¬ off = i := by omega
      simp [hi, this]

theorem storeAt_own {P : Program} {w0 w : World} {M M' : List Res} {Φ : List (World → Prop)} {KW : World → Prop} {T : TypeId} {g off : Nat} {v : Value} (h1 : v.cells = #[v]) (hv1 : v.oneCell' = true) (hT : ScalarT P T)
    (hL : Holds w0 w M Φ) (B : Nat) (e : TypeId) (k n cap : Nat) (xs : List Value) (hu : Upd M (own B e k (.slice (some ⟨g, 0, none⟩) n cap) n xs) (own B e k (.slice (some ⟨g, 0, none⟩) n cap) n (xs.set off v)) M') (hoff : off < xs.length)
    (h : ∀ w', Holds w0 w' M' Φ → KW w') : StoreAt P T ⟨g, off, none⟩ v w KW := by
  obtain ⟨hH, hc, hf⟩ := hL.setOwn hu hoff
  refine ⟨w.setCell ⟨g, off, none⟩ v, ?_, h _ hH⟩
  have hi := hT.size
  cases hq : P.info? T with
  | none => simp [hq] at hi
  | some i =>
    have hs : i.size = 1 := by simpa [hq] using hi
    simp [Sem.run_bind, storeVar, sizeOf, typeInfo, hq, hs, h1, storeCells, run_store, hv1, hc, hf, Addr.add]

theorem storeO {P : Program} {w0 w : World} {M M' : List Res} {Φ : List (World → Prop)} {KW : World → Prop} {T : TypeId} {g off : Nat} {v : Value} [hT : ScalarT P T] (hL : Holds w0 w M Φ) {B : Nat} {e : TypeId} {k n cap : Nat} {xs : List Value} (h : ∀ w', Holds w0 w' M' Φ → KW w')
    (h1 : v.cells = #[v] := by rfl) (hv1 : v.oneCell' = true := by rfl)
    (hu : Upd M (own B e k (.slice (some ⟨g, 0, none⟩) n cap) n xs) (own B e k (.slice (some ⟨g, 0, none⟩) n cap) n (xs.set off v)) M' := by (repeat (first | with_reducible exact Upd.here | with_reducible apply Upd.there))) (hoff : off < xs.length := by omega) : StoreAt P T ⟨g, off, none⟩ v w KW := storeAt_own h1 hv1 hT hL B e k n cap xs hu hoff h

set_option maxHeartbeats 400000 in
theorem rcut_calls (a : Int) (w : World) :
    Calls Try.prog 100 #[.int .i64 a] w fun e w' => e = .returned (.int .i64 (cutI a)) ∧ w = w' := by
  have hL := Holds.start w
  go_enter Try.func100, Try.ntmps100
  go_wp2_with (first | ((clear hL; with_reducible intro _ _ hL)) | (with_reducible refine wpC_alloc rfl _ rfl _ _ inferInstance hL ?_) | (with_reducible first | refine wpB_agg rfl _ _ _ rfl rfl hL ?_ | refine wpB_one rfl _ _ (.int _ _) rfl rfl rfl hL ?_ | refine wpB_one rfl _ _ (.slice _ _ _) rfl rfl rfl hL ?_ | refine wpB_one rfl _ _ (.bool _) rfl rfl rfl hL ?_ | refine wpB_one rfl _ _ (.pointer _) rfl rfl rfl hL ?_ | refine wpB_one rfl _ _ (.func _ _ _) rfl rfl rfl hL ?_) | (with_reducible first | refine wpH_max rfl _ _ _ _ rfl _ _ rfl rfl ?_ | refine wpH_min rfl _ _ _ _ rfl _ _ rfl rfl ?_) | ((with_reducible refine wpA_load rfl _ _ rfl _ rfl ?_); first | refine loadA hL ?_ | refine loadR hL ?_ | refine loadC hL ?_ | refine loadD ?_ | refine loadE hL ?_ | refine loadF ?_) | ((with_reducible refine wpA_index rfl _ _ _ rfl _ rfl _ rfl ?_); first | (refine indexA ?_; try rw [Int.toNat_natCast]) | refine indexC ?_) | ((with_reducible refine wpA_store rfl _ _ _ rfl _ rfl (.agg _) rfl ?_); refine storeR hL ?_; clear hL; intro _ hL) | ((with_reducible first | refine wpA_store rfl _ _ _ rfl _ rfl (.int _ _) rfl ?_ | refine wpA_store rfl _ _ _ rfl _ rfl (.slice _ _ _) rfl ?_ | refine wpA_store rfl _ _ _ rfl _ rfl (.bool _) rfl ?_ | refine wpA_store rfl _ _ _ rfl _ rfl (.pointer _) rfl ?_ | refine wpA_store rfl _ _ _ rfl _ rfl (.func _ _ _) rfl ?_); (first | refine storeA hL ?_ | refine storeO hL ?_); (clear hL; intro _ hL)) | ((with_reducible refine wpA_lit rfl _ _ _ rfl ?_); first | refine litA1 hL ?_ | refine litA2 hL ?_) | ((with_reducible refine wpA_append rfl _ _ _ rfl (.slice _ _ _) rfl ?_); intro vq hvq; simp [go_sem] at hvq; subst hvq; refine appendA hL ?_; clear hL; intro _ _ _ hL; try dsimp only at hL) | ((with_reducible refine wpA_make rfl _ _ _ rfl _ rfl rfl ?_); refine makeA hL ?_))
  go_ret
  exact ⟨by show Ending.returned (.int .i64 (min (max a 0) 64)) = _; rw [show min (max a 0) 64 = cutI a by unfold cutI; omega], rfl⟩

theorem runC_flat_len (l : List (Int × Int)) : ((l.map runC).flatten).length = l.length * 2 := by
  induction l with
  | nil => rfl
  | cons a l ih => simp [runC] at ih ⊢; omega
theorem runsTo_grow {p : Nat → Bool} {n : Nat} (h : p n = true) (h0 : 0 < n) (h1 : p (n - 1) = true) :
    (runsTo p (n + 1)).length = (runsTo p n).length ∧ 0 < (runsTo p n).length ∧ ((runsTo p n).map runC).flatten.set (((runsTo p n).length - 1) * 2 + 1) (.int .i64 ((n : Int) + 1)) = ((runsTo p (n + 1)).map runC).flatten := by
  obtain ⟨f, r, e1, e2⟩ := rruns_more h h0 h1
  have r1 : runsTo p n = r.reverse ++ [(f, (n : Int))] := by rw [runsTo, e1, List.reverse_cons]
  have r2 : runsTo p (n + 1) = r.reverse ++ [(f, (n : Int) + 1)] := by rw [runsTo, e2, List.reverse_cons]
  rw [r1, r2]
  refine ⟨by simp, by simp, ?_⟩
  simp only [List.map_append, List.flatten_append, List.length_append, List.length_cons, List.length_nil, Nat.add_sub_cancel]
  rw [List.set_append_right (h := by rw [runC_flat_len]; omega), runC_flat_len]
  simp [runC]

def ARuns (p : Nat → Bool) (w : World) (b : Nat) (i : Nat) (s : Value) (wr : World) : Prop :=
  Holds w wr [own w.heap.size 35 2 s (runsTo p i).length ((runsTo p i).map runC).flatten, blk b (arrB p) 76] []

theorem own_shape {w0 w : World} {M : List Res} {Φ : List (World → Prop)} {B : Nat} {e : TypeId} {k n : Nat} {v : Value} {xs : List Value} (h : Holds w0 w M Φ) (hat : At M (own B e k v n xs)) (hn : 0 < n) : ∃ g cap, v = .slice (some ⟨g, 0, none⟩) n cap := by
  obtain ⟨g, cap, hv, _⟩ := World.ownsRow.form (h.at hat) hn
  exact ⟨g, cap, hv⟩
theorem own_slice {w0 w : World} {M : List Res} {Φ : List (World → Prop)} {B : Nat} {e : TypeId} {k n : Nat} {v : Value} {xs : List Value} (h : Holds w0 w M Φ) (hat : At M (own B e k v n xs)) : ∃ a cap, v = .slice a n cap := by
  obtain ⟨_, h2 | ⟨g, cap, cur, hv, _⟩⟩ := h.at hat
  · exact ⟨none, 0, by rw [h2.1, h2.2]⟩
  · exact ⟨_, cap, hv⟩

set_option maxRecDepth 100000 in
set_option maxHeartbeats 1000000 in
theorem refRuns_calls (w : World) (p : Nat → Bool) (W : Int) :
    Calls Try.prog 60 #[.agg (arrB p), .int .i64 W] w (RunsOut (runsTo p (cutI W).toNat) w) := by
  have hL := Holds.start w
  have hcl := cutI_le W
  obtain ⟨c, hc⟩ := Int.eq_ofNat_of_zero_le hcl.1
  have Hc := Lib.hid hc
  have Hcn := Lib.hid (show (cutI W).toNat = c by omega)
  have hc64 : c ≤ 64 := by omega
  clear hcl hc
  have n1 : True := trivial; have n2 : True := trivial; have n3 : True := trivial; have n4 : True := trivial
  go_enter Try.func60, Try.ntmps60
  go_wp2_with (first | (first | (clear hL n1; with_reducible intro b1 w1 hL) | (clear hL n2; with_reducible intro b2 w2 hL) | (clear hL n3; with_reducible intro b3 w3 hL) | (clear hL n4; with_reducible intro b4 w4 hL) | (clear hL; with_reducible intro _ _ hL)) | (with_reducible refine wpC_alloc rfl _ rfl _ _ inferInstance hL ?_) | (with_reducible first | refine wpB_agg rfl _ _ _ rfl rfl hL ?_ | refine wpB_one rfl _ _ (.int _ _) rfl rfl rfl hL ?_ | refine wpB_one rfl _ _ (.slice _ _ _) rfl rfl rfl hL ?_ | refine wpB_one rfl _ _ (.bool _) rfl rfl rfl hL ?_ | refine wpB_one rfl _ _ (.pointer _) rfl rfl rfl hL ?_ | refine wpB_one rfl _ _ (.func _ _ _) rfl rfl rfl hL ?_) | (with_reducible first | refine wpH_max rfl _ _ _ _ rfl _ _ rfl rfl ?_ | refine wpH_min rfl _ _ _ _ rfl _ _ rfl rfl ?_) | ((with_reducible refine wpA_load rfl _ _ rfl _ rfl ?_); first | refine loadA hL ?_ | refine loadR hL ?_ | refine loadC hL ?_ | refine loadD ?_ | refine loadE hL ?_ | refine loadF ?_) | ((with_reducible refine wpA_index rfl _ _ _ rfl _ rfl _ rfl ?_); first | (refine indexA ?_; try rw [Int.toNat_natCast]) | refine indexC ?_) | ((with_reducible refine wpA_store rfl _ _ _ rfl _ rfl (.agg _) rfl ?_); refine storeR hL ?_; clear hL; intro _ hL) | ((with_reducible first | refine wpA_store rfl _ _ _ rfl _ rfl (.int _ _) rfl ?_ | refine wpA_store rfl _ _ _ rfl _ rfl (.slice _ _ _) rfl ?_ | refine wpA_store rfl _ _ _ rfl _ rfl (.bool _) rfl ?_ | refine wpA_store rfl _ _ _ rfl _ rfl (.pointer _) rfl ?_ | refine wpA_store rfl _ _ _ rfl _ rfl (.func _ _ _) rfl ?_); (first | refine storeA hL ?_ | refine storeO hL ?_); (clear hL; intro _ hL)) | ((with_reducible refine wpA_lit rfl _ _ _ rfl ?_); first | refine litA1 hL ?_ | refine litA2 hL ?_) | ((with_reducible refine wpA_append rfl _ _ _ rfl (.slice _ _ _) rfl ?_); intro vq hvq; simp [go_sem] at hvq; subst hvq; refine appendA hL ?_; clear hL; intro _ _ _ hL; try dsimp only at hL) | ((with_reducible refine wpA_make rfl _ _ _ rfl _ rfl rfl ?_); refine makeA hL ?_))
  go_loopw [5, 6] (fun s5 s6 wr => ∃ i : Nat, i ≤ c ∧ s6 = .int .i64 i ∧ ARuns p w b1 i s5 wr)
    (fun s5 s6 wr => (64 - intOf s6).toNat)
  case atStart => exact ⟨0, by omega, rfl, hL.newOwn⟩
  case round =>
    clear hL
    obtain ⟨i, hi, rfl, hL⟩ := hrel
    unfold ARuns at hL
    have hlen := runsTo_len p i
    by_cases hlt : i < c
    · cases hp : p i with
      | false =>
        have Hn := Lib.hid (runsTo_off hp)
        go_wp2_with (first | (go_at_call 100; (with_reducible refine (rcut_calls _ _).mono ?_); rintro e _ ⟨rfl, rfl⟩; rw [Hc.out]) | (first | (clear hL n1; with_reducible intro b1 w1 hL) | (clear hL n2; with_reducible intro b2 w2 hL) | (clear hL n3; with_reducible intro b3 w3 hL) | (clear hL n4; with_reducible intro b4 w4 hL) | (clear hL; with_reducible intro _ _ hL)) | (with_reducible refine wpC_alloc rfl _ rfl _ _ inferInstance hL ?_) | (with_reducible first | refine wpB_agg rfl _ _ _ rfl rfl hL ?_ | refine wpB_one rfl _ _ (.int _ _) rfl rfl rfl hL ?_ | refine wpB_one rfl _ _ (.slice _ _ _) rfl rfl rfl hL ?_ | refine wpB_one rfl _ _ (.bool _) rfl rfl rfl hL ?_ | refine wpB_one rfl _ _ (.pointer _) rfl rfl rfl hL ?_ | refine wpB_one rfl _ _ (.func _ _ _) rfl rfl rfl hL ?_) | (with_reducible first | refine wpH_max rfl _ _ _ _ rfl _ _ rfl rfl ?_ | refine wpH_min rfl _ _ _ _ rfl _ _ rfl rfl ?_) | ((with_reducible refine wpA_load rfl _ _ rfl _ rfl ?_); first | refine loadA hL ?_ | refine loadR hL ?_ | refine loadC hL ?_ | refine loadD ?_ | refine loadE hL ?_ | refine loadF ?_) | ((with_reducible refine wpA_index rfl _ _ _ rfl _ rfl _ rfl ?_); first | (refine indexA ?_; try rw [Int.toNat_natCast]) | refine indexC ?_) | ((with_reducible refine wpA_store rfl _ _ _ rfl _ rfl (.agg _) rfl ?_); refine storeR hL ?_; clear hL; intro _ hL) | ((with_reducible first | refine wpA_store rfl _ _ _ rfl _ rfl (.int _ _) rfl ?_ | refine wpA_store rfl _ _ _ rfl _ rfl (.slice _ _ _) rfl ?_ | refine wpA_store rfl _ _ _ rfl _ rfl (.bool _) rfl ?_ | refine wpA_store rfl _ _ _ rfl _ rfl (.pointer _) rfl ?_ | refine wpA_store rfl _ _ _ rfl _ rfl (.func _ _ _) rfl ?_); (first | refine storeA hL ?_ | refine storeO hL ?_); (clear hL; intro _ hL)) | ((with_reducible refine wpA_lit rfl _ _ _ rfl ?_); first | refine litA1 hL ?_ | refine litA2 hL ?_) | ((with_reducible refine wpA_append rfl _ _ _ rfl (.slice _ _ _) rfl ?_); intro vq hvq; simp [go_sem] at hvq; subst hvq; refine appendA hL ?_; clear hL; intro _ _ _ hL; try dsimp only at hL) | ((with_reducible refine wpA_make rfl _ _ _ rfl _ rfl rfl ?_); refine makeA hL ?_))
        go_roundw
        case rel => exact ⟨i + 1, by omega, by go_num, by unfold ARuns; rw [Hn.out]; exact hL⟩
        case measure => simp [intOf]; omega
      | true =>
        by_cases h0 : 0 < i
        · have c1 := hL.cell (o := i - 1) (.there .here)
          rw [arrB_get _ (by omega)] at c1
          cases hp1 : p (i - 1) with
          | true =>
            rw [hp1] at c1
            obtain ⟨q1, q2, q3⟩ := runsTo_grow hp h0 hp1
            obtain ⟨g, cap, rfl⟩ := own_shape hL .here q2
            have Hq1 := Lib.hid q1; clear q1
            have Hq3 := Lib.hid q3; clear q3
            have hxl := runC_flat_len (runsTo p i)
            go_wp2_with (first | (go_at_call 100; (with_reducible refine (rcut_calls _ _).mono ?_); rintro e _ ⟨rfl, rfl⟩; rw [Hc.out]) | (first | (clear hL n1; with_reducible intro b1 w1 hL) | (clear hL n2; with_reducible intro b2 w2 hL) | (clear hL n3; with_reducible intro b3 w3 hL) | (clear hL n4; with_reducible intro b4 w4 hL) | (clear hL; with_reducible intro _ _ hL)) | (with_reducible refine wpC_alloc rfl _ rfl _ _ inferInstance hL ?_) | (with_reducible first | refine wpB_agg rfl _ _ _ rfl rfl hL ?_ | refine wpB_one rfl _ _ (.int _ _) rfl rfl rfl hL ?_ | refine wpB_one rfl _ _ (.slice _ _ _) rfl rfl rfl hL ?_ | refine wpB_one rfl _ _ (.bool _) rfl rfl rfl hL ?_ | refine wpB_one rfl _ _ (.pointer _) rfl rfl rfl hL ?_ | refine wpB_one rfl _ _ (.func _ _ _) rfl rfl rfl hL ?_) | (with_reducible first | refine wpH_max rfl _ _ _ _ rfl _ _ rfl rfl ?_ | refine wpH_min rfl _ _ _ _ rfl _ _ rfl rfl ?_) | ((with_reducible refine wpA_load rfl _ _ rfl _ rfl ?_); first | refine loadA hL ?_ | refine loadR hL ?_ | refine loadC hL ?_ | refine loadD ?_ | refine loadE hL ?_ | refine loadF ?_) | ((with_reducible refine wpA_index rfl _ _ _ rfl _ rfl _ rfl ?_); first | (refine indexA ?_; try rw [Int.toNat_natCast]) | refine indexC ?_) | ((with_reducible refine wpA_store rfl _ _ _ rfl _ rfl (.agg _) rfl ?_); refine storeR hL ?_; clear hL; intro _ hL) | ((with_reducible first | refine wpA_store rfl _ _ _ rfl _ rfl (.int _ _) rfl ?_ | refine wpA_store rfl _ _ _ rfl _ rfl (.slice _ _ _) rfl ?_ | refine wpA_store rfl _ _ _ rfl _ rfl (.bool _) rfl ?_ | refine wpA_store rfl _ _ _ rfl _ rfl (.pointer _) rfl ?_ | refine wpA_store rfl _ _ _ rfl _ rfl (.func _ _ _) rfl ?_); (first | refine storeA hL ?_ | refine storeO hL ?_); (clear hL; intro _ hL)) | ((with_reducible refine wpA_lit rfl _ _ _ rfl ?_); first | refine litA1 hL ?_ | refine litA2 hL ?_) | ((with_reducible refine wpA_append rfl _ _ _ rfl (.slice _ _ _) rfl ?_); intro vq hvq; simp [go_sem] at hvq; subst hvq; refine appendA hL ?_; clear hL; intro _ _ _ hL; try dsimp only at hL) | ((with_reducible refine wpA_make rfl _ _ _ rfl _ rfl rfl ?_); refine makeA hL ?_))
            go_roundw
            case rel => exact ⟨i + 1, by omega, by go_num, by unfold ARuns; rw [Hq1.out, ← Hq3.out]; exact hL⟩
            case measure => simp [intOf]; omega
          | false =>
            rw [hp1] at c1
            have Hn := Lib.hid (runsTo_run (e := i + 1) (.inr hp1) (by omega) (fun j h1 h2 => by rw [show j = i by omega]; exact hp))
            go_wp2_with (first | (go_at_call 100; (with_reducible refine (rcut_calls _ _).mono ?_); rintro e _ ⟨rfl, rfl⟩; rw [Hc.out]) | (first | (clear hL n1; with_reducible intro b1 w1 hL) | (clear hL n2; with_reducible intro b2 w2 hL) | (clear hL n3; with_reducible intro b3 w3 hL) | (clear hL n4; with_reducible intro b4 w4 hL) | (clear hL; with_reducible intro _ _ hL)) | (with_reducible refine wpC_alloc rfl _ rfl _ _ inferInstance hL ?_) | (with_reducible first | refine wpB_agg rfl _ _ _ rfl rfl hL ?_ | refine wpB_one rfl _ _ (.int _ _) rfl rfl rfl hL ?_ | refine wpB_one rfl _ _ (.slice _ _ _) rfl rfl rfl hL ?_ | refine wpB_one rfl _ _ (.bool _) rfl rfl rfl hL ?_ | refine wpB_one rfl _ _ (.pointer _) rfl rfl rfl hL ?_ | refine wpB_one rfl _ _ (.func _ _ _) rfl rfl rfl hL ?_) | (with_reducible first | refine wpH_max rfl _ _ _ _ rfl _ _ rfl rfl ?_ | refine wpH_min rfl _ _ _ _ rfl _ _ rfl rfl ?_) | ((with_reducible refine wpA_load rfl _ _ rfl _ rfl ?_); first | refine loadA hL ?_ | refine loadR hL ?_ | refine loadC hL ?_ | refine loadD ?_ | refine loadE hL ?_ | refine loadF ?_) | ((with_reducible refine wpA_index rfl _ _ _ rfl _ rfl _ rfl ?_); first | (refine indexA ?_; try rw [Int.toNat_natCast]) | refine indexC ?_) | ((with_reducible refine wpA_store rfl _ _ _ rfl _ rfl (.agg _) rfl ?_); refine storeR hL ?_; clear hL; intro _ hL) | ((with_reducible first | refine wpA_store rfl _ _ _ rfl _ rfl (.int _ _) rfl ?_ | refine wpA_store rfl _ _ _ rfl _ rfl (.slice _ _ _) rfl ?_ | refine wpA_store rfl _ _ _ rfl _ rfl (.bool _) rfl ?_ | refine wpA_store rfl _ _ _ rfl _ rfl (.pointer _) rfl ?_ | refine wpA_store rfl _ _ _ rfl _ rfl (.func _ _ _) rfl ?_); (first | refine storeA hL ?_ | refine storeO hL ?_); (clear hL; intro _ hL)) | ((with_reducible refine wpA_lit rfl _ _ _ rfl ?_); first | refine litA1 hL ?_ | refine litA2 hL ?_) | ((with_reducible refine wpA_append rfl _ _ _ rfl (.slice _ _ _) rfl ?_); intro vq hvq; simp [go_sem] at hvq; subst hvq; refine appendA hL ?_; clear hL; intro _ _ _ hL; try dsimp only at hL) | ((with_reducible refine wpA_make rfl _ _ _ rfl _ rfl rfl ?_); refine makeA hL ?_))
            go_roundw
            case rel =>
              refine ⟨i + 1, by omega, by go_num, ?_⟩
              unfold ARuns
              rw [Hn.out]
              simp only [List.length_append, List.map_append, List.flatten_append, List.length_cons, List.length_nil]
              exact hL
            case measure => simp [intOf]; omega
        · have hi0 : i = 0 := by omega
          subst hi0
          have Hn := Lib.hid (runsTo_run (i := 0) (e := 1) (.inl rfl) (by omega) (fun j h1 h2 => by rw [show j = 0 by omega]; exact hp))
          have hz : ((0 : Nat) : Int) = 0 := rfl
          go_wp2_with (first | (go_at_call 100; (with_reducible refine (rcut_calls _ _).mono ?_); rintro e _ ⟨rfl, rfl⟩; rw [Hc.out]) | (first | (clear hL n1; with_reducible intro b1 w1 hL) | (clear hL n2; with_reducible intro b2 w2 hL) | (clear hL n3; with_reducible intro b3 w3 hL) | (clear hL n4; with_reducible intro b4 w4 hL) | (clear hL; with_reducible intro _ _ hL)) | (with_reducible refine wpC_alloc rfl _ rfl _ _ inferInstance hL ?_) | (with_reducible first | refine wpB_agg rfl _ _ _ rfl rfl hL ?_ | refine wpB_one rfl _ _ (.int _ _) rfl rfl rfl hL ?_ | refine wpB_one rfl _ _ (.slice _ _ _) rfl rfl rfl hL ?_ | refine wpB_one rfl _ _ (.bool _) rfl rfl rfl hL ?_ | refine wpB_one rfl _ _ (.pointer _) rfl rfl rfl hL ?_ | refine wpB_one rfl _ _ (.func _ _ _) rfl rfl rfl hL ?_) | (with_reducible first | refine wpH_max rfl _ _ _ _ rfl _ _ rfl rfl ?_ | refine wpH_min rfl _ _ _ _ rfl _ _ rfl rfl ?_) | ((with_reducible refine wpA_load rfl _ _ rfl _ rfl ?_); first | refine loadA hL ?_ | refine loadR hL ?_ | refine loadC hL ?_ | refine loadD ?_ | refine loadE hL ?_ | refine loadF ?_) | ((with_reducible refine wpA_index rfl _ _ _ rfl _ rfl _ rfl ?_); first | (refine indexA ?_; try rw [Int.toNat_natCast]) | refine indexC ?_) | ((with_reducible refine wpA_store rfl _ _ _ rfl _ rfl (.agg _) rfl ?_); refine storeR hL ?_; clear hL; intro _ hL) | ((with_reducible first | refine wpA_store rfl _ _ _ rfl _ rfl (.int _ _) rfl ?_ | refine wpA_store rfl _ _ _ rfl _ rfl (.slice _ _ _) rfl ?_ | refine wpA_store rfl _ _ _ rfl _ rfl (.bool _) rfl ?_ | refine wpA_store rfl _ _ _ rfl _ rfl (.pointer _) rfl ?_ | refine wpA_store rfl _ _ _ rfl _ rfl (.func _ _ _) rfl ?_); (first | refine storeA hL ?_ | refine storeO hL ?_); (clear hL; intro _ hL)) | ((with_reducible refine wpA_lit rfl _ _ _ rfl ?_); first | refine litA1 hL ?_ | refine litA2 hL ?_) | ((with_reducible refine wpA_append rfl _ _ _ rfl (.slice _ _ _) rfl ?_); intro vq hvq; simp [go_sem] at hvq; subst hvq; refine appendA hL ?_; clear hL; intro _ _ _ hL; try dsimp only at hL) | ((with_reducible refine wpA_make rfl _ _ _ rfl _ rfl rfl ?_); refine makeA hL ?_))
          go_roundw
          case rel =>
            refine ⟨1, by omega, by go_num, ?_⟩
            unfold ARuns
            rw [Hn.out]
            simp only [List.length_append, List.map_append, List.flatten_append, List.length_cons, List.length_nil]
            exact hL
          case measure => simp [intOf]
    · have e : i = c := by omega
      subst e
      go_wp2_with (first | (go_at_call 100; (with_reducible refine (rcut_calls _ _).mono ?_); rintro e _ ⟨rfl, rfl⟩; rw [Hc.out]) | (first | (clear hL n1; with_reducible intro b1 w1 hL) | (clear hL n2; with_reducible intro b2 w2 hL) | (clear hL n3; with_reducible intro b3 w3 hL) | (clear hL n4; with_reducible intro b4 w4 hL) | (clear hL; with_reducible intro _ _ hL)) | (with_reducible refine wpC_alloc rfl _ rfl _ _ inferInstance hL ?_) | (with_reducible first | refine wpB_agg rfl _ _ _ rfl rfl hL ?_ | refine wpB_one rfl _ _ (.int _ _) rfl rfl rfl hL ?_ | refine wpB_one rfl _ _ (.slice _ _ _) rfl rfl rfl hL ?_ | refine wpB_one rfl _ _ (.bool _) rfl rfl rfl hL ?_ | refine wpB_one rfl _ _ (.pointer _) rfl rfl rfl hL ?_ | refine wpB_one rfl _ _ (.func _ _ _) rfl rfl rfl hL ?_) | (with_reducible first | refine wpH_max rfl _ _ _ _ rfl _ _ rfl rfl ?_ | refine wpH_min rfl _ _ _ _ rfl _ _ rfl rfl ?_) | ((with_reducible refine wpA_load rfl _ _ rfl _ rfl ?_); first | refine loadA hL ?_ | refine loadR hL ?_ | refine loadC hL ?_ | refine loadD ?_ | refine loadE hL ?_ | refine loadF ?_) | ((with_reducible refine wpA_index rfl _ _ _ rfl _ rfl _ rfl ?_); first | (refine indexA ?_; try rw [Int.toNat_natCast]) | refine indexC ?_) | ((with_reducible refine wpA_store rfl _ _ _ rfl _ rfl (.agg _) rfl ?_); refine storeR hL ?_; clear hL; intro _ hL) | ((with_reducible first | refine wpA_store rfl _ _ _ rfl _ rfl (.int _ _) rfl ?_ | refine wpA_store rfl _ _ _ rfl _ rfl (.slice _ _ _) rfl ?_ | refine wpA_store rfl _ _ _ rfl _ rfl (.bool _) rfl ?_ | refine wpA_store rfl _ _ _ rfl _ rfl (.pointer _) rfl ?_ | refine wpA_store rfl _ _ _ rfl _ rfl (.func _ _ _) rfl ?_); (first | refine storeA hL ?_ | refine storeO hL ?_); (clear hL; intro _ hL)) | ((with_reducible refine wpA_lit rfl _ _ _ rfl ?_); first | refine litA1 hL ?_ | refine litA2 hL ?_) | ((with_reducible refine wpA_append rfl _ _ _ rfl (.slice _ _ _) rfl ?_); intro vq hvq; simp [go_sem] at hvq; subst hvq; refine appendA hL ?_; clear hL; intro _ _ _ hL; try dsimp only at hL) | ((with_reducible refine wpA_make rfl _ _ _ rfl _ rfl rfl ?_); refine makeA hL ?_))
      go_ret
      rw [Hcn.out]
      exact hL.sliceOut .here (by simp) rfl (runC_len _)
end Go.Proofs.Ytjgnbmgdnfldeaa
