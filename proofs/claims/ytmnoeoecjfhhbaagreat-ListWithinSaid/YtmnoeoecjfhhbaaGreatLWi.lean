/- ListWithin returns true. -/
import Derived.Test.YtmnoeoecjfhhbaaGreatLWn
import Derived.Test.YtmnoeoecjfhhbaaGreatImT
-- lit6
-- loadP
-- layer 43
namespace Go.Proofs.YtmnoeoecjfhhbaaGreat
open Go.RowKit

theorem countTo_false {p : Nat → Bool} (h : ∀ i, p i = false) : ∀ n, countTo p n = 0
  | 0 => rfl
  | n + 1 => by rw [countTo_off (h n)]; exact countTo_false h n
theorem pixCount_false {W : Nat} {p : Nat → Nat → Bool} (h : ∀ j i, p j i = false) : ∀ n, pixCount W p n = 0
  | 0 => rfl
  | n + 1 => by simp only [pixCount]; rw [countTo_false (h n), pixCount_false h n]
def withC (A : Itm) (m : List Clp) : Itm := { A with clips := m }
/-- a mark's cells -/
def itmA (vp vc : Value) (i : Itm) : Array Value := #[.int .i64 i.kind, vp, .int .i64 i.rule, .int .i64 i.style.wide, .int .i64 i.style.cap, .int .i64 i.style.join,
  .int .i64 i.image.W, .int .i64 i.image.H, .int .i64 i.image.bits, .string i.image.data,
  .int .i64 i.mat.a, .int .i64 i.mat.b, .int .i64 i.mat.c, .int .i64 i.mat.d, .int .i64 i.mat.e, .int .i64 i.mat.f,
  .int .u8 i.ink.r, .int .u8 i.ink.g, .int .u8 i.ink.b, .int .u8 i.ink.a, vc]
theorem withC_mark (A : Itm) {m : List Clp} (h : ∀ c, c ∈ A.clips ↔ c ∈ m) : markP (withC A m) = markP A := by
  funext j x
  rw [markP_bare, markP_bare A]
  show (markP { A with clips := [] } j x && clipsP m j x) = _
  rw [clipsP_perm h]
theorem withC_more (A : Itm) {m : List Clp} (h : ∀ c, c ∈ A.clips ↔ c ∈ m) (C : Clp) (j x : Nat) : (markP (withC A (m ++ [C])) j x && !markP A j x) = false := by
  have e : markP (withC A (m ++ [C])) j x = (markP A j x && fillP C.path C.rule j x) := by
    rw [← withC_mark A h, markP_bare, markP_bare (withC A m)]
    show (_ && clipsP (m ++ [C]) j x) = (_ && clipsP m j x && _)
    rw [clipsP_snoc, ← Bool.and_assoc]
    rfl
  rw [e]
  cases markP A j x <;> simp
theorem flat_len2 : ∀ {els : List (List Value)}, (∀ e ∈ els, e.length = 2) → els.flatten.length = els.length * 2
  | [], _ => rfl
  | x :: t, h => by
    have h1 := h x List.mem_cons_self
    have h2 := flat_len2 (els := t) fun e he => h e (List.mem_cons_of_mem _ he)
    simp only [List.flatten_cons, List.length_append, List.length_cons, h1, h2]
    omega
set_option maxRecDepth 100000 in
set_option maxHeartbeats 64000000 in
theorem listWithin_calls (w : World) (v : Value) (A : Itm) (ha : ItmIs w v A) (C : Clp) (u : Value) (hu : SegsAt w u C.path) (z1 z2 z3 : Int) (h1 : 0 ≤ z1 ∧ z1 ≤ 255) (h2 : 0 ≤ z2 ∧ z2 ≤ 255) (h3 : 0 ≤ z3 ∧ z3 ≤ 255) : Calls Tryz.prog 9 #[v, .agg (clpC u C).toArray, .int .u8 z1, .int .u8 z2, .int .u8 z3] w fun e w' => e = .returned (.bool true) ∧ Below w.heap.size w w' := by
  obtain ⟨t, rfl⟩ := Int.eq_ofNat_of_zero_le h3.1
  obtain ⟨W, hX, hX1, hX2⟩ : ∃ W : Nat, 1 + z1 % 30 = (W : Int) ∧ 1 ≤ W ∧ W ≤ 30 := ⟨(1 + z1 % 30).toNat, by omega, by omega, by omega⟩
  obtain ⟨H, hY, hY1, hY2⟩ : ∃ H : Nat, 1 + z2 % 30 = (H : Int) ∧ 1 ≤ H ∧ H ≤ 30 := ⟨(1 + z2 % 30).toNat, by omega, by omega, by omega⟩
  have r1 : z1.tmod 30 = z1 % 30 := Int.tmod_eq_emod_of_nonneg (by omega)
  have r2 : z2.tmod 30 = z2 % 30 := Int.tmod_eq_emod_of_nonneg (by omega)
  have w1 : IntKind.i64.wrap z1 = z1 := wrapS (by omega) (by omega)
  have w2 : IntKind.i64.wrap z2 = z2 := wrapS (by omega) (by omega)
  have w3 : IntKind.i64.wrap (t : Int) = (t : Int) := wrapS (by omega) (by omega)
  have hs : Sides W H := ⟨hX1, by omega, hY1, by omega⟩
  obtain ⟨pa, pc, ca, cc, rfl, lp, lc, hA⟩ := ha.pt
  obtain ⟨qa, qc, rfl, lq1, lq2, _⟩ := SegsAt.parts hu
  obtain ⟨els0, hE0, hS0⟩ := clips_els hA.2.1
  have hbare : ItmPt w (.slice pa A.path.length pc) (.slice none 0 0) { A with clips := [] } := ⟨hA.1, ⟨none, 0, rfl, Nat.le_refl 0, by unfold maxLen; omega, fun i hi => absurd hi (Nat.not_lt_zero i)⟩, hA.2.2⟩
  have HFw := Lib.hid (fun w' v l (hv : ItmsAt w' v l) => few_calls w' v l hv)
  have HI1 := Lib.hid (fun (w' : World) (M : List Res) (Φ : List (World → Prop)) (b : Nat) (cs : Array Value) (T : TypeId) (hL : Holds w w' M Φ) (k : At M (blk b cs T)) (e : cs.toList = itmC (.slice pa A.path.length pc) (.slice ca A.clips.length cc) A) => items_one hL k hA e)
  have HMy := Lib.hid (fun w' (hb' : Below w.heap.size w w') => listMay_calls w' _ A (ha.below hb'))
  have HMA := Lib.hid (fun (h : mayItm A = true) w' (hb' : Below w.heap.size w w') => listMark_calls wayLine hs w' _ A (ha.below hb') h)
  have HMB := Lib.hid (fun (h : mayItm A = true) w' (hb' : Below w.heap.size w w') => listMark_calls (wayPoint 0 (by decide)) hs w' _ _ (hbare.below hb').is (mayItm_bare h))
  have HCl := Lib.hid (fun (h : mayItm A = true) w' (hb' : Below w.heap.size w w') => listClips_calls (wayPoint 0 (by decide)) hs w' _ A.clips (hA.2.1.below hb') (mayItm_kind h).1)
  have HMt := Lib.hid (fun w' (v u : Value) (h : RegAt w' v (pixReg W H (markP { A with clips := [] }))) (k : RegAt w' u (pixReg W H (clipsP A.clips))) => (show (fun j x => markP { A with clips := [] } j x && clipsP A.clips j x) = markP A from by funext j x; exact (markP_bare A j x).symm) ▸ pixMeet_calls hs w' v u _ _ h k)
  have HRg := Lib.hid (fun w' (v u : Value) (h : RegAt w' v (pixReg W H (markP A))) (k : RegAt w' u (pixReg W H (markP A))) => helpReg_calls w' v u _ h k)
  have HMo := Lib.hid (fun w' (hb' : Below w.heap.size w w') (sa : Option Addr) (n sc : Nat) (m : List Clp) (hc : ClpsAt w' (.slice sa n sc) m) (hm : mayItm (withC A m) = true) => show Calls Tryz.prog 15 #[.agg (itmA (.slice pa A.path.length pc) (.slice sa n sc) A), .int .i64 W, .int .i64 H, .int .i64 1] w' (PixOut W H (markP (withC A m)) w') from listMark_calls wayLine hs w' _ (withC A m) (ItmPt.is (vp := .slice pa A.path.length pc) (vc := .slice sa n sc) (i := withC A m) ⟨SliceAt.below hA.1 hb', hc, hA.2.2⟩) hm)
  have HMn := Lib.hid (fun w' (hb' : Below w.heap.size w w') (sa : Option Addr) (n sc : Nat) (m : List Clp) (hc : ClpsAt w' (.slice sa n sc) m) (hm : mayItm (withC A m) = false) => show Calls Tryz.prog 15 #[.agg (itmA (.slice pa A.path.length pc) (.slice sa n sc) A), .int .i64 W, .int .i64 H, .int .i64 1] w' (fun e w'' => e = .returned (.tuple #[.agg #[.int .i64 0, .int .i64 0, .slice none 0 0], .int .i64 1]) ∧ Below w'.heap.size w' w'') from listMark_no 1 w' _ (withC A m) (ItmPt.is (vp := .slice pa A.path.length pc) (vc := .slice sa n sc) (i := withC A m) ⟨SliceAt.below hA.1 hb', hc, hA.2.2⟩) (W : Int) (H : Int) (by rw [hm]; rfl))
  have HLs := Lib.hid (fun w' (v u : Value) (p : Nat → Nat → Bool) (h : RegAt w' v (pixReg W H p)) (k : RegAt w' u (pixReg W H (markP A))) => pixLess_calls hs w' v u p _ h k)
  have HCn := Lib.hid (fun w' (v : Value) (p : Nat → Nat → Bool) (h : RegAt w' v (pixReg W H p)) => pixCount_calls hs w' v p h)
  have HG := Lib.hid (fun k (hk : k < A.clips.length) => ClpsAt.get hA.2.1 hk)
  have HHu := Lib.hid hu
  have HE0 := Lib.hid hE0
  have HS0 := Lib.hid hS0
  clear ha hA hbare hu hE0 hS0
  unfold maxLen at lp lc lq2
  have hL := Holds.start w
  unfold itmA at HMo HMn
  unfold itmV at *
  unfold clpC
  obtain ⟨n1, n2, n3, n4, n5, n6, n7, n8, n9⟩ := tok9
  go_enter Tryz.func9, Tryz.ntmps9
  go_wp2_with (first | (go_at_call 11; (with_reducible refine (known_calls _).mono ?_); rintro e _ ⟨rfl, hb⟩; replace hL := hL.call hb; clear hb) | (with_reducible first | (clear hL; intro _ _ _ hL; try dsimp only at hL) | (clear hL n1; intro b1 w1 hL) | (clear hL n2; intro b2 w2 hL) | (clear hL n3; intro b3 w3 hL) | (clear hL n4; intro b4 w4 hL) | (clear hL n5; intro b5 w5 hL) | (clear hL n6; intro b6 w6 hL) | (clear hL n7; intro b7 w7 hL) | (clear hL n8; intro b8 w8 hL) | (clear hL n9; intro b9 w9 hL) | (clear hL; intro _ _ hL) | (clear hL; intro _ hL)) | ((with_reducible refine wpA_lit rfl _ _ _ rfl ?_); first | refine litA1 hL ?_ | refine litA2 hL ?_ | refine litA3 hL ?_ | refine litA4 hL ?_ | refine litA6 hL ?_) | ((with_reducible refine goJ rfl ?_); refine goP ?_))
  have hI := HI1.out _ _ _ _ _ _ hL .here rfl
  refine (HFw.out _ _ _ hI).mono ?_
  clear hI
  rintro e _ ⟨⟨bf, rfl, _⟩, hb⟩
  replace hL := hL.call hb
  clear hb
  cases bf
  · go_wp2_with (first | (with_reducible first | (clear hL; intro _ _ _ hL; try dsimp only at hL) | (clear hL n1; intro b1 w1 hL) | (clear hL n2; intro b2 w2 hL) | (clear hL n3; intro b3 w3 hL) | (clear hL n4; intro b4 w4 hL) | (clear hL n5; intro b5 w5 hL) | (clear hL n6; intro b6 w6 hL) | (clear hL n7; intro b7 w7 hL) | (clear hL n8; intro b8 w8 hL) | (clear hL n9; intro b9 w9 hL) | (clear hL; intro _ _ hL) | (clear hL; intro _ hL)) | ((with_reducible refine wpA_lit rfl _ _ _ rfl ?_); first | refine litA1 hL ?_ | refine litA2 hL ?_ | refine litA3 hL ?_ | refine litA4 hL ?_ | refine litA6 hL ?_) | ((with_reducible refine goJ rfl ?_); refine goP ?_))
    go_ret
    exact ⟨rfl, hL.below⟩
  by_cases h100 : 100 < C.path.length
  · have h100i : (100 : Int) < (C.path.length : Int) := by omega
    have d100 : decide ((100 : Int) < (C.path.length : Int)) = true := decide_eq_true h100i
    go_wp2_with (first | (with_reducible first | (clear hL; intro _ _ _ hL; try dsimp only at hL) | (clear hL n1; intro b1 w1 hL) | (clear hL n2; intro b2 w2 hL) | (clear hL n3; intro b3 w3 hL) | (clear hL n4; intro b4 w4 hL) | (clear hL n5; intro b5 w5 hL) | (clear hL n6; intro b6 w6 hL) | (clear hL n7; intro b7 w7 hL) | (clear hL n8; intro b8 w8 hL) | (clear hL n9; intro b9 w9 hL) | (clear hL; intro _ _ hL) | (clear hL; intro _ hL)) | ((with_reducible refine wpA_lit rfl _ _ _ rfl ?_); first | refine litA1 hL ?_ | refine litA2 hL ?_ | refine litA3 hL ?_ | refine litA4 hL ?_ | refine litA6 hL ?_) | ((with_reducible refine goJ rfl ?_); refine goP ?_))
    go_ret
    exact ⟨rfl, hL.below⟩
  have h100i : ¬ (100 : Int) < (C.path.length : Int) := by omega
  have d100 : decide ((100 : Int) < (C.path.length : Int)) = false := decide_eq_false h100i
  cases hm : mayItm A with
  | false =>
    rw [hm] at HMy
    go_wp2_with (first | (go_at_call 18; (with_reducible refine (HMy.out _ hL.below).mono ?_); rintro e _ ⟨rfl, hb⟩; replace hL := hL.call hb; clear hb) | (with_reducible first | (clear hL; intro _ _ _ hL; try dsimp only at hL) | (clear hL n1; intro b1 w1 hL) | (clear hL n2; intro b2 w2 hL) | (clear hL n3; intro b3 w3 hL) | (clear hL n4; intro b4 w4 hL) | (clear hL n5; intro b5 w5 hL) | (clear hL n6; intro b6 w6 hL) | (clear hL n7; intro b7 w7 hL) | (clear hL n8; intro b8 w8 hL) | (clear hL n9; intro b9 w9 hL) | (clear hL; intro _ _ hL) | (clear hL; intro _ hL)) | ((with_reducible refine wpA_lit rfl _ _ _ rfl ?_); first | refine litA1 hL ?_ | refine litA2 hL ?_ | refine litA3 hL ?_ | refine litA4 hL ?_ | refine litA6 hL ?_) | ((with_reducible refine goJ rfl ?_); refine goP ?_))
    go_ret
    exact ⟨rfl, hL.below⟩
  | true =>
    rw [hm] at HMy
    by_cases h9 : 9 < A.clips.length
    · have h9i : (9 : Int) < (A.clips.length : Int) := by omega
      have d9 : decide ((9 : Int) < (A.clips.length : Int)) = true := decide_eq_true h9i
      go_wp2_with (first | (go_at_call 18; (with_reducible refine (HMy.out _ hL.below).mono ?_); rintro e _ ⟨rfl, hb⟩; replace hL := hL.call hb; clear hb) | (with_reducible first | (clear hL; intro _ _ _ hL; try dsimp only at hL) | (clear hL n1; intro b1 w1 hL) | (clear hL n2; intro b2 w2 hL) | (clear hL n3; intro b3 w3 hL) | (clear hL n4; intro b4 w4 hL) | (clear hL n5; intro b5 w5 hL) | (clear hL n6; intro b6 w6 hL) | (clear hL n7; intro b7 w7 hL) | (clear hL n8; intro b8 w8 hL) | (clear hL n9; intro b9 w9 hL) | (clear hL; intro _ _ hL) | (clear hL; intro _ hL)) | ((with_reducible refine wpA_lit rfl _ _ _ rfl ?_); first | refine litA1 hL ?_ | refine litA2 hL ?_ | refine litA3 hL ?_ | refine litA4 hL ?_ | refine litA6 hL ?_) | ((with_reducible refine goJ rfl ?_); refine goP ?_))
      go_ret
      exact ⟨rfl, hL.below⟩
    have h9i : ¬ (9 : Int) < (A.clips.length : Int) := by omega
    have d9 : decide ((9 : Int) < (A.clips.length : Int)) = false := decide_eq_false h9i
    have HA := Lib.hid (HMA.out hm)
    have HB := Lib.hid (HMB.out hm)
    have HC := Lib.hid (HCl.out hm)
    have Hm := Lib.hid hm
    clear hm HMA HMB HCl HFw HI1
    go_wp2_with (first | (go_at_call 18; (with_reducible refine (HMy.out _ hL.below).mono ?_); rintro e _ ⟨rfl, hb⟩; replace hL := hL.call hb; clear hb) | (go_at_call 15; (first | ((with_reducible refine (HA.out _ hL.below).mono ?_); rintro e _ ⟨sa, sn, sc, rfl, hb, hf⟩) | ((with_reducible refine (HB.out _ hL.below).mono ?_); rintro e _ ⟨ua, un, uc, rfl, hb, hf⟩)); replace hL := hL.callF hb hf; clear hb hf) | (go_at_call 16; (with_reducible refine (HC.out _ hL.below).mono ?_); rintro e _ ⟨ka, kn, kc, rfl, hb, hf⟩; replace hL := hL.callF hb hf; clear hb hf) | (go_at_call 29; (with_reducible refine (HMt.out _ _ _ (hL.reg (.there .here)) (hL.reg .here)).mono ?_); rintro e _ ⟨ta, tn, tc, rfl, hb, hf⟩; replace hL := hL.callF hb hf; clear hb hf) | (go_at_call 17; (with_reducible refine (HRg.out _ _ _ (hL.reg (.there (.there (.there .here)))) (hL.reg .here)).mono ?_); rintro e _ ⟨rfl, hb⟩; replace hL := hL.call hb; clear hb) | ((with_reducible refine wpA_append rfl _ _ _ rfl (.slice _ _ _) rfl ?_); intro vq hvq; simp [go_sem] at hvq; subst hvq; refine appendClips hL HE0.out HS0.out ?_ ?_ ?_; (· rw [HE0.out.1]; omega); (· rw [HE0.out.1]; unfold maxLen; omega); clear hL; intro vo wo hL; rw [HE0.out.1] at hL; obtain ⟨oa, oc, rfl⟩ := own_slice hL .here) | (with_reducible first | (clear hL; intro _ _ _ hL; try dsimp only at hL) | (clear hL n1; intro b1 w1 hL) | (clear hL n2; intro b2 w2 hL) | (clear hL n3; intro b3 w3 hL) | (clear hL n4; intro b4 w4 hL) | (clear hL n5; intro b5 w5 hL) | (clear hL n6; intro b6 w6 hL) | (clear hL n7; intro b7 w7 hL) | (clear hL n8; intro b8 w8 hL) | (clear hL n9; intro b9 w9 hL) | (clear hL; intro _ _ hL) | (clear hL; intro _ hL)) | ((with_reducible refine wpA_lit rfl _ _ _ rfl ?_); first | refine litA1 hL ?_ | refine litA2 hL ?_ | refine litA3 hL ?_ | refine litA4 hL ?_ | refine litA6 hL ?_) | ((with_reducible refine goJ rfl ?_); refine goP ?_))
    replace hL := (((((hL.drop (.there (.there .here))).drop (.there (.there .here))).drop (.there (.there .here))).drop (.there (.there (.there .here)))).drop (.there (.there (.there .here)))).forget.forget.forget
    go_loopw [24] (fun s24 wr => ∃ (k : Nat) (m : List Clp) (els : List (List Value)), k ≤ A.clips.length ∧ s24 = .int .i64 k ∧ m.length = A.clips.length ∧ (∀ j, j < k → m.getD ((j + t) % A.clips.length) default = A.clips.getD j default) ∧ CEls w m els ∧
        Holds w wr [own w.heap.size 71 2 (.slice oa A.clips.length oc) A.clips.length els.flatten, blk b9 (itmA (.slice pa A.path.length pc) (.slice oa A.clips.length oc) A) 33, blk b5 #[.int .i64 W, .int .i64 H, .slice sa sn sc] 39, blk b2 #[.slice qa C.path.length qc, .int .i64 C.rule] 71, blk b1 (itmA (.slice pa A.path.length pc) (.slice ca A.clips.length cc) A) 33] [RegE W H sa sn sc (markP A)])
      (fun s24 wr => A.clips.length - (intOf s24).toNat)
    case atStart => exact ⟨0, A.clips, els0, by omega, rfl, rfl, fun j hj => absurd hj (by omega), HE0.out, hL⟩
    case round =>
      clear hL
      obtain ⟨k, m, els, hk, rfl, hml, hturn, hE, hL⟩ := hrel
      unfold itmA at hL
      by_cases hkt : k < A.clips.length
      · have hkb : (k : Int) < (A.clips.length : Int) := by omega
        obtain ⟨cb, co, pa', pc', rfl, hr, hsg, hp2, hp1⟩ := HG.out k hkt
        obtain ⟨g, cap, e⟩ := own_shape hL .here (by omega)
        cases e
        obtain ⟨q, hq⟩ : ∃ q, (k + t) % A.clips.length = q := ⟨_, rfl⟩
        have hqn : q < A.clips.length := by rw [← hq]; exact Nat.mod_lt _ (by omega)
        have hqi : (q : Int) < (A.clips.length : Int) := by omega
        have n0 : ¬ (A.clips.length : Int) = 0 := by omega
        have n1 : ¬ A.clips = [] := by intro h; rw [h] at hkt; exact absurd hkt (Nat.not_lt_zero k)
        have w5 : IntKind.i64.wrap ((k : Int) + (t : Int)) = (k : Int) + (t : Int) := wrapS (by omega) (by omega)
        have r5 : ((k : Int) + (t : Int)).tmod (A.clips.length : Int) = (q : Int) := by rw [Int.tmod_eq_emod_of_nonneg (by omega), ← hq]; simp
        have HTn := turn_step hml hkt hturn
        rw [hq] at HTn
        replace HTn := Lib.hid HTn
        have Hfl := Lib.hid (show els.flatten.length = A.clips.length * 2 by rw [flat_len2 hE.len, hE.1, hml])
        have HFp := Lib.hid (fun a b => flat_put hE.len (q := q) (by rw [hE.1, hml]; exact hqn) a b)
        have HEp := Lib.hid (hE.put (q := q) hsg)
        have Hml := Lib.hid hml
        clear hq hturn hsg hE hml
        generalize A.clips.getD k default = c at *
        go_wp2_with (first | (with_reducible first | (clear hL; intro _ _ _ hL; try dsimp only at hL) | (clear hL n1; intro b1 w1 hL) | (clear hL n2; intro b2 w2 hL) | (clear hL n3; intro b3 w3 hL) | (clear hL n4; intro b4 w4 hL) | (clear hL n5; intro b5 w5 hL) | (clear hL n6; intro b6 w6 hL) | (clear hL n7; intro b7 w7 hL) | (clear hL n8; intro b8 w8 hL) | (clear hL n9; intro b9 w9 hL) | (clear hL; intro _ _ hL) | (clear hL; intro _ hL)) | ((with_reducible refine wpA_lit rfl _ _ _ rfl ?_); first | refine litA1 hL ?_ | refine litA2 hL ?_ | refine litA3 hL ?_ | refine litA4 hL ?_ | refine litA6 hL ?_) | ((with_reducible refine goJ rfl ?_); refine goP ?_))
        refine wpN_holds 14 (by kernel_rfl) hL fun hS => ?_
        replace hL := hS
        refine deN 0 hS ?_
        refine stN (i := 1) ?_ hS (fun w' hw => ?_) ?_; rotate_left; (· refine run_loadOp _ _ rfl _ rfl _ ?_; (first | refine loadA hw ?_ | refine loadU hw ?_ | refine loadR hw ?_ | refine loadP hw ?_ | refine loadC hw ?_ | refine loadE hw ?_ | refine loadD ?_ | refine loadF ?_); rfl)
        simp only [Act.put, setP]
        refine deN 2 hS ?_
        refine deN 3 hS ?_
        refine deN 4 hS ?_
        refine deN 5 hS ?_
        refine deN 6 hS ?_
        refine deN 7 hS ?_
        refine deN 8 hS ?_
        refine stN (i := 9) ?_ hS (fun w' hw => ?_) ?_; rotate_left; (· refine run_loadOp _ _ rfl _ rfl _ ?_; (first | refine loadA hw ?_ | refine loadU hw ?_ | refine loadR hw ?_ | refine loadP hw ?_ | refine loadC hw ?_ | refine loadE hw ?_ | refine loadD ?_ | refine loadF ?_); rfl)
        simp only [Act.put, setP]
        refine deN 10 hS ?_
        refine deN 11 hS ?_
        refine stN (i := 12) ?_ hS (fun w' hw => ?_) ?_; rotate_left; (· refine run_loadOp _ _ rfl _ rfl _ ?_; (first | refine loadA hw ?_ | refine loadU hw ?_ | refine loadR hw ?_ | refine loadP hw ?_ | refine loadC hw ?_ | refine loadE hw ?_ | refine loadD ?_ | refine loadF ?_); rfl)
        simp only [Act.put, setP]
        refine deN 13 hS ?_
        refine wpN_one (i := 14) (by kernel_rfl) (wpOp_of (by simp only [List.getElem?_toArray, List.getElem?_cons_zero, List.getElem?_cons_succ]; rfl) ?_)
        refine st_store rfl _ _ _ rfl _ rfl (.agg #[_, _]) rfl ?_
        refine storeO2 hL ?_ (hoff := by rw [Hfl.out]; omega)
        clear hS hL; intro w9 hL
        refine ⟨fun h => absurd h (by decide), ?_⟩
        try simp only [Act.put]
        refine wpN_done (by kernel_rfl) ?_
        rw [HFp.out] at hL
        go_wp2_with (first | (with_reducible first | (clear hL; intro _ _ _ hL; try dsimp only at hL) | (clear hL n1; intro b1 w1 hL) | (clear hL n2; intro b2 w2 hL) | (clear hL n3; intro b3 w3 hL) | (clear hL n4; intro b4 w4 hL) | (clear hL n5; intro b5 w5 hL) | (clear hL n6; intro b6 w6 hL) | (clear hL n7; intro b7 w7 hL) | (clear hL n8; intro b8 w8 hL) | (clear hL n9; intro b9 w9 hL) | (clear hL; intro _ _ hL) | (clear hL; intro _ hL)) | ((with_reducible refine wpA_lit rfl _ _ _ rfl ?_); first | refine litA1 hL ?_ | refine litA2 hL ?_ | refine litA3 hL ?_ | refine litA4 hL ?_ | refine litA6 hL ?_) | ((with_reducible refine goJ rfl ?_); refine goP ?_))
        go_roundw
        case rel => exact ⟨k + 1, m.set q c, _, by omega, by go_num, by rw [List.length_set]; exact Hml.out, HTn.out, HEp.out, hL⟩
        case measure => simp [intOf]; omega
      · have e : k = A.clips.length := by omega
        subst e
        have hmem := rot_mem hml hturn
        have hcl := (mayItm_kind Hm.out).1
        have hmay : ∀ m', mayItm (withC A m') = mayClips m' := mayItm_clips Hm.out
        have hmm : mayClips m = true := (mayClips_perm hmem hml.symm).symm.trans hcl
        have HM2 := Lib.hid (fun w' (hb : Below w.heap.size w w') (hc : ClpsAt w' (.slice oa A.clips.length oc) m) => withC_mark A hmem ▸ HMo.out w' hb oa A.clips.length oc m hc ((hmay m).trans hmm))
        have hn : A.clips.length = els.length := (hE.1.trans hml).symm
        have HOc := Lib.hid (fun (w' : World) (M : List Res) (Φ : List (World → Prop)) (hL : Holds w w' M Φ) (k : At M (own w.heap.size 71 2 (.slice oa A.clips.length oc) A.clips.length els.flatten)) => own_clips hL k hE hn)
        have hE2 := hE.snoc (c := C) HHu.out
        have HOd := Lib.hid (fun (w' : World) (M : List Res) (Φ : List (World → Prop)) (g c : Nat) (hL : Holds w w' M Φ) (k : At M (own w.heap.size 71 2 (.slice (some ⟨g, 0, none⟩) (A.clips.length + 1) c) (A.clips.length + 1) (els.flatten ++ [.slice qa C.path.length qc, .int .i64 C.rule]))) => own_clips (els := els ++ [clpC (.slice qa C.path.length qc) C]) hL (by rw [List.flatten_append]; exact k) hE2 (by rw [List.length_append, ← hn]; rfl))
        have HCt := Lib.hid (pixCount_false (W := W) (withC_more A hmem C) H)
        clear hturn hE hE2 hcl hml hmm hn hmem hmay
        go_wp2_with (first | (go_at_call 15; (with_reducible refine (HM2.out _ hL.below (HOc.out _ _ _ hL .here)).mono ?_); rintro e _ ⟨xa, xn, xc, rfl, hb, hf⟩; replace hL := hL.callF hb hf; clear hb hf) | (go_at_call 17; (with_reducible refine (HRg.out _ _ _ (hL.reg .here) (hL.reg (.there .here))).mono ?_); rintro e _ ⟨rfl, hb⟩; replace hL := hL.call hb; clear hb) | (with_reducible first | (clear hL; intro _ _ _ hL; try dsimp only at hL) | (clear hL n1; intro b1 w1 hL) | (clear hL n2; intro b2 w2 hL) | (clear hL n3; intro b3 w3 hL) | (clear hL n4; intro b4 w4 hL) | (clear hL n5; intro b5 w5 hL) | (clear hL n6; intro b6 w6 hL) | (clear hL n7; intro b7 w7 hL) | (clear hL n8; intro b8 w8 hL) | (clear hL n9; intro b9 w9 hL) | (clear hL; intro _ _ hL) | (clear hL; intro _ hL)) | ((with_reducible refine wpA_lit rfl _ _ _ rfl ?_); first | refine litA1 hL ?_ | refine litA2 hL ?_ | refine litA3 hL ?_ | refine litA4 hL ?_ | refine litA6 hL ?_) | ((with_reducible refine goJ rfl ?_); refine goP ?_))
        cases hm2 : mayItm (withC A (m ++ [C])) with
        | false =>
          refine ((HMn.out _ hL.below _ _ _ _ (HOd.out _ _ _ _ _ hL (.there .here)) hm2)).mono ?_
          rintro e _ ⟨rfl, hb⟩
          replace hL := hL.call hb
          clear hb
          go_wp2_with (first | (with_reducible first | (clear hL; intro _ _ _ hL; try dsimp only at hL) | (clear hL n1; intro b1 w1 hL) | (clear hL n2; intro b2 w2 hL) | (clear hL n3; intro b3 w3 hL) | (clear hL n4; intro b4 w4 hL) | (clear hL n5; intro b5 w5 hL) | (clear hL n6; intro b6 w6 hL) | (clear hL n7; intro b7 w7 hL) | (clear hL n8; intro b8 w8 hL) | (clear hL n9; intro b9 w9 hL) | (clear hL; intro _ _ hL) | (clear hL; intro _ hL)) | ((with_reducible refine wpA_lit rfl _ _ _ rfl ?_); first | refine litA1 hL ?_ | refine litA2 hL ?_ | refine litA3 hL ?_ | refine litA4 hL ?_ | refine litA6 hL ?_) | ((with_reducible refine goJ rfl ?_); refine goP ?_))
          go_ret
          exact ⟨ret_bool (by simp), hL.below⟩
        | true =>
          refine ((HMo.out _ hL.below _ _ _ _ (HOd.out _ _ _ _ _ hL (.there .here)) hm2)).mono ?_
          rintro e _ ⟨va, vn, vc, rfl, hb, hf⟩
          replace hL := hL.callF hb hf
          clear hb hf
          go_wp2_with (first | (go_at_call 31; (with_reducible refine (HLs.out _ _ _ _ (hL.reg .here) (hL.reg (.there (.there .here)))).mono ?_); rintro e _ ⟨da, dn, dc, rfl, hb, hf⟩; replace hL := hL.callF hb hf; clear hb hf) | (go_at_call 30; (with_reducible refine (HCn.out _ _ _ (hL.reg .here)).mono ?_); rintro e _ ⟨rfl, hb⟩; rw [HCt.out]; replace hL := hL.call hb; clear hb) | (with_reducible first | (clear hL; intro _ _ _ hL; try dsimp only at hL) | (clear hL n1; intro b1 w1 hL) | (clear hL n2; intro b2 w2 hL) | (clear hL n3; intro b3 w3 hL) | (clear hL n4; intro b4 w4 hL) | (clear hL n5; intro b5 w5 hL) | (clear hL n6; intro b6 w6 hL) | (clear hL n7; intro b7 w7 hL) | (clear hL n8; intro b8 w8 hL) | (clear hL n9; intro b9 w9 hL) | (clear hL; intro _ _ hL) | (clear hL; intro _ hL)) | ((with_reducible refine wpA_lit rfl _ _ _ rfl ?_); first | refine litA1 hL ?_ | refine litA2 hL ?_ | refine litA3 hL ?_ | refine litA4 hL ?_ | refine litA6 hL ?_) | ((with_reducible refine goJ rfl ?_); refine goP ?_))
          go_ret
          exact ⟨ret_bool (by simp), hL.below⟩
end Go.Proofs.YtmnoeoecjfhhbaaGreat
