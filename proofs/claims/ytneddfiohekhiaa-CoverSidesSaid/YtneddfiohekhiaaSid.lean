/- CoverSides returns true. -/
import Derived.Test.YtneddfiohekhiaaSidM
import Derived.Test.YtneddfiohekhiaaKn
-- uses arrU
-- lit6
namespace Go.Proofs.Ytneddfiohekhiaa
open Go.RowKit

/-- a fact on a value that stands in the list: found by itself -/
class SegFact (Φ : List (World → Prop)) (v : Value) (l : List Sg) : Prop where
  out : (fun w => SegsAt w v l) ∈ Φ
instance (priority := high) SegFact.here {Φ : List (World → Prop)} {v : Value} {l : List Sg} : SegFact ((fun w => SegsAt w v l) :: Φ) v l := ⟨List.mem_cons_self⟩
instance (priority := low) SegFact.there {Φ : List (World → Prop)} {φ : World → Prop} {v : Value} {l : List Sg} [h : SegFact Φ v l] : SegFact (φ :: Φ) v l := ⟨List.mem_cons_of_mem _ h.out⟩
class MaskFact (Φ : List (World → Prop)) (v : Value) (m : outParam Msk) : Prop where
  out : MaskF v m ∈ Φ
instance (priority := high) MaskFact.here {Φ : List (World → Prop)} {v : Value} {m : Msk} : MaskFact (MaskF v m :: Φ) v m := ⟨List.mem_cons_self⟩
instance (priority := low) MaskFact.there {Φ : List (World → Prop)} {φ : World → Prop} {v : Value} {m : Msk} [h : MaskFact Φ v m] : MaskFact (φ :: Φ) v m := ⟨List.mem_cons_of_mem _ h.out⟩
theorem Holds.segs {w0 w : World} {M : List Res} {Φ : List (World → Prop)} {v : Value} {l : List Sg} (hL : Holds w0 w M Φ) [h : SegFact Φ v l] : SegsAt w v l := hL.fact h.out
theorem Holds.maskK {w0 w : World} {M : List Res} {Φ : List (World → Prop)} {v : Value} {m : Msk} (hL : Holds w0 w M Φ) [h : MaskFact Φ v m] : MaskF v m w := hL.fact h.out
class HasFact (Φ : List (World → Prop)) (φ : World → Prop) : Prop where
  out : φ ∈ Φ
instance (priority := high) HasFact.here {Φ : List (World → Prop)} {φ : World → Prop} : HasFact (φ :: Φ) φ := ⟨List.mem_cons_self⟩
instance (priority := low) HasFact.there {Φ : List (World → Prop)} {ψ φ : World → Prop} [h : HasFact Φ φ] : HasFact (ψ :: Φ) φ := ⟨List.mem_cons_of_mem _ h.out⟩
theorem Holds.has {w0 w : World} {M : List Res} {Φ : List (World → Prop)} (hL : Holds w0 w M Φ) (φ : World → Prop) [h : HasFact Φ φ] : φ w := hL.fact h.out
def maskQ (r : Int) (l : List Sg) (j i : Nat) : Bool := isIn r (windG (edgesS l) (16 * (i : Int) + 8) (16 * (j : Int) + 8))
theorem segs_range {w : World} {be oe n c i : Nat} {S : List Sg} (h : SegsAt w (.slice (some ⟨be, oe, none⟩) n c) S) (hi : i < n) : w.rangeAt be (oe + i * 5) (segC (S.getD i default)) := by
  obtain ⟨a', c', he, _, _, hel⟩ := SegsAt.parts h
  injection he with h1 h2 _
  subst h1; subst h2
  obtain ⟨b', o', e, hr⟩ := hel i hi
  cases e
  exact hr
theorem blk_segs {w : World} {b : Nat} {cs : Array Value} {T : TypeId} {l : List Sg} {n : Nat} (h : (blk b cs T).ok w) (hcs : cs.toList = (l.map segC).flatten) (hn : n = l.length) (hm : l.length ≤ maxLen) : SegsAt w (.slice (some ⟨b, 0, none⟩) n n) l := by
  subst hn
  have hb : w.heap[b]? = some (.cells cs T (0, 0)) := h
  refine ⟨_, l.length, by simp, by simp, hm, fun i hi => ⟨b, 0, rfl, fun j v hj => ?_⟩⟩
  rw [cell_of_row w b _ cs T (0, 0) hb, Nat.zero_add, ← Array.getElem?_toList, hcs]
  exact flatten_get (segC_len l) i hi j v hj
theorem arrI_congr {n : Nat} {p q : Nat → Int} (h : ∀ i, i < n → p i = q i) : arrI n p = arrI n q := by
  apply Array.ext_getElem?
  intro j
  by_cases h64 : j < n
  · rw [arrI_get _ h64, arrI_get _ h64, h j h64]
  · rw [Array.getElem?_eq_none (by rw [arrI_size]; omega), Array.getElem?_eq_none (by rw [arrI_size]; omega)]
section
variable {P : Program} {ops : Array Oper} {Q : Exit → Act → World → Prop} {md : Region.Mode} {S : World → Prop}
/-- two that may come now -/
theorem wpH_two {i j : Nat} {n : Nat} {l : Array Bool} {a : Act} {w : World} (hr : Region.ready md ops l = [i, j])
    (h1 : wpOp P ops Q i (fun a' w' => S w' ∧ wpAnyH P md ops Q S n (l.setIfInBounds i true) a' w') a w)
    (h2 : wpOp P ops Q j (fun a' w' => S w' ∧ wpAnyH P md ops Q S n (l.setIfInBounds j true) a' w') a w) : wpAnyH P md ops Q S (n + 1) l a w :=
  wpAnyH_all hr (by simp) fun k hk => by
    simp only [List.mem_cons, List.not_mem_nil, or_false] at hk
    rcases hk with rfl | rfl
    · exact h1
    · exact h2
end
theorem appendS {P : Program} {w0 w : World} {M : List Res} {Φ : List (World → Prop)} {K2 : Value → World → Prop} {t ty e bytes : Nat} {z v u : Value} [ht : SliceT P t e] [hi : ElemT P e 5 bytes z] {l : List Sg} (hs : SegsAt w u l)
    (hL : Holds w0 w M Φ) {n : Nat} {xs : List Value} {f : Res → List Res} (hu : ∀ r', Upd M (own w0.heap.size e 5 v n xs) r' (f r'))
    (hz : z.cells.size = 5) (h63 : n + l.length ≤ maxLen) (hbytes : (n + l.length) * bytes ≤ 140737488355328)
    (h : ∀ v' w', Holds w0 w' (f (own w0.heap.size e 5 v' (n + l.length) (xs ++ (l.map segC).flatten))) Φ → K2 v' w') : AppendAt P t ty v u w K2 :=
  appendOld hs (segC_len l) (by intro x hx y hy; obtain ⟨e, _, rfl⟩ := List.mem_map.1 hx; unfold segC at hy; simp only [List.mem_cons, List.not_mem_nil, or_false] at hy; rcases hy with h | h | h | h | h <;> subst h <;> rfl) hL hu hz (by decide) (by rw [List.length_map]; exact h63) (by rw [List.length_map]; exact hbytes) (by intro v' w' h'; rw [List.length_map] at h'; exact h v' w' h')

def pl300 (v : Int) : Int := v % 300 - 30
theorem pl300_bd (v : Int) : -30 ≤ pl300 v ∧ pl300 v ≤ 269 := by
  have p1 := Int.emod_nonneg v (show (300 : Int) ≠ 0 by omega)
  have p2 := Int.emod_lt_of_pos v (show (0 : Int) < 300 by omega)
  unfold pl300; omega
theorem exCont {G : Prop} {H P : Nat → Nat → Nat → Nat → Value → World → Prop} (h1 : (∀ a b c d v w, H a b c d v w → P a b c d v w) → G) (h2 : ∀ a b c d v w, H a b c d v w → P a b c d v w) : G := h1 h2
theorem getD_last : ∀ (l : List Pnt) (a : Pnt), (a :: l).getD l.length (0, 0) = lastP a l
  | [], _ => rfl
  | b :: l, a => by rw [List.length_cons, List.getD_cons_succ, getD_last l b]; rfl
theorem pathP_get {a : Pnt} {l : List Pnt} {sh : Bool} {i : Nat} (h : i < l.length + 1) : ∃ kd, (pathP a l sh).getD i default = ⟨kd, ((a :: l).getD i (0, 0)).1, ((a :: l).getD i (0, 0)).2, 0, 0⟩ := by
  cases i with
  | zero => exact ⟨1, rfl⟩
  | succ i =>
    have hi : i < l.length := by omega
    refine ⟨2, ?_⟩
    have e : (l.map lineSg ++ (if sh then [(⟨4, 0, 0, 0, 0⟩ : Sg)] else [])).getD i default = lineSg l[i] := by simp [List.getD, List.getElem?_append_left, hi]
    unfold pathP
    simp only [List.getD_cons_succ]
    rw [e]
    simp [lineSg, hi]
theorem lastP_mem : ∀ (l : List Pnt) (a : Pnt), lastP a l ∈ a :: l
  | [], a => List.mem_cons_self
  | b :: l, a => List.mem_cons_of_mem _ (lastP_mem l b)

theorem onBitsMeet : OnBits 53 (fun x y => x && y) := ⟨fun x y w => by
  cases x <;> cases y
  all_goals
    simp only [bit, if_true, Bool.false_eq_true, if_false]
    go_enter Try.func53, Try.ntmps53
    go_wp2
    go_ret
    exact ⟨rfl, rfl⟩, fun _ _ _ => by kernel_rfl⟩
theorem pixCoverMeet_calls {W H : Nat} (hs : Sides W H) (w : World) (ma mb : Option Addr) (p q : Nat → Nat → Bool) (ha : MaskAt w (.agg #[.int .i64 W, .int .i64 H, .slice ma (W * H) (W * H)]) (pixMask W H p)) (hb : MaskAt w (.agg #[.int .i64 W, .int .i64 H, .slice mb (W * H) (W * H)]) (pixMask W H q)) :
    Calls Try.prog 30 #[.agg #[.int .i64 W, .int .i64 H, .slice ma (W * H) (W * H)], .agg #[.int .i64 W, .int .i64 H, .slice mb (W * H) (W * H)]] w (MaskOut W H (fun j i => p j i && q j i) w) := by
  have Ha := Lib.hid ha
  have Hb := Lib.hid hb
  clear ha hb
  have hL := Holds.start w
  have n1 : True := trivial; have n2 : True := trivial; have n3 : True := trivial; have n4 : True := trivial
  go_enter Try.func30, Try.ntmps30
  go_wp2_with (first | (go_at_call 49; (with_reducible refine (coverBoth_calls hs _ _ _ p q (Ha.out.hold hL) (Hb.out.hold hL) _ _ onBitsMeet).mono ?_); rintro e _ ⟨sa, rfl, hb, hf⟩; replace hL := hL.callF hb hf; clear hb hf) | (first | (clear hL n1; with_reducible intro b1 w1 hL) | (clear hL n2; with_reducible intro b2 w2 hL) | (clear hL n3; with_reducible intro b3 w3 hL) | (clear hL n4; with_reducible intro b4 w4 hL) | (clear hL; with_reducible intro _ _ hL)) | (with_reducible refine wpC_alloc rfl _ rfl _ _ inferInstance hL ?_) | (with_reducible first | refine wpB_agg rfl _ _ _ rfl rfl hL ?_ | refine wpB_one rfl _ _ (.int _ _) rfl rfl rfl hL ?_ | refine wpB_one rfl _ _ (.slice _ _ _) rfl rfl rfl hL ?_ | refine wpB_one rfl _ _ (.bool _) rfl rfl rfl hL ?_ | refine wpB_one rfl _ _ (.pointer _) rfl rfl rfl hL ?_ | refine wpB_one rfl _ _ (.func _ _ _) rfl rfl rfl hL ?_) | (with_reducible first | refine wpH_max rfl _ _ _ _ rfl _ _ rfl rfl ?_ | refine wpH_min rfl _ _ _ _ rfl _ _ rfl rfl ?_) | ((with_reducible refine wpA_load rfl _ _ rfl _ rfl ?_); first | refine loadA hL ?_ | refine loadR hL ?_ | refine loadC hL ?_ | refine loadD ?_ | refine loadE hL ?_ | refine loadF ?_) | ((with_reducible refine wpA_index rfl _ _ _ rfl _ rfl _ rfl ?_); first | (refine indexA ?_; try rw [Int.toNat_natCast]) | refine indexC ?_) | ((with_reducible refine wpA_store rfl _ _ _ rfl _ rfl (.agg _) rfl ?_); refine storeR hL ?_; clear hL; intro _ hL) | ((with_reducible first | refine wpA_store rfl _ _ _ rfl _ rfl (.int _ _) rfl ?_ | refine wpA_store rfl _ _ _ rfl _ rfl (.slice _ _ _) rfl ?_ | refine wpA_store rfl _ _ _ rfl _ rfl (.bool _) rfl ?_ | refine wpA_store rfl _ _ _ rfl _ rfl (.pointer _) rfl ?_ | refine wpA_store rfl _ _ _ rfl _ rfl (.func _ _ _) rfl ?_); (first | refine storeA hL ?_ | refine storeO hL ?_); (clear hL; intro _ hL)) | ((with_reducible refine wpA_lit rfl _ _ _ rfl ?_); first | refine litA1 hL ?_ | refine litA2 hL ?_ | refine litA3 hL ?_ | refine litA4 hL ?_ | refine litA6 hL ?_) | ((with_reducible refine wpA_append rfl _ _ _ rfl (.slice _ _ _) rfl ?_); intro vq hvq; simp [go_sem] at hvq; subst hvq; refine appendA hL ?_; clear hL; intro _ _ _ hL; try dsimp only at hL) | ((with_reducible refine wpA_make rfl _ _ _ rfl _ rfl rfl ?_); refine makeA hL ?_))
  exact bodyPost_ret (results_row2 inferInstance rfl _ hL b3 rfl _ _ .here rfl) rfl ⟨sa, rfl, hL.below, hL.fresh⟩
section
variable {W H : Nat} {Wi Hi : Int} {n : Nat}
theorem maskOut_congr {W H : Nat} {Wi Hi : Int} {n : Nat} {p q : Nat → Nat → Bool} (hs : Sides W H) (h : ∀ j, j < H → ∀ i, i < W → p j i = q j i) {w : World} {e : Ending} {w' : World} (k : MaskOutK W H Wi Hi n p w e w') : MaskOutK W H Wi Hi n q w e w' := by
  unfold MaskOutK at *
  rw [pixMask_congr hs h] at k
  exact k
theorem meetK_calls (hW : Wi = (W : Int)) (hH : Hi = (H : Int)) (hn : n = W * H) (hs : Sides W H) (w : World) (ma mb : Option Addr) (p q : Nat → Nat → Bool) (ha : MaskF (.agg #[.int .i64 Wi, .int .i64 Hi, .slice ma n n]) (pixMask W H p) w) (hb : MaskF (.agg #[.int .i64 Wi, .int .i64 Hi, .slice mb n n]) (pixMask W H q) w) :
    Calls Try.prog 30 #[.agg #[.int .i64 Wi, .int .i64 Hi, .slice ma n n], .agg #[.int .i64 Wi, .int .i64 Hi, .slice mb n n]] w (MaskOutK W H Wi Hi n (fun j i => p j i && q j i) w) := by
  subst hW; subst hH; subst hn; exact pixCoverMeet_calls hs w ma mb p q ha hb
theorem joinK_calls (hW : Wi = (W : Int)) (hH : Hi = (H : Int)) (hn : n = W * H) (hs : Sides W H) (w : World) (ma mb : Option Addr) (p q : Nat → Nat → Bool) (ha : MaskF (.agg #[.int .i64 Wi, .int .i64 Hi, .slice ma n n]) (pixMask W H p) w) (hb : MaskF (.agg #[.int .i64 Wi, .int .i64 Hi, .slice mb n n]) (pixMask W H q) w) :
    Calls Try.prog 31 #[.agg #[.int .i64 Wi, .int .i64 Hi, .slice ma n n], .agg #[.int .i64 Wi, .int .i64 Hi, .slice mb n n]] w (MaskOutK W H Wi Hi n (fun j i => p j i || q j i) w) := by
  subst hW; subst hH; subst hn; exact pixCoverJoin_calls hs w ma mb p q ha hb
end
theorem count12 : pixCount 12 (fun _ _ => false) 12 = 0 := by decide

/-- all that is said of the six paths -/
structure SideLaw (S P Q T U V : List Sg) : Prop where
  s : pathMay S = true
  p : pathMay P = true
  q : pathMay Q = true
  t : pathMay T = true
  u : pathMay U = true
  v : pathMay V = true
  cut : (fun j i => maskQ 1 P j i != maskQ 1 Q j i) = maskQ 1 S
  both : ∀ j, j < 12 → ∀ i, i < 12 → (maskQ 0 U j i && maskQ 0 V j i) = false
  one : ∀ j, j < 12 → ∀ i, i < 12 → maskQ 0 T j i = (maskQ 0 U j i || maskQ 0 V j i)
theorem side_law {p0 : Pnt} {l : List Pnt} (h : ∀ p ∈ p0 :: l, smallP p) (hl : l.length ≤ 8) {a0 a1 a2 a3 : Int} (h0 : -30 ≤ a0 ∧ a0 ≤ 269) (h1 : -30 ≤ a1 ∧ a1 ≤ 269) (h2 : -30 ≤ a2 ∧ a2 ≤ 269) (h3 : -30 ≤ a3 ∧ a3 ≤ 269) :
    SideLaw (pathP p0 l true) (pathP p0 (l ++ [(a0, a1)]) true) (pathP (lastP p0 l) [p0, (a0, a1)] true) (pathP (dbl (a0, a1)) [dbl (a2, a3), p0] false) (pathP (dbl (a0, a1)) [mid (a0, a1) (a2, a3), p0] false) (pathP (mid (a0, a1) (a2, a3)) [dbl (a2, a3), p0] false) := by
  have hn : ∀ p ∈ p0 :: l, nearP p := fun p hp => (h p hp).near
  have n0 := hn p0 List.mem_cons_self
  have nl := hn _ (lastP_mem l p0)
  have nA : nearP (a0, a1) := ⟨⟨by dsimp only; omega, by dsimp only; omega⟩, by dsimp only; omega, by dsimp only; omega⟩
  have nD : nearP (dbl (a0, a1)) := ⟨⟨by dsimp only [dbl]; omega, by dsimp only [dbl]; omega⟩, by dsimp only [dbl]; omega, by dsimp only [dbl]; omega⟩
  have nE : nearP (dbl (a2, a3)) := ⟨⟨by dsimp only [dbl]; omega, by dsimp only [dbl]; omega⟩, by dsimp only [dbl]; omega, by dsimp only [dbl]; omega⟩
  have nM : nearP (mid (a0, a1) (a2, a3)) := ⟨⟨by dsimp only [mid]; omega, by dsimp only [mid]; omega⟩, by dsimp only [mid]; omega, by dsimp only [mid]; omega⟩
  have three : ∀ {a b c : Pnt} (sh : Bool), nearP a → nearP b → nearP c → pathMay (pathP a [b, c] sh) = true := fun sh ha hb hc => pathN_may sh (by
    intro p hp
    simp only [List.mem_cons, List.not_mem_nil, or_false] at hp
    rcases hp with rfl | rfl | rfl
    · exact ha
    · exact hb
    · exact hc) (by simp)
  have mS := pathN_may true hn (by omega)
  have mP : pathMay (pathP p0 (l ++ [(a0, a1)]) true) = true := pathN_may true (by
    intro p hp
    rcases List.mem_cons.1 hp with rfl | hp
    · exact n0
    · rcases List.mem_append.1 hp with hp | hp
      · exact hn p (List.mem_cons_of_mem _ hp)
      · rw [List.mem_singleton.1 hp]; exact nA) (by simp; omega)
  have mQ := three true nl n0 nA
  have mT := three false nD nE n0
  have mU := three false nD nM n0
  have mV := three false nM nE n0
  have nz : ∀ n : Int, isIn 0 n = decide (n ≠ 0) := fun _ => rfl
  refine ⟨mS, mP, mQ, mT, mU, mV, ?_, fun j hj i hi => ?_, fun j hj i hi => ?_⟩
  · funext j i
    unfold maskQ
    rw [← odd_add, pathP_wind mP, pathP_wind mQ, pathP_wind mS, cyc_cut]
  · unfold maskQ
    rw [pathP_wind mU, pathP_wind mV, cyc_three, cyc_three, nz, nz]
    exact (halves nD nE nM n0 (by omega) (by omega)).2
  · unfold maskQ
    rw [pathP_wind mT, pathP_wind mU, pathP_wind mV, cyc_three, cyc_three, cyc_three, nz, nz, nz]
    exact (halves nD nE nM n0 (by omega) (by omega)).1

set_option maxRecDepth 100000 in
set_option maxHeartbeats 16000000 in
theorem coverSides_calls (w : World) (va : Value) (na : List Int) (ha : NumsAt w va na) (pa : Nat → Int) : Calls Try.prog 8 #[va, .agg (arrI 4 pa)] w fun e w' => e = .returned (.bool true) ∧ Below w.heap.size w w' := by
  have hs : Sides 12 12 := ⟨by decide, by decide, by decide, by decide⟩
  have hL := Holds.start w
  obtain ⟨a, cap, rfl, _⟩ := ha.parts
  have HM := Lib.hid (fun w' hb => loop_calls w' _ na (SliceAt.below ha hb))
  clear ha
  obtain ⟨p0, l, hS, hsm, hl8⟩ := loop_points na
  rw [hS] at HM
  clear hS
  have hlenS : (pathP p0 l true).length = l.length + 2 := by unfold pathP; simp
  have hP : ∀ j, -30 ≤ pl300 (pa j) ∧ pl300 (pa j) ≤ 269 := fun j => pl300_bd _
  have n1 : True := trivial
  go_enter Try.func8, Try.ntmps8
  go_wp2_with (first | (go_at_call 13; (with_reducible refine (known_calls _).mono ?_); rintro e _ ⟨rfl, hb⟩; replace hL := hL.call hb; clear hb) | (go_at_call 24; (with_reducible refine (HM.out _ hL.below).mono ?_); rintro e _ ⟨vs, rfl, hb, hf⟩; obtain ⟨ea, ec, rfl, hec, _⟩ := SegsAt.parts hf.now; replace hL := hL.callF hb hf; clear hb hf; rw [hlenS] at hL hec ⊢) | (first | (clear hL n1; with_reducible intro b1 w1 hL) | (clear hL; with_reducible intro _ _ hL)) | (with_reducible refine wpC_alloc rfl _ rfl _ _ inferInstance hL ?_) | (with_reducible first | refine wpB_agg rfl _ _ _ rfl rfl hL ?_ | refine wpB_one rfl _ _ (.int _ _) rfl rfl rfl hL ?_ | refine wpB_one rfl _ _ (.slice _ _ _) rfl rfl rfl hL ?_ | refine wpB_one rfl _ _ (.bool _) rfl rfl rfl hL ?_ | refine wpB_one rfl _ _ (.pointer _) rfl rfl rfl hL ?_ | refine wpB_one rfl _ _ (.func _ _ _) rfl rfl rfl hL ?_) | (with_reducible first | refine wpH_max rfl _ _ _ _ rfl _ _ rfl rfl ?_ | refine wpH_min rfl _ _ _ _ rfl _ _ rfl rfl ?_) | ((with_reducible refine wpA_load rfl _ _ rfl _ rfl ?_); first | refine loadA hL ?_ | refine loadR hL ?_ | refine loadC hL ?_ | refine loadD ?_ | refine loadE hL ?_ | refine loadF ?_) | ((with_reducible refine wpA_index rfl _ _ _ rfl _ rfl _ rfl ?_); first | (refine indexA ?_; try rw [Int.toNat_natCast]) | refine indexC ?_) | ((with_reducible refine wpA_store rfl _ _ _ rfl _ rfl (.agg _) rfl ?_); refine storeR hL ?_; clear hL; intro _ hL) | ((with_reducible first | refine wpA_store rfl _ _ _ rfl _ rfl (.int _ _) rfl ?_ | refine wpA_store rfl _ _ _ rfl _ rfl (.slice _ _ _) rfl ?_ | refine wpA_store rfl _ _ _ rfl _ rfl (.bool _) rfl ?_ | refine wpA_store rfl _ _ _ rfl _ rfl (.pointer _) rfl ?_ | refine wpA_store rfl _ _ _ rfl _ rfl (.func _ _ _) rfl ?_); (first | refine storeA hL ?_ | refine storeO hL ?_); (clear hL; intro _ hL)) | ((with_reducible refine wpA_lit rfl _ _ _ rfl ?_); first | refine litA1 hL ?_ | refine litA2 hL ?_ | refine litA3 hL ?_ | refine litA4 hL ?_ | refine litA6 hL ?_) | ((with_reducible refine wpA_append rfl _ _ _ rfl (.slice _ _ _) rfl ?_); intro vq hvq; simp [go_sem] at hvq; subst hvq; refine appendA hL ?_; clear hL; intro _ _ _ hL; try dsimp only at hL) | ((with_reducible refine wpA_make rfl _ _ _ rfl _ rfl rfl ?_); refine makeA hL ?_))
  go_loopw [6] (fun s6 wr => ∃ (k : Nat), k ≤ 4 ∧ s6 = .int .i64 k ∧ Holds w wr [blk b1 (arrI 4 fun j => if j < k then pl300 (pa j) else pa j) 50] [fun w => SegsAt w (.slice ea (l.length + 2) ec) (pathP p0 l true)])
    (fun s6 wr => 4 - (intOf s6).toNat)
  case atStart => exact ⟨0, by omega, rfl, by rw [show arrI 4 (fun j => if j < 0 then pl300 (pa j) else pa j) = arrI 4 pa from arrI_congr fun j _ => by simp]; exact hL⟩
  case round =>
    clear hL
    obtain ⟨k, hk, rfl, hL⟩ := hrel
    by_cases hkt : k < 4
    · have hkb : (k : Int) < 4 := by omega
      have hk0 : (0 : Int) ≤ (k : Int) := by omega
      have HA := Lib.hid (show ∀ z : Int, z = pl300 (pa k) → arrI 4 (fun j => if j = k then z else if j < k then pl300 (pa j) else pa j) = arrI 4 (fun j => if j < k + 1 then pl300 (pa j) else pa j) from fun z hz => arrI_congr fun j _ => by
        subst hz
        by_cases h1 : j = k
        · subst h1; simp
        · have : j < k + 1 ↔ j < k := by omega
          simp [h1, this])
      have HB := Lib.hid (show (if k < k then pl300 (pa k) else pa k) = pa k by simp)
      have p1 := Int.emod_nonneg (pa k) (show (300 : Int) ≠ 0 by omega)
      have p2 := Int.emod_lt_of_pos (pa k) (show (0 : Int) < 300 by omega)
      go_wp2_with (first | (go_at_call 18; (with_reducible refine (place_calls _ 300 (by omega) (by omega) _).mono ?_); rintro e _ ⟨rfl, rfl⟩; try rw [HB.out]) | (first | (clear hL n1; with_reducible intro b1 w1 hL) | (clear hL; with_reducible intro _ _ hL)) | (with_reducible refine wpC_alloc rfl _ rfl _ _ inferInstance hL ?_) | (with_reducible first | refine wpB_agg rfl _ _ _ rfl rfl hL ?_ | refine wpB_one rfl _ _ (.int _ _) rfl rfl rfl hL ?_ | refine wpB_one rfl _ _ (.slice _ _ _) rfl rfl rfl hL ?_ | refine wpB_one rfl _ _ (.bool _) rfl rfl rfl hL ?_ | refine wpB_one rfl _ _ (.pointer _) rfl rfl rfl hL ?_ | refine wpB_one rfl _ _ (.func _ _ _) rfl rfl rfl hL ?_) | (with_reducible first | refine wpH_max rfl _ _ _ _ rfl _ _ rfl rfl ?_ | refine wpH_min rfl _ _ _ _ rfl _ _ rfl rfl ?_) | ((with_reducible refine wpA_load rfl _ _ rfl _ rfl ?_); first | refine loadA hL ?_ | refine loadR hL ?_ | refine loadC hL ?_ | refine loadD ?_ | refine loadE hL ?_ | refine loadF ?_) | ((with_reducible refine wpA_index rfl _ _ _ rfl _ rfl _ rfl ?_); first | (refine indexA ?_; try rw [Int.toNat_natCast]) | refine indexC ?_) | ((with_reducible refine wpA_store rfl _ _ _ rfl _ rfl (.agg _) rfl ?_); refine storeR hL ?_; clear hL; intro _ hL) | ((with_reducible first | refine wpA_store rfl _ _ _ rfl _ rfl (.int _ _) rfl ?_ | refine wpA_store rfl _ _ _ rfl _ rfl (.slice _ _ _) rfl ?_ | refine wpA_store rfl _ _ _ rfl _ rfl (.bool _) rfl ?_ | refine wpA_store rfl _ _ _ rfl _ rfl (.pointer _) rfl ?_ | refine wpA_store rfl _ _ _ rfl _ rfl (.func _ _ _) rfl ?_); (first | refine storeA hL ?_ | refine storeO hL ?_); (clear hL; intro _ hL)) | ((with_reducible refine wpA_lit rfl _ _ _ rfl ?_); first | refine litA1 hL ?_ | refine litA2 hL ?_ | refine litA3 hL ?_ | refine litA4 hL ?_ | refine litA6 hL ?_) | ((with_reducible refine wpA_append rfl _ _ _ rfl (.slice _ _ _) rfl ?_); intro vq hvq; simp [go_sem] at hvq; subst hvq; refine appendA hL ?_; clear hL; intro _ _ _ hL; try dsimp only at hL) | ((with_reducible refine wpA_make rfl _ _ _ rfl _ rfl rfl ?_); refine makeA hL ?_))
      go_roundw
      case rel => exact ⟨k + 1, by omega, by go_num, by rw [HA.out (pa k % 300 - 30) rfl] at hL; exact hL⟩
      case measure => simp [intOf]; omega
    · have e : k = 4 := by omega
      subst e
      rw [show arrI 4 (fun j => if j < 4 then pl300 (pa j) else pa j) = arrI 4 (fun j => pl300 (pa j)) from arrI_congr fun j hj => by simp [hj]] at hL
      have hA : arrI 4 (fun j => pl300 (pa j)) = #[.int .i64 (pl300 (pa 0)), .int .i64 (pl300 (pa 1)), .int .i64 (pl300 (pa 2)), .int .i64 (pl300 (pa 3))] := by unfold arrI; rfl
      rw [hA] at hL
      have h0 := hP 0
      have h1 := hP 1
      have h2 := hP 2
      have h3 := hP 3
      clear hP hA
      generalize pl300 (pa 0) = a0 at *
      generalize pl300 (pa 1) = a1 at *
      generalize pl300 (pa 2) = a2 at *
      generalize pl300 (pa 3) = a3 at *
      have LAW := Lib.hid (side_law hsm hl8 h0 h1 h2 h3)
      obtain ⟨h00, h01⟩ := h0
      obtain ⟨h10, h11⟩ := h1
      obtain ⟨h20, h21⟩ := h2
      obtain ⟨h30, h31⟩ := h3
      have hPl : pathP p0 (l ++ [(a0, a1)]) true = pathP p0 l false ++ [lineSg (a0, a1), ⟨4, 0, 0, 0, 0⟩] := by unfold pathP; simp
      have hTk : (pathP p0 l true).take (l.length + 1) = pathP p0 l false := by unfold pathP; simp
      have hlf : (pathP p0 l false).length = l.length + 1 := by unfold pathP; simp
      obtain ⟨kd, hkd⟩ := pathP_get (a := p0) (l := l) (sh := true) (i := l.length) (by omega)
      rw [getD_last] at hkd
      have hk00 : (pathP p0 l true).getD 0 default = ⟨1, p0.1, p0.2, 0, 0⟩ := rfl
      obtain ⟨n, hn⟩ : ∃ n, l.length = n := ⟨_, rfl⟩
      rw [hn] at hL hec hTk hlf hkd ⊢
      have hn8 : n ≤ 8 := by omega
      obtain ⟨be, oe, rfl, _⟩ : ∃ be oe, ea = some ⟨be, oe, none⟩ ∧ True := by
        obtain ⟨a', c', he, _, _, hel⟩ := SegsAt.parts hL.fact0
        injection he with h1 h2 _
        subst h1
        obtain ⟨b, o, e, _⟩ := hel 0 (by rw [hlenS]; omega)
        exact ⟨b, o, e, trivial⟩
      obtain ⟨sl, hsl⟩ : ∃ s, sliced (some ⟨be, oe, none⟩) 0 ((n : Int) + 1).toNat ec 5 = s := ⟨_, rfl⟩
      have HSl : Hid (∀ w', SegsAt w' (.slice (some ⟨be, oe, none⟩) (n + 2) ec) (pathP p0 l true) → SegsAt w' sl (pathP p0 l false)) := by
        intro w' h
        have h2 := SliceAt.part h (Nat.zero_le (n + 1)) (show n + 1 ≤ n + 2 by omega)
        rw [List.drop_zero, ← List.map_take, hTk] at h2
        rw [← hsl, show ((n : Int) + 1).toNat = n + 1 by omega]
        exact h2
      replace hL := (hL.dup).map (χ := fun w => w.rangeAt be (oe + n * 5) [.int .i64 kd, .int .i64 (lastP p0 l).1, .int .i64 (lastP p0 l).2, .int .i64 0, .int .i64 0]) fun w h => by
        have := segs_range h (i := n) (by omega)
        rw [hkd] at this
        exact this
      replace hL := (hL.swap.dup).map (χ := fun w => w.rangeAt be (oe + 0 * 5) [.int .i64 1, .int .i64 p0.1, .int .i64 p0.2, .int .i64 0, .int .i64 0]) fun w h => by
        have := segs_range h (i := 0) (by omega)
        rw [hk00] at this
        exact this
      replace hL := (hL.swap).facts (Ψ := [fun w => w.rangeAt be (oe + 0 * 5) [.int .i64 1, .int .i64 p0.1, .int .i64 p0.2, .int .i64 0, .int .i64 0], fun w => w.rangeAt be (oe + n * 5) [.int .i64 kd, .int .i64 (lastP p0 l).1, .int .i64 (lastP p0 l).2, .int .i64 0, .int .i64 0], fun w => SegsAt w (.slice (some ⟨be, oe, none⟩) (n + 2) ec) (pathP p0 l true)]) fun θ hθ => hL.firm θ (by simp only [List.mem_cons, List.not_mem_nil, or_false] at hθ ⊢; rcases hθ with h | h | h <;> simp [h])
      have HPl := Lib.hid hPl
      have HLf := Lib.hid hlf
      have HLn := Lib.hid hn
      generalize hLP : lastP p0 l = pl at *
      obtain ⟨xn, yn⟩ := pl
      obtain ⟨x0, y0⟩ := p0
      dsimp only at hL
      clear hLP hkd hk00 hlenS hTk hPl hlf hsm hn hl8
      generalize pathP (x0, y0) l true = S at *
      generalize pathP (x0, y0) l false = S1 at *
      generalize pathP (x0, y0) (l ++ [(a0, a1)]) true = P at *
      have hcap := hec
      have hl1 : S1.length ≤ 300 := by have := HLf.out; omega
      have w1 : IntKind.i64.wrap ((n : Int) + 1) = (n : Int) + 1 := by rw [IntKind.wrap_i64]; omega
      have mk : ∀ (r : Int) (l : List Sg), (r = 0 ∨ r = 1) → pathMay l = true → ∀ w' v, SegsAt w' v l → Calls Try.prog 14 #[v, .int .i64 r, .int .i64 12, .int .i64 12] w' (MaskOutK 12 12 12 12 144 (maskQ r l) w') := fun r l hr hm w' v hv => coverMaskK_calls (W := 12) (H := 12) (Wi := 12) (Hi := 12) (n := 144) rfl rfl rfl hs w' v l hv hm r hr
      have A1 := Lib.hid (mk 1 _ (.inr rfl) LAW.out.s)
      have A2 := Lib.hid (mk 1 _ (.inr rfl) LAW.out.p)
      have A3 := Lib.hid (mk 1 _ (.inr rfl) LAW.out.q)
      have A4 := Lib.hid (mk 0 _ (.inl rfl) LAW.out.t)
      have A5 := Lib.hid (mk 0 _ (.inl rfl) LAW.out.u)
      have A6 := Lib.hid (mk 0 _ (.inl rfl) LAW.out.v)
      have HCn := Lib.hid (fun w' ma h => countK_calls (W := 12) (H := 12) (Wi := 12) (Hi := 12) (n := 144) rfl rfl rfl hs w' ma (fun _ _ => false) h)
      rw [count12] at HCn
      clear mk
      have u0 : IntKind.i64.wrap (2 * a0) = 2 * a0 := by rw [IntKind.wrap_i64]; omega
      have u1 : IntKind.i64.wrap (2 * a1) = 2 * a1 := by rw [IntKind.wrap_i64]; omega
      have u2 : IntKind.i64.wrap (2 * a2) = 2 * a2 := by rw [IntKind.wrap_i64]; omega
      have u3 : IntKind.i64.wrap (2 * a3) = 2 * a3 := by rw [IntKind.wrap_i64]; omega
      have u4 : IntKind.i64.wrap (a0 + a2) = a0 + a2 := by rw [IntKind.wrap_i64]; omega
      have u5 : IntKind.i64.wrap (a1 + a3) = a1 + a3 := by rw [IntKind.wrap_i64]; omega
      have nb0 : (0 : Int) ≤ (n : Int) := by omega
      have nb1 : (n : Int) < (n : Int) + 2 := by omega
      have nb2 : (0 : Int) < (n : Int) + 2 := by omega
      go_wp2_with (first | (first | (clear hL n1; with_reducible intro b1 w1 hL) | (clear hL; with_reducible intro _ _ hL)) | (with_reducible refine wpC_alloc rfl _ rfl _ _ inferInstance hL ?_) | (with_reducible first | refine wpB_agg rfl _ _ _ rfl rfl hL ?_ | refine wpB_one rfl _ _ (.int _ _) rfl rfl rfl hL ?_ | refine wpB_one rfl _ _ (.slice _ _ _) rfl rfl rfl hL ?_ | refine wpB_one rfl _ _ (.bool _) rfl rfl rfl hL ?_ | refine wpB_one rfl _ _ (.pointer _) rfl rfl rfl hL ?_ | refine wpB_one rfl _ _ (.func _ _ _) rfl rfl rfl hL ?_) | (with_reducible first | refine wpH_max rfl _ _ _ _ rfl _ _ rfl rfl ?_ | refine wpH_min rfl _ _ _ _ rfl _ _ rfl rfl ?_) | ((with_reducible refine wpA_load rfl _ _ rfl _ rfl ?_); first | refine loadA hL ?_ | refine loadR hL ?_ | refine loadC hL ?_ | refine loadD ?_ | refine loadE hL ?_ | refine loadF ?_) | ((with_reducible refine wpA_index rfl _ _ _ rfl _ rfl _ rfl ?_); first | (refine indexA ?_; try rw [Int.toNat_natCast]) | refine indexC ?_) | ((with_reducible refine wpA_store rfl _ _ _ rfl _ rfl (.agg _) rfl ?_); refine storeR hL ?_; clear hL; intro _ hL) | ((with_reducible first | refine wpA_store rfl _ _ _ rfl _ rfl (.int _ _) rfl ?_ | refine wpA_store rfl _ _ _ rfl _ rfl (.slice _ _ _) rfl ?_ | refine wpA_store rfl _ _ _ rfl _ rfl (.bool _) rfl ?_ | refine wpA_store rfl _ _ _ rfl _ rfl (.pointer _) rfl ?_ | refine wpA_store rfl _ _ _ rfl _ rfl (.func _ _ _) rfl ?_); (first | refine storeA hL ?_ | refine storeO hL ?_); (clear hL; intro _ hL)) | ((with_reducible refine wpA_lit rfl _ _ _ rfl ?_); first | refine litA1 hL ?_ | refine litA2 hL ?_ | refine litA3 hL ?_ | refine litA4 hL ?_ | refine litA6 hL ?_) | ((with_reducible refine wpA_append rfl _ _ _ rfl (.slice _ _ _) rfl ?_); intro vq hvq; simp [go_sem] at hvq; subst hvq; refine appendA hL ?_; clear hL; intro _ _ _ hL; try dsimp only at hL) | ((with_reducible refine wpA_make rfl _ _ _ rfl _ rfl rfl ?_); refine makeA hL ?_))
      replace hL := hL.drew
      have hS := (show (fun w' : World => (w'.cell? ⟨b1, 0, none⟩ = some (.int .i64 a0) ∧ w'.cell? ⟨b1, 1, none⟩ = some (.int .i64 a1) ∧ w'.cell? ⟨b1, 2, none⟩ = some (.int .i64 a2) ∧ w'.cell? ⟨b1, 3, none⟩ = some (.int .i64 a3)) ∧ (w'.rangeAt be (oe + 0 * 5) [.int .i64 1, .int .i64 x0, .int .i64 y0, .int .i64 0, .int .i64 0]) ∧ (w'.rangeAt be (oe + n * 5) [.int .i64 kd, .int .i64 xn, .int .i64 yn, .int .i64 0, .int .i64 0])) _ from ⟨⟨(hL.cell (by (repeat (first | with_reducible exact At.here | with_reducible apply At.there)))).trans rfl, (hL.cell (by (repeat (first | with_reducible exact At.here | with_reducible apply At.there)))).trans rfl, (hL.cell (by (repeat (first | with_reducible exact At.here | with_reducible apply At.there)))).trans rfl, (hL.cell (by (repeat (first | with_reducible exact At.here | with_reducible apply At.there)))).trans rfl⟩, hL.has (fun w => w.rangeAt be (oe + 0 * 5) [.int .i64 1, .int .i64 x0, .int .i64 y0, .int .i64 0, .int .i64 0]), hL.has (fun w => w.rangeAt be (oe + n * 5) [.int .i64 kd, .int .i64 xn, .int .i64 yn, .int .i64 0, .int .i64 0])⟩)
      apply exCont (H := fun bo bq ng nc v5 w8 => Holds w w8 [own w.heap.size 45 5 (.slice (some ⟨ng, 0, none⟩) (n + 1 + 2) nc) (n + 1 + 2) ((S1.map segC).flatten ++ #[.int .i64 2, .int .i64 a0, .int .i64 a1, .int .i64 0, .int .i64 0, .int .i64 4, .int .i64 0, .int .i64 0, .int .i64 0, .int .i64 0].toList), blk b1 #[.int .i64 a0, .int .i64 a1, .int .i64 a2, .int .i64 a3] 50] [fun w => w.rangeAt be (oe + 0 * 5) [.int .i64 1, .int .i64 x0, .int .i64 y0, .int .i64 0, .int .i64 0], fun w => w.rangeAt be (oe + n * 5) [.int .i64 kd, .int .i64 xn, .int .i64 yn, .int .i64 0, .int .i64 0], fun w => SegsAt w (.slice (some ⟨be, oe, none⟩) (n + 2) ec) S])
      · intro hcont
        refine wpH_begin (by kernel_rfl) (fun w' : World => (w'.cell? ⟨b1, 0, none⟩ = some (.int .i64 a0) ∧ w'.cell? ⟨b1, 1, none⟩ = some (.int .i64 a1) ∧ w'.cell? ⟨b1, 2, none⟩ = some (.int .i64 a2) ∧ w'.cell? ⟨b1, 3, none⟩ = some (.int .i64 a3)) ∧ (w'.rangeAt be (oe + 0 * 5) [.int .i64 1, .int .i64 x0, .int .i64 y0, .int .i64 0, .int .i64 0]) ∧ (w'.rangeAt be (oe + n * 5) [.int .i64 kd, .int .i64 xn, .int .i64 yn, .int .i64 0, .int .i64 0])) ?_
        refine stH (i := 1) (.slice (some ⟨be, oe, none⟩) (n + 2) ec) hS ?_ ?_; (· exact fun w' _ => (by go_simp)); simp only [Act.put, List.setIfInBounds_toArray, List.set_cons_zero, List.set_cons_succ]
        refine stH (i := 2) (.int .i64 n) hS ?_ ?_; (· exact fun w' _ => (by go_simp)); simp only [Act.put, List.setIfInBounds_toArray, List.set_cons_zero, List.set_cons_succ]
        refine stH (i := 3) (.int .i64 ((n : Int) + 1)) hS ?_ ?_; (· exact fun w' _ => (by go_simp)); simp only [Act.put, List.setIfInBounds_toArray, List.set_cons_zero, List.set_cons_succ]
        refine stH (i := 4) sl hS ?_ ?_; (· exact fun w' _ => (run_hi _ _ rfl rfl (k := (n : Int) + 1) rfl (by omega) (by omega)).trans (by rw [hsl])); simp only [Act.put, List.setIfInBounds_toArray, List.set_cons_zero, List.set_cons_succ]
        refine stH (i := 6) (.pointer (some ⟨b1, 0, none⟩)) hS ?_ ?_; (· exact fun w' _ => (by go_simp)); simp only [Act.put, List.setIfInBounds_toArray, List.set_cons_zero, List.set_cons_succ]
        refine stH (i := 7) (.int .i64 a0) hS ?_ ?_; (· exact fun w' hw => run_loadOp _ _ rfl _ rfl _ (load_cell hw.1.1)); simp only [Act.put, List.setIfInBounds_toArray, List.set_cons_zero, List.set_cons_succ]
        refine stH (i := 8) (.pointer (some ⟨b1, 1, none⟩)) hS ?_ ?_; (· exact fun w' _ => (by go_simp)); simp only [Act.put, List.setIfInBounds_toArray, List.set_cons_zero, List.set_cons_succ]
        refine stH (i := 9) (.int .i64 a1) hS ?_ ?_; (· exact fun w' hw => run_loadOp _ _ rfl _ rfl _ (load_cell hw.1.2.1)); simp only [Act.put, List.setIfInBounds_toArray, List.set_cons_zero, List.set_cons_succ]
        refine stH (i := 10) (.agg #[.int .i64 2, .int .i64 a0, .int .i64 a1, .int .i64 0, .int .i64 0]) hS ?_ ?_; (· exact fun w' _ => (by go_simp)); simp only [Act.put, List.setIfInBounds_toArray, List.set_cons_zero, List.set_cons_succ]
        refine stH (i := 11) (.agg #[.int .i64 4, .int .i64 0, .int .i64 0, .int .i64 0, .int .i64 0]) hS ?_ ?_; (· exact fun w' _ => (by go_simp)); simp only [Act.put, List.setIfInBounds_toArray, List.set_cons_zero, List.set_cons_succ]
        refine wpH_two (i := 0) (j := 12) (by kernel_rfl) (wpOp_of (by simp only [List.getElem?_toArray, List.getElem?_cons_zero, List.getElem?_cons_succ]; rfl) ?_) (wpOp_of (by simp only [List.getElem?_toArray, List.getElem?_cons_zero, List.getElem?_cons_succ]; rfl) ?_)
        · refine st_lit rfl _ _ _ rfl (litA0 hL ?_)
          skip
          intro bo wo hL
          have hS := (show (fun w' : World => (w'.cell? ⟨b1, 0, none⟩ = some (.int .i64 a0) ∧ w'.cell? ⟨b1, 1, none⟩ = some (.int .i64 a1) ∧ w'.cell? ⟨b1, 2, none⟩ = some (.int .i64 a2) ∧ w'.cell? ⟨b1, 3, none⟩ = some (.int .i64 a3)) ∧ (w'.rangeAt be (oe + 0 * 5) [.int .i64 1, .int .i64 x0, .int .i64 y0, .int .i64 0, .int .i64 0]) ∧ (w'.rangeAt be (oe + n * 5) [.int .i64 kd, .int .i64 xn, .int .i64 yn, .int .i64 0, .int .i64 0])) wo from ⟨⟨(hL.cell (by (repeat (first | with_reducible exact At.here | with_reducible apply At.there)))).trans rfl, (hL.cell (by (repeat (first | with_reducible exact At.here | with_reducible apply At.there)))).trans rfl, (hL.cell (by (repeat (first | with_reducible exact At.here | with_reducible apply At.there)))).trans rfl, (hL.cell (by (repeat (first | with_reducible exact At.here | with_reducible apply At.there)))).trans rfl⟩, hL.has (fun w => w.rangeAt be (oe + 0 * 5) [.int .i64 1, .int .i64 x0, .int .i64 y0, .int .i64 0, .int .i64 0]), hL.has (fun w => w.rangeAt be (oe + n * 5) [.int .i64 kd, .int .i64 xn, .int .i64 yn, .int .i64 0, .int .i64 0])⟩)
          refine ⟨hS, ?_⟩
          simp only [Act.put, List.setIfInBounds_toArray, List.set_cons_zero, List.set_cons_succ]
          refine wpH_two (i := 5) (j := 12) (by kernel_rfl) (wpOp_of (by simp only [List.getElem?_toArray, List.getElem?_cons_zero, List.getElem?_cons_succ]; rfl) ?_) (wpOp_of (by simp only [List.getElem?_toArray, List.getElem?_cons_zero, List.getElem?_cons_succ]; rfl) ?_)
          · refine st_append rfl _ _ _ rfl (.slice (some ⟨bo, 0, none⟩) 0 0) sl rfl rfl (appendS (HSl.out _ hL.segs) hL (by intro r'; (repeat (first | with_reducible exact Upd.here | with_reducible apply Upd.there))) rfl (by unfold maxLen; omega) (by omega) ?_)
            skip
            intro v5 w5 hL
            (try simp only [Nat.zero_add, List.nil_append] at hL)
            rw [HLf.out] at hL
            have hS := (show (fun w' : World => (w'.cell? ⟨b1, 0, none⟩ = some (.int .i64 a0) ∧ w'.cell? ⟨b1, 1, none⟩ = some (.int .i64 a1) ∧ w'.cell? ⟨b1, 2, none⟩ = some (.int .i64 a2) ∧ w'.cell? ⟨b1, 3, none⟩ = some (.int .i64 a3)) ∧ (w'.rangeAt be (oe + 0 * 5) [.int .i64 1, .int .i64 x0, .int .i64 y0, .int .i64 0, .int .i64 0]) ∧ (w'.rangeAt be (oe + n * 5) [.int .i64 kd, .int .i64 xn, .int .i64 yn, .int .i64 0, .int .i64 0])) w5 from ⟨⟨(hL.cell (by (repeat (first | with_reducible exact At.here | with_reducible apply At.there)))).trans rfl, (hL.cell (by (repeat (first | with_reducible exact At.here | with_reducible apply At.there)))).trans rfl, (hL.cell (by (repeat (first | with_reducible exact At.here | with_reducible apply At.there)))).trans rfl, (hL.cell (by (repeat (first | with_reducible exact At.here | with_reducible apply At.there)))).trans rfl⟩, hL.has (fun w => w.rangeAt be (oe + 0 * 5) [.int .i64 1, .int .i64 x0, .int .i64 y0, .int .i64 0, .int .i64 0]), hL.has (fun w => w.rangeAt be (oe + n * 5) [.int .i64 kd, .int .i64 xn, .int .i64 yn, .int .i64 0, .int .i64 0])⟩)
            refine ⟨hS, ?_⟩
            simp only [Act.put, List.setIfInBounds_toArray, List.set_cons_zero, List.set_cons_succ]
            refine wpH_one (i := 12) (by kernel_rfl) (wpOp_of (by simp only [List.getElem?_toArray, List.getElem?_cons_zero, List.getElem?_cons_succ]; rfl) ?_)
            refine st_lit rfl _ _ _ rfl (litA2 hL ?_)
            skip
            intro bq wq hL
            have hS := (show (fun w' : World => (w'.cell? ⟨b1, 0, none⟩ = some (.int .i64 a0) ∧ w'.cell? ⟨b1, 1, none⟩ = some (.int .i64 a1) ∧ w'.cell? ⟨b1, 2, none⟩ = some (.int .i64 a2) ∧ w'.cell? ⟨b1, 3, none⟩ = some (.int .i64 a3)) ∧ (w'.rangeAt be (oe + 0 * 5) [.int .i64 1, .int .i64 x0, .int .i64 y0, .int .i64 0, .int .i64 0]) ∧ (w'.rangeAt be (oe + n * 5) [.int .i64 kd, .int .i64 xn, .int .i64 yn, .int .i64 0, .int .i64 0])) wq from ⟨⟨(hL.cell (by (repeat (first | with_reducible exact At.here | with_reducible apply At.there)))).trans rfl, (hL.cell (by (repeat (first | with_reducible exact At.here | with_reducible apply At.there)))).trans rfl, (hL.cell (by (repeat (first | with_reducible exact At.here | with_reducible apply At.there)))).trans rfl, (hL.cell (by (repeat (first | with_reducible exact At.here | with_reducible apply At.there)))).trans rfl⟩, hL.has (fun w => w.rangeAt be (oe + 0 * 5) [.int .i64 1, .int .i64 x0, .int .i64 y0, .int .i64 0, .int .i64 0]), hL.has (fun w => w.rangeAt be (oe + n * 5) [.int .i64 kd, .int .i64 xn, .int .i64 yn, .int .i64 0, .int .i64 0])⟩)
            refine ⟨hS, ?_⟩
            simp only [Act.put, List.setIfInBounds_toArray, List.set_cons_zero, List.set_cons_succ]
            refine wpH_one (i := 13) (by kernel_rfl) (wpOp_of (by simp only [List.getElem?_toArray, List.getElem?_cons_zero, List.getElem?_cons_succ]; rfl) ?_)
            refine st_append rfl _ _ _ rfl v5 (.slice (some ⟨bq, 0, none⟩) 2 2) rfl rfl (appendA hL ?_)
            skip
            intro ng nc w8 hL
            have hS := (show (fun w' : World => (w'.cell? ⟨b1, 0, none⟩ = some (.int .i64 a0) ∧ w'.cell? ⟨b1, 1, none⟩ = some (.int .i64 a1) ∧ w'.cell? ⟨b1, 2, none⟩ = some (.int .i64 a2) ∧ w'.cell? ⟨b1, 3, none⟩ = some (.int .i64 a3)) ∧ (w'.rangeAt be (oe + 0 * 5) [.int .i64 1, .int .i64 x0, .int .i64 y0, .int .i64 0, .int .i64 0]) ∧ (w'.rangeAt be (oe + n * 5) [.int .i64 kd, .int .i64 xn, .int .i64 yn, .int .i64 0, .int .i64 0])) w8 from ⟨⟨(hL.cell (by (repeat (first | with_reducible exact At.here | with_reducible apply At.there)))).trans rfl, (hL.cell (by (repeat (first | with_reducible exact At.here | with_reducible apply At.there)))).trans rfl, (hL.cell (by (repeat (first | with_reducible exact At.here | with_reducible apply At.there)))).trans rfl, (hL.cell (by (repeat (first | with_reducible exact At.here | with_reducible apply At.there)))).trans rfl⟩, hL.has (fun w => w.rangeAt be (oe + 0 * 5) [.int .i64 1, .int .i64 x0, .int .i64 y0, .int .i64 0, .int .i64 0]), hL.has (fun w => w.rangeAt be (oe + n * 5) [.int .i64 kd, .int .i64 xn, .int .i64 yn, .int .i64 0, .int .i64 0])⟩)
            refine ⟨hS, ?_⟩
            simp only [Act.put, List.setIfInBounds_toArray, List.set_cons_zero, List.set_cons_succ]
            refine stH (i := 14) (.slice (some ⟨ng, 0, none⟩) (n + 1 + 2) nc) hS ?_ ?_; (· exact fun w' _ => (by go_simp)); simp only [Act.put, List.setIfInBounds_toArray, List.set_cons_zero, List.set_cons_succ]
            refine wpAnyH_done (by kernel_rfl) ?_ _
            exact hcont bo bq ng nc v5 w8 hL
          · refine st_lit rfl _ _ _ rfl (litA2 hL ?_)
            skip
            intro bq wq hL
            have hS := (show (fun w' : World => (w'.cell? ⟨b1, 0, none⟩ = some (.int .i64 a0) ∧ w'.cell? ⟨b1, 1, none⟩ = some (.int .i64 a1) ∧ w'.cell? ⟨b1, 2, none⟩ = some (.int .i64 a2) ∧ w'.cell? ⟨b1, 3, none⟩ = some (.int .i64 a3)) ∧ (w'.rangeAt be (oe + 0 * 5) [.int .i64 1, .int .i64 x0, .int .i64 y0, .int .i64 0, .int .i64 0]) ∧ (w'.rangeAt be (oe + n * 5) [.int .i64 kd, .int .i64 xn, .int .i64 yn, .int .i64 0, .int .i64 0])) wq from ⟨⟨(hL.cell (by (repeat (first | with_reducible exact At.here | with_reducible apply At.there)))).trans rfl, (hL.cell (by (repeat (first | with_reducible exact At.here | with_reducible apply At.there)))).trans rfl, (hL.cell (by (repeat (first | with_reducible exact At.here | with_reducible apply At.there)))).trans rfl, (hL.cell (by (repeat (first | with_reducible exact At.here | with_reducible apply At.there)))).trans rfl⟩, hL.has (fun w => w.rangeAt be (oe + 0 * 5) [.int .i64 1, .int .i64 x0, .int .i64 y0, .int .i64 0, .int .i64 0]), hL.has (fun w => w.rangeAt be (oe + n * 5) [.int .i64 kd, .int .i64 xn, .int .i64 yn, .int .i64 0, .int .i64 0])⟩)
            refine ⟨hS, ?_⟩
            simp only [Act.put, List.setIfInBounds_toArray, List.set_cons_zero, List.set_cons_succ]
            refine wpH_one (i := 5) (by kernel_rfl) (wpOp_of (by simp only [List.getElem?_toArray, List.getElem?_cons_zero, List.getElem?_cons_succ]; rfl) ?_)
            refine st_append rfl _ _ _ rfl (.slice (some ⟨bo, 0, none⟩) 0 0) sl rfl rfl (appendS (HSl.out _ hL.segs) hL (by intro r'; (repeat (first | with_reducible exact Upd.here | with_reducible apply Upd.there))) rfl (by unfold maxLen; omega) (by omega) ?_)
            skip
            intro v5 w5 hL
            (try simp only [Nat.zero_add, List.nil_append] at hL)
            rw [HLf.out] at hL
            have hS := (show (fun w' : World => (w'.cell? ⟨b1, 0, none⟩ = some (.int .i64 a0) ∧ w'.cell? ⟨b1, 1, none⟩ = some (.int .i64 a1) ∧ w'.cell? ⟨b1, 2, none⟩ = some (.int .i64 a2) ∧ w'.cell? ⟨b1, 3, none⟩ = some (.int .i64 a3)) ∧ (w'.rangeAt be (oe + 0 * 5) [.int .i64 1, .int .i64 x0, .int .i64 y0, .int .i64 0, .int .i64 0]) ∧ (w'.rangeAt be (oe + n * 5) [.int .i64 kd, .int .i64 xn, .int .i64 yn, .int .i64 0, .int .i64 0])) w5 from ⟨⟨(hL.cell (by (repeat (first | with_reducible exact At.here | with_reducible apply At.there)))).trans rfl, (hL.cell (by (repeat (first | with_reducible exact At.here | with_reducible apply At.there)))).trans rfl, (hL.cell (by (repeat (first | with_reducible exact At.here | with_reducible apply At.there)))).trans rfl, (hL.cell (by (repeat (first | with_reducible exact At.here | with_reducible apply At.there)))).trans rfl⟩, hL.has (fun w => w.rangeAt be (oe + 0 * 5) [.int .i64 1, .int .i64 x0, .int .i64 y0, .int .i64 0, .int .i64 0]), hL.has (fun w => w.rangeAt be (oe + n * 5) [.int .i64 kd, .int .i64 xn, .int .i64 yn, .int .i64 0, .int .i64 0])⟩)
            refine ⟨hS, ?_⟩
            simp only [Act.put, List.setIfInBounds_toArray, List.set_cons_zero, List.set_cons_succ]
            refine wpH_one (i := 13) (by kernel_rfl) (wpOp_of (by simp only [List.getElem?_toArray, List.getElem?_cons_zero, List.getElem?_cons_succ]; rfl) ?_)
            refine st_append rfl _ _ _ rfl v5 (.slice (some ⟨bq, 0, none⟩) 2 2) rfl rfl (appendA hL ?_)
            skip
            intro ng nc w8 hL
            have hS := (show (fun w' : World => (w'.cell? ⟨b1, 0, none⟩ = some (.int .i64 a0) ∧ w'.cell? ⟨b1, 1, none⟩ = some (.int .i64 a1) ∧ w'.cell? ⟨b1, 2, none⟩ = some (.int .i64 a2) ∧ w'.cell? ⟨b1, 3, none⟩ = some (.int .i64 a3)) ∧ (w'.rangeAt be (oe + 0 * 5) [.int .i64 1, .int .i64 x0, .int .i64 y0, .int .i64 0, .int .i64 0]) ∧ (w'.rangeAt be (oe + n * 5) [.int .i64 kd, .int .i64 xn, .int .i64 yn, .int .i64 0, .int .i64 0])) w8 from ⟨⟨(hL.cell (by (repeat (first | with_reducible exact At.here | with_reducible apply At.there)))).trans rfl, (hL.cell (by (repeat (first | with_reducible exact At.here | with_reducible apply At.there)))).trans rfl, (hL.cell (by (repeat (first | with_reducible exact At.here | with_reducible apply At.there)))).trans rfl, (hL.cell (by (repeat (first | with_reducible exact At.here | with_reducible apply At.there)))).trans rfl⟩, hL.has (fun w => w.rangeAt be (oe + 0 * 5) [.int .i64 1, .int .i64 x0, .int .i64 y0, .int .i64 0, .int .i64 0]), hL.has (fun w => w.rangeAt be (oe + n * 5) [.int .i64 kd, .int .i64 xn, .int .i64 yn, .int .i64 0, .int .i64 0])⟩)
            refine ⟨hS, ?_⟩
            simp only [Act.put, List.setIfInBounds_toArray, List.set_cons_zero, List.set_cons_succ]
            refine stH (i := 14) (.slice (some ⟨ng, 0, none⟩) (n + 1 + 2) nc) hS ?_ ?_; (· exact fun w' _ => (by go_simp)); simp only [Act.put, List.setIfInBounds_toArray, List.set_cons_zero, List.set_cons_succ]
            refine wpAnyH_done (by kernel_rfl) ?_ _
            exact hcont bo bq ng nc v5 w8 hL
        · refine st_lit rfl _ _ _ rfl (litA2 hL ?_)
          skip
          intro bq wq hL
          have hS := (show (fun w' : World => (w'.cell? ⟨b1, 0, none⟩ = some (.int .i64 a0) ∧ w'.cell? ⟨b1, 1, none⟩ = some (.int .i64 a1) ∧ w'.cell? ⟨b1, 2, none⟩ = some (.int .i64 a2) ∧ w'.cell? ⟨b1, 3, none⟩ = some (.int .i64 a3)) ∧ (w'.rangeAt be (oe + 0 * 5) [.int .i64 1, .int .i64 x0, .int .i64 y0, .int .i64 0, .int .i64 0]) ∧ (w'.rangeAt be (oe + n * 5) [.int .i64 kd, .int .i64 xn, .int .i64 yn, .int .i64 0, .int .i64 0])) wq from ⟨⟨(hL.cell (by (repeat (first | with_reducible exact At.here | with_reducible apply At.there)))).trans rfl, (hL.cell (by (repeat (first | with_reducible exact At.here | with_reducible apply At.there)))).trans rfl, (hL.cell (by (repeat (first | with_reducible exact At.here | with_reducible apply At.there)))).trans rfl, (hL.cell (by (repeat (first | with_reducible exact At.here | with_reducible apply At.there)))).trans rfl⟩, hL.has (fun w => w.rangeAt be (oe + 0 * 5) [.int .i64 1, .int .i64 x0, .int .i64 y0, .int .i64 0, .int .i64 0]), hL.has (fun w => w.rangeAt be (oe + n * 5) [.int .i64 kd, .int .i64 xn, .int .i64 yn, .int .i64 0, .int .i64 0])⟩)
          refine ⟨hS, ?_⟩
          simp only [Act.put, List.setIfInBounds_toArray, List.set_cons_zero, List.set_cons_succ]
          refine wpH_one (i := 0) (by kernel_rfl) (wpOp_of (by simp only [List.getElem?_toArray, List.getElem?_cons_zero, List.getElem?_cons_succ]; rfl) ?_)
          refine st_lit rfl _ _ _ rfl (litA0 hL ?_)
          skip
          intro bo wo hL
          have hS := (show (fun w' : World => (w'.cell? ⟨b1, 0, none⟩ = some (.int .i64 a0) ∧ w'.cell? ⟨b1, 1, none⟩ = some (.int .i64 a1) ∧ w'.cell? ⟨b1, 2, none⟩ = some (.int .i64 a2) ∧ w'.cell? ⟨b1, 3, none⟩ = some (.int .i64 a3)) ∧ (w'.rangeAt be (oe + 0 * 5) [.int .i64 1, .int .i64 x0, .int .i64 y0, .int .i64 0, .int .i64 0]) ∧ (w'.rangeAt be (oe + n * 5) [.int .i64 kd, .int .i64 xn, .int .i64 yn, .int .i64 0, .int .i64 0])) wo from ⟨⟨(hL.cell (by (repeat (first | with_reducible exact At.here | with_reducible apply At.there)))).trans rfl, (hL.cell (by (repeat (first | with_reducible exact At.here | with_reducible apply At.there)))).trans rfl, (hL.cell (by (repeat (first | with_reducible exact At.here | with_reducible apply At.there)))).trans rfl, (hL.cell (by (repeat (first | with_reducible exact At.here | with_reducible apply At.there)))).trans rfl⟩, hL.has (fun w => w.rangeAt be (oe + 0 * 5) [.int .i64 1, .int .i64 x0, .int .i64 y0, .int .i64 0, .int .i64 0]), hL.has (fun w => w.rangeAt be (oe + n * 5) [.int .i64 kd, .int .i64 xn, .int .i64 yn, .int .i64 0, .int .i64 0])⟩)
          refine ⟨hS, ?_⟩
          simp only [Act.put, List.setIfInBounds_toArray, List.set_cons_zero, List.set_cons_succ]
          refine wpH_one (i := 5) (by kernel_rfl) (wpOp_of (by simp only [List.getElem?_toArray, List.getElem?_cons_zero, List.getElem?_cons_succ]; rfl) ?_)
          refine st_append rfl _ _ _ rfl (.slice (some ⟨bo, 0, none⟩) 0 0) sl rfl rfl (appendS (HSl.out _ hL.segs) hL (by intro r'; (repeat (first | with_reducible exact Upd.here | with_reducible apply Upd.there))) rfl (by unfold maxLen; omega) (by omega) ?_)
          skip
          intro v5 w5 hL
          (try simp only [Nat.zero_add, List.nil_append] at hL)
          rw [HLf.out] at hL
          have hS := (show (fun w' : World => (w'.cell? ⟨b1, 0, none⟩ = some (.int .i64 a0) ∧ w'.cell? ⟨b1, 1, none⟩ = some (.int .i64 a1) ∧ w'.cell? ⟨b1, 2, none⟩ = some (.int .i64 a2) ∧ w'.cell? ⟨b1, 3, none⟩ = some (.int .i64 a3)) ∧ (w'.rangeAt be (oe + 0 * 5) [.int .i64 1, .int .i64 x0, .int .i64 y0, .int .i64 0, .int .i64 0]) ∧ (w'.rangeAt be (oe + n * 5) [.int .i64 kd, .int .i64 xn, .int .i64 yn, .int .i64 0, .int .i64 0])) w5 from ⟨⟨(hL.cell (by (repeat (first | with_reducible exact At.here | with_reducible apply At.there)))).trans rfl, (hL.cell (by (repeat (first | with_reducible exact At.here | with_reducible apply At.there)))).trans rfl, (hL.cell (by (repeat (first | with_reducible exact At.here | with_reducible apply At.there)))).trans rfl, (hL.cell (by (repeat (first | with_reducible exact At.here | with_reducible apply At.there)))).trans rfl⟩, hL.has (fun w => w.rangeAt be (oe + 0 * 5) [.int .i64 1, .int .i64 x0, .int .i64 y0, .int .i64 0, .int .i64 0]), hL.has (fun w => w.rangeAt be (oe + n * 5) [.int .i64 kd, .int .i64 xn, .int .i64 yn, .int .i64 0, .int .i64 0])⟩)
          refine ⟨hS, ?_⟩
          simp only [Act.put, List.setIfInBounds_toArray, List.set_cons_zero, List.set_cons_succ]
          refine wpH_one (i := 13) (by kernel_rfl) (wpOp_of (by simp only [List.getElem?_toArray, List.getElem?_cons_zero, List.getElem?_cons_succ]; rfl) ?_)
          refine st_append rfl _ _ _ rfl v5 (.slice (some ⟨bq, 0, none⟩) 2 2) rfl rfl (appendA hL ?_)
          skip
          intro ng nc w8 hL
          have hS := (show (fun w' : World => (w'.cell? ⟨b1, 0, none⟩ = some (.int .i64 a0) ∧ w'.cell? ⟨b1, 1, none⟩ = some (.int .i64 a1) ∧ w'.cell? ⟨b1, 2, none⟩ = some (.int .i64 a2) ∧ w'.cell? ⟨b1, 3, none⟩ = some (.int .i64 a3)) ∧ (w'.rangeAt be (oe + 0 * 5) [.int .i64 1, .int .i64 x0, .int .i64 y0, .int .i64 0, .int .i64 0]) ∧ (w'.rangeAt be (oe + n * 5) [.int .i64 kd, .int .i64 xn, .int .i64 yn, .int .i64 0, .int .i64 0])) w8 from ⟨⟨(hL.cell (by (repeat (first | with_reducible exact At.here | with_reducible apply At.there)))).trans rfl, (hL.cell (by (repeat (first | with_reducible exact At.here | with_reducible apply At.there)))).trans rfl, (hL.cell (by (repeat (first | with_reducible exact At.here | with_reducible apply At.there)))).trans rfl, (hL.cell (by (repeat (first | with_reducible exact At.here | with_reducible apply At.there)))).trans rfl⟩, hL.has (fun w => w.rangeAt be (oe + 0 * 5) [.int .i64 1, .int .i64 x0, .int .i64 y0, .int .i64 0, .int .i64 0]), hL.has (fun w => w.rangeAt be (oe + n * 5) [.int .i64 kd, .int .i64 xn, .int .i64 yn, .int .i64 0, .int .i64 0])⟩)
          refine ⟨hS, ?_⟩
          simp only [Act.put, List.setIfInBounds_toArray, List.set_cons_zero, List.set_cons_succ]
          refine stH (i := 14) (.slice (some ⟨ng, 0, none⟩) (n + 1 + 2) nc) hS ?_ ?_; (· exact fun w' _ => (by go_simp)); simp only [Act.put, List.setIfInBounds_toArray, List.set_cons_zero, List.set_cons_succ]
          refine wpAnyH_done (by kernel_rfl) ?_ _
          exact hcont bo bq ng nc v5 w8 hL
      · intro bo bq9 ng nc v5 w8 hL
        replace hL := hL.settle .here (φ := fun w => SegsAt w (.slice (some ⟨ng, 0, none⟩) (n + 1 + 2) nc) P) fun w h => own_sliceAt h (by rw [HPl.out]; simp [HLf.out]) (by rw [HPl.out]; simp [segC, lineSg]) (segC_len P)
        have n1 : True := trivial; have n2 : True := trivial; have n3 : True := trivial; have n4 : True := trivial; have n5 : True := trivial; have n6 : True := trivial; have n7 : True := trivial; have n8 : True := trivial; have n9 : True := trivial; have n10 : True := trivial; have n11 : True := trivial
        clear n1
        go_wp2_with (first | (first | (clear hL n1; with_reducible intro b1 w1 hL) | (clear hL n2; with_reducible intro b2 w2 hL) | (clear hL n3; with_reducible intro b3 w3 hL) | (clear hL n4; with_reducible intro b4 w4 hL) | (clear hL n5; with_reducible intro b5 w5 hL) | (clear hL n6; with_reducible intro b6 w6 hL) | (clear hL n7; with_reducible intro b7 w7 hL) | (clear hL n8; with_reducible intro b8 w8 hL) | (clear hL n9; with_reducible intro b9 w9 hL) | (clear hL n10; with_reducible intro b10 w10 hL) | (clear hL n11; with_reducible intro b11 w11 hL) | (clear hL; with_reducible intro _ _ hL)) | (with_reducible refine wpC_alloc rfl _ rfl _ _ inferInstance hL ?_) | (with_reducible first | refine wpB_agg rfl _ _ _ rfl rfl hL ?_ | refine wpB_one rfl _ _ (.int _ _) rfl rfl rfl hL ?_ | refine wpB_one rfl _ _ (.slice _ _ _) rfl rfl rfl hL ?_ | refine wpB_one rfl _ _ (.bool _) rfl rfl rfl hL ?_ | refine wpB_one rfl _ _ (.pointer _) rfl rfl rfl hL ?_ | refine wpB_one rfl _ _ (.func _ _ _) rfl rfl rfl hL ?_) | (with_reducible first | refine wpH_max rfl _ _ _ _ rfl _ _ rfl rfl ?_ | refine wpH_min rfl _ _ _ _ rfl _ _ rfl rfl ?_) | ((with_reducible refine wpA_load rfl _ _ rfl _ rfl ?_); first | refine loadA hL ?_ | refine loadR hL ?_ | refine loadC hL ?_ | refine loadD ?_ | refine loadE hL ?_ | refine loadF ?_) | ((with_reducible refine wpA_index rfl _ _ _ rfl _ rfl _ rfl ?_); first | (refine indexA ?_; try rw [Int.toNat_natCast]) | refine indexC ?_) | ((with_reducible refine wpA_store rfl _ _ _ rfl _ rfl (.agg _) rfl ?_); refine storeR hL ?_; clear hL; intro _ hL) | ((with_reducible first | refine wpA_store rfl _ _ _ rfl _ rfl (.int _ _) rfl ?_ | refine wpA_store rfl _ _ _ rfl _ rfl (.slice _ _ _) rfl ?_ | refine wpA_store rfl _ _ _ rfl _ rfl (.bool _) rfl ?_ | refine wpA_store rfl _ _ _ rfl _ rfl (.pointer _) rfl ?_ | refine wpA_store rfl _ _ _ rfl _ rfl (.func _ _ _) rfl ?_); (first | refine storeA hL ?_ | refine storeO hL ?_); (clear hL; intro _ hL)) | ((with_reducible refine wpA_lit rfl _ _ _ rfl ?_); first | refine litA1 hL ?_ | refine litA2 hL ?_ | refine litA3 hL ?_ | refine litA4 hL ?_ | refine litA6 hL ?_) | ((with_reducible refine wpA_append rfl _ _ _ rfl (.slice _ _ _) rfl ?_); intro vq hvq; simp [go_sem] at hvq; subst hvq; refine appendA hL ?_; clear hL; intro _ _ _ hL; try dsimp only at hL) | ((with_reducible refine wpA_make rfl _ _ _ rfl _ rfl rfl ?_); refine makeA hL ?_))
        replace hL := hL.drew
        have hS := (show (fun w' : World => (w'.cell? ⟨b1, 0, none⟩ = some (.int .i64 a0) ∧ w'.cell? ⟨b1, 1, none⟩ = some (.int .i64 a1) ∧ w'.cell? ⟨b1, 2, none⟩ = some (.int .i64 a2) ∧ w'.cell? ⟨b1, 3, none⟩ = some (.int .i64 a3)) ∧ (w'.rangeAt be (oe + 0 * 5) [.int .i64 1, .int .i64 x0, .int .i64 y0, .int .i64 0, .int .i64 0]) ∧ (w'.rangeAt be (oe + n * 5) [.int .i64 kd, .int .i64 xn, .int .i64 yn, .int .i64 0, .int .i64 0])) _ from ⟨⟨(hL.cell (by (repeat (first | with_reducible exact At.here | with_reducible apply At.there)))).trans rfl, (hL.cell (by (repeat (first | with_reducible exact At.here | with_reducible apply At.there)))).trans rfl, (hL.cell (by (repeat (first | with_reducible exact At.here | with_reducible apply At.there)))).trans rfl, (hL.cell (by (repeat (first | with_reducible exact At.here | with_reducible apply At.there)))).trans rfl⟩, hL.has (fun w => w.rangeAt be (oe + 0 * 5) [.int .i64 1, .int .i64 x0, .int .i64 y0, .int .i64 0, .int .i64 0]), hL.has (fun w => w.rangeAt be (oe + n * 5) [.int .i64 kd, .int .i64 xn, .int .i64 yn, .int .i64 0, .int .i64 0])⟩)
        refine wpH_begin (by kernel_rfl) (fun w' : World => (w'.cell? ⟨b1, 0, none⟩ = some (.int .i64 a0) ∧ w'.cell? ⟨b1, 1, none⟩ = some (.int .i64 a1) ∧ w'.cell? ⟨b1, 2, none⟩ = some (.int .i64 a2) ∧ w'.cell? ⟨b1, 3, none⟩ = some (.int .i64 a3)) ∧ (w'.rangeAt be (oe + 0 * 5) [.int .i64 1, .int .i64 x0, .int .i64 y0, .int .i64 0, .int .i64 0]) ∧ (w'.rangeAt be (oe + n * 5) [.int .i64 kd, .int .i64 xn, .int .i64 yn, .int .i64 0, .int .i64 0])) ?_
        refine stH (i := 0) (.slice (some ⟨be, oe, none⟩) (n + 2) ec) hS ?_ ?_; (· exact fun w' _ => (by go_simp)); simp only [Act.put, List.setIfInBounds_toArray, List.set_cons_zero, List.set_cons_succ]
        refine stH (i := 1) (.int .i64 n) hS ?_ ?_; (· exact fun w' _ => (by go_simp)); simp only [Act.put, List.setIfInBounds_toArray, List.set_cons_zero, List.set_cons_succ]
        refine stH (i := 2) (.pointer (some ⟨be, oe + n * 5, none⟩)) hS ?_ ?_; (· exact fun w' _ => (by go_simp)); simp only [Act.put, List.setIfInBounds_toArray, List.set_cons_zero, List.set_cons_succ]
        refine stH (i := 3) (.pointer (some ⟨be, oe + n * 5 + 1, none⟩)) hS ?_ ?_; (· exact fun w' _ => (by go_simp)); simp only [Act.put, List.setIfInBounds_toArray, List.set_cons_zero, List.set_cons_succ]
        refine stH (i := 4) (.int .i64 xn) hS ?_ ?_; (· exact fun w' hw => run_loadOp _ _ rfl _ rfl _ (load_cell (hw.2.2 1 _ rfl))); simp only [Act.put, List.setIfInBounds_toArray, List.set_cons_zero, List.set_cons_succ]
        refine stH (i := 5) (.slice (some ⟨be, oe, none⟩) (n + 2) ec) hS ?_ ?_; (· exact fun w' _ => (by go_simp)); simp only [Act.put, List.setIfInBounds_toArray, List.set_cons_zero, List.set_cons_succ]
        refine stH (i := 6) (.int .i64 n) hS ?_ ?_; (· exact fun w' _ => (by go_simp)); simp only [Act.put, List.setIfInBounds_toArray, List.set_cons_zero, List.set_cons_succ]
        refine stH (i := 7) (.pointer (some ⟨be, oe + n * 5, none⟩)) hS ?_ ?_; (· exact fun w' _ => (by go_simp)); simp only [Act.put, List.setIfInBounds_toArray, List.set_cons_zero, List.set_cons_succ]
        refine stH (i := 8) (.pointer (some ⟨be, oe + n * 5 + 2, none⟩)) hS ?_ ?_; (· exact fun w' _ => (by go_simp)); simp only [Act.put, List.setIfInBounds_toArray, List.set_cons_zero, List.set_cons_succ]
        refine stH (i := 9) (.int .i64 yn) hS ?_ ?_; (· exact fun w' hw => run_loadOp _ _ rfl _ rfl _ (load_cell (hw.2.2 2 _ rfl))); simp only [Act.put, List.setIfInBounds_toArray, List.set_cons_zero, List.set_cons_succ]
        refine stH (i := 10) (.agg #[.int .i64 1, .int .i64 xn, .int .i64 yn, .int .i64 0, .int .i64 0]) hS ?_ ?_; (· exact fun w' _ => (by go_simp)); simp only [Act.put, List.setIfInBounds_toArray, List.set_cons_zero, List.set_cons_succ]
        refine stH (i := 11) (.slice (some ⟨be, oe, none⟩) (n + 2) ec) hS ?_ ?_; (· exact fun w' _ => (by go_simp)); simp only [Act.put, List.setIfInBounds_toArray, List.set_cons_zero, List.set_cons_succ]
        refine stH (i := 12) (.pointer (some ⟨be, oe, none⟩)) hS ?_ ?_; (· exact fun w' _ => (by go_simp)); simp only [Act.put, List.setIfInBounds_toArray, List.set_cons_zero, List.set_cons_succ]
        refine stH (i := 13) (.pointer (some ⟨be, oe + 1, none⟩)) hS ?_ ?_; (· exact fun w' _ => (by go_simp)); simp only [Act.put, List.setIfInBounds_toArray, List.set_cons_zero, List.set_cons_succ]
        refine stH (i := 14) (.int .i64 x0) hS ?_ ?_; (· exact fun w' hw => run_loadOp _ _ rfl _ rfl _ (load_cell (by have := hw.2.1 1 _ rfl; simpa using this))); simp only [Act.put, List.setIfInBounds_toArray, List.set_cons_zero, List.set_cons_succ]
        refine stH (i := 15) (.slice (some ⟨be, oe, none⟩) (n + 2) ec) hS ?_ ?_; (· exact fun w' _ => (by go_simp)); simp only [Act.put, List.setIfInBounds_toArray, List.set_cons_zero, List.set_cons_succ]
        refine stH (i := 16) (.pointer (some ⟨be, oe, none⟩)) hS ?_ ?_; (· exact fun w' _ => (by go_simp)); simp only [Act.put, List.setIfInBounds_toArray, List.set_cons_zero, List.set_cons_succ]
        refine stH (i := 17) (.pointer (some ⟨be, oe + 2, none⟩)) hS ?_ ?_; (· exact fun w' _ => (by go_simp)); simp only [Act.put, List.setIfInBounds_toArray, List.set_cons_zero, List.set_cons_succ]
        refine stH (i := 18) (.int .i64 y0) hS ?_ ?_; (· exact fun w' hw => run_loadOp _ _ rfl _ rfl _ (load_cell (by have := hw.2.1 2 _ rfl; simpa using this))); simp only [Act.put, List.setIfInBounds_toArray, List.set_cons_zero, List.set_cons_succ]
        refine stH (i := 19) (.agg #[.int .i64 2, .int .i64 x0, .int .i64 y0, .int .i64 0, .int .i64 0]) hS ?_ ?_; (· exact fun w' _ => (by go_simp)); simp only [Act.put, List.setIfInBounds_toArray, List.set_cons_zero, List.set_cons_succ]
        refine stH (i := 20) (.pointer (some ⟨b1, 0, none⟩)) hS ?_ ?_; (· exact fun w' _ => (by go_simp)); simp only [Act.put, List.setIfInBounds_toArray, List.set_cons_zero, List.set_cons_succ]
        refine stH (i := 21) (.int .i64 a0) hS ?_ ?_; (· exact fun w' hw => run_loadOp _ _ rfl _ rfl _ (load_cell hw.1.1)); simp only [Act.put, List.setIfInBounds_toArray, List.set_cons_zero, List.set_cons_succ]
        refine stH (i := 22) (.pointer (some ⟨b1, 1, none⟩)) hS ?_ ?_; (· exact fun w' _ => (by go_simp)); simp only [Act.put, List.setIfInBounds_toArray, List.set_cons_zero, List.set_cons_succ]
        refine stH (i := 23) (.int .i64 a1) hS ?_ ?_; (· exact fun w' hw => run_loadOp _ _ rfl _ rfl _ (load_cell hw.1.2.1)); simp only [Act.put, List.setIfInBounds_toArray, List.set_cons_zero, List.set_cons_succ]
        refine stH (i := 24) (.agg #[.int .i64 2, .int .i64 a0, .int .i64 a1, .int .i64 0, .int .i64 0]) hS ?_ ?_; (· exact fun w' _ => (by go_simp)); simp only [Act.put, List.setIfInBounds_toArray, List.set_cons_zero, List.set_cons_succ]
        refine stH (i := 25) (.agg #[.int .i64 4, .int .i64 0, .int .i64 0, .int .i64 0, .int .i64 0]) hS ?_ ?_; (· exact fun w' _ => (by go_simp)); simp only [Act.put, List.setIfInBounds_toArray, List.set_cons_zero, List.set_cons_succ]
        refine wpH_one (i := 26) (by kernel_rfl) (wpOp_of (by simp only [List.getElem?_toArray, List.getElem?_cons_zero, List.getElem?_cons_succ]; rfl) ?_)
        refine st_lit rfl _ _ _ rfl (litA4 hL ?_)
        clear hL hS
        intro bq10 wq10 hL
        have hS := (show (fun w' : World => (w'.cell? ⟨b1, 0, none⟩ = some (.int .i64 a0) ∧ w'.cell? ⟨b1, 1, none⟩ = some (.int .i64 a1) ∧ w'.cell? ⟨b1, 2, none⟩ = some (.int .i64 a2) ∧ w'.cell? ⟨b1, 3, none⟩ = some (.int .i64 a3)) ∧ (w'.rangeAt be (oe + 0 * 5) [.int .i64 1, .int .i64 x0, .int .i64 y0, .int .i64 0, .int .i64 0]) ∧ (w'.rangeAt be (oe + n * 5) [.int .i64 kd, .int .i64 xn, .int .i64 yn, .int .i64 0, .int .i64 0])) wq10 from ⟨⟨(hL.cell (by (repeat (first | with_reducible exact At.here | with_reducible apply At.there)))).trans rfl, (hL.cell (by (repeat (first | with_reducible exact At.here | with_reducible apply At.there)))).trans rfl, (hL.cell (by (repeat (first | with_reducible exact At.here | with_reducible apply At.there)))).trans rfl, (hL.cell (by (repeat (first | with_reducible exact At.here | with_reducible apply At.there)))).trans rfl⟩, hL.has (fun w => w.rangeAt be (oe + 0 * 5) [.int .i64 1, .int .i64 x0, .int .i64 y0, .int .i64 0, .int .i64 0]), hL.has (fun w => w.rangeAt be (oe + n * 5) [.int .i64 kd, .int .i64 xn, .int .i64 yn, .int .i64 0, .int .i64 0])⟩)
        refine ⟨hS, ?_⟩
        simp only [Act.put, List.setIfInBounds_toArray, List.set_cons_zero, List.set_cons_succ]
        refine stH (i := 27) (.slice (some ⟨bq10, 0, none⟩) 4 4) hS ?_ ?_; (· exact fun w' _ => (by go_simp)); simp only [Act.put, List.setIfInBounds_toArray, List.set_cons_zero, List.set_cons_succ]
        refine wpAnyH_done (by kernel_rfl) ?_ _
        clear hS
        replace hL := hL.settle .here (φ := fun w => SegsAt w (.slice (some ⟨bq10, 0, none⟩) 4 4) (pathP (xn, yn) [(x0, y0), (a0, a1)] true)) fun w h => blk_segs h rfl rfl (by unfold pathP maxLen; simp)
        go_wp2_with (first | (go_at_call 14; (first | ((with_reducible refine (A1.out _ (.slice (some ⟨be, oe, none⟩) (n + 2) ec) hL.segs).mono ?_); rintro e _ ⟨kS, rfl, hb, hf⟩) | ((with_reducible refine (A2.out _ (.slice (some ⟨ng, 0, none⟩) (n + 1 + 2) nc) hL.segs).mono ?_); rintro e _ ⟨kP, rfl, hb, hf⟩) | ((with_reducible refine (A3.out _ (.slice (some ⟨bq10, 0, none⟩) 4 4) hL.segs).mono ?_); rintro e _ ⟨kQ, rfl, hb, hf⟩)); replace hL := hL.callF hb hf; clear hb hf) | (go_at_call 26; (with_reducible refine (otherK_calls (W := 12) (H := 12) (Wi := 12) (Hi := 12) (n := 144) rfl rfl rfl hs _ _ _ _ _ (hL.maskK) (hL.maskK)).mono ?_); rintro e _ ⟨kO, rfl, hb, hf⟩; replace hL := hL.callF hb hf; clear hb hf) | (first | (clear hL n1; with_reducible intro b1 w1 hL) | (clear hL n2; with_reducible intro b2 w2 hL) | (clear hL n3; with_reducible intro b3 w3 hL) | (clear hL n4; with_reducible intro b4 w4 hL) | (clear hL n5; with_reducible intro b5 w5 hL) | (clear hL n6; with_reducible intro b6 w6 hL) | (clear hL n7; with_reducible intro b7 w7 hL) | (clear hL n8; with_reducible intro b8 w8 hL) | (clear hL n9; with_reducible intro b9 w9 hL) | (clear hL n10; with_reducible intro b10 w10 hL) | (clear hL n11; with_reducible intro b11 w11 hL) | (clear hL; with_reducible intro _ _ hL)) | (with_reducible refine wpC_alloc rfl _ rfl _ _ inferInstance hL ?_) | (with_reducible first | refine wpB_agg rfl _ _ _ rfl rfl hL ?_ | refine wpB_one rfl _ _ (.int _ _) rfl rfl rfl hL ?_ | refine wpB_one rfl _ _ (.slice _ _ _) rfl rfl rfl hL ?_ | refine wpB_one rfl _ _ (.bool _) rfl rfl rfl hL ?_ | refine wpB_one rfl _ _ (.pointer _) rfl rfl rfl hL ?_ | refine wpB_one rfl _ _ (.func _ _ _) rfl rfl rfl hL ?_) | (with_reducible first | refine wpH_max rfl _ _ _ _ rfl _ _ rfl rfl ?_ | refine wpH_min rfl _ _ _ _ rfl _ _ rfl rfl ?_) | ((with_reducible refine wpA_load rfl _ _ rfl _ rfl ?_); first | refine loadA hL ?_ | refine loadR hL ?_ | refine loadC hL ?_ | refine loadD ?_ | refine loadE hL ?_ | refine loadF ?_) | ((with_reducible refine wpA_index rfl _ _ _ rfl _ rfl _ rfl ?_); first | (refine indexA ?_; try rw [Int.toNat_natCast]) | refine indexC ?_) | ((with_reducible refine wpA_store rfl _ _ _ rfl _ rfl (.agg _) rfl ?_); refine storeR hL ?_; clear hL; intro _ hL) | ((with_reducible first | refine wpA_store rfl _ _ _ rfl _ rfl (.int _ _) rfl ?_ | refine wpA_store rfl _ _ _ rfl _ rfl (.slice _ _ _) rfl ?_ | refine wpA_store rfl _ _ _ rfl _ rfl (.bool _) rfl ?_ | refine wpA_store rfl _ _ _ rfl _ rfl (.pointer _) rfl ?_ | refine wpA_store rfl _ _ _ rfl _ rfl (.func _ _ _) rfl ?_); (first | refine storeA hL ?_ | refine storeO hL ?_); (clear hL; intro _ hL)) | ((with_reducible refine wpA_lit rfl _ _ _ rfl ?_); first | refine litA1 hL ?_ | refine litA2 hL ?_ | refine litA3 hL ?_ | refine litA4 hL ?_ | refine litA6 hL ?_) | ((with_reducible refine wpA_append rfl _ _ _ rfl (.slice _ _ _) rfl ?_); intro vq hvq; simp [go_sem] at hvq; subst hvq; refine appendA hL ?_; clear hL; intro _ _ _ hL; try dsimp only at hL) | ((with_reducible refine wpA_make rfl _ _ _ rfl _ rfl rfl ?_); refine makeA hL ?_))
        replace hL := hL.drew
        have hS := (show (fun w' : World => (w'.cell? ⟨b1, 0, none⟩ = some (.int .i64 a0) ∧ w'.cell? ⟨b1, 1, none⟩ = some (.int .i64 a1) ∧ w'.cell? ⟨b1, 2, none⟩ = some (.int .i64 a2) ∧ w'.cell? ⟨b1, 3, none⟩ = some (.int .i64 a3)) ∧ (w'.rangeAt be (oe + 0 * 5) [.int .i64 1, .int .i64 x0, .int .i64 y0, .int .i64 0, .int .i64 0]) ∧ (w'.rangeAt be (oe + n * 5) [.int .i64 kd, .int .i64 xn, .int .i64 yn, .int .i64 0, .int .i64 0])) _ from ⟨⟨(hL.cell (by (repeat (first | with_reducible exact At.here | with_reducible apply At.there)))).trans rfl, (hL.cell (by (repeat (first | with_reducible exact At.here | with_reducible apply At.there)))).trans rfl, (hL.cell (by (repeat (first | with_reducible exact At.here | with_reducible apply At.there)))).trans rfl, (hL.cell (by (repeat (first | with_reducible exact At.here | with_reducible apply At.there)))).trans rfl⟩, hL.has (fun w => w.rangeAt be (oe + 0 * 5) [.int .i64 1, .int .i64 x0, .int .i64 y0, .int .i64 0, .int .i64 0]), hL.has (fun w => w.rangeAt be (oe + n * 5) [.int .i64 kd, .int .i64 xn, .int .i64 yn, .int .i64 0, .int .i64 0])⟩)
        refine wpH_begin (by kernel_rfl) (fun w' : World => (w'.cell? ⟨b1, 0, none⟩ = some (.int .i64 a0) ∧ w'.cell? ⟨b1, 1, none⟩ = some (.int .i64 a1) ∧ w'.cell? ⟨b1, 2, none⟩ = some (.int .i64 a2) ∧ w'.cell? ⟨b1, 3, none⟩ = some (.int .i64 a3)) ∧ (w'.rangeAt be (oe + 0 * 5) [.int .i64 1, .int .i64 x0, .int .i64 y0, .int .i64 0, .int .i64 0]) ∧ (w'.rangeAt be (oe + n * 5) [.int .i64 kd, .int .i64 xn, .int .i64 yn, .int .i64 0, .int .i64 0])) ?_
        refine stH (i := 0) (.pointer (some ⟨b1, 0, none⟩)) hS ?_ ?_; (· exact fun w' _ => (by go_simp)); simp only [Act.put, List.setIfInBounds_toArray, List.set_cons_zero, List.set_cons_succ]
        refine stH (i := 1) (.int .i64 a0) hS ?_ ?_; (· exact fun w' hw => run_loadOp _ _ rfl _ rfl _ (load_cell hw.1.1)); simp only [Act.put, List.setIfInBounds_toArray, List.set_cons_zero, List.set_cons_succ]
        refine stH (i := 2) (.int .i64 (2 * a0)) hS ?_ ?_; (· exact fun w' _ => (by go_simp)); simp only [Act.put, List.setIfInBounds_toArray, List.set_cons_zero, List.set_cons_succ]
        refine stH (i := 3) (.pointer (some ⟨b1, 1, none⟩)) hS ?_ ?_; (· exact fun w' _ => (by go_simp)); simp only [Act.put, List.setIfInBounds_toArray, List.set_cons_zero, List.set_cons_succ]
        refine stH (i := 4) (.int .i64 a1) hS ?_ ?_; (· exact fun w' hw => run_loadOp _ _ rfl _ rfl _ (load_cell hw.1.2.1)); simp only [Act.put, List.setIfInBounds_toArray, List.set_cons_zero, List.set_cons_succ]
        refine stH (i := 5) (.int .i64 (2 * a1)) hS ?_ ?_; (· exact fun w' _ => (by go_simp)); simp only [Act.put, List.setIfInBounds_toArray, List.set_cons_zero, List.set_cons_succ]
        refine stH (i := 6) (.agg #[.int .i64 1, .int .i64 (2 * a0), .int .i64 (2 * a1), .int .i64 0, .int .i64 0]) hS ?_ ?_; (· exact fun w' _ => (by go_simp)); simp only [Act.put, List.setIfInBounds_toArray, List.set_cons_zero, List.set_cons_succ]
        refine stH (i := 7) (.pointer (some ⟨b1, 2, none⟩)) hS ?_ ?_; (· exact fun w' _ => (by go_simp)); simp only [Act.put, List.setIfInBounds_toArray, List.set_cons_zero, List.set_cons_succ]
        refine stH (i := 8) (.int .i64 a2) hS ?_ ?_; (· exact fun w' hw => run_loadOp _ _ rfl _ rfl _ (load_cell hw.1.2.2.1)); simp only [Act.put, List.setIfInBounds_toArray, List.set_cons_zero, List.set_cons_succ]
        refine stH (i := 9) (.int .i64 (2 * a2)) hS ?_ ?_; (· exact fun w' _ => (by go_simp)); simp only [Act.put, List.setIfInBounds_toArray, List.set_cons_zero, List.set_cons_succ]
        refine stH (i := 10) (.pointer (some ⟨b1, 3, none⟩)) hS ?_ ?_; (· exact fun w' _ => (by go_simp)); simp only [Act.put, List.setIfInBounds_toArray, List.set_cons_zero, List.set_cons_succ]
        refine stH (i := 11) (.int .i64 a3) hS ?_ ?_; (· exact fun w' hw => run_loadOp _ _ rfl _ rfl _ (load_cell hw.1.2.2.2)); simp only [Act.put, List.setIfInBounds_toArray, List.set_cons_zero, List.set_cons_succ]
        refine stH (i := 12) (.int .i64 (2 * a3)) hS ?_ ?_; (· exact fun w' _ => (by go_simp)); simp only [Act.put, List.setIfInBounds_toArray, List.set_cons_zero, List.set_cons_succ]
        refine stH (i := 13) (.agg #[.int .i64 2, .int .i64 (2 * a2), .int .i64 (2 * a3), .int .i64 0, .int .i64 0]) hS ?_ ?_; (· exact fun w' _ => (by go_simp)); simp only [Act.put, List.setIfInBounds_toArray, List.set_cons_zero, List.set_cons_succ]
        refine stH (i := 14) (.slice (some ⟨be, oe, none⟩) (n + 2) ec) hS ?_ ?_; (· exact fun w' _ => (by go_simp)); simp only [Act.put, List.setIfInBounds_toArray, List.set_cons_zero, List.set_cons_succ]
        refine stH (i := 15) (.pointer (some ⟨be, oe, none⟩)) hS ?_ ?_; (· exact fun w' _ => (by go_simp)); simp only [Act.put, List.setIfInBounds_toArray, List.set_cons_zero, List.set_cons_succ]
        refine stH (i := 16) (.pointer (some ⟨be, oe + 1, none⟩)) hS ?_ ?_; (· exact fun w' _ => (by go_simp)); simp only [Act.put, List.setIfInBounds_toArray, List.set_cons_zero, List.set_cons_succ]
        refine stH (i := 17) (.int .i64 x0) hS ?_ ?_; (· exact fun w' hw => run_loadOp _ _ rfl _ rfl _ (load_cell (by have := hw.2.1 1 _ rfl; simpa using this))); simp only [Act.put, List.setIfInBounds_toArray, List.set_cons_zero, List.set_cons_succ]
        refine stH (i := 18) (.slice (some ⟨be, oe, none⟩) (n + 2) ec) hS ?_ ?_; (· exact fun w' _ => (by go_simp)); simp only [Act.put, List.setIfInBounds_toArray, List.set_cons_zero, List.set_cons_succ]
        refine stH (i := 19) (.pointer (some ⟨be, oe, none⟩)) hS ?_ ?_; (· exact fun w' _ => (by go_simp)); simp only [Act.put, List.setIfInBounds_toArray, List.set_cons_zero, List.set_cons_succ]
        refine stH (i := 20) (.pointer (some ⟨be, oe + 2, none⟩)) hS ?_ ?_; (· exact fun w' _ => (by go_simp)); simp only [Act.put, List.setIfInBounds_toArray, List.set_cons_zero, List.set_cons_succ]
        refine stH (i := 21) (.int .i64 y0) hS ?_ ?_; (· exact fun w' hw => run_loadOp _ _ rfl _ rfl _ (load_cell (by have := hw.2.1 2 _ rfl; simpa using this))); simp only [Act.put, List.setIfInBounds_toArray, List.set_cons_zero, List.set_cons_succ]
        refine stH (i := 22) (.agg #[.int .i64 2, .int .i64 x0, .int .i64 y0, .int .i64 0, .int .i64 0]) hS ?_ ?_; (· exact fun w' _ => (by go_simp)); simp only [Act.put, List.setIfInBounds_toArray, List.set_cons_zero, List.set_cons_succ]
        refine wpH_one (i := 23) (by kernel_rfl) (wpOp_of (by simp only [List.getElem?_toArray, List.getElem?_cons_zero, List.getElem?_cons_succ]; rfl) ?_)
        refine st_lit rfl _ _ _ rfl (litA3 hL ?_)
        clear hL hS
        intro bq15 wq15 hL
        have hS := (show (fun w' : World => (w'.cell? ⟨b1, 0, none⟩ = some (.int .i64 a0) ∧ w'.cell? ⟨b1, 1, none⟩ = some (.int .i64 a1) ∧ w'.cell? ⟨b1, 2, none⟩ = some (.int .i64 a2) ∧ w'.cell? ⟨b1, 3, none⟩ = some (.int .i64 a3)) ∧ (w'.rangeAt be (oe + 0 * 5) [.int .i64 1, .int .i64 x0, .int .i64 y0, .int .i64 0, .int .i64 0]) ∧ (w'.rangeAt be (oe + n * 5) [.int .i64 kd, .int .i64 xn, .int .i64 yn, .int .i64 0, .int .i64 0])) wq15 from ⟨⟨(hL.cell (by (repeat (first | with_reducible exact At.here | with_reducible apply At.there)))).trans rfl, (hL.cell (by (repeat (first | with_reducible exact At.here | with_reducible apply At.there)))).trans rfl, (hL.cell (by (repeat (first | with_reducible exact At.here | with_reducible apply At.there)))).trans rfl, (hL.cell (by (repeat (first | with_reducible exact At.here | with_reducible apply At.there)))).trans rfl⟩, hL.has (fun w => w.rangeAt be (oe + 0 * 5) [.int .i64 1, .int .i64 x0, .int .i64 y0, .int .i64 0, .int .i64 0]), hL.has (fun w => w.rangeAt be (oe + n * 5) [.int .i64 kd, .int .i64 xn, .int .i64 yn, .int .i64 0, .int .i64 0])⟩)
        refine ⟨hS, ?_⟩
        simp only [Act.put, List.setIfInBounds_toArray, List.set_cons_zero, List.set_cons_succ]
        refine stH (i := 24) (.slice (some ⟨bq15, 0, none⟩) 3 3) hS ?_ ?_; (· exact fun w' _ => (by go_simp)); simp only [Act.put, List.setIfInBounds_toArray, List.set_cons_zero, List.set_cons_succ]
        refine wpAnyH_done (by kernel_rfl) ?_ _
        clear hS
        replace hL := hL.settle .here (φ := fun w => SegsAt w (.slice (some ⟨bq15, 0, none⟩) 3 3) (pathP (dbl (a0, a1)) [dbl (a2, a3), (x0, y0)] false)) fun w h => blk_segs h rfl rfl (by unfold pathP maxLen; simp)
        go_wp2_with (first | (first | (clear hL n1; with_reducible intro b1 w1 hL) | (clear hL n2; with_reducible intro b2 w2 hL) | (clear hL n3; with_reducible intro b3 w3 hL) | (clear hL n4; with_reducible intro b4 w4 hL) | (clear hL n5; with_reducible intro b5 w5 hL) | (clear hL n6; with_reducible intro b6 w6 hL) | (clear hL n7; with_reducible intro b7 w7 hL) | (clear hL n8; with_reducible intro b8 w8 hL) | (clear hL n9; with_reducible intro b9 w9 hL) | (clear hL n10; with_reducible intro b10 w10 hL) | (clear hL n11; with_reducible intro b11 w11 hL) | (clear hL; with_reducible intro _ _ hL)) | (with_reducible refine wpC_alloc rfl _ rfl _ _ inferInstance hL ?_) | (with_reducible first | refine wpB_agg rfl _ _ _ rfl rfl hL ?_ | refine wpB_one rfl _ _ (.int _ _) rfl rfl rfl hL ?_ | refine wpB_one rfl _ _ (.slice _ _ _) rfl rfl rfl hL ?_ | refine wpB_one rfl _ _ (.bool _) rfl rfl rfl hL ?_ | refine wpB_one rfl _ _ (.pointer _) rfl rfl rfl hL ?_ | refine wpB_one rfl _ _ (.func _ _ _) rfl rfl rfl hL ?_) | (with_reducible first | refine wpH_max rfl _ _ _ _ rfl _ _ rfl rfl ?_ | refine wpH_min rfl _ _ _ _ rfl _ _ rfl rfl ?_) | ((with_reducible refine wpA_load rfl _ _ rfl _ rfl ?_); first | refine loadA hL ?_ | refine loadR hL ?_ | refine loadC hL ?_ | refine loadD ?_ | refine loadE hL ?_ | refine loadF ?_) | ((with_reducible refine wpA_index rfl _ _ _ rfl _ rfl _ rfl ?_); first | (refine indexA ?_; try rw [Int.toNat_natCast]) | refine indexC ?_) | ((with_reducible refine wpA_store rfl _ _ _ rfl _ rfl (.agg _) rfl ?_); refine storeR hL ?_; clear hL; intro _ hL) | ((with_reducible first | refine wpA_store rfl _ _ _ rfl _ rfl (.int _ _) rfl ?_ | refine wpA_store rfl _ _ _ rfl _ rfl (.slice _ _ _) rfl ?_ | refine wpA_store rfl _ _ _ rfl _ rfl (.bool _) rfl ?_ | refine wpA_store rfl _ _ _ rfl _ rfl (.pointer _) rfl ?_ | refine wpA_store rfl _ _ _ rfl _ rfl (.func _ _ _) rfl ?_); (first | refine storeA hL ?_ | refine storeO hL ?_); (clear hL; intro _ hL)) | ((with_reducible refine wpA_lit rfl _ _ _ rfl ?_); first | refine litA1 hL ?_ | refine litA2 hL ?_ | refine litA3 hL ?_ | refine litA4 hL ?_ | refine litA6 hL ?_) | ((with_reducible refine wpA_append rfl _ _ _ rfl (.slice _ _ _) rfl ?_); intro vq hvq; simp [go_sem] at hvq; subst hvq; refine appendA hL ?_; clear hL; intro _ _ _ hL; try dsimp only at hL) | ((with_reducible refine wpA_make rfl _ _ _ rfl _ rfl rfl ?_); refine makeA hL ?_))
        replace hL := hL.drew
        have hS := (show (fun w' : World => (w'.cell? ⟨b1, 0, none⟩ = some (.int .i64 a0) ∧ w'.cell? ⟨b1, 1, none⟩ = some (.int .i64 a1) ∧ w'.cell? ⟨b1, 2, none⟩ = some (.int .i64 a2) ∧ w'.cell? ⟨b1, 3, none⟩ = some (.int .i64 a3)) ∧ (w'.rangeAt be (oe + 0 * 5) [.int .i64 1, .int .i64 x0, .int .i64 y0, .int .i64 0, .int .i64 0]) ∧ (w'.rangeAt be (oe + n * 5) [.int .i64 kd, .int .i64 xn, .int .i64 yn, .int .i64 0, .int .i64 0])) _ from ⟨⟨(hL.cell (by (repeat (first | with_reducible exact At.here | with_reducible apply At.there)))).trans rfl, (hL.cell (by (repeat (first | with_reducible exact At.here | with_reducible apply At.there)))).trans rfl, (hL.cell (by (repeat (first | with_reducible exact At.here | with_reducible apply At.there)))).trans rfl, (hL.cell (by (repeat (first | with_reducible exact At.here | with_reducible apply At.there)))).trans rfl⟩, hL.has (fun w => w.rangeAt be (oe + 0 * 5) [.int .i64 1, .int .i64 x0, .int .i64 y0, .int .i64 0, .int .i64 0]), hL.has (fun w => w.rangeAt be (oe + n * 5) [.int .i64 kd, .int .i64 xn, .int .i64 yn, .int .i64 0, .int .i64 0])⟩)
        refine wpH_begin (by kernel_rfl) (fun w' : World => (w'.cell? ⟨b1, 0, none⟩ = some (.int .i64 a0) ∧ w'.cell? ⟨b1, 1, none⟩ = some (.int .i64 a1) ∧ w'.cell? ⟨b1, 2, none⟩ = some (.int .i64 a2) ∧ w'.cell? ⟨b1, 3, none⟩ = some (.int .i64 a3)) ∧ (w'.rangeAt be (oe + 0 * 5) [.int .i64 1, .int .i64 x0, .int .i64 y0, .int .i64 0, .int .i64 0]) ∧ (w'.rangeAt be (oe + n * 5) [.int .i64 kd, .int .i64 xn, .int .i64 yn, .int .i64 0, .int .i64 0])) ?_
        refine stH (i := 0) (.pointer (some ⟨b1, 0, none⟩)) hS ?_ ?_; (· exact fun w' _ => (by go_simp)); simp only [Act.put, List.setIfInBounds_toArray, List.set_cons_zero, List.set_cons_succ]
        refine stH (i := 1) (.int .i64 a0) hS ?_ ?_; (· exact fun w' hw => run_loadOp _ _ rfl _ rfl _ (load_cell hw.1.1)); simp only [Act.put, List.setIfInBounds_toArray, List.set_cons_zero, List.set_cons_succ]
        refine stH (i := 2) (.int .i64 (2 * a0)) hS ?_ ?_; (· exact fun w' _ => (by go_simp)); simp only [Act.put, List.setIfInBounds_toArray, List.set_cons_zero, List.set_cons_succ]
        refine stH (i := 3) (.pointer (some ⟨b1, 1, none⟩)) hS ?_ ?_; (· exact fun w' _ => (by go_simp)); simp only [Act.put, List.setIfInBounds_toArray, List.set_cons_zero, List.set_cons_succ]
        refine stH (i := 4) (.int .i64 a1) hS ?_ ?_; (· exact fun w' hw => run_loadOp _ _ rfl _ rfl _ (load_cell hw.1.2.1)); simp only [Act.put, List.setIfInBounds_toArray, List.set_cons_zero, List.set_cons_succ]
        refine stH (i := 5) (.int .i64 (2 * a1)) hS ?_ ?_; (· exact fun w' _ => (by go_simp)); simp only [Act.put, List.setIfInBounds_toArray, List.set_cons_zero, List.set_cons_succ]
        refine stH (i := 6) (.agg #[.int .i64 1, .int .i64 (2 * a0), .int .i64 (2 * a1), .int .i64 0, .int .i64 0]) hS ?_ ?_; (· exact fun w' _ => (by go_simp)); simp only [Act.put, List.setIfInBounds_toArray, List.set_cons_zero, List.set_cons_succ]
        refine stH (i := 7) (.pointer (some ⟨b1, 0, none⟩)) hS ?_ ?_; (· exact fun w' _ => (by go_simp)); simp only [Act.put, List.setIfInBounds_toArray, List.set_cons_zero, List.set_cons_succ]
        refine stH (i := 8) (.int .i64 a0) hS ?_ ?_; (· exact fun w' hw => run_loadOp _ _ rfl _ rfl _ (load_cell hw.1.1)); simp only [Act.put, List.setIfInBounds_toArray, List.set_cons_zero, List.set_cons_succ]
        refine stH (i := 9) (.pointer (some ⟨b1, 2, none⟩)) hS ?_ ?_; (· exact fun w' _ => (by go_simp)); simp only [Act.put, List.setIfInBounds_toArray, List.set_cons_zero, List.set_cons_succ]
        refine stH (i := 10) (.int .i64 a2) hS ?_ ?_; (· exact fun w' hw => run_loadOp _ _ rfl _ rfl _ (load_cell hw.1.2.2.1)); simp only [Act.put, List.setIfInBounds_toArray, List.set_cons_zero, List.set_cons_succ]
        refine stH (i := 11) (.int .i64 (a0 + a2)) hS ?_ ?_; (· exact fun w' _ => (by go_simp)); simp only [Act.put, List.setIfInBounds_toArray, List.set_cons_zero, List.set_cons_succ]
        refine stH (i := 12) (.pointer (some ⟨b1, 1, none⟩)) hS ?_ ?_; (· exact fun w' _ => (by go_simp)); simp only [Act.put, List.setIfInBounds_toArray, List.set_cons_zero, List.set_cons_succ]
        refine stH (i := 13) (.int .i64 a1) hS ?_ ?_; (· exact fun w' hw => run_loadOp _ _ rfl _ rfl _ (load_cell hw.1.2.1)); simp only [Act.put, List.setIfInBounds_toArray, List.set_cons_zero, List.set_cons_succ]
        refine stH (i := 14) (.pointer (some ⟨b1, 3, none⟩)) hS ?_ ?_; (· exact fun w' _ => (by go_simp)); simp only [Act.put, List.setIfInBounds_toArray, List.set_cons_zero, List.set_cons_succ]
        refine stH (i := 15) (.int .i64 a3) hS ?_ ?_; (· exact fun w' hw => run_loadOp _ _ rfl _ rfl _ (load_cell hw.1.2.2.2)); simp only [Act.put, List.setIfInBounds_toArray, List.set_cons_zero, List.set_cons_succ]
        refine stH (i := 16) (.int .i64 (a1 + a3)) hS ?_ ?_; (· exact fun w' _ => (by go_simp)); simp only [Act.put, List.setIfInBounds_toArray, List.set_cons_zero, List.set_cons_succ]
        refine stH (i := 17) (.agg #[.int .i64 2, .int .i64 (a0 + a2), .int .i64 (a1 + a3), .int .i64 0, .int .i64 0]) hS ?_ ?_; (· exact fun w' _ => (by go_simp)); simp only [Act.put, List.setIfInBounds_toArray, List.set_cons_zero, List.set_cons_succ]
        refine stH (i := 18) (.slice (some ⟨be, oe, none⟩) (n + 2) ec) hS ?_ ?_; (· exact fun w' _ => (by go_simp)); simp only [Act.put, List.setIfInBounds_toArray, List.set_cons_zero, List.set_cons_succ]
        refine stH (i := 19) (.pointer (some ⟨be, oe, none⟩)) hS ?_ ?_; (· exact fun w' _ => (by go_simp)); simp only [Act.put, List.setIfInBounds_toArray, List.set_cons_zero, List.set_cons_succ]
        refine stH (i := 20) (.pointer (some ⟨be, oe + 1, none⟩)) hS ?_ ?_; (· exact fun w' _ => (by go_simp)); simp only [Act.put, List.setIfInBounds_toArray, List.set_cons_zero, List.set_cons_succ]
        refine stH (i := 21) (.int .i64 x0) hS ?_ ?_; (· exact fun w' hw => run_loadOp _ _ rfl _ rfl _ (load_cell (by have := hw.2.1 1 _ rfl; simpa using this))); simp only [Act.put, List.setIfInBounds_toArray, List.set_cons_zero, List.set_cons_succ]
        refine stH (i := 22) (.slice (some ⟨be, oe, none⟩) (n + 2) ec) hS ?_ ?_; (· exact fun w' _ => (by go_simp)); simp only [Act.put, List.setIfInBounds_toArray, List.set_cons_zero, List.set_cons_succ]
        refine stH (i := 23) (.pointer (some ⟨be, oe, none⟩)) hS ?_ ?_; (· exact fun w' _ => (by go_simp)); simp only [Act.put, List.setIfInBounds_toArray, List.set_cons_zero, List.set_cons_succ]
        refine stH (i := 24) (.pointer (some ⟨be, oe + 2, none⟩)) hS ?_ ?_; (· exact fun w' _ => (by go_simp)); simp only [Act.put, List.setIfInBounds_toArray, List.set_cons_zero, List.set_cons_succ]
        refine stH (i := 25) (.int .i64 y0) hS ?_ ?_; (· exact fun w' hw => run_loadOp _ _ rfl _ rfl _ (load_cell (by have := hw.2.1 2 _ rfl; simpa using this))); simp only [Act.put, List.setIfInBounds_toArray, List.set_cons_zero, List.set_cons_succ]
        refine stH (i := 26) (.agg #[.int .i64 2, .int .i64 x0, .int .i64 y0, .int .i64 0, .int .i64 0]) hS ?_ ?_; (· exact fun w' _ => (by go_simp)); simp only [Act.put, List.setIfInBounds_toArray, List.set_cons_zero, List.set_cons_succ]
        refine wpH_one (i := 27) (by kernel_rfl) (wpOp_of (by simp only [List.getElem?_toArray, List.getElem?_cons_zero, List.getElem?_cons_succ]; rfl) ?_)
        refine st_lit rfl _ _ _ rfl (litA3 hL ?_)
        clear hL hS
        intro bq16 wq16 hL
        have hS := (show (fun w' : World => (w'.cell? ⟨b1, 0, none⟩ = some (.int .i64 a0) ∧ w'.cell? ⟨b1, 1, none⟩ = some (.int .i64 a1) ∧ w'.cell? ⟨b1, 2, none⟩ = some (.int .i64 a2) ∧ w'.cell? ⟨b1, 3, none⟩ = some (.int .i64 a3)) ∧ (w'.rangeAt be (oe + 0 * 5) [.int .i64 1, .int .i64 x0, .int .i64 y0, .int .i64 0, .int .i64 0]) ∧ (w'.rangeAt be (oe + n * 5) [.int .i64 kd, .int .i64 xn, .int .i64 yn, .int .i64 0, .int .i64 0])) wq16 from ⟨⟨(hL.cell (by (repeat (first | with_reducible exact At.here | with_reducible apply At.there)))).trans rfl, (hL.cell (by (repeat (first | with_reducible exact At.here | with_reducible apply At.there)))).trans rfl, (hL.cell (by (repeat (first | with_reducible exact At.here | with_reducible apply At.there)))).trans rfl, (hL.cell (by (repeat (first | with_reducible exact At.here | with_reducible apply At.there)))).trans rfl⟩, hL.has (fun w => w.rangeAt be (oe + 0 * 5) [.int .i64 1, .int .i64 x0, .int .i64 y0, .int .i64 0, .int .i64 0]), hL.has (fun w => w.rangeAt be (oe + n * 5) [.int .i64 kd, .int .i64 xn, .int .i64 yn, .int .i64 0, .int .i64 0])⟩)
        refine ⟨hS, ?_⟩
        simp only [Act.put, List.setIfInBounds_toArray, List.set_cons_zero, List.set_cons_succ]
        refine stH (i := 28) (.slice (some ⟨bq16, 0, none⟩) 3 3) hS ?_ ?_; (· exact fun w' _ => (by go_simp)); simp only [Act.put, List.setIfInBounds_toArray, List.set_cons_zero, List.set_cons_succ]
        refine wpAnyH_done (by kernel_rfl) ?_ _
        clear hS
        replace hL := hL.settle .here (φ := fun w => SegsAt w (.slice (some ⟨bq16, 0, none⟩) 3 3) (pathP (dbl (a0, a1)) [mid (a0, a1) (a2, a3), (x0, y0)] false)) fun w h => blk_segs h rfl rfl (by unfold pathP maxLen; simp)
        go_wp2_with (first | (first | (clear hL n1; with_reducible intro b1 w1 hL) | (clear hL n2; with_reducible intro b2 w2 hL) | (clear hL n3; with_reducible intro b3 w3 hL) | (clear hL n4; with_reducible intro b4 w4 hL) | (clear hL n5; with_reducible intro b5 w5 hL) | (clear hL n6; with_reducible intro b6 w6 hL) | (clear hL n7; with_reducible intro b7 w7 hL) | (clear hL n8; with_reducible intro b8 w8 hL) | (clear hL n9; with_reducible intro b9 w9 hL) | (clear hL n10; with_reducible intro b10 w10 hL) | (clear hL n11; with_reducible intro b11 w11 hL) | (clear hL; with_reducible intro _ _ hL)) | (with_reducible refine wpC_alloc rfl _ rfl _ _ inferInstance hL ?_) | (with_reducible first | refine wpB_agg rfl _ _ _ rfl rfl hL ?_ | refine wpB_one rfl _ _ (.int _ _) rfl rfl rfl hL ?_ | refine wpB_one rfl _ _ (.slice _ _ _) rfl rfl rfl hL ?_ | refine wpB_one rfl _ _ (.bool _) rfl rfl rfl hL ?_ | refine wpB_one rfl _ _ (.pointer _) rfl rfl rfl hL ?_ | refine wpB_one rfl _ _ (.func _ _ _) rfl rfl rfl hL ?_) | (with_reducible first | refine wpH_max rfl _ _ _ _ rfl _ _ rfl rfl ?_ | refine wpH_min rfl _ _ _ _ rfl _ _ rfl rfl ?_) | ((with_reducible refine wpA_load rfl _ _ rfl _ rfl ?_); first | refine loadA hL ?_ | refine loadR hL ?_ | refine loadC hL ?_ | refine loadD ?_ | refine loadE hL ?_ | refine loadF ?_) | ((with_reducible refine wpA_index rfl _ _ _ rfl _ rfl _ rfl ?_); first | (refine indexA ?_; try rw [Int.toNat_natCast]) | refine indexC ?_) | ((with_reducible refine wpA_store rfl _ _ _ rfl _ rfl (.agg _) rfl ?_); refine storeR hL ?_; clear hL; intro _ hL) | ((with_reducible first | refine wpA_store rfl _ _ _ rfl _ rfl (.int _ _) rfl ?_ | refine wpA_store rfl _ _ _ rfl _ rfl (.slice _ _ _) rfl ?_ | refine wpA_store rfl _ _ _ rfl _ rfl (.bool _) rfl ?_ | refine wpA_store rfl _ _ _ rfl _ rfl (.pointer _) rfl ?_ | refine wpA_store rfl _ _ _ rfl _ rfl (.func _ _ _) rfl ?_); (first | refine storeA hL ?_ | refine storeO hL ?_); (clear hL; intro _ hL)) | ((with_reducible refine wpA_lit rfl _ _ _ rfl ?_); first | refine litA1 hL ?_ | refine litA2 hL ?_ | refine litA3 hL ?_ | refine litA4 hL ?_ | refine litA6 hL ?_) | ((with_reducible refine wpA_append rfl _ _ _ rfl (.slice _ _ _) rfl ?_); intro vq hvq; simp [go_sem] at hvq; subst hvq; refine appendA hL ?_; clear hL; intro _ _ _ hL; try dsimp only at hL) | ((with_reducible refine wpA_make rfl _ _ _ rfl _ rfl rfl ?_); refine makeA hL ?_))
        replace hL := hL.drew
        have hS := (show (fun w' : World => (w'.cell? ⟨b1, 0, none⟩ = some (.int .i64 a0) ∧ w'.cell? ⟨b1, 1, none⟩ = some (.int .i64 a1) ∧ w'.cell? ⟨b1, 2, none⟩ = some (.int .i64 a2) ∧ w'.cell? ⟨b1, 3, none⟩ = some (.int .i64 a3)) ∧ (w'.rangeAt be (oe + 0 * 5) [.int .i64 1, .int .i64 x0, .int .i64 y0, .int .i64 0, .int .i64 0]) ∧ (w'.rangeAt be (oe + n * 5) [.int .i64 kd, .int .i64 xn, .int .i64 yn, .int .i64 0, .int .i64 0])) _ from ⟨⟨(hL.cell (by (repeat (first | with_reducible exact At.here | with_reducible apply At.there)))).trans rfl, (hL.cell (by (repeat (first | with_reducible exact At.here | with_reducible apply At.there)))).trans rfl, (hL.cell (by (repeat (first | with_reducible exact At.here | with_reducible apply At.there)))).trans rfl, (hL.cell (by (repeat (first | with_reducible exact At.here | with_reducible apply At.there)))).trans rfl⟩, hL.has (fun w => w.rangeAt be (oe + 0 * 5) [.int .i64 1, .int .i64 x0, .int .i64 y0, .int .i64 0, .int .i64 0]), hL.has (fun w => w.rangeAt be (oe + n * 5) [.int .i64 kd, .int .i64 xn, .int .i64 yn, .int .i64 0, .int .i64 0])⟩)
        refine wpH_begin (by kernel_rfl) (fun w' : World => (w'.cell? ⟨b1, 0, none⟩ = some (.int .i64 a0) ∧ w'.cell? ⟨b1, 1, none⟩ = some (.int .i64 a1) ∧ w'.cell? ⟨b1, 2, none⟩ = some (.int .i64 a2) ∧ w'.cell? ⟨b1, 3, none⟩ = some (.int .i64 a3)) ∧ (w'.rangeAt be (oe + 0 * 5) [.int .i64 1, .int .i64 x0, .int .i64 y0, .int .i64 0, .int .i64 0]) ∧ (w'.rangeAt be (oe + n * 5) [.int .i64 kd, .int .i64 xn, .int .i64 yn, .int .i64 0, .int .i64 0])) ?_
        refine stH (i := 0) (.pointer (some ⟨b1, 0, none⟩)) hS ?_ ?_; (· exact fun w' _ => (by go_simp)); simp only [Act.put, List.setIfInBounds_toArray, List.set_cons_zero, List.set_cons_succ]
        refine stH (i := 1) (.int .i64 a0) hS ?_ ?_; (· exact fun w' hw => run_loadOp _ _ rfl _ rfl _ (load_cell hw.1.1)); simp only [Act.put, List.setIfInBounds_toArray, List.set_cons_zero, List.set_cons_succ]
        refine stH (i := 2) (.pointer (some ⟨b1, 2, none⟩)) hS ?_ ?_; (· exact fun w' _ => (by go_simp)); simp only [Act.put, List.setIfInBounds_toArray, List.set_cons_zero, List.set_cons_succ]
        refine stH (i := 3) (.int .i64 a2) hS ?_ ?_; (· exact fun w' hw => run_loadOp _ _ rfl _ rfl _ (load_cell hw.1.2.2.1)); simp only [Act.put, List.setIfInBounds_toArray, List.set_cons_zero, List.set_cons_succ]
        refine stH (i := 4) (.int .i64 (a0 + a2)) hS ?_ ?_; (· exact fun w' _ => (by go_simp)); simp only [Act.put, List.setIfInBounds_toArray, List.set_cons_zero, List.set_cons_succ]
        refine stH (i := 5) (.pointer (some ⟨b1, 1, none⟩)) hS ?_ ?_; (· exact fun w' _ => (by go_simp)); simp only [Act.put, List.setIfInBounds_toArray, List.set_cons_zero, List.set_cons_succ]
        refine stH (i := 6) (.int .i64 a1) hS ?_ ?_; (· exact fun w' hw => run_loadOp _ _ rfl _ rfl _ (load_cell hw.1.2.1)); simp only [Act.put, List.setIfInBounds_toArray, List.set_cons_zero, List.set_cons_succ]
        refine stH (i := 7) (.pointer (some ⟨b1, 3, none⟩)) hS ?_ ?_; (· exact fun w' _ => (by go_simp)); simp only [Act.put, List.setIfInBounds_toArray, List.set_cons_zero, List.set_cons_succ]
        refine stH (i := 8) (.int .i64 a3) hS ?_ ?_; (· exact fun w' hw => run_loadOp _ _ rfl _ rfl _ (load_cell hw.1.2.2.2)); simp only [Act.put, List.setIfInBounds_toArray, List.set_cons_zero, List.set_cons_succ]
        refine stH (i := 9) (.int .i64 (a1 + a3)) hS ?_ ?_; (· exact fun w' _ => (by go_simp)); simp only [Act.put, List.setIfInBounds_toArray, List.set_cons_zero, List.set_cons_succ]
        refine stH (i := 10) (.agg #[.int .i64 1, .int .i64 (a0 + a2), .int .i64 (a1 + a3), .int .i64 0, .int .i64 0]) hS ?_ ?_; (· exact fun w' _ => (by go_simp)); simp only [Act.put, List.setIfInBounds_toArray, List.set_cons_zero, List.set_cons_succ]
        refine stH (i := 11) (.pointer (some ⟨b1, 2, none⟩)) hS ?_ ?_; (· exact fun w' _ => (by go_simp)); simp only [Act.put, List.setIfInBounds_toArray, List.set_cons_zero, List.set_cons_succ]
        refine stH (i := 12) (.int .i64 a2) hS ?_ ?_; (· exact fun w' hw => run_loadOp _ _ rfl _ rfl _ (load_cell hw.1.2.2.1)); simp only [Act.put, List.setIfInBounds_toArray, List.set_cons_zero, List.set_cons_succ]
        refine stH (i := 13) (.int .i64 (2 * a2)) hS ?_ ?_; (· exact fun w' _ => (by go_simp)); simp only [Act.put, List.setIfInBounds_toArray, List.set_cons_zero, List.set_cons_succ]
        refine stH (i := 14) (.pointer (some ⟨b1, 3, none⟩)) hS ?_ ?_; (· exact fun w' _ => (by go_simp)); simp only [Act.put, List.setIfInBounds_toArray, List.set_cons_zero, List.set_cons_succ]
        refine stH (i := 15) (.int .i64 a3) hS ?_ ?_; (· exact fun w' hw => run_loadOp _ _ rfl _ rfl _ (load_cell hw.1.2.2.2)); simp only [Act.put, List.setIfInBounds_toArray, List.set_cons_zero, List.set_cons_succ]
        refine stH (i := 16) (.int .i64 (2 * a3)) hS ?_ ?_; (· exact fun w' _ => (by go_simp)); simp only [Act.put, List.setIfInBounds_toArray, List.set_cons_zero, List.set_cons_succ]
        refine stH (i := 17) (.agg #[.int .i64 2, .int .i64 (2 * a2), .int .i64 (2 * a3), .int .i64 0, .int .i64 0]) hS ?_ ?_; (· exact fun w' _ => (by go_simp)); simp only [Act.put, List.setIfInBounds_toArray, List.set_cons_zero, List.set_cons_succ]
        refine stH (i := 18) (.slice (some ⟨be, oe, none⟩) (n + 2) ec) hS ?_ ?_; (· exact fun w' _ => (by go_simp)); simp only [Act.put, List.setIfInBounds_toArray, List.set_cons_zero, List.set_cons_succ]
        refine stH (i := 19) (.pointer (some ⟨be, oe, none⟩)) hS ?_ ?_; (· exact fun w' _ => (by go_simp)); simp only [Act.put, List.setIfInBounds_toArray, List.set_cons_zero, List.set_cons_succ]
        refine stH (i := 20) (.pointer (some ⟨be, oe + 1, none⟩)) hS ?_ ?_; (· exact fun w' _ => (by go_simp)); simp only [Act.put, List.setIfInBounds_toArray, List.set_cons_zero, List.set_cons_succ]
        refine stH (i := 21) (.int .i64 x0) hS ?_ ?_; (· exact fun w' hw => run_loadOp _ _ rfl _ rfl _ (load_cell (by have := hw.2.1 1 _ rfl; simpa using this))); simp only [Act.put, List.setIfInBounds_toArray, List.set_cons_zero, List.set_cons_succ]
        refine stH (i := 22) (.slice (some ⟨be, oe, none⟩) (n + 2) ec) hS ?_ ?_; (· exact fun w' _ => (by go_simp)); simp only [Act.put, List.setIfInBounds_toArray, List.set_cons_zero, List.set_cons_succ]
        refine stH (i := 23) (.pointer (some ⟨be, oe, none⟩)) hS ?_ ?_; (· exact fun w' _ => (by go_simp)); simp only [Act.put, List.setIfInBounds_toArray, List.set_cons_zero, List.set_cons_succ]
        refine stH (i := 24) (.pointer (some ⟨be, oe + 2, none⟩)) hS ?_ ?_; (· exact fun w' _ => (by go_simp)); simp only [Act.put, List.setIfInBounds_toArray, List.set_cons_zero, List.set_cons_succ]
        refine stH (i := 25) (.int .i64 y0) hS ?_ ?_; (· exact fun w' hw => run_loadOp _ _ rfl _ rfl _ (load_cell (by have := hw.2.1 2 _ rfl; simpa using this))); simp only [Act.put, List.setIfInBounds_toArray, List.set_cons_zero, List.set_cons_succ]
        refine stH (i := 26) (.agg #[.int .i64 2, .int .i64 x0, .int .i64 y0, .int .i64 0, .int .i64 0]) hS ?_ ?_; (· exact fun w' _ => (by go_simp)); simp only [Act.put, List.setIfInBounds_toArray, List.set_cons_zero, List.set_cons_succ]
        refine wpH_one (i := 27) (by kernel_rfl) (wpOp_of (by simp only [List.getElem?_toArray, List.getElem?_cons_zero, List.getElem?_cons_succ]; rfl) ?_)
        refine st_lit rfl _ _ _ rfl (litA3 hL ?_)
        clear hL hS
        intro bq17 wq17 hL
        have hS := (show (fun w' : World => (w'.cell? ⟨b1, 0, none⟩ = some (.int .i64 a0) ∧ w'.cell? ⟨b1, 1, none⟩ = some (.int .i64 a1) ∧ w'.cell? ⟨b1, 2, none⟩ = some (.int .i64 a2) ∧ w'.cell? ⟨b1, 3, none⟩ = some (.int .i64 a3)) ∧ (w'.rangeAt be (oe + 0 * 5) [.int .i64 1, .int .i64 x0, .int .i64 y0, .int .i64 0, .int .i64 0]) ∧ (w'.rangeAt be (oe + n * 5) [.int .i64 kd, .int .i64 xn, .int .i64 yn, .int .i64 0, .int .i64 0])) wq17 from ⟨⟨(hL.cell (by (repeat (first | with_reducible exact At.here | with_reducible apply At.there)))).trans rfl, (hL.cell (by (repeat (first | with_reducible exact At.here | with_reducible apply At.there)))).trans rfl, (hL.cell (by (repeat (first | with_reducible exact At.here | with_reducible apply At.there)))).trans rfl, (hL.cell (by (repeat (first | with_reducible exact At.here | with_reducible apply At.there)))).trans rfl⟩, hL.has (fun w => w.rangeAt be (oe + 0 * 5) [.int .i64 1, .int .i64 x0, .int .i64 y0, .int .i64 0, .int .i64 0]), hL.has (fun w => w.rangeAt be (oe + n * 5) [.int .i64 kd, .int .i64 xn, .int .i64 yn, .int .i64 0, .int .i64 0])⟩)
        refine ⟨hS, ?_⟩
        simp only [Act.put, List.setIfInBounds_toArray, List.set_cons_zero, List.set_cons_succ]
        refine stH (i := 28) (.slice (some ⟨bq17, 0, none⟩) 3 3) hS ?_ ?_; (· exact fun w' _ => (by go_simp)); simp only [Act.put, List.setIfInBounds_toArray, List.set_cons_zero, List.set_cons_succ]
        refine wpAnyH_done (by kernel_rfl) ?_ _
        clear hS
        replace hL := hL.settle .here (φ := fun w => SegsAt w (.slice (some ⟨bq17, 0, none⟩) 3 3) (pathP (mid (a0, a1) (a2, a3)) [dbl (a2, a3), (x0, y0)] false)) fun w h => blk_segs h rfl rfl (by unfold pathP maxLen; simp)
        go_wp2_with (first | (go_at_call 14; (with_reducible first | refine (A4.out _ (.slice (some ⟨bq15, 0, none⟩) 3 3) hL.segs).mono ?_ | refine (A5.out _ (.slice (some ⟨bq16, 0, none⟩) 3 3) hL.segs).mono ?_ | refine (A6.out _ (.slice (some ⟨bq17, 0, none⟩) 3 3) hL.segs).mono ?_); rintro e _ ⟨mx, rfl, hb, hf⟩; replace hL := hL.callF hb hf; clear hb hf) | (go_at_call 30; (with_reducible refine (meetK_calls (W := 12) (H := 12) (Wi := 12) (Hi := 12) (n := 144) rfl rfl rfl hs _ _ _ _ _ (hL.maskK) (hL.maskK)).mono ?_); rintro e _ hk; replace hk := maskOut_congr (q := fun _ _ => false) hs LAW.out.both hk; obtain ⟨mo, rfl, hb, hf⟩ := hk; replace hL := hL.callF hb hf; clear hb hf) | (go_at_call 31; (with_reducible refine (joinK_calls (W := 12) (H := 12) (Wi := 12) (Hi := 12) (n := 144) rfl rfl rfl hs _ _ _ _ _ (hL.maskK) (hL.maskK)).mono ?_); rintro e _ hk; replace hk := maskOut_congr hs (fun j hj i hi => (LAW.out.one j hj i hi).symm) hk; obtain ⟨mo, rfl, hb, hf⟩ := hk; replace hL := hL.callF hb hf; clear hb hf) | (go_at_call 22; (with_reducible refine (HCn.out _ _ (hL.maskK)).mono ?_); rintro e _ ⟨rfl, hb⟩; replace hL := hL.call hb; clear hb) | (go_at_call 21; (first | (with_reducible refine (sameK_calls (W := 12) (H := 12) (Wi := 12) (Hi := 12) (n := 144) rfl rfl rfl hs _ kS kO (maskQ 1 S) (fun j i => maskQ 1 P j i != maskQ 1 (pathP (xn, yn) [(x0, y0), (a0, a1)] true) j i) (hL.maskK) (hL.maskK) (fun j _ i _ => (congrFun (congrFun LAW.out.cut j) i).symm)).mono ?_) | (with_reducible refine (sameK_calls (W := 12) (H := 12) (Wi := 12) (Hi := 12) (n := 144) rfl rfl rfl hs _ _ _ _ _ (hL.maskK) (hL.maskK) (fun _ _ _ _ => rfl)).mono ?_)); rintro e _ ⟨rfl, hb⟩; replace hL := hL.call hb; clear hb) | (first | (clear hL n1; with_reducible intro b1 w1 hL) | (clear hL n2; with_reducible intro b2 w2 hL) | (clear hL n3; with_reducible intro b3 w3 hL) | (clear hL n4; with_reducible intro b4 w4 hL) | (clear hL n5; with_reducible intro b5 w5 hL) | (clear hL n6; with_reducible intro b6 w6 hL) | (clear hL n7; with_reducible intro b7 w7 hL) | (clear hL n8; with_reducible intro b8 w8 hL) | (clear hL n9; with_reducible intro b9 w9 hL) | (clear hL n10; with_reducible intro b10 w10 hL) | (clear hL n11; with_reducible intro b11 w11 hL) | (clear hL; with_reducible intro _ _ hL)) | (with_reducible refine wpC_alloc rfl _ rfl _ _ inferInstance hL ?_) | (with_reducible first | refine wpB_agg rfl _ _ _ rfl rfl hL ?_ | refine wpB_one rfl _ _ (.int _ _) rfl rfl rfl hL ?_ | refine wpB_one rfl _ _ (.slice _ _ _) rfl rfl rfl hL ?_ | refine wpB_one rfl _ _ (.bool _) rfl rfl rfl hL ?_ | refine wpB_one rfl _ _ (.pointer _) rfl rfl rfl hL ?_ | refine wpB_one rfl _ _ (.func _ _ _) rfl rfl rfl hL ?_) | (with_reducible first | refine wpH_max rfl _ _ _ _ rfl _ _ rfl rfl ?_ | refine wpH_min rfl _ _ _ _ rfl _ _ rfl rfl ?_) | ((with_reducible refine wpA_load rfl _ _ rfl _ rfl ?_); first | refine loadA hL ?_ | refine loadR hL ?_ | refine loadC hL ?_ | refine loadD ?_ | refine loadE hL ?_ | refine loadF ?_) | ((with_reducible refine wpA_index rfl _ _ _ rfl _ rfl _ rfl ?_); first | (refine indexA ?_; try rw [Int.toNat_natCast]) | refine indexC ?_) | ((with_reducible refine wpA_store rfl _ _ _ rfl _ rfl (.agg _) rfl ?_); refine storeR hL ?_; clear hL; intro _ hL) | ((with_reducible first | refine wpA_store rfl _ _ _ rfl _ rfl (.int _ _) rfl ?_ | refine wpA_store rfl _ _ _ rfl _ rfl (.slice _ _ _) rfl ?_ | refine wpA_store rfl _ _ _ rfl _ rfl (.bool _) rfl ?_ | refine wpA_store rfl _ _ _ rfl _ rfl (.pointer _) rfl ?_ | refine wpA_store rfl _ _ _ rfl _ rfl (.func _ _ _) rfl ?_); (first | refine storeA hL ?_ | refine storeO hL ?_); (clear hL; intro _ hL)) | ((with_reducible refine wpA_lit rfl _ _ _ rfl ?_); first | refine litA1 hL ?_ | refine litA2 hL ?_ | refine litA3 hL ?_ | refine litA4 hL ?_ | refine litA6 hL ?_) | ((with_reducible refine wpA_append rfl _ _ _ rfl (.slice _ _ _) rfl ?_); intro vq hvq; simp [go_sem] at hvq; subst hvq; refine appendA hL ?_; clear hL; intro _ _ _ hL; try dsimp only at hL) | ((with_reducible refine wpA_make rfl _ _ _ rfl _ rfl rfl ?_); refine makeA hL ?_))
        go_ret
        exact ⟨rfl, hL.below⟩
end Go.Proofs.Ytneddfiohekhiaa
