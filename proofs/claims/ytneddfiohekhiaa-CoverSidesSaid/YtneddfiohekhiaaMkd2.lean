/- Paths by numbers: tympanlaw25.Made, Loop: the walks. -/
import Derived.Test.YtneddfiohekhiaaMkd
import Derived.Test.YtneddfiohekhiaaEdg2
namespace Go.Proofs.Ytneddfiohekhiaa
open Go.RowKit

def SegsOut (l : List Sg) (w : World) (e : Ending) (w' : World) : Prop := ∃ v, e = .returned v ∧ Below w.heap.size w w' ∧ Fresh w w' (fun w => SegsAt w v l)
def madeF (b : Bool) : Nat → List Sg → List Int → List Sg
  | 0, p, _ => p
  | f + 1, p, n => if n.length = 0 then p else madeF b f (p ++ [(segP p b n).1]) (segP p b n).2
def madeS (n : List Int) (b : Bool) : List Sg := madeF b 12 [] n
def loopF : Nat → List Sg → List Int → List Sg
  | 0, p, _ => p
  | f + 1, p, n => if n.length = 0 then p else loopF f (p ++ [⟨2, coI n, coI n.tail, 0, 0⟩]) n.tail.tail
def loopS (n : List Int) : List Sg := loopF 8 [⟨1, coI n, coI n.tail, 0, 0⟩] n.tail.tail ++ [⟨4, 0, 0, 0, 0⟩]
def lenV : Value → Nat
  | .slice _ n _ => n
  | _ => 0

/-- a literal slice becomes one to append to -/
theorem Holds.litOwn {w0 w : World} {M M' : List Res} {Φ : List (World → Prop)} {b k n : Nat} {cs : Array Value} {e : TypeId} (h : Holds w0 w M Φ)
    (hu : Upd M (blk b cs e) (own w0.heap.size e k (.slice (some ⟨b, 0, none⟩) n n) n cs.toList) M') (hs : cs.size = n * k) (hn : n ≤ maxLen) : Holds w0 w M' Φ := by
  have hb := h.at hu.at
  have hlow := h.low _ hu.at b rfl
  refine h.upd hu ⟨rfl, rfl, rfl, Nat.le_refl _, fun _ _ _ => rfl⟩ ⟨by simpa using hs, .inr ⟨b, n, cs, rfl, hlow, hb, Nat.le_refl _, hn, hs, ?_⟩⟩ (fun b' hb' => .inl hb')
  rw [List.take_of_length_le (by simp [hs])]
theorem own_segs {w0 w : World} {e : TypeId} {a : Option Addr} {cap : Nat} {p : List Sg} {M : List Res} {Φ : List (World → Prop)} (hL : Holds w0 w (own w0.heap.size e 5 (.slice a p.length cap) p.length (p.map segC).flatten :: M) Φ) :
    Fresh w0 w (fun w => SegsAt w (.slice a p.length cap) p) :=
  (hL.settle .here (φ := fun w => SegsAt w (.slice a p.length cap) p) fun w h => own_sliceAt h (by simp) rfl (segC_len p)).fresh

set_option maxRecDepth 100000 in
set_option maxHeartbeats 4000000 in
theorem made_calls (w : World) (v : Value) (n : List Int) (hv : NumsAt w v n) (bows : Bool) : Calls Try.prog 17 #[v, .bool bows] w (SegsOut (madeS n bows) w) := by
  have hL := Holds.start w
  have HV := Lib.hid hv
  have HM := Lib.hid (show madeS n bows = madeF bows 12 [] n from rfl)
  generalize madeS n bows = L at *
  obtain ⟨va, vc, rfl, _⟩ := hv.parts
  clear hv
  have n1 : True := trivial
  go_enter Try.func17, Try.ntmps17
  go_wp2_with (first | (first | (clear hL n1; with_reducible intro b1 w1 hL) | (clear hL; with_reducible intro _ _ hL)) | (with_reducible refine wpC_alloc rfl _ rfl _ _ inferInstance hL ?_) | (with_reducible first | refine wpB_agg rfl _ _ _ rfl rfl hL ?_ | refine wpB_one rfl _ _ (.int _ _) rfl rfl rfl hL ?_ | refine wpB_one rfl _ _ (.slice _ _ _) rfl rfl rfl hL ?_ | refine wpB_one rfl _ _ (.bool _) rfl rfl rfl hL ?_ | refine wpB_one rfl _ _ (.pointer _) rfl rfl rfl hL ?_ | refine wpB_one rfl _ _ (.func _ _ _) rfl rfl rfl hL ?_) | (with_reducible first | refine wpH_max rfl _ _ _ _ rfl _ _ rfl rfl ?_ | refine wpH_min rfl _ _ _ _ rfl _ _ rfl rfl ?_) | ((with_reducible refine wpA_load rfl _ _ rfl _ rfl ?_); first | refine loadA hL ?_ | refine loadR hL ?_ | refine loadC hL ?_ | refine loadD ?_ | refine loadE hL ?_ | refine loadF ?_) | ((with_reducible refine wpA_index rfl _ _ _ rfl _ rfl _ rfl ?_); first | (refine indexA ?_; try rw [Int.toNat_natCast]) | refine indexC ?_) | ((with_reducible refine wpA_store rfl _ _ _ rfl _ rfl (.agg _) rfl ?_); refine storeR hL ?_; clear hL; intro _ hL) | ((with_reducible first | refine wpA_store rfl _ _ _ rfl _ rfl (.int _ _) rfl ?_ | refine wpA_store rfl _ _ _ rfl _ rfl (.slice _ _ _) rfl ?_ | refine wpA_store rfl _ _ _ rfl _ rfl (.bool _) rfl ?_ | refine wpA_store rfl _ _ _ rfl _ rfl (.pointer _) rfl ?_ | refine wpA_store rfl _ _ _ rfl _ rfl (.func _ _ _) rfl ?_); (first | refine storeA hL ?_ | refine storeO hL ?_); (clear hL; intro _ hL)) | ((with_reducible refine wpA_lit rfl _ _ _ rfl ?_); first | refine litA1 hL ?_ | refine litA2 hL ?_) | ((with_reducible refine wpA_append rfl _ _ _ rfl (.slice _ _ _) rfl ?_); intro vq hvq; simp [go_sem] at hvq; subst hvq; refine appendA hL ?_; clear hL; intro _ _ _ hL; try dsimp only at hL) | ((with_reducible refine wpA_make rfl _ _ _ rfl _ rfl rfl ?_); refine makeA hL ?_))
  generalize b1 = bp at *
  go_loopw [6] (fun s6 wr => ∃ (p : List Sg) (s : Value) (m : List Int) (f : Nat), p.length + f = 12 ∧ L = madeF bows f p m ∧ NumsAt w s m ∧ Holds w wr [own w.heap.size 45 5 s6 p.length (p.map segC).flatten, blk bp #[s] 71] [])
    (fun s6 wr => 12 - lenV s6)
  case atStart => exact ⟨[], _, n, 12, rfl, HM.out, HV.out, hL.newOwn⟩
  case round =>
    clear hL
    obtain ⟨p, s, m, f, hf, hLe, hs, hL⟩ := hrel
    obtain ⟨sa, sc, rfl, _⟩ := hs.parts
    have HS := Lib.hid hs
    have HLe := Lib.hid hLe
    clear hs hLe
    obtain ⟨ga, gc, rfl⟩ := own_slice hL .here
    by_cases hgo : 0 < m.length ∧ p.length < 12
    · obtain ⟨hg1, hg2⟩ := hgo
      have hg1' : (0 : Int) < (m.length : Int) := by omega
      have hg2' : (p.length : Int) < 12 := by omega
      obtain ⟨f, rfl⟩ : ∃ f', f = f' + 1 := ⟨f - 1, by omega⟩
      have HN := Lib.hid (show L = madeF bows f (p ++ [(segP p bows m).1]) (segP p bows m).2 by rw [HLe.out, madeF, if_neg (by omega)])
      clear HLe
      go_wp2_with (first | (go_at_call 46; (refine (seg_calls hL HS.out hg2).mono ?_); clear hL; rintro e _ ⟨v', s', rfl, hs', hL⟩; have HS' := Lib.hid hs'; clear hs') | (first | (clear hL n1; with_reducible intro b1 w1 hL) | (clear hL; with_reducible intro _ _ hL)) | (with_reducible refine wpC_alloc rfl _ rfl _ _ inferInstance hL ?_) | (with_reducible first | refine wpB_agg rfl _ _ _ rfl rfl hL ?_ | refine wpB_one rfl _ _ (.int _ _) rfl rfl rfl hL ?_ | refine wpB_one rfl _ _ (.slice _ _ _) rfl rfl rfl hL ?_ | refine wpB_one rfl _ _ (.bool _) rfl rfl rfl hL ?_ | refine wpB_one rfl _ _ (.pointer _) rfl rfl rfl hL ?_ | refine wpB_one rfl _ _ (.func _ _ _) rfl rfl rfl hL ?_) | (with_reducible first | refine wpH_max rfl _ _ _ _ rfl _ _ rfl rfl ?_ | refine wpH_min rfl _ _ _ _ rfl _ _ rfl rfl ?_) | ((with_reducible refine wpA_load rfl _ _ rfl _ rfl ?_); first | refine loadA hL ?_ | refine loadR hL ?_ | refine loadC hL ?_ | refine loadD ?_ | refine loadE hL ?_ | refine loadF ?_) | ((with_reducible refine wpA_index rfl _ _ _ rfl _ rfl _ rfl ?_); first | (refine indexA ?_; try rw [Int.toNat_natCast]) | refine indexC ?_) | ((with_reducible refine wpA_store rfl _ _ _ rfl _ rfl (.agg _) rfl ?_); refine storeR hL ?_; clear hL; intro _ hL) | ((with_reducible first | refine wpA_store rfl _ _ _ rfl _ rfl (.int _ _) rfl ?_ | refine wpA_store rfl _ _ _ rfl _ rfl (.slice _ _ _) rfl ?_ | refine wpA_store rfl _ _ _ rfl _ rfl (.bool _) rfl ?_ | refine wpA_store rfl _ _ _ rfl _ rfl (.pointer _) rfl ?_ | refine wpA_store rfl _ _ _ rfl _ rfl (.func _ _ _) rfl ?_); (first | refine storeA hL ?_ | refine storeO hL ?_); (clear hL; intro _ hL)) | ((with_reducible refine wpA_lit rfl _ _ _ rfl ?_); first | refine litA1 hL ?_ | refine litA2 hL ?_) | ((with_reducible refine wpA_append rfl _ _ _ rfl (.slice _ _ _) rfl ?_); intro vq hvq; simp [go_sem] at hvq; subst hvq; refine appendA hL ?_; clear hL; intro _ _ _ hL; try dsimp only at hL) | ((with_reducible refine wpA_make rfl _ _ _ rfl _ rfl rfl ?_); refine makeA hL ?_))
      go_roundw
      case rel => exact ⟨_, s', _, f, by rw [List.length_append]; simp only [List.length_cons, List.length_nil]; omega, HN.out, HS'.out, by rw [List.length_append]; exact hL⟩
      case measure =>
        obtain ⟨ga', gc', rfl⟩ := own_slice hL .here
        simp [lenV]; omega
    · have hL2 : L = p := by
        rw [HLe.out]
        cases f with
        | zero => rfl
        | succ f => rw [madeF, if_pos (by omega)]
      subst hL2
      clear HLe HM
      rcases (by omega : m.length = 0 ∨ (0 < m.length ∧ L.length = 12)) with h0 | ⟨h0, h12⟩
      · have h0' : ¬ (0 : Int) < (m.length : Int) := by omega
        clear h0 hgo hf
        go_wp2_with (first | (first | (clear hL n1; with_reducible intro b1 w1 hL) | (clear hL; with_reducible intro _ _ hL)) | (with_reducible refine wpC_alloc rfl _ rfl _ _ inferInstance hL ?_) | (with_reducible first | refine wpB_agg rfl _ _ _ rfl rfl hL ?_ | refine wpB_one rfl _ _ (.int _ _) rfl rfl rfl hL ?_ | refine wpB_one rfl _ _ (.slice _ _ _) rfl rfl rfl hL ?_ | refine wpB_one rfl _ _ (.bool _) rfl rfl rfl hL ?_ | refine wpB_one rfl _ _ (.pointer _) rfl rfl rfl hL ?_ | refine wpB_one rfl _ _ (.func _ _ _) rfl rfl rfl hL ?_) | (with_reducible first | refine wpH_max rfl _ _ _ _ rfl _ _ rfl rfl ?_ | refine wpH_min rfl _ _ _ _ rfl _ _ rfl rfl ?_) | ((with_reducible refine wpA_load rfl _ _ rfl _ rfl ?_); first | refine loadA hL ?_ | refine loadR hL ?_ | refine loadC hL ?_ | refine loadD ?_ | refine loadE hL ?_ | refine loadF ?_) | ((with_reducible refine wpA_index rfl _ _ _ rfl _ rfl _ rfl ?_); first | (refine indexA ?_; try rw [Int.toNat_natCast]) | refine indexC ?_) | ((with_reducible refine wpA_store rfl _ _ _ rfl _ rfl (.agg _) rfl ?_); refine storeR hL ?_; clear hL; intro _ hL) | ((with_reducible first | refine wpA_store rfl _ _ _ rfl _ rfl (.int _ _) rfl ?_ | refine wpA_store rfl _ _ _ rfl _ rfl (.slice _ _ _) rfl ?_ | refine wpA_store rfl _ _ _ rfl _ rfl (.bool _) rfl ?_ | refine wpA_store rfl _ _ _ rfl _ rfl (.pointer _) rfl ?_ | refine wpA_store rfl _ _ _ rfl _ rfl (.func _ _ _) rfl ?_); (first | refine storeA hL ?_ | refine storeO hL ?_); (clear hL; intro _ hL)) | ((with_reducible refine wpA_lit rfl _ _ _ rfl ?_); first | refine litA1 hL ?_ | refine litA2 hL ?_) | ((with_reducible refine wpA_append rfl _ _ _ rfl (.slice _ _ _) rfl ?_); intro vq hvq; simp [go_sem] at hvq; subst hvq; refine appendA hL ?_; clear hL; intro _ _ _ hL; try dsimp only at hL) | ((with_reducible refine wpA_make rfl _ _ _ rfl _ rfl rfl ?_); refine makeA hL ?_))
        go_ret
        exact ⟨_, rfl, hL.below, own_segs hL⟩
      · have h0' : (0 : Int) < (m.length : Int) := by omega
        have h12' : ¬ (L.length : Int) < 12 := by omega
        clear h0 h12 hgo hf
        go_wp2_with (first | (first | (clear hL n1; with_reducible intro b1 w1 hL) | (clear hL; with_reducible intro _ _ hL)) | (with_reducible refine wpC_alloc rfl _ rfl _ _ inferInstance hL ?_) | (with_reducible first | refine wpB_agg rfl _ _ _ rfl rfl hL ?_ | refine wpB_one rfl _ _ (.int _ _) rfl rfl rfl hL ?_ | refine wpB_one rfl _ _ (.slice _ _ _) rfl rfl rfl hL ?_ | refine wpB_one rfl _ _ (.bool _) rfl rfl rfl hL ?_ | refine wpB_one rfl _ _ (.pointer _) rfl rfl rfl hL ?_ | refine wpB_one rfl _ _ (.func _ _ _) rfl rfl rfl hL ?_) | (with_reducible first | refine wpH_max rfl _ _ _ _ rfl _ _ rfl rfl ?_ | refine wpH_min rfl _ _ _ _ rfl _ _ rfl rfl ?_) | ((with_reducible refine wpA_load rfl _ _ rfl _ rfl ?_); first | refine loadA hL ?_ | refine loadR hL ?_ | refine loadC hL ?_ | refine loadD ?_ | refine loadE hL ?_ | refine loadF ?_) | ((with_reducible refine wpA_index rfl _ _ _ rfl _ rfl _ rfl ?_); first | (refine indexA ?_; try rw [Int.toNat_natCast]) | refine indexC ?_) | ((with_reducible refine wpA_store rfl _ _ _ rfl _ rfl (.agg _) rfl ?_); refine storeR hL ?_; clear hL; intro _ hL) | ((with_reducible first | refine wpA_store rfl _ _ _ rfl _ rfl (.int _ _) rfl ?_ | refine wpA_store rfl _ _ _ rfl _ rfl (.slice _ _ _) rfl ?_ | refine wpA_store rfl _ _ _ rfl _ rfl (.bool _) rfl ?_ | refine wpA_store rfl _ _ _ rfl _ rfl (.pointer _) rfl ?_ | refine wpA_store rfl _ _ _ rfl _ rfl (.func _ _ _) rfl ?_); (first | refine storeA hL ?_ | refine storeO hL ?_); (clear hL; intro _ hL)) | ((with_reducible refine wpA_lit rfl _ _ _ rfl ?_); first | refine litA1 hL ?_ | refine litA2 hL ?_) | ((with_reducible refine wpA_append rfl _ _ _ rfl (.slice _ _ _) rfl ?_); intro vq hvq; simp [go_sem] at hvq; subst hvq; refine appendA hL ?_; clear hL; intro _ _ _ hL; try dsimp only at hL) | ((with_reducible refine wpA_make rfl _ _ _ rfl _ rfl rfl ?_); refine makeA hL ?_))
        go_ret
        exact ⟨_, rfl, hL.below, own_segs hL⟩

set_option maxRecDepth 100000 in
set_option maxHeartbeats 4000000 in
theorem loop_calls (w : World) (v : Value) (n : List Int) (hv : NumsAt w v n) : Calls Try.prog 24 #[v] w (SegsOut (loopS n) w) := by
  have hL := Holds.start w
  have HV := Lib.hid hv
  have hs1 := hv.tail
  obtain ⟨s1, e1⟩ : ∃ s1, tailV v = s1 := ⟨_, rfl⟩
  rw [e1] at hs1
  have hs2 := hs1.tail
  obtain ⟨s2, e2⟩ : ∃ s2, tailV s1 = s2 := ⟨_, rfl⟩
  rw [e2] at hs2
  have HS1 := Lib.hid hs1; have HS2 := Lib.hid hs2
  have HC0 := Lib.hid (fun w0 b hp hs => coord_calls w0 b 71 v hp n hs)
  have HC1 := Lib.hid (fun w0 b hp hs => coord_calls w0 b 71 s1 hp n.tail hs)
  rw [e1] at HC0; rw [e2] at HC1
  have HM := Lib.hid (show loopS n = loopF 8 [⟨1, coI n, coI n.tail, 0, 0⟩] n.tail.tail ++ [⟨4, 0, 0, 0, 0⟩] from rfl)
  generalize loopS n = L at *
  generalize coI n = x0 at *
  generalize coI n.tail = y0 at *
  obtain ⟨va, vc, rfl, _⟩ := hv.parts
  clear hv hs1 hs2 e1 e2
  have n1 : True := trivial; have n2 : True := trivial
  go_enter Try.func24, Try.ntmps24
  go_wp2_with (first | (go_at_call 47; (first | ((refine (HC0.out _ _ (hL.row .here) (HV.out.hold hL)).mono ?_); rintro e _ ⟨rfl, rfl⟩; replace hL := hL.setCell (b := b1) (o := 0) (v := s1) updO) | ((refine (HC1.out _ _ (hL.row .here) (HS1.out.hold hL)).mono ?_); rintro e _ ⟨rfl, rfl⟩; replace hL := hL.setCell (b := b1) (o := 0) (v := s2) updO)); simp only [List.setIfInBounds_toArray, List.set_cons_zero] at hL) | (first | (clear hL n1; with_reducible intro b1 w1 hL) | (clear hL n2; with_reducible intro b2 w2 hL) | (clear hL; with_reducible intro _ _ hL)) | (with_reducible refine wpC_alloc rfl _ rfl _ _ inferInstance hL ?_) | (with_reducible first | refine wpB_agg rfl _ _ _ rfl rfl hL ?_ | refine wpB_one rfl _ _ (.int _ _) rfl rfl rfl hL ?_ | refine wpB_one rfl _ _ (.slice _ _ _) rfl rfl rfl hL ?_ | refine wpB_one rfl _ _ (.bool _) rfl rfl rfl hL ?_ | refine wpB_one rfl _ _ (.pointer _) rfl rfl rfl hL ?_ | refine wpB_one rfl _ _ (.func _ _ _) rfl rfl rfl hL ?_) | (with_reducible first | refine wpH_max rfl _ _ _ _ rfl _ _ rfl rfl ?_ | refine wpH_min rfl _ _ _ _ rfl _ _ rfl rfl ?_) | ((with_reducible refine wpA_load rfl _ _ rfl _ rfl ?_); first | refine loadA hL ?_ | refine loadR hL ?_ | refine loadC hL ?_ | refine loadD ?_ | refine loadE hL ?_ | refine loadF ?_) | ((with_reducible refine wpA_index rfl _ _ _ rfl _ rfl _ rfl ?_); first | (refine indexA ?_; try rw [Int.toNat_natCast]) | refine indexC ?_) | ((with_reducible refine wpA_store rfl _ _ _ rfl _ rfl (.agg _) rfl ?_); refine storeR hL ?_; clear hL; intro _ hL) | ((with_reducible first | refine wpA_store rfl _ _ _ rfl _ rfl (.int _ _) rfl ?_ | refine wpA_store rfl _ _ _ rfl _ rfl (.slice _ _ _) rfl ?_ | refine wpA_store rfl _ _ _ rfl _ rfl (.bool _) rfl ?_ | refine wpA_store rfl _ _ _ rfl _ rfl (.pointer _) rfl ?_ | refine wpA_store rfl _ _ _ rfl _ rfl (.func _ _ _) rfl ?_); (first | refine storeA hL ?_ | refine storeO hL ?_); (clear hL; intro _ hL)) | ((with_reducible refine wpA_lit rfl _ _ _ rfl ?_); first | refine litA1 hL ?_ | refine litA2 hL ?_) | ((with_reducible refine wpA_append rfl _ _ _ rfl (.slice _ _ _) rfl ?_); intro vq hvq; simp [go_sem] at hvq; subst hvq; refine appendA hL ?_; clear hL; intro _ _ _ hL; try dsimp only at hL) | ((with_reducible refine wpA_make rfl _ _ _ rfl _ rfl rfl ?_); refine makeA hL ?_))
  generalize b1 = bp at *
  have hL := hL.litOwn (k := 5) (n := 1) .here rfl (by decide)
  go_loopw [4] (fun s4 wr => ∃ (p : List Sg) (s : Value) (m : List Int) (f : Nat), p.length + f = 9 ∧ L = loopF f p m ++ [⟨4, 0, 0, 0, 0⟩] ∧ NumsAt w s m ∧ Holds w wr [own w.heap.size 45 5 s4 p.length (p.map segC).flatten, blk bp #[s] 71] [])
    (fun s4 wr => 9 - lenV s4)
  case atStart => exact ⟨[⟨1, x0, y0, 0, 0⟩], _, n.tail.tail, 8, rfl, HM.out, HS2.out, hL⟩
  case round =>
    clear hL HC0 HC1 HS1 HS2 HV
    obtain ⟨p, s, m, f, hf, hLe, hs, hL⟩ := hrel
    obtain ⟨sa, sc, hsv, _⟩ := hs.parts
    have HS := Lib.hid hs
    have HLe := Lib.hid hLe
    obtain ⟨ga, gc, rfl⟩ := own_slice hL .here
    by_cases hgo : 0 < m.length ∧ p.length < 9
    · obtain ⟨hg1, hg2⟩ := hgo
      have hg1' : (0 : Int) < (m.length : Int) := by omega
      have hg2' : (p.length : Int) < 9 := by omega
      obtain ⟨f, rfl⟩ : ∃ f', f = f' + 1 := ⟨f - 1, by omega⟩
      have HN := Lib.hid (show L = loopF f (p ++ [⟨2, coI m, coI m.tail, 0, 0⟩]) m.tail.tail ++ [⟨4, 0, 0, 0, 0⟩] by rw [HLe.out, loopF, if_neg (by omega)])
      have hs1 := hs.tail
      obtain ⟨s1, e1⟩ : ∃ s1, tailV s = s1 := ⟨_, rfl⟩
      rw [e1] at hs1
      have hs2 := hs1.tail
      obtain ⟨s2, e2⟩ : ∃ s2, tailV s1 = s2 := ⟨_, rfl⟩
      rw [e2] at hs2
      have HS1 := Lib.hid hs1; have HS2 := Lib.hid hs2
      have HC0 := Lib.hid (fun w0 hp hs => coord_calls w0 bp 71 s hp m hs)
      have HC1 := Lib.hid (fun w0 hp hs => coord_calls w0 bp 71 s1 hp m.tail hs)
      rw [e1] at HC0; rw [e2] at HC1
      generalize coI m = x at *
      generalize coI m.tail = y at *
      clear HLe hs hs1 hs2 e1 e2 hLe
      subst hsv
      have n1 : True := trivial
      go_wp2_with (first | (go_at_call 47; (first | ((refine (HC0.out _ (hL.row (.there .here)) (HS.out.hold hL)).mono ?_); rintro e _ ⟨rfl, rfl⟩; replace hL := hL.setCell (b := bp) (o := 0) (v := s1) updO) | ((refine (HC1.out _ (hL.row (.there .here)) (HS1.out.hold hL)).mono ?_); rintro e _ ⟨rfl, rfl⟩; replace hL := hL.setCell (b := bp) (o := 0) (v := s2) updO)); simp only [List.setIfInBounds_toArray, List.set_cons_zero] at hL) | (first | (clear hL n1; with_reducible intro b1 w1 hL) | (clear hL n2; with_reducible intro b2 w2 hL) | (clear hL; with_reducible intro _ _ hL)) | (with_reducible refine wpC_alloc rfl _ rfl _ _ inferInstance hL ?_) | (with_reducible first | refine wpB_agg rfl _ _ _ rfl rfl hL ?_ | refine wpB_one rfl _ _ (.int _ _) rfl rfl rfl hL ?_ | refine wpB_one rfl _ _ (.slice _ _ _) rfl rfl rfl hL ?_ | refine wpB_one rfl _ _ (.bool _) rfl rfl rfl hL ?_ | refine wpB_one rfl _ _ (.pointer _) rfl rfl rfl hL ?_ | refine wpB_one rfl _ _ (.func _ _ _) rfl rfl rfl hL ?_) | (with_reducible first | refine wpH_max rfl _ _ _ _ rfl _ _ rfl rfl ?_ | refine wpH_min rfl _ _ _ _ rfl _ _ rfl rfl ?_) | ((with_reducible refine wpA_load rfl _ _ rfl _ rfl ?_); first | refine loadA hL ?_ | refine loadR hL ?_ | refine loadC hL ?_ | refine loadD ?_ | refine loadE hL ?_ | refine loadF ?_) | ((with_reducible refine wpA_index rfl _ _ _ rfl _ rfl _ rfl ?_); first | (refine indexA ?_; try rw [Int.toNat_natCast]) | refine indexC ?_) | ((with_reducible refine wpA_store rfl _ _ _ rfl _ rfl (.agg _) rfl ?_); refine storeR hL ?_; clear hL; intro _ hL) | ((with_reducible first | refine wpA_store rfl _ _ _ rfl _ rfl (.int _ _) rfl ?_ | refine wpA_store rfl _ _ _ rfl _ rfl (.slice _ _ _) rfl ?_ | refine wpA_store rfl _ _ _ rfl _ rfl (.bool _) rfl ?_ | refine wpA_store rfl _ _ _ rfl _ rfl (.pointer _) rfl ?_ | refine wpA_store rfl _ _ _ rfl _ rfl (.func _ _ _) rfl ?_); (first | refine storeA hL ?_ | refine storeO hL ?_); (clear hL; intro _ hL)) | ((with_reducible refine wpA_lit rfl _ _ _ rfl ?_); first | refine litA1 hL ?_ | refine litA2 hL ?_) | ((with_reducible refine wpA_append rfl _ _ _ rfl (.slice _ _ _) rfl ?_); intro vq hvq; simp [go_sem] at hvq; subst hvq; refine appendA hL ?_; clear hL; intro _ _ _ hL; try dsimp only at hL) | ((with_reducible refine wpA_make rfl _ _ _ rfl _ rfl rfl ?_); refine makeA hL ?_))
      go_roundw
      case rel => exact ⟨p ++ [⟨2, x, y, 0, 0⟩], s2, m.tail.tail, f, by rw [List.length_append]; simp only [List.length_cons, List.length_nil]; omega, HN.out, HS2.out, by rw [List.length_append, List.map_append, List.flatten_append]; exact hL⟩
      case measure => simp [lenV]; omega
    · have hL2 : L = p ++ [⟨4, 0, 0, 0, 0⟩] := by
        rw [HLe.out]
        cases f with
        | zero => rfl
        | succ f => rw [loopF, if_pos (by omega)]
      have HL2 := Lib.hid hL2
      have hp9 : p.length ≤ 9 := by omega
      clear HLe HM hL2 hs hLe
      subst hsv
      rcases (by omega : m.length = 0 ∨ (0 < m.length ∧ p.length = 9)) with h0 | ⟨h0, h12⟩
      · have h0' : ¬ (0 : Int) < (m.length : Int) := by omega
        clear h0 hgo hf
        have n1 : True := trivial
        go_wp2_with (first | (first | (clear hL n1; with_reducible intro b1 w1 hL) | (clear hL n2; with_reducible intro b2 w2 hL) | (clear hL; with_reducible intro _ _ hL)) | (with_reducible refine wpC_alloc rfl _ rfl _ _ inferInstance hL ?_) | (with_reducible first | refine wpB_agg rfl _ _ _ rfl rfl hL ?_ | refine wpB_one rfl _ _ (.int _ _) rfl rfl rfl hL ?_ | refine wpB_one rfl _ _ (.slice _ _ _) rfl rfl rfl hL ?_ | refine wpB_one rfl _ _ (.bool _) rfl rfl rfl hL ?_ | refine wpB_one rfl _ _ (.pointer _) rfl rfl rfl hL ?_ | refine wpB_one rfl _ _ (.func _ _ _) rfl rfl rfl hL ?_) | (with_reducible first | refine wpH_max rfl _ _ _ _ rfl _ _ rfl rfl ?_ | refine wpH_min rfl _ _ _ _ rfl _ _ rfl rfl ?_) | ((with_reducible refine wpA_load rfl _ _ rfl _ rfl ?_); first | refine loadA hL ?_ | refine loadR hL ?_ | refine loadC hL ?_ | refine loadD ?_ | refine loadE hL ?_ | refine loadF ?_) | ((with_reducible refine wpA_index rfl _ _ _ rfl _ rfl _ rfl ?_); first | (refine indexA ?_; try rw [Int.toNat_natCast]) | refine indexC ?_) | ((with_reducible refine wpA_store rfl _ _ _ rfl _ rfl (.agg _) rfl ?_); refine storeR hL ?_; clear hL; intro _ hL) | ((with_reducible first | refine wpA_store rfl _ _ _ rfl _ rfl (.int _ _) rfl ?_ | refine wpA_store rfl _ _ _ rfl _ rfl (.slice _ _ _) rfl ?_ | refine wpA_store rfl _ _ _ rfl _ rfl (.bool _) rfl ?_ | refine wpA_store rfl _ _ _ rfl _ rfl (.pointer _) rfl ?_ | refine wpA_store rfl _ _ _ rfl _ rfl (.func _ _ _) rfl ?_); (first | refine storeA hL ?_ | refine storeO hL ?_); (clear hL; intro _ hL)) | ((with_reducible refine wpA_lit rfl _ _ _ rfl ?_); first | refine litA1 hL ?_ | refine litA2 hL ?_) | ((with_reducible refine wpA_append rfl _ _ _ rfl (.slice _ _ _) rfl ?_); intro vq hvq; simp [go_sem] at hvq; subst hvq; refine appendA hL ?_; clear hL; intro _ _ _ hL; try dsimp only at hL) | ((with_reducible refine wpA_make rfl _ _ _ rfl _ rfl rfl ?_); refine makeA hL ?_))
        go_ret
        have hF := own_segs (p := p ++ [⟨4, 0, 0, 0, 0⟩]) (by rw [List.length_append, List.map_append, List.flatten_append]; exact hL)
        rw [List.length_append] at hF
        rw [HL2.out]
        exact ⟨_, rfl, hL.below, hF⟩
      · have h0' : (0 : Int) < (m.length : Int) := by omega
        have h12' : ¬ (p.length : Int) < 9 := by omega
        clear h0 h12 hgo hf
        have n1 : True := trivial
        go_wp2_with (first | (first | (clear hL n1; with_reducible intro b1 w1 hL) | (clear hL n2; with_reducible intro b2 w2 hL) | (clear hL; with_reducible intro _ _ hL)) | (with_reducible refine wpC_alloc rfl _ rfl _ _ inferInstance hL ?_) | (with_reducible first | refine wpB_agg rfl _ _ _ rfl rfl hL ?_ | refine wpB_one rfl _ _ (.int _ _) rfl rfl rfl hL ?_ | refine wpB_one rfl _ _ (.slice _ _ _) rfl rfl rfl hL ?_ | refine wpB_one rfl _ _ (.bool _) rfl rfl rfl hL ?_ | refine wpB_one rfl _ _ (.pointer _) rfl rfl rfl hL ?_ | refine wpB_one rfl _ _ (.func _ _ _) rfl rfl rfl hL ?_) | (with_reducible first | refine wpH_max rfl _ _ _ _ rfl _ _ rfl rfl ?_ | refine wpH_min rfl _ _ _ _ rfl _ _ rfl rfl ?_) | ((with_reducible refine wpA_load rfl _ _ rfl _ rfl ?_); first | refine loadA hL ?_ | refine loadR hL ?_ | refine loadC hL ?_ | refine loadD ?_ | refine loadE hL ?_ | refine loadF ?_) | ((with_reducible refine wpA_index rfl _ _ _ rfl _ rfl _ rfl ?_); first | (refine indexA ?_; try rw [Int.toNat_natCast]) | refine indexC ?_) | ((with_reducible refine wpA_store rfl _ _ _ rfl _ rfl (.agg _) rfl ?_); refine storeR hL ?_; clear hL; intro _ hL) | ((with_reducible first | refine wpA_store rfl _ _ _ rfl _ rfl (.int _ _) rfl ?_ | refine wpA_store rfl _ _ _ rfl _ rfl (.slice _ _ _) rfl ?_ | refine wpA_store rfl _ _ _ rfl _ rfl (.bool _) rfl ?_ | refine wpA_store rfl _ _ _ rfl _ rfl (.pointer _) rfl ?_ | refine wpA_store rfl _ _ _ rfl _ rfl (.func _ _ _) rfl ?_); (first | refine storeA hL ?_ | refine storeO hL ?_); (clear hL; intro _ hL)) | ((with_reducible refine wpA_lit rfl _ _ _ rfl ?_); first | refine litA1 hL ?_ | refine litA2 hL ?_) | ((with_reducible refine wpA_append rfl _ _ _ rfl (.slice _ _ _) rfl ?_); intro vq hvq; simp [go_sem] at hvq; subst hvq; refine appendA hL ?_; clear hL; intro _ _ _ hL; try dsimp only at hL) | ((with_reducible refine wpA_make rfl _ _ _ rfl _ rfl rfl ?_); refine makeA hL ?_))
        go_ret
        have hF := own_segs (p := p ++ [⟨4, 0, 0, 0, 0⟩]) (by rw [List.length_append, List.map_append, List.flatten_append]; exact hL)
        rw [List.length_append] at hF
        rw [HL2.out]
        exact ⟨_, rfl, hL.below, hF⟩
end Go.Proofs.Ytneddfiohekhiaa
