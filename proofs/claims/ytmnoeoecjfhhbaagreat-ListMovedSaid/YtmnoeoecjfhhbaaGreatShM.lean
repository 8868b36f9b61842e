/- Plain laws: a path moved. -/
import Derived.Test.YtmnoeoecjfhhbaaGreatCtrM
import Derived.Test.YtmnoeoecjfhhbaaGreatMkdM
import Derived.Test.YtmnoeoecjfhhbaaGreatTrnM
namespace Go.Proofs.YtmnoeoecjfhhbaaGreat
section
variable (Q : Edg → Prop) (R : Int → Int → Prop)
def CtAll (c : Ct) : Prop := R c.x c.y ∧ ∀ e ∈ c.edges, Q e ∧ R e.x1 e.y1
theorem ctFold_all : ∀ (l : List Sg) (done : List Ct) (cur : Option Ct) (x y : Int), (∀ s ∈ l, s.kind ≠ 4 → R s.x s.y) → (∀ s ∈ l, s.kind ≠ 1 → s.kind ≠ 4 → ∀ x y, R x y → Q (segE x y s)) → (∀ c ∈ done, CtAll Q R c) → (∀ c, cur = some c → CtAll Q R c ∧ R x y) → ∀ c ∈ ctFold l done cur x y, CtAll Q R c
  | [], done, cur, x, y, _, _, hd, hc => by
    intro c h
    rw [ctFold] at h
    rcases List.mem_append.1 h with h | h
    · exact hd c h
    · exact (hc c (by simpa using h)).1
  | s :: l, done, cur, x, y, hp, hs, hd, hc => by
    have hd2 : ∀ c ∈ done ++ cur.toList, CtAll Q R c := by
      intro c h
      rcases List.mem_append.1 h with h | h
      · exact hd c h
      · exact (hc c (by simpa using h)).1
    have hp2 := fun t ht => hp t (List.mem_cons_of_mem s ht)
    have hs2 := fun t ht => hs t (List.mem_cons_of_mem s ht)
    intro c h
    unfold ctFold at h
    split at h
    · rename_i h1
      have hr := hp s List.mem_cons_self (by omega)
      exact ctFold_all l _ _ _ _ hp2 hs2 hd2 (by rintro c h; cases h; exact ⟨⟨hr, by simp⟩, hr⟩) c h
    · rename_i h1
      cases cur with
      | none => exact ctFold_all l _ none x y hp2 hs2 hd (by intro c h; cases h) c h
      | some a =>
        obtain ⟨ha, hr⟩ := hc a rfl
        simp only at h
        split at h
        · exact ctFold_all l _ _ x y hp2 hs2 hd (by rintro c h; cases h; exact ⟨ha, hr⟩) c h
        · rename_i h4
          have hr2 := hp s List.mem_cons_self h4
          refine ctFold_all l _ _ _ _ hp2 hs2 hd ?_ c h
          rintro c h; cases h
          refine ⟨⟨ha.1, fun e he => ?_⟩, hr2⟩
          rcases List.mem_append.1 he with he | he
          · exact ha.2 e he
          · rw [List.mem_singleton.1 he]
            exact ⟨hs s List.mem_cons_self h1 h4 x y hr, hr2⟩
/-- what holds of each piece's edge and of each closing one -/
theorem edges_all (l : List Sg) (hcl : ∀ a b c d, R a b → R c d → Q ⟨a, b, false, 0, 0, c, d⟩) (hp : ∀ s ∈ l, s.kind ≠ 4 → R s.x s.y) (hs : ∀ s ∈ l, s.kind ≠ 1 → s.kind ≠ 4 → ∀ x y, R x y → Q (segE x y s)) : ∀ e ∈ edgesS l, Q e := by
  have hall : ∀ c ∈ contoursS l, CtAll Q R c := by
    unfold contoursS
    split
    · exact ctFold_all Q R l [] none 0 0 hp hs (by simp) (by intro c h; cases h)
    · simp
  intro e he
  obtain ⟨c, hc, he⟩ := List.mem_flatMap.1 he
  have ha := hall c hc
  by_cases h0 : c.edges.length = 0
  · rw [edgesC_nil h0] at he; cases he
  · by_cases h1 : (endE c).x1 = c.x ∧ (endE c).y1 = c.y
    · rw [edgesC_shut h0 h1] at he; exact (ha.2 e he).1
    · rw [edgesC_open h0 h1] at he
      rcases List.mem_append.1 he with he | he
      · exact (ha.2 e he).1
      · rw [List.mem_singleton.1 he]
        have hm : endE c ∈ c.edges := by
          unfold endE
          have : c.edges.length - 1 < c.edges.length := by omega
          rw [show c.edges.getD (c.edges.length - 1) default = c.edges[c.edges.length - 1] by simp [this]]
          exact List.getElem_mem this
        exact hcl _ _ _ _ (ha.2 _ hm).2 ha.1
end
theorem maySF_snoc : ∀ (p : List Sg) (last : Int) (s : Sg), maySF last (p ++ [s]) = (maySF last p && rightS s ((p.map Sg.kind).getLastD last))
  | [], last, s => by simp [maySF]
  | a :: p, last, s => by
    rw [List.cons_append, maySF, maySF_snoc p, maySF, Bool.and_assoc]
    congr 2
    cases p with
    | nil => rfl
    | cons b p => simp [List.getLastD]
theorem lastS_eq (p : List Sg) : lastS p = (p.map Sg.kind).getLastD 0 := by
  unfold lastS lastK
  rcases List.eq_nil_or_concat p with h | ⟨q, s, h⟩
  · subst h; rfl
  · subst h
    simp [List.concat_eq_append]
def smallI (v : Int) : Prop := -32 ≤ v ∧ v ≤ 287
def SmallS (s : Sg) : Prop := smallI s.x ∧ smallI s.y ∧ smallI s.cx ∧ smallI s.cy
structure Good (p : List Sg) : Prop where
  small : ∀ s ∈ p, SmallS s
  may : maySF 0 p = true
theorem Good.snoc {p : List Sg} {s : Sg} (h : Good p) (hs : SmallS s) (hr : rightS s (lastS p) = true) : Good (p ++ [s]) where
  small t ht := by
    rcases List.mem_append.1 ht with ht | ht
    · exact h.small t ht
    · rw [List.mem_singleton.1 ht]; exact hs
  may := by rw [maySF_snoc, ← lastS_eq, h.may, hr]; rfl
theorem sgn_neg (p : Int) : sgn (-p) = -sgn p := by unfold sgn; (repeat' split) <;> omega
theorem sgR_neg (p q d : Int) : sgR (-p) (-q) d = -sgR p q d := by
  unfold sgR
  rw [sgn_neg, sgn_neg, Int.neg_mul, Int.neg_mul_neg, Int.neg_mul_neg]
  generalize cmpI (p * p) (q * q * d) = c
  generalize sgn q * sgn d = u
  generalize sgn p = s
  by_cases h1 : s = 0 ∨ s = u
  · rw [if_pos h1, if_pos (by omega)]
  · rw [if_neg h1, if_neg (by omega)]
    by_cases h2 : u = 0
    · rw [if_pos h2, if_pos (by omega)]
    · rw [if_neg h2, if_neg (by omega), Int.neg_mul]
/-! moved -/
def movE (dx dy : Int) (e : Edg) : Edg := if e.bent then ⟨e.x0 + dx, e.y0 + dy, true, e.cx + dx, e.cy + dy, e.x1 + dx, e.y1 + dy⟩ else ⟨e.x0 + dx, e.y0 + dy, false, e.cx, e.cy, e.x1 + dx, e.y1 + dy⟩
def addP (dx : Int) (s : Spt) : Spt := ⟨s.turn, s.p + dx * s.m, s.q, s.d, s.m⟩
theorem hitT_add (dx x : Int) (s : Spt) : hitT (addP dx s) (x + dx) = hitT s x := by
  unfold hitT addP
  dsimp only
  rw [show s.p + dx * s.m - (x + dx) * s.m = s.p - x * s.m by grind]
theorem addP_no (dx : Int) : addP dx noSpt = noSpt := by unfold addP noSpt; simp
theorem evenS_add (b c ax bx x0 dx : Int) : evenS b c ax bx (x0 + dx) = addP dx (evenS b c ax bx x0) := by
  have hp : evP b c ax bx (x0 + dx) = evP b c ax bx x0 + dx * (4 * b * b) := by unfold evP; grind
  unfold evenS
  rw [hp]
  split
  · rfl
  · split
    · rfl
    · exact (addP_no dx).symm
theorem oneS_add (s x0 a b d ax bx dx : Int) : oneS s (x0 + dx) a b d ax bx = addP dx (oneS s x0 a b d ax bx) := by
  have hp : oneP (x0 + dx) a b d ax bx = oneP x0 a b d ax bx + dx * (a * a) := by unfold oneP; grind
  unfold oneS
  rw [hp]
  split
  · exact (addP_no dx).symm
  · rfl
theorem bent1_add (x0 a b c ax bx dx : Int) : bent1 (x0 + dx) a b c ax bx = addP dx (bent1 x0 a b c ax bx) := by
  unfold bent1
  split
  · exact evenS_add _ _ _ _ _ _
  · split
    · exact (addP_no dx).symm
    · exact oneS_add _ _ _ _ _ _ _ _
theorem bent2_add (x0 a b c ax bx dx : Int) : bent2 (x0 + dx) a b c ax bx = addP dx (bent2 x0 a b c ax bx) := by
  unfold bent2
  split
  · exact (addP_no dx).symm
  · split
    · exact (addP_no dx).symm
    · exact oneS_add _ _ _ _ _ _ _ _
theorem spt_add (e : Edg) (dx dy y : Int) : spt1 (movE dx dy e) (y + dy) = addP dx (spt1 e y) ∧ spt2 (movE dx dy e) (y + dy) = addP dx (spt2 e y) := by
  unfold spt1 spt2 movE
  by_cases h : e.bent = true
  · simp only [if_pos h, if_true]
    rw [← bent1_add, ← bent2_add]
    unfold bA bB bC bAX bBX
    dsimp only
    refine ⟨?_, ?_⟩ <;> congr 1 <;> omega
  · simp only [if_neg h, Bool.false_eq_true, if_false]
    refine ⟨?_, (addP_no dx).symm⟩
    have e1 : (e.x0 + dx) * (e.y1 + dy - (e.y0 + dy)) + (e.x1 + dx - (e.x0 + dx)) * (y + dy - (e.y0 + dy)) = (e.x0 * (e.y1 - e.y0) + (e.x1 - e.x0) * (y - e.y0)) + dx * (e.y1 - e.y0) := by grind
    have e2 : e.y1 + dy - (e.y0 + dy) = e.y1 - e.y0 := by omega
    have e3 : dx * -(e.y1 - e.y0) = -(dx * (e.y1 - e.y0)) := by grind
    unfold addP spT spP spM
    dsimp only
    rw [e1, e2]
    generalize e.x0 * (e.y1 - e.y0) + (e.x1 - e.x0) * (y - e.y0) = p
    by_cases h1 : y < min e.y0 e.y1 ∨ max e.y0 e.y1 ≤ y
    · rw [if_pos (show y + dy < min (e.y0 + dy) (e.y1 + dy) ∨ max (e.y0 + dy) (e.y1 + dy) ≤ y + dy by omega), if_pos (show y + dy < min (e.y0 + dy) (e.y1 + dy) ∨ max (e.y0 + dy) (e.y1 + dy) ≤ y + dy by omega), if_pos (show y + dy < min (e.y0 + dy) (e.y1 + dy) ∨ max (e.y0 + dy) (e.y1 + dy) ≤ y + dy by omega)]
      simp only [if_pos h1]
      simp
    · rw [if_neg (show ¬ (y + dy < min (e.y0 + dy) (e.y1 + dy) ∨ max (e.y0 + dy) (e.y1 + dy) ≤ y + dy) by omega), if_neg (show ¬ (y + dy < min (e.y0 + dy) (e.y1 + dy) ∨ max (e.y0 + dy) (e.y1 + dy) ≤ y + dy) by omega), if_neg (show ¬ (y + dy < min (e.y0 + dy) (e.y1 + dy) ∨ max (e.y0 + dy) (e.y1 + dy) ≤ y + dy) by omega)]
      simp only [if_neg h1]
      by_cases h2 : e.y1 - e.y0 < 0
      · simp only [if_pos h2]; rw [e3, Int.neg_add]
      · simp only [if_neg h2]
theorem turnG_mov (e : Edg) (dx dy x y : Int) (h : mayE (movE dx dy e) = mayE e) (hx : near1 (x + dx) = near1 x) (hy : near1 (y + dy) = near1 y) : turnG (movE dx dy e) (x + dx) (y + dy) = turnG e x y := by
  obtain ⟨h1, h2⟩ := spt_add e dx dy y
  unfold turnG
  rw [h, hx, hy, h1, h2, hitT_add, hitT_add]
open Go.RowKit

def moveS (dx dy : Int) (s : Sg) : Sg := if s.kind = 4 then s else if s.kind = 3 then ⟨3, s.x + dx, s.y + dy, s.cx + dx, s.cy + dy⟩ else ⟨s.kind, s.x + dx, s.y + dy, s.cx, s.cy⟩
def nearS (s : Sg) : Bool := [s.x, s.y, s.cx, s.cy].all near1
theorem nearS_bd {s : Sg} (h : nearS s = true) : (-8191 ≤ s.x ∧ s.x ≤ 8191) ∧ (-8191 ≤ s.y ∧ s.y ≤ 8191) ∧ (-8191 ≤ s.cx ∧ s.cx ≤ 8191) ∧ (-8191 ≤ s.cy ∧ s.cy ≤ 8191) := by
  unfold nearS near1 at h
  simpa using h
def SegsErr (l : List Sg) (w : World) (e : Ending) (w' : World) : Prop := ∃ v, e = .returned (.tuple #[v, .int .i64 0]) ∧ Below w.heap.size w w' ∧ Fresh w w' (fun w => SegsAt w v l)

set_option maxRecDepth 100000 in
set_option maxHeartbeats 8000000 in
theorem shift_calls (w : World) (v : Value) (l : List Sg) (hv : SegsAt w v l) (dx dy : Int) (hm : pathMay l = true) (hn : ∀ s ∈ l, nearS s = true ∧ nearS (moveS dx dy s) = true) : Calls Tryz.prog 32 #[v, .int .i64 dx, .int .i64 dy] w (SegsErr (l.map (moveS dx dy)) w) := by
  have Hv := Lib.hid hv
  obtain ⟨a, cap, rfl, hlc, hcm, hel⟩ := hv.parts
  clear hv
  unfold maxLen at hcm
  have Hel := Lib.hid hel; clear hel
  have hL := Holds.start w
  have hmm : l.length ≤ 300 ∧ maySF 0 l = true := by simpa [pathMay] using hm
  have hl300 := hmm.1
  clear hmm
  have HM := Lib.hid hm; clear hm
  have HN := Lib.hid hn; clear hn
  go_enter Tryz.func32, Tryz.ntmps32
  go_wp2_with (first | (go_at_call 45; (with_reducible refine (pathMay_calls _ _ l (Hv.out.hold hL)).mono ?_); rintro e _ ⟨rfl, hb⟩; rw [HM.out]; replace hL := hL.call hb; clear hb) | (with_reducible first | (clear hL; intro _ _ _ hL; try dsimp only at hL) | (clear hL; intro _ _ hL) | (clear hL; intro _ hL)) | ((with_reducible refine wpA_lit rfl _ _ _ rfl ?_); first | refine litA1 hL ?_ | refine litA2 hL ?_ | refine litA3 hL ?_ | refine litA4 hL ?_ | refine litA6 hL ?_) | ((with_reducible refine goJ rfl ?_); refine goW ?_))
  go_loopw [8, 16] (fun s8 s16 wr => ∃ k : Nat, k ≤ l.length ∧ s16 = .int .i64 k ∧ Holds w wr [own w.heap.size 78 5 s8 k (((l.take k).map (moveS dx dy)).map segC).flatten] [])
    (fun s8 s16 wr => l.length - (intOf s16).toNat)
  case atStart => exact ⟨0, by omega, rfl, hL.newOwn⟩
  case round =>
    clear hL
    obtain ⟨k, hk, rfl, hL⟩ := hrel
    obtain ⟨ga, gc, rfl⟩ := own_slice hL .here
    by_cases hkt : k < l.length
    · obtain ⟨b, o, rfl, hc⟩ := Hel.out k hkt
      have hkb : (k : Int) < (l.length : Int) := by omega
      have hstep : (((l.take (k + 1)).map (moveS dx dy)).map segC).flatten = (((l.take k).map (moveS dx dy)).map segC).flatten ++ segC (moveS dx dy (l.getD k default)) := by
        rw [List.take_succ_eq_append_getElem hkt, List.map_append, List.map_append, List.flatten_append]
        simp [hkt]
      obtain ⟨hn1, hn2⟩ := HN.out (l.getD k default) (by rw [show l.getD k default = l[k] by simp [hkt]]; exact List.getElem_mem hkt)
      have HST := Lib.hid hstep
      clear hstep
      generalize (((l.take k).map (moveS dx dy)).map segC).flatten = xs at *
      generalize l.getD k default = s at *
      obtain ⟨b1, b2, b3, b4⟩ := nearS_bd hn1
      obtain ⟨c1, c2, c3, c4⟩ := nearS_bd hn2
      have HN2 := Lib.hid hn2
      clear hn1 hn2
      obtain ⟨kind, x, y, cx, cy⟩ := s
      unfold segC at hc
      dsimp only at hc b1 b2 b3 b4
      rcases (by omega : kind = 4 ∨ kind = 3 ∨ (kind ≠ 4 ∧ kind ≠ 3)) with h | h | ⟨h, h2⟩
      · subst h
        have HE := Lib.hid (show moveS dx dy ⟨4, x, y, cx, cy⟩ = ⟨4, x, y, cx, cy⟩ from rfl)
        generalize moveS dx dy ⟨4, x, y, cx, cy⟩ = s2 at *
        have hs2 := HE.out
        subst hs2
        have HNr : Hid ([x, y, cx, cy].all near1 = true) := HN2
        clear c1 c2 c3 c4
        obtain ⟨n1, n2, n3⟩ := tok3
        go_wp2_with (first | (go_at_call 74; (refine (pathNear_calls _ _ [x, y, cx, cy] (hL.numsLit [x, y, cx, cy] atO (by rfl))).mono ?_); rintro e _ ⟨rfl, hb⟩; rw [HNr.out]; replace hL := hL.call hb; clear hb) | (with_reducible first | (clear hL; intro _ _ _ hL; try dsimp only at hL) | (clear hL n1; intro b1 w1 hL) | (clear hL n2; intro b2 w2 hL) | (clear hL n3; intro b3 w3 hL) | (clear hL; intro _ _ hL) | (clear hL; intro _ hL)) | ((with_reducible refine wpA_lit rfl _ _ _ rfl ?_); first | refine litA1 hL ?_ | refine litA2 hL ?_ | refine litA3 hL ?_ | refine litA4 hL ?_ | refine litA6 hL ?_) | ((with_reducible refine goJ rfl ?_); refine goW ?_))
        go_roundw
        case rel => exact ⟨k + 1, by omega, by go_num, by rw [HST.out]; exact (hL.drop .here).drop .here⟩
        case measure => simp [intOf]; omega
      · subst h
        have HE := Lib.hid (show moveS dx dy ⟨3, x, y, cx, cy⟩ = ⟨3, x + dx, y + dy, cx + dx, cy + dy⟩ from rfl)
        generalize moveS dx dy ⟨3, x, y, cx, cy⟩ = s2 at *
        have hs2 := HE.out
        subst hs2
        have HNr : Hid ([x + dx, y + dy, cx + dx, cy + dy].all near1 = true) := HN2
        dsimp only at c1 c2 c3 c4
        obtain ⟨n1, n2, n3⟩ := tok3
        go_wp2_with (first | (go_at_call 74; (refine (pathNear_calls _ _ [x + dx, y + dy, cx + dx, cy + dy] (hL.numsLit [x + dx, y + dy, cx + dx, cy + dy] atO (by rfl))).mono ?_); rintro e _ ⟨rfl, hb⟩; rw [HNr.out]; replace hL := hL.call hb; clear hb) | (with_reducible first | (clear hL; intro _ _ _ hL; try dsimp only at hL) | (clear hL n1; intro b1 w1 hL) | (clear hL n2; intro b2 w2 hL) | (clear hL n3; intro b3 w3 hL) | (clear hL; intro _ _ hL) | (clear hL; intro _ hL)) | ((with_reducible refine wpA_lit rfl _ _ _ rfl ?_); first | refine litA1 hL ?_ | refine litA2 hL ?_ | refine litA3 hL ?_ | refine litA4 hL ?_ | refine litA6 hL ?_) | ((with_reducible refine goJ rfl ?_); refine goW ?_))
        go_roundw
        case rel => exact ⟨k + 1, by omega, by go_num, by rw [HST.out]; exact (hL.drop .here).drop .here⟩
        case measure => simp [intOf]; omega
      · have HE := Lib.hid (show moveS dx dy ⟨kind, x, y, cx, cy⟩ = ⟨kind, x + dx, y + dy, cx, cy⟩ by unfold moveS; rw [if_neg h, if_neg h2])
        have hs2 := HE.out
        rw [hs2] at c1 c2 c3 c4
        have HNr : Hid ([x + dx, y + dy, cx, cy].all near1 = true) := by
          have := HN2.out
          rw [hs2] at this
          exact this
        clear hs2 HN2
        dsimp only at c1 c2 c3 c4
        have d1 : (kind != 4) = true := by simp [h]
        have d2 : (kind == 3) = false := by simp [h2]
        clear h h2
        obtain ⟨n1, n2, n3⟩ := tok3
        go_wp2_with (first | (go_at_call 74; (refine (pathNear_calls _ _ [x + dx, y + dy, cx, cy] (hL.numsLit [x + dx, y + dy, cx, cy] atO (by rfl))).mono ?_); rintro e _ ⟨rfl, hb⟩; rw [HNr.out]; replace hL := hL.call hb; clear hb) | (with_reducible first | (clear hL; intro _ _ _ hL; try dsimp only at hL) | (clear hL n1; intro b1 w1 hL) | (clear hL n2; intro b2 w2 hL) | (clear hL n3; intro b3 w3 hL) | (clear hL; intro _ _ hL) | (clear hL; intro _ hL)) | ((with_reducible refine wpA_lit rfl _ _ _ rfl ?_); first | refine litA1 hL ?_ | refine litA2 hL ?_ | refine litA3 hL ?_ | refine litA4 hL ?_ | refine litA6 hL ?_) | ((with_reducible refine goJ rfl ?_); refine goW ?_))
        go_roundw
        case rel => exact ⟨k + 1, by omega, by go_num, by rw [HST.out, HE.out]; exact (hL.drop .here).drop .here⟩
        case measure => simp [intOf]; omega
    · have e : k = l.length := by omega
      subst e
      rw [List.take_length] at hL
      have hF := own_segs (p := l.map (moveS dx dy)) (by rw [List.length_map]; exact hL)
      have HF := Lib.hid hF
      clear hF
      go_wp2_with (first | (with_reducible first | (clear hL; intro _ _ _ hL; try dsimp only at hL) | (clear hL n1; intro b1 w1 hL) | (clear hL n2; intro b2 w2 hL) | (clear hL n3; intro b3 w3 hL) | (clear hL; intro _ _ hL) | (clear hL; intro _ hL)) | ((with_reducible refine wpA_lit rfl _ _ _ rfl ?_); first | refine litA1 hL ?_ | refine litA2 hL ?_ | refine litA3 hL ?_ | refine litA4 hL ?_ | refine litA6 hL ?_) | ((with_reducible refine goJ rfl ?_); refine goW ?_))
      go_ret2
      exact ⟨_, rfl, hL.below, by have := HF.out; rw [List.length_map] at this; exact this⟩
def movC (dx dy : Int) (c : Ct) : Ct := ⟨c.x + dx, c.y + dy, c.edges.map (movE dx dy), c.shut⟩
theorem moveS_kind (dx dy : Int) (s : Sg) : (moveS dx dy s).kind = s.kind := by
  unfold moveS; split
  · rfl
  · split
    · rename_i h; exact h.symm
    · rfl
theorem moveS_at (dx dy : Int) {s : Sg} (h : s.kind ≠ 4) : (moveS dx dy s).x = s.x + dx ∧ (moveS dx dy s).y = s.y + dy := by
  unfold moveS; rw [if_neg h]; split <;> exact ⟨rfl, rfl⟩
theorem segE_move (dx dy x y : Int) {s : Sg} (h : s.kind ≠ 4) : segE (x + dx) (y + dy) (moveS dx dy s) = movE dx dy (segE x y s) := by
  unfold segE movE moveS
  rw [if_neg h]
  by_cases h3 : s.kind = 3
  · simp [h3]
  · simp [h3]
theorem ctFold_none : ∀ (l : List Sg) (done : List Ct) (x y x' y' : Int), ctFold l done none x y = ctFold l done none x' y'
  | [], _, _, _, _, _ => rfl
  | s :: l, done, x, y, x', y' => by
    unfold ctFold
    split
    · rfl
    · exact ctFold_none l done x y x' y'
theorem ctFold_move (dx dy : Int) : ∀ (l : List Sg) (done : List Ct) (cur : Option Ct) (x y : Int), ctFold (l.map (moveS dx dy)) (done.map (movC dx dy)) (cur.map (movC dx dy)) (x + dx) (y + dy) = (ctFold l done cur x y).map (movC dx dy)
  | [], done, cur, x, y => by cases cur <;> simp [ctFold]
  | s :: l, done, cur, x, y => by
    rw [List.map_cons]
    unfold ctFold
    rw [moveS_kind]
    by_cases h1 : s.kind = 1
    · rw [if_pos h1, if_pos h1]
      obtain ⟨hx, hy⟩ := moveS_at dx dy (s := s) (by omega)
      rw [hx, hy]
      have := ctFold_move dx dy l (done ++ cur.toList) (some ⟨s.x, s.y, [], false⟩) s.x s.y
      rw [← this]
      congr 1
      cases cur <;> simp
    · rw [if_neg h1, if_neg h1]
      cases cur with
      | none => exact ctFold_move dx dy l done none x y
      | some c =>
        simp only [Option.map_some]
        by_cases h4 : s.kind = 4
        · rw [if_pos h4, if_pos h4]
          exact ctFold_move dx dy l done (some ⟨c.x, c.y, c.edges, true⟩) x y
        · rw [if_neg h4, if_neg h4]
          obtain ⟨hx, hy⟩ := moveS_at dx dy (s := s) h4
          rw [hx, hy]
          have := ctFold_move dx dy l done (some ⟨c.x, c.y, c.edges ++ [segE x y s], c.shut⟩) s.x s.y
          rw [← this]
          congr 1
          unfold movC
          simp only [Option.map_some, List.map_append, List.map_cons, List.map_nil, segE_move dx dy x y h4]
theorem edgesC_move (dx dy : Int) (c : Ct) : edgesC (movC dx dy c) = (edgesC c).map (movE dx dy) := by
  have hl : (movC dx dy c).edges.length = c.edges.length := by simp [movC]
  by_cases h0 : c.edges.length = 0
  · rw [edgesC_nil h0, edgesC_nil (by rw [hl]; exact h0)]; rfl
  · have he : (endE (movC dx dy c)).x1 = (endE c).x1 + dx ∧ (endE (movC dx dy c)).y1 = (endE c).y1 + dy := by
      have : endE (movC dx dy c) = movE dx dy (endE c) := by
        unfold endE
        rw [hl]
        unfold movC
        dsimp only
        have hlt : c.edges.length - 1 < c.edges.length := by omega
        simp [hlt]
      rw [this]
      unfold movE
      split <;> exact ⟨rfl, rfl⟩
    by_cases h1 : (endE c).x1 = c.x ∧ (endE c).y1 = c.y
    · rw [edgesC_shut h0 h1, edgesC_shut (by rw [hl]; exact h0) (by rw [he.1, he.2]; unfold movC; dsimp only; omega)]; rfl
    · rw [edgesC_open h0 h1, edgesC_open (by rw [hl]; exact h0) (by rw [he.1, he.2]; unfold movC; dsimp only; omega), he.1, he.2, List.map_append]
      unfold movC movE
      simp
theorem rightS_move {dx dy : Int} {s : Sg} (h1 : nearS s = true) (h2 : nearS (moveS dx dy s) = true) (last : Int) : rightS (moveS dx dy s) last = rightS s last := by
  unfold rightS
  unfold nearS at h1 h2
  rw [h1, h2, moveS_kind]
  unfold moveS
  by_cases h4 : s.kind = 4
  · simp [h4]
  · rw [if_neg h4]
    by_cases h3 : s.kind = 3
    · simp [h3]
    · simp [h3, h4]
theorem maySF_move {dx dy : Int} : ∀ (l : List Sg) (last : Int), (∀ s ∈ l, nearS s = true ∧ nearS (moveS dx dy s) = true) → maySF last (l.map (moveS dx dy)) = maySF last l
  | [], _, _ => rfl
  | s :: l, last, h => by
    obtain ⟨h1, h2⟩ := h s List.mem_cons_self
    rw [List.map_cons, maySF, maySF, rightS_move h1 h2, moveS_kind, maySF_move l _ fun t ht => h t (List.mem_cons_of_mem _ ht)]
/-- the edges of a path that is moved -/
theorem edges_move {dx dy : Int} {l : List Sg} (h : ∀ s ∈ l, nearS s = true ∧ nearS (moveS dx dy s) = true) : edgesS (l.map (moveS dx dy)) = (edgesS l).map (movE dx dy) := by
  have hm : pathMay (l.map (moveS dx dy)) = pathMay l := by unfold pathMay; rw [List.length_map, maySF_move l 0 h]
  have hc : contoursS (l.map (moveS dx dy)) = (contoursS l).map (movC dx dy) := by
    unfold contoursS
    rw [hm]
    split
    · rw [ctFold_none _ _ 0 0 (0 + dx) (0 + dy)]
      exact ctFold_move dx dy l [] none 0 0
    · rfl
  unfold edgesS
  rw [hc, List.flatMap_map]
  induction contoursS l with
  | nil => rfl
  | cons c cs ih => rw [List.flatMap_cons, List.flatMap_cons, List.map_append, ih, edgesC_move]

/-! small paths -/
end Go.Proofs.YtmnoeoecjfhhbaaGreat
