/- Plain laws: an upright box as a path. -/
import Derived.Test.YtfnolaoohmecbaaBak
import Derived.Test.YtfnolaoohmecbaaShM
import Derived.Test.YtfnolaoohmecbaaMkdM
import Derived.Test.YtfnolaoohmecbaaBowM
namespace Go.Proofs.Ytfnolaoohmecbaa
def chainedR (x y : Int) : List Edg → Prop
  | [] => True
  | e :: l => (e.x1 = x ∧ e.y1 = y) ∧ chainedR e.x0 e.y0 l
def startX (x : Int) : List Edg → Int
  | [] => x
  | e :: l => startX e.x0 l
def startY (y : Int) : List Edg → Int
  | [] => y
  | e :: l => startY e.y0 l
theorem chainedR_snoc : ∀ (l : List Edg) (x y : Int) (e : Edg), chainedR x y l → e.x1 = startX x l → e.y1 = startY y l → chainedR x y (l ++ [e])
  | [], _, _, _, _, h1, h2 => ⟨⟨h1, h2⟩, trivial⟩
  | _ :: l, _, _, e, h, h1, h2 => ⟨h.1, chainedR_snoc l _ _ e h.2 h1 h2⟩
theorem startX_snoc : ∀ (l : List Edg) (x : Int) (e : Edg), startX x (l ++ [e]) = e.x0
  | [], _, _ => rfl
  | _ :: l, _, e => startX_snoc l _ e
theorem startY_snoc : ∀ (l : List Edg) (y : Int) (e : Edg), startY y (l ++ [e]) = e.y0
  | [], _, _ => rfl
  | _ :: l, _, e => startY_snoc l _ e
theorem rev_chain : ∀ (l : List Edg) (x y : Int), chained x y l → chainedR (endX x l) (endY y l) l.reverse ∧ startX (endX x l) l.reverse = x ∧ startY (endY y l) l.reverse = y
  | [], _, _, _ => ⟨trivial, rfl, rfl⟩
  | e :: l, x, y, h => by
    obtain ⟨h1, h2, h3⟩ := rev_chain l _ _ h.2
    rw [List.reverse_cons]
    exact ⟨chainedR_snoc _ _ _ _ h1 h2.symm h3.symm, by rw [startX_snoc]; exact h.1.1, by rw [startY_snoc]; exact h.1.2⟩
def revE0 (e : Edg) : Edg := ⟨e.x1, e.y1, e.bent, if e.bent then e.cx else 0, if e.bent then e.cy else 0, e.x0, e.y0⟩
theorem backSg_kind (e : Edg) : (backSg e).kind = 2 ∨ (backSg e).kind = 3 := by
  unfold backSg; cases e.bent <;> simp
theorem segE_back {e : Edg} {x y : Int} (hx : e.x1 = x) (hy : e.y1 = y) : segE x y (backSg e) = revE0 e := by
  subst hx; subst hy
  unfold segE backSg revE0
  cases e.bent <;> rfl
theorem fold_back (rest : List Sg) (done : List Ct) (sx sy : Int) (sh : Bool) : ∀ (r acc : List Edg) (x y : Int), chainedR x y r → ctFold (r.map backSg ++ rest) done (some ⟨sx, sy, acc, sh⟩) x y = ctFold rest done (some ⟨sx, sy, acc ++ r.map revE0, sh⟩) (startX x r) (startY y r)
  | [], acc, x, y, _ => by simp [startX, startY]
  | e :: r, acc, x, y, h => by
    have hk := backSg_kind e
    rw [List.map_cons, List.cons_append]
    rw [ctFold]
    rw [if_neg (by omega)]
    simp only
    rw [if_neg (by omega), segE_back h.1.1 h.1.2]
    have := fold_back rest done sx sy sh r (acc ++ [revE0 e]) e.x0 e.y0 h.2
    have e1 : (backSg e).x = e.x0 := rfl
    have e2 : (backSg e).y = e.y0 := rfl
    rw [e1, e2, this]
    simp [startX, startY]
def revC (c : Ct) : Ct := ⟨endX c.x c.edges, endY c.y c.edges, c.edges.reverse.map revE0, c.shut⟩
theorem backM_eq (c : Ct) : backM c = ⟨1, endX c.x c.edges, endY c.y c.edges, 0, 0⟩ := by
  unfold backM
  split
  · rename_i h
    have := List.length_eq_zero_iff.1 h
    rw [this]; rfl
  · rename_i h
    obtain ⟨h1, h2⟩ := endE_eq c h
    rw [h1, h2]
theorem fold_backC (rest : List Sg) (done : List Ct) (cur : Option Ct) (x y : Int) {c : Ct} (h : Chained c) : ∃ x' y', ctFold (backC c ++ rest) done cur x y = ctFold rest (done ++ cur.toList) (some (revC c)) x' y' := by
  obtain ⟨h1, h2, h3⟩ := rev_chain c.edges c.x c.y h
  unfold backC
  rw [backM_eq, List.cons_append, ctFold.eq_def]
  dsimp only
  rw [if_pos rfl, List.append_assoc, fold_back _ _ _ _ _ _ _ _ _ h1]
  unfold revC
  cases hs : c.shut with
  | true =>
    simp only [if_true, List.cons_append, List.nil_append]
    rw [ctFold, if_neg (by simp)]
    simp only [if_true]
    exact ⟨_, _, rfl⟩
  | false =>
    simp only [Bool.false_eq_true, if_false, List.nil_append]
    exact ⟨_, _, rfl⟩
theorem fold_backs : ∀ (cs : List Ct) (done : List Ct) (cur : Option Ct) (x y : Int), (∀ c ∈ cs, Chained c) → ctFold (cs.flatMap backC) done cur x y = done ++ cur.toList ++ cs.map revC
  | [], done, cur, x, y, _ => by simp [ctFold]
  | c :: cs, done, cur, x, y, h => by
    rw [List.flatMap_cons]
    obtain ⟨x', y', e⟩ := fold_backC (cs.flatMap backC) done cur x y (h c List.mem_cons_self)
    rw [e, fold_backs cs _ _ _ _ fun d hd => h d (List.mem_cons_of_mem _ hd)]
    simp

/-! a path turned round may be -/
def ctP (c : Ct) : Nat := 1 + c.edges.length + if c.shut then 1 else 0
theorem backC_ctP (c : Ct) : (backC c).length = ctP c := by
  unfold backC ctP
  split <;> (simp; try omega)
theorem ctFold_pieces : ∀ (l : List Sg) (done : List Ct) (cur : Option Ct) (x y : Int), ((ctFold l done cur x y).map ctP).sum ≤ (done.map ctP).sum + (cur.toList.map ctP).sum + l.length
  | [], done, cur, _, _ => by simp [ctFold]
  | s :: l, done, cur, x, y => by
    unfold ctFold
    split
    · refine Nat.le_trans (ctFold_pieces l _ _ _ _) ?_
      simp [ctP]; omega
    · cases cur with
      | none => refine Nat.le_trans (ctFold_pieces l _ _ _ _) ?_; simp
      | some c =>
        simp only
        split
        · refine Nat.le_trans (ctFold_pieces l _ _ _ _) ?_
          simp [ctP]; split <;> omega
        · refine Nat.le_trans (ctFold_pieces l _ _ _ _) ?_; simp [ctP]; omega
theorem backs_len : ∀ cs : List Ct, (cs.flatMap backC).length = (cs.map ctP).sum
  | [] => rfl
  | c :: cs => by rw [List.flatMap_cons, List.length_append, backs_len cs, backC_ctP, List.map_cons, List.sum_cons]
def NE (c : Ct) : Prop := c.edges ≠ [] ∨ c.shut = true
/-- all but the last have something -/
def AllNE (cs : List Ct) : Prop := ∀ i, i + 1 < cs.length → NE (cs.getD i default)
theorem allNE_snoc {done : List Ct} (h : ∀ c ∈ done, NE c) (cur : Option Ct) : AllNE (done ++ cur.toList) := by
  intro i hi
  have hc : cur.toList.length ≤ 1 := by cases cur <;> simp
  rw [List.length_append] at hi
  have hid : i < done.length := by omega
  rw [show (done ++ cur.toList).getD i default = done[i] by simp [List.getElem?_append_left hid, hid]]
  exact h _ (List.getElem_mem hid)
theorem ctFold_NE : ∀ (l : List Sg) (done : List Ct) (cur : Option Ct) (x y last : Int), maySF last l = true → (∀ c ∈ done, NE c) → (∀ c, cur = some c → last ≠ 1 → NE c) → AllNE (ctFold l done cur x y)
  | [], done, cur, x, y, last, _, hd, hc => by
    rw [ctFold]; exact allNE_snoc hd cur
  | s :: l, done, cur, x, y, last, hm, hd, hc => by
    rw [maySF, Bool.and_eq_true] at hm
    obtain ⟨hr, hm⟩ := hm
    unfold ctFold
    split
    · rename_i h1
      have hl : last ≠ 1 := by
        intro h
        rw [h] at hr
        unfold rightS at hr
        simp [h1] at hr
      refine ctFold_NE l _ _ _ _ s.kind hm ?_ (fun c hc h => absurd h1 h)
      intro c h
      rcases List.mem_append.1 h with h | h
      · exact hd c h
      · exact hc c (by simpa using h) hl
    · rename_i h1
      cases cur with
      | none => exact ctFold_NE l _ none _ _ s.kind hm hd (fun c h => by cases h)
      | some c =>
        simp only
        split
        · exact ctFold_NE l _ _ _ _ s.kind hm hd (fun d h _ => by cases h; exact .inr rfl)
        · exact ctFold_NE l _ _ _ _ s.kind hm hd (fun d h _ => by cases h; exact .inl (by simp))

def NearE (e : Edg) : Prop := ((near1 e.x0 = true ∧ near1 e.y0 = true) ∧ (near1 e.cx = true ∧ near1 e.cy = true) ∧ near1 e.x1 = true ∧ near1 e.y1 = true) ∧ (e.bent = false → e.cx = 0 ∧ e.cy = 0)
def NearP (x y : Int) : Prop := near1 x = true ∧ near1 y = true
theorem rightS_straight {s : Sg} {last : Int} (h : rightS s last = true) (h3 : s.kind ≠ 3) : s.cx = 0 ∧ s.cy = 0 := by
  unfold rightS at h
  simp only [Bool.and_eq_true] at h
  have := h.2.1
  simpa [h3] using this
theorem may_right : ∀ (l : List Sg) (last : Int), maySF last l = true → ∀ s ∈ l, ∃ k, rightS s k = true
  | [], _, _, s, hs => by cases hs
  | a :: l, last, h, s, hs => by
    rw [maySF, Bool.and_eq_true] at h
    rcases List.mem_cons.1 hs with rfl | hs
    · exact ⟨_, h.1⟩
    · exact may_right l _ h.2 s hs
theorem contours_near {l : List Sg} (h : maySF 0 l = true) : ∀ c ∈ ctFold l [] none 0 0, CtAll NearE NearP c := by
  have hr := may_right l 0 h
  refine ctFold_all NearE NearP l [] none 0 0 (fun s hs _ => ?_) (fun s hs h1 h4 x y hxy => ?_) (by simp) (by intro c h; cases h)
  · obtain ⟨k, hk⟩ := hr s hs
    exact ⟨(rightS_near hk).1, (rightS_near hk).2.1⟩
  · obtain ⟨k, hk⟩ := hr s hs
    obtain ⟨n1, n2, n3, n4⟩ := rightS_near hk
    refine ⟨⟨hxy, ⟨n3, n4⟩, n1, n2⟩, fun hb => ?_⟩
    have h3 : s.kind ≠ 3 := by
      intro h3
      unfold segE at hb
      simp [h3] at hb
    exact rightS_straight hk h3
theorem right_backSg {e : Edg} (h : NearE e) {last : Int} (h0 : last ≠ 0) (h4 : last ≠ 4) : rightS (backSg e) last = true := by
  obtain ⟨⟨⟨n1, n2⟩, ⟨n3, n4⟩, _⟩, _⟩ := h
  have hz : near1 0 = true := by decide
  unfold rightS backSg
  cases e.bent <;> simp [n1, n2, n3, n4, hz, h0, h4]
theorem may_edges (rest : List Sg) : ∀ (r : List Edg) (last : Int), (∀ e ∈ r, NearE e) → last ≠ 0 → last ≠ 4 → (∀ k, k ≠ 0 → k ≠ 4 → (k = 1 → r = [] ∧ last = 1) → maySF k rest = true) → maySF last (r.map backSg ++ rest) = true
  | [], last, _, h0, h4, hr => hr last h0 h4 fun h => ⟨rfl, h⟩
  | e :: r, last, hn, h0, h4, hr => by
    have hk := backSg_kind e
    rw [List.map_cons, List.cons_append, maySF, right_backSg (hn e List.mem_cons_self) h0 h4, Bool.true_and]
    exact may_edges rest r _ (fun f hf => hn f (List.mem_cons_of_mem _ hf)) (by omega) (by omega) fun k k0 k4 k1 => hr k k0 k4 fun h => by
      have := (k1 h).2
      omega
theorem endXY_near {c : Ct} (h : CtAll NearE NearP c) : NearP (endX c.x c.edges) (endY c.y c.edges) := by
  rcases List.eq_nil_or_concat c.edges with h0 | ⟨l, e, h0⟩
  · rw [h0]; exact h.1
  · have := (h.2 e (by rw [h0]; simp)).2
    rw [h0, List.concat_eq_append, endX_snoc, endY_snoc]
    exact this
theorem may_backC (rest : List Sg) {c : Ct} (h : CtAll NearE NearP c) {last : Int} (hl : last ≠ 1) (hr : ∀ k, k ≠ 0 → (NE c → k ≠ 1) → maySF k rest = true) : maySF last (backC c ++ rest) = true := by
  have hz : near1 0 = true := by decide
  have hm : rightS (backM c) last = true := by
    obtain ⟨n1, n2⟩ := endXY_near h
    rw [backM_eq]
    unfold rightS
    simp [n1, n2, hz, hl]
  unfold backC
  rw [List.cons_append, maySF, hm, Bool.true_and, List.append_assoc]
  have hk1 : (backM c).kind = 1 := by rw [backM_eq]
  rw [hk1]
  refine may_edges _ _ 1 (fun e he => (h.2 e (by simpa using he)).1) (by omega) (by omega) fun k k0 k4 k1 => ?_
  cases hs : c.shut with
  | true =>
    simp only [if_true, List.cons_append, List.nil_append]
    rw [maySF]
    have : rightS ⟨4, 0, 0, 0, 0⟩ k = true := by unfold rightS; simp [hz, k0, k4]
    rw [this, Bool.true_and]
    exact hr 4 (by omega) fun _ => by omega
  | false =>
    simp only [Bool.false_eq_true, if_false, List.nil_append]
    refine hr k k0 fun hne h1 => ?_
    have := (k1 h1).1
    rcases hne with hne | hne
    · exact hne (by simpa using this)
    · rw [hs] at hne; cases hne
theorem may_backs : ∀ (cs : List Ct) (last : Int), (∀ c ∈ cs, CtAll NearE NearP c) → AllNE cs → (cs ≠ [] → last ≠ 1) → maySF last (cs.flatMap backC) = true
  | [], _, _, _, _ => rfl
  | c :: cs, last, h, hne, hl => by
    rw [List.flatMap_cons]
    refine may_backC _ (h c List.mem_cons_self) (hl (by simp)) fun k _ hk => ?_
    refine may_backs cs k (fun d hd => h d (List.mem_cons_of_mem _ hd)) (fun i hi => ?_) fun hcs => hk ?_
    · have := hne (i + 1) (by simp; omega)
      simpa using this
    · have hlen : 0 < cs.length := List.length_pos_iff.2 hcs
      have := hne 0 (by simp; omega)
      simpa using this
theorem back_contours {l : List Sg} (h : pathMay l = true) : pathMay (backS l) = true ∧ contoursS (backS l) = (contoursS l).map revC := by
  have hmm : l.length ≤ 300 ∧ maySF 0 l = true := by simpa [pathMay] using h
  have hc : contoursS l = ctFold l [] none 0 0 := by unfold contoursS; rw [h]; rfl
  have hm : pathMay (backS l) = true := by
    unfold pathMay backS
    rw [hc, backs_len, may_backs _ 0 (contours_near hmm.2) (ctFold_NE l [] none 0 0 0 hmm.2 (by simp) (by intro c h; cases h)) (fun _ => by omega)]
    have := ctFold_pieces l [] none 0 0
    simp at this
    simp; omega
  refine ⟨hm, ?_⟩
  have hch := contours_chained l
  rw [show contoursS (backS l) = ctFold (backS l) [] none 0 0 by unfold contoursS; rw [hm]; rfl]
  unfold backS
  rw [fold_backs _ _ _ _ _ hch]
  simp

/-! it winds the other way -/
theorem revE0_eq {e : Edg} (h : NearE e) : revE0 e = revE e := by
  unfold revE0 revE
  cases hb : e.bent with
  | true => rfl
  | false => obtain ⟨h1, h2⟩ := h.2 hb; simp [h1, h2]
theorem windG_rev (l : List Edg) (h : ∀ e ∈ l, NearE e) (x y : Int) : windG (l.reverse.map revE0) x y = -windG l x y := by
  induction l with
  | nil => rfl
  | cons e l ih =>
    rw [List.reverse_cons, List.map_append, windG_append, ih fun f hf => h f (List.mem_cons_of_mem _ hf)]
    have h1 : windG ([e].map revE0) x y = -turnG e x y := by
      simp [windG, revE0_eq (h e List.mem_cons_self), turnG_rev]
    have h2 : windG (e :: l) x y = turnG e x y + windG l x y := by simp [windG]
    rw [h1, h2]; omega
theorem edgesC_rev {c : Ct} (hc : Chained c) (hn : CtAll NearE NearP c) (x y : Int) : windG (edgesC (revC c)) x y = -windG (edgesC c) x y := by
  have hl : (revC c).edges.length = c.edges.length := by simp [revC]
  have hw : windG (revC c).edges x y = -windG c.edges x y := windG_rev c.edges (fun e he => (hn.2 e he).1) x y
  by_cases h0 : c.edges.length = 0
  · rw [edgesC_nil h0, edgesC_nil (by rw [hl]; exact h0)]; rfl
  · obtain ⟨hx, hy⟩ := endE_eq c h0
    have hr : (endE (revC c)).x1 = c.x ∧ (endE (revC c)).y1 = c.y := by
      unfold endE
      rw [hl]
      unfold revC
      dsimp only
      rcases hce : c.edges with _ | ⟨e, l⟩
      · rw [hce] at h0; exact absurd rfl h0
      · have := hc
        unfold Chained at this
        rw [hce] at this
        simp only [List.length_cons, Nat.add_sub_cancel, List.reverse_cons, List.map_append, List.map_cons, List.map_nil]
        rw [show ((l.reverse.map revE0) ++ [revE0 e]).getD l.length default = revE0 e by simp [List.getElem?_append]]
        exact this.1
    have hxx : (revC c).x = (endE c).x1 := hx
    have hyy : (revC c).y = (endE c).y1 := hy
    by_cases h1 : (endE c).x1 = c.x ∧ (endE c).y1 = c.y
    · rw [edgesC_shut h0 h1, edgesC_shut (by rw [hl]; exact h0) (by rw [hr.1, hr.2, hxx, hyy, h1.1, h1.2]; exact ⟨rfl, rfl⟩), hw]
    · rw [edgesC_open h0 h1, edgesC_open (by rw [hl]; exact h0) (by rw [hr.1, hr.2, hxx, hyy]; intro h; exact h1 ⟨h.1.symm, h.2.symm⟩), windG_append, windG_append, hw, hr.1, hr.2, hxx, hyy]
      have : windG [⟨c.x, c.y, false, 0, 0, (endE c).x1, (endE c).y1⟩] x y = -windG [⟨(endE c).x1, (endE c).y1, false, 0, 0, c.x, c.y⟩] x y := by
        have := turnG_rev ⟨(endE c).x1, (endE c).y1, false, 0, 0, c.x, c.y⟩ x y
        unfold revE at this
        simpa [windG] using this
      rw [this]; omega
theorem back_wind {l : List Sg} (h : pathMay l = true) (x y : Int) : windG (edgesS (backS l)) x y = -windG (edgesS l) x y := by
  obtain ⟨_, hc⟩ := back_contours h
  have hmm : l.length ≤ 300 ∧ maySF 0 l = true := by simpa [pathMay] using h
  have hcl : contoursS l = ctFold l [] none 0 0 := by unfold contoursS; rw [h]; rfl
  have h1 := contours_chained l
  have h2 := contours_near hmm.2
  rw [← hcl] at h2
  unfold edgesS
  rw [hc, List.flatMap_map]
  generalize contoursS l = cs at *
  clear hc hcl
  induction cs with
  | nil => rfl
  | cons c cs ih =>
    rw [List.flatMap_cons, List.flatMap_cons, windG_append, windG_append, edgesC_rev (h1 c List.mem_cons_self) (h2 c List.mem_cons_self), ih (fun d hd => h1 d (List.mem_cons_of_mem _ hd)) fun d hd => h2 d (List.mem_cons_of_mem _ hd)]
    omega
def lineE (a b c d : Int) : Edg := ⟨a, b, false, 0, 0, c, d⟩
theorem turnG_line_rev (a b c d x y : Int) : turnG (lineE c d a b) x y = -turnG (lineE a b c d) x y := turnG_rev (lineE a b c d) x y
theorem turnG_dot (a b x y : Int) : turnG (lineE a b a b) x y = 0 := by
  have := turnG_line_rev a b a b x y
  omega
def triS (u v a b c d : Int) : List Sg := [⟨1, u, v, 0, 0⟩, ⟨2, a, b, 0, 0⟩, ⟨2, c, d, 0, 0⟩, ⟨4, 0, 0, 0, 0⟩]
theorem near_of {v : Int} (h : -8000 ≤ v ∧ v ≤ 8000) : near1 v = true := by unfold near1; simp; omega
theorem triS_may {u v a b c d : Int} (hu : -8000 ≤ u ∧ u ≤ 8000) (hv : -8000 ≤ v ∧ v ≤ 8000) (ha : -8000 ≤ a ∧ a ≤ 8000) (hb : -8000 ≤ b ∧ b ≤ 8000) (hc : -8000 ≤ c ∧ c ≤ 8000) (hd : -8000 ≤ d ∧ d ≤ 8000) : pathMay (triS u v a b c d) = true := by
  have hz : near1 0 = true := by decide
  simp [pathMay, triS, maySF, rightS, near_of hu, near_of hv, near_of ha, near_of hb, near_of hc, near_of hd, hz]
theorem triS_edges {u v a b c d : Int} (hm : pathMay (triS u v a b c d) = true) : edgesS (triS u v a b c d) = if c = u ∧ d = v then [lineE u v a b, lineE a b c d] else [lineE u v a b, lineE a b c d, lineE c d u v] := by
  have hc : contoursS (triS u v a b c d) = [⟨u, v, [lineE u v a b, lineE a b c d], true⟩] := by
    unfold contoursS
    rw [hm]
    simp [triS, ctFold, segE, lineE]
  unfold edgesS
  rw [hc]
  simp only [List.flatMap_cons, List.flatMap_nil, List.append_nil]
  have he : endE ⟨u, v, [lineE u v a b, lineE a b c d], true⟩ = lineE a b c d := rfl
  by_cases h : c = u ∧ d = v
  · rw [if_pos h, edgesC_shut (by simp) (by rw [he]; exact h)]
  · rw [if_neg h, edgesC_open (by simp) (by rw [he]; exact h), he]
    rfl
theorem windG_cons (e : Edg) (l : List Edg) (x y : Int) : windG (e :: l) x y = turnG e x y + windG l x y := by simp [windG]
theorem windG_nil (x y : Int) : windG [] x y = 0 := rfl
theorem triS_wind {u v a b c d : Int} (hm : pathMay (triS u v a b c d) = true) (x y : Int) : windG (edgesS (triS u v a b c d)) x y = turnG (lineE a b c d) x y + (turnG (lineE u v a b) x y - turnG (lineE u v c d) x y) := by
  rw [triS_edges hm]
  have hr := turnG_line_rev u v c d x y
  split
  · rename_i h
    rw [h.1, h.2, windG_cons, windG_cons, windG_nil, turnG_dot]; omega
  · rw [windG_cons, windG_cons, windG_cons, windG_nil, hr]; omega
/-- straight edges, nothing said between -/
def Line0 (e : Edg) : Prop := e = lineE e.x0 e.y0 e.x1 e.y1
theorem edges_line {l : List Sg} (h : ∀ s ∈ l, s.kind ≠ 3 ∧ s.cx = 0 ∧ s.cy = 0) : ∀ e ∈ edgesS l, Line0 e :=
  edges_all Line0 (fun _ _ => True) l (fun _ _ _ _ _ _ => rfl) (fun _ _ _ => trivial) fun s hs _ _ x y _ => by
    obtain ⟨h1, h2, h3⟩ := h s hs
    unfold Line0 segE lineE
    simp [h1, h2, h3]
theorem loop_line (n : List Int) : ∀ e ∈ edgesS (loopS n), Line0 e := by
  refine edges_line ?_
  have key : ∀ f p m, (∀ s ∈ p, Sg.kind s ≠ 3 ∧ Sg.cx s = 0 ∧ Sg.cy s = 0) → ∀ s ∈ loopF f p m, s.kind ≠ 3 ∧ s.cx = 0 ∧ s.cy = 0 := by
    intro f
    induction f with
    | zero => intro p m h s hs; exact h s hs
    | succ f ih =>
      intro p m h s hs
      rw [loopF] at hs
      split at hs
      · exact h s hs
      · refine ih _ _ ?_ s hs
        intro t ht
        rcases List.mem_append.1 ht with ht | ht
        · exact h t ht
        · rw [List.mem_singleton.1 ht]; simp
  intro s hs
  unfold loopS at hs
  rcases List.mem_append.1 hs with hs | hs
  · exact key _ _ _ (by intro t ht; rw [List.mem_singleton.1 ht]; simp) s hs
  · rw [List.mem_singleton.1 hs]; simp
theorem sum_addG (f g : Edg → Int) : ∀ l : List Edg, (l.map fun e => f e + g e).sum = (l.map f).sum + (l.map g).sum
  | [] => rfl
  | e :: l => by simp only [List.map_cons, List.sum_cons, sum_addG f g l]; omega
theorem sum_stepG (f : Edg → Int) {l : List Edg} {k : Nat} (h : k < l.length) : ((l.take (k + 1)).map f).sum = ((l.take k).map f).sum + f (l.getD k default) := by
  rw [List.take_succ_eq_append_getElem h, List.map_append, List.sum_append]
  simp [h]
def fanG (u v x y : Int) (e : Edg) : Int := turnG (lineE e.x0 e.y0 e.x1 e.y1) x y + (turnG (lineE u v e.x0 e.y0) x y - turnG (lineE u v e.x1 e.y1) x y)
theorem fanG_law (u v x y : Int) {l : List Sg} (h : ∀ e ∈ edgesS l, Line0 e) : ((edgesS l).map (fanG u v x y)).sum = windG (edgesS l) x y := by
  have hc := edges_closed (fun a b => turnG (lineE u v a b) x y) l
  have e : (edgesS l).map (fanG u v x y) = (edgesS l).map fun e => turnG e x y + (turnG (lineE u v e.x0 e.y0) x y - turnG (lineE u v e.x1 e.y1) x y) := by
    refine List.map_congr_left fun e he => ?_
    unfold fanG
    rw [← h e he]
  rw [e, sum_addG, hc]
  unfold windG
  omega
theorem odd_add (a b : Int) : isIn 1 (a + b) = (isIn 1 a != isIn 1 b) := by
  have h1 : ∀ n : Int, isIn 1 n = decide (n % 2 ≠ 0) := fun n => rfl
  rw [h1, h1, h1]
  rcases Int.emod_two_eq a with ha | ha <;> rcases Int.emod_two_eq b with hb | hb
  · rw [decide_eq_false (show ¬ a % 2 ≠ 0 by omega), decide_eq_false (show ¬ b % 2 ≠ 0 by omega), decide_eq_false (by omega)]; rfl
  · rw [decide_eq_false (show ¬ a % 2 ≠ 0 by omega), decide_eq_true (show b % 2 ≠ 0 by omega), decide_eq_true (by omega)]; rfl
  · rw [decide_eq_true (show a % 2 ≠ 0 by omega), decide_eq_false (show ¬ b % 2 ≠ 0 by omega), decide_eq_true (by omega)]; rfl
  · rw [decide_eq_true (show a % 2 ≠ 0 by omega), decide_eq_true (show b % 2 ≠ 0 by omega), decide_eq_false (by omega)]; rfl
theorem nil_may : pathMay [] = true := by decide
theorem nil_edges : edgesS [] = [] := by decide
theorem nilSegs_at (w : World) : SegsAt w (.slice none 0 0) [] := ⟨none, 0, rfl, Nat.le_refl _, by unfold maxLen; omega, fun i hi => by simp at hi⟩
theorem hitT_line (t p m x : Int) (ht : t = 0 → p = 0 ∧ m = 0) : hitT ⟨t, p, 0, 0, m⟩ x = if 0 < p - x * m then t else 0 := by
  unfold hitT
  dsimp only
  rw [sgR_zero]
  by_cases h : 0 < p - x * m
  · rw [if_pos h]
    by_cases h0 : t = 0
    · rw [if_neg (by simp [h0])]; exact h0.symm
    · rw [if_pos ⟨h0, by unfold sgn; split <;> omega⟩]
  · rw [if_neg h, if_neg]
    rintro ⟨_, h2⟩
    unfold sgn at h2
    split at h2 <;> (try split at h2) <;> omega
theorem turnG_turnS {a b c d u v : Int} (h1 : -8000 ≤ a ∧ a ≤ 8000) (h2 : -8000 ≤ b ∧ b ≤ 8000) (h3 : -8000 ≤ c ∧ c ≤ 8000) (h4 : -8000 ≤ d ∧ d ≤ 8000) (h5 : -8000 ≤ u ∧ u ≤ 8000) (h6 : -8000 ≤ v ∧ v ≤ 8000) : turnG (lineE a b c d) u v = turnS ⟨a, b, false, 0, 0, c, d⟩ u v := by
  have hm : mayE (lineE a b c d) = true := by
    unfold mayE lineE
    have hz : near1 0 = true := by decide
    simp [near_of h1, near_of h2, near_of h3, near_of h4, hz]
  unfold turnG
  rw [hm, near_of h5, near_of h6]
  have e1 : spt1 (lineE a b c d) v = ⟨spT (lineE a b c d) v, spP (lineE a b c d) v, 0, 0, spM (lineE a b c d) v⟩ := rfl
  have e2 : spt2 (lineE a b c d) v = noSpt := rfl
  have hn : hitT noSpt u = 0 := by unfold hitT noSpt; rw [if_neg (by simp)]
  rw [e1, e2, hn, hitT_line _ _ _ _ (by
    unfold spT spP spM
    intro h
    split at h
    · rename_i hc
      simp only [if_pos hc]
      exact ⟨trivial, trivial⟩
    · split at h <;> omega)]
  unfold turnS spT spP spM lineE
  dsimp only
  generalize a * (d - b) + (c - a) * (v - b) = p
  by_cases hc : v < min b d ∨ max b d ≤ v
  · simp [hc]
  · simp only [if_neg hc]
    by_cases hd : d - b < 0
    · simp only [if_pos hd]; simp
    · simp only [if_neg hd]; simp
theorem boxS_may {x0 y0 x1 y1 : Int} (h1 : -8000 ≤ x0 ∧ x0 ≤ 8000) (h2 : -8000 ≤ y0 ∧ y0 ≤ 8000) (h3 : -8000 ≤ x1 ∧ x1 ≤ 8000) (h4 : -8000 ≤ y1 ∧ y1 ≤ 8000) : pathMay (boxS x0 y0 x1 y1) = true := by
  have hz : near1 0 = true := by decide
  simp [pathMay, boxS, maySF, rightS, near_of h1, near_of h2, near_of h3, near_of h4, hz]
theorem boxS_wind {x0 y0 x1 y1 u v : Int} (h1 : -8000 ≤ x0 ∧ x0 ≤ 8000) (h2 : -8000 ≤ y0 ∧ y0 ≤ 8000) (h3 : -8000 ≤ x1 ∧ x1 ≤ 8000) (h4 : -8000 ≤ y1 ∧ y1 ≤ 8000) (h5 : -8000 ≤ u ∧ u ≤ 8000) (h6 : -8000 ≤ v ∧ v ≤ 8000) : windG (edgesS (boxS x0 y0 x1 y1)) u v = boxK x0 y0 x1 y1 u v := by
  have hm := boxS_may h1 h2 h3 h4
  have hc : contoursS (boxS x0 y0 x1 y1) = [⟨x0, y0, [lineE x0 y0 x1 y0, lineE x1 y0 x1 y1, lineE x1 y1 x0 y1], true⟩] := by
    unfold contoursS
    rw [hm]
    simp [boxS, ctFold, segE, lineE]
  have he : endE ⟨x0, y0, [lineE x0 y0 x1 y0, lineE x1 y0 x1 y1, lineE x1 y1 x0 y1], true⟩ = lineE x1 y1 x0 y1 := rfl
  have hw : windG (edgesS (boxS x0 y0 x1 y1)) u v = turnG (lineE x0 y0 x1 y0) u v + turnG (lineE x1 y0 x1 y1) u v + turnG (lineE x1 y1 x0 y1) u v + turnG (lineE x0 y1 x0 y0) u v := by
    unfold edgesS
    rw [hc]
    simp only [List.flatMap_cons, List.flatMap_nil, List.append_nil]
    by_cases h : x0 = x0 ∧ y1 = y0
    · rw [edgesC_shut (by simp) (by rw [he]; exact h), h.2]
      simp only [windG_cons, windG_nil, turnG_dot]
      omega
    · rw [edgesC_open (by simp) (by rw [he]; exact h), he]
      simp only [List.cons_append, List.nil_append, windG_cons, windG_nil]
      show _ + (_ + (_ + (turnG (lineE x0 y1 x0 y0) u v + 0))) = _
      omega
  rw [hw, turnG_turnS h1 h2 h3 h2 h5 h6, turnG_turnS h3 h2 h3 h4 h5 h6, turnG_turnS h3 h4 h1 h4 h5 h6, turnG_turnS h1 h4 h1 h2 h5 h6, ← box_wind]
def inBox (x0 y0 x1 y1 u v : Int) : Bool := decide (min x0 x1 ≤ u) && (decide (u < max x0 x1) && (decide (min y0 y1 ≤ v) && decide (v < max y0 y1)))
theorem boxK_in (x0 y0 x1 y1 u v : Int) : (boxK x0 y0 x1 y1 u v = 1 ∨ boxK x0 y0 x1 y1 u v = -1) ∧ inBox x0 y0 x1 y1 u v = true ∨ boxK x0 y0 x1 y1 u v = 0 ∧ inBox x0 y0 x1 y1 u v = false := by
  unfold boxK inBox
  by_cases h : (min x0 x1 ≤ u ∧ u < max x0 x1) ∧ (min y0 y1 ≤ v ∧ v < max y0 y1)
  · left
    rw [if_pos h]
    refine ⟨by split <;> simp, ?_⟩
    rw [decide_eq_true h.1.1, decide_eq_true h.1.2, decide_eq_true h.2.1, decide_eq_true h.2.2]; rfl
  · right
    rw [if_neg h]
    refine ⟨rfl, ?_⟩
    simp only [Bool.and_eq_false_iff, decide_eq_false_iff_not]
    omega
theorem isIn_box {x0 y0 x1 y1 u v n r : Int} (hr : r = 0 ∨ r = 1) (hn : n = boxK x0 y0 x1 y1 u v ∨ n = -boxK x0 y0 x1 y1 u v) : isIn r n = inBox x0 y0 x1 y1 u v := by
  rcases boxK_in x0 y0 x1 y1 u v with ⟨h1, h2⟩ | ⟨h1, h2⟩
  · rw [h2]
    have : n = 1 ∨ n = -1 := by omega
    rcases this with h | h <;> rcases hr with k | k <;> subst h <;> subst k <;> decide
  · rw [h2]
    have : n = 0 := by omega
    subst this
    rcases hr with k | k <;> subst k <;> decide
end Go.Proofs.Ytfnolaoohmecbaa
