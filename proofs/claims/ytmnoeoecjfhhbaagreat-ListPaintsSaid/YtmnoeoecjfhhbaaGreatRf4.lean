/- The document's strokes: Mask. -/
import Derived.Test.YtmnoeoecjfhhbaaGreatRf3
import Derived.Test.YtmnoeoecjfhhbaaGreatRf2
namespace Go.Proofs.YtmnoeoecjfhhbaaGreat
open Go.RowKit
theorem armL_nn (e:Edg):0≤armL e:=by
 have a1:(0:Int)≤(e.x1-e.x0)*(e.x1-e.x0):=by rw [←Int.natAbs_mul_self];omega
 have a2:(0:Int)≤(e.y1-e.y0)*(e.y1-e.y0):=by rw [←Int.natAbs_mul_self];omega
 unfold armL
 omega
theorem piece_arm (e:Edg) (w:Int) (f l:Bool) (x y:Int):pieceIn e w f l x y=(onA (armU e x y) (armK e x y) (armL e) w || ((f&&aheadA (armU e x y) (armK e x y) (armL e) w) || (l&&behindA (armU e x y) (armK e x y) (armL e) w))):=by
 have h0:=armL_nn e
 have hp:pieceIn e w f l x y=(decide (4*(armK e x y*armK e x y)≤w*w*armL e)&&((decide (0≤armU e x y) || (f&&decide (4*(armU e x y*armU e x y)≤w*w*armL e)))&&(decide (armU e x y≤armL e) || (l&&decide (4*((armU e x y-armL e)*(armU e x y-armL e))≤w*w*armL e))))):=rfl
 rw [hp]
 unfold onA aheadA behindA nearA
 generalize armU e x y=U at *
 generalize armK e x y=K at *
 generalize armL e=L at *
 generalize decide (4*(K*K)≤w*w*L)=nb
 generalize decide (4*(U*U)≤w*w*L)=ab
 generalize decide (4*((U-L)*(U-L))≤w*w*L)=bb
 rcases (by omega:U<0∨(U=0∧U≤L)∨(0<U∧U<L)∨(0<U∧U=L)∨(0<U∧L<U)) with h|⟨h,h2⟩|⟨h,h2⟩|⟨h,h2⟩|⟨h,h2⟩
 ·rw [decide_eq_false (show ¬0≤U by omega),decide_eq_true (show U≤L by omega),decide_eq_true (show U≤0 by omega),decide_eq_false (show ¬L≤U by omega)]
  cases nb <;> cases f <;> cases l <;> cases ab <;> rfl
 ·rw [decide_eq_true (show 0≤U by omega),decide_eq_true (show U≤L by omega)]
  cases nb <;> simp
 ·rw [decide_eq_true (show 0≤U by omega),decide_eq_true (show U≤L by omega)]
  cases nb <;> simp
 ·rw [decide_eq_true (show 0≤U by omega),decide_eq_true (show U≤L by omega)]
  cases nb <;> simp
 ·rw [decide_eq_true (show 0≤U by omega),decide_eq_false (show ¬U≤L by omega),decide_eq_false (show ¬U≤0 by omega),decide_eq_true (show L≤U by omega)]
  cases nb <;> cases f <;> cases l <;> cases bb <;> rfl
theorem cov_piece (e:Edg) (w:Int) (f l:Bool) (x y:Int):covS ⟨e,w,f,l,0⟩ x y=pieceIn e w f l x y:=rfl
theorem cov_disc (px py w x y:Int):covS (around 1 px py w) x y=discIn px py w x y:=rfl
theorem cov_square (px py w x y:Int):covS (around 2 px py w) x y=squareIn px py w x y:=rfl
theorem shapesE_any (sh:Bool) (s:Sty) (n i:Nat) (e:Edg) (x y:Int):((shapesE sh s n i e).any fun q=>covS q x y) =
    (onA (armU e x y) (armK e x y) (armL e) s.wide || ((((decide (i=0)&&!sh)&&decide (s.cap=2))&&aheadA (armU e x y) (armK e x y) (armL e) s.wide) || (((decide (i+1=n)&&!sh)&&decide (s.cap=2))&&behindA (armU e x y) (armK e x y) (armL e) s.wide)) ||
     (((((decide (i=0)&&!sh)&&decide (s.cap=1)) || (!(decide (i=0)&&!sh)&&decide (s.join=1)))&&discIn e.x0 e.y0 s.wide x y) || (((decide (i+1=n)&&!sh)&&decide (s.cap=1))&&discIn e.x1 e.y1 s.wide x y))):=by
  unfold shapesE
  rw [List.any_append,List.any_append,List.any_cons,List.any_nil,Bool.or_false,cov_piece,piece_arm]
  congr 1
  congr 1
  · generalize (((decide (i=0)&&!sh)&&decide (s.cap=1)) || (!(decide (i=0)&&!sh)&&decide (s.join=1)))=b
    cases b
    · rfl
    · rw [if_pos rfl,List.any_cons,List.any_nil,Bool.or_false,cov_disc,Bool.true_and]
  · generalize ((decide (i+1=n)&&!sh)&&decide (s.cap=1))=b
    cases b
    · rfl
    · rw [if_pos rfl,List.any_cons,List.any_nil,Bool.or_false,cov_disc,Bool.true_and]
theorem covers_law (c:Ct) (s:Sty) (x y:Int):coversR c s x y=covL (shapesC s c) x y:=by
 unfold coversR covL shapesC
 by_cases h0:(piecesC c).length=0
 ·rw [if_pos h0,if_pos h0,h0,show shapesL c.shut s (piecesC c) 0=[] from rfl,List.append_nil]
  unfold isDot dotS
  rw [decide_eq_true h0,Bool.true_and]
  by_cases h1:c.edges.length=0∧c.shut=false
  ·rw [if_pos h1,h1.1,h1.2]
   rfl
  ·rw [if_neg h1,if_pos (by
    cases hs:c.shut
    ·simp only [Bool.false_or,decide_eq_true_eq]
     exact (Nat.eq_zero_or_pos c.edges.length).elim (fun h=>absurd ⟨h,hs⟩ h1) id
    ·rfl)]
   unfold dotIn
   by_cases c1:s.cap=1
   ·rw [if_pos c1,if_pos c1,List.any_cons,List.any_nil,Bool.or_false,cov_disc]
   ·rw [if_neg c1,if_neg c1]
    by_cases c2:s.cap=2
    ·rw [if_pos c2,if_pos c2,List.any_cons,List.any_nil,Bool.or_false,cov_square]
    ·rw [if_neg c2,if_neg c2]
     rfl
 ·rw [if_neg h0,if_neg h0,List.nil_append,if_neg (by unfold isDot;rw [decide_eq_false h0];simp)]
  generalize piecesC c=P at *
  generalize c.shut=sh at *
  rw [Bool.eq_iff_iff]
  unfold shapesL
  rw [List.any_flatMap]
  simp only [shapesE_any]
  simp only [Bool.or_eq_true,List.any_eq_true,List.mem_range,Bool.and_eq_true,Bool.not_eq_true',decide_eq_true_eq]
  constructor
  ·rintro (⟨k,hk,h⟩|⟨hs,h⟩)
   ·refine ⟨k,hk,?_⟩
    unfold onB at h
    simp only [Bool.or_eq_true,Bool.and_eq_true,decide_eq_true_eq] at h
    rcases h with h|⟨⟨h1,h2⟩,h3⟩
    ·exact .inl (.inl h)
    ·refine .inr (.inl ⟨.inr ⟨?_,h1⟩,h3⟩)
     cases sh
     ·rcases h2 with h2|h2
      ·simp;omega
      ·cases h2
     ·simp
   ·subst hs
    unfold endsIn at h
    split at h
    ·rename_i c1
     simp only [Bool.or_eq_true] at h
     rcases h with h|h
     ·exact ⟨0,by omega,.inr (.inl ⟨.inl ⟨⟨rfl,rfl⟩,c1⟩,h⟩)⟩
     ·exact ⟨P.length-1,by omega,.inr (.inr ⟨⟨⟨by omega,rfl⟩,c1⟩,h⟩)⟩
    ·split at h
     ·rename_i c2
      simp only [Bool.or_eq_true] at h
      rcases h with h|h
      ·exact ⟨0,by omega,.inl (.inr (.inl ⟨⟨⟨rfl,rfl⟩,c2⟩,h⟩))⟩
      ·exact ⟨P.length-1,by omega,.inl (.inr (.inr ⟨⟨⟨by omega,rfl⟩,c2⟩,h⟩))⟩
     ·cases h
  ·rintro ⟨k,hk,h⟩
   rcases h with (h|⟨⟨⟨h1,h2⟩,h3⟩,h4⟩|⟨⟨⟨h1,h2⟩,h3⟩,h4⟩)|⟨h,h4⟩|⟨⟨⟨h1,h2⟩,h3⟩,h4⟩
   ·refine .inl ⟨k,hk,?_⟩
    unfold onB
    rw [h];rfl
   ·subst h1
    refine .inr ⟨h2,?_⟩
    unfold endsIn
    rw [if_neg (by omega),if_pos h3,h4];rfl
   ·refine .inr ⟨h2,?_⟩
    unfold endsIn
    rw [if_neg (by omega),if_pos h3,show P.length-1=k by omega,h4];simp
   ·rcases h with ⟨⟨h1,h2⟩,h3⟩|⟨h1,h2⟩
    ·subst h1
     refine .inr ⟨h2,?_⟩
     unfold endsIn
     rw [if_pos h3,h4];rfl
    ·refine .inl ⟨k,hk,?_⟩
     unfold onB
     rw [h4,h2]
     have:(decide (0<k) || sh)=true:=by
      cases sh
      ·simp at h1;simp;omega
      ·simp
     rw [this];simp
   ·refine .inr ⟨h2,?_⟩
    unfold endsIn
    rw [if_pos h3,show P.length-1=k by omega,h4];simp
theorem rCoversL_calls (w:World) (v:Value) (c:Ct) (hv:EdgesAt w v c.edges) (hlen:c.edges.length≤300) (hg:GoodC c) (s:Sty) (hs:mayY s=true) (x y:Int) (hx : -8191≤x∧x≤8191) (hy : -8191≤y∧y≤8191) :
  Calls Tryz.prog 135 #[.agg #[.int .i64 c.x,.int .i64 c.y,v,.bool c.shut],.agg #[.int .i64 s.wide,.int .i64 s.cap,.int .i64 s.join],.int .i64 x,.int .i64 y] w fun e w'=>e=.returned (.bool (covL (shapesC s c) x y))∧Below w.heap.size w w':=by
 rw [←covers_law]
 exact rCovers_calls w v c hv hlen hg s hs x y hx hy
open Go.RowKit
theorem ct_edges_lenR {l:List Ct} (h:(l.map ctW).sum≤300):∀ c∈l,c.edges.length≤300:=by
 intro c hc
 have:ctW c≤(l.map ctW).sum:=by
  induction l with
  | nil=>cases hc
  | cons d l ih =>
   rw [List.map_cons,List.sum_cons] at h ⊢
   rcases List.mem_cons.1 hc with rfl|hc
   ·omega
   ·have:=ih (by omega) hc;omega
 have e:ctW c=c.edges.length+1:=rfl
 omega
set_option maxRecDepth 100000 in
set_option maxHeartbeats 8000000 in
theorem rIn33_calls (w:World) (v:Value) (l:List Sg) (hv:SegsAt w v l) (s:Sty) (x y:Int):Calls Tryz.prog 118 #[v,.agg #[.int .i64 s.wide,.int .i64 s.cap,.int .i64 s.join],.int .i64 x,.int .i64 y] w fun e w'=>e=.returned (.bool (inS l s x y))∧Below w.heap.size w w':=by
 have Hv:=Lib.hid hv
 obtain ⟨a,cap0,rfl,hlc,hcm,_⟩:=hv.parts
 clear hv
 unfold maxLen at hcm
 have hL:=Holds.start w
 have HPl:=Lib.hid (fun w' (hb:Below w.heap.size w w')=>rStr33_calls w' (.slice a l.length cap0) l (SliceAt.below Hv.out hb))
 have HMy:=Lib.hid (fun w=>rMayY_calls s w)
 have HX:=Lib.hid (fun w=>refIsCoord_calls x w)
 have HY:=Lib.hid (fun w=>refIsCoord_calls y w)
 have hR:inS l s x y=((straightS l&&mayY s)&&((near1 x&&near1 y)&&covL (allS l s) x y)):=rfl
 have hAl:allS l s=(contoursS l).flatMap (shapesC s):=rfl
 have HCt:=Lib.hid (fun w' (hb:Below w.heap.size w w')=>rContours_calls w' (.slice a l.length cap0) l (SliceAt.below Hv.out hb))
 have hW:=contours_weight l
 have hC:=contours_len l
 have hGo:straightS l=true→∀ c∈contoursS l,GoodC c:=fun h=>contours_good (by unfold straightS at h;simp at h;exact h.1)
 generalize inS l s x y=R at *
 obtain ⟨bs,hbs⟩:∃ b,straightS l=b:=⟨_,rfl⟩
 obtain ⟨bm,hbm⟩:∃ b,mayY s=b:=⟨_,rfl⟩
 obtain ⟨bx1,hbx⟩:∃ b,near1 x=b:=⟨_,rfl⟩
 obtain ⟨by1,hby⟩:∃ b,near1 y=b:=⟨_,rfl⟩
 rw [hbs] at HPl hR hGo
 rw [hbm] at HMy hR
 rw [hbx] at HX hR
 rw [hby] at HY hR
 rw [hAl] at hR
 generalize contoursS l=cts at *
 have Hmy:=Lib.hid hbm
 have hx:bx1=true → -8191≤x∧x≤8191:=fun h=>(near_iff' x).1 (hbx.trans h)
 have hy:by1=true → -8191≤y∧y≤8191:=fun h=>(near_iff' y).1 (hby.trans h)
 clear hbs hbm hbx hby hAl
 obtain ⟨wd,cap,join⟩:=s
 dsimp only at *
 rcases (show ∀ b0 b1 b2 b3:Bool,b0=false∨(b0=true∧b1=false)∨(b0=true∧b1=true∧b2=false)∨(b0=true∧b1=true∧b2=true∧b3=false)∨(b0=true∧b1=true∧b2=true∧b3=true) by decide) bs bm bx1 by1 with rfl|⟨rfl,rfl⟩|⟨rfl,rfl,rfl⟩|⟨rfl,rfl,rfl,rfl⟩|⟨rfl,rfl,rfl,rfl⟩
 iterate 4
  ·have HR:=Lib.hid (show R=false by rw [hR];simp)
   clear hR hGo hx hy
   have n1:True:=trivial
   go_enter Tryz.func118,Tryz.ntmps118
   go_wp2_with (first|(go_at_call 54;(with_reducible refine (HPl.out _ hL.below).mono ?_);rintro e _ ⟨rfl,hb⟩;replace hL:=hL.call hb;clear hb)|(go_at_call 55;(with_reducible refine (HMy.out _).mono ?_);rintro e _ ⟨rfl,hb⟩;replace hL:=hL.call hb;clear hb)|(go_at_call 119;(with_reducible first|refine (HX.out _).mono ?_|refine (HY.out _).mono ?_);rintro e _ ⟨rfl,rfl⟩)|(with_reducible (clear hL n1;intro b1 w1 hL))|((with_reducible refine goJ rfl ?_);refine goW ?_))
   go_ret
   exact ⟨ret_bool HR.out.symm,hL.below⟩
 rw [Bool.true_and,Bool.true_and,Bool.true_and] at hR
 have hx9 : -8191≤x∧x≤8191:=by first|exact hx rfl|exact hx trivial
 have hy9 : -8191≤y∧y≤8191:=by first|exact hy rfl|exact hy trivial
 clear hx hy
 have HG:=Lib.hid (hGo rfl)
 have HW:=Lib.hid (ct_edges_lenR hW)
 clear hGo hW
 obtain ⟨n,hn⟩:∃ n,cts.length=n:=⟨_,rfl⟩
 have HN:=Lib.hid hn
 rw [hn] at hC
 clear hn
 have HYes:=Lib.hid (show ∀ k,k<n→covL (shapesC ⟨wd,cap,join⟩ (cts.getD k default)) x y=true→R=true from fun k hk h=>by
  rw [hR]
  unfold covL at h ⊢
  rw [List.any_flatMap,List.any_eq_true]
  have hk2:k<cts.length:=by rw [HN.out];exact hk
  exact ⟨cts.getD k default,by rw [show cts.getD k default=cts[k] by simp [hk2]];exact List.getElem_mem hk2,h⟩)
 have HNo:=Lib.hid (show (∀ i,i<n→covL (shapesC ⟨wd,cap,join⟩ (cts.getD i default)) x y=false)→R=false from fun h=>by
  rw [hR]
  unfold covL at h ⊢
  rw [List.any_flatMap,List.any_eq_false]
  intro c hc
  obtain ⟨i,hi,rfl⟩:=List.getElem_of_mem hc
  have:=h i (by rw [←HN.out];exact hi)
  rw [show cts.getD i default=cts[i] by simp [hi]] at this
  rw [this];simp)
 clear hR
 have n1:True:=trivial
 go_enter Tryz.func118,Tryz.ntmps118
 go_wp2_with (first|(go_at_call 54;(with_reducible refine (HPl.out _ hL.below).mono ?_);rintro e _ ⟨rfl,hb⟩;replace hL:=hL.call hb;clear hb)|(go_at_call 55;(with_reducible refine (HMy.out _).mono ?_);rintro e _ ⟨rfl,hb⟩;replace hL:=hL.call hb;clear hb)|(go_at_call 119;(with_reducible first|refine (HX.out _).mono ?_|refine (HY.out _).mono ?_);rintro e _ ⟨rfl,rfl⟩)|(go_at_call 122;(with_reducible refine (HCt.out _ hL.below).mono ?_);rintro e _ ⟨vc,vs,rfl,hvl,hb,hf⟩;obtain ⟨sa,sc,rfl⟩:∃ sa sc,vc=.slice sa n sc:=(by obtain ⟨h1,_⟩:=hf.now;obtain ⟨a,c,h,_⟩:=h1;refine ⟨a,c,?_⟩;rw [h,List.length_zipWith,hvl,Nat.min_self,HN.out]);replace hL:=hL.callF hb hf;clear hb hf)|(with_reducible (clear hL n1;intro b1 w1 hL))|((with_reducible refine goJ rfl ?_);refine goW ?_))
 go_loopw [10] (fun s10 wr=>∃ k:Nat,k≤n∧s10=.int .i64 k∧(∀ i,i<k→covL (shapesC ⟨wd,cap,join⟩ (cts.getD i default)) x y=false)∧Holds w wr [blk b1 #[.int .i64 wd,.int .i64 cap,.int .i64 join] 24] [fun w=>CtsAt w (.slice sa n sc) vs cts])
  (fun s10 wr=>n-(intOf s10).toNat)
 case atStart=>exact ⟨0,by omega,rfl,fun i hi=>absurd hi (by omega),hL⟩
 case round =>
  clear hL
  obtain ⟨k,hk,rfl,hall,hL⟩:=hrel
  by_cases hkt:k<n
  ·have hk2:k<cts.length:=by rw [HN.out];exact hkt
   have hget:∃ bx ox u,sa=some ⟨bx,ox,none⟩∧vs[k]?=some u∧wr.rangeAt bx (ox+k*4) (ctC u (cts.getD k default)):=by
    obtain ⟨⟨a',c',he,_,_,h5⟩,_⟩:=hL.fact0
    injection he with he _ _
    subst he
    have hzl:(List.zipWith ctC vs cts).length=cts.length:=by rw [List.length_zipWith,hvl,Nat.min_self]
    obtain ⟨bx,ox,e,hr⟩:=h5 k (by omega)
    obtain ⟨u,hu,hz⟩:=zip_get vs cts hvl k hk2
    rw [hz (by omega)] at hr
    exact ⟨bx,ox,u,e,hu,hr⟩
   obtain ⟨bx,ox,u,rfl,hu,hc⟩:=hget
   have hkb:(k:Int)<(n:Int):=by omega
   have hk0:(0:Int)≤(k:Int):=by omega
   have hcl:=HW.out (cts.getD k default) (by rw [show cts.getD k default=cts[k] by simp [hk2]];exact List.getElem_mem hk2)
   have hcg:=HG.out (cts.getD k default) (by rw [show cts.getD k default=cts[k] by simp [hk2]];exact List.getElem_mem hk2)
   replace hL:=(hL.dup).map (χ:=fun w=>EdgesAt w u (cts.getD k default).edges) fun w h=>h.2 k u hu
   have HYk:=Lib.hid (HYes.out k hkt)
   have HST:=Lib.hid (show covL (shapesC ⟨wd,cap,join⟩ (cts.getD k default)) x y=false→∀ i,i<k+1→covL (shapesC ⟨wd,cap,join⟩ (cts.getD i default)) x y=false from fun h i hi=>by
    rcases (by omega:i<k∨i=k) with h2|rfl
    ·exact hall i h2
    ·exact h)
   clear hall hu hk2
   have hco:=fun w' (h:EdgesAt w' u (cts.getD k default).edges)=>rCoversL_calls w' u (cts.getD k default) h hcl hcg ⟨wd,cap,join⟩ Hmy.out x y hx9 hy9
   clear hcl hcg
   generalize covL (shapesC ⟨wd,cap,join⟩ (cts.getD k default)) x y=cv at *
   generalize cts.getD k default=c at *
   obtain ⟨cx,cy,ces,sh⟩:=c
   unfold ctC at hc
   dsimp only at hc hL hco
   have HCo:=Lib.hid hco
   clear hco
   obtain ⟨ea,ec,rfl,_⟩:=EdgesAt.parts hL.fact0
   generalize ces.length=em at *
   have Hc:=Lib.hid hc
   have Ks:=Lib.hid (hL.range .here)
   clear hc
   go_wp2_with (first|(with_reducible first|(clear hL n1;intro b1 w1 hL)|(clear hL;intro _ _ hL))|((with_reducible refine goJ rfl ?_);refine goW ?_))
   refine wpH_laterN (by kernel_rfl) fun hS=>?_
   replace hL:=hL.drew
   refine dsH 0 (.slice (some ⟨bx,ox,none⟩) n sc) hS ?_
   refine dsH 1 (.int .i64 (k:Int)) hS ?_
   refine dsH 2 (.pointer (some ⟨bx,ox+k*4,none⟩)) hS ?_
   refine drH 3 (.agg #[.int .i64 cx,.int .i64 cy,.slice ea em ec,.bool sh]) hS ?_ ?_;(· exact fun w' hw=>(load_rangeO (cs:=#[.int .i64 cx,.int .i64 cy,.slice ea em ec,.bool sh]) rfl (rangeAt_below Hc.out hw)))
   refine drH 4 (.agg #[.int .i64 wd,.int .i64 cap,.int .i64 join]) hS ?_ ?_;(· exact fun w' hw=>(load_range (cs:=#[.int .i64 wd,.int .i64 cap,.int .i64 join]) rfl (rangeAt_below Ks.out hw)))
   refine dsH 5 (.int .i64 x) hS ?_
   refine dsH 6 (.int .i64 y) hS ?_
   refine wpH_one (i:=7) (by kernel_rfl) (wpOf ?_)
   refine st_call rfl 135 #[.agg #[.int .i64 cx,.int .i64 cy,.slice ea em ec,.bool sh],.agg #[.int .i64 wd,.int .i64 cap,.int .i64 join],.int .i64 x,.int .i64 y] (by go_simp) (HCo.out _ hL.fact0) ?_
   rintro e _ ⟨rfl,hb⟩
   replace hL:=hL.call hb
   replace hS:=hS.trans (hb.mono hS.size)
   clear hb
   refine ⟨_,rfl,hS,?_⟩
   simp only [Act.put,setP]
   refine wpAnyH_done (by kernel_rfl) ?_ _
   clear hS
   cases cv
   ·have HN2:=Lib.hid (HST.out rfl)
    go_wp2_with (first|(with_reducible first|(clear hL n1;intro b1 w1 hL)|(clear hL;intro _ _ hL))|((with_reducible refine goJ rfl ?_);refine goW ?_))
    go_roundw
    case rel=>exact ⟨k+1,by omega,by go_num,HN2.out,hL.forget⟩
    case measure=>simp [intOf];omega
   ·have HT:=Lib.hid (HYk.out rfl)
    go_wp2_with (first|(with_reducible first|(clear hL n1;intro b1 w1 hL)|(clear hL;intro _ _ hL))|((with_reducible refine goJ rfl ?_);refine goW ?_))
    go_ret
    exact ⟨ret_bool HT.out.symm,hL.below⟩
  ·have e:n=k:=by omega
   subst e
   have HF:=Lib.hid (HNo.out hall)
   clear hall
   go_wp2_with (first|(with_reducible first|(clear hL n1;intro b1 w1 hL)|(clear hL;intro _ _ hL))|((with_reducible refine goJ rfl ?_);refine goW ?_))
   go_ret
   exact ⟨ret_bool HF.out.symm,hL.below⟩
open Go.RowKit
def upR (p:Nat→Nat→Bool) (j k r c:Nat):Bool:=(decide (r<j) || (decide (r=j)&&decide (c<k)))&&p r c
theorem upR_zero {W n:Nat} (p:Nat→Nat→Bool):arrU n (fun _=>0)=arrU n (maskF W (upR p 0 0)):=arrU_congr fun x _=>by simp [maskF,upR,bit]
theorem upR_at {W j k x:Nat} (hk:k<W) (h:x=W*j+k):x / W=j∧x%W=k:=by
 subst h
 exact ⟨by rw [Nat.mul_add_div (by omega),Nat.div_eq_of_lt hk,Nat.add_zero],by rw [Nat.mul_add_mod,Nat.mod_eq_of_lt hk]⟩
theorem upR_off {W j k x:Nat} (h:¬x=W*j+k):¬(x / W=j∧x%W=k):=fun ⟨h1,h2⟩=>h (by
 have:=Nat.div_add_mod x W
 rw [h1,h2] at this;exact this.symm)
theorem upR_next (p:Nat→Nat→Bool) {j k r c:Nat} (h:¬(r=j∧c=k)):upR p j (k+1) r c=upR p j k r c:=by
 unfold upR
 by_cases hr:r=j
 ·have:c<k+1 ↔ c<k:=by
   have:¬c=k:=fun e=>h ⟨hr,e⟩
   omega
  simp [this]
 ·simp [hr]
theorem upR_set {W n j k:Nat} (p:Nat→Nat→Bool) (hk:k<W) (h:p j k=true):arrU n (fun x=>if x=W*j+k then 1 else maskF W (upR p j k) x)=arrU n (maskF W (upR p j (k+1))):=by
 refine arrU_congr fun x _=>?_
 unfold maskF
 by_cases hx:x=W*j+k
 ·obtain ⟨h1,h2⟩:=upR_at hk hx
  rw [if_pos hx,h1,h2]
  simp [upR,h,bit]
 ·rw [if_neg hx,upR_next p (upR_off hx)]
theorem upR_skip {W n j k:Nat} (p:Nat→Nat→Bool) (h:p j k=false):arrU n (maskF W (upR p j k))=arrU n (maskF W (upR p j (k+1))):=by
 refine arrU_congr fun x _=>?_
 unfold maskF
 by_cases hx:x / W=j∧x%W=k
 ·rw [hx.1,hx.2]
  simp [upR,h]
 ·rw [upR_next p hx]
theorem upR_row {W n j:Nat} (hW:0<W) (p:Nat→Nat→Bool):arrU n (maskF W (upR p j W))=arrU n (maskF W (upR p (j+1) 0)):=by
 refine arrU_congr fun x _=>?_
 unfold maskF upR
 have hm:=Nat.mod_lt x hW
 have e:(decide (x / W<j) || (decide (x / W=j)&&decide (x%W<W)))=(decide (x / W<j+1) || (decide (x / W=j+1)&&decide (x%W<0))):=by
  rw [decide_eq_true hm]
  generalize x / W=r
  rcases Nat.lt_trichotomy r j with h|h|h
  ·rw [decide_eq_true h,decide_eq_true (show r<j+1 by omega)];rfl
  ·rw [decide_eq_true h,decide_eq_true (show r<j+1 by omega)];simp
  ·rw [decide_eq_false (show ¬r<j by omega),decide_eq_false (show ¬r=j by omega),decide_eq_false (show ¬r<j+1 by omega)];simp
 rw [e]
theorem upR_all {W H:Nat} (p:Nat→Nat→Bool):(List.range (W*H)).map (maskF W (upR p H 0))=(pixMask W H p).B:=by
 unfold pixMask
 refine List.map_congr_left fun x hx=>?_
 have hx:x<W*H:=by simpa using hx
 have hd:x / W<H:=Nat.div_lt_of_lt_mul hx
 simp [maskF,upR,bit,hd]
def strokeQ (l:List Sg) (s:Sty) (j i:Nat):Bool:=inS l s (16*(i:Int)+8) (16*(j:Int)+8)
set_option maxRecDepth 100000 in
set_option maxHeartbeats 8000000 in
theorem rMask33_calls {W H:Nat} (hs:Sides W H) (w:World) (v:Value) (l:List Sg) (hv:SegsAt w v l) (hst:straightS l=true) (s:Sty) (hm:mayY s=true) :
  Calls Tryz.prog 77 #[v,.agg #[.int .i64 s.wide,.int .i64 s.cap,.int .i64 s.join],.int .i64 W,.int .i64 H] w (MaskOut W H (strokeQ l s) w):=by
 have Hv:=Lib.hid hv
 obtain ⟨a,cap0,rfl,_⟩:=hv.parts
 clear hv
 obtain ⟨m1,m2,m3⟩:=mask_bounds hs
 have hw0:=hs.w0;have hw1:=hs.w1;have hh0:=hs.h0;have hh1:=hs.h1
 have HPl:=Lib.hid (fun w' (hb:Below w.heap.size w w')=>rStr33_calls w' (.slice a l.length cap0) l (SliceAt.below Hv.out hb))
 have HMy:=Lib.hid (fun w=>rMayY_calls s w)
 rw [hst] at HPl
 rw [hm] at HMy
 have HSw:=Lib.hid (fun w=>refSide_calls (W:Int) w)
 have HSh:=Lib.hid (fun w=>refSide_calls (H:Int) w)
 rw [side_nat hs.w0 hs.w1] at HSw
 rw [side_nat hs.h0 hs.h1] at HSh
 have hi:∀ w' (j i:Nat),Below w.heap.size w w'→Calls Tryz.prog 118 #[.slice a l.length cap0,.agg #[.int .i64 s.wide,.int .i64 s.cap,.int .i64 s.join],.int .i64 (16*(i:Int)+8),.int .i64 (16*(j:Int)+8)] w' fun r w''=>r=.returned (.bool (strokeQ l s j i))∧Below w'.heap.size w' w'':=fun w' j i hb=>rIn33_calls w' _ l (SliceAt.below Hv.out hb) s _ _
 generalize strokeQ l s=p at *
 obtain ⟨wd,cap,join⟩:=s
 dsimp only at *
 have HI:=Lib.hid hi
 clear hi hst hm
 have hL:=Holds.start w
 have hwr:IntKind.i64.wrap ((W:Int)*(H:Int))=(W:Int)*(H:Int):=by rw [IntKind.wrap_i64];omega
 obtain ⟨n1,n2,n3,n4⟩:=tok4
 go_enter Tryz.func77,Tryz.ntmps77
 go_wp2_with (first|(go_at_call 54;(with_reducible refine (HPl.out _ hL.below).mono ?_);rintro e _ ⟨rfl,hb⟩;replace hL:=hL.call hb;clear hb)|(go_at_call 55;(with_reducible refine (HMy.out _).mono ?_);rintro e _ ⟨rfl,hb⟩;replace hL:=hL.call hb;clear hb)|(go_at_call 33;(with_reducible first|refine (HSw.out _).mono ?_|refine (HSh.out _).mono ?_);rintro e _ ⟨rfl,rfl⟩)|((with_reducible refine wpA_make rfl _ _ _ rfl _ rfl rfl ?_);refine makeU (W*H) (by omega) (by simp) hL ?_)|(with_reducible first|(clear hL n1;intro b1 w1 hL)|(clear hL n2;intro b2 w2 hL)|(clear hL n3;intro b3 w3 hL)|(clear hL n4;intro b4 w4 hL)|(clear hL;intro _ hL))|((with_reducible refine goJ rfl ?_);refine goW ?_))
 rw [upR_zero (W:=W) p] at hL
 go_loopw [11] (fun s11 wr=>∃ j:Nat,j≤H∧s11=.int .i64 j∧Holds w wr [blk b4 #[.int .i64 W,.int .i64 H,.slice (some ⟨b3,0,none⟩) (W*H) (W*H)] 86,blk b3 (arrU (W*H) (maskF W (upR p j 0))) 5,blk b2 #[.int .i64 0,.int .i64 0,.slice none 0 0] 86,blk b1 #[.int .i64 wd,.int .i64 cap,.int .i64 join] 24] [])
  (fun s11 wr=>H-(intOf s11).toNat)
 case atStart=>exact ⟨0,by omega,rfl,hL⟩
 case round =>
  clear hL
  obtain ⟨j,hj,rfl,hL⟩:=hrel
  by_cases hjt:j<H
  ·have hjb:(j:Int)<(H:Int):=by omega
   have hfit:j*W+W≤W*H:=by
    have:=Nat.mul_le_mul_right W (show j+1≤H by omega)
    rw [Nat.add_mul,Nat.mul_comm H W] at this
    omega
   have hjw:(W:Int)*(j:Int)=((W*j:Nat):Int):=by simp
   have hjc:W*j=j*W:=Nat.mul_comm _ _
   have hwj:IntKind.i64.wrap ((W:Int)*(j:Int))=(W:Int)*(j:Int):=by rw [IntKind.wrap_i64];omega
   go_wp2_with (first|(with_reducible (clear hL;intro _ hL))|((with_reducible refine goJ rfl ?_);refine goW ?_))
   go_loopw [12] (fun s12 wq=>∃ k:Nat,k≤W∧s12=.int .i64 k∧Holds w wq [blk b4 #[.int .i64 W,.int .i64 H,.slice (some ⟨b3,0,none⟩) (W*H) (W*H)] 86,blk b3 (arrU (W*H) (maskF W (upR p j k))) 5,blk b2 #[.int .i64 0,.int .i64 0,.slice none 0 0] 86,blk b1 #[.int .i64 wd,.int .i64 cap,.int .i64 join] 24] [])
    (fun s12 wq=>W-(intOf s12).toNat)
   case atStart=>exact ⟨0,by omega,rfl,hL⟩
   case round =>
    clear hL
    obtain ⟨k,hk,rfl,hL⟩:=hrel
    by_cases hkt:k<W
    ·have hkb:(k:Int)<(W:Int):=by omega
     have hix:((W:Int)*(j:Int)+(k:Int)).toNat=W*j+k:=by omega
     have hi0:0≤(W:Int)*(j:Int)+(k:Int):=by omega
     have hi1:(W:Int)*(j:Int)+(k:Int)<(W:Int)*(H:Int):=by omega
     have hi2:W*j+k<W*H:=by omega
     have hwk:IntKind.i64.wrap ((W:Int)*(j:Int)+(k:Int))=(W:Int)*(j:Int)+(k:Int):=by rw [IntKind.wrap_i64];omega
     have HJW:=Lib.hid hjw
     have HJC:=Lib.hid hjc
     clear hjw hjc
     cases hp:p j k with
     | true =>
      have Hp:=Lib.hid hp
      clear hp
      go_wp2_with (first|(go_at_call 118;(with_reducible refine (HI.out _ j k hL.below).mono ?_);rintro e _ ⟨rfl,hb⟩;rw [Hp.out];replace hL:=hL.call hb;clear hb)|(with_reducible (clear hL;intro _ hL))|((with_reducible refine goJ rfl ?_);refine goW ?_))
      go_roundw
      case rel =>
       rw [upR_set p hkt Hp.out] at hL
       exact ⟨k+1,by omega,by go_num,hL⟩
      case measure=>simp [intOf];omega
     | false =>
      have Hp:=Lib.hid hp
      clear hp
      go_wp2_with (first|(go_at_call 118;(with_reducible refine (HI.out _ j k hL.below).mono ?_);rintro e _ ⟨rfl,hb⟩;rw [Hp.out];replace hL:=hL.call hb;clear hb)|(with_reducible (clear hL;intro _ hL))|((with_reducible refine goJ rfl ?_);refine goW ?_))
      go_roundw
      case rel =>
       rw [upR_skip p Hp.out] at hL
       exact ⟨k+1,by omega,by go_num,hL⟩
      case measure=>simp [intOf];omega
    ·have e:W=k:=by omega
     subst e
     go_wp2_with (first|(with_reducible (clear hL;intro _ hL))|((with_reducible refine goJ rfl ?_);refine goW ?_))
     go_roundw
     case rel =>
      rw [upR_row (by omega) p] at hL
      exact ⟨j+1,by omega,by go_num,hL⟩
     case measure=>simp [intOf];omega
  ·have e:H=j:=by omega
   subst e
   go_wp2_with (first|(with_reducible (clear hL;intro _ hL))|((with_reducible refine goJ rfl ?_);refine goW ?_))
   refine bodyPost_ret (results_row2 inferInstance rfl _ hL b2 rfl _ _ (.there (.there .here)) rfl) rfl ⟨some ⟨b3,0,none⟩,rfl,hL.below,?_⟩
   refine ((hL.settle (.there .here) (φ:=fun w=>w.heap[b3]?=some (.cells (arrU (W*H) (maskF W (upR p H 0))) 5 (0,0))) fun _ h=>h).map fun w' h1=>?_).fresh
   refine ⟨_,rfl,?_⟩
   have:=bytes_of h1 (by unfold maxLen;omega)
   rwa [upR_all] at this
end Go.Proofs.YtmnoeoecjfhhbaaGreat
