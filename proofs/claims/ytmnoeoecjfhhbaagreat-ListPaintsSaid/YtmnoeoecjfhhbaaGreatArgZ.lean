/- What marks, clips, lists of them that are handed in read as.  -/
import Derived.Test.YtmnoeoecjfhhbaaGreatArgM
import Derived.Test.YtmnoeoecjfhhbaaGreatIkZ
namespace Go.Proofs.YtmnoeoecjfhhbaaGreat
open Go.ChangeShapes Go.WideShapes Go.ChangeAt Go.RowKit Go.Deep
section
variable {H : Type} {enc : TypeId × Value → H} {W : World} {fuel : Nat} {v : Value} {x : DataW H × List MemPlace}
theorem five_of {cs:List Value} (h:cs.length=5):∃ a b c d e,cs=[a,b,c,d,e]:=by
 match cs,h with
 | [a,b,c,d,e],_=>exact ⟨a,b,c,d,e,rfl⟩
set_option maxRecDepth 100000 in
theorem seg_of_trod {cs:List Value} (hl:cs.length=5) (h:DataW.trod enc Tryz.prog W 0 (fun _=>true) true fuel 78 cs=some x):∃ e:Sg,cs=segC e:=by
 obtain ⟨c0,c1,c2,c3,c4,rfl⟩:=five_of hl
 obtain ⟨xs,n,_,_,_,hx,hall⟩:=DataW.trod_struct Tryz.underlying78 h
 have k1:Tryz.prog.cellsOf 3=1:=by kernel_rfl
 match xs,hx with
 | [x0,x1,x2,x3,x4],_ =>
  have h0:DataW.trod enc Tryz.prog W 0 (fun _=>true) true n 3 (([c0,c1,c2,c3,c4].drop 0).take (Tryz.prog.cellsOf 3))=some x0:=hall 0 _ rfl
  have h1:DataW.trod enc Tryz.prog W 0 (fun _=>true) true n 3 (([c0,c1,c2,c3,c4].drop 1).take (Tryz.prog.cellsOf 3))=some x1:=hall 1 _ rfl
  have h2:DataW.trod enc Tryz.prog W 0 (fun _=>true) true n 3 (([c0,c1,c2,c3,c4].drop 2).take (Tryz.prog.cellsOf 3))=some x2:=hall 2 _ rfl
  have h3:DataW.trod enc Tryz.prog W 0 (fun _=>true) true n 3 (([c0,c1,c2,c3,c4].drop 3).take (Tryz.prog.cellsOf 3))=some x3:=hall 3 _ rfl
  have h4:DataW.trod enc Tryz.prog W 0 (fun _=>true) true n 3 (([c0,c1,c2,c3,c4].drop 4).take (Tryz.prog.cellsOf 3))=some x4:=hall 4 _ rfl
  rw [k1] at h0 h1 h2 h3 h4
  obtain ⟨z0,rfl⟩:=trod_int_cell Tryz.underlying3 (c:=c0) h0
  obtain ⟨z1,rfl⟩:=trod_int_cell Tryz.underlying3 (c:=c1) h1
  obtain ⟨z2,rfl⟩:=trod_int_cell Tryz.underlying3 (c:=c2) h2
  obtain ⟨z3,rfl⟩:=trod_int_cell Tryz.underlying3 (c:=c3) h3
  obtain ⟨z4,rfl⟩:=trod_int_cell Tryz.underlying3 (c:=c4) h4
  exact ⟨⟨z0,z1,z2,z3,z4⟩,rfl⟩
set_option maxRecDepth 100000 in
theorem segs_of_trod (h:DataW.trod enc Tryz.prog W 0 (fun _=>true) true fuel 22 [v]=some x):∃ l,SegsAt W v l:=by
 have k2:Tryz.prog.cellsOf 78=5:=by kernel_rfl
 rcases open_slice Tryz.underlying22 h with ⟨hcs,_⟩|⟨a,len,cap,m,n,D,Pl,hcs,_,hl,hm,hmm,_,hel⟩
 ·cases hcs
  exact ⟨[],none,0,rfl,Nat.le_refl _,by unfold maxLen;omega,fun i hi=>by simp at hi⟩
 ·cases hcs
  simp only [if_true] at hmm
  rw [k2] at hel
  obtain ⟨r,hr⟩:=choose_lt (α:=Sg) (n:=len) (p:=fun i r=>∃ cs',W.cells? 0 (a.add (i*5)) 5=some cs'∧cs'=segC r) (fun i hi=>by
   obtain ⟨cs',h1,h2⟩:=hel i (by omega)
   obtain ⟨_,hlen,_⟩:=World.cells?_some h1
   obtain ⟨r,e⟩:=seg_of_trod hlen h2
   exact ⟨r,cs',h1,e⟩)
  refine ⟨(List.range len).map r,some a,cap,by simp,by simpa using hl,hm,fun i hi=>?_⟩
  simp only [List.length_map,List.length_range] at hi
  obtain ⟨cs',h1,h2⟩:=hr i hi
  obtain ⟨_,hlen,hc⟩:=World.cells?_some h1
  obtain ⟨b,off,spot⟩:=a
  subst h2
  obtain ⟨_,h3,rfl⟩:=hr 0 (by omega)
  have h00:W.cell? (((⟨b,off,spot⟩:Addr).add (0*5)).add 0)=some (.int .i64 (r 0).kind):=(World.cells?_some h3).2.2 0 (by omega)
  have hspot:spot=none:=by simpa [Addr.add] using World.cell?_spot h00
  subst hspot
  refine ⟨b,off,rfl,fun j u hj=>?_⟩
  simp only [List.getElem_map,List.getElem_range] at hj
  have:=(hc j (by have:=(List.getElem?_eq_some_iff.1 hj).1;simpa [segC] using this)).trans hj
  rw [Addr.add_mid,Addr.add_mid] at this
  exact this
end
open Go.ChangeShapes Go.WideShapes Go.ChangeAt Go.RowKit Go.Deep
section
variable {H : Type} {enc : TypeId × Value → H} {P : Program} {W : World} {fuel : Nat} {v : Value} {x : DataW H × List MemPlace}
theorem items_of_trod {t e:TypeId} {k:Nat} {α:Type} [Inhabited α] {R:α→List Value→Prop} (ht:P.underlying t=some (.slice e)) (hc:P.cellsOf e=k) (hk:0<k)
  (hR:∀ fuel cs (x:DataW H × List MemPlace),cs.length=k→DataW.trod enc P W 0 (fun _=>true) true fuel e cs=some x→∃ s,R s cs)
  (h:DataW.trod enc P W 0 (fun _=>true) true fuel t [v]=some x) :
  ∃ (l:List α) (a:Option Addr) (cap:Nat),v=.slice a l.length cap∧l.length≤cap∧cap≤maxLen∧∀ i,i<l.length→∃ b o cs,a=some ⟨b,o,none⟩∧R (l.getD i default) cs∧W.rangeAt b (o+i*k) cs:=by
 rcases open_slice ht h with ⟨hcs,_⟩|⟨a,len,cap,m,n,D,Pl,hcs,_,hl,hm,hmm,_,hel⟩
 ·cases hcs
  exact ⟨[],none,0,rfl,Nat.le_refl _,by unfold maxLen;omega,fun i hi=>by simp at hi⟩
 ·cases hcs
  simp only [if_true] at hmm
  rw [hc] at hel
  obtain ⟨r,hr⟩:=choose_lt (α:=α) (n:=len) (p:=fun i r=>∃ cs',W.cells? 0 (a.add (i*k)) k=some cs'∧R r cs') (fun i hi=>by
   obtain ⟨cs',h1,h2⟩:=hel i (by omega)
   obtain ⟨_,hlen,_⟩:=World.cells?_some h1
   obtain ⟨r,e⟩:=hR _ _ _ hlen h2
   exact ⟨r,cs',h1,e⟩)
  refine ⟨(List.range len).map r,some a,cap,by simp,by simpa using hl,hm,fun i hi=>?_⟩
  simp only [List.length_map,List.length_range] at hi
  obtain ⟨cs',h1,h2⟩:=hr i hi
  obtain ⟨_,hlen,hc⟩:=World.cells?_some h1
  obtain ⟨b,off,spot⟩:=a
  obtain ⟨cz,hz,_⟩:=hr 0 (by omega)
  obtain ⟨_,hlz,hcz⟩:=World.cells?_some hz
  obtain ⟨c0,hc0⟩:∃ c,cz[0]?=some c:=⟨cz[0]'(by omega),by simp⟩
  have h00:W.cell? (((⟨b,off,spot⟩:Addr).add (0*k)).add 0)=cz[0]?:=hcz 0 (by omega)
  rw [Nat.zero_mul] at h00
  rw [hc0] at h00
  have hspot:spot=none:=by simpa [Addr.add] using World.cell?_spot h00
  subst hspot
  refine ⟨b,off,cs',rfl,?_,fun j u hj=>?_⟩
  ·simpa [hi] using h2
  ·have:=(hc j (by have:=(List.getElem?_eq_some_iff.1 hj).1;omega)).trans hj
   rw [Addr.add_mid,Addr.add_mid] at this
   exact this
theorem trod_u8_cell {n:Nat} {T:TypeId} {c:Value} {y:DataW H × List MemPlace} {base:Nat} {sp:Nat→Bool} {held:Bool} (hT:P.underlying T=some (.int .u8)) (h:DataW.trod enc P W base sp held n T [c]=some y):∃ z:Int,c=.int .u8 z∧0≤z∧z≤255:=by
 obtain ⟨a,e0,_,hw⟩:=DataW.trod_int hT h
 have:0≤a∧a≤255:=by
  have h9:(decide (IntKind.u8.min≤a)&&decide (a≤IntKind.u8.max))=true:=hw
  rw [show IntKind.u8.min=0 from rfl,show IntKind.u8.max=255 from rfl,Bool.and_eq_true,decide_eq_true_iff,decide_eq_true_iff] at h9
  exact h9
 exact ⟨a,by simpa using e0,this.1,this.2⟩
theorem trod_string_cell {n:Nat} {T:TypeId} {c:Value} {y:DataW H × List MemPlace} {base:Nat} {sp:Nat→Bool} {held:Bool} (hT:P.underlying T=some .string) (h:DataW.trod enc P W base sp held n T [c]=some y):∃ s:ByteArray,c=.string s∧s.size≤maxLen:=by
 obtain ⟨a,e0,_,hw⟩:=DataW.trod_string hT h
 exact ⟨a,by simpa using e0,hw⟩
end
theorem ten21 {cs:List Value} (h:cs.length=21):∃ a0 a1 a2 a3 a4 a5 a6 a7 a8 a9 b0 b1 b2 b3 b4 b5 b6 b7 b8 b9 c0,cs=[a0,a1,a2,a3,a4,a5,a6,a7,a8,a9,b0,b1,b2,b3,b4,b5,b6,b7,b8,b9,c0]:=by
 match cs,h with
 | [a0,a1,a2,a3,a4,a5,a6,a7,a8,a9,b0,b1,b2,b3,b4,b5,b6,b7,b8,b9,c0],_=>exact ⟨_,_,_,_,_,_,_,_,_,_,_,_,_,_,_,_,_,_,_,_,_,rfl⟩
open Go.ChangeShapes Go.WideShapes Go.ChangeAt Go.RowKit Go.Deep
section
variable {H : Type} {enc : TypeId × Value → H} {W : World} {fuel : Nat} {x : DataW H × List MemPlace}
set_option maxRecDepth 100000 in
theorem styR {c0 c1 c2:Value} (h:DataW.trod enc Tryz.prog W 0 (fun _=>true) true fuel 24 [c0,c1,c2]=some x):∃ s:Sty,[c0,c1,c2]=(fun s=>[.int .i64 s.wide,.int .i64 s.cap,.int .i64 s.join]) s:=by
 obtain ⟨xs,n,_,_,_,hx,hall⟩:=DataW.trod_struct Tryz.underlying24 h
 have k_int:Tryz.prog.cellsOf 3=1:=by kernel_rfl
 match xs,hx with
 | [x0,x1,x2],_ =>
  have h0:DataW.trod enc Tryz.prog W 0 (fun _=>true) true n 3 (([c0,c1,c2].drop 0).take (Tryz.prog.cellsOf 3))=some x0:=hall 0 _ rfl
  have h1:DataW.trod enc Tryz.prog W 0 (fun _=>true) true n 3 (([c0,c1,c2].drop 1).take (Tryz.prog.cellsOf 3))=some x1:=hall 1 _ rfl
  have h2:DataW.trod enc Tryz.prog W 0 (fun _=>true) true n 3 (([c0,c1,c2].drop 2).take (Tryz.prog.cellsOf 3))=some x2:=hall 2 _ rfl
  rw [k_int] at h0
  rw [k_int] at h1
  rw [k_int] at h2
  obtain ⟨z0,rfl⟩:=trod_int_cell Tryz.underlying3 (c:=c0) h0
  obtain ⟨z1,rfl⟩:=trod_int_cell Tryz.underlying3 (c:=c1) h1
  obtain ⟨z2,rfl⟩:=trod_int_cell Tryz.underlying3 (c:=c2) h2
  exact ⟨⟨z0,z1,z2⟩,rfl⟩
set_option maxRecDepth 100000 in
theorem imgR {c0 c1 c2 c3:Value} (h:DataW.trod enc Tryz.prog W 0 (fun _=>true) true fuel 26 [c0,c1,c2,c3]=some x):∃ s:Img,[c0,c1,c2,c3]=imgC s∧s.data.size≤maxLen:=by
 obtain ⟨xs,n,_,_,_,hx,hall⟩:=DataW.trod_struct Tryz.underlying26 h
 have k_int:Tryz.prog.cellsOf 3=1:=by kernel_rfl
 have k_string:Tryz.prog.cellsOf 9=1:=by kernel_rfl
 match xs,hx with
 | [x0,x1,x2,x3],_ =>
  have h0:DataW.trod enc Tryz.prog W 0 (fun _=>true) true n 3 (([c0,c1,c2,c3].drop 0).take (Tryz.prog.cellsOf 3))=some x0:=hall 0 _ rfl
  have h1:DataW.trod enc Tryz.prog W 0 (fun _=>true) true n 3 (([c0,c1,c2,c3].drop 1).take (Tryz.prog.cellsOf 3))=some x1:=hall 1 _ rfl
  have h2:DataW.trod enc Tryz.prog W 0 (fun _=>true) true n 3 (([c0,c1,c2,c3].drop 2).take (Tryz.prog.cellsOf 3))=some x2:=hall 2 _ rfl
  have h3:DataW.trod enc Tryz.prog W 0 (fun _=>true) true n 9 (([c0,c1,c2,c3].drop 3).take (Tryz.prog.cellsOf 9))=some x3:=hall 3 _ rfl
  rw [k_int] at h0
  rw [k_int] at h1
  rw [k_int] at h2
  rw [k_string] at h3
  obtain ⟨z0,rfl⟩:=trod_int_cell Tryz.underlying3 (c:=c0) h0
  obtain ⟨z1,rfl⟩:=trod_int_cell Tryz.underlying3 (c:=c1) h1
  obtain ⟨z2,rfl⟩:=trod_int_cell Tryz.underlying3 (c:=c2) h2
  obtain ⟨z3,rfl,l3⟩:=trod_string_cell Tryz.underlying9 (c:=c3) h3
  exact ⟨⟨z0,z1,z2,z3⟩,rfl,l3⟩
set_option maxRecDepth 100000 in
theorem mtxR {c0 c1 c2 c3 c4 c5:Value} (h:DataW.trod enc Tryz.prog W 0 (fun _=>true) true fuel 28 [c0,c1,c2,c3,c4,c5]=some x):∃ s:Mtx,[c0,c1,c2,c3,c4,c5]=mtxC s:=by
 obtain ⟨xs,n,_,_,_,hx,hall⟩:=DataW.trod_struct Tryz.underlying28 h
 have k_int:Tryz.prog.cellsOf 3=1:=by kernel_rfl
 match xs,hx with
 | [x0,x1,x2,x3,x4,x5],_ =>
  have h0:DataW.trod enc Tryz.prog W 0 (fun _=>true) true n 3 (([c0,c1,c2,c3,c4,c5].drop 0).take (Tryz.prog.cellsOf 3))=some x0:=hall 0 _ rfl
  have h1:DataW.trod enc Tryz.prog W 0 (fun _=>true) true n 3 (([c0,c1,c2,c3,c4,c5].drop 1).take (Tryz.prog.cellsOf 3))=some x1:=hall 1 _ rfl
  have h2:DataW.trod enc Tryz.prog W 0 (fun _=>true) true n 3 (([c0,c1,c2,c3,c4,c5].drop 2).take (Tryz.prog.cellsOf 3))=some x2:=hall 2 _ rfl
  have h3:DataW.trod enc Tryz.prog W 0 (fun _=>true) true n 3 (([c0,c1,c2,c3,c4,c5].drop 3).take (Tryz.prog.cellsOf 3))=some x3:=hall 3 _ rfl
  have h4:DataW.trod enc Tryz.prog W 0 (fun _=>true) true n 3 (([c0,c1,c2,c3,c4,c5].drop 4).take (Tryz.prog.cellsOf 3))=some x4:=hall 4 _ rfl
  have h5:DataW.trod enc Tryz.prog W 0 (fun _=>true) true n 3 (([c0,c1,c2,c3,c4,c5].drop 5).take (Tryz.prog.cellsOf 3))=some x5:=hall 5 _ rfl
  rw [k_int] at h0
  rw [k_int] at h1
  rw [k_int] at h2
  rw [k_int] at h3
  rw [k_int] at h4
  rw [k_int] at h5
  obtain ⟨z0,rfl⟩:=trod_int_cell Tryz.underlying3 (c:=c0) h0
  obtain ⟨z1,rfl⟩:=trod_int_cell Tryz.underlying3 (c:=c1) h1
  obtain ⟨z2,rfl⟩:=trod_int_cell Tryz.underlying3 (c:=c2) h2
  obtain ⟨z3,rfl⟩:=trod_int_cell Tryz.underlying3 (c:=c3) h3
  obtain ⟨z4,rfl⟩:=trod_int_cell Tryz.underlying3 (c:=c4) h4
  obtain ⟨z5,rfl⟩:=trod_int_cell Tryz.underlying3 (c:=c5) h5
  exact ⟨⟨z0,z1,z2,z3,z4,z5⟩,rfl⟩
set_option maxRecDepth 100000 in
theorem inkR {c0 c1 c2 c3:Value} (h:DataW.trod enc Tryz.prog W 0 (fun _=>true) true fuel 30 [c0,c1,c2,c3]=some x):∃ s:Ink,[c0,c1,c2,c3]=inkC s∧InkOk s:=by
 obtain ⟨xs,n,_,_,_,hx,hall⟩:=DataW.trod_struct Tryz.underlying30 h
 have k_uint8:Tryz.prog.cellsOf 5=1:=by kernel_rfl
 match xs,hx with
 | [x0,x1,x2,x3],_ =>
  have h0:DataW.trod enc Tryz.prog W 0 (fun _=>true) true n 5 (([c0,c1,c2,c3].drop 0).take (Tryz.prog.cellsOf 5))=some x0:=hall 0 _ rfl
  have h1:DataW.trod enc Tryz.prog W 0 (fun _=>true) true n 5 (([c0,c1,c2,c3].drop 1).take (Tryz.prog.cellsOf 5))=some x1:=hall 1 _ rfl
  have h2:DataW.trod enc Tryz.prog W 0 (fun _=>true) true n 5 (([c0,c1,c2,c3].drop 2).take (Tryz.prog.cellsOf 5))=some x2:=hall 2 _ rfl
  have h3:DataW.trod enc Tryz.prog W 0 (fun _=>true) true n 5 (([c0,c1,c2,c3].drop 3).take (Tryz.prog.cellsOf 5))=some x3:=hall 3 _ rfl
  rw [k_uint8] at h0
  rw [k_uint8] at h1
  rw [k_uint8] at h2
  rw [k_uint8] at h3
  obtain ⟨z0,rfl,l0,u0⟩:=trod_u8_cell Tryz.underlying5 (c:=c0) h0
  obtain ⟨z1,rfl,l1,u1⟩:=trod_u8_cell Tryz.underlying5 (c:=c1) h1
  obtain ⟨z2,rfl,l2,u2⟩:=trod_u8_cell Tryz.underlying5 (c:=c2) h2
  obtain ⟨z3,rfl,l3,u3⟩:=trod_u8_cell Tryz.underlying5 (c:=c3) h3
  exact ⟨⟨z0,z1,z2,z3⟩,rfl,⟨⟨l0,u0⟩,⟨l1,u1⟩,⟨l2,u2⟩,l3,u3⟩⟩
set_option maxRecDepth 100000 in
theorem clpR {c0 c1:Value} (h:DataW.trod enc Tryz.prog W 0 (fun _=>true) true fuel 71 [c0,c1]=some x):∃ s:Clp,[c0,c1]=clpC c0 s∧SegsAt W c0 s.path:=by
 obtain ⟨xs,n,_,_,_,hx,hall⟩:=DataW.trod_struct Tryz.underlying71 h
 have k1:Tryz.prog.cellsOf 3=1:=by kernel_rfl
 have k2:Tryz.prog.cellsOf 22=1:=by kernel_rfl
 match xs,hx with
 | [x0,x1],_ =>
  have h0:DataW.trod enc Tryz.prog W 0 (fun _=>true) true n 22 (([c0,c1].drop 0).take (Tryz.prog.cellsOf 22))=some x0:=hall 0 _ rfl
  have h1:DataW.trod enc Tryz.prog W 0 (fun _=>true) true n 3 (([c0,c1].drop 1).take (Tryz.prog.cellsOf 3))=some x1:=hall 1 _ rfl
  rw [k2] at h0
  rw [k1] at h1
  obtain ⟨l,hl⟩:=segs_of_trod (v:=c0) h0
  obtain ⟨z,rfl⟩:=trod_int_cell Tryz.underlying3 (c:=c1) h1
  exact ⟨⟨l,z⟩,rfl,hl⟩
theorem clpsR {v:Value} (h:DataW.trod enc Tryz.prog W 0 (fun _=>true) true fuel 31 [v]=some x):∃ l,ClpsAt W v l:=by
 obtain ⟨l,a,cap,h1,h2,h3,h4⟩:=items_of_trod (α:=Clp) (R:=fun c cs=>∃ u,cs=clpC u c∧SegsAt W u c.path) (k:=2) Tryz.underlying31 (by kernel_rfl) (by decide) (fun fuel cs x hl h=>by
  match cs,hl with
  | [c0,c1],_ =>
   obtain ⟨s,e,hs⟩:=clpR h
   exact ⟨s,c0,e,hs⟩) h
 refine ⟨l,a,cap,h1,h2,h3,fun i hi=>?_⟩
 obtain ⟨b,o,cs,e,⟨u,rfl,hs⟩,hr⟩:=h4 i hi
 exact ⟨b,o,e,u,hr,hs⟩
set_option maxRecDepth 100000 in
theorem itmR {cs:List Value} (hl:cs.length=21) (h:DataW.trod enc Tryz.prog W 0 (fun _=>true) true fuel 33 cs=some x):∃ (i:Itm) (vp vc:Value),cs=itmC vp vc i∧SegsAt W vp i.path∧ClpsAt W vc i.clips∧ItmOk i:=by
 obtain ⟨a0,a1,a2,a3,a4,a5,a6,a7,a8,a9,b0,b1,b2,b3,b4,b5,b6,b7,b8,b9,c0,rfl⟩:=ten21 hl
 obtain ⟨xs,n,_,_,_,hx,hall⟩:=DataW.trod_struct Tryz.underlying33 h
 have k1:Tryz.prog.cellsOf 3=1:=by kernel_rfl
 have k2:Tryz.prog.cellsOf 22=1:=by kernel_rfl
 have k3:Tryz.prog.cellsOf 24=3:=by kernel_rfl
 have k4:Tryz.prog.cellsOf 26=4:=by kernel_rfl
 have k5:Tryz.prog.cellsOf 28=6:=by kernel_rfl
 have k6:Tryz.prog.cellsOf 30=4:=by kernel_rfl
 have k7:Tryz.prog.cellsOf 31=1:=by kernel_rfl
 match xs,hx with
 | [x0,x1,x2,x3,x4,x5,x6,x7],_ =>
  have h0:DataW.trod enc Tryz.prog W 0 (fun _=>true) true n 3 (([a0,a1,a2,a3,a4,a5,a6,a7,a8,a9,b0,b1,b2,b3,b4,b5,b6,b7,b8,b9,c0].drop 0).take (Tryz.prog.cellsOf 3))=some x0:=hall 0 _ rfl
  have h1:DataW.trod enc Tryz.prog W 0 (fun _=>true) true n 22 (([a0,a1,a2,a3,a4,a5,a6,a7,a8,a9,b0,b1,b2,b3,b4,b5,b6,b7,b8,b9,c0].drop 1).take (Tryz.prog.cellsOf 22))=some x1:=hall 1 _ rfl
  have h2:DataW.trod enc Tryz.prog W 0 (fun _=>true) true n 3 (([a0,a1,a2,a3,a4,a5,a6,a7,a8,a9,b0,b1,b2,b3,b4,b5,b6,b7,b8,b9,c0].drop 2).take (Tryz.prog.cellsOf 3))=some x2:=hall 2 _ rfl
  have h3:DataW.trod enc Tryz.prog W 0 (fun _=>true) true n 24 (([a0,a1,a2,a3,a4,a5,a6,a7,a8,a9,b0,b1,b2,b3,b4,b5,b6,b7,b8,b9,c0].drop 3).take (Tryz.prog.cellsOf 24))=some x3:=hall 3 _ rfl
  have h4:DataW.trod enc Tryz.prog W 0 (fun _=>true) true n 26 (([a0,a1,a2,a3,a4,a5,a6,a7,a8,a9,b0,b1,b2,b3,b4,b5,b6,b7,b8,b9,c0].drop 6).take (Tryz.prog.cellsOf 26))=some x4:=hall 4 _ rfl
  have h5:DataW.trod enc Tryz.prog W 0 (fun _=>true) true n 28 (([a0,a1,a2,a3,a4,a5,a6,a7,a8,a9,b0,b1,b2,b3,b4,b5,b6,b7,b8,b9,c0].drop 10).take (Tryz.prog.cellsOf 28))=some x5:=hall 5 _ rfl
  have h6:DataW.trod enc Tryz.prog W 0 (fun _=>true) true n 30 (([a0,a1,a2,a3,a4,a5,a6,a7,a8,a9,b0,b1,b2,b3,b4,b5,b6,b7,b8,b9,c0].drop 16).take (Tryz.prog.cellsOf 30))=some x6:=hall 6 _ rfl
  have h7:DataW.trod enc Tryz.prog W 0 (fun _=>true) true n 31 (([a0,a1,a2,a3,a4,a5,a6,a7,a8,a9,b0,b1,b2,b3,b4,b5,b6,b7,b8,b9,c0].drop 20).take (Tryz.prog.cellsOf 31))=some x7:=hall 7 _ rfl
  rw [k1] at h0
  rw [k2] at h1
  rw [k1] at h2
  rw [k3] at h3
  rw [k4] at h4
  rw [k5] at h5
  rw [k6] at h6
  rw [k7] at h7
  obtain ⟨z0,rfl⟩:=trod_int_cell Tryz.underlying3 (c:=a0) h0
  obtain ⟨l,hl1⟩:=segs_of_trod (v:=a1) h1
  obtain ⟨z2,rfl⟩:=trod_int_cell Tryz.underlying3 (c:=a2) h2
  obtain ⟨s,e3⟩:=styR (c0:=a3) (c1:=a4) (c2:=a5) h3
  obtain ⟨g,e4,o4⟩:=imgR (c0:=a6) (c1:=a7) (c2:=a8) (c3:=a9) h4
  obtain ⟨m,e5⟩:=mtxR (c0:=b0) (c1:=b1) (c2:=b2) (c3:=b3) (c4:=b4) (c5:=b5) h5
  obtain ⟨k,e6,o6⟩:=inkR (c0:=b6) (c1:=b7) (c2:=b8) (c3:=b9) h6
  obtain ⟨c,hc⟩:=clpsR (v:=c0) h7
  dsimp only at e3
  unfold imgC at e4
  unfold mtxC at e5
  unfold inkC at e6
  simp only [List.cons.injEq,and_true] at e3 e4 e5 e6
  obtain ⟨rfl,rfl,rfl⟩:=e3
  obtain ⟨rfl,rfl,rfl,rfl⟩:=e4
  obtain ⟨rfl,rfl,rfl,rfl,rfl,rfl⟩:=e5
  obtain ⟨rfl,rfl,rfl,rfl⟩:=e6
  exact ⟨⟨z0,l,z2,s,g,m,k,c⟩,a1,c0,rfl,hl1,hc,o4,o6⟩
theorem itmsR {v:Value} (h:DataW.trod enc Tryz.prog W 0 (fun _=>true) true fuel 36 [v]=some x):∃ l,ItmsAt W v l:=by
 obtain ⟨l,a,cap,h1,h2,h3,h4⟩:=items_of_trod (α:=Itm) (R:=fun i cs=>∃ vp vc,cs=itmC vp vc i∧SegsAt W vp i.path∧ClpsAt W vc i.clips∧ItmOk i) (k:=21) Tryz.underlying36 (by kernel_rfl) (by decide) (fun fuel cs x hl h=>itmR hl h) h
 refine ⟨l,a,cap,h1,h2,h3,fun i hi=>?_⟩
 obtain ⟨b,o,cs,e,⟨vp,vc,rfl,hs,hc,ho⟩,hr⟩:=h4 i hi
 exact ⟨b,o,e,vp,vc,hr,hs,hc,ho⟩
end
section
variable {H : Type} {enc : TypeId × Value → H} {W : World} {base : Nat} {v : Value} {d : DataW H} {p : List MemPlace}
set_option maxRecDepth 100000 in
theorem itms_of (hk:Value.okWide Tryz.prog W .any base 36 v) (h:DataW.Trod enc Tryz.prog W 0 (fun _=>true) true 36 v d p):∃ l,ItmsAt W v l:=by
 obtain ⟨a,len,cap,rfl⟩:=okWide_slice Tryz.underlying36 hk
 obtain ⟨fuel,hf⟩:=h
 exact itmsR (v:=.slice a len cap) hf
end
end Go.Proofs.YtmnoeoecjfhhbaaGreat
