/- Package hem: pieces; package stroke: pieces. -/
import Derived.Test.YtmnoeoecjfhhbaaGreatBoxM
import Derived.Test.YtmnoeoecjfhhbaaGreatBxPM
namespace Go.Proofs.YtmnoeoecjfhhbaaGreat
open Go.RowKit
structure Sty where
 wide:Int
 cap:Int
 join:Int
def mayY (s:Sty):Bool:=decide (0≤s.wide)&&(decide (s.wide≤2048)&&(decide (0≤s.cap)&&(decide (s.cap≤2)&&(decide (0≤s.join)&&decide (s.join≤1)))))
structure Shp where
 e:Edg
 wide:Int
 first:Bool
 last:Bool
 kind:Nat
instance : Inhabited Shp := ⟨⟨default, 0, false, false, 0⟩⟩
def goes (e:Edg):Bool:=decide (e.x0≠e.x1) || decide (e.y0≠e.y1)
def posE:Int→Int→List Edg→Int × Int
 | x,y,[]=>(x,y)
 | _,_,e::r=>posE e.x1 e.y1 r
theorem posE_snoc:∀ (l:List Edg) (x y:Int) (e:Edg),posE x y (l++[e])=(e.x1,e.y1)
 | [],_,_,_=>rfl
 | f::r,_,_,e=>by rw [List.cons_append];exact posE_snoc r _ _ e
def shutE (c:Ct):List Edg:=if c.shut∧((posE c.x c.y c.edges).1≠c.x∨(posE c.x c.y c.edges).2≠c.y) then [⟨(posE c.x c.y c.edges).1,(posE c.x c.y c.edges).2,false,0,0,c.x,c.y⟩] else []
def piecesC (c:Ct):List Edg:=c.edges.filter goes++shutE c
def around (k:Nat) (x y wide:Int):Shp:=⟨⟨x,y,false,0,0,0,0⟩,wide,false,false,k⟩
def dotS (c:Ct) (s:Sty):List Shp:=if c.edges.length=0∧c.shut=false then [] else if s.cap=1 then [around 1 c.x c.y s.wide] else if s.cap=2 then [around 2 c.x c.y s.wide] else []
def shapesE (shut:Bool) (s:Sty) (n i:Nat) (e:Edg):List Shp :=
 [⟨e,s.wide,(decide (i=0)&&!shut)&&decide (s.cap=2),(decide (i+1=n)&&!shut)&&decide (s.cap=2),0⟩] ++
 ((if ((decide (i=0)&&!shut)&&decide (s.cap=1)) || (!(decide (i=0)&&!shut)&&decide (s.join=1)) then [around 1 e.x0 e.y0 s.wide] else []) ++
 (if (decide (i+1=n)&&!shut)&&decide (s.cap=1) then [around 1 e.x1 e.y1 s.wide] else []))
def shapesL (shut:Bool) (s:Sty) (l:List Edg) (k:Nat):List Shp:=(List.range k).flatMap fun i=>shapesE shut s l.length i (l.getD i default)
def shapesC (s:Sty) (c:Ct):List Shp:=(if (piecesC c).length=0 then dotS c s else [])++shapesL c.shut s (piecesC c) (piecesC c).length
def allS (l:List Sg) (s:Sty):List Shp:=(contoursS l).flatMap (shapesC s)
def pieceIn (e:Edg) (w:Int) (first last:Bool) (x y:Int):Bool :=
 decide (4*(((x-e.x0)*(e.y1-e.y0)-(y-e.y0)*(e.x1-e.x0))*((x-e.x0)*(e.y1-e.y0)-(y-e.y0)*(e.x1-e.x0)))≤w*w*((e.x1-e.x0)*(e.x1-e.x0)+(e.y1-e.y0)*(e.y1-e.y0))) &&
 ((decide (0≤(x-e.x0)*(e.x1-e.x0)+(y-e.y0)*(e.y1-e.y0)) || (first&&decide (4*(((x-e.x0)*(e.x1-e.x0)+(y-e.y0)*(e.y1-e.y0))*((x-e.x0)*(e.x1-e.x0)+(y-e.y0)*(e.y1-e.y0)))≤w*w*((e.x1-e.x0)*(e.x1-e.x0)+(e.y1-e.y0)*(e.y1-e.y0))))) &&
 (decide ((x-e.x0)*(e.x1-e.x0)+(y-e.y0)*(e.y1-e.y0)≤(e.x1-e.x0)*(e.x1-e.x0)+(e.y1-e.y0)*(e.y1-e.y0)) || (last&&decide (4*(((x-e.x0)*(e.x1-e.x0)+(y-e.y0)*(e.y1-e.y0)-((e.x1-e.x0)*(e.x1-e.x0)+(e.y1-e.y0)*(e.y1-e.y0)))*((x-e.x0)*(e.x1-e.x0)+(y-e.y0)*(e.y1-e.y0)-((e.x1-e.x0)*(e.x1-e.x0)+(e.y1-e.y0)*(e.y1-e.y0))))≤w*w*((e.x1-e.x0)*(e.x1-e.x0)+(e.y1-e.y0)*(e.y1-e.y0))))))
def discIn (px py w x y:Int):Bool:=decide (4*((x-px)*(x-px)+(y-py)*(y-py))≤w*w)
def squareIn (px py w x y:Int):Bool:=(decide (2*(x-px)≤w)&&decide (2*(px-x)≤w))&&(decide (2*(y-py)≤w)&&decide (2*(py-y)≤w))
def covS (s:Shp) (x y:Int):Bool:=if s.kind=0 then pieceIn s.e s.wide s.first s.last x y else if s.kind=1 then discIn s.e.x0 s.e.y0 s.wide x y else squareIn s.e.x0 s.e.y0 s.wide x y
def covL (l:List Shp) (x y:Int):Bool:=l.any fun s=>covS s x y
def straightS (l:List Sg):Bool:=pathMay l&&l.all fun s=>decide (s.kind≠3)
def inS (l:List Sg) (s:Sty) (x y:Int):Bool:=(straightS l&&mayY s)&&((near1 x&&near1 y)&&covL (allS l s) x y)
def NearP' (x y:Int):Prop:=(-8191≤x∧x≤8191)∧(-8191≤y∧y≤8191)
def NearE' (e:Edg):Prop:=NearP' e.x0 e.y0∧NearP' e.x1 e.y1
def GoodS (s:Shp):Prop:=NearE' s.e∧(0≤s.wide∧s.wide≤2048)∧s.kind≤2
def GoodC (c:Ct):Prop:=NearP' c.x c.y∧∀ e∈c.edges,NearE' e
theorem near_iff' (t:Int):near1 t=true ↔ -8191≤t∧t≤8191:=by unfold near1;simp
theorem contours_good {l:List Sg} (h:pathMay l=true):∀ c∈contoursS l,GoodC c:=by
 have hmm:l.length≤300∧maySF 0 l=true:=by simpa [pathMay] using h
 have hr:=may_right l 0 hmm.2
 have hall:∀ c∈contoursS l,CtAll NearE' NearP' c:=by
  unfold contoursS
  rw [if_pos h]
  refine ctFold_all NearE' NearP' l [] none 0 0 (fun s hs _=>?_) (fun s hs h1 h4 x y hxy=>?_) (by simp) (by intro c h;cases h)
  ·obtain ⟨k,hk⟩:=hr s hs
   obtain ⟨n1,n2,_⟩:=rightS_near hk
   exact ⟨(near_iff' _).1 n1,(near_iff' _).1 n2⟩
  ·obtain ⟨k,hk⟩:=hr s hs
   obtain ⟨n1,n2,_⟩:=rightS_near hk
   exact ⟨hxy,(near_iff' _).1 n1,(near_iff' _).1 n2⟩
 exact fun c hc=>⟨(hall c hc).1,fun e he=>((hall c hc).2 e he).1⟩
theorem posE_near:∀ (l:List Edg) (x y:Int),NearP' x y→(∀ e∈l,NearE' e)→NearP' (posE x y l).1 (posE x y l).2
 | [],_,_,h,_=>h
 | e::r,_,_,_,hl=>posE_near r _ _ (hl e List.mem_cons_self).2 fun a ha=>hl a (List.mem_cons_of_mem _ ha)
theorem pieces_near {c:Ct} (h:GoodC c):∀ e∈piecesC c,NearE' e:=by
 intro e he
 unfold piecesC at he
 rcases List.mem_append.1 he with he|he
 ·exact h.2 e (List.mem_filter.1 he).1
 ·unfold shutE at he
  split at he
  ·rw [List.mem_singleton.1 he]
   exact ⟨posE_near _ _ _ h.1 h.2,h.1⟩
  ·cases he
theorem zero_near:NearP' 0 0:=⟨⟨by decide,by decide⟩,by decide,by decide⟩
theorem mayY_bd {s:Sty} (h:mayY s=true):0≤s.wide∧s.wide≤2048∧0≤s.cap∧s.cap≤2∧0≤s.join∧s.join≤1:=by
 unfold mayY at h;simpa using h
theorem around_good {k:Nat} (hk:k≤2) {x y w:Int} (h:NearP' x y) (hw:0≤w∧w≤2048):GoodS (around k x y w):=⟨⟨h,zero_near⟩,hw,hk⟩
theorem shapesE_good {shut:Bool} {s:Sty} {n i:Nat} {e:Edg} (he:NearE' e) (hw:0≤s.wide∧s.wide≤2048):∀ q∈shapesE shut s n i e,GoodS q:=by
 intro q hq
 unfold shapesE at hq
 rcases List.mem_append.1 hq with hq|hq
 ·rw [List.mem_singleton.1 hq];exact ⟨he,hw,Nat.zero_le _⟩
 ·rcases List.mem_append.1 hq with hq|hq <;> split at hq
  ·rw [List.mem_singleton.1 hq];exact around_good (by decide) he.1 hw
  ·cases hq
  ·rw [List.mem_singleton.1 hq];exact around_good (by decide) he.2 hw
  ·cases hq
theorem dotS_good {c:Ct} {s:Sty} (h:GoodC c) (hw:0≤s.wide∧s.wide≤2048):∀ q∈dotS c s,GoodS q:=by
 intro q hq
 unfold dotS at hq
 split at hq
 ·cases hq
 ·split at hq
  ·rw [List.mem_singleton.1 hq];exact around_good (by decide) h.1 hw
  ·split at hq
   ·rw [List.mem_singleton.1 hq];exact around_good (by decide) h.1 hw
   ·cases hq
theorem shapesC_good {c:Ct} {s:Sty} (h:GoodC c) (hw:0≤s.wide∧s.wide≤2048):∀ q∈shapesC s c,GoodS q:=by
 intro q hq
 unfold shapesC at hq
 rcases List.mem_append.1 hq with hq|hq
 ·split at hq
  ·exact dotS_good h hw q hq
  ·cases hq
 ·unfold shapesL at hq
  obtain ⟨i,hi,hq⟩:=List.mem_flatMap.1 hq
  have hi:=List.mem_range.1 hi
  refine shapesE_good (pieces_near h _ ?_) hw q hq
  rw [show (piecesC c).getD i default=(piecesC c)[i] by simp [hi]]
  exact List.getElem_mem hi
theorem allS_good {l:List Sg} {s:Sty} (h:pathMay l=true) (hw:mayY s=true):∀ q∈allS l s,GoodS q:=by
 intro q hq
 obtain ⟨c,hc,hq⟩:=List.mem_flatMap.1 hq
 have:=mayY_bd hw
 exact shapesC_good (contours_good h c hc) ⟨this.1,this.2.1⟩ q hq
theorem shapesE_len (shut:Bool) (s:Sty) (n i:Nat) (e:Edg):(shapesE shut s n i e).length≤3:=by
 unfold shapesE
 simp only [List.length_append,List.length_singleton]
 split <;> split <;> simp
theorem shapesL_len (shut:Bool) (s:Sty) (l:List Edg):∀ k,(shapesL shut s l k).length≤3*k
 | 0=>by simp [shapesL]
 | k+1=>by
  have ih:=shapesL_len shut s l k
  have:=shapesE_len shut s l.length k (l.getD k default)
  unfold shapesL at *
  rw [List.range_succ,List.flatMap_append,List.length_append]
  simp only [List.flatMap_cons,List.flatMap_nil,List.append_nil]
  omega
theorem pieces_len (c:Ct):(piecesC c).length≤c.edges.length+1:=by
 have:=List.length_filter_le goes c.edges
 have h:(shutE c).length≤1:=by unfold shutE;split <;> simp
 unfold piecesC
 rw [List.length_append]
 omega
theorem dotS_len (c:Ct) (s:Sty):(dotS c s).length≤1:=by
 unfold dotS;split
 ·simp
 ·split
  ·simp
  ·split <;> simp
theorem shapesC_len (s:Sty) (c:Ct):(shapesC s c).length≤3*ctW c:=by
 have h1:=pieces_len c
 have h2:=shapesL_len c.shut s (piecesC c) (piecesC c).length
 have h3:=dotS_len c s
 unfold shapesC ctW
 rw [List.length_append]
 split
 ·omega
 ·simp only [List.length_nil];omega
theorem shapes_weight (s:Sty):∀ l:List Ct,(l.flatMap (shapesC s)).length≤3*(l.map ctW).sum
 | []=>by simp
 | c::l=>by
  have h1:=shapesC_len s c
  have h2:=shapes_weight s l
  simp only [List.flatMap_cons,List.length_append,List.map_cons,List.sum_cons]
  omega
theorem allS_len (l:List Sg) (s:Sty):(allS l s).length≤900:=by
 have h1:=shapes_weight s (contoursS l)
 have h2:=contours_weight l
 unfold allS;omega
theorem shapesL_step (shut:Bool) (s:Sty) (l:List Edg) (k:Nat):shapesL shut s l (k+1)=shapesL shut s l k++shapesE shut s l.length k (l.getD k default):=by
 unfold shapesL
 rw [List.range_succ,List.flatMap_append]
 simp only [List.flatMap_cons,List.flatMap_nil,List.append_nil]
open Go.RowKit
theorem or_bit (q k:Nat):(q*2^(k+1)) ||| 2^k=q*2^(k+1)+2^k:=by
 rw [show q*2^(k+1)=2^(k+1)*q from Nat.mul_comm _ _]
 exact (Nat.two_pow_add_eq_or_of_lt (i:=k+1) (b:=2^k) (by rw [Nat.pow_succ];have:=Nat.two_pow_pos k;omega) q).symm
structure RootAt (n k r:Nat):Prop where
 q:∃ q,r=q*2^(32-k)
 lo:r*r≤n
 hi:n<(r+2^(32-k))*(r+2^(32-k))
 le:r+2^(32-k)≤4294967296
theorem RootAt.start {n:Nat} (hn:n<18446744073709551616):RootAt n 0 0:=⟨⟨0,by simp⟩,Nat.zero_le _,by simpa using hn,by decide⟩
theorem pow_down {k:Nat} (hk:k<32):2^(32-k)=2*2^(31-k):=by
 rw [show 32-k=(31-k)+1 by omega,Nat.pow_succ,Nat.mul_comm]
theorem RootAt.up {n k r:Nat} (h:RootAt n k r) (hk:k<32) (ht:(r+2^(31-k))*(r+2^(31-k))≤n):RootAt n (k+1) (r+2^(31-k)):=by
 obtain ⟨⟨q,hq⟩,h1,h2,h3⟩:=h
 rw [pow_down hk] at hq h2 h3
 have e:32-(k+1)=31-k:=by omega
 refine ⟨⟨2*q+1,?_⟩,ht,?_,?_⟩
 ·rw [e,hq,Nat.add_mul,Nat.one_mul]
  have:q*(2*2^(31-k))=2*q*2^(31-k):=by rw [Nat.mul_comm 2 q,Nat.mul_assoc]
  omega
 ·rw [e,show r+2^(31-k)+2^(31-k)=r+2*2^(31-k) by omega];exact h2
 ·rw [e];omega
theorem RootAt.stay {n k r:Nat} (h:RootAt n k r) (hk:k<32) (ht:¬(r+2^(31-k))*(r+2^(31-k))≤n):RootAt n (k+1) r:=by
 obtain ⟨⟨q,hq⟩,h1,h2,h3⟩:=h
 rw [pow_down hk] at hq h2 h3
 have e:32-(k+1)=31-k:=by omega
 have:=Nat.two_pow_pos (31-k)
 refine ⟨⟨2*q,?_⟩,h1,?_,?_⟩
 ·rw [e,hq,Nat.mul_comm 2 q,Nat.mul_assoc]
 ·rw [e];omega
 ·rw [e];omega
theorem RootAt.or {n k r:Nat} (h:RootAt n k r) (hk:k<32):bits .or .u64 (r:Int) ((2^(31-k):Nat):Int)=((r+2^(31-k):Nat):Int):=by
 obtain ⟨⟨q,hq⟩,h1,h2,h3⟩:=h
 have hp:=pow_down hk
 have h4:2^(31-k)≤2147483648:=by omega
 have h5:r<18446744073709551616:=by omega
 rw [u64_or _ _ (by omega) (by omega) (by omega) (by omega),Int.toNat_natCast,Int.toNat_natCast]
 congr 1
 rw [hq,show 32-k=(31-k)+1 by omega]
 exact or_bit q (31-k)
set_option maxRecDepth 100000 in
set_option maxHeartbeats 4000000 in
theorem rootFloor_calls (n:Nat) (hn:n<18446744073709551616) (w:World):Calls Tryz.prog 216 #[.int .u64 n] w fun e w'=>(∃ r:Nat,e=.returned (.int .u64 r)∧r*r≤n∧n<(r+1)*(r+1)∧r<4294967296)∧Below w.heap.size w w':=by
 have h0:=Lib.hid (RootAt.start hn)
 have hL:=Holds.start w
 go_enter Tryz.func216,Tryz.ntmps216
 go_wp2_with (first|((with_reducible refine goJ rfl ?_);refine goW ?_))
 go_loopw [3,6] (fun s3 s6 wr=>∃ k r:Nat,k≤32∧s6=.int .i64 k∧s3=.int .u64 r∧Hid (RootAt n k r)∧Holds w wr [] [])
  (fun s3 s6 wr=>32-(intOf s6).toNat)
 case atStart=>exact ⟨0,0,by omega,rfl,rfl,h0,hL⟩
 case round =>
  clear hL
  obtain ⟨k,r,hk,rfl,rfl,hC,hL⟩:=hrel
  by_cases hlt:k<32
  ·have hor:=hC.out.or hlt
   have hle:=hC.out.le
   rw [pow_down hlt] at hle
   have HU:=Lib.hid (hC.out.up hlt)
   have HD:=Lib.hid (hC.out.stay hlt)
   have hs0:=Nat.two_pow_pos (31-k)
   have hS2:(2:Int)^(31-k)=((2^(31-k):Nat):Int):=by simp
   generalize 2^(31-k)=S at *
   have htt:(r+S)*(r+S)≤4294967295*4294967295:=Nat.mul_le_mul (by omega) (by omega)
   generalize r+S=t at *
   have ht0:(t:Int)*t=((t*t:Nat):Int):=by simp
   have w1:IntKind.u64.wrap ((t:Int)*t)=((t*t:Nat):Int):=by rw [IntKind.wrap_u64,ht0];omega
   have w2:IntKind.u64.wrap (S:Int)=(S:Int):=by rw [IntKind.wrap_u64];omega
   clear ht0
   rcases (by omega:t*t≤n∨¬t*t≤n) with hr|hr
   ·have HA:=Lib.hid (HU.out hr)
    have hr2:((t*t:Nat):Int)≤(n:Int):=by omega
    generalize t*t=tt at *
    clear HU HD
    go_wp2_with (first|((with_reducible refine goJ rfl ?_);refine goW ?_))
    go_roundw
    case rel=>exact ⟨k+1,t,by omega,by go_num,rfl,HA,hL⟩
    case measure=>simp [intOf];omega
   ·have HA:=Lib.hid (HD.out hr)
    have hr2:¬((t*t:Nat):Int)≤(n:Int):=by omega
    generalize t*t=tt at *
    clear HU HD
    go_wp2_with (first|((with_reducible refine goJ rfl ?_);refine goW ?_))
    go_roundw
    case rel=>exact ⟨k+1,r,by omega,by go_num,rfl,HA,hL⟩
    case measure=>simp [intOf];omega
  ·have e:k=32:=by omega
   subst e
   obtain ⟨_,h1,h2,h3⟩:=hC.out
   simp at h2
   have h3:r<4294967296:=by simp at h3;omega
   have H1:=Lib.hid h1;have H2:=Lib.hid h2;have H3:=Lib.hid h3
   clear h1 h2 h3
   go_wp2_with (first|((with_reducible refine goJ rfl ?_);refine goW ?_))
   go_ret
   exact ⟨⟨r,rfl,H1.out,H2.out,H3.out⟩,hL.below⟩
open Go.RowKit
theorem divFloor (v m:Int) (hm:0<m):(v.tmod m<0∧v.tdiv m=v / m+1)∨(0≤v.tmod m∧v.tdiv m=v / m):=by
 have h1:=Int.mul_tdiv_add_tmod v m
 have h2:=Int.tmod_lt_of_pos v hm
 have h3 : -m<v.tmod m:=by
  rcases Int.le_total 0 v with h|h
  ·have:=Int.tmod_nonneg m h;omega
  ·have h4:=Int.tmod_lt_of_pos (-v) hm
   rw [Int.neg_tmod] at h4
   omega
 generalize v.tmod m=r at *
 generalize v.tdiv m=q at *
 by_cases hr:r<0
 ·refine .inl ⟨hr,?_⟩
  have e:v=(r+m)+m*(q-1):=by rw [←h1,Int.mul_sub];omega
  rw [e,Int.add_mul_ediv_left _ _ (by omega),Int.ediv_eq_zero_of_lt (by omega) (by omega)]
  omega
 ·refine .inr ⟨by omega,?_⟩
  rw [←h1,Int.add_comm,Int.add_mul_ediv_left _ _ (by omega),Int.ediv_eq_zero_of_lt (by omega) (by omega)]
  omega
theorem div_bd {v m B:Int} (hm:0<m) (hB:0≤B) (h1 : -B≤v) (h2:v≤B) : -B≤v / m∧v / m≤B:=by
 constructor
 ·rw [Int.le_ediv_iff_mul_le hm]
  have:B*1≤B*m:=Int.mul_le_mul_of_nonneg_left (by omega) hB
  rw [Int.neg_mul];omega
 ·exact Int.le_trans (Int.ediv_le_ediv hm h2) (Int.ediv_le_self _ hB)
theorem down_calls (a b:Int) (hb:0<b) (hb2:b≤1099511627776) (h1 : -70368744177664≤a) (h2:a≤70368744177664) (w:World):Calls Tryz.prog 197 #[.int .i64 a,.int .i64 b] w fun e w'=>e=.returned (.int .i64 (a / b))∧w=w':=by
 have hd:=divFloor a b hb
 have hq:=div_bd hb (by decide) h1 h2
 generalize a / b=q at *
 have m0:(b == 0)=false:=by simp;omega
 have m1:(b == -1)=false:=by simp;omega
 rcases hd with ⟨hr,hq2⟩|⟨hr,hq2⟩
 ·generalize hr2:a.tmod b=r at *
  go_enter Tryz.func197,Tryz.ntmps197
  go_wp2
  go_ret
  exact ⟨by first|rfl|go_num,rfl⟩
 ·generalize hr2:a.tmod b=r at *
  go_enter Tryz.func197,Tryz.ntmps197
  go_wp2
  go_ret
  exact ⟨by first|rfl|go_num,rfl⟩
theorem none_calls (w:World):Calls Tryz.prog 215 #[] w fun e w'=>e=.returned (.agg #[.int .i64 1,.int .i64 0])∧Below w.heap.size w w':=by
 have hL:=Holds.start w
 have n1:True:=trivial
 go_enter Tryz.func215,Tryz.ntmps215
 go_wp2_with (first|(with_reducible first|(clear hL n1;intro b1 w1 hL)|(clear hL;intro _ hL))|((with_reducible refine goJ rfl ?_);refine goW ?_))
 exact bodyPost_ret (results_row inferInstance rfl _ hL b1 rfl _ _ .here rfl) rfl ⟨rfl,hL.below⟩
def SlotBd (lo hi:Int):Prop := -17592186044416≤lo∧lo≤17592186044416 ∧ -17592186044416≤hi∧hi≤17592186044416
def SlotOut (P:Int→Prop) (w:World) (e:Ending) (w':World):Prop:=(∃ lo hi,e=.returned (.agg #[.int .i64 lo,.int .i64 hi])∧SlotBd lo hi∧∀ x,(lo≤x∧x≤hi) ↔ P x)∧Below w.heap.size w w'
theorem slot_pos {slo shi a b lo hi x:Int} (ha:0<a):(max slo (-(-(lo-b) / a))≤x∧x≤min shi ((hi-b) / a)) ↔ ((slo≤x∧x≤shi)∧(lo≤a*x+b∧a*x+b≤hi)):=by
 have e1 : -(-(lo-b) / a)≤x ↔ lo≤a*x+b:=by
  have : -x ≤ -(lo-b) / a ↔ -x*a ≤ -(lo-b):=Int.le_ediv_iff_mul_le ha
  rw [Int.neg_mul,Int.mul_comm x a] at this
  omega
 have e2:x≤(hi-b) / a ↔ a*x+b≤hi:=by
  have:x≤(hi-b) / a ↔ x*a≤hi-b:=Int.le_ediv_iff_mul_le ha
  rw [Int.mul_comm x a] at this
  omega
 omega
set_option maxRecDepth 100000 in
set_option maxHeartbeats 4000000 in
theorem within_calls (slo shi a b lo hi:Int) (hs:SlotBd slo shi) (ha : -1099511627776≤a∧a≤1099511627776) (hb : -1099511627776≤b∧b≤1099511627776) (hlo : -1099511627776≤lo∧lo≤1099511627776) (hhi : -1099511627776≤hi∧hi≤1099511627776) (w:World) :
  Calls Tryz.prog 217 #[.agg #[.int .i64 slo,.int .i64 shi],.int .i64 a,.int .i64 b,.int .i64 lo,.int .i64 hi] w (SlotOut (fun x=>(slo≤x∧x≤shi)∧(lo≤a*x+b∧a*x+b≤hi)) w):=by
 have hL:=Holds.start w
 have HsB:=Lib.hid hs
 obtain ⟨s1,s2,s3,s4⟩:=hs
 obtain ⟨a1,a2⟩:=ha
 obtain ⟨c1,c2⟩:=hb
 obtain ⟨l1,l2⟩:=hlo
 obtain ⟨h1,h2⟩:=hhi
 rcases (by omega:a<0∨a=0∨0<a) with h|h|h
 ·generalize hP:lo-b=P at *
  generalize hQ:hi-b=Q at *
  generalize hA : -a=A at *
  generalize hP2 : -P=P2 at *
  generalize hQ2 : -Q=Q2 at *
  have hx:∀ x,(max slo (-(-Q2 / A))≤x∧x≤min shi (P2 / A)) ↔ ((slo≤x∧x≤shi)∧(lo≤a*x+b∧a*x+b≤hi)):=by
   intro x
   have:=slot_pos (slo:=slo) (shi:=shi) (a:=A) (b := -b) (lo := -hi) (hi := -lo) (x:=x) (by omega)
   rw [show -hi - -b=Q2 by omega,show -lo - -b=P2 by omega,←hA,Int.neg_mul] at this
   rw [←hA]
   omega
  have d1:=div_bd (v := -Q2) (m:=A) (B:=4398046511104) (by omega) (by omega) (by omega) (by omega)
  have d2:=div_bd (v:=P2) (m:=A) (B:=4398046511104) (by omega) (by omega) (by omega) (by omega)
  have HD1:=Lib.hid (fun w=>down_calls (-Q2) A (by omega) (by omega) (by omega) (by omega) w)
  have HD2:=Lib.hid (fun w=>down_calls P2 A (by omega) (by omega) (by omega) (by omega) w)
  generalize -Q2 / A=D1 at *
  generalize P2 / A=D2 at *
  have v1:IntKind.i64.wrap (-Q2) = -Q2:=by rw [IntKind.wrap_i64];omega
  have v2:IntKind.i64.wrap (-D1) = -D1:=by rw [IntKind.wrap_i64];omega
  have hA0:(A == 0)=false:=by simp;omega
  have HX:=Lib.hid hx
  clear hx
  obtain ⟨n1,n2⟩:=tok2
  go_enter Tryz.func217,Tryz.ntmps217
  go_wp2_with (first|(with_reducible first|(clear hL n1;intro b1 w1 hL)|(clear hL n2;intro b2 w2 hL)|(clear hL;intro _ hL))|((with_reducible refine goJ rfl ?_);refine goW ?_))
  replace hL:=hL.drew
  have hS:(fun w':World=>w'.rangeAt b1 0 [.int .i64 slo,.int .i64 shi]) _:=hL.range (by (repeat (first|with_reducible exact At.here|with_reducible apply At.there)))
  refine wpM_begin (by kernel_rfl) (fun w':World=>w'.rangeAt b1 0 [.int .i64 slo,.int .i64 shi]) 15 ?_
  refine dsM 0 (.pointer (some ⟨b1,0,none⟩)) hS ?_
  refine drM 1 (.int .i64 slo) hS ?_ ?_;(· exact fun w' hw=>(load_cell (hw 0 _ rfl)))
  refine dsM 2 (.int .i64 Q2) hS ?_
  refine dsM 3 (.int .i64 (-Q2)) hS ?_
  refine dsM 4 (.int .i64 A) hS ?_
  refine dsM 8 (.pointer (some ⟨b1,1,none⟩)) hS ?_
  refine drM 9 (.int .i64 shi) hS ?_ ?_;(· exact fun w' hw=>(load_cell (hw 1 _ rfl)))
  refine dsM 10 (.int .i64 P2) hS ?_
  refine dsM 11 (.int .i64 A) hS ?_
  refine wpM_one (i:=5) (by kernel_rfl) (wpOf ?_)
  refine st_call rfl 197 #[.int .i64 (-Q2),.int .i64 A] (by go_simp) (HD1.out _) ?_
  rintro e _ ⟨rfl,rfl⟩
  refine ⟨_,rfl,fun _=>hS,?_⟩
  simp only [Act.put,setP]
  refine dsM 6 (.int .i64 (-D1)) hS ?_
  refine stM (i:=7) (.int .i64 (max (slo) ((-D1)))) hS ?_ ?_;(· exact fun w' _=>run_maxV _ _ _ _ rfl rfl rfl);simp only [Act.put,setP]
  refine wpM_one (i:=12) (by kernel_rfl) (wpOf ?_)
  refine st_call rfl 197 #[.int .i64 P2,.int .i64 A] (by go_simp) (HD2.out _) ?_
  rintro e _ ⟨rfl,rfl⟩
  refine ⟨_,rfl,fun _=>hS,?_⟩
  simp only [Act.put,setP]
  refine stM (i:=13) (.int .i64 (min (shi) (D2))) hS ?_ ?_;(· exact fun w' _=>run_minV _ _ _ _ rfl rfl rfl);simp only [Act.put,setP]
  refine dsM 14 (.agg #[.int .i64 (max (slo) ((-D1))),.int .i64 (min (shi) (D2))]) hS ?_
  refine wpM_one (i:=15) (by kernel_rfl) (wpOf ?_)
  refine st_store rfl _ _ _ rfl ⟨b2,0,none⟩ rfl (.agg #[.int .i64 (max (slo) ((-D1))),.int .i64 (min (shi) (D2))]) rfl (storeR hL ?_)
  clear hL
  intro w9 hL
  refine ⟨fun h=>absurd rfl h,?_⟩
  simp only [Act.put]
  refine wpM_done (by kernel_rfl) ?_
  clear hS
  go_wp2
  exact bodyPost_ret (results_row inferInstance rfl _ hL b2 rfl _ _ (by (repeat (first|with_reducible exact At.here|with_reducible apply At.there))) rfl) rfl ⟨⟨_,_,rfl,⟨by omega,by omega,by omega,by omega⟩,HX.out⟩,hL.below⟩
 ·subst h
  rcases (by omega:0<lo-b∨hi-b<0∨(lo-b≤0∧0≤hi-b)) with g|g|⟨g,g2⟩
  ·have HX:=Lib.hid (show ∀ x,(1≤x∧x≤0) ↔ ((slo≤x∧x≤shi)∧(lo≤0*x+b∧0*x+b≤hi)) by intro x;omega)
   have dg:decide (0<lo-b)=true:=by simp;omega
   obtain ⟨n1,n2⟩:=tok2
   go_enter Tryz.func217,Tryz.ntmps217
   go_wp2_with (first|(go_at_call 215;(with_reducible refine (none_calls _).mono ?_);rintro e _ ⟨rfl,hb⟩;replace hL:=hL.call hb;clear hb)|(with_reducible first|(clear hL n1;intro b1 w1 hL)|(clear hL n2;intro b2 w2 hL)|(clear hL;intro _ hL))|((with_reducible refine goJ rfl ?_);refine goW ?_))
   exact bodyPost_ret (results_row inferInstance rfl _ hL b2 rfl _ _ (by (repeat (first|with_reducible exact At.here|with_reducible apply At.there))) rfl) rfl ⟨⟨_,_,rfl,⟨by omega,by omega,by omega,by omega⟩,HX.out⟩,hL.below⟩
  ·have HX:=Lib.hid (show ∀ x,(1≤x∧x≤0) ↔ ((slo≤x∧x≤shi)∧(lo≤0*x+b∧0*x+b≤hi)) by intro x;omega)
   rcases (by omega:0<lo-b∨¬0<lo-b) with g3|g3
   ·have dg:decide (0<lo-b)=true:=by simp;omega
    obtain ⟨n1,n2⟩:=tok2
    go_enter Tryz.func217,Tryz.ntmps217
    go_wp2_with (first|(go_at_call 215;(with_reducible refine (none_calls _).mono ?_);rintro e _ ⟨rfl,hb⟩;replace hL:=hL.call hb;clear hb)|(with_reducible first|(clear hL n1;intro b1 w1 hL)|(clear hL n2;intro b2 w2 hL)|(clear hL;intro _ hL))|((with_reducible refine goJ rfl ?_);refine goW ?_))
    exact bodyPost_ret (results_row inferInstance rfl _ hL b2 rfl _ _ (by (repeat (first|with_reducible exact At.here|with_reducible apply At.there))) rfl) rfl ⟨⟨_,_,rfl,⟨by omega,by omega,by omega,by omega⟩,HX.out⟩,hL.below⟩
   ·have dg:decide (0<lo-b)=false:=by simp;omega
    have dh:decide (hi-b<0)=true:=by simp;omega
    obtain ⟨n1,n2⟩:=tok2
    go_enter Tryz.func217,Tryz.ntmps217
    go_wp2_with (first|(go_at_call 215;(with_reducible refine (none_calls _).mono ?_);rintro e _ ⟨rfl,hb⟩;replace hL:=hL.call hb;clear hb)|(with_reducible first|(clear hL n1;intro b1 w1 hL)|(clear hL n2;intro b2 w2 hL)|(clear hL;intro _ hL))|((with_reducible refine goJ rfl ?_);refine goW ?_))
    exact bodyPost_ret (results_row inferInstance rfl _ hL b2 rfl _ _ (by (repeat (first|with_reducible exact At.here|with_reducible apply At.there))) rfl) rfl ⟨⟨_,_,rfl,⟨by omega,by omega,by omega,by omega⟩,HX.out⟩,hL.below⟩
  ·have HX:=Lib.hid (show ∀ x,(slo≤x∧x≤shi) ↔ ((slo≤x∧x≤shi)∧(lo≤0*x+b∧0*x+b≤hi)) by intro x;omega)
   have dg:decide (0<lo-b)=false:=by simp;omega
   have dh:decide (hi-b<0)=false:=by simp;omega
   obtain ⟨n1,n2⟩:=tok2
   go_enter Tryz.func217,Tryz.ntmps217
   go_wp2_with (first|(with_reducible first|(clear hL n1;intro b1 w1 hL)|(clear hL n2;intro b2 w2 hL)|(clear hL;intro _ hL))|((with_reducible refine goJ rfl ?_);refine goW ?_))
   exact bodyPost_ret (results_row inferInstance rfl _ hL b2 rfl _ _ (by (repeat (first|with_reducible exact At.here|with_reducible apply At.there))) rfl) rfl ⟨⟨_,_,rfl,HsB.out,HX.out⟩,hL.below⟩
 ·have HX:=Lib.hid (fun x=>slot_pos (slo:=slo) (shi:=shi) (a:=a) (b:=b) (lo:=lo) (hi:=hi) (x:=x) h)
  generalize hP:lo-b=P at *
  generalize hQ:hi-b=Q at *
  have d1:=div_bd (v := -P) (m:=a) (B:=4398046511104) (by omega) (by omega) (by omega) (by omega)
  have d2:=div_bd (v:=Q) (m:=a) (B:=4398046511104) (by omega) (by omega) (by omega) (by omega)
  have HD1:=Lib.hid (fun w=>down_calls (-P) a (by omega) (by omega) (by omega) (by omega) w)
  have HD2:=Lib.hid (fun w=>down_calls Q a (by omega) (by omega) (by omega) (by omega) w)
  generalize -P / a=D1 at *
  generalize Q / a=D2 at *
  have v1:IntKind.i64.wrap (-P) = -P:=by rw [IntKind.wrap_i64];omega
  have v2:IntKind.i64.wrap (-D1) = -D1:=by rw [IntKind.wrap_i64];omega
  have hA0:(a == 0)=false:=by simp;omega
  obtain ⟨n1,n2⟩:=tok2
  go_enter Tryz.func217,Tryz.ntmps217
  go_wp2_with (first|(with_reducible first|(clear hL n1;intro b1 w1 hL)|(clear hL n2;intro b2 w2 hL)|(clear hL;intro _ hL))|((with_reducible refine goJ rfl ?_);refine goW ?_))
  replace hL:=hL.drew
  have hS:(fun w':World=>w'.rangeAt b1 0 [.int .i64 slo,.int .i64 shi]) _:=hL.range (by (repeat (first|with_reducible exact At.here|with_reducible apply At.there)))
  refine wpM_begin (by kernel_rfl) (fun w':World=>w'.rangeAt b1 0 [.int .i64 slo,.int .i64 shi]) 15 ?_
  refine dsM 0 (.pointer (some ⟨b1,0,none⟩)) hS ?_
  refine drM 1 (.int .i64 slo) hS ?_ ?_;(· exact fun w' hw=>(load_cell (hw 0 _ rfl)))
  refine dsM 2 (.int .i64 P) hS ?_
  refine dsM 3 (.int .i64 (-P)) hS ?_
  refine dsM 4 (.int .i64 a) hS ?_
  refine dsM 8 (.pointer (some ⟨b1,1,none⟩)) hS ?_
  refine drM 9 (.int .i64 shi) hS ?_ ?_;(· exact fun w' hw=>(load_cell (hw 1 _ rfl)))
  refine dsM 10 (.int .i64 Q) hS ?_
  refine dsM 11 (.int .i64 a) hS ?_
  refine wpM_one (i:=5) (by kernel_rfl) (wpOf ?_)
  refine st_call rfl 197 #[.int .i64 (-P),.int .i64 a] (by go_simp) (HD1.out _) ?_
  rintro e _ ⟨rfl,rfl⟩
  refine ⟨_,rfl,fun _=>hS,?_⟩
  simp only [Act.put,setP]
  refine dsM 6 (.int .i64 (-D1)) hS ?_
  refine stM (i:=7) (.int .i64 (max (slo) ((-D1)))) hS ?_ ?_;(· exact fun w' _=>run_maxV _ _ _ _ rfl rfl rfl);simp only [Act.put,setP]
  refine wpM_one (i:=12) (by kernel_rfl) (wpOf ?_)
  refine st_call rfl 197 #[.int .i64 Q,.int .i64 a] (by go_simp) (HD2.out _) ?_
  rintro e _ ⟨rfl,rfl⟩
  refine ⟨_,rfl,fun _=>hS,?_⟩
  simp only [Act.put,setP]
  refine stM (i:=13) (.int .i64 (min (shi) (D2))) hS ?_ ?_;(· exact fun w' _=>run_minV _ _ _ _ rfl rfl rfl);simp only [Act.put,setP]
  refine dsM 14 (.agg #[.int .i64 (max (slo) ((-D1))),.int .i64 (min (shi) (D2))]) hS ?_
  refine wpM_one (i:=15) (by kernel_rfl) (wpOf ?_)
  refine st_store rfl _ _ _ rfl ⟨b2,0,none⟩ rfl (.agg #[.int .i64 (max (slo) ((-D1))),.int .i64 (min (shi) (D2))]) rfl (storeR hL ?_)
  clear hL
  intro w9 hL
  refine ⟨fun h=>absurd rfl h,?_⟩
  simp only [Act.put]
  refine wpM_done (by kernel_rfl) ?_
  clear hS
  go_wp2
  exact bodyPost_ret (results_row inferInstance rfl _ hL b2 rfl _ _ (by (repeat (first|with_reducible exact At.here|with_reducible apply At.there))) rfl) rfl ⟨⟨_,_,rfl,⟨by omega,by omega,by omega,by omega⟩,HX.out⟩,hL.below⟩
open Go.RowKit
def fnK (k:Nat):Nat:=if k=0 then 209 else if k=1 then 207 else 208
def shpC (s:Shp):List Value:=[.int .i64 s.e.x0,.int .i64 s.e.y0,.bool s.e.bent,.int .i64 s.e.cx,.int .i64 s.e.cy,.int .i64 s.e.x1,.int .i64 s.e.y1,.int .i64 s.wide,.bool s.first,.bool s.last,.func (.func (fnK s.kind)) #[] #[]]
def CovOut (s:Shp) (y:Int) (w:World) (e:Ending) (w':World):Prop:=(∃ lo hi,e=.returned (.agg #[.int .i64 lo,.int .i64 hi])∧SlotBd lo hi∧∀ x,-8191≤x→x≤8191→((lo≤x∧x≤hi) ↔ covS s x y=true))∧Below w.heap.size w w'
theorem far_iff {n r:Nat} (h1:r*r≤n) (h2:n<(r+1)*(r+1)) (t:Int):t*t≤(n:Int) ↔ -(r:Int)≤t∧t≤r:=by
 have e:t*t=((t.natAbs*t.natAbs:Nat):Int):=Int.natAbs_mul_self.symm
 rw [e]
 have k:t.natAbs*t.natAbs≤n ↔ t.natAbs≤r:=by
  constructor
  ·intro h
   rcases Nat.lt_or_ge r t.natAbs with h3|h3
   ·have:=Nat.mul_le_mul (show r+1≤t.natAbs from h3) (show r+1≤t.natAbs from h3);omega
   ·exact h3
  ·intro h
   exact Nat.le_trans (Nat.mul_le_mul h h) h1
 omega
theorem piece_slot {e:Edg} {w x y:Int} {f l:Bool} {n r:Nat} (hn:w*w*((e.x1-e.x0)*(e.x1-e.x0)+(e.y1-e.y0)*(e.y1-e.y0))=(n:Int)) (h1:r*r≤n) (h2:n<(r+1)*(r+1)) {A1 B1 A2 B2 L:Int}
  (hA1:A1=2*(e.y1-e.y0)) (hB1:B1 = -2*e.x0*(e.y1-e.y0)-2*(y-e.y0)*(e.x1-e.x0)) (hA2:A2=2*(e.x1-e.x0)) (hB2:B2 = -2*e.x0*(e.x1-e.x0)+2*(y-e.y0)*(e.y1-e.y0)) (hL:L=(e.x1-e.x0)*(e.x1-e.x0)+(e.y1-e.y0)*(e.y1-e.y0)) :
  ((-(r:Int)≤A1*x+B1∧A1*x+B1≤r)∧((if f then -(r:Int) else 0)≤A2*x+B2∧A2*x+B2≤2*L+(if l then (r:Int) else 0))) ↔ pieceIn e w f l x y=true:=by
 have hl0:0≤(e.x1-e.x0)*(e.x1-e.x0)+(e.y1-e.y0)*(e.y1-e.y0):=by
  have a1:(0:Int)≤(e.x1-e.x0)*(e.x1-e.x0):=by rw [←Int.natAbs_mul_self];omega
  have a2:(0:Int)≤(e.y1-e.y0)*(e.y1-e.y0):=by rw [←Int.natAbs_mul_self];omega
  omega
 unfold pieceIn
 rw [hn]
 have e1:A1*x+B1=2*((x-e.x0)*(e.y1-e.y0)-(y-e.y0)*(e.x1-e.x0)):=by rw [hA1,hB1];grind
 have e2:A2*x+B2=2*((x-e.x0)*(e.x1-e.x0)+(y-e.y0)*(e.y1-e.y0)):=by rw [hA2,hB2];grind
 rw [e1,e2,hL]
 clear e1 e2 hA1 hB1 hA2 hB2 hL hn
 generalize (x-e.x0)*(e.y1-e.y0)-(y-e.y0)*(e.x1-e.x0)=k
 generalize (x-e.x0)*(e.x1-e.x0)+(y-e.y0)*(e.y1-e.y0)=u
 generalize (e.x1-e.x0)*(e.x1-e.x0)+(e.y1-e.y0)*(e.y1-e.y0)=q at *
 have f1:=far_iff h1 h2 (2*k)
 have f2:=far_iff h1 h2 (2*u)
 have f3:=far_iff h1 h2 (2*(u-q))
 rw [show 2*k*(2*k)=4*(k*k) by grind] at f1
 rw [show 2*u*(2*u)=4*(u*u) by grind] at f2
 rw [show 2*(u-q)*(2*(u-q))=4*((u-q)*(u-q)) by grind] at f3
 simp only [Bool.and_eq_true,Bool.or_eq_true,decide_eq_true_eq]
 rw [f1,f2,f3]
 cases f <;> cases l <;> simp <;> omega
theorem pieceEnds {x lo hi l1 h1:Int} {A B C:Prop} (e1:(l1≤x∧x≤h1) ↔ (-8191≤x∧x≤8191)∧A) (e2:(lo≤x∧x≤hi) ↔ (l1≤x∧x≤h1)∧B) (e3:A∧B ↔ C) (hx1 : -8191≤x) (hx2:x≤8191):(lo≤x∧x≤hi) ↔ C:=by
 rw [e2,e1,←e3]
 exact ⟨fun h=>⟨h.1.2,h.2⟩,fun h=>⟨⟨⟨hx1,hx2⟩,h.1⟩,h.2⟩⟩
set_option maxRecDepth 100000 in
set_option maxHeartbeats 8000000 in
theorem hemPiece_calls (x0 y0:Int) (bt:Bool) (cx cy x1 y1 wide:Int) (f l:Bool) (y:Int) (hx0 : -8191≤x0∧x0≤8191) (hy0 : -8191≤y0∧y0≤8191) (hx1 : -8191≤x1∧x1≤8191) (hy1 : -8191≤y1∧y1≤8191) (hw:0≤wide∧wide≤2048) (hy : -8191≤y∧y≤8191) (w:World) :
  Calls Tryz.prog 209 #[.agg #[.int .i64 x0,.int .i64 y0,.bool bt,.int .i64 cx,.int .i64 cy,.int .i64 x1,.int .i64 y1,.int .i64 wide,.bool f,.bool l,.func (.func 209) #[] #[]],.int .i64 y] w (CovOut ⟨⟨x0,y0,bt,cx,cy,x1,y1⟩,wide,f,l,0⟩ y w):=by
 have hL:=Holds.start w
 have hp:∀ {n r:Nat} (hn:wide*wide*((x1-x0)*(x1-x0)+(y1-y0)*(y1-y0))=(n:Int)) (h1:r*r≤n) (h2:n<(r+1)*(r+1)) (x:Int),
   ((-(r:Int)≤(2*(y1-y0))*x+(-2*x0*(y1-y0)-2*(y-y0)*(x1-x0))∧(2*(y1-y0))*x+(-2*x0*(y1-y0)-2*(y-y0)*(x1-x0))≤r)∧((if f then -(r:Int) else 0)≤(2*(x1-x0))*x+(-2*x0*(x1-x0)+2*(y-y0)*(y1-y0))∧(2*(x1-x0))*x+(-2*x0*(x1-x0)+2*(y-y0)*(y1-y0))≤2*((x1-x0)*(x1-x0)+(y1-y0)*(y1-y0))+(if l then (r:Int) else 0))) ↔ covS ⟨⟨x0,y0,bt,cx,cy,x1,y1⟩,wide,f,l,0⟩ x y=true :=
  fun hn h1 h2 x=>piece_slot (e:=⟨x0,y0,bt,cx,cy,x1,y1⟩) (f:=f) (l:=l) hn h1 h2 rfl rfl rfl rfl rfl
 have wX:IntKind.i64.wrap (x1-x0)=x1-x0:=by rw [IntKind.wrap_i64];omega
 have wY:IntKind.i64.wrap (y1-y0)=y1-y0:=by rw [IntKind.wrap_i64];omega
 have wV:IntKind.i64.wrap (y-y0)=y-y0:=by rw [IntKind.wrap_i64];omega
 have bX : -16382≤x1-x0∧x1-x0≤16382:=by omega
 have bY : -16382≤y1-y0∧y1-y0≤16382:=by omega
 have bV : -16382≤y-y0∧y-y0≤16382:=by omega
 generalize hDX:x1-x0=DX at *
 generalize hDY:y1-y0=DY at *
 generalize hVY:y-y0=VY at *
 have bXX:=mul_bd bX.1 bX.2 bX.1 bX.2
 have bYY:=mul_bd bY.1 bY.2 bY.1 bY.2
 have nXX:0≤DX*DX:=by rw [←Int.natAbs_mul_self];omega
 have nYY:0≤DY*DY:=by rw [←Int.natAbs_mul_self];omega
 have b1' : -16382 ≤ -2*x0 ∧ -2*x0≤16382:=by omega
 have b2' : -32764≤2*VY∧2*VY≤32764:=by omega
 have q1:=mul_bd b1'.1 b1'.2 bY.1 bY.2
 have q2:=mul_bd b2'.1 b2'.2 bX.1 bX.2
 have q3:=mul_bd b1'.1 b1'.2 bX.1 bX.2
 have q4:=mul_bd b2'.1 b2'.2 bY.1 bY.2
 have bWW:=mul_bd (a:=wide) (b:=wide) (A:=2048) (B:=2048) (by omega) (by omega) (by omega) (by omega)
 have nWW:0≤wide*wide:=by rw [←Int.natAbs_mul_self];omega
 generalize hXX:DX*DX=XX at *
 generalize hYY:DY*DY=YY at *
 generalize hWW:wide*wide=WW at *
 have bN:=mul_bd (a:=WW) (b:=XX+YY) (A:=4194304) (B:=536739848) (by omega) (by omega) (by omega) (by omega)
 have nN:0≤WW*(XX+YY):=Int.mul_nonneg nWW (by omega)
 obtain ⟨n,hn⟩:=Int.eq_ofNat_of_zero_le nN
 generalize hp1 : -2*x0*DY=p1 at *
 generalize hp2:2*VY*DX=p2 at *
 generalize hp3 : -2*x0*DX=p3 at *
 generalize hp4:2*VY*DY=p4 at *
 rw [hn] at bN
 have hn63:n<9223372036854775808:=by omega
 have HP:=Lib.hid (fun (r:Nat)=>hp (n:=n) (r:=r) hn)
 clear hp nN
 cases f <;> cases l
 ·have hXm:True:=trivial
  obtain ⟨n1,n2,n3⟩:=tok3
  go_enter Tryz.func209,Tryz.ntmps209
  go_wp2_with (first|(with_reducible first|(clear hL n1;intro b1 w1 hL)|(clear hL n2;intro b2 w2 hL)|(clear hL;intro _ hL))|((with_reducible refine goJ rfl ?_);refine goW ?_))
  replace hL:=hL.drew
  have hS:(fun w':World=>w'.rangeAt b1 0 [.int .i64 x0,.int .i64 y0,.bool bt,.int .i64 cx,.int .i64 cy,.int .i64 x1,.int .i64 y1,.int .i64 wide,.bool false,.bool false,.func (.func 209) #[] #[]]) _:=hL.range (by (repeat (first|with_reducible exact At.here|with_reducible apply At.there)))
  refine wpH_begin (by kernel_rfl) (fun w':World=>w'.rangeAt b1 0 [.int .i64 x0,.int .i64 y0,.bool bt,.int .i64 cx,.int .i64 cy,.int .i64 x1,.int .i64 y1,.int .i64 wide,.bool false,.bool false,.func (.func 209) #[] #[]]) ?_
  refine dsH 0 (.pointer (some ⟨b1,0,none⟩)) hS ?_
  refine dsH 1 (.pointer (some ⟨b1,5,none⟩)) hS ?_
  refine drH 2 (.int .i64 x1) hS ?_ ?_;(· exact fun w' hw=>(load_cell (hw 5 _ rfl)))
  refine dsH 3 (.pointer (some ⟨b1,0,none⟩)) hS ?_
  refine dsH 4 (.pointer (some ⟨b1,0,none⟩)) hS ?_
  refine drH 5 (.int .i64 x0) hS ?_ ?_;(· exact fun w' hw=>(load_cell (hw 0 _ rfl)))
  refine dsH 6 (.int .i64 DX) hS ?_
  refine dsH 7 (.pointer (some ⟨b1,0,none⟩)) hS ?_
  refine dsH 8 (.pointer (some ⟨b1,6,none⟩)) hS ?_
  refine drH 9 (.int .i64 y1) hS ?_ ?_;(· exact fun w' hw=>(load_cell (hw 6 _ rfl)))
  refine dsH 10 (.pointer (some ⟨b1,0,none⟩)) hS ?_
  refine dsH 11 (.pointer (some ⟨b1,1,none⟩)) hS ?_
  refine drH 12 (.int .i64 y0) hS ?_ ?_;(· exact fun w' hw=>(load_cell (hw 1 _ rfl)))
  refine dsH 13 (.int .i64 DY) hS ?_
  refine dsH 14 (.int .i64 y) hS ?_
  refine dsH 15 (.pointer (some ⟨b1,0,none⟩)) hS ?_
  refine dsH 16 (.pointer (some ⟨b1,1,none⟩)) hS ?_
  refine drH 17 (.int .i64 y0) hS ?_ ?_;(· exact fun w' hw=>(load_cell (hw 1 _ rfl)))
  refine dsH 18 (.int .i64 VY) hS ?_
  refine dsH 19 (.int .i64 DX) hS ?_
  refine dsH 20 (.int .i64 DY) hS ?_
  refine dsH 21 (.int .i64 VY) hS ?_
  refine wpAnyH_done (by kernel_rfl) ?_ _
  clear hS
  go_wp2_with (first|(go_at_call 216;(with_reducible refine (rootFloor_calls n (by omega) _).mono ?_);rintro e _ ⟨⟨r,rfl,hr1,hr2,hr3⟩,hb⟩;have HQ:=Lib.hid (HP.out r hr1 hr2);clear hr1 hr2;replace hL:=hL.call hb;clear hb)|(go_at_call 217;(with_reducible refine (within_calls _ _ _ _ _ _ ?_ ?_ ?_ ?_ ?_ _).mono ?_);(· first|exact hsb|exact ⟨by omega,by omega,by omega,by omega⟩);(· omega);(· omega);(· omega);(· omega);rintro e _ ⟨⟨lo,hi,rfl,hsb,hx⟩,hb⟩;(first|(have HX1:=Lib.hid hx;clear hx hXm)|(have HX2:=Lib.hid hx;clear hx));replace hL:=hL.call hb;clear hb)|(with_reducible first|(clear hL n3;intro b3 w3 hL)|(clear hL;intro _ hL))|((with_reducible refine goJ rfl ?_);refine goW ?_))
  exact bodyPost_ret (results_row inferInstance rfl _ hL b2 rfl _ _ (by (repeat (first|with_reducible exact At.here|with_reducible apply At.there))) rfl) rfl ⟨⟨_,_,rfl,hsb,fun x hx1 hx2=>pieceEnds (HX1.out x) (HX2.out x) (by have h:=HQ.out x;simp only [Bool.false_eq_true,if_false,Int.add_zero] at h;exact h) hx1 hx2⟩,hL.below⟩
 ·have hXm:True:=trivial
  obtain ⟨n1,n2,n3⟩:=tok3
  go_enter Tryz.func209,Tryz.ntmps209
  go_wp2_with (first|(with_reducible first|(clear hL n1;intro b1 w1 hL)|(clear hL n2;intro b2 w2 hL)|(clear hL;intro _ hL))|((with_reducible refine goJ rfl ?_);refine goW ?_))
  replace hL:=hL.drew
  have hS:(fun w':World=>w'.rangeAt b1 0 [.int .i64 x0,.int .i64 y0,.bool bt,.int .i64 cx,.int .i64 cy,.int .i64 x1,.int .i64 y1,.int .i64 wide,.bool false,.bool true,.func (.func 209) #[] #[]]) _:=hL.range (by (repeat (first|with_reducible exact At.here|with_reducible apply At.there)))
  refine wpH_begin (by kernel_rfl) (fun w':World=>w'.rangeAt b1 0 [.int .i64 x0,.int .i64 y0,.bool bt,.int .i64 cx,.int .i64 cy,.int .i64 x1,.int .i64 y1,.int .i64 wide,.bool false,.bool true,.func (.func 209) #[] #[]]) ?_
  refine dsH 0 (.pointer (some ⟨b1,0,none⟩)) hS ?_
  refine dsH 1 (.pointer (some ⟨b1,5,none⟩)) hS ?_
  refine drH 2 (.int .i64 x1) hS ?_ ?_;(· exact fun w' hw=>(load_cell (hw 5 _ rfl)))
  refine dsH 3 (.pointer (some ⟨b1,0,none⟩)) hS ?_
  refine dsH 4 (.pointer (some ⟨b1,0,none⟩)) hS ?_
  refine drH 5 (.int .i64 x0) hS ?_ ?_;(· exact fun w' hw=>(load_cell (hw 0 _ rfl)))
  refine dsH 6 (.int .i64 DX) hS ?_
  refine dsH 7 (.pointer (some ⟨b1,0,none⟩)) hS ?_
  refine dsH 8 (.pointer (some ⟨b1,6,none⟩)) hS ?_
  refine drH 9 (.int .i64 y1) hS ?_ ?_;(· exact fun w' hw=>(load_cell (hw 6 _ rfl)))
  refine dsH 10 (.pointer (some ⟨b1,0,none⟩)) hS ?_
  refine dsH 11 (.pointer (some ⟨b1,1,none⟩)) hS ?_
  refine drH 12 (.int .i64 y0) hS ?_ ?_;(· exact fun w' hw=>(load_cell (hw 1 _ rfl)))
  refine dsH 13 (.int .i64 DY) hS ?_
  refine dsH 14 (.int .i64 y) hS ?_
  refine dsH 15 (.pointer (some ⟨b1,0,none⟩)) hS ?_
  refine dsH 16 (.pointer (some ⟨b1,1,none⟩)) hS ?_
  refine drH 17 (.int .i64 y0) hS ?_ ?_;(· exact fun w' hw=>(load_cell (hw 1 _ rfl)))
  refine dsH 18 (.int .i64 VY) hS ?_
  refine dsH 19 (.int .i64 DX) hS ?_
  refine dsH 20 (.int .i64 DY) hS ?_
  refine dsH 21 (.int .i64 VY) hS ?_
  refine wpAnyH_done (by kernel_rfl) ?_ _
  clear hS
  go_wp2_with (first|(go_at_call 216;(with_reducible refine (rootFloor_calls n (by omega) _).mono ?_);rintro e _ ⟨⟨r,rfl,hr1,hr2,hr3⟩,hb⟩;have HQ:=Lib.hid (HP.out r hr1 hr2);clear hr1 hr2;replace hL:=hL.call hb;clear hb)|(go_at_call 217;(with_reducible refine (within_calls _ _ _ _ _ _ ?_ ?_ ?_ ?_ ?_ _).mono ?_);(· first|exact hsb|exact ⟨by omega,by omega,by omega,by omega⟩);(· omega);(· omega);(· omega);(· omega);rintro e _ ⟨⟨lo,hi,rfl,hsb,hx⟩,hb⟩;(first|(have HX1:=Lib.hid hx;clear hx hXm)|(have HX2:=Lib.hid hx;clear hx));replace hL:=hL.call hb;clear hb)|(with_reducible first|(clear hL n3;intro b3 w3 hL)|(clear hL;intro _ hL))|((with_reducible refine goJ rfl ?_);refine goW ?_))
  exact bodyPost_ret (results_row inferInstance rfl _ hL b2 rfl _ _ (by (repeat (first|with_reducible exact At.here|with_reducible apply At.there))) rfl) rfl ⟨⟨_,_,rfl,hsb,fun x hx1 hx2=>pieceEnds (HX1.out x) (HX2.out x) (HQ.out x) hx1 hx2⟩,hL.below⟩
 ·have hXm:True:=trivial
  obtain ⟨n1,n2,n3⟩:=tok3
  go_enter Tryz.func209,Tryz.ntmps209
  go_wp2_with (first|(with_reducible first|(clear hL n1;intro b1 w1 hL)|(clear hL n2;intro b2 w2 hL)|(clear hL;intro _ hL))|((with_reducible refine goJ rfl ?_);refine goW ?_))
  replace hL:=hL.drew
  have hS:(fun w':World=>w'.rangeAt b1 0 [.int .i64 x0,.int .i64 y0,.bool bt,.int .i64 cx,.int .i64 cy,.int .i64 x1,.int .i64 y1,.int .i64 wide,.bool true,.bool false,.func (.func 209) #[] #[]]) _:=hL.range (by (repeat (first|with_reducible exact At.here|with_reducible apply At.there)))
  refine wpH_begin (by kernel_rfl) (fun w':World=>w'.rangeAt b1 0 [.int .i64 x0,.int .i64 y0,.bool bt,.int .i64 cx,.int .i64 cy,.int .i64 x1,.int .i64 y1,.int .i64 wide,.bool true,.bool false,.func (.func 209) #[] #[]]) ?_
  refine dsH 0 (.pointer (some ⟨b1,0,none⟩)) hS ?_
  refine dsH 1 (.pointer (some ⟨b1,5,none⟩)) hS ?_
  refine drH 2 (.int .i64 x1) hS ?_ ?_;(· exact fun w' hw=>(load_cell (hw 5 _ rfl)))
  refine dsH 3 (.pointer (some ⟨b1,0,none⟩)) hS ?_
  refine dsH 4 (.pointer (some ⟨b1,0,none⟩)) hS ?_
  refine drH 5 (.int .i64 x0) hS ?_ ?_;(· exact fun w' hw=>(load_cell (hw 0 _ rfl)))
  refine dsH 6 (.int .i64 DX) hS ?_
  refine dsH 7 (.pointer (some ⟨b1,0,none⟩)) hS ?_
  refine dsH 8 (.pointer (some ⟨b1,6,none⟩)) hS ?_
  refine drH 9 (.int .i64 y1) hS ?_ ?_;(· exact fun w' hw=>(load_cell (hw 6 _ rfl)))
  refine dsH 10 (.pointer (some ⟨b1,0,none⟩)) hS ?_
  refine dsH 11 (.pointer (some ⟨b1,1,none⟩)) hS ?_
  refine drH 12 (.int .i64 y0) hS ?_ ?_;(· exact fun w' hw=>(load_cell (hw 1 _ rfl)))
  refine dsH 13 (.int .i64 DY) hS ?_
  refine dsH 14 (.int .i64 y) hS ?_
  refine dsH 15 (.pointer (some ⟨b1,0,none⟩)) hS ?_
  refine dsH 16 (.pointer (some ⟨b1,1,none⟩)) hS ?_
  refine drH 17 (.int .i64 y0) hS ?_ ?_;(· exact fun w' hw=>(load_cell (hw 1 _ rfl)))
  refine dsH 18 (.int .i64 VY) hS ?_
  refine dsH 19 (.int .i64 DX) hS ?_
  refine dsH 20 (.int .i64 DY) hS ?_
  refine dsH 21 (.int .i64 VY) hS ?_
  refine wpAnyH_done (by kernel_rfl) ?_ _
  clear hS
  go_wp2_with (first|(go_at_call 216;(with_reducible refine (rootFloor_calls n (by omega) _).mono ?_);rintro e _ ⟨⟨r,rfl,hr1,hr2,hr3⟩,hb⟩;have HQ:=Lib.hid (HP.out r hr1 hr2);clear hr1 hr2;replace hL:=hL.call hb;clear hb)|(go_at_call 217;(with_reducible refine (within_calls _ _ _ _ _ _ ?_ ?_ ?_ ?_ ?_ _).mono ?_);(· first|exact hsb|exact ⟨by omega,by omega,by omega,by omega⟩);(· omega);(· omega);(· omega);(· omega);rintro e _ ⟨⟨lo,hi,rfl,hsb,hx⟩,hb⟩;(first|(have HX1:=Lib.hid hx;clear hx hXm)|(have HX2:=Lib.hid hx;clear hx));replace hL:=hL.call hb;clear hb)|(with_reducible first|(clear hL n3;intro b3 w3 hL)|(clear hL;intro _ hL))|((with_reducible refine goJ rfl ?_);refine goW ?_))
  exact bodyPost_ret (results_row inferInstance rfl _ hL b2 rfl _ _ (by (repeat (first|with_reducible exact At.here|with_reducible apply At.there))) rfl) rfl ⟨⟨_,_,rfl,hsb,fun x hx1 hx2=>pieceEnds (HX1.out x) (HX2.out x) (by have h:=HQ.out x;simp only [Bool.false_eq_true,if_false,Int.add_zero] at h;exact h) hx1 hx2⟩,hL.below⟩
 ·have hXm:True:=trivial
  obtain ⟨n1,n2,n3⟩:=tok3
  go_enter Tryz.func209,Tryz.ntmps209
  go_wp2_with (first|(with_reducible first|(clear hL n1;intro b1 w1 hL)|(clear hL n2;intro b2 w2 hL)|(clear hL;intro _ hL))|((with_reducible refine goJ rfl ?_);refine goW ?_))
  replace hL:=hL.drew
  have hS:(fun w':World=>w'.rangeAt b1 0 [.int .i64 x0,.int .i64 y0,.bool bt,.int .i64 cx,.int .i64 cy,.int .i64 x1,.int .i64 y1,.int .i64 wide,.bool true,.bool true,.func (.func 209) #[] #[]]) _:=hL.range (by (repeat (first|with_reducible exact At.here|with_reducible apply At.there)))
  refine wpH_begin (by kernel_rfl) (fun w':World=>w'.rangeAt b1 0 [.int .i64 x0,.int .i64 y0,.bool bt,.int .i64 cx,.int .i64 cy,.int .i64 x1,.int .i64 y1,.int .i64 wide,.bool true,.bool true,.func (.func 209) #[] #[]]) ?_
  refine dsH 0 (.pointer (some ⟨b1,0,none⟩)) hS ?_
  refine dsH 1 (.pointer (some ⟨b1,5,none⟩)) hS ?_
  refine drH 2 (.int .i64 x1) hS ?_ ?_;(· exact fun w' hw=>(load_cell (hw 5 _ rfl)))
  refine dsH 3 (.pointer (some ⟨b1,0,none⟩)) hS ?_
  refine dsH 4 (.pointer (some ⟨b1,0,none⟩)) hS ?_
  refine drH 5 (.int .i64 x0) hS ?_ ?_;(· exact fun w' hw=>(load_cell (hw 0 _ rfl)))
  refine dsH 6 (.int .i64 DX) hS ?_
  refine dsH 7 (.pointer (some ⟨b1,0,none⟩)) hS ?_
  refine dsH 8 (.pointer (some ⟨b1,6,none⟩)) hS ?_
  refine drH 9 (.int .i64 y1) hS ?_ ?_;(· exact fun w' hw=>(load_cell (hw 6 _ rfl)))
  refine dsH 10 (.pointer (some ⟨b1,0,none⟩)) hS ?_
  refine dsH 11 (.pointer (some ⟨b1,1,none⟩)) hS ?_
  refine drH 12 (.int .i64 y0) hS ?_ ?_;(· exact fun w' hw=>(load_cell (hw 1 _ rfl)))
  refine dsH 13 (.int .i64 DY) hS ?_
  refine dsH 14 (.int .i64 y) hS ?_
  refine dsH 15 (.pointer (some ⟨b1,0,none⟩)) hS ?_
  refine dsH 16 (.pointer (some ⟨b1,1,none⟩)) hS ?_
  refine drH 17 (.int .i64 y0) hS ?_ ?_;(· exact fun w' hw=>(load_cell (hw 1 _ rfl)))
  refine dsH 18 (.int .i64 VY) hS ?_
  refine dsH 19 (.int .i64 DX) hS ?_
  refine dsH 20 (.int .i64 DY) hS ?_
  refine dsH 21 (.int .i64 VY) hS ?_
  refine wpAnyH_done (by kernel_rfl) ?_ _
  clear hS
  go_wp2_with (first|(go_at_call 216;(with_reducible refine (rootFloor_calls n (by omega) _).mono ?_);rintro e _ ⟨⟨r,rfl,hr1,hr2,hr3⟩,hb⟩;have HQ:=Lib.hid (HP.out r hr1 hr2);clear hr1 hr2;replace hL:=hL.call hb;clear hb)|(go_at_call 217;(with_reducible refine (within_calls _ _ _ _ _ _ ?_ ?_ ?_ ?_ ?_ _).mono ?_);(· first|exact hsb|exact ⟨by omega,by omega,by omega,by omega⟩);(· omega);(· omega);(· omega);(· omega);rintro e _ ⟨⟨lo,hi,rfl,hsb,hx⟩,hb⟩;(first|(have HX1:=Lib.hid hx;clear hx hXm)|(have HX2:=Lib.hid hx;clear hx));replace hL:=hL.call hb;clear hb)|(with_reducible first|(clear hL n3;intro b3 w3 hL)|(clear hL;intro _ hL))|((with_reducible refine goJ rfl ?_);refine goW ?_))
  exact bodyPost_ret (results_row inferInstance rfl _ hL b2 rfl _ _ (by (repeat (first|with_reducible exact At.here|with_reducible apply At.there))) rfl) rfl ⟨⟨_,_,rfl,hsb,fun x hx1 hx2=>pieceEnds (HX1.out x) (HX2.out x) (HQ.out x) hx1 hx2⟩,hL.below⟩
open Go.RowKit
theorem half_tdiv (r:Nat):(r:Int).tdiv 2=((r:Int) / 2):=by
 rw [Int.tdiv_eq_ediv_of_nonneg (by omega)]
set_option maxRecDepth 100000 in
set_option maxHeartbeats 8000000 in
theorem hemDisc_calls (x0 y0:Int) (bt:Bool) (cx cy x1 y1 wide:Int) (f l:Bool) (y:Int) (hx0 : -8191≤x0∧x0≤8191) (hy0 : -8191≤y0∧y0≤8191) (hw:0≤wide∧wide≤2048) (hy : -8191≤y∧y≤8191) (w:World) :
  Calls Tryz.prog 207 #[.agg #[.int .i64 x0,.int .i64 y0,.bool bt,.int .i64 cx,.int .i64 cy,.int .i64 x1,.int .i64 y1,.int .i64 wide,.bool f,.bool l,.func (.func 207) #[] #[]],.int .i64 y] w (CovOut ⟨⟨x0,y0,bt,cx,cy,x1,y1⟩,wide,f,l,1⟩ y w):=by
 have hL:=Holds.start w
 have hc:∀ x,covS ⟨⟨x0,y0,bt,cx,cy,x1,y1⟩,wide,f,l,1⟩ x y=true ↔ 4*((x-x0)*(x-x0))≤wide*wide-4*(y-y0)*(y-y0):=by
  intro x
  unfold covS discIn
  simp only [show (1:Nat)=0 ↔ False by decide,if_false,if_true,decide_eq_true_eq]
  rw [Int.mul_add,←Int.mul_assoc 4 (y-y0)]
  omega
 have wV:IntKind.i64.wrap (y-y0)=y-y0:=by rw [IntKind.wrap_i64];omega
 have bV : -16382≤y-y0∧y-y0≤16382:=by omega
 generalize hVY:y-y0=VY at *
 have b4 : -65528≤4*VY∧4*VY≤65528:=by omega
 have bQ:=mul_bd b4.1 b4.2 bV.1 bV.2
 have bWW:=mul_bd (a:=wide) (b:=wide) (A:=2048) (B:=2048) (by omega) (by omega) (by omega) (by omega)
 have nn:∀ t:Int,0≤t*t:=fun t=>by rw [←Int.natAbs_mul_self];omega
 generalize hWW:wide*wide=WW at *
 generalize hQ:4*VY*VY=Q at *
 rcases (by omega:WW-Q<0∨0≤WW-Q) with h|h
 ·have HC:=Lib.hid (show ∀ x,-8191≤x→x≤8191→(((1:Int)≤x∧x≤0) ↔ covS ⟨⟨x0,y0,bt,cx,cy,x1,y1⟩,wide,f,l,1⟩ x y=true) by
   intro x _ _
   rw [hc x]
   have:=nn (x-x0)
   omega)
  clear hc nn
  obtain ⟨n1,n2,n3⟩:=tok3
  go_enter Tryz.func207,Tryz.ntmps207
  go_wp2_with (first|(go_at_call 215;(with_reducible refine (none_calls _).mono ?_);rintro e _ ⟨rfl,hb⟩;replace hL:=hL.call hb;clear hb)|(with_reducible first|(clear hL n1;intro b1 w1 hL)|(clear hL n2;intro b2 w2 hL)|(clear hL;intro _ hL))|((with_reducible refine goJ rfl ?_);refine goW ?_))
  exact bodyPost_ret (results_row inferInstance rfl _ hL b2 rfl _ _ (by (repeat (first|with_reducible exact At.here|with_reducible apply At.there))) rfl) rfl ⟨⟨_,_,rfl,⟨by omega,by omega,by omega,by omega⟩,HC.out⟩,hL.below⟩
 ·obtain ⟨n,hn⟩:=Int.eq_ofNat_of_zero_le h
  have HC:=Lib.hid (show ∀ r:Nat,r*r≤n→n<(r+1)*(r+1)→∀ x,-8191≤x→x≤8191→((x0-((r:Int) / 2)≤x∧x≤x0+((r:Int) / 2)) ↔ covS ⟨⟨x0,y0,bt,cx,cy,x1,y1⟩,wide,f,l,1⟩ x y=true) by
   intro r h1 h2 x _ _
   rw [hc x,hn]
   have:=far_iff h1 h2 (2*(x-x0))
   rw [show 2*(x-x0)*(2*(x-x0))=4*((x-x0)*(x-x0)) by grind] at this
   rw [this]
   omega)
  clear hc nn
  obtain ⟨n1,n2,n3⟩:=tok3
  go_enter Tryz.func207,Tryz.ntmps207
  go_wp2_with (first|(go_at_call 216;(with_reducible refine (rootFloor_calls n (by omega) _).mono ?_);rintro e _ ⟨⟨r,rfl,hr1,hr2,hr3⟩,hb⟩;have HQ:=Lib.hid (HC.out r hr1 hr2);clear hr1 hr2;have ht:=half_tdiv r;replace hL:=hL.call hb;clear hb)|(with_reducible first|(clear hL n1;intro b1 w1 hL)|(clear hL n2;intro b2 w2 hL)|(clear hL;intro _ hL))|((with_reducible refine goJ rfl ?_);refine goW ?_))
  exact bodyPost_ret (results_row inferInstance rfl _ hL b2 rfl _ _ (by (repeat (first|with_reducible exact At.here|with_reducible apply At.there))) rfl) rfl ⟨⟨_,_,rfl,⟨by omega,by omega,by omega,by omega⟩,HQ.out⟩,hL.below⟩
set_option maxRecDepth 100000 in
set_option maxHeartbeats 8000000 in
theorem hemSquare_calls (x0 y0:Int) (bt:Bool) (cx cy x1 y1 wide:Int) (f l:Bool) (y:Int) (hx0 : -8191≤x0∧x0≤8191) (hy0 : -8191≤y0∧y0≤8191) (hw:0≤wide∧wide≤2048) (hy : -8191≤y∧y≤8191) (w:World) :
  Calls Tryz.prog 208 #[.agg #[.int .i64 x0,.int .i64 y0,.bool bt,.int .i64 cx,.int .i64 cy,.int .i64 x1,.int .i64 y1,.int .i64 wide,.bool f,.bool l,.func (.func 208) #[] #[]],.int .i64 y] w (CovOut ⟨⟨x0,y0,bt,cx,cy,x1,y1⟩,wide,f,l,2⟩ y w):=by
 have hL:=Holds.start w
 have hc:∀ x,covS ⟨⟨x0,y0,bt,cx,cy,x1,y1⟩,wide,f,l,2⟩ x y=true ↔ (2*(x-x0)≤wide∧2*(x0-x)≤wide)∧(2*(y-y0)≤wide∧2*(y0-y)≤wide):=by
  intro x
  unfold covS squareIn
  simp
 obtain ⟨wd,rfl⟩:=Int.eq_ofNat_of_zero_le hw.1
 have ht:=half_tdiv wd
 obtain ⟨m,hm⟩:∃ m,max (2*(y-y0)) (-2*(y-y0))=m:=⟨_,rfl⟩
 rcases (by omega:(wd:Int)<m∨¬(wd:Int)<m) with h|h
 ·have HC:=Lib.hid (show ∀ x,-8191≤x→x≤8191→(((1:Int)≤x∧x≤0) ↔ covS ⟨⟨x0,y0,bt,cx,cy,x1,y1⟩,wd,f,l,2⟩ x y=true) by
   intro x _ _
   rw [hc x]
   omega)
  clear hc
  obtain ⟨n1,n2,n3⟩:=tok3
  go_enter Tryz.func208,Tryz.ntmps208
  go_wp2_with (first|(go_at_call 215;(with_reducible refine (none_calls _).mono ?_);rintro e _ ⟨rfl,hb⟩;replace hL:=hL.call hb;clear hb)|(with_reducible first|(clear hL n1;intro b1 w1 hL)|(clear hL n2;intro b2 w2 hL)|(clear hL;intro _ hL))|((with_reducible refine goJ rfl ?_);refine goW ?_))
  exact bodyPost_ret (results_row inferInstance rfl _ hL b2 rfl _ _ (by (repeat (first|with_reducible exact At.here|with_reducible apply At.there))) rfl) rfl ⟨⟨_,_,rfl,⟨by omega,by omega,by omega,by omega⟩,HC.out⟩,hL.below⟩
 ·have HC:=Lib.hid (show ∀ x,-8191≤x→x≤8191→((x0-((wd:Int) / 2)≤x∧x≤x0+((wd:Int) / 2)) ↔ covS ⟨⟨x0,y0,bt,cx,cy,x1,y1⟩,wd,f,l,2⟩ x y=true) by
   intro x _ _
   rw [hc x]
   omega)
  clear hc
  obtain ⟨n1,n2,n3⟩:=tok3
  go_enter Tryz.func208,Tryz.ntmps208
  go_wp2_with (first|(with_reducible first|(clear hL n1;intro b1 w1 hL)|(clear hL n2;intro b2 w2 hL)|(clear hL;intro _ hL))|((with_reducible refine goJ rfl ?_);refine goW ?_))
  exact bodyPost_ret (results_row inferInstance rfl _ hL b2 rfl _ _ (by (repeat (first|with_reducible exact At.here|with_reducible apply At.there))) rfl) rfl ⟨⟨_,_,rfl,⟨by omega,by omega,by omega,by omega⟩,HC.out⟩,hL.below⟩
theorem ends_calls (s:Shp) (hg:GoodS s) (y:Int) (hy : -8191≤y∧y≤8191) (w:World):Calls Tryz.prog (fnK s.kind) #[.agg (shpC s).toArray,.int .i64 y] w (CovOut s y w):=by
 obtain ⟨⟨x0,y0,bt,cx,cy,x1,y1⟩,wide,f,l,k⟩:=s
 obtain ⟨⟨⟨h1,h2⟩,h3,h4⟩,hw,hk⟩:=hg
 dsimp only at *
 rcases (by omega:k=0∨k=1∨k=2) with rfl|rfl|rfl
 ·exact hemPiece_calls x0 y0 bt cx cy x1 y1 wide f l y h1 h2 h3 h4 hw hy w
 ·exact hemDisc_calls x0 y0 bt cx cy x1 y1 wide f l y h1 h2 hw hy w
 ·exact hemSquare_calls x0 y0 bt cx cy x1 y1 wide f l y h1 h2 hw hy w
open Go.RowKit
set_option maxRecDepth 100000 in
set_option maxHeartbeats 8000000 in
theorem hemPieces_calls (w:World) (v:Value) (c:Ct) (hv:EdgesAt w v c.edges) (hlen:c.edges.length≤300):Calls Tryz.prog 205 #[.agg #[.int .i64 c.x,.int .i64 c.y,v,.bool c.shut]] w (EdgesOut (piecesC c) w):=by
 obtain ⟨ea,ec,rfl,hlc,hcm,hel⟩:=EdgesAt.parts hv
 clear hv
 unfold maxLen at hcm
 have Hel:=Lib.hid hel;clear hel
 have hL:=Holds.start w
 have HPc:Hid (piecesC c=(c.edges.take c.edges.length).filter goes++shutE c):=Lib.hid (by rw [List.take_length];rfl)
 have HSh:Hid (shutE c=if c.shut∧((posE c.x c.y (c.edges.take c.edges.length)).1≠c.x∨(posE c.x c.y (c.edges.take c.edges.length)).2≠c.y) then [⟨(posE c.x c.y (c.edges.take c.edges.length)).1,(posE c.x c.y (c.edges.take c.edges.length)).2,false,0,0,c.x,c.y⟩] else []):=Lib.hid (by rw [List.take_length];rfl)
 generalize piecesC c=R at *
 generalize shutE c=SE at *
 obtain ⟨cx,cy,es,sh⟩:=c
 dsimp only at *
 have n1:True:=trivial
 go_enter Tryz.func205,Tryz.ntmps205
 go_wp2_with (first|(with_reducible (clear hL n1;intro b1 w1 hL))|((with_reducible refine wpA_lit rfl _ _ _ rfl ?_);first|refine litA1 hL ?_|refine litA2 hL ?_|refine litA3 hL ?_|refine litA4 hL ?_|refine litA6 hL ?_)|((with_reducible refine goJ rfl ?_);refine goW ?_))
 replace hL:=hL.drew
 have hS:(fun w':World=>w'.rangeAt b1 0 [.int .i64 cx,.int .i64 cy,.slice ea es.length ec,.bool sh]) _:=hL.range (by (repeat (first|with_reducible exact At.here|with_reducible apply At.there)))
 refine wpH_begin (by kernel_rfl) (fun w':World=>w'.rangeAt b1 0 [.int .i64 cx,.int .i64 cy,.slice ea es.length ec,.bool sh]) ?_
 refine dsH 0 (.pointer (some ⟨b1,0,none⟩)) hS ?_
 refine drH 1 (.int .i64 cx) hS ?_ ?_;(· exact fun w' hw=>(load_cell (hw 0 _ rfl)))
 refine dsH 2 (.pointer (some ⟨b1,1,none⟩)) hS ?_
 refine drH 3 (.int .i64 cy) hS ?_ ?_;(· exact fun w' hw=>(load_cell (hw 1 _ rfl)))
 refine dsH 4 (.int .i64 cx) hS ?_
 refine dsH 5 (.int .i64 cy) hS ?_
 refine wpAnyH_done (by kernel_rfl) ?_ _
 clear hS
 go_wp2_with (refine wpA_load rfl _ _ rfl _ rfl ?_;refine loadA hL ?_)
 go_loopw [3,4,5,15] (fun s3 s4 s5 s15 wr=>∃ (k:Nat) (acc:List Edg) (x y:Int),k≤es.length∧s15=.int .i64 k∧s4=.int .i64 x∧s5=.int .i64 y∧acc=(es.take k).filter goes∧(x,y)=posE cx cy (es.take k)∧Holds w wr [own w.heap.size 177 7 s3 acc.length (acc.map edgeC).flatten,blk b1 #[.int .i64 cx,.int .i64 cy,.slice ea es.length ec,.bool sh] 239] [])
  (fun s3 s4 s5 s15 wr=>es.length-(intOf s15).toNat)
 case atStart=>exact ⟨0,[],cx,cy,by omega,rfl,rfl,rfl,rfl,rfl,hL.newOwn⟩
 case round =>
  clear hL
  obtain ⟨k,acc,x,y,hk,rfl,rfl,rfl,hacc,hpos,hL⟩:=hrel
  obtain ⟨ga,gc,rfl⟩:=own_slice hL .here
  by_cases hkt:k<es.length
  ·obtain ⟨be,oe,rfl,hc⟩:=Hel.out k hkt
   have hkb:(k:Int)<(es.length:Int):=by omega
   have hal:acc.length≤300:=by
    have h1:=List.length_filter_le goes (es.take k)
    rw [List.length_take] at h1
    rw [hacc]
    omega
   have hstep:es.take (k+1)=es.take k++[es.getD k default]:=by
    rw [List.take_succ_eq_append_getElem hkt];simp [hkt]
   have hp:((es.getD k default).x1,(es.getD k default).y1)=posE cx cy (es.take (k+1)):=by rw [hstep,posE_snoc]
   have hfl:(es.take (k+1)).filter goes=acc++(if goes (es.getD k default) then [es.getD k default] else []):=by
    rw [hstep,List.filter_append,←hacc]
    congr 1
    rw [List.filter_cons,List.filter_nil]
   have HP:=Lib.hid hp
   clear hstep hp hpos hacc
   generalize es.getD k default=e at *
   obtain ⟨x0,y0,bt,dx,dy,x1,y1⟩:=e
   unfold edgeC at hc
   unfold goes at hfl
   dsimp only at hc hfl HP
   rcases (by omega:x0≠x1∨(x0=x1∧y0≠y1)∨(x0=x1∧y0=y1)) with h|⟨h,h2⟩|⟨h,h2⟩
   ·have HA:=Lib.hid (show acc++[⟨x0,y0,bt,dx,dy,x1,y1⟩]=List.filter goes (es.take (k+1)) by unfold goes;rw [hfl];simp [h])
    have e1:(x0 != x1)=true:=by simp [h]
    clear hfl h
    obtain ⟨n1,n2,n3⟩:=tok3
    clear n1
    go_wp2_with (first|(with_reducible first|(clear hL;intro _ _ _ hL;try dsimp only at hL)|(clear hL n2;intro b2 w2 hL)|(clear hL n3;intro b3 w3 hL)|(clear hL;intro _ hL))|((with_reducible refine wpA_lit rfl _ _ _ rfl ?_);first|refine litA1 hL ?_|refine litA2 hL ?_|refine litA3 hL ?_|refine litA4 hL ?_|refine litA6 hL ?_)|((with_reducible refine goJ rfl ?_);refine goW ?_))
    replace hL:=hL.drew
    have hS:(fun w':World=>w'.rangeAt b2 0 [.int .i64 x0,.int .i64 y0,.bool bt,.int .i64 dx,.int .i64 dy,.int .i64 x1,.int .i64 y1]) _:=hL.range (by (repeat (first|with_reducible exact At.here|with_reducible apply At.there)))
    refine wpH_begin (by kernel_rfl) (fun w':World=>w'.rangeAt b2 0 [.int .i64 x0,.int .i64 y0,.bool bt,.int .i64 dx,.int .i64 dy,.int .i64 x1,.int .i64 y1]) ?_
    refine dsH 0 (.pointer (some ⟨b2,5,none⟩)) hS ?_
    refine drH 1 (.int .i64 x1) hS ?_ ?_;(· exact fun w' hw=>(load_cell (hw 5 _ rfl)))
    refine dsH 2 (.pointer (some ⟨b2,6,none⟩)) hS ?_
    refine drH 3 (.int .i64 y1) hS ?_ ?_;(· exact fun w' hw=>(load_cell (hw 6 _ rfl)))
    refine dsH 4 (.int .i64 x1) hS ?_
    refine dsH 5 (.int .i64 y1) hS ?_
    refine wpAnyH_done (by kernel_rfl) ?_ _
    clear hS
    go_wp2
    go_roundw
    case rel =>
     refine ⟨k+1,acc++[⟨x0,y0,bt,dx,dy,x1,y1⟩],x1,y1,by omega,by go_num,rfl,rfl,HA.out,HP.out,?_⟩
     rw [List.length_append,List.map_append,List.flatten_append]
     exact hL.drop .here
    case measure=>simp [intOf];omega
   ·have HA:=Lib.hid (show acc++[⟨x0,y0,bt,dx,dy,x1,y1⟩]=List.filter goes (es.take (k+1)) by unfold goes;rw [hfl];simp [h,h2])
    have e1:(x0 != x1)=false:=by simp [h]
    have e2:(y0 != y1)=true:=by simp [h2]
    clear hfl h h2
    obtain ⟨n1,n2,n3⟩:=tok3
    clear n1
    go_wp2_with (first|(with_reducible first|(clear hL;intro _ _ _ hL;try dsimp only at hL)|(clear hL n2;intro b2 w2 hL)|(clear hL n3;intro b3 w3 hL)|(clear hL;intro _ hL))|((with_reducible refine wpA_lit rfl _ _ _ rfl ?_);first|refine litA1 hL ?_|refine litA2 hL ?_|refine litA3 hL ?_|refine litA4 hL ?_|refine litA6 hL ?_)|((with_reducible refine goJ rfl ?_);refine goW ?_))
    replace hL:=hL.drew
    have hS:(fun w':World=>w'.rangeAt b2 0 [.int .i64 x0,.int .i64 y0,.bool bt,.int .i64 dx,.int .i64 dy,.int .i64 x1,.int .i64 y1]) _:=hL.range (by (repeat (first|with_reducible exact At.here|with_reducible apply At.there)))
    refine wpH_begin (by kernel_rfl) (fun w':World=>w'.rangeAt b2 0 [.int .i64 x0,.int .i64 y0,.bool bt,.int .i64 dx,.int .i64 dy,.int .i64 x1,.int .i64 y1]) ?_
    refine dsH 0 (.pointer (some ⟨b2,5,none⟩)) hS ?_
    refine drH 1 (.int .i64 x1) hS ?_ ?_;(· exact fun w' hw=>(load_cell (hw 5 _ rfl)))
    refine dsH 2 (.pointer (some ⟨b2,6,none⟩)) hS ?_
    refine drH 3 (.int .i64 y1) hS ?_ ?_;(· exact fun w' hw=>(load_cell (hw 6 _ rfl)))
    refine dsH 4 (.int .i64 x1) hS ?_
    refine dsH 5 (.int .i64 y1) hS ?_
    refine wpAnyH_done (by kernel_rfl) ?_ _
    clear hS
    go_wp2
    go_roundw
    case rel =>
     refine ⟨k+1,acc++[⟨x0,y0,bt,dx,dy,x1,y1⟩],x1,y1,by omega,by go_num,rfl,rfl,HA.out,HP.out,?_⟩
     rw [List.length_append,List.map_append,List.flatten_append]
     exact hL.drop .here
    case measure=>simp [intOf];omega
   ·have HA:=Lib.hid (show acc=List.filter goes (es.take (k+1)) by unfold goes;rw [hfl];simp [h,h2])
    have e1:(x0 != x1)=false:=by simp [h]
    have e2:(y0 != y1)=false:=by simp [h2]
    clear hfl h h2
    obtain ⟨n1,n2,n3⟩:=tok3
    clear n1
    go_wp2_with (first|(with_reducible first|(clear hL;intro _ _ _ hL;try dsimp only at hL)|(clear hL n2;intro b2 w2 hL)|(clear hL n3;intro b3 w3 hL)|(clear hL;intro _ hL))|((with_reducible refine wpA_lit rfl _ _ _ rfl ?_);first|refine litA1 hL ?_|refine litA2 hL ?_|refine litA3 hL ?_|refine litA4 hL ?_|refine litA6 hL ?_)|((with_reducible refine goJ rfl ?_);refine goW ?_))
    replace hL:=hL.drew
    have hS:(fun w':World=>w'.rangeAt b2 0 [.int .i64 x0,.int .i64 y0,.bool bt,.int .i64 dx,.int .i64 dy,.int .i64 x1,.int .i64 y1]) _:=hL.range (by (repeat (first|with_reducible exact At.here|with_reducible apply At.there)))
    refine wpH_begin (by kernel_rfl) (fun w':World=>w'.rangeAt b2 0 [.int .i64 x0,.int .i64 y0,.bool bt,.int .i64 dx,.int .i64 dy,.int .i64 x1,.int .i64 y1]) ?_
    refine dsH 0 (.pointer (some ⟨b2,5,none⟩)) hS ?_
    refine drH 1 (.int .i64 x1) hS ?_ ?_;(· exact fun w' hw=>(load_cell (hw 5 _ rfl)))
    refine dsH 2 (.pointer (some ⟨b2,6,none⟩)) hS ?_
    refine drH 3 (.int .i64 y1) hS ?_ ?_;(· exact fun w' hw=>(load_cell (hw 6 _ rfl)))
    refine dsH 4 (.int .i64 x1) hS ?_
    refine dsH 5 (.int .i64 y1) hS ?_
    refine wpAnyH_done (by kernel_rfl) ?_ _
    clear hS
    go_wp2
    go_roundw
    case rel=>exact ⟨k+1,acc,x1,y1,by omega,by go_num,rfl,rfl,HA.out,HP.out,hL.drop .here⟩
    case measure=>simp [intOf];omega
  ·have e:k=es.length:=by omega
   subst e
   have hal:acc.length≤300:=by
    have h1:=List.length_filter_le goes (es.take es.length)
    rw [List.length_take] at h1
    rw [hacc]
    omega
   have hPc:=HPc.out
   have hSh:=HSh.out
   rw [←hpos] at hSh
   rw [←hacc] at hPc
   dsimp only at hSh
   clear HPc HSh hpos hacc
   cases sh with
   | false =>
    have HR:=Lib.hid (show R=acc by rw [hPc,hSh];simp)
    clear hPc hSh
    go_wp2_with (first|(with_reducible first|(clear hL;intro _ _ _ hL;try dsimp only at hL)|(clear hL n2;intro b2 w2 hL)|(clear hL n3;intro b3 w3 hL)|(clear hL;intro _ hL))|((with_reducible refine wpA_lit rfl _ _ _ rfl ?_);first|refine litA1 hL ?_|refine litA2 hL ?_|refine litA3 hL ?_|refine litA4 hL ?_|refine litA6 hL ?_)|((with_reducible refine goJ rfl ?_);refine goW ?_))
    go_ret
    rw [HR.out]
    exact ⟨_,rfl,hL.below,(hL.settle .here (φ:=fun w=>EdgesAt w (.slice ga acc.length gc) acc) fun w h=>own_sliceAt h (by rw [List.length_map]) rfl (edgeC_len _)).fresh⟩
   | true =>
    rcases (by omega:x≠cx∨(x=cx∧y≠cy)∨(x=cx∧y=cy)) with h|⟨h,h2⟩|⟨h,h2⟩
    ·have HR:=Lib.hid (show R=acc++[⟨x,y,false,0,0,cx,cy⟩] by rw [hPc,hSh];simp [h])
     have e1:(x != cx)=true:=by simp [h]
     clear hPc hSh h
     obtain ⟨n1,n2,n3⟩:=tok3
     clear n1
     go_wp2_with (first|(with_reducible first|(clear hL;intro _ _ _ hL;try dsimp only at hL)|(clear hL n2;intro b2 w2 hL)|(clear hL n3;intro b3 w3 hL)|(clear hL;intro _ hL))|((with_reducible refine wpA_lit rfl _ _ _ rfl ?_);first|refine litA1 hL ?_|refine litA2 hL ?_|refine litA3 hL ?_|refine litA4 hL ?_|refine litA6 hL ?_)|((with_reducible refine goJ rfl ?_);refine goW ?_))
     go_ret
     rw [HR.out]
     have hF:=(hL.settle .here (φ:=fun w=>EdgesAt w (.slice _ (acc.length+1) _) (acc++[(⟨x,y,false,0,0,cx,cy⟩:Edg)])) fun w h=>own_sliceAt h (by rw [List.length_map,List.length_append];rfl) (by rw [List.map_append,List.flatten_append];rfl) (edgeC_len _)).fresh
     exact ⟨_,rfl,hL.below,hF⟩
    ·have HR:=Lib.hid (show R=acc++[⟨x,y,false,0,0,cx,cy⟩] by rw [hPc,hSh];simp [h2])
     have e1:(x != cx)=false:=by simp [h]
     have e2:(y != cy)=true:=by simp [h2]
     clear hPc hSh h h2
     obtain ⟨n1,n2,n3⟩:=tok3
     clear n1
     go_wp2_with (first|(with_reducible first|(clear hL;intro _ _ _ hL;try dsimp only at hL)|(clear hL n2;intro b2 w2 hL)|(clear hL n3;intro b3 w3 hL)|(clear hL;intro _ hL))|((with_reducible refine wpA_lit rfl _ _ _ rfl ?_);first|refine litA1 hL ?_|refine litA2 hL ?_|refine litA3 hL ?_|refine litA4 hL ?_|refine litA6 hL ?_)|((with_reducible refine goJ rfl ?_);refine goW ?_))
     go_ret
     rw [HR.out]
     have hF:=(hL.settle .here (φ:=fun w=>EdgesAt w (.slice _ (acc.length+1) _) (acc++[(⟨x,y,false,0,0,cx,cy⟩:Edg)])) fun w h=>own_sliceAt h (by rw [List.length_map,List.length_append];rfl) (by rw [List.map_append,List.flatten_append];rfl) (edgeC_len _)).fresh
     exact ⟨_,rfl,hL.below,hF⟩
    ·have HR:=Lib.hid (show R=acc by rw [hPc,hSh];simp [h,h2])
     have e1:(x != cx)=false:=by simp [h]
     have e2:(y != cy)=false:=by simp [h2]
     clear hPc hSh h h2
     go_wp2_with (first|(with_reducible first|(clear hL;intro _ _ _ hL;try dsimp only at hL)|(clear hL n2;intro b2 w2 hL)|(clear hL n3;intro b3 w3 hL)|(clear hL;intro _ hL))|((with_reducible refine wpA_lit rfl _ _ _ rfl ?_);first|refine litA1 hL ?_|refine litA2 hL ?_|refine litA3 hL ?_|refine litA4 hL ?_|refine litA6 hL ?_)|((with_reducible refine goJ rfl ?_);refine goW ?_))
     go_ret
     rw [HR.out]
     exact ⟨_,rfl,hL.below,(hL.settle .here (φ:=fun w=>EdgesAt w (.slice ga acc.length gc) acc) fun w h=>own_sliceAt h (by rw [List.length_map]) rfl (edgeC_len _)).fresh⟩
set_option maxRecDepth 100000 in
set_option maxHeartbeats 8000000 in
theorem strokePieces_calls (w:World) (v:Value) (c:Ct) (hv:EdgesAt w v c.edges) (hlen:c.edges.length≤300):Calls Tryz.prog 238 #[.agg #[.int .i64 c.x,.int .i64 c.y,v,.bool c.shut]] w (EdgesOut (piecesC c) w):=by
 obtain ⟨ea,ec,rfl,hlc,hcm,hel⟩:=EdgesAt.parts hv
 clear hv
 unfold maxLen at hcm
 have Hel:=Lib.hid hel;clear hel
 have hL:=Holds.start w
 have HPc:Hid (piecesC c=(c.edges.take c.edges.length).filter goes++shutE c):=Lib.hid (by rw [List.take_length];rfl)
 have HSh:Hid (shutE c=if c.shut∧((posE c.x c.y (c.edges.take c.edges.length)).1≠c.x∨(posE c.x c.y (c.edges.take c.edges.length)).2≠c.y) then [⟨(posE c.x c.y (c.edges.take c.edges.length)).1,(posE c.x c.y (c.edges.take c.edges.length)).2,false,0,0,c.x,c.y⟩] else []):=Lib.hid (by rw [List.take_length];rfl)
 generalize piecesC c=R at *
 generalize shutE c=SE at *
 obtain ⟨cx,cy,es,sh⟩:=c
 dsimp only at *
 have n1:True:=trivial
 go_enter Tryz.func238,Tryz.ntmps238
 go_wp2_with (first|(with_reducible (clear hL n1;intro b1 w1 hL))|((with_reducible refine wpA_lit rfl _ _ _ rfl ?_);first|refine litA1 hL ?_|refine litA2 hL ?_|refine litA3 hL ?_|refine litA4 hL ?_|refine litA6 hL ?_)|((with_reducible refine goJ rfl ?_);refine goW ?_))
 replace hL:=hL.drew
 have hS:(fun w':World=>w'.rangeAt b1 0 [.int .i64 cx,.int .i64 cy,.slice ea es.length ec,.bool sh]) _:=hL.range (by (repeat (first|with_reducible exact At.here|with_reducible apply At.there)))
 refine wpH_begin (by kernel_rfl) (fun w':World=>w'.rangeAt b1 0 [.int .i64 cx,.int .i64 cy,.slice ea es.length ec,.bool sh]) ?_
 refine dsH 0 (.pointer (some ⟨b1,0,none⟩)) hS ?_
 refine drH 1 (.int .i64 cx) hS ?_ ?_;(· exact fun w' hw=>(load_cell (hw 0 _ rfl)))
 refine dsH 2 (.pointer (some ⟨b1,1,none⟩)) hS ?_
 refine drH 3 (.int .i64 cy) hS ?_ ?_;(· exact fun w' hw=>(load_cell (hw 1 _ rfl)))
 refine dsH 4 (.int .i64 cx) hS ?_
 refine dsH 5 (.int .i64 cy) hS ?_
 refine wpAnyH_done (by kernel_rfl) ?_ _
 clear hS
 go_wp2_with (refine wpA_load rfl _ _ rfl _ rfl ?_;refine loadA hL ?_)
 go_loopw [3,4,5,15] (fun s3 s4 s5 s15 wr=>∃ (k:Nat) (acc:List Edg) (x y:Int),k≤es.length∧s15=.int .i64 k∧s4=.int .i64 x∧s5=.int .i64 y∧acc=(es.take k).filter goes∧(x,y)=posE cx cy (es.take k)∧Holds w wr [own w.heap.size 177 7 s3 acc.length (acc.map edgeC).flatten,blk b1 #[.int .i64 cx,.int .i64 cy,.slice ea es.length ec,.bool sh] 239] [])
  (fun s3 s4 s5 s15 wr=>es.length-(intOf s15).toNat)
 case atStart=>exact ⟨0,[],cx,cy,by omega,rfl,rfl,rfl,rfl,rfl,hL.newOwn⟩
 case round =>
  clear hL
  obtain ⟨k,acc,x,y,hk,rfl,rfl,rfl,hacc,hpos,hL⟩:=hrel
  obtain ⟨ga,gc,rfl⟩:=own_slice hL .here
  by_cases hkt:k<es.length
  ·obtain ⟨be,oe,rfl,hc⟩:=Hel.out k hkt
   have hkb:(k:Int)<(es.length:Int):=by omega
   have hal:acc.length≤300:=by
    have h1:=List.length_filter_le goes (es.take k)
    rw [List.length_take] at h1
    rw [hacc]
    omega
   have hstep:es.take (k+1)=es.take k++[es.getD k default]:=by
    rw [List.take_succ_eq_append_getElem hkt];simp [hkt]
   have hp:((es.getD k default).x1,(es.getD k default).y1)=posE cx cy (es.take (k+1)):=by rw [hstep,posE_snoc]
   have hfl:(es.take (k+1)).filter goes=acc++(if goes (es.getD k default) then [es.getD k default] else []):=by
    rw [hstep,List.filter_append,←hacc]
    congr 1
    rw [List.filter_cons,List.filter_nil]
   have HP:=Lib.hid hp
   clear hstep hp hpos hacc
   generalize es.getD k default=e at *
   obtain ⟨x0,y0,bt,dx,dy,x1,y1⟩:=e
   unfold edgeC at hc
   unfold goes at hfl
   dsimp only at hc hfl HP
   rcases (by omega:x0≠x1∨(x0=x1∧y0≠y1)∨(x0=x1∧y0=y1)) with h|⟨h,h2⟩|⟨h,h2⟩
   ·have HA:=Lib.hid (show acc++[⟨x0,y0,bt,dx,dy,x1,y1⟩]=List.filter goes (es.take (k+1)) by unfold goes;rw [hfl];simp [h])
    have e1:(x0 != x1)=true:=by simp [h]
    clear hfl h
    obtain ⟨n1,n2,n3⟩:=tok3
    clear n1
    go_wp2_with (first|(with_reducible first|(clear hL;intro _ _ _ hL;try dsimp only at hL)|(clear hL n2;intro b2 w2 hL)|(clear hL n3;intro b3 w3 hL)|(clear hL;intro _ hL))|((with_reducible refine wpA_lit rfl _ _ _ rfl ?_);first|refine litA1 hL ?_|refine litA2 hL ?_|refine litA3 hL ?_|refine litA4 hL ?_|refine litA6 hL ?_)|((with_reducible refine goJ rfl ?_);refine goW ?_))
    replace hL:=hL.drew
    have hS:(fun w':World=>w'.rangeAt b2 0 [.int .i64 x0,.int .i64 y0,.bool bt,.int .i64 dx,.int .i64 dy,.int .i64 x1,.int .i64 y1]) _:=hL.range (by (repeat (first|with_reducible exact At.here|with_reducible apply At.there)))
    refine wpH_begin (by kernel_rfl) (fun w':World=>w'.rangeAt b2 0 [.int .i64 x0,.int .i64 y0,.bool bt,.int .i64 dx,.int .i64 dy,.int .i64 x1,.int .i64 y1]) ?_
    refine dsH 0 (.pointer (some ⟨b2,5,none⟩)) hS ?_
    refine drH 1 (.int .i64 x1) hS ?_ ?_;(· exact fun w' hw=>(load_cell (hw 5 _ rfl)))
    refine dsH 2 (.pointer (some ⟨b2,6,none⟩)) hS ?_
    refine drH 3 (.int .i64 y1) hS ?_ ?_;(· exact fun w' hw=>(load_cell (hw 6 _ rfl)))
    refine dsH 4 (.int .i64 x1) hS ?_
    refine dsH 5 (.int .i64 y1) hS ?_
    refine wpAnyH_done (by kernel_rfl) ?_ _
    clear hS
    go_wp2
    go_roundw
    case rel =>
     refine ⟨k+1,acc++[⟨x0,y0,bt,dx,dy,x1,y1⟩],x1,y1,by omega,by go_num,rfl,rfl,HA.out,HP.out,?_⟩
     rw [List.length_append,List.map_append,List.flatten_append]
     exact hL.drop .here
    case measure=>simp [intOf];omega
   ·have HA:=Lib.hid (show acc++[⟨x0,y0,bt,dx,dy,x1,y1⟩]=List.filter goes (es.take (k+1)) by unfold goes;rw [hfl];simp [h,h2])
    have e1:(x0 != x1)=false:=by simp [h]
    have e2:(y0 != y1)=true:=by simp [h2]
    clear hfl h h2
    obtain ⟨n1,n2,n3⟩:=tok3
    clear n1
    go_wp2_with (first|(with_reducible first|(clear hL;intro _ _ _ hL;try dsimp only at hL)|(clear hL n2;intro b2 w2 hL)|(clear hL n3;intro b3 w3 hL)|(clear hL;intro _ hL))|((with_reducible refine wpA_lit rfl _ _ _ rfl ?_);first|refine litA1 hL ?_|refine litA2 hL ?_|refine litA3 hL ?_|refine litA4 hL ?_|refine litA6 hL ?_)|((with_reducible refine goJ rfl ?_);refine goW ?_))
    replace hL:=hL.drew
    have hS:(fun w':World=>w'.rangeAt b2 0 [.int .i64 x0,.int .i64 y0,.bool bt,.int .i64 dx,.int .i64 dy,.int .i64 x1,.int .i64 y1]) _:=hL.range (by (repeat (first|with_reducible exact At.here|with_reducible apply At.there)))
    refine wpH_begin (by kernel_rfl) (fun w':World=>w'.rangeAt b2 0 [.int .i64 x0,.int .i64 y0,.bool bt,.int .i64 dx,.int .i64 dy,.int .i64 x1,.int .i64 y1]) ?_
    refine dsH 0 (.pointer (some ⟨b2,5,none⟩)) hS ?_
    refine drH 1 (.int .i64 x1) hS ?_ ?_;(· exact fun w' hw=>(load_cell (hw 5 _ rfl)))
    refine dsH 2 (.pointer (some ⟨b2,6,none⟩)) hS ?_
    refine drH 3 (.int .i64 y1) hS ?_ ?_;(· exact fun w' hw=>(load_cell (hw 6 _ rfl)))
    refine dsH 4 (.int .i64 x1) hS ?_
    refine dsH 5 (.int .i64 y1) hS ?_
    refine wpAnyH_done (by kernel_rfl) ?_ _
    clear hS
    go_wp2
    go_roundw
    case rel =>
     refine ⟨k+1,acc++[⟨x0,y0,bt,dx,dy,x1,y1⟩],x1,y1,by omega,by go_num,rfl,rfl,HA.out,HP.out,?_⟩
     rw [List.length_append,List.map_append,List.flatten_append]
     exact hL.drop .here
    case measure=>simp [intOf];omega
   ·have HA:=Lib.hid (show acc=List.filter goes (es.take (k+1)) by unfold goes;rw [hfl];simp [h,h2])
    have e1:(x0 != x1)=false:=by simp [h]
    have e2:(y0 != y1)=false:=by simp [h2]
    clear hfl h h2
    obtain ⟨n1,n2,n3⟩:=tok3
    clear n1
    go_wp2_with (first|(with_reducible first|(clear hL;intro _ _ _ hL;try dsimp only at hL)|(clear hL n2;intro b2 w2 hL)|(clear hL n3;intro b3 w3 hL)|(clear hL;intro _ hL))|((with_reducible refine wpA_lit rfl _ _ _ rfl ?_);first|refine litA1 hL ?_|refine litA2 hL ?_|refine litA3 hL ?_|refine litA4 hL ?_|refine litA6 hL ?_)|((with_reducible refine goJ rfl ?_);refine goW ?_))
    replace hL:=hL.drew
    have hS:(fun w':World=>w'.rangeAt b2 0 [.int .i64 x0,.int .i64 y0,.bool bt,.int .i64 dx,.int .i64 dy,.int .i64 x1,.int .i64 y1]) _:=hL.range (by (repeat (first|with_reducible exact At.here|with_reducible apply At.there)))
    refine wpH_begin (by kernel_rfl) (fun w':World=>w'.rangeAt b2 0 [.int .i64 x0,.int .i64 y0,.bool bt,.int .i64 dx,.int .i64 dy,.int .i64 x1,.int .i64 y1]) ?_
    refine dsH 0 (.pointer (some ⟨b2,5,none⟩)) hS ?_
    refine drH 1 (.int .i64 x1) hS ?_ ?_;(· exact fun w' hw=>(load_cell (hw 5 _ rfl)))
    refine dsH 2 (.pointer (some ⟨b2,6,none⟩)) hS ?_
    refine drH 3 (.int .i64 y1) hS ?_ ?_;(· exact fun w' hw=>(load_cell (hw 6 _ rfl)))
    refine dsH 4 (.int .i64 x1) hS ?_
    refine dsH 5 (.int .i64 y1) hS ?_
    refine wpAnyH_done (by kernel_rfl) ?_ _
    clear hS
    go_wp2
    go_roundw
    case rel=>exact ⟨k+1,acc,x1,y1,by omega,by go_num,rfl,rfl,HA.out,HP.out,hL.drop .here⟩
    case measure=>simp [intOf];omega
  ·have e:k=es.length:=by omega
   subst e
   have hal:acc.length≤300:=by
    have h1:=List.length_filter_le goes (es.take es.length)
    rw [List.length_take] at h1
    rw [hacc]
    omega
   have hPc:=HPc.out
   have hSh:=HSh.out
   rw [←hpos] at hSh
   rw [←hacc] at hPc
   dsimp only at hSh
   clear HPc HSh hpos hacc
   cases sh with
   | false =>
    have HR:=Lib.hid (show R=acc by rw [hPc,hSh];simp)
    clear hPc hSh
    go_wp2_with (first|(with_reducible first|(clear hL;intro _ _ _ hL;try dsimp only at hL)|(clear hL n2;intro b2 w2 hL)|(clear hL n3;intro b3 w3 hL)|(clear hL;intro _ hL))|((with_reducible refine wpA_lit rfl _ _ _ rfl ?_);first|refine litA1 hL ?_|refine litA2 hL ?_|refine litA3 hL ?_|refine litA4 hL ?_|refine litA6 hL ?_)|((with_reducible refine goJ rfl ?_);refine goW ?_))
    go_ret
    rw [HR.out]
    exact ⟨_,rfl,hL.below,(hL.settle .here (φ:=fun w=>EdgesAt w (.slice ga acc.length gc) acc) fun w h=>own_sliceAt h (by rw [List.length_map]) rfl (edgeC_len _)).fresh⟩
   | true =>
    rcases (by omega:x≠cx∨(x=cx∧y≠cy)∨(x=cx∧y=cy)) with h|⟨h,h2⟩|⟨h,h2⟩
    ·have HR:=Lib.hid (show R=acc++[⟨x,y,false,0,0,cx,cy⟩] by rw [hPc,hSh];simp [h])
     have e1:(x != cx)=true:=by simp [h]
     clear hPc hSh h
     obtain ⟨n1,n2,n3⟩:=tok3
     clear n1
     go_wp2_with (first|(with_reducible first|(clear hL;intro _ _ _ hL;try dsimp only at hL)|(clear hL n2;intro b2 w2 hL)|(clear hL n3;intro b3 w3 hL)|(clear hL;intro _ hL))|((with_reducible refine wpA_lit rfl _ _ _ rfl ?_);first|refine litA1 hL ?_|refine litA2 hL ?_|refine litA3 hL ?_|refine litA4 hL ?_|refine litA6 hL ?_)|((with_reducible refine goJ rfl ?_);refine goW ?_))
     go_ret
     rw [HR.out]
     have hF:=(hL.settle .here (φ:=fun w=>EdgesAt w (.slice _ (acc.length+1) _) (acc++[(⟨x,y,false,0,0,cx,cy⟩:Edg)])) fun w h=>own_sliceAt h (by rw [List.length_map,List.length_append];rfl) (by rw [List.map_append,List.flatten_append];rfl) (edgeC_len _)).fresh
     exact ⟨_,rfl,hL.below,hF⟩
    ·have HR:=Lib.hid (show R=acc++[⟨x,y,false,0,0,cx,cy⟩] by rw [hPc,hSh];simp [h2])
     have e1:(x != cx)=false:=by simp [h]
     have e2:(y != cy)=true:=by simp [h2]
     clear hPc hSh h h2
     obtain ⟨n1,n2,n3⟩:=tok3
     clear n1
     go_wp2_with (first|(with_reducible first|(clear hL;intro _ _ _ hL;try dsimp only at hL)|(clear hL n2;intro b2 w2 hL)|(clear hL n3;intro b3 w3 hL)|(clear hL;intro _ hL))|((with_reducible refine wpA_lit rfl _ _ _ rfl ?_);first|refine litA1 hL ?_|refine litA2 hL ?_|refine litA3 hL ?_|refine litA4 hL ?_|refine litA6 hL ?_)|((with_reducible refine goJ rfl ?_);refine goW ?_))
     go_ret
     rw [HR.out]
     have hF:=(hL.settle .here (φ:=fun w=>EdgesAt w (.slice _ (acc.length+1) _) (acc++[(⟨x,y,false,0,0,cx,cy⟩:Edg)])) fun w h=>own_sliceAt h (by rw [List.length_map,List.length_append];rfl) (by rw [List.map_append,List.flatten_append];rfl) (edgeC_len _)).fresh
     exact ⟨_,rfl,hL.below,hF⟩
    ·have HR:=Lib.hid (show R=acc by rw [hPc,hSh];simp [h,h2])
     have e1:(x != cx)=false:=by simp [h]
     have e2:(y != cy)=false:=by simp [h2]
     clear hPc hSh h h2
     go_wp2_with (first|(with_reducible first|(clear hL;intro _ _ _ hL;try dsimp only at hL)|(clear hL n2;intro b2 w2 hL)|(clear hL n3;intro b3 w3 hL)|(clear hL;intro _ hL))|((with_reducible refine wpA_lit rfl _ _ _ rfl ?_);first|refine litA1 hL ?_|refine litA2 hL ?_|refine litA3 hL ?_|refine litA4 hL ?_|refine litA6 hL ?_)|((with_reducible refine goJ rfl ?_);refine goW ?_))
     go_ret
     rw [HR.out]
     exact ⟨_,rfl,hL.below,(hL.settle .here (φ:=fun w=>EdgesAt w (.slice ga acc.length gc) acc) fun w h=>own_sliceAt h (by rw [List.length_map]) rfl (edgeC_len _)).fresh⟩
end Go.Proofs.YtmnoeoecjfhhbaaGreat
