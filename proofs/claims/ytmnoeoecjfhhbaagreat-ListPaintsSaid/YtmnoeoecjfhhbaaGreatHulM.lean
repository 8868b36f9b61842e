/- Plain laws: points beside a path. -/
import Derived.Test.YtmnoeoecjfhhbaaGreatBwlM
import Derived.Test.YtmnoeoecjfhhbaaGreatBoxM
namespace Go.Proofs.YtmnoeoecjfhhbaaGreat
def Nn (d p q:Int):Prop:=0≤sgR p q d
theorem sq_le {x y:Int} (hy:0≤y) (h:x*x≤y*y):x≤y:=by
 rcases (by omega:x≤y∨y<x) with g|g
 ·exact g
 ·have h1:=Int.mul_le_mul_of_nonneg_right (show y+1≤x by omega) (show 0≤x by omega)
  have h2:=Int.mul_le_mul_of_nonneg_left (show y+1≤x by omega) hy
  have e1:(y+1)*x=y*x+x:=by grind
  have e2:y*(y+1)=y*y+y:=by grind
  omega
theorem le_mul4 {a b c d:Int} (ha:0≤a) (_:0≤d) (h1:a≤b) (h2:c≤d) (hc:0≤c):a*c≤b*d:=Int.mul_le_mul h1 h2 hc (by omega)
theorem sq_nonneg' (u:Int):0≤u*u:=by
 rcases (by omega:0≤u∨u≤0) with g|g
 ·exact Int.mul_nonneg g g
 ·exact Int.mul_nonneg_of_nonpos_of_nonpos g g
theorem cross1 {d u v P R:Int} (hd:0≤d) (hP:0≤P) (hR:0≤R) (h1:u*u*d≤P*P) (h2:v*v*d≤R*R):u*v*d≤P*R:=by
 refine sq_le (Int.mul_nonneg hP hR) ?_
 have h:=le_mul4 (Int.mul_nonneg (sq_nonneg' u) hd) (sq_nonneg' R) h1 h2 (Int.mul_nonneg (sq_nonneg' v) hd)
 have e1:u*v*d*(u*v*d)=u*u*d*(v*v*d):=by grind
 have e2:P*R*(P*R)=P*P*(R*R):=by grind
 rw [e1,e2];exact h
theorem cross2 {d u v P R:Int} (hd:0≤d) (hu:0≤u) (hv:0≤v) (hP:0≤P) (hR:0≤R) (h1:P*P≤u*u*d) (h2:R*R≤v*v*d):P*R≤u*v*d:=by
 refine sq_le (Int.mul_nonneg (Int.mul_nonneg hu hv) hd) ?_
 have h:=le_mul4 (Int.mul_nonneg hP hP) (Int.mul_nonneg (Int.mul_nonneg hv hv) hd) h1 h2 (Int.mul_nonneg hR hR)
 have e1:u*v*d*(u*v*d)=u*u*d*(v*v*d):=by grind
 have e2:P*R*(P*R)=P*P*(R*R):=by grind
 rw [e1,e2];exact h
theorem cross3 {d u v P R:Int} (hd:0<d) (hu:0≤u) (hv:0≤v) (hP:0≤P) (hR:0≤R) (h1:R*R≤v*v*d) (h2:u*u*d≤P*P):R*u≤v*P:=by
 refine sq_le (Int.mul_nonneg hv hP) ?_
 refine Int.le_of_mul_le_mul_right ?_ hd
 have h:=le_mul4 (Int.mul_nonneg hR hR) (Int.mul_nonneg hP hP) h1 h2 (Int.mul_nonneg (Int.mul_nonneg hu hu) (by omega))
 have e1:R*u*(R*u)*d=R*R*(u*u*d):=by grind
 have e2:v*P*(v*P)*d=v*v*d*(P*P):=by grind
 rw [e1,e2];exact h
theorem Nn.iff {d p q:Int} (hd:0<d):Nn d p q ↔ ((0≤p∧0≤q)∨(0<p∧q<0∧q*q*d≤p*p)∨(p<0∧0<q∧p*p≤q*q*d)):=by
 unfold Nn
 rw [sgR_nn (by omega)]
 constructor
 ·rintro (⟨h1,h2⟩|⟨h1,h2,_,h3⟩|⟨h1,h2,_,h3⟩)
  ·exact .inl ⟨h1,by omega⟩
  ·exact .inr (.inl ⟨h1,h2,h3⟩)
  ·exact .inr (.inr ⟨h1,h2,h3⟩)
 ·rintro (⟨h1,h2⟩|⟨h1,h2,h3⟩|⟨h1,h2,h3⟩)
  ·exact .inl ⟨h1,.inl h2⟩
  ·exact .inr (.inl ⟨h1,h2,hd,h3⟩)
  ·exact .inr (.inr ⟨h1,h2,hd,h3⟩)
theorem Nn.iff0 {p q:Int}:Nn 0 p q ↔ 0≤p:=by
 unfold Nn
 rw [sgR_nn (by omega)]
 constructor
 ·rintro (⟨h1,h2⟩|⟨h1,h2,h3,_⟩|⟨h1,h2,h3,_⟩) <;> omega
 ·intro h;exact .inl ⟨h,.inr rfl⟩
theorem Nn.int {d p:Int} (hd:0≤d) (hp:0≤p):Nn d p 0:=by
 unfold Nn
 rw [sgR_nn hd]
 exact .inl ⟨hp,.inl (by omega)⟩
theorem Nn.addBC {d p u R s:Int} (hd:0<d) (hp:0<p) (hu:0<u) (h1:u*u*d≤p*p) (hR:0<R) (hs:0<s) (h2:R*R≤s*s*d):Nn d (p-R) (s-u):=by
 rw [Nn.iff hd]
 have k:=cross3 hd (by omega) (by omega) (by omega) (by omega) h2 h1
 rcases (by omega:(R≤p∧u≤s)∨(R<p∧s<u)∨(p<R∧u<s)∨(p=R∧s<u)∨(p<R∧s≤u)) with ⟨g1,g2⟩|⟨g1,g2⟩|⟨g1,g2⟩|⟨g1,g2⟩|⟨g1,g2⟩
 ·exact .inl ⟨by omega,by omega⟩
 ·refine .inr (.inl ⟨by omega,by omega,?_⟩)
  -- (u-s) p≤u (p-R)
  have k1:(u-s)*p≤u*(p-R):=by
   have e1:(u-s)*p=u*p-s*p:=by grind
   have e2:u*(p-R)=u*p-R*u:=by grind
   omega
  have k2:=le_mul4 (Int.mul_nonneg (show 0≤u-s by omega) (show 0≤p by omega)) (Int.mul_nonneg (show 0≤u by omega) (show 0≤p-R by omega)) k1 k1 (Int.mul_nonneg (show 0≤u-s by omega) (show 0≤p by omega))
  have k3:=Int.mul_le_mul_of_nonneg_right k2 (show 0≤d by omega)
  have k4:=Int.mul_le_mul_of_nonneg_right h1 (Int.mul_nonneg (show 0≤p-R by omega) (show 0≤p-R by omega))
  refine Int.le_of_mul_le_mul_right ?_ (Int.mul_pos hp hp)
  have e1:(s-u)*(s-u)*d*(p*p)=(u-s)*p*((u-s)*p)*d:=by grind
  have e2:u*(p-R)*(u*(p-R))*d=u*u*d*((p-R)*(p-R)):=by grind
  have e3:(p-R)*(p-R)*(p*p)=p*p*((p-R)*(p-R)):=by grind
  rw [e1,e3]
  omega
 ·refine .inr (.inr ⟨by omega,by omega,?_⟩)
  -- s (R-p)≤(s-u) R
  have k1:s*(R-p)≤(s-u)*R:=by
   have e1:s*(R-p)=s*R-s*p:=by grind
   have e2:(s-u)*R=s*R-R*u:=by grind
   omega
  have k2:=le_mul4 (Int.mul_nonneg (show 0≤s by omega) (show 0≤R-p by omega)) (Int.mul_nonneg (show 0≤s-u by omega) (show 0≤R by omega)) k1 k1 (Int.mul_nonneg (show 0≤s by omega) (show 0≤R-p by omega))
  have k4:=Int.mul_le_mul_of_nonneg_right h2 (Int.mul_nonneg (show 0≤s-u by omega) (show 0≤s-u by omega))
  refine Int.le_of_mul_le_mul_right ?_ (Int.mul_pos hs hs)
  have e1:(p-R)*(p-R)*(s*s)=s*(R-p)*(s*(R-p)):=by grind
  have e2:(s-u)*R*((s-u)*R)=R*R*((s-u)*(s-u)):=by grind
  have e3:(s-u)*(s-u)*d*(s*s)=s*s*d*((s-u)*(s-u)):=by grind
  rw [e1,e3]
  omega
 ·subst g1
  have:=Int.mul_lt_mul_of_pos_right g2 hp
  have e:p*u=u*p:=Int.mul_comm _ _
  omega
 ·have:=Int.mul_lt_mul_of_pos_right g1 hu
  have:=Int.mul_le_mul_of_nonneg_right g2 (show 0≤p by omega)
  have e:p*u=u*p:=Int.mul_comm _ _
  omega
theorem Nn.add {d p q r s:Int} (hd:0≤d) (h:Nn d p q) (k:Nn d r s):Nn d (p+r) (q+s):=by
 rcases (by omega:d=0∨0<d) with h0|hd
 ·subst h0;rw [Nn.iff0] at *;omega
 -- one that isn't negative in both
 have hA:∀ {p q r s:Int},0≤p→0≤q→Nn d r s→Nn d (p+r) (q+s):=by
  intro p q r s hp hq k
  rw [Nn.iff hd] at k ⊢
  rcases k with ⟨k1,k2⟩|⟨k1,k2,k3⟩|⟨k1,k2,k3⟩
  ·exact .inl ⟨by omega,by omega⟩
  ·rcases (by omega:0≤q+s∨q+s<0) with g|g
   ·exact .inl ⟨by omega,g⟩
   ·refine .inr (.inl ⟨by omega,g,?_⟩)
    have j1:=Int.mul_le_mul_of_nonneg_right (sq_anti (a:=s) (b:=q+s) (by omega) (by omega)) (show 0≤d by omega)
    have j2:=sq_mono (a:=r) (b:=p+r) (by omega) (by omega)
    omega
  ·rcases (by omega:0≤p+r∨p+r<0) with g|g
   ·exact .inl ⟨g,by omega⟩
   ·refine .inr (.inr ⟨g,by omega,?_⟩)
    have j1:=Int.mul_le_mul_of_nonneg_right (sq_mono (a:=s) (b:=q+s) (by omega) (by omega)) (show 0≤d by omega)
    have j2:=sq_anti (a:=r) (b:=p+r) (by omega) (by omega)
    omega
 have h':=h
 have k':=k
 rw [Nn.iff hd] at h k
 rcases h with ⟨h1,h2⟩|⟨h1,h2,h3⟩|⟨h1,h2,h3⟩
 ·exact hA h1 h2 k'
 ·rcases k with ⟨k1,k2⟩|⟨k1,k2,k3⟩|⟨k1,k2,k3⟩
  ·rw [Int.add_comm p,Int.add_comm q];exact hA k1 k2 h'
  ·rw [Nn.iff hd]
   refine .inr (.inl ⟨by omega,by omega,?_⟩)
   have c:=cross1 (u:=q) (v:=s) (by omega) (show 0≤p by omega) (show 0≤r by omega) h3 k3
   have e1:(q+s)*(q+s)*d=q*q*d+2*(q*s*d)+s*s*d:=by grind
   have e2:(p+r)*(p+r)=p*p+2*(p*r)+r*r:=by grind
   omega
  ·have:=Nn.addBC (u := -q) (R := -r) hd h1 (by omega) (by rw [Int.neg_mul_neg];exact h3) (by omega) k2 (by rw [Int.neg_mul_neg];exact k3)
   rwa [show p - -r=p+r by omega,show s - -q=q+s by omega] at this
 ·rcases k with ⟨k1,k2⟩|⟨k1,k2,k3⟩|⟨k1,k2,k3⟩
  ·rw [Int.add_comm p,Int.add_comm q];exact hA k1 k2 h'
  ·have:=Nn.addBC (u := -s) (R := -p) hd k1 (by omega) (by rw [Int.neg_mul_neg];exact k3) (by omega) h2 (by rw [Int.neg_mul_neg];exact h3)
   rwa [show r - -p=p+r by omega,show q - -s=q+s by omega] at this
  ·rw [Nn.iff hd]
   refine .inr (.inr ⟨by omega,by omega,?_⟩)
   have c:=cross2 (P := -p) (R := -r) (u:=q) (v:=s) (by omega) (by omega) (by omega) (by omega) (by omega) (by rw [Int.neg_mul_neg];exact h3) (by rw [Int.neg_mul_neg];exact k3)
   rw [Int.neg_mul_neg] at c
   have e1:(q+s)*(q+s)*d=q*q*d+2*(q*s*d)+s*s*d:=by grind
   have e2:(p+r)*(p+r)=p*p+2*(p*r)+r*r:=by grind
   omega
theorem root_p {p d:Int} (hd:0≤d):0≤sgR p 1 d ↔ 0≤p∨p*p≤d:=by
 rw [sgR_nn hd,Int.one_mul,Int.one_mul]
 have:=sq_nonneg' p
 constructor
 ·rintro (⟨h1,_⟩|⟨h1,h2,_⟩|⟨_,_,_,h⟩)
  ·exact .inl h1
  ·omega
  ·exact .inr h
 ·rintro (h|h)
  ·exact .inl ⟨h,.inl (by omega)⟩
  ·rcases (by omega:0≤p∨p<0) with g|g
   ·exact .inl ⟨g,.inl (by omega)⟩
   ·have:=Int.mul_pos_of_neg_of_neg g g
    exact .inr (.inr ⟨g,by omega,by omega,h⟩)
theorem root_m {p d:Int} (hd:0≤d):0≤sgR p (-1) d ↔ 0≤p∧d≤p*p:=by
 rw [sgR_nn hd,show (-1:Int) * -1=1 by decide,Int.one_mul]
 have:=sq_nonneg' p
 constructor
 ·rintro (⟨h1,_⟩|⟨h1,h2,_⟩|⟨_,h,_⟩) <;> omega
 ·rintro ⟨h,k⟩
  rcases (by omega:p=0∨0<p) with g|g
  ·subst g
   exact .inl ⟨by omega,.inr (by omega)⟩
  ·rcases (by omega:d=0∨0<d) with z|z
   ·exact .inl ⟨h,.inr z⟩
   ·exact .inr (.inl ⟨g,by omega,z,by omega⟩)
structure Roots (a b c:Int):Prop where
 u0:0≤sgR (-b) 1 (b*b-a*c) ↔ b≤0∨a*c≤0
 u1:sgR (-b) 1 (b*b-a*c)≤0 ↔ 0≤b∧0≤a*c
 v0:0≤sgR (-b) (-1) (b*b-a*c) ↔ b≤0∧0≤a*c
 v1:sgR (-b) (-1) (b*b-a*c)≤0 ↔ 0≤b∨a*c≤0
theorem roots {a b c:Int} (hd:0≤b*b-a*c):Roots a b c:=by
 have h1:=root_p (p := -b) hd
 have h2:=root_m (p:=b) hd
 have h3:=root_m (p := -b) hd
 have h4:=root_p (p:=b) hd
 have e1:=sgR_neg (-b) 1 (b*b-a*c)
 have e2:=sgR_neg (-b) (-1) (b*b-a*c)
 rw [Int.neg_neg] at e1
 rw [Int.neg_neg,show -(-1:Int)=1 by decide] at e2
 rw [Int.neg_mul_neg] at h1 h3
 exact ⟨by omega,by omega,by omega,by omega⟩
end Go.Proofs.YtmnoeoecjfhhbaaGreat
