/- What arrays of numbers and slices of edges that are handed in read as. -/
import Derived.Test.YtmnoeoecjfhhbaaGreatArmM
import Derived.ChangeSlices
import Derived.Carry
import Derived.Deep.Slices
import Derived.OpenShut
import Derived.ChangeArms
namespace Go.Proofs.YtmnoeoecjfhhbaaGreat
open Go.ChangeShapes Go.WideShapes Go.ChangeAt Go.RowKit
section
variable {H : Type} {enc : TypeId × Value → H} {P : Program} {W : World} {base : Nat} {spare : Nat → Bool} {held : Bool}
theorem trodAll_six {t t' t'' t3 t4 t5:TypeId} {args:Array Value} {ds:List (DataW H)} {ps:List MemPlace} (h:DataW.TrodAll enc P W base spare held [t,t',t'',t3,t4,t5] args.toList ds ps) :
  ∃ v v' v'' v3 v4 v5 d d' d'' d3 d4 d5 p p' p'' p3 p4 p5,args=#[v,v',v'',v3,v4,v5]∧ds=[d,d',d'',d3,d4,d5]∧ps=p++p'++p''++p3++p4++p5∧DataW.Trod enc P W base spare held t v d p∧DataW.Trod enc P W base spare held t' v' d' p'∧DataW.Trod enc P W base spare held t'' v'' d'' p''∧DataW.Trod enc P W base spare held t3 v3 d3 p3∧DataW.Trod enc P W base spare held t4 v4 d4 p4∧DataW.Trod enc P W base spare held t5 v5 d5 p5:=by
 obtain ⟨v,vs,d,ds',p,q,hargs,rfl,rfl,hd,hrest⟩:=trodAll_cons h
 obtain ⟨v',vs',d',ds'',p',q',rfl,rfl,rfl,hd',hrest'⟩:=trodAll_cons hrest
 obtain ⟨v'',vs'',d'',ds''',p'',q'',rfl,rfl,rfl,hd'',hrest''⟩:=trodAll_cons hrest'
 obtain ⟨v3,vs3,d3,ds3,p3,q3,rfl,rfl,rfl,hd3,hrest3⟩:=trodAll_cons hrest''
 obtain ⟨v4,vs4,d4,ds4,p4,q4,rfl,rfl,rfl,hd4,hrest4⟩:=trodAll_cons hrest3
 obtain ⟨v5,vs5,d5,ds5,p5,q5,rfl,rfl,rfl,hd5,hrest5⟩:=trodAll_cons hrest4
 obtain ⟨rfl,rfl,rfl⟩:=trodAll_nil hrest5
 exact ⟨v,v',v'',v3,v4,v5,d,d',d'',d3,d4,d5,p,p',p'',p3,p4,p5,by cases args;simp_all,rfl,by simp,hd,hd',hd'',hd3,hd4,hd5⟩
end
open Go.ChangeShapes Go.WideShapes Go.ChangeAt Go.RowKit Go.Deep
section
variable {H : Type} {enc : TypeId × Value → H} {W : World} {fuel : Nat} {v : Value} {x : DataW H × List MemPlace}
end
end Go.Proofs.YtmnoeoecjfhhbaaGreat
