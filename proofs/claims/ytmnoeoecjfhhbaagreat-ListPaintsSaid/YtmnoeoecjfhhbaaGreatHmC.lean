/- Package hem: around, shapes. -/
import Derived.Test.YtmnoeoecjfhhbaaGreatHmX
namespace Go.Proofs.YtmnoeoecjfhhbaaGreat
open Go.RowKit
def ShpsAt (w:World) (v:Value) (l:List Shp):Prop:=SliceAt w 11 v (l.map shpC)
def ShpsOut (l:List Shp) (w:World) (e:Ending) (w':World):Prop:=∃ v,e=.returned v∧Below w.heap.size w w'∧Fresh w w' (fun w=>ShpsAt w v l)
theorem ShpsAt.parts {w:World} {s:Value} {l:List Shp} (h:ShpsAt w s l) :
  ∃ a cap,s=.slice a l.length cap∧l.length≤cap∧cap≤maxLen∧∀ i,i<l.length→∃ b o,a=some ⟨b,o,none⟩∧w.rangeAt b (o+i*11) (shpC (l.getD i default)):=by
 obtain ⟨a,cap,h2,h3,h4,h5⟩:=h
 simp only [List.length_map] at h2 h3 h5
 refine ⟨a,cap,h2,h3,h4,fun i hi=>?_⟩
 obtain ⟨b,o,e,hr⟩:=h5 i hi
 refine ⟨b,o,e,?_⟩
 simp only [List.getElem_map] at hr
 rw [show l.getD i default=l[i] by simp [hi]]
 exact hr
theorem shpC_len (l:List Shp):∀ c∈l.map shpC,c.length=11:=by
 intro c hc
 obtain ⟨s,_,rfl⟩:=List.mem_map.1 hc
 rfl
theorem shp_snoc (p:List Shp) (s:Shp):((p++[s]).map shpC).flatten=(p.map shpC).flatten++shpC s:=by simp
theorem around_calls (x y wd:Int) (f:Fn) (g h:Array Value) (w:World):Calls Tryz.prog 206 #[.int .i64 x,.int .i64 y,.int .i64 wd,.func f g h] w fun e w'=>e=.returned (.agg #[.int .i64 x,.int .i64 y,.bool false,.int .i64 0,.int .i64 0,.int .i64 0,.int .i64 0,.int .i64 wd,.bool false,.bool false,.func f g h])∧Below w.heap.size w w':=by
 have hL:=Holds.start w
 have n1:True:=trivial
 go_enter Tryz.func206,Tryz.ntmps206
 go_wp2_with (first|(with_reducible first|(clear hL n1;intro b1 w1 hL)|(clear hL;intro _ hL))|((with_reducible refine goJ rfl ?_);refine goW ?_))
 exact bodyPost_ret (results_row inferInstance rfl _ hL b1 rfl _ _ .here rfl) rfl ⟨rfl,hL.below⟩
end Go.Proofs.YtmnoeoecjfhhbaaGreat
