/- What functions come to, and that the statements are answered with 'true'. Conditions: none. -/
import Derived.Test.YtpemapoblhleoaaGreatDoorS
import Derived.Test.YtpemapoblhleoaaGreatDoorGE
import Derived.Test.YtpemapoblhleoaaGreatDoorP1
import Derived.Test.YtpemapoblhleoaaGreatDoorP2
import Derived.Test.YtpemapoblhleoaaGreatDoorP3
import Derived.Test.YtpemapoblhleoaaGreatDoorP4
import Derived.Test.YtpemapoblhleoaaGreatDoorP5
import Derived.Test.YtpemapoblhleoaaGreatDoorP6
set_option linter.unusedVariables false
set_option linter.unusedSimpArgs false
set_option linter.unusedSectionVars false
set_option linter.unnecessarySimpa false
namespace Go.Proofs.YtpemapoblhleoaaGreatDoor.Ghost
open Go
abbrev Cm:=den Z1
abbrev Z9 (c:Cm):Int:=c.1
abbrev Ot (c:Cm):Int:=c.2.1
abbrev X0 (c:Cm):Int:=c.2.2.1
abbrev Hm (c:Cm):Int:=c.2.2.2.1
abbrev Gb (c:Cm):Int:=c.2.2.2.2.1
abbrev Xf (c:Cm):List Int:=c.2.2.2.2.2.1
abbrev Uv (c:Cm):Int:=c.2.2.2.2.2.2.1
abbrev Xk (c:Cm):List Int:=c.2.2.2.2.2.2.2.1
abbrev Uu (c:Cm):Int:=c.2.2.2.2.2.2.2.2.1
def Mf (n:Int) (has:Prop):Prop:=(has→0≤n∧n≤1073741824)∧(¬ has→n=0)
def AGa (l:List Int) (has:Prop):Prop:=(has→(∀ i,i<l.length→0≤List.getD l i 0∧List.getD l i 0≤1073741824)∧l.length≤16)∧(¬ has→l=[])
structure Pe (c:Cm):Prop where
  k1:1≤Z9 c
  k2:Z9 c≤10
  d1:0≤Ot c
  d2:Ot c≤3
  d3:¬ Ot c=0→Z9 c≤2
  item:Mf (X0 c) (3≤Z9 c∧Z9 c≤7)
  box:Mf (Hm c) (Z9 c=5∨Z9 c=6)
  who:Mf (Gb c) (Z9 c=2∨Z9 c=7∨Z9 c=8)
  pay:Mf (Uv c) (Z9 c=8)
  fee:Mf (Uu c) (Z9 c=8)
  gives:AGa (Xf c) (Z9 c=8)
  wants:AGa (Xk c) (Z9 c=8)
end Go.Proofs.YtpemapoblhleoaaGreatDoor.Ghost
namespace Go.Proofs.YtpemapoblhleoaaGreatDoor.Ghost
open Go
def AJa (c:Cm):Prop:=(Xf c).length≤40∧(Xk c).length≤40
theorem N0 (c:Cm):Zd (fun nf _ _ _=>X4 nf (c)) (fun r=>r.1.1=true↔AJa c):=by
  refine Zd.succ (fun nf _ _ _=>X4.eq nf _) ?_
  by_cases h:((Xf c).length:Int)≤40
  · simp [-List.getD_eq_getElem?_getD,-List.length_eq_zero_iff,Zv,Zt,Z4,Zw,Xt,Xs,Yq,h,AJa]
    have:(Xf c).length≤40:=by omega
    exact ⟨fun h'=>⟨this,Int.ofNat_le.1 h'⟩,fun h'=>Int.ofNat_le.2 h'.2⟩
  · simp [-List.getD_eq_getElem?_getD,-List.length_eq_zero_iff,Zv,Zt,Z4,Zw,Xt,Xs,Yq,h,AJa]
    intro h'; omega
end Go.Proofs.YtpemapoblhleoaaGreatDoor.Ghost
