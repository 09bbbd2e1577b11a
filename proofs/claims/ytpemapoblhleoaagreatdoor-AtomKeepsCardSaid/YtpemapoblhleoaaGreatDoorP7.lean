/- What functions come to, and that the statements are answered with 'true'. Conditions: none. -/
import Derived.Test.YtpemapoblhleoaaGreatDoorS
import Derived.Test.YtpemapoblhleoaaGreatDoorGE
import Derived.Test.YtpemapoblhleoaaGreatDoorP1
import Derived.Test.YtpemapoblhleoaaGreatDoorP2
import Derived.Test.YtpemapoblhleoaaGreatDoorP3
import Derived.Test.YtpemapoblhleoaaGreatDoorP4
import Derived.Test.YtpemapoblhleoaaGreatDoorP5
import Derived.Test.YtpemapoblhleoaaGreatDoorP6
set_option linter.unusedVariables false
set_option linter.unusedSimpArgs false
set_option linter.unusedSectionVars false
set_option linter.unnecessarySimpa false
namespace Go.Proofs.YtpemapoblhleoaaGreatDoor.Ghost
open Go
abbrev Cm:=den Z5
abbrev Xg (c:Cm):Int:=c.1
abbrev Oi (c:Cm):Int:=c.2.1
abbrev Yo (c:Cm):Int:=c.2.2.1
abbrev Gk (c:Cm):Int:=c.2.2.2.1
abbrev Hp (c:Cm):Int:=c.2.2.2.2.1
abbrev Xi (c:Cm):List Int:=c.2.2.2.2.2.1
abbrev Uh (c:Cm):Int:=c.2.2.2.2.2.2.1
abbrev Xp (c:Cm):List Int:=c.2.2.2.2.2.2.2.1
abbrev Ug (c:Cm):Int:=c.2.2.2.2.2.2.2.2.1
def Mf (n:Int) (has:Prop):Prop:=(has→0≤n∧n≤1073741824)∧(¬ has→n=0)
def AGg (l:List Int) (has:Prop):Prop:=(has→(∀ i,i<l.length→0≤List.getD l i 0∧List.getD l i 0≤1073741824)∧l.length≤16)∧(¬ has→l=[])
structure Mv (c:Cm):Prop where
  k1:1≤Xg c
  k2:Xg c≤10
  d1:0≤Oi c
  d2:Oi c≤3
  d3:¬ Oi c=0→Xg c≤2
  item:Mf (Yo c) (3≤Xg c∧Xg c≤7)
  box:Mf (Gk c) (Xg c=5∨Xg c=6)
  who:Mf (Hp c) (Xg c=2∨Xg c=7∨Xg c=8)
  pay:Mf (Uh c) (Xg c=8)
  fee:Mf (Ug c) (Xg c=8)
  gives:AGg (Xi c) (Xg c=8)
  wants:AGg (Xp c) (Xg c=8)
end Go.Proofs.YtpemapoblhleoaaGreatDoor.Ghost
namespace Go.Proofs.YtpemapoblhleoaaGreatDoor.Ghost
open Go
def AHz (c:Cm):Prop:=(Xi c).length≤40∧(Xp c).length≤40
theorem AIf (c:Cm):Zd (fun nf _ _ _=>Yd nf (c)) (fun r=>r.1.1=true↔AHz c):=by
  refine Zd.succ (fun nf _ _ _=>Yd.eq nf _) ?_
  by_cases h:((Xi c).length:Int)≤40
  · simp [-List.getD_eq_getElem?_getD,-List.length_eq_zero_iff,Zr,Zp,Z4,Zy,Xk,Xj,Yt,h,AHz]
    have:(Xi c).length≤40:=by omega
    exact ⟨fun h'=>⟨this,Int.ofNat_le.1 h'⟩,fun h'=>Int.ofNat_le.2 h'.2⟩
  · simp [-List.getD_eq_getElem?_getD,-List.length_eq_zero_iff,Zr,Zp,Z4,Zy,Xk,Xj,Yt,h,AHz]
    intro h'; omega
end Go.Proofs.YtpemapoblhleoaaGreatDoor.Ghost
