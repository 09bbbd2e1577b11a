/- What functions come to, and that the statements are answered with 'true'. Conditions: none. -/
import Derived.Test.YtmemggdjnfccfaaGreatDoorS
import Derived.Test.YtmemggdjnfccfaaGreatDoorGE
import Derived.Test.YtmemggdjnfccfaaGreatDoorP1
import Derived.Test.YtmemggdjnfccfaaGreatDoorP2
import Derived.Test.YtmemggdjnfccfaaGreatDoorP3
import Derived.Test.YtmemggdjnfccfaaGreatDoorP4
import Derived.Test.YtmemggdjnfccfaaGreatDoorP5
import Derived.Test.YtmemggdjnfccfaaGreatDoorP6
import Derived.Test.YtmemggdjnfccfaaGreatDoorP7
import Derived.Test.YtmemggdjnfccfaaGreatDoorP8
import Derived.Test.YtmemggdjnfccfaaGreatDoorP9
import Derived.Test.YtmemggdjnfccfaaGreatDoorP10
import Derived.Test.YtmemggdjnfccfaaGreatDoorP11
import Derived.Test.YtmemggdjnfccfaaGreatDoorP12
import Derived.Test.YtmemggdjnfccfaaGreatDoorP13
import Derived.Test.YtmemggdjnfccfaaGreatDoorP14
import Derived.Test.YtmemggdjnfccfaaGreatDoorP15
import Derived.Test.YtmemggdjnfccfaaGreatDoorP16
import Derived.Test.YtmemggdjnfccfaaGreatDoorP17
set_option linter.unusedVariables false
set_option linter.unusedSimpArgs false
set_option linter.unusedSectionVars false
set_option linter.unnecessarySimpa false
namespace Go.Proofs.YtmemggdjnfccfaaGreatDoor.Ghost
open Go
theorem Gk {x:den Zb} {m:Nat} {p:Pl} (h:Xs x m=p) (hp:¬ p.1=(2:Int)):Xd x m=p:=by
  show Rq x.2.2.2.1 51 (Xs x m)=p
  rw [h]; exact Dn hp 51
theorem BMa {w:den Zb} {m:Nat} (hm:m<List.length (w.2.2.2.1:List (den Za))) (q:Pl):Xs (put w m q) m=q:=by
  show List.getD _ m _=_
  rw [Mu w m m _ hm,if_pos rfl]
theorem AHg {w x:den Zb} (ok:Ok w) (ok':Ok x) (h:x.1=w.1):List.length (x.2.1:List Int)=List.length (w.2.1:List Int):=by
  have a:=ok.right.a1
  have b:=ok'.right.a1
  rw [h] at b
  omega
section
variable {w:den Zb} {i:Nat} {c:Cm} (may:Ws c) (e:((doR w i c).2.1.1:Int)=0)
include may e
end
end Go.Proofs.YtmemggdjnfccfaaGreatDoor.Ghost
