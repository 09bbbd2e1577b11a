/- What functions come to, and that the statements are answered with 'true'. Conditions: none. -/
import Derived.Test.YtpemapoblhleoaaGreatDoorS
import Derived.Test.YtpemapoblhleoaaGreatDoorGE
import Derived.Test.YtpemapoblhleoaaGreatDoorP1
import Derived.Test.YtpemapoblhleoaaGreatDoorP2
import Derived.Test.YtpemapoblhleoaaGreatDoorP3
import Derived.Test.YtpemapoblhleoaaGreatDoorP4
import Derived.Test.YtpemapoblhleoaaGreatDoorP5
import Derived.Test.YtpemapoblhleoaaGreatDoorP6
import Derived.Test.YtpemapoblhleoaaGreatDoorP7
import Derived.Test.YtpemapoblhleoaaGreatDoorP8
import Derived.Test.YtpemapoblhleoaaGreatDoorP9
import Derived.Test.YtpemapoblhleoaaGreatDoorP10
import Derived.Test.YtpemapoblhleoaaGreatDoorP11
import Derived.Test.YtpemapoblhleoaaGreatDoorP12
import Derived.Test.YtpemapoblhleoaaGreatDoorP13
set_option linter.unusedVariables false
set_option linter.unusedSimpArgs false
set_option linter.unusedSectionVars false
set_option linter.unnecessarySimpa false
namespace Go.Proofs.YtpemapoblhleoaaGreatDoor.Ghost
open Go
theorem AMc {x:den Za} {m:Nat} {p:Pl} (h:Ym x m=p) (hp:¬ p.1=(2:Int)):Ys x m=p:=by
  show Tl x.2.2.2.1 51 (Ym x m)=p
  rw [h]; exact F3 hp 51
theorem AJk {w x:den Za} (ok:Ok w) (ok':Ok x) (h:x.1=w.1):List.length (x.2.1:List Int)=List.length (w.2.1:List Int):=by
  have a:=ok.right.a1
  have b:=ok'.right.a1
  rw [h] at b
  omega
section
variable {w:den Za} {i:Nat} {c:Cm} (may:Pe c) (e:((doR w i c).2.1.1:Int)=0)
include may e
end
end Go.Proofs.YtpemapoblhleoaaGreatDoor.Ghost
