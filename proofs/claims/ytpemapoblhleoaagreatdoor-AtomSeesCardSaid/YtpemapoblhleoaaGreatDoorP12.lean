/- What functions come to, and that the statements are answered with 'true'. Conditions: none. -/
import Derived.Test.YtpemapoblhleoaaGreatDoorS
import Derived.Test.YtpemapoblhleoaaGreatDoorGE
import Derived.Test.YtpemapoblhleoaaGreatDoorP1
import Derived.Test.YtpemapoblhleoaaGreatDoorP2
import Derived.Test.YtpemapoblhleoaaGreatDoorP3
import Derived.Test.YtpemapoblhleoaaGreatDoorP4
import Derived.Test.YtpemapoblhleoaaGreatDoorP5
import Derived.Test.YtpemapoblhleoaaGreatDoorP6
import Derived.Test.YtpemapoblhleoaaGreatDoorP7
import Derived.Test.YtpemapoblhleoaaGreatDoorP8
import Derived.Test.YtpemapoblhleoaaGreatDoorP9
import Derived.Test.YtpemapoblhleoaaGreatDoorP10
import Derived.Test.YtpemapoblhleoaaGreatDoorP11
set_option linter.unusedVariables false
set_option linter.unusedSimpArgs false
set_option linter.unusedSectionVars false
set_option linter.unnecessarySimpa false
namespace Go.Proofs.YtpemapoblhleoaaGreatDoor.Ghost
open Go
theorem Dd:Zd (fun nf _ _ _=>Xw nf) (fun r=>r.1.1=true):=Zd.one 60 (r:=((true,()),[])) (by kernel_rfl) rfl
theorem ALi (w:den Za):Zd (fun nf _ _ _=>X4 nf (w)) (fun r=>r.1.1=true↔AM9 w∧X0 w):=by
  refine Zd.succ (fun n _ _ _=>X4.eq n w) (Zd.call (ALh w) (fun v hv=>Zd.bif (fun hb=>Zd.call (AGq w) (fun u hu=>Zd.ret ?_)) (fun hb=>Zd.ret ?_)))
  · exact ⟨fun e=>⟨hv.1 hb,hu.1 e⟩,fun e=>hu.2 e.2⟩
  · exact ⟨(fun e=>by cases e),fun e=>by rw [hv.2 e.1] at hb; cases hb⟩
end Go.Proofs.YtpemapoblhleoaaGreatDoor.Ghost
