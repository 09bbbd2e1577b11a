/- What functions come to, and that the statements are answered with 'true'. Conditions: none. -/
import Derived.Test.YtpemapoblhleoaaGreatDoorS
import Derived.Test.YtpemapoblhleoaaGreatDoorGE
import Derived.Test.YtpemapoblhleoaaGreatDoorP1
import Derived.Test.YtpemapoblhleoaaGreatDoorP2
import Derived.Test.YtpemapoblhleoaaGreatDoorP3
import Derived.Test.YtpemapoblhleoaaGreatDoorP4
import Derived.Test.YtpemapoblhleoaaGreatDoorP5
import Derived.Test.YtpemapoblhleoaaGreatDoorP6
import Derived.Test.YtpemapoblhleoaaGreatDoorP7
import Derived.Test.YtpemapoblhleoaaGreatDoorP8
import Derived.Test.YtpemapoblhleoaaGreatDoorP9
import Derived.Test.YtpemapoblhleoaaGreatDoorP10
import Derived.Test.YtpemapoblhleoaaGreatDoorP11
set_option linter.unusedVariables false
set_option linter.unusedSimpArgs false
set_option linter.unusedSectionVars false
set_option linter.unnecessarySimpa false
namespace Go.Proofs.YtpemapoblhleoaaGreatDoor.Ghost
open Go
theorem AGl:Zd (fun nf _ _ _=>Xd nf) (fun r=>r.1.1=true):=Zd.one 60 (r:=((true,()),[])) (by kernel_rfl) rfl
theorem AK7 (w:den Za):Zd (fun nf _ _ _=>X6 nf (w)) (fun r=>r.1.1=true↔AMv w∧X1 w):=by
  refine Zd.succ (fun n _ _ _=>X6.eq n w) (Zd.call (AK6 w) (fun v hv=>Zd.bif (fun hb=>Zd.call (AF9 w) (fun u hu=>Zd.ret ?_)) (fun hb=>Zd.ret ?_)))
  · exact ⟨fun e=>⟨hv.1 hb,hu.1 e⟩,fun e=>hu.2 e.2⟩
  · exact ⟨(fun e=>by cases e),fun e=>by rw [hv.2 e.1] at hb; cases hb⟩
theorem AK2 {w:den Za} (hs:Sm w) (i:Nat) (c:Cm):List.length ((doR w i c).2.1.2.2.2.1:List Int)≤1048576∧List.length ((doR w i c).2.1.2.2.2.2.1:List Sn)≤1048576:=by
  have h1:=ALv hs i
  have h2:=AQh hs i
  unfold doR
  by_cases hm:Pe c
  · rw [if_pos hm]
    split
    · exact h1
    · split
      · exact h2
      · split <;> exact ⟨Nat.zero_le _,Nat.zero_le _⟩
  · rw [if_neg hm]; exact ⟨Nat.zero_le _,Nat.zero_le _⟩
end Go.Proofs.YtpemapoblhleoaaGreatDoor.Ghost
