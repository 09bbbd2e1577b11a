/- What functions come to, and that the statements are answered with 'true'. Conditions: none. -/
import Derived.Test.YtmemggdjnfccfaaGreatDoorS
import Derived.Test.YtmemggdjnfccfaaGreatDoorGE
import Derived.Test.YtmemggdjnfccfaaGreatDoorP1
import Derived.Test.YtmemggdjnfccfaaGreatDoorP2
set_option linter.unusedVariables false
set_option linter.unusedSimpArgs false
set_option linter.unusedSectionVars false
set_option linter.unnecessarySimpa false
namespace Go.Proofs.YtmemggdjnfccfaaGreatDoor.Ghost
open Go
theorem AH7 (l:List (den Za)) (hl:l.length≤1048576):Zd (fun nf _ _ _=>Zv nf (l)) (fun r=>r=((Yz l,()),[(0,[])])):=by
  refine ⟨_,rfl,1,fun n m k j h1 _ _ _ => ?_⟩
  obtain ⟨n',rfl⟩:∃ n',n=n'+1:=⟨n - 1,by omega⟩
  show (if List.length l≤1048576 then some ((Yz l,()),[(0,[])]) else none)=_
  rw [if_pos hl]
end Go.Proofs.YtmemggdjnfccfaaGreatDoor.Ghost
