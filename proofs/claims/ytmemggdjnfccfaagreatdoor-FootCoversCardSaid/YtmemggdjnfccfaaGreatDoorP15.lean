/- What functions come to, and that the statements are answered with 'true'. Conditions: none. -/
import Derived.Test.YtmemggdjnfccfaaGreatDoorS
import Derived.Test.YtmemggdjnfccfaaGreatDoorGE
import Derived.Test.YtmemggdjnfccfaaGreatDoorP1
import Derived.Test.YtmemggdjnfccfaaGreatDoorP2
import Derived.Test.YtmemggdjnfccfaaGreatDoorP3
import Derived.Test.YtmemggdjnfccfaaGreatDoorP4
import Derived.Test.YtmemggdjnfccfaaGreatDoorP5
import Derived.Test.YtmemggdjnfccfaaGreatDoorP6
import Derived.Test.YtmemggdjnfccfaaGreatDoorP7
import Derived.Test.YtmemggdjnfccfaaGreatDoorP8
import Derived.Test.YtmemggdjnfccfaaGreatDoorP9
import Derived.Test.YtmemggdjnfccfaaGreatDoorP10
import Derived.Test.YtmemggdjnfccfaaGreatDoorP11
import Derived.Test.YtmemggdjnfccfaaGreatDoorP12
import Derived.Test.YtmemggdjnfccfaaGreatDoorP13
import Derived.Test.YtmemggdjnfccfaaGreatDoorP14
set_option linter.unusedVariables false
set_option linter.unusedSimpArgs false
set_option linter.unusedSectionVars false
set_option linter.unnecessarySimpa false
namespace Go.Proofs.YtmemggdjnfccfaaGreatDoor.Ghost
open Go
theorem Cl:Ze (fun nf _ _ _=>X7 nf) (fun r=>r.1.1=true):=Ze.one 60 (r:=((true,()),[])) (by kernel_rfl) rfl
theorem AM4 (w:den Zb):Ze (fun nf _ _ _=>Yf nf (w)) (fun r=>r.1.1=true↔AOx w∧X9 w):=by
  refine Ze.succ (fun n _ _ _=>Yf.eq n w) (Ze.call (AM3 w) (fun v hv=>Ze.bif (fun hb=>Ze.call (AHy w) (fun u hu=>Ze.ret ?_)) (fun hb=>Ze.ret ?_)))
  · exact ⟨fun e=>⟨hv.1 hb,hu.1 e⟩,fun e=>hu.2 e.2⟩
  · exact ⟨(fun e=>by cases e),fun e=>by rw [hv.2 e.1] at hb; cases hb⟩
theorem AA7 {α:Type} (d:α) {l:List α} {k:Nat} (h:k<l.length):l.drop k=l.getD k d :: l.drop (k+1):=by
  rw [List.drop_eq_getElem_cons h,List.getD_eq_getElem?_getD,List.getElem?_eq_getElem h]; rfl
theorem AIy {x:Ky} {a b:Int}:x=((a,b,()):Ky)↔(x.1:Int)=a∧(x.2.1:Int)=b:=by
  obtain ⟨x1,x2,⟨⟩⟩:=x
  exact ⟨fun h=>by cases h; exact ⟨rfl,rfl⟩,fun ⟨h1,h2⟩=>by show ((x1,x2,()):Int×Int×Unit)=(a,b,()); rw [show x1=a from h1,show x2=b from h2]⟩
def H2 (w:den Zb) (i:Nat) (c:Cm) (a b:Int):Prop:=(a=0∧b=Qi w i)∨(a=1∧b=(i:Int))∨(((Z4 c=1∨Z4 c=2)∧0≤Ke w i (H5 c).toNat)∧a=0∧b=Ke w i (H5 c).toNat)∨(((Z4 c=2∨Z4 c=7∨Z4 c=8)∧Jz c<(List.length (w.2.1:List Int):Int))∧a=1∧b=Jz c)
theorem T9 {w:den Zb} {i:Nat} {c:Cm} {x:Ky}:x∈J5 (I0 w i c)↔H2 w i c x.1 x.2.1:=by
  rw [Px]
  unfold H2 I0 AIm AIn AIo
  rw [List.mem_append,List.mem_append,List.mem_cons,List.mem_singleton,AIy,AIy]
  have e1:∀ (p:Prop) [Decidable p] (a b:Int),(x∈(if p then [((a,b,()):Ky)] else [])↔p∧(x.1:Int)=a∧(x.2.1:Int)=b):=fun p _ a b=>by
    by_cases hp:p
    · rw [if_pos hp,List.mem_singleton,AIy]; exact ⟨fun h=>⟨hp,h⟩,fun h=>h.2⟩
    · rw [if_neg hp]; exact ⟨fun h=>absurd h List.not_mem_nil,fun h=>absurd h.1 hp⟩
  rw [e1,e1,or_assoc]
end Go.Proofs.YtmemggdjnfccfaaGreatDoor.Ghost
