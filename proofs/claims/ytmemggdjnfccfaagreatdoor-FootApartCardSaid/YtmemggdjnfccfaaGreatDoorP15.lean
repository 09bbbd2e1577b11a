/- What functions come to, and that the statements are answered with 'true'. Conditions: none. -/
import Derived.Test.YtmemggdjnfccfaaGreatDoorS
import Derived.Test.YtmemggdjnfccfaaGreatDoorGE
import Derived.Test.YtmemggdjnfccfaaGreatDoorP1
import Derived.Test.YtmemggdjnfccfaaGreatDoorP2
import Derived.Test.YtmemggdjnfccfaaGreatDoorP3
import Derived.Test.YtmemggdjnfccfaaGreatDoorP4
import Derived.Test.YtmemggdjnfccfaaGreatDoorP5
import Derived.Test.YtmemggdjnfccfaaGreatDoorP6
import Derived.Test.YtmemggdjnfccfaaGreatDoorP7
import Derived.Test.YtmemggdjnfccfaaGreatDoorP8
import Derived.Test.YtmemggdjnfccfaaGreatDoorP9
import Derived.Test.YtmemggdjnfccfaaGreatDoorP10
import Derived.Test.YtmemggdjnfccfaaGreatDoorP11
import Derived.Test.YtmemggdjnfccfaaGreatDoorP12
import Derived.Test.YtmemggdjnfccfaaGreatDoorP13
import Derived.Test.YtmemggdjnfccfaaGreatDoorP14
set_option linter.unusedVariables false
set_option linter.unusedSimpArgs false
set_option linter.unusedSectionVars false
set_option linter.unnecessarySimpa false
namespace Go.Proofs.YtmemggdjnfccfaaGreatDoor.Ghost
open Go
theorem M4:Zd (fun nf _ _ _=>X0 nf) (fun r=>r.1.1=true):=Zd.one 60 (r:=((true,()),[])) (by kernel_rfl) rfl
theorem ANt (w:den Zb):Zd (fun nf _ _ _=>Yk nf (w)) (fun r=>r.1.1=true↔APm w∧Yf w):=by
  refine Zd.succ (fun n _ _ _=>Yk.eq n w) (Zd.call (ANs w) (fun v hv=>Zd.bif (fun hb=>Zd.call (AIl w) (fun u hu=>Zd.ret ?_)) (fun hb=>Zd.ret ?_)))
  · exact ⟨fun e=>⟨hv.1 hb,hu.1 e⟩,fun e=>hu.2 e.2⟩
  · exact ⟨(fun e=>by cases e),fun e=>by rw [hv.2 e.1] at hb; cases hb⟩
theorem AKh {α:Type} (d:α) {l:List α} {k:Nat} (h:k<l.length):l.drop k=l.getD k d :: l.drop (k+1):=by
  rw [List.drop_eq_getElem_cons h,List.getD_eq_getElem?_getD,List.getElem?_eq_getElem h]; rfl
theorem AJi {x:Ky} {a b:Int}:x=((a,b,()):Ky)↔(x.1:Int)=a∧(x.2.1:Int)=b:=by
  obtain ⟨x1,x2,⟨⟩⟩:=x
  exact ⟨fun h=>by cases h; exact ⟨rfl,rfl⟩,fun ⟨h1,h2⟩=>by show ((x1,x2,()):Int×Int×Unit)=(a,b,()); rw [show x1=a from h1,show x2=b from h2]⟩
def Y7 (w:den Zb) (i:Nat) (c:Cm) (a b:Int):Prop:=(a=0∧b=Yc w i)∨(a=1∧b=(i:Int))∨(((Z2 c=1∨Z2 c=2)∧0≤Y5 w i (Hg c).toNat)∧a=0∧b=Y5 w i (Hg c).toNat)∨(((Z2 c=2∨Z2 c=7∨Z2 c=8)∧Y6 c<(List.length (w.2.1:List Int):Int))∧a=1∧b=Y6 c)
theorem AGj {w:den Zb} {i:Nat} {c:Cm} {x:Ky}:x∈Yz (Ka w i c)↔Y7 w i c x.1 x.2.1:=by
  rw [Ob]
  unfold Y7 Ka AFm AFn AFo
  rw [List.mem_append,List.mem_append,List.mem_cons,List.mem_singleton,AJi,AJi]
  have e1:∀ (p:Prop) [Decidable p] (a b:Int),(x∈(if p then [((a,b,()):Ky)] else [])↔p∧(x.1:Int)=a∧(x.2.1:Int)=b):=fun p _ a b=>by
    by_cases hp:p
    · rw [if_pos hp,List.mem_singleton,AJi]; exact ⟨fun h=>⟨hp,h⟩,fun h=>h.2⟩
    · rw [if_neg hp]; exact ⟨fun h=>absurd h List.not_mem_nil,fun h=>absurd h.1 hp⟩
  rw [e1,e1,or_assoc]
end Go.Proofs.YtmemggdjnfccfaaGreatDoor.Ghost
