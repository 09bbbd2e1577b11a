/- What functions come to, and that the statements are answered with 'true'. Conditions: none. -/
import Derived.Test.YtmemggdjnfccfaaGreatDoorS
import Derived.Test.YtmemggdjnfccfaaGreatDoorGE
import Derived.Test.YtmemggdjnfccfaaGreatDoorP1
set_option linter.unusedVariables false
set_option linter.unusedSimpArgs false
set_option linter.unusedSectionVars false
set_option linter.unnecessarySimpa false
namespace Go.Proofs.YtmemggdjnfccfaaGreatDoor.Ghost
open Go
theorem AM0 (x y:Pl):eqT Za x y=false↔¬ x=y:=by rw [← Iv,Bool.not_eq_true]
theorem Zo (x y:Pl):eqT Za x y=dec (x=y):=by
  by_cases h:x=y
  · rw [(Iv _ _).2 h,Jj.2 h]
  · rw [(AM0 _ _).2 h,Kq.2 h]
theorem Xx (a b:Nat):Nat.beq a b=decide (a=b):=by
  by_cases h:a=b
  · rw [decide_eq_true h,h]; exact Nat.beq_refl b
  · rw [decide_eq_false h]; exact Bool.eq_false_iff.2 (fun e=>h (Nat.eq_of_beq_eq_true e))
theorem Z9:IntKind.wrap .i64 1=1:=by decide
theorem Z8:IntKind.wrap .i64 0=0:=by decide
structure Fit (w:den Zb):Prop where
  few:AOx w
  right:X9 w
theorem Ze.fit {w:den Zb} {F:Nat→Nat→Nat→Nat→Option (Xd [.d .bool]×Z0)} (h:Ze F (fun r=>r.1.1=true↔AOx w∧X9 w)):Ze F (fun r=>r.1.1=true↔Fit w) :=
  h.mono (fun _ hv=>hv.trans ⟨fun e=>⟨e.1,e.2⟩,fun e=>⟨e.few,e.right⟩⟩)
end Go.Proofs.YtmemggdjnfccfaaGreatDoor.Ghost
namespace Go.Proofs.YtmemggdjnfccfaaGreatDoor.Ghost
open Go
theorem AHz (a b:den Za):Ze (fun nf _ _ _=>Yg nf (a) (b)) (fun r=>r=((kLt a b,()),[])):=by
  refine Ze.succ (fun nf _ _ _=>Yg.eq nf _ _) ?_
  unfold kLt
  by_cases h:(a.1:Int)<b.1
  · simp [h]
  · by_cases k:(a.1:Int)=b.1
    · simp [h,k]
    · simp [h,k]
end Go.Proofs.YtmemggdjnfccfaaGreatDoor.Ghost
