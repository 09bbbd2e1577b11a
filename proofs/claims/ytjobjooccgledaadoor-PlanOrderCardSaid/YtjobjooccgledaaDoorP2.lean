/- What functions come to, and that the statements are answered with 'true'. Conditions: none. -/
import Derived.Test.YtjobjooccgledaaDoorS
import Derived.Test.YtjobjooccgledaaDoorGE
import Derived.Test.YtjobjooccgledaaDoorP1
set_option linter.unusedVariables false
set_option linter.unusedSimpArgs false
set_option linter.unusedSectionVars false
set_option linter.unnecessarySimpa false
namespace Go.Proofs.YtjobjooccgledaaDoor.Ghost
open Go
theorem eqPl_f (x y:Pl):eqT tPlace x y=false↔¬ x=y:=by rw [← eqPl,Bool.not_eq_true]
theorem eqPl_dec (x y:Pl):eqT tPlace x y=dec (x=y):=by
  by_cases h:x=y
  · rw [(eqPl _ _).2 h,dec_true.2 h]
  · rw [(eqPl_f _ _).2 h,dec_false.2 h]
theorem wrap_sub {a b:Nat} (h:b≤a) (h1:a<4611686018427387904):IntKind.wrap .i64 ((a:Int) - (b:Int))=((a - b:Nat):Int):=by rw [wrap_id (by omega) (by omega)]; omega
theorem wrap_add {a b:Nat} (h1:a<2305843009213693952) (h2:b<2305843009213693952):IntKind.wrap .i64 ((a:Int)+(b:Int))=((a+b:Nat):Int):=by rw [wrap_id (by omega) (by omega)]; omega
theorem wrap_nat {a:Nat} (h:a<9223372036854775808):IntKind.wrap .i64 (a:Int)=(a:Int):=wrap_id (by omega) (by omega)
theorem wrap_one {a:Nat} (h:a<9223372036854775807):IntKind.wrap .i64 ((a:Int)+1)=(a:Int)+1:=wrap_id (by omega) (by omega)
theorem nbeq (a b:Nat):Nat.beq a b=decide (a=b):=by
  by_cases h:a=b
  · rw [decide_eq_true h,h]; exact Nat.beq_refl b
  · rw [decide_eq_false h]; exact Bool.eq_false_iff.2 (fun e=>h (Nat.eq_of_beq_eq_true e))
theorem wrap1:IntKind.wrap .i64 1=1:=by decide
theorem wrap0:IntKind.wrap .i64 0=0:=by decide
structure Fit (w:den tWorld):Prop where
  few:FewP w
  right:RightP w
theorem Comes.fit {w:den tWorld} {F:Nat→Nat→Nat→Nat→Option (dShL [.d .bool]×Fresh)} (h:Comes F (fun r=>r.1.1=true↔FewP w∧RightP w)):Comes F (fun r=>r.1.1=true↔Fit w) :=
  h.mono (fun _ hv=>hv.trans ⟨fun e=>⟨e.1,e.2⟩,fun e=>⟨e.few,e.right⟩⟩)
theorem RightP.exits_pos {w:den tWorld} (h:RightP w):0<List.length (w.1.1:List (List Int)):=Int.ofNat_lt.1 (Int.lt_of_le_of_lt (h.at_ 0 h.pos).1.1 (h.at_ 0 h.pos).1.2)
end Go.Proofs.YtjobjooccgledaaDoor.Ghost
