/- What functions come to, and that the statements are answered with 'true'. Conditions: none. -/
import Derived.Test.YtmemggdjnfccfaaS
import Derived.Test.YtmemggdjnfccfaaGE
import Derived.Test.YtmemggdjnfccfaaP1
set_option linter.unusedVariables false
set_option linter.unusedSimpArgs false
set_option linter.unusedSectionVars false
set_option linter.unnecessarySimpa false
namespace Go.Proofs.Ytmemggdjnfccfaa.Ghost
open Go
theorem eqPl_f (x y:Pl):eqT tPlace x y=false↔¬ x=y:=by rw [← eqPl,Bool.not_eq_true]
theorem eqPl_dec (x y:Pl):eqT tPlace x y=dec (x=y):=by
  by_cases h:x=y
  · rw [(eqPl _ _).2 h,dec_true.2 h]
  · rw [(eqPl_f _ _).2 h,dec_false.2 h]
theorem wrap_sub {a b:Nat} (h:b≤a) (h1:a<4611686018427387904):IntKind.wrap .i64 ((a:Int) - (b:Int))=((a - b:Nat):Int):=by rw [wrap_id (by omega) (by omega)]; omega
theorem wrap_add {a b:Nat} (h1:a<2305843009213693952) (h2:b<2305843009213693952):IntKind.wrap .i64 ((a:Int)+(b:Int))=((a+b:Nat):Int):=by rw [wrap_id (by omega) (by omega)]; omega
theorem wrap_nat {a:Nat} (h:a<9223372036854775808):IntKind.wrap .i64 (a:Int)=(a:Int):=wrap_id (by omega) (by omega)
theorem wrap_one {a:Nat} (h:a<9223372036854775807):IntKind.wrap .i64 ((a:Int)+1)=(a:Int)+1:=wrap_id (by omega) (by omega)
theorem nbeq (a b:Nat):Nat.beq a b=decide (a=b):=by
  by_cases h:a=b
  · rw [decide_eq_true h,h]; exact Nat.beq_refl b
  · rw [decide_eq_false h]; exact Bool.eq_false_iff.2 (fun e=>h (Nat.eq_of_beq_eq_true e))
theorem wrap1:IntKind.wrap .i64 1=1:=by decide
theorem wrap0:IntKind.wrap .i64 0=0:=by decide
structure Fit (w:den tWorld):Prop where
  few:FewP w
  right:RightP w
theorem Comes.fit {w:den tWorld} {F:Nat→Nat→Nat→Nat→Option (dShL [.d .bool]×Fresh)} (h:Comes F (fun r=>r.1.1=true↔FewP w∧RightP w)):Comes F (fun r=>r.1.1=true↔Fit w) :=
  h.mono (fun _ hv=>hv.trans ⟨fun e=>⟨e.1,e.2⟩,fun e=>⟨e.few,e.right⟩⟩)
theorem RightP.exits_pos {w:den tWorld} (h:RightP w):0<List.length (w.1.1:List (List Int)):=Int.ofNat_lt.1 (Int.lt_of_le_of_lt (h.at_ 0 h.pos).1.1 (h.at_ 0 h.pos).1.2)
end Go.Proofs.Ytmemggdjnfccfaa.Ghost
namespace Go.Proofs.Ytmemggdjnfccfaa.Ghost
open Go
theorem eqKey_dec (x y:den tPlace):eqT tPlace x y=dec (x=y):=by
  obtain ⟨a1,a2,⟨⟩⟩:=x
  obtain ⟨b1,b2,⟨⟩⟩:=y
  rw [Bool.eq_iff_iff,dec_true]
  simp [eqT,eqTL]
def cmpI (a b:Int):Int:=bif decide (a<b) then -1 else bif decide (b<a) then 1 else 0
def kCmp (a b:den tPlace):Int:=bif decide (cmpI a.1 b.1=0) then cmpI a.2.1 b.2.1 else cmpI a.1 b.1
theorem kCmp_lt (a b:den tPlace):decide (kCmp a b<0)=kLt a b:=by
  have key:∀ a1 a2 b1 b2:Int,decide ((bif decide (cmpI a1 b1=0) then cmpI a2 b2 else cmpI a1 b1)<0)=(decide (a1<b1) || (decide (a1=b1) && decide (a2<b2))):=by
    intro a1 a2 b1 b2
    unfold cmpI
    by_cases h:a1<b1
    · simp [h]
    · by_cases k:b1<a1
      · have:¬ a1=b1:=by omega
        simp [h,k,this]
      · have e:a1=b1:=by omega
        subst e
        by_cases h2:a2<b2
        · simp [h2]
        · by_cases k2:b2<a2
          · simp [h2,k2]
          · simp [h2,k2]
  exact key _ _ _ _
theorem rless_spec (a b:den tPlace):Comes (fun nf _ _ _=>innkeepref14_Less nf (a) (b)) (fun r=>r=((kLt a b,()),[])):=by
  refine Comes.succ (fun nf _ _ _=>innkeepref14_Less.eq nf _ _) ?_
  unfold kLt
  by_cases h:(a.1:Int)<b.1
  · simp [h]
  · by_cases k:(a.1:Int)=b.1
    · simp [h,k]
    · simp [h,k]
theorem rsame_l0 (a b:List (den tPlace)) (ha:a.length≤1048576) (hl:a.length=b.length) (t4:Bool):∀ i,i≤a.length→Comes (fun nf fm0 _ _=>innkeepref14_Same.l0 nf fm0 (a) (b) t4 ((i:Int))) (fun r=>r=((dec (∀ j,i≤j→j<a.length→List.getD a j (dft tPlace)=List.getD b j (dft tPlace)),()),[])):=by
  refine upto ?_ (fun i hi next => ?_)
  · refine Comes.succ1 (fun nf fm0 _ _=>innkeepref14_Same.l0_eq nf fm0 _ _ _ _) ?_
    simp [-List.getD_eq_getElem?_getD,-List.length_eq_zero_iff,keepAll,freshHas,pathEq,eqPl_dec,wrap1,wrap0,nbeq]
    intro j h1 h2; omega
  · rw [← wrap_succ (by omega)] at next
    have hi2:i<b.length:=by omega
    refine Comes.succ1 (fun nf fm0 _ _=>innkeepref14_Same.l0_eq nf fm0 _ _ _ _) ?_
    by_cases e:List.getD a i (dft tPlace)=List.getD b i (dft tPlace)
    · simp [-List.getD_eq_getElem?_getD,-List.length_eq_zero_iff,keepAll,freshHas,pathEq,eqPl_dec,wrap1,wrap0,nbeq,hi,hi2,e,eqKey_dec]
      refine next.mono (fun v hv => ?_)
      rw [hv]
      have:(∀ j,i+1≤j→j<a.length→List.getD a j (dft tPlace)=List.getD b j (dft tPlace))=(∀ j,i≤j→j<a.length→List.getD a j (dft tPlace)=List.getD b j (dft tPlace)):=propext ⟨fun h j h1 h2=>by
        by_cases hj:j=i
        · subst hj; exact e
        · exact h j (by omega) h2,fun h j h1 h2=>h j (by omega) h2⟩
      rw [this]
    · simp [-List.getD_eq_getElem?_getD,-List.length_eq_zero_iff,keepAll,freshHas,pathEq,eqPl_dec,wrap1,wrap0,nbeq,hi,hi2,e,eqKey_dec]
      exact ⟨i,Nat.le_refl i,hi,e⟩
theorem rsame_spec (a b:List (den tPlace)) (ha:a.length≤1048576):Comes (fun nf _ _ _=>innkeepref14_Same nf (a) (b)) (fun r=>r=((dec (a=b),()),[])):=by
  by_cases hl:a.length=b.length
  · have l0:=(rsame_l0 a b ha hl false 0 (Nat.zero_le _))
    have:(∀ j,0≤j→j<a.length→List.getD a j (dft tPlace)=List.getD b j (dft tPlace))=(a=b):=propext ⟨fun h=>ext_getD (dft tPlace) hl (fun j hj=>h j (Nat.zero_le j) hj),fun h j _ _=>by rw [h]⟩
    rw [this] at l0
    refine Comes.succ (fun nf _ _ _=>innkeepref14_Same.eq nf _ _) ?_
    simp [-List.getD_eq_getElem?_getD,-List.length_eq_zero_iff,keepAll,freshHas,pathEq,eqPl_dec,wrap1,wrap0,nbeq,hl]
    exact l0.enter
  · have e:¬ a=b:=fun e=>hl (by rw [e])
    refine Comes.succ (fun nf _ _ _=>innkeepref14_Same.eq nf _ _) ?_
    simp [-List.getD_eq_getElem?_getD,-List.length_eq_zero_iff,keepAll,freshHas,pathEq,eqPl_dec,wrap1,wrap0,nbeq,hl,e,show ¬ (a.length:Int)=(b.length:Int) by omega]
end Go.Proofs.Ytmemggdjnfccfaa.Ghost
