/- What functions come to, and that the statements are answered with 'true'. Conditions: none. -/
import Derived.Test.YtmemggdjnfccfaaGreatDoorS
import Derived.Test.YtmemggdjnfccfaaGreatDoorGE
import Derived.Test.YtmemggdjnfccfaaGreatDoorP1
set_option linter.unusedVariables false
set_option linter.unusedSimpArgs false
set_option linter.unusedSectionVars false
set_option linter.unnecessarySimpa false
namespace Go.Proofs.YtmemggdjnfccfaaGreatDoor.Ghost
open Go
theorem BL0 (x y:Pl):eqT Za x y=false↔¬ x=y:=by rw [← Lw,Bool.not_eq_true]
theorem Zo (x y:Pl):eqT Za x y=dec (x=y):=by
  by_cases h:x=y
  · rw [(Lw _ _).2 h,Jl.2 h]
  · rw [(BL0 _ _).2 h,Ks.2 h]
theorem Yb (a b:Nat):Nat.beq a b=decide (a=b):=by
  by_cases h:a=b
  · rw [decide_eq_true h,h]; exact Nat.beq_refl b
  · rw [decide_eq_false h]; exact Bool.eq_false_iff.2 (fun e=>h (Nat.eq_of_beq_eq_true e))
theorem Xj:IntKind.wrap .i64 1=1:=by decide
theorem Xi:IntKind.wrap .i64 0=0:=by decide
structure Fit (w:den Zb):Prop where
  few:APm w
  right:Yf w
theorem Zd.fit {w:den Zb} {F:Nat→Nat→Nat→Nat→Option (Xf [.d .bool]×Z0)} (h:Zd F (fun r=>r.1.1=true↔APm w∧Yf w)):Zd F (fun r=>r.1.1=true↔Fit w) :=
  h.mono (fun _ hv=>hv.trans ⟨fun e=>⟨e.1,e.2⟩,fun e=>⟨e.few,e.right⟩⟩)
end Go.Proofs.YtmemggdjnfccfaaGreatDoor.Ghost
namespace Go.Proofs.YtmemggdjnfccfaaGreatDoor.Ghost
open Go
theorem ABs (x y:den Za):eqT Za x y=dec (x=y):=by
  obtain ⟨a1,a2,⟨⟩⟩:=x
  obtain ⟨b1,b2,⟨⟩⟩:=y
  rw [Bool.eq_iff_iff,Jl]
  simp [eqT,Ad]
theorem AOy (a b:List (den Za)) (ha:a.length≤1048576) (hl:a.length=b.length) (t4:Bool):∀ i,i≤a.length→Zd (fun nf fm0 _ _=>Z4.l0 nf fm0 (a) (b) t4 ((i:Int))) (fun r=>r=((dec (∀ j,i≤j→j<a.length→List.getD a j (dft Za)=List.getD b j (dft Za)),()),[])):=by
  refine upto ?_ (fun i hi next => ?_)
  · refine Zd.succ1 (fun nf fm0 _ _=>Z4.l0_eq nf fm0 _ _ _ _) ?_
    simp [-List.getD_eq_getElem?_getD,-List.length_eq_zero_iff,Zp,Zm,Zy,Zo,Xj,Xi,Yb]
    intro j h1 h2; omega
  · rw [← Xv (by omega)] at next
    have hi2:i<b.length:=by omega
    refine Zd.succ1 (fun nf fm0 _ _=>Z4.l0_eq nf fm0 _ _ _ _) ?_
    by_cases e:List.getD a i (dft Za)=List.getD b i (dft Za)
    · simp [-List.getD_eq_getElem?_getD,-List.length_eq_zero_iff,Zp,Zm,Zy,Zo,Xj,Xi,Yb,hi,hi2,e,ABs]
      refine next.mono (fun v hv => ?_)
      rw [hv]
      have:(∀ j,i+1≤j→j<a.length→List.getD a j (dft Za)=List.getD b j (dft Za))=(∀ j,i≤j→j<a.length→List.getD a j (dft Za)=List.getD b j (dft Za)):=propext ⟨fun h j h1 h2=>by
        by_cases hj:j=i
        · subst hj; exact e
        · exact h j (by omega) h2,fun h j h1 h2=>h j (by omega) h2⟩
      rw [this]
    · simp [-List.getD_eq_getElem?_getD,-List.length_eq_zero_iff,Zp,Zm,Zy,Zo,Xj,Xi,Yb,hi,hi2,e,ABs]
      exact ⟨i,Nat.le_refl i,hi,e⟩
theorem Nd (a b:List (den Za)) (ha:a.length≤1048576):Zd (fun nf _ _ _=>Z4 nf (a) (b)) (fun r=>r=((dec (a=b),()),[])):=by
  by_cases hl:a.length=b.length
  · have l0:=(AOy a b ha hl false 0 (Nat.zero_le _))
    have:(∀ j,0≤j→j<a.length→List.getD a j (dft Za)=List.getD b j (dft Za))=(a=b):=propext ⟨fun h=>G7 (dft Za) hl (fun j hj=>h j (Nat.zero_le j) hj),fun h j _ _=>by rw [h]⟩
    rw [this] at l0
    refine Zd.succ (fun nf _ _ _=>Z4.eq nf _ _) ?_
    simp [-List.getD_eq_getElem?_getD,-List.length_eq_zero_iff,Zp,Zm,Zy,Zo,Xj,Xi,Yb,hl]
    exact l0.enter
  · have e:¬ a=b:=fun e=>hl (by rw [e])
    refine Zd.succ (fun nf _ _ _=>Z4.eq nf _ _) ?_
    simp [-List.getD_eq_getElem?_getD,-List.length_eq_zero_iff,Zp,Zm,Zy,Zo,Xj,Xi,Yb,hl,e,show ¬ (a.length:Int)=(b.length:Int) by omega]
end Go.Proofs.YtmemggdjnfccfaaGreatDoor.Ghost
