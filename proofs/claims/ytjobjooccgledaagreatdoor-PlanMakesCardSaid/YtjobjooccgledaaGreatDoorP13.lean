/- What functions come to, and that the statements are answered with 'true'. Conditions: none. -/
import Derived.Test.YtjobjooccgledaaGreatDoorS
import Derived.Test.YtjobjooccgledaaGreatDoorGE
import Derived.Test.YtjobjooccgledaaGreatDoorP1
import Derived.Test.YtjobjooccgledaaGreatDoorP2
import Derived.Test.YtjobjooccgledaaGreatDoorP3
import Derived.Test.YtjobjooccgledaaGreatDoorP4
import Derived.Test.YtjobjooccgledaaGreatDoorP5
import Derived.Test.YtjobjooccgledaaGreatDoorP6
import Derived.Test.YtjobjooccgledaaGreatDoorP7
import Derived.Test.YtjobjooccgledaaGreatDoorP8
import Derived.Test.YtjobjooccgledaaGreatDoorP9
import Derived.Test.YtjobjooccgledaaGreatDoorP10
import Derived.Test.YtjobjooccgledaaGreatDoorP11
import Derived.Test.YtjobjooccgledaaGreatDoorP12
set_option linter.unusedVariables false
set_option linter.unusedSimpArgs false
set_option linter.unusedSectionVars false
set_option linter.unnecessarySimpa false
namespace Go.Proofs.YtjobjooccgledaaGreatDoor.Ghost
open Go
abbrev Wd:=den Za
theorem Er {α:Type} {l:List α} {i:Int} {x:α} (h0:0≤i) (h1:i<((List.length l:Nat):Int)):AHl l i x=some (List.set l i.toNat x):=by unfold AHl; rw [if_pos ⟨h0,h1⟩]
def AI3 (w:Wd) (x:Wri):Prop:=(0:Int)≤x.2.1∧((x.1=(0:Int)∧x.2.1<((List.length (w.2.1:List Int):Nat):Int))∨(x.1=(1:Int)∧x.2.1<((List.length (w.2.2.1:List Int):Nat):Int))∨(x.1=(2:Int)∧x.2.1<((List.length (w.2.2.2.1:List Pl):Nat):Int)))
theorem wr0 {w:Wd} {x:Wri} (h:x.1=(0:Int)) (h0:(0:Int)≤x.2.1) (h1:x.2.1<((List.length (w.2.1:List Int):Nat):Int)):wrW w x=some (w.1,List.set (w.2.1:List Int) (Int.toNat x.2.1) x.2.2.1,w.2.2.1,w.2.2.2.1,()):=by
  unfold wrW; rw [decide_eq_true h,cond_true,Er h0 h1]
theorem wr1 {w:Wd} {x:Wri} (h:x.1=(1:Int)) (h0:(0:Int)≤x.2.1) (h1:x.2.1<((List.length (w.2.2.1:List Int):Nat):Int)):wrW w x=some (w.1,w.2.1,List.set (w.2.2.1:List Int) (Int.toNat x.2.1) x.2.2.1,w.2.2.2.1,()):=by
  unfold wrW; rw [decide_eq_false (show ¬ x.1=(0:Int) by rw [h]; decide),cond_false,decide_eq_true h,cond_true,Er h0 h1]
theorem wr2 {w:Wd} {x:Wri} (h:x.1=(2:Int)) (h0:(0:Int)≤x.2.1) (h1:x.2.1<((List.length (w.2.2.2.1:List Pl):Nat):Int)):wrW w x=some (w.1,w.2.1,w.2.2.1,List.set (w.2.2.2.1:List Pl) (Int.toNat x.2.1) x.2.2.2.1,()):=by
  unfold wrW; rw [decide_eq_false (show ¬ x.1=(0:Int) by rw [h]; decide),cond_false,decide_eq_false (show ¬ x.1=(1:Int) by rw [h]; decide),cond_false,decide_eq_true h,cond_true,Er h0 h1]
structure Pz (w v:Wd):Prop where
  d:v.1=w.1
  a:List.length (v.2.1:List Int)=List.length (w.2.1:List Int)
  c:List.length (v.2.2.1:List Int)=List.length (w.2.2.1:List Int)
  h:List.length (v.2.2.2.1:List Pl)=List.length (w.2.2.2.1:List Pl)
theorem Pz.refl (w:Wd):Pz w w:=⟨rfl,rfl,rfl,rfl⟩
theorem Pz.trans {u v w:Wd} (h:Pz u v) (k:Pz v w):Pz u w:=⟨k.d.trans h.d,k.a.trans h.a,k.c.trans h.c,k.h.trans h.h⟩
theorem Pz.symm {u v:Wd} (h:Pz u v):Pz v u:=⟨h.d.symm,h.a.symm,h.c.symm,h.h.symm⟩
theorem Pz.sm {w v:Wd} (h:Pz w v) (s:Sm w):Sm v:=⟨by rw [h.d]; exact s.e,by rw [h.d]; exact s.b,by rw [h.d]; exact s.p,by rw [h.d]; exact s.c,by rw [h.d]; exact s.i,by rw [h.a]; exact s.a,by rw [h.c]; exact s.wc,by rw [h.h]; exact s.wh,by rw [h.d]; exact s.rows⟩
theorem Pz.may {w v:Wd} (h:Pz w v) {x:Wri} (m:AI3 w x):AI3 v x:=by unfold AI3; rw [h.a,h.c,h.h]; exact m
theorem Bx {w:Wd} {x:Wri} (h:AI3 w x):∃ w',wrW w x=some w'∧Pz w w':=by
  obtain ⟨h0,⟨h1,h2⟩ | ⟨h1,h2⟩ | ⟨h1,h2⟩⟩:=h
  · exact ⟨_,wr0 h1 h0 h2,⟨rfl,List.length_set,rfl,rfl⟩⟩
  · exact ⟨_,wr1 h1 h0 h2,⟨rfl,rfl,List.length_set,rfl⟩⟩
  · exact ⟨_,wr2 h1 h0 h2,⟨rfl,rfl,rfl,List.length_set⟩⟩
theorem ABe:(l:List Wri)→{w:Wd}→(∀ x,x∈l→AI3 w x)→∃ w',T5 w l=some w'∧Pz w w'
  | [],w,_=>⟨w,rfl,Pz.refl w⟩
  | x :: r,w,h=>by
    obtain ⟨w1,e1,k1⟩:=Bx (h x (by simp))
    obtain ⟨w2,e2,k2⟩:=ABe r (w:=w1) (fun y hy=>k1.may (h y (by simp [hy])))
    exact ⟨w2,by simp only [T5,e1]; exact e2,k1.trans k2⟩
theorem ADx:(l m:List Wri)→{w v:Wd}→T5 w l=some v→T5 w (l ++ m)=T5 v m
  | [],m,w,v,h=>by rw [show v=w from (Option.some.inj h).symm]; rfl
  | x :: r,m,w,v,h=>by
    simp only [T5,List.cons_append] at h ⊢
    split at h
    · rename_i w1 e; exact ADx r m h
    · cases h
theorem Nd {w wE:Wd} {l:List Wri} (s:Sm w) (hl:l.length≤1048576) (e:T5 w l=some wE):Zd (fun nf _ _ _=>Uj nf (w) (l)) (fun r=>r=((wE,()),[(0,[1]),(0,[2]),(0,[3])])):=by
  refine Zd.succ (G:=fun _ _ _ _=>some ((wE,()),[(0,[1]),(0,[2]),(0,[3])])) (fun n _ _ _ => ?_) (Zd.ret rfl)
  show (if List.length (w.2.1:List Int)≤1048576∧List.length (w.2.2.1:List Int)≤1048576∧List.length (w.2.2.2.1:List Pl)≤1048576∧List.length l≤1048576 then (match T5 w l with
      | some w'=>some ((w',()),[(0,[1]),(0,[2]),(0,[3])])
      | none=>none) else none)=some ((wE,()),[(0,[1]),(0,[2]),(0,[3])])
  rw [if_pos ⟨s.a,s.wc,s.wh,hl⟩,e]
theorem AFs {w w':Wd} {x:Wri} (s:Sm w) (e:wrW w x=some w'):Zd (fun nf _ _ _=>Gn nf (w) (x)) (fun r=>r=((w',()),[])):=by
  have e1:T5 w [x]=some w':=by simp only [T5,e]
  refine Zd.succ (fun nf _ _ _=>Gn.eq nf _ _) ?_
  simp [Ze (Nd s (l:=[x]) (by simp) e1),(Nd s (l:=[x]) (by simp) e1).prop]
theorem AHk (a b:List Wri) (ha:a.length≤1048576) (hl:a.length=b.length) (t4:Bool):∀ i,i≤a.length→Zd (fun nf fm0 _ _=>Z1.l0 nf fm0 (a) (b) t4 ((i:Int))) (fun r=>r=((dec (∀ j,i≤j→j<a.length→List.getD a j (dft Zi)=List.getD b j (dft Zi)),()),[])):=by
  have eqWr:∀ x y:Wri,eqT Zi x y=dec (x=y):=fun x y=>by
    obtain ⟨a1,a2,a3,⟨a4,a5,⟨⟩⟩,⟨⟩⟩:=x
    obtain ⟨b1,b2,b3,⟨b4,b5,⟨⟩⟩,⟨⟩⟩:=y
    rw [Bool.eq_iff_iff,Q4]
    simp [eqT,ACo]
  refine upto ?_ (fun i hi next => ?_)
  · refine Zd.succ1 (fun nf fm0 _ _=>Z1.l0_eq nf fm0 _ _ _ _) ?_
    simp [-List.getD_eq_getElem?_getD,-List.length_eq_zero_iff,Zq,Zp,Z5,Zr,Xj,Xi,X5]
    intro j h1 h2; omega
  · rw [← Xm (by omega)] at next
    have hi2:i<b.length:=by omega
    refine Zd.succ1 (fun nf fm0 _ _=>Z1.l0_eq nf fm0 _ _ _ _) ?_
    by_cases e:List.getD a i (dft Zi)=List.getD b i (dft Zi)
    · simp [-List.getD_eq_getElem?_getD,-List.length_eq_zero_iff,Zq,Zp,Z5,Zr,Xj,Xi,X5,hi,hi2,e,eqWr]
      refine next.mono (fun v hv => ?_)
      rw [hv]
      have:(∀ j,i+1≤j→j<a.length→List.getD a j (dft Zi)=List.getD b j (dft Zi))=(∀ j,i≤j→j<a.length→List.getD a j (dft Zi)=List.getD b j (dft Zi)):=propext ⟨fun h j h1 h2=>by
        by_cases hj:j=i
        · subst hj; exact e
        · exact h j (by omega) h2,fun h j h1 h2=>h j (by omega) h2⟩
      rw [this]
    · simp [-List.getD_eq_getElem?_getD,-List.length_eq_zero_iff,Zq,Zp,Z5,Zr,Xj,Xi,X5,hi,hi2,e,eqWr]
      exact ⟨i,Nat.le_refl i,hi,e⟩
theorem ADc (a b:List Wri) (ha:a.length≤1048576):Zd (fun nf _ _ _=>Z1 nf (a) (b)) (fun r=>r=((dec (a=b),()),[])):=by
  by_cases hl:a.length=b.length
  · have l0:=(AHk a b ha hl false 0 (Nat.zero_le _))
    have:(∀ j,0≤j→j<a.length→List.getD a j (dft Zi)=List.getD b j (dft Zi))=(a=b):=propext ⟨fun h=>Ue (dft Zi) hl (fun j hj=>h j (Nat.zero_le j) hj),fun h j _ _=>by rw [h]⟩
    rw [this] at l0
    refine Zd.succ (fun nf _ _ _=>Z1.eq nf _ _) ?_
    simp [-List.getD_eq_getElem?_getD,-List.length_eq_zero_iff,Zq,Zp,Z5,Zr,Xj,Xi,X5,hl]
    exact l0.enter
  · have e:¬ a=b:=fun e=>hl (by rw [e])
    refine Zd.succ (fun nf _ _ _=>Z1.eq nf _ _) ?_
    simp [-List.getD_eq_getElem?_getD,-List.length_eq_zero_iff,Zq,Zp,Z5,Zr,Xj,Xi,X5,hl,e,show ¬ (a.length:Int)=(b.length:Int) by omega]
theorem D3:Zd (fun nf _ _ _=>Xy nf) (fun r=>r.1.1=true):=Zd.one 60 (r:=((true,()),[])) (by kernel_rfl) rfl
end Go.Proofs.YtjobjooccgledaaGreatDoor.Ghost
