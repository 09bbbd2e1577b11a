/- What functions come to, and that the statements are answered with 'true'. Conditions: none. -/
import Derived.Test.YtjobjooccgledaaGreatDoorS
import Derived.Test.YtjobjooccgledaaGreatDoorGE
import Derived.Test.YtjobjooccgledaaGreatDoorP1
import Derived.Test.YtjobjooccgledaaGreatDoorP2
import Derived.Test.YtjobjooccgledaaGreatDoorP3
import Derived.Test.YtjobjooccgledaaGreatDoorP4
import Derived.Test.YtjobjooccgledaaGreatDoorP5
import Derived.Test.YtjobjooccgledaaGreatDoorP6
import Derived.Test.YtjobjooccgledaaGreatDoorP7
import Derived.Test.YtjobjooccgledaaGreatDoorP8
import Derived.Test.YtjobjooccgledaaGreatDoorP9
import Derived.Test.YtjobjooccgledaaGreatDoorP10
import Derived.Test.YtjobjooccgledaaGreatDoorP11
set_option linter.unusedVariables false
set_option linter.unusedSimpArgs false
set_option linter.unusedSectionVars false
set_option linter.unnecessarySimpa false
namespace Go.Proofs.YtjobjooccgledaaGreatDoor.Ghost
open Go
abbrev Wri:=den Zi
def Ob (k:Int) (a b:List Int):Nat→List Wri
  | 0=>[]
  | n+1=>Ob k a b n ++ (if a.getD n 0=b.getD n 0 then [] else [(k,(n:Int),b.getD n 0,(0,0,()),())])
def Io (a b:List Pl):Nat→List Wri
  | 0=>[]
  | n+1=>Io a b n ++ (if a.getD n (dft Zb)=b.getD n (dft Zb) then [] else [(2,(n:Int),0,b.getD n (dft Zb),())])
theorem Tq (k:Int) (a b:List Int):(n:Nat)→(Ob k a b n).length≤n
  | 0=>Nat.le_refl 0
  | n+1=>by
    have:=Tq k a b n
    simp only [Ob,List.length_append]
    split <;> simp <;> omega
theorem C3 (a b:List Pl):(n:Nat)→(Io a b n).length≤n
  | 0=>Nat.le_refl 0
  | n+1=>by
    have:=C3 a b n
    simp only [Io,List.length_append]
    split <;> simp <;> omega
def Y3 (w v:den Za):List Wri:=(Ob 0 w.2.1 v.2.1 (List.length (v.2.1:List Int)) ++ Ob 1 w.2.2.1 v.2.2.1 (List.length (v.2.2.1:List Int))) ++ Io w.2.2.2.1 v.2.2.2.1 (List.length (v.2.2.2.1:List Pl))
structure Par (w v:den Za):Prop where
  la:List.length (w.2.1:List Int)=List.length (v.2.1:List Int)
  lc:List.length (w.2.2.1:List Int)=List.length (v.2.2.1:List Int)
  lh:List.length (w.2.2.2.1:List Pl)=List.length (v.2.2.2.1:List Pl)
  few:List.length (v.2.1:List Int)≤1000∧List.length (v.2.2.1:List Int)≤1000∧List.length (v.2.2.2.1:List Pl)≤1000
theorem AAx {w v:den Za} (h:Par w v):(Y3 w v).length≤3000:=by
  obtain ⟨f1,f2,f3⟩:=h.few
  have h1:=Tq 0 w.2.1 v.2.1 (List.length (v.2.1:List Int))
  have h2:=Tq 1 w.2.2.1 v.2.2.1 (List.length (v.2.2.1:List Int))
  have h3:=C3 w.2.2.2.1 v.2.2.2.1 (List.length (v.2.2.2.1:List Pl))
  simp only [Y3,List.length_append]
  omega
section
variable {w v:den Za} (h:Par w v)
include h
theorem AQp (pre:List Wri) (hp:pre.length≤2000) (t0:(den Za)) (t1:(den Za)) (t4:(List (den Zi))) (t13:(List Int)) (t14:Int) (t15:Int) (t35:(List Int)) (t36:Int) (t37:Int):∀ i,i≤List.length (v.2.2.2.1:List Pl) →
    Zd (fun nf fm0 _ _=>Z3.l2 nf fm0 t0 t1 t4 t13 t14 t15 t35 t36 t37 (v.2.2.2.1) (((List.length (v.2.2.2.1:List Pl):Nat):Int)) ((i:Int)) (w) (v) (pre ++ Io w.2.2.2.1 v.2.2.2.1 i)) (fun r=>r=((pre ++ Io w.2.2.2.1 v.2.2.2.1 (List.length (v.2.2.2.1:List Pl)),()),[(0,[])])):=by
  obtain ⟨f1,f2,f3⟩:=h.few
  have lh:=h.lh
  refine upto ?_ (fun i hi next => ?_)
  · refine Zd.succ1 (fun nf fm0 _ _=>Z3.l2_eq nf fm0 _ _ _ _ _ _ _ _ _ _ _ _ _ _ _) ?_
    simp [-List.getD_eq_getElem?_getD,-List.length_eq_zero_iff,Zq,Zp,Z5,Zr,Xj,Xi,X5]
  · have hl:=C3 w.2.2.2.1 v.2.2.2.1 i
    refine Zd.succ1 (fun nf fm0 _ _=>Z3.l2_eq nf fm0 _ _ _ _ _ _ _ _ _ _ _ _ _ _ _) ?_
    rw [← Xm (by omega)] at next
    by_cases e:List.getD (w.2.2.2.1:List Pl) i (dft Zb)=List.getD (v.2.2.2.1:List Pl) i (dft Zb)
    · rw [Io,if_pos e,List.append_nil] at next
      simp [-List.getD_eq_getElem?_getD,-List.length_eq_zero_iff,Zq,Zp,Z5,Zr,Xj,Xi,X5,hi,lh,e]
      exact next
    · rw [Io,if_neg e,← List.append_assoc] at next
      simp [-List.getD_eq_getElem?_getD,-List.length_eq_zero_iff,Zq,Zp,Z5,Zr,Xj,Xi,X5,hi,lh,e]
      exact ⟨by omega,by simpa using next⟩
theorem AQo (pre:List Wri) (hp:pre.length≤1000) (t0:(den Za)) (t1:(den Za)) (t4:(List (den Zi))) (t13:(List Int)) (t14:Int) (t15:Int):∀ i,i≤List.length (v.2.2.1:List Int) →
    Zd (fun nf fm0 _ _=>Z3.l1 nf fm0 t0 t1 t4 t13 t14 t15 (v.2.2.1) (((List.length (v.2.2.1:List Int):Nat):Int)) ((i:Int)) (w) (v) (pre ++ Ob 1 w.2.2.1 v.2.2.1 i)) (fun r=>r=(((pre ++ Ob 1 w.2.2.1 v.2.2.1 (List.length (v.2.2.1:List Int))) ++ Io w.2.2.2.1 v.2.2.2.1 (List.length (v.2.2.2.1:List Pl)),()),[(0,[])])):=by
  obtain ⟨f1,f2,f3⟩:=h.few
  have lc:=h.lc
  refine upto ?_ (fun i hi next => ?_)
  · have hl:=Tq 1 w.2.2.1 v.2.2.1 (List.length (v.2.2.1:List Int))
    have l2:=(AQp h (pre ++ Ob 1 w.2.2.1 v.2.2.1 (List.length (v.2.2.1:List Int))) (by simp; omega) (t0) (t1) (t4) (t13) (t14) (t15) (v.2.2.1) (((List.length (v.2.2.1:List Int):Nat):Int)) (((List.length (v.2.2.1:List Int):Nat):Int)) 0 (Nat.zero_le _)).enter
    rw [Io,List.append_nil] at l2
    refine Zd.succ1 (fun nf fm0 _ _=>Z3.l1_eq nf fm0 _ _ _ _ _ _ _ _ _ _ _ _) ?_
    simp [-List.getD_eq_getElem?_getD,-List.length_eq_zero_iff,Zq,Zp,Z5,Zr,Xj,Xi,X5]
    simpa using l2
  · have hl:=Tq 1 w.2.2.1 v.2.2.1 i
    refine Zd.succ1 (fun nf fm0 _ _=>Z3.l1_eq nf fm0 _ _ _ _ _ _ _ _ _ _ _ _) ?_
    rw [← Xm (by omega)] at next
    by_cases e:List.getD (w.2.2.1:List Int) i 0=List.getD (v.2.2.1:List Int) i 0
    · rw [Ob,if_pos e,List.append_nil] at next
      simp [-List.getD_eq_getElem?_getD,-List.length_eq_zero_iff,Zq,Zp,Z5,Zr,Xj,Xi,X5,hi,lc,e]
      simpa using next
    · rw [Ob,if_neg e,← List.append_assoc] at next
      simp [-List.getD_eq_getElem?_getD,-List.length_eq_zero_iff,Zq,Zp,Z5,Zr,Xj,Xi,X5,hi,lc,e]
      exact ⟨by omega,by simpa using next⟩
theorem AQn (t0:(den Za)) (t1:(den Za)) (t4:(List (den Zi))):∀ i,i≤List.length (v.2.1:List Int) →
    Zd (fun nf fm0 _ _=>Z3.l0 nf fm0 t0 t1 t4 (v.2.1) (((List.length (v.2.1:List Int):Nat):Int)) ((i:Int)) (w) (v) (Ob 0 w.2.1 v.2.1 i)) (fun r=>r=((Y3 w v,()),[(0,[])])):=by
  obtain ⟨f1,f2,f3⟩:=h.few
  have la:=h.la
  refine upto ?_ (fun i hi next => ?_)
  · have hl:=Tq 0 w.2.1 v.2.1 (List.length (v.2.1:List Int))
    have l1:=(AQo h (Ob 0 w.2.1 v.2.1 (List.length (v.2.1:List Int))) (by omega) (t0) (t1) (t4) (v.2.1) (((List.length (v.2.1:List Int):Nat):Int)) (((List.length (v.2.1:List Int):Nat):Int)) 0 (Nat.zero_le _)).enter
    rw [Ob,List.append_nil] at l1
    refine Zd.succ1 (fun nf fm0 _ _=>Z3.l0_eq nf fm0 _ _ _ _ _ _ _ _ _) ?_
    simp [-List.getD_eq_getElem?_getD,-List.length_eq_zero_iff,Zq,Zp,Z5,Zr,Xj,Xi,X5]
    simpa [Y3] using l1
  · have hl:=Tq 0 w.2.1 v.2.1 i
    refine Zd.succ1 (fun nf fm0 _ _=>Z3.l0_eq nf fm0 _ _ _ _ _ _ _ _ _) ?_
    rw [← Xm (by omega)] at next
    by_cases e:List.getD (w.2.1:List Int) i 0=List.getD (v.2.1:List Int) i 0
    · rw [Ob,if_pos e,List.append_nil] at next
      simp [-List.getD_eq_getElem?_getD,-List.length_eq_zero_iff,Zq,Zp,Z5,Zr,Xj,Xi,X5,hi,la,e]
      exact next
    · rw [Ob,if_neg e] at next
      simp [-List.getD_eq_getElem?_getD,-List.length_eq_zero_iff,Zq,Zp,Z5,Zr,Xj,Xi,X5,hi,la,e]
      exact ⟨by omega,next⟩
theorem Mo:Zd (fun nf _ _ _=>Z3 nf (w) (v)) (fun r=>r=((Y3 w v,()),[(0,[])])):=by
  refine Zd.succ (fun nf _ _ _=>Z3.eq nf _ _) ?_
  exact (AQn h w v ([]:List Wri) 0 (Nat.zero_le _)).enter
end
end Go.Proofs.YtjobjooccgledaaGreatDoor.Ghost
