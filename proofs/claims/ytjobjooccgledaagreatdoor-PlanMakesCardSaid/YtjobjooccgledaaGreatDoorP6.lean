/- What functions come to, and that the statements are answered with 'true'. Conditions: none. -/
import Derived.Test.YtjobjooccgledaaGreatDoorS
import Derived.Test.YtjobjooccgledaaGreatDoorGE
import Derived.Test.YtjobjooccgledaaGreatDoorP1
import Derived.Test.YtjobjooccgledaaGreatDoorP2
import Derived.Test.YtjobjooccgledaaGreatDoorP3
import Derived.Test.YtjobjooccgledaaGreatDoorP4
import Derived.Test.YtjobjooccgledaaGreatDoorP5
set_option linter.unusedVariables false
set_option linter.unusedSimpArgs false
set_option linter.unusedSectionVars false
set_option linter.unnecessarySimpa false
namespace Go.Proofs.YtjobjooccgledaaGreatDoor.Ghost
open Go
abbrev E5 (w:den Za) (b:Nat):Bool:=List.getD (w.1.2.2.2.2.1:List Bool) b false
def M6 (w:den Za) (i j:Nat):Prop:=V7 w j=BXf (T6 w i)∨V7 w j=Yc i
def inR (w:den Za) (k:Int):Prop:=0≤k∧k<(List.length (w.2.2.2.1:List (den Zb)):Int)
open Classical in
noncomputable def putErr (w:den Za) (i:Nat) (k b:Int):Int:=if inR w k∧inR w b then
  (if Qz w k.toNat=Yc i∧M6 w i b.toNat then
    (if E5 w b.toNat=true then
      (if WiW w b.toNat k.toNat then 7 else if 4<X2 w b.toNat+1+Pk w k.toNat then 8 else if Y7 w (Qd b)<1 then 9 else 0)
    else 6)
  else 5) else 3
open Classical in
noncomputable def takeErr (w:den Za) (i:Nat) (k b:Int):Int:=if inR w k∧inR w b then
  (if M6 w i b.toNat then
    (if E5 w b.toNat=true then
      (if Qz w k.toNat=Qd b then (if Y7 w (Yc i)<1 then 9 else 0) else 5)
    else 6)
  else 5) else 3
open Classical in
noncomputable def putR (w:den Za) (i:Nat) (k b:Int):den Za×Int×Unit:=if putErr w i k b=0 then (put w k.toNat (Qd b),0,()) else (w,putErr w i k b,())
open Classical in
noncomputable def takeR (w:den Za) (i:Nat) (k b:Int):den Za×Int×Unit:=if takeErr w i k b=0 then (put w k.toNat (Yc i),0,()) else (w,takeErr w i k b,())
theorem AFc (b:Int):(0:Int)≤(Qd b).1∧((Qd b).1:Int)<3:=⟨by show (0:Int)≤2; decide,by show (2:Int)<3; decide⟩
theorem G0 (i:Nat):(0:Int)≤(Yc i).1∧((Yc i).1:Int)<3:=⟨by show (0:Int)≤1; decide,by show (1:Int)<3; decide⟩
theorem Yi (w:den Za) (k:Int):Zd (fun nf _ _ _=>Q2 nf (w) (k)) (fun r=>r=((dec (¬ inR w k),()),[])):=by
  refine Zd.succ (fun nf _ _ _=>Q2.eq nf _ _) ?_
  by_cases h:k<0 <;> by_cases h2:(List.length (w.2.2.2.1:List (den Zb)):Int)≤k <;> simp [h,h2,inR] <;> omega
theorem Mv (w:den Za) (ok:Ok w) {i j:Nat} (hi:i<List.length (w.2.1:List Int)) (hj:j<List.length (w.2.2.2.1:List (den Zb))):Zd (fun nf _ _ _=>Jz nf (w) ((i:Int)) ((j:Int))) (fun r=>r=((dec (M6 w i j),()),[])):=by
  refine Zd.succ (fun nf _ _ _=>Jz.eq nf _ _ _) ?_
  simp [-List.getD_eq_getElem?_getD,-List.length_eq_zero_iff,Zq,Zp,Z5,Zr,Xj,Xi,X5,Ze (Pa w ok.right hj),(Pa w ok.right hj).prop,hi]
  exact ⟨.inl,fun h=>⟨.inr,fun h'=>h'.resolve_left h⟩⟩
theorem ACp {w:den Za} (ok:Ok w) {i k b:Nat} (hi:i<List.length (w.2.1:List Int)) (hk:k<List.length (w.2.2.2.1:List (den Zb))) (hb:b<List.length (w.2.2.2.1:List (den Zb))) :
    Zd (fun nf _ _ _=>Y1 nf (w) ((k:Int)) ((b:Int)) (3) (w) ((k:Int)) (Yc i) ((i:Int)) ((b:Int)) (5) (w) ((b:Int)) (6) (w) ((b:Int)) ((k:Int)) (7) (w) ((b:Int)) ((k:Int)) (8) (w) (Qd (b:Int)) (9)) (fun r=>r=((putErr w i k b,()),[])):=by
  have hbx:b<List.length (w.1.2.2.2.2.1:List Bool):=by rw [ok.right.may.b1,← ok.right.w1]; exact hb
  have hd:=(C2 ok.right hb).2
  have hh:=AQk ok.right hk
  have s1:Zd (fun nf _ _ _=>Yy nf (w) ((k:Int)) ((b:Int))) (fun r=>r=((false,()),[])):=by
    refine Zd.succ (fun nf _ _ _=>Yy.eq nf _ _ _) ?_
    simp [-List.getD_eq_getElem?_getD,-List.length_eq_zero_iff,Zq,Zp,Z5,Zr,Xj,Xi,X5,Ze (Yi w (k:Int)),(Yi w (k:Int)).prop,Ze (Yi w (b:Int)),(Yi w (b:Int)).prop,inR,hk,hb]
  have s2:Zd (fun nf _ _ _=>Jk nf (w) ((k:Int)) (Yc i) ((i:Int)) ((b:Int))) (fun r=>r=((dec (¬ (Qz w k=Yc i∧M6 w i b)),()),[])):=by
    refine Zd.succ (fun nf _ _ _=>Jk.eq nf _ _ _ _ _) ?_
    simp [-List.getD_eq_getElem?_getD,-List.length_eq_zero_iff,Zq,Zp,Z5,Zr,Xj,Xi,X5,hk,Ze (Mv w ok hi hb),(Mv w ok hi hb).prop]
    by_cases c1:Qz w k=Yc i <;> by_cases c2:M6 w i b <;> simp [-List.getD_eq_getElem?_getD,-List.length_eq_zero_iff,Zq,Zp,Z5,Zr,Xj,Xi,X5,c1,c2]
  have s3:Zd (fun nf _ _ _=>Jl nf (w) ((b:Int))) (fun r=>r=((!E5 w b,()),[])):=by
    refine Zd.succ (fun nf _ _ _=>Jl.eq nf _ _) ?_
    simp [-List.getD_eq_getElem?_getD,-List.length_eq_zero_iff,Zq,Zp,Z5,Zr,Xj,Xi,X5,hbx]
  have s4:Zd (fun nf _ _ _=>Jm nf (w) ((b:Int)) ((k:Int))) (fun r=>r=((dec (WiW w b k),()),[])):=by
    refine Zd.succ (fun nf _ _ _=>Jm.eq nf _ _ _) ?_
    simp [-List.getD_eq_getElem?_getD,-List.length_eq_zero_iff,Zq,Zp,Z5,Zr,Xj,Xi,X5,Ze (T4 w ok.right hb k),(T4 w ok.right hb k).bprop]
  have s5:Zd (fun nf _ _ _=>Jn nf (w) ((b:Int)) ((k:Int))) (fun r=>r=((decide (4<X2 w b+1+Pk w k),()),[])):=by
    refine Zd.succ (fun nf _ _ _=>Jn.eq nf _ _ _) ?_
    simp [-List.getD_eq_getElem?_getD,-List.length_eq_zero_iff,Zq,Zp,Z5,Zr,Xj,Xi,X5,Ze (Uo w ok.right hb),(Uo w ok.right hb).prop,Ze (O8 w ok hk),(O8 w ok hk).prop]
    rw [Hr (n:=(X2 w b:Int)+1) (by omega) (by omega),Hr (by omega) (by omega)]
    omega
  have s6:Zd (fun nf _ _ _=>Jo nf (w) (Qd (b:Int))) (fun r=>r=((decide (Y7 w (Qd b)<1),()),[])):=by
    refine Zd.succ (fun nf _ _ _=>Jo.eq nf _ _) ?_
    simp [-List.getD_eq_getElem?_getD,-List.length_eq_zero_iff,Zq,Zp,Z5,Zr,Xj,Xi,X5,Ze (Qj w ok (Qd (b:Int)) (AFc b)),(Qj w ok (Qd (b:Int)) (AFc b)).prop]
  refine Zd.add 14 (fun nf _ _ _=>Y1.eq nf _ _ _ _ _ _ _ _ _ _ _ _ _ _ _ _ _ _ _ _ _ _ _ _) ?_
  simp [-List.getD_eq_getElem?_getD,-List.length_eq_zero_iff,Zq,Zp,Z5,Zr,Xj,Xi,X5,Ze (s1.shift 13),(s1.shift 13).prop,Ze (s2.shift 13),(s2.shift 13).prop,Ze (s3.shift 13),(s3.shift 13).prop,Ze (s4.shift 13),(s4.shift 13).prop,Ze (s5.shift 13),(s5.shift 13).prop,Ze (s6.shift 13),(s6.shift 13).prop,putErr,inR,hk,hb]
  by_cases c1:Qz w k=Yc i <;> by_cases c2:M6 w i b <;> by_cases c3:E5 w b=true <;> by_cases c4:WiW w b k <;> by_cases c5:4<X2 w b+1+Pk w k <;> by_cases c6:Y7 w (Qd b)<1 <;> simp [-List.getD_eq_getElem?_getD,-List.length_eq_zero_iff,Zq,Zp,Z5,Zr,Xj,Xi,X5,c1,c2,c3,c4,c5,c6]
theorem H7 {w:den Za} {k:Int} (h:inR w k):∃ n:Nat,k=(n:Int)∧n<List.length (w.2.2.2.1:List (den Zb)):=⟨k.toNat,by have:=h.1; omega,by have:=h.1; have:=h.2; omega⟩
theorem AAw {w:den Za} (ok:Ok w) {i:Nat} (hi:i<List.length (w.2.1:List Int)) (k b:Int):Zd (fun nf _ _ _=>Y1 nf (w) (k) (b) (3) (w) (k) (Yc i) ((i:Int)) (b) (5) (w) (b) (6) (w) (b) (k) (7) (w) (b) (k) (8) (w) (Qd b) (9)) (fun r=>r=((putErr w i k b,()),[])):=by
  by_cases hk:inR w k
  · by_cases hb:inR w b
    · obtain ⟨k,rfl,hkn⟩:=H7 hk
      obtain ⟨b,rfl,hbn⟩:=H7 hb
      exact ACp ok hi hkn hbn
    · refine Zd.add 14 (fun nf _ _ _=>Y1.eq nf _ _ _ _ _ _ _ _ _ _ _ _ _ _ _ _ _ _ _ _ _ _ _ _) ?_
      have s1:Zd (fun nf _ _ _=>Yy nf (w) (k) (b)) (fun r=>r=((true,()),[])):=by
        refine Zd.succ (fun nf _ _ _=>Yy.eq nf _ _ _) ?_
        simp [-List.getD_eq_getElem?_getD,-List.length_eq_zero_iff,Zq,Zp,Z5,Zr,Xj,Xi,X5,Ze (Yi w k),(Yi w k).prop,Ze (Yi w b),(Yi w b).prop,hk,hb]
      simp [-List.getD_eq_getElem?_getD,-List.length_eq_zero_iff,Zq,Zp,Z5,Zr,Xj,Xi,X5,Ze (s1.shift 13),(s1.shift 13).prop,putErr,hk,hb]
  · refine Zd.add 14 (fun nf _ _ _=>Y1.eq nf _ _ _ _ _ _ _ _ _ _ _ _ _ _ _ _ _ _ _ _ _ _ _ _) ?_
    have s1:Zd (fun nf _ _ _=>Yy nf (w) (k) (b)) (fun r=>r=((true,()),[])):=by
      refine Zd.succ (fun nf _ _ _=>Yy.eq nf _ _ _) ?_
      simp [-List.getD_eq_getElem?_getD,-List.length_eq_zero_iff,Zq,Zp,Z5,Zr,Xj,Xi,X5,Ze (Yi w k),(Yi w k).prop,Ze (Yi w b),(Yi w b).prop,hk]
    simp [-List.getD_eq_getElem?_getD,-List.length_eq_zero_iff,Zq,Zp,Z5,Zr,Xj,Xi,X5,Ze (s1.shift 13),(s1.shift 13).prop,putErr,hk]
theorem A8 {w:den Za} (ok:Ok w) {i k b:Nat} (hi:i<List.length (w.2.1:List Int)) (hk:k<List.length (w.2.2.2.1:List (den Zb))) (hb:b<List.length (w.2.2.2.1:List (den Zb))) :
    Zd (fun nf _ _ _=>Qf nf (w) ((k:Int)) ((b:Int)) (3) (w) ((i:Int)) ((b:Int)) (5) (w) ((b:Int)) (6) (w) ((k:Int)) (Qd (b:Int)) (5) (w) (Yc i) (9)) (fun r=>r=((takeErr w i k b,()),[])):=by
  have hbx:b<List.length (w.1.2.2.2.2.1:List Bool):=by rw [ok.right.may.b1,← ok.right.w1]; exact hb
  have s1:Zd (fun nf _ _ _=>Yk nf (w) ((k:Int)) ((b:Int))) (fun r=>r=((false,()),[])):=by
    refine Zd.succ (fun nf _ _ _=>Yk.eq nf _ _ _) ?_
    simp [-List.getD_eq_getElem?_getD,-List.length_eq_zero_iff,Zq,Zp,Z5,Zr,Xj,Xi,X5,Ze (Yi w (k:Int)),(Yi w (k:Int)).prop,Ze (Yi w (b:Int)),(Yi w (b:Int)).prop,inR,hk,hb]
  have s2:Zd (fun nf _ _ _=>Qt nf (w) ((i:Int)) ((b:Int))) (fun r=>r=((dec (¬ M6 w i b),()),[])):=by
    refine Zd.succ (fun nf _ _ _=>Qt.eq nf _ _ _) ?_
    simp [-List.getD_eq_getElem?_getD,-List.length_eq_zero_iff,Zq,Zp,Z5,Zr,Xj,Xi,X5,Ze (Mv w ok hi hb),(Mv w ok hi hb).prop]
  have s3:Zd (fun nf _ _ _=>Qu nf (w) ((b:Int))) (fun r=>r=((!E5 w b,()),[])):=by
    refine Zd.succ (fun nf _ _ _=>Qu.eq nf _ _) ?_
    simp [-List.getD_eq_getElem?_getD,-List.length_eq_zero_iff,Zq,Zp,Z5,Zr,Xj,Xi,X5,hbx]
  have s4:Zd (fun nf _ _ _=>Qv nf (w) ((k:Int)) (Qd (b:Int))) (fun r=>r=((dec (¬ Qz w k=Qd (b:Int)),()),[])):=by
    refine Zd.succ (fun nf _ _ _=>Qv.eq nf _ _ _) ?_
    simp [-List.getD_eq_getElem?_getD,-List.length_eq_zero_iff,Zq,Zp,Z5,Zr,Xj,Xi,X5,hk]
  have s5:Zd (fun nf _ _ _=>Qw nf (w) (Yc i)) (fun r=>r=((decide (Y7 w (Yc i)<1),()),[])):=by
    refine Zd.succ (fun nf _ _ _=>Qw.eq nf _ _) ?_
    simp [-List.getD_eq_getElem?_getD,-List.length_eq_zero_iff,Zq,Zp,Z5,Zr,Xj,Xi,X5,Ze (Qj w ok (Yc i) (G0 i)),(Qj w ok (Yc i) (G0 i)).prop]
  refine Zd.add 14 (fun nf _ _ _=>Qf.eq nf _ _ _ _ _ _ _ _ _ _ _ _ _ _ _ _ _ _) ?_
  simp [-List.getD_eq_getElem?_getD,-List.length_eq_zero_iff,Zq,Zp,Z5,Zr,Xj,Xi,X5,Ze (s1.shift 13),(s1.shift 13).prop,Ze (s2.shift 13),(s2.shift 13).prop,Ze (s3.shift 13),(s3.shift 13).prop,Ze (s4.shift 13),(s4.shift 13).prop,Ze (s5.shift 13),(s5.shift 13).prop,takeErr,inR,hk,hb]
  by_cases c1:M6 w i b <;> by_cases c2:E5 w b=true <;> by_cases c3:Qz w k=Qd (b:Int) <;> by_cases c4:Y7 w (Yc i)<1 <;> simp [-List.getD_eq_getElem?_getD,-List.length_eq_zero_iff,Zq,Zp,Z5,Zr,Xj,Xi,X5,c1,c2,c3,c4]
theorem Bd {w:den Za} (ok:Ok w) {i:Nat} (hi:i<List.length (w.2.1:List Int)) (k b:Int):Zd (fun nf _ _ _=>Qf nf (w) (k) (b) (3) (w) ((i:Int)) (b) (5) (w) (b) (6) (w) (k) (Qd b) (5) (w) (Yc i) (9)) (fun r=>r=((takeErr w i k b,()),[])):=by
  by_cases hk:inR w k
  · by_cases hb:inR w b
    · obtain ⟨k,rfl,hkn⟩:=H7 hk
      obtain ⟨b,rfl,hbn⟩:=H7 hb
      exact A8 ok hi hkn hbn
    · refine Zd.add 14 (fun nf _ _ _=>Qf.eq nf _ _ _ _ _ _ _ _ _ _ _ _ _ _ _ _ _ _) ?_
      have s1:Zd (fun nf _ _ _=>Yk nf (w) (k) (b)) (fun r=>r=((true,()),[])):=by
        refine Zd.succ (fun nf _ _ _=>Yk.eq nf _ _ _) ?_
        simp [-List.getD_eq_getElem?_getD,-List.length_eq_zero_iff,Zq,Zp,Z5,Zr,Xj,Xi,X5,Ze (Yi w k),(Yi w k).prop,Ze (Yi w b),(Yi w b).prop,hk,hb]
      simp [-List.getD_eq_getElem?_getD,-List.length_eq_zero_iff,Zq,Zp,Z5,Zr,Xj,Xi,X5,Ze (s1.shift 13),(s1.shift 13).prop,takeErr,hk,hb]
  · refine Zd.add 14 (fun nf _ _ _=>Qf.eq nf _ _ _ _ _ _ _ _ _ _ _ _ _ _ _ _ _ _) ?_
    have s1:Zd (fun nf _ _ _=>Yk nf (w) (k) (b)) (fun r=>r=((true,()),[])):=by
      refine Zd.succ (fun nf _ _ _=>Yk.eq nf _ _ _) ?_
      simp [-List.getD_eq_getElem?_getD,-List.length_eq_zero_iff,Zq,Zp,Z5,Zr,Xj,Xi,X5,Ze (Yi w k),(Yi w k).prop,Ze (Yi w b),(Yi w b).prop,hk]
    simp [-List.getD_eq_getElem?_getD,-List.length_eq_zero_iff,Zq,Zp,Z5,Zr,Xj,Xi,X5,Ze (s1.shift 13),(s1.shift 13).prop,takeErr,hk]
theorem ABq {w:den Za} {i:Nat} {k b:Int} (h:¬ putErr w i k b=3):inR w k∧inR w b:=by
  by_cases hn:inR w k∧inR w b
  · exact hn
  · exact absurd (by unfold putErr; rw [if_neg hn]) h
theorem Ap {w:den Za} {i:Nat} {k b:Int} (h:¬ takeErr w i k b=3):inR w k∧inR w b:=by
  by_cases hn:inR w k∧inR w b
  · exact hn
  · exact absurd (by unfold takeErr; rw [if_neg hn]) h
theorem AN0 {w:den Za} (ok:Ok w) {i:Nat} (hi:i<List.length (w.2.1:List Int)) (k b:Int):Zd (fun nf _ _ _=>V9 nf (w) ((i:Int)) (k) (b)) (fun r=>r=(putR w i k b,[])):=by
  refine Zd.succ (fun nf _ _ _=>V9.eq nf _ _ _ _) ?_
  simp [-List.getD_eq_getElem?_getD,-List.length_eq_zero_iff,Zq,Zp,Z5,Zr,Xj,Xi,X5,Ze (AAw ok hi k b),(AAw ok hi k b).prop]
  by_cases h:putErr w i k b=0
  · obtain ⟨hk,hb⟩:=ABq (show ¬ putErr w i k b=3 by rw [h]; decide)
    obtain ⟨k,rfl,hkn⟩:=H7 hk
    simp [-List.getD_eq_getElem?_getD,-List.length_eq_zero_iff,Zq,Zp,Z5,Zr,Xj,Xi,X5,h,Ze (Oz w ok.sm hkn (Qd b)),(Oz w ok.sm hkn (Qd b)).prop,putR]
  · simp [-List.getD_eq_getElem?_getD,-List.length_eq_zero_iff,Zq,Zp,Z5,Zr,Xj,Xi,X5,h,putR]
theorem AKm {w:den Za} (ok:Ok w) {i:Nat} (hi:i<List.length (w.2.1:List Int)) (k b:Int):Zd (fun nf _ _ _=>Vj nf (w) ((i:Int)) (k) (b)) (fun r=>r=(takeR w i k b,[])):=by
  refine Zd.succ (fun nf _ _ _=>Vj.eq nf _ _ _ _) ?_
  simp [-List.getD_eq_getElem?_getD,-List.length_eq_zero_iff,Zq,Zp,Z5,Zr,Xj,Xi,X5,Ze (Bd ok hi k b),(Bd ok hi k b).prop]
  by_cases h:takeErr w i k b=0
  · obtain ⟨hk,hb⟩:=Ap (show ¬ takeErr w i k b=3 by rw [h]; decide)
    obtain ⟨k,rfl,hkn⟩:=H7 hk
    simp [-List.getD_eq_getElem?_getD,-List.length_eq_zero_iff,Zq,Zp,Z5,Zr,Xj,Xi,X5,h,Ze (Oz w ok.sm hkn (Yc i)),(Oz w ok.sm hkn (Yc i)).prop,takeR]
  · simp [-List.getD_eq_getElem?_getD,-List.length_eq_zero_iff,Zq,Zp,Z5,Zr,Xj,Xi,X5,h,takeR]
end Go.Proofs.YtjobjooccgledaaGreatDoor.Ghost
namespace Go.Proofs.YtjobjooccgledaaGreatDoor.Ghost
open Go
section
variable {w:den Za} (ok:Ok w) {k b:Nat} (hk:k<List.length (w.2.2.2.1:List (den Zb))) (hb:b<List.length (w.2.2.2.1:List (den Zb))) (hn:¬ WiW w b k)
open Classical in
noncomputable def dOf (w:den Za) (k b j:Nat):Nat:=if WiW w j k then X2 w b+1+(X2 w j - X2 w k) else X2 w j
include ok hk hb hn
theorem BHi {j:Nat} (hj:j<List.length (w.2.2.2.1:List (den Zb))):∃ p,Tj (put w k (Qd (b:Int))).2.2.2.1 j p (dOf w k b j):=by
  have m:=ABi ok.right hk hb hn
  unfold dOf
  by_cases hw:WiW w j k
  · rw [if_pos hw]; exact ⟨_,(m.inn j hj hw).1⟩
  · rw [if_neg hw]; exact ⟨_,m.out j hj hw⟩
theorem AMr:(∃ j,j<List.length (w.2.2.2.1:List (den Zb))∧4<dOf w k b j)↔4<X2 w b+1+Pk w k:=by
  constructor
  · rintro ⟨j,hj,hd⟩
    unfold dOf at hd
    split at hd
    · rename_i hw
      have:X2 w j - X2 w k≤Pk w k:=AIb (w:=w) (i:=k) hj hw
      omega
    · have:=(C2 ok.right hj).2
      omega
  · intro h
    rcases D9 (w:=w) (i:=k) (List.length (w.2.2.2.1:List (den Zb))) with h0 | ⟨j,j1,j2,j3⟩
    · have h0:Pk w k=0:=h0
      refine ⟨k,hk,?_⟩
      unfold dOf
      rw [if_pos (.refl k)]; omega
    · have j3:X2 w j - X2 w k=Pk w k:=j3
      refine ⟨j,j1,?_⟩
      unfold dOf
      rw [if_pos j2]; omega
end
end Go.Proofs.YtjobjooccgledaaGreatDoor.Ghost
namespace Go.Proofs.YtjobjooccgledaaGreatDoor.Ghost
open Go
theorem Ok.put2 {w:den Za} (ok:Ok w) {k:Nat} (hk:k<List.length (w.2.2.2.1:List (den Zb))) {q:Pl} (hg:Ks w.1 q) (hr:1≤Y7 w q) (hd:∀ j,j<List.length (w.2.2.2.1:List (den Zb))→∃ p d,Tj (Ghost.put w k q).2.2.2.1 j p d∧d≤4):Ok (Ghost.put w k q):=by
  have h:=ok.right
  have hset:∀ p:Pl,Yp (List.set (w.2.2.2.1:List (den Zb)) k q) p (List.length (w.2.2.2.1:List (den Zb)))≤Yp w.2.2.2.1 p (List.length (w.2.2.2.1:List (den Zb)))+(if q=p then 1 else 0):=fun p=>by
    have:=Om w.2.2.2.1 k q p hk (List.length (w.2.2.2.1:List (den Zb)))
    simp only [hk,true_and] at this
    omega
  refine ⟨AN5 ok.sm k q,h.may,h.a1,h.c1,by rw [Ot]; exact h.w1,h.at_,fun i hi => ?_,fun i hi => ?_⟩
  · rw [Ot] at hi
    rw [AHd w k i q hk]
    split
    · exact hg
    · exact h.good i hi
  · have hlen:=Ot w k q
    rw [hlen] at hi ⊢
    obtain ⟨p,d,h1,h2⟩:=hd i hi
    have h3:=h1.depI 51 0 (by omega) (by omega)
    rw [Nat.zero_add] at h3
    refine ⟨Nat.le_trans (Nat.le_of_eq h3) h2,?_⟩
    generalize List.getD ((Ghost.put w k q).2.2.2.1:List (den Zb)) i (dft Zb)=p
    show (Yp (List.set (w.2.2.2.1:List (den Zb)) k q) _ _:Int)≤Ie w.1 _
    have h1:=hset p
    by_cases hqp:q=p
    · rw [if_pos hqp] at h1
      subst hqp
      unfold Y7 at hr
      omega
    · rw [if_neg hqp] at h1
      have h2:=(h.room p).1
      unfold Y7 at h2
      omega
structure ADp (w:den Za) (i k b:Nat):Prop where
  hk:k<List.length (w.2.2.2.1:List (den Zb))
  hb:b<List.length (w.2.2.2.1:List (den Zb))
  me:Qz w k=Yc i
  near:M6 w i b
  box:E5 w b=true
  wi:¬ WiW w b k
  deep:¬ 4<X2 w b+1+Pk w k
  room:1≤Y7 w (Qd b)
theorem AFw {w:den Za} {i k b:Nat} (hk:k<List.length (w.2.2.2.1:List (den Zb))) (hb:b<List.length (w.2.2.2.1:List (den Zb))):putErr w i k b=0↔ADp w i k b:=by
  have h1:inR w (k:Int):=⟨Int.natCast_nonneg k,Int.ofNat_lt.2 hk⟩
  have h2:inR w (b:Int):=⟨Int.natCast_nonneg b,Int.ofNat_lt.2 hb⟩
  unfold putErr
  simp only [h1,h2,and_self,if_true,Int.toNat_natCast]
  constructor
  · intro h
    split at h <;> rename_i c1
    · split at h <;> rename_i c2
      · split at h <;> rename_i c3
        · cases h
        · split at h <;> rename_i c4
          · cases h
          · split at h <;> rename_i c5
            · cases h
            · exact ⟨hk,hb,c1.1,c1.2,c2,c3,c4,by omega⟩
      · cases h
    · cases h
  · intro h
    rw [if_pos ⟨h.me,h.near⟩,if_pos h.box,if_neg h.wi,if_neg h.deep,if_neg (by have:=h.room; omega)]
structure Ci (w:den Za) (i k b:Nat):Prop where
  hk:k<List.length (w.2.2.2.1:List (den Zb))
  hb:b<List.length (w.2.2.2.1:List (den Zb))
  near:M6 w i b
  box:E5 w b=true
  at_:Qz w k=Qd b
  room:1≤Y7 w (Yc i)
theorem ADg {w:den Za} {i k b:Nat} (hk:k<List.length (w.2.2.2.1:List (den Zb))) (hb:b<List.length (w.2.2.2.1:List (den Zb))):takeErr w i k b=0↔Ci w i k b:=by
  have h1:inR w (k:Int):=⟨Int.natCast_nonneg k,Int.ofNat_lt.2 hk⟩
  have h2:inR w (b:Int):=⟨Int.natCast_nonneg b,Int.ofNat_lt.2 hb⟩
  unfold takeErr
  simp only [h1,h2,and_self,if_true,Int.toNat_natCast]
  constructor
  · intro h
    split at h <;> rename_i c1
    · split at h <;> rename_i c2
      · split at h <;> rename_i c3
        · split at h <;> rename_i c4
          · cases h
          · exact ⟨hk,hb,c1,c2,c3,by omega⟩
        · cases h
      · cases h
    · cases h
  · intro h
    rw [if_pos h.near,if_pos h.box,if_pos h.at_,if_neg (by have:=h.room; omega)]
theorem ADp.moved {w:den Za} {i k b:Nat} (h:ADp w i k b) (ok:Ok w):P0 w (put w k (Qd (b:Int))) k (V7 w b) (X2 w b+1):=ABi ok.right h.hk h.hb h.wi
theorem ADp.ok {w:den Za} {i k b:Nat} (h:ADp w i k b) (ok:Ok w):Ok (put w k (Qd (b:Int))):=by
  refine ok.put2 h.hk (.inr (.inr ⟨rfl,⟨Int.natCast_nonneg b,?_⟩,?_⟩)) h.room (fun j hj => ?_)
  · show (b:Int)<_
    rw [← ok.right.w1]; exact Int.ofNat_lt.2 h.hb
  · show List.getD (w.1.2.2.2.2.1:List Bool) (Int.toNat (b:Int)) false=true
    rw [Int.toNat_natCast]; exact h.box
  · obtain ⟨p,hp⟩:=BHi ok h.hk h.hb h.wi hj
    refine ⟨p,_,hp,?_⟩
    have:¬ 4<dOf w k b j:=fun h4=>h.deep ((AMr ok h.hk h.hb h.wi).1 ⟨j,hj,h4⟩)
    omega
theorem Ci.moved {w:den Za} {i k b:Nat} (h:Ci w i k b) (ok:Ok w):P0 w (put w k (Yc i)) k (Yc i) 0:=AKa ok.right h.hk (show ¬ (1:Int)=2 by decide)
theorem Ci.ok {w:den Za} {i k b:Nat} (h:Ci w i k b) (ok:Ok w) (hi:i<List.length (w.2.1:List Int)):Ok (put w k (Yc i)):=by
  have m:=h.moved ok
  refine ok.put2 h.hk (.inr (.inl ⟨rfl,Int.natCast_nonneg i,?_⟩)) h.room (fun j hj => ?_)
  · show (i:Int)<_
    rw [← ok.right.a1]; exact Int.ofNat_lt.2 hi
  · have:=(C2 ok.right hj).2
    by_cases hw:WiW w j k
    · exact ⟨_,_,(m.inn j hj hw).1,by omega⟩
    · exact ⟨_,_,m.out j hj hw,this⟩
theorem Du {w:den Za} {i:Nat} {k b:Int} (h:¬ takeErr w i k b=0):takeR w i k b=(w,takeErr w i k b,()):=if_neg h
theorem Aa {w:den Za} {i:Nat} {k b:Int} (h:¬ putErr w i k b=0):putR w i k b=(w,putErr w i k b,()):=if_neg h
theorem AHp {w:den Za} {i k:Nat} {b:Int} (h:takeErr w i k b=0):takeR w i k b=(put w k (Yc i),0,()):=if_pos h
theorem AKe {w:den Za} {i k:Nat} {b:Int} (h:putErr w i k b=0):putR w i k b=(put w k (Qd b),0,()):=if_pos h
end Go.Proofs.YtjobjooccgledaaGreatDoor.Ghost
