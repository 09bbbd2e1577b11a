/- What functions come to, and that the statements are answered with 'true'. Conditions: none. -/
import Derived.Test.YtpemapoblhleoaaGreatDoorS
import Derived.Test.YtpemapoblhleoaaGreatDoorGE
import Derived.Test.YtpemapoblhleoaaGreatDoorP1
import Derived.Test.YtpemapoblhleoaaGreatDoorP2
import Derived.Test.YtpemapoblhleoaaGreatDoorP3
import Derived.Test.YtpemapoblhleoaaGreatDoorP4
import Derived.Test.YtpemapoblhleoaaGreatDoorP5
set_option linter.unusedVariables false
set_option linter.unusedSimpArgs false
set_option linter.unusedSectionVars false
set_option linter.unnecessarySimpa false
namespace Go.Proofs.YtpemapoblhleoaaGreatDoor.Ghost
open Go
abbrev P8 (w:den Za) (b:Nat):Bool:=List.getD (w.1.2.2.2.2.1:List Bool) b false
def Vv (w:den Za) (i j:Nat):Prop:=Ys w j=AH4 (Ky w i)∨Ys w j=X2 i
def inR (w:den Za) (k:Int):Prop:=0≤k∧k<(List.length (w.2.2.2.1:List (den Zb)):Int)
open Classical in
noncomputable def putErr (w:den Za) (i:Nat) (k b:Int):Int:=if inR w k∧inR w b then
  (if Ym w k.toNat=X2 i∧Vv w i b.toNat then
    (if P8 w b.toNat=true then
      (if WiW w b.toNat k.toNat then 7 else if 4<Xw w b.toNat+1+Uz w k.toNat then 8 else if Yr w (Yx b)<1 then 9 else 0)
    else 6)
  else 5) else 3
open Classical in
noncomputable def takeErr (w:den Za) (i:Nat) (k b:Int):Int:=if inR w k∧inR w b then
  (if Vv w i b.toNat then
    (if P8 w b.toNat=true then
      (if Ym w k.toNat=Yx b then (if Yr w (X2 i)<1 then 9 else 0) else 5)
    else 6)
  else 5) else 3
open Classical in
noncomputable def putR (w:den Za) (i:Nat) (k b:Int):den Za×Int×Unit:=if putErr w i k b=0 then (put w k.toNat (Yx b),0,()) else (w,putErr w i k b,())
open Classical in
noncomputable def takeR (w:den Za) (i:Nat) (k b:Int):den Za×Int×Unit:=if takeErr w i k b=0 then (put w k.toNat (X2 i),0,()) else (w,takeErr w i k b,())
theorem AD6 (b:Int):(0:Int)≤(Yx b).1∧((Yx b).1:Int)<3:=⟨by show (0:Int)≤2; decide,by show (2:Int)<3; decide⟩
theorem Gt (i:Nat):(0:Int)≤(X2 i).1∧((X2 i).1:Int)<3:=⟨by show (0:Int)≤1; decide,by show (1:Int)<3; decide⟩
theorem Yg (w:den Za) (k:Int):Zd (fun nf _ _ _=>Qv nf (w) (k)) (fun r=>r=((dec (¬ inR w k),()),[])):=by
  refine Zd.succ (fun nf _ _ _=>Qv.eq nf _ _) ?_
  by_cases h:k<0 <;> by_cases h2:(List.length (w.2.2.2.1:List (den Zb)):Int)≤k <;> simp [h,h2,inR] <;> omega
theorem N7 (w:den Za) (ok:Ok w) {i j:Nat} (hi:i<List.length (w.2.1:List Int)) (hj:j<List.length (w.2.2.2.1:List (den Zb))):Zd (fun nf _ _ _=>Jp nf (w) ((i:Int)) ((j:Int))) (fun r=>r=((dec (Vv w i j),()),[])):=by
  refine Zd.succ (fun nf _ _ _=>Jp.eq nf _ _ _) ?_
  simp [-List.getD_eq_getElem?_getD,-List.length_eq_zero_iff,Zv,Zt,Z4,Zw,Xt,Xs,Yq,Ze (Ro w ok.right hj),(Ro w ok.right hj).prop,hi]
  exact ⟨.inl,fun h=>⟨.inr,fun h'=>h'.resolve_left h⟩⟩
theorem ABt {w:den Za} (ok:Ok w) {i k b:Nat} (hi:i<List.length (w.2.1:List Int)) (hk:k<List.length (w.2.2.2.1:List (den Zb))) (hb:b<List.length (w.2.2.2.1:List (den Zb))) :
    Zd (fun nf _ _ _=>Y1 nf (w) ((k:Int)) ((b:Int)) (3) (w) ((k:Int)) (X2 i) ((i:Int)) ((b:Int)) (5) (w) ((b:Int)) (6) (w) ((b:Int)) ((k:Int)) (7) (w) ((b:Int)) ((k:Int)) (8) (w) (Yx (b:Int)) (9)) (fun r=>r=((putErr w i k b,()),[])):=by
  have hbx:b<List.length (w.1.2.2.2.2.1:List Bool):=by rw [ok.right.may.b1,← ok.right.w1]; exact hb
  have hd:=(Cj ok.right hb).2
  have hh:=APw ok.right hk
  have s1:Zd (fun nf _ _ _=>Yy nf (w) ((k:Int)) ((b:Int))) (fun r=>r=((false,()),[])):=by
    refine Zd.succ (fun nf _ _ _=>Yy.eq nf _ _ _) ?_
    simp [-List.getD_eq_getElem?_getD,-List.length_eq_zero_iff,Zv,Zt,Z4,Zw,Xt,Xs,Yq,Ze (Yg w (k:Int)),(Yg w (k:Int)).prop,Ze (Yg w (b:Int)),(Yg w (b:Int)).prop,inR,hk,hb]
  have s2:Zd (fun nf _ _ _=>Jb nf (w) ((k:Int)) (X2 i) ((i:Int)) ((b:Int))) (fun r=>r=((dec (¬ (Ym w k=X2 i∧Vv w i b)),()),[])):=by
    refine Zd.succ (fun nf _ _ _=>Jb.eq nf _ _ _ _ _) ?_
    simp [-List.getD_eq_getElem?_getD,-List.length_eq_zero_iff,Zv,Zt,Z4,Zw,Xt,Xs,Yq,hk,Ze (N7 w ok hi hb),(N7 w ok hi hb).prop]
    by_cases c1:Ym w k=X2 i <;> by_cases c2:Vv w i b <;> simp [-List.getD_eq_getElem?_getD,-List.length_eq_zero_iff,Zv,Zt,Z4,Zw,Xt,Xs,Yq,c1,c2]
  have s3:Zd (fun nf _ _ _=>Jc nf (w) ((b:Int))) (fun r=>r=((!P8 w b,()),[])):=by
    refine Zd.succ (fun nf _ _ _=>Jc.eq nf _ _) ?_
    simp [-List.getD_eq_getElem?_getD,-List.length_eq_zero_iff,Zv,Zt,Z4,Zw,Xt,Xs,Yq,hbx]
  have s4:Zd (fun nf _ _ _=>Jd nf (w) ((b:Int)) ((k:Int))) (fun r=>r=((dec (WiW w b k),()),[])):=by
    refine Zd.succ (fun nf _ _ _=>Jd.eq nf _ _ _) ?_
    simp [-List.getD_eq_getElem?_getD,-List.length_eq_zero_iff,Zv,Zt,Z4,Zw,Xt,Xs,Yq,Ze (Tr w ok.right hb k),(Tr w ok.right hb k).bprop]
  have s5:Zd (fun nf _ _ _=>Je nf (w) ((b:Int)) ((k:Int))) (fun r=>r=((decide (4<Xw w b+1+Uz w k),()),[])):=by
    refine Zd.succ (fun nf _ _ _=>Je.eq nf _ _ _) ?_
    simp [-List.getD_eq_getElem?_getD,-List.length_eq_zero_iff,Zv,Zt,Z4,Zw,Xt,Xs,Yq,Ze (Ub w ok.right hb),(Ub w ok.right hb).prop,Ze (Og w ok hk),(Og w ok hk).prop]
    rw [Hl (n:=(Xw w b:Int)+1) (by omega) (by omega),Hl (by omega) (by omega)]
    omega
  have s6:Zd (fun nf _ _ _=>Jf nf (w) (Yx (b:Int))) (fun r=>r=((decide (Yr w (Yx b)<1),()),[])):=by
    refine Zd.succ (fun nf _ _ _=>Jf.eq nf _ _) ?_
    simp [-List.getD_eq_getElem?_getD,-List.length_eq_zero_iff,Zv,Zt,Z4,Zw,Xt,Xs,Yq,Ze (Qd w ok (Yx (b:Int)) (AD6 b)),(Qd w ok (Yx (b:Int)) (AD6 b)).prop]
  refine Zd.add 14 (fun nf _ _ _=>Y1.eq nf _ _ _ _ _ _ _ _ _ _ _ _ _ _ _ _ _ _ _ _ _ _ _ _) ?_
  simp [-List.getD_eq_getElem?_getD,-List.length_eq_zero_iff,Zv,Zt,Z4,Zw,Xt,Xs,Yq,Ze (s1.shift 13),(s1.shift 13).prop,Ze (s2.shift 13),(s2.shift 13).prop,Ze (s3.shift 13),(s3.shift 13).prop,Ze (s4.shift 13),(s4.shift 13).prop,Ze (s5.shift 13),(s5.shift 13).prop,Ze (s6.shift 13),(s6.shift 13).prop,putErr,inR,hk,hb]
  by_cases c1:Ym w k=X2 i <;> by_cases c2:Vv w i b <;> by_cases c3:P8 w b=true <;> by_cases c4:WiW w b k <;> by_cases c5:4<Xw w b+1+Uz w k <;> by_cases c6:Yr w (Yx b)<1 <;> simp [-List.getD_eq_getElem?_getD,-List.length_eq_zero_iff,Zv,Zt,Z4,Zw,Xt,Xs,Yq,c1,c2,c3,c4,c5,c6]
theorem Jw {w:den Za} {k:Int} (h:inR w k):∃ n:Nat,k=(n:Int)∧n<List.length (w.2.2.2.1:List (den Zb)):=⟨k.toNat,by have:=h.1; omega,by have:=h.1; have:=h.2; omega⟩
theorem Ay {w:den Za} (ok:Ok w) {i:Nat} (hi:i<List.length (w.2.1:List Int)) (k b:Int):Zd (fun nf _ _ _=>Y1 nf (w) (k) (b) (3) (w) (k) (X2 i) ((i:Int)) (b) (5) (w) (b) (6) (w) (b) (k) (7) (w) (b) (k) (8) (w) (Yx b) (9)) (fun r=>r=((putErr w i k b,()),[])):=by
  by_cases hk:inR w k
  · by_cases hb:inR w b
    · obtain ⟨k,rfl,hkn⟩:=Jw hk
      obtain ⟨b,rfl,hbn⟩:=Jw hb
      exact ABt ok hi hkn hbn
    · refine Zd.add 14 (fun nf _ _ _=>Y1.eq nf _ _ _ _ _ _ _ _ _ _ _ _ _ _ _ _ _ _ _ _ _ _ _ _) ?_
      have s1:Zd (fun nf _ _ _=>Yy nf (w) (k) (b)) (fun r=>r=((true,()),[])):=by
        refine Zd.succ (fun nf _ _ _=>Yy.eq nf _ _ _) ?_
        simp [-List.getD_eq_getElem?_getD,-List.length_eq_zero_iff,Zv,Zt,Z4,Zw,Xt,Xs,Yq,Ze (Yg w k),(Yg w k).prop,Ze (Yg w b),(Yg w b).prop,hk,hb]
      simp [-List.getD_eq_getElem?_getD,-List.length_eq_zero_iff,Zv,Zt,Z4,Zw,Xt,Xs,Yq,Ze (s1.shift 13),(s1.shift 13).prop,putErr,hk,hb]
  · refine Zd.add 14 (fun nf _ _ _=>Y1.eq nf _ _ _ _ _ _ _ _ _ _ _ _ _ _ _ _ _ _ _ _ _ _ _ _) ?_
    have s1:Zd (fun nf _ _ _=>Yy nf (w) (k) (b)) (fun r=>r=((true,()),[])):=by
      refine Zd.succ (fun nf _ _ _=>Yy.eq nf _ _ _) ?_
      simp [-List.getD_eq_getElem?_getD,-List.length_eq_zero_iff,Zv,Zt,Z4,Zw,Xt,Xs,Yq,Ze (Yg w k),(Yg w k).prop,Ze (Yg w b),(Yg w b).prop,hk]
    simp [-List.getD_eq_getElem?_getD,-List.length_eq_zero_iff,Zv,Zt,Z4,Zw,Xt,Xs,Yq,Ze (s1.shift 13),(s1.shift 13).prop,putErr,hk]
theorem B8 {w:den Za} (ok:Ok w) {i k b:Nat} (hi:i<List.length (w.2.1:List Int)) (hk:k<List.length (w.2.2.2.1:List (den Zb))) (hb:b<List.length (w.2.2.2.1:List (den Zb))) :
    Zd (fun nf _ _ _=>Y9 nf (w) ((k:Int)) ((b:Int)) (3) (w) ((i:Int)) ((b:Int)) (5) (w) ((b:Int)) (6) (w) ((k:Int)) (Yx (b:Int)) (5) (w) (X2 i) (9)) (fun r=>r=((takeErr w i k b,()),[])):=by
  have hbx:b<List.length (w.1.2.2.2.2.1:List Bool):=by rw [ok.right.may.b1,← ok.right.w1]; exact hb
  have s1:Zd (fun nf _ _ _=>Yh nf (w) ((k:Int)) ((b:Int))) (fun r=>r=((false,()),[])):=by
    refine Zd.succ (fun nf _ _ _=>Yh.eq nf _ _ _) ?_
    simp [-List.getD_eq_getElem?_getD,-List.length_eq_zero_iff,Zv,Zt,Z4,Zw,Xt,Xs,Yq,Ze (Yg w (k:Int)),(Yg w (k:Int)).prop,Ze (Yg w (b:Int)),(Yg w (b:Int)).prop,inR,hk,hb]
  have s2:Zd (fun nf _ _ _=>Qo nf (w) ((i:Int)) ((b:Int))) (fun r=>r=((dec (¬ Vv w i b),()),[])):=by
    refine Zd.succ (fun nf _ _ _=>Qo.eq nf _ _ _) ?_
    simp [-List.getD_eq_getElem?_getD,-List.length_eq_zero_iff,Zv,Zt,Z4,Zw,Xt,Xs,Yq,Ze (N7 w ok hi hb),(N7 w ok hi hb).prop]
  have s3:Zd (fun nf _ _ _=>Qp nf (w) ((b:Int))) (fun r=>r=((!P8 w b,()),[])):=by
    refine Zd.succ (fun nf _ _ _=>Qp.eq nf _ _) ?_
    simp [-List.getD_eq_getElem?_getD,-List.length_eq_zero_iff,Zv,Zt,Z4,Zw,Xt,Xs,Yq,hbx]
  have s4:Zd (fun nf _ _ _=>Qq nf (w) ((k:Int)) (Yx (b:Int))) (fun r=>r=((dec (¬ Ym w k=Yx (b:Int)),()),[])):=by
    refine Zd.succ (fun nf _ _ _=>Qq.eq nf _ _ _) ?_
    simp [-List.getD_eq_getElem?_getD,-List.length_eq_zero_iff,Zv,Zt,Z4,Zw,Xt,Xs,Yq,hk]
  have s5:Zd (fun nf _ _ _=>Qr nf (w) (X2 i)) (fun r=>r=((decide (Yr w (X2 i)<1),()),[])):=by
    refine Zd.succ (fun nf _ _ _=>Qr.eq nf _ _) ?_
    simp [-List.getD_eq_getElem?_getD,-List.length_eq_zero_iff,Zv,Zt,Z4,Zw,Xt,Xs,Yq,Ze (Qd w ok (X2 i) (Gt i)),(Qd w ok (X2 i) (Gt i)).prop]
  refine Zd.add 14 (fun nf _ _ _=>Y9.eq nf _ _ _ _ _ _ _ _ _ _ _ _ _ _ _ _ _ _) ?_
  simp [-List.getD_eq_getElem?_getD,-List.length_eq_zero_iff,Zv,Zt,Z4,Zw,Xt,Xs,Yq,Ze (s1.shift 13),(s1.shift 13).prop,Ze (s2.shift 13),(s2.shift 13).prop,Ze (s3.shift 13),(s3.shift 13).prop,Ze (s4.shift 13),(s4.shift 13).prop,Ze (s5.shift 13),(s5.shift 13).prop,takeErr,inR,hk,hb]
  by_cases c1:Vv w i b <;> by_cases c2:P8 w b=true <;> by_cases c3:Ym w k=Yx (b:Int) <;> by_cases c4:Yr w (X2 i)<1 <;> simp [-List.getD_eq_getElem?_getD,-List.length_eq_zero_iff,Zv,Zt,Z4,Zw,Xt,Xs,Yq,c1,c2,c3,c4]
theorem Ct {w:den Za} (ok:Ok w) {i:Nat} (hi:i<List.length (w.2.1:List Int)) (k b:Int):Zd (fun nf _ _ _=>Y9 nf (w) (k) (b) (3) (w) ((i:Int)) (b) (5) (w) (b) (6) (w) (k) (Yx b) (5) (w) (X2 i) (9)) (fun r=>r=((takeErr w i k b,()),[])):=by
  by_cases hk:inR w k
  · by_cases hb:inR w b
    · obtain ⟨k,rfl,hkn⟩:=Jw hk
      obtain ⟨b,rfl,hbn⟩:=Jw hb
      exact B8 ok hi hkn hbn
    · refine Zd.add 14 (fun nf _ _ _=>Y9.eq nf _ _ _ _ _ _ _ _ _ _ _ _ _ _ _ _ _ _) ?_
      have s1:Zd (fun nf _ _ _=>Yh nf (w) (k) (b)) (fun r=>r=((true,()),[])):=by
        refine Zd.succ (fun nf _ _ _=>Yh.eq nf _ _ _) ?_
        simp [-List.getD_eq_getElem?_getD,-List.length_eq_zero_iff,Zv,Zt,Z4,Zw,Xt,Xs,Yq,Ze (Yg w k),(Yg w k).prop,Ze (Yg w b),(Yg w b).prop,hk,hb]
      simp [-List.getD_eq_getElem?_getD,-List.length_eq_zero_iff,Zv,Zt,Z4,Zw,Xt,Xs,Yq,Ze (s1.shift 13),(s1.shift 13).prop,takeErr,hk,hb]
  · refine Zd.add 14 (fun nf _ _ _=>Y9.eq nf _ _ _ _ _ _ _ _ _ _ _ _ _ _ _ _ _ _) ?_
    have s1:Zd (fun nf _ _ _=>Yh nf (w) (k) (b)) (fun r=>r=((true,()),[])):=by
      refine Zd.succ (fun nf _ _ _=>Yh.eq nf _ _ _) ?_
      simp [-List.getD_eq_getElem?_getD,-List.length_eq_zero_iff,Zv,Zt,Z4,Zw,Xt,Xs,Yq,Ze (Yg w k),(Yg w k).prop,Ze (Yg w b),(Yg w b).prop,hk]
    simp [-List.getD_eq_getElem?_getD,-List.length_eq_zero_iff,Zv,Zt,Z4,Zw,Xt,Xs,Yq,Ze (s1.shift 13),(s1.shift 13).prop,takeErr,hk]
theorem F0 {w:den Za} {i:Nat} {k b:Int} (h:¬ putErr w i k b=3):inR w k∧inR w b:=by
  by_cases hn:inR w k∧inR w b
  · exact hn
  · exact absurd (by unfold putErr; rw [if_neg hn]) h
theorem Le {w:den Za} {i:Nat} {k b:Int} (h:¬ takeErr w i k b=3):inR w k∧inR w b:=by
  by_cases hn:inR w k∧inR w b
  · exact hn
  · exact absurd (by unfold takeErr; rw [if_neg hn]) h
theorem AMa {w:den Za} (ok:Ok w) {i:Nat} (hi:i<List.length (w.2.1:List Int)) (k b:Int):Zd (fun nf _ _ _=>V1 nf (w) ((i:Int)) (k) (b)) (fun r=>r=(putR w i k b,[])):=by
  refine Zd.succ (fun nf _ _ _=>V1.eq nf _ _ _ _) ?_
  simp [-List.getD_eq_getElem?_getD,-List.length_eq_zero_iff,Zv,Zt,Z4,Zw,Xt,Xs,Yq,Ze (Ay ok hi k b),(Ay ok hi k b).prop]
  by_cases h:putErr w i k b=0
  · obtain ⟨hk,hb⟩:=F0 (show ¬ putErr w i k b=3 by rw [h]; decide)
    obtain ⟨k,rfl,hkn⟩:=Jw hk
    simp [-List.getD_eq_getElem?_getD,-List.length_eq_zero_iff,Zv,Zt,Z4,Zw,Xt,Xs,Yq,h,Ze (P6 w ok.sm hkn (Yx b)),(P6 w ok.sm hkn (Yx b)).prop,putR]
  · simp [-List.getD_eq_getElem?_getD,-List.length_eq_zero_iff,Zv,Zt,Z4,Zw,Xt,Xs,Yq,h,putR]
theorem AI2 {w:den Za} (ok:Ok w) {i:Nat} (hi:i<List.length (w.2.1:List Int)) (k b:Int):Zd (fun nf _ _ _=>Vd nf (w) ((i:Int)) (k) (b)) (fun r=>r=(takeR w i k b,[])):=by
  refine Zd.succ (fun nf _ _ _=>Vd.eq nf _ _ _ _) ?_
  simp [-List.getD_eq_getElem?_getD,-List.length_eq_zero_iff,Zv,Zt,Z4,Zw,Xt,Xs,Yq,Ze (Ct ok hi k b),(Ct ok hi k b).prop]
  by_cases h:takeErr w i k b=0
  · obtain ⟨hk,hb⟩:=Le (show ¬ takeErr w i k b=3 by rw [h]; decide)
    obtain ⟨k,rfl,hkn⟩:=Jw hk
    simp [-List.getD_eq_getElem?_getD,-List.length_eq_zero_iff,Zv,Zt,Z4,Zw,Xt,Xs,Yq,h,Ze (P6 w ok.sm hkn (X2 i)),(P6 w ok.sm hkn (X2 i)).prop,takeR]
  · simp [-List.getD_eq_getElem?_getD,-List.length_eq_zero_iff,Zv,Zt,Z4,Zw,Xt,Xs,Yq,h,takeR]
end Go.Proofs.YtpemapoblhleoaaGreatDoor.Ghost
namespace Go.Proofs.YtpemapoblhleoaaGreatDoor.Ghost
open Go
section
variable {w:den Za} (ok:Ok w) {k b:Nat} (hk:k<List.length (w.2.2.2.1:List (den Zb))) (hb:b<List.length (w.2.2.2.1:List (den Zb))) (hn:¬ WiW w b k)
open Classical in
noncomputable def dOf (w:den Za) (k b j:Nat):Nat:=if WiW w j k then Xw w b+1+(Xw w j - Xw w k) else Xw w j
include ok hk hb hn
theorem BHc {j:Nat} (hj:j<List.length (w.2.2.2.1:List (den Zb))):∃ p,Ue (put w k (Yx (b:Int))).2.2.2.1 j p (dOf w k b j):=by
  have m:=Fq ok.right hk hb hn
  unfold dOf
  by_cases hw:WiW w j k
  · rw [if_pos hw]; exact ⟨_,(m.inn j hj hw).1⟩
  · rw [if_neg hw]; exact ⟨_,m.out j hj hw⟩
theorem AK0:(∃ j,j<List.length (w.2.2.2.1:List (den Zb))∧4<dOf w k b j)↔4<Xw w b+1+Uz w k:=by
  constructor
  · rintro ⟨j,hj,hd⟩
    unfold dOf at hd
    split at hd
    · rename_i hw
      have:Xw w j - Xw w k≤Uz w k:=AGy (w:=w) (i:=k) hj hw
      omega
    · have:=(Cj ok.right hj).2
      omega
  · intro h
    rcases Dl (w:=w) (i:=k) (List.length (w.2.2.2.1:List (den Zb))) with h0 | ⟨j,j1,j2,j3⟩
    · have h0:Uz w k=0:=h0
      refine ⟨k,hk,?_⟩
      unfold dOf
      rw [if_pos (.refl k)]; omega
    · have j3:Xw w j - Xw w k=Uz w k:=j3
      refine ⟨j,j1,?_⟩
      unfold dOf
      rw [if_pos j2]; omega
end
end Go.Proofs.YtpemapoblhleoaaGreatDoor.Ghost
namespace Go.Proofs.YtpemapoblhleoaaGreatDoor.Ghost
open Go
theorem Ok.put2 {w:den Za} (ok:Ok w) {k:Nat} (hk:k<List.length (w.2.2.2.1:List (den Zb))) {q:Pl} (hg:Kf w.1 q) (hr:1≤Yr w q) (hd:∀ j,j<List.length (w.2.2.2.1:List (den Zb))→∃ p d,Ue (Ghost.put w k q).2.2.2.1 j p d∧d≤4):Ok (Ghost.put w k q):=by
  have h:=ok.right
  have hset:∀ p:Pl,Yl (List.set (w.2.2.2.1:List (den Zb)) k q) p (List.length (w.2.2.2.1:List (den Zb)))≤Yl w.2.2.2.1 p (List.length (w.2.2.2.1:List (den Zb)))+(if q=p then 1 else 0):=fun p=>by
    have:=Tf w.2.2.2.1 k q p hk (List.length (w.2.2.2.1:List (den Zb)))
    simp only [hk,true_and] at this
    omega
  refine ⟨AMg ok.sm k q,h.may,h.a1,h.c1,by rw [Hk]; exact h.w1,h.at_,fun i hi => ?_,fun i hi => ?_⟩
  · rw [Hk] at hi
    rw [ACc w k i q hk]
    split
    · exact hg
    · exact h.good i hi
  · have hlen:=Hk w k q
    rw [hlen] at hi ⊢
    obtain ⟨p,d,h1,h2⟩:=hd i hi
    have h3:=h1.depI 51 0 (by omega) (by omega)
    rw [Nat.zero_add] at h3
    refine ⟨Nat.le_trans (Nat.le_of_eq h3) h2,?_⟩
    generalize List.getD ((Ghost.put w k q).2.2.2.1:List (den Zb)) i (dft Zb)=p
    show (Yl (List.set (w.2.2.2.1:List (den Zb)) k q) _ _:Int)≤Mv w.1 _
    have h1:=hset p
    by_cases hqp:q=p
    · rw [if_pos hqp] at h1
      subst hqp
      unfold Yr at hr
      omega
    · rw [if_neg hqp] at h1
      have h2:=(h.room p).1
      unfold Yr at h2
      omega
structure ACp (w:den Za) (i k b:Nat):Prop where
  hk:k<List.length (w.2.2.2.1:List (den Zb))
  hb:b<List.length (w.2.2.2.1:List (den Zb))
  me:Ym w k=X2 i
  near:Vv w i b
  box:P8 w b=true
  wi:¬ WiW w b k
  deep:¬ 4<Xw w b+1+Uz w k
  room:1≤Yr w (Yx b)
theorem Ez {w:den Za} {i k b:Nat} (hk:k<List.length (w.2.2.2.1:List (den Zb))) (hb:b<List.length (w.2.2.2.1:List (den Zb))):putErr w i k b=0↔ACp w i k b:=by
  have h1:inR w (k:Int):=⟨Int.natCast_nonneg k,Int.ofNat_lt.2 hk⟩
  have h2:inR w (b:Int):=⟨Int.natCast_nonneg b,Int.ofNat_lt.2 hb⟩
  unfold putErr
  simp only [h1,h2,and_self,if_true,Int.toNat_natCast]
  constructor
  · intro h
    split at h <;> rename_i c1
    · split at h <;> rename_i c2
      · split at h <;> rename_i c3
        · cases h
        · split at h <;> rename_i c4
          · cases h
          · split at h <;> rename_i c5
            · cases h
            · exact ⟨hk,hb,c1.1,c1.2,c2,c3,c4,by omega⟩
      · cases h
    · cases h
  · intro h
    rw [if_pos ⟨h.me,h.near⟩,if_pos h.box,if_neg h.wi,if_neg h.deep,if_neg (by have:=h.room; omega)]
structure Ds (w:den Za) (i k b:Nat):Prop where
  hk:k<List.length (w.2.2.2.1:List (den Zb))
  hb:b<List.length (w.2.2.2.1:List (den Zb))
  near:Vv w i b
  box:P8 w b=true
  at_:Ym w k=Yx b
  room:1≤Yr w (X2 i)
theorem Ix {w:den Za} {i k b:Nat} (hk:k<List.length (w.2.2.2.1:List (den Zb))) (hb:b<List.length (w.2.2.2.1:List (den Zb))):takeErr w i k b=0↔Ds w i k b:=by
  have h1:inR w (k:Int):=⟨Int.natCast_nonneg k,Int.ofNat_lt.2 hk⟩
  have h2:inR w (b:Int):=⟨Int.natCast_nonneg b,Int.ofNat_lt.2 hb⟩
  unfold takeErr
  simp only [h1,h2,and_self,if_true,Int.toNat_natCast]
  constructor
  · intro h
    split at h <;> rename_i c1
    · split at h <;> rename_i c2
      · split at h <;> rename_i c3
        · split at h <;> rename_i c4
          · cases h
          · exact ⟨hk,hb,c1,c2,c3,by omega⟩
        · cases h
      · cases h
    · cases h
  · intro h
    rw [if_pos h.near,if_pos h.box,if_pos h.at_,if_neg (by have:=h.room; omega)]
theorem ACp.moved {w:den Za} {i k b:Nat} (h:ACp w i k b) (ok:Ok w):Uk w (put w k (Yx (b:Int))) k (Ys w b) (Xw w b+1):=Fq ok.right h.hk h.hb h.wi
theorem ACp.ok {w:den Za} {i k b:Nat} (h:ACp w i k b) (ok:Ok w):Ok (put w k (Yx (b:Int))):=by
  refine ok.put2 h.hk (.inr (.inr ⟨rfl,⟨Int.natCast_nonneg b,?_⟩,?_⟩)) h.room (fun j hj => ?_)
  · show (b:Int)<_
    rw [← ok.right.w1]; exact Int.ofNat_lt.2 h.hb
  · show List.getD (w.1.2.2.2.2.1:List Bool) (Int.toNat (b:Int)) false=true
    rw [Int.toNat_natCast]; exact h.box
  · obtain ⟨p,hp⟩:=BHc ok h.hk h.hb h.wi hj
    refine ⟨p,_,hp,?_⟩
    have:¬ 4<dOf w k b j:=fun h4=>h.deep ((AK0 ok h.hk h.hb h.wi).1 ⟨j,hj,h4⟩)
    omega
theorem Ds.moved {w:den Za} {i k b:Nat} (h:Ds w i k b) (ok:Ok w):Uk w (put w k (X2 i)) k (X2 i) 0:=Fr ok.right h.hk (show ¬ (1:Int)=2 by decide)
theorem Ds.ok {w:den Za} {i k b:Nat} (h:Ds w i k b) (ok:Ok w) (hi:i<List.length (w.2.1:List Int)):Ok (put w k (X2 i)):=by
  have m:=h.moved ok
  refine ok.put2 h.hk (.inr (.inl ⟨rfl,Int.natCast_nonneg i,?_⟩)) h.room (fun j hj => ?_)
  · show (i:Int)<_
    rw [← ok.right.a1]; exact Int.ofNat_lt.2 hi
  · have:=(Cj ok.right hj).2
    by_cases hw:WiW w j k
    · exact ⟨_,_,(m.inn j hj hw).1,by omega⟩
    · exact ⟨_,_,m.out j hj hw,this⟩
theorem M6 {w:den Za} {i k:Nat} (h:Ym w k=X2 i):Vv w i k:=.inr (by
  show Tl w.2.2.2.1 51 (Ym w k)=_
  rw [h]; exact F3 (show ¬ (1:Int)=2 by decide) 51)
theorem AL5 {w:den Za} (h:X1 w) {i j b:Nat} (hj:j<List.length (w.2.2.2.1:List (den Zb))) (h2:(Ym w j).1=(2:Int)) (hb:(Ym w j).2.1=(b:Int)):Vv w i j↔Vv w i b:=by
  obtain ⟨b',e,_,er⟩:=Bq h hj h2
  obtain rfl:b=b':=Int.ofNat.inj (hb.symm.trans e)
  unfold Vv
  rw [er]
theorem E8 {w:den Za} {i:Nat} {k b:Int} (h:¬ takeErr w i k b=0):takeR w i k b=(w,takeErr w i k b,()):=if_neg h
theorem Bl {w:den Za} {i:Nat} {k b:Int} (h:¬ putErr w i k b=0):putR w i k b=(w,putErr w i k b,()):=if_neg h
theorem AGf {w:den Za} {i k:Nat} {b:Int} (h:takeErr w i k b=0):takeR w i k b=(put w k (X2 i),0,()):=if_pos h
theorem AIu {w:den Za} {i k:Nat} {b:Int} (h:putErr w i k b=0):putR w i k b=(put w k (Yx b),0,()):=if_pos h
end Go.Proofs.YtpemapoblhleoaaGreatDoor.Ghost
