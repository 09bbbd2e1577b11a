/- What functions come to, and that the statements are answered with 'true'. Conditions: none. -/
import Derived.Test.YtpemapoblhleoaaGreatDoorS
import Derived.Test.YtpemapoblhleoaaGreatDoorGE
import Derived.Test.YtpemapoblhleoaaGreatDoorP1
import Derived.Test.YtpemapoblhleoaaGreatDoorP2
import Derived.Test.YtpemapoblhleoaaGreatDoorP3
import Derived.Test.YtpemapoblhleoaaGreatDoorP4
import Derived.Test.YtpemapoblhleoaaGreatDoorP5
set_option linter.unusedVariables false
set_option linter.unusedSimpArgs false
set_option linter.unusedSectionVars false
set_option linter.unnecessarySimpa false
namespace Go.Proofs.YtpemapoblhleoaaGreatDoor.Ghost
open Go
abbrev F7 (w:den Za) (b:Nat):Bool:=List.getD (w.1.2.2.2.2.1:List Bool) b false
def Mh (w:den Za) (i j:Nat):Prop:=Jm w j=BVo (Tt w i)∨Jm w j=Ya i
def inR (w:den Za) (k:Int):Prop:=0≤k∧k<(List.length (w.2.2.2.1:List (den Zb)):Int)
open Classical in
noncomputable def putErr (w:den Za) (i:Nat) (k b:Int):Int:=if inR w k∧inR w b then
  (if Y2 w k.toNat=Ya i∧Mh w i b.toNat then
    (if F7 w b.toNat=true then
      (if WiW w b.toNat k.toNat then 7 else if 4<X1 w b.toNat+1+R4 w k.toNat then 8 else if Y5 w (Y9 b)<1 then 9 else 0)
    else 6)
  else 5) else 3
open Classical in
noncomputable def takeErr (w:den Za) (i:Nat) (k b:Int):Int:=if inR w k∧inR w b then
  (if Mh w i b.toNat then
    (if F7 w b.toNat=true then
      (if Y2 w k.toNat=Y9 b then (if Y5 w (Ya i)<1 then 9 else 0) else 5)
    else 6)
  else 5) else 3
open Classical in
noncomputable def putR (w:den Za) (i:Nat) (k b:Int):den Za×Int×Unit:=if putErr w i k b=0 then (put w k.toNat (Y9 b),0,()) else (w,putErr w i k b,())
open Classical in
noncomputable def takeR (w:den Za) (i:Nat) (k b:Int):den Za×Int×Unit:=if takeErr w i k b=0 then (put w k.toNat (Ya i),0,()) else (w,takeErr w i k b,())
theorem AD2 (b:Int):(0:Int)≤(Y9 b).1∧((Y9 b).1:Int)<3:=⟨by show (0:Int)≤2; decide,by show (2:Int)<3; decide⟩
theorem Gv (i:Nat):(0:Int)≤(Ya i).1∧((Ya i).1:Int)<3:=⟨by show (0:Int)≤1; decide,by show (1:Int)<3; decide⟩
theorem Yj (w:den Za) (k:Int):Zd (fun nf _ _ _=>Qy nf (w) (k)) (fun r=>r=((dec (¬ inR w k),()),[])):=by
  refine Zd.succ (fun nf _ _ _=>Qy.eq nf _ _) ?_
  by_cases h:k<0 <;> by_cases h2:(List.length (w.2.2.2.1:List (den Zb)):Int)≤k <;> simp [h,h2,inR] <;> omega
theorem N8 (w:den Za) (ok:Ok w) {i j:Nat} (hi:i<List.length (w.2.1:List Int)) (hj:j<List.length (w.2.2.2.1:List (den Zb))):Zd (fun nf _ _ _=>Jt nf (w) ((i:Int)) ((j:Int))) (fun r=>r=((dec (Mh w i j),()),[])):=by
  refine Zd.succ (fun nf _ _ _=>Jt.eq nf _ _ _) ?_
  simp [-List.getD_eq_getElem?_getD,-List.length_eq_zero_iff,Zr,Zp,Z4,Zy,Xk,Xj,Yt,Ze (Rs w ok.right hj),(Rs w ok.right hj).prop,hi]
  exact ⟨.inl,fun h=>⟨.inr,fun h'=>h'.resolve_left h⟩⟩
theorem ABl {w:den Za} (ok:Ok w) {i k b:Nat} (hi:i<List.length (w.2.1:List Int)) (hk:k<List.length (w.2.2.2.1:List (den Zb))) (hb:b<List.length (w.2.2.2.1:List (den Zb))) :
    Zd (fun nf _ _ _=>Y1 nf (w) ((k:Int)) ((b:Int)) (3) (w) ((k:Int)) (Ya i) ((i:Int)) ((b:Int)) (5) (w) ((b:Int)) (6) (w) ((b:Int)) ((k:Int)) (7) (w) ((b:Int)) ((k:Int)) (8) (w) (Y9 (b:Int)) (9)) (fun r=>r=((putErr w i k b,()),[])):=by
  have hbx:b<List.length (w.1.2.2.2.2.1:List Bool):=by rw [ok.right.may.b1,← ok.right.w1]; exact hb
  have hd:=(D7 ok.right hb).2
  have hh:=AP9 ok.right hk
  have s1:Zd (fun nf _ _ _=>Yy nf (w) ((k:Int)) ((b:Int))) (fun r=>r=((false,()),[])):=by
    refine Zd.succ (fun nf _ _ _=>Yy.eq nf _ _ _) ?_
    simp [-List.getD_eq_getElem?_getD,-List.length_eq_zero_iff,Zr,Zp,Z4,Zy,Xk,Xj,Yt,Ze (Yj w (k:Int)),(Yj w (k:Int)).prop,Ze (Yj w (b:Int)),(Yj w (b:Int)).prop,inR,hk,hb]
  have s2:Zd (fun nf _ _ _=>Je nf (w) ((k:Int)) (Ya i) ((i:Int)) ((b:Int))) (fun r=>r=((dec (¬ (Y2 w k=Ya i∧Mh w i b)),()),[])):=by
    refine Zd.succ (fun nf _ _ _=>Je.eq nf _ _ _ _ _) ?_
    simp [-List.getD_eq_getElem?_getD,-List.length_eq_zero_iff,Zr,Zp,Z4,Zy,Xk,Xj,Yt,hk,Ze (N8 w ok hi hb),(N8 w ok hi hb).prop]
    by_cases c1:Y2 w k=Ya i <;> by_cases c2:Mh w i b <;> simp [-List.getD_eq_getElem?_getD,-List.length_eq_zero_iff,Zr,Zp,Z4,Zy,Xk,Xj,Yt,c1,c2]
  have s3:Zd (fun nf _ _ _=>Jf nf (w) ((b:Int))) (fun r=>r=((!F7 w b,()),[])):=by
    refine Zd.succ (fun nf _ _ _=>Jf.eq nf _ _) ?_
    simp [-List.getD_eq_getElem?_getD,-List.length_eq_zero_iff,Zr,Zp,Z4,Zy,Xk,Xj,Yt,hbx]
  have s4:Zd (fun nf _ _ _=>Jg nf (w) ((b:Int)) ((k:Int))) (fun r=>r=((dec (WiW w b k),()),[])):=by
    refine Zd.succ (fun nf _ _ _=>Jg.eq nf _ _ _) ?_
    simp [-List.getD_eq_getElem?_getD,-List.length_eq_zero_iff,Zr,Zp,Z4,Zy,Xk,Xj,Yt,Ze (Ts w ok.right hb k),(Ts w ok.right hb k).bprop]
  have s5:Zd (fun nf _ _ _=>Jh nf (w) ((b:Int)) ((k:Int))) (fun r=>r=((decide (4<X1 w b+1+R4 w k),()),[])):=by
    refine Zd.succ (fun nf _ _ _=>Jh.eq nf _ _ _) ?_
    simp [-List.getD_eq_getElem?_getD,-List.length_eq_zero_iff,Zr,Zp,Z4,Zy,Xk,Xj,Yt,Ze (Ue w ok.right hb),(Ue w ok.right hb).prop,Ze (Oh w ok hk),(Oh w ok hk).prop]
    rw [Hn (n:=(X1 w b:Int)+1) (by omega) (by omega),Hn (by omega) (by omega)]
    omega
  have s6:Zd (fun nf _ _ _=>Ji nf (w) (Y9 (b:Int))) (fun r=>r=((decide (Y5 w (Y9 b)<1),()),[])):=by
    refine Zd.succ (fun nf _ _ _=>Ji.eq nf _ _) ?_
    simp [-List.getD_eq_getElem?_getD,-List.length_eq_zero_iff,Zr,Zp,Z4,Zy,Xk,Xj,Yt,Ze (Qg w ok (Y9 (b:Int)) (AD2 b)),(Qg w ok (Y9 (b:Int)) (AD2 b)).prop]
  refine Zd.add 14 (fun nf _ _ _=>Y1.eq nf _ _ _ _ _ _ _ _ _ _ _ _ _ _ _ _ _ _ _ _ _ _ _ _) ?_
  simp [-List.getD_eq_getElem?_getD,-List.length_eq_zero_iff,Zr,Zp,Z4,Zy,Xk,Xj,Yt,Ze (s1.shift 13),(s1.shift 13).prop,Ze (s2.shift 13),(s2.shift 13).prop,Ze (s3.shift 13),(s3.shift 13).prop,Ze (s4.shift 13),(s4.shift 13).prop,Ze (s5.shift 13),(s5.shift 13).prop,Ze (s6.shift 13),(s6.shift 13).prop,putErr,inR,hk,hb]
  by_cases c1:Y2 w k=Ya i <;> by_cases c2:Mh w i b <;> by_cases c3:F7 w b=true <;> by_cases c4:WiW w b k <;> by_cases c5:4<X1 w b+1+R4 w k <;> by_cases c6:Y5 w (Y9 b)<1 <;> simp [-List.getD_eq_getElem?_getD,-List.length_eq_zero_iff,Zr,Zp,Z4,Zy,Xk,Xj,Yt,c1,c2,c3,c4,c5,c6]
theorem H2 {w:den Za} {k:Int} (h:inR w k):∃ n:Nat,k=(n:Int)∧n<List.length (w.2.2.2.1:List (den Zb)):=⟨k.toNat,by have:=h.1; omega,by have:=h.1; have:=h.2; omega⟩
theorem An {w:den Za} (ok:Ok w) {i:Nat} (hi:i<List.length (w.2.1:List Int)) (k b:Int):Zd (fun nf _ _ _=>Y1 nf (w) (k) (b) (3) (w) (k) (Ya i) ((i:Int)) (b) (5) (w) (b) (6) (w) (b) (k) (7) (w) (b) (k) (8) (w) (Y9 b) (9)) (fun r=>r=((putErr w i k b,()),[])):=by
  by_cases hk:inR w k
  · by_cases hb:inR w b
    · obtain ⟨k,rfl,hkn⟩:=H2 hk
      obtain ⟨b,rfl,hbn⟩:=H2 hb
      exact ABl ok hi hkn hbn
    · refine Zd.add 14 (fun nf _ _ _=>Y1.eq nf _ _ _ _ _ _ _ _ _ _ _ _ _ _ _ _ _ _ _ _ _ _ _ _) ?_
      have s1:Zd (fun nf _ _ _=>Yy nf (w) (k) (b)) (fun r=>r=((true,()),[])):=by
        refine Zd.succ (fun nf _ _ _=>Yy.eq nf _ _ _) ?_
        simp [-List.getD_eq_getElem?_getD,-List.length_eq_zero_iff,Zr,Zp,Z4,Zy,Xk,Xj,Yt,Ze (Yj w k),(Yj w k).prop,Ze (Yj w b),(Yj w b).prop,hk,hb]
      simp [-List.getD_eq_getElem?_getD,-List.length_eq_zero_iff,Zr,Zp,Z4,Zy,Xk,Xj,Yt,Ze (s1.shift 13),(s1.shift 13).prop,putErr,hk,hb]
  · refine Zd.add 14 (fun nf _ _ _=>Y1.eq nf _ _ _ _ _ _ _ _ _ _ _ _ _ _ _ _ _ _ _ _ _ _ _ _) ?_
    have s1:Zd (fun nf _ _ _=>Yy nf (w) (k) (b)) (fun r=>r=((true,()),[])):=by
      refine Zd.succ (fun nf _ _ _=>Yy.eq nf _ _ _) ?_
      simp [-List.getD_eq_getElem?_getD,-List.length_eq_zero_iff,Zr,Zp,Z4,Zy,Xk,Xj,Yt,Ze (Yj w k),(Yj w k).prop,Ze (Yj w b),(Yj w b).prop,hk]
    simp [-List.getD_eq_getElem?_getD,-List.length_eq_zero_iff,Zr,Zp,Z4,Zy,Xk,Xj,Yt,Ze (s1.shift 13),(s1.shift 13).prop,putErr,hk]
theorem Bz {w:den Za} (ok:Ok w) {i k b:Nat} (hi:i<List.length (w.2.1:List Int)) (hk:k<List.length (w.2.2.2.1:List (den Zb))) (hb:b<List.length (w.2.2.2.1:List (den Zb))) :
    Zd (fun nf _ _ _=>Qc nf (w) ((k:Int)) ((b:Int)) (3) (w) ((i:Int)) ((b:Int)) (5) (w) ((b:Int)) (6) (w) ((k:Int)) (Y9 (b:Int)) (5) (w) (Ya i) (9)) (fun r=>r=((takeErr w i k b,()),[])):=by
  have hbx:b<List.length (w.1.2.2.2.2.1:List Bool):=by rw [ok.right.may.b1,← ok.right.w1]; exact hb
  have s1:Zd (fun nf _ _ _=>Yk nf (w) ((k:Int)) ((b:Int))) (fun r=>r=((false,()),[])):=by
    refine Zd.succ (fun nf _ _ _=>Yk.eq nf _ _ _) ?_
    simp [-List.getD_eq_getElem?_getD,-List.length_eq_zero_iff,Zr,Zp,Z4,Zy,Xk,Xj,Yt,Ze (Yj w (k:Int)),(Yj w (k:Int)).prop,Ze (Yj w (b:Int)),(Yj w (b:Int)).prop,inR,hk,hb]
  have s2:Zd (fun nf _ _ _=>Qq nf (w) ((i:Int)) ((b:Int))) (fun r=>r=((dec (¬ Mh w i b),()),[])):=by
    refine Zd.succ (fun nf _ _ _=>Qq.eq nf _ _ _) ?_
    simp [-List.getD_eq_getElem?_getD,-List.length_eq_zero_iff,Zr,Zp,Z4,Zy,Xk,Xj,Yt,Ze (N8 w ok hi hb),(N8 w ok hi hb).prop]
  have s3:Zd (fun nf _ _ _=>Qr nf (w) ((b:Int))) (fun r=>r=((!F7 w b,()),[])):=by
    refine Zd.succ (fun nf _ _ _=>Qr.eq nf _ _) ?_
    simp [-List.getD_eq_getElem?_getD,-List.length_eq_zero_iff,Zr,Zp,Z4,Zy,Xk,Xj,Yt,hbx]
  have s4:Zd (fun nf _ _ _=>Qs nf (w) ((k:Int)) (Y9 (b:Int))) (fun r=>r=((dec (¬ Y2 w k=Y9 (b:Int)),()),[])):=by
    refine Zd.succ (fun nf _ _ _=>Qs.eq nf _ _ _) ?_
    simp [-List.getD_eq_getElem?_getD,-List.length_eq_zero_iff,Zr,Zp,Z4,Zy,Xk,Xj,Yt,hk]
  have s5:Zd (fun nf _ _ _=>Qt nf (w) (Ya i)) (fun r=>r=((decide (Y5 w (Ya i)<1),()),[])):=by
    refine Zd.succ (fun nf _ _ _=>Qt.eq nf _ _) ?_
    simp [-List.getD_eq_getElem?_getD,-List.length_eq_zero_iff,Zr,Zp,Z4,Zy,Xk,Xj,Yt,Ze (Qg w ok (Ya i) (Gv i)),(Qg w ok (Ya i) (Gv i)).prop]
  refine Zd.add 14 (fun nf _ _ _=>Qc.eq nf _ _ _ _ _ _ _ _ _ _ _ _ _ _ _ _ _ _) ?_
  simp [-List.getD_eq_getElem?_getD,-List.length_eq_zero_iff,Zr,Zp,Z4,Zy,Xk,Xj,Yt,Ze (s1.shift 13),(s1.shift 13).prop,Ze (s2.shift 13),(s2.shift 13).prop,Ze (s3.shift 13),(s3.shift 13).prop,Ze (s4.shift 13),(s4.shift 13).prop,Ze (s5.shift 13),(s5.shift 13).prop,takeErr,inR,hk,hb]
  by_cases c1:Mh w i b <;> by_cases c2:F7 w b=true <;> by_cases c3:Y2 w k=Y9 (b:Int) <;> by_cases c4:Y5 w (Ya i)<1 <;> simp [-List.getD_eq_getElem?_getD,-List.length_eq_zero_iff,Zr,Zp,Z4,Zy,Xk,Xj,Yt,c1,c2,c3,c4]
theorem Cg {w:den Za} (ok:Ok w) {i:Nat} (hi:i<List.length (w.2.1:List Int)) (k b:Int):Zd (fun nf _ _ _=>Qc nf (w) (k) (b) (3) (w) ((i:Int)) (b) (5) (w) (b) (6) (w) (k) (Y9 b) (5) (w) (Ya i) (9)) (fun r=>r=((takeErr w i k b,()),[])):=by
  by_cases hk:inR w k
  · by_cases hb:inR w b
    · obtain ⟨k,rfl,hkn⟩:=H2 hk
      obtain ⟨b,rfl,hbn⟩:=H2 hb
      exact Bz ok hi hkn hbn
    · refine Zd.add 14 (fun nf _ _ _=>Qc.eq nf _ _ _ _ _ _ _ _ _ _ _ _ _ _ _ _ _ _) ?_
      have s1:Zd (fun nf _ _ _=>Yk nf (w) (k) (b)) (fun r=>r=((true,()),[])):=by
        refine Zd.succ (fun nf _ _ _=>Yk.eq nf _ _ _) ?_
        simp [-List.getD_eq_getElem?_getD,-List.length_eq_zero_iff,Zr,Zp,Z4,Zy,Xk,Xj,Yt,Ze (Yj w k),(Yj w k).prop,Ze (Yj w b),(Yj w b).prop,hk,hb]
      simp [-List.getD_eq_getElem?_getD,-List.length_eq_zero_iff,Zr,Zp,Z4,Zy,Xk,Xj,Yt,Ze (s1.shift 13),(s1.shift 13).prop,takeErr,hk,hb]
  · refine Zd.add 14 (fun nf _ _ _=>Qc.eq nf _ _ _ _ _ _ _ _ _ _ _ _ _ _ _ _ _ _) ?_
    have s1:Zd (fun nf _ _ _=>Yk nf (w) (k) (b)) (fun r=>r=((true,()),[])):=by
      refine Zd.succ (fun nf _ _ _=>Yk.eq nf _ _ _) ?_
      simp [-List.getD_eq_getElem?_getD,-List.length_eq_zero_iff,Zr,Zp,Z4,Zy,Xk,Xj,Yt,Ze (Yj w k),(Yj w k).prop,Ze (Yj w b),(Yj w b).prop,hk]
    simp [-List.getD_eq_getElem?_getD,-List.length_eq_zero_iff,Zr,Zp,Z4,Zy,Xk,Xj,Yt,Ze (s1.shift 13),(s1.shift 13).prop,takeErr,hk]
theorem AAm {w:den Za} {i:Nat} {k b:Int} (h:¬ putErr w i k b=3):inR w k∧inR w b:=by
  by_cases hn:inR w k∧inR w b
  · exact hn
  · exact absurd (by unfold putErr; rw [if_neg hn]) h
theorem Bn {w:den Za} {i:Nat} {k b:Int} (h:¬ takeErr w i k b=3):inR w k∧inR w b:=by
  by_cases hn:inR w k∧inR w b
  · exact hn
  · exact absurd (by unfold takeErr; rw [if_neg hn]) h
theorem AMn {w:den Za} (ok:Ok w) {i:Nat} (hi:i<List.length (w.2.1:List Int)) (k b:Int):Zd (fun nf _ _ _=>V4 nf (w) ((i:Int)) (k) (b)) (fun r=>r=(putR w i k b,[])):=by
  refine Zd.succ (fun nf _ _ _=>V4.eq nf _ _ _ _) ?_
  simp [-List.getD_eq_getElem?_getD,-List.length_eq_zero_iff,Zr,Zp,Z4,Zy,Xk,Xj,Yt,Ze (An ok hi k b),(An ok hi k b).prop]
  by_cases h:putErr w i k b=0
  · obtain ⟨hk,hb⟩:=AAm (show ¬ putErr w i k b=3 by rw [h]; decide)
    obtain ⟨k,rfl,hkn⟩:=H2 hk
    simp [-List.getD_eq_getElem?_getD,-List.length_eq_zero_iff,Zr,Zp,Z4,Zy,Xk,Xj,Yt,h,Ze (Oa w ok.sm hkn (Y9 b)),(Oa w ok.sm hkn (Y9 b)).prop,putR]
  · simp [-List.getD_eq_getElem?_getD,-List.length_eq_zero_iff,Zr,Zp,Z4,Zy,Xk,Xj,Yt,h,putR]
theorem AJg {w:den Za} (ok:Ok w) {i:Nat} (hi:i<List.length (w.2.1:List Int)) (k b:Int):Zd (fun nf _ _ _=>Vg nf (w) ((i:Int)) (k) (b)) (fun r=>r=(takeR w i k b,[])):=by
  refine Zd.succ (fun nf _ _ _=>Vg.eq nf _ _ _ _) ?_
  simp [-List.getD_eq_getElem?_getD,-List.length_eq_zero_iff,Zr,Zp,Z4,Zy,Xk,Xj,Yt,Ze (Cg ok hi k b),(Cg ok hi k b).prop]
  by_cases h:takeErr w i k b=0
  · obtain ⟨hk,hb⟩:=Bn (show ¬ takeErr w i k b=3 by rw [h]; decide)
    obtain ⟨k,rfl,hkn⟩:=H2 hk
    simp [-List.getD_eq_getElem?_getD,-List.length_eq_zero_iff,Zr,Zp,Z4,Zy,Xk,Xj,Yt,h,Ze (Oa w ok.sm hkn (Ya i)),(Oa w ok.sm hkn (Ya i)).prop,takeR]
  · simp [-List.getD_eq_getElem?_getD,-List.length_eq_zero_iff,Zr,Zp,Z4,Zy,Xk,Xj,Yt,h,takeR]
end Go.Proofs.YtpemapoblhleoaaGreatDoor.Ghost
namespace Go.Proofs.YtpemapoblhleoaaGreatDoor.Ghost
open Go
section
variable {w:den Za} (ok:Ok w) {k b:Nat} (hk:k<List.length (w.2.2.2.1:List (den Zb))) (hb:b<List.length (w.2.2.2.1:List (den Zb))) (hn:¬ WiW w b k)
open Classical in
noncomputable def dOf (w:den Za) (k b j:Nat):Nat:=if WiW w j k then X1 w b+1+(X1 w j - X1 w k) else X1 w j
include ok hk hb hn
theorem BJg {j:Nat} (hj:j<List.length (w.2.2.2.1:List (den Zb))):∃ p,U7 (put w k (Y9 (b:Int))).2.2.2.1 j p (dOf w k b j):=by
  have m:=AAg ok.right hk hb hn
  unfold dOf
  by_cases hw:WiW w j k
  · rw [if_pos hw]; exact ⟨_,(m.inn j hj hw).1⟩
  · rw [if_neg hw]; exact ⟨_,m.out j hj hw⟩
theorem ALe:(∃ j,j<List.length (w.2.2.2.1:List (den Zb))∧4<dOf w k b j)↔4<X1 w b+1+R4 w k:=by
  constructor
  · rintro ⟨j,hj,hd⟩
    unfold dOf at hd
    split at hd
    · rename_i hw
      have:X1 w j - X1 w k≤R4 w k:=AG4 (w:=w) (i:=k) hj hw
      omega
    · have:=(D7 ok.right hj).2
      omega
  · intro h
    rcases Dd (w:=w) (i:=k) (List.length (w.2.2.2.1:List (den Zb))) with h0 | ⟨j,j1,j2,j3⟩
    · have h0:R4 w k=0:=h0
      refine ⟨k,hk,?_⟩
      unfold dOf
      rw [if_pos (.refl k)]; omega
    · have j3:X1 w j - X1 w k=R4 w k:=j3
      refine ⟨j,j1,?_⟩
      unfold dOf
      rw [if_pos j2]; omega
end
end Go.Proofs.YtpemapoblhleoaaGreatDoor.Ghost
namespace Go.Proofs.YtpemapoblhleoaaGreatDoor.Ghost
open Go
theorem Ok.put2 {w:den Za} (ok:Ok w) {k:Nat} (hk:k<List.length (w.2.2.2.1:List (den Zb))) {q:Pl} (hg:Kh w.1 q) (hr:1≤Y5 w q) (hd:∀ j,j<List.length (w.2.2.2.1:List (den Zb))→∃ p d,U7 (Ghost.put w k q).2.2.2.1 j p d∧d≤4):Ok (Ghost.put w k q):=by
  have h:=ok.right
  have hset:∀ p:Pl,Yq (List.set (w.2.2.2.1:List (den Zb)) k q) p (List.length (w.2.2.2.1:List (den Zb)))≤Yq w.2.2.2.1 p (List.length (w.2.2.2.1:List (den Zb)))+(if q=p then 1 else 0):=fun p=>by
    have:=P2 w.2.2.2.1 k q p hk (List.length (w.2.2.2.1:List (den Zb)))
    simp only [hk,true_and] at this
    omega
  refine ⟨AMs ok.sm k q,h.may,h.a1,h.c1,by rw [Ua]; exact h.w1,h.at_,fun i hi => ?_,fun i hi => ?_⟩
  · rw [Ua] at hi
    rw [AGb w k i q hk]
    split
    · exact hg
    · exact h.good i hi
  · have hlen:=Ua w k q
    rw [hlen] at hi ⊢
    obtain ⟨p,d,h1,h2⟩:=hd i hi
    have h3:=h1.depI 51 0 (by omega) (by omega)
    rw [Nat.zero_add] at h3
    refine ⟨Nat.le_trans (Nat.le_of_eq h3) h2,?_⟩
    generalize List.getD ((Ghost.put w k q).2.2.2.1:List (den Zb)) i (dft Zb)=p
    show (Yq (List.set (w.2.2.2.1:List (den Zb)) k q) _ _:Int)≤Ll w.1 _
    have h1:=hset p
    by_cases hqp:q=p
    · rw [if_pos hqp] at h1
      subst hqp
      unfold Y5 at hr
      omega
    · rw [if_neg hqp] at h1
      have h2:=(h.room p).1
      unfold Y5 at h2
      omega
structure ACl (w:den Za) (i k b:Nat):Prop where
  hk:k<List.length (w.2.2.2.1:List (den Zb))
  hb:b<List.length (w.2.2.2.1:List (den Zb))
  me:Y2 w k=Ya i
  near:Mh w i b
  box:F7 w b=true
  wi:¬ WiW w b k
  deep:¬ 4<X1 w b+1+R4 w k
  room:1≤Y5 w (Y9 b)
theorem AEn {w:den Za} {i k b:Nat} (hk:k<List.length (w.2.2.2.1:List (den Zb))) (hb:b<List.length (w.2.2.2.1:List (den Zb))):putErr w i k b=0↔ACl w i k b:=by
  have h1:inR w (k:Int):=⟨Int.natCast_nonneg k,Int.ofNat_lt.2 hk⟩
  have h2:inR w (b:Int):=⟨Int.natCast_nonneg b,Int.ofNat_lt.2 hb⟩
  unfold putErr
  simp only [h1,h2,and_self,if_true,Int.toNat_natCast]
  constructor
  · intro h
    split at h <;> rename_i c1
    · split at h <;> rename_i c2
      · split at h <;> rename_i c3
        · cases h
        · split at h <;> rename_i c4
          · cases h
          · split at h <;> rename_i c5
            · cases h
            · exact ⟨hk,hb,c1.1,c1.2,c2,c3,c4,by omega⟩
      · cases h
    · cases h
  · intro h
    rw [if_pos ⟨h.me,h.near⟩,if_pos h.box,if_neg h.wi,if_neg h.deep,if_neg (by have:=h.room; omega)]
structure Dj (w:den Za) (i k b:Nat):Prop where
  hk:k<List.length (w.2.2.2.1:List (den Zb))
  hb:b<List.length (w.2.2.2.1:List (den Zb))
  near:Mh w i b
  box:F7 w b=true
  at_:Y2 w k=Y9 b
  room:1≤Y5 w (Ya i)
theorem ACc {w:den Za} {i k b:Nat} (hk:k<List.length (w.2.2.2.1:List (den Zb))) (hb:b<List.length (w.2.2.2.1:List (den Zb))):takeErr w i k b=0↔Dj w i k b:=by
  have h1:inR w (k:Int):=⟨Int.natCast_nonneg k,Int.ofNat_lt.2 hk⟩
  have h2:inR w (b:Int):=⟨Int.natCast_nonneg b,Int.ofNat_lt.2 hb⟩
  unfold takeErr
  simp only [h1,h2,and_self,if_true,Int.toNat_natCast]
  constructor
  · intro h
    split at h <;> rename_i c1
    · split at h <;> rename_i c2
      · split at h <;> rename_i c3
        · split at h <;> rename_i c4
          · cases h
          · exact ⟨hk,hb,c1,c2,c3,by omega⟩
        · cases h
      · cases h
    · cases h
  · intro h
    rw [if_pos h.near,if_pos h.box,if_pos h.at_,if_neg (by have:=h.room; omega)]
theorem ACl.moved {w:den Za} {i k b:Nat} (h:ACl w i k b) (ok:Ok w):Pj w (put w k (Y9 (b:Int))) k (Jm w b) (X1 w b+1):=AAg ok.right h.hk h.hb h.wi
theorem ACl.ok {w:den Za} {i k b:Nat} (h:ACl w i k b) (ok:Ok w):Ok (put w k (Y9 (b:Int))):=by
  refine ok.put2 h.hk (.inr (.inr ⟨rfl,⟨Int.natCast_nonneg b,?_⟩,?_⟩)) h.room (fun j hj => ?_)
  · show (b:Int)<_
    rw [← ok.right.w1]; exact Int.ofNat_lt.2 h.hb
  · show List.getD (w.1.2.2.2.2.1:List Bool) (Int.toNat (b:Int)) false=true
    rw [Int.toNat_natCast]; exact h.box
  · obtain ⟨p,hp⟩:=BJg ok h.hk h.hb h.wi hj
    refine ⟨p,_,hp,?_⟩
    have:¬ 4<dOf w k b j:=fun h4=>h.deep ((ALe ok h.hk h.hb h.wi).1 ⟨j,hj,h4⟩)
    omega
theorem Dj.moved {w:den Za} {i k b:Nat} (h:Dj w i k b) (ok:Ok w):Pj w (put w k (Ya i)) k (Ya i) 0:=AI3 ok.right h.hk (show ¬ (1:Int)=2 by decide)
theorem Dj.ok {w:den Za} {i k b:Nat} (h:Dj w i k b) (ok:Ok w) (hi:i<List.length (w.2.1:List Int)):Ok (put w k (Ya i)):=by
  have m:=h.moved ok
  refine ok.put2 h.hk (.inr (.inl ⟨rfl,Int.natCast_nonneg i,?_⟩)) h.room (fun j hj => ?_)
  · show (i:Int)<_
    rw [← ok.right.a1]; exact Int.ofNat_lt.2 hi
  · have:=(D7 ok.right hj).2
    by_cases hw:WiW w j k
    · exact ⟨_,_,(m.inn j hj hw).1,by omega⟩
    · exact ⟨_,_,m.out j hj hw,this⟩
theorem Ey {w:den Za} {i:Nat} {k b:Int} (h:¬ takeErr w i k b=0):takeR w i k b=(w,takeErr w i k b,()):=if_neg h
theorem C9 {w:den Za} {i:Nat} {k b:Int} (h:¬ putErr w i k b=0):putR w i k b=(w,putErr w i k b,()):=if_neg h
theorem AGm {w:den Za} {i k:Nat} {b:Int} (h:takeErr w i k b=0):takeR w i k b=(put w k (Ya i),0,()):=if_pos h
theorem AI8 {w:den Za} {i k:Nat} {b:Int} (h:putErr w i k b=0):putR w i k b=(put w k (Y9 b),0,()):=if_pos h
end Go.Proofs.YtpemapoblhleoaaGreatDoor.Ghost
