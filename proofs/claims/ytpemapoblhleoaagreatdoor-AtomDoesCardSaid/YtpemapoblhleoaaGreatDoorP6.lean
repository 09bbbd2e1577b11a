/- What functions come to, and that the statements are answered with 'true'. Conditions: none. -/
import Derived.Test.YtpemapoblhleoaaGreatDoorS
import Derived.Test.YtpemapoblhleoaaGreatDoorGE
import Derived.Test.YtpemapoblhleoaaGreatDoorP1
import Derived.Test.YtpemapoblhleoaaGreatDoorP2
import Derived.Test.YtpemapoblhleoaaGreatDoorP3
import Derived.Test.YtpemapoblhleoaaGreatDoorP4
import Derived.Test.YtpemapoblhleoaaGreatDoorP5
set_option linter.unusedVariables false
set_option linter.unusedSimpArgs false
set_option linter.unusedSectionVars false
set_option linter.unnecessarySimpa false
namespace Go.Proofs.YtpemapoblhleoaaGreatDoor.Ghost
open Go
abbrev L0 (w:den Za) (b:Nat):Bool:=List.getD (w.1.2.2.2.2.1:List Bool) b false
def T7 (w:den Za) (i j:Nat):Prop:=Q7 w j=BSn (G1 w i)∨Q7 w j=Xt i
def inR (w:den Za) (k:Int):Prop:=0≤k∧k<(List.length (w.2.2.2.1:List (den Zb)):Int)
open Classical in
noncomputable def putErr (w:den Za) (i:Nat) (k b:Int):Int:=if inR w k∧inR w b then
  (if Qr w k.toNat=Xt i∧T7 w i b.toNat then
    (if L0 w b.toNat=true then
      (if WiW w b.toNat k.toNat then 7 else if 4<Yd w b.toNat+1+Ro w k.toNat then 8 else if Yb w (Ye b)<1 then 9 else 0)
    else 6)
  else 5) else 3
open Classical in
noncomputable def takeErr (w:den Za) (i:Nat) (k b:Int):Int:=if inR w k∧inR w b then
  (if T7 w i b.toNat then
    (if L0 w b.toNat=true then
      (if Qr w k.toNat=Ye b then (if Yb w (Xt i)<1 then 9 else 0) else 5)
    else 6)
  else 5) else 3
open Classical in
noncomputable def putR (w:den Za) (i:Nat) (k b:Int):den Za×Int×Unit:=if putErr w i k b=0 then (put w k.toNat (Ye b),0,()) else (w,putErr w i k b,())
open Classical in
noncomputable def takeR (w:den Za) (i:Nat) (k b:Int):den Za×Int×Unit:=if takeErr w i k b=0 then (put w k.toNat (Xt i),0,()) else (w,takeErr w i k b,())
theorem Iy (b:Int):(0:Int)≤(Ye b).1∧((Ye b).1:Int)<3:=⟨by show (0:Int)≤2; decide,by show (2:Int)<3; decide⟩
theorem V0 (i:Nat):(0:Int)≤(Xt i).1∧((Xt i).1:Int)<3:=⟨by show (0:Int)≤1; decide,by show (1:Int)<3; decide⟩
theorem Y9 (w:den Za) (k:Int):Zd (fun nf _ _ _=>Js nf (w) (k)) (fun r=>r=((dec (¬ inR w k),()),[])):=by
  refine Zd.succ (fun nf _ _ _=>Js.eq nf _ _) ?_
  by_cases h:k<0 <;> by_cases h2:(List.length (w.2.2.2.1:List (den Zb)):Int)≤k <;> simp [h,h2,inR] <;> omega
theorem M4 (w:den Za) (ok:Ok w) {i j:Nat} (hi:i<List.length (w.2.1:List Int)) (hj:j<List.length (w.2.2.2.1:List (den Zb))):Zd (fun nf _ _ _=>Vp nf (w) ((i:Int)) ((j:Int))) (fun r=>r=((dec (T7 w i j),()),[])):=by
  refine Zd.succ (fun nf _ _ _=>Vp.eq nf _ _ _) ?_
  simp [-List.getD_eq_getElem?_getD,-List.length_eq_zero_iff,Zn,Zj,Zv,Zk,Xb,Xc,Xr,Zf (Pr w ok.right hj),(Pr w ok.right hj).prop,hi]
  exact ⟨.inl,fun h=>⟨.inr,fun h'=>h'.resolve_left h⟩⟩
theorem ACv {w:den Za} (ok:Ok w) {i k b:Nat} (hi:i<List.length (w.2.1:List Int)) (hk:k<List.length (w.2.2.2.1:List (den Zb))) (hb:b<List.length (w.2.2.2.1:List (den Zb))) :
    Zd (fun nf _ _ _=>Qu nf (w) ((k:Int)) ((b:Int)) (3) (w) ((k:Int)) (Xt i) ((i:Int)) ((b:Int)) (5) (w) ((b:Int)) (6) (w) ((b:Int)) ((k:Int)) (7) (w) ((b:Int)) ((k:Int)) (8) (w) (Ye (b:Int)) (9)) (fun r=>r=((putErr w i k b,()),[])):=by
  have hbx:b<List.length (w.1.2.2.2.2.1:List Bool):=by rw [ok.right.may.b1,← ok.right.w1]; exact hb
  have hd:=(Ig ok.right hb).2
  have hh:=ASe ok.right hk
  have s1:Zd (fun nf _ _ _=>Qn nf (w) ((k:Int)) ((b:Int))) (fun r=>r=((false,()),[])):=by
    refine Zd.succ (fun nf _ _ _=>Qn.eq nf _ _ _) ?_
    simp [-List.getD_eq_getElem?_getD,-List.length_eq_zero_iff,Zn,Zj,Zv,Zk,Xb,Xc,Xr,Zf (Y9 w (k:Int)),(Y9 w (k:Int)).prop,Zf (Y9 w (b:Int)),(Y9 w (b:Int)).prop,inR,hk,hb]
  have s2:Zd (fun nf _ _ _=>Vd nf (w) ((k:Int)) (Xt i) ((i:Int)) ((b:Int))) (fun r=>r=((dec (¬ (Qr w k=Xt i∧T7 w i b)),()),[])):=by
    refine Zd.succ (fun nf _ _ _=>Vd.eq nf _ _ _ _ _) ?_
    simp [-List.getD_eq_getElem?_getD,-List.length_eq_zero_iff,Zn,Zj,Zv,Zk,Xb,Xc,Xr,hk,Zf (M4 w ok hi hb),(M4 w ok hi hb).prop]
    by_cases c1:Qr w k=Xt i <;> by_cases c2:T7 w i b <;> simp [-List.getD_eq_getElem?_getD,-List.length_eq_zero_iff,Zn,Zj,Zv,Zk,Xb,Xc,Xr,c1,c2]
  have s3:Zd (fun nf _ _ _=>Vf nf (w) ((b:Int))) (fun r=>r=((!L0 w b,()),[])):=by
    refine Zd.succ (fun nf _ _ _=>Vf.eq nf _ _) ?_
    simp [-List.getD_eq_getElem?_getD,-List.length_eq_zero_iff,Zn,Zj,Zv,Zk,Xb,Xc,Xr,hbx]
  have s4:Zd (fun nf _ _ _=>J9 nf (w) ((b:Int)) ((k:Int))) (fun r=>r=((dec (WiW w b k),()),[])):=by
    refine Zd.succ (fun nf _ _ _=>J9.eq nf _ _ _) ?_
    simp [-List.getD_eq_getElem?_getD,-List.length_eq_zero_iff,Zn,Zj,Zv,Zk,Xb,Xc,Xr,Zf (Rc w ok.right hb k),(Rc w ok.right hb k).bprop]
  have s5:Zd (fun nf _ _ _=>Vb nf (w) ((b:Int)) ((k:Int))) (fun r=>r=((decide (4<Yd w b+1+Ro w k),()),[])):=by
    refine Zd.succ (fun nf _ _ _=>Vb.eq nf _ _ _) ?_
    simp [-List.getD_eq_getElem?_getD,-List.length_eq_zero_iff,Zn,Zj,Zv,Zk,Xb,Xc,Xr,Zf (Uz w ok.right hb),(Uz w ok.right hb).prop,Zf (Nd w ok hk),(Nd w ok hk).prop]
    rw [Vy (n:=(Yd w b:Int)+1) (by omega) (by omega),Vy (by omega) (by omega)]
    omega
  have s6:Zd (fun nf _ _ _=>Va nf (w) (Ye (b:Int))) (fun r=>r=((decide (Yb w (Ye b)<1),()),[])):=by
    refine Zd.succ (fun nf _ _ _=>Va.eq nf _ _) ?_
    simp [-List.getD_eq_getElem?_getD,-List.length_eq_zero_iff,Zn,Zj,Zv,Zk,Xb,Xc,Xr,Zf (Q9 w ok (Ye (b:Int)) (Iy b)),(Q9 w ok (Ye (b:Int)) (Iy b)).prop]
  refine Zd.add 14 (fun nf _ _ _=>Qu.eq nf _ _ _ _ _ _ _ _ _ _ _ _ _ _ _ _ _ _ _ _ _ _ _ _) ?_
  simp [-List.getD_eq_getElem?_getD,-List.length_eq_zero_iff,Zn,Zj,Zv,Zk,Xb,Xc,Xr,Zf (s1.shift 13),(s1.shift 13).prop,Zf (s2.shift 13),(s2.shift 13).prop,Zf (s3.shift 13),(s3.shift 13).prop,Zf (s4.shift 13),(s4.shift 13).prop,Zf (s5.shift 13),(s5.shift 13).prop,Zf (s6.shift 13),(s6.shift 13).prop,putErr,inR,hk,hb]
  by_cases c1:Qr w k=Xt i <;> by_cases c2:T7 w i b <;> by_cases c3:L0 w b=true <;> by_cases c4:WiW w b k <;> by_cases c5:4<Yd w b+1+Ro w k <;> by_cases c6:Yb w (Ye b)<1 <;> simp [-List.getD_eq_getElem?_getD,-List.length_eq_zero_iff,Zn,Zj,Zv,Zk,Xb,Xc,Xr,c1,c2,c3,c4,c5,c6]
theorem Ki {w:den Za} {k:Int} (h:inR w k):∃ n:Nat,k=(n:Int)∧n<List.length (w.2.2.2.1:List (den Zb)):=⟨k.toNat,by have:=h.1; omega,by have:=h.1; have:=h.2; omega⟩
theorem AB2 {w:den Za} (ok:Ok w) {i:Nat} (hi:i<List.length (w.2.1:List Int)) (k b:Int):Zd (fun nf _ _ _=>Qu nf (w) (k) (b) (3) (w) (k) (Xt i) ((i:Int)) (b) (5) (w) (b) (6) (w) (b) (k) (7) (w) (b) (k) (8) (w) (Ye b) (9)) (fun r=>r=((putErr w i k b,()),[])):=by
  by_cases hk:inR w k
  · by_cases hb:inR w b
    · obtain ⟨k,rfl,hkn⟩:=Ki hk
      obtain ⟨b,rfl,hbn⟩:=Ki hb
      exact ACv ok hi hkn hbn
    · refine Zd.add 14 (fun nf _ _ _=>Qu.eq nf _ _ _ _ _ _ _ _ _ _ _ _ _ _ _ _ _ _ _ _ _ _ _ _) ?_
      have s1:Zd (fun nf _ _ _=>Qn nf (w) (k) (b)) (fun r=>r=((true,()),[])):=by
        refine Zd.succ (fun nf _ _ _=>Qn.eq nf _ _ _) ?_
        simp [-List.getD_eq_getElem?_getD,-List.length_eq_zero_iff,Zn,Zj,Zv,Zk,Xb,Xc,Xr,Zf (Y9 w k),(Y9 w k).prop,Zf (Y9 w b),(Y9 w b).prop,hk,hb]
      simp [-List.getD_eq_getElem?_getD,-List.length_eq_zero_iff,Zn,Zj,Zv,Zk,Xb,Xc,Xr,Zf (s1.shift 13),(s1.shift 13).prop,putErr,hk,hb]
  · refine Zd.add 14 (fun nf _ _ _=>Qu.eq nf _ _ _ _ _ _ _ _ _ _ _ _ _ _ _ _ _ _ _ _ _ _ _ _) ?_
    have s1:Zd (fun nf _ _ _=>Qn nf (w) (k) (b)) (fun r=>r=((true,()),[])):=by
      refine Zd.succ (fun nf _ _ _=>Qn.eq nf _ _ _) ?_
      simp [-List.getD_eq_getElem?_getD,-List.length_eq_zero_iff,Zn,Zj,Zv,Zk,Xb,Xc,Xr,Zf (Y9 w k),(Y9 w k).prop,Zf (Y9 w b),(Y9 w b).prop,hk]
    simp [-List.getD_eq_getElem?_getD,-List.length_eq_zero_iff,Zn,Zj,Zv,Zk,Xb,Xc,Xr,Zf (s1.shift 13),(s1.shift 13).prop,putErr,hk]
theorem AAw {w:den Za} (ok:Ok w) {i k b:Nat} (hi:i<List.length (w.2.1:List Int)) (hk:k<List.length (w.2.2.2.1:List (den Zb))) (hb:b<List.length (w.2.2.2.1:List (den Zb))) :
    Zd (fun nf _ _ _=>Q8 nf (w) ((k:Int)) ((b:Int)) (3) (w) ((i:Int)) ((b:Int)) (5) (w) ((b:Int)) (6) (w) ((k:Int)) (Ye (b:Int)) (5) (w) (Xt i) (9)) (fun r=>r=((takeErr w i k b,()),[])):=by
  have hbx:b<List.length (w.1.2.2.2.2.1:List Bool):=by rw [ok.right.may.b1,← ok.right.w1]; exact hb
  have s1:Zd (fun nf _ _ _=>Qb nf (w) ((k:Int)) ((b:Int))) (fun r=>r=((false,()),[])):=by
    refine Zd.succ (fun nf _ _ _=>Qb.eq nf _ _ _) ?_
    simp [-List.getD_eq_getElem?_getD,-List.length_eq_zero_iff,Zn,Zj,Zv,Zk,Xb,Xc,Xr,Zf (Y9 w (k:Int)),(Y9 w (k:Int)).prop,Zf (Y9 w (b:Int)),(Y9 w (b:Int)).prop,inR,hk,hb]
  have s2:Zd (fun nf _ _ _=>Jr nf (w) ((i:Int)) ((b:Int))) (fun r=>r=((dec (¬ T7 w i b),()),[])):=by
    refine Zd.succ (fun nf _ _ _=>Jr.eq nf _ _ _) ?_
    simp [-List.getD_eq_getElem?_getD,-List.length_eq_zero_iff,Zn,Zj,Zv,Zk,Xb,Xc,Xr,Zf (M4 w ok hi hb),(M4 w ok hi hb).prop]
  have s3:Zd (fun nf _ _ _=>Jf nf (w) ((b:Int))) (fun r=>r=((!L0 w b,()),[])):=by
    refine Zd.succ (fun nf _ _ _=>Jf.eq nf _ _) ?_
    simp [-List.getD_eq_getElem?_getD,-List.length_eq_zero_iff,Zn,Zj,Zv,Zk,Xb,Xc,Xr,hbx]
  have s4:Zd (fun nf _ _ _=>Jj nf (w) ((k:Int)) (Ye (b:Int))) (fun r=>r=((dec (¬ Qr w k=Ye (b:Int)),()),[])):=by
    refine Zd.succ (fun nf _ _ _=>Jj.eq nf _ _ _) ?_
    simp [-List.getD_eq_getElem?_getD,-List.length_eq_zero_iff,Zn,Zj,Zv,Zk,Xb,Xc,Xr,hk]
  have s5:Zd (fun nf _ _ _=>Jh nf (w) (Xt i)) (fun r=>r=((decide (Yb w (Xt i)<1),()),[])):=by
    refine Zd.succ (fun nf _ _ _=>Jh.eq nf _ _) ?_
    simp [-List.getD_eq_getElem?_getD,-List.length_eq_zero_iff,Zn,Zj,Zv,Zk,Xb,Xc,Xr,Zf (Q9 w ok (Xt i) (V0 i)),(Q9 w ok (Xt i) (V0 i)).prop]
  refine Zd.add 14 (fun nf _ _ _=>Q8.eq nf _ _ _ _ _ _ _ _ _ _ _ _ _ _ _ _ _ _) ?_
  simp [-List.getD_eq_getElem?_getD,-List.length_eq_zero_iff,Zn,Zj,Zv,Zk,Xb,Xc,Xr,Zf (s1.shift 13),(s1.shift 13).prop,Zf (s2.shift 13),(s2.shift 13).prop,Zf (s3.shift 13),(s3.shift 13).prop,Zf (s4.shift 13),(s4.shift 13).prop,Zf (s5.shift 13),(s5.shift 13).prop,takeErr,inR,hk,hb]
  by_cases c1:T7 w i b <;> by_cases c2:L0 w b=true <;> by_cases c3:Qr w k=Ye (b:Int) <;> by_cases c4:Yb w (Xt i)<1 <;> simp [-List.getD_eq_getElem?_getD,-List.length_eq_zero_iff,Zn,Zj,Zv,Zk,Xb,Xc,Xr,c1,c2,c3,c4]
theorem B8 {w:den Za} (ok:Ok w) {i:Nat} (hi:i<List.length (w.2.1:List Int)) (k b:Int):Zd (fun nf _ _ _=>Q8 nf (w) (k) (b) (3) (w) ((i:Int)) (b) (5) (w) (b) (6) (w) (k) (Ye b) (5) (w) (Xt i) (9)) (fun r=>r=((takeErr w i k b,()),[])):=by
  by_cases hk:inR w k
  · by_cases hb:inR w b
    · obtain ⟨k,rfl,hkn⟩:=Ki hk
      obtain ⟨b,rfl,hbn⟩:=Ki hb
      exact AAw ok hi hkn hbn
    · refine Zd.add 14 (fun nf _ _ _=>Q8.eq nf _ _ _ _ _ _ _ _ _ _ _ _ _ _ _ _ _ _) ?_
      have s1:Zd (fun nf _ _ _=>Qb nf (w) (k) (b)) (fun r=>r=((true,()),[])):=by
        refine Zd.succ (fun nf _ _ _=>Qb.eq nf _ _ _) ?_
        simp [-List.getD_eq_getElem?_getD,-List.length_eq_zero_iff,Zn,Zj,Zv,Zk,Xb,Xc,Xr,Zf (Y9 w k),(Y9 w k).prop,Zf (Y9 w b),(Y9 w b).prop,hk,hb]
      simp [-List.getD_eq_getElem?_getD,-List.length_eq_zero_iff,Zn,Zj,Zv,Zk,Xb,Xc,Xr,Zf (s1.shift 13),(s1.shift 13).prop,takeErr,hk,hb]
  · refine Zd.add 14 (fun nf _ _ _=>Q8.eq nf _ _ _ _ _ _ _ _ _ _ _ _ _ _ _ _ _ _) ?_
    have s1:Zd (fun nf _ _ _=>Qb nf (w) (k) (b)) (fun r=>r=((true,()),[])):=by
      refine Zd.succ (fun nf _ _ _=>Qb.eq nf _ _ _) ?_
      simp [-List.getD_eq_getElem?_getD,-List.length_eq_zero_iff,Zn,Zj,Zv,Zk,Xb,Xc,Xr,Zf (Y9 w k),(Y9 w k).prop,Zf (Y9 w b),(Y9 w b).prop,hk]
    simp [-List.getD_eq_getElem?_getD,-List.length_eq_zero_iff,Zn,Zj,Zv,Zk,Xb,Xc,Xr,Zf (s1.shift 13),(s1.shift 13).prop,takeErr,hk]
theorem ABl {w:den Za} {i:Nat} {k b:Int} (h:¬ putErr w i k b=3):inR w k∧inR w b:=by
  by_cases hn:inR w k∧inR w b
  · exact hn
  · exact absurd (by unfold putErr; rw [if_neg hn]) h
theorem Bx {w:den Za} {i:Nat} {k b:Int} (h:¬ takeErr w i k b=3):inR w k∧inR w b:=by
  by_cases hn:inR w k∧inR w b
  · exact hn
  · exact absurd (by unfold takeErr; rw [if_neg hn]) h
theorem ALo {w:den Za} (ok:Ok w) {i:Nat} (hi:i<List.length (w.2.1:List Int)) (k b:Int):Zd (fun nf _ _ _=>K0 nf (w) ((i:Int)) (k) (b)) (fun r=>r=(putR w i k b,[])):=by
  refine Zd.succ (fun nf _ _ _=>K0.eq nf _ _ _ _) ?_
  simp [-List.getD_eq_getElem?_getD,-List.length_eq_zero_iff,Zn,Zj,Zv,Zk,Xb,Xc,Xr,Zf (AB2 ok hi k b),(AB2 ok hi k b).prop]
  by_cases h:putErr w i k b=0
  · obtain ⟨hk,hb⟩:=ABl (show ¬ putErr w i k b=3 by rw [h]; decide)
    obtain ⟨k,rfl,hkn⟩:=Ki hk
    simp [-List.getD_eq_getElem?_getD,-List.length_eq_zero_iff,Zn,Zj,Zv,Zk,Xb,Xc,Xr,h,Zf (Ol w ok.sm hkn (Ye b)),(Ol w ok.sm hkn (Ye b)).prop,putR]
  · simp [-List.getD_eq_getElem?_getD,-List.length_eq_zero_iff,Zn,Zj,Zv,Zk,Xb,Xc,Xr,h,putR]
theorem AKr {w:den Za} (ok:Ok w) {i:Nat} (hi:i<List.length (w.2.1:List Int)) (k b:Int):Zd (fun nf _ _ _=>Ka nf (w) ((i:Int)) (k) (b)) (fun r=>r=(takeR w i k b,[])):=by
  refine Zd.succ (fun nf _ _ _=>Ka.eq nf _ _ _ _) ?_
  simp [-List.getD_eq_getElem?_getD,-List.length_eq_zero_iff,Zn,Zj,Zv,Zk,Xb,Xc,Xr,Zf (B8 ok hi k b),(B8 ok hi k b).prop]
  by_cases h:takeErr w i k b=0
  · obtain ⟨hk,hb⟩:=Bx (show ¬ takeErr w i k b=3 by rw [h]; decide)
    obtain ⟨k,rfl,hkn⟩:=Ki hk
    simp [-List.getD_eq_getElem?_getD,-List.length_eq_zero_iff,Zn,Zj,Zv,Zk,Xb,Xc,Xr,h,Zf (Ol w ok.sm hkn (Xt i)),(Ol w ok.sm hkn (Xt i)).prop,takeR]
  · simp [-List.getD_eq_getElem?_getD,-List.length_eq_zero_iff,Zn,Zj,Zv,Zk,Xb,Xc,Xr,h,takeR]
end Go.Proofs.YtpemapoblhleoaaGreatDoor.Ghost
namespace Go.Proofs.YtpemapoblhleoaaGreatDoor.Ghost
open Go
theorem AFt (w:den Za) (j:Nat) (a b:Int):Q7 w j=(a,b,())↔(Q7 w j).1=a∧(Q7 w j).2.1=b :=
  ⟨fun h=>by rw [h]; exact ⟨rfl,rfl⟩,fun h=>Prod.ext h.1 (Prod.ext h.2 rfl)⟩
theorem Y8 (w:den Za) (k:Int):Zd (fun nf _ _ _=>Yj nf (w) (k)) (fun r=>r=((dec (inR w k),()),[])):=by
  refine Zd.succ (fun nf _ _ _=>Yj.eq nf _ _) ?_
  by_cases h:0≤k <;> simp [h,inR,Hh]
theorem Tp (w:den Za) (ok:Ok w) {i j:Nat} (hi:i<List.length (w.2.1:List Int)) (hj:j<List.length (w.2.2.2.1:List (den Zb))):Zd (fun nf _ _ _=>Yh nf (w) ((i:Int)) ((j:Int))) (fun r=>r=((dec (T7 w i j),()),[])):=by
  refine Zd.succ (fun nf _ _ _=>Yh.eq nf _ _ _) ?_
  have hn:T7 w i j↔(((Q7 w j).1:Int)=0∧((Q7 w j).2.1:Int)=G1 w i)∨(((Q7 w j).1:Int)=1∧((Q7 w j).2.1:Int)=i):=by
    unfold T7; rw [AFt,AFt]
  simp [-List.getD_eq_getElem?_getD,-List.length_eq_zero_iff,Zn,Zj,Zv,Zk,Xb,Xc,Xr,Zf (Tn w ok.right 51 j hj (ok.right.ends hj)),(Tn w ok.right 51 j hj (ok.right.ends hj)).prop,hi,hn,Hh]
  by_cases c1:((Q7 w j).1:Int)=0 <;> by_cases c2:((Q7 w j).2.1:Int)=G1 w i <;> by_cases c3:((Q7 w j).1:Int)=1 <;> simp [-List.getD_eq_getElem?_getD,-List.length_eq_zero_iff,Zn,Zj,Zv,Zk,Xb,Xc,Xr,c1,c2,c3]
section
variable {w:den Za} (ok:Ok w) {k b:Nat} (hk:k<List.length (w.2.2.2.1:List (den Zb))) (hb:b<List.length (w.2.2.2.1:List (den Zb))) (hn:¬ WiW w b k)
open Classical in
noncomputable def dOf (w:den Za) (k b j:Nat):Nat:=if WiW w j k then Yd w b+1+(Yd w j - Yd w k) else Yd w j
include ok hk hb hn
theorem AN8 {j:Nat} (hj:j<List.length (w.2.2.2.1:List (den Zb))):∃ p,Rl (put w k (Ye (b:Int))).2.2.2.1 j p (dOf w k b j):=by
  have m:=ABn ok.right hk hb hn
  unfold dOf
  by_cases hw:WiW w j k
  · rw [if_pos hw]; exact ⟨_,(m.inn j hj hw).1⟩
  · rw [if_neg hw]; exact ⟨_,m.out j hj hw⟩
theorem CKd {j:Nat} (hj:j<List.length (w.2.2.2.1:List (den Zb))):dOf w k b j≤9:=by
  have h1:=(Ig ok.right hj).2
  have h2:=(Ig ok.right hb).2
  unfold dOf
  split <;> omega
theorem AMw {j:Nat} (hj:j<List.length (w.2.2.2.1:List (den Zb))):depI (put w k (Ye (b:Int))).2.2.2.1 51 0 (Qr (put w k (Ye (b:Int))) j)=dOf w k b j:=by
  obtain ⟨p,h⟩:=AN8 ok hk hb hn hj
  have:=CKd ok hk hb hn hj
  have:=h.depI 51 0 (by omega) (by omega)
  rw [Nat.zero_add] at this
  exact this
theorem B3:(∃ j,j<List.length (w.2.2.2.1:List (den Zb))∧4<dOf w k b j)↔4<Yd w b+1+Ro w k:=by
  constructor
  · rintro ⟨j,hj,hd⟩
    unfold dOf at hd
    split at hd
    · rename_i hw
      have:Yd w j - Yd w k≤Ro w k:=AIp (w:=w) (i:=k) hj hw
      omega
    · have:=(Ig ok.right hj).2
      omega
  · intro h
    rcases C2 (w:=w) (i:=k) (List.length (w.2.2.2.1:List (den Zb))) with h0 | ⟨j,j1,j2,j3⟩
    · have h0:Ro w k=0:=h0
      refine ⟨k,hk,?_⟩
      unfold dOf
      rw [if_pos (.refl k)]; omega
    · have j3:Yd w j - Yd w k=Ro w k:=j3
      refine ⟨j,j1,?_⟩
      unfold dOf
      rw [if_pos j2]; omega
theorem ACp:∀ i,i<List.length ((put w k (Ye (b:Int))).2.2.2.1:List (den Zb))→inPl (put w k (Ye (b:Int))).2.2.2.1 (List.getD ((put w k (Ye (b:Int))).2.2.2.1:List (den Zb)) i (dft Zb)):=fun i hi h2=>by
  rw [Gf] at hi ⊢
  rw [ADk w k i _ hk] at h2 ⊢
  split
  · exact ⟨Int.natCast_nonneg b,Int.ofNat_lt.2 hb⟩
  · rename_i hne
    rw [if_neg hne] at h2
    exact ok.right.inPl i hi h2
theorem AKn (t0:(den Za)) (t1:Int) (t2:Int) (t9:Int) (o1:(den Za)) (hd:¬ 4<Yd w b+1+Ro w k) :
    ∀ i,i≤List.length (w.2.2.2.1:List (den Zb))→Zd (fun nf fm0 _ _=>Xa.l0 nf fm0 t0 t1 t2 ((b:Int)) t9 ((i:Int)) (w) o1 (put w k (Ye (b:Int)))) (fun r=>r.1=if Yb w (Ye b)<1 then (w,9,()) else (put w k (Ye (b:Int)),0,())):=by
  have hlen:=ok.sm.wh
  have hr:=ok.right.room (Ye b)
  refine upto ?_ (fun i hi next => ?_)
  · refine Zd.succ1 (fun nf fm0 _ _=>Xa.l0_eq nf fm0 _ _ _ _ _ _ _ _ _) ?_
    simp [-List.getD_eq_getElem?_getD,-List.length_eq_zero_iff,Zn,Zj,Zv,Zk,Xb,Xc,Xr,Gf w k (Ye (b:Int)),Zf (Ha w ok (Ye (b:Int)) (Iy b)),(Ha w ok (Ye (b:Int)) (Iy b)).prop]
    by_cases h:Yb w (Ye b)=0
    · simp [h]
    · simp [h,show ¬ Yb w (Ye b)<1 by omega]
      omega
  · rw [← Xm (by omega)] at next
    have hdi:=AMw ok hk hb hn hi
    have hle:¬ (4:Int)<(dOf w k b i:Int):=fun h=>hd ((B3 ok hk hb hn).1 ⟨i,hi,by omega⟩)
    have sp:=Il (put w k (Ye (b:Int))) (ACp ok hk hb hn) (Qr (put w k (Ye (b:Int))) i) (ACp ok hk hb hn i (by rw [Gf]; exact hi))
    rw [hdi] at sp
    refine Zd.succ1 (fun nf fm0 _ _=>Xa.l0_eq nf fm0 _ _ _ _ _ _ _ _ _) ?_
    simp [-List.getD_eq_getElem?_getD,-List.length_eq_zero_iff,Zn,Zj,Zv,Zk,Xb,Xc,Xr,Gf w k (Ye (b:Int)),hi,Zf (sp),(sp).prop,hle,next]
theorem AHo (t0:(den Za)) (t1:Int) (t2:Int) (t9:Int) (o1:(den Za)) :
    ∀ i,i≤List.length (w.2.2.2.1:List (den Zb))→(∃ j,i≤j∧j<List.length (w.2.2.2.1:List (den Zb))∧4<dOf w k b j)→Zd (fun nf fm0 _ _=>Xa.l0 nf fm0 t0 t1 t2 ((b:Int)) t9 ((i:Int)) (w) o1 (put w k (Ye (b:Int)))) (fun r=>r.1=(w,8,())):=by
  have hlen:=ok.sm.wh
  refine upto (fun h => ?_) (fun i hi next h => ?_)
  · obtain ⟨j,h1,h2,_⟩:=h; omega
  · have hdi:=AMw ok hk hb hn hi
    have sp:=Il (put w k (Ye (b:Int))) (ACp ok hk hb hn) (Qr (put w k (Ye (b:Int))) i) (ACp ok hk hb hn i (by rw [Gf]; exact hi))
    rw [hdi] at sp
    refine Zd.succ1 (fun nf fm0 _ _=>Xa.l0_eq nf fm0 _ _ _ _ _ _ _ _ _) ?_
    by_cases h4:4<dOf w k b i
    · simp [-List.getD_eq_getElem?_getD,-List.length_eq_zero_iff,Zn,Zj,Zv,Zk,Xb,Xc,Xr,Gf w k (Ye (b:Int)),hi,Zf (sp),(sp).prop]
      omega
    · have next:=next (by
        obtain ⟨j,h1,h2,h3⟩:=h
        by_cases e:j=i
        · subst e; exact absurd h3 h4
        · exact ⟨j,by omega,h2,h3⟩)
      rw [← Xm (by omega)] at next
      simp [-List.getD_eq_getElem?_getD,-List.length_eq_zero_iff,Zn,Zj,Zv,Zk,Xb,Xc,Xr,Gf w k (Ye (b:Int)),hi,Zf (sp),(sp).prop,next,show ¬ (4:Int)<(dOf w k b i:Int) by omega]
end
theorem Cb {w:den Za} (ok:Ok w) {i:Nat} (hi:i<List.length (w.2.1:List Int)) (k b:Int):Zd (fun nf _ _ _=>Xa nf (w) ((i:Int)) (k) (b)) (fun r=>r.1=putR w i k b):=by
  refine Zd.succ (fun nf _ _ _=>Xa.eq nf _ _ _ _) ?_
  by_cases hk:inR w k
  · by_cases hb:inR w b
    · obtain ⟨k,rfl,hkn⟩:=Ki hk
      obtain ⟨b,rfl,hbn⟩:=Ki hb
      have hbx:b<List.length (w.1.2.2.2.2.1:List Bool):=by rw [ok.right.may.b1,← ok.right.w1]; exact hbn
      simp [-List.getD_eq_getElem?_getD,-List.length_eq_zero_iff,Zn,Zj,Zv,Zk,Xb,Xc,Xr,Zf (Y8 w (k:Int)),(Y8 w (k:Int)).prop,Zf (Y8 w (b:Int)),(Y8 w (b:Int)).prop,hk,hb,hkn,hbx,Zf (Tp w ok hi hbn),(Tp w ok hi hbn).prop,Zf (Ly w ok.right hbn k),(Ly w ok.right hbn k).bprop,putR,putErr]
      by_cases c1:Qr w k=Xt i <;> by_cases c2:T7 w i b <;> by_cases c3:L0 w b=true <;> by_cases c4:WiW w b k <;> simp [-List.getD_eq_getElem?_getD,-List.length_eq_zero_iff,Zn,Zj,Zv,Zk,Xb,Xc,Xr,c1,c2,c3,c4]
      simp [-List.getD_eq_getElem?_getD,-List.length_eq_zero_iff,Zn,Zj,Zv,Zk,Xb,Xc,Xr,Zf (Gl w ok.sm hkn (Ye b)),(Gl w ok.sm hkn (Ye b)).prop]
      by_cases c5:4<Yd w b+1+Ro w k
      · obtain ⟨j,h1,h2⟩:=(B3 ok hkn hbn c4).2 c5
        have h:=fun t0 t1 t2 t9 o1=>(AHo ok hkn hbn c4 t0 t1 t2 t9 o1 0 (Nat.zero_le _) ⟨j,Nat.zero_le _,h1,h2⟩).enter
        simp [-List.getD_eq_getElem?_getD,-List.length_eq_zero_iff,Zn,Zj,Zv,Zk,Xb,Xc,Xr,c5]
        exact h _ _ _ _ _
      · have h:=fun t0 t1 t2 t9 o1=>(AKn ok hkn hbn c4 t0 t1 t2 t9 o1 c5 0 (Nat.zero_le _)).enter
        by_cases c6:Yb w (Ye b)<1
        · simp only [if_pos c6] at h
          simp [-List.getD_eq_getElem?_getD,-List.length_eq_zero_iff,Zn,Zj,Zv,Zk,Xb,Xc,Xr,c5,c6]
          exact h _ _ _ _ _
        · simp only [if_neg c6] at h
          simp [-List.getD_eq_getElem?_getD,-List.length_eq_zero_iff,Zn,Zj,Zv,Zk,Xb,Xc,Xr,c5,c6]
          exact h _ _ _ _ _
    · simp [-List.getD_eq_getElem?_getD,-List.length_eq_zero_iff,Zn,Zj,Zv,Zk,Xb,Xc,Xr,Zf (Y8 w k),(Y8 w k).prop,Zf (Y8 w b),(Y8 w b).prop,hk,hb,putR,putErr]
  · simp [-List.getD_eq_getElem?_getD,-List.length_eq_zero_iff,Zn,Zj,Zv,Zk,Xb,Xc,Xr,Zf (Y8 w k),(Y8 w k).prop,Zf (Y8 w b),(Y8 w b).prop,hk,putR,putErr]
theorem Fk {w:den Za} (ok:Ok w) {i:Nat} (hi:i<List.length (w.2.1:List Int)) (k b:Int):Zd (fun nf _ _ _=>Yx nf (w) ((i:Int)) (k) (b)) (fun r=>r.1=takeR w i k b):=by
  have hr:=ok.right.room (Xt i)
  refine Zd.succ (fun nf _ _ _=>Yx.eq nf _ _ _ _) ?_
  by_cases hk:inR w k
  · by_cases hb:inR w b
    · obtain ⟨k,rfl,hkn⟩:=Ki hk
      obtain ⟨b,rfl,hbn⟩:=Ki hb
      have hbx:b<List.length (w.1.2.2.2.2.1:List Bool):=by rw [ok.right.may.b1,← ok.right.w1]; exact hbn
      simp [-List.getD_eq_getElem?_getD,-List.length_eq_zero_iff,Zn,Zj,Zv,Zk,Xb,Xc,Xr,Zf (Y8 w (k:Int)),(Y8 w (k:Int)).prop,Zf (Y8 w (b:Int)),(Y8 w (b:Int)).prop,hk,hb,hkn,hbx,Zf (Tp w ok hi hbn),(Tp w ok hi hbn).prop,Zf (Ha w ok (Xt i) (V0 i)),(Ha w ok (Xt i) (V0 i)).prop,Zf (Gl w ok.sm hkn (Xt i)),(Gl w ok.sm hkn (Xt i)).prop,takeR,takeErr]
      by_cases c1:T7 w i b <;> by_cases c2:L0 w b=true <;> by_cases c3:Qr w k=Ye (b:Int) <;> by_cases c4:Yb w (Xt i)=0 <;> simp [-List.getD_eq_getElem?_getD,-List.length_eq_zero_iff,Zn,Zj,Zv,Zk,Xb,Xc,Xr,c1,c2,c3,c4]
      intro h; omega
    · simp [-List.getD_eq_getElem?_getD,-List.length_eq_zero_iff,Zn,Zj,Zv,Zk,Xb,Xc,Xr,Zf (Y8 w k),(Y8 w k).prop,Zf (Y8 w b),(Y8 w b).prop,hk,hb,takeR,takeErr]
  · simp [-List.getD_eq_getElem?_getD,-List.length_eq_zero_iff,Zn,Zj,Zv,Zk,Xb,Xc,Xr,Zf (Y8 w k),(Y8 w k).prop,Zf (Y8 w b),(Y8 w b).prop,hk,takeR,takeErr]
end Go.Proofs.YtpemapoblhleoaaGreatDoor.Ghost
namespace Go.Proofs.YtpemapoblhleoaaGreatDoor.Ghost
open Go
theorem Ok.put2 {w:den Za} (ok:Ok w) {k:Nat} (hk:k<List.length (w.2.2.2.1:List (den Zb))) {q:Pl} (hg:Hp w.1 q) (hr:1≤Yb w q) (hd:∀ j,j<List.length (w.2.2.2.1:List (den Zb))→∃ p d,Rl (Ghost.put w k q).2.2.2.1 j p d∧d≤4):Ok (Ghost.put w k q):=by
  have h:=ok.right
  have hset:∀ p:Pl,Qf (List.set (w.2.2.2.1:List (den Zb)) k q) p (List.length (w.2.2.2.1:List (den Zb)))≤Qf w.2.2.2.1 p (List.length (w.2.2.2.1:List (den Zb)))+(if q=p then 1 else 0):=fun p=>by
    have:=O5 w.2.2.2.1 k q p hk (List.length (w.2.2.2.1:List (den Zb)))
    simp only [hk,true_and] at this
    omega
  refine ⟨ANe ok.sm k q,h.may,h.a1,h.c1,by rw [Gf]; exact h.w1,h.at_,fun i hi => ?_,fun i hi => ?_⟩
  · rw [Gf] at hi
    rw [ADk w k i q hk]
    split
    · exact hg
    · exact h.good i hi
  · have hlen:=Gf w k q
    rw [hlen] at hi ⊢
    obtain ⟨p,d,h1,h2⟩:=hd i hi
    have h3:=h1.depI 51 0 (by omega) (by omega)
    rw [Nat.zero_add] at h3
    refine ⟨Nat.le_trans (Nat.le_of_eq h3) h2,?_⟩
    generalize List.getD ((Ghost.put w k q).2.2.2.1:List (den Zb)) i (dft Zb)=p
    show (Qf (List.set (w.2.2.2.1:List (den Zb)) k q) _ _:Int)≤L7 w.1 _
    have h1:=hset p
    by_cases hqp:q=p
    · rw [if_pos hqp] at h1
      subst hqp
      unfold Yb at hr
      omega
    · rw [if_neg hqp] at h1
      have h2:=(h.room p).1
      unfold Yb at h2
      omega
structure AGg (w:den Za) (i k b:Nat):Prop where
  hk:k<List.length (w.2.2.2.1:List (den Zb))
  hb:b<List.length (w.2.2.2.1:List (den Zb))
  me:Qr w k=Xt i
  near:T7 w i b
  box:L0 w b=true
  wi:¬ WiW w b k
  deep:¬ 4<Yd w b+1+Ro w k
  room:1≤Yb w (Ye b)
theorem AFm {w:den Za} {i k b:Nat} (hk:k<List.length (w.2.2.2.1:List (den Zb))) (hb:b<List.length (w.2.2.2.1:List (den Zb))):putErr w i k b=0↔AGg w i k b:=by
  have h1:inR w (k:Int):=⟨Int.natCast_nonneg k,Int.ofNat_lt.2 hk⟩
  have h2:inR w (b:Int):=⟨Int.natCast_nonneg b,Int.ofNat_lt.2 hb⟩
  unfold putErr
  simp only [h1,h2,and_self,if_true,Int.toNat_natCast]
  constructor
  · intro h
    split at h <;> rename_i c1
    · split at h <;> rename_i c2
      · split at h <;> rename_i c3
        · cases h
        · split at h <;> rename_i c4
          · cases h
          · split at h <;> rename_i c5
            · cases h
            · exact ⟨hk,hb,c1.1,c1.2,c2,c3,c4,by omega⟩
      · cases h
    · cases h
  · intro h
    rw [if_pos ⟨h.me,h.near⟩,if_pos h.box,if_neg h.wi,if_neg h.deep,if_neg (by have:=h.room; omega)]
structure AAm (w:den Za) (i k b:Nat):Prop where
  hk:k<List.length (w.2.2.2.1:List (den Zb))
  hb:b<List.length (w.2.2.2.1:List (den Zb))
  near:T7 w i b
  box:L0 w b=true
  at_:Qr w k=Ye b
  room:1≤Yb w (Xt i)
theorem AC2 {w:den Za} {i k b:Nat} (hk:k<List.length (w.2.2.2.1:List (den Zb))) (hb:b<List.length (w.2.2.2.1:List (den Zb))):takeErr w i k b=0↔AAm w i k b:=by
  have h1:inR w (k:Int):=⟨Int.natCast_nonneg k,Int.ofNat_lt.2 hk⟩
  have h2:inR w (b:Int):=⟨Int.natCast_nonneg b,Int.ofNat_lt.2 hb⟩
  unfold takeErr
  simp only [h1,h2,and_self,if_true,Int.toNat_natCast]
  constructor
  · intro h
    split at h <;> rename_i c1
    · split at h <;> rename_i c2
      · split at h <;> rename_i c3
        · split at h <;> rename_i c4
          · cases h
          · exact ⟨hk,hb,c1,c2,c3,by omega⟩
        · cases h
      · cases h
    · cases h
  · intro h
    rw [if_pos h.near,if_pos h.box,if_pos h.at_,if_neg (by have:=h.room; omega)]
theorem AGg.moved {w:den Za} {i k b:Nat} (h:AGg w i k b) (ok:Ok w):O2 w (put w k (Ye (b:Int))) k (Q7 w b) (Yd w b+1):=ABn ok.right h.hk h.hb h.wi
theorem AGg.ok {w:den Za} {i k b:Nat} (h:AGg w i k b) (ok:Ok w):Ok (put w k (Ye (b:Int))):=by
  refine ok.put2 h.hk (.inr (.inr ⟨rfl,⟨Int.natCast_nonneg b,?_⟩,?_⟩)) h.room (fun j hj => ?_)
  · show (b:Int)<_
    rw [← ok.right.w1]; exact Int.ofNat_lt.2 h.hb
  · show List.getD (w.1.2.2.2.2.1:List Bool) (Int.toNat (b:Int)) false=true
    rw [Int.toNat_natCast]; exact h.box
  · obtain ⟨p,hp⟩:=AN8 ok h.hk h.hb h.wi hj
    refine ⟨p,_,hp,?_⟩
    have:¬ 4<dOf w k b j:=fun h4=>h.deep ((B3 ok h.hk h.hb h.wi).1 ⟨j,hj,h4⟩)
    omega
theorem AAm.moved {w:den Za} {i k b:Nat} (h:AAm w i k b) (ok:Ok w):O2 w (put w k (Xt i)) k (Xt i) 0:=AJw ok.right h.hk (show ¬ (1:Int)=2 by decide)
theorem AAm.ok {w:den Za} {i k b:Nat} (h:AAm w i k b) (ok:Ok w) (hi:i<List.length (w.2.1:List Int)):Ok (put w k (Xt i)):=by
  have m:=h.moved ok
  refine ok.put2 h.hk (.inr (.inl ⟨rfl,Int.natCast_nonneg i,?_⟩)) h.room (fun j hj => ?_)
  · show (i:Int)<_
    rw [← ok.right.a1]; exact Int.ofNat_lt.2 hi
  · have:=(Ig ok.right hj).2
    by_cases hw:WiW w j k
    · exact ⟨_,_,(m.inn j hj hw).1,by omega⟩
    · exact ⟨_,_,m.out j hj hw,this⟩
theorem Dv {w:den Za} {i:Nat} {k b:Int} (h:¬ takeErr w i k b=0):takeR w i k b=(w,takeErr w i k b,()):=if_neg h
theorem Ad {w:den Za} {i:Nat} {k b:Int} (h:¬ putErr w i k b=0):putR w i k b=(w,putErr w i k b,()):=if_neg h
theorem AHt {w:den Za} {i k:Nat} {b:Int} (h:takeErr w i k b=0):takeR w i k b=(put w k (Xt i),0,()):=if_pos h
theorem AJ9 {w:den Za} {i k:Nat} {b:Int} (h:putErr w i k b=0):putR w i k b=(put w k (Ye b),0,()):=if_pos h
end Go.Proofs.YtpemapoblhleoaaGreatDoor.Ghost
