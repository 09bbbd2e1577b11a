/- What functions come to, and that the statements are answered with 'true'. Conditions: none. -/
import Derived.Test.YtpemapoblhleoaaGreatDoorS
import Derived.Test.YtpemapoblhleoaaGreatDoorGE
import Derived.Test.YtpemapoblhleoaaGreatDoorP1
import Derived.Test.YtpemapoblhleoaaGreatDoorP2
import Derived.Test.YtpemapoblhleoaaGreatDoorP3
import Derived.Test.YtpemapoblhleoaaGreatDoorP4
import Derived.Test.YtpemapoblhleoaaGreatDoorP5
set_option linter.unusedVariables false
set_option linter.unusedSimpArgs false
set_option linter.unusedSectionVars false
set_option linter.unnecessarySimpa false
namespace Go.Proofs.YtpemapoblhleoaaGreatDoor.Ghost
open Go
abbrev Ec (w:den Za) (b:Nat):Bool:=List.getD (w.1.2.2.2.2.1:List Bool) b false
def Md (w:den Za) (i j:Nat):Prop:=Qa w j=Aa (Gy w i)∨Qa w j=Xz i
def inR (w:den Za) (k:Int):Prop:=0≤k∧k<(List.length (w.2.2.2.1:List (den Zb)):Int)
open Classical in
noncomputable def putErr (w:den Za) (i:Nat) (k b:Int):Int:=if inR w k∧inR w b then
  (if Yr w k.toNat=Xz i∧Md w i b.toNat then
    (if Ec w b.toNat=true then
      (if WiW w b.toNat k.toNat then 7 else if 4<Xy w b.toNat+1+Rx w k.toNat then 8 else if Y1 w (Yx b)<1 then 9 else 0)
    else 6)
  else 5) else 3
open Classical in
noncomputable def takeErr (w:den Za) (i:Nat) (k b:Int):Int:=if inR w k∧inR w b then
  (if Md w i b.toNat then
    (if Ec w b.toNat=true then
      (if Yr w k.toNat=Yx b then (if Y1 w (Xz i)<1 then 9 else 0) else 5)
    else 6)
  else 5) else 3
open Classical in
noncomputable def putR (w:den Za) (i:Nat) (k b:Int):den Za×Int×Unit:=if putErr w i k b=0 then (put w k.toNat (Yx b),0,()) else (w,putErr w i k b,())
open Classical in
noncomputable def takeR (w:den Za) (i:Nat) (k b:Int):den Za×Int×Unit:=if takeErr w i k b=0 then (put w k.toNat (Xz i),0,()) else (w,takeErr w i k b,())
theorem AEi (b:Int):(0:Int)≤(Yx b).1∧((Yx b).1:Int)<3:=⟨by show (0:Int)≤2; decide,by show (2:Int)<3; decide⟩
theorem Gr (i:Nat):(0:Int)≤(Xz i).1∧((Xz i).1:Int)<3:=⟨by show (0:Int)≤1; decide,by show (1:Int)<3; decide⟩
theorem Yf (w:den Za) (k:Int):Zd (fun nf _ _ _=>Qt nf (w) (k)) (fun r=>r=((dec (¬ inR w k),()),[])):=by
  refine Zd.succ (fun nf _ _ _=>Qt.eq nf _ _) ?_
  by_cases h:k<0 <;> by_cases h2:(List.length (w.2.2.2.1:List (den Zb)):Int)≤k <;> simp [h,h2,inR] <;> omega
theorem N4 (w:den Za) (ok:Ok w) {i j:Nat} (hi:i<List.length (w.2.1:List Int)) (hj:j<List.length (w.2.2.2.1:List (den Zb))):Zd (fun nf _ _ _=>Jq nf (w) ((i:Int)) ((j:Int))) (fun r=>r=((dec (Md w i j),()),[])):=by
  refine Zd.succ (fun nf _ _ _=>Jq.eq nf _ _ _) ?_
  simp [-List.getD_eq_getElem?_getD,-List.length_eq_zero_iff,Zu,Zq,Z0,Zr,Xg,Xf,Ya,Ze (Rn w ok.right hj),(Rn w ok.right hj).prop,hi]
  exact ⟨.inl,fun h=>⟨.inr,fun h'=>h'.resolve_left h⟩⟩
theorem ABz {w:den Za} (ok:Ok w) {i k b:Nat} (hi:i<List.length (w.2.1:List Int)) (hk:k<List.length (w.2.2.2.1:List (den Zb))) (hb:b<List.length (w.2.2.2.1:List (den Zb))) :
    Zd (fun nf _ _ _=>Yy nf (w) ((k:Int)) ((b:Int)) (3) (w) ((k:Int)) (Xz i) ((i:Int)) ((b:Int)) (5) (w) ((b:Int)) (6) (w) ((b:Int)) ((k:Int)) (7) (w) ((b:Int)) ((k:Int)) (8) (w) (Yx (b:Int)) (9)) (fun r=>r=((putErr w i k b,()),[])):=by
  have hbx:b<List.length (w.1.2.2.2.2.1:List Bool):=by rw [ok.right.may.b1,← ok.right.w1]; exact hb
  have hd:=(Ce ok.right hb).2
  have hh:=AQd ok.right hk
  have s1:Zd (fun nf _ _ _=>Yt nf (w) ((k:Int)) ((b:Int))) (fun r=>r=((false,()),[])):=by
    refine Zd.succ (fun nf _ _ _=>Yt.eq nf _ _ _) ?_
    simp [-List.getD_eq_getElem?_getD,-List.length_eq_zero_iff,Zu,Zq,Z0,Zr,Xg,Xf,Ya,Ze (Yf w (k:Int)),(Yf w (k:Int)).prop,Ze (Yf w (b:Int)),(Yf w (b:Int)).prop,inR,hk,hb]
  have s2:Zd (fun nf _ _ _=>Jd nf (w) ((k:Int)) (Xz i) ((i:Int)) ((b:Int))) (fun r=>r=((dec (¬ (Yr w k=Xz i∧Md w i b)),()),[])):=by
    refine Zd.succ (fun nf _ _ _=>Jd.eq nf _ _ _ _ _) ?_
    simp [-List.getD_eq_getElem?_getD,-List.length_eq_zero_iff,Zu,Zq,Z0,Zr,Xg,Xf,Ya,hk,Ze (N4 w ok hi hb),(N4 w ok hi hb).prop]
    by_cases c1:Yr w k=Xz i <;> by_cases c2:Md w i b <;> simp [-List.getD_eq_getElem?_getD,-List.length_eq_zero_iff,Zu,Zq,Z0,Zr,Xg,Xf,Ya,c1,c2]
  have s3:Zd (fun nf _ _ _=>Je nf (w) ((b:Int))) (fun r=>r=((!Ec w b,()),[])):=by
    refine Zd.succ (fun nf _ _ _=>Je.eq nf _ _) ?_
    simp [-List.getD_eq_getElem?_getD,-List.length_eq_zero_iff,Zu,Zq,Z0,Zr,Xg,Xf,Ya,hbx]
  have s4:Zd (fun nf _ _ _=>Jf nf (w) ((b:Int)) ((k:Int))) (fun r=>r=((dec (WiW w b k),()),[])):=by
    refine Zd.succ (fun nf _ _ _=>Jf.eq nf _ _ _) ?_
    simp [-List.getD_eq_getElem?_getD,-List.length_eq_zero_iff,Zu,Zq,Z0,Zr,Xg,Xf,Ya,Ze (Tl w ok.right hb k),(Tl w ok.right hb k).bprop]
  have s5:Zd (fun nf _ _ _=>Jg nf (w) ((b:Int)) ((k:Int))) (fun r=>r=((decide (4<Xy w b+1+Rx w k),()),[])):=by
    refine Zd.succ (fun nf _ _ _=>Jg.eq nf _ _ _) ?_
    simp [-List.getD_eq_getElem?_getD,-List.length_eq_zero_iff,Zu,Zq,Z0,Zr,Xg,Xf,Ya,Ze (Ua w ok.right hb),(Ua w ok.right hb).prop,Ze (Oc w ok hk),(Oc w ok hk).prop]
    rw [Hm (n:=(Xy w b:Int)+1) (by omega) (by omega),Hm (by omega) (by omega)]
    omega
  have s6:Zd (fun nf _ _ _=>Jh nf (w) (Yx (b:Int))) (fun r=>r=((decide (Y1 w (Yx b)<1),()),[])):=by
    refine Zd.succ (fun nf _ _ _=>Jh.eq nf _ _) ?_
    simp [-List.getD_eq_getElem?_getD,-List.length_eq_zero_iff,Zu,Zq,Z0,Zr,Xg,Xf,Ya,Ze (Qc w ok (Yx (b:Int)) (AEi b)),(Qc w ok (Yx (b:Int)) (AEi b)).prop]
  refine Zd.add 14 (fun nf _ _ _=>Yy.eq nf _ _ _ _ _ _ _ _ _ _ _ _ _ _ _ _ _ _ _ _ _ _ _ _) ?_
  simp [-List.getD_eq_getElem?_getD,-List.length_eq_zero_iff,Zu,Zq,Z0,Zr,Xg,Xf,Ya,Ze (s1.shift 13),(s1.shift 13).prop,Ze (s2.shift 13),(s2.shift 13).prop,Ze (s3.shift 13),(s3.shift 13).prop,Ze (s4.shift 13),(s4.shift 13).prop,Ze (s5.shift 13),(s5.shift 13).prop,Ze (s6.shift 13),(s6.shift 13).prop,putErr,inR,hk,hb]
  by_cases c1:Yr w k=Xz i <;> by_cases c2:Md w i b <;> by_cases c3:Ec w b=true <;> by_cases c4:WiW w b k <;> by_cases c5:4<Xy w b+1+Rx w k <;> by_cases c6:Y1 w (Yx b)<1 <;> simp [-List.getD_eq_getElem?_getD,-List.length_eq_zero_iff,Zu,Zq,Z0,Zr,Xg,Xf,Ya,c1,c2,c3,c4,c5,c6]
theorem Kc {w:den Za} {k:Int} (h:inR w k):∃ n:Nat,k=(n:Int)∧n<List.length (w.2.2.2.1:List (den Zb)):=⟨k.toNat,by have:=h.1; omega,by have:=h.1; have:=h.2; omega⟩
theorem A8 {w:den Za} (ok:Ok w) {i:Nat} (hi:i<List.length (w.2.1:List Int)) (k b:Int):Zd (fun nf _ _ _=>Yy nf (w) (k) (b) (3) (w) (k) (Xz i) ((i:Int)) (b) (5) (w) (b) (6) (w) (b) (k) (7) (w) (b) (k) (8) (w) (Yx b) (9)) (fun r=>r=((putErr w i k b,()),[])):=by
  by_cases hk:inR w k
  · by_cases hb:inR w b
    · obtain ⟨k,rfl,hkn⟩:=Kc hk
      obtain ⟨b,rfl,hbn⟩:=Kc hb
      exact ABz ok hi hkn hbn
    · refine Zd.add 14 (fun nf _ _ _=>Yy.eq nf _ _ _ _ _ _ _ _ _ _ _ _ _ _ _ _ _ _ _ _ _ _ _ _) ?_
      have s1:Zd (fun nf _ _ _=>Yt nf (w) (k) (b)) (fun r=>r=((true,()),[])):=by
        refine Zd.succ (fun nf _ _ _=>Yt.eq nf _ _ _) ?_
        simp [-List.getD_eq_getElem?_getD,-List.length_eq_zero_iff,Zu,Zq,Z0,Zr,Xg,Xf,Ya,Ze (Yf w k),(Yf w k).prop,Ze (Yf w b),(Yf w b).prop,hk,hb]
      simp [-List.getD_eq_getElem?_getD,-List.length_eq_zero_iff,Zu,Zq,Z0,Zr,Xg,Xf,Ya,Ze (s1.shift 13),(s1.shift 13).prop,putErr,hk,hb]
  · refine Zd.add 14 (fun nf _ _ _=>Yy.eq nf _ _ _ _ _ _ _ _ _ _ _ _ _ _ _ _ _ _ _ _ _ _ _ _) ?_
    have s1:Zd (fun nf _ _ _=>Yt nf (w) (k) (b)) (fun r=>r=((true,()),[])):=by
      refine Zd.succ (fun nf _ _ _=>Yt.eq nf _ _ _) ?_
      simp [-List.getD_eq_getElem?_getD,-List.length_eq_zero_iff,Zu,Zq,Z0,Zr,Xg,Xf,Ya,Ze (Yf w k),(Yf w k).prop,Ze (Yf w b),(Yf w b).prop,hk]
    simp [-List.getD_eq_getElem?_getD,-List.length_eq_zero_iff,Zu,Zq,Z0,Zr,Xg,Xf,Ya,Ze (s1.shift 13),(s1.shift 13).prop,putErr,hk]
theorem B9 {w:den Za} (ok:Ok w) {i k b:Nat} (hi:i<List.length (w.2.1:List Int)) (hk:k<List.length (w.2.2.2.1:List (den Zb))) (hb:b<List.length (w.2.2.2.1:List (den Zb))) :
    Zd (fun nf _ _ _=>Y7 nf (w) ((k:Int)) ((b:Int)) (3) (w) ((i:Int)) ((b:Int)) (5) (w) ((b:Int)) (6) (w) ((k:Int)) (Yx (b:Int)) (5) (w) (Xz i) (9)) (fun r=>r=((takeErr w i k b,()),[])):=by
  have hbx:b<List.length (w.1.2.2.2.2.1:List Bool):=by rw [ok.right.may.b1,← ok.right.w1]; exact hb
  have s1:Zd (fun nf _ _ _=>Yg nf (w) ((k:Int)) ((b:Int))) (fun r=>r=((false,()),[])):=by
    refine Zd.succ (fun nf _ _ _=>Yg.eq nf _ _ _) ?_
    simp [-List.getD_eq_getElem?_getD,-List.length_eq_zero_iff,Zu,Zq,Z0,Zr,Xg,Xf,Ya,Ze (Yf w (k:Int)),(Yf w (k:Int)).prop,Ze (Yf w (b:Int)),(Yf w (b:Int)).prop,inR,hk,hb]
  have s2:Zd (fun nf _ _ _=>Qm nf (w) ((i:Int)) ((b:Int))) (fun r=>r=((dec (¬ Md w i b),()),[])):=by
    refine Zd.succ (fun nf _ _ _=>Qm.eq nf _ _ _) ?_
    simp [-List.getD_eq_getElem?_getD,-List.length_eq_zero_iff,Zu,Zq,Z0,Zr,Xg,Xf,Ya,Ze (N4 w ok hi hb),(N4 w ok hi hb).prop]
  have s3:Zd (fun nf _ _ _=>Qn nf (w) ((b:Int))) (fun r=>r=((!Ec w b,()),[])):=by
    refine Zd.succ (fun nf _ _ _=>Qn.eq nf _ _) ?_
    simp [-List.getD_eq_getElem?_getD,-List.length_eq_zero_iff,Zu,Zq,Z0,Zr,Xg,Xf,Ya,hbx]
  have s4:Zd (fun nf _ _ _=>Qo nf (w) ((k:Int)) (Yx (b:Int))) (fun r=>r=((dec (¬ Yr w k=Yx (b:Int)),()),[])):=by
    refine Zd.succ (fun nf _ _ _=>Qo.eq nf _ _ _) ?_
    simp [-List.getD_eq_getElem?_getD,-List.length_eq_zero_iff,Zu,Zq,Z0,Zr,Xg,Xf,Ya,hk]
  have s5:Zd (fun nf _ _ _=>Qp nf (w) (Xz i)) (fun r=>r=((decide (Y1 w (Xz i)<1),()),[])):=by
    refine Zd.succ (fun nf _ _ _=>Qp.eq nf _ _) ?_
    simp [-List.getD_eq_getElem?_getD,-List.length_eq_zero_iff,Zu,Zq,Z0,Zr,Xg,Xf,Ya,Ze (Qc w ok (Xz i) (Gr i)),(Qc w ok (Xz i) (Gr i)).prop]
  refine Zd.add 14 (fun nf _ _ _=>Y7.eq nf _ _ _ _ _ _ _ _ _ _ _ _ _ _ _ _ _ _) ?_
  simp [-List.getD_eq_getElem?_getD,-List.length_eq_zero_iff,Zu,Zq,Z0,Zr,Xg,Xf,Ya,Ze (s1.shift 13),(s1.shift 13).prop,Ze (s2.shift 13),(s2.shift 13).prop,Ze (s3.shift 13),(s3.shift 13).prop,Ze (s4.shift 13),(s4.shift 13).prop,Ze (s5.shift 13),(s5.shift 13).prop,takeErr,inR,hk,hb]
  by_cases c1:Md w i b <;> by_cases c2:Ec w b=true <;> by_cases c3:Yr w k=Yx (b:Int) <;> by_cases c4:Y1 w (Xz i)<1 <;> simp [-List.getD_eq_getElem?_getD,-List.length_eq_zero_iff,Zu,Zq,Z0,Zr,Xg,Xf,Ya,c1,c2,c3,c4]
theorem Cn {w:den Za} (ok:Ok w) {i:Nat} (hi:i<List.length (w.2.1:List Int)) (k b:Int):Zd (fun nf _ _ _=>Y7 nf (w) (k) (b) (3) (w) ((i:Int)) (b) (5) (w) (b) (6) (w) (k) (Yx b) (5) (w) (Xz i) (9)) (fun r=>r=((takeErr w i k b,()),[])):=by
  by_cases hk:inR w k
  · by_cases hb:inR w b
    · obtain ⟨k,rfl,hkn⟩:=Kc hk
      obtain ⟨b,rfl,hbn⟩:=Kc hb
      exact B9 ok hi hkn hbn
    · refine Zd.add 14 (fun nf _ _ _=>Y7.eq nf _ _ _ _ _ _ _ _ _ _ _ _ _ _ _ _ _ _) ?_
      have s1:Zd (fun nf _ _ _=>Yg nf (w) (k) (b)) (fun r=>r=((true,()),[])):=by
        refine Zd.succ (fun nf _ _ _=>Yg.eq nf _ _ _) ?_
        simp [-List.getD_eq_getElem?_getD,-List.length_eq_zero_iff,Zu,Zq,Z0,Zr,Xg,Xf,Ya,Ze (Yf w k),(Yf w k).prop,Ze (Yf w b),(Yf w b).prop,hk,hb]
      simp [-List.getD_eq_getElem?_getD,-List.length_eq_zero_iff,Zu,Zq,Z0,Zr,Xg,Xf,Ya,Ze (s1.shift 13),(s1.shift 13).prop,takeErr,hk,hb]
  · refine Zd.add 14 (fun nf _ _ _=>Y7.eq nf _ _ _ _ _ _ _ _ _ _ _ _ _ _ _ _ _ _) ?_
    have s1:Zd (fun nf _ _ _=>Yg nf (w) (k) (b)) (fun r=>r=((true,()),[])):=by
      refine Zd.succ (fun nf _ _ _=>Yg.eq nf _ _ _) ?_
      simp [-List.getD_eq_getElem?_getD,-List.length_eq_zero_iff,Zu,Zq,Z0,Zr,Xg,Xf,Ya,Ze (Yf w k),(Yf w k).prop,Ze (Yf w b),(Yf w b).prop,hk]
    simp [-List.getD_eq_getElem?_getD,-List.length_eq_zero_iff,Zu,Zq,Z0,Zr,Xg,Xf,Ya,Ze (s1.shift 13),(s1.shift 13).prop,takeErr,hk]
theorem Fy {w:den Za} {i:Nat} {k b:Int} (h:¬ putErr w i k b=3):inR w k∧inR w b:=by
  by_cases hn:inR w k∧inR w b
  · exact hn
  · exact absurd (by unfold putErr; rw [if_neg hn]) h
theorem La {w:den Za} {i:Nat} {k b:Int} (h:¬ takeErr w i k b=3):inR w k∧inR w b:=by
  by_cases hn:inR w k∧inR w b
  · exact hn
  · exact absurd (by unfold takeErr; rw [if_neg hn]) h
theorem AMn {w:den Za} (ok:Ok w) {i:Nat} (hi:i<List.length (w.2.1:List Int)) (k b:Int):Zd (fun nf _ _ _=>V1 nf (w) ((i:Int)) (k) (b)) (fun r=>r=(putR w i k b,[])):=by
  refine Zd.succ (fun nf _ _ _=>V1.eq nf _ _ _ _) ?_
  simp [-List.getD_eq_getElem?_getD,-List.length_eq_zero_iff,Zu,Zq,Z0,Zr,Xg,Xf,Ya,Ze (A8 ok hi k b),(A8 ok hi k b).prop]
  by_cases h:putErr w i k b=0
  · obtain ⟨hk,hb⟩:=Fy (show ¬ putErr w i k b=3 by rw [h]; decide)
    obtain ⟨k,rfl,hkn⟩:=Kc hk
    simp [-List.getD_eq_getElem?_getD,-List.length_eq_zero_iff,Zu,Zq,Z0,Zr,Xg,Xf,Ya,h,Ze (P4 w ok.sm hkn (Yx b)),(P4 w ok.sm hkn (Yx b)).prop,putR]
  · simp [-List.getD_eq_getElem?_getD,-List.length_eq_zero_iff,Zu,Zq,Z0,Zr,Xg,Xf,Ya,h,putR]
theorem AJh {w:den Za} (ok:Ok w) {i:Nat} (hi:i<List.length (w.2.1:List Int)) (k b:Int):Zd (fun nf _ _ _=>Vf nf (w) ((i:Int)) (k) (b)) (fun r=>r=(takeR w i k b,[])):=by
  refine Zd.succ (fun nf _ _ _=>Vf.eq nf _ _ _ _) ?_
  simp [-List.getD_eq_getElem?_getD,-List.length_eq_zero_iff,Zu,Zq,Z0,Zr,Xg,Xf,Ya,Ze (Cn ok hi k b),(Cn ok hi k b).prop]
  by_cases h:takeErr w i k b=0
  · obtain ⟨hk,hb⟩:=La (show ¬ takeErr w i k b=3 by rw [h]; decide)
    obtain ⟨k,rfl,hkn⟩:=Kc hk
    simp [-List.getD_eq_getElem?_getD,-List.length_eq_zero_iff,Zu,Zq,Z0,Zr,Xg,Xf,Ya,h,Ze (P4 w ok.sm hkn (Xz i)),(P4 w ok.sm hkn (Xz i)).prop,takeR]
  · simp [-List.getD_eq_getElem?_getD,-List.length_eq_zero_iff,Zu,Zq,Z0,Zr,Xg,Xf,Ya,h,takeR]
end Go.Proofs.YtpemapoblhleoaaGreatDoor.Ghost
namespace Go.Proofs.YtpemapoblhleoaaGreatDoor.Ghost
open Go
section
variable {w:den Za} (ok:Ok w) {k b:Nat} (hk:k<List.length (w.2.2.2.1:List (den Zb))) (hb:b<List.length (w.2.2.2.1:List (den Zb))) (hn:¬ WiW w b k)
open Classical in
noncomputable def dOf (w:den Za) (k b j:Nat):Nat:=if WiW w j k then Xy w b+1+(Xy w j - Xy w k) else Xy w j
include ok hk hb hn
theorem BG3 {j:Nat} (hj:j<List.length (w.2.2.2.1:List (den Zb))):∃ p,U2 (put w k (Yx (b:Int))).2.2.2.1 j p (dOf w k b j):=by
  have m:=Fp ok.right hk hb hn
  unfold dOf
  by_cases hw:WiW w j k
  · rw [if_pos hw]; exact ⟨_,(m.inn j hj hw).1⟩
  · rw [if_neg hw]; exact ⟨_,m.out j hj hw⟩
theorem AK9:(∃ j,j<List.length (w.2.2.2.1:List (den Zb))∧4<dOf w k b j)↔4<Xy w b+1+Rx w k:=by
  constructor
  · rintro ⟨j,hj,hd⟩
    unfold dOf at hd
    split at hd
    · rename_i hw
      have:Xy w j - Xy w k≤Rx w k:=AHe (w:=w) (i:=k) hj hw
      omega
    · have:=(Ce ok.right hj).2
      omega
  · intro h
    rcases Dk (w:=w) (i:=k) (List.length (w.2.2.2.1:List (den Zb))) with h0 | ⟨j,j1,j2,j3⟩
    · have h0:Rx w k=0:=h0
      refine ⟨k,hk,?_⟩
      unfold dOf
      rw [if_pos (.refl k)]; omega
    · have j3:Xy w j - Xy w k=Rx w k:=j3
      refine ⟨j,j1,?_⟩
      unfold dOf
      rw [if_pos j2]; omega
end
end Go.Proofs.YtpemapoblhleoaaGreatDoor.Ghost
namespace Go.Proofs.YtpemapoblhleoaaGreatDoor.Ghost
open Go
theorem Ok.put2 {w:den Za} (ok:Ok w) {k:Nat} (hk:k<List.length (w.2.2.2.1:List (den Zb))) {q:Pl} (hg:Kf w.1 q) (hr:1≤Y1 w q) (hd:∀ j,j<List.length (w.2.2.2.1:List (den Zb))→∃ p d,U2 (Ghost.put w k q).2.2.2.1 j p d∧d≤4):Ok (Ghost.put w k q):=by
  have h:=ok.right
  have hset:∀ p:Pl,Yl (List.set (w.2.2.2.1:List (den Zb)) k q) p (List.length (w.2.2.2.1:List (den Zb)))≤Yl w.2.2.2.1 p (List.length (w.2.2.2.1:List (den Zb)))+(if q=p then 1 else 0):=fun p=>by
    have:=Pw w.2.2.2.1 k q p hk (List.length (w.2.2.2.1:List (den Zb)))
    simp only [hk,true_and] at this
    omega
  refine ⟨AMv ok.sm k q,h.may,h.a1,h.c1,by rw [Km]; exact h.w1,h.at_,fun i hi => ?_,fun i hi => ?_⟩
  · rw [Km] at hi
    rw [ACk w k i q hk]
    split
    · exact hg
    · exact h.good i hi
  · have hlen:=Km w k q
    rw [hlen] at hi ⊢
    obtain ⟨p,d,h1,h2⟩:=hd i hi
    have h3:=h1.depI 51 0 (by omega) (by omega)
    rw [Nat.zero_add] at h3
    refine ⟨Nat.le_trans (Nat.le_of_eq h3) h2,?_⟩
    generalize List.getD ((Ghost.put w k q).2.2.2.1:List (den Zb)) i (dft Zb)=p
    show (Yl (List.set (w.2.2.2.1:List (den Zb)) k q) _ _:Int)≤Lj w.1 _
    have h1:=hset p
    by_cases hqp:q=p
    · rw [if_pos hqp] at h1
      subst hqp
      unfold Y1 at hr
      omega
    · rw [if_neg hqp] at h1
      have h2:=(h.room p).1
      unfold Y1 at h2
      omega
structure Ai (w:den Za) (i k b:Nat):Prop where
  hk:k<List.length (w.2.2.2.1:List (den Zb))
  hb:b<List.length (w.2.2.2.1:List (den Zb))
  me:Yr w k=Xz i
  near:Md w i b
  box:Ec w b=true
  wi:¬ WiW w b k
  deep:¬ 4<Xy w b+1+Rx w k
  room:1≤Y1 w (Yx b)
theorem Ey {w:den Za} {i k b:Nat} (hk:k<List.length (w.2.2.2.1:List (den Zb))) (hb:b<List.length (w.2.2.2.1:List (den Zb))):putErr w i k b=0↔Ai w i k b:=by
  have h1:inR w (k:Int):=⟨Int.natCast_nonneg k,Int.ofNat_lt.2 hk⟩
  have h2:inR w (b:Int):=⟨Int.natCast_nonneg b,Int.ofNat_lt.2 hb⟩
  unfold putErr
  simp only [h1,h2,and_self,if_true,Int.toNat_natCast]
  constructor
  · intro h
    split at h <;> rename_i c1
    · split at h <;> rename_i c2
      · split at h <;> rename_i c3
        · cases h
        · split at h <;> rename_i c4
          · cases h
          · split at h <;> rename_i c5
            · cases h
            · exact ⟨hk,hb,c1.1,c1.2,c2,c3,c4,by omega⟩
      · cases h
    · cases h
  · intro h
    rw [if_pos ⟨h.me,h.near⟩,if_pos h.box,if_neg h.wi,if_neg h.deep,if_neg (by have:=h.room; omega)]
structure Dq (w:den Za) (i k b:Nat):Prop where
  hk:k<List.length (w.2.2.2.1:List (den Zb))
  hb:b<List.length (w.2.2.2.1:List (den Zb))
  near:Md w i b
  box:Ec w b=true
  at_:Yr w k=Yx b
  room:1≤Y1 w (Xz i)
theorem ACr {w:den Za} {i k b:Nat} (hk:k<List.length (w.2.2.2.1:List (den Zb))) (hb:b<List.length (w.2.2.2.1:List (den Zb))):takeErr w i k b=0↔Dq w i k b:=by
  have h1:inR w (k:Int):=⟨Int.natCast_nonneg k,Int.ofNat_lt.2 hk⟩
  have h2:inR w (b:Int):=⟨Int.natCast_nonneg b,Int.ofNat_lt.2 hb⟩
  unfold takeErr
  simp only [h1,h2,and_self,if_true,Int.toNat_natCast]
  constructor
  · intro h
    split at h <;> rename_i c1
    · split at h <;> rename_i c2
      · split at h <;> rename_i c3
        · split at h <;> rename_i c4
          · cases h
          · exact ⟨hk,hb,c1,c2,c3,by omega⟩
        · cases h
      · cases h
    · cases h
  · intro h
    rw [if_pos h.near,if_pos h.box,if_pos h.at_,if_neg (by have:=h.room; omega)]
theorem Ai.moved {w:den Za} {i k b:Nat} (h:Ai w i k b) (ok:Ok w):Pd w (put w k (Yx (b:Int))) k (Qa w b) (Xy w b+1):=Fp ok.right h.hk h.hb h.wi
theorem Ai.ok {w:den Za} {i k b:Nat} (h:Ai w i k b) (ok:Ok w):Ok (put w k (Yx (b:Int))):=by
  refine ok.put2 h.hk (.inr (.inr ⟨rfl,⟨Int.natCast_nonneg b,?_⟩,?_⟩)) h.room (fun j hj => ?_)
  · show (b:Int)<_
    rw [← ok.right.w1]; exact Int.ofNat_lt.2 h.hb
  · show List.getD (w.1.2.2.2.2.1:List Bool) (Int.toNat (b:Int)) false=true
    rw [Int.toNat_natCast]; exact h.box
  · obtain ⟨p,hp⟩:=BG3 ok h.hk h.hb h.wi hj
    refine ⟨p,_,hp,?_⟩
    have:¬ 4<dOf w k b j:=fun h4=>h.deep ((AK9 ok h.hk h.hb h.wi).1 ⟨j,hj,h4⟩)
    omega
theorem Dq.moved {w:den Za} {i k b:Nat} (h:Dq w i k b) (ok:Ok w):Pd w (put w k (Xz i)) k (Xz i) 0:=AI5 ok.right h.hk (show ¬ (1:Int)=2 by decide)
theorem Dq.ok {w:den Za} {i k b:Nat} (h:Dq w i k b) (ok:Ok w) (hi:i<List.length (w.2.1:List Int)):Ok (put w k (Xz i)):=by
  have m:=h.moved ok
  refine ok.put2 h.hk (.inr (.inl ⟨rfl,Int.natCast_nonneg i,?_⟩)) h.room (fun j hj => ?_)
  · show (i:Int)<_
    rw [← ok.right.a1]; exact Int.ofNat_lt.2 hi
  · have:=(Ce ok.right hj).2
    by_cases hw:WiW w j k
    · exact ⟨_,_,(m.inn j hj hw).1,by omega⟩
    · exact ⟨_,_,m.out j hj hw,this⟩
theorem AMm (w:den Za) (i:Nat) (k b:Int):(putR w i k b).2.1=putErr w i k b:=by
  unfold putR
  split
  · rename_i h; exact h.symm
  · rfl
theorem AJg (w:den Za) (i:Nat) (k b:Int):(takeR w i k b).2.1=takeErr w i k b:=by
  unfold takeR
  split
  · rename_i h; exact h.symm
  · rfl
theorem E6 {w:den Za} {i:Nat} {k b:Int} (h:¬ takeErr w i k b=0):takeR w i k b=(w,takeErr w i k b,()):=if_neg h
theorem Bg {w:den Za} {i:Nat} {k b:Int} (h:¬ putErr w i k b=0):putR w i k b=(w,putErr w i k b,()):=if_neg h
theorem Bx {w:den Za} {i k:Nat} {b:Int} (h:takeErr w i k b=0):takeR w i k b=(put w k (Xz i),0,()):=if_pos h
theorem AAy {w:den Za} {i k:Nat} {b:Int} (h:putErr w i k b=0):putR w i k b=(put w k (Yx b),0,()):=if_pos h
end Go.Proofs.YtpemapoblhleoaaGreatDoor.Ghost
