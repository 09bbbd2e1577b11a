/- What functions come to, and that the statements are answered with 'true'. Conditions: none. -/
import Derived.Test.YtmemggdjnfccfaaGreatDoorS
import Derived.Test.YtmemggdjnfccfaaGreatDoorGE
import Derived.Test.YtmemggdjnfccfaaGreatDoorP1
import Derived.Test.YtmemggdjnfccfaaGreatDoorP2
import Derived.Test.YtmemggdjnfccfaaGreatDoorP3
import Derived.Test.YtmemggdjnfccfaaGreatDoorP4
import Derived.Test.YtmemggdjnfccfaaGreatDoorP5
import Derived.Test.YtmemggdjnfccfaaGreatDoorP6
import Derived.Test.YtmemggdjnfccfaaGreatDoorP7
set_option linter.unusedVariables false
set_option linter.unusedSimpArgs false
set_option linter.unusedSectionVars false
set_option linter.unnecessarySimpa false
namespace Go.Proofs.YtmemggdjnfccfaaGreatDoor.Ghost
open Go
abbrev Tk (w:den Zb) (b:Nat):Bool:=List.getD (w.1.2.2.2.2.1:List Bool) b false
def Vk (w:den Zb) (i j:Nat):Prop:=Xd w j=E4 (Yc w i)∨Xd w j=X2 i
def inR (w:den Zb) (k:Int):Prop:=0≤k∧k<(List.length (w.2.2.2.1:List (den Za)):Int)
open Classical in
noncomputable def putErr (w:den Zb) (i:Nat) (k b:Int):Int:=if inR w k∧inR w b then
  (if Xs w k.toNat=X2 i∧Vk w i b.toNat then
    (if Tk w b.toNat=true then
      (if WiW w b.toNat k.toNat then 7 else if 4<X6 w b.toNat+1+Uy w k.toNat then 8 else if Y0 w (Yu b)<1 then 9 else 0)
    else 6)
  else 5) else 3
open Classical in
noncomputable def takeErr (w:den Zb) (i:Nat) (k b:Int):Int:=if inR w k∧inR w b then
  (if Vk w i b.toNat then
    (if Tk w b.toNat=true then
      (if Xs w k.toNat=Yu b then (if Y0 w (X2 i)<1 then 9 else 0) else 5)
    else 6)
  else 5) else 3
open Classical in
noncomputable def putR (w:den Zb) (i:Nat) (k b:Int):den Zb×Int×Unit:=if putErr w i k b=0 then (put w k.toNat (Yu b),0,()) else (w,putErr w i k b,())
open Classical in
noncomputable def takeR (w:den Zb) (i:Nat) (k b:Int):den Zb×Int×Unit:=if takeErr w i k b=0 then (put w k.toNat (X2 i),0,()) else (w,takeErr w i k b,())
theorem AF9 (b:Int):(0:Int)≤(Yu b).1∧((Yu b).1:Int)<3:=⟨by show (0:Int)≤2; decide,by show (2:Int)<3; decide⟩
theorem Ul (i:Nat):(0:Int)≤(X2 i).1∧((X2 i).1:Int)<3:=⟨by show (0:Int)≤1; decide,by show (1:Int)<3; decide⟩
theorem Yy (w:den Zb) (k:Int):Zd (fun nf _ _ _=>Jh nf (w) (k)) (fun r=>r=((dec (¬ inR w k),()),[])):=by
  refine Zd.succ (fun nf _ _ _=>Jh.eq nf _ _) ?_
  by_cases h:k<0 <;> by_cases h2:(List.length (w.2.2.2.1:List (den Za)):Int)≤k <;> simp [h,h2,inR] <;> omega
theorem Lm (w:den Zb) (ok:Ok w) {i j:Nat} (hi:i<List.length (w.2.1:List Int)) (hj:j<List.length (w.2.2.2.1:List (den Za))):Zd (fun nf _ _ _=>Vf nf (w) ((i:Int)) ((j:Int))) (fun r=>r=((dec (Vk w i j),()),[])):=by
  refine Zd.succ (fun nf _ _ _=>Vf.eq nf _ _ _) ?_
  simp [-List.getD_eq_getElem?_getD,-List.length_eq_zero_iff,Zp,Zm,Zy,Zo,Xj,Xi,Yb,Ze (Pz w ok.right hj),(Pz w ok.right hj).prop,hi]
  exact ⟨.inl,fun h=>⟨.inr,fun h'=>h'.resolve_left h⟩⟩
theorem ADr {w:den Zb} (ok:Ok w) {i k b:Nat} (hi:i<List.length (w.2.1:List Int)) (hk:k<List.length (w.2.2.2.1:List (den Za))) (hb:b<List.length (w.2.2.2.1:List (den Za))) :
    Zd (fun nf _ _ _=>Ql nf (w) ((k:Int)) ((b:Int)) (3) (w) ((k:Int)) (X2 i) ((i:Int)) ((b:Int)) (5) (w) ((b:Int)) (6) (w) ((b:Int)) ((k:Int)) (7) (w) ((b:Int)) ((k:Int)) (8) (w) (Yu (b:Int)) (9)) (fun r=>r=((putErr w i k b,()),[])):=by
  have hbx:b<List.length (w.1.2.2.2.2.1:List Bool):=by rw [ok.right.may.b1,← ok.right.w1]; exact hb
  have hd:=(B4 ok.right hb).2
  have hh:=ASo ok.right hk
  have s1:Zd (fun nf _ _ _=>Qg nf (w) ((k:Int)) ((b:Int))) (fun r=>r=((false,()),[])):=by
    refine Zd.succ (fun nf _ _ _=>Qg.eq nf _ _ _) ?_
    simp [-List.getD_eq_getElem?_getD,-List.length_eq_zero_iff,Zp,Zm,Zy,Zo,Xj,Xi,Yb,Ze (Yy w (k:Int)),(Yy w (k:Int)).prop,Ze (Yy w (b:Int)),(Yy w (b:Int)).prop,inR,hk,hb]
  have s2:Zd (fun nf _ _ _=>J1 nf (w) ((k:Int)) (X2 i) ((i:Int)) ((b:Int))) (fun r=>r=((dec (¬ (Xs w k=X2 i∧Vk w i b)),()),[])):=by
    refine Zd.succ (fun nf _ _ _=>J1.eq nf _ _ _ _ _) ?_
    simp [-List.getD_eq_getElem?_getD,-List.length_eq_zero_iff,Zp,Zm,Zy,Zo,Xj,Xi,Yb,hk,Ze (Lm w ok hi hb),(Lm w ok hi hb).prop]
    by_cases c1:Xs w k=X2 i <;> by_cases c2:Vk w i b <;> simp [-List.getD_eq_getElem?_getD,-List.length_eq_zero_iff,Zp,Zm,Zy,Zo,Xj,Xi,Yb,c1,c2]
  have s3:Zd (fun nf _ _ _=>J2 nf (w) ((b:Int))) (fun r=>r=((!Tk w b,()),[])):=by
    refine Zd.succ (fun nf _ _ _=>J2.eq nf _ _) ?_
    simp [-List.getD_eq_getElem?_getD,-List.length_eq_zero_iff,Zp,Zm,Zy,Zo,Xj,Xi,Yb,hbx]
  have s4:Zd (fun nf _ _ _=>J3 nf (w) ((b:Int)) ((k:Int))) (fun r=>r=((dec (WiW w b k),()),[])):=by
    refine Zd.succ (fun nf _ _ _=>J3.eq nf _ _ _) ?_
    simp [-List.getD_eq_getElem?_getD,-List.length_eq_zero_iff,Zp,Zm,Zy,Zo,Xj,Xi,Yb,Ze (Rw w ok.right hb k),(Rw w ok.right hb k).bprop]
  have s5:Zd (fun nf _ _ _=>J4 nf (w) ((b:Int)) ((k:Int))) (fun r=>r=((decide (4<X6 w b+1+Uy w k),()),[])):=by
    refine Zd.succ (fun nf _ _ _=>J4.eq nf _ _ _) ?_
    simp [-List.getD_eq_getElem?_getD,-List.length_eq_zero_iff,Zp,Zm,Zy,Zo,Xj,Xi,Yb,Ze (U5 w ok.right hb),(U5 w ok.right hb).prop,Ze (Nu w ok hk),(Nu w ok hk).prop]
    rw [Gb (n:=(X6 w b:Int)+1) (by omega) (by omega),Gb (by omega) (by omega)]
    omega
  have s6:Zd (fun nf _ _ _=>J5 nf (w) (Yu (b:Int))) (fun r=>r=((decide (Y0 w (Yu b)<1),()),[])):=by
    refine Zd.succ (fun nf _ _ _=>J5.eq nf _ _) ?_
    simp [-List.getD_eq_getElem?_getD,-List.length_eq_zero_iff,Zp,Zm,Zy,Zo,Xj,Xi,Yb,Ze (Qy w ok (Yu (b:Int)) (AF9 b)),(Qy w ok (Yu (b:Int)) (AF9 b)).prop]
  refine Zd.add 14 (fun nf _ _ _=>Ql.eq nf _ _ _ _ _ _ _ _ _ _ _ _ _ _ _ _ _ _ _ _ _ _ _ _) ?_
  simp [-List.getD_eq_getElem?_getD,-List.length_eq_zero_iff,Zp,Zm,Zy,Zo,Xj,Xi,Yb,Ze (s1.shift 13),(s1.shift 13).prop,Ze (s2.shift 13),(s2.shift 13).prop,Ze (s3.shift 13),(s3.shift 13).prop,Ze (s4.shift 13),(s4.shift 13).prop,Ze (s5.shift 13),(s5.shift 13).prop,Ze (s6.shift 13),(s6.shift 13).prop,putErr,inR,hk,hb]
  by_cases c1:Xs w k=X2 i <;> by_cases c2:Vk w i b <;> by_cases c3:Tk w b=true <;> by_cases c4:WiW w b k <;> by_cases c5:4<X6 w b+1+Uy w k <;> by_cases c6:Y0 w (Yu b)<1 <;> simp [-List.getD_eq_getElem?_getD,-List.length_eq_zero_iff,Zp,Zm,Zy,Zo,Xj,Xi,Yb,c1,c2,c3,c4,c5,c6]
theorem Qk {w:den Zb} {k:Int} (h:inR w k):∃ n:Nat,k=(n:Int)∧n<List.length (w.2.2.2.1:List (den Za)):=⟨k.toNat,by have:=h.1; omega,by have:=h.1; have:=h.2; omega⟩
theorem ABx {w:den Zb} (ok:Ok w) {i:Nat} (hi:i<List.length (w.2.1:List Int)) (k b:Int):Zd (fun nf _ _ _=>Ql nf (w) (k) (b) (3) (w) (k) (X2 i) ((i:Int)) (b) (5) (w) (b) (6) (w) (b) (k) (7) (w) (b) (k) (8) (w) (Yu b) (9)) (fun r=>r=((putErr w i k b,()),[])):=by
  by_cases hk:inR w k
  · by_cases hb:inR w b
    · obtain ⟨k,rfl,hkn⟩:=Qk hk
      obtain ⟨b,rfl,hbn⟩:=Qk hb
      exact ADr ok hi hkn hbn
    · refine Zd.add 14 (fun nf _ _ _=>Ql.eq nf _ _ _ _ _ _ _ _ _ _ _ _ _ _ _ _ _ _ _ _ _ _ _ _) ?_
      have s1:Zd (fun nf _ _ _=>Qg nf (w) (k) (b)) (fun r=>r=((true,()),[])):=by
        refine Zd.succ (fun nf _ _ _=>Qg.eq nf _ _ _) ?_
        simp [-List.getD_eq_getElem?_getD,-List.length_eq_zero_iff,Zp,Zm,Zy,Zo,Xj,Xi,Yb,Ze (Yy w k),(Yy w k).prop,Ze (Yy w b),(Yy w b).prop,hk,hb]
      simp [-List.getD_eq_getElem?_getD,-List.length_eq_zero_iff,Zp,Zm,Zy,Zo,Xj,Xi,Yb,Ze (s1.shift 13),(s1.shift 13).prop,putErr,hk,hb]
  · refine Zd.add 14 (fun nf _ _ _=>Ql.eq nf _ _ _ _ _ _ _ _ _ _ _ _ _ _ _ _ _ _ _ _ _ _ _ _) ?_
    have s1:Zd (fun nf _ _ _=>Qg nf (w) (k) (b)) (fun r=>r=((true,()),[])):=by
      refine Zd.succ (fun nf _ _ _=>Qg.eq nf _ _ _) ?_
      simp [-List.getD_eq_getElem?_getD,-List.length_eq_zero_iff,Zp,Zm,Zy,Zo,Xj,Xi,Yb,Ze (Yy w k),(Yy w k).prop,Ze (Yy w b),(Yy w b).prop,hk]
    simp [-List.getD_eq_getElem?_getD,-List.length_eq_zero_iff,Zp,Zm,Zy,Zo,Xj,Xi,Yb,Ze (s1.shift 13),(s1.shift 13).prop,putErr,hk]
theorem AA8 {w:den Zb} (ok:Ok w) {i k b:Nat} (hi:i<List.length (w.2.1:List Int)) (hk:k<List.length (w.2.2.2.1:List (den Za))) (hb:b<List.length (w.2.2.2.1:List (den Za))) :
    Zd (fun nf _ _ _=>Qv nf (w) ((k:Int)) ((b:Int)) (3) (w) ((i:Int)) ((b:Int)) (5) (w) ((b:Int)) (6) (w) ((k:Int)) (Yu (b:Int)) (5) (w) (X2 i) (9)) (fun r=>r=((takeErr w i k b,()),[])):=by
  have hbx:b<List.length (w.1.2.2.2.2.1:List Bool):=by rw [ok.right.may.b1,← ok.right.w1]; exact hb
  have s1:Zd (fun nf _ _ _=>Y1 nf (w) ((k:Int)) ((b:Int))) (fun r=>r=((false,()),[])):=by
    refine Zd.succ (fun nf _ _ _=>Y1.eq nf _ _ _) ?_
    simp [-List.getD_eq_getElem?_getD,-List.length_eq_zero_iff,Zp,Zm,Zy,Zo,Xj,Xi,Yb,Ze (Yy w (k:Int)),(Yy w (k:Int)).prop,Ze (Yy w (b:Int)),(Yy w (b:Int)).prop,inR,hk,hb]
  have s2:Zd (fun nf _ _ _=>Ja nf (w) ((i:Int)) ((b:Int))) (fun r=>r=((dec (¬ Vk w i b),()),[])):=by
    refine Zd.succ (fun nf _ _ _=>Ja.eq nf _ _ _) ?_
    simp [-List.getD_eq_getElem?_getD,-List.length_eq_zero_iff,Zp,Zm,Zy,Zo,Xj,Xi,Yb,Ze (Lm w ok hi hb),(Lm w ok hi hb).prop]
  have s3:Zd (fun nf _ _ _=>Jb nf (w) ((b:Int))) (fun r=>r=((!Tk w b,()),[])):=by
    refine Zd.succ (fun nf _ _ _=>Jb.eq nf _ _) ?_
    simp [-List.getD_eq_getElem?_getD,-List.length_eq_zero_iff,Zp,Zm,Zy,Zo,Xj,Xi,Yb,hbx]
  have s4:Zd (fun nf _ _ _=>Jc nf (w) ((k:Int)) (Yu (b:Int))) (fun r=>r=((dec (¬ Xs w k=Yu (b:Int)),()),[])):=by
    refine Zd.succ (fun nf _ _ _=>Jc.eq nf _ _ _) ?_
    simp [-List.getD_eq_getElem?_getD,-List.length_eq_zero_iff,Zp,Zm,Zy,Zo,Xj,Xi,Yb,hk]
  have s5:Zd (fun nf _ _ _=>Jd nf (w) (X2 i)) (fun r=>r=((decide (Y0 w (X2 i)<1),()),[])):=by
    refine Zd.succ (fun nf _ _ _=>Jd.eq nf _ _) ?_
    simp [-List.getD_eq_getElem?_getD,-List.length_eq_zero_iff,Zp,Zm,Zy,Zo,Xj,Xi,Yb,Ze (Qy w ok (X2 i) (Ul i)),(Qy w ok (X2 i) (Ul i)).prop]
  refine Zd.add 14 (fun nf _ _ _=>Qv.eq nf _ _ _ _ _ _ _ _ _ _ _ _ _ _ _ _ _ _) ?_
  simp [-List.getD_eq_getElem?_getD,-List.length_eq_zero_iff,Zp,Zm,Zy,Zo,Xj,Xi,Yb,Ze (s1.shift 13),(s1.shift 13).prop,Ze (s2.shift 13),(s2.shift 13).prop,Ze (s3.shift 13),(s3.shift 13).prop,Ze (s4.shift 13),(s4.shift 13).prop,Ze (s5.shift 13),(s5.shift 13).prop,takeErr,inR,hk,hb]
  by_cases c1:Vk w i b <;> by_cases c2:Tk w b=true <;> by_cases c3:Xs w k=Yu (b:Int) <;> by_cases c4:Y0 w (X2 i)<1 <;> simp [-List.getD_eq_getElem?_getD,-List.length_eq_zero_iff,Zp,Zm,Zy,Zo,Xj,Xi,Yb,c1,c2,c3,c4]
theorem Ag {w:den Zb} (ok:Ok w) {i:Nat} (hi:i<List.length (w.2.1:List Int)) (k b:Int):Zd (fun nf _ _ _=>Qv nf (w) (k) (b) (3) (w) ((i:Int)) (b) (5) (w) (b) (6) (w) (k) (Yu b) (5) (w) (X2 i) (9)) (fun r=>r=((takeErr w i k b,()),[])):=by
  by_cases hk:inR w k
  · by_cases hb:inR w b
    · obtain ⟨k,rfl,hkn⟩:=Qk hk
      obtain ⟨b,rfl,hbn⟩:=Qk hb
      exact AA8 ok hi hkn hbn
    · refine Zd.add 14 (fun nf _ _ _=>Qv.eq nf _ _ _ _ _ _ _ _ _ _ _ _ _ _ _ _ _ _) ?_
      have s1:Zd (fun nf _ _ _=>Y1 nf (w) (k) (b)) (fun r=>r=((true,()),[])):=by
        refine Zd.succ (fun nf _ _ _=>Y1.eq nf _ _ _) ?_
        simp [-List.getD_eq_getElem?_getD,-List.length_eq_zero_iff,Zp,Zm,Zy,Zo,Xj,Xi,Yb,Ze (Yy w k),(Yy w k).prop,Ze (Yy w b),(Yy w b).prop,hk,hb]
      simp [-List.getD_eq_getElem?_getD,-List.length_eq_zero_iff,Zp,Zm,Zy,Zo,Xj,Xi,Yb,Ze (s1.shift 13),(s1.shift 13).prop,takeErr,hk,hb]
  · refine Zd.add 14 (fun nf _ _ _=>Qv.eq nf _ _ _ _ _ _ _ _ _ _ _ _ _ _ _ _ _ _) ?_
    have s1:Zd (fun nf _ _ _=>Y1 nf (w) (k) (b)) (fun r=>r=((true,()),[])):=by
      refine Zd.succ (fun nf _ _ _=>Y1.eq nf _ _ _) ?_
      simp [-List.getD_eq_getElem?_getD,-List.length_eq_zero_iff,Zp,Zm,Zy,Zo,Xj,Xi,Yb,Ze (Yy w k),(Yy w k).prop,Ze (Yy w b),(Yy w b).prop,hk]
    simp [-List.getD_eq_getElem?_getD,-List.length_eq_zero_iff,Zp,Zm,Zy,Zo,Xj,Xi,Yb,Ze (s1.shift 13),(s1.shift 13).prop,takeErr,hk]
theorem Dl {w:den Zb} {i:Nat} {k b:Int} (h:¬ putErr w i k b=3):inR w k∧inR w b:=by
  by_cases hn:inR w k∧inR w b
  · exact hn
  · exact absurd (by unfold putErr; rw [if_neg hn]) h
theorem Ir {w:den Zb} {i:Nat} {k b:Int} (h:¬ takeErr w i k b=3):inR w k∧inR w b:=by
  by_cases hn:inR w k∧inR w b
  · exact hn
  · exact absurd (by unfold takeErr; rw [if_neg hn]) h
theorem AOw {w:den Zb} (ok:Ok w) {i:Nat} (hi:i<List.length (w.2.1:List Int)) (k b:Int):Zd (fun nf _ _ _=>Kp nf (w) ((i:Int)) (k) (b)) (fun r=>r=(putR w i k b,[])):=by
  refine Zd.succ (fun nf _ _ _=>Kp.eq nf _ _ _ _) ?_
  simp [-List.getD_eq_getElem?_getD,-List.length_eq_zero_iff,Zp,Zm,Zy,Zo,Xj,Xi,Yb,Ze (ABx ok hi k b),(ABx ok hi k b).prop]
  by_cases h:putErr w i k b=0
  · obtain ⟨hk,hb⟩:=Dl (show ¬ putErr w i k b=3 by rw [h]; decide)
    obtain ⟨k,rfl,hkn⟩:=Qk hk
    simp [-List.getD_eq_getElem?_getD,-List.length_eq_zero_iff,Zp,Zm,Zy,Zo,Xj,Xi,Yb,h,Ze (Nk w ok.sm hkn (Yu b)),(Nk w ok.sm hkn (Yu b)).prop,putR]
  · simp [-List.getD_eq_getElem?_getD,-List.length_eq_zero_iff,Zp,Zm,Zy,Zo,Xj,Xi,Yb,h,putR]
theorem ALq {w:den Zb} (ok:Ok w) {i:Nat} (hi:i<List.length (w.2.1:List Int)) (k b:Int):Zd (fun nf _ _ _=>V1 nf (w) ((i:Int)) (k) (b)) (fun r=>r=(takeR w i k b,[])):=by
  refine Zd.succ (fun nf _ _ _=>V1.eq nf _ _ _ _) ?_
  simp [-List.getD_eq_getElem?_getD,-List.length_eq_zero_iff,Zp,Zm,Zy,Zo,Xj,Xi,Yb,Ze (Ag ok hi k b),(Ag ok hi k b).prop]
  by_cases h:takeErr w i k b=0
  · obtain ⟨hk,hb⟩:=Ir (show ¬ takeErr w i k b=3 by rw [h]; decide)
    obtain ⟨k,rfl,hkn⟩:=Qk hk
    simp [-List.getD_eq_getElem?_getD,-List.length_eq_zero_iff,Zp,Zm,Zy,Zo,Xj,Xi,Yb,h,Ze (Nk w ok.sm hkn (X2 i)),(Nk w ok.sm hkn (X2 i)).prop,takeR]
  · simp [-List.getD_eq_getElem?_getD,-List.length_eq_zero_iff,Zp,Zm,Zy,Zo,Xj,Xi,Yb,h,takeR]
end Go.Proofs.YtmemggdjnfccfaaGreatDoor.Ghost
namespace Go.Proofs.YtmemggdjnfccfaaGreatDoor.Ghost
open Go
theorem root_iff (w:den Zb) (j:Nat) (a b:Int):Xd w j=(a,b,())↔(Xd w j).1=a∧(Xd w j).2.1=b :=
  ⟨fun h=>by rw [h]; exact ⟨rfl,rfl⟩,fun h=>Prod.ext h.1 (Prod.ext h.2 rfl)⟩
section
variable {w:den Zb} (ok:Ok w) {k b:Nat} (hk:k<List.length (w.2.2.2.1:List (den Za))) (hb:b<List.length (w.2.2.2.1:List (den Za))) (hn:¬ WiW w b k)
open Classical in
noncomputable def dOf (w:den Zb) (k b j:Nat):Nat:=if WiW w j k then X6 w b+1+(X6 w j - X6 w k) else X6 w j
include ok hk hb hn
theorem BL3 {j:Nat} (hj:j<List.length (w.2.2.2.1:List (den Za))):∃ p,Uu (put w k (Yu (b:Int))).2.2.2.1 j p (dOf w k b j):=by
  have m:=Db ok.right hk hb hn
  unfold dOf
  by_cases hw:WiW w j k
  · rw [if_pos hw]; exact ⟨_,(m.inn j hj hw).1⟩
  · rw [if_neg hw]; exact ⟨_,m.out j hj hw⟩
theorem ANm:(∃ j,j<List.length (w.2.2.2.1:List (den Za))∧4<dOf w k b j)↔4<X6 w b+1+Uy w k:=by
  constructor
  · rintro ⟨j,hj,hd⟩
    unfold dOf at hd
    split at hd
    · rename_i hw
      have:X6 w j - X6 w k≤Uy w k:=AJb (w:=w) (i:=k) hj hw
      omega
    · have:=(B4 ok.right hj).2
      omega
  · intro h
    rcases C8 (w:=w) (i:=k) (List.length (w.2.2.2.1:List (den Za))) with h0 | ⟨j,j1,j2,j3⟩
    · have h0:Uy w k=0:=h0
      refine ⟨k,hk,?_⟩
      unfold dOf
      rw [if_pos (.refl k)]; omega
    · have j3:X6 w j - X6 w k=Uy w k:=j3
      refine ⟨j,j1,?_⟩
      unfold dOf
      rw [if_pos j2]; omega
end
end Go.Proofs.YtmemggdjnfccfaaGreatDoor.Ghost
namespace Go.Proofs.YtmemggdjnfccfaaGreatDoor.Ghost
open Go
theorem Ok.put2 {w:den Zb} (ok:Ok w) {k:Nat} (hk:k<List.length (w.2.2.2.1:List (den Za))) {q:Pl} (hg:K3 w.1 q) (hr:1≤Y0 w q) (hd:∀ j,j<List.length (w.2.2.2.1:List (den Za))→∃ p d,Uu (Ghost.put w k q).2.2.2.1 j p d∧d≤4):Ok (Ghost.put w k q):=by
  have h:=ok.right
  have hset:∀ p:Pl,Yv (List.set (w.2.2.2.1:List (den Za)) k q) p (List.length (w.2.2.2.1:List (den Za)))≤Yv w.2.2.2.1 p (List.length (w.2.2.2.1:List (den Za)))+(if q=p then 1 else 0):=fun p=>by
    have:=Rk w.2.2.2.1 k q p hk (List.length (w.2.2.2.1:List (den Za)))
    simp only [hk,true_and] at this
    omega
  refine ⟨AO4 ok.sm k q,h.may,h.a1,h.c1,by rw [Hb]; exact h.w1,h.at_,fun i hi => ?_,fun i hi => ?_⟩
  · rw [Hb] at hi
    rw [Mu w k i q hk]
    split
    · exact hg
    · exact h.good i hi
  · have hlen:=Hb w k q
    rw [hlen] at hi ⊢
    obtain ⟨p,d,h1,h2⟩:=hd i hi
    have h3:=h1.depI 51 0 (by omega) (by omega)
    rw [Nat.zero_add] at h3
    refine ⟨Nat.le_trans (Nat.le_of_eq h3) h2,?_⟩
    generalize List.getD ((Ghost.put w k q).2.2.2.1:List (den Za)) i (dft Za)=p
    show (Yv (List.set (w.2.2.2.1:List (den Za)) k q) _ _:Int)≤L9 w.1 _
    have h1:=hset p
    by_cases hqp:q=p
    · rw [if_pos hqp] at h1
      subst hqp
      unfold Y0 at hr
      omega
    · rw [if_neg hqp] at h1
      have h2:=(h.room p).1
      unfold Y0 at h2
      omega
structure Bc (w:den Zb) (i k b:Nat):Prop where
  hk:k<List.length (w.2.2.2.1:List (den Za))
  hb:b<List.length (w.2.2.2.1:List (den Za))
  me:Xs w k=X2 i
  near:Vk w i b
  box:Tk w b=true
  wi:¬ WiW w b k
  deep:¬ 4<X6 w b+1+Uy w k
  room:1≤Y0 w (Yu b)
theorem Ck {w:den Zb} {i k b:Nat} (hk:k<List.length (w.2.2.2.1:List (den Za))) (hb:b<List.length (w.2.2.2.1:List (den Za))):putErr w i k b=0↔Bc w i k b:=by
  have h1:inR w (k:Int):=⟨Int.natCast_nonneg k,Int.ofNat_lt.2 hk⟩
  have h2:inR w (b:Int):=⟨Int.natCast_nonneg b,Int.ofNat_lt.2 hb⟩
  unfold putErr
  simp only [h1,h2,and_self,if_true,Int.toNat_natCast]
  constructor
  · intro h
    split at h <;> rename_i c1
    · split at h <;> rename_i c2
      · split at h <;> rename_i c3
        · cases h
        · split at h <;> rename_i c4
          · cases h
          · split at h <;> rename_i c5
            · cases h
            · exact ⟨hk,hb,c1.1,c1.2,c2,c3,c4,by omega⟩
      · cases h
    · cases h
  · intro h
    rw [if_pos ⟨h.me,h.near⟩,if_pos h.box,if_neg h.wi,if_neg h.deep,if_neg (by have:=h.room; omega)]
structure Ej (w:den Zb) (i k b:Nat):Prop where
  hk:k<List.length (w.2.2.2.1:List (den Za))
  hb:b<List.length (w.2.2.2.1:List (den Za))
  near:Vk w i b
  box:Tk w b=true
  at_:Xs w k=Yu b
  room:1≤Y0 w (X2 i)
theorem Ea {w:den Zb} {i k b:Nat} (hk:k<List.length (w.2.2.2.1:List (den Za))) (hb:b<List.length (w.2.2.2.1:List (den Za))):takeErr w i k b=0↔Ej w i k b:=by
  have h1:inR w (k:Int):=⟨Int.natCast_nonneg k,Int.ofNat_lt.2 hk⟩
  have h2:inR w (b:Int):=⟨Int.natCast_nonneg b,Int.ofNat_lt.2 hb⟩
  unfold takeErr
  simp only [h1,h2,and_self,if_true,Int.toNat_natCast]
  constructor
  · intro h
    split at h <;> rename_i c1
    · split at h <;> rename_i c2
      · split at h <;> rename_i c3
        · split at h <;> rename_i c4
          · cases h
          · exact ⟨hk,hb,c1,c2,c3,by omega⟩
        · cases h
      · cases h
    · cases h
  · intro h
    rw [if_pos h.near,if_pos h.box,if_pos h.at_,if_neg (by have:=h.room; omega)]
theorem AK9 (i b:Nat):¬ X2 i=Yu (b:Int):=fun e=>by
  have:(1:Int)=2:=congrArg (fun p:Pl=>(p.1:Int)) e
  cases this
theorem Bc.moved {w:den Zb} {i k b:Nat} (h:Bc w i k b) (ok:Ok w):Wf w (put w k (Yu (b:Int))) k (Xd w b) (X6 w b+1):=Db ok.right h.hk h.hb h.wi
theorem Bc.ok {w:den Zb} {i k b:Nat} (h:Bc w i k b) (ok:Ok w):Ok (put w k (Yu (b:Int))):=by
  refine ok.put2 h.hk (.inr (.inr ⟨rfl,⟨Int.natCast_nonneg b,?_⟩,?_⟩)) h.room (fun j hj => ?_)
  · show (b:Int)<_
    rw [← ok.right.w1]; exact Int.ofNat_lt.2 h.hb
  · show List.getD (w.1.2.2.2.2.1:List Bool) (Int.toNat (b:Int)) false=true
    rw [Int.toNat_natCast]; exact h.box
  · obtain ⟨p,hp⟩:=BL3 ok h.hk h.hb h.wi hj
    refine ⟨p,_,hp,?_⟩
    have:¬ 4<dOf w k b j:=fun h4=>h.deep ((ANm ok h.hk h.hb h.wi).1 ⟨j,hj,h4⟩)
    omega
theorem Ej.moved {w:den Zb} {i k b:Nat} (h:Ej w i k b) (ok:Ok w):Wf w (put w k (X2 i)) k (X2 i) 0:=Dc ok.right h.hk (show ¬ (1:Int)=2 by decide)
theorem Ej.ok {w:den Zb} {i k b:Nat} (h:Ej w i k b) (ok:Ok w) (hi:i<List.length (w.2.1:List Int)):Ok (put w k (X2 i)):=by
  have m:=h.moved ok
  refine ok.put2 h.hk (.inr (.inl ⟨rfl,Int.natCast_nonneg i,?_⟩)) h.room (fun j hj => ?_)
  · show (i:Int)<_
    rw [← ok.right.a1]; exact Int.ofNat_lt.2 hi
  · have:=(B4 ok.right hj).2
    by_cases hw:WiW w j k
    · exact ⟨_,_,(m.inn j hj hw).1,by omega⟩
    · exact ⟨_,_,m.out j hj hw,this⟩
theorem Bc.back {w:den Zb} {i k b:Nat} (h:Bc w i k b) (ok:Ok w):Ej (put w k (Yu (b:Int))) i k b:=by
  have ok':=h.ok ok
  have m:=h.moved ok
  have hl:=Hb w k (Yu (b:Int))
  have hat:Xs (put w k (Yu (b:Int))) k=Yu b:=by show List.getD _ k _=_; rw [Mu w k k _ h.hk,if_pos rfl]
  refine ⟨by rw [hl]; exact h.hk,by rw [hl]; exact h.hb,?_,h.box,hat,?_⟩
  · have e:=((m.eqs ok'.right hl h.hb).2 h.wi).1
    have hn:=h.near
    unfold Vk at hn ⊢
    rw [e]
    exact hn
  · rw [ACt w h.hk,if_pos h.me,if_neg (fun e=>AK9 i b e.symm)]
    have:=(ok.right.room (X2 i)).1
    omega
theorem O7 {w:den Zb} {i k:Nat} (h:Xs w k=X2 i):Vk w i k:=.inr (by
  show Rq w.2.2.2.1 51 (Xs w k)=_
  rw [h]; exact Dn (show ¬ (1:Int)=2 by decide) 51)
theorem AOs {w:den Zb} (h:Yf w) {i j b:Nat} (hj:j<List.length (w.2.2.2.1:List (den Za))) (h2:(Xs w j).1=(2:Int)) (hb:(Xs w j).2.1=(b:Int)):Vk w i j↔Vk w i b:=by
  obtain ⟨b',e,_,er⟩:=Mx h hj h2
  obtain rfl:b=b':=Int.ofNat.inj (hb.symm.trans e)
  unfold Vk
  rw [er]
theorem Cs {w:den Zb} {i:Nat} {k b:Int} (h:¬ takeErr w i k b=0):takeR w i k b=(w,takeErr w i k b,()):=if_neg h
theorem AAn {w:den Zb} {i:Nat} {k b:Int} (h:¬ putErr w i k b=0):putR w i k b=(w,putErr w i k b,()):=if_neg h
theorem AIt {w:den Zb} {i k:Nat} {b:Int} (h:takeErr w i k b=0):takeR w i k b=(put w k (X2 i),0,()):=if_pos h
theorem ALi {w:den Zb} {i k:Nat} {b:Int} (h:putErr w i k b=0):putR w i k b=(put w k (Yu b),0,()):=if_pos h
end Go.Proofs.YtmemggdjnfccfaaGreatDoor.Ghost
