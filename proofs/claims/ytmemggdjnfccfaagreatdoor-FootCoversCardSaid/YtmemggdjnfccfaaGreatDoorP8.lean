/- What functions come to, and that the statements are answered with 'true'. Conditions: none. -/
import Derived.Test.YtmemggdjnfccfaaGreatDoorS
import Derived.Test.YtmemggdjnfccfaaGreatDoorGE
import Derived.Test.YtmemggdjnfccfaaGreatDoorP1
import Derived.Test.YtmemggdjnfccfaaGreatDoorP2
import Derived.Test.YtmemggdjnfccfaaGreatDoorP3
import Derived.Test.YtmemggdjnfccfaaGreatDoorP4
import Derived.Test.YtmemggdjnfccfaaGreatDoorP5
import Derived.Test.YtmemggdjnfccfaaGreatDoorP6
import Derived.Test.YtmemggdjnfccfaaGreatDoorP7
set_option linter.unusedVariables false
set_option linter.unusedSimpArgs false
set_option linter.unusedSectionVars false
set_option linter.unnecessarySimpa false
namespace Go.Proofs.YtmemggdjnfccfaaGreatDoor.Ghost
open Go
abbrev O2 (w:den Zb) (b:Nat):Bool:=List.getD (w.1.2.2.2.2.1:List Bool) b false
def Kg (w:den Zb) (i j:Nat):Prop:=Xz w j=AM5 (Qi w i)∨Xz w j=X8 i
def inR (w:den Zb) (k:Int):Prop:=0≤k∧k<(List.length (w.2.2.2.1:List (den Za)):Int)
open Classical in
noncomputable def putErr (w:den Zb) (i:Nat) (k b:Int):Int:=if inR w k∧inR w b then
  (if Yb w k.toNat=X8 i∧Kg w i b.toNat then
    (if O2 w b.toNat=true then
      (if WiW w b.toNat k.toNat then 7 else if 4<X4 w b.toNat+1+Wo w k.toNat then 8 else if Y3 w (Yu b)<1 then 9 else 0)
    else 6)
  else 5) else 3
open Classical in
noncomputable def takeErr (w:den Zb) (i:Nat) (k b:Int):Int:=if inR w k∧inR w b then
  (if Kg w i b.toNat then
    (if O2 w b.toNat=true then
      (if Yb w k.toNat=Yu b then (if Y3 w (X8 i)<1 then 9 else 0) else 5)
    else 6)
  else 5) else 3
open Classical in
noncomputable def putR (w:den Zb) (i:Nat) (k b:Int):den Zb×Int×Unit:=if putErr w i k b=0 then (put w k.toNat (Yu b),0,()) else (w,putErr w i k b,())
open Classical in
noncomputable def takeR (w:den Zb) (i:Nat) (k b:Int):den Zb×Int×Unit:=if takeErr w i k b=0 then (put w k.toNat (X8 i),0,()) else (w,takeErr w i k b,())
theorem AFp (b:Int):(0:Int)≤(Yu b).1∧((Yu b).1:Int)<3:=⟨by show (0:Int)≤2; decide,by show (2:Int)<3; decide⟩
theorem Uf (i:Nat):(0:Int)≤(X8 i).1∧((X8 i).1:Int)<3:=⟨by show (0:Int)≤1; decide,by show (1:Int)<3; decide⟩
theorem Yr (w:den Zb) (k:Int):Ze (fun nf _ _ _=>Q7 nf (w) (k)) (fun r=>r=((dec (¬ inR w k),()),[])):=by
  refine Ze.succ (fun nf _ _ _=>Q7.eq nf _ _) ?_
  by_cases h:k<0 <;> by_cases h2:(List.length (w.2.2.2.1:List (den Za)):Int)≤k <;> simp [h,h2,inR] <;> omega
theorem Mz (w:den Zb) (ok:Ok w) {i j:Nat} (hi:i<List.length (w.2.1:List Int)) (hj:j<List.length (w.2.2.2.1:List (den Za))):Ze (fun nf _ _ _=>Va nf (w) ((i:Int)) ((j:Int))) (fun r=>r=((dec (Kg w i j),()),[])):=by
  refine Ze.succ (fun nf _ _ _=>Va.eq nf _ _ _) ?_
  simp [-List.getD_eq_getElem?_getD,-List.length_eq_zero_iff,Zq,Zl,Zu,Zo,Z9,Z8,Xx,Zd (G2 w ok.right hj),(G2 w ok.right hj).prop,hi]
  exact ⟨.inl,fun h=>⟨.inr,fun h'=>h'.resolve_left h⟩⟩
theorem ADa {w:den Zb} (ok:Ok w) {i k b:Nat} (hi:i<List.length (w.2.1:List Int)) (hk:k<List.length (w.2.2.2.1:List (den Za))) (hb:b<List.length (w.2.2.2.1:List (den Za))) :
    Ze (fun nf _ _ _=>Qc nf (w) ((k:Int)) ((b:Int)) (3) (w) ((k:Int)) (X8 i) ((i:Int)) ((b:Int)) (5) (w) ((b:Int)) (6) (w) ((b:Int)) ((k:Int)) (7) (w) ((b:Int)) ((k:Int)) (8) (w) (Yu (b:Int)) (9)) (fun r=>r=((putErr w i k b,()),[])):=by
  have hbx:b<List.length (w.1.2.2.2.2.1:List Bool):=by rw [ok.right.may.b1,← ok.right.w1]; exact hb
  have hd:=(Bn ok.right hb).2
  have hh:=ARz ok.right hk
  have s1:Ze (fun nf _ _ _=>Y8 nf (w) ((k:Int)) ((b:Int))) (fun r=>r=((false,()),[])):=by
    refine Ze.succ (fun nf _ _ _=>Y8.eq nf _ _ _) ?_
    simp [-List.getD_eq_getElem?_getD,-List.length_eq_zero_iff,Zq,Zl,Zu,Zo,Z9,Z8,Xx,Zd (Yr w (k:Int)),(Yr w (k:Int)).prop,Zd (Yr w (b:Int)),(Yr w (b:Int)).prop,inR,hk,hb]
  have s2:Ze (fun nf _ _ _=>Jr nf (w) ((k:Int)) (X8 i) ((i:Int)) ((b:Int))) (fun r=>r=((dec (¬ (Yb w k=X8 i∧Kg w i b)),()),[])):=by
    refine Ze.succ (fun nf _ _ _=>Jr.eq nf _ _ _ _ _) ?_
    simp [-List.getD_eq_getElem?_getD,-List.length_eq_zero_iff,Zq,Zl,Zu,Zo,Z9,Z8,Xx,hk,Zd (Mz w ok hi hb),(Mz w ok hi hb).prop]
    by_cases c1:Yb w k=X8 i <;> by_cases c2:Kg w i b <;> simp [-List.getD_eq_getElem?_getD,-List.length_eq_zero_iff,Zq,Zl,Zu,Zo,Z9,Z8,Xx,c1,c2]
  have s3:Ze (fun nf _ _ _=>Js nf (w) ((b:Int))) (fun r=>r=((!O2 w b,()),[])):=by
    refine Ze.succ (fun nf _ _ _=>Js.eq nf _ _) ?_
    simp [-List.getD_eq_getElem?_getD,-List.length_eq_zero_iff,Zq,Zl,Zu,Zo,Z9,Z8,Xx,hbx]
  have s4:Ze (fun nf _ _ _=>Jt nf (w) ((b:Int)) ((k:Int))) (fun r=>r=((dec (WiW w b k),()),[])):=by
    refine Ze.succ (fun nf _ _ _=>Jt.eq nf _ _ _) ?_
    simp [-List.getD_eq_getElem?_getD,-List.length_eq_zero_iff,Zq,Zl,Zu,Zo,Z9,Z8,Xx,Zd (Rk w ok.right hb k),(Rk w ok.right hb k).bprop]
  have s5:Ze (fun nf _ _ _=>Ju nf (w) ((b:Int)) ((k:Int))) (fun r=>r=((decide (4<X4 w b+1+Wo w k),()),[])):=by
    refine Ze.succ (fun nf _ _ _=>Ju.eq nf _ _ _) ?_
    simp [-List.getD_eq_getElem?_getD,-List.length_eq_zero_iff,Zq,Zl,Zu,Zo,Z9,Z8,Xx,Zd (Ux w ok.right hb),(Ux w ok.right hb).prop,Zd (O9 w ok hk),(O9 w ok hk).prop]
    rw [K6 (n:=(X4 w b:Int)+1) (by omega) (by omega),K6 (by omega) (by omega)]
    omega
  have s6:Ze (fun nf _ _ _=>Jv nf (w) (Yu (b:Int))) (fun r=>r=((decide (Y3 w (Yu b)<1),()),[])):=by
    refine Ze.succ (fun nf _ _ _=>Jv.eq nf _ _) ?_
    simp [-List.getD_eq_getElem?_getD,-List.length_eq_zero_iff,Zq,Zl,Zu,Zo,Z9,Z8,Xx,Zd (Qq w ok (Yu (b:Int)) (AFp b)),(Qq w ok (Yu (b:Int)) (AFp b)).prop]
  refine Ze.add 14 (fun nf _ _ _=>Qc.eq nf _ _ _ _ _ _ _ _ _ _ _ _ _ _ _ _ _ _ _ _ _ _ _ _) ?_
  simp [-List.getD_eq_getElem?_getD,-List.length_eq_zero_iff,Zq,Zl,Zu,Zo,Z9,Z8,Xx,Zd (s1.shift 13),(s1.shift 13).prop,Zd (s2.shift 13),(s2.shift 13).prop,Zd (s3.shift 13),(s3.shift 13).prop,Zd (s4.shift 13),(s4.shift 13).prop,Zd (s5.shift 13),(s5.shift 13).prop,Zd (s6.shift 13),(s6.shift 13).prop,putErr,inR,hk,hb]
  by_cases c1:Yb w k=X8 i <;> by_cases c2:Kg w i b <;> by_cases c3:O2 w b=true <;> by_cases c4:WiW w b k <;> by_cases c5:4<X4 w b+1+Wo w k <;> by_cases c6:Y3 w (Yu b)<1 <;> simp [-List.getD_eq_getElem?_getD,-List.length_eq_zero_iff,Zq,Zl,Zu,Zo,Z9,Z8,Xx,c1,c2,c3,c4,c5,c6]
theorem J3 {w:den Zb} {k:Int} (h:inR w k):∃ n:Nat,k=(n:Int)∧n<List.length (w.2.2.2.1:List (den Za)):=⟨k.toNat,by have:=h.1; omega,by have:=h.1; have:=h.2; omega⟩
theorem ABg {w:den Zb} (ok:Ok w) {i:Nat} (hi:i<List.length (w.2.1:List Int)) (k b:Int):Ze (fun nf _ _ _=>Qc nf (w) (k) (b) (3) (w) (k) (X8 i) ((i:Int)) (b) (5) (w) (b) (6) (w) (b) (k) (7) (w) (b) (k) (8) (w) (Yu b) (9)) (fun r=>r=((putErr w i k b,()),[])):=by
  by_cases hk:inR w k
  · by_cases hb:inR w b
    · obtain ⟨k,rfl,hkn⟩:=J3 hk
      obtain ⟨b,rfl,hbn⟩:=J3 hb
      exact ADa ok hi hkn hbn
    · refine Ze.add 14 (fun nf _ _ _=>Qc.eq nf _ _ _ _ _ _ _ _ _ _ _ _ _ _ _ _ _ _ _ _ _ _ _ _) ?_
      have s1:Ze (fun nf _ _ _=>Y8 nf (w) (k) (b)) (fun r=>r=((true,()),[])):=by
        refine Ze.succ (fun nf _ _ _=>Y8.eq nf _ _ _) ?_
        simp [-List.getD_eq_getElem?_getD,-List.length_eq_zero_iff,Zq,Zl,Zu,Zo,Z9,Z8,Xx,Zd (Yr w k),(Yr w k).prop,Zd (Yr w b),(Yr w b).prop,hk,hb]
      simp [-List.getD_eq_getElem?_getD,-List.length_eq_zero_iff,Zq,Zl,Zu,Zo,Z9,Z8,Xx,Zd (s1.shift 13),(s1.shift 13).prop,putErr,hk,hb]
  · refine Ze.add 14 (fun nf _ _ _=>Qc.eq nf _ _ _ _ _ _ _ _ _ _ _ _ _ _ _ _ _ _ _ _ _ _ _ _) ?_
    have s1:Ze (fun nf _ _ _=>Y8 nf (w) (k) (b)) (fun r=>r=((true,()),[])):=by
      refine Ze.succ (fun nf _ _ _=>Y8.eq nf _ _ _) ?_
      simp [-List.getD_eq_getElem?_getD,-List.length_eq_zero_iff,Zq,Zl,Zu,Zo,Z9,Z8,Xx,Zd (Yr w k),(Yr w k).prop,Zd (Yr w b),(Yr w b).prop,hk]
    simp [-List.getD_eq_getElem?_getD,-List.length_eq_zero_iff,Zq,Zl,Zu,Zo,Z9,Z8,Xx,Zd (s1.shift 13),(s1.shift 13).prop,putErr,hk]
theorem AAp {w:den Zb} (ok:Ok w) {i k b:Nat} (hi:i<List.length (w.2.1:List Int)) (hk:k<List.length (w.2.2.2.1:List (den Za))) (hb:b<List.length (w.2.2.2.1:List (den Za))) :
    Ze (fun nf _ _ _=>Qn nf (w) ((k:Int)) ((b:Int)) (3) (w) ((i:Int)) ((b:Int)) (5) (w) ((b:Int)) (6) (w) ((k:Int)) (Yu (b:Int)) (5) (w) (X8 i) (9)) (fun r=>r=((takeErr w i k b,()),[])):=by
  have hbx:b<List.length (w.1.2.2.2.2.1:List Bool):=by rw [ok.right.may.b1,← ok.right.w1]; exact hb
  have s1:Ze (fun nf _ _ _=>Ys nf (w) ((k:Int)) ((b:Int))) (fun r=>r=((false,()),[])):=by
    refine Ze.succ (fun nf _ _ _=>Ys.eq nf _ _ _) ?_
    simp [-List.getD_eq_getElem?_getD,-List.length_eq_zero_iff,Zq,Zl,Zu,Zo,Z9,Z8,Xx,Zd (Yr w (k:Int)),(Yr w (k:Int)).prop,Zd (Yr w (b:Int)),(Yr w (b:Int)).prop,inR,hk,hb]
  have s2:Ze (fun nf _ _ _=>Q0 nf (w) ((i:Int)) ((b:Int))) (fun r=>r=((dec (¬ Kg w i b),()),[])):=by
    refine Ze.succ (fun nf _ _ _=>Q0.eq nf _ _ _) ?_
    simp [-List.getD_eq_getElem?_getD,-List.length_eq_zero_iff,Zq,Zl,Zu,Zo,Z9,Z8,Xx,Zd (Mz w ok hi hb),(Mz w ok hi hb).prop]
  have s3:Ze (fun nf _ _ _=>Q2 nf (w) ((b:Int))) (fun r=>r=((!O2 w b,()),[])):=by
    refine Ze.succ (fun nf _ _ _=>Q2.eq nf _ _) ?_
    simp [-List.getD_eq_getElem?_getD,-List.length_eq_zero_iff,Zq,Zl,Zu,Zo,Z9,Z8,Xx,hbx]
  have s4:Ze (fun nf _ _ _=>Q3 nf (w) ((k:Int)) (Yu (b:Int))) (fun r=>r=((dec (¬ Yb w k=Yu (b:Int)),()),[])):=by
    refine Ze.succ (fun nf _ _ _=>Q3.eq nf _ _ _) ?_
    simp [-List.getD_eq_getElem?_getD,-List.length_eq_zero_iff,Zq,Zl,Zu,Zo,Z9,Z8,Xx,hk]
  have s5:Ze (fun nf _ _ _=>Q4 nf (w) (X8 i)) (fun r=>r=((decide (Y3 w (X8 i)<1),()),[])):=by
    refine Ze.succ (fun nf _ _ _=>Q4.eq nf _ _) ?_
    simp [-List.getD_eq_getElem?_getD,-List.length_eq_zero_iff,Zq,Zl,Zu,Zo,Z9,Z8,Xx,Zd (Qq w ok (X8 i) (Uf i)),(Qq w ok (X8 i) (Uf i)).prop]
  refine Ze.add 14 (fun nf _ _ _=>Qn.eq nf _ _ _ _ _ _ _ _ _ _ _ _ _ _ _ _ _ _) ?_
  simp [-List.getD_eq_getElem?_getD,-List.length_eq_zero_iff,Zq,Zl,Zu,Zo,Z9,Z8,Xx,Zd (s1.shift 13),(s1.shift 13).prop,Zd (s2.shift 13),(s2.shift 13).prop,Zd (s3.shift 13),(s3.shift 13).prop,Zd (s4.shift 13),(s4.shift 13).prop,Zd (s5.shift 13),(s5.shift 13).prop,takeErr,inR,hk,hb]
  by_cases c1:Kg w i b <;> by_cases c2:O2 w b=true <;> by_cases c3:Yb w k=Yu (b:Int) <;> by_cases c4:Y3 w (X8 i)<1 <;> simp [-List.getD_eq_getElem?_getD,-List.length_eq_zero_iff,Zq,Zl,Zu,Zo,Z9,Z8,Xx,c1,c2,c3,c4]
theorem B0 {w:den Zb} (ok:Ok w) {i:Nat} (hi:i<List.length (w.2.1:List Int)) (k b:Int):Ze (fun nf _ _ _=>Qn nf (w) (k) (b) (3) (w) ((i:Int)) (b) (5) (w) (b) (6) (w) (k) (Yu b) (5) (w) (X8 i) (9)) (fun r=>r=((takeErr w i k b,()),[])):=by
  by_cases hk:inR w k
  · by_cases hb:inR w b
    · obtain ⟨k,rfl,hkn⟩:=J3 hk
      obtain ⟨b,rfl,hbn⟩:=J3 hb
      exact AAp ok hi hkn hbn
    · refine Ze.add 14 (fun nf _ _ _=>Qn.eq nf _ _ _ _ _ _ _ _ _ _ _ _ _ _ _ _ _ _) ?_
      have s1:Ze (fun nf _ _ _=>Ys nf (w) (k) (b)) (fun r=>r=((true,()),[])):=by
        refine Ze.succ (fun nf _ _ _=>Ys.eq nf _ _ _) ?_
        simp [-List.getD_eq_getElem?_getD,-List.length_eq_zero_iff,Zq,Zl,Zu,Zo,Z9,Z8,Xx,Zd (Yr w k),(Yr w k).prop,Zd (Yr w b),(Yr w b).prop,hk,hb]
      simp [-List.getD_eq_getElem?_getD,-List.length_eq_zero_iff,Zq,Zl,Zu,Zo,Z9,Z8,Xx,Zd (s1.shift 13),(s1.shift 13).prop,takeErr,hk,hb]
  · refine Ze.add 14 (fun nf _ _ _=>Qn.eq nf _ _ _ _ _ _ _ _ _ _ _ _ _ _ _ _ _ _) ?_
    have s1:Ze (fun nf _ _ _=>Ys nf (w) (k) (b)) (fun r=>r=((true,()),[])):=by
      refine Ze.succ (fun nf _ _ _=>Ys.eq nf _ _ _) ?_
      simp [-List.getD_eq_getElem?_getD,-List.length_eq_zero_iff,Zq,Zl,Zu,Zo,Z9,Z8,Xx,Zd (Yr w k),(Yr w k).prop,Zd (Yr w b),(Yr w b).prop,hk]
    simp [-List.getD_eq_getElem?_getD,-List.length_eq_zero_iff,Zq,Zl,Zu,Zo,Z9,Z8,Xx,Zd (s1.shift 13),(s1.shift 13).prop,takeErr,hk]
theorem E3 {w:den Zb} {i:Nat} {k b:Int} (h:¬ putErr w i k b=3):inR w k∧inR w b:=by
  by_cases hn:inR w k∧inR w b
  · exact hn
  · exact absurd (by unfold putErr; rw [if_neg hn]) h
theorem L8 {w:den Zb} {i:Nat} {k b:Int} (h:¬ takeErr w i k b=3):inR w k∧inR w b:=by
  by_cases hn:inR w k∧inR w b
  · exact hn
  · exact absurd (by unfold takeErr; rw [if_neg hn]) h
theorem AN9 {w:den Zb} (ok:Ok w) {i:Nat} (hi:i<List.length (w.2.1:List Int)) (k b:Int):Ze (fun nf _ _ _=>Km nf (w) ((i:Int)) (k) (b)) (fun r=>r=(putR w i k b,[])):=by
  refine Ze.succ (fun nf _ _ _=>Km.eq nf _ _ _ _) ?_
  simp [-List.getD_eq_getElem?_getD,-List.length_eq_zero_iff,Zq,Zl,Zu,Zo,Z9,Z8,Xx,Zd (ABg ok hi k b),(ABg ok hi k b).prop]
  by_cases h:putErr w i k b=0
  · obtain ⟨hk,hb⟩:=E3 (show ¬ putErr w i k b=3 by rw [h]; decide)
    obtain ⟨k,rfl,hkn⟩:=J3 hk
    simp [-List.getD_eq_getElem?_getD,-List.length_eq_zero_iff,Zq,Zl,Zu,Zo,Z9,Z8,Xx,h,Zd (O0 w ok.sm hkn (Yu b)),(O0 w ok.sm hkn (Yu b)).prop,putR]
  · simp [-List.getD_eq_getElem?_getD,-List.length_eq_zero_iff,Zq,Zl,Zu,Zo,Z9,Z8,Xx,h,putR]
theorem AK1 {w:den Zb} (ok:Ok w) {i:Nat} (hi:i<List.length (w.2.1:List Int)) (k b:Int):Ze (fun nf _ _ _=>Vy nf (w) ((i:Int)) (k) (b)) (fun r=>r=(takeR w i k b,[])):=by
  refine Ze.succ (fun nf _ _ _=>Vy.eq nf _ _ _ _) ?_
  simp [-List.getD_eq_getElem?_getD,-List.length_eq_zero_iff,Zq,Zl,Zu,Zo,Z9,Z8,Xx,Zd (B0 ok hi k b),(B0 ok hi k b).prop]
  by_cases h:takeErr w i k b=0
  · obtain ⟨hk,hb⟩:=L8 (show ¬ takeErr w i k b=3 by rw [h]; decide)
    obtain ⟨k,rfl,hkn⟩:=J3 hk
    simp [-List.getD_eq_getElem?_getD,-List.length_eq_zero_iff,Zq,Zl,Zu,Zo,Z9,Z8,Xx,h,Zd (O0 w ok.sm hkn (X8 i)),(O0 w ok.sm hkn (X8 i)).prop,takeR]
  · simp [-List.getD_eq_getElem?_getD,-List.length_eq_zero_iff,Zq,Zl,Zu,Zo,Z9,Z8,Xx,h,takeR]
end Go.Proofs.YtmemggdjnfccfaaGreatDoor.Ghost
namespace Go.Proofs.YtmemggdjnfccfaaGreatDoor.Ghost
open Go
section
variable {w:den Zb} (ok:Ok w) {k b:Nat} (hk:k<List.length (w.2.2.2.1:List (den Za))) (hb:b<List.length (w.2.2.2.1:List (den Za))) (hn:¬ WiW w b k)
open Classical in
noncomputable def dOf (w:den Zb) (k b j:Nat):Nat:=if WiW w j k then X4 w b+1+(X4 w j - X4 w k) else X4 w j
include ok hk hb hn
theorem BKe {j:Nat} (hj:j<List.length (w.2.2.2.1:List (den Za))):∃ p,U0 (put w k (Yu (b:Int))).2.2.2.1 j p (dOf w k b j):=by
  have m:=Ep ok.right hk hb hn
  unfold dOf
  by_cases hw:WiW w j k
  · rw [if_pos hw]; exact ⟨_,(m.inn j hj hw).1⟩
  · rw [if_neg hw]; exact ⟨_,m.out j hj hw⟩
theorem AMw:(∃ j,j<List.length (w.2.2.2.1:List (den Za))∧4<dOf w k b j)↔4<X4 w b+1+Wo w k:=by
  constructor
  · rintro ⟨j,hj,hd⟩
    unfold dOf at hd
    split at hd
    · rename_i hw
      have:X4 w j - X4 w k≤Wo w k:=AIs (w:=w) (i:=k) hj hw
      omega
    · have:=(Bn ok.right hj).2
      omega
  · intro h
    rcases Ct (w:=w) (i:=k) (List.length (w.2.2.2.1:List (den Za))) with h0 | ⟨j,j1,j2,j3⟩
    · have h0:Wo w k=0:=h0
      refine ⟨k,hk,?_⟩
      unfold dOf
      rw [if_pos (.refl k)]; omega
    · have j3:X4 w j - X4 w k=Wo w k:=j3
      refine ⟨j,j1,?_⟩
      unfold dOf
      rw [if_pos j2]; omega
end
end Go.Proofs.YtmemggdjnfccfaaGreatDoor.Ghost
namespace Go.Proofs.YtmemggdjnfccfaaGreatDoor.Ghost
open Go
theorem Ok.put2 {w:den Zb} (ok:Ok w) {k:Nat} (hk:k<List.length (w.2.2.2.1:List (den Za))) {q:Pl} (hg:K1 w.1 q) (hr:1≤Y3 w q) (hd:∀ j,j<List.length (w.2.2.2.1:List (den Za))→∃ p d,U0 (Ghost.put w k q).2.2.2.1 j p d∧d≤4):Ok (Ghost.put w k q):=by
  have h:=ok.right
  have hset:∀ p:Pl,Yx (List.set (w.2.2.2.1:List (den Za)) k q) p (List.length (w.2.2.2.1:List (den Za)))≤Yx w.2.2.2.1 p (List.length (w.2.2.2.1:List (den Za)))+(if q=p then 1 else 0):=fun p=>by
    have:=T7 w.2.2.2.1 k q p hk (List.length (w.2.2.2.1:List (den Za)))
    simp only [hk,true_and] at this
    omega
  refine ⟨AOg ok.sm k q,h.may,h.a1,h.c1,by rw [Hk]; exact h.w1,h.at_,fun i hi => ?_,fun i hi => ?_⟩
  · rw [Hk] at hi
    rw [L5 w k i q hk]
    split
    · exact hg
    · exact h.good i hi
  · have hlen:=Hk w k q
    rw [hlen] at hi ⊢
    obtain ⟨p,d,h1,h2⟩:=hd i hi
    have h3:=h1.depI 51 0 (by omega) (by omega)
    rw [Nat.zero_add] at h3
    refine ⟨Nat.le_trans (Nat.le_of_eq h3) h2,?_⟩
    generalize List.getD ((Ghost.put w k q).2.2.2.1:List (den Za)) i (dft Za)=p
    show (Yx (List.set (w.2.2.2.1:List (den Za)) k q) _ _:Int)≤Lo w.1 _
    have h1:=hset p
    by_cases hqp:q=p
    · rw [if_pos hqp] at h1
      subst hqp
      unfold Y3 at hr
      omega
    · rw [if_neg hqp] at h1
      have h2:=(h.room p).1
      unfold Y3 at h2
      omega
structure Cx (w:den Zb) (i k b:Nat):Prop where
  hk:k<List.length (w.2.2.2.1:List (den Za))
  hb:b<List.length (w.2.2.2.1:List (den Za))
  me:Yb w k=X8 i
  near:Kg w i b
  box:O2 w b=true
  wi:¬ WiW w b k
  deep:¬ 4<X4 w b+1+Wo w k
  room:1≤Y3 w (Yu b)
theorem D1 {w:den Zb} {i k b:Nat} (hk:k<List.length (w.2.2.2.1:List (den Za))) (hb:b<List.length (w.2.2.2.1:List (den Za))):putErr w i k b=0↔Cx w i k b:=by
  have h1:inR w (k:Int):=⟨Int.natCast_nonneg k,Int.ofNat_lt.2 hk⟩
  have h2:inR w (b:Int):=⟨Int.natCast_nonneg b,Int.ofNat_lt.2 hb⟩
  unfold putErr
  simp only [h1,h2,and_self,if_true,Int.toNat_natCast]
  constructor
  · intro h
    split at h <;> rename_i c1
    · split at h <;> rename_i c2
      · split at h <;> rename_i c3
        · cases h
        · split at h <;> rename_i c4
          · cases h
          · split at h <;> rename_i c5
            · cases h
            · exact ⟨hk,hb,c1.1,c1.2,c2,c3,c4,by omega⟩
      · cases h
    · cases h
  · intro h
    rw [if_pos ⟨h.me,h.near⟩,if_pos h.box,if_neg h.wi,if_neg h.deep,if_neg (by have:=h.room; omega)]
structure F2 (w:den Zb) (i k b:Nat):Prop where
  hk:k<List.length (w.2.2.2.1:List (den Za))
  hb:b<List.length (w.2.2.2.1:List (den Za))
  near:Kg w i b
  box:O2 w b=true
  at_:Yb w k=Yu b
  room:1≤Y3 w (X8 i)
theorem Fv {w:den Zb} {i k b:Nat} (hk:k<List.length (w.2.2.2.1:List (den Za))) (hb:b<List.length (w.2.2.2.1:List (den Za))):takeErr w i k b=0↔F2 w i k b:=by
  have h1:inR w (k:Int):=⟨Int.natCast_nonneg k,Int.ofNat_lt.2 hk⟩
  have h2:inR w (b:Int):=⟨Int.natCast_nonneg b,Int.ofNat_lt.2 hb⟩
  unfold takeErr
  simp only [h1,h2,and_self,if_true,Int.toNat_natCast]
  constructor
  · intro h
    split at h <;> rename_i c1
    · split at h <;> rename_i c2
      · split at h <;> rename_i c3
        · split at h <;> rename_i c4
          · cases h
          · exact ⟨hk,hb,c1,c2,c3,by omega⟩
        · cases h
      · cases h
    · cases h
  · intro h
    rw [if_pos h.near,if_pos h.box,if_pos h.at_,if_neg (by have:=h.room; omega)]
theorem AKk (i b:Nat):¬ X8 i=Yu (b:Int):=fun e=>by
  have:(1:Int)=2:=congrArg (fun p:Pl=>(p.1:Int)) e
  cases this
theorem Cx.moved {w:den Zb} {i k b:Nat} (h:Cx w i k b) (ok:Ok w):U7 w (put w k (Yu (b:Int))) k (Xz w b) (X4 w b+1):=Ep ok.right h.hk h.hb h.wi
theorem Cx.ok {w:den Zb} {i k b:Nat} (h:Cx w i k b) (ok:Ok w):Ok (put w k (Yu (b:Int))):=by
  refine ok.put2 h.hk (.inr (.inr ⟨rfl,⟨Int.natCast_nonneg b,?_⟩,?_⟩)) h.room (fun j hj => ?_)
  · show (b:Int)<_
    rw [← ok.right.w1]; exact Int.ofNat_lt.2 h.hb
  · show List.getD (w.1.2.2.2.2.1:List Bool) (Int.toNat (b:Int)) false=true
    rw [Int.toNat_natCast]; exact h.box
  · obtain ⟨p,hp⟩:=BKe ok h.hk h.hb h.wi hj
    refine ⟨p,_,hp,?_⟩
    have:¬ 4<dOf w k b j:=fun h4=>h.deep ((AMw ok h.hk h.hb h.wi).1 ⟨j,hj,h4⟩)
    omega
theorem F2.moved {w:den Zb} {i k b:Nat} (h:F2 w i k b) (ok:Ok w):U7 w (put w k (X8 i)) k (X8 i) 0:=Er ok.right h.hk (show ¬ (1:Int)=2 by decide)
theorem F2.ok {w:den Zb} {i k b:Nat} (h:F2 w i k b) (ok:Ok w) (hi:i<List.length (w.2.1:List Int)):Ok (put w k (X8 i)):=by
  have m:=h.moved ok
  refine ok.put2 h.hk (.inr (.inl ⟨rfl,Int.natCast_nonneg i,?_⟩)) h.room (fun j hj => ?_)
  · show (i:Int)<_
    rw [← ok.right.a1]; exact Int.ofNat_lt.2 hi
  · have:=(Bn ok.right hj).2
    by_cases hw:WiW w j k
    · exact ⟨_,_,(m.inn j hj hw).1,by omega⟩
    · exact ⟨_,_,m.out j hj hw,this⟩
theorem Cx.back {w:den Zb} {i k b:Nat} (h:Cx w i k b) (ok:Ok w):F2 (put w k (Yu (b:Int))) i k b:=by
  have ok':=h.ok ok
  have m:=h.moved ok
  have hl:=Hk w k (Yu (b:Int))
  have hat:Yb (put w k (Yu (b:Int))) k=Yu b:=by show List.getD _ k _=_; rw [L5 w k k _ h.hk,if_pos rfl]
  refine ⟨by rw [hl]; exact h.hk,by rw [hl]; exact h.hb,?_,h.box,hat,?_⟩
  · have e:=((m.eqs ok'.right hl h.hb).2 h.wi).1
    have hn:=h.near
    unfold Kg at hn ⊢
    rw [e]
    exact hn
  · rw [ACb w h.hk,if_pos h.me,if_neg (fun e=>AKk i b e.symm)]
    have:=(ok.right.room (X8 i)).1
    omega
theorem L0 {w:den Zb} {i k:Nat} (h:Yb w k=X8 i):Kg w i k:=.inr (by
  show Ws w.2.2.2.1 51 (Yb w k)=_
  rw [h]; exact M2 (show ¬ (1:Int)=2 by decide) 51)
theorem AN4 {w:den Zb} (h:X9 w) {i j b:Nat} (hj:j<List.length (w.2.2.2.1:List (den Za))) (h2:(Yb w j).1=(2:Int)) (hb:(Yb w j).2.1=(b:Int)):Kg w i j↔Kg w i b:=by
  obtain ⟨b',e,_,er⟩:=A6 h hj h2
  obtain rfl:b=b':=Int.ofNat.inj (hb.symm.trans e)
  unfold Kg
  rw [er]
theorem D8 {w:den Zb} {i:Nat} {k b:Int} (h:¬ takeErr w i k b=0):takeR w i k b=(w,takeErr w i k b,()):=if_neg h
theorem Au {w:den Zb} {i:Nat} {k b:Int} (h:¬ putErr w i k b=0):putR w i k b=(w,putErr w i k b,()):=if_neg h
theorem AH6 {w:den Zb} {i k:Nat} {b:Int} (h:takeErr w i k b=0):takeR w i k b=(put w k (X8 i),0,()):=if_pos h
theorem AKt {w:den Zb} {i k:Nat} {b:Int} (h:putErr w i k b=0):putR w i k b=(put w k (Yu b),0,()):=if_pos h
end Go.Proofs.YtmemggdjnfccfaaGreatDoor.Ghost
