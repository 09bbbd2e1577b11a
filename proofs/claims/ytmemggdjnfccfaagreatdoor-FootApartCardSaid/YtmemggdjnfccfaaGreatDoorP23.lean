/- What functions come to, and that the statements are answered with 'true'. Conditions: none. -/
import Derived.Test.YtmemggdjnfccfaaGreatDoorS
import Derived.Test.YtmemggdjnfccfaaGreatDoorGE
import Derived.Test.YtmemggdjnfccfaaGreatDoorP1
import Derived.Test.YtmemggdjnfccfaaGreatDoorP2
import Derived.Test.YtmemggdjnfccfaaGreatDoorP3
import Derived.Test.YtmemggdjnfccfaaGreatDoorP4
import Derived.Test.YtmemggdjnfccfaaGreatDoorP5
import Derived.Test.YtmemggdjnfccfaaGreatDoorP6
import Derived.Test.YtmemggdjnfccfaaGreatDoorP7
import Derived.Test.YtmemggdjnfccfaaGreatDoorP8
import Derived.Test.YtmemggdjnfccfaaGreatDoorP9
import Derived.Test.YtmemggdjnfccfaaGreatDoorP10
import Derived.Test.YtmemggdjnfccfaaGreatDoorP11
import Derived.Test.YtmemggdjnfccfaaGreatDoorP12
import Derived.Test.YtmemggdjnfccfaaGreatDoorP13
import Derived.Test.YtmemggdjnfccfaaGreatDoorP14
import Derived.Test.YtmemggdjnfccfaaGreatDoorP15
import Derived.Test.YtmemggdjnfccfaaGreatDoorP16
import Derived.Test.YtmemggdjnfccfaaGreatDoorP17
import Derived.Test.YtmemggdjnfccfaaGreatDoorP18
import Derived.Test.YtmemggdjnfccfaaGreatDoorP19
import Derived.Test.YtmemggdjnfccfaaGreatDoorP20
import Derived.Test.YtmemggdjnfccfaaGreatDoorP21
import Derived.Test.YtmemggdjnfccfaaGreatDoorP22
set_option linter.unusedVariables false
set_option linter.unusedSimpArgs false
set_option linter.unusedSectionVars false
set_option linter.unnecessarySimpa false
namespace Go.Proofs.YtmemggdjnfccfaaGreatDoor.Ghost
open Go
theorem AO6 {w:den Zb} {i:Nat} {c:Cm} (k1:¬ Z2 c=1) (k2:¬ Z2 c=2):(X9 w i c).1.2.1=w.2.1:=by
  by_cases k36:3≤Z2 c∧Z2 c≤6
  · rw [AJx w i k36]; split <;> rfl
  by_cases k7:Z2 c=7
  · have s:X9 w i c=((H9 w i (X4 c) (Y6 c)).1,0,(H9 w i (X4 c) (Y6 c)).2.1,()):=by
      unfold X9; rw [if_neg k1,if_neg k2,if_neg (by omega),if_neg (by omega),if_neg (by omega),if_neg (by omega),if_pos k7]
    rw [s]
    show (H9 w i (X4 c) (Y6 c)).1.2.1=_
    unfold H9; split <;> rfl
  by_cases k8:Z2 c=8
  · have s:X9 w i c=((Jj w i (Y6 c) (Xb c) (K9 c) (Xg c) (K8 c)).1,0,(Jj w i (Y6 c) (Xb c) (K9 c) (Xg c) (K8 c)).2.1,()):=by
      unfold X9; rw [if_neg k1,if_neg k2,if_neg (by omega),if_neg (by omega),if_neg (by omega),if_neg (by omega),if_neg k7,if_pos k8]
    rw [s]
    show (Jj w i (Y6 c) (Xb c) (K9 c) (Xg c) (K8 c)).1.2.1=_
    unfold Jj; split <;> rfl
  have s:X9 w i c=(w,0,0,()):=by
    unfold X9; rw [if_neg k1,if_neg k2,if_neg (by omega),if_neg (by omega),if_neg (by omega),if_neg (by omega),if_neg k7,if_neg k8]
  rw [s]
theorem AUj {w:den Zb} {i k d:Nat} {c:Cm} (hk:k<List.length (w.2.1:List Int)) (ha:Yc w k=Yc w i) (h2:0≤Y5 w i d→Y7 w i c 0 (Y5 w i d)) (j:Nat) (hj:¬ Yc (goR w k d).1 j=Yc w j):Y7 w i c 0 (Yc w j)∧Y7 w i c 0 (Yc (goR w k d).1 j):=by
  have ex:Y5 w k d=Y5 w i d:=by
    unfold Y5
    rw [show List.getD (w.2.1:List Int) k (0:Int)=List.getD (w.2.1:List Int) i (0:Int) from ha]
  unfold goR at hj ⊢
  by_cases h:0≤Y5 w k d
  · rw [if_pos h] at hj ⊢
    have e:Yc (moved w k (Y5 w k d)) j=if j=k then Y5 w k d else Yc w j:=Mo w k j _ hk
    have hj:¬ Yc (moved w k (Y5 w k d)) j=Yc w j:=hj
    show _∧Y7 w i c 0 (Yc (moved w k (Y5 w k d)) j)
    rw [e] at hj ⊢
    by_cases g:j=k
    · rw [if_pos g,ex]
      subst g
      rw [ha]
      exact ⟨Rh w i c,h2 (by rw [← ex]; exact h)⟩
    · rw [if_neg g] at hj; exact absurd rfl hj
  · rw [if_neg h] at hj; exact absurd rfl hj
theorem BLw {w:den Zb} {i:Nat} (hi:i<List.length (w.2.1:List Int)) (c:Cm) (j:Nat) (hj:¬ Yc (doR w i c).1 j=Yc w j):Y7 w i c 0 (Yc w j)∧Y7 w i c 0 (Yc (doR w i c).1 j):=by
  have key:¬ Yc (X9 w i c).1 j=Yc w j→Y7 w i c 0 (Yc w j)∧Y7 w i c 0 (Yc (X9 w i c).1 j):=by
    by_cases k1:Z2 c=1
    · have s:X9 w i c=goR w i (Hg c).toNat:=by unfold X9; rw [if_pos k1]
      rw [s]
      exact AUj hi rfl (fun h=>.inr (.inr (.inl ⟨⟨.inl k1,h⟩,rfl,rfl⟩))) j
    by_cases k2:Z2 c=2
    · have s:X9 w i c=Np w i (Y6 c) (Hg c).toNat:=by unfold X9; rw [if_neg k1,if_pos k2]
      rw [s]
      unfold Np
      by_cases h:Ki w i (Y6 c)=0
      · rw [if_pos h]
        obtain ⟨h1,h2,h3,h4⟩:=Gx h
        exact AUj (by omega) h4 (fun h=>.inr (.inr (.inl ⟨⟨.inr k2,h⟩,rfl,rfl⟩))) j
      · rw [if_neg h]; exact fun h=>absurd rfl h
    · intro h
      have e:Yc (X9 w i c).1 j=Yc w j:=by
        show List.getD ((X9 w i c).1.2.1:List Int) j (0:Int)=_
        rw [AO6 k1 k2]
      exact absurd e h
  unfold doR at hj ⊢
  by_cases hm:Ws c
  · rw [if_pos hm] at hj ⊢
    by_cases h9:Z2 c=9
    · rw [if_pos h9] at hj; exact absurd rfl hj
    rw [if_neg h9] at hj ⊢
    by_cases h10:Z2 c=10
    · rw [if_pos h10] at hj; exact absurd rfl hj
    rw [if_neg h10] at hj ⊢
    by_cases z:(X9 w i c).2.2.1=0
    · rw [if_pos z] at hj ⊢; exact key hj
    · rw [if_neg z] at hj; exact absurd rfl hj
  · rw [if_neg hm] at hj; exact absurd rfl hj
theorem ADq {w:den Zb} (ok:Ok w) {i:Nat} (hi:i<List.length (w.2.1:List Int)) (c:Cm):Far (Y7 w i c) w (doR w i c).1:=by
  have k:=Ey ok hi c
  have ch:=BLv ok hi c
  refine ⟨ok,k.1,k.2,fun j h => ?_,fun j h=>BLw hi c j h,ch.it⟩
  have:=Classical.byContradiction (fun g=>h (ch.pl j g))
  exact ⟨this.1.symm,this.2.symm⟩
theorem BMu {a b:den Zb} (h1:a.1=b.1) (h2:(a.2.1:List Int)=b.2.1) (h3:(a.2.2.1:List Int)=b.2.2.1) (h4:(a.2.2.2.1:List Pl)=b.2.2.2.1):a=b:=by
  obtain ⟨a1,a2,a3,a4,⟨⟩⟩:=a
  obtain ⟨b1,b2,b3,b4,⟨⟩⟩:=b
  have h1:a1=b1:=h1
  have h2:a2=b2:=h2
  have h3:a3=b3:=h3
  have h4:a4=b4:=h4
  subst h1 h2 h3 h4
  rfl
section
variable {w:den Zb} (ok:Ok w) {i k:Nat} (hi:i<List.length (w.2.1:List Int)) (hk:k<List.length (w.2.1:List Int)) {c d:Cm} (mc:Ws c) (md:Ws d) (hd:∀ a b,Y7 w k d a b→¬ Y7 w i c a b)
include ok hi hk mc md hd
theorem AHr:(doR (doR w i c).1 k d).2.1=(doR w k d).2.1∧(doR (doR w k d).1 i c).2.1=(doR w i c).2.1∧(doR (doR w i c).1 k d).1=(doR (doR w k d).1 i c).1:=by
  have FS:=ADq ok hi c
  have FM:=ADq ok hk d
  have hd':∀ a b,Y7 w i c a b→¬ Y7 w k d a b:=fun a b h g=>hd a b g h
  obtain ⟨P,e1⟩:=FS.do hk md hd
  obtain ⟨Q,e2⟩:=FM.do hi mc hd'
  have B:=Ey FS.okn (show k<List.length ((doR w i c).1.2.1:List Int) by rw [FS.lenA]; exact hk) d
  have Y:=Ey FM.okn (show i<List.length ((doR w k d).1.2.1:List Int) by rw [FM.lenA]; exact hi) c
  have eB:=B.2.trans FS.desc
  have eY:=Y.2.trans FM.desc
  have tB:AEo w (doR (doR w i c).1 k d).1:=⟨ok,B.1,eB⟩
  have tY:AEo w (doR (doR w k d).1 i c).1:=⟨ok,Y.1,eY⟩
  refine ⟨e1,e2,BMu (eB.trans eY.symm) ?_ ?_ ?_⟩
  · refine G7 (0:Int) (tB.at_.trans tY.at_.symm) (fun j _ => ?_)
    have p:=P.at_ j; have q:=Q.at_ j
    show Yc _ j=Yc _ j
    rcases p with ⟨p1,p2⟩ | ⟨p1,p2⟩ <;> rcases q with ⟨q1,q2⟩ | ⟨q1,q2⟩
    · rw [p2,q1,q2,p1]
    · rw [p2,q2]
    · rw [p2,q2]
    · exact absurd q1 (hd _ _ p1)
  · refine G7 (0:Int) (tB.co.2.trans tY.co.2.symm) (fun j _ => ?_)
    have p:=P.co j; have q:=Q.co j
    show Yw _ j=Yw _ j
    rcases p with ⟨p1,p2⟩ | ⟨p1,p2⟩ <;> rcases q with ⟨q1,q2⟩ | ⟨q1,q2⟩
    · rw [p2,q1,q2,p1]
    · rw [p2,q2]
    · rw [p2,q2]
    · exact absurd q1 (hd _ _ p1)
  · refine G7 (dft Za) (tB.wh.trans tY.wh.symm) (fun j hj => ?_)
    have hj:j<List.length (w.2.2.2.1:List (den Za)):=by rw [← tB.wh]; exact hj
    have p:=P.it j hj; have q:=Q.it j hj
    show Xs _ j=Xs _ j
    rcases p with ⟨p1,p2⟩ | ⟨p1,p2⟩ <;> rcases q with ⟨q1,q2⟩ | ⟨q1,q2⟩
    · rw [p2,q1,q2,p1]
    · rw [p2,q2]
    · rw [p2,q2]
    · exact absurd q1 (hd _ _ p1)
theorem Ai:Ka (doR w i c).1 k d=Ka w k d:=by
  have F:=ADq ok hi c
  have H:=F.here hk md hd
  unfold Ka AFm AFn AFo
  rw [F.at_ H,F.exit H,F.lenA]
end
theorem AL2 {w:den Zb} (ok:Ok w) {i k:Nat} (hi:i<List.length (w.2.1:List Int)) (hk:k<List.length (w.2.1:List Int)) {c d:Cm} (fc:AHe c) (fd:AHe d) (mc:Ws c) (md:Ws d) (t0:(den Zb)) (t1:Int) (t2:(den Zz)) (t3:Int) (t4:(den Zz)) (t10:Bool) :
    ∀ j,j≤(Yz (Ka w i c)).length→(∀ x∈(Yz (Ka w i c)).take j,¬ x∈Yz (Ka w k d))→Zd (fun nf fm0 _ _=>Zs.l0 nf fm0 t0 t1 t2 t3 t4 t10 ((i:Int)) ((k:Int)) (Yz (Ka w i c)) (Yz (Ka w k d)) ((j:Int)) (w) (c) (d)) (fun r=>r.1.1=true):=by
  have hl1:(Yz (Ka w i c)).length≤1048576:=Nat.le_trans (Fp _) (ABy w i c)
  have hl2:(Yz (Ka w k d)).length≤1048576:=Nat.le_trans (Fp _) (ABy w k d)
  refine upto (fun hall => ?_) (fun j hj next hall => ?_)
  · rw [List.take_length] at hall
    have hd:∀ a b,Y7 w k d a b→¬ Y7 w i c a b:=fun a b h g=>hall ((a,b,()):Ky) (AGj.2 g) (AGj.2 h)
    have hd':∀ a b,Y7 w i c a b→¬ Y7 w k d a b:=fun a b h g=>hd a b g h
    have A:=Ey ok hi c
    have X:=Ey ok hk d
    have hk':k<List.length ((doR w i c).1.2.1:List Int):=by rw [AHg ok A.1 A.2]; exact hk
    have hi':i<List.length ((doR w k d).1.2.1:List Int):=by rw [AHg ok X.1 X.2]; exact hi
    have Y:=Ey X.1 hi' c
    obtain ⟨e1,e2,e3⟩:=AHr ok hi hk mc md hd
    have g1:=Ai ok hi hk mc md hd
    have g2:=Ai ok hk hi md mc hd'
    have s1:=ANo ok.sm i c
    have s2:=ANo ok.sm k d
    refine Zd.succ1 (fun nf fm0 _ _=>Zs.l0_eq nf fm0 _ _ _ _ _ _ _ _ _ _ _ _ _ _) ?_
    simp [-List.getD_eq_getElem?_getD,-List.length_eq_zero_iff,Zp,Zm,Zy,Zo,Xj,Xi,Yb,Ze (Hi ok hi fc),(Hi ok hi fc).prop,Ze (Hi ok hk fd),(Hi ok hk fd).prop,Ze (Hi A.1 hk' fd),(Hi A.1 hk' fd).prop,Ze (Hi X.1 hi' fc),(Hi X.1 hi' fc).prop,e1,e2,e3,Ze (Ng (doR w i c).2.1 (doR w i c).2.1 s1.1 s1.2),(Ng (doR w i c).2.1 (doR w i c).2.1 s1.1 s1.2).bprop,Ze (Ng (doR w k d).2.1 (doR w k d).2.1 s2.1 s2.2),(Ng (doR w k d).2.1 (doR w k d).2.1 s2.1 s2.2).bprop,Ze (ACw (doR (doR w k d).1 i c).1 (doR (doR w k d).1 i c).1 Y.1.sm Y.1.sm),(ACw (doR (doR w k d).1 i c).1 (doR (doR w k d).1 i c).1 Y.1.sm Y.1.sm).bprop,Ze (W8 A.1.right hk' md),(W8 A.1.right hk' md).prop,Ze (W8 X.1.right hi' mc),(W8 X.1.right hi' mc).prop,g1,g2,Ze (Nd (Yz (Ka w i c)) (Yz (Ka w i c)) hl1),(Nd (Yz (Ka w i c)) (Yz (Ka w i c)) hl1).prop,Ze (Nd (Yz (Ka w k d)) (Yz (Ka w k d)) hl2),(Nd (Yz (Ka w k d)) (Yz (Ka w k d)) hl2).prop]
  · refine Zd.succ1 (fun nf fm0 _ _=>Zs.l0_eq nf fm0 _ _ _ _ _ _ _ _ _ _ _ _ _ _) ?_
    rw [← Xv (by omega)] at next
    have hs:=AK0 (Yz (Ka w k d)) hl2 (List.getD (Yz (Ka w i c)) j (dft Za)).1 (List.getD (Yz (Ka w i c)) j (dft Za)).2.1
    by_cases h:((((List.getD (Yz (Ka w i c)) j (dft Za)).1:Int),((List.getD (Yz (Ka w i c)) j (dft Za)).2.1:Int),()):Ky)∈Yz (Ka w k d)
    · simp [-List.getD_eq_getElem?_getD,-List.length_eq_zero_iff,Zp,Zm,Zy,Zo,Xj,Xi,Yb,hj,Ze (hs),(hs).bprop,h]
    · simp [-List.getD_eq_getElem?_getD,-List.length_eq_zero_iff,Zp,Zm,Zy,Zo,Xj,Xi,Yb,hj,Ze (hs),(hs).bprop,h]
      refine next (fun x hx => ?_)
      rw [List.take_add_one,List.mem_append] at hx
      rcases hx with hx | hx
      · exact hall x hx
      · rw [List.getElem?_eq_getElem hj] at hx
        have hx:x=(Yz (Ka w i c))[j]:=by simpa using hx
        have e:List.getD (Yz (Ka w i c)) j (dft Za)=x:=by rw [List.getD_eq_getElem?_getD,List.getElem?_eq_getElem hj,hx]; rfl
        rw [e] at h
        exact h
theorem Ah (w:den Zb) (p:Int) (c:Cm) (p2:Int) (d:Cm) (hw:wfD Zb w) (hp:wfD (.int .u8) p) (_:wfD Zz c) (hp2:wfD (.int .u8) p2) (_:wfD Zz d):Zd (fun nf _ _ _=>Zs nf (w) (p) (c) (p2) (d)) (fun r=>r.1.1=true):=by
  refine Zd.succ (fun nf _ _ _=>Zs.eq nf _ _ _ _ _) ?_
  simp [-List.getD_eq_getElem?_getD,-List.length_eq_zero_iff,Zp,Zm,Zy,Zo,Xj,Xi,Yb,Ze (M4),(M4).prop,Ze ((ANt w).fit),((ANt w).fit).bprop,Ze (Tv c),(Tv c).bprop,Ze (Tv d),(Tv d).bprop]
  intro fit few
  simp [-List.getD_eq_getElem?_getD,-List.length_eq_zero_iff,Zp,Zm,Zy,Zo,Xj,Xi,Yb,Ze (M4),(M4).prop,Ze (Lk c (by have:=few.1; omega) (by have:=few.2; omega)),(Lk c (by have:=few.1; omega) (by have:=few.2; omega)).bprop,Ze (Tv d),(Tv d).bprop]
  intro may few2
  simp [-List.getD_eq_getElem?_getD,-List.length_eq_zero_iff,Zp,Zm,Zy,Zo,Xj,Xi,Yb,Ze (M4),(M4).prop,Ze (Lk d (by have:=few2.1; omega) (by have:=few2.2; omega)),(Lk d (by have:=few2.1; omega) (by have:=few2.2; omega)).bprop]
  intro may2
  have ok:=CAg hw fit.few fit.right
  have hpos:=ok.right.pos
  obtain ⟨i,hi,ei⟩:=AF4 hp hpos
  obtain ⟨k,hk,ek⟩:=AF4 hp2 hpos
  rw [ei,ek]
  have l0:=(AL2 ok hi hk few few2 may may2 w p c p2 d false 0 (Nat.zero_le _) (fun x hx=>by rw [List.take_zero] at hx; cases hx)).enter
  simp [-List.getD_eq_getElem?_getD,-List.length_eq_zero_iff,Zp,Zm,Zy,Zo,Xj,Xi,Yb,Ze (W8 ok.right hi may),(W8 ok.right hi may).prop,Ze (W8 ok.right hk may2),(W8 ok.right hk may2).prop]
  exact ⟨by omega,l0⟩
end Go.Proofs.YtmemggdjnfccfaaGreatDoor.Ghost
