/- What functions come to, and that the statements are answered with 'true'. Conditions: none. -/
import Derived.Test.YtmemggdjnfccfaaGreatDoorS
import Derived.Test.YtmemggdjnfccfaaGreatDoorGE
import Derived.Test.YtmemggdjnfccfaaGreatDoorP1
import Derived.Test.YtmemggdjnfccfaaGreatDoorP2
import Derived.Test.YtmemggdjnfccfaaGreatDoorP3
import Derived.Test.YtmemggdjnfccfaaGreatDoorP4
import Derived.Test.YtmemggdjnfccfaaGreatDoorP5
import Derived.Test.YtmemggdjnfccfaaGreatDoorP6
import Derived.Test.YtmemggdjnfccfaaGreatDoorP7
import Derived.Test.YtmemggdjnfccfaaGreatDoorP8
import Derived.Test.YtmemggdjnfccfaaGreatDoorP9
import Derived.Test.YtmemggdjnfccfaaGreatDoorP10
import Derived.Test.YtmemggdjnfccfaaGreatDoorP11
import Derived.Test.YtmemggdjnfccfaaGreatDoorP12
import Derived.Test.YtmemggdjnfccfaaGreatDoorP13
import Derived.Test.YtmemggdjnfccfaaGreatDoorP14
import Derived.Test.YtmemggdjnfccfaaGreatDoorP15
import Derived.Test.YtmemggdjnfccfaaGreatDoorP16
import Derived.Test.YtmemggdjnfccfaaGreatDoorP17
import Derived.Test.YtmemggdjnfccfaaGreatDoorP18
import Derived.Test.YtmemggdjnfccfaaGreatDoorP19
set_option linter.unusedVariables false
set_option linter.unusedSimpArgs false
set_option linter.unusedSectionVars false
set_option linter.unnecessarySimpa false
namespace Go.Proofs.YtmemggdjnfccfaaGreatDoor.Ghost
open Go
section
variable {d:den Z3}
end
end Go.Proofs.YtmemggdjnfccfaaGreatDoor.Ghost
namespace Go.Proofs.YtmemggdjnfccfaaGreatDoor.Ghost
open Go
structure Ch (w:den Zb) (i:Nat) (c:Cm) (n:den Zb):Prop where
  pl:∀ j:Nat,¬ (Yc w j=Yc n j∧Yw w j=Yw n j)→Y7 w i c 1 (j:Int)
  it:∀ j,j<List.length (w.2.2.2.1:List (den Za))→¬ Xs w j=Xs n j→Y7 w i c (Xd w j).1 (Xd w j).2.1∧Y7 w i c (Xd n j).1 (Xd n j).2.1
  me:Y7 w i c 0 (Yc n i)
theorem Rh (w:den Zb) (i:Nat) (c:Cm):Y7 w i c 0 (Yc w i):=.inl ⟨rfl,rfl⟩
theorem Ri (w:den Zb) (i:Nat) (c:Cm):Y7 w i c 1 (i:Int):=.inr (.inl ⟨rfl,rfl⟩)
theorem Li {w:den Zb} {i:Nat} {c:Cm} {q:Nat} (hk:Z2 c=2∨Z2 c=7∨Z2 c=8) (e:Y6 c=(q:Int)) (hq:q<List.length (w.2.1:List Int)):Y7 w i c 1 (q:Int) :=
  .inr (.inr (.inr ⟨⟨hk,by rw [e]; exact Int.ofNat_lt.2 hq⟩,rfl,e.symm⟩))
theorem Ar {w:den Zb} {i:Nat} {c:Cm} {p:Pl} (h:Cv w i p):Y7 w i c p.1 p.2.1:=by
  rcases h with rfl | rfl
  · exact Rh w i c
  · exact Ri w i c
theorem Wh (w:den Zb) (i:Nat) (c:Cm):Ch w i c w:=⟨fun j h=>absurd ⟨rfl,rfl⟩ h,fun j _ h=>absurd rfl h,Rh w i c⟩
theorem ANd {w:den Zb} {i m:Nat} {c:Cm} {q:Pl} (hm:m<List.length (w.2.2.2.1:List (den Za))) (h1:Y7 w i c (Xd w m).1 (Xd w m).2.1) (h2:Y7 w i c (Xd (put w m q) m).1 (Xd (put w m q) m).2.1):Ch w i c (put w m q):=by
  refine ⟨fun j h=>absurd ⟨rfl,rfl⟩ h,fun j _ h => ?_,Rh w i c⟩
  by_cases e:j=m
  · subst e; exact ⟨h1,h2⟩
  · refine absurd ?_ h
    show Xs w j=List.getD ((put w m q).2.2.2.1:List (den Za)) j (dft Za)
    rw [Mu w m j q hm,if_neg e]
theorem AUc {w:den Zb} {i k d:Nat} {c:Cm} (hk:k<List.length (w.2.1:List Int)) (h1:Y7 w i c 1 (k:Int)) (h2:k=i→0≤Y5 w i d→Y7 w i c 0 (Y5 w i d)):Ch w i c (goR w k d).1:=by
  unfold goR
  by_cases h:0≤Y5 w k d
  · rw [if_pos h]
    refine ⟨fun j hj => ?_,fun j _ h=>absurd rfl h,?_⟩
    · by_cases e:j=k
      · subst e; exact h1
      · refine absurd ⟨?_,rfl⟩ hj
        show Yc w j=List.getD ((moved w k (Y5 w k d)).2.1:List Int) j (0:Int)
        rw [Mo w k j _ hk,if_neg e]
    · show Y7 w i c 0 (List.getD ((moved w k (Y5 w k d)).2.1:List Int) i (0:Int))
      rw [Mo w k i _ hk]
      by_cases e:i=k
      · rw [if_pos e]; subst e; exact h2 rfl h
      · rw [if_neg e]; exact Rh w i c
  · rw [if_neg h]; exact Wh w i c
theorem AO7 {w:den Zb} (ok:Ok w) {i:Nat} (hi:i<List.length (w.2.1:List Int)) {c:Cm} (may:Ws c):Ch w i c (X9 w i c).1:=by
  by_cases k36:3≤Z2 c∧Z2 c≤6
  · rw [AJx w i k36]
    by_cases e:eK w i c=0
    · rw [if_pos e]
      obtain ⟨p',d',D⟩:=AUg ok hi k36 e
      have hr:=((D.mv.eqs D.ok'.right (Hb w _ _) D.hm).1 (.refl _)).1
      exact ANd D.hm (Ar D.near) (by rw [hr]; exact Ar D.np)
    · rw [if_neg e]; exact Wh w i c
  by_cases k1:Z2 c=1
  · have s:X9 w i c=goR w i (Hg c).toNat:=by unfold X9; rw [if_pos k1]
    rw [s]
    exact AUc hi (Ri w i c) (fun _ h=>.inr (.inr (.inl ⟨⟨.inl k1,h⟩,rfl,rfl⟩)))
  by_cases k2:Z2 c=2
  · have s:X9 w i c=Np w i (Y6 c) (Hg c).toNat:=by unfold X9; rw [if_neg k1,if_pos k2]
    rw [s]
    unfold Np
    by_cases h:Ki w i (Y6 c)=0
    · rw [if_pos h]
      obtain ⟨h1,h2,h3,_⟩:=Gx h
      have e:Y6 c=((Y6 c).toNat:Int):=by omega
      have hq:(Y6 c).toNat<List.length (w.2.1:List Int):=by omega
      exact AUc hq (Li (.inl k2) e hq) (fun e' _=>absurd (by rw [e,e']) h3)
    · rw [if_neg h]; exact Wh w i c
  by_cases k7:Z2 c=7
  · have s:X9 w i c=((H9 w i (X4 c) (Y6 c)).1,0,(H9 w i (X4 c) (Y6 c)).2.1,()):=by
      unfold X9; rw [if_neg k1,if_neg k2,if_neg (by omega),if_neg (by omega),if_neg (by omega),if_neg (by omega),if_pos k7]
    rw [s]
    show Ch w i c (H9 w i (X4 c) (Y6 c)).1
    unfold H9
    by_cases h:giveErr w i (X4 c) (Y6 c)=0
    · rw [if_pos h]
      obtain ⟨h1,h2,h3,h4,h5,h6⟩:=O2 h
      obtain ⟨a,ea,ha⟩:=Qk h1
      obtain ⟨b,eb,hb⟩:=O3 h2
      rw [ea] at h5 ⊢
      rw [eb,Int.toNat_natCast,Int.toNat_natCast]
      have h5:Xs w a=X2 i:=h5
      refine ANd ha ?_ ?_
      · rw [Gk h5 (Yx i)]; exact Ri w i c
      · rw [Gk (p:=X2 b) (BMa ha _) (Yx b)]; exact Li (.inr (.inl k7)) eb hb
    · rw [if_neg h]; exact Wh w i c
  by_cases k8:Z2 c=8
  · have s:X9 w i c=((Jj w i (Y6 c) (Xb c) (K9 c) (Xg c) (K8 c)).1,0,(Jj w i (Y6 c) (Xb c) (K9 c) (Xg c) (K8 c)).2.1,()):=by
      unfold X9; rw [if_neg k1,if_neg k2,if_neg (by omega),if_neg (by omega),if_neg (by omega),if_neg (by omega),if_neg k7,if_pos k8]
    rw [s]
    show Ch w i c (Jj w i (Y6 c) (Xb c) (K9 c) (Xg c) (K8 c)).1
    unfold Jj
    by_cases h:tradeErr w i (Y6 c) (Xb c) (K9 c) (Xg c) (K8 c)=0
    · rw [if_pos h]
      obtain ⟨q,e,ht⟩:=(Wq (Nj _ _)).1 h
      rw [e,Int.toNat_natCast]
      have fq:Y7 w i c 1 (q:Int):=Li (.inr (.inr k8)) e ht.hq
      refine ⟨fun j hj => ?_,fun j _ hj => ?_,Rh w i c⟩
      · have x:=Lt ok hi ht j
        by_cases e1:j=q
        · subst e1; exact fq
        · by_cases e2:j=i
          · subst e2; exact Ri w j c
          · rw [if_neg e1,if_neg e2] at x
            exact absurd ⟨rfl,x.symm⟩ hj
      · rcases ht.lots.at_ j with ⟨x,_⟩ | ⟨x,y,_⟩ | ⟨x,y,_⟩
        · exact absurd x.symm hj
        · rw [Gk (show Xs w j=X2 q from y) (Yx q),Gk (x:=Iv w i (q:Int) (Xb c) (Xg c) _ _) (show Xs (Iv w i (q:Int) (Xb c) (Xg c) _ _) j=X2 i from x) (Yx i)]
          exact ⟨fq,Ri w i c⟩
        · rw [Gk (show Xs w j=X2 i from y) (Yx i),Gk (x:=Iv w i (q:Int) (Xb c) (Xg c) _ _) (show Xs (Iv w i (q:Int) (Xb c) (Xg c) _ _) j=X2 q from x) (Yx q)]
          exact ⟨Ri w i c,fq⟩
    · rw [if_neg h]; exact Wh w i c
  have s:X9 w i c=(w,0,0,()):=by
    unfold X9; rw [if_neg k1,if_neg k2,if_neg (by omega),if_neg (by omega),if_neg (by omega),if_neg (by omega),if_neg k7,if_neg k8]
  rw [s]; exact Wh w i c
theorem BLv {w:den Zb} (ok:Ok w) {i:Nat} (hi:i<List.length (w.2.1:List Int)) (c:Cm):Ch w i c (doR w i c).1:=by
  unfold doR
  by_cases hm:Ws c
  · rw [if_pos hm]
    have h:=AO7 ok hi hm
    split
    · exact Wh w i c
    · split
      · exact Wh w i c
      · split
        · exact h
        · exact Wh w i c
  · rw [if_neg hm]; exact Wh w i c
end Go.Proofs.YtmemggdjnfccfaaGreatDoor.Ghost
