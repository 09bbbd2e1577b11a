/- What functions come to, and that the statements are answered with 'true'. Conditions: none. -/
import Derived.Test.YtmemggdjnfccfaaGreatDoorS
import Derived.Test.YtmemggdjnfccfaaGreatDoorGE
import Derived.Test.YtmemggdjnfccfaaGreatDoorP1
import Derived.Test.YtmemggdjnfccfaaGreatDoorP2
import Derived.Test.YtmemggdjnfccfaaGreatDoorP3
import Derived.Test.YtmemggdjnfccfaaGreatDoorP4
import Derived.Test.YtmemggdjnfccfaaGreatDoorP5
import Derived.Test.YtmemggdjnfccfaaGreatDoorP6
import Derived.Test.YtmemggdjnfccfaaGreatDoorP7
import Derived.Test.YtmemggdjnfccfaaGreatDoorP8
import Derived.Test.YtmemggdjnfccfaaGreatDoorP9
import Derived.Test.YtmemggdjnfccfaaGreatDoorP10
import Derived.Test.YtmemggdjnfccfaaGreatDoorP11
set_option linter.unusedVariables false
set_option linter.unusedSimpArgs false
set_option linter.unusedSectionVars false
set_option linter.unnecessarySimpa false
namespace Go.Proofs.YtmemggdjnfccfaaGreatDoor.Ghost
open Go
noncomputable def X9 (w:den Zb) (i:Nat) (c:Cm):den Zb×Int×Int×Unit :=
  if Z2 c=1 then goR w i (Hg c).toNat
  else if Z2 c=2 then Np w i (Y6 c) (Hg c).toNat
  else if Z2 c=3 then ((AHs w i (X4 c)).1,0,(AHs w i (X4 c)).2.1,())
  else if Z2 c=4 then ((B7 w i (X4 c)).1,0,(B7 w i (X4 c)).2.1,())
  else if Z2 c=5 then ((putR w i (X4 c) (H6 c)).1,0,(putR w i (X4 c) (H6 c)).2.1,())
  else if Z2 c=6 then ((takeR w i (X4 c) (H6 c)).1,0,(takeR w i (X4 c) (H6 c)).2.1,())
  else if Z2 c=7 then ((H9 w i (X4 c) (Y6 c)).1,0,(H9 w i (X4 c) (Y6 c)).2.1,())
  else if Z2 c=8 then ((Jj w i (Y6 c) (Xb c) (K9 c) (Xg c) (K8 c)).1,0,(Jj w i (Y6 c) (Xb c) (K9 c) (Xg c) (K8 c)).2.1,())
  else (w,0,0,())
def Ae (e:Int):den Z9:=(e,(0:Int),(0:Int),([]:List Int),([]:List Sn),(0:Int),())
def AOu (k r:Int):den Z9:=((0:Int),k,r,([]:List Int),([]:List Sn),(0:Int),())
open Classical in
noncomputable def doR (w:den Zb) (i:Nat) (c:Cm):den Zb×den Z9×Unit :=
  if Ws c then (if Z2 c=9 then (w,AAa w i,()) else if Z2 c=10 then (w,AId w i,()) else if (X9 w i c).2.2.1=0 then ((X9 w i c).1,AOu (Z2 c) (X9 w i c).2.1,()) else (w,Ae (X9 w i c).2.2.1,())) else (w,Ae 2,())
theorem Ws.dir {c:Cm} (h:Ws c):∃ d:Nat,d<4∧Hg c=(d:Int):=⟨(Hg c).toNat,by have:=h.d1; have:=h.d2; omega,by have:=h.d1; omega⟩
theorem Ws.kinds {c:Cm} (h:Ws c):Z2 c=1∨Z2 c=2∨Z2 c=3∨Z2 c=4∨Z2 c=5∨Z2 c=6∨Z2 c=7∨Z2 c=8∨Z2 c=9∨Z2 c=10:=by
  have:=h.k1
  have:=h.k2
  omega
theorem AUf:Ge 0:=⟨Int.le_refl 0,by decide⟩
structure TrC (c:Cm):Prop where
  g:(Xb c).length≤100
  w:(Xg c).length≤100
  pay:Ge (K9 c)
  fee:Ge (K8 c)
theorem trC {c:Cm} (hf:AHe c) (hm:Ws c):TrC c where
  g:=by have:=hf.1; omega
  w:=by have:=hf.2; omega
  pay:=by
    by_cases hk:Z2 c=8
    · exact hm.pay.1 hk
    · rw [hm.pay.2 hk]; exact AUf
  fee:=by
    by_cases hk:Z2 c=8
    · exact hm.fee.1 hk
    · rw [hm.fee.2 hk]; exact AUf
end Go.Proofs.YtmemggdjnfccfaaGreatDoor.Ghost
namespace Go.Proofs.YtmemggdjnfccfaaGreatDoor.Ghost
open Go
theorem ANx {w:den Zb} (ok:Ok w) {i d:Nat} (hi:i<List.length (w.2.1:List Int)) (hd:d<4):Ok (goR w i d).1∧(goR w i d).1.1=w.1:=by
  unfold goR
  by_cases h:0≤Y5 w i d
  · rw [if_pos h]; exact ⟨ok.moved hi hd h,rfl⟩
  · rw [if_neg h]; exact ⟨ok,rfl⟩
theorem AGq {w:den Zb} (ok:Ok w) {k:Int} {p q:Pl} (hp:¬ p.1=(2:Int)) (hq:¬ q.1=(2:Int)) (hg:K3 w.1 q):Ok (Nn w k p q).1∧(Nn w k p q).1.1=w.1:=by
  unfold Nn
  by_cases h:Qt w k p q=0
  · rw [if_pos h]
    obtain ⟨h1,h2,h3,h4⟩:=Na h
    exact ⟨ok.put (by omega) hq (by rw [h3]; exact hp) hg h4,rfl⟩
  · rw [if_neg h]; exact ⟨ok,rfl⟩
theorem O2 {w:den Zb} {p:Nat} {k q:Int} (h:giveErr w p k q=0):inR w k∧inQ w q∧¬ q=(p:Int)∧Yc w q.toNat=Yc w p∧Xs w k.toNat=X2 p∧1≤Y0 w (X2 q.toNat):=by
  have hin:=AHt (w:=w) (p:=p) (k:=k) (q:=q) (by rw [h]; decide)
  unfold giveErr at h
  rw [if_pos hin] at h
  by_cases h1:q=(p:Int)
  · rw [if_pos h1] at h; exact absurd h (by decide)
  rw [if_neg h1] at h
  by_cases h2:Yc w q.toNat=Yc w p∧Xs w k.toNat=X2 p
  · rw [if_pos h2] at h
    by_cases h3:Y0 w (X2 q.toNat)<1
    · rw [if_pos h3] at h; exact absurd h (by decide)
    · exact ⟨hin.1,hin.2,h1,h2.1,h2.2,by omega⟩
  · rw [if_neg h2] at h; exact absurd h (by decide)
theorem AO8 {w:den Zb} (ok:Ok w) {i:Nat} (hi:i<List.length (w.2.1:List Int)) {c:Cm} (hm:Ws c):Ok (X9 w i c).1∧(X9 w i c).1.1=w.1:=by
  obtain ⟨d,hd,ed⟩:=hm.dir
  have ed':(Hg c).toNat=d:=by omega
  have g1:=ok.right.good_me hi
  have g2:=ok.right.good_floor hi
  unfold X9
  rw [ed']
  by_cases k1:Z2 c=1
  · rw [if_pos k1]; exact ANx ok hi hd
  rw [if_neg k1]
  by_cases k2:Z2 c=2
  · rw [if_pos k2]
    unfold Np
    by_cases h:Ki w i (Y6 c)=0
    · rw [if_pos h]
      obtain ⟨h1,h2,_⟩:=Gx h
      exact ANx ok (by omega) hd
    · rw [if_neg h]; exact ⟨ok,rfl⟩
  rw [if_neg k2]
  by_cases k3:Z2 c=3
  · rw [if_pos k3]; exact AGq ok (G8 w i) (Yx i) g1
  rw [if_neg k3]
  by_cases k4:Z2 c=4
  · rw [if_pos k4]; exact AGq ok (Yx i) (G8 w i) g2
  rw [if_neg k4]
  by_cases k5:Z2 c=5
  · rw [if_pos k5]
    show Ok (putR w i (X4 c) (H6 c)).1∧(putR w i (X4 c) (H6 c)).1.1=w.1
    by_cases h:putErr w i (X4 c) (H6 c)=0
    · obtain ⟨h1,h2⟩:=Dl (w:=w) (i:=i) (k:=X4 c) (b:=H6 c) (by rw [h]; decide)
      obtain ⟨a,ea,ha⟩:=Qk h1
      obtain ⟨b,eb,hb⟩:=Qk h2
      rw [ea,eb] at h ⊢
      rw [ALi h]
      exact ⟨((Ck ha hb).1 h).ok ok,rfl⟩
    · rw [AAn h]; exact ⟨ok,rfl⟩
  rw [if_neg k5]
  by_cases k6:Z2 c=6
  · rw [if_pos k6]
    show Ok (takeR w i (X4 c) (H6 c)).1∧(takeR w i (X4 c) (H6 c)).1.1=w.1
    by_cases h:takeErr w i (X4 c) (H6 c)=0
    · obtain ⟨h1,h2⟩:=Ir (w:=w) (i:=i) (k:=X4 c) (b:=H6 c) (by rw [h]; decide)
      obtain ⟨a,ea,ha⟩:=Qk h1
      obtain ⟨b,eb,hb⟩:=Qk h2
      rw [ea,eb] at h ⊢
      rw [AIt h]
      exact ⟨((Ea ha hb).1 h).ok ok hi,rfl⟩
    · rw [Cs h]; exact ⟨ok,rfl⟩
  rw [if_neg k6]
  by_cases k7:Z2 c=7
  · rw [if_pos k7]
    show Ok (H9 w i (X4 c) (Y6 c)).1∧(H9 w i (X4 c) (Y6 c)).1.1=w.1
    unfold H9
    by_cases h:giveErr w i (X4 c) (Y6 c)=0
    · rw [if_pos h]
      obtain ⟨h1,h2,h3,h4,h5,h6⟩:=O2 h
      obtain ⟨a,ea,ha⟩:=Qk h1
      obtain ⟨b,eb,hb⟩:=O3 h2
      rw [ea] at h5 ⊢
      rw [eb] at h6 ⊢
      exact ⟨ok.put ha (Yx b) (by show ¬ (Xs w a).1=(2:Int); rw [show Xs w a=X2 i from h5]; exact Yx i) (ok.right.good_me hb) h6,rfl⟩
    · rw [if_neg h]; exact ⟨ok,rfl⟩
  rw [if_neg k7]
  by_cases k8:Z2 c=8
  · rw [if_pos k8]
    show Ok (Jj w i (Y6 c) (Xb c) (K9 c) (Xg c) (K8 c)).1∧(Jj w i (Y6 c) (Xb c) (K9 c) (Xg c) (K8 c)).1.1=w.1
    unfold Jj
    by_cases h:tradeErr w i (Y6 c) (Xb c) (K9 c) (Xg c) (K8 c)=0
    · rw [if_pos h]
      obtain ⟨n,e,ht⟩:=(Wq (Nj _ _)).1 h
      rw [e,Int.toNat_natCast]
      exact ⟨BMg ok hi ht,rfl⟩
    · rw [if_neg h]; exact ⟨ok,rfl⟩
  rw [if_neg k8]; exact ⟨ok,rfl⟩
theorem Ey {w:den Zb} (ok:Ok w) {i:Nat} (hi:i<List.length (w.2.1:List Int)) (c:Cm):Ok (doR w i c).1∧(doR w i c).1.1=w.1:=by
  unfold doR
  by_cases hm:Ws c
  · rw [if_pos hm]
    have h:=AO8 ok hi hm
    split
    · exact ⟨ok,rfl⟩
    · split
      · exact ⟨ok,rfl⟩
      · split
        · exact h
        · exact ⟨ok,rfl⟩
  · rw [if_neg hm]; exact ⟨ok,rfl⟩
end Go.Proofs.YtmemggdjnfccfaaGreatDoor.Ghost
