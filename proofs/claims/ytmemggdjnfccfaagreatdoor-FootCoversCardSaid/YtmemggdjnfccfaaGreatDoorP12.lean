/- What functions come to, and that the statements are answered with 'true'. Conditions: none. -/
import Derived.Test.YtmemggdjnfccfaaGreatDoorS
import Derived.Test.YtmemggdjnfccfaaGreatDoorGE
import Derived.Test.YtmemggdjnfccfaaGreatDoorP1
import Derived.Test.YtmemggdjnfccfaaGreatDoorP2
import Derived.Test.YtmemggdjnfccfaaGreatDoorP3
import Derived.Test.YtmemggdjnfccfaaGreatDoorP4
import Derived.Test.YtmemggdjnfccfaaGreatDoorP5
import Derived.Test.YtmemggdjnfccfaaGreatDoorP6
import Derived.Test.YtmemggdjnfccfaaGreatDoorP7
import Derived.Test.YtmemggdjnfccfaaGreatDoorP8
import Derived.Test.YtmemggdjnfccfaaGreatDoorP9
import Derived.Test.YtmemggdjnfccfaaGreatDoorP10
import Derived.Test.YtmemggdjnfccfaaGreatDoorP11
set_option linter.unusedVariables false
set_option linter.unusedSimpArgs false
set_option linter.unusedSectionVars false
set_option linter.unnecessarySimpa false
namespace Go.Proofs.YtmemggdjnfccfaaGreatDoor.Ghost
open Go
noncomputable def Qj (w:den Zb) (i:Nat) (c:Cm):den Zb×Int×Int×Unit :=
  if Z4 c=1 then goR w i (H5 c).toNat
  else if Z4 c=2 then D0 w i (Jz c) (H5 c).toNat
  else if Z4 c=3 then ((AG6 w i (X5 c)).1,0,(AG6 w i (X5 c)).2.1,())
  else if Z4 c=4 then ((Bq w i (X5 c)).1,0,(Bq w i (X5 c)).2.1,())
  else if Z4 c=5 then ((putR w i (X5 c) (Hx c)).1,0,(putR w i (X5 c) (Hx c)).2.1,())
  else if Z4 c=6 then ((takeR w i (X5 c) (Hx c)).1,0,(takeR w i (X5 c) (Hx c)).2.1,())
  else if Z4 c=7 then ((Wn w i (X5 c) (Jz c)).1,0,(Wn w i (X5 c) (Jz c)).2.1,())
  else if Z4 c=8 then ((V6 w i (Jz c) (Xj c) (G6 c) (Xl c) (G5 c)).1,0,(V6 w i (Jz c) (Xj c) (G6 c) (Xl c) (G5 c)).2.1,())
  else (w,0,0,())
def Bx (e:Int):den Xm:=(e,(0:Int),(0:Int),([]:List Int),([]:List Sn),(0:Int),())
def AN6 (k r:Int):den Xm:=((0:Int),k,r,([]:List Int),([]:List Sn),(0:Int),())
open Classical in
noncomputable def doR (w:den Zb) (i:Nat) (c:Cm):den Zb×den Xm×Unit :=
  if Pm c then (if Z4 c=9 then (w,ATu w i,()) else if Z4 c=10 then (w,BYd w i,()) else if (Qj w i c).2.2.1=0 then ((Qj w i c).1,AN6 (Z4 c) (Qj w i c).2.1,()) else (w,Bx (Qj w i c).2.2.1,())) else (w,Bx 2,())
theorem Pm.dir {c:Cm} (h:Pm c):∃ d:Nat,d<4∧H5 c=(d:Int):=⟨(H5 c).toNat,by have:=h.d1; have:=h.d2; omega,by have:=h.d1; omega⟩
theorem Pm.kinds {c:Cm} (h:Pm c):Z4 c=1∨Z4 c=2∨Z4 c=3∨Z4 c=4∨Z4 c=5∨Z4 c=6∨Z4 c=7∨Z4 c=8∨Z4 c=9∨Z4 c=10:=by
  have:=h.k1
  have:=h.k2
  omega
theorem ATs:H6 0:=⟨Int.le_refl 0,by decide⟩
structure TrC (c:Cm):Prop where
  g:(Xj c).length≤100
  w:(Xl c).length≤100
  pay:H6 (G6 c)
  fee:H6 (G5 c)
theorem trC {c:Cm} (hf:AK7 c) (hm:Pm c):TrC c where
  g:=by have:=hf.1; omega
  w:=by have:=hf.2; omega
  pay:=by
    by_cases hk:Z4 c=8
    · exact hm.pay.1 hk
    · rw [hm.pay.2 hk]; exact ATs
  fee:=by
    by_cases hk:Z4 c=8
    · exact hm.fee.1 hk
    · rw [hm.fee.2 hk]; exact ATs
end Go.Proofs.YtmemggdjnfccfaaGreatDoor.Ghost
namespace Go.Proofs.YtmemggdjnfccfaaGreatDoor.Ghost
open Go
theorem AM9 {w:den Zb} (ok:Ok w) {i d:Nat} (hi:i<List.length (w.2.1:List Int)) (hd:d<4):Ok (goR w i d).1∧(goR w i d).1.1=w.1:=by
  unfold goR
  by_cases h:0≤Ke w i d
  · rw [if_pos h]; exact ⟨ok.moved hi hd h,rfl⟩
  · rw [if_neg h]; exact ⟨ok,rfl⟩
theorem AF7 {w:den Zb} (ok:Ok w) {k:Int} {p q:Pl} (hp:¬ p.1=(2:Int)) (hq:¬ q.1=(2:Int)) (hg:K1 w.1 q):Ok (O4 w k p q).1∧(O4 w k p q).1.1=w.1:=by
  unfold O4
  by_cases h:Vr w k p q=0
  · rw [if_pos h]
    obtain ⟨h1,h2,h3,h4⟩:=Or h
    exact ⟨ok.put (by omega) hq (by rw [h3]; exact hp) hg h4,rfl⟩
  · rw [if_neg h]; exact ⟨ok,rfl⟩
theorem I2 {w:den Zb} {p:Nat} {k q:Int} (h:giveErr w p k q=0):inR w k∧inQ w q∧¬ q=(p:Int)∧Qi w q.toNat=Qi w p∧Yb w k.toNat=X8 p∧1≤Y3 w (X8 q.toNat):=by
  have hin:=AG7 (w:=w) (p:=p) (k:=k) (q:=q) (by rw [h]; decide)
  unfold giveErr at h
  rw [if_pos hin] at h
  by_cases h1:q=(p:Int)
  · rw [if_pos h1] at h; exact absurd h (by decide)
  rw [if_neg h1] at h
  by_cases h2:Qi w q.toNat=Qi w p∧Yb w k.toNat=X8 p
  · rw [if_pos h2] at h
    by_cases h3:Y3 w (X8 q.toNat)<1
    · rw [if_pos h3] at h; exact absurd h (by decide)
    · exact ⟨hin.1,hin.2,h1,h2.1,h2.2,by omega⟩
  · rw [if_neg h2] at h; exact absurd h (by decide)
theorem AOj {w:den Zb} (ok:Ok w) {i:Nat} (hi:i<List.length (w.2.1:List Int)) {c:Cm} (hm:Pm c):Ok (Qj w i c).1∧(Qj w i c).1.1=w.1:=by
  obtain ⟨d,hd,ed⟩:=hm.dir
  have ed':(H5 c).toNat=d:=by omega
  have g1:=ok.right.good_me hi
  have g2:=ok.right.good_floor hi
  unfold Qj
  rw [ed']
  by_cases k1:Z4 c=1
  · rw [if_pos k1]; exact AM9 ok hi hd
  rw [if_neg k1]
  by_cases k2:Z4 c=2
  · rw [if_pos k2]
    unfold D0
    by_cases h:Gm w i (Jz c)=0
    · rw [if_pos h]
      obtain ⟨h1,h2,_⟩:=Ti h
      exact AM9 ok (by omega) hd
    · rw [if_neg h]; exact ⟨ok,rfl⟩
  rw [if_neg k2]
  by_cases k3:Z4 c=3
  · rw [if_pos k3]; exact AF7 ok (Gy w i) (Vc i) g1
  rw [if_neg k3]
  by_cases k4:Z4 c=4
  · rw [if_pos k4]; exact AF7 ok (Vc i) (Gy w i) g2
  rw [if_neg k4]
  by_cases k5:Z4 c=5
  · rw [if_pos k5]
    show Ok (putR w i (X5 c) (Hx c)).1∧(putR w i (X5 c) (Hx c)).1.1=w.1
    by_cases h:putErr w i (X5 c) (Hx c)=0
    · obtain ⟨h1,h2⟩:=E3 (w:=w) (i:=i) (k:=X5 c) (b:=Hx c) (by rw [h]; decide)
      obtain ⟨a,ea,ha⟩:=J3 h1
      obtain ⟨b,eb,hb⟩:=J3 h2
      rw [ea,eb] at h ⊢
      rw [AKt h]
      exact ⟨((D1 ha hb).1 h).ok ok,rfl⟩
    · rw [Au h]; exact ⟨ok,rfl⟩
  rw [if_neg k5]
  by_cases k6:Z4 c=6
  · rw [if_pos k6]
    show Ok (takeR w i (X5 c) (Hx c)).1∧(takeR w i (X5 c) (Hx c)).1.1=w.1
    by_cases h:takeErr w i (X5 c) (Hx c)=0
    · obtain ⟨h1,h2⟩:=L8 (w:=w) (i:=i) (k:=X5 c) (b:=Hx c) (by rw [h]; decide)
      obtain ⟨a,ea,ha⟩:=J3 h1
      obtain ⟨b,eb,hb⟩:=J3 h2
      rw [ea,eb] at h ⊢
      rw [AH6 h]
      exact ⟨((Fv ha hb).1 h).ok ok hi,rfl⟩
    · rw [D8 h]; exact ⟨ok,rfl⟩
  rw [if_neg k6]
  by_cases k7:Z4 c=7
  · rw [if_pos k7]
    show Ok (Wn w i (X5 c) (Jz c)).1∧(Wn w i (X5 c) (Jz c)).1.1=w.1
    unfold Wn
    by_cases h:giveErr w i (X5 c) (Jz c)=0
    · rw [if_pos h]
      obtain ⟨h1,h2,h3,h4,h5,h6⟩:=I2 h
      obtain ⟨a,ea,ha⟩:=J3 h1
      obtain ⟨b,eb,hb⟩:=I7 h2
      rw [ea] at h5 ⊢
      rw [eb] at h6 ⊢
      exact ⟨ok.put ha (Vc b) (by show ¬ (Yb w a).1=(2:Int); rw [show Yb w a=X8 i from h5]; exact Vc i) (ok.right.good_me hb) h6,rfl⟩
    · rw [if_neg h]; exact ⟨ok,rfl⟩
  rw [if_neg k7]
  by_cases k8:Z4 c=8
  · rw [if_pos k8]
    show Ok (V6 w i (Jz c) (Xj c) (G6 c) (Xl c) (G5 c)).1∧(V6 w i (Jz c) (Xj c) (G6 c) (Xl c) (G5 c)).1.1=w.1
    unfold V6
    by_cases h:tradeErr w i (Jz c) (Xj c) (G6 c) (Xl c) (G5 c)=0
    · rw [if_pos h]
      obtain ⟨n,e,ht⟩:=(Lh (AAg _ _)).1 h
      rw [e,Int.toNat_natCast]
      exact ⟨BKr ok hi ht,rfl⟩
    · rw [if_neg h]; exact ⟨ok,rfl⟩
  rw [if_neg k8]; exact ⟨ok,rfl⟩
theorem BJ8 {w:den Zb} (ok:Ok w) {i:Nat} (hi:i<List.length (w.2.1:List Int)) (c:Cm):Ok (doR w i c).1∧(doR w i c).1.1=w.1:=by
  unfold doR
  by_cases hm:Pm c
  · rw [if_pos hm]
    have h:=AOj ok hi hm
    split
    · exact ⟨ok,rfl⟩
    · split
      · exact ⟨ok,rfl⟩
      · split
        · exact h
        · exact ⟨ok,rfl⟩
  · rw [if_neg hm]; exact ⟨ok,rfl⟩
end Go.Proofs.YtmemggdjnfccfaaGreatDoor.Ghost
