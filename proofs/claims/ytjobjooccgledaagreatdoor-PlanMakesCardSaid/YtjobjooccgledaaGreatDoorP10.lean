/- What functions come to, and that the statements are answered with 'true'. Conditions: none. -/
import Derived.Test.YtjobjooccgledaaGreatDoorS
import Derived.Test.YtjobjooccgledaaGreatDoorGE
import Derived.Test.YtjobjooccgledaaGreatDoorP1
import Derived.Test.YtjobjooccgledaaGreatDoorP2
import Derived.Test.YtjobjooccgledaaGreatDoorP3
import Derived.Test.YtjobjooccgledaaGreatDoorP4
import Derived.Test.YtjobjooccgledaaGreatDoorP5
import Derived.Test.YtjobjooccgledaaGreatDoorP6
import Derived.Test.YtjobjooccgledaaGreatDoorP7
import Derived.Test.YtjobjooccgledaaGreatDoorP8
import Derived.Test.YtjobjooccgledaaGreatDoorP9
set_option linter.unusedVariables false
set_option linter.unusedSimpArgs false
set_option linter.unusedSectionVars false
set_option linter.unnecessarySimpa false
namespace Go.Proofs.YtjobjooccgledaaGreatDoor.Ghost
open Go
noncomputable def Vs (w:den Za) (i:Nat) (c:Cm):den Za×Int×Int×Unit :=
  if Xo c=1 then goR w i (Pf c).toNat
  else if Xo c=2 then ABp w i (Gf c) (Pf c).toNat
  else if Xo c=3 then ((AJq w i (Yt c)).1,0,(AJq w i (Yt c)).2.1,())
  else if Xo c=4 then ((AAp w i (Yt c)).1,0,(AAp w i (Yt c)).2.1,())
  else if Xo c=5 then ((putR w i (Yt c) (G9 c)).1,0,(putR w i (Yt c) (G9 c)).2.1,())
  else if Xo c=6 then ((takeR w i (Yt c) (G9 c)).1,0,(takeR w i (Yt c) (G9 c)).2.1,())
  else if Xo c=7 then ((Pj w i (Yt c) (Gf c)).1,0,(Pj w i (Yt c) (Gf c)).2.1,())
  else if Xo c=8 then ((K0 w i (Gf c) (Xl c) (Us c) (Xr c) (Ur c)).1,0,(K0 w i (Gf c) (Xl c) (Us c) (Xr c) (Ur c)).2.1,())
  else (w,0,0,())
def Bb (e:Int):den Xg:=(e,(0:Int),(0:Int),([]:List Int),([]:List Sn),(0:Int),())
def ANx (k r:Int):den Xg:=((0:Int),k,r,([]:List Int),([]:List Sn),(0:Int),())
open Classical in
noncomputable def doR (w:den Za) (i:Nat) (c:Cm):den Za×den Xg×Unit :=
  if M3 c then (if Xo c=9 then (w,ASd w i,()) else if Xo c=10 then (w,BXl w i,()) else if (Vs w i c).2.2.1=0 then ((Vs w i c).1,ANx (Xo c) (Vs w i c).2.1,()) else (w,Bb (Vs w i c).2.2.1,())) else (w,Bb 2,())
theorem M3.dir {c:Cm} (h:M3 c):∃ d:Nat,d<4∧Pf c=(d:Int):=⟨(Pf c).toNat,by have:=h.d1; have:=h.d2; omega,by have:=h.d1; omega⟩
theorem M3.kinds {c:Cm} (h:M3 c):Xo c=1∨Xo c=2∨Xo c=3∨Xo c=4∨Xo c=5∨Xo c=6∨Xo c=7∨Xo c=8∨Xo c=9∨Xo c=10:=by
  have:=h.k1
  have:=h.k2
  omega
theorem ASb:Hu 0:=⟨Int.le_refl 0,by decide⟩
structure TrC (c:Cm):Prop where
  g:(Xl c).length≤100
  w:(Xr c).length≤100
  pay:Hu (Us c)
  fee:Hu (Ur c)
theorem trC {c:Cm} (hf:AKw c) (hm:M3 c):TrC c where
  g:=by have:=hf.1; omega
  w:=by have:=hf.2; omega
  pay:=by
    by_cases hk:Xo c=8
    · exact hm.pay.1 hk
    · rw [hm.pay.2 hk]; exact ASb
  fee:=by
    by_cases hk:Xo c=8
    · exact hm.fee.1 hk
    · rw [hm.fee.2 hk]; exact ASb
end Go.Proofs.YtjobjooccgledaaGreatDoor.Ghost
namespace Go.Proofs.YtjobjooccgledaaGreatDoor.Ghost
open Go
theorem AM3 {w:den Za} (ok:Ok w) {i d:Nat} (hi:i<List.length (w.2.1:List Int)) (hd:d<4):Ok (goR w i d).1∧(goR w i d).1.1=w.1:=by
  unfold goR
  by_cases h:0≤Uq w i d
  · rw [if_pos h]; exact ⟨ok.moved hi hd h,rfl⟩
  · rw [if_neg h]; exact ⟨ok,rfl⟩
theorem AFr {w:den Za} (ok:Ok w) {k:Int} {p q:Pl} (hp:¬ p.1=(2:Int)) (hq:¬ q.1=(2:Int)) (hg:Ks w.1 q):Ok (Li w k p q).1∧(Li w k p q).1.1=w.1:=by
  unfold Li
  by_cases h:Kr w k p q=0
  · rw [if_pos h]
    obtain ⟨h1,h2,h3,h4⟩:=AC8 h
    exact ⟨ok.put (by omega) hq (by rw [h3]; exact hp) hg h4,rfl⟩
  · rw [if_neg h]; exact ⟨ok,rfl⟩
theorem ACs {w:den Za} {p:Nat} {k q:Int} (h:giveErr w p k q=0):inR w k∧inQ w q∧¬ q=(p:Int)∧T6 w q.toNat=T6 w p∧Qz w k.toNat=Yc p∧1≤Y7 w (Yc q.toNat):=by
  have hin:=AGv (w:=w) (p:=p) (k:=k) (q:=q) (by rw [h]; decide)
  unfold giveErr at h
  rw [if_pos hin] at h
  by_cases h1:q=(p:Int)
  · rw [if_pos h1] at h; exact absurd h (by decide)
  rw [if_neg h1] at h
  by_cases h2:T6 w q.toNat=T6 w p∧Qz w k.toNat=Yc p
  · rw [if_pos h2] at h
    by_cases h3:Y7 w (Yc q.toNat)<1
    · rw [if_pos h3] at h; exact absurd h (by decide)
    · exact ⟨hin.1,hin.2,h1,h2.1,h2.2,by omega⟩
  · rw [if_neg h2] at h; exact absurd h (by decide)
theorem AN6 {w:den Za} (ok:Ok w) {i:Nat} (hi:i<List.length (w.2.1:List Int)) {c:Cm} (hm:M3 c):Ok (Vs w i c).1∧(Vs w i c).1.1=w.1:=by
  obtain ⟨d,hd,ed⟩:=hm.dir
  have ed':(Pf c).toNat=d:=by omega
  have g1:=ok.right.good_me hi
  have g2:=ok.right.good_floor hi
  unfold Vs
  rw [ed']
  by_cases k1:Xo c=1
  · rw [if_pos k1]; exact AM3 ok hi hd
  rw [if_neg k1]
  by_cases k2:Xo c=2
  · rw [if_pos k2]
    unfold ABp
    by_cases h:Gp w i (Gf c)=0
    · rw [if_pos h]
      obtain ⟨h1,h2,_⟩:=Or h
      exact AM3 ok (by omega) hd
    · rw [if_neg h]; exact ⟨ok,rfl⟩
  rw [if_neg k2]
  by_cases k3:Xo c=3
  · rw [if_pos k3]; exact AFr ok (Lb w i) (On i) g1
  rw [if_neg k3]
  by_cases k4:Xo c=4
  · rw [if_pos k4]; exact AFr ok (On i) (Lb w i) g2
  rw [if_neg k4]
  by_cases k5:Xo c=5
  · rw [if_pos k5]
    show Ok (putR w i (Yt c) (G9 c)).1∧(putR w i (Yt c) (G9 c)).1.1=w.1
    by_cases h:putErr w i (Yt c) (G9 c)=0
    · obtain ⟨h1,h2⟩:=ABq (w:=w) (i:=i) (k:=Yt c) (b:=G9 c) (by rw [h]; decide)
      obtain ⟨a,ea,ha⟩:=H7 h1
      obtain ⟨b,eb,hb⟩:=H7 h2
      rw [ea,eb] at h ⊢
      rw [AKe h]
      exact ⟨((AFw ha hb).1 h).ok ok,rfl⟩
    · rw [Aa h]; exact ⟨ok,rfl⟩
  rw [if_neg k5]
  by_cases k6:Xo c=6
  · rw [if_pos k6]
    show Ok (takeR w i (Yt c) (G9 c)).1∧(takeR w i (Yt c) (G9 c)).1.1=w.1
    by_cases h:takeErr w i (Yt c) (G9 c)=0
    · obtain ⟨h1,h2⟩:=Ap (w:=w) (i:=i) (k:=Yt c) (b:=G9 c) (by rw [h]; decide)
      obtain ⟨a,ea,ha⟩:=H7 h1
      obtain ⟨b,eb,hb⟩:=H7 h2
      rw [ea,eb] at h ⊢
      rw [AHp h]
      exact ⟨((ADg ha hb).1 h).ok ok hi,rfl⟩
    · rw [Du h]; exact ⟨ok,rfl⟩
  rw [if_neg k6]
  by_cases k7:Xo c=7
  · rw [if_pos k7]
    show Ok (Pj w i (Yt c) (Gf c)).1∧(Pj w i (Yt c) (Gf c)).1.1=w.1
    unfold Pj
    by_cases h:giveErr w i (Yt c) (Gf c)=0
    · rw [if_pos h]
      obtain ⟨h1,h2,h3,h4,h5,h6⟩:=ACs h
      obtain ⟨a,ea,ha⟩:=H7 h1
      obtain ⟨b,eb,hb⟩:=Ca h2
      rw [ea] at h5 ⊢
      rw [eb] at h6 ⊢
      exact ⟨ok.put ha (On b) (by show ¬ (Qz w a).1=(2:Int); rw [show Qz w a=Yc i from h5]; exact On i) (ok.right.good_me hb) h6,rfl⟩
    · rw [if_neg h]; exact ⟨ok,rfl⟩
  rw [if_neg k7]
  by_cases k8:Xo c=8
  · rw [if_pos k8]
    show Ok (K0 w i (Gf c) (Xl c) (Us c) (Xr c) (Ur c)).1∧(K0 w i (Gf c) (Xl c) (Us c) (Xr c) (Ur c)).1.1=w.1
    unfold K0
    by_cases h:tradeErr w i (Gf c) (Xl c) (Us c) (Xr c) (Ur c)=0
    · rw [if_pos h]
      obtain ⟨n,e,ht⟩:=(AAf (AHo _ _)).1 h
      rw [e,Int.toNat_natCast]
      exact ⟨BHw ok hi ht,rfl⟩
    · rw [if_neg h]; exact ⟨ok,rfl⟩
  rw [if_neg k8]; exact ⟨ok,rfl⟩
theorem BHb {w:den Za} (ok:Ok w) {i:Nat} (hi:i<List.length (w.2.1:List Int)) (c:Cm):Ok (doR w i c).1∧(doR w i c).1.1=w.1:=by
  unfold doR
  by_cases hm:M3 c
  · rw [if_pos hm]
    have h:=AN6 ok hi hm
    split
    · exact ⟨ok,rfl⟩
    · split
      · exact ⟨ok,rfl⟩
      · split
        · exact h
        · exact ⟨ok,rfl⟩
  · rw [if_neg hm]; exact ⟨ok,rfl⟩
end Go.Proofs.YtjobjooccgledaaGreatDoor.Ghost
