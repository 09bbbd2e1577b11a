/- What functions come to, and that the statements are answered with 'true'. Conditions: none. -/
import Derived.Test.YtpemapoblhleoaaGreatDoorS
import Derived.Test.YtpemapoblhleoaaGreatDoorGE
import Derived.Test.YtpemapoblhleoaaGreatDoorP1
import Derived.Test.YtpemapoblhleoaaGreatDoorP2
import Derived.Test.YtpemapoblhleoaaGreatDoorP3
import Derived.Test.YtpemapoblhleoaaGreatDoorP4
import Derived.Test.YtpemapoblhleoaaGreatDoorP5
import Derived.Test.YtpemapoblhleoaaGreatDoorP6
import Derived.Test.YtpemapoblhleoaaGreatDoorP7
import Derived.Test.YtpemapoblhleoaaGreatDoorP8
import Derived.Test.YtpemapoblhleoaaGreatDoorP9
set_option linter.unusedVariables false
set_option linter.unusedSimpArgs false
set_option linter.unusedSectionVars false
set_option linter.unnecessarySimpa false
namespace Go.Proofs.YtpemapoblhleoaaGreatDoor.Ghost
open Go
noncomputable def J4 (w:den Za) (i:Nat) (c:Cm):den Za×Int×Int×Unit :=
  if Xg c=1 then goR w i (Oi c).toNat
  else if Xg c=2 then C8 w i (Hp c) (Oi c).toNat
  else if Xg c=3 then ((AIi w i (Yo c)).1,0,(AIi w i (Yo c)).2.1,())
  else if Xg c=4 then ((Ah w i (Yo c)).1,0,(Ah w i (Yo c)).2.1,())
  else if Xg c=5 then ((putR w i (Yo c) (Gk c)).1,0,(putR w i (Yo c) (Gk c)).2.1,())
  else if Xg c=6 then ((takeR w i (Yo c) (Gk c)).1,0,(takeR w i (Yo c) (Gk c)).2.1,())
  else if Xg c=7 then ((T5 w i (Yo c) (Hp c)).1,0,(T5 w i (Yo c) (Hp c)).2.1,())
  else if Xg c=8 then ((Kl w i (Hp c) (Xi c) (Uh c) (Xp c) (Ug c)).1,0,(Kl w i (Hp c) (Xi c) (Uh c) (Xp c) (Ug c)).2.1,())
  else (w,0,0,())
def Rj (e:Int):den Zm:=(e,(0:Int),(0:Int),([]:List Int),([]:List Sn),(0:Int),())
def AHj (k r:Int):den Zm:=((0:Int),k,r,([]:List Int),([]:List Sn),(0:Int),())
open Classical in
noncomputable def doR (w:den Za) (i:Nat) (c:Cm):den Za×den Zm×Unit :=
  if Mv c then (if Xg c=9 then (w,AHd w i,()) else if Xg c=10 then (w,BJo w i,()) else if (J4 w i c).2.2.1=0 then ((J4 w i c).1,AHj (Xg c) (J4 w i c).2.1,()) else (w,Rj (J4 w i c).2.2.1,())) else (w,Rj 2,())
theorem Mv.dir {c:Cm} (h:Mv c):∃ d:Nat,d<4∧Oi c=(d:Int):=⟨(Oi c).toNat,by have:=h.d1; have:=h.d2; omega,by have:=h.d1; omega⟩
theorem Mv.kinds {c:Cm} (h:Mv c):Xg c=1∨Xg c=2∨Xg c=3∨Xg c=4∨Xg c=5∨Xg c=6∨Xg c=7∨Xg c=8∨Xg c=9∨Xg c=10:=by
  have:=h.k1
  have:=h.k2
  omega
theorem ARt:Ha 0:=⟨Int.le_refl 0,by decide⟩
structure TrC (c:Cm):Prop where
  g:(Xi c).length≤100
  w:(Xp c).length≤100
  pay:Ha (Uh c)
  fee:Ha (Ug c)
theorem trC {c:Cm} (hf:AHz c) (hm:Mv c):TrC c where
  g:=by have:=hf.1; omega
  w:=by have:=hf.2; omega
  pay:=by
    by_cases hk:Xg c=8
    · exact hm.pay.1 hk
    · rw [hm.pay.2 hk]; exact ARt
  fee:=by
    by_cases hk:Xg c=8
    · exact hm.fee.1 hk
    · rw [hm.fee.2 hk]; exact ARt
end Go.Proofs.YtpemapoblhleoaaGreatDoor.Ghost
namespace Go.Proofs.YtpemapoblhleoaaGreatDoor.Ghost
open Go
theorem ALp {w:den Za} (ok:Ok w) {i d:Nat} (hi:i<List.length (w.2.1:List Int)) (hd:d<4):Ok (goR w i d).1∧(goR w i d).1.1=w.1:=by
  unfold goR
  by_cases h:0≤Gi w i d
  · rw [if_pos h]; exact ⟨ok.moved hi hd h,rfl⟩
  · rw [if_neg h]; exact ⟨ok,rfl⟩
theorem AEi {w:den Za} (ok:Ok w) {k:Int} {p q:Pl} (hp:¬ p.1=(2:Int)) (hq:¬ q.1=(2:Int)) (hg:Kh w.1 q):Ok (Pb w k p q).1∧(Pb w k p q).1.1=w.1:=by
  unfold Pb
  by_cases h:Vm w k p q=0
  · rw [if_pos h]
    obtain ⟨h1,h2,h3,h4⟩:=AB4 h
    exact ⟨ok.put (by omega) hq (by rw [h3]; exact hp) hg h4,rfl⟩
  · rw [if_neg h]; exact ⟨ok,rfl⟩
theorem ABo {w:den Za} {p:Nat} {k q:Int} (h:giveErr w p k q=0):inR w k∧inQ w q∧¬ q=(p:Int)∧Tt w q.toNat=Tt w p∧Y2 w k.toNat=Ya p∧1≤Y5 w (Ya q.toNat):=by
  have hin:=AFq (w:=w) (p:=p) (k:=k) (q:=q) (by rw [h]; decide)
  unfold giveErr at h
  rw [if_pos hin] at h
  by_cases h1:q=(p:Int)
  · rw [if_pos h1] at h; exact absurd h (by decide)
  rw [if_neg h1] at h
  by_cases h2:Tt w q.toNat=Tt w p∧Y2 w k.toNat=Ya p
  · rw [if_pos h2] at h
    by_cases h3:Y5 w (Ya q.toNat)<1
    · rw [if_pos h3] at h; exact absurd h (by decide)
    · exact ⟨hin.1,hin.2,h1,h2.1,h2.2,by omega⟩
  · rw [if_neg h2] at h; exact absurd h (by decide)
theorem AMt {w:den Za} (ok:Ok w) {i:Nat} (hi:i<List.length (w.2.1:List Int)) {c:Cm} (hm:Mv c):Ok (J4 w i c).1∧(J4 w i c).1.1=w.1:=by
  obtain ⟨d,hd,ed⟩:=hm.dir
  have ed':(Oi c).toNat=d:=by omega
  have g1:=ok.right.good_me hi
  have g2:=ok.right.good_floor hi
  unfold J4
  rw [ed']
  by_cases k1:Xg c=1
  · rw [if_pos k1]; exact ALp ok hi hd
  rw [if_neg k1]
  by_cases k2:Xg c=2
  · rw [if_pos k2]
    unfold C8
    by_cases h:K4 w i (Hp c)=0
    · rw [if_pos h]
      obtain ⟨h1,h2,_⟩:=Wk h
      exact ALp ok (by omega) hd
    · rw [if_neg h]; exact ⟨ok,rfl⟩
  rw [if_neg k2]
  by_cases k3:Xg c=3
  · rw [if_pos k3]; exact AEi ok (Mm w i) (P3 i) g1
  rw [if_neg k3]
  by_cases k4:Xg c=4
  · rw [if_pos k4]; exact AEi ok (P3 i) (Mm w i) g2
  rw [if_neg k4]
  by_cases k5:Xg c=5
  · rw [if_pos k5]
    show Ok (putR w i (Yo c) (Gk c)).1∧(putR w i (Yo c) (Gk c)).1.1=w.1
    by_cases h:putErr w i (Yo c) (Gk c)=0
    · obtain ⟨h1,h2⟩:=AAm (w:=w) (i:=i) (k:=Yo c) (b:=Gk c) (by rw [h]; decide)
      obtain ⟨a,ea,ha⟩:=H2 h1
      obtain ⟨b,eb,hb⟩:=H2 h2
      rw [ea,eb] at h ⊢
      rw [AI8 h]
      exact ⟨((AEn ha hb).1 h).ok ok,rfl⟩
    · rw [C9 h]; exact ⟨ok,rfl⟩
  rw [if_neg k5]
  by_cases k6:Xg c=6
  · rw [if_pos k6]
    show Ok (takeR w i (Yo c) (Gk c)).1∧(takeR w i (Yo c) (Gk c)).1.1=w.1
    by_cases h:takeErr w i (Yo c) (Gk c)=0
    · obtain ⟨h1,h2⟩:=Bn (w:=w) (i:=i) (k:=Yo c) (b:=Gk c) (by rw [h]; decide)
      obtain ⟨a,ea,ha⟩:=H2 h1
      obtain ⟨b,eb,hb⟩:=H2 h2
      rw [ea,eb] at h ⊢
      rw [AGm h]
      exact ⟨((ACc ha hb).1 h).ok ok hi,rfl⟩
    · rw [Ey h]; exact ⟨ok,rfl⟩
  rw [if_neg k6]
  by_cases k7:Xg c=7
  · rw [if_pos k7]
    show Ok (T5 w i (Yo c) (Hp c)).1∧(T5 w i (Yo c) (Hp c)).1.1=w.1
    unfold T5
    by_cases h:giveErr w i (Yo c) (Hp c)=0
    · rw [if_pos h]
      obtain ⟨h1,h2,h3,h4,h5,h6⟩:=ABo h
      obtain ⟨a,ea,ha⟩:=H2 h1
      obtain ⟨b,eb,hb⟩:=De h2
      rw [ea] at h5 ⊢
      rw [eb] at h6 ⊢
      exact ⟨ok.put ha (P3 b) (by show ¬ (Y2 w a).1=(2:Int); rw [show Y2 w a=Ya i from h5]; exact P3 i) (ok.right.good_me hb) h6,rfl⟩
    · rw [if_neg h]; exact ⟨ok,rfl⟩
  rw [if_neg k7]
  by_cases k8:Xg c=8
  · rw [if_pos k8]
    show Ok (Kl w i (Hp c) (Xi c) (Uh c) (Xp c) (Ug c)).1∧(Kl w i (Hp c) (Xi c) (Uh c) (Xp c) (Ug c)).1.1=w.1
    unfold Kl
    by_cases h:tradeErr w i (Hp c) (Xi c) (Uh c) (Xp c) (Ug c)=0
    · rw [if_pos h]
      obtain ⟨n,e,ht⟩:=(Mr (Bm _ _)).1 h
      rw [e,Int.toNat_natCast]
      exact ⟨BJs ok hi ht,rfl⟩
    · rw [if_neg h]; exact ⟨ok,rfl⟩
  rw [if_neg k8]; exact ⟨ok,rfl⟩
theorem BJa {w:den Za} (ok:Ok w) {i:Nat} (hi:i<List.length (w.2.1:List Int)) (c:Cm):Ok (doR w i c).1∧(doR w i c).1.1=w.1:=by
  unfold doR
  by_cases hm:Mv c
  · rw [if_pos hm]
    have h:=AMt ok hi hm
    split
    · exact ⟨ok,rfl⟩
    · split
      · exact ⟨ok,rfl⟩
      · split
        · exact h
        · exact ⟨ok,rfl⟩
  · rw [if_neg hm]; exact ⟨ok,rfl⟩
end Go.Proofs.YtpemapoblhleoaaGreatDoor.Ghost
