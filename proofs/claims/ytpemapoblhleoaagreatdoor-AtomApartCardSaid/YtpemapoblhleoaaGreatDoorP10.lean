/- What functions come to, and that the statements are answered with 'true'. Conditions: none. -/
import Derived.Test.YtpemapoblhleoaaGreatDoorS
import Derived.Test.YtpemapoblhleoaaGreatDoorGE
import Derived.Test.YtpemapoblhleoaaGreatDoorP1
import Derived.Test.YtpemapoblhleoaaGreatDoorP2
import Derived.Test.YtpemapoblhleoaaGreatDoorP3
import Derived.Test.YtpemapoblhleoaaGreatDoorP4
import Derived.Test.YtpemapoblhleoaaGreatDoorP5
import Derived.Test.YtpemapoblhleoaaGreatDoorP6
import Derived.Test.YtpemapoblhleoaaGreatDoorP7
import Derived.Test.YtpemapoblhleoaaGreatDoorP8
import Derived.Test.YtpemapoblhleoaaGreatDoorP9
set_option linter.unusedVariables false
set_option linter.unusedSimpArgs false
set_option linter.unusedSectionVars false
set_option linter.unnecessarySimpa false
namespace Go.Proofs.YtpemapoblhleoaaGreatDoor.Ghost
open Go
noncomputable def J5 (w:den Za) (i:Nat) (c:Cm):den Za×Int×Int×Unit :=
  if Z9 c=1 then goR w i (Ot c).toNat
  else if Z9 c=2 then AAt w i (Gb c) (Ot c).toNat
  else if Z9 c=3 then ((AFj w i (X0 c)).1,0,(AFj w i (X0 c)).2.1,())
  else if Z9 c=4 then ((Cn w i (X0 c)).1,0,(Cn w i (X0 c)).2.1,())
  else if Z9 c=5 then ((putR w i (X0 c) (Hm c)).1,0,(putR w i (X0 c) (Hm c)).2.1,())
  else if Z9 c=6 then ((takeR w i (X0 c) (Hm c)).1,0,(takeR w i (X0 c) (Hm c)).2.1,())
  else if Z9 c=7 then ((Ry w i (X0 c) (Gb c)).1,0,(Ry w i (X0 c) (Gb c)).2.1,())
  else if Z9 c=8 then ((Kr w i (Gb c) (Xf c) (Uv c) (Xk c) (Uu c)).1,0,(Kr w i (Gb c) (Xf c) (Uv c) (Xk c) (Uu c)).2.1,())
  else (w,0,0,())
def Fj (e:Int):den Zn:=(e,(0:Int),(0:Int),([]:List Int),([]:List Sn),(0:Int),())
def AL6 (k r:Int):den Zn:=((0:Int),k,r,([]:List Int),([]:List Sn),(0:Int),())
open Classical in
noncomputable def doR (w:den Za) (i:Nat) (c:Cm):den Za×den Zn×Unit :=
  if Pe c then (if Z9 c=9 then (w,AG5 w i,()) else if Z9 c=10 then (w,AQg w i,()) else if (J5 w i c).2.2.1=0 then ((J5 w i c).1,AL6 (Z9 c) (J5 w i c).2.1,()) else (w,Fj (J5 w i c).2.2.1,())) else (w,Fj 2,())
theorem Pe.dir {c:Cm} (h:Pe c):∃ d:Nat,d<4∧Ot c=(d:Int):=⟨(Ot c).toNat,by have:=h.d1; have:=h.d2; omega,by have:=h.d1; omega⟩
theorem Pe.kinds {c:Cm} (h:Pe c):Z9 c=1∨Z9 c=2∨Z9 c=3∨Z9 c=4∨Z9 c=5∨Z9 c=6∨Z9 c=7∨Z9 c=8∨Z9 c=9∨Z9 c=10:=by
  have:=h.k1
  have:=h.k2
  omega
theorem AQ7:Ho 0:=⟨Int.le_refl 0,by decide⟩
structure TrC (c:Cm):Prop where
  g:(Xf c).length≤100
  w:(Xk c).length≤100
  pay:Ho (Uv c)
  fee:Ho (Uu c)
theorem trC {c:Cm} (hf:AJa c) (hm:Pe c):TrC c where
  g:=by have:=hf.1; omega
  w:=by have:=hf.2; omega
  pay:=by
    by_cases hk:Z9 c=8
    · exact hm.pay.1 hk
    · rw [hm.pay.2 hk]; exact AQ7
  fee:=by
    by_cases hk:Z9 c=8
    · exact hm.fee.1 hk
    · rw [hm.fee.2 hk]; exact AQ7
end Go.Proofs.YtpemapoblhleoaaGreatDoor.Ghost
namespace Go.Proofs.YtpemapoblhleoaaGreatDoor.Ghost
open Go
theorem ALb {w:den Za} (ok:Ok w) {i d:Nat} (hi:i<List.length (w.2.1:List Int)) (hd:d<4):Ok (goR w i d).1∧(goR w i d).1.1=w.1:=by
  unfold goR
  by_cases h:0≤Ud w i d
  · rw [if_pos h]; exact ⟨ok.moved hi hd h,rfl⟩
  · rw [if_neg h]; exact ⟨ok,rfl⟩
theorem AEl {w:den Za} (ok:Ok w) {k:Int} {p q:Pl} (hp:¬ p.1=(2:Int)) (hq:¬ q.1=(2:Int)) (hg:Kf w.1 q):Ok (Oa w k p q).1∧(Oa w k p q).1.1=w.1:=by
  unfold Oa
  by_cases h:Q7 w k p q=0
  · rw [if_pos h]
    obtain ⟨h1,h2,h3,h4⟩:=Pz h
    exact ⟨ok.put (by omega) hq (by rw [h3]; exact hp) hg h4,rfl⟩
  · rw [if_neg h]; exact ⟨ok,rfl⟩
theorem ABw {w:den Za} {p:Nat} {k q:Int} (h:giveErr w p k q=0):inR w k∧inQ w q∧¬ q=(p:Int)∧Ky w q.toNat=Ky w p∧Ym w k.toNat=X2 p∧1≤Yr w (X2 q.toNat):=by
  have hin:=AFk (w:=w) (p:=p) (k:=k) (q:=q) (by rw [h]; decide)
  unfold giveErr at h
  rw [if_pos hin] at h
  by_cases h1:q=(p:Int)
  · rw [if_pos h1] at h; exact absurd h (by decide)
  rw [if_neg h1] at h
  by_cases h2:Ky w q.toNat=Ky w p∧Ym w k.toNat=X2 p
  · rw [if_pos h2] at h
    by_cases h3:Yr w (X2 q.toNat)<1
    · rw [if_pos h3] at h; exact absurd h (by decide)
    · exact ⟨hin.1,hin.2,h1,h2.1,h2.2,by omega⟩
  · rw [if_neg h2] at h; exact absurd h (by decide)
theorem AMh {w:den Za} (ok:Ok w) {i:Nat} (hi:i<List.length (w.2.1:List Int)) {c:Cm} (hm:Pe c):Ok (J5 w i c).1∧(J5 w i c).1.1=w.1:=by
  obtain ⟨d,hd,ed⟩:=hm.dir
  have ed':(Ot c).toNat=d:=by omega
  have g1:=ok.right.good_me hi
  have g2:=ok.right.good_floor hi
  unfold J5
  rw [ed']
  by_cases k1:Z9 c=1
  · rw [if_pos k1]; exact ALb ok hi hd
  rw [if_neg k1]
  by_cases k2:Z9 c=2
  · rw [if_pos k2]
    unfold AAt
    by_cases h:Gi w i (Gb c)=0
    · rw [if_pos h]
      obtain ⟨h1,h2,_⟩:=P0 h
      exact ALb ok (by omega) hd
    · rw [if_neg h]; exact ⟨ok,rfl⟩
  rw [if_neg k2]
  by_cases k3:Z9 c=3
  · rw [if_pos k3]; exact AEl ok (Gc w i) (Gm i) g1
  rw [if_neg k3]
  by_cases k4:Z9 c=4
  · rw [if_pos k4]; exact AEl ok (Gm i) (Gc w i) g2
  rw [if_neg k4]
  by_cases k5:Z9 c=5
  · rw [if_pos k5]
    show Ok (putR w i (X0 c) (Hm c)).1∧(putR w i (X0 c) (Hm c)).1.1=w.1
    by_cases h:putErr w i (X0 c) (Hm c)=0
    · obtain ⟨h1,h2⟩:=F0 (w:=w) (i:=i) (k:=X0 c) (b:=Hm c) (by rw [h]; decide)
      obtain ⟨a,ea,ha⟩:=Jw h1
      obtain ⟨b,eb,hb⟩:=Jw h2
      rw [ea,eb] at h ⊢
      rw [AIu h]
      exact ⟨((Ez ha hb).1 h).ok ok,rfl⟩
    · rw [Bl h]; exact ⟨ok,rfl⟩
  rw [if_neg k5]
  by_cases k6:Z9 c=6
  · rw [if_pos k6]
    show Ok (takeR w i (X0 c) (Hm c)).1∧(takeR w i (X0 c) (Hm c)).1.1=w.1
    by_cases h:takeErr w i (X0 c) (Hm c)=0
    · obtain ⟨h1,h2⟩:=Le (w:=w) (i:=i) (k:=X0 c) (b:=Hm c) (by rw [h]; decide)
      obtain ⟨a,ea,ha⟩:=Jw h1
      obtain ⟨b,eb,hb⟩:=Jw h2
      rw [ea,eb] at h ⊢
      rw [AGf h]
      exact ⟨((Ix ha hb).1 h).ok ok hi,rfl⟩
    · rw [E8 h]; exact ⟨ok,rfl⟩
  rw [if_neg k6]
  by_cases k7:Z9 c=7
  · rw [if_pos k7]
    show Ok (Ry w i (X0 c) (Gb c)).1∧(Ry w i (X0 c) (Gb c)).1.1=w.1
    unfold Ry
    by_cases h:giveErr w i (X0 c) (Gb c)=0
    · rw [if_pos h]
      obtain ⟨h1,h2,h3,h4,h5,h6⟩:=ABw h
      obtain ⟨a,ea,ha⟩:=Jw h1
      obtain ⟨b,eb,hb⟩:=Dm h2
      rw [ea] at h5 ⊢
      rw [eb] at h6 ⊢
      exact ⟨ok.put ha (Gm b) (by show ¬ (Ym w a).1=(2:Int); rw [show Ym w a=X2 i from h5]; exact Gm i) (ok.right.good_me hb) h6,rfl⟩
    · rw [if_neg h]; exact ⟨ok,rfl⟩
  rw [if_neg k7]
  by_cases k8:Z9 c=8
  · rw [if_pos k8]
    show Ok (Kr w i (Gb c) (Xf c) (Uv c) (Xk c) (Uu c)).1∧(Kr w i (Gb c) (Xf c) (Uv c) (Xk c) (Uu c)).1.1=w.1
    unfold Kr
    by_cases h:tradeErr w i (Gb c) (Xf c) (Uv c) (Xk c) (Uu c)=0
    · rw [if_pos h]
      obtain ⟨n,e,ht⟩:=(Ah (AGe _ _)).1 h
      rw [e,Int.toNat_natCast]
      exact ⟨BHm ok hi ht,rfl⟩
    · rw [if_neg h]; exact ⟨ok,rfl⟩
  rw [if_neg k8]; exact ⟨ok,rfl⟩
theorem ABr {w:den Za} (ok:Ok w) {i:Nat} (hi:i<List.length (w.2.1:List Int)) (c:Cm):Ok (doR w i c).1∧(doR w i c).1.1=w.1:=by
  unfold doR
  by_cases hm:Pe c
  · rw [if_pos hm]
    have h:=AMh ok hi hm
    split
    · exact ⟨ok,rfl⟩
    · split
      · exact ⟨ok,rfl⟩
      · split
        · exact h
        · exact ⟨ok,rfl⟩
  · rw [if_neg hm]; exact ⟨ok,rfl⟩
end Go.Proofs.YtpemapoblhleoaaGreatDoor.Ghost
