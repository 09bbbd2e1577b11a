/- What functions come to, and that the statements are answered with 'true'. Conditions: none. -/
import Derived.Test.YtpemapoblhleoaaGreatDoorS
import Derived.Test.YtpemapoblhleoaaGreatDoorGE
import Derived.Test.YtpemapoblhleoaaGreatDoorP1
import Derived.Test.YtpemapoblhleoaaGreatDoorP2
import Derived.Test.YtpemapoblhleoaaGreatDoorP3
import Derived.Test.YtpemapoblhleoaaGreatDoorP4
import Derived.Test.YtpemapoblhleoaaGreatDoorP5
import Derived.Test.YtpemapoblhleoaaGreatDoorP6
import Derived.Test.YtpemapoblhleoaaGreatDoorP7
import Derived.Test.YtpemapoblhleoaaGreatDoorP8
import Derived.Test.YtpemapoblhleoaaGreatDoorP9
set_option linter.unusedVariables false
set_option linter.unusedSimpArgs false
set_option linter.unusedSectionVars false
set_option linter.unnecessarySimpa false
namespace Go.Proofs.YtpemapoblhleoaaGreatDoor.Ghost
open Go
noncomputable def Yw (w:den Za) (i:Nat) (c:Cm):den Za×Int×Int×Unit :=
  if Z6 c=1 then goR w i (Tm c).toNat
  else if Z6 c=2 then Bf w i (Hn c) (Tm c).toNat
  else if Z6 c=3 then ((AD0 w i (Xu c)).1,0,(AD0 w i (Xu c)).2.1,())
  else if Z6 c=4 then ((Eh w i (Xu c)).1,0,(Eh w i (Xu c)).2.1,())
  else if Z6 c=5 then ((putR w i (Xu c) (Kk c)).1,0,(putR w i (Xu c) (Kk c)).2.1,())
  else if Z6 c=6 then ((takeR w i (Xu c) (Kk c)).1,0,(takeR w i (Xu c) (Kk c)).2.1,())
  else if Z6 c=7 then ((Tz w i (Xu c) (Hn c)).1,0,(Tz w i (Xu c) (Hn c)).2.1,())
  else if Z6 c=8 then ((Kj w i (Hn c) (Xc c) (Ud c) (Xi c) (Uc c)).1,0,(Kj w i (Hn c) (Xc c) (Ud c) (Xi c) (Uc c)).2.1,())
  else (w,0,0,())
def Fh (e:Int):den Zn:=(e,(0:Int),(0:Int),([]:List Int),([]:List Sn),(0:Int),())
def AEu (k r:Int):den Zn:=((0:Int),k,r,([]:List Int),([]:List Sn),(0:Int),())
open Classical in
noncomputable def doR (w:den Za) (i:Nat) (c:Cm):den Za×den Zn×Unit :=
  if Rp c then (if Z6 c=9 then (w,AAm w i,()) else if Z6 c=10 then (w,AMk w i,()) else if (Yw w i c).2.2.1=0 then ((Yw w i c).1,AEu (Z6 c) (Yw w i c).2.1,()) else (w,Fh (Yw w i c).2.2.1,())) else (w,Fh 2,())
theorem Rp.dir {c:Cm} (h:Rp c):∃ d:Nat,d<4∧Tm c=(d:Int):=⟨(Tm c).toNat,by have:=h.d1; have:=h.d2; omega,by have:=h.d1; omega⟩
theorem Rp.kinds {c:Cm} (h:Rp c):Z6 c=1∨Z6 c=2∨Z6 c=3∨Z6 c=4∨Z6 c=5∨Z6 c=6∨Z6 c=7∨Z6 c=8∨Z6 c=9∨Z6 c=10:=by
  have:=h.k1
  have:=h.k2
  omega
theorem ARr:Hp 0:=⟨Int.le_refl 0,by decide⟩
structure TrC (c:Cm):Prop where
  g:(Xc c).length≤100
  w:(Xi c).length≤100
  pay:Hp (Ud c)
  fee:Hp (Uc c)
theorem trC {c:Cm} (hf:AH3 c) (hm:Rp c):TrC c where
  g:=by have:=hf.1; omega
  w:=by have:=hf.2; omega
  pay:=by
    by_cases hk:Z6 c=8
    · exact hm.pay.1 hk
    · rw [hm.pay.2 hk]; exact ARr
  fee:=by
    by_cases hk:Z6 c=8
    · exact hm.fee.1 hk
    · rw [hm.fee.2 hk]; exact ARr
end Go.Proofs.YtpemapoblhleoaaGreatDoor.Ghost
namespace Go.Proofs.YtpemapoblhleoaaGreatDoor.Ghost
open Go
theorem ALn {w:den Za} (ok:Ok w) {i d:Nat} (hi:i<List.length (w.2.1:List Int)) (hd:d<4):Ok (goR w i d).1∧(goR w i d).1.1=w.1:=by
  unfold goR
  by_cases h:0≤Hl w i d
  · rw [if_pos h]; exact ⟨ok.moved hi hd h,rfl⟩
  · rw [if_neg h]; exact ⟨ok,rfl⟩
theorem AEz {w:den Za} (ok:Ok w) {k:Int} {p q:Pl} (hp:¬ p.1=(2:Int)) (hq:¬ q.1=(2:Int)) (hg:Kf w.1 q):Ok (Wc w k p q).1∧(Wc w k p q).1.1=w.1:=by
  unfold Wc
  by_cases h:J7 w k p q=0
  · rw [if_pos h]
    obtain ⟨h1,h2,h3,h4⟩:=Ij h
    exact ⟨ok.put (by omega) hq (by rw [h3]; exact hp) hg h4,rfl⟩
  · rw [if_neg h]; exact ⟨ok,rfl⟩
theorem AB2 {w:den Za} {p:Nat} {k q:Int} (h:giveErr w p k q=0):inR w k∧inQ w q∧¬ q=(p:Int)∧Gy w q.toNat=Gy w p∧Yr w k.toNat=Xz p∧1≤Y1 w (Xz q.toNat):=by
  have hin:=AF1 (w:=w) (p:=p) (k:=k) (q:=q) (by rw [h]; decide)
  unfold giveErr at h
  rw [if_pos hin] at h
  by_cases h1:q=(p:Int)
  · rw [if_pos h1] at h; exact absurd h (by decide)
  rw [if_neg h1] at h
  by_cases h2:Gy w q.toNat=Gy w p∧Yr w k.toNat=Xz p
  · rw [if_pos h2] at h
    by_cases h3:Y1 w (Xz q.toNat)<1
    · rw [if_pos h3] at h; exact absurd h (by decide)
    · exact ⟨hin.1,hin.2,h1,h2.1,h2.2,by omega⟩
  · rw [if_neg h2] at h; exact absurd h (by decide)
theorem AMw {w:den Za} (ok:Ok w) {i:Nat} (hi:i<List.length (w.2.1:List Int)) {c:Cm} (hm:Rp c):Ok (Yw w i c).1∧(Yw w i c).1.1=w.1:=by
  obtain ⟨d,hd,ed⟩:=hm.dir
  have ed':(Tm c).toNat=d:=by omega
  have g1:=ok.right.good_me hi
  have g2:=ok.right.good_floor hi
  unfold Yw
  rw [ed']
  by_cases k1:Z6 c=1
  · rw [if_pos k1]; exact ALn ok hi hd
  rw [if_neg k1]
  by_cases k2:Z6 c=2
  · rw [if_pos k2]
    unfold Bf
    by_cases h:K5 w i (Hn c)=0
    · rw [if_pos h]
      obtain ⟨h1,h2,_⟩:=Wf h
      exact ALn ok (by omega) hd
    · rw [if_neg h]; exact ⟨ok,rfl⟩
  rw [if_neg k2]
  by_cases k3:Z6 c=3
  · rw [if_pos k3]; exact AEz ok (Mi w i) (Px i) g1
  rw [if_neg k3]
  by_cases k4:Z6 c=4
  · rw [if_pos k4]; exact AEz ok (Px i) (Mi w i) g2
  rw [if_neg k4]
  by_cases k5:Z6 c=5
  · rw [if_pos k5]
    show Ok (putR w i (Xu c) (Kk c)).1∧(putR w i (Xu c) (Kk c)).1.1=w.1
    by_cases h:putErr w i (Xu c) (Kk c)=0
    · obtain ⟨h1,h2⟩:=Fy (w:=w) (i:=i) (k:=Xu c) (b:=Kk c) (by rw [h]; decide)
      obtain ⟨a,ea,ha⟩:=Kc h1
      obtain ⟨b,eb,hb⟩:=Kc h2
      rw [ea,eb] at h ⊢
      rw [AAy h]
      exact ⟨((Ey ha hb).1 h).ok ok,rfl⟩
    · rw [Bg h]; exact ⟨ok,rfl⟩
  rw [if_neg k5]
  by_cases k6:Z6 c=6
  · rw [if_pos k6]
    show Ok (takeR w i (Xu c) (Kk c)).1∧(takeR w i (Xu c) (Kk c)).1.1=w.1
    by_cases h:takeErr w i (Xu c) (Kk c)=0
    · obtain ⟨h1,h2⟩:=La (w:=w) (i:=i) (k:=Xu c) (b:=Kk c) (by rw [h]; decide)
      obtain ⟨a,ea,ha⟩:=Kc h1
      obtain ⟨b,eb,hb⟩:=Kc h2
      rw [ea,eb] at h ⊢
      rw [Bx h]
      exact ⟨((ACr ha hb).1 h).ok ok hi,rfl⟩
    · rw [E6 h]; exact ⟨ok,rfl⟩
  rw [if_neg k6]
  by_cases k7:Z6 c=7
  · rw [if_pos k7]
    show Ok (Tz w i (Xu c) (Hn c)).1∧(Tz w i (Xu c) (Hn c)).1.1=w.1
    unfold Tz
    by_cases h:giveErr w i (Xu c) (Hn c)=0
    · rw [if_pos h]
      obtain ⟨h1,h2,h3,h4,h5,h6⟩:=AB2 h
      obtain ⟨a,ea,ha⟩:=Kc h1
      obtain ⟨b,eb,hb⟩:=Dl h2
      rw [ea] at h5 ⊢
      rw [eb] at h6 ⊢
      exact ⟨ok.put ha (Px b) (by show ¬ (Yr w a).1=(2:Int); rw [show Yr w a=Xz i from h5]; exact Px i) (ok.right.good_me hb) h6,rfl⟩
    · rw [if_neg h]; exact ⟨ok,rfl⟩
  rw [if_neg k7]
  by_cases k8:Z6 c=8
  · rw [if_pos k8]
    show Ok (Kj w i (Hn c) (Xc c) (Ud c) (Xi c) (Uc c)).1∧(Kj w i (Hn c) (Xc c) (Ud c) (Xi c) (Uc c)).1.1=w.1
    unfold Kj
    by_cases h:tradeErr w i (Hn c) (Xc c) (Ud c) (Xi c) (Uc c)=0
    · rw [if_pos h]
      obtain ⟨n,e,ht⟩:=(Mn (Bw _ _)).1 h
      rw [e,Int.toNat_natCast]
      exact ⟨BHe ok hi ht,rfl⟩
    · rw [if_neg h]; exact ⟨ok,rfl⟩
  rw [if_neg k8]; exact ⟨ok,rfl⟩
theorem BGw {w:den Za} (ok:Ok w) {i:Nat} (hi:i<List.length (w.2.1:List Int)) (c:Cm):Ok (doR w i c).1∧(doR w i c).1.1=w.1:=by
  unfold doR
  by_cases hm:Rp c
  · rw [if_pos hm]
    have h:=AMw ok hi hm
    split
    · exact ⟨ok,rfl⟩
    · split
      · exact ⟨ok,rfl⟩
      · split
        · exact h
        · exact ⟨ok,rfl⟩
  · rw [if_neg hm]; exact ⟨ok,rfl⟩
end Go.Proofs.YtpemapoblhleoaaGreatDoor.Ghost
