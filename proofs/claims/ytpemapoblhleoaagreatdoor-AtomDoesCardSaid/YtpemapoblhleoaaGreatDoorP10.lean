/- What functions come to, and that the statements are answered with 'true'. Conditions: none. -/
import Derived.Test.YtpemapoblhleoaaGreatDoorS
import Derived.Test.YtpemapoblhleoaaGreatDoorGE
import Derived.Test.YtpemapoblhleoaaGreatDoorP1
import Derived.Test.YtpemapoblhleoaaGreatDoorP2
import Derived.Test.YtpemapoblhleoaaGreatDoorP3
import Derived.Test.YtpemapoblhleoaaGreatDoorP4
import Derived.Test.YtpemapoblhleoaaGreatDoorP5
import Derived.Test.YtpemapoblhleoaaGreatDoorP6
import Derived.Test.YtpemapoblhleoaaGreatDoorP7
import Derived.Test.YtpemapoblhleoaaGreatDoorP8
import Derived.Test.YtpemapoblhleoaaGreatDoorP9
set_option linter.unusedVariables false
set_option linter.unusedSimpArgs false
set_option linter.unusedSectionVars false
set_option linter.unnecessarySimpa false
namespace Go.Proofs.YtpemapoblhleoaaGreatDoor.Ghost
open Go
noncomputable def Jz (w:den Za) (i:Nat) (c:Cm):den Za×Int×Int×Unit :=
  if Xq c=1 then goR w i (Rq c).toNat
  else if Xq c=2 then Fa w i (Kw c) (Rq c).toNat
  else if Xq c=3 then ((ACz w i (Yk c)).1,0,(ACz w i (Yk c)).2.1,())
  else if Xq c=4 then ((Fw w i (Yk c)).1,0,(Fw w i (Yk c)).2.1,())
  else if Xq c=5 then ((putR w i (Yk c) (Gh c)).1,0,(putR w i (Yk c) (Gh c)).2.1,())
  else if Xq c=6 then ((takeR w i (Yk c) (Gh c)).1,0,(takeR w i (Yk c) (Gh c)).2.1,())
  else if Xq c=7 then ((Ur w i (Yk c) (Kw c)).1,0,(Ur w i (Yk c) (Kw c)).2.1,())
  else if Xq c=8 then ((Q0 w i (Kw c) (Zr c) (Gs c) (Zu c) (Gx c)).1,0,(Q0 w i (Kw c) (Zr c) (Gs c) (Zu c) (Gx c)).2.1,())
  else (w,0,0,())
def U8 (e:Int):den Zt:=(e,(0:Int),(0:Int),([]:List Int),([]:List Sn),(0:Int),())
def Mj (k r:Int):den Zt:=((0:Int),k,r,([]:List Int),([]:List Sn),(0:Int),())
open Classical in
noncomputable def doR (w:den Za) (i:Nat) (c:Cm):den Za×den Zt×Unit :=
  if Me c then (if Xq c=9 then (w,AFv w i,()) else if Xq c=10 then (w,AMm w i,()) else if (Jz w i c).2.2.1=0 then ((Jz w i c).1,Mj (Xq c) (Jz w i c).2.1,()) else (w,U8 (Jz w i c).2.2.1,())) else (w,U8 2,())
theorem Me.dir {c:Cm} (h:Me c):∃ d:Nat,d<4∧Rq c=(d:Int):=⟨(Rq c).toNat,by have:=h.d1; have:=h.d2; omega,by have:=h.d1; omega⟩
theorem Me.kinds {c:Cm} (h:Me c):Xq c=1∨Xq c=2∨Xq c=3∨Xq c=4∨Xq c=5∨Xq c=6∨Xq c=7∨Xq c=8∨Xq c=9∨Xq c=10:=by
  have:=h.k1
  have:=h.k2
  omega
theorem ATv:Kd 0:=⟨Int.le_refl 0,by decide⟩
structure TrC (c:Cm):Prop where
  g:(Zr c).length≤100
  w:(Zu c).length≤100
  pay:Kd (Gs c)
  fee:Kd (Gx c)
theorem trC {c:Cm} (hf:AKb c) (hm:Me c):TrC c where
  g:=by have:=hf.1; omega
  w:=by have:=hf.2; omega
  pay:=by
    by_cases hk:Xq c=8
    · exact hm.pay.1 hk
    · rw [hm.pay.2 hk]; exact ATv
  fee:=by
    by_cases hk:Xq c=8
    · exact hm.fee.1 hk
    · rw [hm.fee.2 hk]; exact ATv
theorem Br {w:den Za} (ok:Ok w) {i:Nat} (hi:i<List.length (w.2.1:List Int)) {c:Cm} (hf:AKb c):Zd (fun nf _ _ _=>Qc nf (w) ((i:Int)) (c)) (fun r=>r.1=doR w i c):=by
  have hmay:=AKi c (by have:=hf.1; omega) (by have:=hf.2; omega)
  refine Zd.succ (fun nf _ _ _=>Qc.eq nf _ _ _) ?_
  by_cases hm:Me c
  · have tr:=trC hf hm
    obtain ⟨d,hd,ed⟩:=hm.dir
    have hst:=ok.right.stands hi hd
    have hex:=ok.right.exit hi hd
    have k1:=ACr w ok.sm hst (hex.elim .inl (fun h=>.inr h.1))
    have k2:=ADi w ok.sm hi (Kw c) (d:=d) (fun hz=>Ar ok hd hz)
    rw [← ed] at k1 k2
    have ed':d=(Rq c).toNat:=by omega
    rw [ed'] at k1 k2
    unfold doR
    rw [if_pos hm]
    rcases hm.kinds with k | k | k | k | k | k | k | k | k | k
    · by_cases he:(goR w i (Rq c).toNat).2.2.1=0 <;> simp [-List.getD_eq_getElem?_getD,-List.length_eq_zero_iff,Zn,Zj,Zv,Zk,Xb,Xc,Xr,Zf (hmay),(hmay).bprop,hm,k,Zf (k1),(k1).prop,Jz,he,Mj,U8]
    · by_cases he:(Fa w i (Kw c) (Rq c).toNat).2.2.1=0 <;> simp [-List.getD_eq_getElem?_getD,-List.length_eq_zero_iff,Zn,Zj,Zv,Zk,Xb,Xc,Xr,Zf (hmay),(hmay).bprop,hm,k,Zf (k2),(k2).prop,Jz,he,Mj,U8]
    · by_cases he:(ACz w i (Yk c)).2.1=0 <;> simp [-List.getD_eq_getElem?_getD,-List.length_eq_zero_iff,Zn,Zj,Zv,Zk,Xb,Xc,Xr,Zf (hmay),(hmay).bprop,hm,k,Zf (Dy w ok hi (Yk c)),(Dy w ok hi (Yk c)).prop,Jz,he,Mj,U8]
    · by_cases he:(Fw w i (Yk c)).2.1=0 <;> simp [-List.getD_eq_getElem?_getD,-List.length_eq_zero_iff,Zn,Zj,Zv,Zk,Xb,Xc,Xr,Zf (hmay),(hmay).bprop,hm,k,Zf (I2 w ok hi (Yk c)),(I2 w ok hi (Yk c)).prop,Jz,he,Mj,U8]
    · by_cases he:(putR w i (Yk c) (Gh c)).2.1=0 <;> simp [-List.getD_eq_getElem?_getD,-List.length_eq_zero_iff,Zn,Zj,Zv,Zk,Xb,Xc,Xr,Zf (hmay),(hmay).bprop,hm,k,Zf (Cb ok hi (Yk c) (Gh c)),(Cb ok hi (Yk c) (Gh c)).prop,Jz,he,Mj,U8]
    · by_cases he:(takeR w i (Yk c) (Gh c)).2.1=0 <;> simp [-List.getD_eq_getElem?_getD,-List.length_eq_zero_iff,Zn,Zj,Zv,Zk,Xb,Xc,Xr,Zf (hmay),(hmay).bprop,hm,k,Zf (Fk ok hi (Yk c) (Gh c)),(Fk ok hi (Yk c) (Gh c)).prop,Jz,he,Mj,U8]
    · by_cases he:(Ur w i (Yk c) (Kw c)).2.1=0 <;> simp [-List.getD_eq_getElem?_getD,-List.length_eq_zero_iff,Zn,Zj,Zv,Zk,Xb,Xc,Xr,Zf (hmay),(hmay).bprop,hm,k,Zf (Fl ok hi (Yk c) (Kw c)),(Fl ok hi (Yk c) (Kw c)).prop,Jz,he,Mj,U8]
    · by_cases he:(Q0 w i (Kw c) (Zr c) (Gs c) (Zu c) (Gx c)).2.1=0 <;> simp [-List.getD_eq_getElem?_getD,-List.length_eq_zero_iff,Zn,Zj,Zv,Zk,Xb,Xc,Xr,Zf (hmay),(hmay).bprop,hm,k,Zf (Lv ok hi c tr.g tr.w tr.pay tr.fee),(Lv ok hi c tr.g tr.w tr.pay tr.fee).prop,Jz,he,Mj,U8]
    · simp [-List.getD_eq_getElem?_getD,-List.length_eq_zero_iff,Zn,Zj,Zv,Zk,Xb,Xc,Xr,Zf (hmay),(hmay).bprop,hm,k,Zf (I1 w ok hi),(I1 w ok hi).prop]
    · simp [-List.getD_eq_getElem?_getD,-List.length_eq_zero_iff,Zn,Zj,Zv,Zk,Xb,Xc,Xr,Zf (hmay),(hmay).bprop,hm,k,Zf (D6 w ok hi),(D6 w ok hi).prop]
  · unfold doR
    rw [if_neg hm]
    simp [-List.getD_eq_getElem?_getD,-List.length_eq_zero_iff,Zn,Zj,Zv,Zk,Xb,Xc,Xr,Zf (hmay),(hmay).bprop,hm,U8]
end Go.Proofs.YtpemapoblhleoaaGreatDoor.Ghost
namespace Go.Proofs.YtpemapoblhleoaaGreatDoor.Ghost
open Go
theorem AN0 {w:den Za} (ok:Ok w) {i d:Nat} (hi:i<List.length (w.2.1:List Int)) (hd:d<4):Ok (goR w i d).1∧(goR w i d).1.1=w.1:=by
  unfold goR
  by_cases h:0≤Hl w i d
  · rw [if_pos h]; exact ⟨ok.moved hi hd h,rfl⟩
  · rw [if_neg h]; exact ⟨ok,rfl⟩
theorem AG1 {w:den Za} (ok:Ok w) {k:Int} {p q:Pl} (hp:¬ p.1=(2:Int)) (hq:¬ q.1=(2:Int)) (hg:Hp w.1 q):Ok (Nj w k p q).1∧(Nj w k p q).1.1=w.1:=by
  unfold Nj
  by_cases h:Y0 w k p q=0
  · rw [if_pos h]
    obtain ⟨h1,h2,h3,h4⟩:=ADs h
    exact ⟨ok.put (by omega) hq (by rw [h3]; exact hp) hg h4,rfl⟩
  · rw [if_neg h]; exact ⟨ok,rfl⟩
theorem ADp {w:den Za} {p:Nat} {k q:Int} (h:giveErr w p k q=0):inR w k∧inQ w q∧¬ q=(p:Int)∧G1 w q.toNat=G1 w p∧Qr w k.toNat=Xt p∧1≤Yb w (Xt q.toNat):=by
  have hin:=AH4 (w:=w) (p:=p) (k:=k) (q:=q) (by rw [h]; decide)
  unfold giveErr at h
  rw [if_pos hin] at h
  by_cases h1:q=(p:Int)
  · rw [if_pos h1] at h; exact absurd h (by decide)
  rw [if_neg h1] at h
  by_cases h2:G1 w q.toNat=G1 w p∧Qr w k.toNat=Xt p
  · rw [if_pos h2] at h
    by_cases h3:Yb w (Xt q.toNat)<1
    · rw [if_pos h3] at h; exact absurd h (by decide)
    · exact ⟨hin.1,hin.2,h1,h2.1,h2.2,by omega⟩
  · rw [if_neg h2] at h; exact absurd h (by decide)
theorem ALd {w:den Za} (ok:Ok w) {i:Nat} (hi:i<List.length (w.2.1:List Int)) {c:Cm} (hm:Me c):Ok (Jz w i c).1∧(Jz w i c).1.1=w.1:=by
  obtain ⟨d,hd,ed⟩:=hm.dir
  have ed':(Rq c).toNat=d:=by omega
  have g1:=ok.right.good_me hi
  have g2:=ok.right.good_floor hi
  unfold Jz
  rw [ed']
  by_cases k1:Xq c=1
  · rw [if_pos k1]; exact AN0 ok hi hd
  rw [if_neg k1]
  by_cases k2:Xq c=2
  · rw [if_pos k2]
    unfold Fa
    by_cases h:J5 w i (Kw c)=0
    · rw [if_pos h]
      obtain ⟨h1,h2,_⟩:=O1 h
      exact AN0 ok (by omega) hd
    · rw [if_neg h]; exact ⟨ok,rfl⟩
  rw [if_neg k2]
  by_cases k3:Xq c=3
  · rw [if_pos k3]; exact AG1 ok (Lx w i) (Oj i) g1
  rw [if_neg k3]
  by_cases k4:Xq c=4
  · rw [if_pos k4]; exact AG1 ok (Oj i) (Lx w i) g2
  rw [if_neg k4]
  by_cases k5:Xq c=5
  · rw [if_pos k5]
    show Ok (putR w i (Yk c) (Gh c)).1∧(putR w i (Yk c) (Gh c)).1.1=w.1
    by_cases h:putErr w i (Yk c) (Gh c)=0
    · obtain ⟨h1,h2⟩:=ABl (w:=w) (i:=i) (k:=Yk c) (b:=Gh c) (by rw [h]; decide)
      obtain ⟨a,ea,ha⟩:=Ki h1
      obtain ⟨b,eb,hb⟩:=Ki h2
      rw [ea,eb] at h ⊢
      rw [AJ9 h]
      exact ⟨((AFm ha hb).1 h).ok ok,rfl⟩
    · rw [Ad h]; exact ⟨ok,rfl⟩
  rw [if_neg k5]
  by_cases k6:Xq c=6
  · rw [if_pos k6]
    show Ok (takeR w i (Yk c) (Gh c)).1∧(takeR w i (Yk c) (Gh c)).1.1=w.1
    by_cases h:takeErr w i (Yk c) (Gh c)=0
    · obtain ⟨h1,h2⟩:=Bx (w:=w) (i:=i) (k:=Yk c) (b:=Gh c) (by rw [h]; decide)
      obtain ⟨a,ea,ha⟩:=Ki h1
      obtain ⟨b,eb,hb⟩:=Ki h2
      rw [ea,eb] at h ⊢
      rw [AHt h]
      exact ⟨((AC2 ha hb).1 h).ok ok hi,rfl⟩
    · rw [Dv h]; exact ⟨ok,rfl⟩
  rw [if_neg k6]
  by_cases k7:Xq c=7
  · rw [if_pos k7]
    show Ok (Ur w i (Yk c) (Kw c)).1∧(Ur w i (Yk c) (Kw c)).1.1=w.1
    unfold Ur
    by_cases h:giveErr w i (Yk c) (Kw c)=0
    · rw [if_pos h]
      obtain ⟨h1,h2,h3,h4,h5,h6⟩:=ADp h
      obtain ⟨a,ea,ha⟩:=Ki h1
      obtain ⟨b,eb,hb⟩:=M2 h2
      rw [ea] at h5 ⊢
      rw [eb] at h6 ⊢
      exact ⟨ok.put ha (Oj b) (by show ¬ (Qr w a).1=(2:Int); rw [show Qr w a=Xt i from h5]; exact Oj i) (ok.right.good_me hb) h6,rfl⟩
    · rw [if_neg h]; exact ⟨ok,rfl⟩
  rw [if_neg k7]
  by_cases k8:Xq c=8
  · rw [if_pos k8]
    show Ok (Q0 w i (Kw c) (Zr c) (Gs c) (Zu c) (Gx c)).1∧(Q0 w i (Kw c) (Zr c) (Gs c) (Zu c) (Gx c)).1.1=w.1
    unfold Q0
    by_cases h:tradeErr w i (Kw c) (Zr c) (Gs c) (Zu c) (Gx c)=0
    · rw [if_pos h]
      obtain ⟨n,e,ht⟩:=(AAv (AH9 _ _)).1 h
      rw [e,Int.toNat_natCast]
      exact ⟨BM2 ok hi ht,rfl⟩
    · rw [if_neg h]; exact ⟨ok,rfl⟩
  rw [if_neg k8]; exact ⟨ok,rfl⟩
theorem AUa {w:den Za} (ok:Ok w) {i:Nat} (hi:i<List.length (w.2.1:List Int)) (c:Cm):Ok (doR w i c).1∧(doR w i c).1.1=w.1:=by
  unfold doR
  by_cases hm:Me c
  · rw [if_pos hm]
    have h:=ALd ok hi hm
    split
    · exact ⟨ok,rfl⟩
    · split
      · exact ⟨ok,rfl⟩
      · split
        · exact h
        · exact ⟨ok,rfl⟩
  · rw [if_neg hm]; exact ⟨ok,rfl⟩
end Go.Proofs.YtpemapoblhleoaaGreatDoor.Ghost
