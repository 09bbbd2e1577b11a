/- What functions come to, and that the statements are answered with 'true'. Conditions: none. -/
import Derived.Test.YtpemapoblhleoaaGreatDoorS
import Derived.Test.YtpemapoblhleoaaGreatDoorGE
import Derived.Test.YtpemapoblhleoaaGreatDoorP1
import Derived.Test.YtpemapoblhleoaaGreatDoorP2
import Derived.Test.YtpemapoblhleoaaGreatDoorP3
import Derived.Test.YtpemapoblhleoaaGreatDoorP4
import Derived.Test.YtpemapoblhleoaaGreatDoorP5
import Derived.Test.YtpemapoblhleoaaGreatDoorP6
import Derived.Test.YtpemapoblhleoaaGreatDoorP7
import Derived.Test.YtpemapoblhleoaaGreatDoorP8
import Derived.Test.YtpemapoblhleoaaGreatDoorP9
import Derived.Test.YtpemapoblhleoaaGreatDoorP10
set_option linter.unusedVariables false
set_option linter.unusedSimpArgs false
set_option linter.unusedSectionVars false
set_option linter.unnecessarySimpa false
namespace Go.Proofs.YtpemapoblhleoaaGreatDoor.Ghost
open Go
def AH5 (k r e:Int):den Zn:=if e=0 then AEu k r else Fh e
theorem Ys (k r e:Int):Zd (fun nf _ _ _=>Yc nf (k) (r) (e)) (fun x=>x=((AH5 k r e,()),[])):=by
  refine Zd.succ (fun nf _ _ _=>Yc.eq nf _ _ _) ?_
  by_cases h:e=0 <;> simp [h,AH5,AEu,Fh]
theorem Yj:Zd (fun nf _ _ _=>Ww nf) (fun _=>True):=by
  have h:(Ww 1).isSome=true:=by kernel_rfl
  obtain ⟨r,hr⟩:=Option.isSome_iff_exists.1 h
  exact Zd.one 1 hr trivial
theorem AAw {w:den Za} {k:Int} {p q:Pl} (h:¬ (Wc w k p q).2.1=0):(Wc w k p q).1=w:=by
  unfold Wc at h ⊢
  by_cases e:J7 w k p q=0
  · rw [if_pos e] at h; exact absurd rfl h
  · rw [if_neg e]
theorem AHc {w:den Za} {i d:Nat} (h:¬ (goR w i d).2.2.1=0):(goR w i d).1=w:=by
  unfold goR at h ⊢
  by_cases e:0≤Hl w i d
  · rw [if_pos e] at h; exact absurd rfl h
  · rw [if_neg e]
theorem AJd {w:den Za} {i:Nat} {c:Cm} (h:¬ (Yw w i c).2.2.1=0):(Yw w i c).1=w:=by
  unfold Yw at h ⊢
  by_cases k1:Z6 c=1
  · rw [if_pos k1] at h ⊢; exact AHc h
  rw [if_neg k1] at h ⊢
  by_cases k2:Z6 c=2
  · rw [if_pos k2] at h ⊢
    unfold Bf at h ⊢
    by_cases e:K5 w i (Hn c)=0
    · rw [if_pos e] at h ⊢; exact AHc h
    · rw [if_neg e]
  rw [if_neg k2] at h ⊢
  by_cases k3:Z6 c=3
  · rw [if_pos k3] at h ⊢; exact AAw h
  rw [if_neg k3] at h ⊢
  by_cases k4:Z6 c=4
  · rw [if_pos k4] at h ⊢; exact AAw h
  rw [if_neg k4] at h ⊢
  by_cases k5:Z6 c=5
  · rw [if_pos k5] at h ⊢
    by_cases e:putErr w i (Xu c) (Kk c)=0
    · unfold putR at h; rw [if_pos e] at h; exact absurd rfl h
    · rw [Bg e]
  rw [if_neg k5] at h ⊢
  by_cases k6:Z6 c=6
  · rw [if_pos k6] at h ⊢
    by_cases e:takeErr w i (Xu c) (Kk c)=0
    · unfold takeR at h; rw [if_pos e] at h; exact absurd rfl h
    · rw [E6 e]
  rw [if_neg k6] at h ⊢
  by_cases k7:Z6 c=7
  · rw [if_pos k7] at h ⊢
    unfold Tz at h ⊢
    by_cases e:giveErr w i (Xu c) (Hn c)=0
    · rw [if_pos e] at h; exact absurd rfl h
    · rw [if_neg e]
  rw [if_neg k7] at h ⊢
  by_cases k8:Z6 c=8
  · rw [if_pos k8] at h ⊢
    unfold Kj at h ⊢
    by_cases e:tradeErr w i (Hn c) (Xc c) (Ud c) (Xi c) (Uc c)=0
    · rw [if_pos e] at h; exact absurd rfl h
    · rw [if_neg e]
  rw [if_neg k8]
theorem G2 {w:den Za} {i:Nat} {c:Cm} (hm:Rp c) (h9:¬ Z6 c=9) (h10:¬ Z6 c=10):doR w i c=((Yw w i c).1,AH5 (Z6 c) (Yw w i c).2.1 (Yw w i c).2.2.1,()):=by
  unfold doR AH5
  rw [if_pos hm,if_neg h9,if_neg h10]
  by_cases e:(Yw w i c).2.2.1=0
  · rw [if_pos e,if_pos e]
  · rw [if_neg e,if_neg e,AJd e]
theorem Nf {w:den Za} (ok:Ok w) {i:Nat} (hi:i<List.length (w.2.1:List Int)) {c:Cm} (hf:AH3 c):Zd (fun nf _ _ _=>Q0 nf (w) ((i:Int)) (c)) (fun r=>r.1=doR w i c):=by
  have hmay:=AIb c (by have:=hf.1; omega) (by have:=hf.2; omega)
  by_cases hm:Rp c
  · have tr:=trC hf hm
    obtain ⟨d,hd,ed⟩:=hm.dir
    have hst:=ok.right.stands hi hd
    have ed':d=(Tm c).toNat:=by omega
    rcases hm.kinds with k | k | k | k | k | k | k | k | k | k
    · have s:Zd (fun nf _ _ _=>J9 nf (w) ((i:Int)) (c)) (fun r=>r.1=doR w i c):=by
        rw [G2 hm (by omega) (by omega)]
        have k1:=AI4 w ok.sm hst
        rw [← ed,ed'] at k1
        have k2:Zd (fun nf _ _ _=>Qd nf (w) ((i:Int)) (c)) (fun r=>r.1=Yw w i c):=by
          refine Zd.succ (fun nf _ _ _=>Qd.eq nf _ _ _) ?_
          simp [Ze (k1),(k1).prop,Yw,k]
        refine Zd.succ (fun nf _ _ _=>J9.eq nf _ _ _) ?_
        simp [Ze (k2),(k2).prop,Ze (Ys (Z6 c) (Yw w i c).2.1 (Yw w i c).2.2.1),(Ys (Z6 c) (Yw w i c).2.1 (Yw w i c).2.2.1).prop]
      refine Zd.succ (fun nf _ _ _=>Q0.eq nf _ _ _) ?_
      simp [Ze (hmay),(hmay).prop,hm,Ze (Yj),(Yj).prop,k,Ze (s),(s).prop]
    · have s:Zd (fun nf _ _ _=>Qk nf (w) ((i:Int)) (c)) (fun r=>r.1=doR w i c):=by
        rw [G2 hm (by omega) (by omega)]
        have k1:=AI9 w ok.sm hi (Hn c) (d:=d) (fun hz=>(AGk ok hd hz).1)
        rw [← ed,ed'] at k1
        have k2:Zd (fun nf _ _ _=>Qe nf (w) ((i:Int)) (c)) (fun r=>r.1=Yw w i c):=by
          refine Zd.succ (fun nf _ _ _=>Qe.eq nf _ _ _) ?_
          simp [Ze (k1),(k1).prop,Yw,k]
        refine Zd.succ (fun nf _ _ _=>Qk.eq nf _ _ _) ?_
        simp [Ze (k2),(k2).prop,Ze (Ys (Z6 c) (Yw w i c).2.1 (Yw w i c).2.2.1),(Ys (Z6 c) (Yw w i c).2.1 (Yw w i c).2.2.1).prop]
      refine Zd.succ (fun nf _ _ _=>Q0.eq nf _ _ _) ?_
      simp [Ze (hmay),(hmay).prop,hm,Ze (Yj),(Yj).prop,k,Ze (s),(s).prop]
    · have s:Zd (fun nf _ _ _=>Ve nf (w) ((i:Int)) (c)) (fun r=>r.1=doR w i c):=by
        rw [G2 hm (by omega) (by omega)]
        have k1:=ALl w ok hi (Xu c)
        have k2:Zd (fun nf _ _ _=>Qf nf (w) ((i:Int)) (c)) (fun r=>r.1=AD0 w i (Xu c)):=by
          refine Zd.succ (fun nf _ _ _=>Qf.eq nf _ _ _) ?_
          simp [Ze (k1),(k1).prop]
        refine Zd.succ (fun nf _ _ _=>Ve.eq nf _ _ _) ?_
        simp [Ze (k2),(k2).prop,Ze (Ys 3 0 (AD0 w i (Xu c)).2.1),(Ys 3 0 (AD0 w i (Xu c)).2.1).prop,Yw,k]
      refine Zd.succ (fun nf _ _ _=>Q0.eq nf _ _ _) ?_
      simp [Ze (hmay),(hmay).prop,hm,Ze (Yj),(Yj).prop,k,Ze (s),(s).prop]
    · have s:Zd (fun nf _ _ _=>Vd nf (w) ((i:Int)) (c)) (fun r=>r.1=doR w i c):=by
        rw [G2 hm (by omega) (by omega)]
        have k1:=AIh w ok hi (Xu c)
        have k2:Zd (fun nf _ _ _=>Qg nf (w) ((i:Int)) (c)) (fun r=>r.1=Eh w i (Xu c)):=by
          refine Zd.succ (fun nf _ _ _=>Qg.eq nf _ _ _) ?_
          simp [Ze (k1),(k1).prop]
        refine Zd.succ (fun nf _ _ _=>Vd.eq nf _ _ _) ?_
        simp [Ze (k2),(k2).prop,Ze (Ys 4 0 (Eh w i (Xu c)).2.1),(Ys 4 0 (Eh w i (Xu c)).2.1).prop,Yw,k]
      refine Zd.succ (fun nf _ _ _=>Q0.eq nf _ _ _) ?_
      simp [Ze (hmay),(hmay).prop,hm,Ze (Yj),(Yj).prop,k,Ze (s),(s).prop]
    · have s:Zd (fun nf _ _ _=>Vc nf (w) ((i:Int)) (c)) (fun r=>r.1=doR w i c):=by
        rw [G2 hm (by omega) (by omega)]
        have k1:=AMn ok hi (Xu c) (Kk c)
        have k2:Zd (fun nf _ _ _=>Qh nf (w) ((i:Int)) (c)) (fun r=>r.1=putR w i (Xu c) (Kk c)):=by
          refine Zd.succ (fun nf _ _ _=>Qh.eq nf _ _ _) ?_
          simp [Ze (k1),(k1).prop]
        refine Zd.succ (fun nf _ _ _=>Vc.eq nf _ _ _) ?_
        simp [Ze (k2),(k2).prop,Ze (Ys 5 0 (putR w i (Xu c) (Kk c)).2.1),(Ys 5 0 (putR w i (Xu c) (Kk c)).2.1).prop,Yw,k]
      refine Zd.succ (fun nf _ _ _=>Q0.eq nf _ _ _) ?_
      simp [Ze (hmay),(hmay).prop,hm,Ze (Yj),(Yj).prop,k,Ze (s),(s).prop]
    · have s:Zd (fun nf _ _ _=>Vb nf (w) ((i:Int)) (c)) (fun r=>r.1=doR w i c):=by
        rw [G2 hm (by omega) (by omega)]
        have k1:=AJh ok hi (Xu c) (Kk c)
        have k2:Zd (fun nf _ _ _=>Qi nf (w) ((i:Int)) (c)) (fun r=>r.1=takeR w i (Xu c) (Kk c)):=by
          refine Zd.succ (fun nf _ _ _=>Qi.eq nf _ _ _) ?_
          simp [Ze (k1),(k1).prop]
        refine Zd.succ (fun nf _ _ _=>Vb.eq nf _ _ _) ?_
        simp [Ze (k2),(k2).prop,Ze (Ys 6 0 (takeR w i (Xu c) (Kk c)).2.1),(Ys 6 0 (takeR w i (Xu c) (Kk c)).2.1).prop,Yw,k]
      refine Zd.succ (fun nf _ _ _=>Q0.eq nf _ _ _) ?_
      simp [Ze (hmay),(hmay).prop,hm,Ze (Yj),(Yj).prop,k,Ze (s),(s).prop]
    · have s:Zd (fun nf _ _ _=>Va nf (w) ((i:Int)) (c)) (fun r=>r.1=doR w i c):=by
        rw [G2 hm (by omega) (by omega)]
        have k1:=AIm ok hi (Xu c) (Hn c)
        have k2:Zd (fun nf _ _ _=>Qj nf (w) ((i:Int)) (c)) (fun r=>r.1=Tz w i (Xu c) (Hn c)):=by
          refine Zd.succ (fun nf _ _ _=>Qj.eq nf _ _ _) ?_
          simp [Ze (k1),(k1).prop]
        refine Zd.succ (fun nf _ _ _=>Va.eq nf _ _ _) ?_
        simp [Ze (k2),(k2).prop,Ze (Ys 7 0 (Tz w i (Xu c) (Hn c)).2.1),(Ys 7 0 (Tz w i (Xu c) (Hn c)).2.1).prop,Yw,k]
      refine Zd.succ (fun nf _ _ _=>Q0.eq nf _ _ _) ?_
      simp [Ze (hmay),(hmay).prop,hm,Ze (Yj),(Yj).prop,k,Ze (s),(s).prop]
    · have s:Zd (fun nf _ _ _=>Ql nf (w) ((i:Int)) (c)) (fun r=>r.1=doR w i c):=by
        rw [G2 hm (by omega) (by omega)]
        have k1:=AGv ok hi c tr.g tr.w tr.pay tr.fee
        refine Zd.succ (fun nf _ _ _=>Ql.eq nf _ _ _) ?_
        simp [Ze (k1),(k1).prop,Ze (Ys 8 0 (Kj w i (Hn c) (Xc c) (Ud c) (Xi c) (Uc c)).2.1),(Ys 8 0 (Kj w i (Hn c) (Xc c) (Ud c) (Xi c) (Uc c)).2.1).prop,Yw,k]
      refine Zd.succ (fun nf _ _ _=>Q0.eq nf _ _ _) ?_
      simp [Ze (hmay),(hmay).prop,hm,Ze (Yj),(Yj).prop,k,Ze (s),(s).prop]
    · have s:Zd (fun nf _ _ _=>Jp nf (w) ((i:Int)) (c)) (fun r=>r.1=doR w i c):=by
        refine Zd.succ (fun nf _ _ _=>Jp.eq nf _ _ _) ?_
        simp [Ze (AAo w ok hi),(AAo w ok hi).prop,doR,hm,k]
      refine Zd.succ (fun nf _ _ _=>Q0.eq nf _ _ _) ?_
      simp [Ze (hmay),(hmay).prop,hm,Ze (Yj),(Yj).prop,k,Ze (s),(s).prop]
    · have s:Zd (fun nf _ _ _=>Yz nf (w) ((i:Int)) (c)) (fun r=>r.1=doR w i c):=by
        refine Zd.succ (fun nf _ _ _=>Yz.eq nf _ _ _) ?_
        simp [Ze (AEx w ok hi),(AEx w ok hi).prop,doR,hm,k]
      refine Zd.succ (fun nf _ _ _=>Q0.eq nf _ _ _) ?_
      simp [Ze (hmay),(hmay).prop,hm,Ze (Yj),(Yj).prop,k,Ze (s),(s).prop]
  · unfold doR
    rw [if_neg hm]
    refine Zd.succ (fun nf _ _ _=>Q0.eq nf _ _ _) ?_
    simp [Ze (hmay),(hmay).prop,hm,Fh]
end Go.Proofs.YtpemapoblhleoaaGreatDoor.Ghost
