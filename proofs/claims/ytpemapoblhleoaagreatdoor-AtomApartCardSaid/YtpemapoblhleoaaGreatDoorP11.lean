/- What functions come to, and that the statements are answered with 'true'. Conditions: none. -/
import Derived.Test.YtpemapoblhleoaaGreatDoorS
import Derived.Test.YtpemapoblhleoaaGreatDoorGE
import Derived.Test.YtpemapoblhleoaaGreatDoorP1
import Derived.Test.YtpemapoblhleoaaGreatDoorP2
import Derived.Test.YtpemapoblhleoaaGreatDoorP3
import Derived.Test.YtpemapoblhleoaaGreatDoorP4
import Derived.Test.YtpemapoblhleoaaGreatDoorP5
import Derived.Test.YtpemapoblhleoaaGreatDoorP6
import Derived.Test.YtpemapoblhleoaaGreatDoorP7
import Derived.Test.YtpemapoblhleoaaGreatDoorP8
import Derived.Test.YtpemapoblhleoaaGreatDoorP9
import Derived.Test.YtpemapoblhleoaaGreatDoorP10
set_option linter.unusedVariables false
set_option linter.unusedSimpArgs false
set_option linter.unusedSectionVars false
set_option linter.unnecessarySimpa false
namespace Go.Proofs.YtpemapoblhleoaaGreatDoor.Ghost
open Go
def AJe (k r e:Int):den Zn:=if e=0 then AL6 k r else Fj e
theorem Yw (k r e:Int):Zd (fun nf _ _ _=>Yd nf (k) (r) (e)) (fun x=>x=((AJe k r e,()),[])):=by
  refine Zd.succ (fun nf _ _ _=>Yd.eq nf _ _ _) ?_
  by_cases h:e=0 <;> simp [h,AJe,AL6,Fj]
theorem Yk:Zd (fun nf _ _ _=>Wy nf) (fun _=>True):=by
  have h:(Wy 1).isSome=true:=by kernel_rfl
  obtain ⟨r,hr⟩:=Option.isSome_iff_exists.1 h
  exact Zd.one 1 hr trivial
theorem AAq {w:den Za} {k:Int} {p q:Pl} (h:¬ (Oa w k p q).2.1=0):(Oa w k p q).1=w:=by
  unfold Oa at h ⊢
  by_cases e:Q7 w k p q=0
  · rw [if_pos e] at h; exact absurd rfl h
  · rw [if_neg e]
theorem AGw {w:den Za} {i d:Nat} (h:¬ (goR w i d).2.2.1=0):(goR w i d).1=w:=by
  unfold goR at h ⊢
  by_cases e:0≤Ud w i d
  · rw [if_pos e] at h; exact absurd rfl h
  · rw [if_neg e]
theorem AIz {w:den Za} {i:Nat} {c:Cm} (h:¬ (J5 w i c).2.2.1=0):(J5 w i c).1=w:=by
  unfold J5 at h ⊢
  by_cases k1:Z9 c=1
  · rw [if_pos k1] at h ⊢; exact AGw h
  rw [if_neg k1] at h ⊢
  by_cases k2:Z9 c=2
  · rw [if_pos k2] at h ⊢
    unfold AAt at h ⊢
    by_cases e:Gi w i (Gb c)=0
    · rw [if_pos e] at h ⊢; exact AGw h
    · rw [if_neg e]
  rw [if_neg k2] at h ⊢
  by_cases k3:Z9 c=3
  · rw [if_pos k3] at h ⊢; exact AAq h
  rw [if_neg k3] at h ⊢
  by_cases k4:Z9 c=4
  · rw [if_pos k4] at h ⊢; exact AAq h
  rw [if_neg k4] at h ⊢
  by_cases k5:Z9 c=5
  · rw [if_pos k5] at h ⊢
    by_cases e:putErr w i (X0 c) (Hm c)=0
    · unfold putR at h; rw [if_pos e] at h; exact absurd rfl h
    · rw [Bl e]
  rw [if_neg k5] at h ⊢
  by_cases k6:Z9 c=6
  · rw [if_pos k6] at h ⊢
    by_cases e:takeErr w i (X0 c) (Hm c)=0
    · unfold takeR at h; rw [if_pos e] at h; exact absurd rfl h
    · rw [E8 e]
  rw [if_neg k6] at h ⊢
  by_cases k7:Z9 c=7
  · rw [if_pos k7] at h ⊢
    unfold Ry at h ⊢
    by_cases e:giveErr w i (X0 c) (Gb c)=0
    · rw [if_pos e] at h; exact absurd rfl h
    · rw [if_neg e]
  rw [if_neg k7] at h ⊢
  by_cases k8:Z9 c=8
  · rw [if_pos k8] at h ⊢
    unfold Kr at h ⊢
    by_cases e:tradeErr w i (Gb c) (Xf c) (Uv c) (Xk c) (Uu c)=0
    · rw [if_pos e] at h; exact absurd rfl h
    · rw [if_neg e]
  rw [if_neg k8]
theorem G3 {w:den Za} {i:Nat} {c:Cm} (hm:Pe c) (h9:¬ Z9 c=9) (h10:¬ Z9 c=10):doR w i c=((J5 w i c).1,AJe (Z9 c) (J5 w i c).2.1 (J5 w i c).2.2.1,()):=by
  unfold doR AJe
  rw [if_pos hm,if_neg h9,if_neg h10]
  by_cases e:(J5 w i c).2.2.1=0
  · rw [if_pos e,if_pos e]
  · rw [if_neg e,if_neg e,AIz e]
theorem Ku {w:den Za} (ok:Ok w) {i:Nat} (hi:i<List.length (w.2.1:List Int)) {c:Cm} (hf:AJa c):Zd (fun nf _ _ _=>Qe nf (w) ((i:Int)) (c)) (fun r=>r.1=doR w i c):=by
  have hmay:=AHv c (by have:=hf.1; omega) (by have:=hf.2; omega)
  by_cases hm:Pe c
  · have tr:=trC hf hm
    obtain ⟨d,hd,ed⟩:=hm.dir
    have hst:=ok.right.stands hi hd
    have ed':d=(Ot c).toNat:=by omega
    rcases hm.kinds with k | k | k | k | k | k | k | k | k | k
    · have s:Zd (fun nf _ _ _=>J7 nf (w) ((i:Int)) (c)) (fun r=>r.1=doR w i c):=by
        rw [G3 hm (by omega) (by omega)]
        have k1:=AIq w ok.sm hst
        rw [← ed,ed'] at k1
        have k2:Zd (fun nf _ _ _=>Qf nf (w) ((i:Int)) (c)) (fun r=>r.1=J5 w i c):=by
          refine Zd.succ (fun nf _ _ _=>Qf.eq nf _ _ _) ?_
          simp [Ze (k1),(k1).prop,J5,k]
        refine Zd.succ (fun nf _ _ _=>J7.eq nf _ _ _) ?_
        simp [Ze (k2),(k2).prop,Ze (Yw (Z9 c) (J5 w i c).2.1 (J5 w i c).2.2.1),(Yw (Z9 c) (J5 w i c).2.1 (J5 w i c).2.2.1).prop]
      refine Zd.succ (fun nf _ _ _=>Qe.eq nf _ _ _) ?_
      simp [Ze (hmay),(hmay).prop,hm,Ze (Yk),(Yk).prop,k,Ze (s),(s).prop]
    · have s:Zd (fun nf _ _ _=>Qm nf (w) ((i:Int)) (c)) (fun r=>r.1=doR w i c):=by
        rw [G3 hm (by omega) (by omega)]
        have k1:=AIt w ok.sm hi (Gb c) (d:=d) (fun hz=>(AF4 ok hd hz).1)
        rw [← ed,ed'] at k1
        have k2:Zd (fun nf _ _ _=>Qg nf (w) ((i:Int)) (c)) (fun r=>r.1=J5 w i c):=by
          refine Zd.succ (fun nf _ _ _=>Qg.eq nf _ _ _) ?_
          simp [Ze (k1),(k1).prop,J5,k]
        refine Zd.succ (fun nf _ _ _=>Qm.eq nf _ _ _) ?_
        simp [Ze (k2),(k2).prop,Ze (Yw (Z9 c) (J5 w i c).2.1 (J5 w i c).2.2.1),(Yw (Z9 c) (J5 w i c).2.1 (J5 w i c).2.2.1).prop]
      refine Zd.succ (fun nf _ _ _=>Qe.eq nf _ _ _) ?_
      simp [Ze (hmay),(hmay).prop,hm,Ze (Yk),(Yk).prop,k,Ze (s),(s).prop]
    · have s:Zd (fun nf _ _ _=>Vc nf (w) ((i:Int)) (c)) (fun r=>r.1=doR w i c):=by
        rw [G3 hm (by omega) (by omega)]
        have k1:=AK9 w ok hi (X0 c)
        have k2:Zd (fun nf _ _ _=>Qh nf (w) ((i:Int)) (c)) (fun r=>r.1=AFj w i (X0 c)):=by
          refine Zd.succ (fun nf _ _ _=>Qh.eq nf _ _ _) ?_
          simp [Ze (k1),(k1).prop]
        refine Zd.succ (fun nf _ _ _=>Vc.eq nf _ _ _) ?_
        simp [Ze (k2),(k2).prop,Ze (Yw 3 0 (AFj w i (X0 c)).2.1),(Yw 3 0 (AFj w i (X0 c)).2.1).prop,J5,k]
      refine Zd.succ (fun nf _ _ _=>Qe.eq nf _ _ _) ?_
      simp [Ze (hmay),(hmay).prop,hm,Ze (Yk),(Yk).prop,k,Ze (s),(s).prop]
    · have s:Zd (fun nf _ _ _=>Vb nf (w) ((i:Int)) (c)) (fun r=>r.1=doR w i c):=by
        rw [G3 hm (by omega) (by omega)]
        have k1:=AH1 w ok hi (X0 c)
        have k2:Zd (fun nf _ _ _=>Qi nf (w) ((i:Int)) (c)) (fun r=>r.1=Cn w i (X0 c)):=by
          refine Zd.succ (fun nf _ _ _=>Qi.eq nf _ _ _) ?_
          simp [Ze (k1),(k1).prop]
        refine Zd.succ (fun nf _ _ _=>Vb.eq nf _ _ _) ?_
        simp [Ze (k2),(k2).prop,Ze (Yw 4 0 (Cn w i (X0 c)).2.1),(Yw 4 0 (Cn w i (X0 c)).2.1).prop,J5,k]
      refine Zd.succ (fun nf _ _ _=>Qe.eq nf _ _ _) ?_
      simp [Ze (hmay),(hmay).prop,hm,Ze (Yk),(Yk).prop,k,Ze (s),(s).prop]
    · have s:Zd (fun nf _ _ _=>Va nf (w) ((i:Int)) (c)) (fun r=>r.1=doR w i c):=by
        rw [G3 hm (by omega) (by omega)]
        have k1:=AMa ok hi (X0 c) (Hm c)
        have k2:Zd (fun nf _ _ _=>Qj nf (w) ((i:Int)) (c)) (fun r=>r.1=putR w i (X0 c) (Hm c)):=by
          refine Zd.succ (fun nf _ _ _=>Qj.eq nf _ _ _) ?_
          simp [Ze (k1),(k1).prop]
        refine Zd.succ (fun nf _ _ _=>Va.eq nf _ _ _) ?_
        simp [Ze (k2),(k2).prop,Ze (Yw 5 0 (putR w i (X0 c) (Hm c)).2.1),(Yw 5 0 (putR w i (X0 c) (Hm c)).2.1).prop,J5,k]
      refine Zd.succ (fun nf _ _ _=>Qe.eq nf _ _ _) ?_
      simp [Ze (hmay),(hmay).prop,hm,Ze (Yk),(Yk).prop,k,Ze (s),(s).prop]
    · have s:Zd (fun nf _ _ _=>J9 nf (w) ((i:Int)) (c)) (fun r=>r.1=doR w i c):=by
        rw [G3 hm (by omega) (by omega)]
        have k1:=AI2 ok hi (X0 c) (Hm c)
        have k2:Zd (fun nf _ _ _=>Qk nf (w) ((i:Int)) (c)) (fun r=>r.1=takeR w i (X0 c) (Hm c)):=by
          refine Zd.succ (fun nf _ _ _=>Qk.eq nf _ _ _) ?_
          simp [Ze (k1),(k1).prop]
        refine Zd.succ (fun nf _ _ _=>J9.eq nf _ _ _) ?_
        simp [Ze (k2),(k2).prop,Ze (Yw 6 0 (takeR w i (X0 c) (Hm c)).2.1),(Yw 6 0 (takeR w i (X0 c) (Hm c)).2.1).prop,J5,k]
      refine Zd.succ (fun nf _ _ _=>Qe.eq nf _ _ _) ?_
      simp [Ze (hmay),(hmay).prop,hm,Ze (Yk),(Yk).prop,k,Ze (s),(s).prop]
    · have s:Zd (fun nf _ _ _=>J8 nf (w) ((i:Int)) (c)) (fun r=>r.1=doR w i c):=by
        rw [G3 hm (by omega) (by omega)]
        have k1:=AH8 ok hi (X0 c) (Gb c)
        have k2:Zd (fun nf _ _ _=>Ql nf (w) ((i:Int)) (c)) (fun r=>r.1=Ry w i (X0 c) (Gb c)):=by
          refine Zd.succ (fun nf _ _ _=>Ql.eq nf _ _ _) ?_
          simp [Ze (k1),(k1).prop]
        refine Zd.succ (fun nf _ _ _=>J8.eq nf _ _ _) ?_
        simp [Ze (k2),(k2).prop,Ze (Yw 7 0 (Ry w i (X0 c) (Gb c)).2.1),(Yw 7 0 (Ry w i (X0 c) (Gb c)).2.1).prop,J5,k]
      refine Zd.succ (fun nf _ _ _=>Qe.eq nf _ _ _) ?_
      simp [Ze (hmay),(hmay).prop,hm,Ze (Yk),(Yk).prop,k,Ze (s),(s).prop]
    · have s:Zd (fun nf _ _ _=>Qn nf (w) ((i:Int)) (c)) (fun r=>r.1=doR w i c):=by
        rw [G3 hm (by omega) (by omega)]
        have k1:=AGh ok hi c tr.g tr.w tr.pay tr.fee
        refine Zd.succ (fun nf _ _ _=>Qn.eq nf _ _ _) ?_
        simp [Ze (k1),(k1).prop,Ze (Yw 8 0 (Kr w i (Gb c) (Xf c) (Uv c) (Xk c) (Uu c)).2.1),(Yw 8 0 (Kr w i (Gb c) (Xf c) (Uv c) (Xk c) (Uu c)).2.1).prop,J5,k]
      refine Zd.succ (fun nf _ _ _=>Qe.eq nf _ _ _) ?_
      simp [Ze (hmay),(hmay).prop,hm,Ze (Yk),(Yk).prop,k,Ze (s),(s).prop]
    · have s:Zd (fun nf _ _ _=>Jo nf (w) ((i:Int)) (c)) (fun r=>r.1=doR w i c):=by
        refine Zd.succ (fun nf _ _ _=>Jo.eq nf _ _ _) ?_
        simp [Ze (AAj w ok hi),(AAj w ok hi).prop,doR,hm,k]
      refine Zd.succ (fun nf _ _ _=>Qe.eq nf _ _ _) ?_
      simp [Ze (hmay),(hmay).prop,hm,Ze (Yk),(Yk).prop,k,Ze (s),(s).prop]
    · have s:Zd (fun nf _ _ _=>Y2 nf (w) ((i:Int)) (c)) (fun r=>r.1=doR w i c):=by
        refine Zd.succ (fun nf _ _ _=>Y2.eq nf _ _ _) ?_
        simp [Ze (AEk w ok hi),(AEk w ok hi).prop,doR,hm,k]
      refine Zd.succ (fun nf _ _ _=>Qe.eq nf _ _ _) ?_
      simp [Ze (hmay),(hmay).prop,hm,Ze (Yk),(Yk).prop,k,Ze (s),(s).prop]
  · unfold doR
    rw [if_neg hm]
    refine Zd.succ (fun nf _ _ _=>Qe.eq nf _ _ _) ?_
    simp [Ze (hmay),(hmay).prop,hm,Fj]
end Go.Proofs.YtpemapoblhleoaaGreatDoor.Ghost
