/- What functions come to, and that the statements are answered with 'true'. Conditions: none. -/
import Derived.Test.YtpemapoblhleoaaGreatDoorS
import Derived.Test.YtpemapoblhleoaaGreatDoorGE
import Derived.Test.YtpemapoblhleoaaGreatDoorP1
import Derived.Test.YtpemapoblhleoaaGreatDoorP2
import Derived.Test.YtpemapoblhleoaaGreatDoorP3
import Derived.Test.YtpemapoblhleoaaGreatDoorP4
import Derived.Test.YtpemapoblhleoaaGreatDoorP5
import Derived.Test.YtpemapoblhleoaaGreatDoorP6
import Derived.Test.YtpemapoblhleoaaGreatDoorP7
import Derived.Test.YtpemapoblhleoaaGreatDoorP8
import Derived.Test.YtpemapoblhleoaaGreatDoorP9
import Derived.Test.YtpemapoblhleoaaGreatDoorP10
set_option linter.unusedVariables false
set_option linter.unusedSimpArgs false
set_option linter.unusedSectionVars false
set_option linter.unnecessarySimpa false
namespace Go.Proofs.YtpemapoblhleoaaGreatDoor.Ghost
open Go
def AM9 (k r e:Int):den Zm:=if e=0 then AHj k r else Rj e
theorem Yx (k r e:Int):Zd (fun nf _ _ _=>Yg nf (k) (r) (e)) (fun x=>x=((AM9 k r e,()),[])):=by
  refine Zd.succ (fun nf _ _ _=>Yg.eq nf _ _ _) ?_
  by_cases h:e=0 <;> simp [h,AM9,AHj,Rj]
theorem Yn:Zd (fun nf _ _ _=>Ta nf) (fun _=>True):=by
  have h:(Ta 1).isSome=true:=by kernel_rfl
  obtain ⟨r,hr⟩:=Option.isSome_iff_exists.1 h
  exact Zd.one 1 hr trivial
theorem AAj {w:den Za} {k:Int} {p q:Pl} (h:¬ (Pb w k p q).2.1=0):(Pb w k p q).1=w:=by
  unfold Pb at h ⊢
  by_cases e:Vm w k p q=0
  · rw [if_pos e] at h; exact absurd rfl h
  · rw [if_neg e]
theorem AG2 {w:den Za} {i d:Nat} (h:¬ (goR w i d).2.2.1=0):(goR w i d).1=w:=by
  unfold goR at h ⊢
  by_cases e:0≤Gi w i d
  · rw [if_pos e] at h; exact absurd rfl h
  · rw [if_neg e]
theorem AJd {w:den Za} {i:Nat} {c:Cm} (h:¬ (J4 w i c).2.2.1=0):(J4 w i c).1=w:=by
  unfold J4 at h ⊢
  by_cases k1:Xg c=1
  · rw [if_pos k1] at h ⊢; exact AG2 h
  rw [if_neg k1] at h ⊢
  by_cases k2:Xg c=2
  · rw [if_pos k2] at h ⊢
    unfold C8 at h ⊢
    by_cases e:K4 w i (Hp c)=0
    · rw [if_pos e] at h ⊢; exact AG2 h
    · rw [if_neg e]
  rw [if_neg k2] at h ⊢
  by_cases k3:Xg c=3
  · rw [if_pos k3] at h ⊢; exact AAj h
  rw [if_neg k3] at h ⊢
  by_cases k4:Xg c=4
  · rw [if_pos k4] at h ⊢; exact AAj h
  rw [if_neg k4] at h ⊢
  by_cases k5:Xg c=5
  · rw [if_pos k5] at h ⊢
    by_cases e:putErr w i (Yo c) (Gk c)=0
    · unfold putR at h; rw [if_pos e] at h; exact absurd rfl h
    · rw [C9 e]
  rw [if_neg k5] at h ⊢
  by_cases k6:Xg c=6
  · rw [if_pos k6] at h ⊢
    by_cases e:takeErr w i (Yo c) (Gk c)=0
    · unfold takeR at h; rw [if_pos e] at h; exact absurd rfl h
    · rw [Ey e]
  rw [if_neg k6] at h ⊢
  by_cases k7:Xg c=7
  · rw [if_pos k7] at h ⊢
    unfold T5 at h ⊢
    by_cases e:giveErr w i (Yo c) (Hp c)=0
    · rw [if_pos e] at h; exact absurd rfl h
    · rw [if_neg e]
  rw [if_neg k7] at h ⊢
  by_cases k8:Xg c=8
  · rw [if_pos k8] at h ⊢
    unfold Kl at h ⊢
    by_cases e:tradeErr w i (Hp c) (Xi c) (Uh c) (Xp c) (Ug c)=0
    · rw [if_pos e] at h; exact absurd rfl h
    · rw [if_neg e]
  rw [if_neg k8]
theorem Uy {w:den Za} {i:Nat} {c:Cm} (hm:Mv c) (h9:¬ Xg c=9) (h10:¬ Xg c=10):doR w i c=((J4 w i c).1,AM9 (Xg c) (J4 w i c).2.1 (J4 w i c).2.2.1,()):=by
  unfold doR AM9
  rw [if_pos hm,if_neg h9,if_neg h10]
  by_cases e:(J4 w i c).2.2.1=0
  · rw [if_pos e,if_pos e]
  · rw [if_neg e,if_neg e,AJd e]
theorem AEl {w:den Za} (ok:Ok w) {i:Nat} (hi:i<List.length (w.2.1:List Int)) {c:Cm} (hf:AHz c):Zd (fun nf _ _ _=>Jo nf (w) ((i:Int)) (c)) (fun r=>r.1=doR w i c):=by
  have hmay:=AH6 c (by have:=hf.1; omega) (by have:=hf.2; omega)
  by_cases hm:Mv c
  · have tr:=trC hf hm
    obtain ⟨d,hd,ed⟩:=hm.dir
    have hst:=ok.right.stands hi hd
    have ed':d=(Oi c).toNat:=by omega
    rcases hm.kinds with k | k | k | k | k | k | k | k | k | k
    · have s:Zd (fun nf _ _ _=>Va nf (w) ((i:Int)) (c)) (fun r=>r.1=doR w i c):=by
        rw [Uy hm (by omega) (by omega)]
        have k1:=AI2 w ok.sm hst
        rw [← ed,ed'] at k1
        have k2:Zd (fun nf _ _ _=>Qh nf (w) ((i:Int)) (c)) (fun r=>r.1=J4 w i c):=by
          refine Zd.succ (fun nf _ _ _=>Qh.eq nf _ _ _) ?_
          simp [Ze (k1),(k1).prop,J4,k]
        refine Zd.succ (fun nf _ _ _=>Va.eq nf _ _ _) ?_
        simp [Ze (k2),(k2).prop,Ze (Yx (Xg c) (J4 w i c).2.1 (J4 w i c).2.2.1),(Yx (Xg c) (J4 w i c).2.1 (J4 w i c).2.2.1).prop]
      refine Zd.succ (fun nf _ _ _=>Jo.eq nf _ _ _) ?_
      simp [Ze (hmay),(hmay).prop,hm,Ze (Yn),(Yn).prop,k,Ze (s),(s).prop]
    · have s:Zd (fun nf _ _ _=>Qo nf (w) ((i:Int)) (c)) (fun r=>r.1=doR w i c):=by
        rw [Uy hm (by omega) (by omega)]
        have k1:=AI7 w ok.sm hi (Hp c) (d:=d) (fun hz=>(AF9 ok hd hz).1)
        rw [← ed,ed'] at k1
        have k2:Zd (fun nf _ _ _=>Qi nf (w) ((i:Int)) (c)) (fun r=>r.1=J4 w i c):=by
          refine Zd.succ (fun nf _ _ _=>Qi.eq nf _ _ _) ?_
          simp [Ze (k1),(k1).prop,J4,k]
        refine Zd.succ (fun nf _ _ _=>Qo.eq nf _ _ _) ?_
        simp [Ze (k2),(k2).prop,Ze (Yx (Xg c) (J4 w i c).2.1 (J4 w i c).2.2.1),(Yx (Xg c) (J4 w i c).2.1 (J4 w i c).2.2.1).prop]
      refine Zd.succ (fun nf _ _ _=>Jo.eq nf _ _ _) ?_
      simp [Ze (hmay),(hmay).prop,hm,Ze (Yn),(Yn).prop,k,Ze (s),(s).prop]
    · have s:Zd (fun nf _ _ _=>Vf nf (w) ((i:Int)) (c)) (fun r=>r.1=doR w i c):=by
        rw [Uy hm (by omega) (by omega)]
        have k1:=ALn w ok hi (Yo c)
        have k2:Zd (fun nf _ _ _=>Qj nf (w) ((i:Int)) (c)) (fun r=>r.1=AIi w i (Yo c)):=by
          refine Zd.succ (fun nf _ _ _=>Qj.eq nf _ _ _) ?_
          simp [Ze (k1),(k1).prop]
        refine Zd.succ (fun nf _ _ _=>Vf.eq nf _ _ _) ?_
        simp [Ze (k2),(k2).prop,Ze (Yx 3 0 (AIi w i (Yo c)).2.1),(Yx 3 0 (AIi w i (Yo c)).2.1).prop,J4,k]
      refine Zd.succ (fun nf _ _ _=>Jo.eq nf _ _ _) ?_
      simp [Ze (hmay),(hmay).prop,hm,Ze (Yn),(Yn).prop,k,Ze (s),(s).prop]
    · have s:Zd (fun nf _ _ _=>Ve nf (w) ((i:Int)) (c)) (fun r=>r.1=doR w i c):=by
        rw [Uy hm (by omega) (by omega)]
        have k1:=AIc w ok hi (Yo c)
        have k2:Zd (fun nf _ _ _=>Qk nf (w) ((i:Int)) (c)) (fun r=>r.1=Ah w i (Yo c)):=by
          refine Zd.succ (fun nf _ _ _=>Qk.eq nf _ _ _) ?_
          simp [Ze (k1),(k1).prop]
        refine Zd.succ (fun nf _ _ _=>Ve.eq nf _ _ _) ?_
        simp [Ze (k2),(k2).prop,Ze (Yx 4 0 (Ah w i (Yo c)).2.1),(Yx 4 0 (Ah w i (Yo c)).2.1).prop,J4,k]
      refine Zd.succ (fun nf _ _ _=>Jo.eq nf _ _ _) ?_
      simp [Ze (hmay),(hmay).prop,hm,Ze (Yn),(Yn).prop,k,Ze (s),(s).prop]
    · have s:Zd (fun nf _ _ _=>Vd nf (w) ((i:Int)) (c)) (fun r=>r.1=doR w i c):=by
        rw [Uy hm (by omega) (by omega)]
        have k1:=AMn ok hi (Yo c) (Gk c)
        have k2:Zd (fun nf _ _ _=>Ql nf (w) ((i:Int)) (c)) (fun r=>r.1=putR w i (Yo c) (Gk c)):=by
          refine Zd.succ (fun nf _ _ _=>Ql.eq nf _ _ _) ?_
          simp [Ze (k1),(k1).prop]
        refine Zd.succ (fun nf _ _ _=>Vd.eq nf _ _ _) ?_
        simp [Ze (k2),(k2).prop,Ze (Yx 5 0 (putR w i (Yo c) (Gk c)).2.1),(Yx 5 0 (putR w i (Yo c) (Gk c)).2.1).prop,J4,k]
      refine Zd.succ (fun nf _ _ _=>Jo.eq nf _ _ _) ?_
      simp [Ze (hmay),(hmay).prop,hm,Ze (Yn),(Yn).prop,k,Ze (s),(s).prop]
    · have s:Zd (fun nf _ _ _=>Vc nf (w) ((i:Int)) (c)) (fun r=>r.1=doR w i c):=by
        rw [Uy hm (by omega) (by omega)]
        have k1:=AJg ok hi (Yo c) (Gk c)
        have k2:Zd (fun nf _ _ _=>Qm nf (w) ((i:Int)) (c)) (fun r=>r.1=takeR w i (Yo c) (Gk c)):=by
          refine Zd.succ (fun nf _ _ _=>Qm.eq nf _ _ _) ?_
          simp [Ze (k1),(k1).prop]
        refine Zd.succ (fun nf _ _ _=>Vc.eq nf _ _ _) ?_
        simp [Ze (k2),(k2).prop,Ze (Yx 6 0 (takeR w i (Yo c) (Gk c)).2.1),(Yx 6 0 (takeR w i (Yo c) (Gk c)).2.1).prop,J4,k]
      refine Zd.succ (fun nf _ _ _=>Jo.eq nf _ _ _) ?_
      simp [Ze (hmay),(hmay).prop,hm,Ze (Yn),(Yn).prop,k,Ze (s),(s).prop]
    · have s:Zd (fun nf _ _ _=>Vb nf (w) ((i:Int)) (c)) (fun r=>r.1=doR w i c):=by
        rw [Uy hm (by omega) (by omega)]
        have k1:=AIj ok hi (Yo c) (Hp c)
        have k2:Zd (fun nf _ _ _=>Qn nf (w) ((i:Int)) (c)) (fun r=>r.1=T5 w i (Yo c) (Hp c)):=by
          refine Zd.succ (fun nf _ _ _=>Qn.eq nf _ _ _) ?_
          simp [Ze (k1),(k1).prop]
        refine Zd.succ (fun nf _ _ _=>Vb.eq nf _ _ _) ?_
        simp [Ze (k2),(k2).prop,Ze (Yx 7 0 (T5 w i (Yo c) (Hp c)).2.1),(Yx 7 0 (T5 w i (Yo c) (Hp c)).2.1).prop,J4,k]
      refine Zd.succ (fun nf _ _ _=>Jo.eq nf _ _ _) ?_
      simp [Ze (hmay),(hmay).prop,hm,Ze (Yn),(Yn).prop,k,Ze (s),(s).prop]
    · have s:Zd (fun nf _ _ _=>Qp nf (w) ((i:Int)) (c)) (fun r=>r.1=doR w i c):=by
        rw [Uy hm (by omega) (by omega)]
        have k1:=AGo ok hi c tr.g tr.w tr.pay tr.fee
        refine Zd.succ (fun nf _ _ _=>Qp.eq nf _ _ _) ?_
        simp [Ze (k1),(k1).prop,Ze (Yx 8 0 (Kl w i (Hp c) (Xi c) (Uh c) (Xp c) (Ug c)).2.1),(Yx 8 0 (Kl w i (Hp c) (Xi c) (Uh c) (Xp c) (Ug c)).2.1).prop,J4,k]
      refine Zd.succ (fun nf _ _ _=>Jo.eq nf _ _ _) ?_
      simp [Ze (hmay),(hmay).prop,hm,Ze (Yn),(Yn).prop,k,Ze (s),(s).prop]
    · have s:Zd (fun nf _ _ _=>Js nf (w) ((i:Int)) (c)) (fun r=>r.1=doR w i c):=by
        refine Zd.succ (fun nf _ _ _=>Js.eq nf _ _ _) ?_
        simp [Ze (AAb w ok hi),(AAb w ok hi).prop,doR,hm,k]
      refine Zd.succ (fun nf _ _ _=>Jo.eq nf _ _ _) ?_
      simp [Ze (hmay),(hmay).prop,hm,Ze (Yn),(Yn).prop,k,Ze (s),(s).prop]
    · have s:Zd (fun nf _ _ _=>Y3 nf (w) ((i:Int)) (c)) (fun r=>r.1=doR w i c):=by
        refine Zd.succ (fun nf _ _ _=>Y3.eq nf _ _ _) ?_
        simp [Ze (AEg w ok hi),(AEg w ok hi).prop,doR,hm,k]
      refine Zd.succ (fun nf _ _ _=>Jo.eq nf _ _ _) ?_
      simp [Ze (hmay),(hmay).prop,hm,Ze (Yn),(Yn).prop,k,Ze (s),(s).prop]
  · unfold doR
    rw [if_neg hm]
    refine Zd.succ (fun nf _ _ _=>Jo.eq nf _ _ _) ?_
    simp [Ze (hmay),(hmay).prop,hm,Rj]
end Go.Proofs.YtpemapoblhleoaaGreatDoor.Ghost
