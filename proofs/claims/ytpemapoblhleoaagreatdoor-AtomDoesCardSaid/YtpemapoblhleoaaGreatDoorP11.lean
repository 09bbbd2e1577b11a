/- What functions come to, and that the statements are answered with 'true'. Conditions: none. -/
import Derived.Test.YtpemapoblhleoaaGreatDoorS
import Derived.Test.YtpemapoblhleoaaGreatDoorGE
import Derived.Test.YtpemapoblhleoaaGreatDoorP1
import Derived.Test.YtpemapoblhleoaaGreatDoorP2
import Derived.Test.YtpemapoblhleoaaGreatDoorP3
import Derived.Test.YtpemapoblhleoaaGreatDoorP4
import Derived.Test.YtpemapoblhleoaaGreatDoorP5
import Derived.Test.YtpemapoblhleoaaGreatDoorP6
import Derived.Test.YtpemapoblhleoaaGreatDoorP7
import Derived.Test.YtpemapoblhleoaaGreatDoorP8
import Derived.Test.YtpemapoblhleoaaGreatDoorP9
import Derived.Test.YtpemapoblhleoaaGreatDoorP10
set_option linter.unusedVariables false
set_option linter.unusedSimpArgs false
set_option linter.unusedSectionVars false
set_option linter.unnecessarySimpa false
namespace Go.Proofs.YtpemapoblhleoaaGreatDoor.Ghost
open Go
def AOx (k r e:Int):den Zt:=if e=0 then Mj k r else U8 e
theorem Qo (k r e:Int):Zd (fun nf _ _ _=>Y5 nf (k) (r) (e)) (fun x=>x=((AOx k r e,()),[])):=by
  refine Zd.succ (fun nf _ _ _=>Y5.eq nf _ _ _) ?_
  by_cases h:e=0 <;> simp [h,AOx,Mj,U8]
theorem Qe:Zd (fun nf _ _ _=>T4 nf) (fun _=>True):=by
  have h:(T4 1).isSome=true:=by kernel_rfl
  obtain ⟨r,hr⟩:=Option.isSome_iff_exists.1 h
  exact Zd.one 1 hr trivial
theorem AA7 {w:den Za} {k:Int} {p q:Pl} (h:¬ (Nj w k p q).2.1=0):(Nj w k p q).1=w:=by
  unfold Nj at h ⊢
  by_cases e:Y0 w k p q=0
  · rw [if_pos e] at h; exact absurd rfl h
  · rw [if_neg e]
theorem AI1 {w:den Za} {i d:Nat} (h:¬ (goR w i d).2.2.1=0):(goR w i d).1=w:=by
  unfold goR at h ⊢
  by_cases e:0≤Hl w i d
  · rw [if_pos e] at h; exact absurd rfl h
  · rw [if_neg e]
theorem AKe {w:den Za} {i:Nat} {c:Cm} (h:¬ (Jz w i c).2.2.1=0):(Jz w i c).1=w:=by
  unfold Jz at h ⊢
  by_cases k1:Xq c=1
  · rw [if_pos k1] at h ⊢; exact AI1 h
  rw [if_neg k1] at h ⊢
  by_cases k2:Xq c=2
  · rw [if_pos k2] at h ⊢
    unfold Fa at h ⊢
    by_cases e:J5 w i (Kw c)=0
    · rw [if_pos e] at h ⊢; exact AI1 h
    · rw [if_neg e]
  rw [if_neg k2] at h ⊢
  by_cases k3:Xq c=3
  · rw [if_pos k3] at h ⊢; exact AA7 h
  rw [if_neg k3] at h ⊢
  by_cases k4:Xq c=4
  · rw [if_pos k4] at h ⊢; exact AA7 h
  rw [if_neg k4] at h ⊢
  by_cases k5:Xq c=5
  · rw [if_pos k5] at h ⊢
    by_cases e:putErr w i (Yk c) (Gh c)=0
    · unfold putR at h; rw [if_pos e] at h; exact absurd rfl h
    · rw [Ad e]
  rw [if_neg k5] at h ⊢
  by_cases k6:Xq c=6
  · rw [if_pos k6] at h ⊢
    by_cases e:takeErr w i (Yk c) (Gh c)=0
    · unfold takeR at h; rw [if_pos e] at h; exact absurd rfl h
    · rw [Dv e]
  rw [if_neg k6] at h ⊢
  by_cases k7:Xq c=7
  · rw [if_pos k7] at h ⊢
    unfold Ur at h ⊢
    by_cases e:giveErr w i (Yk c) (Kw c)=0
    · rw [if_pos e] at h; exact absurd rfl h
    · rw [if_neg e]
  rw [if_neg k7] at h ⊢
  by_cases k8:Xq c=8
  · rw [if_pos k8] at h ⊢
    unfold Q0 at h ⊢
    by_cases e:tradeErr w i (Kw c) (Zr c) (Gs c) (Zu c) (Gx c)=0
    · rw [if_pos e] at h; exact absurd rfl h
    · rw [if_neg e]
  rw [if_neg k8]
theorem Wt {w:den Za} {i:Nat} {c:Cm} (hm:Me c) (h9:¬ Xq c=9) (h10:¬ Xq c=10):doR w i c=((Jz w i c).1,AOx (Xq c) (Jz w i c).2.1 (Jz w i c).2.2.1,()):=by
  unfold doR AOx
  rw [if_pos hm,if_neg h9,if_neg h10]
  by_cases e:(Jz w i c).2.2.1=0
  · rw [if_pos e,if_pos e]
  · rw [if_neg e,if_neg e,AKe e]
theorem D7 {w:den Za} (ok:Ok w) {i:Nat} (hi:i<List.length (w.2.1:List Int)) {c:Cm} (hf:AKb c):Zd (fun nf _ _ _=>Vh nf (w) ((i:Int)) (c)) (fun r=>r.1=doR w i c):=by
  have hmay:=AJv c (by have:=hf.1; omega) (by have:=hf.2; omega)
  by_cases hm:Me c
  · have tr:=trC hf hm
    obtain ⟨d,hd,ed⟩:=hm.dir
    have hst:=ok.right.stands hi hd
    have ed':d=(Rq c).toNat:=by omega
    rcases hm.kinds with k | k | k | k | k | k | k | k | k | k
    · have s:Zd (fun nf _ _ _=>V6 nf (w) ((i:Int)) (c)) (fun r=>r.1=doR w i c):=by
        rw [Wt hm (by omega) (by omega)]
        have k1:=AKt w ok.sm hst
        rw [← ed,ed'] at k1
        have k2:Zd (fun nf _ _ _=>Jn nf (w) ((i:Int)) (c)) (fun r=>r.1=Jz w i c):=by
          refine Zd.succ (fun nf _ _ _=>Jn.eq nf _ _ _) ?_
          simp [Zf (k1),(k1).prop,Jz,k]
        refine Zd.succ (fun nf _ _ _=>V6.eq nf _ _ _) ?_
        simp [Zf (k2),(k2).prop,Zf (Qo (Xq c) (Jz w i c).2.1 (Jz w i c).2.2.1),(Qo (Xq c) (Jz w i c).2.1 (Jz w i c).2.2.1).prop]
      refine Zd.succ (fun nf _ _ _=>Vh.eq nf _ _ _) ?_
      simp [Zf (hmay),(hmay).prop,hm,Zf (Qe),(Qe).prop,k,Zf (s),(s).prop]
    · have s:Zd (fun nf _ _ _=>Jq nf (w) ((i:Int)) (c)) (fun r=>r.1=doR w i c):=by
        rw [Wt hm (by omega) (by omega)]
        have k1:=AKg w ok.sm hi (Kw c) (d:=d) (fun hz=>(Ar ok hd hz).1)
        rw [← ed,ed'] at k1
        have k2:Zd (fun nf _ _ _=>Jl nf (w) ((i:Int)) (c)) (fun r=>r.1=Jz w i c):=by
          refine Zd.succ (fun nf _ _ _=>Jl.eq nf _ _ _) ?_
          simp [Zf (k1),(k1).prop,Jz,k]
        refine Zd.succ (fun nf _ _ _=>Jq.eq nf _ _ _) ?_
        simp [Zf (k2),(k2).prop,Zf (Qo (Xq c) (Jz w i c).2.1 (Jz w i c).2.2.1),(Qo (Xq c) (Jz w i c).2.1 (Jz w i c).2.2.1).prop]
      refine Zd.succ (fun nf _ _ _=>Vh.eq nf _ _ _) ?_
      simp [Zf (hmay),(hmay).prop,hm,Zf (Qe),(Qe).prop,k,Zf (s),(s).prop]
    · have s:Zd (fun nf _ _ _=>V3 nf (w) ((i:Int)) (c)) (fun r=>r.1=doR w i c):=by
        rw [Wt hm (by omega) (by omega)]
        have k1:=AMv w ok hi (Yk c)
        have k2:Zd (fun nf _ _ _=>Je nf (w) ((i:Int)) (c)) (fun r=>r.1=ACz w i (Yk c)):=by
          refine Zd.succ (fun nf _ _ _=>Je.eq nf _ _ _) ?_
          simp [Zf (k1),(k1).prop]
        refine Zd.succ (fun nf _ _ _=>V3.eq nf _ _ _) ?_
        simp [Zf (k2),(k2).prop,Zf (Qo 3 0 (ACz w i (Yk c)).2.1),(Qo 3 0 (ACz w i (Yk c)).2.1).prop,Jz,k]
      refine Zd.succ (fun nf _ _ _=>Vh.eq nf _ _ _) ?_
      simp [Zf (hmay),(hmay).prop,hm,Zf (Qe),(Qe).prop,k,Zf (s),(s).prop]
    · have s:Zd (fun nf _ _ _=>Kc nf (w) ((i:Int)) (c)) (fun r=>r.1=doR w i c):=by
        rw [Wt hm (by omega) (by omega)]
        have k1:=AKw w ok hi (Yk c)
        have k2:Zd (fun nf _ _ _=>Jp nf (w) ((i:Int)) (c)) (fun r=>r.1=Fw w i (Yk c)):=by
          refine Zd.succ (fun nf _ _ _=>Jp.eq nf _ _ _) ?_
          simp [Zf (k1),(k1).prop]
        refine Zd.succ (fun nf _ _ _=>Kc.eq nf _ _ _) ?_
        simp [Zf (k2),(k2).prop,Zf (Qo 4 0 (Fw w i (Yk c)).2.1),(Qo 4 0 (Fw w i (Yk c)).2.1).prop,Jz,k]
      refine Zd.succ (fun nf _ _ _=>Vh.eq nf _ _ _) ?_
      simp [Zf (hmay),(hmay).prop,hm,Zf (Qe),(Qe).prop,k,Zf (s),(s).prop]
    · have s:Zd (fun nf _ _ _=>Kb nf (w) ((i:Int)) (c)) (fun r=>r.1=doR w i c):=by
        rw [Wt hm (by omega) (by omega)]
        have k1:=ALo ok hi (Yk c) (Gh c)
        have k2:Zd (fun nf _ _ _=>Ji nf (w) ((i:Int)) (c)) (fun r=>r.1=putR w i (Yk c) (Gh c)):=by
          refine Zd.succ (fun nf _ _ _=>Ji.eq nf _ _ _) ?_
          simp [Zf (k1),(k1).prop]
        refine Zd.succ (fun nf _ _ _=>Kb.eq nf _ _ _) ?_
        simp [Zf (k2),(k2).prop,Zf (Qo 5 0 (putR w i (Yk c) (Gh c)).2.1),(Qo 5 0 (putR w i (Yk c) (Gh c)).2.1).prop,Jz,k]
      refine Zd.succ (fun nf _ _ _=>Vh.eq nf _ _ _) ?_
      simp [Zf (hmay),(hmay).prop,hm,Zf (Qe),(Qe).prop,k,Zf (s),(s).prop]
    · have s:Zd (fun nf _ _ _=>V7 nf (w) ((i:Int)) (c)) (fun r=>r.1=doR w i c):=by
        rw [Wt hm (by omega) (by omega)]
        have k1:=AKr ok hi (Yk c) (Gh c)
        have k2:Zd (fun nf _ _ _=>Jc nf (w) ((i:Int)) (c)) (fun r=>r.1=takeR w i (Yk c) (Gh c)):=by
          refine Zd.succ (fun nf _ _ _=>Jc.eq nf _ _ _) ?_
          simp [Zf (k1),(k1).prop]
        refine Zd.succ (fun nf _ _ _=>V7.eq nf _ _ _) ?_
        simp [Zf (k2),(k2).prop,Zf (Qo 6 0 (takeR w i (Yk c) (Gh c)).2.1),(Qo 6 0 (takeR w i (Yk c) (Gh c)).2.1).prop,Jz,k]
      refine Zd.succ (fun nf _ _ _=>Vh.eq nf _ _ _) ?_
      simp [Zf (hmay),(hmay).prop,hm,Zf (Qe),(Qe).prop,k,Zf (s),(s).prop]
    · have s:Zd (fun nf _ _ _=>V4 nf (w) ((i:Int)) (c)) (fun r=>r.1=doR w i c):=by
        rw [Wt hm (by omega) (by omega)]
        have k1:=AKm ok hi (Yk c) (Kw c)
        have k2:Zd (fun nf _ _ _=>Jo nf (w) ((i:Int)) (c)) (fun r=>r.1=Ur w i (Yk c) (Kw c)):=by
          refine Zd.succ (fun nf _ _ _=>Jo.eq nf _ _ _) ?_
          simp [Zf (k1),(k1).prop]
        refine Zd.succ (fun nf _ _ _=>V4.eq nf _ _ _) ?_
        simp [Zf (k2),(k2).prop,Zf (Qo 7 0 (Ur w i (Yk c) (Kw c)).2.1),(Qo 7 0 (Ur w i (Yk c) (Kw c)).2.1).prop,Jz,k]
      refine Zd.succ (fun nf _ _ _=>Vh.eq nf _ _ _) ?_
      simp [Zf (hmay),(hmay).prop,hm,Zf (Qe),(Qe).prop,k,Zf (s),(s).prop]
    · have s:Zd (fun nf _ _ _=>Jm nf (w) ((i:Int)) (c)) (fun r=>r.1=doR w i c):=by
        rw [Wt hm (by omega) (by omega)]
        have k1:=AH2 ok hi c tr.g tr.w tr.pay tr.fee
        refine Zd.succ (fun nf _ _ _=>Jm.eq nf _ _ _) ?_
        simp [Zf (k1),(k1).prop,Zf (Qo 8 0 (Q0 w i (Kw c) (Zr c) (Gs c) (Zu c) (Gx c)).2.1),(Qo 8 0 (Q0 w i (Kw c) (Zr c) (Gs c) (Zu c) (Gx c)).2.1).prop,Jz,k]
      refine Zd.succ (fun nf _ _ _=>Vh.eq nf _ _ _) ?_
      simp [Zf (hmay),(hmay).prop,hm,Zf (Qe),(Qe).prop,k,Zf (s),(s).prop]
    · have s:Zd (fun nf _ _ _=>Vn nf (w) ((i:Int)) (c)) (fun r=>r.1=doR w i c):=by
        refine Zd.succ (fun nf _ _ _=>Vn.eq nf _ _ _) ?_
        simp [Zf (AA3 w ok hi),(AA3 w ok hi).prop,doR,hm,k]
      refine Zd.succ (fun nf _ _ _=>Vh.eq nf _ _ _) ?_
      simp [Zf (hmay),(hmay).prop,hm,Zf (Qe),(Qe).prop,k,Zf (s),(s).prop]
    · have s:Zd (fun nf _ _ _=>Qv nf (w) ((i:Int)) (c)) (fun r=>r.1=doR w i c):=by
        refine Zd.succ (fun nf _ _ _=>Qv.eq nf _ _ _) ?_
        simp [Zf (AEm w ok hi),(AEm w ok hi).prop,doR,hm,k]
      refine Zd.succ (fun nf _ _ _=>Vh.eq nf _ _ _) ?_
      simp [Zf (hmay),(hmay).prop,hm,Zf (Qe),(Qe).prop,k,Zf (s),(s).prop]
  · unfold doR
    rw [if_neg hm]
    refine Zd.succ (fun nf _ _ _=>Vh.eq nf _ _ _) ?_
    simp [Zf (hmay),(hmay).prop,hm,U8]
end Go.Proofs.YtpemapoblhleoaaGreatDoor.Ghost
