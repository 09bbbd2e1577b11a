/- What functions come to, and that the statements are answered with 'true'. Conditions: none. -/
import Derived.Test.YtmemggdjnfccfaaGreatDoorS
import Derived.Test.YtmemggdjnfccfaaGreatDoorGE
import Derived.Test.YtmemggdjnfccfaaGreatDoorP1
import Derived.Test.YtmemggdjnfccfaaGreatDoorP2
import Derived.Test.YtmemggdjnfccfaaGreatDoorP3
import Derived.Test.YtmemggdjnfccfaaGreatDoorP4
import Derived.Test.YtmemggdjnfccfaaGreatDoorP5
import Derived.Test.YtmemggdjnfccfaaGreatDoorP6
import Derived.Test.YtmemggdjnfccfaaGreatDoorP7
import Derived.Test.YtmemggdjnfccfaaGreatDoorP8
import Derived.Test.YtmemggdjnfccfaaGreatDoorP9
import Derived.Test.YtmemggdjnfccfaaGreatDoorP10
import Derived.Test.YtmemggdjnfccfaaGreatDoorP11
import Derived.Test.YtmemggdjnfccfaaGreatDoorP12
set_option linter.unusedVariables false
set_option linter.unusedSimpArgs false
set_option linter.unusedSectionVars false
set_option linter.unnecessarySimpa false
namespace Go.Proofs.YtmemggdjnfccfaaGreatDoor.Ghost
open Go
def APp (k r e:Int):den Z9:=if e=0 then AOu k r else Ae e
theorem Qf (k r e:Int):Zd (fun nf _ _ _=>Yt nf (k) (r) (e)) (fun x=>x=((APp k r e,()),[])):=by
  refine Zd.succ (fun nf _ _ _=>Yt.eq nf _ _ _) ?_
  by_cases h:e=0 <;> simp [h,APp,AOu,Ae]
theorem Y3:Zd (fun nf _ _ _=>T8 nf) (fun _=>True):=by
  have h:(T8 1).isSome=true:=by kernel_rfl
  obtain ⟨r,hr⟩:=Option.isSome_iff_exists.1 h
  exact Zd.one 1 hr trivial
theorem ACl {w:den Zb} {k:Int} {p q:Pl} (h:¬ (Nn w k p q).2.1=0):(Nn w k p q).1=w:=by
  unfold Nn at h ⊢
  by_cases e:Qt w k p q=0
  · rw [if_pos e] at h; exact absurd rfl h
  · rw [if_neg e]
theorem AI9 {w:den Zb} {i d:Nat} (h:¬ (goR w i d).2.2.1=0):(goR w i d).1=w:=by
  unfold goR at h ⊢
  by_cases e:0≤Y5 w i d
  · rw [if_pos e] at h; exact absurd rfl h
  · rw [if_neg e]
theorem ALn {w:den Zb} {i:Nat} {c:Cm} (h:¬ (X9 w i c).2.2.1=0):(X9 w i c).1=w:=by
  unfold X9 at h ⊢
  by_cases k1:Z2 c=1
  · rw [if_pos k1] at h ⊢; exact AI9 h
  rw [if_neg k1] at h ⊢
  by_cases k2:Z2 c=2
  · rw [if_pos k2] at h ⊢
    unfold Np at h ⊢
    by_cases e:Ki w i (Y6 c)=0
    · rw [if_pos e] at h ⊢; exact AI9 h
    · rw [if_neg e]
  rw [if_neg k2] at h ⊢
  by_cases k3:Z2 c=3
  · rw [if_pos k3] at h ⊢; exact ACl h
  rw [if_neg k3] at h ⊢
  by_cases k4:Z2 c=4
  · rw [if_pos k4] at h ⊢; exact ACl h
  rw [if_neg k4] at h ⊢
  by_cases k5:Z2 c=5
  · rw [if_pos k5] at h ⊢
    by_cases e:putErr w i (X4 c) (H6 c)=0
    · unfold putR at h; rw [if_pos e] at h; exact absurd rfl h
    · rw [AAn e]
  rw [if_neg k5] at h ⊢
  by_cases k6:Z2 c=6
  · rw [if_pos k6] at h ⊢
    by_cases e:takeErr w i (X4 c) (H6 c)=0
    · unfold takeR at h; rw [if_pos e] at h; exact absurd rfl h
    · rw [Cs e]
  rw [if_neg k6] at h ⊢
  by_cases k7:Z2 c=7
  · rw [if_pos k7] at h ⊢
    unfold H9 at h ⊢
    by_cases e:giveErr w i (X4 c) (Y6 c)=0
    · rw [if_pos e] at h; exact absurd rfl h
    · rw [if_neg e]
  rw [if_neg k7] at h ⊢
  by_cases k8:Z2 c=8
  · rw [if_pos k8] at h ⊢
    unfold Jj at h ⊢
    by_cases e:tradeErr w i (Y6 c) (Xb c) (K9 c) (Xg c) (K8 c)=0
    · rw [if_pos e] at h; exact absurd rfl h
    · rw [if_neg e]
  rw [if_neg k8]
theorem Ww {w:den Zb} {i:Nat} {c:Cm} (hm:Ws c) (h9:¬ Z2 c=9) (h10:¬ Z2 c=10):doR w i c=((X9 w i c).1,APp (Z2 c) (X9 w i c).2.1 (X9 w i c).2.2.1,()):=by
  unfold doR APp
  rw [if_pos hm,if_neg h9,if_neg h10]
  by_cases e:(X9 w i c).2.2.1=0
  · rw [if_pos e,if_pos e]
  · rw [if_neg e,if_neg e,ALn e]
theorem Hi {w:den Zb} (ok:Ok w) {i:Nat} (hi:i<List.length (w.2.1:List Int)) {c:Cm} (hf:AHe c):Zd (fun nf _ _ _=>Qz nf (w) ((i:Int)) (c)) (fun r=>r.1=doR w i c):=by
  have hmay:=AKb c (by have:=hf.1; omega) (by have:=hf.2; omega)
  by_cases hm:Ws c
  · have tr:=trC hf hm
    obtain ⟨d,hd,ed⟩:=hm.dir
    have hst:=ok.right.stands hi hd
    have ed':d=(Hg c).toNat:=by omega
    rcases hm.kinds with k | k | k | k | k | k | k | k | k | k
    · have s:Zd (fun nf _ _ _=>Vv nf (w) ((i:Int)) (c)) (fun r=>r.1=doR w i c):=by
        rw [Ww hm (by omega) (by omega)]
        have k1:=ALb w ok.sm hst
        rw [← ed,ed'] at k1
        have k2:Zd (fun nf _ _ _=>Q0 nf (w) ((i:Int)) (c)) (fun r=>r.1=X9 w i c):=by
          refine Zd.succ (fun nf _ _ _=>Q0.eq nf _ _ _) ?_
          simp [Ze (k1),(k1).prop,X9,k]
        refine Zd.succ (fun nf _ _ _=>Vv.eq nf _ _ _) ?_
        simp [Ze (k2),(k2).prop,Ze (Qf (Z2 c) (X9 w i c).2.1 (X9 w i c).2.2.1),(Qf (Z2 c) (X9 w i c).2.1 (X9 w i c).2.2.1).prop]
      refine Zd.succ (fun nf _ _ _=>Qz.eq nf _ _ _) ?_
      simp [Ze (hmay),(hmay).prop,hm,Ze (Y3),(Y3).prop,k,Ze (s),(s).prop]
    · have s:Zd (fun nf _ _ _=>Q8 nf (w) ((i:Int)) (c)) (fun r=>r.1=doR w i c):=by
        rw [Ww hm (by omega) (by omega)]
        have k1:=ALh w ok.sm hi (Y6 c) (d:=d) (fun hz=>(AIg ok hd hz).1)
        rw [← ed,ed'] at k1
        have k2:Zd (fun nf _ _ _=>Q2 nf (w) ((i:Int)) (c)) (fun r=>r.1=X9 w i c):=by
          refine Zd.succ (fun nf _ _ _=>Q2.eq nf _ _ _) ?_
          simp [Ze (k1),(k1).prop,X9,k]
        refine Zd.succ (fun nf _ _ _=>Q8.eq nf _ _ _) ?_
        simp [Ze (k2),(k2).prop,Ze (Qf (Z2 c) (X9 w i c).2.1 (X9 w i c).2.2.1),(Qf (Z2 c) (X9 w i c).2.1 (X9 w i c).2.2.1).prop]
      refine Zd.succ (fun nf _ _ _=>Qz.eq nf _ _ _) ?_
      simp [Ze (hmay),(hmay).prop,hm,Ze (Y3),(Y3).prop,k,Ze (s),(s).prop]
    · have s:Zd (fun nf _ _ _=>V0 nf (w) ((i:Int)) (c)) (fun r=>r.1=doR w i c):=by
        rw [Ww hm (by omega) (by omega)]
        have k1:=ANv w ok hi (X4 c)
        have k2:Zd (fun nf _ _ _=>Q3 nf (w) ((i:Int)) (c)) (fun r=>r.1=AHs w i (X4 c)):=by
          refine Zd.succ (fun nf _ _ _=>Q3.eq nf _ _ _) ?_
          simp [Ze (k1),(k1).prop]
        refine Zd.succ (fun nf _ _ _=>V0.eq nf _ _ _) ?_
        simp [Ze (k2),(k2).prop,Ze (Qf 3 0 (AHs w i (X4 c)).2.1),(Qf 3 0 (AHs w i (X4 c)).2.1).prop,X9,k]
      refine Zd.succ (fun nf _ _ _=>Qz.eq nf _ _ _) ?_
      simp [Ze (hmay),(hmay).prop,hm,Ze (Y3),(Y3).prop,k,Ze (s),(s).prop]
    · have s:Zd (fun nf _ _ _=>Vz nf (w) ((i:Int)) (c)) (fun r=>r.1=doR w i c):=by
        rw [Ww hm (by omega) (by omega)]
        have k1:=AKi w ok hi (X4 c)
        have k2:Zd (fun nf _ _ _=>Q4 nf (w) ((i:Int)) (c)) (fun r=>r.1=B7 w i (X4 c)):=by
          refine Zd.succ (fun nf _ _ _=>Q4.eq nf _ _ _) ?_
          simp [Ze (k1),(k1).prop]
        refine Zd.succ (fun nf _ _ _=>Vz.eq nf _ _ _) ?_
        simp [Ze (k2),(k2).prop,Ze (Qf 4 0 (B7 w i (X4 c)).2.1),(Qf 4 0 (B7 w i (X4 c)).2.1).prop,X9,k]
      refine Zd.succ (fun nf _ _ _=>Qz.eq nf _ _ _) ?_
      simp [Ze (hmay),(hmay).prop,hm,Ze (Y3),(Y3).prop,k,Ze (s),(s).prop]
    · have s:Zd (fun nf _ _ _=>Vy nf (w) ((i:Int)) (c)) (fun r=>r.1=doR w i c):=by
        rw [Ww hm (by omega) (by omega)]
        have k1:=AOw ok hi (X4 c) (H6 c)
        have k2:Zd (fun nf _ _ _=>Q5 nf (w) ((i:Int)) (c)) (fun r=>r.1=putR w i (X4 c) (H6 c)):=by
          refine Zd.succ (fun nf _ _ _=>Q5.eq nf _ _ _) ?_
          simp [Ze (k1),(k1).prop]
        refine Zd.succ (fun nf _ _ _=>Vy.eq nf _ _ _) ?_
        simp [Ze (k2),(k2).prop,Ze (Qf 5 0 (putR w i (X4 c) (H6 c)).2.1),(Qf 5 0 (putR w i (X4 c) (H6 c)).2.1).prop,X9,k]
      refine Zd.succ (fun nf _ _ _=>Qz.eq nf _ _ _) ?_
      simp [Ze (hmay),(hmay).prop,hm,Ze (Y3),(Y3).prop,k,Ze (s),(s).prop]
    · have s:Zd (fun nf _ _ _=>Vx nf (w) ((i:Int)) (c)) (fun r=>r.1=doR w i c):=by
        rw [Ww hm (by omega) (by omega)]
        have k1:=ALq ok hi (X4 c) (H6 c)
        have k2:Zd (fun nf _ _ _=>Q6 nf (w) ((i:Int)) (c)) (fun r=>r.1=takeR w i (X4 c) (H6 c)):=by
          refine Zd.succ (fun nf _ _ _=>Q6.eq nf _ _ _) ?_
          simp [Ze (k1),(k1).prop]
        refine Zd.succ (fun nf _ _ _=>Vx.eq nf _ _ _) ?_
        simp [Ze (k2),(k2).prop,Ze (Qf 6 0 (takeR w i (X4 c) (H6 c)).2.1),(Qf 6 0 (takeR w i (X4 c) (H6 c)).2.1).prop,X9,k]
      refine Zd.succ (fun nf _ _ _=>Qz.eq nf _ _ _) ?_
      simp [Ze (hmay),(hmay).prop,hm,Ze (Y3),(Y3).prop,k,Ze (s),(s).prop]
    · have s:Zd (fun nf _ _ _=>Vw nf (w) ((i:Int)) (c)) (fun r=>r.1=doR w i c):=by
        rw [Ww hm (by omega) (by omega)]
        have k1:=AKo ok hi (X4 c) (Y6 c)
        have k2:Zd (fun nf _ _ _=>Q7 nf (w) ((i:Int)) (c)) (fun r=>r.1=H9 w i (X4 c) (Y6 c)):=by
          refine Zd.succ (fun nf _ _ _=>Q7.eq nf _ _ _) ?_
          simp [Ze (k1),(k1).prop]
        refine Zd.succ (fun nf _ _ _=>Vw.eq nf _ _ _) ?_
        simp [Ze (k2),(k2).prop,Ze (Qf 7 0 (H9 w i (X4 c) (Y6 c)).2.1),(Qf 7 0 (H9 w i (X4 c) (Y6 c)).2.1).prop,X9,k]
      refine Zd.succ (fun nf _ _ _=>Qz.eq nf _ _ _) ?_
      simp [Ze (hmay),(hmay).prop,hm,Ze (Y3),(Y3).prop,k,Ze (s),(s).prop]
    · have s:Zd (fun nf _ _ _=>Q9 nf (w) ((i:Int)) (c)) (fun r=>r.1=doR w i c):=by
        rw [Ww hm (by omega) (by omega)]
        have k1:=AIu ok hi c tr.g tr.w tr.pay tr.fee
        refine Zd.succ (fun nf _ _ _=>Q9.eq nf _ _ _) ?_
        simp [Ze (k1),(k1).prop,Ze (Qf 8 0 (Jj w i (Y6 c) (Xb c) (K9 c) (Xg c) (K8 c)).2.1),(Qf 8 0 (Jj w i (Y6 c) (Xb c) (K9 c) (Xg c) (K8 c)).2.1).prop,X9,k]
      refine Zd.succ (fun nf _ _ _=>Qz.eq nf _ _ _) ?_
      simp [Ze (hmay),(hmay).prop,hm,Ze (Y3),(Y3).prop,k,Ze (s),(s).prop]
    · have s:Zd (fun nf _ _ _=>Ve nf (w) ((i:Int)) (c)) (fun r=>r.1=doR w i c):=by
        refine Zd.succ (fun nf _ _ _=>Ve.eq nf _ _ _) ?_
        simp [Ze (ACe w ok hi),(ACe w ok hi).prop,doR,hm,k]
      refine Zd.succ (fun nf _ _ _=>Qz.eq nf _ _ _) ?_
      simp [Ze (hmay),(hmay).prop,hm,Ze (Y3),(Y3).prop,k,Ze (s),(s).prop]
    · have s:Zd (fun nf _ _ _=>Qn nf (w) ((i:Int)) (c)) (fun r=>r.1=doR w i c):=by
        refine Zd.succ (fun nf _ _ _=>Qn.eq nf _ _ _) ?_
        simp [Ze (AGp w ok hi),(AGp w ok hi).prop,doR,hm,k]
      refine Zd.succ (fun nf _ _ _=>Qz.eq nf _ _ _) ?_
      simp [Ze (hmay),(hmay).prop,hm,Ze (Y3),(Y3).prop,k,Ze (s),(s).prop]
  · unfold doR
    rw [if_neg hm]
    refine Zd.succ (fun nf _ _ _=>Qz.eq nf _ _ _) ?_
    simp [Ze (hmay),(hmay).prop,hm,Ae]
end Go.Proofs.YtmemggdjnfccfaaGreatDoor.Ghost
