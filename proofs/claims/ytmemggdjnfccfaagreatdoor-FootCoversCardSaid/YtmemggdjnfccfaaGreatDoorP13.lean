/- What functions come to, and that the statements are answered with 'true'. Conditions: none. -/
import Derived.Test.YtmemggdjnfccfaaGreatDoorS
import Derived.Test.YtmemggdjnfccfaaGreatDoorGE
import Derived.Test.YtmemggdjnfccfaaGreatDoorP1
import Derived.Test.YtmemggdjnfccfaaGreatDoorP2
import Derived.Test.YtmemggdjnfccfaaGreatDoorP3
import Derived.Test.YtmemggdjnfccfaaGreatDoorP4
import Derived.Test.YtmemggdjnfccfaaGreatDoorP5
import Derived.Test.YtmemggdjnfccfaaGreatDoorP6
import Derived.Test.YtmemggdjnfccfaaGreatDoorP7
import Derived.Test.YtmemggdjnfccfaaGreatDoorP8
import Derived.Test.YtmemggdjnfccfaaGreatDoorP9
import Derived.Test.YtmemggdjnfccfaaGreatDoorP10
import Derived.Test.YtmemggdjnfccfaaGreatDoorP11
import Derived.Test.YtmemggdjnfccfaaGreatDoorP12
set_option linter.unusedVariables false
set_option linter.unusedSimpArgs false
set_option linter.unusedSectionVars false
set_option linter.unnecessarySimpa false
namespace Go.Proofs.YtmemggdjnfccfaaGreatDoor.Ghost
open Go
def AO0 (k r e:Int):den Xm:=if e=0 then AN6 k r else Bx e
theorem Y7 (k r e:Int):Ze (fun nf _ _ _=>Yp nf (k) (r) (e)) (fun x=>x=((AO0 k r e,()),[])):=by
  refine Ze.succ (fun nf _ _ _=>Yp.eq nf _ _ _) ?_
  by_cases h:e=0 <;> simp [h,AO0,AN6,Bx]
theorem Yw:Ze (fun nf _ _ _=>Tx nf) (fun _=>True):=by
  have h:(Tx 1).isSome=true:=by kernel_rfl
  obtain ⟨r,hr⟩:=Option.isSome_iff_exists.1 h
  exact Ze.one 1 hr trivial
theorem AB5 {w:den Zb} {k:Int} {p q:Pl} (h:¬ (O4 w k p q).2.1=0):(O4 w k p q).1=w:=by
  unfold O4 at h ⊢
  by_cases e:Vr w k p q=0
  · rw [if_pos e] at h; exact absurd rfl h
  · rw [if_neg e]
theorem AIq {w:den Zb} {i d:Nat} (h:¬ (goR w i d).2.2.1=0):(goR w i d).1=w:=by
  unfold goR at h ⊢
  by_cases e:0≤Ke w i d
  · rw [if_pos e] at h; exact absurd rfl h
  · rw [if_neg e]
theorem AKy {w:den Zb} {i:Nat} {c:Cm} (h:¬ (Qj w i c).2.2.1=0):(Qj w i c).1=w:=by
  unfold Qj at h ⊢
  by_cases k1:Z4 c=1
  · rw [if_pos k1] at h ⊢; exact AIq h
  rw [if_neg k1] at h ⊢
  by_cases k2:Z4 c=2
  · rw [if_pos k2] at h ⊢
    unfold D0 at h ⊢
    by_cases e:Gm w i (Jz c)=0
    · rw [if_pos e] at h ⊢; exact AIq h
    · rw [if_neg e]
  rw [if_neg k2] at h ⊢
  by_cases k3:Z4 c=3
  · rw [if_pos k3] at h ⊢; exact AB5 h
  rw [if_neg k3] at h ⊢
  by_cases k4:Z4 c=4
  · rw [if_pos k4] at h ⊢; exact AB5 h
  rw [if_neg k4] at h ⊢
  by_cases k5:Z4 c=5
  · rw [if_pos k5] at h ⊢
    by_cases e:putErr w i (X5 c) (Hx c)=0
    · unfold putR at h; rw [if_pos e] at h; exact absurd rfl h
    · rw [Au e]
  rw [if_neg k5] at h ⊢
  by_cases k6:Z4 c=6
  · rw [if_pos k6] at h ⊢
    by_cases e:takeErr w i (X5 c) (Hx c)=0
    · unfold takeR at h; rw [if_pos e] at h; exact absurd rfl h
    · rw [D8 e]
  rw [if_neg k6] at h ⊢
  by_cases k7:Z4 c=7
  · rw [if_pos k7] at h ⊢
    unfold Wn at h ⊢
    by_cases e:giveErr w i (X5 c) (Jz c)=0
    · rw [if_pos e] at h; exact absurd rfl h
    · rw [if_neg e]
  rw [if_neg k7] at h ⊢
  by_cases k8:Z4 c=8
  · rw [if_pos k8] at h ⊢
    unfold V6 at h ⊢
    by_cases e:tradeErr w i (Jz c) (Xj c) (G6 c) (Xl c) (G5 c)=0
    · rw [if_pos e] at h; exact absurd rfl h
    · rw [if_neg e]
  rw [if_neg k8]
theorem Wl {w:den Zb} {i:Nat} {c:Cm} (hm:Pm c) (h9:¬ Z4 c=9) (h10:¬ Z4 c=10):doR w i c=((Qj w i c).1,AO0 (Z4 c) (Qj w i c).2.1 (Qj w i c).2.2.1,()):=by
  unfold doR AO0
  rw [if_pos hm,if_neg h9,if_neg h10]
  by_cases e:(Qj w i c).2.2.1=0
  · rw [if_pos e,if_pos e]
  · rw [if_neg e,if_neg e,AKy e]
theorem Dz {w:den Zb} (ok:Ok w) {i:Nat} (hi:i<List.length (w.2.1:List Int)) {c:Cm} (hf:AK7 c):Ze (fun nf _ _ _=>J1 nf (w) ((i:Int)) (c)) (fun r=>r.1=doR w i c):=by
  have hmay:=AJn c (by have:=hf.1; omega) (by have:=hf.2; omega)
  by_cases hm:Pm c
  · have tr:=trC hf hm
    obtain ⟨d,hd,ed⟩:=hm.dir
    have hst:=ok.right.stands hi hd
    have ed':d=(H5 c).toNat:=by omega
    rcases hm.kinds with k | k | k | k | k | k | k | k | k | k
    · have s:Ze (fun nf _ _ _=>Vs nf (w) ((i:Int)) (c)) (fun r=>r.1=doR w i c):=by
        rw [Wl hm (by omega) (by omega)]
        have k1:=AKm w ok.sm hst
        rw [← ed,ed'] at k1
        have k2:Ze (fun nf _ _ _=>Qr nf (w) ((i:Int)) (c)) (fun r=>r.1=Qj w i c):=by
          refine Ze.succ (fun nf _ _ _=>Qr.eq nf _ _ _) ?_
          simp [Zd (k1),(k1).prop,Qj,k]
        refine Ze.succ (fun nf _ _ _=>Vs.eq nf _ _ _) ?_
        simp [Zd (k2),(k2).prop,Zd (Y7 (Z4 c) (Qj w i c).2.1 (Qj w i c).2.2.1),(Y7 (Z4 c) (Qj w i c).2.1 (Qj w i c).2.2.1).prop]
      refine Ze.succ (fun nf _ _ _=>J1.eq nf _ _ _) ?_
      simp [Zd (hmay),(hmay).prop,hm,Zd (Yw),(Yw).prop,k,Zd (s),(s).prop]
    · have s:Ze (fun nf _ _ _=>Qy nf (w) ((i:Int)) (c)) (fun r=>r.1=doR w i c):=by
        rw [Wl hm (by omega) (by omega)]
        have k1:=AKs w ok.sm hi (Jz c) (d:=d) (fun hz=>(AHt ok hd hz).1)
        rw [← ed,ed'] at k1
        have k2:Ze (fun nf _ _ _=>Qs nf (w) ((i:Int)) (c)) (fun r=>r.1=Qj w i c):=by
          refine Ze.succ (fun nf _ _ _=>Qs.eq nf _ _ _) ?_
          simp [Zd (k1),(k1).prop,Qj,k]
        refine Ze.succ (fun nf _ _ _=>Qy.eq nf _ _ _) ?_
        simp [Zd (k2),(k2).prop,Zd (Y7 (Z4 c) (Qj w i c).2.1 (Qj w i c).2.2.1),(Y7 (Z4 c) (Qj w i c).2.1 (Qj w i c).2.2.1).prop]
      refine Ze.succ (fun nf _ _ _=>J1.eq nf _ _ _) ?_
      simp [Zd (hmay),(hmay).prop,hm,Zd (Yw),(Yw).prop,k,Zd (s),(s).prop]
    · have s:Ze (fun nf _ _ _=>Vx nf (w) ((i:Int)) (c)) (fun r=>r.1=doR w i c):=by
        rw [Wl hm (by omega) (by omega)]
        have k1:=AM7 w ok hi (X5 c)
        have k2:Ze (fun nf _ _ _=>Qt nf (w) ((i:Int)) (c)) (fun r=>r.1=AG6 w i (X5 c)):=by
          refine Ze.succ (fun nf _ _ _=>Qt.eq nf _ _ _) ?_
          simp [Zd (k1),(k1).prop]
        refine Ze.succ (fun nf _ _ _=>Vx.eq nf _ _ _) ?_
        simp [Zd (k2),(k2).prop,Zd (Y7 3 0 (AG6 w i (X5 c)).2.1),(Y7 3 0 (AG6 w i (X5 c)).2.1).prop,Qj,k]
      refine Ze.succ (fun nf _ _ _=>J1.eq nf _ _ _) ?_
      simp [Zd (hmay),(hmay).prop,hm,Zd (Yw),(Yw).prop,k,Zd (s),(s).prop]
    · have s:Ze (fun nf _ _ _=>Vw nf (w) ((i:Int)) (c)) (fun r=>r.1=doR w i c):=by
        rw [Wl hm (by omega) (by omega)]
        have k1:=AJu w ok hi (X5 c)
        have k2:Ze (fun nf _ _ _=>Qu nf (w) ((i:Int)) (c)) (fun r=>r.1=Bq w i (X5 c)):=by
          refine Ze.succ (fun nf _ _ _=>Qu.eq nf _ _ _) ?_
          simp [Zd (k1),(k1).prop]
        refine Ze.succ (fun nf _ _ _=>Vw.eq nf _ _ _) ?_
        simp [Zd (k2),(k2).prop,Zd (Y7 4 0 (Bq w i (X5 c)).2.1),(Y7 4 0 (Bq w i (X5 c)).2.1).prop,Qj,k]
      refine Ze.succ (fun nf _ _ _=>J1.eq nf _ _ _) ?_
      simp [Zd (hmay),(hmay).prop,hm,Zd (Yw),(Yw).prop,k,Zd (s),(s).prop]
    · have s:Ze (fun nf _ _ _=>Vv nf (w) ((i:Int)) (c)) (fun r=>r.1=doR w i c):=by
        rw [Wl hm (by omega) (by omega)]
        have k1:=AN9 ok hi (X5 c) (Hx c)
        have k2:Ze (fun nf _ _ _=>Qv nf (w) ((i:Int)) (c)) (fun r=>r.1=putR w i (X5 c) (Hx c)):=by
          refine Ze.succ (fun nf _ _ _=>Qv.eq nf _ _ _) ?_
          simp [Zd (k1),(k1).prop]
        refine Ze.succ (fun nf _ _ _=>Vv.eq nf _ _ _) ?_
        simp [Zd (k2),(k2).prop,Zd (Y7 5 0 (putR w i (X5 c) (Hx c)).2.1),(Y7 5 0 (putR w i (X5 c) (Hx c)).2.1).prop,Qj,k]
      refine Ze.succ (fun nf _ _ _=>J1.eq nf _ _ _) ?_
      simp [Zd (hmay),(hmay).prop,hm,Zd (Yw),(Yw).prop,k,Zd (s),(s).prop]
    · have s:Ze (fun nf _ _ _=>Vu nf (w) ((i:Int)) (c)) (fun r=>r.1=doR w i c):=by
        rw [Wl hm (by omega) (by omega)]
        have k1:=AK1 ok hi (X5 c) (Hx c)
        have k2:Ze (fun nf _ _ _=>Qw nf (w) ((i:Int)) (c)) (fun r=>r.1=takeR w i (X5 c) (Hx c)):=by
          refine Ze.succ (fun nf _ _ _=>Qw.eq nf _ _ _) ?_
          simp [Zd (k1),(k1).prop]
        refine Ze.succ (fun nf _ _ _=>Vu.eq nf _ _ _) ?_
        simp [Zd (k2),(k2).prop,Zd (Y7 6 0 (takeR w i (X5 c) (Hx c)).2.1),(Y7 6 0 (takeR w i (X5 c) (Hx c)).2.1).prop,Qj,k]
      refine Ze.succ (fun nf _ _ _=>J1.eq nf _ _ _) ?_
      simp [Zd (hmay),(hmay).prop,hm,Zd (Yw),(Yw).prop,k,Zd (s),(s).prop]
    · have s:Ze (fun nf _ _ _=>Vt nf (w) ((i:Int)) (c)) (fun r=>r.1=doR w i c):=by
        rw [Wl hm (by omega) (by omega)]
        have k1:=AJ0 ok hi (X5 c) (Jz c)
        have k2:Ze (fun nf _ _ _=>Qx nf (w) ((i:Int)) (c)) (fun r=>r.1=Wn w i (X5 c) (Jz c)):=by
          refine Ze.succ (fun nf _ _ _=>Qx.eq nf _ _ _) ?_
          simp [Zd (k1),(k1).prop]
        refine Ze.succ (fun nf _ _ _=>Vt.eq nf _ _ _) ?_
        simp [Zd (k2),(k2).prop,Zd (Y7 7 0 (Wn w i (X5 c) (Jz c)).2.1),(Y7 7 0 (Wn w i (X5 c) (Jz c)).2.1).prop,Qj,k]
      refine Ze.succ (fun nf _ _ _=>J1.eq nf _ _ _) ?_
      simp [Zd (hmay),(hmay).prop,hm,Zd (Yw),(Yw).prop,k,Zd (s),(s).prop]
    · have s:Ze (fun nf _ _ _=>Qz nf (w) ((i:Int)) (c)) (fun r=>r.1=doR w i c):=by
        rw [Wl hm (by omega) (by omega)]
        have k1:=AH7 ok hi c tr.g tr.w tr.pay tr.fee
        refine Ze.succ (fun nf _ _ _=>Qz.eq nf _ _ _) ?_
        simp [Zd (k1),(k1).prop,Zd (Y7 8 0 (V6 w i (Jz c) (Xj c) (G6 c) (Xl c) (G5 c)).2.1),(Y7 8 0 (V6 w i (Jz c) (Xj c) (G6 c) (Xl c) (G5 c)).2.1).prop,Qj,k]
      refine Ze.succ (fun nf _ _ _=>J1.eq nf _ _ _) ?_
      simp [Zd (hmay),(hmay).prop,hm,Zd (Yw),(Yw).prop,k,Zd (s),(s).prop]
    · have s:Ze (fun nf _ _ _=>J9 nf (w) ((i:Int)) (c)) (fun r=>r.1=doR w i c):=by
        refine Ze.succ (fun nf _ _ _=>J9.eq nf _ _ _) ?_
        simp [Zd (ABx w ok hi),(ABx w ok hi).prop,doR,hm,k]
      refine Ze.succ (fun nf _ _ _=>J1.eq nf _ _ _) ?_
      simp [Zd (hmay),(hmay).prop,hm,Zd (Yw),(Yw).prop,k,Zd (s),(s).prop]
    · have s:Ze (fun nf _ _ _=>Qe nf (w) ((i:Int)) (c)) (fun r=>r.1=doR w i c):=by
        refine Ze.succ (fun nf _ _ _=>Qe.eq nf _ _ _) ?_
        simp [Zd (AF6 w ok hi),(AF6 w ok hi).prop,doR,hm,k]
      refine Ze.succ (fun nf _ _ _=>J1.eq nf _ _ _) ?_
      simp [Zd (hmay),(hmay).prop,hm,Zd (Yw),(Yw).prop,k,Zd (s),(s).prop]
  · unfold doR
    rw [if_neg hm]
    refine Ze.succ (fun nf _ _ _=>J1.eq nf _ _ _) ?_
    simp [Zd (hmay),(hmay).prop,hm,Bx]
end Go.Proofs.YtmemggdjnfccfaaGreatDoor.Ghost
