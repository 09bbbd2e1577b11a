/- What functions come to, and that the statements are answered with 'true'. Conditions: none. -/
import Derived.Test.YtjobjooccgledaaGreatDoorS
import Derived.Test.YtjobjooccgledaaGreatDoorGE
import Derived.Test.YtjobjooccgledaaGreatDoorP1
import Derived.Test.YtjobjooccgledaaGreatDoorP2
import Derived.Test.YtjobjooccgledaaGreatDoorP3
import Derived.Test.YtjobjooccgledaaGreatDoorP4
import Derived.Test.YtjobjooccgledaaGreatDoorP5
import Derived.Test.YtjobjooccgledaaGreatDoorP6
import Derived.Test.YtjobjooccgledaaGreatDoorP7
import Derived.Test.YtjobjooccgledaaGreatDoorP8
import Derived.Test.YtjobjooccgledaaGreatDoorP9
import Derived.Test.YtjobjooccgledaaGreatDoorP10
set_option linter.unusedVariables false
set_option linter.unusedSimpArgs false
set_option linter.unusedSectionVars false
set_option linter.unnecessarySimpa false
namespace Go.Proofs.YtjobjooccgledaaGreatDoor.Ghost
open Go
def AOm (k r e:Int):den Xg:=if e=0 then ANx k r else Bb e
theorem Yx (k r e:Int):Zd (fun nf _ _ _=>Yh nf (k) (r) (e)) (fun x=>x=((AOm k r e,()),[])):=by
  refine Zd.succ (fun nf _ _ _=>Yh.eq nf _ _ _) ?_
  by_cases h:e=0 <;> simp [h,AOm,ANx,Bb]
theorem Yn:Zd (fun nf _ _ _=>Tl nf) (fun _=>True):=by
  have h:(Tl 1).isSome=true:=by kernel_rfl
  obtain ⟨r,hr⟩:=Option.isSome_iff_exists.1 h
  exact Zd.one 1 hr trivial
theorem ABl {w:den Za} {k:Int} {p q:Pl} (h:¬ (Li w k p q).2.1=0):(Li w k p q).1=w:=by
  unfold Li at h ⊢
  by_cases e:Kr w k p q=0
  · rw [if_pos e] at h; exact absurd rfl h
  · rw [if_neg e]
theorem AH9 {w:den Za} {i d:Nat} (h:¬ (goR w i d).2.2.1=0):(goR w i d).1=w:=by
  unfold goR at h ⊢
  by_cases e:0≤Uq w i d
  · rw [if_pos e] at h; exact absurd rfl h
  · rw [if_neg e]
theorem AKj {w:den Za} {i:Nat} {c:Cm} (h:¬ (Vs w i c).2.2.1=0):(Vs w i c).1=w:=by
  unfold Vs at h ⊢
  by_cases k1:Xo c=1
  · rw [if_pos k1] at h ⊢; exact AH9 h
  rw [if_neg k1] at h ⊢
  by_cases k2:Xo c=2
  · rw [if_pos k2] at h ⊢
    unfold ABp at h ⊢
    by_cases e:Gp w i (Gf c)=0
    · rw [if_pos e] at h ⊢; exact AH9 h
    · rw [if_neg e]
  rw [if_neg k2] at h ⊢
  by_cases k3:Xo c=3
  · rw [if_pos k3] at h ⊢; exact ABl h
  rw [if_neg k3] at h ⊢
  by_cases k4:Xo c=4
  · rw [if_pos k4] at h ⊢; exact ABl h
  rw [if_neg k4] at h ⊢
  by_cases k5:Xo c=5
  · rw [if_pos k5] at h ⊢
    by_cases e:putErr w i (Yt c) (G9 c)=0
    · unfold putR at h; rw [if_pos e] at h; exact absurd rfl h
    · rw [Aa e]
  rw [if_neg k5] at h ⊢
  by_cases k6:Xo c=6
  · rw [if_pos k6] at h ⊢
    by_cases e:takeErr w i (Yt c) (G9 c)=0
    · unfold takeR at h; rw [if_pos e] at h; exact absurd rfl h
    · rw [Du e]
  rw [if_neg k6] at h ⊢
  by_cases k7:Xo c=7
  · rw [if_pos k7] at h ⊢
    unfold Pj at h ⊢
    by_cases e:giveErr w i (Yt c) (Gf c)=0
    · rw [if_pos e] at h; exact absurd rfl h
    · rw [if_neg e]
  rw [if_neg k7] at h ⊢
  by_cases k8:Xo c=8
  · rw [if_pos k8] at h ⊢
    unfold K0 at h ⊢
    by_cases e:tradeErr w i (Gf c) (Xl c) (Us c) (Xr c) (Ur c)=0
    · rw [if_pos e] at h; exact absurd rfl h
    · rw [if_neg e]
  rw [if_neg k8]
theorem Wa {w:den Za} {i:Nat} {c:Cm} (hm:M3 c) (h9:¬ Xo c=9) (h10:¬ Xo c=10):doR w i c=((Vs w i c).1,AOm (Xo c) (Vs w i c).2.1 (Vs w i c).2.2.1,()):=by
  unfold doR AOm
  rw [if_pos hm,if_neg h9,if_neg h10]
  by_cases e:(Vs w i c).2.2.1=0
  · rw [if_pos e,if_pos e]
  · rw [if_neg e,if_neg e,AKj e]
theorem AFv {w:den Za} (ok:Ok w) {i:Nat} (hi:i<List.length (w.2.1:List Int)) {c:Cm} (hf:AKw c):Zd (fun nf _ _ _=>Js nf (w) ((i:Int)) (c)) (fun r=>r.1=doR w i c):=by
  have hmay:=AJa c (by have:=hf.1; omega) (by have:=hf.2; omega)
  by_cases hm:M3 c
  · have tr:=trC hf hm
    obtain ⟨d,hd,ed⟩:=hm.dir
    have hst:=ok.right.stands hi hd
    have ed':d=(Pf c).toNat:=by omega
    rcases hm.kinds with k | k | k | k | k | k | k | k | k | k
    · have s:Zd (fun nf _ _ _=>Vd nf (w) ((i:Int)) (c)) (fun r=>r.1=doR w i c):=by
        rw [Wa hm (by omega) (by omega)]
        have k1:=AJ9 w ok.sm hst
        rw [← ed,ed'] at k1
        have k2:Zd (fun nf _ _ _=>Qk nf (w) ((i:Int)) (c)) (fun r=>r.1=Vs w i c):=by
          refine Zd.succ (fun nf _ _ _=>Qk.eq nf _ _ _) ?_
          simp [Ze (k1),(k1).prop,Vs,k]
        refine Zd.succ (fun nf _ _ _=>Vd.eq nf _ _ _) ?_
        simp [Ze (k2),(k2).prop,Ze (Yx (Xo c) (Vs w i c).2.1 (Vs w i c).2.2.1),(Yx (Xo c) (Vs w i c).2.1 (Vs w i c).2.2.1).prop]
      refine Zd.succ (fun nf _ _ _=>Js.eq nf _ _ _) ?_
      simp [Ze (hmay),(hmay).prop,hm,Ze (Yn),(Yn).prop,k,Ze (s),(s).prop]
    · have s:Zd (fun nf _ _ _=>Qr nf (w) ((i:Int)) (c)) (fun r=>r.1=doR w i c):=by
        rw [Wa hm (by omega) (by omega)]
        have k1:=AKd w ok.sm hi (Gf c) (d:=d) (fun hz=>(AHc ok hd hz).1)
        rw [← ed,ed'] at k1
        have k2:Zd (fun nf _ _ _=>Ql nf (w) ((i:Int)) (c)) (fun r=>r.1=Vs w i c):=by
          refine Zd.succ (fun nf _ _ _=>Ql.eq nf _ _ _) ?_
          simp [Ze (k1),(k1).prop,Vs,k]
        refine Zd.succ (fun nf _ _ _=>Qr.eq nf _ _ _) ?_
        simp [Ze (k2),(k2).prop,Ze (Yx (Xo c) (Vs w i c).2.1 (Vs w i c).2.2.1),(Yx (Xo c) (Vs w i c).2.1 (Vs w i c).2.2.1).prop]
      refine Zd.succ (fun nf _ _ _=>Js.eq nf _ _ _) ?_
      simp [Ze (hmay),(hmay).prop,hm,Ze (Yn),(Yn).prop,k,Ze (s),(s).prop]
    · have s:Zd (fun nf _ _ _=>Vi nf (w) ((i:Int)) (c)) (fun r=>r.1=doR w i c):=by
        rw [Wa hm (by omega) (by omega)]
        have k1:=AM0 w ok hi (Yt c)
        have k2:Zd (fun nf _ _ _=>Qm nf (w) ((i:Int)) (c)) (fun r=>r.1=AJq w i (Yt c)):=by
          refine Zd.succ (fun nf _ _ _=>Qm.eq nf _ _ _) ?_
          simp [Ze (k1),(k1).prop]
        refine Zd.succ (fun nf _ _ _=>Vi.eq nf _ _ _) ?_
        simp [Ze (k2),(k2).prop,Ze (Yx 3 0 (AJq w i (Yt c)).2.1),(Yx 3 0 (AJq w i (Yt c)).2.1).prop,Vs,k]
      refine Zd.succ (fun nf _ _ _=>Js.eq nf _ _ _) ?_
      simp [Ze (hmay),(hmay).prop,hm,Ze (Yn),(Yn).prop,k,Ze (s),(s).prop]
    · have s:Zd (fun nf _ _ _=>Vh nf (w) ((i:Int)) (c)) (fun r=>r.1=doR w i c):=by
        rw [Wa hm (by omega) (by omega)]
        have k1:=AJi w ok hi (Yt c)
        have k2:Zd (fun nf _ _ _=>Qn nf (w) ((i:Int)) (c)) (fun r=>r.1=AAp w i (Yt c)):=by
          refine Zd.succ (fun nf _ _ _=>Qn.eq nf _ _ _) ?_
          simp [Ze (k1),(k1).prop]
        refine Zd.succ (fun nf _ _ _=>Vh.eq nf _ _ _) ?_
        simp [Ze (k2),(k2).prop,Ze (Yx 4 0 (AAp w i (Yt c)).2.1),(Yx 4 0 (AAp w i (Yt c)).2.1).prop,Vs,k]
      refine Zd.succ (fun nf _ _ _=>Js.eq nf _ _ _) ?_
      simp [Ze (hmay),(hmay).prop,hm,Ze (Yn),(Yn).prop,k,Ze (s),(s).prop]
    · have s:Zd (fun nf _ _ _=>Vg nf (w) ((i:Int)) (c)) (fun r=>r.1=doR w i c):=by
        rw [Wa hm (by omega) (by omega)]
        have k1:=AN0 ok hi (Yt c) (G9 c)
        have k2:Zd (fun nf _ _ _=>Qo nf (w) ((i:Int)) (c)) (fun r=>r.1=putR w i (Yt c) (G9 c)):=by
          refine Zd.succ (fun nf _ _ _=>Qo.eq nf _ _ _) ?_
          simp [Ze (k1),(k1).prop]
        refine Zd.succ (fun nf _ _ _=>Vg.eq nf _ _ _) ?_
        simp [Ze (k2),(k2).prop,Ze (Yx 5 0 (putR w i (Yt c) (G9 c)).2.1),(Yx 5 0 (putR w i (Yt c) (G9 c)).2.1).prop,Vs,k]
      refine Zd.succ (fun nf _ _ _=>Js.eq nf _ _ _) ?_
      simp [Ze (hmay),(hmay).prop,hm,Ze (Yn),(Yn).prop,k,Ze (s),(s).prop]
    · have s:Zd (fun nf _ _ _=>Vf nf (w) ((i:Int)) (c)) (fun r=>r.1=doR w i c):=by
        rw [Wa hm (by omega) (by omega)]
        have k1:=AKm ok hi (Yt c) (G9 c)
        have k2:Zd (fun nf _ _ _=>Qp nf (w) ((i:Int)) (c)) (fun r=>r.1=takeR w i (Yt c) (G9 c)):=by
          refine Zd.succ (fun nf _ _ _=>Qp.eq nf _ _ _) ?_
          simp [Ze (k1),(k1).prop]
        refine Zd.succ (fun nf _ _ _=>Vf.eq nf _ _ _) ?_
        simp [Ze (k2),(k2).prop,Ze (Yx 6 0 (takeR w i (Yt c) (G9 c)).2.1),(Yx 6 0 (takeR w i (Yt c) (G9 c)).2.1).prop,Vs,k]
      refine Zd.succ (fun nf _ _ _=>Js.eq nf _ _ _) ?_
      simp [Ze (hmay),(hmay).prop,hm,Ze (Yn),(Yn).prop,k,Ze (s),(s).prop]
    · have s:Zd (fun nf _ _ _=>Ve nf (w) ((i:Int)) (c)) (fun r=>r.1=doR w i c):=by
        rw [Wa hm (by omega) (by omega)]
        have k1:=AJr ok hi (Yt c) (Gf c)
        have k2:Zd (fun nf _ _ _=>Qq nf (w) ((i:Int)) (c)) (fun r=>r.1=Pj w i (Yt c) (Gf c)):=by
          refine Zd.succ (fun nf _ _ _=>Qq.eq nf _ _ _) ?_
          simp [Ze (k1),(k1).prop]
        refine Zd.succ (fun nf _ _ _=>Ve.eq nf _ _ _) ?_
        simp [Ze (k2),(k2).prop,Ze (Yx 7 0 (Pj w i (Yt c) (Gf c)).2.1),(Yx 7 0 (Pj w i (Yt c) (Gf c)).2.1).prop,Vs,k]
      refine Zd.succ (fun nf _ _ _=>Js.eq nf _ _ _) ?_
      simp [Ze (hmay),(hmay).prop,hm,Ze (Yn),(Yn).prop,k,Ze (s),(s).prop]
    · have s:Zd (fun nf _ _ _=>Qs nf (w) ((i:Int)) (c)) (fun r=>r.1=doR w i c):=by
        rw [Wa hm (by omega) (by omega)]
        have k1:=AHs ok hi c tr.g tr.w tr.pay tr.fee
        refine Zd.succ (fun nf _ _ _=>Qs.eq nf _ _ _) ?_
        simp [Ze (k1),(k1).prop,Ze (Yx 8 0 (K0 w i (Gf c) (Xl c) (Us c) (Xr c) (Ur c)).2.1),(Yx 8 0 (K0 w i (Gf c) (Xl c) (Us c) (Xr c) (Ur c)).2.1).prop,Vs,k]
      refine Zd.succ (fun nf _ _ _=>Js.eq nf _ _ _) ?_
      simp [Ze (hmay),(hmay).prop,hm,Ze (Yn),(Yn).prop,k,Ze (s),(s).prop]
    · have s:Zd (fun nf _ _ _=>Jy nf (w) ((i:Int)) (c)) (fun r=>r.1=doR w i c):=by
        refine Zd.succ (fun nf _ _ _=>Jy.eq nf _ _ _) ?_
        simp [Ze (ABc w ok hi),(ABc w ok hi).prop,doR,hm,k]
      refine Zd.succ (fun nf _ _ _=>Js.eq nf _ _ _) ?_
      simp [Ze (hmay),(hmay).prop,hm,Ze (Yn),(Yn).prop,k,Ze (s),(s).prop]
    · have s:Zd (fun nf _ _ _=>Y4 nf (w) ((i:Int)) (c)) (fun r=>r.1=doR w i c):=by
        refine Zd.succ (fun nf _ _ _=>Y4.eq nf _ _ _) ?_
        simp [Ze (AFq w ok hi),(AFq w ok hi).prop,doR,hm,k]
      refine Zd.succ (fun nf _ _ _=>Js.eq nf _ _ _) ?_
      simp [Ze (hmay),(hmay).prop,hm,Ze (Yn),(Yn).prop,k,Ze (s),(s).prop]
  · unfold doR
    rw [if_neg hm]
    refine Zd.succ (fun nf _ _ _=>Js.eq nf _ _ _) ?_
    simp [Ze (hmay),(hmay).prop,hm,Bb]
end Go.Proofs.YtjobjooccgledaaGreatDoor.Ghost
