/- What functions come to, and that the statements are answered with 'true'. Conditions: none. -/
import Derived.Test.YtpemapoblhleoaaGreatDoorS
import Derived.Test.YtpemapoblhleoaaGreatDoorGE
import Derived.Test.YtpemapoblhleoaaGreatDoorP1
import Derived.Test.YtpemapoblhleoaaGreatDoorP2
import Derived.Test.YtpemapoblhleoaaGreatDoorP3
import Derived.Test.YtpemapoblhleoaaGreatDoorP4
import Derived.Test.YtpemapoblhleoaaGreatDoorP5
import Derived.Test.YtpemapoblhleoaaGreatDoorP6
import Derived.Test.YtpemapoblhleoaaGreatDoorP7
set_option linter.unusedVariables false
set_option linter.unusedSimpArgs false
set_option linter.unusedSectionVars false
set_option linter.unnecessarySimpa false
namespace Go.Proofs.YtpemapoblhleoaaGreatDoor.Ghost
open Go
end Go.Proofs.YtpemapoblhleoaaGreatDoor.Ghost
namespace Go.Proofs.YtpemapoblhleoaaGreatDoor.Ghost
open Go
def inQ (w:den Za) (q:Int):Prop:=0≤q∧q<(List.length (w.2.1:List Int):Int)
theorem M2 {w:den Za} {q:Int} (h:inQ w q):∃ n:Nat,q=(n:Int)∧n<List.length (w.2.1:List Int):=⟨q.toNat,by have:=h.1; omega,by have:=h.1; have:=h.2; omega⟩
theorem Wz (w:den Za) (k:Int):Zd (fun nf _ _ _=>Hq nf (w) (k)) (fun r=>r=((dec (inR w k),()),[])):=by
  refine Zd.succ (fun nf _ _ _=>Hq.eq nf _ _) ?_
  by_cases h:0≤k <;> simp [h,inR,Hh]
theorem Vs (w:den Za) (k:Int):Zd (fun nf _ _ _=>Qy nf (w) (k)) (fun r=>r=((dec (inQ w k),()),[])):=by
  refine Zd.succ (fun nf _ _ _=>Qy.eq nf _ _) ?_
  by_cases h:0≤k <;> simp [h,inQ,Hh]
theorem He (k:Int):Zd (fun nf _ _ _=>Qi nf (k)) (fun r=>r=(((1,k,()),()),[])):=by
  refine Zd.succ (fun nf _ _ _=>Qi.eq nf _) ?_
  simp
open Classical in
noncomputable def giveErr (w:den Za) (p:Nat) (k q:Int):Int:=if inR w k∧inQ w q then
  (if q=(p:Int) then 12 else if G1 w q.toNat=G1 w p∧Qr w k.toNat=Xt p then (if Yb w (Xt q.toNat)<1 then 9 else 0) else 5) else 3
noncomputable def Ur (w:den Za) (p:Nat) (k q:Int):den Za×Int×Unit:=if giveErr w p k q=0 then (put w k.toNat (Xt q.toNat),0,()) else (w,giveErr w p k q,())
theorem AH4 {w:den Za} {p:Nat} {k q:Int} (h:¬ giveErr w p k q=3):inR w k∧inQ w q:=by
  by_cases hn:inR w k∧inQ w q
  · exact hn
  · exact absurd (by unfold giveErr; rw [if_neg hn]) h
theorem AKm {w:den Za} (ok:Ok w) {p:Nat} (hp:p<List.length (w.2.1:List Int)) (k q:Int):Zd (fun nf _ _ _=>V9 nf (w) ((p:Int)) (k) (q)) (fun r=>r.1=Ur w p k q):=by
  refine Zd.succ (fun nf _ _ _=>V9.eq nf _ _ _ _) ?_
  by_cases hk:inR w k
  · by_cases hq:inQ w q
    · obtain ⟨k,rfl,hkn⟩:=Ki hk
      obtain ⟨q,rfl,hqn⟩:=M2 hq
      simp [-List.getD_eq_getElem?_getD,-List.length_eq_zero_iff,Zn,Zj,Zv,Zk,Xb,Xc,Xr,Zf (Wz w (k:Int)),(Wz w (k:Int)).prop,Zf (Vs w (q:Int)),(Vs w (q:Int)).prop,hk,hq,hkn,hqn,hp,Zf (He _),(He _).prop,Zf (Q9 w ok (Xt q) (V0 q)),(Q9 w ok (Xt q) (V0 q)).prop,Zf (Ol w ok.sm hkn (Xt q)),(Ol w ok.sm hkn (Xt q)).prop,Ur,giveErr]
      by_cases c1:(q:Int)=(p:Int) <;> by_cases c2:G1 w q=G1 w p <;> by_cases c3:Qr w k=Xt p <;> by_cases c4:Yb w (Xt q)<1 <;> simp [-List.getD_eq_getElem?_getD,-List.length_eq_zero_iff,Zn,Zj,Zv,Zk,Xb,Xc,Xr,c1,c2,c3,c4]
    · simp [-List.getD_eq_getElem?_getD,-List.length_eq_zero_iff,Zn,Zj,Zv,Zk,Xb,Xc,Xr,Zf (Wz w k),(Wz w k).prop,Zf (Vs w q),(Vs w q).prop,hk,hq,Ur,giveErr]
  · simp [-List.getD_eq_getElem?_getD,-List.length_eq_zero_iff,Zn,Zj,Zv,Zk,Xb,Xc,Xr,Zf (Wz w k),(Wz w k).prop,hk,Ur,giveErr]
theorem Fl {w:den Za} (ok:Ok w) {p:Nat} (hp:p<List.length (w.2.1:List Int)) (k q:Int):Zd (fun nf _ _ _=>Yw nf (w) ((p:Int)) (k) (q)) (fun r=>r.1=Ur w p k q):=by
  refine Zd.succ (fun nf _ _ _=>Yw.eq nf _ _ _ _) ?_
  by_cases h1:k<0
  · have:¬ inR w k:=fun h=>by have:=h.1; omega
    simp [h1,Ur,giveErr,this]
  by_cases h2:(List.length (w.2.2.2.1:List (den Zb)):Int)≤k
  · have:¬ inR w k:=fun h=>by have:=h.2; omega
    simp [h1,h2,Ur,giveErr,this]
  by_cases h3:q<0
  · have:¬ inQ w q:=fun h=>by have:=h.1; omega
    simp [h1,h2,h3,Ur,giveErr,this]
  by_cases h4:(List.length (w.2.1:List Int):Int)≤q
  · have:¬ inQ w q:=fun h=>by have:=h.2; omega
    simp [h1,h2,h3,h4,Ur,giveErr,this]
  have hk:inR w k:=⟨by omega,by omega⟩
  have hq:inQ w q:=⟨by omega,by omega⟩
  obtain ⟨k,rfl,hkn⟩:=Ki hk
  obtain ⟨q,rfl,hqn⟩:=M2 hq
  have hr:=ok.right.room (Xt q)
  have s1:((p:Int)=(q:Int))=((q:Int)=(p:Int)):=propext eq_comm
  have s2:(List.getD (w.2.1:List Int) p (0:Int)=List.getD (w.2.1:List Int) q (0:Int))=(List.getD (w.2.1:List Int) q (0:Int)=List.getD (w.2.1:List Int) p (0:Int)):=propext eq_comm
  simp only [h1,h2,h3,h4,decide_false,cond_false]
  simp [-List.getD_eq_getElem?_getD,-List.length_eq_zero_iff,Zn,Zj,Zv,Zk,Xb,Xc,Xr,hkn,hqn,hp,hk,hq,Zf (Ha w ok (Xt q) (V0 q)),(Ha w ok (Xt q) (V0 q)).prop,Zf (Gl w ok.sm hkn (Xt q)),(Gl w ok.sm hkn (Xt q)).prop,Ur,giveErr,s1,s2]
  by_cases c1:(q:Int)=(p:Int) <;> by_cases c2:G1 w q=G1 w p <;> by_cases c3:Qr w k=Xt p <;> by_cases c4:Yb w (Xt q)=0 <;> simp [-List.getD_eq_getElem?_getD,-List.length_eq_zero_iff,Zn,Zj,Zv,Zk,Xb,Xc,Xr,c1,c2,c3,c4,show (Yb w (Xt q)<1)=(Yb w (Xt q)=0) from propext ⟨fun h=>by omega,fun h=>by omega⟩]
end Go.Proofs.YtpemapoblhleoaaGreatDoor.Ghost
namespace Go.Proofs.YtpemapoblhleoaaGreatDoor.Ghost
open Go
abbrev iAt (l:List Int) (j:Nat):Int:=List.getD l j 0
def Bad (w:den Za) (l:List Int):Prop:=∃ j,j<l.length∧¬ inR w (iAt l j)
def Pq (w:den Za) (l:List Int) (p:Int):Prop:=∃ j,j<l.length∧¬ Qr w (iAt l j).toNat=((1:Int),p,())
def Dup (l:List Int):Prop:=∃ i j,i<j∧j<l.length∧iAt l i=iAt l j
theorem AL3 (w:den Za) (l:List Int) (hl:l.length≤1048576) (t4:Int):∀ i,i≤l.length→Zd (fun nf fm0 _ _=>Zm.l0 nf fm0 (l) (w) t4 ((l.length:Int)) ((i:Int))) (fun r=>0≤r.1.1↔∃ j,i≤j∧j<l.length∧¬ inR w (iAt l j)):=by
  refine upto ?_ (fun i hi next => ?_)
  · refine Zd.succ1 (fun nf fm0 _ _=>Zm.l0_eq nf fm0 _ _ _ _ _) ?_
    simp [-List.getD_eq_getElem?_getD,-List.length_eq_zero_iff,Zn,Zj,Zv,Zk,Xb,Xc,Xr]
    exact fun j h1 h2=>by omega
  · have sp:∀ k,Zd (fun nf _ _ _=>Qw nf (k) (w)) (fun r=>r=((dec (¬ inR w k),()),[])):=fun k=>by
      refine Zd.succ (fun nf _ _ _=>Qw.eq nf _ _) ?_
      simp [-List.getD_eq_getElem?_getD,-List.length_eq_zero_iff,Zn,Zj,Zv,Zk,Xb,Xc,Xr,Zf (Wz w k),(Wz w k).prop]
    refine Zd.succ1 (fun nf fm0 _ _=>Zm.l0_eq nf fm0 _ _ _ _ _) ?_
    rw [← Xm (by omega)] at next
    by_cases h:inR w (iAt l i)
    · have next:=next.mono (Q':=fun r=>0≤r.1.1↔∃ j,i≤j∧j<l.length∧¬ inR w (iAt l j)) (fun v hv=>hv.trans ⟨fun ⟨j,a,b,c⟩=>⟨j,by omega,b,c⟩,fun ⟨j,a,b,c⟩=>⟨j,by
        by_cases e:j=i
        · subst e; exact absurd h c
        · omega,b,c⟩⟩)
      simp [-List.getD_eq_getElem?_getD,-List.length_eq_zero_iff,Zn,Zj,Zv,Zk,Xb,Xc,Xr,hi,Zf (sp _),(sp _).prop,h]
      exact next
    · simp [-List.getD_eq_getElem?_getD,-List.length_eq_zero_iff,Zn,Zj,Zv,Zk,Xb,Xc,Xr,hi,Zf (sp _),(sp _).prop,h]
      exact ⟨i,Nat.le_refl i,hi,h⟩
theorem Ee (w:den Za) (l:List Int) (hl:l.length≤1048576):Zd (fun nf _ _ _=>Xk nf (l) (w)) (fun r=>r.1.1=true↔Bad w l):=by
  have h:Zd (fun nf _ _ _=>Zm nf (l) (w)) (fun r=>0≤r.1.1↔Bad w l):=by
    refine Zd.succ (fun nf _ _ _=>Zm.eq nf _ _) ?_
    exact (AL3 w l hl _ 0 (Nat.zero_le _)).enter.mono (fun v hv=>hv.trans ⟨fun ⟨j,_,b,c⟩=>⟨j,b,c⟩,fun ⟨j,b,c⟩=>⟨j,Nat.zero_le _,b,c⟩⟩)
  refine Zd.succ (fun nf _ _ _=>Xk.eq nf _ _) ?_
  simp [Zf (h),(h).prop]
theorem AKc (w:den Za) (l:List Int) (hl:l.length≤1048576) (hb:¬ Bad w l) (p:Int) (t4:Int):∀ i,i≤l.length→Zd (fun nf fm0 _ _=>Zz.l0 nf fm0 (l) (w) (p) t4 ((l.length:Int)) ((i:Int))) (fun r=>0≤r.1.1↔∃ j,i≤j∧j<l.length∧¬ Qr w (iAt l j).toNat=((1:Int),p,())):=by
  refine upto ?_ (fun i hi next => ?_)
  · refine Zd.succ1 (fun nf fm0 _ _=>Zz.l0_eq nf fm0 _ _ _ _ _ _) ?_
    simp [-List.getD_eq_getElem?_getD,-List.length_eq_zero_iff,Zn,Zj,Zv,Zk,Xb,Xc,Xr]
    exact fun j h1 h2=>by omega
  · have hin:inR w (iAt l i):=Classical.byContradiction (fun h=>hb ⟨i,hi,h⟩)
    obtain ⟨k,ek,hk⟩:=Ki hin
    have sp:Zd (fun nf _ _ _=>Qd nf ((k:Int)) (w) (p)) (fun r=>r=((dec (¬ Qr w k=((1:Int),p,())),()),[])):=by
      refine Zd.succ (fun nf _ _ _=>Qd.eq nf _ _ _) ?_
      simp [-List.getD_eq_getElem?_getD,-List.length_eq_zero_iff,Zn,Zj,Zv,Zk,Xb,Xc,Xr,hk,Zf (He p),(He p).prop]
    refine Zd.succ1 (fun nf fm0 _ _=>Zz.l0_eq nf fm0 _ _ _ _ _ _) ?_
    rw [← Xm (by omega)] at next
    by_cases h:Qr w (iAt l i).toNat=((1:Int),p,())
    · have next:=next.mono (Q':=fun r=>0≤r.1.1↔∃ j,i≤j∧j<l.length∧¬ Qr w (iAt l j).toNat=((1:Int),p,())) (fun v hv=>hv.trans ⟨fun ⟨j,a,b,c⟩=>⟨j,by omega,b,c⟩,fun ⟨j,a,b,c⟩=>⟨j,by
        by_cases e:j=i
        · subst e; exact absurd h c
        · omega,b,c⟩⟩)
      rw [ek,Int.toNat_natCast] at h
      simp [-List.getD_eq_getElem?_getD,-List.length_eq_zero_iff,Zn,Zj,Zv,Zk,Xb,Xc,Xr,hi,ek,Zf (sp),(sp).prop,h]
      exact next
    · have h':=h
      rw [ek,Int.toNat_natCast] at h'
      simp [-List.getD_eq_getElem?_getD,-List.length_eq_zero_iff,Zn,Zj,Zv,Zk,Xb,Xc,Xr,hi,ek,Zf (sp),(sp).prop,h']
      exact ⟨i,Nat.le_refl i,hi,h⟩
theorem La (w:den Za) (l:List Int) (hl:l.length≤1048576) (hb:¬ Bad w l) (p:Int):Zd (fun nf _ _ _=>Qm nf (l) (p) (w)) (fun r=>r.1.1=true↔Pq w l p):=by
  have h:Zd (fun nf _ _ _=>Zz nf (l) (w) (p)) (fun r=>0≤r.1.1↔Pq w l p):=by
    refine Zd.succ (fun nf _ _ _=>Zz.eq nf _ _ _) ?_
    exact (AKc w l hl hb p _ 0 (Nat.zero_le _)).enter.mono (fun v hv=>hv.trans ⟨fun ⟨j,_,b,c⟩=>⟨j,b,c⟩,fun ⟨j,b,c⟩=>⟨j,Nat.zero_le _,b,c⟩⟩)
  have h2:Zd (fun nf _ _ _=>X6 nf (l) (w) (p)) (fun r=>r.1.1=true↔Pq w l p):=by
    refine Zd.succ (fun nf _ _ _=>X6.eq nf _ _ _) ?_
    simp [Zf (h),(h).prop]
  refine Zd.succ (fun nf _ _ _=>Qm.eq nf _ _ _) ?_
  simp [Zf (h2),(h2).bprop]
theorem Nn (k k':Int) (v:Bool):(m:List (Int×Bool))→Qg (.int .i64) .bool k' (Uf (.int .i64) .bool k v m)=if k'=k then some v else Qg (.int .i64) .bool k' m
  | []=>by
    simp only [Uf,Qg,eqT]
    by_cases h:k'=k <;> simp [h]
  | (a,b) :: r=>by
    have ih:=Nn k k' v r
    simp only [Uf,Qg,eqT]
    by_cases h1:k=a
    · subst h1
      simp only [beq_self_eq_true,if_true,Qg,eqT]
      by_cases h:k'=k <;> simp [h]
    · have h1':(k == a)=false:=by simpa using h1
      simp only [h1',Bool.false_eq_true,if_false,Qg,eqT,ih]
      by_cases h2:k'=a
      · subst h2
        have:¬ k'=k:=fun e=>h1 e.symm
        simp [this]
      · have h2':(k' == a)=false:=by simpa using h2
        simp [h2']
theorem AL9 (l:List Int) (hl:l.length≤1048576) (t0:(List Int)) (t2:Bool):∀ i,i≤l.length→∀ m:List (Int×Bool),(∀ k,Qg (.int .i64) .bool k m=some true∨Qg (.int .i64) .bool k m=none)→(∀ k,Qg (.int .i64) .bool k m=some true↔∃ i',i'<i∧iAt l i'=k) →
    Zd (fun nf fm0 _ _=>Xv.l0 nf fm0 t0 t2 (l) ((l.length:Int)) ((i:Int)) (m)) (fun r=>r.1.1=true↔∃ i' j,i'<j∧i≤j∧j<l.length∧iAt l i'=iAt l j):=by
  refine upto (fun m hm0 hm => ?_) (fun i hi next m hm0 hm => ?_)
  · refine Zd.succ1 (fun nf fm0 _ _=>Xv.l0_eq nf fm0 _ _ _ _ _ _) ?_
    simp [-List.getD_eq_getElem?_getD,-List.length_eq_zero_iff,Zn,Zj,Zv,Zk,Xb,Xc,Xr]
    exact fun _ j _ h1 h2=>by omega
  · refine Zd.succ1 (fun nf fm0 _ _=>Xv.l0_eq nf fm0 _ _ _ _ _ _) ?_
    by_cases h:∃ i',i'<i∧iAt l i'=iAt l i
    · have hf:=(hm (iAt l i)).2 h
      simp [-List.getD_eq_getElem?_getD,-List.length_eq_zero_iff,Zn,Zj,Zv,Zk,Xb,Xc,Xr,hi,hf]
      obtain ⟨i',h1,h2⟩:=h
      exact ⟨i',i,h1,Nat.le_refl i,hi,h2⟩
    · have hf:Qg (.int .i64) .bool (iAt l i) m=none:=(hm0 _).resolve_left (fun e=>h ((hm _).1 e))
      have next:=next (Uf (.int .i64) .bool (iAt l i) true m) (fun k=>by
        rw [Nn]
        split
        · exact .inl rfl
        · exact hm0 k) (fun k=>by
        rw [Nn]
        by_cases e:k=iAt l i
        · rw [if_pos e]; exact ⟨fun _=>⟨i,by omega,e.symm⟩,fun _=>rfl⟩
        · rw [if_neg e,hm k]
          exact ⟨fun ⟨j,a,b⟩=>⟨j,by omega,b⟩,fun ⟨j,a,b⟩=>⟨j,by
            by_cases e2:j=i
            · subst e2; exact absurd b.symm e
            · omega,b⟩⟩)
      rw [← Xm (by omega)] at next
      have next:=next.mono (Q':=fun r=>r.1.1=true↔∃ i' j,i'<j∧i≤j∧j<l.length∧iAt l i'=iAt l j) (fun v hv=>hv.trans ⟨fun ⟨i',j,a,b,c,d⟩=>⟨i',j,a,by omega,c,d⟩,fun ⟨i',j,a,b,c,d⟩=>⟨i',j,a,by
        by_cases e:j=i
        · subst e; exact absurd ⟨i',a,d⟩ h
        · omega,c,d⟩⟩)
      simp [-List.getD_eq_getElem?_getD,-List.length_eq_zero_iff,Zn,Zj,Zv,Zk,Xb,Xc,Xr,hi,hf]
      exact next
theorem Bi (l:List Int) (hl:l.length≤1048576):Zd (fun nf _ _ _=>Xv nf (l)) (fun r=>r.1.1=true↔Dup l):=by
  refine Zd.succ (fun nf _ _ _=>Xv.eq nf _) ?_
  exact (AL9 l hl l false 0 (Nat.zero_le _) [] (fun k=>.inr rfl) (fun k=>⟨fun h=>(by cases h),fun ⟨i,h,_⟩=>by omega⟩)).enter.mono (fun v hv=>hv.trans ⟨fun ⟨i,j,a,_,c,d⟩=>⟨i,j,a,c,d⟩,fun ⟨i,j,a,c,d⟩=>⟨i,j,a,Nat.zero_le _,c,d⟩⟩)
end Go.Proofs.YtpemapoblhleoaaGreatDoor.Ghost
namespace Go.Proofs.YtpemapoblhleoaaGreatDoor.Ghost
open Go
def Kd (x:Int):Prop:=0≤x∧x≤1073741824
open Classical in
noncomputable def swapErr (a b pay fee:Int):Int:=if a<pay∨b<fee then 10 else if Kd (a - pay+fee)∧Kd (b - fee+pay) then 0 else 11
noncomputable def Cc (a b pay fee:Int):Int×Int×Int×Unit:=if swapErr a b pay fee=0 then (a - pay+fee,b - fee+pay,0,()) else (a,b,swapErr a b pay fee,())
theorem Ck (a:Int):Zd (fun nf _ _ _=>Gu nf (a)) (fun r=>r=((dec (Kd a),()),[])):=by
  refine Zd.succ (fun nf _ _ _=>Gu.eq nf _) ?_
  by_cases h:0≤a <;> simp [h,Kd,Hh]
theorem ABc {a b pay fee:Int} (ha:Kd a) (hb:Kd b) (hp:Kd pay) (hf:Kd fee):Zd (fun nf _ _ _=>K1 nf (a) (b) (pay) (fee)) (fun r=>r.1=Cc a b pay fee):=by
  obtain ⟨a1,a2⟩:=ha; obtain ⟨b1,b2⟩:=hb; obtain ⟨p1,p2⟩:=hp; obtain ⟨f1,f2⟩:=hf
  have e1:IntKind.wrap .i64 (a - pay)=a - pay:=Vy (by omega) (by omega)
  have e2:IntKind.wrap .i64 (b - fee)=b - fee:=Vy (by omega) (by omega)
  have e3:IntKind.wrap .i64 (a - pay+fee)=a - pay+fee:=Vy (by omega) (by omega)
  have e4:IntKind.wrap .i64 (b - fee+pay)=b - fee+pay:=Vy (by omega) (by omega)
  refine Zd.succ (fun nf _ _ _=>K1.eq nf _ _ _ _) ?_
  simp [-List.getD_eq_getElem?_getD,-List.length_eq_zero_iff,Zn,Zj,Zv,Zk,Xb,Xc,Xr,show ¬ pay<0 by omega,show ¬ fee<0 by omega,e1,e2,e3,e4,Zf (Ck _),(Ck _).prop,Cc,swapErr]
  by_cases c1:a<pay <;> by_cases c2:b<fee <;> by_cases c3:Kd (a - pay+fee) <;> by_cases c4:Kd (b - fee+pay) <;> simp [c1,c2,c3,c4]
theorem Ff {a b pay fee:Int} (ha:Kd a) (hb:Kd b) (hp:Kd pay) (hf:Kd fee):Zd (fun nf _ _ _=>Ys nf (a) (b) (pay) (fee)) (fun r=>r.1=Cc a b pay fee):=by
  obtain ⟨a1,a2⟩:=ha; obtain ⟨b1,b2⟩:=hb; obtain ⟨p1,p2⟩:=hp; obtain ⟨f1,f2⟩:=hf
  have e1:IntKind.wrap .i64 (a+fee)=a+fee:=Vy (by omega) (by omega)
  have e2:IntKind.wrap .i64 (b+pay)=b+pay:=Vy (by omega) (by omega)
  have e3:IntKind.wrap .i64 (a+fee - pay)=a - pay+fee:=by rw [Vy (by omega) (by omega)]; omega
  have e4:IntKind.wrap .i64 (b+pay - fee)=b - fee+pay:=by rw [Vy (by omega) (by omega)]; omega
  have is1:∀ x,Zd (fun nf _ _ _=>X4 nf (x)) (fun r=>r=((dec (Kd x),()),[])):=fun x=>by
    refine Zd.succ (fun nf _ _ _=>X4.eq nf _) ?_
    by_cases h:0≤x <;> simp [h,Kd,Hh]
  refine Zd.succ (fun nf _ _ _=>Ys.eq nf _ _ _ _) ?_
  simp [-List.getD_eq_getElem?_getD,-List.length_eq_zero_iff,Zn,Zj,Zv,Zk,Xb,Xc,Xr,show ¬ pay<0 by omega,show ¬ fee<0 by omega,e1,e2,e3,e4,Zf (is1 _),(is1 _).prop,Cc,swapErr]
  by_cases c1:a<pay <;> by_cases c2:b<fee <;> by_cases c3:Kd (a - pay+fee) <;> by_cases c4:Kd (b - fee+pay) <;> simp [c1,c2,c3,c4]
theorem AB8 (a b pay fee:Int):(Cc a b pay fee).2.2.1=swapErr a b pay fee:=by
  unfold Cc
  split
  · rename_i h; exact h.symm
  · rfl
def V2 (l:List Pl) (xs:List Int) (p:Pl):Nat→List Pl
  | 0=>l
  | i+1=>List.set (V2 l xs p i) (iAt xs i).toNat p
theorem Qt (l:List Pl) (xs:List Int) (p:Pl):(i:Nat)→(V2 l xs p i).length=l.length
  | 0=>rfl
  | i+1=>by simp only [V2,List.length_set,Qt l xs p i]
abbrev meI (q:Int):Pl:=((1:Int),q,())
def Jt (w:den Za) (p:Nat) (q:Int) (gs ws:List Int):List Pl:=V2 (V2 w.2.2.2.1 gs (meI q) gs.length) ws (Xt p) ws.length
def ADb (w:den Za) (p:Nat) (q:Int) (gs ws:List Int) (a b:Int):den Za:=(w.1,w.2.1,List.set (List.set (w.2.2.1:List Int) p a) q.toNat b,Jt w p q gs ws,())
open Classical in
noncomputable def tradeErr (w:den Za) (p:Nat) (q:Int) (gs:List Int) (pay:Int) (ws:List Int) (fee:Int):Int :=
  if ¬ inQ w q then 3 else if Bad w (gs ++ ws) then 3 else if q=(p:Int) then 12 else if ¬ G1 w q.toNat=G1 w p then 5 else if Dup (gs ++ ws) then 13 else if Pq w gs p then 5 else if Pq w ws q then 5
  else if Yb w (Xt p)<(ws.length:Int) - (gs.length:Int) then 9 else if Yb w (meI q)<(gs.length:Int) - (ws.length:Int) then 9 else swapErr (V5 w p) (V5 w q.toNat) pay fee
noncomputable def Q0 (w:den Za) (p:Nat) (q:Int) (gs:List Int) (pay:Int) (ws:List Int) (fee:Int):den Za×Int×Unit :=
  if tradeErr w p q gs pay ws fee=0 then (ADb w p q gs ws (V5 w p - pay+fee) (V5 w q.toNat - fee+pay),0,()) else (w,tradeErr w p q gs pay ws fee,())
theorem AMo {N:Nat} (p:Nat) (ws:List Int) (hws:ws.length≤1048576) (base:List Pl) (hb:base.length=N) (hin:∀ j,j<ws.length→0≤iAt ws j∧iAt ws j<(N:Int)) (t0:(den Za)) (t2:(den Zx)) (t7:Int) (t8:Int) (t9:(List Int)) (t11:Int) (t12:Int) (t13:Int) (t14:Int) (t135:(List Int)) (t136:Int) (t137:Int) (o0:(den Za)) (o1:(den Zx)) (o2:(den Za)) (o3:(List (List Int))) (o4:(den Za)) (o5:(List Int)) :
    ∀ i,i≤ws.length→Zd (fun nf fm0 _ _=>Xd.l1 nf fm0 t0 ((p:Int)) t2 t7 t8 t9 t11 t12 t13 t14 t135 t136 t137 (ws) ((ws.length:Int)) ((i:Int)) o0 o1 o2 o3 o4 o5 (V2 base ws (Xt p) i)) (fun r=>r=(((o4.1,o4.2.1,o5,V2 base ws (Xt p) ws.length,()),0,()),[(0,[2]),(0,[3])])):=by
  refine upto ?_ (fun i hi next => ?_)
  · refine Zd.succ1 (fun nf fm0 _ _=>Xd.l1_eq nf fm0 _ _ _ _ _ _ _ _ _ _ _ _ _ _ _ _ _ _ _ _ _ _ _) ?_
    simp [-List.getD_eq_getElem?_getD,-List.length_eq_zero_iff,Zn,Zj,Zv,Zk,Xb,Xc,Xr]
  · refine Zd.succ1 (fun nf fm0 _ _=>Xd.l1_eq nf fm0 _ _ _ _ _ _ _ _ _ _ _ _ _ _ _ _ _ _ _ _ _ _ _) ?_
    rw [← Xm (by omega)] at next
    have hl:=Qt base ws (Xt p) i
    have h:=hin i hi
    simp [-List.getD_eq_getElem?_getD,-List.length_eq_zero_iff,Zn,Zj,Zv,Zk,Xb,Xc,Xr,hi,Zf (He _),(He _).prop,hl,hb,h]
    exact next
theorem AOf {N:Nat} (p:Nat) (q:Int) (c:Cm) (hws:(Zu c).length≤1048576) (hgs:(Zr c).length≤1048576) (base:List Pl) (hb:base.length=N) (hin:∀ j,j<(Zu c).length→0≤iAt (Zu c) j∧iAt (Zu c) j<(N:Int)) (hin':∀ j,j<(Zr c).length→0≤iAt (Zr c) j∧iAt (Zr c) j<(N:Int)) (t0:(den Za)) (t2:(den Zx)) (t7:Int) (t9:(List Int)) (t11:Int) (t12:Int) (t13:Int) (t14:Int) (o0:(den Za)) (o2:(den Za)) (o3:(List (List Int))) (o4:(den Za)) (o5:(List Int)) :
    ∀ i,i≤(Zr c).length→Zd (fun nf fm0 _ _=>Xd.l0 nf fm0 t0 ((p:Int)) t2 t7 (q) t9 t11 t12 t13 t14 (Zr c) (((Zr c).length:Int)) ((i:Int)) o0 (c) o2 o3 o4 o5 (V2 base (Zr c) (meI q) i)) (fun r=>r=(((o4.1,o4.2.1,o5,V2 (V2 base (Zr c) (meI q) (Zr c).length) (Zu c) (Xt p) (Zu c).length,()),0,()),[(0,[2]),(0,[3])])):=by
  refine upto ?_ (fun i hi next => ?_)
  · refine Zd.succ1 (fun nf fm0 _ _=>Xd.l0_eq nf fm0 _ _ _ _ _ _ _ _ _ _ _ _ _ _ _ _ _ _ _ _) ?_
    simp [-List.getD_eq_getElem?_getD,-List.length_eq_zero_iff,Zn,Zj,Zv,Zk,Xb,Xc,Xr]
    exact (AMo p (Zu c) hws _ (by rw [Qt]; exact hb) hin _ _ _ _ _ _ _ _ _ _ _ _ _ _ _ _ _ _ 0 (Nat.zero_le _)).enter
  · refine Zd.succ1 (fun nf fm0 _ _=>Xd.l0_eq nf fm0 _ _ _ _ _ _ _ _ _ _ _ _ _ _ _ _ _ _ _ _) ?_
    rw [← Xm (by omega)] at next
    have hl:=Qt base (Zr c) (meI q) i
    have h:=hin' i hi
    simp [-List.getD_eq_getElem?_getD,-List.length_eq_zero_iff,Zn,Zj,Zv,Zk,Xb,Xc,Xr,hi,Zf (He _),(He _).prop,hl,hb,h]
    exact next
theorem Wk {w:den Za} {l:List Int} (h:¬ Bad w l):∀ j,j<l.length→inR w (iAt l j):=fun j hj=>Classical.byContradiction (fun hn=>h ⟨j,hj,hn⟩)
theorem Wx {a b:List Int} {j:Nat} (h:j<a.length):iAt (a ++ b) j=iAt a j:=by
  unfold iAt; rw [List.getD_eq_getElem?_getD,List.getD_eq_getElem?_getD,List.getElem?_append_left h]
theorem Ut {a b:List Int} (j:Nat):iAt (a ++ b) (a.length+j)=iAt b j:=by
  unfold iAt; rw [List.getD_eq_getElem?_getD,List.getD_eq_getElem?_getD,List.getElem?_append_right (by omega),Nat.add_sub_cancel_left]
theorem AI8 {w:den Za} {a b:List Int} (h:¬ Bad w (a ++ b)):¬ Bad w a∧¬ Bad w b :=
  ⟨fun ⟨j,h1,h2⟩=>h ⟨j,by rw [List.length_append]; omega,by rw [Wx h1]; exact h2⟩,fun ⟨j,h1,h2⟩=>h ⟨a.length+j,by rw [List.length_append]; omega,by rw [Ut]; exact h2⟩⟩
theorem Tc {w:den Za} (h:Ym w) {i:Nat} (hi:i<List.length (w.2.1:List Int)):Kd (V5 w i):=(h.at_ i hi).2
theorem Ul (a b:List Int) (ha:a.length≤524288) (hb:b.length≤524288):Zd (fun nf _ _ _=>Ke nf [a,b]) (fun r=>r=((a ++ b,()),[(0,[])])) :=
  Zd.succ (G:=fun _ _ _ _=>some ((a ++ b,()),[(0,[])])) (fun n _ _ _=>by
    show (if List.length a≤524288∧List.length b≤524288 then _ else none)=_
    rw [if_pos ⟨ha,hb⟩]) (Zd.ret rfl)
theorem AH2 {w:den Za} (ok:Ok w) {p:Nat} (hp:p<List.length (w.2.1:List Int)) (c:Cm) (hg:(Zr c).length≤100) (hw:(Zu c).length≤100) (hpay:Kd (Gs c)) (hfee:Kd (Gx c)) :
    Zd (fun nf _ _ _=>Xd nf (w) ((p:Int)) (c)) (fun r=>r=(Q0 w p (Kw c) (Zr c) (Gs c) (Zu c) (Gx c),if tradeErr w p (Kw c) (Zr c) (Gs c) (Zu c) (Gx c)=0 then [(0,[2]),(0,[3])] else [])):=by
  have hlen:(Zr c ++ Zu c).length≤1048576:=by rw [List.length_append]; omega
  refine Zd.succ (fun nf _ _ _=>Xd.eq nf _ _ _) ?_
  by_cases c1:inQ w (Kw c)
  · by_cases c2:Bad w (Zr c ++ Zu c)
    · simp [-List.getD_eq_getElem?_getD,-List.length_eq_zero_iff,Zn,Zj,Zv,Zk,Xb,Xc,Xr,Zf (Ul (Zr c) (Zu c) (by omega) (by omega)),(Ul (Zr c) (Zu c) (by omega) (by omega)).prop,Zf (Vs w _),(Vs w _).prop,Zf (Ee w (Zr c ++ Zu c) hlen),(Ee w (Zr c ++ Zu c) hlen).bprop,c1,c2,Q0,tradeErr]
    · obtain ⟨q,eq,hq⟩:=M2 c1
      have hin:=Wk c2
      obtain ⟨bg,bw⟩:=AI8 c2
      have hc1:=ok.right.c1
      have ha1:=ok.right.a1
      have hpc:p<List.length (w.2.2.1:List Int):=by omega
      have hqc:q<List.length (w.2.2.1:List Int):=by omega
      have e1:IntKind.wrap .i64 (((Zu c).length:Int) - ((Zr c).length:Int))=((Zu c).length:Int) - ((Zr c).length:Int):=Vy (by omega) (by omega)
      have e2:IntKind.wrap .i64 (-(((Zu c).length:Int) - ((Zr c).length:Int)))=((Zr c).length:Int) - ((Zu c).length:Int):=by rw [Vy (by omega) (by omega)]; omega
      simp only [eq]
      simp [-List.getD_eq_getElem?_getD,-List.length_eq_zero_iff,Zn,Zj,Zv,Zk,Xb,Xc,Xr,Zf (Ul (Zr c) (Zu c) (by omega) (by omega)),(Ul (Zr c) (Zu c) (by omega) (by omega)).prop,Zf (Vs w _),(Vs w _).prop,Zf (Ee w (Zr c ++ Zu c) hlen),(Ee w (Zr c ++ Zu c) hlen).bprop,c2,hq,hp,show inQ w (q:Int) from eq ▸ c1,Zf (Bi (Zr c ++ Zu c) hlen),(Bi (Zr c ++ Zu c) hlen).bprop,Zf (La w (Zr c) (by omega) bg (p:Int)),(La w (Zr c) (by omega) bg (p:Int)).bprop,Zf (La w (Zu c) (by omega) bw (q:Int)),(La w (Zu c) (by omega) bw (q:Int)).bprop,Zf (He _),(He _).prop,Zf (Q9 w ok (Xt p) (V0 p)),(Q9 w ok (Xt p) (V0 p)).prop,Zf (Q9 w ok (Xt q) (V0 q)),(Q9 w ok (Xt q) (V0 q)).prop,e1,e2,hpc,hqc,Zf (ABc (Tc ok.right hp) (Tc ok.right hq) hpay hfee),(ABc (Tc ok.right hp) (Tc ok.right hq) hpay hfee).prop,AB8]
      by_cases c3:(q:Int)=(p:Int)
      · simp [-List.getD_eq_getElem?_getD,-List.length_eq_zero_iff,Zn,Zj,Zv,Zk,Xb,Xc,Xr,c3,c2,Q0,tradeErr,show inQ w (p:Int) from c3 ▸ eq ▸ c1]
      by_cases c4:G1 w q=G1 w p
      rotate_left
      · simp [-List.getD_eq_getElem?_getD,-List.length_eq_zero_iff,Zn,Zj,Zv,Zk,Xb,Xc,Xr,c3,c4,c2,Q0,tradeErr,show inQ w (q:Int) from eq ▸ c1]
      by_cases c5:Dup (Zr c ++ Zu c)
      · simp [-List.getD_eq_getElem?_getD,-List.length_eq_zero_iff,Zn,Zj,Zv,Zk,Xb,Xc,Xr,c3,c4,c5,c2,Q0,tradeErr,show inQ w (q:Int) from eq ▸ c1]
      by_cases c6:Pq w (Zr c) (p:Int)
      · simp [-List.getD_eq_getElem?_getD,-List.length_eq_zero_iff,Zn,Zj,Zv,Zk,Xb,Xc,Xr,c3,c4,c5,c6,c2,Q0,tradeErr,show inQ w (q:Int) from eq ▸ c1]
      by_cases c7:Pq w (Zu c) (q:Int)
      · simp [-List.getD_eq_getElem?_getD,-List.length_eq_zero_iff,Zn,Zj,Zv,Zk,Xb,Xc,Xr,c3,c4,c5,c6,c7,c2,Q0,tradeErr,show inQ w (q:Int) from eq ▸ c1]
      by_cases c8:Yb w (Xt p)<((Zu c).length:Int) - ((Zr c).length:Int)
      · simp [-List.getD_eq_getElem?_getD,-List.length_eq_zero_iff,Zn,Zj,Zv,Zk,Xb,Xc,Xr,c3,c4,c5,c6,c7,c8,c2,Q0,tradeErr,show inQ w (q:Int) from eq ▸ c1]
        intro h; omega
      by_cases c9:Yb w (Xt q)<((Zr c).length:Int) - ((Zu c).length:Int)
      · simp [-List.getD_eq_getElem?_getD,-List.length_eq_zero_iff,Zn,Zj,Zv,Zk,Xb,Xc,Xr,c3,c4,c5,c6,c7,c8,c9,c2,Q0,tradeErr,show inQ w (q:Int) from eq ▸ c1]
        intro h; omega
      by_cases ca:swapErr (V5 w p) (V5 w q) (Gs c) (Gx c)=0
      rotate_left
      · simp [-List.getD_eq_getElem?_getD,-List.length_eq_zero_iff,Zn,Zj,Zv,Zk,Xb,Xc,Xr,c3,c4,c5,c6,c7,c8,c9,ca,c2,Q0,tradeErr,show inQ w (q:Int) from eq ▸ c1]
      simp [-List.getD_eq_getElem?_getD,-List.length_eq_zero_iff,Zn,Zj,Zv,Zk,Xb,Xc,Xr,c3,c4,c5,c6,c7,c8,c9,ca,c2,Q0,tradeErr,show inQ w (q:Int) from eq ▸ c1,Zf (Lh w ok.sm),(Lh w ok.sm).prop,hpc,hqc,Cc]
      intro _ _
      exact (AOf (N:=List.length (w.2.2.2.1:List (den Zb))) p (q:Int) c (by omega) (by omega) w.2.2.2.1 rfl (Wk bw) (Wk bg) _ _ _ _ _ _ _ _ _ _ _ _ _ 0 (Nat.zero_le _)).enter
  · simp [-List.getD_eq_getElem?_getD,-List.length_eq_zero_iff,Zn,Zj,Zv,Zk,Xb,Xc,Xr,Zf (Ul (Zr c) (Zu c) (by omega) (by omega)),(Ul (Zr c) (Zu c) (by omega) (by omega)).prop,Zf (Vs w _),(Vs w _).prop,c1,Q0,tradeErr]
end Go.Proofs.YtpemapoblhleoaaGreatDoor.Ghost
namespace Go.Proofs.YtpemapoblhleoaaGreatDoor.Ghost
open Go
def U6 (l:List Pl) (gs ws:List Int) (p q:Pl) (i:Nat):List Pl:=V2 (V2 l gs q (min i gs.length)) ws p (i - gs.length)
theorem AIc (l:List Pl) (gs ws:List Int) (p q:Pl) (i:Nat):(U6 l gs ws p q i).length=l.length:=by unfold U6; rw [Qt,Qt]
theorem AFo {l:List Pl} {gs ws:List Int} {p q:Pl} {i:Nat} (h:i<gs.length):U6 l gs ws p q (i+1)=List.set (U6 l gs ws p q i) (iAt (gs ++ ws) i).toNat q:=by
  unfold U6
  rw [show i+1 - gs.length=0 by omega,show i - gs.length=0 by omega,show min (i+1) gs.length=i+1 by omega,show min i gs.length=i by omega,Wx h]
  rfl
theorem AC0 {l:List Pl} {gs ws:List Int} {p q:Pl} {i:Nat} (h:¬ i<gs.length):U6 l gs ws p q (i+1)=List.set (U6 l gs ws p q i) (iAt (gs ++ ws) i).toNat p:=by
  obtain ⟨j,rfl⟩:∃ j,i=gs.length+j:=⟨i - gs.length,by omega⟩
  unfold U6
  rw [show gs.length+j+1 - gs.length=j+1 by omega,show gs.length+j - gs.length=j by omega,show min (gs.length+j+1) gs.length=gs.length by omega,show min (gs.length+j) gs.length=gs.length by omega,Ut]
  rfl
def Hj (w:den Za) (gs ws:List Int) (p q:Int) (i:Nat):Prop:=∃ j,i≤j∧j<(gs ++ ws).length∧¬ Qr w (iAt (gs ++ ws) j).toNat=((1:Int),(if j<gs.length then p else q),())
theorem AEo (w:den Za) (gs ws:List Int) (p q:Int):Hj w gs ws p q 0↔Pq w gs p∨Pq w ws q:=by
  constructor
  · rintro ⟨j,_,h1,h2⟩
    by_cases h:j<gs.length
    · rw [if_pos h,Wx h] at h2
      exact .inl ⟨j,h,h2⟩
    · obtain ⟨k,rfl⟩:∃ k,j=gs.length+k:=⟨j - gs.length,by omega⟩
      rw [if_neg h,Ut] at h2
      rw [List.length_append] at h1
      exact .inr ⟨k,by omega,h2⟩
  · rintro (⟨j,h1,h2⟩ | ⟨k,h1,h2⟩)
    · exact ⟨j,Nat.zero_le _,by rw [List.length_append]; omega,by rw [if_pos h1,Wx h1]; exact h2⟩
    · exact ⟨gs.length+k,Nat.zero_le _,by rw [List.length_append]; omega,by rw [if_neg (by omega),Ut]; exact h2⟩
section
variable {w:den Za} (ok:Ok w) {p q:Nat} (hp:p<List.length (w.2.1:List Int)) (hq:q<List.length (w.2.1:List Int)) (c:Cm) (hg:(Zr c).length≤100) (hw:(Zu c).length≤100) (hpay:Kd (Gs c)) (hfee:Kd (Gx c)) (hbad:¬ Bad w (Zr c ++ Zu c))
include ok hp hq hg hw hpay hfee hbad
abbrev AIn (w:den Za) (p q:Nat) (c:Cm):den Za:=ADb w p q (Zr c) (Zu c) (V5 w p - Gs c+Gx c) (V5 w q - Gx c+Gs c)
open Classical in
noncomputable def lastR (w:den Za) (p q:Nat) (c:Cm) (rp rq:Int):den Za×Int×Unit :=
  if rp<0 then (w,9,()) else if rq<0 then (w,9,()) else if swapErr (V5 w p) (V5 w q) (Gs c) (Gx c)=0 then (AIn w p q c,0,()) else (w,swapErr (V5 w p) (V5 w q) (Gs c) (Gx c),())
theorem AK8 (rp rq:Int) (hrp:∀ x:den Za,x=(w.1,w.2.1,w.2.2.1,Jt w p q (Zr c) (Zu c),())→Zd (fun nf _ _ _=>Xj nf (x) (Xt p)) (fun r=>r.1.1=rp)) (hrq:∀ x:den Za,x=(w.1,w.2.1,w.2.2.1,Jt w p q (Zr c) (Zu c),())→Zd (fun nf _ _ _=>Xj nf (x) (Xt q)) (fun r=>r.1.1=rq)) (t0:(den Za)) (t2:(den Zx)) (t7:Int) (t10:Int) (t11:Int) (o2:(den Za)) :
    ∀ i,i≤(Zr c ++ Zu c).length→Zd (fun nf fm0 _ _=>Ze.l3 nf fm0 t0 ((p:Int)) t2 t7 ((q:Int)) t10 t11 ((i:Int)) (w) (c) o2 (Zr c ++ Zu c) ((w.1,w.2.1,([]:List Int),([]:List (den Zb)),())) (U6 w.2.2.2.1 (Zr c) (Zu c) (Xt p) (Xt q) i) (w.2.2.1)) (fun r=>(Hj w (Zr c) (Zu c) p q i→r.1=(w,5,()))∧(¬ Hj w (Zr c) (Zu c) p q i→r.1=lastR w p q c rp rq)):=by
  have hlen:(Zr c ++ Zu c).length≤1048576:=by rw [List.length_append]; omega
  have hc1:=ok.right.c1
  have ha1:=ok.right.a1
  have hpc:p<List.length (w.2.2.1:List Int):=by omega
  have hqc:q<List.length (w.2.2.1:List Int):=by omega
  refine upto ?_ (fun i hi next => ?_)
  · have hn:¬ Hj w (Zr c) (Zu c) p q (Zr c ++ Zu c).length:=fun ⟨j,h1,h2,_⟩=>by omega
    have hm:U6 w.2.2.2.1 (Zr c) (Zu c) (Xt p) (Xt q) (Zr c ++ Zu c).length=Jt w p q (Zr c) (Zu c):=by
      unfold U6 Jt
      rw [List.length_append,show min ((Zr c).length+(Zu c).length) (Zr c).length=(Zr c).length by omega,Nat.add_sub_cancel_left]
    refine Zd.succ1 (fun nf fm0 _ _=>Ze.l3_eq nf fm0 _ _ _ _ _ _ _ _ _ _ _ _ _ _ _) ?_
    simp [-List.length_append,-List.getD_eq_getElem?_getD,-List.length_eq_zero_iff,Zn,Zj,Zv,Zk,Xb,Xc,Xr,hm,Zf (hrp _ rfl),(hrp _ rfl).prop,Zf (hrq _ rfl),(hrq _ rfl).prop,Zf (Ff (Tc ok.right hp) (Tc ok.right hq) hpay hfee),(Ff (Tc ok.right hp) (Tc ok.right hq) hpay hfee).prop,hn,AB8,hpc,hqc]
    by_cases c1:rp<0 <;> by_cases c2:rq<0 <;> by_cases c3:swapErr (V5 w p) (V5 w q) (Gs c) (Gx c)=0 <;> simp [-List.getD_eq_getElem?_getD,-List.length_eq_zero_iff,Zn,Zj,Zv,Zk,Xb,Xc,Xr,c1,c2,c3,lastR,Cc,AIn,ADb]
    all_goals (try (intros; omega))
  · have hin:=Wk hbad i hi
    obtain ⟨k,ek,hk⟩:=Ki hin
    have hml:=AIc w.2.2.2.1 (Zr c) (Zu c) (Xt p) (Xt q) i
    have hmk:k<(U6 w.2.2.2.1 (Zr c) (Zu c) (Xt p) (Xt q) i).length:=by rw [hml]; exact hk
    rw [← Xm (by omega)] at next
    refine Zd.succ1 (fun nf fm0 _ _=>Ze.l3_eq nf fm0 _ _ _ _ _ _ _ _ _ _ _ _ _ _ _) ?_
    by_cases hl:i<(Zr c).length
    · rw [AFo hl,ek,Int.toNat_natCast] at next
      by_cases hpl:Qr w k=Xt p
      · have next:=next.mono (Q':=fun r=>(Hj w (Zr c) (Zu c) p q i→r.1=(w,5,()))∧(¬ Hj w (Zr c) (Zu c) p q i→r.1=lastR w p q c rp rq)) (fun v hv=>by
          have e:Hj w (Zr c) (Zu c) p q i↔Hj w (Zr c) (Zu c) p q (i+1):=⟨fun ⟨j,a,b,d⟩=>⟨j,by
            by_cases e2:j=i
            · subst e2; rw [if_pos hl,ek,Int.toNat_natCast] at d; exact absurd hpl d
            · omega,b,d⟩,fun ⟨j,a,b,d⟩=>⟨j,by omega,b,d⟩⟩
          rw [e]; exact hv)
        simp [-List.length_append,-List.getD_eq_getElem?_getD,-List.length_eq_zero_iff,Zn,Zj,Zv,Zk,Xb,Xc,Xr,hi,ek,hk,hmk,hpl,show ¬ (Zr c).length≤i by omega]
        exact next
      · have h5:Hj w (Zr c) (Zu c) p q i:=⟨i,Nat.le_refl i,hi,by rw [if_pos hl,ek,Int.toNat_natCast]; exact hpl⟩
        simp [-List.length_append,-List.getD_eq_getElem?_getD,-List.length_eq_zero_iff,Zn,Zj,Zv,Zk,Xb,Xc,Xr,hi,ek,hk,hmk,hpl,show ¬ (Zr c).length≤i by omega,h5]
    · rw [AC0 hl,ek,Int.toNat_natCast] at next
      by_cases hpl:Qr w k=Xt q
      · have next:=next.mono (Q':=fun r=>(Hj w (Zr c) (Zu c) p q i→r.1=(w,5,()))∧(¬ Hj w (Zr c) (Zu c) p q i→r.1=lastR w p q c rp rq)) (fun v hv=>by
          have e:Hj w (Zr c) (Zu c) p q i↔Hj w (Zr c) (Zu c) p q (i+1):=⟨fun ⟨j,a,b,d⟩=>⟨j,by
            by_cases e2:j=i
            · subst e2; rw [if_neg hl,ek,Int.toNat_natCast] at d; exact absurd hpl d
            · omega,b,d⟩,fun ⟨j,a,b,d⟩=>⟨j,by omega,b,d⟩⟩
          rw [e]; exact hv)
        simp [-List.length_append,-List.getD_eq_getElem?_getD,-List.length_eq_zero_iff,Zn,Zj,Zv,Zk,Xb,Xc,Xr,hi,ek,hk,hmk,hpl,show (Zr c).length≤i by omega]
        exact next
      · have h5:Hj w (Zr c) (Zu c) p q i:=⟨i,Nat.le_refl i,hi,by rw [if_neg hl,ek,Int.toNat_natCast]; exact hpl⟩
        simp [-List.length_append,-List.getD_eq_getElem?_getD,-List.length_eq_zero_iff,Zn,Zj,Zv,Zk,Xb,Xc,Xr,hi,ek,hk,hmk,hpl,show (Zr c).length≤i by omega,h5]
end
end Go.Proofs.YtpemapoblhleoaaGreatDoor.Ghost
namespace Go.Proofs.YtpemapoblhleoaaGreatDoor.Ghost
open Go
open Classical in
theorem setAll_get {l:List Pl} {xs:List Int} {p:Pl}:{n:Nat}→(∀ j,j<n→0≤iAt xs j∧iAt xs j<(l.length:Int))→(k:Nat)→List.getD (V2 l xs p n) k (dft Zb)=if ∃ i,i<n∧iAt xs i=(k:Int) then p else List.getD l k (dft Zb)
  | 0,_,k=>by rw [if_neg (fun ⟨i,h,_⟩=>by omega)]; rfl
  | n+1,hin,k=>by
    have ih:=setAll_get (l:=l) (xs:=xs) (p:=p) (n:=n) (fun j hj=>hin j (by omega)) k
    have h:=hin n (by omega)
    simp only [V2]
    rw [Uy _ _ _ _ _ (by rw [Qt]; omega)]
    by_cases e:k=(iAt xs n).toNat
    · rw [if_pos e,if_pos ⟨n,by omega,by omega⟩]
    · rw [if_neg e,ih]
      by_cases h2:∃ i,i<n∧iAt xs i=(k:Int)
      · obtain ⟨i,a,b⟩:=h2
        rw [if_pos ⟨i,a,b⟩,if_pos ⟨i,by omega,b⟩]
      · rw [if_neg h2,if_neg (fun ⟨i,a,b⟩=>h2 ⟨i,by
          by_cases e2:i=n
          · subst e2; omega
          · omega,b⟩)]
structure Lot (l:List Pl) (xs:List Int) (src:Pl):Prop where
  inn:∀ j,j<xs.length→0≤iAt xs j∧iAt xs j<(l.length:Int)
  at_:∀ j,j<xs.length→List.getD l (iAt xs j).toNat (dft Zb)=src
  one:∀ i j,i<j→j<xs.length→¬ iAt xs i=iAt xs j
theorem Lot.get {l:List Pl} {xs:List Int} {src p:Pl} (h:Lot l xs src) {n:Nat} (hn:n<xs.length):List.getD (V2 l xs p n) (iAt xs n).toNat (dft Zb)=src:=by
  have hi:=h.inn n hn
  rw [setAll_get (fun j hj=>h.inn j (by omega)),if_neg (fun ⟨i,a,b⟩=>h.one i n a hn (by omega))]
  exact h.at_ n hn
theorem Lot.many {l:List Pl} {xs:List Int} {src p:Pl} (h:Lot l xs src) (t:Pl):{n:Nat}→n≤xs.length→Qf (V2 l xs p n) t l.length+(if src=t then n else 0)=Qf l t l.length+(if p=t then n else 0)
  | 0,_=>by simp [V2]
  | n+1,hn=>by
    have ih:=Lot.many h (p:=p) t (n:=n) (by omega)
    have hi:=h.inn n (by omega)
    have hk:(iAt xs n).toNat<(V2 l xs p n).length:=by rw [Qt]; omega
    have:=O5 (V2 l xs p n) (iAt xs n).toNat p t hk l.length
    rw [h.get (by omega)] at this
    have hk':(iAt xs n).toNat<l.length:=by omega
    simp only [hk',true_and] at this
    simp only [V2]
    by_cases c1:src=t <;> by_cases c2:p=t <;> simp only [c1,c2,if_true,if_false] at this ih ⊢ <;> omega
theorem Dz (x:den Za) (hl:List.length (x.2.2.2.1:List (den Zb))≤1048576) (hm:AK5 x.1) (p:Pl) (hp:(0:Int)≤p.1∧(p.1:Int)<3):Zd (fun nf _ _ _=>Xj nf (x) (p)) (fun r=>r.1.1=Yb x p):=by
  have hc:=Am hm p
  have hle:=M8 x.2.2.2.1 p (List.length (x.2.2.2.1:List (den Zb)))
  refine Zd.succ (fun nf _ _ _=>Xj.eq nf _ _) ?_
  simp [-List.getD_eq_getElem?_getD,-List.length_eq_zero_iff,Zn,Zj,Zv,Zk,Xb,Xc,Xr,Zf (Fs x p hp),(Fs x p hp).prop,Zf (Lg x (by omega) p),(Lg x (by omega) p).prop]
  unfold Yb
  rw [Vy (by omega) (by omega)]
structure AJx (w:den Za) (p q:Nat) (gs ws:List Int):Prop where
  pq:¬ p=q
  lg:Lot w.2.2.2.1 gs (Xt p)
  lw:Lot (V2 w.2.2.2.1 gs (Xt q) gs.length) ws (Xt q)
  lw0:Lot w.2.2.2.1 ws (Xt q)
  gw:∀ i j,i<gs.length→j<ws.length→¬ iAt gs i=iAt ws j
theorem AC3 {p q:Nat} (h:Xt p=Xt q):p=q:=Int.ofNat.inj (congrArg (fun x:Pl=>(x.2.1:Int)) h)
theorem AIr {w:den Za} {p q:Nat} {gs ws:List Int} (hpq:¬ p=q) (hb:¬ Bad w (gs ++ ws)) (hd:¬ Dup (gs ++ ws)) (hg:¬ Pq w gs p) (hw:¬ Pq w ws q):AJx w p q gs ws:=by
  obtain ⟨bg,bw⟩:=AI8 hb
  have hgw:∀ i j,i<gs.length→j<ws.length→¬ iAt gs i=iAt ws j:=fun i j hi hj e=>hd ⟨i,gs.length+j,by omega,by rw [List.length_append]; omega,by rw [Wx hi,Ut]; exact e⟩
  have ag:∀ j,j<gs.length→List.getD (w.2.2.2.1:List Pl) (iAt gs j).toNat (dft Zb)=Xt p:=fun j hj=>Classical.byContradiction (fun h=>hg ⟨j,hj,h⟩)
  have aw:∀ j,j<ws.length→List.getD (w.2.2.2.1:List Pl) (iAt ws j).toNat (dft Zb)=Xt q:=fun j hj=>Classical.byContradiction (fun h=>hw ⟨j,hj,h⟩)
  have ng:∀ i j,i<j→j<gs.length→¬ iAt gs i=iAt gs j:=fun i j hi hj e=>hd ⟨i,j,hi,by rw [List.length_append]; omega,by rw [Wx (by omega),Wx hj]; exact e⟩
  have nw:∀ i j,i<j→j<ws.length→¬ iAt ws i=iAt ws j:=fun i j hi hj e=>hd ⟨gs.length+i,gs.length+j,by omega,by rw [List.length_append]; omega,by rw [Ut,Ut]; exact e⟩
  refine ⟨hpq,⟨Wk bg,ag,ng⟩,⟨fun j hj=>by rw [Qt]; exact Wk bw j hj,fun j hj => ?_,nw⟩,⟨Wk bw,aw,nw⟩,hgw⟩
  have hj':=Wk bw j hj
  rw [setAll_get (Wk bg)]
  split
  · rfl
  · exact aw j hj
theorem AJx.room {w:den Za} {p q:Nat} {gs ws:List Int} (h:AJx w p q gs ws) (x:den Za) (hx1:x.1=w.1) (hx:x.2.2.2.1=Jt w p q gs ws) (t:Pl):Yb x t=Yb w t+(if Xt p=t then (gs.length:Int) - (ws.length:Int) else 0)+(if Xt q=t then (ws.length:Int) - (gs.length:Int) else 0):=by
  have h1:Qf (V2 w.2.2.2.1 gs (Xt q) gs.length) t (List.length (w.2.2.2.1:List (den Zb)))+(if Xt p=t then gs.length else 0)=Qf w.2.2.2.1 t (List.length (w.2.2.2.1:List (den Zb)))+(if Xt q=t then gs.length else 0):=h.lg.many (p:=Xt q) t (Nat.le_refl _)
  have h2:=h.lw.many (p:=Xt p) t (Nat.le_refl _)
  rw [Qt] at h2
  have h2:Qf (Jt w p q gs ws) t (List.length (w.2.2.2.1:List (den Zb)))+(if Xt q=t then ws.length else 0)=Qf (V2 w.2.2.2.1 gs (Xt q) gs.length) t (List.length (w.2.2.2.1:List (den Zb)))+(if Xt p=t then ws.length else 0):=h2
  have hl:List.length (x.2.2.2.1:List (den Zb))=List.length (w.2.2.2.1:List (den Zb)):=by rw [hx]; unfold Jt; rw [Qt,Qt]
  unfold Yb
  rw [hl,hx1,hx]
  by_cases c1:Xt p=t
  · have c2:¬ Xt q=t:=fun e=>h.pq (AC3 (c1.trans e.symm))
    rw [if_pos c1,if_neg c2] at h1 h2 ⊢
    omega
  · by_cases c2:Xt q=t
    · rw [if_neg c1,if_pos c2] at h1 h2 ⊢
      omega
    · rw [if_neg c1,if_neg c2] at h1 h2 ⊢
      omega
def Mt (l:List Int) (i:Nat):Prop:=∃ a b,a<b∧i≤b∧b<l.length∧iAt l a=iAt l b
theorem Ea {l:List Int}:Mt l 0↔Dup l:=⟨fun ⟨a,b,h1,_,h2,h3⟩=>⟨a,b,h1,h2,h3⟩,fun ⟨a,b,h1,h2,h3⟩=>⟨a,b,h1,Nat.zero_le _,h2,h3⟩⟩
def Lq (l:List Int) (i k:Nat):Prop:=∃ a,k≤a∧a<i∧iAt l a=iAt l i
section
variable {w:den Za} (ok:Ok w) {p q:Nat} (hp:p<List.length (w.2.1:List Int)) (hq:q<List.length (w.2.1:List Int)) (c:Cm) (hg:(Zr c).length≤100) (hw:(Zu c).length≤100) (hpay:Kd (Gs c)) (hfee:Kd (Gx c)) (hbad:¬ Bad w (Zr c ++ Zu c))
include ok hp hq hg hw hpay hfee hbad
open Classical in
noncomputable def l1R (w:den Za) (p q:Nat) (c:Cm) (i:Nat):den Za×Int×Unit :=
  if Mt (Zr c ++ Zu c) i then (w,13,()) else if Pq w (Zr c) p then (w,5,()) else if Pq w (Zu c) q then (w,5,())
    else lastR w p q c (Yb (w.1,w.2.1,w.2.2.1,Jt w p q (Zr c) (Zu c),()) (Xt p)) (Yb (w.1,w.2.1,w.2.2.1,Jt w p q (Zr c) (Zu c),()) (Xt q))
theorem AJy (i:Nat) (hi:i<(Zr c ++ Zu c).length) (t0:(den Za)) (t2:(den Zx)) (t7:Int) (t10:Int) (o2:(den Za)) (nx:Zd (fun nf fm0 _ _=>Ze.l1 nf fm0 t0 ((p:Int)) t2 t7 ((q:Int)) t10 (((i+1:Nat):Int)) (w) (c) o2 (Zr c ++ Zu c)) (fun r=>r.1=l1R w p q c (i+1))) :
    ∀ k,k≤i→Zd (fun nf fm0 fm1 _=>Ze.l2 nf fm0 fm1 t0 ((p:Int)) t2 t7 ((q:Int)) t10 ((i:Int)) ((k:Int)) (w) (c) o2 (Zr c ++ Zu c)) (fun r=>(Lq (Zr c ++ Zu c) i (k)→r.1=(w,13,()))∧(¬ Lq (Zr c ++ Zu c) i (k)→r.1=l1R w p q c (i+1))):=by
  have hlen:(Zr c ++ Zu c).length≤1048576:=by rw [List.length_append]; omega
  rw [← Xm (by omega)] at nx
  refine upto ?_ (fun k hk next => ?_)
  · have nx:=nx.mono (Q':=fun r=>(Lq (Zr c ++ Zu c) i (i)→r.1=(w,13,()))∧(¬ Lq (Zr c ++ Zu c) i (i)→r.1=l1R w p q c (i+1))) (fun v hv=>⟨fun ⟨a,h1,h2,_⟩=>by omega,fun _=>hv⟩)
    refine Zd.succ2 (fun nf fm0 fm1 _=>Ze.l2_eq nf fm0 fm1 _ _ _ _ _ _ _ _ _ _ _ _) ?_
    simp [-List.length_append,-List.getD_eq_getElem?_getD,-List.length_eq_zero_iff,Zn,Zj,Zv,Zk,Xb,Xc,Xr]
    exact nx
  · rw [← Xm (by omega)] at next
    have hki:k<(Zr c ++ Zu c).length:=by omega
    refine Zd.succ2 (fun nf fm0 fm1 _=>Ze.l2_eq nf fm0 fm1 _ _ _ _ _ _ _ _ _ _ _ _) ?_
    by_cases e:iAt (Zr c ++ Zu c) i=iAt (Zr c ++ Zu c) k
    · have h5:Lq (Zr c ++ Zu c) i (k):=⟨k,Nat.le_refl k,hk,e.symm⟩
      simp only [iAt] at e
      simp [-List.length_append,-List.getD_eq_getElem?_getD,-List.length_eq_zero_iff,Zn,Zj,Zv,Zk,Xb,Xc,Xr,hk,hi,hki,e,h5]
    · have next:=next.mono (Q':=fun r=>(Lq (Zr c ++ Zu c) i (k)→r.1=(w,13,()))∧(¬ Lq (Zr c ++ Zu c) i (k)→r.1=l1R w p q c (i+1))) (fun v hv=>by
        have e2:Lq (Zr c ++ Zu c) i (k)↔Lq (Zr c ++ Zu c) i (k+1):=⟨fun ⟨a,h1,h2,h3⟩=>⟨a,by
          by_cases e3:a=k
          · subst e3; exact absurd h3.symm e
          · omega,h2,h3⟩,fun ⟨a,h1,h2,h3⟩=>⟨a,by omega,h2,h3⟩⟩
        rw [e2]; exact hv)
      simp only [iAt] at e
      simp [-List.length_append,-List.getD_eq_getElem?_getD,-List.length_eq_zero_iff,Zn,Zj,Zv,Zk,Xb,Xc,Xr,hk,hi,hki,e]
      exact next
theorem AJt (t0:(den Za)) (t2:(den Zx)) (t7:Int) (t10:Int) (o2:(den Za)) :
    ∀ i,i≤(Zr c ++ Zu c).length→Zd (fun nf fm0 _ _=>Ze.l1 nf fm0 t0 ((p:Int)) t2 t7 ((q:Int)) t10 ((i:Int)) (w) (c) o2 (Zr c ++ Zu c)) (fun r=>r.1=l1R w p q c i):=by
  have hlen:(Zr c ++ Zu c).length≤1048576:=by rw [List.length_append]; omega
  refine upto ?_ (fun i hi next => ?_)
  · refine Zd.succ1 (fun nf fm0 _ _=>Ze.l1_eq nf fm0 _ _ _ _ _ _ _ _ _ _ _) ?_
    have hlt:List.length (Jt w p q (Zr c) (Zu c))≤1048576:=by unfold Jt; rw [Qt,Qt]; exact ok.sm.wh
    have h3:=fun (t0:den Za) (t2:den Zx) (t7 t10 t11:Int) (o2:den Za)=>(AK8 ok hp hq c hg hw hpay hfee hbad _ _ (fun x hx=>by rw [hx]; exact Dz (w.1,w.2.1,w.2.2.1,Jt w p q (Zr c) (Zu c),()) hlt ok.right.may _ (V0 p)) (fun x hx=>by rw [hx]; exact Dz (w.1,w.2.1,w.2.2.1,Jt w p q (Zr c) (Zu c),()) hlt ok.right.may _ (V0 q)) t0 t2 t7 t10 t11 o2 0 (Nat.zero_le _)).enter
    have h0:U6 w.2.2.2.1 (Zr c) (Zu c) (Xt p) (Xt q) 0=w.2.2.2.1:=by unfold U6; rw [Nat.zero_min,Nat.zero_sub]; rfl
    simp only [h0] at h3
    have hq2:∀ v:Ze.R,((Hj w (Zr c) (Zu c) p q 0→v.1=(w,5,()))∧(¬ Hj w (Zr c) (Zu c) p q 0→v.1=lastR w p q c (Yb (w.1,w.2.1,w.2.2.1,Jt w p q (Zr c) (Zu c),()) (Xt p)) (Yb (w.1,w.2.1,w.2.2.1,Jt w p q (Zr c) (Zu c),()) (Xt q))))→v.1=l1R w p q c (Zr c ++ Zu c).length:=fun v hv=>by
      unfold l1R
      rw [if_neg (fun ⟨a,b,_,h1,h2,_⟩=>by omega)]
      rw [AEo] at hv
      by_cases a1:Pq w (Zr c) p
      · rw [if_pos a1]; exact hv.1 (.inl a1)
      · rw [if_neg a1]
        by_cases a2:Pq w (Zu c) q
        · rw [if_pos a2]; exact hv.1 (.inr a2)
        · rw [if_neg a2]; exact hv.2 (fun h=>h.elim a1 a2)
    simp [-List.length_append,-List.getD_eq_getElem?_getD,-List.length_eq_zero_iff,Zn,Zj,Zv,Zk,Xb,Xc,Xr,Zf (R3 w ok.sm),(R3 w ok.sm).prop]
    exact (h3 _ _ _ _ _ _).mono hq2
  · refine Zd.succ1 (fun nf fm0 _ _=>Ze.l1_eq nf fm0 _ _ _ _ _ _ _ _ _ _ _) ?_
    simp [-List.length_append,-List.getD_eq_getElem?_getD,-List.length_eq_zero_iff,Zn,Zj,Zv,Zk,Xb,Xc,Xr,hi]
    refine (AJy ok hp hq c hg hw hpay hfee hbad i hi _ _ _ _ _ next 0 (Nat.zero_le _)).enter1.mono (fun v hv => ?_)
    by_cases e:Lq (Zr c ++ Zu c) i (0)
    · rw [hv.1 e]
      obtain ⟨a,_,h1,h2⟩:=e
      unfold l1R
      rw [if_pos ⟨a,i,h1,Nat.le_refl i,hi,h2⟩]
    · rw [hv.2 e]
      unfold l1R
      have e2:Mt (Zr c ++ Zu c) (i+1)↔Mt (Zr c ++ Zu c) i :=
        ⟨fun ⟨a,b,h1,h2,h3,h4⟩=>⟨a,b,h1,by omega,h3,h4⟩,fun ⟨a,b,h1,h2,h3,h4⟩=>⟨a,b,h1,by
          by_cases e3:b=i
          · subst e3; exact absurd ⟨a,Nat.zero_le _,h1,h4⟩ e
          · omega,h3,h4⟩⟩
      by_cases h:Mt (Zr c ++ Zu c) i
      · rw [if_pos h,if_pos (e2.2 h)]
      · rw [if_neg h,if_neg (fun h'=>h (e2.1 h'))]
open Classical in
noncomputable def l0R (w:den Za) (p q:Nat) (c:Cm):den Za×Int×Unit:=if (q:Int)=(p:Int) then (w,12,()) else if ¬ G1 w q=G1 w p then (w,5,()) else l1R w p q c 0
theorem AFp (t0:(den Za)) (t2:(den Zx)) (t7:Int) (o2:(den Za)) :
    ∀ i,i≤(Zr c ++ Zu c).length→Zd (fun nf fm0 _ _=>Ze.l0 nf fm0 t0 ((p:Int)) t2 t7 ((q:Int)) ((i:Int)) (w) (c) o2 (Zr c ++ Zu c)) (fun r=>r.1=l0R w p q c):=by
  have hlen:(Zr c ++ Zu c).length≤1048576:=by rw [List.length_append]; omega
  have s1:((p:Int)=(q:Int))=((q:Int)=(p:Int)):=propext eq_comm
  have s2:(List.getD (w.2.1:List Int) p (0:Int)=List.getD (w.2.1:List Int) q (0:Int))=(G1 w q=G1 w p):=propext eq_comm
  refine upto ?_ (fun i hi next => ?_)
  · have h1:=fun (t0:den Za) (t2:den Zx) (t7 t10:Int) (o2:den Za)=>(AJt ok hp hq c hg hw hpay hfee hbad t0 t2 t7 t10 o2 0 (Nat.zero_le _)).enter
    refine Zd.succ1 (fun nf fm0 _ _=>Ze.l0_eq nf fm0 _ _ _ _ _ _ _ _ _ _) ?_
    by_cases c1:(q:Int)=(p:Int)
    · simp [-List.length_append,-List.getD_eq_getElem?_getD,-List.length_eq_zero_iff,Zn,Zj,Zv,Zk,Xb,Xc,Xr,s1,c1,l0R]
    · by_cases c2:G1 w q=G1 w p
      · simp [-List.length_append,-List.getD_eq_getElem?_getD,-List.length_eq_zero_iff,Zn,Zj,Zv,Zk,Xb,Xc,Xr,s1,s2,c1,c2,hp,hq,l0R]
        exact h1 _ _ _ _ _
      · simp [-List.length_append,-List.getD_eq_getElem?_getD,-List.length_eq_zero_iff,Zn,Zj,Zv,Zk,Xb,Xc,Xr,s1,s2,c1,c2,hp,hq,l0R]
  · have hin:=Wk hbad i hi
    have h1:=hin.1; have h2:=hin.2
    rw [← Xm (by omega)] at next
    refine Zd.succ1 (fun nf fm0 _ _=>Ze.l0_eq nf fm0 _ _ _ _ _ _ _ _ _ _) ?_
    simp [-List.length_append,-List.getD_eq_getElem?_getD,-List.length_eq_zero_iff,Zn,Zj,Zv,Zk,Xb,Xc,Xr,hi,show ¬ List.getD (Zr c ++ Zu c) i 0<0 from Int.not_lt.2 h1,show ¬ (List.length (w.2.2.2.1:List (den Zb)):Int)≤List.getD (Zr c ++ Zu c) i 0 from Int.not_le.2 h2,next]
theorem BG7:l0R w p q c=Q0 w p q (Zr c) (Gs c) (Zu c) (Gx c):=by
  have hiq:inQ w (q:Int):=⟨Int.natCast_nonneg q,Int.ofNat_lt.2 hq⟩
  by_cases c1:(q:Int)=(p:Int)
  · simp only [l0R,Q0,tradeErr,c1,if_true,show inQ w (p:Int) from c1 ▸ hiq,hbad,not_true_eq_false,if_false]
    rfl
  by_cases c2:G1 w q=G1 w p
  rotate_left
  · simp only [l0R,Q0,tradeErr,c1,c2,hiq,hbad,not_true_eq_false,not_false_eq_true,if_true,if_false,Int.toNat_natCast]
    rfl
  by_cases c3:Dup (Zr c ++ Zu c)
  · have c3':=Ea.2 c3
    simp only [l0R,l1R,Q0,tradeErr,c1,c2,c3,c3',hiq,hbad,not_true_eq_false,not_false_eq_true,if_true,if_false,Int.toNat_natCast]
    rfl
  have c3':¬ Mt (Zr c ++ Zu c) 0:=fun h=>c3 (Ea.1 h)
  by_cases c4:Pq w (Zr c) p
  · simp only [l0R,l1R,Q0,tradeErr,c1,c2,c3,c3',c4,hiq,hbad,not_true_eq_false,not_false_eq_true,if_true,if_false,Int.toNat_natCast]
    rfl
  by_cases c5:Pq w (Zu c) q
  · simp only [l0R,l1R,Q0,tradeErr,c1,c2,c3,c3',c4,c5,hiq,hbad,not_true_eq_false,not_false_eq_true,if_true,if_false,Int.toNat_natCast]
    rfl
  have lots:=AIr (p:=p) (q:=q) (fun e=>c1 (by rw [e])) hbad c3 c4 c5
  have r1:=lots.room (w.1,w.2.1,w.2.2.1,Jt w p q (Zr c) (Zu c),()) rfl rfl (Xt p)
  have r2:=lots.room (w.1,w.2.1,w.2.2.1,Jt w p q (Zr c) (Zu c),()) rfl rfl (Xt q)
  rw [if_pos rfl,if_neg (fun e=>lots.pq (AC3 e).symm)] at r1
  rw [if_pos rfl,if_neg (fun e=>lots.pq (AC3 e))] at r2
  have c6:(Yb w (Xt p)+((Zr c).length - (Zu c).length:Int)+0<0)=(Yb w (Xt p)<((Zu c).length:Int) - ((Zr c).length:Int)):=propext ⟨fun h=>by omega,fun h=>by omega⟩
  have c7:(Yb w (Xt q)+0+((Zu c).length - (Zr c).length:Int)<0)=(Yb w (meI q)<((Zr c).length:Int) - ((Zu c).length:Int)):=propext ⟨fun h=>by show Yb w (Xt q)<_; omega,fun h=>by have h:Yb w (Xt q)<((Zr c).length:Int) - ((Zu c).length:Int):=h; omega⟩
  simp only [l0R,l1R,Q0,tradeErr,c1,c2,c3,c3',c4,c5,hiq,hbad,not_true_eq_false,not_false_eq_true,if_true,if_false,Int.toNat_natCast,lastR,r1,r2,c6,c7]
  by_cases d1:Yb w (Xt p)<((Zu c).length:Int) - ((Zr c).length:Int)
  · simp only [d1,if_true]; rfl
  simp only [d1,if_false]
  by_cases d2:Yb w (meI q)<((Zr c).length:Int) - ((Zu c).length:Int)
  · simp only [d2,if_true]; rfl
  simp only [d2,if_false]
end
theorem AHl {w:den Za} (hwl:List.length (w.2.2.2.1:List (den Zb))≤1048576) (l:List Int) (hlen:l.length≤1048576) (t0:(den Za)) (t1:Int) (t2:(den Zx)) (t7:Int) (t8:Int) (o1:(den Zx)) (o2:(den Za)) :
    ∀ i,i≤l.length→(∃ j,i≤j∧j<l.length∧¬ inR w (iAt l j))→Zd (fun nf fm0 _ _=>Ze.l0 nf fm0 t0 t1 t2 t7 t8 ((i:Int)) (w) o1 o2 (l)) (fun r=>r.1=(w,3,())):=by
  refine upto (fun h => ?_) (fun i hi next h => ?_)
  · obtain ⟨j,h1,h2,_⟩:=h; omega
  · refine Zd.succ1 (fun nf fm0 _ _=>Ze.l0_eq nf fm0 _ _ _ _ _ _ _ _ _ _) ?_
    by_cases h1:List.getD l i 0<0
    · simp [-List.getD_eq_getElem?_getD,-List.length_eq_zero_iff,Zn,Zj,Zv,Zk,Xb,Xc,Xr,hi,h1]
    by_cases h2:(List.length (w.2.2.2.1:List (den Zb)):Int)≤List.getD l i 0
    · simp [-List.getD_eq_getElem?_getD,-List.length_eq_zero_iff,Zn,Zj,Zv,Zk,Xb,Xc,Xr,hi,h1,h2]
    have next:=next (by
      obtain ⟨j,g1,g2,g3⟩:=h
      refine ⟨j,?_,g2,g3⟩
      by_cases e:j=i
      · subst e; exact absurd ⟨Int.not_lt.1 h1,Int.not_le.1 h2⟩ g3
      · omega)
    rw [← Xm (by omega)] at next
    simp [-List.getD_eq_getElem?_getD,-List.length_eq_zero_iff,Zn,Zj,Zv,Zk,Xb,Xc,Xr,hi,h1,h2,next]
theorem Lv {w:den Za} (ok:Ok w) {p:Nat} (hp:p<List.length (w.2.1:List Int)) (c:Cm) (hg:(Zr c).length≤100) (hw:(Zu c).length≤100) (hpay:Kd (Gs c)) (hfee:Kd (Gx c)) :
    Zd (fun nf _ _ _=>Ze nf (w) ((p:Int)) (c)) (fun r=>r.1=Q0 w p (Kw c) (Zr c) (Gs c) (Zu c) (Gx c)):=by
  have hlen:(Zr c ++ Zu c).length≤1048576:=by rw [List.length_append]; omega
  have g1:(Zr c).length≤1048576:=by omega
  have g2:(Zr c).length+(Zu c).length≤1048576:=by omega
  refine Zd.succ (fun nf _ _ _=>Ze.eq nf _ _ _) ?_
  simp only [List.nil_append]
  by_cases c1:inQ w (Kw c)
  · obtain ⟨q,eq,hq⟩:=M2 c1
    by_cases c2:Bad w (Zr c ++ Zu c)
    · have e:Q0 w p (Kw c) (Zr c) (Gs c) (Zu c) (Gx c)=(w,3,()):=by simp [Q0,tradeErr,c1,c2]
      rw [e]
      simp only [eq]
      simp [-List.length_append,-List.getD_eq_getElem?_getD,-List.length_eq_zero_iff,Zn,Zj,Zv,Zk,Xb,Xc,Xr,hq]
      refine ⟨g1,g2,(AHl ok.sm.wh (Zr c ++ Zu c) hlen _ _ _ _ _ _ _ 0 (Nat.zero_le _) ?_).enter⟩
      obtain ⟨j,a,b⟩:=c2
      exact ⟨j,Nat.zero_le _,a,b⟩
    · have h0:=fun (t0:den Za) (t2:den Zx) (t7:Int) (o2:den Za)=>(AFp ok hp hq c hg hw hpay hfee c2 t0 t2 t7 o2 0 (Nat.zero_le _)).enter
      rw [BG7 ok hp hq c hg hw hpay hfee c2] at h0
      simp only [eq]
      simp [-List.length_append,-List.getD_eq_getElem?_getD,-List.length_eq_zero_iff,Zn,Zj,Zv,Zk,Xb,Xc,Xr,hq]
      exact ⟨g1,g2,fun h=>absurd h (Int.not_lt.2 (Int.natCast_nonneg q)),fun h=>by omega,h0 _ _ _ _⟩
  · have e:Q0 w p (Kw c) (Zr c) (Gs c) (Zu c) (Gx c)=(w,3,()):=by simp [Q0,tradeErr,c1]
    rw [e]
    by_cases h1:Kw c<0
    · simp [-List.length_append,-List.getD_eq_getElem?_getD,-List.length_eq_zero_iff,Zn,Zj,Zv,Zk,Xb,Xc,Xr,h1]
      exact ⟨g1,g2⟩
    · have h2:(List.length (w.2.1:List Int):Int)≤Kw c:=Int.not_lt.1 (fun h=>c1 ⟨Int.not_lt.1 h1,h⟩)
      simp [-List.length_append,-List.getD_eq_getElem?_getD,-List.length_eq_zero_iff,Zn,Zj,Zv,Zk,Xb,Xc,Xr,h1,h2]
      exact ⟨g1,g2⟩
end Go.Proofs.YtpemapoblhleoaaGreatDoor.Ghost
namespace Go.Proofs.YtpemapoblhleoaaGreatDoor.Ghost
open Go
structure AIz (w:den Za) (p q:Nat) (gs:List Int) (pay:Int) (ws:List Int) (fee:Int):Prop where
  hq:q<List.length (w.2.1:List Int)
  bad:¬ Bad w (gs ++ ws)
  at_:G1 w q=G1 w p
  dup:¬ Dup (gs ++ ws)
  ag:¬ Pq w gs p
  aw:¬ Pq w ws q
  lots:AJx w p q gs ws
  rp:(ws.length:Int) - (gs.length:Int)≤Yb w (Xt p)
  rq:(gs.length:Int) - (ws.length:Int)≤Yb w (Xt q)
  sw:swapErr (V5 w p) (V5 w q) pay fee=0
theorem AAv {w:den Za} {p:Nat} {q:Int} {gs ws:List Int} {pay fee:Int} (h10:∀ a b,swapErr a b pay fee=0∨0<swapErr a b pay fee):tradeErr w p q gs pay ws fee=0↔∃ n:Nat,q=(n:Int)∧AIz w p n gs pay ws fee:=by
  constructor
  · intro h
    unfold tradeErr at h
    by_cases c1:inQ w q
    rotate_left
    · rw [if_pos c1] at h; cases h
    rw [if_neg (fun h=>h c1)] at h
    obtain ⟨n,rfl,hn⟩:=M2 c1
    by_cases c2:Bad w (gs ++ ws)
    · rw [if_pos c2] at h; cases h
    rw [if_neg c2] at h
    by_cases c3:(n:Int)=(p:Int)
    · rw [if_pos c3] at h; cases h
    rw [if_neg c3,Int.toNat_natCast] at h
    by_cases c4:G1 w n=G1 w p
    rotate_left
    · rw [if_pos c4] at h; cases h
    rw [if_neg (fun h=>h c4)] at h
    by_cases c5:Dup (gs ++ ws)
    · rw [if_pos c5] at h; cases h
    rw [if_neg c5] at h
    by_cases c6:Pq w gs p
    · rw [if_pos c6] at h; cases h
    rw [if_neg c6] at h
    by_cases c7:Pq w ws n
    · rw [if_pos c7] at h; cases h
    rw [if_neg c7] at h
    by_cases c8:Yb w (Xt p)<(ws.length:Int) - (gs.length:Int)
    · rw [if_pos c8] at h; cases h
    rw [if_neg c8] at h
    by_cases c9:Yb w (meI (n:Int))<(gs.length:Int) - (ws.length:Int)
    · rw [if_pos c9] at h; cases h
    rw [if_neg c9] at h
    exact ⟨n,rfl,hn,c2,c4,c5,c6,c7,AIr (fun e=>c3 (by rw [e])) c2 c5 c6 c7,Int.not_lt.1 c8,Int.not_lt.1 c9,h⟩
  · rintro ⟨n,rfl,h⟩
    unfold tradeErr
    rw [if_neg (fun g=>g ⟨Int.natCast_nonneg n,Int.ofNat_lt.2 h.hq⟩),if_neg h.bad,if_neg (fun e:(n:Int)=(p:Int)=>h.lots.pq (Int.ofNat.inj e).symm),Int.toNat_natCast,if_neg (fun g=>g h.at_),if_neg h.dup,if_neg h.ag,if_neg h.aw,if_neg (Int.not_lt.2 h.rp),if_neg (Int.not_lt.2 (show _≤Yb w (meI (n:Int)) from h.rq))]
    exact h.sw
theorem AH9 (pay fee a b:Int):swapErr a b pay fee=0∨0<swapErr a b pay fee:=by
  unfold swapErr
  split
  · exact .inr (by decide)
  · split
    · exact .inl rfl
    · exact .inr (by decide)
theorem AEc {a b pay fee:Int} (h:swapErr a b pay fee=0):pay≤a∧fee≤b∧Kd (a - pay+fee)∧Kd (b - fee+pay):=by
  unfold swapErr at h
  split at h
  · cases h
  · rename_i c1
    split at h
    · rename_i c2
      refine ⟨?_,?_,c2.1,c2.2⟩
      · exact Int.not_lt.1 (fun h=>c1 (.inl h))
      · exact Int.not_lt.1 (fun h=>c1 (.inr h))
    · cases h
theorem ACd (i:Nat):¬ (Xt i).1=(2:Int):=fun e=>by
  have:(1:Int)=2:=e
  cases this
theorem Lot.depI {l:List Pl} {xs:List Int} {src p:Pl} (h:Lot l xs src) (hs:¬ src.1=(2:Int)) (hp:¬ p.1=(2:Int)) (f c:Nat) (x:Pl):{n:Nat}→n≤xs.length→depI (V2 l xs p n) f c x=depI l f c x
  | 0,_=>rfl
  | n+1,hn=>by
    have hi:=h.inn n (by omega)
    simp only [V2]
    rw [I8 (by rw [Qt]; omega) hp (by rw [h.get (by omega)]; exact hs)]
    exact Lot.depI h hs hp f c x (by omega)
theorem AJx.at_ {w:den Za} {p q:Nat} {gs ws:List Int} (h:AJx w p q gs ws) (j:Nat):List.getD (Jt w p q gs ws) j (dft Zb)=List.getD (w.2.2.2.1:List Pl) j (dft Zb)∧(∀ i,i<(gs ++ ws).length→¬ iAt (gs ++ ws) i=(j:Int))∨List.getD (Jt w p q gs ws) j (dft Zb)=Xt p∧List.getD (w.2.2.2.1:List Pl) j (dft Zb)=Xt q∧(∃ i,i<ws.length∧iAt ws i=(j:Int)) ∨
    List.getD (Jt w p q gs ws) j (dft Zb)=Xt q∧List.getD (w.2.2.2.1:List Pl) j (dft Zb)=Xt p∧(∃ i,i<gs.length∧iAt gs i=(j:Int)):=by
  unfold Jt
  rw [setAll_get h.lw.inn]
  by_cases c1:∃ i,i<ws.length∧iAt ws i=(j:Int)
  · rw [if_pos c1]
    obtain ⟨i,h1,h2⟩:=c1
    refine .inr (.inl ⟨rfl,?_,i,h1,h2⟩)
    have:=h.lw0.at_ i h1
    rw [h2,Int.toNat_natCast] at this
    exact this
  · rw [if_neg c1,setAll_get h.lg.inn]
    by_cases c2:∃ i,i<gs.length∧iAt gs i=(j:Int)
    · rw [if_pos c2]
      obtain ⟨i,h1,h2⟩:=c2
      refine .inr (.inr ⟨rfl,?_,i,h1,h2⟩)
      have:=h.lg.at_ i h1
      rw [h2,Int.toNat_natCast] at this
      exact this
    · rw [if_neg c2]
      refine .inl ⟨rfl,fun i hi e => ?_⟩
      by_cases hl:i<gs.length
      · rw [Wx hl] at e; exact c2 ⟨i,hl,e⟩
      · obtain ⟨k,rfl⟩:∃ k,i=gs.length+k:=⟨i - gs.length,by omega⟩
        rw [Ut] at e
        rw [List.length_append] at hi
        exact c1 ⟨k,by omega,e⟩
theorem AL0 (l:List Int) {p q:Nat} (hp:p<l.length) (hq:q<l.length) (a b:Int) (j:Nat):List.getD (List.set (List.set l p a) q b) j 0=if j=q then b else if j=p then a else List.getD l j 0:=by
  rw [Uy _ _ _ _ _ (by rw [List.length_set]; exact hq),Uy _ _ _ _ _ hp]
section
variable {w:den Za} {p q:Nat} {gs ws:List Int} {pay fee:Int} (ok:Ok w) (hp:p<List.length (w.2.1:List Int)) (h:AIz w p q gs pay ws fee)
include ok hp h
abbrev tdW (w:den Za) (p q:Nat) (gs:List Int) (pay:Int) (ws:List Int) (fee:Int):den Za:=ADb w p q gs ws (V5 w p - pay+fee) (V5 w q - fee+pay)
theorem AH7:List.length (Jt w p q gs ws)=List.length (w.2.2.2.1:List (den Zb)):=by unfold Jt; rw [Qt,Qt]
theorem AKy (j:Nat):V5 (tdW w p q gs pay ws fee) j=if j=q then V5 w q - fee+pay else if j=p then V5 w p - pay+fee else V5 w j:=by
  have hc1:=ok.right.c1
  have ha1:=ok.right.a1
  have hqq:=h.hq
  show List.getD (List.set (List.set (w.2.2.1:List Int) p _) (Int.toNat (q:Int)) _) j 0=_
  rw [Int.toNat_natCast,AL0 _ (by omega) (by omega)]
theorem AN9 (t:Pl):Yb (tdW w p q gs pay ws fee) t=Yb w t+(if Xt p=t then (gs.length:Int) - (ws.length:Int) else 0)+(if Xt q=t then (ws.length:Int) - (gs.length:Int) else 0):=h.lots.room (tdW w p q gs pay ws fee) rfl rfl t
theorem BM2:Ok (tdW w p q gs pay ws fee):=by
  have hr:=ok.right
  have hs:=ok.sm
  have hc1:=ok.right.c1
  have ha1:=ok.right.a1
  have hqq:=h.hq
  have hlen:=AH7 ok hp h
  have hcl:List.length ((tdW w p q gs pay ws fee).2.2.1:List Int)=List.length (w.2.2.1:List Int):=by
    show List.length (List.set (List.set (w.2.2.1:List Int) p _) _ _)=_
    rw [List.length_set,List.length_set]
  obtain ⟨_,_,s1,s2⟩:=AEc h.sw
  refine ⟨⟨hs.e,hs.b,hs.p,hs.c,hs.i,hs.a,by rw [hcl]; exact hs.wc,by show List.length (Jt w p q gs ws)≤_; rw [hlen]; exact hs.wh,hs.rows⟩,hr.may,hr.a1,by rw [hcl]; exact hr.c1,by show List.length (Jt w p q gs ws)=_; rw [hlen]; exact hr.w1,fun i hi=>⟨(hr.at_ i hi).1,?_⟩,fun i hi => ?_,fun i hi => ?_⟩
  · have hc:=AKy ok hp h i
    have:Kd (V5 (tdW w p q gs pay ws fee) i):=by
      rw [hc]
      split
      · exact s2
      · split
        · exact s1
        · exact (hr.at_ i hi).2
    exact this
  · have hi:i<List.length (w.2.2.2.1:List (den Zb)):=by rw [← hlen]; exact hi
    have gm:∀ r,r<List.length (w.2.1:List Int)→Hp w.1 (Xt r):=fun r hr'=>.inr (.inl ⟨rfl,Int.natCast_nonneg r,by show (r:Int)<_; rw [← hr.a1]; exact Int.ofNat_lt.2 hr'⟩)
    show Hp w.1 (List.getD (Jt w p q gs ws) i (dft Zb))
    rcases h.lots.at_ i with ⟨e,_⟩ | ⟨e,_⟩ | ⟨e,_⟩
    · rw [e]; exact hr.good i hi
    · rw [e]; exact gm p hp
    · rw [e]; exact gm q hqq
  · have hi:i<List.length (w.2.2.2.1:List (den Zb)):=by rw [← hlen]; exact hi
    have hd:∀ x,depI (Jt w p q gs ws) 51 0 x=depI w.2.2.2.1 51 0 x:=fun x=>by
      unfold Jt
      rw [h.lots.lw.depI (ACd q) (ACd p) 51 0 x (Nat.le_refl _),h.lots.lg.depI (ACd p) (ACd q) 51 0 x (Nat.le_refl _)]
    have hroom:∀ t,0≤Yb (tdW w p q gs pay ws fee) t:=fun t=>by
      rw [AN9 ok hp h t]
      have h0:=(hr.room t).1
      by_cases c1:Xt p=t
      · have c2:¬ Xt q=t:=fun e=>h.lots.pq (AC3 (c1.trans e.symm))
        rw [if_pos c1,if_neg c2]
        have:=h.rp
        rw [c1] at this
        omega
      · by_cases c2:Xt q=t
        · rw [if_neg c1,if_pos c2]
          have:=h.rq
          rw [c2] at this
          omega
        · rw [if_neg c1,if_neg c2]; omega
    refine ⟨?_,?_⟩
    · show depI (Jt w p q gs ws) 51 0 (List.getD (Jt w p q gs ws) i (dft Zb))≤4
      rw [hd]
      rcases h.lots.at_ i with ⟨e,_⟩ | ⟨e,_⟩ | ⟨e,_⟩
      · rw [e]; exact (hr.deep i hi).1
      · rw [e,Dn (ACd p)]; omega
      · rw [e,Dn (ACd q)]; omega
    · have:=hroom (List.getD ((tdW w p q gs pay ws fee).2.2.2.1:List (den Zb)) i (dft Zb))
      unfold Yb at this
      show (Qf _ _ _:Int)≤L7 w.1 _
      have e:(tdW w p q gs pay ws fee).1=w.1:=rfl
      rw [e] at this
      omega
end
end Go.Proofs.YtpemapoblhleoaaGreatDoor.Ghost
