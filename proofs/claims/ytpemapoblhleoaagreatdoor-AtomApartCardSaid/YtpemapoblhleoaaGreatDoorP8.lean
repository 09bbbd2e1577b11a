/- What functions come to, and that the statements are answered with 'true'. Conditions: none. -/
import Derived.Test.YtpemapoblhleoaaGreatDoorS
import Derived.Test.YtpemapoblhleoaaGreatDoorGE
import Derived.Test.YtpemapoblhleoaaGreatDoorP1
import Derived.Test.YtpemapoblhleoaaGreatDoorP2
import Derived.Test.YtpemapoblhleoaaGreatDoorP3
import Derived.Test.YtpemapoblhleoaaGreatDoorP4
import Derived.Test.YtpemapoblhleoaaGreatDoorP5
import Derived.Test.YtpemapoblhleoaaGreatDoorP6
import Derived.Test.YtpemapoblhleoaaGreatDoorP7
set_option linter.unusedVariables false
set_option linter.unusedSimpArgs false
set_option linter.unusedSectionVars false
set_option linter.unnecessarySimpa false
namespace Go.Proofs.YtpemapoblhleoaaGreatDoor.Ghost
open Go
end Go.Proofs.YtpemapoblhleoaaGreatDoor.Ghost
namespace Go.Proofs.YtpemapoblhleoaaGreatDoor.Ghost
open Go
def inQ (w:den Za) (q:Int):Prop:=0≤q∧q<(List.length (w.2.1:List Int):Int)
theorem Dm {w:den Za} {q:Int} (h:inQ w q):∃ n:Nat,q=(n:Int)∧n<List.length (w.2.1:List Int):=⟨q.toNat,by have:=h.1; omega,by have:=h.1; have:=h.2; omega⟩
theorem Uy (w:den Za) (k:Int):Zd (fun nf _ _ _=>Ko nf (w) (k)) (fun r=>r=((dec (inR w k),()),[])):=by
  refine Zd.succ (fun nf _ _ _=>Ko.eq nf _ _) ?_
  by_cases h:0≤k <;> simp [h,inR,Ta]
theorem Jv (w:den Za) (k:Int):Zd (fun nf _ _ _=>Y4 nf (w) (k)) (fun r=>r=((dec (inQ w k),()),[])):=by
  refine Zd.succ (fun nf _ _ _=>Y4.eq nf _ _) ?_
  by_cases h:0≤k <;> simp [h,inQ,Ta]
theorem Kh (k:Int):Zd (fun nf _ _ _=>Yp nf (k)) (fun r=>r=(((1,k,()),()),[])):=by
  refine Zd.succ (fun nf _ _ _=>Yp.eq nf _) ?_
  simp
open Classical in
noncomputable def giveErr (w:den Za) (p:Nat) (k q:Int):Int:=if inR w k∧inQ w q then
  (if q=(p:Int) then 12 else if Ky w q.toNat=Ky w p∧Ym w k.toNat=X2 p then (if Yr w (X2 q.toNat)<1 then 9 else 0) else 5) else 3
noncomputable def Ry (w:den Za) (p:Nat) (k q:Int):den Za×Int×Unit:=if giveErr w p k q=0 then (put w k.toNat (X2 q.toNat),0,()) else (w,giveErr w p k q,())
theorem AFk {w:den Za} {p:Nat} {k q:Int} (h:¬ giveErr w p k q=3):inR w k∧inQ w q:=by
  by_cases hn:inR w k∧inQ w q
  · exact hn
  · exact absurd (by unfold giveErr; rw [if_neg hn]) h
theorem AH8 {w:den Za} (ok:Ok w) {p:Nat} (hp:p<List.length (w.2.1:List Int)) (k q:Int):Zd (fun nf _ _ _=>Ve nf (w) ((p:Int)) (k) (q)) (fun r=>r.1=Ry w p k q):=by
  refine Zd.succ (fun nf _ _ _=>Ve.eq nf _ _ _ _) ?_
  by_cases hk:inR w k
  · by_cases hq:inQ w q
    · obtain ⟨k,rfl,hkn⟩:=Jw hk
      obtain ⟨q,rfl,hqn⟩:=Dm hq
      simp [-List.getD_eq_getElem?_getD,-List.length_eq_zero_iff,Zv,Zt,Z4,Zw,Xt,Xs,Yq,Ze (Uy w (k:Int)),(Uy w (k:Int)).prop,Ze (Jv w (q:Int)),(Jv w (q:Int)).prop,hk,hq,hkn,hqn,hp,Ze (Kh _),(Kh _).prop,Ze (Qd w ok (X2 q) (Gt q)),(Qd w ok (X2 q) (Gt q)).prop,Ze (P6 w ok.sm hkn (X2 q)),(P6 w ok.sm hkn (X2 q)).prop,Ry,giveErr]
      by_cases c1:(q:Int)=(p:Int) <;> by_cases c2:Ky w q=Ky w p <;> by_cases c3:Ym w k=X2 p <;> by_cases c4:Yr w (X2 q)<1 <;> simp [-List.getD_eq_getElem?_getD,-List.length_eq_zero_iff,Zv,Zt,Z4,Zw,Xt,Xs,Yq,c1,c2,c3,c4]
    · simp [-List.getD_eq_getElem?_getD,-List.length_eq_zero_iff,Zv,Zt,Z4,Zw,Xt,Xs,Yq,Ze (Uy w k),(Uy w k).prop,Ze (Jv w q),(Jv w q).prop,hk,hq,Ry,giveErr]
  · simp [-List.getD_eq_getElem?_getD,-List.length_eq_zero_iff,Zv,Zt,Z4,Zw,Xt,Xs,Yq,Ze (Uy w k),(Uy w k).prop,hk,Ry,giveErr]
end Go.Proofs.YtpemapoblhleoaaGreatDoor.Ghost
namespace Go.Proofs.YtpemapoblhleoaaGreatDoor.Ghost
open Go
abbrev iAt (l:List Int) (j:Nat):Int:=List.getD l j 0
def Bad (w:den Za) (l:List Int):Prop:=∃ j,j<l.length∧¬ inR w (iAt l j)
def Mq (w:den Za) (l:List Int) (p:Int):Prop:=∃ j,j<l.length∧¬ Ym w (iAt l j).toNat=((1:Int),p,())
def Dup (l:List Int):Prop:=∃ i j,i<j∧j<l.length∧iAt l i=iAt l j
theorem ALm (w:den Za) (l:List Int) (hl:l.length≤1048576) (t4:Int):∀ i,i≤l.length→Zd (fun nf fm0 _ _=>Zh.l0 nf fm0 (l) (w) t4 ((l.length:Int)) ((i:Int))) (fun r=>0≤r.1.1↔∃ j,i≤j∧j<l.length∧¬ inR w (iAt l j)):=by
  refine upto ?_ (fun i hi next => ?_)
  · refine Zd.succ1 (fun nf fm0 _ _=>Zh.l0_eq nf fm0 _ _ _ _ _) ?_
    simp [-List.getD_eq_getElem?_getD,-List.length_eq_zero_iff,Zv,Zt,Z4,Zw,Xt,Xs,Yq]
    exact fun j h1 h2=>by omega
  · have sp:∀ k,Zd (fun nf _ _ _=>Y3 nf (k) (w)) (fun r=>r=((dec (¬ inR w k),()),[])):=fun k=>by
      refine Zd.succ (fun nf _ _ _=>Y3.eq nf _ _) ?_
      simp [-List.getD_eq_getElem?_getD,-List.length_eq_zero_iff,Zv,Zt,Z4,Zw,Xt,Xs,Yq,Ze (Uy w k),(Uy w k).prop]
    refine Zd.succ1 (fun nf fm0 _ _=>Zh.l0_eq nf fm0 _ _ _ _ _) ?_
    rw [← Xr (by omega)] at next
    by_cases h:inR w (iAt l i)
    · have next:=next.mono (Q':=fun r=>0≤r.1.1↔∃ j,i≤j∧j<l.length∧¬ inR w (iAt l j)) (fun v hv=>hv.trans ⟨fun ⟨j,a,b,c⟩=>⟨j,by omega,b,c⟩,fun ⟨j,a,b,c⟩=>⟨j,by
        by_cases e:j=i
        · subst e; exact absurd h c
        · omega,b,c⟩⟩)
      simp [-List.getD_eq_getElem?_getD,-List.length_eq_zero_iff,Zv,Zt,Z4,Zw,Xt,Xs,Yq,hi,Ze (sp _),(sp _).prop,h]
      exact next
    · simp [-List.getD_eq_getElem?_getD,-List.length_eq_zero_iff,Zv,Zt,Z4,Zw,Xt,Xs,Yq,hi,Ze (sp _),(sp _).prop,h]
      exact ⟨i,Nat.le_refl i,hi,h⟩
theorem Ll (w:den Za) (l:List Int) (hl:l.length≤1048576):Zd (fun nf _ _ _=>Z6 nf (l) (w)) (fun r=>r.1.1=true↔Bad w l):=by
  have h:Zd (fun nf _ _ _=>Zh nf (l) (w)) (fun r=>0≤r.1.1↔Bad w l):=by
    refine Zd.succ (fun nf _ _ _=>Zh.eq nf _ _) ?_
    exact (ALm w l hl _ 0 (Nat.zero_le _)).enter.mono (fun v hv=>hv.trans ⟨fun ⟨j,_,b,c⟩=>⟨j,b,c⟩,fun ⟨j,b,c⟩=>⟨j,Nat.zero_le _,b,c⟩⟩)
  refine Zd.succ (fun nf _ _ _=>Z6.eq nf _ _) ?_
  simp [Ze (h),(h).prop]
theorem AIk (w:den Za) (l:List Int) (hl:l.length≤1048576) (hb:¬ Bad w l) (p:Int) (t4:Int):∀ i,i≤l.length→Zd (fun nf fm0 _ _=>Zo.l0 nf fm0 (l) (w) (p) t4 ((l.length:Int)) ((i:Int))) (fun r=>0≤r.1.1↔∃ j,i≤j∧j<l.length∧¬ Ym w (iAt l j).toNat=((1:Int),p,())):=by
  refine upto ?_ (fun i hi next => ?_)
  · refine Zd.succ1 (fun nf fm0 _ _=>Zo.l0_eq nf fm0 _ _ _ _ _ _) ?_
    simp [-List.getD_eq_getElem?_getD,-List.length_eq_zero_iff,Zv,Zt,Z4,Zw,Xt,Xs,Yq]
    exact fun j h1 h2=>by omega
  · have hin:inR w (iAt l i):=Classical.byContradiction (fun h=>hb ⟨i,hi,h⟩)
    obtain ⟨k,ek,hk⟩:=Jw hin
    have sp:Zd (fun nf _ _ _=>Yj nf ((k:Int)) (w) (p)) (fun r=>r=((dec (¬ Ym w k=((1:Int),p,())),()),[])):=by
      refine Zd.succ (fun nf _ _ _=>Yj.eq nf _ _ _) ?_
      simp [-List.getD_eq_getElem?_getD,-List.length_eq_zero_iff,Zv,Zt,Z4,Zw,Xt,Xs,Yq,hk,Ze (Kh p),(Kh p).prop]
    refine Zd.succ1 (fun nf fm0 _ _=>Zo.l0_eq nf fm0 _ _ _ _ _ _) ?_
    rw [← Xr (by omega)] at next
    by_cases h:Ym w (iAt l i).toNat=((1:Int),p,())
    · have next:=next.mono (Q':=fun r=>0≤r.1.1↔∃ j,i≤j∧j<l.length∧¬ Ym w (iAt l j).toNat=((1:Int),p,())) (fun v hv=>hv.trans ⟨fun ⟨j,a,b,c⟩=>⟨j,by omega,b,c⟩,fun ⟨j,a,b,c⟩=>⟨j,by
        by_cases e:j=i
        · subst e; exact absurd h c
        · omega,b,c⟩⟩)
      rw [ek,Int.toNat_natCast] at h
      simp [-List.getD_eq_getElem?_getD,-List.length_eq_zero_iff,Zv,Zt,Z4,Zw,Xt,Xs,Yq,hi,ek,Ze (sp),(sp).prop,h]
      exact next
    · have h':=h
      rw [ek,Int.toNat_natCast] at h'
      simp [-List.getD_eq_getElem?_getD,-List.length_eq_zero_iff,Zv,Zt,Z4,Zw,Xt,Xs,Yq,hi,ek,Ze (sp),(sp).prop,h']
      exact ⟨i,Nat.le_refl i,hi,h⟩
theorem Ns (w:den Za) (l:List Int) (hl:l.length≤1048576) (hb:¬ Bad w l) (p:Int):Zd (fun nf _ _ _=>Yv nf (l) (p) (w)) (fun r=>r.1.1=true↔Mq w l p):=by
  have h:Zd (fun nf _ _ _=>Zo nf (l) (w) (p)) (fun r=>0≤r.1.1↔Mq w l p):=by
    refine Zd.succ (fun nf _ _ _=>Zo.eq nf _ _ _) ?_
    exact (AIk w l hl hb p _ 0 (Nat.zero_le _)).enter.mono (fun v hv=>hv.trans ⟨fun ⟨j,_,b,c⟩=>⟨j,b,c⟩,fun ⟨j,b,c⟩=>⟨j,Nat.zero_le _,b,c⟩⟩)
  have h2:Zd (fun nf _ _ _=>Xu nf (l) (w) (p)) (fun r=>r.1.1=true↔Mq w l p):=by
    refine Zd.succ (fun nf _ _ _=>Xu.eq nf _ _ _) ?_
    simp [Ze (h),(h).prop]
  refine Zd.succ (fun nf _ _ _=>Yv.eq nf _ _ _) ?_
  simp [Ze (h2),(h2).bprop]
theorem Nb (k k':Int) (v:Bool):(m:List (Int×Bool))→Yn (.int .i64) .bool k' (Gl (.int .i64) .bool k v m)=if k'=k then some v else Yn (.int .i64) .bool k' m
  | []=>by
    simp only [Gl,Yn,eqT]
    by_cases h:k'=k <;> simp [h]
  | (a,b) :: r=>by
    have ih:=Nb k k' v r
    simp only [Gl,Yn,eqT]
    by_cases h1:k=a
    · subst h1
      simp only [beq_self_eq_true,if_true,Yn,eqT]
      by_cases h:k'=k <;> simp [h]
    · have h1':(k == a)=false:=by simpa using h1
      simp only [h1',Bool.false_eq_true,if_false,Yn,eqT,ih]
      by_cases h2:k'=a
      · subst h2
        have:¬ k'=k:=fun e=>h1 e.symm
        simp [this]
      · have h2':(k' == a)=false:=by simpa using h2
        simp [h2']
theorem AMl (l:List Int) (hl:l.length≤1048576) (t0:(List Int)) (t2:Bool):∀ i,i≤l.length→∀ m:List (Int×Bool),(∀ k,Yn (.int .i64) .bool k m=some true∨Yn (.int .i64) .bool k m=none)→(∀ k,Yn (.int .i64) .bool k m=some true↔∃ i',i'<i∧iAt l i'=k) →
    Zd (fun nf fm0 _ _=>Xi.l0 nf fm0 t0 t2 (l) ((l.length:Int)) ((i:Int)) (m)) (fun r=>r.1.1=true↔∃ i' j,i'<j∧i≤j∧j<l.length∧iAt l i'=iAt l j):=by
  refine upto (fun m hm0 hm => ?_) (fun i hi next m hm0 hm => ?_)
  · refine Zd.succ1 (fun nf fm0 _ _=>Xi.l0_eq nf fm0 _ _ _ _ _ _) ?_
    simp [-List.getD_eq_getElem?_getD,-List.length_eq_zero_iff,Zv,Zt,Z4,Zw,Xt,Xs,Yq]
    exact fun _ j _ h1 h2=>by omega
  · refine Zd.succ1 (fun nf fm0 _ _=>Xi.l0_eq nf fm0 _ _ _ _ _ _) ?_
    by_cases h:∃ i',i'<i∧iAt l i'=iAt l i
    · have hf:=(hm (iAt l i)).2 h
      simp [-List.getD_eq_getElem?_getD,-List.length_eq_zero_iff,Zv,Zt,Z4,Zw,Xt,Xs,Yq,hi,hf]
      obtain ⟨i',h1,h2⟩:=h
      exact ⟨i',i,h1,Nat.le_refl i,hi,h2⟩
    · have hf:Yn (.int .i64) .bool (iAt l i) m=none:=(hm0 _).resolve_left (fun e=>h ((hm _).1 e))
      have next:=next (Gl (.int .i64) .bool (iAt l i) true m) (fun k=>by
        rw [Nb]
        split
        · exact .inl rfl
        · exact hm0 k) (fun k=>by
        rw [Nb]
        by_cases e:k=iAt l i
        · rw [if_pos e]; exact ⟨fun _=>⟨i,by omega,e.symm⟩,fun _=>rfl⟩
        · rw [if_neg e,hm k]
          exact ⟨fun ⟨j,a,b⟩=>⟨j,by omega,b⟩,fun ⟨j,a,b⟩=>⟨j,by
            by_cases e2:j=i
            · subst e2; exact absurd b.symm e
            · omega,b⟩⟩)
      rw [← Xr (by omega)] at next
      have next:=next.mono (Q':=fun r=>r.1.1=true↔∃ i' j,i'<j∧i≤j∧j<l.length∧iAt l i'=iAt l j) (fun v hv=>hv.trans ⟨fun ⟨i',j,a,b,c,d⟩=>⟨i',j,a,by omega,c,d⟩,fun ⟨i',j,a,b,c,d⟩=>⟨i',j,a,by
        by_cases e:j=i
        · subst e; exact absurd ⟨i',a,d⟩ h
        · omega,c,d⟩⟩)
      simp [-List.getD_eq_getElem?_getD,-List.length_eq_zero_iff,Zv,Zt,Z4,Zw,Xt,Xs,Yq,hi,hf]
      exact next
theorem B1 (l:List Int) (hl:l.length≤1048576):Zd (fun nf _ _ _=>Xi nf (l)) (fun r=>r.1.1=true↔Dup l):=by
  refine Zd.succ (fun nf _ _ _=>Xi.eq nf _) ?_
  exact (AMl l hl l false 0 (Nat.zero_le _) [] (fun k=>.inr rfl) (fun k=>⟨fun h=>(by cases h),fun ⟨i,h,_⟩=>by omega⟩)).enter.mono (fun v hv=>hv.trans ⟨fun ⟨i,j,a,_,c,d⟩=>⟨i,j,a,c,d⟩,fun ⟨i,j,a,c,d⟩=>⟨i,j,a,Nat.zero_le _,c,d⟩⟩)
end Go.Proofs.YtpemapoblhleoaaGreatDoor.Ghost
namespace Go.Proofs.YtpemapoblhleoaaGreatDoor.Ghost
open Go
def Ho (x:Int):Prop:=0≤x∧x≤1073741824
open Classical in
noncomputable def swapErr (a b pay fee:Int):Int:=if a<pay∨b<fee then 10 else if Ho (a - pay+fee)∧Ho (b - fee+pay) then 0 else 11
noncomputable def AE0 (a b pay fee:Int):Int×Int×Int×Unit:=if swapErr a b pay fee=0 then (a - pay+fee,b - fee+pay,0,()) else (a,b,swapErr a b pay fee,())
theorem Eh (a:Int):Zd (fun nf _ _ _=>Hy nf (a)) (fun r=>r=((dec (Ho a),()),[])):=by
  refine Zd.succ (fun nf _ _ _=>Hy.eq nf _) ?_
  by_cases h:0≤a <;> simp [h,Ho,Ta]
theorem AA1 {a b pay fee:Int} (ha:Ho a) (hb:Ho b) (hp:Ho pay) (hf:Ho fee):Zd (fun nf _ _ _=>V3 nf (a) (b) (pay) (fee)) (fun r=>r.1=AE0 a b pay fee):=by
  obtain ⟨a1,a2⟩:=ha; obtain ⟨b1,b2⟩:=hb; obtain ⟨p1,p2⟩:=hp; obtain ⟨f1,f2⟩:=hf
  have e1:IntKind.wrap .i64 (a - pay)=a - pay:=Hl (by omega) (by omega)
  have e2:IntKind.wrap .i64 (b - fee)=b - fee:=Hl (by omega) (by omega)
  have e3:IntKind.wrap .i64 (a - pay+fee)=a - pay+fee:=Hl (by omega) (by omega)
  have e4:IntKind.wrap .i64 (b - fee+pay)=b - fee+pay:=Hl (by omega) (by omega)
  refine Zd.succ (fun nf _ _ _=>V3.eq nf _ _ _ _) ?_
  simp [-List.getD_eq_getElem?_getD,-List.length_eq_zero_iff,Zv,Zt,Z4,Zw,Xt,Xs,Yq,show ¬ pay<0 by omega,show ¬ fee<0 by omega,e1,e2,e3,e4,Ze (Eh _),(Eh _).prop,AE0,swapErr]
  by_cases c1:a<pay <;> by_cases c2:b<fee <;> by_cases c3:Ho (a - pay+fee) <;> by_cases c4:Ho (b - fee+pay) <;> simp [c1,c2,c3,c4]
theorem AI1 (a b pay fee:Int):(AE0 a b pay fee).2.2.1=swapErr a b pay fee:=by
  unfold AE0
  split
  · rename_i h; exact h.symm
  · rfl
def Vt (l:List Pl) (xs:List Int) (p:Pl):Nat→List Pl
  | 0=>l
  | i+1=>List.set (Vt l xs p i) (iAt xs i).toNat p
theorem Jt (l:List Pl) (xs:List Int) (p:Pl):(i:Nat)→(Vt l xs p i).length=l.length
  | 0=>rfl
  | i+1=>by simp only [Vt,List.length_set,Jt l xs p i]
abbrev meI (q:Int):Pl:=((1:Int),q,())
def K6 (w:den Za) (p:Nat) (q:Int) (gs ws:List Int):List Pl:=Vt (Vt w.2.2.2.1 gs (meI q) gs.length) ws (X2 p) ws.length
def AGg (w:den Za) (p:Nat) (q:Int) (gs ws:List Int) (a b:Int):den Za:=(w.1,w.2.1,List.set (List.set (w.2.2.1:List Int) p a) q.toNat b,K6 w p q gs ws,())
open Classical in
noncomputable def tradeErr (w:den Za) (p:Nat) (q:Int) (gs:List Int) (pay:Int) (ws:List Int) (fee:Int):Int :=
  if ¬ inQ w q then 3 else if Bad w (gs ++ ws) then 3 else if q=(p:Int) then 12 else if ¬ Ky w q.toNat=Ky w p then 5 else if Dup (gs ++ ws) then 13 else if Mq w gs p then 5 else if Mq w ws q then 5
  else if Yr w (X2 p)<(ws.length:Int) - (gs.length:Int) then 9 else if Yr w (meI q)<(gs.length:Int) - (ws.length:Int) then 9 else swapErr (Vs w p) (Vs w q.toNat) pay fee
noncomputable def Kr (w:den Za) (p:Nat) (q:Int) (gs:List Int) (pay:Int) (ws:List Int) (fee:Int):den Za×Int×Unit :=
  if tradeErr w p q gs pay ws fee=0 then (AGg w p q gs ws (Vs w p - pay+fee) (Vs w q.toNat - fee+pay),0,()) else (w,tradeErr w p q gs pay ws fee,())
theorem AMk {N:Nat} (p:Nat) (ws:List Int) (hws:ws.length≤1048576) (base:List Pl) (hb:base.length=N) (hin:∀ j,j<ws.length→0≤iAt ws j∧iAt ws j<(N:Int)) (t0:(den Za)) (t2:(den Z1)) (t7:Int) (t8:Int) (t9:(List Int)) (t11:Int) (t12:Int) (t13:Int) (t14:Int) (t135:(List Int)) (t136:Int) (t137:Int) (o0:(den Za)) (o1:(den Z1)) (o2:(den Za)) (o3:(List (List Int))) (o4:(den Za)) (o5:(List Int)) :
    ∀ i,i≤ws.length→Zd (fun nf fm0 _ _=>Z2.l1 nf fm0 t0 ((p:Int)) t2 t7 t8 t9 t11 t12 t13 t14 t135 t136 t137 (ws) ((ws.length:Int)) ((i:Int)) o0 o1 o2 o3 o4 o5 (Vt base ws (X2 p) i)) (fun r=>r=(((o4.1,o4.2.1,o5,Vt base ws (X2 p) ws.length,()),0,()),[(0,[2]),(0,[3])])):=by
  refine upto ?_ (fun i hi next => ?_)
  · refine Zd.succ1 (fun nf fm0 _ _=>Z2.l1_eq nf fm0 _ _ _ _ _ _ _ _ _ _ _ _ _ _ _ _ _ _ _ _ _ _ _) ?_
    simp [-List.getD_eq_getElem?_getD,-List.length_eq_zero_iff,Zv,Zt,Z4,Zw,Xt,Xs,Yq]
  · refine Zd.succ1 (fun nf fm0 _ _=>Z2.l1_eq nf fm0 _ _ _ _ _ _ _ _ _ _ _ _ _ _ _ _ _ _ _ _ _ _ _) ?_
    rw [← Xr (by omega)] at next
    have hl:=Jt base ws (X2 p) i
    have h:=hin i hi
    simp [-List.getD_eq_getElem?_getD,-List.length_eq_zero_iff,Zv,Zt,Z4,Zw,Xt,Xs,Yq,hi,Ze (Kh _),(Kh _).prop,hl,hb,h]
    exact next
theorem AMj {N:Nat} (p:Nat) (q:Int) (c:Cm) (hws:(Xk c).length≤1048576) (hgs:(Xf c).length≤1048576) (base:List Pl) (hb:base.length=N) (hin:∀ j,j<(Xk c).length→0≤iAt (Xk c) j∧iAt (Xk c) j<(N:Int)) (hin':∀ j,j<(Xf c).length→0≤iAt (Xf c) j∧iAt (Xf c) j<(N:Int)) (t0:(den Za)) (t2:(den Z1)) (t7:Int) (t9:(List Int)) (t11:Int) (t12:Int) (t13:Int) (t14:Int) (o0:(den Za)) (o2:(den Za)) (o3:(List (List Int))) (o4:(den Za)) (o5:(List Int)) :
    ∀ i,i≤(Xf c).length→Zd (fun nf fm0 _ _=>Z2.l0 nf fm0 t0 ((p:Int)) t2 t7 (q) t9 t11 t12 t13 t14 (Xf c) (((Xf c).length:Int)) ((i:Int)) o0 (c) o2 o3 o4 o5 (Vt base (Xf c) (meI q) i)) (fun r=>r=(((o4.1,o4.2.1,o5,Vt (Vt base (Xf c) (meI q) (Xf c).length) (Xk c) (X2 p) (Xk c).length,()),0,()),[(0,[2]),(0,[3])])):=by
  refine upto ?_ (fun i hi next => ?_)
  · refine Zd.succ1 (fun nf fm0 _ _=>Z2.l0_eq nf fm0 _ _ _ _ _ _ _ _ _ _ _ _ _ _ _ _ _ _ _ _) ?_
    simp [-List.getD_eq_getElem?_getD,-List.length_eq_zero_iff,Zv,Zt,Z4,Zw,Xt,Xs,Yq]
    exact (AMk p (Xk c) hws _ (by rw [Jt]; exact hb) hin _ _ _ _ _ _ _ _ _ _ _ _ _ _ _ _ _ _ 0 (Nat.zero_le _)).enter
  · refine Zd.succ1 (fun nf fm0 _ _=>Z2.l0_eq nf fm0 _ _ _ _ _ _ _ _ _ _ _ _ _ _ _ _ _ _ _ _) ?_
    rw [← Xr (by omega)] at next
    have hl:=Jt base (Xf c) (meI q) i
    have h:=hin' i hi
    simp [-List.getD_eq_getElem?_getD,-List.length_eq_zero_iff,Zv,Zt,Z4,Zw,Xt,Xs,Yq,hi,Ze (Kh _),(Kh _).prop,hl,hb,h]
    exact next
theorem Tv {w:den Za} {l:List Int} (h:¬ Bad w l):∀ j,j<l.length→inR w (iAt l j):=fun j hj=>Classical.byContradiction (fun hn=>h ⟨j,hj,hn⟩)
theorem O8 {a b:List Int} {j:Nat} (h:j<a.length):iAt (a ++ b) j=iAt a j:=by
  unfold iAt; rw [List.getD_eq_getElem?_getD,List.getD_eq_getElem?_getD,List.getElem?_append_left h]
theorem R2 {a b:List Int} (j:Nat):iAt (a ++ b) (a.length+j)=iAt b j:=by
  unfold iAt; rw [List.getD_eq_getElem?_getD,List.getD_eq_getElem?_getD,List.getElem?_append_right (by omega),Nat.add_sub_cancel_left]
theorem AGm {w:den Za} {a b:List Int} (h:¬ Bad w (a ++ b)):¬ Bad w a∧¬ Bad w b :=
  ⟨fun ⟨j,h1,h2⟩=>h ⟨j,by rw [List.length_append]; omega,by rw [O8 h1]; exact h2⟩,fun ⟨j,h1,h2⟩=>h ⟨a.length+j,by rw [List.length_append]; omega,by rw [R2]; exact h2⟩⟩
theorem Ls {w:den Za} (h:X1 w) {i:Nat} (hi:i<List.length (w.2.1:List Int)):Ho (Vs w i):=(h.at_ i hi).2
theorem Gr (a b:List Int) (ha:a.length≤524288) (hb:b.length≤524288):Zd (fun nf _ _ _=>Vj nf [a,b]) (fun r=>r=((a ++ b,()),[(0,[])])) :=
  Zd.succ (G:=fun _ _ _ _=>some ((a ++ b,()),[(0,[])])) (fun n _ _ _=>by
    show (if List.length a≤524288∧List.length b≤524288 then _ else none)=_
    rw [if_pos ⟨ha,hb⟩]) (Zd.ret rfl)
theorem AGh {w:den Za} (ok:Ok w) {p:Nat} (hp:p<List.length (w.2.1:List Int)) (c:Cm) (hg:(Xf c).length≤100) (hw:(Xk c).length≤100) (hpay:Ho (Uv c)) (hfee:Ho (Uu c)) :
    Zd (fun nf _ _ _=>Z2 nf (w) ((p:Int)) (c)) (fun r=>r=(Kr w p (Gb c) (Xf c) (Uv c) (Xk c) (Uu c),if tradeErr w p (Gb c) (Xf c) (Uv c) (Xk c) (Uu c)=0 then [(0,[2]),(0,[3])] else [])):=by
  have hlen:(Xf c ++ Xk c).length≤1048576:=by rw [List.length_append]; omega
  refine Zd.succ (fun nf _ _ _=>Z2.eq nf _ _ _) ?_
  by_cases c1:inQ w (Gb c)
  · by_cases c2:Bad w (Xf c ++ Xk c)
    · simp [-List.getD_eq_getElem?_getD,-List.length_eq_zero_iff,Zv,Zt,Z4,Zw,Xt,Xs,Yq,Ze (Gr (Xf c) (Xk c) (by omega) (by omega)),(Gr (Xf c) (Xk c) (by omega) (by omega)).prop,Ze (Jv w _),(Jv w _).prop,Ze (Ll w (Xf c ++ Xk c) hlen),(Ll w (Xf c ++ Xk c) hlen).bprop,c1,c2,Kr,tradeErr]
    · obtain ⟨q,eq,hq⟩:=Dm c1
      have hin:=Tv c2
      obtain ⟨bg,bw⟩:=AGm c2
      have hc1:=ok.right.c1
      have ha1:=ok.right.a1
      have hpc:p<List.length (w.2.2.1:List Int):=by omega
      have hqc:q<List.length (w.2.2.1:List Int):=by omega
      have e1:IntKind.wrap .i64 (((Xk c).length:Int) - ((Xf c).length:Int))=((Xk c).length:Int) - ((Xf c).length:Int):=Hl (by omega) (by omega)
      have e2:IntKind.wrap .i64 (-(((Xk c).length:Int) - ((Xf c).length:Int)))=((Xf c).length:Int) - ((Xk c).length:Int):=by rw [Hl (by omega) (by omega)]; omega
      simp only [eq]
      simp [-List.getD_eq_getElem?_getD,-List.length_eq_zero_iff,Zv,Zt,Z4,Zw,Xt,Xs,Yq,Ze (Gr (Xf c) (Xk c) (by omega) (by omega)),(Gr (Xf c) (Xk c) (by omega) (by omega)).prop,Ze (Jv w _),(Jv w _).prop,Ze (Ll w (Xf c ++ Xk c) hlen),(Ll w (Xf c ++ Xk c) hlen).bprop,c2,hq,hp,show inQ w (q:Int) from eq ▸ c1,Ze (B1 (Xf c ++ Xk c) hlen),(B1 (Xf c ++ Xk c) hlen).bprop,Ze (Ns w (Xf c) (by omega) bg (p:Int)),(Ns w (Xf c) (by omega) bg (p:Int)).bprop,Ze (Ns w (Xk c) (by omega) bw (q:Int)),(Ns w (Xk c) (by omega) bw (q:Int)).bprop,Ze (Kh _),(Kh _).prop,Ze (Qd w ok (X2 p) (Gt p)),(Qd w ok (X2 p) (Gt p)).prop,Ze (Qd w ok (X2 q) (Gt q)),(Qd w ok (X2 q) (Gt q)).prop,e1,e2,hpc,hqc,Ze (AA1 (Ls ok.right hp) (Ls ok.right hq) hpay hfee),(AA1 (Ls ok.right hp) (Ls ok.right hq) hpay hfee).prop,AI1]
      by_cases c3:(q:Int)=(p:Int)
      · simp [-List.getD_eq_getElem?_getD,-List.length_eq_zero_iff,Zv,Zt,Z4,Zw,Xt,Xs,Yq,c3,c2,Kr,tradeErr,show inQ w (p:Int) from c3 ▸ eq ▸ c1]
      by_cases c4:Ky w q=Ky w p
      rotate_left
      · simp [-List.getD_eq_getElem?_getD,-List.length_eq_zero_iff,Zv,Zt,Z4,Zw,Xt,Xs,Yq,c3,c4,c2,Kr,tradeErr,show inQ w (q:Int) from eq ▸ c1]
      by_cases c5:Dup (Xf c ++ Xk c)
      · simp [-List.getD_eq_getElem?_getD,-List.length_eq_zero_iff,Zv,Zt,Z4,Zw,Xt,Xs,Yq,c3,c4,c5,c2,Kr,tradeErr,show inQ w (q:Int) from eq ▸ c1]
      by_cases c6:Mq w (Xf c) (p:Int)
      · simp [-List.getD_eq_getElem?_getD,-List.length_eq_zero_iff,Zv,Zt,Z4,Zw,Xt,Xs,Yq,c3,c4,c5,c6,c2,Kr,tradeErr,show inQ w (q:Int) from eq ▸ c1]
      by_cases c7:Mq w (Xk c) (q:Int)
      · simp [-List.getD_eq_getElem?_getD,-List.length_eq_zero_iff,Zv,Zt,Z4,Zw,Xt,Xs,Yq,c3,c4,c5,c6,c7,c2,Kr,tradeErr,show inQ w (q:Int) from eq ▸ c1]
      by_cases c8:Yr w (X2 p)<((Xk c).length:Int) - ((Xf c).length:Int)
      · simp [-List.getD_eq_getElem?_getD,-List.length_eq_zero_iff,Zv,Zt,Z4,Zw,Xt,Xs,Yq,c3,c4,c5,c6,c7,c8,c2,Kr,tradeErr,show inQ w (q:Int) from eq ▸ c1]
        intro h; omega
      by_cases c9:Yr w (X2 q)<((Xf c).length:Int) - ((Xk c).length:Int)
      · simp [-List.getD_eq_getElem?_getD,-List.length_eq_zero_iff,Zv,Zt,Z4,Zw,Xt,Xs,Yq,c3,c4,c5,c6,c7,c8,c9,c2,Kr,tradeErr,show inQ w (q:Int) from eq ▸ c1]
        intro h; omega
      by_cases ca:swapErr (Vs w p) (Vs w q) (Uv c) (Uu c)=0
      rotate_left
      · simp [-List.getD_eq_getElem?_getD,-List.length_eq_zero_iff,Zv,Zt,Z4,Zw,Xt,Xs,Yq,c3,c4,c5,c6,c7,c8,c9,ca,c2,Kr,tradeErr,show inQ w (q:Int) from eq ▸ c1]
      simp [-List.getD_eq_getElem?_getD,-List.length_eq_zero_iff,Zv,Zt,Z4,Zw,Xt,Xs,Yq,c3,c4,c5,c6,c7,c8,c9,ca,c2,Kr,tradeErr,show inQ w (q:Int) from eq ▸ c1,Ze (Nx w ok.sm),(Nx w ok.sm).prop,hpc,hqc,AE0]
      intro _ _
      exact (AMj (N:=List.length (w.2.2.2.1:List (den Zb))) p (q:Int) c (by omega) (by omega) w.2.2.2.1 rfl (Tv bw) (Tv bg) _ _ _ _ _ _ _ _ _ _ _ _ _ 0 (Nat.zero_le _)).enter
  · simp [-List.getD_eq_getElem?_getD,-List.length_eq_zero_iff,Zv,Zt,Z4,Zw,Xt,Xs,Yq,Ze (Gr (Xf c) (Xk c) (by omega) (by omega)),(Gr (Xf c) (Xk c) (by omega) (by omega)).prop,Ze (Jv w _),(Jv w _).prop,c1,Kr,tradeErr]
end Go.Proofs.YtpemapoblhleoaaGreatDoor.Ghost
namespace Go.Proofs.YtpemapoblhleoaaGreatDoor.Ghost
open Go
section
variable {w:den Za} (ok:Ok w) {p q:Nat} (hp:p<List.length (w.2.1:List Int)) (hq:q<List.length (w.2.1:List Int)) (c:Cm) (hg:(Xf c).length≤100) (hw:(Xk c).length≤100) (hpay:Ho (Uv c)) (hfee:Ho (Uu c)) (hbad:¬ Bad w (Xf c ++ Xk c))
include ok hp hq hg hw hpay hfee hbad
abbrev AQk (w:den Za) (p q:Nat) (c:Cm):den Za:=AGg w p q (Xf c) (Xk c) (Vs w p - Uv c+Uu c) (Vs w q - Uu c+Uv c)
open Classical in
noncomputable def lastR (w:den Za) (p q:Nat) (c:Cm) (rp rq:Int):den Za×Int×Unit :=
  if rp<0 then (w,9,()) else if rq<0 then (w,9,()) else if swapErr (Vs w p) (Vs w q) (Uv c) (Uu c)=0 then (AQk w p q c,0,()) else (w,swapErr (Vs w p) (Vs w q) (Uv c) (Uu c),())
end
end Go.Proofs.YtpemapoblhleoaaGreatDoor.Ghost
namespace Go.Proofs.YtpemapoblhleoaaGreatDoor.Ghost
open Go
open Classical in
theorem setAll_get {l:List Pl} {xs:List Int} {p:Pl}:{n:Nat}→(∀ j,j<n→0≤iAt xs j∧iAt xs j<(l.length:Int))→(k:Nat)→List.getD (Vt l xs p n) k (dft Zb)=if ∃ i,i<n∧iAt xs i=(k:Int) then p else List.getD l k (dft Zb)
  | 0,_,k=>by rw [if_neg (fun ⟨i,h,_⟩=>by omega)]; rfl
  | n+1,hin,k=>by
    have ih:=setAll_get (l:=l) (xs:=xs) (p:=p) (n:=n) (fun j hj=>hin j (by omega)) k
    have h:=hin n (by omega)
    simp only [Vt]
    rw [Gd _ _ _ _ _ (by rw [Jt]; omega)]
    by_cases e:k=(iAt xs n).toNat
    · rw [if_pos e,if_pos ⟨n,by omega,by omega⟩]
    · rw [if_neg e,ih]
      by_cases h2:∃ i,i<n∧iAt xs i=(k:Int)
      · obtain ⟨i,a,b⟩:=h2
        rw [if_pos ⟨i,a,b⟩,if_pos ⟨i,by omega,b⟩]
      · rw [if_neg h2,if_neg (fun ⟨i,a,b⟩=>h2 ⟨i,by
          by_cases e2:i=n
          · subst e2; omega
          · omega,b⟩)]
structure Lot (l:List Pl) (xs:List Int) (src:Pl):Prop where
  inn:∀ j,j<xs.length→0≤iAt xs j∧iAt xs j<(l.length:Int)
  at_:∀ j,j<xs.length→List.getD l (iAt xs j).toNat (dft Zb)=src
  one:∀ i j,i<j→j<xs.length→¬ iAt xs i=iAt xs j
theorem Lot.get {l:List Pl} {xs:List Int} {src p:Pl} (h:Lot l xs src) {n:Nat} (hn:n<xs.length):List.getD (Vt l xs p n) (iAt xs n).toNat (dft Zb)=src:=by
  have hi:=h.inn n hn
  rw [setAll_get (fun j hj=>h.inn j (by omega)),if_neg (fun ⟨i,a,b⟩=>h.one i n a hn (by omega))]
  exact h.at_ n hn
theorem Lot.many {l:List Pl} {xs:List Int} {src p:Pl} (h:Lot l xs src) (t:Pl):{n:Nat}→n≤xs.length→Yl (Vt l xs p n) t l.length+(if src=t then n else 0)=Yl l t l.length+(if p=t then n else 0)
  | 0,_=>by simp [Vt]
  | n+1,hn=>by
    have ih:=Lot.many h (p:=p) t (n:=n) (by omega)
    have hi:=h.inn n (by omega)
    have hk:(iAt xs n).toNat<(Vt l xs p n).length:=by rw [Jt]; omega
    have:=Tf (Vt l xs p n) (iAt xs n).toNat p t hk l.length
    rw [h.get (by omega)] at this
    have hk':(iAt xs n).toNat<l.length:=by omega
    simp only [hk',true_and] at this
    simp only [Vt]
    by_cases c1:src=t <;> by_cases c2:p=t <;> simp only [c1,c2,if_true,if_false] at this ih ⊢ <;> omega
structure AHp (w:den Za) (p q:Nat) (gs ws:List Int):Prop where
  pq:¬ p=q
  lg:Lot w.2.2.2.1 gs (X2 p)
  lw:Lot (Vt w.2.2.2.1 gs (X2 q) gs.length) ws (X2 q)
  lw0:Lot w.2.2.2.1 ws (X2 q)
  gw:∀ i j,i<gs.length→j<ws.length→¬ iAt gs i=iAt ws j
theorem AL2 {p q:Nat} (h:X2 p=X2 q):p=q:=Int.ofNat.inj (congrArg (fun x:Pl=>(x.2.1:Int)) h)
theorem AQb {w:den Za} {p q:Nat} {gs ws:List Int} (hpq:¬ p=q) (hb:¬ Bad w (gs ++ ws)) (hd:¬ Dup (gs ++ ws)) (hg:¬ Mq w gs p) (hw:¬ Mq w ws q):AHp w p q gs ws:=by
  obtain ⟨bg,bw⟩:=AGm hb
  have hgw:∀ i j,i<gs.length→j<ws.length→¬ iAt gs i=iAt ws j:=fun i j hi hj e=>hd ⟨i,gs.length+j,by omega,by rw [List.length_append]; omega,by rw [O8 hi,R2]; exact e⟩
  have ag:∀ j,j<gs.length→List.getD (w.2.2.2.1:List Pl) (iAt gs j).toNat (dft Zb)=X2 p:=fun j hj=>Classical.byContradiction (fun h=>hg ⟨j,hj,h⟩)
  have aw:∀ j,j<ws.length→List.getD (w.2.2.2.1:List Pl) (iAt ws j).toNat (dft Zb)=X2 q:=fun j hj=>Classical.byContradiction (fun h=>hw ⟨j,hj,h⟩)
  have ng:∀ i j,i<j→j<gs.length→¬ iAt gs i=iAt gs j:=fun i j hi hj e=>hd ⟨i,j,hi,by rw [List.length_append]; omega,by rw [O8 (by omega),O8 hj]; exact e⟩
  have nw:∀ i j,i<j→j<ws.length→¬ iAt ws i=iAt ws j:=fun i j hi hj e=>hd ⟨gs.length+i,gs.length+j,by omega,by rw [List.length_append]; omega,by rw [R2,R2]; exact e⟩
  refine ⟨hpq,⟨Tv bg,ag,ng⟩,⟨fun j hj=>by rw [Jt]; exact Tv bw j hj,fun j hj => ?_,nw⟩,⟨Tv bw,aw,nw⟩,hgw⟩
  have hj':=Tv bw j hj
  rw [setAll_get (Tv bg)]
  split
  · rfl
  · exact aw j hj
theorem AHp.room {w:den Za} {p q:Nat} {gs ws:List Int} (h:AHp w p q gs ws) (x:den Za) (hx1:x.1=w.1) (hx:x.2.2.2.1=K6 w p q gs ws) (t:Pl):Yr x t=Yr w t+(if X2 p=t then (gs.length:Int) - (ws.length:Int) else 0)+(if X2 q=t then (ws.length:Int) - (gs.length:Int) else 0):=by
  have h1:Yl (Vt w.2.2.2.1 gs (X2 q) gs.length) t (List.length (w.2.2.2.1:List (den Zb)))+(if X2 p=t then gs.length else 0)=Yl w.2.2.2.1 t (List.length (w.2.2.2.1:List (den Zb)))+(if X2 q=t then gs.length else 0):=h.lg.many (p:=X2 q) t (Nat.le_refl _)
  have h2:=h.lw.many (p:=X2 p) t (Nat.le_refl _)
  rw [Jt] at h2
  have h2:Yl (K6 w p q gs ws) t (List.length (w.2.2.2.1:List (den Zb)))+(if X2 q=t then ws.length else 0)=Yl (Vt w.2.2.2.1 gs (X2 q) gs.length) t (List.length (w.2.2.2.1:List (den Zb)))+(if X2 p=t then ws.length else 0):=h2
  have hl:List.length (x.2.2.2.1:List (den Zb))=List.length (w.2.2.2.1:List (den Zb)):=by rw [hx]; unfold K6; rw [Jt,Jt]
  unfold Yr
  rw [hl,hx1,hx]
  by_cases c1:X2 p=t
  · have c2:¬ X2 q=t:=fun e=>h.pq (AL2 (c1.trans e.symm))
    rw [if_pos c1,if_neg c2] at h1 h2 ⊢
    omega
  · by_cases c2:X2 q=t
    · rw [if_neg c1,if_pos c2] at h1 h2 ⊢
      omega
    · rw [if_neg c1,if_neg c2] at h1 h2 ⊢
      omega
def AMu (l:List Int) (i:Nat):Prop:=∃ a b,a<b∧i≤b∧b<l.length∧iAt l a=iAt l b
section
variable {w:den Za} (ok:Ok w) {p q:Nat} (hp:p<List.length (w.2.1:List Int)) (hq:q<List.length (w.2.1:List Int)) (c:Cm) (hg:(Xf c).length≤100) (hw:(Xk c).length≤100) (hpay:Ho (Uv c)) (hfee:Ho (Uu c)) (hbad:¬ Bad w (Xf c ++ Xk c))
include ok hp hq hg hw hpay hfee hbad
open Classical in
noncomputable def l1R (w:den Za) (p q:Nat) (c:Cm) (i:Nat):den Za×Int×Unit :=
  if AMu (Xf c ++ Xk c) i then (w,13,()) else if Mq w (Xf c) p then (w,5,()) else if Mq w (Xk c) q then (w,5,())
    else lastR w p q c (Yr (w.1,w.2.1,w.2.2.1,K6 w p q (Xf c) (Xk c),()) (X2 p)) (Yr (w.1,w.2.1,w.2.2.1,K6 w p q (Xf c) (Xk c),()) (X2 q))
open Classical in
noncomputable def l0R (w:den Za) (p q:Nat) (c:Cm):den Za×Int×Unit:=if (q:Int)=(p:Int) then (w,12,()) else if ¬ Ky w q=Ky w p then (w,5,()) else l1R w p q c 0
end
end Go.Proofs.YtpemapoblhleoaaGreatDoor.Ghost
namespace Go.Proofs.YtpemapoblhleoaaGreatDoor.Ghost
open Go
structure AGk (w:den Za) (p q:Nat) (gs:List Int) (pay:Int) (ws:List Int) (fee:Int):Prop where
  hq:q<List.length (w.2.1:List Int)
  bad:¬ Bad w (gs ++ ws)
  at_:Ky w q=Ky w p
  dup:¬ Dup (gs ++ ws)
  ag:¬ Mq w gs p
  aw:¬ Mq w ws q
  lots:AHp w p q gs ws
  rp:(ws.length:Int) - (gs.length:Int)≤Yr w (X2 p)
  rq:(gs.length:Int) - (ws.length:Int)≤Yr w (X2 q)
  sw:swapErr (Vs w p) (Vs w q) pay fee=0
theorem Ah {w:den Za} {p:Nat} {q:Int} {gs ws:List Int} {pay fee:Int} (h10:∀ a b,swapErr a b pay fee=0∨0<swapErr a b pay fee):tradeErr w p q gs pay ws fee=0↔∃ n:Nat,q=(n:Int)∧AGk w p n gs pay ws fee:=by
  constructor
  · intro h
    unfold tradeErr at h
    by_cases c1:inQ w q
    rotate_left
    · rw [if_pos c1] at h; cases h
    rw [if_neg (fun h=>h c1)] at h
    obtain ⟨n,rfl,hn⟩:=Dm c1
    by_cases c2:Bad w (gs ++ ws)
    · rw [if_pos c2] at h; cases h
    rw [if_neg c2] at h
    by_cases c3:(n:Int)=(p:Int)
    · rw [if_pos c3] at h; cases h
    rw [if_neg c3,Int.toNat_natCast] at h
    by_cases c4:Ky w n=Ky w p
    rotate_left
    · rw [if_pos c4] at h; cases h
    rw [if_neg (fun h=>h c4)] at h
    by_cases c5:Dup (gs ++ ws)
    · rw [if_pos c5] at h; cases h
    rw [if_neg c5] at h
    by_cases c6:Mq w gs p
    · rw [if_pos c6] at h; cases h
    rw [if_neg c6] at h
    by_cases c7:Mq w ws n
    · rw [if_pos c7] at h; cases h
    rw [if_neg c7] at h
    by_cases c8:Yr w (X2 p)<(ws.length:Int) - (gs.length:Int)
    · rw [if_pos c8] at h; cases h
    rw [if_neg c8] at h
    by_cases c9:Yr w (meI (n:Int))<(gs.length:Int) - (ws.length:Int)
    · rw [if_pos c9] at h; cases h
    rw [if_neg c9] at h
    exact ⟨n,rfl,hn,c2,c4,c5,c6,c7,AQb (fun e=>c3 (by rw [e])) c2 c5 c6 c7,Int.not_lt.1 c8,Int.not_lt.1 c9,h⟩
  · rintro ⟨n,rfl,h⟩
    unfold tradeErr
    rw [if_neg (fun g=>g ⟨Int.natCast_nonneg n,Int.ofNat_lt.2 h.hq⟩),if_neg h.bad,if_neg (fun e:(n:Int)=(p:Int)=>h.lots.pq (Int.ofNat.inj e).symm),Int.toNat_natCast,if_neg (fun g=>g h.at_),if_neg h.dup,if_neg h.ag,if_neg h.aw,if_neg (Int.not_lt.2 h.rp),if_neg (Int.not_lt.2 (show _≤Yr w (meI (n:Int)) from h.rq))]
    exact h.sw
theorem AGe (pay fee a b:Int):swapErr a b pay fee=0∨0<swapErr a b pay fee:=by
  unfold swapErr
  split
  · exact .inr (by decide)
  · split
    · exact .inl rfl
    · exact .inr (by decide)
theorem ACh {a b pay fee:Int} (h:swapErr a b pay fee=0):pay≤a∧fee≤b∧Ho (a - pay+fee)∧Ho (b - fee+pay):=by
  unfold swapErr at h
  split at h
  · cases h
  · rename_i c1
    split at h
    · rename_i c2
      refine ⟨?_,?_,c2.1,c2.2⟩
      · exact Int.not_lt.1 (fun h=>c1 (.inl h))
      · exact Int.not_lt.1 (fun h=>c1 (.inr h))
    · cases h
theorem AAl (i:Nat):¬ (X2 i).1=(2:Int):=fun e=>by
  have:(1:Int)=2:=e
  cases this
theorem Lot.depI {l:List Pl} {xs:List Int} {src p:Pl} (h:Lot l xs src) (hs:¬ src.1=(2:Int)) (hp:¬ p.1=(2:Int)) (f c:Nat) (x:Pl):{n:Nat}→n≤xs.length→depI (Vt l xs p n) f c x=depI l f c x
  | 0,_=>rfl
  | n+1,hn=>by
    have hi:=h.inn n (by omega)
    simp only [Vt]
    rw [Lu (by rw [Jt]; omega) hp (by rw [h.get (by omega)]; exact hs)]
    exact Lot.depI h hs hp f c x (by omega)
theorem AHp.at_ {w:den Za} {p q:Nat} {gs ws:List Int} (h:AHp w p q gs ws) (j:Nat):List.getD (K6 w p q gs ws) j (dft Zb)=List.getD (w.2.2.2.1:List Pl) j (dft Zb)∧(∀ i,i<(gs ++ ws).length→¬ iAt (gs ++ ws) i=(j:Int))∨List.getD (K6 w p q gs ws) j (dft Zb)=X2 p∧List.getD (w.2.2.2.1:List Pl) j (dft Zb)=X2 q∧(∃ i,i<ws.length∧iAt ws i=(j:Int)) ∨
    List.getD (K6 w p q gs ws) j (dft Zb)=X2 q∧List.getD (w.2.2.2.1:List Pl) j (dft Zb)=X2 p∧(∃ i,i<gs.length∧iAt gs i=(j:Int)):=by
  unfold K6
  rw [setAll_get h.lw.inn]
  by_cases c1:∃ i,i<ws.length∧iAt ws i=(j:Int)
  · rw [if_pos c1]
    obtain ⟨i,h1,h2⟩:=c1
    refine .inr (.inl ⟨rfl,?_,i,h1,h2⟩)
    have:=h.lw0.at_ i h1
    rw [h2,Int.toNat_natCast] at this
    exact this
  · rw [if_neg c1,setAll_get h.lg.inn]
    by_cases c2:∃ i,i<gs.length∧iAt gs i=(j:Int)
    · rw [if_pos c2]
      obtain ⟨i,h1,h2⟩:=c2
      refine .inr (.inr ⟨rfl,?_,i,h1,h2⟩)
      have:=h.lg.at_ i h1
      rw [h2,Int.toNat_natCast] at this
      exact this
    · rw [if_neg c2]
      refine .inl ⟨rfl,fun i hi e => ?_⟩
      by_cases hl:i<gs.length
      · rw [O8 hl] at e; exact c2 ⟨i,hl,e⟩
      · obtain ⟨k,rfl⟩:∃ k,i=gs.length+k:=⟨i - gs.length,by omega⟩
        rw [R2] at e
        rw [List.length_append] at hi
        exact c1 ⟨k,by omega,e⟩
theorem AKs (l:List Int) {p q:Nat} (hp:p<l.length) (hq:q<l.length) (a b:Int) (j:Nat):List.getD (List.set (List.set l p a) q b) j 0=if j=q then b else if j=p then a else List.getD l j 0:=by
  rw [Gd _ _ _ _ _ (by rw [List.length_set]; exact hq),Gd _ _ _ _ _ hp]
section
variable {w:den Za} {p q:Nat} {gs ws:List Int} {pay fee:Int} (ok:Ok w) (hp:p<List.length (w.2.1:List Int)) (h:AGk w p q gs pay ws fee)
include ok hp h
abbrev tdW (w:den Za) (p q:Nat) (gs:List Int) (pay:Int) (ws:List Int) (fee:Int):den Za:=AGg w p q gs ws (Vs w p - pay+fee) (Vs w q - fee+pay)
theorem AGi:List.length (K6 w p q gs ws)=List.length (w.2.2.2.1:List (den Zb)):=by unfold K6; rw [Jt,Jt]
theorem AI3 (j:Nat):Vs (tdW w p q gs pay ws fee) j=if j=q then Vs w q - fee+pay else if j=p then Vs w p - pay+fee else Vs w j:=by
  have hc1:=ok.right.c1
  have ha1:=ok.right.a1
  have hqq:=h.hq
  show List.getD (List.set (List.set (w.2.2.1:List Int) p _) (Int.toNat (q:Int)) _) j 0=_
  rw [Int.toNat_natCast,AKs _ (by omega) (by omega)]
theorem AMi (t:Pl):Yr (tdW w p q gs pay ws fee) t=Yr w t+(if X2 p=t then (gs.length:Int) - (ws.length:Int) else 0)+(if X2 q=t then (ws.length:Int) - (gs.length:Int) else 0):=h.lots.room (tdW w p q gs pay ws fee) rfl rfl t
theorem BHm:Ok (tdW w p q gs pay ws fee):=by
  have hr:=ok.right
  have hs:=ok.sm
  have hc1:=ok.right.c1
  have ha1:=ok.right.a1
  have hqq:=h.hq
  have hlen:=AGi ok hp h
  have hcl:List.length ((tdW w p q gs pay ws fee).2.2.1:List Int)=List.length (w.2.2.1:List Int):=by
    show List.length (List.set (List.set (w.2.2.1:List Int) p _) _ _)=_
    rw [List.length_set,List.length_set]
  obtain ⟨_,_,s1,s2⟩:=ACh h.sw
  refine ⟨⟨hs.e,hs.b,hs.p,hs.c,hs.i,hs.a,by rw [hcl]; exact hs.wc,by show List.length (K6 w p q gs ws)≤_; rw [hlen]; exact hs.wh,hs.rows⟩,hr.may,hr.a1,by rw [hcl]; exact hr.c1,by show List.length (K6 w p q gs ws)=_; rw [hlen]; exact hr.w1,fun i hi=>⟨(hr.at_ i hi).1,?_⟩,fun i hi => ?_,fun i hi => ?_⟩
  · have hc:=AI3 ok hp h i
    have:Ho (Vs (tdW w p q gs pay ws fee) i):=by
      rw [hc]
      split
      · exact s2
      · split
        · exact s1
        · exact (hr.at_ i hi).2
    exact this
  · have hi:i<List.length (w.2.2.2.1:List (den Zb)):=by rw [← hlen]; exact hi
    have gm:∀ r,r<List.length (w.2.1:List Int)→Kf w.1 (X2 r):=fun r hr'=>.inr (.inl ⟨rfl,Int.natCast_nonneg r,by show (r:Int)<_; rw [← hr.a1]; exact Int.ofNat_lt.2 hr'⟩)
    show Kf w.1 (List.getD (K6 w p q gs ws) i (dft Zb))
    rcases h.lots.at_ i with ⟨e,_⟩ | ⟨e,_⟩ | ⟨e,_⟩
    · rw [e]; exact hr.good i hi
    · rw [e]; exact gm p hp
    · rw [e]; exact gm q hqq
  · have hi:i<List.length (w.2.2.2.1:List (den Zb)):=by rw [← hlen]; exact hi
    have hd:∀ x,depI (K6 w p q gs ws) 51 0 x=depI w.2.2.2.1 51 0 x:=fun x=>by
      unfold K6
      rw [h.lots.lw.depI (AAl q) (AAl p) 51 0 x (Nat.le_refl _),h.lots.lg.depI (AAl p) (AAl q) 51 0 x (Nat.le_refl _)]
    have hroom:∀ t,0≤Yr (tdW w p q gs pay ws fee) t:=fun t=>by
      rw [AMi ok hp h t]
      have h0:=(hr.room t).1
      by_cases c1:X2 p=t
      · have c2:¬ X2 q=t:=fun e=>h.lots.pq (AL2 (c1.trans e.symm))
        rw [if_pos c1,if_neg c2]
        have:=h.rp
        rw [c1] at this
        omega
      · by_cases c2:X2 q=t
        · rw [if_neg c1,if_pos c2]
          have:=h.rq
          rw [c2] at this
          omega
        · rw [if_neg c1,if_neg c2]; omega
    refine ⟨?_,?_⟩
    · show depI (K6 w p q gs ws) 51 0 (List.getD (K6 w p q gs ws) i (dft Zb))≤4
      rw [hd]
      rcases h.lots.at_ i with ⟨e,_⟩ | ⟨e,_⟩ | ⟨e,_⟩
      · rw [e]; exact (hr.deep i hi).1
      · rw [e,Fd (AAl p)]; omega
      · rw [e,Fd (AAl q)]; omega
    · have:=hroom (List.getD ((tdW w p q gs pay ws fee).2.2.2.1:List (den Zb)) i (dft Zb))
      unfold Yr at this
      show (Yl _ _ _:Int)≤Mv w.1 _
      have e:(tdW w p q gs pay ws fee).1=w.1:=rfl
      rw [e] at this
      omega
end
end Go.Proofs.YtpemapoblhleoaaGreatDoor.Ghost
