/- What functions come to, and that the statements are answered with 'true'. Conditions: none. -/
import Derived.Test.YtpemapoblhleoaaGreatDoorS
import Derived.Test.YtpemapoblhleoaaGreatDoorGE
import Derived.Test.YtpemapoblhleoaaGreatDoorP1
import Derived.Test.YtpemapoblhleoaaGreatDoorP2
import Derived.Test.YtpemapoblhleoaaGreatDoorP3
import Derived.Test.YtpemapoblhleoaaGreatDoorP4
import Derived.Test.YtpemapoblhleoaaGreatDoorP5
import Derived.Test.YtpemapoblhleoaaGreatDoorP6
import Derived.Test.YtpemapoblhleoaaGreatDoorP7
set_option linter.unusedVariables false
set_option linter.unusedSimpArgs false
set_option linter.unusedSectionVars false
set_option linter.unnecessarySimpa false
namespace Go.Proofs.YtpemapoblhleoaaGreatDoor.Ghost
open Go
end Go.Proofs.YtpemapoblhleoaaGreatDoor.Ghost
namespace Go.Proofs.YtpemapoblhleoaaGreatDoor.Ghost
open Go
def inQ (w:den Za) (q:Int):Prop:=0≤q∧q<(List.length (w.2.1:List Int):Int)
theorem De {w:den Za} {q:Int} (h:inQ w q):∃ n:Nat,q=(n:Int)∧n<List.length (w.2.1:List Int):=⟨q.toNat,by have:=h.1; omega,by have:=h.1; have:=h.2; omega⟩
theorem Uz (w:den Za) (k:Int):Zd (fun nf _ _ _=>Kr nf (w) (k)) (fun r=>r=((dec (inR w k),()),[])):=by
  refine Zd.succ (fun nf _ _ _=>Kr.eq nf _ _) ?_
  by_cases h:0≤k <;> simp [h,inR,Te]
theorem J0 (w:den Za) (k:Int):Zd (fun nf _ _ _=>Y6 nf (w) (k)) (fun r=>r=((dec (inQ w k),()),[])):=by
  refine Zd.succ (fun nf _ _ _=>Y6.eq nf _ _) ?_
  by_cases h:0≤k <;> simp [h,inQ,Te]
theorem Kj (k:Int):Zd (fun nf _ _ _=>Ys nf (k)) (fun r=>r=(((1,k,()),()),[])):=by
  refine Zd.succ (fun nf _ _ _=>Ys.eq nf _) ?_
  simp
open Classical in
noncomputable def giveErr (w:den Za) (p:Nat) (k q:Int):Int:=if inR w k∧inQ w q then
  (if q=(p:Int) then 12 else if Tt w q.toNat=Tt w p∧Y2 w k.toNat=Ya p then (if Y5 w (Ya q.toNat)<1 then 9 else 0) else 5) else 3
noncomputable def T5 (w:den Za) (p:Nat) (k q:Int):den Za×Int×Unit:=if giveErr w p k q=0 then (put w k.toNat (Ya q.toNat),0,()) else (w,giveErr w p k q,())
theorem AFq {w:den Za} {p:Nat} {k q:Int} (h:¬ giveErr w p k q=3):inR w k∧inQ w q:=by
  by_cases hn:inR w k∧inQ w q
  · exact hn
  · exact absurd (by unfold giveErr; rw [if_neg hn]) h
theorem AIj {w:den Za} (ok:Ok w) {p:Nat} (hp:p<List.length (w.2.1:List Int)) (k q:Int):Zd (fun nf _ _ _=>Vh nf (w) ((p:Int)) (k) (q)) (fun r=>r.1=T5 w p k q):=by
  refine Zd.succ (fun nf _ _ _=>Vh.eq nf _ _ _ _) ?_
  by_cases hk:inR w k
  · by_cases hq:inQ w q
    · obtain ⟨k,rfl,hkn⟩:=H2 hk
      obtain ⟨q,rfl,hqn⟩:=De hq
      simp [-List.getD_eq_getElem?_getD,-List.length_eq_zero_iff,Zr,Zp,Z4,Zy,Xk,Xj,Yt,Ze (Uz w (k:Int)),(Uz w (k:Int)).prop,Ze (J0 w (q:Int)),(J0 w (q:Int)).prop,hk,hq,hkn,hqn,hp,Ze (Kj _),(Kj _).prop,Ze (Qg w ok (Ya q) (Gv q)),(Qg w ok (Ya q) (Gv q)).prop,Ze (Oa w ok.sm hkn (Ya q)),(Oa w ok.sm hkn (Ya q)).prop,T5,giveErr]
      by_cases c1:(q:Int)=(p:Int) <;> by_cases c2:Tt w q=Tt w p <;> by_cases c3:Y2 w k=Ya p <;> by_cases c4:Y5 w (Ya q)<1 <;> simp [-List.getD_eq_getElem?_getD,-List.length_eq_zero_iff,Zr,Zp,Z4,Zy,Xk,Xj,Yt,c1,c2,c3,c4]
    · simp [-List.getD_eq_getElem?_getD,-List.length_eq_zero_iff,Zr,Zp,Z4,Zy,Xk,Xj,Yt,Ze (Uz w k),(Uz w k).prop,Ze (J0 w q),(J0 w q).prop,hk,hq,T5,giveErr]
  · simp [-List.getD_eq_getElem?_getD,-List.length_eq_zero_iff,Zr,Zp,Z4,Zy,Xk,Xj,Yt,Ze (Uz w k),(Uz w k).prop,hk,T5,giveErr]
end Go.Proofs.YtpemapoblhleoaaGreatDoor.Ghost
namespace Go.Proofs.YtpemapoblhleoaaGreatDoor.Ghost
open Go
abbrev iAt (l:List Int) (j:Nat):Int:=List.getD l j 0
def Bad (w:den Za) (l:List Int):Prop:=∃ j,j<l.length∧¬ inR w (iAt l j)
def Mt (w:den Za) (l:List Int) (p:Int):Prop:=∃ j,j<l.length∧¬ Y2 w (iAt l j).toNat=((1:Int),p,())
def Dup (l:List Int):Prop:=∃ i j,i<j∧j<l.length∧iAt l i=iAt l j
theorem AL0 (w:den Za) (l:List Int) (hl:l.length≤1048576) (t4:Int):∀ i,i≤l.length→Zd (fun nf fm0 _ _=>Zh.l0 nf fm0 (l) (w) t4 ((l.length:Int)) ((i:Int))) (fun r=>0≤r.1.1↔∃ j,i≤j∧j<l.length∧¬ inR w (iAt l j)):=by
  refine upto ?_ (fun i hi next => ?_)
  · refine Zd.succ1 (fun nf fm0 _ _=>Zh.l0_eq nf fm0 _ _ _ _ _) ?_
    simp [-List.getD_eq_getElem?_getD,-List.length_eq_zero_iff,Zr,Zp,Z4,Zy,Xk,Xj,Yt]
    exact fun j h1 h2=>by omega
  · have sp:∀ k,Zd (fun nf _ _ _=>Y4 nf (k) (w)) (fun r=>r=((dec (¬ inR w k),()),[])):=fun k=>by
      refine Zd.succ (fun nf _ _ _=>Y4.eq nf _ _) ?_
      simp [-List.getD_eq_getElem?_getD,-List.length_eq_zero_iff,Zr,Zp,Z4,Zy,Xk,Xj,Yt,Ze (Uz w k),(Uz w k).prop]
    refine Zd.succ1 (fun nf fm0 _ _=>Zh.l0_eq nf fm0 _ _ _ _ _) ?_
    rw [← Xm (by omega)] at next
    by_cases h:inR w (iAt l i)
    · have next:=next.mono (Q':=fun r=>0≤r.1.1↔∃ j,i≤j∧j<l.length∧¬ inR w (iAt l j)) (fun v hv=>hv.trans ⟨fun ⟨j,a,b,c⟩=>⟨j,by omega,b,c⟩,fun ⟨j,a,b,c⟩=>⟨j,by
        by_cases e:j=i
        · subst e; exact absurd h c
        · omega,b,c⟩⟩)
      simp [-List.getD_eq_getElem?_getD,-List.length_eq_zero_iff,Zr,Zp,Z4,Zy,Xk,Xj,Yt,hi,Ze (sp _),(sp _).prop,h]
      exact next
    · simp [-List.getD_eq_getElem?_getD,-List.length_eq_zero_iff,Zr,Zp,Z4,Zy,Xk,Xj,Yt,hi,Ze (sp _),(sp _).prop,h]
      exact ⟨i,Nat.le_refl i,hi,h⟩
theorem Li (w:den Za) (l:List Int) (hl:l.length≤1048576):Zd (fun nf _ _ _=>Xa nf (l) (w)) (fun r=>r.1.1=true↔Bad w l):=by
  have h:Zd (fun nf _ _ _=>Zh nf (l) (w)) (fun r=>0≤r.1.1↔Bad w l):=by
    refine Zd.succ (fun nf _ _ _=>Zh.eq nf _ _) ?_
    exact (AL0 w l hl _ 0 (Nat.zero_le _)).enter.mono (fun v hv=>hv.trans ⟨fun ⟨j,_,b,c⟩=>⟨j,b,c⟩,fun ⟨j,b,c⟩=>⟨j,Nat.zero_le _,b,c⟩⟩)
  refine Zd.succ (fun nf _ _ _=>Xa.eq nf _ _) ?_
  simp [Ze (h),(h).prop]
theorem AIv (w:den Za) (l:List Int) (hl:l.length≤1048576) (hb:¬ Bad w l) (p:Int) (t4:Int):∀ i,i≤l.length→Zd (fun nf fm0 _ _=>Zs.l0 nf fm0 (l) (w) (p) t4 ((l.length:Int)) ((i:Int))) (fun r=>0≤r.1.1↔∃ j,i≤j∧j<l.length∧¬ Y2 w (iAt l j).toNat=((1:Int),p,())):=by
  refine upto ?_ (fun i hi next => ?_)
  · refine Zd.succ1 (fun nf fm0 _ _=>Zs.l0_eq nf fm0 _ _ _ _ _ _) ?_
    simp [-List.getD_eq_getElem?_getD,-List.length_eq_zero_iff,Zr,Zp,Z4,Zy,Xk,Xj,Yt]
    exact fun j h1 h2=>by omega
  · have hin:inR w (iAt l i):=Classical.byContradiction (fun h=>hb ⟨i,hi,h⟩)
    obtain ⟨k,ek,hk⟩:=H2 hin
    have sp:Zd (fun nf _ _ _=>Ym nf ((k:Int)) (w) (p)) (fun r=>r=((dec (¬ Y2 w k=((1:Int),p,())),()),[])):=by
      refine Zd.succ (fun nf _ _ _=>Ym.eq nf _ _ _) ?_
      simp [-List.getD_eq_getElem?_getD,-List.length_eq_zero_iff,Zr,Zp,Z4,Zy,Xk,Xj,Yt,hk,Ze (Kj p),(Kj p).prop]
    refine Zd.succ1 (fun nf fm0 _ _=>Zs.l0_eq nf fm0 _ _ _ _ _ _) ?_
    rw [← Xm (by omega)] at next
    by_cases h:Y2 w (iAt l i).toNat=((1:Int),p,())
    · have next:=next.mono (Q':=fun r=>0≤r.1.1↔∃ j,i≤j∧j<l.length∧¬ Y2 w (iAt l j).toNat=((1:Int),p,())) (fun v hv=>hv.trans ⟨fun ⟨j,a,b,c⟩=>⟨j,by omega,b,c⟩,fun ⟨j,a,b,c⟩=>⟨j,by
        by_cases e:j=i
        · subst e; exact absurd h c
        · omega,b,c⟩⟩)
      rw [ek,Int.toNat_natCast] at h
      simp [-List.getD_eq_getElem?_getD,-List.length_eq_zero_iff,Zr,Zp,Z4,Zy,Xk,Xj,Yt,hi,ek,Ze (sp),(sp).prop,h]
      exact next
    · have h':=h
      rw [ek,Int.toNat_natCast] at h'
      simp [-List.getD_eq_getElem?_getD,-List.length_eq_zero_iff,Zr,Zp,Z4,Zy,Xk,Xj,Yt,hi,ek,Ze (sp),(sp).prop,h']
      exact ⟨i,Nat.le_refl i,hi,h⟩
theorem Nu (w:den Za) (l:List Int) (hl:l.length≤1048576) (hb:¬ Bad w l) (p:Int):Zd (fun nf _ _ _=>Yw nf (l) (p) (w)) (fun r=>r.1.1=true↔Mt w l p):=by
  have h:Zd (fun nf _ _ _=>Zs nf (l) (w) (p)) (fun r=>0≤r.1.1↔Mt w l p):=by
    refine Zd.succ (fun nf _ _ _=>Zs.eq nf _ _ _) ?_
    exact (AIv w l hl hb p _ 0 (Nat.zero_le _)).enter.mono (fun v hv=>hv.trans ⟨fun ⟨j,_,b,c⟩=>⟨j,b,c⟩,fun ⟨j,b,c⟩=>⟨j,Nat.zero_le _,b,c⟩⟩)
  have h2:Zd (fun nf _ _ _=>Xx nf (l) (w) (p)) (fun r=>r.1.1=true↔Mt w l p):=by
    refine Zd.succ (fun nf _ _ _=>Xx.eq nf _ _ _) ?_
    simp [Ze (h),(h).prop]
  refine Zd.succ (fun nf _ _ _=>Yw.eq nf _ _ _) ?_
  simp [Ze (h2),(h2).bprop]
theorem Nd (k k':Int) (v:Bool):(m:List (Int×Bool))→Yp (.int .i64) .bool k' (Gp (.int .i64) .bool k v m)=if k'=k then some v else Yp (.int .i64) .bool k' m
  | []=>by
    simp only [Gp,Yp,eqT]
    by_cases h:k'=k <;> simp [h]
  | (a,b) :: r=>by
    have ih:=Nd k k' v r
    simp only [Gp,Yp,eqT]
    by_cases h1:k=a
    · subst h1
      simp only [beq_self_eq_true,if_true,Yp,eqT]
      by_cases h:k'=k <;> simp [h]
    · have h1':(k == a)=false:=by simpa using h1
      simp only [h1',Bool.false_eq_true,if_false,Yp,eqT,ih]
      by_cases h2:k'=a
      · subst h2
        have:¬ k'=k:=fun e=>h1 e.symm
        simp [this]
      · have h2':(k' == a)=false:=by simpa using h2
        simp [h2']
theorem AMx (l:List Int) (hl:l.length≤1048576) (t0:(List Int)) (t2:Bool):∀ i,i≤l.length→∀ m:List (Int×Bool),(∀ k,Yp (.int .i64) .bool k m=some true∨Yp (.int .i64) .bool k m=none)→(∀ k,Yp (.int .i64) .bool k m=some true↔∃ i',i'<i∧iAt l i'=k) →
    Zd (fun nf fm0 _ _=>Xo.l0 nf fm0 t0 t2 (l) ((l.length:Int)) ((i:Int)) (m)) (fun r=>r.1.1=true↔∃ i' j,i'<j∧i≤j∧j<l.length∧iAt l i'=iAt l j):=by
  refine upto (fun m hm0 hm => ?_) (fun i hi next m hm0 hm => ?_)
  · refine Zd.succ1 (fun nf fm0 _ _=>Xo.l0_eq nf fm0 _ _ _ _ _ _) ?_
    simp [-List.getD_eq_getElem?_getD,-List.length_eq_zero_iff,Zr,Zp,Z4,Zy,Xk,Xj,Yt]
    exact fun _ j _ h1 h2=>by omega
  · refine Zd.succ1 (fun nf fm0 _ _=>Xo.l0_eq nf fm0 _ _ _ _ _ _) ?_
    by_cases h:∃ i',i'<i∧iAt l i'=iAt l i
    · have hf:=(hm (iAt l i)).2 h
      simp [-List.getD_eq_getElem?_getD,-List.length_eq_zero_iff,Zr,Zp,Z4,Zy,Xk,Xj,Yt,hi,hf]
      obtain ⟨i',h1,h2⟩:=h
      exact ⟨i',i,h1,Nat.le_refl i,hi,h2⟩
    · have hf:Yp (.int .i64) .bool (iAt l i) m=none:=(hm0 _).resolve_left (fun e=>h ((hm _).1 e))
      have next:=next (Gp (.int .i64) .bool (iAt l i) true m) (fun k=>by
        rw [Nd]
        split
        · exact .inl rfl
        · exact hm0 k) (fun k=>by
        rw [Nd]
        by_cases e:k=iAt l i
        · rw [if_pos e]; exact ⟨fun _=>⟨i,by omega,e.symm⟩,fun _=>rfl⟩
        · rw [if_neg e,hm k]
          exact ⟨fun ⟨j,a,b⟩=>⟨j,by omega,b⟩,fun ⟨j,a,b⟩=>⟨j,by
            by_cases e2:j=i
            · subst e2; exact absurd b.symm e
            · omega,b⟩⟩)
      rw [← Xm (by omega)] at next
      have next:=next.mono (Q':=fun r=>r.1.1=true↔∃ i' j,i'<j∧i≤j∧j<l.length∧iAt l i'=iAt l j) (fun v hv=>hv.trans ⟨fun ⟨i',j,a,b,c,d⟩=>⟨i',j,a,by omega,c,d⟩,fun ⟨i',j,a,b,c,d⟩=>⟨i',j,a,by
        by_cases e:j=i
        · subst e; exact absurd ⟨i',a,d⟩ h
        · omega,c,d⟩⟩)
      simp [-List.getD_eq_getElem?_getD,-List.length_eq_zero_iff,Zr,Zp,Z4,Zy,Xk,Xj,Yt,hi,hf]
      exact next
theorem Bq (l:List Int) (hl:l.length≤1048576):Zd (fun nf _ _ _=>Xo nf (l)) (fun r=>r.1.1=true↔Dup l):=by
  refine Zd.succ (fun nf _ _ _=>Xo.eq nf _) ?_
  exact (AMx l hl l false 0 (Nat.zero_le _) [] (fun k=>.inr rfl) (fun k=>⟨fun h=>(by cases h),fun ⟨i,h,_⟩=>by omega⟩)).enter.mono (fun v hv=>hv.trans ⟨fun ⟨i,j,a,_,c,d⟩=>⟨i,j,a,c,d⟩,fun ⟨i,j,a,c,d⟩=>⟨i,j,a,Nat.zero_le _,c,d⟩⟩)
end Go.Proofs.YtpemapoblhleoaaGreatDoor.Ghost
namespace Go.Proofs.YtpemapoblhleoaaGreatDoor.Ghost
open Go
def Ha (x:Int):Prop:=0≤x∧x≤1073741824
open Classical in
noncomputable def swapErr (a b pay fee:Int):Int:=if a<pay∨b<fee then 10 else if Ha (a - pay+fee)∧Ha (b - fee+pay) then 0 else 11
noncomputable def AE4 (a b pay fee:Int):Int×Int×Int×Unit:=if swapErr a b pay fee=0 then (a - pay+fee,b - fee+pay,0,()) else (a,b,swapErr a b pay fee,())
theorem Ea (a:Int):Zd (fun nf _ _ _=>H0 nf (a)) (fun r=>r=((dec (Ha a),()),[])):=by
  refine Zd.succ (fun nf _ _ _=>H0.eq nf _) ?_
  by_cases h:0≤a <;> simp [h,Ha,Te]
theorem AAt {a b pay fee:Int} (ha:Ha a) (hb:Ha b) (hp:Ha pay) (hf:Ha fee):Zd (fun nf _ _ _=>V6 nf (a) (b) (pay) (fee)) (fun r=>r.1=AE4 a b pay fee):=by
  obtain ⟨a1,a2⟩:=ha; obtain ⟨b1,b2⟩:=hb; obtain ⟨p1,p2⟩:=hp; obtain ⟨f1,f2⟩:=hf
  have e1:IntKind.wrap .i64 (a - pay)=a - pay:=Hn (by omega) (by omega)
  have e2:IntKind.wrap .i64 (b - fee)=b - fee:=Hn (by omega) (by omega)
  have e3:IntKind.wrap .i64 (a - pay+fee)=a - pay+fee:=Hn (by omega) (by omega)
  have e4:IntKind.wrap .i64 (b - fee+pay)=b - fee+pay:=Hn (by omega) (by omega)
  refine Zd.succ (fun nf _ _ _=>V6.eq nf _ _ _ _) ?_
  simp [-List.getD_eq_getElem?_getD,-List.length_eq_zero_iff,Zr,Zp,Z4,Zy,Xk,Xj,Yt,show ¬ pay<0 by omega,show ¬ fee<0 by omega,e1,e2,e3,e4,Ze (Ea _),(Ea _).prop,AE4,swapErr]
  by_cases c1:a<pay <;> by_cases c2:b<fee <;> by_cases c3:Ha (a - pay+fee) <;> by_cases c4:Ha (b - fee+pay) <;> simp [c1,c2,c3,c4]
theorem AJf (a b pay fee:Int):(AE4 a b pay fee).2.2.1=swapErr a b pay fee:=by
  unfold AE4
  split
  · rename_i h; exact h.symm
  · rfl
def Vw (l:List Pl) (xs:List Int) (p:Pl):Nat→List Pl
  | 0=>l
  | i+1=>List.set (Vw l xs p i) (iAt xs i).toNat p
theorem Jy (l:List Pl) (xs:List Int) (p:Pl):(i:Nat)→(Vw l xs p i).length=l.length
  | 0=>rfl
  | i+1=>by simp only [Vw,List.length_set,Jy l xs p i]
abbrev meI (q:Int):Pl:=((1:Int),q,())
def K7 (w:den Za) (p:Nat) (q:Int) (gs ws:List Int):List Pl:=Vw (Vw w.2.2.2.1 gs (meI q) gs.length) ws (Ya p) ws.length
def AGn (w:den Za) (p:Nat) (q:Int) (gs ws:List Int) (a b:Int):den Za:=(w.1,w.2.1,List.set (List.set (w.2.2.1:List Int) p a) q.toNat b,K7 w p q gs ws,())
open Classical in
noncomputable def tradeErr (w:den Za) (p:Nat) (q:Int) (gs:List Int) (pay:Int) (ws:List Int) (fee:Int):Int :=
  if ¬ inQ w q then 3 else if Bad w (gs ++ ws) then 3 else if q=(p:Int) then 12 else if ¬ Tt w q.toNat=Tt w p then 5 else if Dup (gs ++ ws) then 13 else if Mt w gs p then 5 else if Mt w ws q then 5
  else if Y5 w (Ya p)<(ws.length:Int) - (gs.length:Int) then 9 else if Y5 w (meI q)<(gs.length:Int) - (ws.length:Int) then 9 else swapErr (Qz w p) (Qz w q.toNat) pay fee
noncomputable def Kl (w:den Za) (p:Nat) (q:Int) (gs:List Int) (pay:Int) (ws:List Int) (fee:Int):den Za×Int×Unit :=
  if tradeErr w p q gs pay ws fee=0 then (AGn w p q gs ws (Qz w p - pay+fee) (Qz w q.toNat - fee+pay),0,()) else (w,tradeErr w p q gs pay ws fee,())
theorem AMw {N:Nat} (p:Nat) (ws:List Int) (hws:ws.length≤1048576) (base:List Pl) (hb:base.length=N) (hin:∀ j,j<ws.length→0≤iAt ws j∧iAt ws j<(N:Int)) (t0:(den Za)) (t2:(den Z5)) (t7:Int) (t8:Int) (t9:(List Int)) (t11:Int) (t12:Int) (t13:Int) (t14:Int) (t135:(List Int)) (t136:Int) (t137:Int) (o0:(den Za)) (o1:(den Z5)) (o2:(den Za)) (o3:(List (List Int))) (o4:(den Za)) (o5:(List Int)) :
    ∀ i,i≤ws.length→Zd (fun nf fm0 _ _=>Z6.l1 nf fm0 t0 ((p:Int)) t2 t7 t8 t9 t11 t12 t13 t14 t135 t136 t137 (ws) ((ws.length:Int)) ((i:Int)) o0 o1 o2 o3 o4 o5 (Vw base ws (Ya p) i)) (fun r=>r=(((o4.1,o4.2.1,o5,Vw base ws (Ya p) ws.length,()),0,()),[(0,[2]),(0,[3])])):=by
  refine upto ?_ (fun i hi next => ?_)
  · refine Zd.succ1 (fun nf fm0 _ _=>Z6.l1_eq nf fm0 _ _ _ _ _ _ _ _ _ _ _ _ _ _ _ _ _ _ _ _ _ _ _) ?_
    simp [-List.getD_eq_getElem?_getD,-List.length_eq_zero_iff,Zr,Zp,Z4,Zy,Xk,Xj,Yt]
  · refine Zd.succ1 (fun nf fm0 _ _=>Z6.l1_eq nf fm0 _ _ _ _ _ _ _ _ _ _ _ _ _ _ _ _ _ _ _ _ _ _ _) ?_
    rw [← Xm (by omega)] at next
    have hl:=Jy base ws (Ya p) i
    have h:=hin i hi
    simp [-List.getD_eq_getElem?_getD,-List.length_eq_zero_iff,Zr,Zp,Z4,Zy,Xk,Xj,Yt,hi,Ze (Kj _),(Kj _).prop,hl,hb,h]
    exact next
theorem AMv {N:Nat} (p:Nat) (q:Int) (c:Cm) (hws:(Xp c).length≤1048576) (hgs:(Xi c).length≤1048576) (base:List Pl) (hb:base.length=N) (hin:∀ j,j<(Xp c).length→0≤iAt (Xp c) j∧iAt (Xp c) j<(N:Int)) (hin':∀ j,j<(Xi c).length→0≤iAt (Xi c) j∧iAt (Xi c) j<(N:Int)) (t0:(den Za)) (t2:(den Z5)) (t7:Int) (t9:(List Int)) (t11:Int) (t12:Int) (t13:Int) (t14:Int) (o0:(den Za)) (o2:(den Za)) (o3:(List (List Int))) (o4:(den Za)) (o5:(List Int)) :
    ∀ i,i≤(Xi c).length→Zd (fun nf fm0 _ _=>Z6.l0 nf fm0 t0 ((p:Int)) t2 t7 (q) t9 t11 t12 t13 t14 (Xi c) (((Xi c).length:Int)) ((i:Int)) o0 (c) o2 o3 o4 o5 (Vw base (Xi c) (meI q) i)) (fun r=>r=(((o4.1,o4.2.1,o5,Vw (Vw base (Xi c) (meI q) (Xi c).length) (Xp c) (Ya p) (Xp c).length,()),0,()),[(0,[2]),(0,[3])])):=by
  refine upto ?_ (fun i hi next => ?_)
  · refine Zd.succ1 (fun nf fm0 _ _=>Z6.l0_eq nf fm0 _ _ _ _ _ _ _ _ _ _ _ _ _ _ _ _ _ _ _ _) ?_
    simp [-List.getD_eq_getElem?_getD,-List.length_eq_zero_iff,Zr,Zp,Z4,Zy,Xk,Xj,Yt]
    exact (AMw p (Xp c) hws _ (by rw [Jy]; exact hb) hin _ _ _ _ _ _ _ _ _ _ _ _ _ _ _ _ _ _ 0 (Nat.zero_le _)).enter
  · refine Zd.succ1 (fun nf fm0 _ _=>Z6.l0_eq nf fm0 _ _ _ _ _ _ _ _ _ _ _ _ _ _ _ _ _ _ _ _) ?_
    rw [← Xm (by omega)] at next
    have hl:=Jy base (Xi c) (meI q) i
    have h:=hin' i hi
    simp [-List.getD_eq_getElem?_getD,-List.length_eq_zero_iff,Zr,Zp,Z4,Zy,Xk,Xj,Yt,hi,Ze (Kj _),(Kj _).prop,hl,hb,h]
    exact next
theorem Tx {w:den Za} {l:List Int} (h:¬ Bad w l):∀ j,j<l.length→inR w (iAt l j):=fun j hj=>Classical.byContradiction (fun hn=>h ⟨j,hj,hn⟩)
theorem Na {a b:List Int} {j:Nat} (h:j<a.length):iAt (a ++ b) j=iAt a j:=by
  unfold iAt; rw [List.getD_eq_getElem?_getD,List.getD_eq_getElem?_getD,List.getElem?_append_left h]
theorem R5 {a b:List Int} (j:Nat):iAt (a ++ b) (a.length+j)=iAt b j:=by
  unfold iAt; rw [List.getD_eq_getElem?_getD,List.getD_eq_getElem?_getD,List.getElem?_append_right (by omega),Nat.add_sub_cancel_left]
theorem AGs {w:den Za} {a b:List Int} (h:¬ Bad w (a ++ b)):¬ Bad w a∧¬ Bad w b :=
  ⟨fun ⟨j,h1,h2⟩=>h ⟨j,by rw [List.length_append]; omega,by rw [Na h1]; exact h2⟩,fun ⟨j,h1,h2⟩=>h ⟨a.length+j,by rw [List.length_append]; omega,by rw [R5]; exact h2⟩⟩
theorem O0 {w:den Za} (h:X3 w) {i:Nat} (hi:i<List.length (w.2.1:List Int)):Ha (Qz w i):=(h.at_ i hi).2
theorem Gt (a b:List Int) (ha:a.length≤524288) (hb:b.length≤524288):Zd (fun nf _ _ _=>Vn nf [a,b]) (fun r=>r=((a ++ b,()),[(0,[])])) :=
  Zd.succ (G:=fun _ _ _ _=>some ((a ++ b,()),[(0,[])])) (fun n _ _ _=>by
    show (if List.length a≤524288∧List.length b≤524288 then _ else none)=_
    rw [if_pos ⟨ha,hb⟩]) (Zd.ret rfl)
theorem AGo {w:den Za} (ok:Ok w) {p:Nat} (hp:p<List.length (w.2.1:List Int)) (c:Cm) (hg:(Xi c).length≤100) (hw:(Xp c).length≤100) (hpay:Ha (Uh c)) (hfee:Ha (Ug c)) :
    Zd (fun nf _ _ _=>Z6 nf (w) ((p:Int)) (c)) (fun r=>r=(Kl w p (Hp c) (Xi c) (Uh c) (Xp c) (Ug c),if tradeErr w p (Hp c) (Xi c) (Uh c) (Xp c) (Ug c)=0 then [(0,[2]),(0,[3])] else [])):=by
  have hlen:(Xi c ++ Xp c).length≤1048576:=by rw [List.length_append]; omega
  refine Zd.succ (fun nf _ _ _=>Z6.eq nf _ _ _) ?_
  by_cases c1:inQ w (Hp c)
  · by_cases c2:Bad w (Xi c ++ Xp c)
    · simp [-List.getD_eq_getElem?_getD,-List.length_eq_zero_iff,Zr,Zp,Z4,Zy,Xk,Xj,Yt,Ze (Gt (Xi c) (Xp c) (by omega) (by omega)),(Gt (Xi c) (Xp c) (by omega) (by omega)).prop,Ze (J0 w _),(J0 w _).prop,Ze (Li w (Xi c ++ Xp c) hlen),(Li w (Xi c ++ Xp c) hlen).bprop,c1,c2,Kl,tradeErr]
    · obtain ⟨q,eq,hq⟩:=De c1
      have hin:=Tx c2
      obtain ⟨bg,bw⟩:=AGs c2
      have hc1:=ok.right.c1
      have ha1:=ok.right.a1
      have hpc:p<List.length (w.2.2.1:List Int):=by omega
      have hqc:q<List.length (w.2.2.1:List Int):=by omega
      have e1:IntKind.wrap .i64 (((Xp c).length:Int) - ((Xi c).length:Int))=((Xp c).length:Int) - ((Xi c).length:Int):=Hn (by omega) (by omega)
      have e2:IntKind.wrap .i64 (-(((Xp c).length:Int) - ((Xi c).length:Int)))=((Xi c).length:Int) - ((Xp c).length:Int):=by rw [Hn (by omega) (by omega)]; omega
      simp only [eq]
      simp [-List.getD_eq_getElem?_getD,-List.length_eq_zero_iff,Zr,Zp,Z4,Zy,Xk,Xj,Yt,Ze (Gt (Xi c) (Xp c) (by omega) (by omega)),(Gt (Xi c) (Xp c) (by omega) (by omega)).prop,Ze (J0 w _),(J0 w _).prop,Ze (Li w (Xi c ++ Xp c) hlen),(Li w (Xi c ++ Xp c) hlen).bprop,c2,hq,hp,show inQ w (q:Int) from eq ▸ c1,Ze (Bq (Xi c ++ Xp c) hlen),(Bq (Xi c ++ Xp c) hlen).bprop,Ze (Nu w (Xi c) (by omega) bg (p:Int)),(Nu w (Xi c) (by omega) bg (p:Int)).bprop,Ze (Nu w (Xp c) (by omega) bw (q:Int)),(Nu w (Xp c) (by omega) bw (q:Int)).bprop,Ze (Kj _),(Kj _).prop,Ze (Qg w ok (Ya p) (Gv p)),(Qg w ok (Ya p) (Gv p)).prop,Ze (Qg w ok (Ya q) (Gv q)),(Qg w ok (Ya q) (Gv q)).prop,e1,e2,hpc,hqc,Ze (AAt (O0 ok.right hp) (O0 ok.right hq) hpay hfee),(AAt (O0 ok.right hp) (O0 ok.right hq) hpay hfee).prop,AJf]
      by_cases c3:(q:Int)=(p:Int)
      · simp [-List.getD_eq_getElem?_getD,-List.length_eq_zero_iff,Zr,Zp,Z4,Zy,Xk,Xj,Yt,c3,c2,Kl,tradeErr,show inQ w (p:Int) from c3 ▸ eq ▸ c1]
      by_cases c4:Tt w q=Tt w p
      rotate_left
      · simp [-List.getD_eq_getElem?_getD,-List.length_eq_zero_iff,Zr,Zp,Z4,Zy,Xk,Xj,Yt,c3,c4,c2,Kl,tradeErr,show inQ w (q:Int) from eq ▸ c1]
      by_cases c5:Dup (Xi c ++ Xp c)
      · simp [-List.getD_eq_getElem?_getD,-List.length_eq_zero_iff,Zr,Zp,Z4,Zy,Xk,Xj,Yt,c3,c4,c5,c2,Kl,tradeErr,show inQ w (q:Int) from eq ▸ c1]
      by_cases c6:Mt w (Xi c) (p:Int)
      · simp [-List.getD_eq_getElem?_getD,-List.length_eq_zero_iff,Zr,Zp,Z4,Zy,Xk,Xj,Yt,c3,c4,c5,c6,c2,Kl,tradeErr,show inQ w (q:Int) from eq ▸ c1]
      by_cases c7:Mt w (Xp c) (q:Int)
      · simp [-List.getD_eq_getElem?_getD,-List.length_eq_zero_iff,Zr,Zp,Z4,Zy,Xk,Xj,Yt,c3,c4,c5,c6,c7,c2,Kl,tradeErr,show inQ w (q:Int) from eq ▸ c1]
      by_cases c8:Y5 w (Ya p)<((Xp c).length:Int) - ((Xi c).length:Int)
      · simp [-List.getD_eq_getElem?_getD,-List.length_eq_zero_iff,Zr,Zp,Z4,Zy,Xk,Xj,Yt,c3,c4,c5,c6,c7,c8,c2,Kl,tradeErr,show inQ w (q:Int) from eq ▸ c1]
        intro h; omega
      by_cases c9:Y5 w (Ya q)<((Xi c).length:Int) - ((Xp c).length:Int)
      · simp [-List.getD_eq_getElem?_getD,-List.length_eq_zero_iff,Zr,Zp,Z4,Zy,Xk,Xj,Yt,c3,c4,c5,c6,c7,c8,c9,c2,Kl,tradeErr,show inQ w (q:Int) from eq ▸ c1]
        intro h; omega
      by_cases ca:swapErr (Qz w p) (Qz w q) (Uh c) (Ug c)=0
      rotate_left
      · simp [-List.getD_eq_getElem?_getD,-List.length_eq_zero_iff,Zr,Zp,Z4,Zy,Xk,Xj,Yt,c3,c4,c5,c6,c7,c8,c9,ca,c2,Kl,tradeErr,show inQ w (q:Int) from eq ▸ c1]
      simp [-List.getD_eq_getElem?_getD,-List.length_eq_zero_iff,Zr,Zp,Z4,Zy,Xk,Xj,Yt,c3,c4,c5,c6,c7,c8,c9,ca,c2,Kl,tradeErr,show inQ w (q:Int) from eq ▸ c1,Ze (Nz w ok.sm),(Nz w ok.sm).prop,hpc,hqc,AE4]
      intro _ _
      exact (AMv (N:=List.length (w.2.2.2.1:List (den Zb))) p (q:Int) c (by omega) (by omega) w.2.2.2.1 rfl (Tx bw) (Tx bg) _ _ _ _ _ _ _ _ _ _ _ _ _ 0 (Nat.zero_le _)).enter
  · simp [-List.getD_eq_getElem?_getD,-List.length_eq_zero_iff,Zr,Zp,Z4,Zy,Xk,Xj,Yt,Ze (Gt (Xi c) (Xp c) (by omega) (by omega)),(Gt (Xi c) (Xp c) (by omega) (by omega)).prop,Ze (J0 w _),(J0 w _).prop,c1,Kl,tradeErr]
end Go.Proofs.YtpemapoblhleoaaGreatDoor.Ghost
namespace Go.Proofs.YtpemapoblhleoaaGreatDoor.Ghost
open Go
section
variable {w:den Za} (ok:Ok w) {p q:Nat} (hp:p<List.length (w.2.1:List Int)) (hq:q<List.length (w.2.1:List Int)) (c:Cm) (hg:(Xi c).length≤100) (hw:(Xp c).length≤100) (hpay:Ha (Uh c)) (hfee:Ha (Ug c)) (hbad:¬ Bad w (Xi c ++ Xp c))
include ok hp hq hg hw hpay hfee hbad
abbrev AQ2 (w:den Za) (p q:Nat) (c:Cm):den Za:=AGn w p q (Xi c) (Xp c) (Qz w p - Uh c+Ug c) (Qz w q - Ug c+Uh c)
open Classical in
noncomputable def lastR (w:den Za) (p q:Nat) (c:Cm) (rp rq:Int):den Za×Int×Unit :=
  if rp<0 then (w,9,()) else if rq<0 then (w,9,()) else if swapErr (Qz w p) (Qz w q) (Uh c) (Ug c)=0 then (AQ2 w p q c,0,()) else (w,swapErr (Qz w p) (Qz w q) (Uh c) (Ug c),())
end
end Go.Proofs.YtpemapoblhleoaaGreatDoor.Ghost
namespace Go.Proofs.YtpemapoblhleoaaGreatDoor.Ghost
open Go
open Classical in
theorem setAll_get {l:List Pl} {xs:List Int} {p:Pl}:{n:Nat}→(∀ j,j<n→0≤iAt xs j∧iAt xs j<(l.length:Int))→(k:Nat)→List.getD (Vw l xs p n) k (dft Zb)=if ∃ i,i<n∧iAt xs i=(k:Int) then p else List.getD l k (dft Zb)
  | 0,_,k=>by rw [if_neg (fun ⟨i,h,_⟩=>by omega)]; rfl
  | n+1,hin,k=>by
    have ih:=setAll_get (l:=l) (xs:=xs) (p:=p) (n:=n) (fun j hj=>hin j (by omega)) k
    have h:=hin n (by omega)
    simp only [Vw]
    rw [Hb _ _ _ _ _ (by rw [Jy]; omega)]
    by_cases e:k=(iAt xs n).toNat
    · rw [if_pos e,if_pos ⟨n,by omega,by omega⟩]
    · rw [if_neg e,ih]
      by_cases h2:∃ i,i<n∧iAt xs i=(k:Int)
      · obtain ⟨i,a,b⟩:=h2
        rw [if_pos ⟨i,a,b⟩,if_pos ⟨i,by omega,b⟩]
      · rw [if_neg h2,if_neg (fun ⟨i,a,b⟩=>h2 ⟨i,by
          by_cases e2:i=n
          · subst e2; omega
          · omega,b⟩)]
structure Lot (l:List Pl) (xs:List Int) (src:Pl):Prop where
  inn:∀ j,j<xs.length→0≤iAt xs j∧iAt xs j<(l.length:Int)
  at_:∀ j,j<xs.length→List.getD l (iAt xs j).toNat (dft Zb)=src
  one:∀ i j,i<j→j<xs.length→¬ iAt xs i=iAt xs j
theorem Lot.get {l:List Pl} {xs:List Int} {src p:Pl} (h:Lot l xs src) {n:Nat} (hn:n<xs.length):List.getD (Vw l xs p n) (iAt xs n).toNat (dft Zb)=src:=by
  have hi:=h.inn n hn
  rw [setAll_get (fun j hj=>h.inn j (by omega)),if_neg (fun ⟨i,a,b⟩=>h.one i n a hn (by omega))]
  exact h.at_ n hn
theorem Lot.many {l:List Pl} {xs:List Int} {src p:Pl} (h:Lot l xs src) (t:Pl):{n:Nat}→n≤xs.length→Yq (Vw l xs p n) t l.length+(if src=t then n else 0)=Yq l t l.length+(if p=t then n else 0)
  | 0,_=>by simp [Vw]
  | n+1,hn=>by
    have ih:=Lot.many h (p:=p) t (n:=n) (by omega)
    have hi:=h.inn n (by omega)
    have hk:(iAt xs n).toNat<(Vw l xs p n).length:=by rw [Jy]; omega
    have:=P2 (Vw l xs p n) (iAt xs n).toNat p t hk l.length
    rw [h.get (by omega)] at this
    have hk':(iAt xs n).toNat<l.length:=by omega
    simp only [hk',true_and] at this
    simp only [Vw]
    by_cases c1:src=t <;> by_cases c2:p=t <;> simp only [c1,c2,if_true,if_false] at this ih ⊢ <;> omega
structure AH0 (w:den Za) (p q:Nat) (gs ws:List Int):Prop where
  pq:¬ p=q
  lg:Lot w.2.2.2.1 gs (Ya p)
  lw:Lot (Vw w.2.2.2.1 gs (Ya q) gs.length) ws (Ya q)
  lw0:Lot w.2.2.2.1 ws (Ya q)
  gw:∀ i j,i<gs.length→j<ws.length→¬ iAt gs i=iAt ws j
theorem AMj {p q:Nat} (h:Ya p=Ya q):p=q:=Int.ofNat.inj (congrArg (fun x:Pl=>(x.2.1:Int)) h)
theorem AQq {w:den Za} {p q:Nat} {gs ws:List Int} (hpq:¬ p=q) (hb:¬ Bad w (gs ++ ws)) (hd:¬ Dup (gs ++ ws)) (hg:¬ Mt w gs p) (hw:¬ Mt w ws q):AH0 w p q gs ws:=by
  obtain ⟨bg,bw⟩:=AGs hb
  have hgw:∀ i j,i<gs.length→j<ws.length→¬ iAt gs i=iAt ws j:=fun i j hi hj e=>hd ⟨i,gs.length+j,by omega,by rw [List.length_append]; omega,by rw [Na hi,R5]; exact e⟩
  have ag:∀ j,j<gs.length→List.getD (w.2.2.2.1:List Pl) (iAt gs j).toNat (dft Zb)=Ya p:=fun j hj=>Classical.byContradiction (fun h=>hg ⟨j,hj,h⟩)
  have aw:∀ j,j<ws.length→List.getD (w.2.2.2.1:List Pl) (iAt ws j).toNat (dft Zb)=Ya q:=fun j hj=>Classical.byContradiction (fun h=>hw ⟨j,hj,h⟩)
  have ng:∀ i j,i<j→j<gs.length→¬ iAt gs i=iAt gs j:=fun i j hi hj e=>hd ⟨i,j,hi,by rw [List.length_append]; omega,by rw [Na (by omega),Na hj]; exact e⟩
  have nw:∀ i j,i<j→j<ws.length→¬ iAt ws i=iAt ws j:=fun i j hi hj e=>hd ⟨gs.length+i,gs.length+j,by omega,by rw [List.length_append]; omega,by rw [R5,R5]; exact e⟩
  refine ⟨hpq,⟨Tx bg,ag,ng⟩,⟨fun j hj=>by rw [Jy]; exact Tx bw j hj,fun j hj => ?_,nw⟩,⟨Tx bw,aw,nw⟩,hgw⟩
  have hj':=Tx bw j hj
  rw [setAll_get (Tx bg)]
  split
  · rfl
  · exact aw j hj
theorem AH0.room {w:den Za} {p q:Nat} {gs ws:List Int} (h:AH0 w p q gs ws) (x:den Za) (hx1:x.1=w.1) (hx:x.2.2.2.1=K7 w p q gs ws) (t:Pl):Y5 x t=Y5 w t+(if Ya p=t then (gs.length:Int) - (ws.length:Int) else 0)+(if Ya q=t then (ws.length:Int) - (gs.length:Int) else 0):=by
  have h1:Yq (Vw w.2.2.2.1 gs (Ya q) gs.length) t (List.length (w.2.2.2.1:List (den Zb)))+(if Ya p=t then gs.length else 0)=Yq w.2.2.2.1 t (List.length (w.2.2.2.1:List (den Zb)))+(if Ya q=t then gs.length else 0):=h.lg.many (p:=Ya q) t (Nat.le_refl _)
  have h2:=h.lw.many (p:=Ya p) t (Nat.le_refl _)
  rw [Jy] at h2
  have h2:Yq (K7 w p q gs ws) t (List.length (w.2.2.2.1:List (den Zb)))+(if Ya q=t then ws.length else 0)=Yq (Vw w.2.2.2.1 gs (Ya q) gs.length) t (List.length (w.2.2.2.1:List (den Zb)))+(if Ya p=t then ws.length else 0):=h2
  have hl:List.length (x.2.2.2.1:List (den Zb))=List.length (w.2.2.2.1:List (den Zb)):=by rw [hx]; unfold K7; rw [Jy,Jy]
  unfold Y5
  rw [hl,hx1,hx]
  by_cases c1:Ya p=t
  · have c2:¬ Ya q=t:=fun e=>h.pq (AMj (c1.trans e.symm))
    rw [if_pos c1,if_neg c2] at h1 h2 ⊢
    omega
  · by_cases c2:Ya q=t
    · rw [if_neg c1,if_pos c2] at h1 h2 ⊢
      omega
    · rw [if_neg c1,if_neg c2] at h1 h2 ⊢
      omega
def AM5 (l:List Int) (i:Nat):Prop:=∃ a b,a<b∧i≤b∧b<l.length∧iAt l a=iAt l b
section
variable {w:den Za} (ok:Ok w) {p q:Nat} (hp:p<List.length (w.2.1:List Int)) (hq:q<List.length (w.2.1:List Int)) (c:Cm) (hg:(Xi c).length≤100) (hw:(Xp c).length≤100) (hpay:Ha (Uh c)) (hfee:Ha (Ug c)) (hbad:¬ Bad w (Xi c ++ Xp c))
include ok hp hq hg hw hpay hfee hbad
open Classical in
noncomputable def l1R (w:den Za) (p q:Nat) (c:Cm) (i:Nat):den Za×Int×Unit :=
  if AM5 (Xi c ++ Xp c) i then (w,13,()) else if Mt w (Xi c) p then (w,5,()) else if Mt w (Xp c) q then (w,5,())
    else lastR w p q c (Y5 (w.1,w.2.1,w.2.2.1,K7 w p q (Xi c) (Xp c),()) (Ya p)) (Y5 (w.1,w.2.1,w.2.2.1,K7 w p q (Xi c) (Xp c),()) (Ya q))
open Classical in
noncomputable def l0R (w:den Za) (p q:Nat) (c:Cm):den Za×Int×Unit:=if (q:Int)=(p:Int) then (w,12,()) else if ¬ Tt w q=Tt w p then (w,5,()) else l1R w p q c 0
end
end Go.Proofs.YtpemapoblhleoaaGreatDoor.Ghost
namespace Go.Proofs.YtpemapoblhleoaaGreatDoor.Ghost
open Go
structure AA0 (w:den Za) (p q:Nat) (gs:List Int) (pay:Int) (ws:List Int) (fee:Int):Prop where
  hq:q<List.length (w.2.1:List Int)
  bad:¬ Bad w (gs ++ ws)
  at_:Tt w q=Tt w p
  dup:¬ Dup (gs ++ ws)
  ag:¬ Mt w gs p
  aw:¬ Mt w ws q
  lots:AH0 w p q gs ws
  rp:(ws.length:Int) - (gs.length:Int)≤Y5 w (Ya p)
  rq:(gs.length:Int) - (ws.length:Int)≤Y5 w (Ya q)
  sw:swapErr (Qz w p) (Qz w q) pay fee=0
theorem Mr {w:den Za} {p:Nat} {q:Int} {gs ws:List Int} {pay fee:Int} (h10:∀ a b,swapErr a b pay fee=0∨0<swapErr a b pay fee):tradeErr w p q gs pay ws fee=0↔∃ n:Nat,q=(n:Int)∧AA0 w p n gs pay ws fee:=by
  constructor
  · intro h
    unfold tradeErr at h
    by_cases c1:inQ w q
    rotate_left
    · rw [if_pos c1] at h; cases h
    rw [if_neg (fun h=>h c1)] at h
    obtain ⟨n,rfl,hn⟩:=De c1
    by_cases c2:Bad w (gs ++ ws)
    · rw [if_pos c2] at h; cases h
    rw [if_neg c2] at h
    by_cases c3:(n:Int)=(p:Int)
    · rw [if_pos c3] at h; cases h
    rw [if_neg c3,Int.toNat_natCast] at h
    by_cases c4:Tt w n=Tt w p
    rotate_left
    · rw [if_pos c4] at h; cases h
    rw [if_neg (fun h=>h c4)] at h
    by_cases c5:Dup (gs ++ ws)
    · rw [if_pos c5] at h; cases h
    rw [if_neg c5] at h
    by_cases c6:Mt w gs p
    · rw [if_pos c6] at h; cases h
    rw [if_neg c6] at h
    by_cases c7:Mt w ws n
    · rw [if_pos c7] at h; cases h
    rw [if_neg c7] at h
    by_cases c8:Y5 w (Ya p)<(ws.length:Int) - (gs.length:Int)
    · rw [if_pos c8] at h; cases h
    rw [if_neg c8] at h
    by_cases c9:Y5 w (meI (n:Int))<(gs.length:Int) - (ws.length:Int)
    · rw [if_pos c9] at h; cases h
    rw [if_neg c9] at h
    exact ⟨n,rfl,hn,c2,c4,c5,c6,c7,AQq (fun e=>c3 (by rw [e])) c2 c5 c6 c7,Int.not_lt.1 c8,Int.not_lt.1 c9,h⟩
  · rintro ⟨n,rfl,h⟩
    unfold tradeErr
    rw [if_neg (fun g=>g ⟨Int.natCast_nonneg n,Int.ofNat_lt.2 h.hq⟩),if_neg h.bad,if_neg (fun e:(n:Int)=(p:Int)=>h.lots.pq (Int.ofNat.inj e).symm),Int.toNat_natCast,if_neg (fun g=>g h.at_),if_neg h.dup,if_neg h.ag,if_neg h.aw,if_neg (Int.not_lt.2 h.rp),if_neg (Int.not_lt.2 (show _≤Y5 w (meI (n:Int)) from h.rq))]
    exact h.sw
theorem Bm (pay fee a b:Int):swapErr a b pay fee=0∨0<swapErr a b pay fee:=by
  unfold swapErr
  split
  · exact .inr (by decide)
  · split
    · exact .inl rfl
    · exact .inr (by decide)
theorem ACb {a b pay fee:Int} (h:swapErr a b pay fee=0):pay≤a∧fee≤b∧Ha (a - pay+fee)∧Ha (b - fee+pay):=by
  unfold swapErr at h
  split at h
  · cases h
  · rename_i c1
    split at h
    · rename_i c2
      refine ⟨?_,?_,c2.1,c2.2⟩
      · exact Int.not_lt.1 (fun h=>c1 (.inl h))
      · exact Int.not_lt.1 (fun h=>c1 (.inr h))
    · cases h
theorem AAd (i:Nat):¬ (Ya i).1=(2:Int):=fun e=>by
  have:(1:Int)=2:=e
  cases this
theorem Lot.depI {l:List Pl} {xs:List Int} {src p:Pl} (h:Lot l xs src) (hs:¬ src.1=(2:Int)) (hp:¬ p.1=(2:Int)) (f c:Nat) (x:Pl):{n:Nat}→n≤xs.length→depI (Vw l xs p n) f c x=depI l f c x
  | 0,_=>rfl
  | n+1,hn=>by
    have hi:=h.inn n (by omega)
    simp only [Vw]
    rw [Lr (by rw [Jy]; omega) hp (by rw [h.get (by omega)]; exact hs)]
    exact Lot.depI h hs hp f c x (by omega)
theorem AH0.at_ {w:den Za} {p q:Nat} {gs ws:List Int} (h:AH0 w p q gs ws) (j:Nat):List.getD (K7 w p q gs ws) j (dft Zb)=List.getD (w.2.2.2.1:List Pl) j (dft Zb)∧(∀ i,i<(gs ++ ws).length→¬ iAt (gs ++ ws) i=(j:Int))∨List.getD (K7 w p q gs ws) j (dft Zb)=Ya p∧List.getD (w.2.2.2.1:List Pl) j (dft Zb)=Ya q∧(∃ i,i<ws.length∧iAt ws i=(j:Int)) ∨
    List.getD (K7 w p q gs ws) j (dft Zb)=Ya q∧List.getD (w.2.2.2.1:List Pl) j (dft Zb)=Ya p∧(∃ i,i<gs.length∧iAt gs i=(j:Int)):=by
  unfold K7
  rw [setAll_get h.lw.inn]
  by_cases c1:∃ i,i<ws.length∧iAt ws i=(j:Int)
  · rw [if_pos c1]
    obtain ⟨i,h1,h2⟩:=c1
    refine .inr (.inl ⟨rfl,?_,i,h1,h2⟩)
    have:=h.lw0.at_ i h1
    rw [h2,Int.toNat_natCast] at this
    exact this
  · rw [if_neg c1,setAll_get h.lg.inn]
    by_cases c2:∃ i,i<gs.length∧iAt gs i=(j:Int)
    · rw [if_pos c2]
      obtain ⟨i,h1,h2⟩:=c2
      refine .inr (.inr ⟨rfl,?_,i,h1,h2⟩)
      have:=h.lg.at_ i h1
      rw [h2,Int.toNat_natCast] at this
      exact this
    · rw [if_neg c2]
      refine .inl ⟨rfl,fun i hi e => ?_⟩
      by_cases hl:i<gs.length
      · rw [Na hl] at e; exact c2 ⟨i,hl,e⟩
      · obtain ⟨k,rfl⟩:∃ k,i=gs.length+k:=⟨i - gs.length,by omega⟩
        rw [R5] at e
        rw [List.length_append] at hi
        exact c1 ⟨k,by omega,e⟩
theorem AK7 (l:List Int) {p q:Nat} (hp:p<l.length) (hq:q<l.length) (a b:Int) (j:Nat):List.getD (List.set (List.set l p a) q b) j 0=if j=q then b else if j=p then a else List.getD l j 0:=by
  rw [Hb _ _ _ _ _ (by rw [List.length_set]; exact hq),Hb _ _ _ _ _ hp]
section
variable {w:den Za} {p q:Nat} {gs ws:List Int} {pay fee:Int} (ok:Ok w) (hp:p<List.length (w.2.1:List Int)) (h:AA0 w p q gs pay ws fee)
include ok hp h
abbrev tdW (w:den Za) (p q:Nat) (gs:List Int) (pay:Int) (ws:List Int) (fee:Int):den Za:=AGn w p q gs ws (Qz w p - pay+fee) (Qz w q - fee+pay)
theorem Bp:List.length (K7 w p q gs ws)=List.length (w.2.2.2.1:List (den Zb)):=by unfold K7; rw [Jy,Jy]
theorem AJh (j:Nat):Qz (tdW w p q gs pay ws fee) j=if j=q then Qz w q - fee+pay else if j=p then Qz w p - pay+fee else Qz w j:=by
  have hc1:=ok.right.c1
  have ha1:=ok.right.a1
  have hqq:=h.hq
  show List.getD (List.set (List.set (w.2.2.1:List Int) p _) (Int.toNat (q:Int)) _) j 0=_
  rw [Int.toNat_natCast,AK7 _ (by omega) (by omega)]
theorem AMu (t:Pl):Y5 (tdW w p q gs pay ws fee) t=Y5 w t+(if Ya p=t then (gs.length:Int) - (ws.length:Int) else 0)+(if Ya q=t then (ws.length:Int) - (gs.length:Int) else 0):=h.lots.room (tdW w p q gs pay ws fee) rfl rfl t
theorem BJs:Ok (tdW w p q gs pay ws fee):=by
  have hr:=ok.right
  have hs:=ok.sm
  have hc1:=ok.right.c1
  have ha1:=ok.right.a1
  have hqq:=h.hq
  have hlen:=Bp ok hp h
  have hcl:List.length ((tdW w p q gs pay ws fee).2.2.1:List Int)=List.length (w.2.2.1:List Int):=by
    show List.length (List.set (List.set (w.2.2.1:List Int) p _) _ _)=_
    rw [List.length_set,List.length_set]
  obtain ⟨_,_,s1,s2⟩:=ACb h.sw
  refine ⟨⟨hs.e,hs.b,hs.p,hs.c,hs.i,hs.a,by rw [hcl]; exact hs.wc,by show List.length (K7 w p q gs ws)≤_; rw [hlen]; exact hs.wh,hs.rows⟩,hr.may,hr.a1,by rw [hcl]; exact hr.c1,by show List.length (K7 w p q gs ws)=_; rw [hlen]; exact hr.w1,fun i hi=>⟨(hr.at_ i hi).1,?_⟩,fun i hi => ?_,fun i hi => ?_⟩
  · have hc:=AJh ok hp h i
    have:Ha (Qz (tdW w p q gs pay ws fee) i):=by
      rw [hc]
      split
      · exact s2
      · split
        · exact s1
        · exact (hr.at_ i hi).2
    exact this
  · have hi:i<List.length (w.2.2.2.1:List (den Zb)):=by rw [← hlen]; exact hi
    have gm:∀ r,r<List.length (w.2.1:List Int)→Kh w.1 (Ya r):=fun r hr'=>.inr (.inl ⟨rfl,Int.natCast_nonneg r,by show (r:Int)<_; rw [← hr.a1]; exact Int.ofNat_lt.2 hr'⟩)
    show Kh w.1 (List.getD (K7 w p q gs ws) i (dft Zb))
    rcases h.lots.at_ i with ⟨e,_⟩ | ⟨e,_⟩ | ⟨e,_⟩
    · rw [e]; exact hr.good i hi
    · rw [e]; exact gm p hp
    · rw [e]; exact gm q hqq
  · have hi:i<List.length (w.2.2.2.1:List (den Zb)):=by rw [← hlen]; exact hi
    have hd:∀ x,depI (K7 w p q gs ws) 51 0 x=depI w.2.2.2.1 51 0 x:=fun x=>by
      unfold K7
      rw [h.lots.lw.depI (AAd q) (AAd p) 51 0 x (Nat.le_refl _),h.lots.lg.depI (AAd p) (AAd q) 51 0 x (Nat.le_refl _)]
    have hroom:∀ t,0≤Y5 (tdW w p q gs pay ws fee) t:=fun t=>by
      rw [AMu ok hp h t]
      have h0:=(hr.room t).1
      by_cases c1:Ya p=t
      · have c2:¬ Ya q=t:=fun e=>h.lots.pq (AMj (c1.trans e.symm))
        rw [if_pos c1,if_neg c2]
        have:=h.rp
        rw [c1] at this
        omega
      · by_cases c2:Ya q=t
        · rw [if_neg c1,if_pos c2]
          have:=h.rq
          rw [c2] at this
          omega
        · rw [if_neg c1,if_neg c2]; omega
    refine ⟨?_,?_⟩
    · show depI (K7 w p q gs ws) 51 0 (List.getD (K7 w p q gs ws) i (dft Zb))≤4
      rw [hd]
      rcases h.lots.at_ i with ⟨e,_⟩ | ⟨e,_⟩ | ⟨e,_⟩
      · rw [e]; exact (hr.deep i hi).1
      · rw [e,I9 (AAd p)]; omega
      · rw [e,I9 (AAd q)]; omega
    · have:=hroom (List.getD ((tdW w p q gs pay ws fee).2.2.2.1:List (den Zb)) i (dft Zb))
      unfold Y5 at this
      show (Yq _ _ _:Int)≤Ll w.1 _
      have e:(tdW w p q gs pay ws fee).1=w.1:=rfl
      rw [e] at this
      omega
end
end Go.Proofs.YtpemapoblhleoaaGreatDoor.Ghost
