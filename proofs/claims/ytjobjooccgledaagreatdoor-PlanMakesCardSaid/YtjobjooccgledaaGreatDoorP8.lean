/- What functions come to, and that the statements are answered with 'true'. Conditions: none. -/
import Derived.Test.YtjobjooccgledaaGreatDoorS
import Derived.Test.YtjobjooccgledaaGreatDoorGE
import Derived.Test.YtjobjooccgledaaGreatDoorP1
import Derived.Test.YtjobjooccgledaaGreatDoorP2
import Derived.Test.YtjobjooccgledaaGreatDoorP3
import Derived.Test.YtjobjooccgledaaGreatDoorP4
import Derived.Test.YtjobjooccgledaaGreatDoorP5
import Derived.Test.YtjobjooccgledaaGreatDoorP6
import Derived.Test.YtjobjooccgledaaGreatDoorP7
set_option linter.unusedVariables false
set_option linter.unusedSimpArgs false
set_option linter.unusedSectionVars false
set_option linter.unnecessarySimpa false
namespace Go.Proofs.YtjobjooccgledaaGreatDoor.Ghost
open Go
end Go.Proofs.YtjobjooccgledaaGreatDoor.Ghost
namespace Go.Proofs.YtjobjooccgledaaGreatDoor.Ghost
open Go
def inQ (w:den Za) (q:Int):Prop:=0≤q∧q<(List.length (w.2.1:List Int):Int)
theorem Ca {w:den Za} {q:Int} (h:inQ w q):∃ n:Nat,q=(n:Int)∧n<List.length (w.2.1:List Int):=⟨q.toNat,by have:=h.1; omega,by have:=h.1; have:=h.2; omega⟩
theorem Wc (w:den Za) (k:Int):Zd (fun nf _ _ _=>Ky nf (w) (k)) (fun r=>r=((dec (inR w k),()),[])):=by
  refine Zd.succ (fun nf _ _ _=>Ky.eq nf _ _) ?_
  by_cases h:0≤k <;> simp [h,inR,Gq]
theorem J4 (w:den Za) (k:Int):Zd (fun nf _ _ _=>Y9 nf (w) (k)) (fun r=>r=((dec (inQ w k),()),[])):=by
  refine Zd.succ (fun nf _ _ _=>Y9.eq nf _ _) ?_
  by_cases h:0≤k <;> simp [h,inQ,Gq]
theorem Km (k:Int):Zd (fun nf _ _ _=>Ys nf (k)) (fun r=>r=(((1,k,()),()),[])):=by
  refine Zd.succ (fun nf _ _ _=>Ys.eq nf _) ?_
  simp
open Classical in
noncomputable def giveErr (w:den Za) (p:Nat) (k q:Int):Int:=if inR w k∧inQ w q then
  (if q=(p:Int) then 12 else if T6 w q.toNat=T6 w p∧Qz w k.toNat=Yc p then (if Y7 w (Yc q.toNat)<1 then 9 else 0) else 5) else 3
noncomputable def Pj (w:den Za) (p:Nat) (k q:Int):den Za×Int×Unit:=if giveErr w p k q=0 then (put w k.toNat (Yc q.toNat),0,()) else (w,giveErr w p k q,())
theorem AGv {w:den Za} {p:Nat} {k q:Int} (h:¬ giveErr w p k q=3):inR w k∧inQ w q:=by
  by_cases hn:inR w k∧inQ w q
  · exact hn
  · exact absurd (by unfold giveErr; rw [if_neg hn]) h
theorem AJr {w:den Za} (ok:Ok w) {p:Nat} (hp:p<List.length (w.2.1:List Int)) (k q:Int):Zd (fun nf _ _ _=>Vk nf (w) ((p:Int)) (k) (q)) (fun r=>r.1=Pj w p k q):=by
  refine Zd.succ (fun nf _ _ _=>Vk.eq nf _ _ _ _) ?_
  by_cases hk:inR w k
  · by_cases hq:inQ w q
    · obtain ⟨k,rfl,hkn⟩:=H7 hk
      obtain ⟨q,rfl,hqn⟩:=Ca hq
      simp [-List.getD_eq_getElem?_getD,-List.length_eq_zero_iff,Zq,Zp,Z5,Zr,Xj,Xi,X5,Ze (Wc w (k:Int)),(Wc w (k:Int)).prop,Ze (J4 w (q:Int)),(J4 w (q:Int)).prop,hk,hq,hkn,hqn,hp,Ze (Km _),(Km _).prop,Ze (Qj w ok (Yc q) (G0 q)),(Qj w ok (Yc q) (G0 q)).prop,Ze (Oz w ok.sm hkn (Yc q)),(Oz w ok.sm hkn (Yc q)).prop,Pj,giveErr]
      by_cases c1:(q:Int)=(p:Int) <;> by_cases c2:T6 w q=T6 w p <;> by_cases c3:Qz w k=Yc p <;> by_cases c4:Y7 w (Yc q)<1 <;> simp [-List.getD_eq_getElem?_getD,-List.length_eq_zero_iff,Zq,Zp,Z5,Zr,Xj,Xi,X5,c1,c2,c3,c4]
    · simp [-List.getD_eq_getElem?_getD,-List.length_eq_zero_iff,Zq,Zp,Z5,Zr,Xj,Xi,X5,Ze (Wc w k),(Wc w k).prop,Ze (J4 w q),(J4 w q).prop,hk,hq,Pj,giveErr]
  · simp [-List.getD_eq_getElem?_getD,-List.length_eq_zero_iff,Zq,Zp,Z5,Zr,Xj,Xi,X5,Ze (Wc w k),(Wc w k).prop,hk,Pj,giveErr]
end Go.Proofs.YtjobjooccgledaaGreatDoor.Ghost
namespace Go.Proofs.YtjobjooccgledaaGreatDoor.Ghost
open Go
abbrev iAt (l:List Int) (j:Nat):Int:=List.getD l j 0
def Bad (w:den Za) (l:List Int):Prop:=∃ j,j<l.length∧¬ inR w (iAt l j)
def Lk (w:den Za) (l:List Int) (p:Int):Prop:=∃ j,j<l.length∧¬ Qz w (iAt l j).toNat=((1:Int),p,())
def Dup (l:List Int):Prop:=∃ i j,i<j∧j<l.length∧iAt l i=iAt l j
theorem ANe (w:den Za) (l:List Int) (hl:l.length≤1048576) (t4:Int):∀ i,i≤l.length→Zd (fun nf fm0 _ _=>Zk.l0 nf fm0 (l) (w) t4 ((l.length:Int)) ((i:Int))) (fun r=>0≤r.1.1↔∃ j,i≤j∧j<l.length∧¬ inR w (iAt l j)):=by
  refine upto ?_ (fun i hi next => ?_)
  · refine Zd.succ1 (fun nf fm0 _ _=>Zk.l0_eq nf fm0 _ _ _ _ _) ?_
    simp [-List.getD_eq_getElem?_getD,-List.length_eq_zero_iff,Zq,Zp,Z5,Zr,Xj,Xi,X5]
    exact fun j h1 h2=>by omega
  · have sp:∀ k,Zd (fun nf _ _ _=>Y5 nf (k) (w)) (fun r=>r=((dec (¬ inR w k),()),[])):=fun k=>by
      refine Zd.succ (fun nf _ _ _=>Y5.eq nf _ _) ?_
      simp [-List.getD_eq_getElem?_getD,-List.length_eq_zero_iff,Zq,Zp,Z5,Zr,Xj,Xi,X5,Ze (Wc w k),(Wc w k).prop]
    refine Zd.succ1 (fun nf fm0 _ _=>Zk.l0_eq nf fm0 _ _ _ _ _) ?_
    rw [← Xm (by omega)] at next
    by_cases h:inR w (iAt l i)
    · have next:=next.mono (Q':=fun r=>0≤r.1.1↔∃ j,i≤j∧j<l.length∧¬ inR w (iAt l j)) (fun v hv=>hv.trans ⟨fun ⟨j,a,b,c⟩=>⟨j,by omega,b,c⟩,fun ⟨j,a,b,c⟩=>⟨j,by
        by_cases e:j=i
        · subst e; exact absurd h c
        · omega,b,c⟩⟩)
      simp [-List.getD_eq_getElem?_getD,-List.length_eq_zero_iff,Zq,Zp,Z5,Zr,Xj,Xi,X5,hi,Ze (sp _),(sp _).prop,h]
      exact next
    · simp [-List.getD_eq_getElem?_getD,-List.length_eq_zero_iff,Zq,Zp,Z5,Zr,Xj,Xi,X5,hi,Ze (sp _),(sp _).prop,h]
      exact ⟨i,Nat.le_refl i,hi,h⟩
theorem Ic (w:den Za) (l:List Int) (hl:l.length≤1048576):Zd (fun nf _ _ _=>Xb nf (l) (w)) (fun r=>r.1.1=true↔Bad w l):=by
  have h:Zd (fun nf _ _ _=>Zk nf (l) (w)) (fun r=>0≤r.1.1↔Bad w l):=by
    refine Zd.succ (fun nf _ _ _=>Zk.eq nf _ _) ?_
    exact (ANe w l hl _ 0 (Nat.zero_le _)).enter.mono (fun v hv=>hv.trans ⟨fun ⟨j,_,b,c⟩=>⟨j,b,c⟩,fun ⟨j,b,c⟩=>⟨j,Nat.zero_le _,b,c⟩⟩)
  refine Zd.succ (fun nf _ _ _=>Xb.eq nf _ _) ?_
  simp [Ze (h),(h).prop]
theorem AJ3 (w:den Za) (l:List Int) (hl:l.length≤1048576) (hb:¬ Bad w l) (p:Int) (t4:Int):∀ i,i≤l.length→Zd (fun nf fm0 _ _=>Zu.l0 nf fm0 (l) (w) (p) t4 ((l.length:Int)) ((i:Int))) (fun r=>0≤r.1.1↔∃ j,i≤j∧j<l.length∧¬ Qz w (iAt l j).toNat=((1:Int),p,())):=by
  refine upto ?_ (fun i hi next => ?_)
  · refine Zd.succ1 (fun nf fm0 _ _=>Zu.l0_eq nf fm0 _ _ _ _ _ _) ?_
    simp [-List.getD_eq_getElem?_getD,-List.length_eq_zero_iff,Zq,Zp,Z5,Zr,Xj,Xi,X5]
    exact fun j h1 h2=>by omega
  · have hin:inR w (iAt l i):=Classical.byContradiction (fun h=>hb ⟨i,hi,h⟩)
    obtain ⟨k,ek,hk⟩:=H7 hin
    have sp:Zd (fun nf _ _ _=>Ym nf ((k:Int)) (w) (p)) (fun r=>r=((dec (¬ Qz w k=((1:Int),p,())),()),[])):=by
      refine Zd.succ (fun nf _ _ _=>Ym.eq nf _ _ _) ?_
      simp [-List.getD_eq_getElem?_getD,-List.length_eq_zero_iff,Zq,Zp,Z5,Zr,Xj,Xi,X5,hk,Ze (Km p),(Km p).prop]
    refine Zd.succ1 (fun nf fm0 _ _=>Zu.l0_eq nf fm0 _ _ _ _ _ _) ?_
    rw [← Xm (by omega)] at next
    by_cases h:Qz w (iAt l i).toNat=((1:Int),p,())
    · have next:=next.mono (Q':=fun r=>0≤r.1.1↔∃ j,i≤j∧j<l.length∧¬ Qz w (iAt l j).toNat=((1:Int),p,())) (fun v hv=>hv.trans ⟨fun ⟨j,a,b,c⟩=>⟨j,by omega,b,c⟩,fun ⟨j,a,b,c⟩=>⟨j,by
        by_cases e:j=i
        · subst e; exact absurd h c
        · omega,b,c⟩⟩)
      rw [ek,Int.toNat_natCast] at h
      simp [-List.getD_eq_getElem?_getD,-List.length_eq_zero_iff,Zq,Zp,Z5,Zr,Xj,Xi,X5,hi,ek,Ze (sp),(sp).prop,h]
      exact next
    · have h':=h
      rw [ek,Int.toNat_natCast] at h'
      simp [-List.getD_eq_getElem?_getD,-List.length_eq_zero_iff,Zq,Zp,Z5,Zr,Xj,Xi,X5,hi,ek,Ze (sp),(sp).prop,h']
      exact ⟨i,Nat.le_refl i,hi,h⟩
theorem Mg (w:den Za) (l:List Int) (hl:l.length≤1048576) (hb:¬ Bad w l) (p:Int):Zd (fun nf _ _ _=>Yw nf (l) (p) (w)) (fun r=>r.1.1=true↔Lk w l p):=by
  have h:Zd (fun nf _ _ _=>Zu nf (l) (w) (p)) (fun r=>0≤r.1.1↔Lk w l p):=by
    refine Zd.succ (fun nf _ _ _=>Zu.eq nf _ _ _) ?_
    exact (AJ3 w l hl hb p _ 0 (Nat.zero_le _)).enter.mono (fun v hv=>hv.trans ⟨fun ⟨j,_,b,c⟩=>⟨j,b,c⟩,fun ⟨j,b,c⟩=>⟨j,Nat.zero_le _,b,c⟩⟩)
  have h2:Zd (fun nf _ _ _=>Xz nf (l) (w) (p)) (fun r=>r.1.1=true↔Lk w l p):=by
    refine Zd.succ (fun nf _ _ _=>Xz.eq nf _ _ _) ?_
    simp [Ze (h),(h).prop]
  refine Zd.succ (fun nf _ _ _=>Yw.eq nf _ _ _) ?_
  simp [Ze (h2),(h2).bprop]
theorem N0 (k k':Int) (v:Bool):(m:List (Int×Bool))→Yo (.int .i64) .bool k' (Gu (.int .i64) .bool k v m)=if k'=k then some v else Yo (.int .i64) .bool k' m
  | []=>by
    simp only [Gu,Yo,eqT]
    by_cases h:k'=k <;> simp [h]
  | (a,b) :: r=>by
    have ih:=N0 k k' v r
    simp only [Gu,Yo,eqT]
    by_cases h1:k=a
    · subst h1
      simp only [beq_self_eq_true,if_true,Yo,eqT]
      by_cases h:k'=k <;> simp [h]
    · have h1':(k == a)=false:=by simpa using h1
      simp only [h1',Bool.false_eq_true,if_false,Yo,eqT,ih]
      by_cases h2:k'=a
      · subst h2
        have:¬ k'=k:=fun e=>h1 e.symm
        simp [this]
      · have h2':(k' == a)=false:=by simpa using h2
        simp [h2']
theorem AOa (l:List Int) (hl:l.length≤1048576) (t0:(List Int)) (t2:Bool):∀ i,i≤l.length→∀ m:List (Int×Bool),(∀ k,Yo (.int .i64) .bool k m=some true∨Yo (.int .i64) .bool k m=none)→(∀ k,Yo (.int .i64) .bool k m=some true↔∃ i',i'<i∧iAt l i'=k) →
    Zd (fun nf fm0 _ _=>Xt.l0 nf fm0 t0 t2 (l) ((l.length:Int)) ((i:Int)) (m)) (fun r=>r.1.1=true↔∃ i' j,i'<j∧i≤j∧j<l.length∧iAt l i'=iAt l j):=by
  refine upto (fun m hm0 hm => ?_) (fun i hi next m hm0 hm => ?_)
  · refine Zd.succ1 (fun nf fm0 _ _=>Xt.l0_eq nf fm0 _ _ _ _ _ _) ?_
    simp [-List.getD_eq_getElem?_getD,-List.length_eq_zero_iff,Zq,Zp,Z5,Zr,Xj,Xi,X5]
    exact fun _ j _ h1 h2=>by omega
  · refine Zd.succ1 (fun nf fm0 _ _=>Xt.l0_eq nf fm0 _ _ _ _ _ _) ?_
    by_cases h:∃ i',i'<i∧iAt l i'=iAt l i
    · have hf:=(hm (iAt l i)).2 h
      simp [-List.getD_eq_getElem?_getD,-List.length_eq_zero_iff,Zq,Zp,Z5,Zr,Xj,Xi,X5,hi,hf]
      obtain ⟨i',h1,h2⟩:=h
      exact ⟨i',i,h1,Nat.le_refl i,hi,h2⟩
    · have hf:Yo (.int .i64) .bool (iAt l i) m=none:=(hm0 _).resolve_left (fun e=>h ((hm _).1 e))
      have next:=next (Gu (.int .i64) .bool (iAt l i) true m) (fun k=>by
        rw [N0]
        split
        · exact .inl rfl
        · exact hm0 k) (fun k=>by
        rw [N0]
        by_cases e:k=iAt l i
        · rw [if_pos e]; exact ⟨fun _=>⟨i,by omega,e.symm⟩,fun _=>rfl⟩
        · rw [if_neg e,hm k]
          exact ⟨fun ⟨j,a,b⟩=>⟨j,by omega,b⟩,fun ⟨j,a,b⟩=>⟨j,by
            by_cases e2:j=i
            · subst e2; exact absurd b.symm e
            · omega,b⟩⟩)
      rw [← Xm (by omega)] at next
      have next:=next.mono (Q':=fun r=>r.1.1=true↔∃ i' j,i'<j∧i≤j∧j<l.length∧iAt l i'=iAt l j) (fun v hv=>hv.trans ⟨fun ⟨i',j,a,b,c,d⟩=>⟨i',j,a,by omega,c,d⟩,fun ⟨i',j,a,b,c,d⟩=>⟨i',j,a,by
        by_cases e:j=i
        · subst e; exact absurd ⟨i',a,d⟩ h
        · omega,c,d⟩⟩)
      simp [-List.getD_eq_getElem?_getD,-List.length_eq_zero_iff,Zq,Zp,Z5,Zr,Xj,Xi,X5,hi,hf]
      exact next
theorem Ar (l:List Int) (hl:l.length≤1048576):Zd (fun nf _ _ _=>Xt nf (l)) (fun r=>r.1.1=true↔Dup l):=by
  refine Zd.succ (fun nf _ _ _=>Xt.eq nf _) ?_
  exact (AOa l hl l false 0 (Nat.zero_le _) [] (fun k=>.inr rfl) (fun k=>⟨fun h=>(by cases h),fun ⟨i,h,_⟩=>by omega⟩)).enter.mono (fun v hv=>hv.trans ⟨fun ⟨i,j,a,_,c,d⟩=>⟨i,j,a,c,d⟩,fun ⟨i,j,a,c,d⟩=>⟨i,j,a,Nat.zero_le _,c,d⟩⟩)
end Go.Proofs.YtjobjooccgledaaGreatDoor.Ghost
namespace Go.Proofs.YtjobjooccgledaaGreatDoor.Ghost
open Go
def Hu (x:Int):Prop:=0≤x∧x≤1073741824
open Classical in
noncomputable def swapErr (a b pay fee:Int):Int:=if a<pay∨b<fee then 10 else if Hu (a - pay+fee)∧Hu (b - fee+pay) then 0 else 11
noncomputable def AF8 (a b pay fee:Int):Int×Int×Int×Unit:=if swapErr a b pay fee=0 then (a - pay+fee,b - fee+pay,0,()) else (a,b,swapErr a b pay fee,())
theorem E8 (a:Int):Zd (fun nf _ _ _=>H5 nf (a)) (fun r=>r=((dec (Hu a),()),[])):=by
  refine Zd.succ (fun nf _ _ _=>H5.eq nf _) ?_
  by_cases h:0≤a <;> simp [h,Hu,Gq]
theorem ABx {a b pay fee:Int} (ha:Hu a) (hb:Hu b) (hp:Hu pay) (hf:Hu fee):Zd (fun nf _ _ _=>Kb nf (a) (b) (pay) (fee)) (fun r=>r.1=AF8 a b pay fee):=by
  obtain ⟨a1,a2⟩:=ha; obtain ⟨b1,b2⟩:=hb; obtain ⟨p1,p2⟩:=hp; obtain ⟨f1,f2⟩:=hf
  have e1:IntKind.wrap .i64 (a - pay)=a - pay:=Hr (by omega) (by omega)
  have e2:IntKind.wrap .i64 (b - fee)=b - fee:=Hr (by omega) (by omega)
  have e3:IntKind.wrap .i64 (a - pay+fee)=a - pay+fee:=Hr (by omega) (by omega)
  have e4:IntKind.wrap .i64 (b - fee+pay)=b - fee+pay:=Hr (by omega) (by omega)
  refine Zd.succ (fun nf _ _ _=>Kb.eq nf _ _ _ _) ?_
  simp [-List.getD_eq_getElem?_getD,-List.length_eq_zero_iff,Zq,Zp,Z5,Zr,Xj,Xi,X5,show ¬ pay<0 by omega,show ¬ fee<0 by omega,e1,e2,e3,e4,Ze (E8 _),(E8 _).prop,AF8,swapErr]
  by_cases c1:a<pay <;> by_cases c2:b<fee <;> by_cases c3:Hu (a - pay+fee) <;> by_cases c4:Hu (b - fee+pay) <;> simp [c1,c2,c3,c4]
theorem AKl (a b pay fee:Int):(AF8 a b pay fee).2.2.1=swapErr a b pay fee:=by
  unfold AF8
  split
  · rename_i h; exact h.symm
  · rfl
def V0 (l:List Pl) (xs:List Int) (p:Pl):Nat→List Pl
  | 0=>l
  | i+1=>List.set (V0 l xs p i) (iAt xs i).toNat p
theorem J3 (l:List Pl) (xs:List Int) (p:Pl):(i:Nat)→(V0 l xs p i).length=l.length
  | 0=>rfl
  | i+1=>by simp only [V0,List.length_set,J3 l xs p i]
abbrev meI (q:Int):Pl:=((1:Int),q,())
def Hd (w:den Za) (p:Nat) (q:Int) (gs ws:List Int):List Pl:=V0 (V0 w.2.2.2.1 gs (meI q) gs.length) ws (Yc p) ws.length
def AHr (w:den Za) (p:Nat) (q:Int) (gs ws:List Int) (a b:Int):den Za:=(w.1,w.2.1,List.set (List.set (w.2.2.1:List Int) p a) q.toNat b,Hd w p q gs ws,())
open Classical in
noncomputable def tradeErr (w:den Za) (p:Nat) (q:Int) (gs:List Int) (pay:Int) (ws:List Int) (fee:Int):Int :=
  if ¬ inQ w q then 3 else if Bad w (gs ++ ws) then 3 else if q=(p:Int) then 12 else if ¬ T6 w q.toNat=T6 w p then 5 else if Dup (gs ++ ws) then 13 else if Lk w gs p then 5 else if Lk w ws q then 5
  else if Y7 w (Yc p)<(ws.length:Int) - (gs.length:Int) then 9 else if Y7 w (meI q)<(gs.length:Int) - (ws.length:Int) then 9 else swapErr (Vx w p) (Vx w q.toNat) pay fee
noncomputable def K0 (w:den Za) (p:Nat) (q:Int) (gs:List Int) (pay:Int) (ws:List Int) (fee:Int):den Za×Int×Unit :=
  if tradeErr w p q gs pay ws fee=0 then (AHr w p q gs ws (Vx w p - pay+fee) (Vx w q.toNat - fee+pay),0,()) else (w,tradeErr w p q gs pay ws fee,())
theorem AN9 {N:Nat} (p:Nat) (ws:List Int) (hws:ws.length≤1048576) (base:List Pl) (hb:base.length=N) (hin:∀ j,j<ws.length→0≤iAt ws j∧iAt ws j<(N:Int)) (t0:(den Za)) (t2:(den Z6)) (t7:Int) (t8:Int) (t9:(List Int)) (t11:Int) (t12:Int) (t13:Int) (t14:Int) (t135:(List Int)) (t136:Int) (t137:Int) (o0:(den Za)) (o1:(den Z6)) (o2:(den Za)) (o3:(List (List Int))) (o4:(den Za)) (o5:(List Int)) :
    ∀ i,i≤ws.length→Zd (fun nf fm0 _ _=>Z7.l1 nf fm0 t0 ((p:Int)) t2 t7 t8 t9 t11 t12 t13 t14 t135 t136 t137 (ws) ((ws.length:Int)) ((i:Int)) o0 o1 o2 o3 o4 o5 (V0 base ws (Yc p) i)) (fun r=>r=(((o4.1,o4.2.1,o5,V0 base ws (Yc p) ws.length,()),0,()),[(0,[2]),(0,[3])])):=by
  refine upto ?_ (fun i hi next => ?_)
  · refine Zd.succ1 (fun nf fm0 _ _=>Z7.l1_eq nf fm0 _ _ _ _ _ _ _ _ _ _ _ _ _ _ _ _ _ _ _ _ _ _ _) ?_
    simp [-List.getD_eq_getElem?_getD,-List.length_eq_zero_iff,Zq,Zp,Z5,Zr,Xj,Xi,X5]
  · refine Zd.succ1 (fun nf fm0 _ _=>Z7.l1_eq nf fm0 _ _ _ _ _ _ _ _ _ _ _ _ _ _ _ _ _ _ _ _ _ _ _) ?_
    rw [← Xm (by omega)] at next
    have hl:=J3 base ws (Yc p) i
    have h:=hin i hi
    simp [-List.getD_eq_getElem?_getD,-List.length_eq_zero_iff,Zq,Zp,Z5,Zr,Xj,Xi,X5,hi,Ze (Km _),(Km _).prop,hl,hb,h]
    exact next
theorem AN8 {N:Nat} (p:Nat) (q:Int) (c:Cm) (hws:(Xr c).length≤1048576) (hgs:(Xl c).length≤1048576) (base:List Pl) (hb:base.length=N) (hin:∀ j,j<(Xr c).length→0≤iAt (Xr c) j∧iAt (Xr c) j<(N:Int)) (hin':∀ j,j<(Xl c).length→0≤iAt (Xl c) j∧iAt (Xl c) j<(N:Int)) (t0:(den Za)) (t2:(den Z6)) (t7:Int) (t9:(List Int)) (t11:Int) (t12:Int) (t13:Int) (t14:Int) (o0:(den Za)) (o2:(den Za)) (o3:(List (List Int))) (o4:(den Za)) (o5:(List Int)) :
    ∀ i,i≤(Xl c).length→Zd (fun nf fm0 _ _=>Z7.l0 nf fm0 t0 ((p:Int)) t2 t7 (q) t9 t11 t12 t13 t14 (Xl c) (((Xl c).length:Int)) ((i:Int)) o0 (c) o2 o3 o4 o5 (V0 base (Xl c) (meI q) i)) (fun r=>r=(((o4.1,o4.2.1,o5,V0 (V0 base (Xl c) (meI q) (Xl c).length) (Xr c) (Yc p) (Xr c).length,()),0,()),[(0,[2]),(0,[3])])):=by
  refine upto ?_ (fun i hi next => ?_)
  · refine Zd.succ1 (fun nf fm0 _ _=>Z7.l0_eq nf fm0 _ _ _ _ _ _ _ _ _ _ _ _ _ _ _ _ _ _ _ _) ?_
    simp [-List.getD_eq_getElem?_getD,-List.length_eq_zero_iff,Zq,Zp,Z5,Zr,Xj,Xi,X5]
    exact (AN9 p (Xr c) hws _ (by rw [J3]; exact hb) hin _ _ _ _ _ _ _ _ _ _ _ _ _ _ _ _ _ _ 0 (Nat.zero_le _)).enter
  · refine Zd.succ1 (fun nf fm0 _ _=>Z7.l0_eq nf fm0 _ _ _ _ _ _ _ _ _ _ _ _ _ _ _ _ _ _ _ _) ?_
    rw [← Xm (by omega)] at next
    have hl:=J3 base (Xl c) (meI q) i
    have h:=hin' i hi
    simp [-List.getD_eq_getElem?_getD,-List.length_eq_zero_iff,Zq,Zp,Z5,Zr,Xj,Xi,X5,hi,Ze (Km _),(Km _).prop,hl,hb,h]
    exact next
theorem Ra {w:den Za} {l:List Int} (h:¬ Bad w l):∀ j,j<l.length→inR w (iAt l j):=fun j hj=>Classical.byContradiction (fun hn=>h ⟨j,hj,hn⟩)
theorem Nx {a b:List Int} {j:Nat} (h:j<a.length):iAt (a ++ b) j=iAt a j:=by
  unfold iAt; rw [List.getD_eq_getElem?_getD,List.getD_eq_getElem?_getD,List.getElem?_append_left h]
theorem Pm {a b:List Int} (j:Nat):iAt (a ++ b) (a.length+j)=iAt b j:=by
  unfold iAt; rw [List.getD_eq_getElem?_getD,List.getD_eq_getElem?_getD,List.getElem?_append_right (by omega),Nat.add_sub_cancel_left]
theorem AHw {w:den Za} {a b:List Int} (h:¬ Bad w (a ++ b)):¬ Bad w a∧¬ Bad w b :=
  ⟨fun ⟨j,h1,h2⟩=>h ⟨j,by rw [List.length_append]; omega,by rw [Nx h1]; exact h2⟩,fun ⟨j,h1,h2⟩=>h ⟨a.length+j,by rw [List.length_append]; omega,by rw [Pm]; exact h2⟩⟩
theorem Ik {w:den Za} (h:Yg w) {i:Nat} (hi:i<List.length (w.2.1:List Int)):Hu (Vx w i):=(h.at_ i hi).2
theorem Gx (a b:List Int) (ha:a.length≤524288) (hb:b.length≤524288):Zd (fun nf _ _ _=>Vp nf [a,b]) (fun r=>r=((a ++ b,()),[(0,[])])) :=
  Zd.succ (G:=fun _ _ _ _=>some ((a ++ b,()),[(0,[])])) (fun n _ _ _=>by
    show (if List.length a≤524288∧List.length b≤524288 then _ else none)=_
    rw [if_pos ⟨ha,hb⟩]) (Zd.ret rfl)
theorem AHs {w:den Za} (ok:Ok w) {p:Nat} (hp:p<List.length (w.2.1:List Int)) (c:Cm) (hg:(Xl c).length≤100) (hw:(Xr c).length≤100) (hpay:Hu (Us c)) (hfee:Hu (Ur c)) :
    Zd (fun nf _ _ _=>Z7 nf (w) ((p:Int)) (c)) (fun r=>r=(K0 w p (Gf c) (Xl c) (Us c) (Xr c) (Ur c),if tradeErr w p (Gf c) (Xl c) (Us c) (Xr c) (Ur c)=0 then [(0,[2]),(0,[3])] else [])):=by
  have hlen:(Xl c ++ Xr c).length≤1048576:=by rw [List.length_append]; omega
  refine Zd.succ (fun nf _ _ _=>Z7.eq nf _ _ _) ?_
  by_cases c1:inQ w (Gf c)
  · by_cases c2:Bad w (Xl c ++ Xr c)
    · simp [-List.getD_eq_getElem?_getD,-List.length_eq_zero_iff,Zq,Zp,Z5,Zr,Xj,Xi,X5,Ze (Gx (Xl c) (Xr c) (by omega) (by omega)),(Gx (Xl c) (Xr c) (by omega) (by omega)).prop,Ze (J4 w _),(J4 w _).prop,Ze (Ic w (Xl c ++ Xr c) hlen),(Ic w (Xl c ++ Xr c) hlen).bprop,c1,c2,K0,tradeErr]
    · obtain ⟨q,eq,hq⟩:=Ca c1
      have hin:=Ra c2
      obtain ⟨bg,bw⟩:=AHw c2
      have hc1:=ok.right.c1
      have ha1:=ok.right.a1
      have hpc:p<List.length (w.2.2.1:List Int):=by omega
      have hqc:q<List.length (w.2.2.1:List Int):=by omega
      have e1:IntKind.wrap .i64 (((Xr c).length:Int) - ((Xl c).length:Int))=((Xr c).length:Int) - ((Xl c).length:Int):=Hr (by omega) (by omega)
      have e2:IntKind.wrap .i64 (-(((Xr c).length:Int) - ((Xl c).length:Int)))=((Xl c).length:Int) - ((Xr c).length:Int):=by rw [Hr (by omega) (by omega)]; omega
      simp only [eq]
      simp [-List.getD_eq_getElem?_getD,-List.length_eq_zero_iff,Zq,Zp,Z5,Zr,Xj,Xi,X5,Ze (Gx (Xl c) (Xr c) (by omega) (by omega)),(Gx (Xl c) (Xr c) (by omega) (by omega)).prop,Ze (J4 w _),(J4 w _).prop,Ze (Ic w (Xl c ++ Xr c) hlen),(Ic w (Xl c ++ Xr c) hlen).bprop,c2,hq,hp,show inQ w (q:Int) from eq ▸ c1,Ze (Ar (Xl c ++ Xr c) hlen),(Ar (Xl c ++ Xr c) hlen).bprop,Ze (Mg w (Xl c) (by omega) bg (p:Int)),(Mg w (Xl c) (by omega) bg (p:Int)).bprop,Ze (Mg w (Xr c) (by omega) bw (q:Int)),(Mg w (Xr c) (by omega) bw (q:Int)).bprop,Ze (Km _),(Km _).prop,Ze (Qj w ok (Yc p) (G0 p)),(Qj w ok (Yc p) (G0 p)).prop,Ze (Qj w ok (Yc q) (G0 q)),(Qj w ok (Yc q) (G0 q)).prop,e1,e2,hpc,hqc,Ze (ABx (Ik ok.right hp) (Ik ok.right hq) hpay hfee),(ABx (Ik ok.right hp) (Ik ok.right hq) hpay hfee).prop,AKl]
      by_cases c3:(q:Int)=(p:Int)
      · simp [-List.getD_eq_getElem?_getD,-List.length_eq_zero_iff,Zq,Zp,Z5,Zr,Xj,Xi,X5,c3,c2,K0,tradeErr,show inQ w (p:Int) from c3 ▸ eq ▸ c1]
      by_cases c4:T6 w q=T6 w p
      rotate_left
      · simp [-List.getD_eq_getElem?_getD,-List.length_eq_zero_iff,Zq,Zp,Z5,Zr,Xj,Xi,X5,c3,c4,c2,K0,tradeErr,show inQ w (q:Int) from eq ▸ c1]
      by_cases c5:Dup (Xl c ++ Xr c)
      · simp [-List.getD_eq_getElem?_getD,-List.length_eq_zero_iff,Zq,Zp,Z5,Zr,Xj,Xi,X5,c3,c4,c5,c2,K0,tradeErr,show inQ w (q:Int) from eq ▸ c1]
      by_cases c6:Lk w (Xl c) (p:Int)
      · simp [-List.getD_eq_getElem?_getD,-List.length_eq_zero_iff,Zq,Zp,Z5,Zr,Xj,Xi,X5,c3,c4,c5,c6,c2,K0,tradeErr,show inQ w (q:Int) from eq ▸ c1]
      by_cases c7:Lk w (Xr c) (q:Int)
      · simp [-List.getD_eq_getElem?_getD,-List.length_eq_zero_iff,Zq,Zp,Z5,Zr,Xj,Xi,X5,c3,c4,c5,c6,c7,c2,K0,tradeErr,show inQ w (q:Int) from eq ▸ c1]
      by_cases c8:Y7 w (Yc p)<((Xr c).length:Int) - ((Xl c).length:Int)
      · simp [-List.getD_eq_getElem?_getD,-List.length_eq_zero_iff,Zq,Zp,Z5,Zr,Xj,Xi,X5,c3,c4,c5,c6,c7,c8,c2,K0,tradeErr,show inQ w (q:Int) from eq ▸ c1]
        intro h; omega
      by_cases c9:Y7 w (Yc q)<((Xl c).length:Int) - ((Xr c).length:Int)
      · simp [-List.getD_eq_getElem?_getD,-List.length_eq_zero_iff,Zq,Zp,Z5,Zr,Xj,Xi,X5,c3,c4,c5,c6,c7,c8,c9,c2,K0,tradeErr,show inQ w (q:Int) from eq ▸ c1]
        intro h; omega
      by_cases ca:swapErr (Vx w p) (Vx w q) (Us c) (Ur c)=0
      rotate_left
      · simp [-List.getD_eq_getElem?_getD,-List.length_eq_zero_iff,Zq,Zp,Z5,Zr,Xj,Xi,X5,c3,c4,c5,c6,c7,c8,c9,ca,c2,K0,tradeErr,show inQ w (q:Int) from eq ▸ c1]
      simp [-List.getD_eq_getElem?_getD,-List.length_eq_zero_iff,Zq,Zp,Z5,Zr,Xj,Xi,X5,c3,c4,c5,c6,c7,c8,c9,ca,c2,K0,tradeErr,show inQ w (q:Int) from eq ▸ c1,Ze (Ml w ok.sm),(Ml w ok.sm).prop,hpc,hqc,AF8]
      intro _ _
      exact (AN8 (N:=List.length (w.2.2.2.1:List (den Zb))) p (q:Int) c (by omega) (by omega) w.2.2.2.1 rfl (Ra bw) (Ra bg) _ _ _ _ _ _ _ _ _ _ _ _ _ 0 (Nat.zero_le _)).enter
  · simp [-List.getD_eq_getElem?_getD,-List.length_eq_zero_iff,Zq,Zp,Z5,Zr,Xj,Xi,X5,Ze (Gx (Xl c) (Xr c) (by omega) (by omega)),(Gx (Xl c) (Xr c) (by omega) (by omega)).prop,Ze (J4 w _),(J4 w _).prop,c1,K0,tradeErr]
end Go.Proofs.YtjobjooccgledaaGreatDoor.Ghost
namespace Go.Proofs.YtjobjooccgledaaGreatDoor.Ghost
open Go
section
variable {w:den Za} (ok:Ok w) {p q:Nat} (hp:p<List.length (w.2.1:List Int)) (hq:q<List.length (w.2.1:List Int)) (c:Cm) (hg:(Xl c).length≤100) (hw:(Xr c).length≤100) (hpay:Hu (Us c)) (hfee:Hu (Ur c)) (hbad:¬ Bad w (Xl c ++ Xr c))
include ok hp hq hg hw hpay hfee hbad
abbrev ARa (w:den Za) (p q:Nat) (c:Cm):den Za:=AHr w p q (Xl c) (Xr c) (Vx w p - Us c+Ur c) (Vx w q - Ur c+Us c)
open Classical in
noncomputable def lastR (w:den Za) (p q:Nat) (c:Cm) (rp rq:Int):den Za×Int×Unit :=
  if rp<0 then (w,9,()) else if rq<0 then (w,9,()) else if swapErr (Vx w p) (Vx w q) (Us c) (Ur c)=0 then (ARa w p q c,0,()) else (w,swapErr (Vx w p) (Vx w q) (Us c) (Ur c),())
end
end Go.Proofs.YtjobjooccgledaaGreatDoor.Ghost
namespace Go.Proofs.YtjobjooccgledaaGreatDoor.Ghost
open Go
open Classical in
theorem setAll_get {l:List Pl} {xs:List Int} {p:Pl}:{n:Nat}→(∀ j,j<n→0≤iAt xs j∧iAt xs j<(l.length:Int))→(k:Nat)→List.getD (V0 l xs p n) k (dft Zb)=if ∃ i,i<n∧iAt xs i=(k:Int) then p else List.getD l k (dft Zb)
  | 0,_,k=>by rw [if_neg (fun ⟨i,h,_⟩=>by omega)]; rfl
  | n+1,hin,k=>by
    have ih:=setAll_get (l:=l) (xs:=xs) (p:=p) (n:=n) (fun j hj=>hin j (by omega)) k
    have h:=hin n (by omega)
    simp only [V0]
    rw [Vz _ _ _ _ _ (by rw [J3]; omega)]
    by_cases e:k=(iAt xs n).toNat
    · rw [if_pos e,if_pos ⟨n,by omega,by omega⟩]
    · rw [if_neg e,ih]
      by_cases h2:∃ i,i<n∧iAt xs i=(k:Int)
      · obtain ⟨i,a,b⟩:=h2
        rw [if_pos ⟨i,a,b⟩,if_pos ⟨i,by omega,b⟩]
      · rw [if_neg h2,if_neg (fun ⟨i,a,b⟩=>h2 ⟨i,by
          by_cases e2:i=n
          · subst e2; omega
          · omega,b⟩)]
structure Lot (l:List Pl) (xs:List Int) (src:Pl):Prop where
  inn:∀ j,j<xs.length→0≤iAt xs j∧iAt xs j<(l.length:Int)
  at_:∀ j,j<xs.length→List.getD l (iAt xs j).toNat (dft Zb)=src
  one:∀ i j,i<j→j<xs.length→¬ iAt xs i=iAt xs j
theorem Lot.get {l:List Pl} {xs:List Int} {src p:Pl} (h:Lot l xs src) {n:Nat} (hn:n<xs.length):List.getD (V0 l xs p n) (iAt xs n).toNat (dft Zb)=src:=by
  have hi:=h.inn n hn
  rw [setAll_get (fun j hj=>h.inn j (by omega)),if_neg (fun ⟨i,a,b⟩=>h.one i n a hn (by omega))]
  exact h.at_ n hn
theorem Lot.many {l:List Pl} {xs:List Int} {src p:Pl} (h:Lot l xs src) (t:Pl):{n:Nat}→n≤xs.length→Yp (V0 l xs p n) t l.length+(if src=t then n else 0)=Yp l t l.length+(if p=t then n else 0)
  | 0,_=>by simp [V0]
  | n+1,hn=>by
    have ih:=Lot.many h (p:=p) t (n:=n) (by omega)
    have hi:=h.inn n (by omega)
    have hk:(iAt xs n).toNat<(V0 l xs p n).length:=by rw [J3]; omega
    have:=Om (V0 l xs p n) (iAt xs n).toNat p t hk l.length
    rw [h.get (by omega)] at this
    have hk':(iAt xs n).toNat<l.length:=by omega
    simp only [hk',true_and] at this
    simp only [V0]
    by_cases c1:src=t <;> by_cases c2:p=t <;> simp only [c1,c2,if_true,if_false] at this ih ⊢ <;> omega
structure AI2 (w:den Za) (p q:Nat) (gs ws:List Int):Prop where
  pq:¬ p=q
  lg:Lot w.2.2.2.1 gs (Yc p)
  lw:Lot (V0 w.2.2.2.1 gs (Yc q) gs.length) ws (Yc q)
  lw0:Lot w.2.2.2.1 ws (Yc q)
  gw:∀ i j,i<gs.length→j<ws.length→¬ iAt gs i=iAt ws j
theorem ANu {p q:Nat} (h:Yc p=Yc q):p=q:=Int.ofNat.inj (congrArg (fun x:Pl=>(x.2.1:Int)) h)
theorem AQ3 {w:den Za} {p q:Nat} {gs ws:List Int} (hpq:¬ p=q) (hb:¬ Bad w (gs ++ ws)) (hd:¬ Dup (gs ++ ws)) (hg:¬ Lk w gs p) (hw:¬ Lk w ws q):AI2 w p q gs ws:=by
  obtain ⟨bg,bw⟩:=AHw hb
  have hgw:∀ i j,i<gs.length→j<ws.length→¬ iAt gs i=iAt ws j:=fun i j hi hj e=>hd ⟨i,gs.length+j,by omega,by rw [List.length_append]; omega,by rw [Nx hi,Pm]; exact e⟩
  have ag:∀ j,j<gs.length→List.getD (w.2.2.2.1:List Pl) (iAt gs j).toNat (dft Zb)=Yc p:=fun j hj=>Classical.byContradiction (fun h=>hg ⟨j,hj,h⟩)
  have aw:∀ j,j<ws.length→List.getD (w.2.2.2.1:List Pl) (iAt ws j).toNat (dft Zb)=Yc q:=fun j hj=>Classical.byContradiction (fun h=>hw ⟨j,hj,h⟩)
  have ng:∀ i j,i<j→j<gs.length→¬ iAt gs i=iAt gs j:=fun i j hi hj e=>hd ⟨i,j,hi,by rw [List.length_append]; omega,by rw [Nx (by omega),Nx hj]; exact e⟩
  have nw:∀ i j,i<j→j<ws.length→¬ iAt ws i=iAt ws j:=fun i j hi hj e=>hd ⟨gs.length+i,gs.length+j,by omega,by rw [List.length_append]; omega,by rw [Pm,Pm]; exact e⟩
  refine ⟨hpq,⟨Ra bg,ag,ng⟩,⟨fun j hj=>by rw [J3]; exact Ra bw j hj,fun j hj => ?_,nw⟩,⟨Ra bw,aw,nw⟩,hgw⟩
  have hj':=Ra bw j hj
  rw [setAll_get (Ra bg)]
  split
  · rfl
  · exact aw j hj
theorem AI2.room {w:den Za} {p q:Nat} {gs ws:List Int} (h:AI2 w p q gs ws) (x:den Za) (hx1:x.1=w.1) (hx:x.2.2.2.1=Hd w p q gs ws) (t:Pl):Y7 x t=Y7 w t+(if Yc p=t then (gs.length:Int) - (ws.length:Int) else 0)+(if Yc q=t then (ws.length:Int) - (gs.length:Int) else 0):=by
  have h1:Yp (V0 w.2.2.2.1 gs (Yc q) gs.length) t (List.length (w.2.2.2.1:List (den Zb)))+(if Yc p=t then gs.length else 0)=Yp w.2.2.2.1 t (List.length (w.2.2.2.1:List (den Zb)))+(if Yc q=t then gs.length else 0):=h.lg.many (p:=Yc q) t (Nat.le_refl _)
  have h2:=h.lw.many (p:=Yc p) t (Nat.le_refl _)
  rw [J3] at h2
  have h2:Yp (Hd w p q gs ws) t (List.length (w.2.2.2.1:List (den Zb)))+(if Yc q=t then ws.length else 0)=Yp (V0 w.2.2.2.1 gs (Yc q) gs.length) t (List.length (w.2.2.2.1:List (den Zb)))+(if Yc p=t then ws.length else 0):=h2
  have hl:List.length (x.2.2.2.1:List (den Zb))=List.length (w.2.2.2.1:List (den Zb)):=by rw [hx]; unfold Hd; rw [J3,J3]
  unfold Y7
  rw [hl,hx1,hx]
  by_cases c1:Yc p=t
  · have c2:¬ Yc q=t:=fun e=>h.pq (ANu (c1.trans e.symm))
    rw [if_pos c1,if_neg c2] at h1 h2 ⊢
    omega
  · by_cases c2:Yc q=t
    · rw [if_neg c1,if_pos c2] at h1 h2 ⊢
      omega
    · rw [if_neg c1,if_neg c2] at h1 h2 ⊢
      omega
def AOi (l:List Int) (i:Nat):Prop:=∃ a b,a<b∧i≤b∧b<l.length∧iAt l a=iAt l b
section
variable {w:den Za} (ok:Ok w) {p q:Nat} (hp:p<List.length (w.2.1:List Int)) (hq:q<List.length (w.2.1:List Int)) (c:Cm) (hg:(Xl c).length≤100) (hw:(Xr c).length≤100) (hpay:Hu (Us c)) (hfee:Hu (Ur c)) (hbad:¬ Bad w (Xl c ++ Xr c))
include ok hp hq hg hw hpay hfee hbad
open Classical in
noncomputable def l1R (w:den Za) (p q:Nat) (c:Cm) (i:Nat):den Za×Int×Unit :=
  if AOi (Xl c ++ Xr c) i then (w,13,()) else if Lk w (Xl c) p then (w,5,()) else if Lk w (Xr c) q then (w,5,())
    else lastR w p q c (Y7 (w.1,w.2.1,w.2.2.1,Hd w p q (Xl c) (Xr c),()) (Yc p)) (Y7 (w.1,w.2.1,w.2.2.1,Hd w p q (Xl c) (Xr c),()) (Yc q))
open Classical in
noncomputable def l0R (w:den Za) (p q:Nat) (c:Cm):den Za×Int×Unit:=if (q:Int)=(p:Int) then (w,12,()) else if ¬ T6 w q=T6 w p then (w,5,()) else l1R w p q c 0
end
end Go.Proofs.YtjobjooccgledaaGreatDoor.Ghost
namespace Go.Proofs.YtjobjooccgledaaGreatDoor.Ghost
open Go
structure AHv (w:den Za) (p q:Nat) (gs:List Int) (pay:Int) (ws:List Int) (fee:Int):Prop where
  hq:q<List.length (w.2.1:List Int)
  bad:¬ Bad w (gs ++ ws)
  at_:T6 w q=T6 w p
  dup:¬ Dup (gs ++ ws)
  ag:¬ Lk w gs p
  aw:¬ Lk w ws q
  lots:AI2 w p q gs ws
  rp:(ws.length:Int) - (gs.length:Int)≤Y7 w (Yc p)
  rq:(gs.length:Int) - (ws.length:Int)≤Y7 w (Yc q)
  sw:swapErr (Vx w p) (Vx w q) pay fee=0
theorem AAf {w:den Za} {p:Nat} {q:Int} {gs ws:List Int} {pay fee:Int} (h10:∀ a b,swapErr a b pay fee=0∨0<swapErr a b pay fee):tradeErr w p q gs pay ws fee=0↔∃ n:Nat,q=(n:Int)∧AHv w p n gs pay ws fee:=by
  constructor
  · intro h
    unfold tradeErr at h
    by_cases c1:inQ w q
    rotate_left
    · rw [if_pos c1] at h; cases h
    rw [if_neg (fun h=>h c1)] at h
    obtain ⟨n,rfl,hn⟩:=Ca c1
    by_cases c2:Bad w (gs ++ ws)
    · rw [if_pos c2] at h; cases h
    rw [if_neg c2] at h
    by_cases c3:(n:Int)=(p:Int)
    · rw [if_pos c3] at h; cases h
    rw [if_neg c3,Int.toNat_natCast] at h
    by_cases c4:T6 w n=T6 w p
    rotate_left
    · rw [if_pos c4] at h; cases h
    rw [if_neg (fun h=>h c4)] at h
    by_cases c5:Dup (gs ++ ws)
    · rw [if_pos c5] at h; cases h
    rw [if_neg c5] at h
    by_cases c6:Lk w gs p
    · rw [if_pos c6] at h; cases h
    rw [if_neg c6] at h
    by_cases c7:Lk w ws n
    · rw [if_pos c7] at h; cases h
    rw [if_neg c7] at h
    by_cases c8:Y7 w (Yc p)<(ws.length:Int) - (gs.length:Int)
    · rw [if_pos c8] at h; cases h
    rw [if_neg c8] at h
    by_cases c9:Y7 w (meI (n:Int))<(gs.length:Int) - (ws.length:Int)
    · rw [if_pos c9] at h; cases h
    rw [if_neg c9] at h
    exact ⟨n,rfl,hn,c2,c4,c5,c6,c7,AQ3 (fun e=>c3 (by rw [e])) c2 c5 c6 c7,Int.not_lt.1 c8,Int.not_lt.1 c9,h⟩
  · rintro ⟨n,rfl,h⟩
    unfold tradeErr
    rw [if_neg (fun g=>g ⟨Int.natCast_nonneg n,Int.ofNat_lt.2 h.hq⟩),if_neg h.bad,if_neg (fun e:(n:Int)=(p:Int)=>h.lots.pq (Int.ofNat.inj e).symm),Int.toNat_natCast,if_neg (fun g=>g h.at_),if_neg h.dup,if_neg h.ag,if_neg h.aw,if_neg (Int.not_lt.2 h.rp),if_neg (Int.not_lt.2 (show _≤Y7 w (meI (n:Int)) from h.rq))]
    exact h.sw
theorem AHo (pay fee a b:Int):swapErr a b pay fee=0∨0<swapErr a b pay fee:=by
  unfold swapErr
  split
  · exact .inr (by decide)
  · split
    · exact .inl rfl
    · exact .inr (by decide)
theorem ADf {a b pay fee:Int} (h:swapErr a b pay fee=0):pay≤a∧fee≤b∧Hu (a - pay+fee)∧Hu (b - fee+pay):=by
  unfold swapErr at h
  split at h
  · cases h
  · rename_i c1
    split at h
    · rename_i c2
      refine ⟨?_,?_,c2.1,c2.2⟩
      · exact Int.not_lt.1 (fun h=>c1 (.inl h))
      · exact Int.not_lt.1 (fun h=>c1 (.inr h))
    · cases h
theorem ABf (i:Nat):¬ (Yc i).1=(2:Int):=fun e=>by
  have:(1:Int)=2:=e
  cases this
theorem Lot.depI {l:List Pl} {xs:List Int} {src p:Pl} (h:Lot l xs src) (hs:¬ src.1=(2:Int)) (hp:¬ p.1=(2:Int)) (f c:Nat) (x:Pl):{n:Nat}→n≤xs.length→depI (V0 l xs p n) f c x=depI l f c x
  | 0,_=>rfl
  | n+1,hn=>by
    have hi:=h.inn n (by omega)
    simp only [V0]
    rw [Im (by rw [J3]; omega) hp (by rw [h.get (by omega)]; exact hs)]
    exact Lot.depI h hs hp f c x (by omega)
theorem AI2.at_ {w:den Za} {p q:Nat} {gs ws:List Int} (h:AI2 w p q gs ws) (j:Nat):List.getD (Hd w p q gs ws) j (dft Zb)=List.getD (w.2.2.2.1:List Pl) j (dft Zb)∧(∀ i,i<(gs ++ ws).length→¬ iAt (gs ++ ws) i=(j:Int))∨List.getD (Hd w p q gs ws) j (dft Zb)=Yc p∧List.getD (w.2.2.2.1:List Pl) j (dft Zb)=Yc q∧(∃ i,i<ws.length∧iAt ws i=(j:Int)) ∨
    List.getD (Hd w p q gs ws) j (dft Zb)=Yc q∧List.getD (w.2.2.2.1:List Pl) j (dft Zb)=Yc p∧(∃ i,i<gs.length∧iAt gs i=(j:Int)):=by
  unfold Hd
  rw [setAll_get h.lw.inn]
  by_cases c1:∃ i,i<ws.length∧iAt ws i=(j:Int)
  · rw [if_pos c1]
    obtain ⟨i,h1,h2⟩:=c1
    refine .inr (.inl ⟨rfl,?_,i,h1,h2⟩)
    have:=h.lw0.at_ i h1
    rw [h2,Int.toNat_natCast] at this
    exact this
  · rw [if_neg c1,setAll_get h.lg.inn]
    by_cases c2:∃ i,i<gs.length∧iAt gs i=(j:Int)
    · rw [if_pos c2]
      obtain ⟨i,h1,h2⟩:=c2
      refine .inr (.inr ⟨rfl,?_,i,h1,h2⟩)
      have:=h.lg.at_ i h1
      rw [h2,Int.toNat_natCast] at this
      exact this
    · rw [if_neg c2]
      refine .inl ⟨rfl,fun i hi e => ?_⟩
      by_cases hl:i<gs.length
      · rw [Nx hl] at e; exact c2 ⟨i,hl,e⟩
      · obtain ⟨k,rfl⟩:∃ k,i=gs.length+k:=⟨i - gs.length,by omega⟩
        rw [Pm] at e
        rw [List.length_append] at hi
        exact c1 ⟨k,by omega,e⟩
theorem AMj (l:List Int) {p q:Nat} (hp:p<l.length) (hq:q<l.length) (a b:Int) (j:Nat):List.getD (List.set (List.set l p a) q b) j 0=if j=q then b else if j=p then a else List.getD l j 0:=by
  rw [Vz _ _ _ _ _ (by rw [List.length_set]; exact hq),Vz _ _ _ _ _ hp]
section
variable {w:den Za} {p q:Nat} {gs ws:List Int} {pay fee:Int} (ok:Ok w) (hp:p<List.length (w.2.1:List Int)) (h:AHv w p q gs pay ws fee)
include ok hp h
abbrev tdW (w:den Za) (p q:Nat) (gs:List Int) (pay:Int) (ws:List Int) (fee:Int):den Za:=AHr w p q gs ws (Vx w p - pay+fee) (Vx w q - fee+pay)
theorem AHt:List.length (Hd w p q gs ws)=List.length (w.2.2.2.1:List (den Zb)):=by unfold Hd; rw [J3,J3]
theorem AKn (j:Nat):Vx (tdW w p q gs pay ws fee) j=if j=q then Vx w q - fee+pay else if j=p then Vx w p - pay+fee else Vx w j:=by
  have hc1:=ok.right.c1
  have ha1:=ok.right.a1
  have hqq:=h.hq
  show List.getD (List.set (List.set (w.2.2.1:List Int) p _) (Int.toNat (q:Int)) _) j 0=_
  rw [Int.toNat_natCast,AMj _ (by omega) (by omega)]
theorem AN7 (t:Pl):Y7 (tdW w p q gs pay ws fee) t=Y7 w t+(if Yc p=t then (gs.length:Int) - (ws.length:Int) else 0)+(if Yc q=t then (ws.length:Int) - (gs.length:Int) else 0):=h.lots.room (tdW w p q gs pay ws fee) rfl rfl t
theorem BHw:Ok (tdW w p q gs pay ws fee):=by
  have hr:=ok.right
  have hs:=ok.sm
  have hc1:=ok.right.c1
  have ha1:=ok.right.a1
  have hqq:=h.hq
  have hlen:=AHt ok hp h
  have hcl:List.length ((tdW w p q gs pay ws fee).2.2.1:List Int)=List.length (w.2.2.1:List Int):=by
    show List.length (List.set (List.set (w.2.2.1:List Int) p _) _ _)=_
    rw [List.length_set,List.length_set]
  obtain ⟨_,_,s1,s2⟩:=ADf h.sw
  refine ⟨⟨hs.e,hs.b,hs.p,hs.c,hs.i,hs.a,by rw [hcl]; exact hs.wc,by show List.length (Hd w p q gs ws)≤_; rw [hlen]; exact hs.wh,hs.rows⟩,hr.may,hr.a1,by rw [hcl]; exact hr.c1,by show List.length (Hd w p q gs ws)=_; rw [hlen]; exact hr.w1,fun i hi=>⟨(hr.at_ i hi).1,?_⟩,fun i hi => ?_,fun i hi => ?_⟩
  · have hc:=AKn ok hp h i
    have:Hu (Vx (tdW w p q gs pay ws fee) i):=by
      rw [hc]
      split
      · exact s2
      · split
        · exact s1
        · exact (hr.at_ i hi).2
    exact this
  · have hi:i<List.length (w.2.2.2.1:List (den Zb)):=by rw [← hlen]; exact hi
    have gm:∀ r,r<List.length (w.2.1:List Int)→Ks w.1 (Yc r):=fun r hr'=>.inr (.inl ⟨rfl,Int.natCast_nonneg r,by show (r:Int)<_; rw [← hr.a1]; exact Int.ofNat_lt.2 hr'⟩)
    show Ks w.1 (List.getD (Hd w p q gs ws) i (dft Zb))
    rcases h.lots.at_ i with ⟨e,_⟩ | ⟨e,_⟩ | ⟨e,_⟩
    · rw [e]; exact hr.good i hi
    · rw [e]; exact gm p hp
    · rw [e]; exact gm q hqq
  · have hi:i<List.length (w.2.2.2.1:List (den Zb)):=by rw [← hlen]; exact hi
    have hd:∀ x,depI (Hd w p q gs ws) 51 0 x=depI w.2.2.2.1 51 0 x:=fun x=>by
      unfold Hd
      rw [h.lots.lw.depI (ABf q) (ABf p) 51 0 x (Nat.le_refl _),h.lots.lg.depI (ABf p) (ABf q) 51 0 x (Nat.le_refl _)]
    have hroom:∀ t,0≤Y7 (tdW w p q gs pay ws fee) t:=fun t=>by
      rw [AN7 ok hp h t]
      have h0:=(hr.room t).1
      by_cases c1:Yc p=t
      · have c2:¬ Yc q=t:=fun e=>h.lots.pq (ANu (c1.trans e.symm))
        rw [if_pos c1,if_neg c2]
        have:=h.rp
        rw [c1] at this
        omega
      · by_cases c2:Yc q=t
        · rw [if_neg c1,if_pos c2]
          have:=h.rq
          rw [c2] at this
          omega
        · rw [if_neg c1,if_neg c2]; omega
    refine ⟨?_,?_⟩
    · show depI (Hd w p q gs ws) 51 0 (List.getD (Hd w p q gs ws) i (dft Zb))≤4
      rw [hd]
      rcases h.lots.at_ i with ⟨e,_⟩ | ⟨e,_⟩ | ⟨e,_⟩
      · rw [e]; exact (hr.deep i hi).1
      · rw [e,F0 (ABf p)]; omega
      · rw [e,F0 (ABf q)]; omega
    · have:=hroom (List.getD ((tdW w p q gs pay ws fee).2.2.2.1:List (den Zb)) i (dft Zb))
      unfold Y7 at this
      show (Yp _ _ _:Int)≤Ie w.1 _
      have e:(tdW w p q gs pay ws fee).1=w.1:=rfl
      rw [e] at this
      omega
end
end Go.Proofs.YtjobjooccgledaaGreatDoor.Ghost
