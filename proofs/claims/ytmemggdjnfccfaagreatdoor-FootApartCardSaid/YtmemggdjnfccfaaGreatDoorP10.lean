/- What functions come to, and that the statements are answered with 'true'. Conditions: none. -/
import Derived.Test.YtmemggdjnfccfaaGreatDoorS
import Derived.Test.YtmemggdjnfccfaaGreatDoorGE
import Derived.Test.YtmemggdjnfccfaaGreatDoorP1
import Derived.Test.YtmemggdjnfccfaaGreatDoorP2
import Derived.Test.YtmemggdjnfccfaaGreatDoorP3
import Derived.Test.YtmemggdjnfccfaaGreatDoorP4
import Derived.Test.YtmemggdjnfccfaaGreatDoorP5
import Derived.Test.YtmemggdjnfccfaaGreatDoorP6
import Derived.Test.YtmemggdjnfccfaaGreatDoorP7
import Derived.Test.YtmemggdjnfccfaaGreatDoorP8
import Derived.Test.YtmemggdjnfccfaaGreatDoorP9
set_option linter.unusedVariables false
set_option linter.unusedSimpArgs false
set_option linter.unusedSectionVars false
set_option linter.unnecessarySimpa false
namespace Go.Proofs.YtmemggdjnfccfaaGreatDoor.Ghost
open Go
end Go.Proofs.YtmemggdjnfccfaaGreatDoor.Ghost
namespace Go.Proofs.YtmemggdjnfccfaaGreatDoor.Ghost
open Go
def inQ (w:den Zb) (q:Int):Prop:=0≤q∧q<(List.length (w.2.1:List Int):Int)
theorem O3 {w:den Zb} {q:Int} (h:inQ w q):∃ n:Nat,q=(n:Int)∧n<List.length (w.2.1:List Int):=⟨q.toNat,by have:=h.1; omega,by have:=h.1; have:=h.2; omega⟩
theorem Wx (w:den Zb) (k:Int):Zd (fun nf _ _ _=>Hf nf (w) (k)) (fun r=>r=((dec (inR w k),()),[])):=by
  refine Zd.succ (fun nf _ _ _=>Hf.eq nf _ _) ?_
  by_cases h:0≤k <;> simp [h,inR,Ud]
theorem Vl (w:den Zb) (k:Int):Zd (fun nf _ _ _=>Qp nf (w) (k)) (fun r=>r=((dec (inQ w k),()),[])):=by
  refine Zd.succ (fun nf _ _ _=>Qp.eq nf _ _) ?_
  by_cases h:0≤k <;> simp [h,inQ,Ud]
theorem K6 (k:Int):Zd (fun nf _ _ _=>Y9 nf (k)) (fun r=>r=(((1,k,()),()),[])):=by
  refine Zd.succ (fun nf _ _ _=>Y9.eq nf _) ?_
  simp
open Classical in
noncomputable def giveErr (w:den Zb) (p:Nat) (k q:Int):Int:=if inR w k∧inQ w q then
  (if q=(p:Int) then 12 else if Yc w q.toNat=Yc w p∧Xs w k.toNat=X2 p then (if Y0 w (X2 q.toNat)<1 then 9 else 0) else 5) else 3
noncomputable def H9 (w:den Zb) (p:Nat) (k q:Int):den Zb×Int×Unit:=if giveErr w p k q=0 then (put w k.toNat (X2 q.toNat),0,()) else (w,giveErr w p k q,())
theorem AHt {w:den Zb} {p:Nat} {k q:Int} (h:¬ giveErr w p k q=3):inR w k∧inQ w q:=by
  by_cases hn:inR w k∧inQ w q
  · exact hn
  · exact absurd (by unfold giveErr; rw [if_neg hn]) h
theorem AKo {w:den Zb} (ok:Ok w) {p:Nat} (hp:p<List.length (w.2.1:List Int)) (k q:Int):Zd (fun nf _ _ _=>V2 nf (w) ((p:Int)) (k) (q)) (fun r=>r.1=H9 w p k q):=by
  refine Zd.succ (fun nf _ _ _=>V2.eq nf _ _ _ _) ?_
  by_cases hk:inR w k
  · by_cases hq:inQ w q
    · obtain ⟨k,rfl,hkn⟩:=Qk hk
      obtain ⟨q,rfl,hqn⟩:=O3 hq
      simp [-List.getD_eq_getElem?_getD,-List.length_eq_zero_iff,Zp,Zm,Zy,Zo,Xj,Xi,Yb,Ze (Wx w (k:Int)),(Wx w (k:Int)).prop,Ze (Vl w (q:Int)),(Vl w (q:Int)).prop,hk,hq,hkn,hqn,hp,Ze (K6 _),(K6 _).prop,Ze (Qy w ok (X2 q) (Ul q)),(Qy w ok (X2 q) (Ul q)).prop,Ze (Nk w ok.sm hkn (X2 q)),(Nk w ok.sm hkn (X2 q)).prop,H9,giveErr]
      by_cases c1:(q:Int)=(p:Int) <;> by_cases c2:Yc w q=Yc w p <;> by_cases c3:Xs w k=X2 p <;> by_cases c4:Y0 w (X2 q)<1 <;> simp [-List.getD_eq_getElem?_getD,-List.length_eq_zero_iff,Zp,Zm,Zy,Zo,Xj,Xi,Yb,c1,c2,c3,c4]
    · simp [-List.getD_eq_getElem?_getD,-List.length_eq_zero_iff,Zp,Zm,Zy,Zo,Xj,Xi,Yb,Ze (Wx w k),(Wx w k).prop,Ze (Vl w q),(Vl w q).prop,hk,hq,H9,giveErr]
  · simp [-List.getD_eq_getElem?_getD,-List.length_eq_zero_iff,Zp,Zm,Zy,Zo,Xj,Xi,Yb,Ze (Wx w k),(Wx w k).prop,hk,H9,giveErr]
end Go.Proofs.YtmemggdjnfccfaaGreatDoor.Ghost
namespace Go.Proofs.YtmemggdjnfccfaaGreatDoor.Ghost
open Go
abbrev iAt (l:List Int) (j:Nat):Int:=List.getD l j 0
def Bad (w:den Zb) (l:List Int):Prop:=∃ j,j<l.length∧¬ inR w (iAt l j)
def Pk (w:den Zb) (l:List Int) (p:Int):Prop:=∃ j,j<l.length∧¬ Xs w (iAt l j).toNat=((1:Int),p,())
def Dup (l:List Int):Prop:=∃ i j,i<j∧j<l.length∧iAt l i=iAt l j
theorem AN8 (w:den Zb) (l:List Int) (hl:l.length≤1048576) (t4:Int):∀ i,i≤l.length→Zd (fun nf fm0 _ _=>Zj.l0 nf fm0 (l) (w) t4 ((l.length:Int)) ((i:Int))) (fun r=>0≤r.1.1↔∃ j,i≤j∧j<l.length∧¬ inR w (iAt l j)):=by
  refine upto ?_ (fun i hi next => ?_)
  · refine Zd.succ1 (fun nf fm0 _ _=>Zj.l0_eq nf fm0 _ _ _ _ _) ?_
    simp [-List.getD_eq_getElem?_getD,-List.length_eq_zero_iff,Zp,Zm,Zy,Zo,Xj,Xi,Yb]
    exact fun j h1 h2=>by omega
  · have sp:∀ k,Zd (fun nf _ _ _=>Qo nf (k) (w)) (fun r=>r=((dec (¬ inR w k),()),[])):=fun k=>by
      refine Zd.succ (fun nf _ _ _=>Qo.eq nf _ _) ?_
      simp [-List.getD_eq_getElem?_getD,-List.length_eq_zero_iff,Zp,Zm,Zy,Zo,Xj,Xi,Yb,Ze (Wx w k),(Wx w k).prop]
    refine Zd.succ1 (fun nf fm0 _ _=>Zj.l0_eq nf fm0 _ _ _ _ _) ?_
    rw [← Xv (by omega)] at next
    by_cases h:inR w (iAt l i)
    · have next:=next.mono (Q':=fun r=>0≤r.1.1↔∃ j,i≤j∧j<l.length∧¬ inR w (iAt l j)) (fun v hv=>hv.trans ⟨fun ⟨j,a,b,c⟩=>⟨j,by omega,b,c⟩,fun ⟨j,a,b,c⟩=>⟨j,by
        by_cases e:j=i
        · subst e; exact absurd h c
        · omega,b,c⟩⟩)
      simp [-List.getD_eq_getElem?_getD,-List.length_eq_zero_iff,Zp,Zm,Zy,Zo,Xj,Xi,Yb,hi,Ze (sp _),(sp _).prop,h]
      exact next
    · simp [-List.getD_eq_getElem?_getD,-List.length_eq_zero_iff,Zp,Zm,Zy,Zo,Xj,Xi,Yb,hi,Ze (sp _),(sp _).prop,h]
      exact ⟨i,Nat.le_refl i,hi,h⟩
theorem I1 (w:den Zb) (l:List Int) (hl:l.length≤1048576):Zd (fun nf _ _ _=>Xh nf (l) (w)) (fun r=>r.1.1=true↔Bad w l):=by
  have h:Zd (fun nf _ _ _=>Zj nf (l) (w)) (fun r=>0≤r.1.1↔Bad w l):=by
    refine Zd.succ (fun nf _ _ _=>Zj.eq nf _ _) ?_
    exact (AN8 w l hl _ 0 (Nat.zero_le _)).enter.mono (fun v hv=>hv.trans ⟨fun ⟨j,_,b,c⟩=>⟨j,b,c⟩,fun ⟨j,b,c⟩=>⟨j,Nat.zero_le _,b,c⟩⟩)
  refine Zd.succ (fun nf _ _ _=>Xh.eq nf _ _) ?_
  simp [Ze (h),(h).prop]
theorem AK1 (w:den Zb) (l:List Int) (hl:l.length≤1048576) (hb:¬ Bad w l) (p:Int) (t4:Int):∀ i,i≤l.length→Zd (fun nf fm0 _ _=>Zt.l0 nf fm0 (l) (w) (p) t4 ((l.length:Int)) ((i:Int))) (fun r=>0≤r.1.1↔∃ j,i≤j∧j<l.length∧¬ Xs w (iAt l j).toNat=((1:Int),p,())):=by
  refine upto ?_ (fun i hi next => ?_)
  · refine Zd.succ1 (fun nf fm0 _ _=>Zt.l0_eq nf fm0 _ _ _ _ _ _) ?_
    simp [-List.getD_eq_getElem?_getD,-List.length_eq_zero_iff,Zp,Zm,Zy,Zo,Xj,Xi,Yb]
    exact fun j h1 h2=>by omega
  · have hin:inR w (iAt l i):=Classical.byContradiction (fun h=>hb ⟨i,hi,h⟩)
    obtain ⟨k,ek,hk⟩:=Qk hin
    have sp:Zd (fun nf _ _ _=>Y2 nf ((k:Int)) (w) (p)) (fun r=>r=((dec (¬ Xs w k=((1:Int),p,())),()),[])):=by
      refine Zd.succ (fun nf _ _ _=>Y2.eq nf _ _ _) ?_
      simp [-List.getD_eq_getElem?_getD,-List.length_eq_zero_iff,Zp,Zm,Zy,Zo,Xj,Xi,Yb,hk,Ze (K6 p),(K6 p).prop]
    refine Zd.succ1 (fun nf fm0 _ _=>Zt.l0_eq nf fm0 _ _ _ _ _ _) ?_
    rw [← Xv (by omega)] at next
    by_cases h:Xs w (iAt l i).toNat=((1:Int),p,())
    · have next:=next.mono (Q':=fun r=>0≤r.1.1↔∃ j,i≤j∧j<l.length∧¬ Xs w (iAt l j).toNat=((1:Int),p,())) (fun v hv=>hv.trans ⟨fun ⟨j,a,b,c⟩=>⟨j,by omega,b,c⟩,fun ⟨j,a,b,c⟩=>⟨j,by
        by_cases e:j=i
        · subst e; exact absurd h c
        · omega,b,c⟩⟩)
      rw [ek,Int.toNat_natCast] at h
      simp [-List.getD_eq_getElem?_getD,-List.length_eq_zero_iff,Zp,Zm,Zy,Zo,Xj,Xi,Yb,hi,ek,Ze (sp),(sp).prop,h]
      exact next
    · have h':=h
      rw [ek,Int.toNat_natCast] at h'
      simp [-List.getD_eq_getElem?_getD,-List.length_eq_zero_iff,Zp,Zm,Zy,Zo,Xj,Xi,Yb,hi,ek,Ze (sp),(sp).prop,h']
      exact ⟨i,Nat.le_refl i,hi,h⟩
theorem M5 (w:den Zb) (l:List Int) (hl:l.length≤1048576) (hb:¬ Bad w l) (p:Int):Zd (fun nf _ _ _=>Qe nf (l) (p) (w)) (fun r=>r.1.1=true↔Pk w l p):=by
  have h:Zd (fun nf _ _ _=>Zt nf (l) (w) (p)) (fun r=>0≤r.1.1↔Pk w l p):=by
    refine Zd.succ (fun nf _ _ _=>Zt.eq nf _ _ _) ?_
    exact (AK1 w l hl hb p _ 0 (Nat.zero_le _)).enter.mono (fun v hv=>hv.trans ⟨fun ⟨j,_,b,c⟩=>⟨j,b,c⟩,fun ⟨j,b,c⟩=>⟨j,Nat.zero_le _,b,c⟩⟩)
  have h2:Zd (fun nf _ _ _=>X7 nf (l) (w) (p)) (fun r=>r.1.1=true↔Pk w l p):=by
    refine Zd.succ (fun nf _ _ _=>X7.eq nf _ _ _) ?_
    simp [Ze (h),(h).prop]
  refine Zd.succ (fun nf _ _ _=>Qe.eq nf _ _ _) ?_
  simp [Ze (h2),(h2).bprop]
theorem Mk (k k':Int) (v:Bool):(m:List (Int×Bool))→Y4 (.int .i64) .bool k' (H7 (.int .i64) .bool k v m)=if k'=k then some v else Y4 (.int .i64) .bool k' m
  | []=>by
    simp only [H7,Y4,eqT]
    by_cases h:k'=k <;> simp [h]
  | (a,b) :: r=>by
    have ih:=Mk k k' v r
    simp only [H7,Y4,eqT]
    by_cases h1:k=a
    · subst h1
      simp only [beq_self_eq_true,if_true,Y4,eqT]
      by_cases h:k'=k <;> simp [h]
    · have h1':(k == a)=false:=by simpa using h1
      simp only [h1',Bool.false_eq_true,if_false,Y4,eqT,ih]
      by_cases h2:k'=a
      · subst h2
        have:¬ k'=k:=fun e=>h1 e.symm
        simp [this]
      · have h2':(k' == a)=false:=by simpa using h2
        simp [h2']
theorem APc (l:List Int) (hl:l.length≤1048576) (t0:(List Int)) (t2:Bool):∀ i,i≤l.length→∀ m:List (Int×Bool),(∀ k,Y4 (.int .i64) .bool k m=some true∨Y4 (.int .i64) .bool k m=none)→(∀ k,Y4 (.int .i64) .bool k m=some true↔∃ i',i'<i∧iAt l i'=k) →
    Zd (fun nf fm0 _ _=>Xy.l0 nf fm0 t0 t2 (l) ((l.length:Int)) ((i:Int)) (m)) (fun r=>r.1.1=true↔∃ i' j,i'<j∧i≤j∧j<l.length∧iAt l i'=iAt l j):=by
  refine upto (fun m hm0 hm => ?_) (fun i hi next m hm0 hm => ?_)
  · refine Zd.succ1 (fun nf fm0 _ _=>Xy.l0_eq nf fm0 _ _ _ _ _ _) ?_
    simp [-List.getD_eq_getElem?_getD,-List.length_eq_zero_iff,Zp,Zm,Zy,Zo,Xj,Xi,Yb]
    exact fun _ j _ h1 h2=>by omega
  · refine Zd.succ1 (fun nf fm0 _ _=>Xy.l0_eq nf fm0 _ _ _ _ _ _) ?_
    by_cases h:∃ i',i'<i∧iAt l i'=iAt l i
    · have hf:=(hm (iAt l i)).2 h
      simp [-List.getD_eq_getElem?_getD,-List.length_eq_zero_iff,Zp,Zm,Zy,Zo,Xj,Xi,Yb,hi,hf]
      obtain ⟨i',h1,h2⟩:=h
      exact ⟨i',i,h1,Nat.le_refl i,hi,h2⟩
    · have hf:Y4 (.int .i64) .bool (iAt l i) m=none:=(hm0 _).resolve_left (fun e=>h ((hm _).1 e))
      have next:=next (H7 (.int .i64) .bool (iAt l i) true m) (fun k=>by
        rw [Mk]
        split
        · exact .inl rfl
        · exact hm0 k) (fun k=>by
        rw [Mk]
        by_cases e:k=iAt l i
        · rw [if_pos e]; exact ⟨fun _=>⟨i,by omega,e.symm⟩,fun _=>rfl⟩
        · rw [if_neg e,hm k]
          exact ⟨fun ⟨j,a,b⟩=>⟨j,by omega,b⟩,fun ⟨j,a,b⟩=>⟨j,by
            by_cases e2:j=i
            · subst e2; exact absurd b.symm e
            · omega,b⟩⟩)
      rw [← Xv (by omega)] at next
      have next:=next.mono (Q':=fun r=>r.1.1=true↔∃ i' j,i'<j∧i≤j∧j<l.length∧iAt l i'=iAt l j) (fun v hv=>hv.trans ⟨fun ⟨i',j,a,b,c,d⟩=>⟨i',j,a,by omega,c,d⟩,fun ⟨i',j,a,b,c,d⟩=>⟨i',j,a,by
        by_cases e:j=i
        · subst e; exact absurd ⟨i',a,d⟩ h
        · omega,c,d⟩⟩)
      simp [-List.getD_eq_getElem?_getD,-List.length_eq_zero_iff,Zp,Zm,Zy,Zo,Xj,Xi,Yb,hi,hf]
      exact next
theorem AA1 (l:List Int) (hl:l.length≤1048576):Zd (fun nf _ _ _=>Xy nf (l)) (fun r=>r.1.1=true↔Dup l):=by
  refine Zd.succ (fun nf _ _ _=>Xy.eq nf _) ?_
  exact (APc l hl l false 0 (Nat.zero_le _) [] (fun k=>.inr rfl) (fun k=>⟨fun h=>(by cases h),fun ⟨i,h,_⟩=>by omega⟩)).enter.mono (fun v hv=>hv.trans ⟨fun ⟨i,j,a,_,c,d⟩=>⟨i,j,a,c,d⟩,fun ⟨i,j,a,c,d⟩=>⟨i,j,a,Nat.zero_le _,c,d⟩⟩)
end Go.Proofs.YtmemggdjnfccfaaGreatDoor.Ghost
namespace Go.Proofs.YtmemggdjnfccfaaGreatDoor.Ghost
open Go
def Ge (x:Int):Prop:=0≤x∧x≤1073741824
open Classical in
noncomputable def swapErr (a b pay fee:Int):Int:=if a<pay∨b<fee then 10 else if Ge (a - pay+fee)∧Ge (b - fee+pay) then 0 else 11
noncomputable def AG6 (a b pay fee:Int):Int×Int×Int×Unit:=if swapErr a b pay fee=0 then (a - pay+fee,b - fee+pay,0,()) else (a,b,swapErr a b pay fee,())
theorem D2 (a:Int):Zd (fun nf _ _ _=>Gt nf (a)) (fun r=>r=((dec (Ge a),()),[])):=by
  refine Zd.succ (fun nf _ _ _=>Gt.eq nf _) ?_
  by_cases h:0≤a <;> simp [h,Ge,Ud]
theorem ACy {a b pay fee:Int} (ha:Ge a) (hb:Ge b) (hp:Ge pay) (hf:Ge fee):Zd (fun nf _ _ _=>Kr nf (a) (b) (pay) (fee)) (fun r=>r.1=AG6 a b pay fee):=by
  obtain ⟨a1,a2⟩:=ha; obtain ⟨b1,b2⟩:=hb; obtain ⟨p1,p2⟩:=hp; obtain ⟨f1,f2⟩:=hf
  have e1:IntKind.wrap .i64 (a - pay)=a - pay:=Gb (by omega) (by omega)
  have e2:IntKind.wrap .i64 (b - fee)=b - fee:=Gb (by omega) (by omega)
  have e3:IntKind.wrap .i64 (a - pay+fee)=a - pay+fee:=Gb (by omega) (by omega)
  have e4:IntKind.wrap .i64 (b - fee+pay)=b - fee+pay:=Gb (by omega) (by omega)
  refine Zd.succ (fun nf _ _ _=>Kr.eq nf _ _ _ _) ?_
  simp [-List.getD_eq_getElem?_getD,-List.length_eq_zero_iff,Zp,Zm,Zy,Zo,Xj,Xi,Yb,show ¬ pay<0 by omega,show ¬ fee<0 by omega,e1,e2,e3,e4,Ze (D2 _),(D2 _).prop,AG6,swapErr]
  by_cases c1:a<pay <;> by_cases c2:b<fee <;> by_cases c3:Ge (a - pay+fee) <;> by_cases c4:Ge (b - fee+pay) <;> simp [c1,c2,c3,c4]
theorem ALp (a b pay fee:Int):(AG6 a b pay fee).2.2.1=swapErr a b pay fee:=by
  unfold AG6
  split
  · rename_i h; exact h.symm
  · rfl
def Kg (l:List Pl) (xs:List Int) (p:Pl):Nat→List Pl
  | 0=>l
  | i+1=>List.set (Kg l xs p i) (iAt xs i).toNat p
theorem Vj (l:List Pl) (xs:List Int) (p:Pl):(i:Nat)→(Kg l xs p i).length=l.length
  | 0=>rfl
  | i+1=>by simp only [Kg,List.length_set,Vj l xs p i]
abbrev meI (q:Int):Pl:=((1:Int),q,())
def Hv (w:den Zb) (p:Nat) (q:Int) (gs ws:List Int):List Pl:=Kg (Kg w.2.2.2.1 gs (meI q) gs.length) ws (X2 p) ws.length
def Iv (w:den Zb) (p:Nat) (q:Int) (gs ws:List Int) (a b:Int):den Zb:=(w.1,w.2.1,List.set (List.set (w.2.2.1:List Int) p a) q.toNat b,Hv w p q gs ws,())
open Classical in
noncomputable def tradeErr (w:den Zb) (p:Nat) (q:Int) (gs:List Int) (pay:Int) (ws:List Int) (fee:Int):Int :=
  if ¬ inQ w q then 3 else if Bad w (gs ++ ws) then 3 else if q=(p:Int) then 12 else if ¬ Yc w q.toNat=Yc w p then 5 else if Dup (gs ++ ws) then 13 else if Pk w gs p then 5 else if Pk w ws q then 5
  else if Y0 w (X2 p)<(ws.length:Int) - (gs.length:Int) then 9 else if Y0 w (meI q)<(gs.length:Int) - (ws.length:Int) then 9 else swapErr (Yw w p) (Yw w q.toNat) pay fee
noncomputable def Jj (w:den Zb) (p:Nat) (q:Int) (gs:List Int) (pay:Int) (ws:List Int) (fee:Int):den Zb×Int×Unit :=
  if tradeErr w p q gs pay ws fee=0 then (Iv w p q gs ws (Yw w p - pay+fee) (Yw w q.toNat - fee+pay),0,()) else (w,tradeErr w p q gs pay ws fee,())
theorem APb {N:Nat} (p:Nat) (ws:List Int) (hws:ws.length≤1048576) (base:List Pl) (hb:base.length=N) (hin:∀ j,j<ws.length→0≤iAt ws j∧iAt ws j<(N:Int)) (t0:(den Zb)) (t2:(den Zz)) (t7:Int) (t8:Int) (t9:(List Int)) (t11:Int) (t12:Int) (t13:Int) (t14:Int) (t135:(List Int)) (t136:Int) (t137:Int) (o0:(den Zb)) (o1:(den Zz)) (o2:(den Zb)) (o3:(List (List Int))) (o4:(den Zb)) (o5:(List Int)) :
    ∀ i,i≤ws.length→Zd (fun nf fm0 _ _=>Xa.l1 nf fm0 t0 ((p:Int)) t2 t7 t8 t9 t11 t12 t13 t14 t135 t136 t137 (ws) ((ws.length:Int)) ((i:Int)) o0 o1 o2 o3 o4 o5 (Kg base ws (X2 p) i)) (fun r=>r=(((o4.1,o4.2.1,o5,Kg base ws (X2 p) ws.length,()),0,()),[(0,[2]),(0,[3])])):=by
  refine upto ?_ (fun i hi next => ?_)
  · refine Zd.succ1 (fun nf fm0 _ _=>Xa.l1_eq nf fm0 _ _ _ _ _ _ _ _ _ _ _ _ _ _ _ _ _ _ _ _ _ _ _) ?_
    simp [-List.getD_eq_getElem?_getD,-List.length_eq_zero_iff,Zp,Zm,Zy,Zo,Xj,Xi,Yb]
  · refine Zd.succ1 (fun nf fm0 _ _=>Xa.l1_eq nf fm0 _ _ _ _ _ _ _ _ _ _ _ _ _ _ _ _ _ _ _ _ _ _ _) ?_
    rw [← Xv (by omega)] at next
    have hl:=Vj base ws (X2 p) i
    have h:=hin i hi
    simp [-List.getD_eq_getElem?_getD,-List.length_eq_zero_iff,Zp,Zm,Zy,Zo,Xj,Xi,Yb,hi,Ze (K6 _),(K6 _).prop,hl,hb,h]
    exact next
theorem APa {N:Nat} (p:Nat) (q:Int) (c:Cm) (hws:(Xg c).length≤1048576) (hgs:(Xb c).length≤1048576) (base:List Pl) (hb:base.length=N) (hin:∀ j,j<(Xg c).length→0≤iAt (Xg c) j∧iAt (Xg c) j<(N:Int)) (hin':∀ j,j<(Xb c).length→0≤iAt (Xb c) j∧iAt (Xb c) j<(N:Int)) (t0:(den Zb)) (t2:(den Zz)) (t7:Int) (t9:(List Int)) (t11:Int) (t12:Int) (t13:Int) (t14:Int) (o0:(den Zb)) (o2:(den Zb)) (o3:(List (List Int))) (o4:(den Zb)) (o5:(List Int)) :
    ∀ i,i≤(Xb c).length→Zd (fun nf fm0 _ _=>Xa.l0 nf fm0 t0 ((p:Int)) t2 t7 (q) t9 t11 t12 t13 t14 (Xb c) (((Xb c).length:Int)) ((i:Int)) o0 (c) o2 o3 o4 o5 (Kg base (Xb c) (meI q) i)) (fun r=>r=(((o4.1,o4.2.1,o5,Kg (Kg base (Xb c) (meI q) (Xb c).length) (Xg c) (X2 p) (Xg c).length,()),0,()),[(0,[2]),(0,[3])])):=by
  refine upto ?_ (fun i hi next => ?_)
  · refine Zd.succ1 (fun nf fm0 _ _=>Xa.l0_eq nf fm0 _ _ _ _ _ _ _ _ _ _ _ _ _ _ _ _ _ _ _ _) ?_
    simp [-List.getD_eq_getElem?_getD,-List.length_eq_zero_iff,Zp,Zm,Zy,Zo,Xj,Xi,Yb]
    exact (APb p (Xg c) hws _ (by rw [Vj]; exact hb) hin _ _ _ _ _ _ _ _ _ _ _ _ _ _ _ _ _ _ 0 (Nat.zero_le _)).enter
  · refine Zd.succ1 (fun nf fm0 _ _=>Xa.l0_eq nf fm0 _ _ _ _ _ _ _ _ _ _ _ _ _ _ _ _ _ _ _ _) ?_
    rw [← Xv (by omega)] at next
    have hl:=Vj base (Xb c) (meI q) i
    have h:=hin' i hi
    simp [-List.getD_eq_getElem?_getD,-List.length_eq_zero_iff,Zp,Zm,Zy,Zo,Xj,Xi,Yb,hi,Ze (K6 _),(K6 _).prop,hl,hb,h]
    exact next
theorem Rz {w:den Zb} {l:List Int} (h:¬ Bad w l):∀ j,j<l.length→inR w (iAt l j):=fun j hj=>Classical.byContradiction (fun hn=>h ⟨j,hj,hn⟩)
theorem Rg {a b:List Int} {j:Nat} (h:j<a.length):iAt (a ++ b) j=iAt a j:=by
  unfold iAt; rw [List.getD_eq_getElem?_getD,List.getD_eq_getElem?_getD,List.getElem?_append_left h]
theorem Wb {a b:List Int} (j:Nat):iAt (a ++ b) (a.length+j)=iAt b j:=by
  unfold iAt; rw [List.getD_eq_getElem?_getD,List.getD_eq_getElem?_getD,List.getElem?_append_right (by omega),Nat.add_sub_cancel_left]
theorem AIy {w:den Zb} {a b:List Int} (h:¬ Bad w (a ++ b)):¬ Bad w a∧¬ Bad w b :=
  ⟨fun ⟨j,h1,h2⟩=>h ⟨j,by rw [List.length_append]; omega,by rw [Rg h1]; exact h2⟩,fun ⟨j,h1,h2⟩=>h ⟨a.length+j,by rw [List.length_append]; omega,by rw [Wb]; exact h2⟩⟩
theorem I8 {w:den Zb} (h:Yf w) {i:Nat} (hi:i<List.length (w.2.1:List Int)):Ge (Yw w i):=(h.at_ i hi).2
theorem Uj (a b:List Int) (ha:a.length≤524288) (hb:b.length≤524288):Zd (fun nf _ _ _=>V8 nf [a,b]) (fun r=>r=((a ++ b,()),[(0,[])])) :=
  Zd.succ (G:=fun _ _ _ _=>some ((a ++ b,()),[(0,[])])) (fun n _ _ _=>by
    show (if List.length a≤524288∧List.length b≤524288 then _ else none)=_
    rw [if_pos ⟨ha,hb⟩]) (Zd.ret rfl)
theorem AIu {w:den Zb} (ok:Ok w) {p:Nat} (hp:p<List.length (w.2.1:List Int)) (c:Cm) (hg:(Xb c).length≤100) (hw:(Xg c).length≤100) (hpay:Ge (K9 c)) (hfee:Ge (K8 c)) :
    Zd (fun nf _ _ _=>Xa nf (w) ((p:Int)) (c)) (fun r=>r=(Jj w p (Y6 c) (Xb c) (K9 c) (Xg c) (K8 c),if tradeErr w p (Y6 c) (Xb c) (K9 c) (Xg c) (K8 c)=0 then [(0,[2]),(0,[3])] else [])):=by
  have hlen:(Xb c ++ Xg c).length≤1048576:=by rw [List.length_append]; omega
  refine Zd.succ (fun nf _ _ _=>Xa.eq nf _ _ _) ?_
  by_cases c1:inQ w (Y6 c)
  · by_cases c2:Bad w (Xb c ++ Xg c)
    · simp [-List.getD_eq_getElem?_getD,-List.length_eq_zero_iff,Zp,Zm,Zy,Zo,Xj,Xi,Yb,Ze (Uj (Xb c) (Xg c) (by omega) (by omega)),(Uj (Xb c) (Xg c) (by omega) (by omega)).prop,Ze (Vl w _),(Vl w _).prop,Ze (I1 w (Xb c ++ Xg c) hlen),(I1 w (Xb c ++ Xg c) hlen).bprop,c1,c2,Jj,tradeErr]
    · obtain ⟨q,eq,hq⟩:=O3 c1
      have hin:=Rz c2
      obtain ⟨bg,bw⟩:=AIy c2
      have hc1:=ok.right.c1
      have ha1:=ok.right.a1
      have hpc:p<List.length (w.2.2.1:List Int):=by omega
      have hqc:q<List.length (w.2.2.1:List Int):=by omega
      have e1:IntKind.wrap .i64 (((Xg c).length:Int) - ((Xb c).length:Int))=((Xg c).length:Int) - ((Xb c).length:Int):=Gb (by omega) (by omega)
      have e2:IntKind.wrap .i64 (-(((Xg c).length:Int) - ((Xb c).length:Int)))=((Xb c).length:Int) - ((Xg c).length:Int):=by rw [Gb (by omega) (by omega)]; omega
      simp only [eq]
      simp [-List.getD_eq_getElem?_getD,-List.length_eq_zero_iff,Zp,Zm,Zy,Zo,Xj,Xi,Yb,Ze (Uj (Xb c) (Xg c) (by omega) (by omega)),(Uj (Xb c) (Xg c) (by omega) (by omega)).prop,Ze (Vl w _),(Vl w _).prop,Ze (I1 w (Xb c ++ Xg c) hlen),(I1 w (Xb c ++ Xg c) hlen).bprop,c2,hq,hp,show inQ w (q:Int) from eq ▸ c1,Ze (AA1 (Xb c ++ Xg c) hlen),(AA1 (Xb c ++ Xg c) hlen).bprop,Ze (M5 w (Xb c) (by omega) bg (p:Int)),(M5 w (Xb c) (by omega) bg (p:Int)).bprop,Ze (M5 w (Xg c) (by omega) bw (q:Int)),(M5 w (Xg c) (by omega) bw (q:Int)).bprop,Ze (K6 _),(K6 _).prop,Ze (Qy w ok (X2 p) (Ul p)),(Qy w ok (X2 p) (Ul p)).prop,Ze (Qy w ok (X2 q) (Ul q)),(Qy w ok (X2 q) (Ul q)).prop,e1,e2,hpc,hqc,Ze (ACy (I8 ok.right hp) (I8 ok.right hq) hpay hfee),(ACy (I8 ok.right hp) (I8 ok.right hq) hpay hfee).prop,ALp]
      by_cases c3:(q:Int)=(p:Int)
      · simp [-List.getD_eq_getElem?_getD,-List.length_eq_zero_iff,Zp,Zm,Zy,Zo,Xj,Xi,Yb,c3,c2,Jj,tradeErr,show inQ w (p:Int) from c3 ▸ eq ▸ c1]
      by_cases c4:Yc w q=Yc w p
      rotate_left
      · simp [-List.getD_eq_getElem?_getD,-List.length_eq_zero_iff,Zp,Zm,Zy,Zo,Xj,Xi,Yb,c3,c4,c2,Jj,tradeErr,show inQ w (q:Int) from eq ▸ c1]
      by_cases c5:Dup (Xb c ++ Xg c)
      · simp [-List.getD_eq_getElem?_getD,-List.length_eq_zero_iff,Zp,Zm,Zy,Zo,Xj,Xi,Yb,c3,c4,c5,c2,Jj,tradeErr,show inQ w (q:Int) from eq ▸ c1]
      by_cases c6:Pk w (Xb c) (p:Int)
      · simp [-List.getD_eq_getElem?_getD,-List.length_eq_zero_iff,Zp,Zm,Zy,Zo,Xj,Xi,Yb,c3,c4,c5,c6,c2,Jj,tradeErr,show inQ w (q:Int) from eq ▸ c1]
      by_cases c7:Pk w (Xg c) (q:Int)
      · simp [-List.getD_eq_getElem?_getD,-List.length_eq_zero_iff,Zp,Zm,Zy,Zo,Xj,Xi,Yb,c3,c4,c5,c6,c7,c2,Jj,tradeErr,show inQ w (q:Int) from eq ▸ c1]
      by_cases c8:Y0 w (X2 p)<((Xg c).length:Int) - ((Xb c).length:Int)
      · simp [-List.getD_eq_getElem?_getD,-List.length_eq_zero_iff,Zp,Zm,Zy,Zo,Xj,Xi,Yb,c3,c4,c5,c6,c7,c8,c2,Jj,tradeErr,show inQ w (q:Int) from eq ▸ c1]
        intro h; omega
      by_cases c9:Y0 w (X2 q)<((Xb c).length:Int) - ((Xg c).length:Int)
      · simp [-List.getD_eq_getElem?_getD,-List.length_eq_zero_iff,Zp,Zm,Zy,Zo,Xj,Xi,Yb,c3,c4,c5,c6,c7,c8,c9,c2,Jj,tradeErr,show inQ w (q:Int) from eq ▸ c1]
        intro h; omega
      by_cases ca:swapErr (Yw w p) (Yw w q) (K9 c) (K8 c)=0
      rotate_left
      · simp [-List.getD_eq_getElem?_getD,-List.length_eq_zero_iff,Zp,Zm,Zy,Zo,Xj,Xi,Yb,c3,c4,c5,c6,c7,c8,c9,ca,c2,Jj,tradeErr,show inQ w (q:Int) from eq ▸ c1]
      simp [-List.getD_eq_getElem?_getD,-List.length_eq_zero_iff,Zp,Zm,Zy,Zo,Xj,Xi,Yb,c3,c4,c5,c6,c7,c8,c9,ca,c2,Jj,tradeErr,show inQ w (q:Int) from eq ▸ c1,Ze (La w ok.sm),(La w ok.sm).prop,hpc,hqc,AG6]
      intro _ _
      exact (APa (N:=List.length (w.2.2.2.1:List (den Za))) p (q:Int) c (by omega) (by omega) w.2.2.2.1 rfl (Rz bw) (Rz bg) _ _ _ _ _ _ _ _ _ _ _ _ _ 0 (Nat.zero_le _)).enter
  · simp [-List.getD_eq_getElem?_getD,-List.length_eq_zero_iff,Zp,Zm,Zy,Zo,Xj,Xi,Yb,Ze (Uj (Xb c) (Xg c) (by omega) (by omega)),(Uj (Xb c) (Xg c) (by omega) (by omega)).prop,Ze (Vl w _),(Vl w _).prop,c1,Jj,tradeErr]
end Go.Proofs.YtmemggdjnfccfaaGreatDoor.Ghost
namespace Go.Proofs.YtmemggdjnfccfaaGreatDoor.Ghost
open Go
section
variable {w:den Zb} (ok:Ok w) {p q:Nat} (hp:p<List.length (w.2.1:List Int)) (hq:q<List.length (w.2.1:List Int)) (c:Cm) (hg:(Xb c).length≤100) (hw:(Xg c).length≤100) (hpay:Ge (K9 c)) (hfee:Ge (K8 c)) (hbad:¬ Bad w (Xb c ++ Xg c))
include ok hp hq hg hw hpay hfee hbad
abbrev ATi (w:den Zb) (p q:Nat) (c:Cm):den Zb:=Iv w p q (Xb c) (Xg c) (Yw w p - K9 c+K8 c) (Yw w q - K8 c+K9 c)
open Classical in
noncomputable def lastR (w:den Zb) (p q:Nat) (c:Cm) (rp rq:Int):den Zb×Int×Unit :=
  if rp<0 then (w,9,()) else if rq<0 then (w,9,()) else if swapErr (Yw w p) (Yw w q) (K9 c) (K8 c)=0 then (ATi w p q c,0,()) else (w,swapErr (Yw w p) (Yw w q) (K9 c) (K8 c),())
end
end Go.Proofs.YtmemggdjnfccfaaGreatDoor.Ghost
namespace Go.Proofs.YtmemggdjnfccfaaGreatDoor.Ghost
open Go
open Classical in
theorem setAll_get {l:List Pl} {xs:List Int} {p:Pl}:{n:Nat}→(∀ j,j<n→0≤iAt xs j∧iAt xs j<(l.length:Int))→(k:Nat)→List.getD (Kg l xs p n) k (dft Za)=if ∃ i,i<n∧iAt xs i=(k:Int) then p else List.getD l k (dft Za)
  | 0,_,k=>by rw [if_neg (fun ⟨i,h,_⟩=>by omega)]; rfl
  | n+1,hin,k=>by
    have ih:=setAll_get (l:=l) (xs:=xs) (p:=p) (n:=n) (fun j hj=>hin j (by omega)) k
    have h:=hin n (by omega)
    simp only [Kg]
    rw [Gh _ _ _ _ _ (by rw [Vj]; omega)]
    by_cases e:k=(iAt xs n).toNat
    · rw [if_pos e,if_pos ⟨n,by omega,by omega⟩]
    · rw [if_neg e,ih]
      by_cases h2:∃ i,i<n∧iAt xs i=(k:Int)
      · obtain ⟨i,a,b⟩:=h2
        rw [if_pos ⟨i,a,b⟩,if_pos ⟨i,by omega,b⟩]
      · rw [if_neg h2,if_neg (fun ⟨i,a,b⟩=>h2 ⟨i,by
          by_cases e2:i=n
          · subst e2; omega
          · omega,b⟩)]
structure Lot (l:List Pl) (xs:List Int) (src:Pl):Prop where
  inn:∀ j,j<xs.length→0≤iAt xs j∧iAt xs j<(l.length:Int)
  at_:∀ j,j<xs.length→List.getD l (iAt xs j).toNat (dft Za)=src
  one:∀ i j,i<j→j<xs.length→¬ iAt xs i=iAt xs j
theorem Lot.get {l:List Pl} {xs:List Int} {src p:Pl} (h:Lot l xs src) {n:Nat} (hn:n<xs.length):List.getD (Kg l xs p n) (iAt xs n).toNat (dft Za)=src:=by
  have hi:=h.inn n hn
  rw [setAll_get (fun j hj=>h.inn j (by omega)),if_neg (fun ⟨i,a,b⟩=>h.one i n a hn (by omega))]
  exact h.at_ n hn
theorem Lot.many {l:List Pl} {xs:List Int} {src p:Pl} (h:Lot l xs src) (t:Pl):{n:Nat}→n≤xs.length→Yv (Kg l xs p n) t l.length+(if src=t then n else 0)=Yv l t l.length+(if p=t then n else 0)
  | 0,_=>by simp [Kg]
  | n+1,hn=>by
    have ih:=Lot.many h (p:=p) t (n:=n) (by omega)
    have hi:=h.inn n (by omega)
    have hk:(iAt xs n).toNat<(Kg l xs p n).length:=by rw [Vj]; omega
    have:=Rk (Kg l xs p n) (iAt xs n).toNat p t hk l.length
    rw [h.get (by omega)] at this
    have hk':(iAt xs n).toNat<l.length:=by omega
    simp only [hk',true_and] at this
    simp only [Kg]
    by_cases c1:src=t <;> by_cases c2:p=t <;> simp only [c1,c2,if_true,if_false] at this ih ⊢ <;> omega
structure AJ4 (w:den Zb) (p q:Nat) (gs ws:List Int):Prop where
  pq:¬ p=q
  lg:Lot w.2.2.2.1 gs (X2 p)
  lw:Lot (Kg w.2.2.2.1 gs (X2 q) gs.length) ws (X2 q)
  lw0:Lot w.2.2.2.1 ws (X2 q)
  gw:∀ i j,i<gs.length→j<ws.length→¬ iAt gs i=iAt ws j
theorem AOp {p q:Nat} (h:X2 p=X2 q):p=q:=Int.ofNat.inj (congrArg (fun x:Pl=>(x.2.1:Int)) h)
theorem AS5 {w:den Zb} {p q:Nat} {gs ws:List Int} (hpq:¬ p=q) (hb:¬ Bad w (gs ++ ws)) (hd:¬ Dup (gs ++ ws)) (hg:¬ Pk w gs p) (hw:¬ Pk w ws q):AJ4 w p q gs ws:=by
  obtain ⟨bg,bw⟩:=AIy hb
  have hgw:∀ i j,i<gs.length→j<ws.length→¬ iAt gs i=iAt ws j:=fun i j hi hj e=>hd ⟨i,gs.length+j,by omega,by rw [List.length_append]; omega,by rw [Rg hi,Wb]; exact e⟩
  have ag:∀ j,j<gs.length→List.getD (w.2.2.2.1:List Pl) (iAt gs j).toNat (dft Za)=X2 p:=fun j hj=>Classical.byContradiction (fun h=>hg ⟨j,hj,h⟩)
  have aw:∀ j,j<ws.length→List.getD (w.2.2.2.1:List Pl) (iAt ws j).toNat (dft Za)=X2 q:=fun j hj=>Classical.byContradiction (fun h=>hw ⟨j,hj,h⟩)
  have ng:∀ i j,i<j→j<gs.length→¬ iAt gs i=iAt gs j:=fun i j hi hj e=>hd ⟨i,j,hi,by rw [List.length_append]; omega,by rw [Rg (by omega),Rg hj]; exact e⟩
  have nw:∀ i j,i<j→j<ws.length→¬ iAt ws i=iAt ws j:=fun i j hi hj e=>hd ⟨gs.length+i,gs.length+j,by omega,by rw [List.length_append]; omega,by rw [Wb,Wb]; exact e⟩
  refine ⟨hpq,⟨Rz bg,ag,ng⟩,⟨fun j hj=>by rw [Vj]; exact Rz bw j hj,fun j hj => ?_,nw⟩,⟨Rz bw,aw,nw⟩,hgw⟩
  have hj':=Rz bw j hj
  rw [setAll_get (Rz bg)]
  split
  · rfl
  · exact aw j hj
theorem AJ4.room {w:den Zb} {p q:Nat} {gs ws:List Int} (h:AJ4 w p q gs ws) (x:den Zb) (hx1:x.1=w.1) (hx:x.2.2.2.1=Hv w p q gs ws) (t:Pl):Y0 x t=Y0 w t+(if X2 p=t then (gs.length:Int) - (ws.length:Int) else 0)+(if X2 q=t then (ws.length:Int) - (gs.length:Int) else 0):=by
  have h1:Yv (Kg w.2.2.2.1 gs (X2 q) gs.length) t (List.length (w.2.2.2.1:List (den Za)))+(if X2 p=t then gs.length else 0)=Yv w.2.2.2.1 t (List.length (w.2.2.2.1:List (den Za)))+(if X2 q=t then gs.length else 0):=h.lg.many (p:=X2 q) t (Nat.le_refl _)
  have h2:=h.lw.many (p:=X2 p) t (Nat.le_refl _)
  rw [Vj] at h2
  have h2:Yv (Hv w p q gs ws) t (List.length (w.2.2.2.1:List (den Za)))+(if X2 q=t then ws.length else 0)=Yv (Kg w.2.2.2.1 gs (X2 q) gs.length) t (List.length (w.2.2.2.1:List (den Za)))+(if X2 p=t then ws.length else 0):=h2
  have hl:List.length (x.2.2.2.1:List (den Za))=List.length (w.2.2.2.1:List (den Za)):=by rw [hx]; unfold Hv; rw [Vj,Vj]
  unfold Y0
  rw [hl,hx1,hx]
  by_cases c1:X2 p=t
  · have c2:¬ X2 q=t:=fun e=>h.pq (AOp (c1.trans e.symm))
    rw [if_pos c1,if_neg c2] at h1 h2 ⊢
    omega
  · by_cases c2:X2 q=t
    · rw [if_neg c1,if_pos c2] at h1 h2 ⊢
      omega
    · rw [if_neg c1,if_neg c2] at h1 h2 ⊢
      omega
def APl (l:List Int) (i:Nat):Prop:=∃ a b,a<b∧i≤b∧b<l.length∧iAt l a=iAt l b
section
variable {w:den Zb} (ok:Ok w) {p q:Nat} (hp:p<List.length (w.2.1:List Int)) (hq:q<List.length (w.2.1:List Int)) (c:Cm) (hg:(Xb c).length≤100) (hw:(Xg c).length≤100) (hpay:Ge (K9 c)) (hfee:Ge (K8 c)) (hbad:¬ Bad w (Xb c ++ Xg c))
include ok hp hq hg hw hpay hfee hbad
open Classical in
noncomputable def l1R (w:den Zb) (p q:Nat) (c:Cm) (i:Nat):den Zb×Int×Unit :=
  if APl (Xb c ++ Xg c) i then (w,13,()) else if Pk w (Xb c) p then (w,5,()) else if Pk w (Xg c) q then (w,5,())
    else lastR w p q c (Y0 (w.1,w.2.1,w.2.2.1,Hv w p q (Xb c) (Xg c),()) (X2 p)) (Y0 (w.1,w.2.1,w.2.2.1,Hv w p q (Xb c) (Xg c),()) (X2 q))
open Classical in
noncomputable def l0R (w:den Zb) (p q:Nat) (c:Cm):den Zb×Int×Unit:=if (q:Int)=(p:Int) then (w,12,()) else if ¬ Yc w q=Yc w p then (w,5,()) else l1R w p q c 0
end
end Go.Proofs.YtmemggdjnfccfaaGreatDoor.Ghost
namespace Go.Proofs.YtmemggdjnfccfaaGreatDoor.Ghost
open Go
structure AIx (w:den Zb) (p q:Nat) (gs:List Int) (pay:Int) (ws:List Int) (fee:Int):Prop where
  hq:q<List.length (w.2.1:List Int)
  bad:¬ Bad w (gs ++ ws)
  at_:Yc w q=Yc w p
  dup:¬ Dup (gs ++ ws)
  ag:¬ Pk w gs p
  aw:¬ Pk w ws q
  lots:AJ4 w p q gs ws
  rp:(ws.length:Int) - (gs.length:Int)≤Y0 w (X2 p)
  rq:(gs.length:Int) - (ws.length:Int)≤Y0 w (X2 q)
  sw:swapErr (Yw w p) (Yw w q) pay fee=0
theorem Wq {w:den Zb} {p:Nat} {q:Int} {gs ws:List Int} {pay fee:Int} (h10:∀ a b,swapErr a b pay fee=0∨0<swapErr a b pay fee):tradeErr w p q gs pay ws fee=0↔∃ n:Nat,q=(n:Int)∧AIx w p n gs pay ws fee:=by
  constructor
  · intro h
    unfold tradeErr at h
    by_cases c1:inQ w q
    rotate_left
    · rw [if_pos c1] at h; cases h
    rw [if_neg (fun h=>h c1)] at h
    obtain ⟨n,rfl,hn⟩:=O3 c1
    by_cases c2:Bad w (gs ++ ws)
    · rw [if_pos c2] at h; cases h
    rw [if_neg c2] at h
    by_cases c3:(n:Int)=(p:Int)
    · rw [if_pos c3] at h; cases h
    rw [if_neg c3,Int.toNat_natCast] at h
    by_cases c4:Yc w n=Yc w p
    rotate_left
    · rw [if_pos c4] at h; cases h
    rw [if_neg (fun h=>h c4)] at h
    by_cases c5:Dup (gs ++ ws)
    · rw [if_pos c5] at h; cases h
    rw [if_neg c5] at h
    by_cases c6:Pk w gs p
    · rw [if_pos c6] at h; cases h
    rw [if_neg c6] at h
    by_cases c7:Pk w ws n
    · rw [if_pos c7] at h; cases h
    rw [if_neg c7] at h
    by_cases c8:Y0 w (X2 p)<(ws.length:Int) - (gs.length:Int)
    · rw [if_pos c8] at h; cases h
    rw [if_neg c8] at h
    by_cases c9:Y0 w (meI (n:Int))<(gs.length:Int) - (ws.length:Int)
    · rw [if_pos c9] at h; cases h
    rw [if_neg c9] at h
    exact ⟨n,rfl,hn,c2,c4,c5,c6,c7,AS5 (fun e=>c3 (by rw [e])) c2 c5 c6 c7,Int.not_lt.1 c8,Int.not_lt.1 c9,h⟩
  · rintro ⟨n,rfl,h⟩
    unfold tradeErr
    rw [if_neg (fun g=>g ⟨Int.natCast_nonneg n,Int.ofNat_lt.2 h.hq⟩),if_neg h.bad,if_neg (fun e:(n:Int)=(p:Int)=>h.lots.pq (Int.ofNat.inj e).symm),Int.toNat_natCast,if_neg (fun g=>g h.at_),if_neg h.dup,if_neg h.ag,if_neg h.aw,if_neg (Int.not_lt.2 h.rp),if_neg (Int.not_lt.2 (show _≤Y0 w (meI (n:Int)) from h.rq))]
    exact h.sw
theorem Nj (pay fee a b:Int):swapErr a b pay fee=0∨0<swapErr a b pay fee:=by
  unfold swapErr
  split
  · exact .inr (by decide)
  · split
    · exact .inl rfl
    · exact .inr (by decide)
theorem AEe {a b pay fee:Int} (h:swapErr a b pay fee=0):pay≤a∧fee≤b∧Ge (a - pay+fee)∧Ge (b - fee+pay):=by
  unfold swapErr at h
  split at h
  · cases h
  · rename_i c1
    split at h
    · rename_i c2
      refine ⟨?_,?_,c2.1,c2.2⟩
      · exact Int.not_lt.1 (fun h=>c1 (.inl h))
      · exact Int.not_lt.1 (fun h=>c1 (.inr h))
    · cases h
theorem ACg (i:Nat):¬ (X2 i).1=(2:Int):=fun e=>by
  have:(1:Int)=2:=e
  cases this
theorem Lot.depI {l:List Pl} {xs:List Int} {src p:Pl} (h:Lot l xs src) (hs:¬ src.1=(2:Int)) (hp:¬ p.1=(2:Int)) (f c:Nat) (x:Pl):{n:Nat}→n≤xs.length→depI (Kg l xs p n) f c x=depI l f c x
  | 0,_=>rfl
  | n+1,hn=>by
    have hi:=h.inn n (by omega)
    simp only [Kg]
    rw [Fa (by rw [Vj]; omega) hp (by rw [h.get (by omega)]; exact hs)]
    exact Lot.depI h hs hp f c x (by omega)
theorem AJ4.at_ {w:den Zb} {p q:Nat} {gs ws:List Int} (h:AJ4 w p q gs ws) (j:Nat):List.getD (Hv w p q gs ws) j (dft Za)=List.getD (w.2.2.2.1:List Pl) j (dft Za)∧(∀ i,i<(gs ++ ws).length→¬ iAt (gs ++ ws) i=(j:Int))∨List.getD (Hv w p q gs ws) j (dft Za)=X2 p∧List.getD (w.2.2.2.1:List Pl) j (dft Za)=X2 q∧(∃ i,i<ws.length∧iAt ws i=(j:Int)) ∨
    List.getD (Hv w p q gs ws) j (dft Za)=X2 q∧List.getD (w.2.2.2.1:List Pl) j (dft Za)=X2 p∧(∃ i,i<gs.length∧iAt gs i=(j:Int)):=by
  unfold Hv
  rw [setAll_get h.lw.inn]
  by_cases c1:∃ i,i<ws.length∧iAt ws i=(j:Int)
  · rw [if_pos c1]
    obtain ⟨i,h1,h2⟩:=c1
    refine .inr (.inl ⟨rfl,?_,i,h1,h2⟩)
    have:=h.lw0.at_ i h1
    rw [h2,Int.toNat_natCast] at this
    exact this
  · rw [if_neg c1,setAll_get h.lg.inn]
    by_cases c2:∃ i,i<gs.length∧iAt gs i=(j:Int)
    · rw [if_pos c2]
      obtain ⟨i,h1,h2⟩:=c2
      refine .inr (.inr ⟨rfl,?_,i,h1,h2⟩)
      have:=h.lg.at_ i h1
      rw [h2,Int.toNat_natCast] at this
      exact this
    · rw [if_neg c2]
      refine .inl ⟨rfl,fun i hi e => ?_⟩
      by_cases hl:i<gs.length
      · rw [Rg hl] at e; exact c2 ⟨i,hl,e⟩
      · obtain ⟨k,rfl⟩:∃ k,i=gs.length+k:=⟨i - gs.length,by omega⟩
        rw [Wb] at e
        rw [List.length_append] at hi
        exact c1 ⟨k,by omega,e⟩
theorem ANf (l:List Int) {p q:Nat} (hp:p<l.length) (hq:q<l.length) (a b:Int) (j:Nat):List.getD (List.set (List.set l p a) q b) j 0=if j=q then b else if j=p then a else List.getD l j 0:=by
  rw [Gh _ _ _ _ _ (by rw [List.length_set]; exact hq),Gh _ _ _ _ _ hp]
section
variable {w:den Zb} {p q:Nat} {gs ws:List Int} {pay fee:Int} (ok:Ok w) (hp:p<List.length (w.2.1:List Int)) (h:AIx w p q gs pay ws fee)
include ok hp h
abbrev tdW (w:den Zb) (p q:Nat) (gs:List Int) (pay:Int) (ws:List Int) (fee:Int):den Zb:=Iv w p q gs ws (Yw w p - pay+fee) (Yw w q - fee+pay)
theorem AIv:List.length (Hv w p q gs ws)=List.length (w.2.2.2.1:List (den Za)):=by unfold Hv; rw [Vj,Vj]
theorem Lt (j:Nat):Yw (tdW w p q gs pay ws fee) j=if j=q then Yw w q - fee+pay else if j=p then Yw w p - pay+fee else Yw w j:=by
  have hc1:=ok.right.c1
  have ha1:=ok.right.a1
  have hqq:=h.hq
  show List.getD (List.set (List.set (w.2.2.1:List Int) p _) (Int.toNat (q:Int)) _) j 0=_
  rw [Int.toNat_natCast,ANf _ (by omega) (by omega)]
theorem AO9 (t:Pl):Y0 (tdW w p q gs pay ws fee) t=Y0 w t+(if X2 p=t then (gs.length:Int) - (ws.length:Int) else 0)+(if X2 q=t then (ws.length:Int) - (gs.length:Int) else 0):=h.lots.room (tdW w p q gs pay ws fee) rfl rfl t
theorem BMg:Ok (tdW w p q gs pay ws fee):=by
  have hr:=ok.right
  have hs:=ok.sm
  have hc1:=ok.right.c1
  have ha1:=ok.right.a1
  have hqq:=h.hq
  have hlen:=AIv ok hp h
  have hcl:List.length ((tdW w p q gs pay ws fee).2.2.1:List Int)=List.length (w.2.2.1:List Int):=by
    show List.length (List.set (List.set (w.2.2.1:List Int) p _) _ _)=_
    rw [List.length_set,List.length_set]
  obtain ⟨_,_,s1,s2⟩:=AEe h.sw
  refine ⟨⟨hs.e,hs.b,hs.p,hs.c,hs.i,hs.a,by rw [hcl]; exact hs.wc,by show List.length (Hv w p q gs ws)≤_; rw [hlen]; exact hs.wh,hs.rows⟩,hr.may,hr.a1,by rw [hcl]; exact hr.c1,by show List.length (Hv w p q gs ws)=_; rw [hlen]; exact hr.w1,fun i hi=>⟨(hr.at_ i hi).1,?_⟩,fun i hi => ?_,fun i hi => ?_⟩
  · have hc:=Lt ok hp h i
    have:Ge (Yw (tdW w p q gs pay ws fee) i):=by
      rw [hc]
      split
      · exact s2
      · split
        · exact s1
        · exact (hr.at_ i hi).2
    exact this
  · have hi:i<List.length (w.2.2.2.1:List (den Za)):=by rw [← hlen]; exact hi
    have gm:∀ r,r<List.length (w.2.1:List Int)→K3 w.1 (X2 r):=fun r hr'=>.inr (.inl ⟨rfl,Int.natCast_nonneg r,by show (r:Int)<_; rw [← hr.a1]; exact Int.ofNat_lt.2 hr'⟩)
    show K3 w.1 (List.getD (Hv w p q gs ws) i (dft Za))
    rcases h.lots.at_ i with ⟨e,_⟩ | ⟨e,_⟩ | ⟨e,_⟩
    · rw [e]; exact hr.good i hi
    · rw [e]; exact gm p hp
    · rw [e]; exact gm q hqq
  · have hi:i<List.length (w.2.2.2.1:List (den Za)):=by rw [← hlen]; exact hi
    have hd:∀ x,depI (Hv w p q gs ws) 51 0 x=depI w.2.2.2.1 51 0 x:=fun x=>by
      unfold Hv
      rw [h.lots.lw.depI (ACg q) (ACg p) 51 0 x (Nat.le_refl _),h.lots.lg.depI (ACg p) (ACg q) 51 0 x (Nat.le_refl _)]
    have hroom:∀ t,0≤Y0 (tdW w p q gs pay ws fee) t:=fun t=>by
      rw [AO9 ok hp h t]
      have h0:=(hr.room t).1
      by_cases c1:X2 p=t
      · have c2:¬ X2 q=t:=fun e=>h.lots.pq (AOp (c1.trans e.symm))
        rw [if_pos c1,if_neg c2]
        have:=h.rp
        rw [c1] at this
        omega
      · by_cases c2:X2 q=t
        · rw [if_neg c1,if_pos c2]
          have:=h.rq
          rw [c2] at this
          omega
        · rw [if_neg c1,if_neg c2]; omega
    refine ⟨?_,?_⟩
    · show depI (Hv w p q gs ws) 51 0 (List.getD (Hv w p q gs ws) i (dft Za))≤4
      rw [hd]
      rcases h.lots.at_ i with ⟨e,_⟩ | ⟨e,_⟩ | ⟨e,_⟩
      · rw [e]; exact (hr.deep i hi).1
      · rw [e,Eu (ACg p)]; omega
      · rw [e,Eu (ACg q)]; omega
    · have:=hroom (List.getD ((tdW w p q gs pay ws fee).2.2.2.1:List (den Za)) i (dft Za))
      unfold Y0 at this
      show (Yv _ _ _:Int)≤L9 w.1 _
      have e:(tdW w p q gs pay ws fee).1=w.1:=rfl
      rw [e] at this
      omega
end
end Go.Proofs.YtmemggdjnfccfaaGreatDoor.Ghost
