/- What functions come to, and that the statements are answered with 'true'. Conditions: none. -/
import Derived.Test.YtmemggdjnfccfaaGreatDoorS
import Derived.Test.YtmemggdjnfccfaaGreatDoorGE
import Derived.Test.YtmemggdjnfccfaaGreatDoorP1
import Derived.Test.YtmemggdjnfccfaaGreatDoorP2
import Derived.Test.YtmemggdjnfccfaaGreatDoorP3
import Derived.Test.YtmemggdjnfccfaaGreatDoorP4
import Derived.Test.YtmemggdjnfccfaaGreatDoorP5
import Derived.Test.YtmemggdjnfccfaaGreatDoorP6
import Derived.Test.YtmemggdjnfccfaaGreatDoorP7
import Derived.Test.YtmemggdjnfccfaaGreatDoorP8
import Derived.Test.YtmemggdjnfccfaaGreatDoorP9
set_option linter.unusedVariables false
set_option linter.unusedSimpArgs false
set_option linter.unusedSectionVars false
set_option linter.unnecessarySimpa false
namespace Go.Proofs.YtmemggdjnfccfaaGreatDoor.Ghost
open Go
end Go.Proofs.YtmemggdjnfccfaaGreatDoor.Ghost
namespace Go.Proofs.YtmemggdjnfccfaaGreatDoor.Ghost
open Go
def inQ (w:den Zb) (q:Int):Prop:=0≤q∧q<(List.length (w.2.1:List Int):Int)
theorem I7 {w:den Zb} {q:Int} (h:inQ w q):∃ n:Nat,q=(n:Int)∧n<List.length (w.2.1:List Int):=⟨q.toNat,by have:=h.1; omega,by have:=h.1; have:=h.2; omega⟩
theorem Wm (w:den Zb) (k:Int):Ze (fun nf _ _ _=>Ha nf (w) (k)) (fun r=>r=((dec (inR w k),()),[])):=by
  refine Ze.succ (fun nf _ _ _=>Ha.eq nf _ _) ?_
  by_cases h:0≤k <;> simp [h,inR,G7]
theorem Vh (w:den Zb) (k:Int):Ze (fun nf _ _ _=>Qg nf (w) (k)) (fun r=>r=((dec (inQ w k),()),[])):=by
  refine Ze.succ (fun nf _ _ _=>Qg.eq nf _ _) ?_
  by_cases h:0≤k <;> simp [h,inQ,G7]
theorem K3 (k:Int):Ze (fun nf _ _ _=>Y0 nf (k)) (fun r=>r=(((1,k,()),()),[])):=by
  refine Ze.succ (fun nf _ _ _=>Y0.eq nf _) ?_
  simp
open Classical in
noncomputable def giveErr (w:den Zb) (p:Nat) (k q:Int):Int:=if inR w k∧inQ w q then
  (if q=(p:Int) then 12 else if Qi w q.toNat=Qi w p∧Yb w k.toNat=X8 p then (if Y3 w (X8 q.toNat)<1 then 9 else 0) else 5) else 3
noncomputable def Wn (w:den Zb) (p:Nat) (k q:Int):den Zb×Int×Unit:=if giveErr w p k q=0 then (put w k.toNat (X8 q.toNat),0,()) else (w,giveErr w p k q,())
theorem AG7 {w:den Zb} {p:Nat} {k q:Int} (h:¬ giveErr w p k q=3):inR w k∧inQ w q:=by
  by_cases hn:inR w k∧inQ w q
  · exact hn
  · exact absurd (by unfold giveErr; rw [if_neg hn]) h
theorem AJ0 {w:den Zb} (ok:Ok w) {p:Nat} (hp:p<List.length (w.2.1:List Int)) (k q:Int):Ze (fun nf _ _ _=>Vz nf (w) ((p:Int)) (k) (q)) (fun r=>r.1=Wn w p k q):=by
  refine Ze.succ (fun nf _ _ _=>Vz.eq nf _ _ _ _) ?_
  by_cases hk:inR w k
  · by_cases hq:inQ w q
    · obtain ⟨k,rfl,hkn⟩:=J3 hk
      obtain ⟨q,rfl,hqn⟩:=I7 hq
      simp [-List.getD_eq_getElem?_getD,-List.length_eq_zero_iff,Zq,Zl,Zu,Zo,Z9,Z8,Xx,Zd (Wm w (k:Int)),(Wm w (k:Int)).prop,Zd (Vh w (q:Int)),(Vh w (q:Int)).prop,hk,hq,hkn,hqn,hp,Zd (K3 _),(K3 _).prop,Zd (Qq w ok (X8 q) (Uf q)),(Qq w ok (X8 q) (Uf q)).prop,Zd (O0 w ok.sm hkn (X8 q)),(O0 w ok.sm hkn (X8 q)).prop,Wn,giveErr]
      by_cases c1:(q:Int)=(p:Int) <;> by_cases c2:Qi w q=Qi w p <;> by_cases c3:Yb w k=X8 p <;> by_cases c4:Y3 w (X8 q)<1 <;> simp [-List.getD_eq_getElem?_getD,-List.length_eq_zero_iff,Zq,Zl,Zu,Zo,Z9,Z8,Xx,c1,c2,c3,c4]
    · simp [-List.getD_eq_getElem?_getD,-List.length_eq_zero_iff,Zq,Zl,Zu,Zo,Z9,Z8,Xx,Zd (Wm w k),(Wm w k).prop,Zd (Vh w q),(Vh w q).prop,hk,hq,Wn,giveErr]
  · simp [-List.getD_eq_getElem?_getD,-List.length_eq_zero_iff,Zq,Zl,Zu,Zo,Z9,Z8,Xx,Zd (Wm w k),(Wm w k).prop,hk,Wn,giveErr]
end Go.Proofs.YtmemggdjnfccfaaGreatDoor.Ghost
namespace Go.Proofs.YtmemggdjnfccfaaGreatDoor.Ghost
open Go
abbrev iAt (l:List Int) (j:Nat):Int:=List.getD l j 0
def Bad (w:den Zb) (l:List Int):Prop:=∃ j,j<l.length∧¬ inR w (iAt l j)
def Lj (w:den Zb) (l:List Int) (p:Int):Prop:=∃ j,j<l.length∧¬ Yb w (iAt l j).toNat=((1:Int),p,())
def Dup (l:List Int):Prop:=∃ i j,i<j∧j<l.length∧iAt l i=iAt l j
theorem ANk (w:den Zb) (l:List Int) (hl:l.length≤1048576) (t4:Int):∀ i,i≤l.length→Ze (fun nf fm0 _ _=>Zj.l0 nf fm0 (l) (w) t4 ((l.length:Int)) ((i:Int))) (fun r=>0≤r.1.1↔∃ j,i≤j∧j<l.length∧¬ inR w (iAt l j)):=by
  refine upto ?_ (fun i hi next => ?_)
  · refine Ze.succ1 (fun nf fm0 _ _=>Zj.l0_eq nf fm0 _ _ _ _ _) ?_
    simp [-List.getD_eq_getElem?_getD,-List.length_eq_zero_iff,Zq,Zl,Zu,Zo,Z9,Z8,Xx]
    exact fun j h1 h2=>by omega
  · have sp:∀ k,Ze (fun nf _ _ _=>Qf nf (k) (w)) (fun r=>r=((dec (¬ inR w k),()),[])):=fun k=>by
      refine Ze.succ (fun nf _ _ _=>Qf.eq nf _ _) ?_
      simp [-List.getD_eq_getElem?_getD,-List.length_eq_zero_iff,Zq,Zl,Zu,Zo,Z9,Z8,Xx,Zd (Wm w k),(Wm w k).prop]
    refine Ze.succ1 (fun nf fm0 _ _=>Zj.l0_eq nf fm0 _ _ _ _ _) ?_
    rw [← Xv (by omega)] at next
    by_cases h:inR w (iAt l i)
    · have next:=next.mono (Q':=fun r=>0≤r.1.1↔∃ j,i≤j∧j<l.length∧¬ inR w (iAt l j)) (fun v hv=>hv.trans ⟨fun ⟨j,a,b,c⟩=>⟨j,by omega,b,c⟩,fun ⟨j,a,b,c⟩=>⟨j,by
        by_cases e:j=i
        · subst e; exact absurd h c
        · omega,b,c⟩⟩)
      simp [-List.getD_eq_getElem?_getD,-List.length_eq_zero_iff,Zq,Zl,Zu,Zo,Z9,Z8,Xx,hi,Zd (sp _),(sp _).prop,h]
      exact next
    · simp [-List.getD_eq_getElem?_getD,-List.length_eq_zero_iff,Zq,Zl,Zu,Zo,Z9,Z8,Xx,hi,Zd (sp _),(sp _).prop,h]
      exact ⟨i,Nat.le_refl i,hi,h⟩
theorem Ih (w:den Zb) (l:List Int) (hl:l.length≤1048576):Ze (fun nf _ _ _=>Xe nf (l) (w)) (fun r=>r.1.1=true↔Bad w l):=by
  have h:Ze (fun nf _ _ _=>Zj nf (l) (w)) (fun r=>0≤r.1.1↔Bad w l):=by
    refine Ze.succ (fun nf _ _ _=>Zj.eq nf _ _) ?_
    exact (ANk w l hl _ 0 (Nat.zero_le _)).enter.mono (fun v hv=>hv.trans ⟨fun ⟨j,_,b,c⟩=>⟨j,b,c⟩,fun ⟨j,b,c⟩=>⟨j,Nat.zero_le _,b,c⟩⟩)
  refine Ze.succ (fun nf _ _ _=>Xe.eq nf _ _) ?_
  simp [Zd (h),(h).prop]
theorem AKc (w:den Zb) (l:List Int) (hl:l.length≤1048576) (hb:¬ Bad w l) (p:Int) (t4:Int):∀ i,i≤l.length→Ze (fun nf fm0 _ _=>Zv.l0 nf fm0 (l) (w) (p) t4 ((l.length:Int)) ((i:Int))) (fun r=>0≤r.1.1↔∃ j,i≤j∧j<l.length∧¬ Yb w (iAt l j).toNat=((1:Int),p,())):=by
  refine upto ?_ (fun i hi next => ?_)
  · refine Ze.succ1 (fun nf fm0 _ _=>Zv.l0_eq nf fm0 _ _ _ _ _ _) ?_
    simp [-List.getD_eq_getElem?_getD,-List.length_eq_zero_iff,Zq,Zl,Zu,Zo,Z9,Z8,Xx]
    exact fun j h1 h2=>by omega
  · have hin:inR w (iAt l i):=Classical.byContradiction (fun h=>hb ⟨i,hi,h⟩)
    obtain ⟨k,ek,hk⟩:=J3 hin
    have sp:Ze (fun nf _ _ _=>Yt nf ((k:Int)) (w) (p)) (fun r=>r=((dec (¬ Yb w k=((1:Int),p,())),()),[])):=by
      refine Ze.succ (fun nf _ _ _=>Yt.eq nf _ _ _) ?_
      simp [-List.getD_eq_getElem?_getD,-List.length_eq_zero_iff,Zq,Zl,Zu,Zo,Z9,Z8,Xx,hk,Zd (K3 p),(K3 p).prop]
    refine Ze.succ1 (fun nf fm0 _ _=>Zv.l0_eq nf fm0 _ _ _ _ _ _) ?_
    rw [← Xv (by omega)] at next
    by_cases h:Yb w (iAt l i).toNat=((1:Int),p,())
    · have next:=next.mono (Q':=fun r=>0≤r.1.1↔∃ j,i≤j∧j<l.length∧¬ Yb w (iAt l j).toNat=((1:Int),p,())) (fun v hv=>hv.trans ⟨fun ⟨j,a,b,c⟩=>⟨j,by omega,b,c⟩,fun ⟨j,a,b,c⟩=>⟨j,by
        by_cases e:j=i
        · subst e; exact absurd h c
        · omega,b,c⟩⟩)
      rw [ek,Int.toNat_natCast] at h
      simp [-List.getD_eq_getElem?_getD,-List.length_eq_zero_iff,Zq,Zl,Zu,Zo,Z9,Z8,Xx,hi,ek,Zd (sp),(sp).prop,h]
      exact next
    · have h':=h
      rw [ek,Int.toNat_natCast] at h'
      simp [-List.getD_eq_getElem?_getD,-List.length_eq_zero_iff,Zq,Zl,Zu,Zo,Z9,Z8,Xx,hi,ek,Zd (sp),(sp).prop,h']
      exact ⟨i,Nat.le_refl i,hi,h⟩
theorem Mk (w:den Zb) (l:List Int) (hl:l.length≤1048576) (hb:¬ Bad w l) (p:Int):Ze (fun nf _ _ _=>Y6 nf (l) (p) (w)) (fun r=>r.1.1=true↔Lj w l p):=by
  have h:Ze (fun nf _ _ _=>Zv nf (l) (w) (p)) (fun r=>0≤r.1.1↔Lj w l p):=by
    refine Ze.succ (fun nf _ _ _=>Zv.eq nf _ _ _) ?_
    exact (AKc w l hl hb p _ 0 (Nat.zero_le _)).enter.mono (fun v hv=>hv.trans ⟨fun ⟨j,_,b,c⟩=>⟨j,b,c⟩,fun ⟨j,b,c⟩=>⟨j,Nat.zero_le _,b,c⟩⟩)
  have h2:Ze (fun nf _ _ _=>X2 nf (l) (w) (p)) (fun r=>r.1.1=true↔Lj w l p):=by
    refine Ze.succ (fun nf _ _ _=>X2.eq nf _ _ _) ?_
    simp [Zd (h),(h).prop]
  refine Ze.succ (fun nf _ _ _=>Y6.eq nf _ _ _) ?_
  simp [Zd (h2),(h2).bprop]
theorem N2 (k k':Int) (v:Bool):(m:List (Int×Bool))→Yy (.int .i64) .bool k' (Hy (.int .i64) .bool k v m)=if k'=k then some v else Yy (.int .i64) .bool k' m
  | []=>by
    simp only [Hy,Yy,eqT]
    by_cases h:k'=k <;> simp [h]
  | (a,b) :: r=>by
    have ih:=N2 k k' v r
    simp only [Hy,Yy,eqT]
    by_cases h1:k=a
    · subst h1
      simp only [beq_self_eq_true,if_true,Yy,eqT]
      by_cases h:k'=k <;> simp [h]
    · have h1':(k == a)=false:=by simpa using h1
      simp only [h1',Bool.false_eq_true,if_false,Yy,eqT,ih]
      by_cases h2:k'=a
      · subst h2
        have:¬ k'=k:=fun e=>h1 e.symm
        simp [this]
      · have h2':(k' == a)=false:=by simpa using h2
        simp [h2']
theorem AOn (l:List Int) (hl:l.length≤1048576) (t0:(List Int)) (t2:Bool):∀ i,i≤l.length→∀ m:List (Int×Bool),(∀ k,Yy (.int .i64) .bool k m=some true∨Yy (.int .i64) .bool k m=none)→(∀ k,Yy (.int .i64) .bool k m=some true↔∃ i',i'<i∧iAt l i'=k) →
    Ze (fun nf fm0 _ _=>Xu.l0 nf fm0 t0 t2 (l) ((l.length:Int)) ((i:Int)) (m)) (fun r=>r.1.1=true↔∃ i' j,i'<j∧i≤j∧j<l.length∧iAt l i'=iAt l j):=by
  refine upto (fun m hm0 hm => ?_) (fun i hi next m hm0 hm => ?_)
  · refine Ze.succ1 (fun nf fm0 _ _=>Xu.l0_eq nf fm0 _ _ _ _ _ _) ?_
    simp [-List.getD_eq_getElem?_getD,-List.length_eq_zero_iff,Zq,Zl,Zu,Zo,Z9,Z8,Xx]
    exact fun _ j _ h1 h2=>by omega
  · refine Ze.succ1 (fun nf fm0 _ _=>Xu.l0_eq nf fm0 _ _ _ _ _ _) ?_
    by_cases h:∃ i',i'<i∧iAt l i'=iAt l i
    · have hf:=(hm (iAt l i)).2 h
      simp [-List.getD_eq_getElem?_getD,-List.length_eq_zero_iff,Zq,Zl,Zu,Zo,Z9,Z8,Xx,hi,hf]
      obtain ⟨i',h1,h2⟩:=h
      exact ⟨i',i,h1,Nat.le_refl i,hi,h2⟩
    · have hf:Yy (.int .i64) .bool (iAt l i) m=none:=(hm0 _).resolve_left (fun e=>h ((hm _).1 e))
      have next:=next (Hy (.int .i64) .bool (iAt l i) true m) (fun k=>by
        rw [N2]
        split
        · exact .inl rfl
        · exact hm0 k) (fun k=>by
        rw [N2]
        by_cases e:k=iAt l i
        · rw [if_pos e]; exact ⟨fun _=>⟨i,by omega,e.symm⟩,fun _=>rfl⟩
        · rw [if_neg e,hm k]
          exact ⟨fun ⟨j,a,b⟩=>⟨j,by omega,b⟩,fun ⟨j,a,b⟩=>⟨j,by
            by_cases e2:j=i
            · subst e2; exact absurd b.symm e
            · omega,b⟩⟩)
      rw [← Xv (by omega)] at next
      have next:=next.mono (Q':=fun r=>r.1.1=true↔∃ i' j,i'<j∧i≤j∧j<l.length∧iAt l i'=iAt l j) (fun v hv=>hv.trans ⟨fun ⟨i',j,a,b,c,d⟩=>⟨i',j,a,by omega,c,d⟩,fun ⟨i',j,a,b,c,d⟩=>⟨i',j,a,by
        by_cases e:j=i
        · subst e; exact absurd ⟨i',a,d⟩ h
        · omega,c,d⟩⟩)
      simp [-List.getD_eq_getElem?_getD,-List.length_eq_zero_iff,Zq,Zl,Zu,Zo,Z9,Z8,Xx,hi,hf]
      exact next
theorem AAi (l:List Int) (hl:l.length≤1048576):Ze (fun nf _ _ _=>Xu nf (l)) (fun r=>r.1.1=true↔Dup l):=by
  refine Ze.succ (fun nf _ _ _=>Xu.eq nf _) ?_
  exact (AOn l hl l false 0 (Nat.zero_le _) [] (fun k=>.inr rfl) (fun k=>⟨fun h=>(by cases h),fun ⟨i,h,_⟩=>by omega⟩)).enter.mono (fun v hv=>hv.trans ⟨fun ⟨i,j,a,_,c,d⟩=>⟨i,j,a,c,d⟩,fun ⟨i,j,a,c,d⟩=>⟨i,j,a,Nat.zero_le _,c,d⟩⟩)
end Go.Proofs.YtmemggdjnfccfaaGreatDoor.Ghost
namespace Go.Proofs.YtmemggdjnfccfaaGreatDoor.Ghost
open Go
def H6 (x:Int):Prop:=0≤x∧x≤1073741824
open Classical in
noncomputable def swapErr (a b pay fee:Int):Int:=if a<pay∨b<fee then 10 else if H6 (a - pay+fee)∧H6 (b - fee+pay) then 0 else 11
noncomputable def AGl (a b pay fee:Int):Int×Int×Int×Unit:=if swapErr a b pay fee=0 then (a - pay+fee,b - fee+pay,0,()) else (a,b,swapErr a b pay fee,())
theorem Dj (a:Int):Ze (fun nf _ _ _=>Gi nf (a)) (fun r=>r=((dec (H6 a),()),[])):=by
  refine Ze.succ (fun nf _ _ _=>Gi.eq nf _) ?_
  by_cases h:0≤a <;> simp [h,H6,G7]
theorem ACf {a b pay fee:Int} (ha:H6 a) (hb:H6 b) (hp:H6 pay) (hf:H6 fee):Ze (fun nf _ _ _=>Kp nf (a) (b) (pay) (fee)) (fun r=>r.1=AGl a b pay fee):=by
  obtain ⟨a1,a2⟩:=ha; obtain ⟨b1,b2⟩:=hb; obtain ⟨p1,p2⟩:=hp; obtain ⟨f1,f2⟩:=hf
  have e1:IntKind.wrap .i64 (a - pay)=a - pay:=K6 (by omega) (by omega)
  have e2:IntKind.wrap .i64 (b - fee)=b - fee:=K6 (by omega) (by omega)
  have e3:IntKind.wrap .i64 (a - pay+fee)=a - pay+fee:=K6 (by omega) (by omega)
  have e4:IntKind.wrap .i64 (b - fee+pay)=b - fee+pay:=K6 (by omega) (by omega)
  refine Ze.succ (fun nf _ _ _=>Kp.eq nf _ _ _ _) ?_
  simp [-List.getD_eq_getElem?_getD,-List.length_eq_zero_iff,Zq,Zl,Zu,Zo,Z9,Z8,Xx,show ¬ pay<0 by omega,show ¬ fee<0 by omega,e1,e2,e3,e4,Zd (Dj _),(Dj _).prop,AGl,swapErr]
  by_cases c1:a<pay <;> by_cases c2:b<fee <;> by_cases c3:H6 (a - pay+fee) <;> by_cases c4:H6 (b - fee+pay) <;> simp [c1,c2,c3,c4]
theorem AK0 (a b pay fee:Int):(AGl a b pay fee).2.2.1=swapErr a b pay fee:=by
  unfold AGl
  split
  · rename_i h; exact h.symm
  · rfl
def Kd (l:List Pl) (xs:List Int) (p:Pl):Nat→List Pl
  | 0=>l
  | i+1=>List.set (Kd l xs p i) (iAt xs i).toNat p
theorem Vf (l:List Pl) (xs:List Int) (p:Pl):(i:Nat)→(Kd l xs p i).length=l.length
  | 0=>rfl
  | i+1=>by simp only [Kd,List.length_set,Vf l xs p i]
abbrev meI (q:Int):Pl:=((1:Int),q,())
def Hn (w:den Zb) (p:Nat) (q:Int) (gs ws:List Int):List Pl:=Kd (Kd w.2.2.2.1 gs (meI q) gs.length) ws (X8 p) ws.length
def Ia (w:den Zb) (p:Nat) (q:Int) (gs ws:List Int) (a b:Int):den Zb:=(w.1,w.2.1,List.set (List.set (w.2.2.1:List Int) p a) q.toNat b,Hn w p q gs ws,())
open Classical in
noncomputable def tradeErr (w:den Zb) (p:Nat) (q:Int) (gs:List Int) (pay:Int) (ws:List Int) (fee:Int):Int :=
  if ¬ inQ w q then 3 else if Bad w (gs ++ ws) then 3 else if q=(p:Int) then 12 else if ¬ Qi w q.toNat=Qi w p then 5 else if Dup (gs ++ ws) then 13 else if Lj w gs p then 5 else if Lj w ws q then 5
  else if Y3 w (X8 p)<(ws.length:Int) - (gs.length:Int) then 9 else if Y3 w (meI q)<(gs.length:Int) - (ws.length:Int) then 9 else swapErr (Yv w p) (Yv w q.toNat) pay fee
noncomputable def V6 (w:den Zb) (p:Nat) (q:Int) (gs:List Int) (pay:Int) (ws:List Int) (fee:Int):den Zb×Int×Unit :=
  if tradeErr w p q gs pay ws fee=0 then (Ia w p q gs ws (Yv w p - pay+fee) (Yv w q.toNat - fee+pay),0,()) else (w,tradeErr w p q gs pay ws fee,())
theorem AOm {N:Nat} (p:Nat) (ws:List Int) (hws:ws.length≤1048576) (base:List Pl) (hb:base.length=N) (hin:∀ j,j<ws.length→0≤iAt ws j∧iAt ws j<(N:Int)) (t0:(den Zb)) (t2:(den Z2)) (t7:Int) (t8:Int) (t9:(List Int)) (t11:Int) (t12:Int) (t13:Int) (t14:Int) (t135:(List Int)) (t136:Int) (t137:Int) (o0:(den Zb)) (o1:(den Z2)) (o2:(den Zb)) (o3:(List (List Int))) (o4:(den Zb)) (o5:(List Int)) :
    ∀ i,i≤ws.length→Ze (fun nf fm0 _ _=>Z6.l1 nf fm0 t0 ((p:Int)) t2 t7 t8 t9 t11 t12 t13 t14 t135 t136 t137 (ws) ((ws.length:Int)) ((i:Int)) o0 o1 o2 o3 o4 o5 (Kd base ws (X8 p) i)) (fun r=>r=(((o4.1,o4.2.1,o5,Kd base ws (X8 p) ws.length,()),0,()),[(0,[2]),(0,[3])])):=by
  refine upto ?_ (fun i hi next => ?_)
  · refine Ze.succ1 (fun nf fm0 _ _=>Z6.l1_eq nf fm0 _ _ _ _ _ _ _ _ _ _ _ _ _ _ _ _ _ _ _ _ _ _ _) ?_
    simp [-List.getD_eq_getElem?_getD,-List.length_eq_zero_iff,Zq,Zl,Zu,Zo,Z9,Z8,Xx]
  · refine Ze.succ1 (fun nf fm0 _ _=>Z6.l1_eq nf fm0 _ _ _ _ _ _ _ _ _ _ _ _ _ _ _ _ _ _ _ _ _ _ _) ?_
    rw [← Xv (by omega)] at next
    have hl:=Vf base ws (X8 p) i
    have h:=hin i hi
    simp [-List.getD_eq_getElem?_getD,-List.length_eq_zero_iff,Zq,Zl,Zu,Zo,Z9,Z8,Xx,hi,Zd (K3 _),(K3 _).prop,hl,hb,h]
    exact next
theorem AOl {N:Nat} (p:Nat) (q:Int) (c:Cm) (hws:(Xl c).length≤1048576) (hgs:(Xj c).length≤1048576) (base:List Pl) (hb:base.length=N) (hin:∀ j,j<(Xl c).length→0≤iAt (Xl c) j∧iAt (Xl c) j<(N:Int)) (hin':∀ j,j<(Xj c).length→0≤iAt (Xj c) j∧iAt (Xj c) j<(N:Int)) (t0:(den Zb)) (t2:(den Z2)) (t7:Int) (t9:(List Int)) (t11:Int) (t12:Int) (t13:Int) (t14:Int) (o0:(den Zb)) (o2:(den Zb)) (o3:(List (List Int))) (o4:(den Zb)) (o5:(List Int)) :
    ∀ i,i≤(Xj c).length→Ze (fun nf fm0 _ _=>Z6.l0 nf fm0 t0 ((p:Int)) t2 t7 (q) t9 t11 t12 t13 t14 (Xj c) (((Xj c).length:Int)) ((i:Int)) o0 (c) o2 o3 o4 o5 (Kd base (Xj c) (meI q) i)) (fun r=>r=(((o4.1,o4.2.1,o5,Kd (Kd base (Xj c) (meI q) (Xj c).length) (Xl c) (X8 p) (Xl c).length,()),0,()),[(0,[2]),(0,[3])])):=by
  refine upto ?_ (fun i hi next => ?_)
  · refine Ze.succ1 (fun nf fm0 _ _=>Z6.l0_eq nf fm0 _ _ _ _ _ _ _ _ _ _ _ _ _ _ _ _ _ _ _ _) ?_
    simp [-List.getD_eq_getElem?_getD,-List.length_eq_zero_iff,Zq,Zl,Zu,Zo,Z9,Z8,Xx]
    exact (AOm p (Xl c) hws _ (by rw [Vf]; exact hb) hin _ _ _ _ _ _ _ _ _ _ _ _ _ _ _ _ _ _ 0 (Nat.zero_le _)).enter
  · refine Ze.succ1 (fun nf fm0 _ _=>Z6.l0_eq nf fm0 _ _ _ _ _ _ _ _ _ _ _ _ _ _ _ _ _ _ _ _) ?_
    rw [← Xv (by omega)] at next
    have hl:=Vf base (Xj c) (meI q) i
    have h:=hin' i hi
    simp [-List.getD_eq_getElem?_getD,-List.length_eq_zero_iff,Zq,Zl,Zu,Zo,Z9,Z8,Xx,hi,Zd (K3 _),(K3 _).prop,hl,hb,h]
    exact next
theorem Rn {w:den Zb} {l:List Int} (h:¬ Bad w l):∀ j,j<l.length→inR w (iAt l j):=fun j hj=>Classical.byContradiction (fun hn=>h ⟨j,hj,hn⟩)
theorem Ny {a b:List Int} {j:Nat} (h:j<a.length):iAt (a ++ b) j=iAt a j:=by
  unfold iAt; rw [List.getD_eq_getElem?_getD,List.getD_eq_getElem?_getD,List.getElem?_append_left h]
theorem Pt {a b:List Int} (j:Nat):iAt (a ++ b) (a.length+j)=iAt b j:=by
  unfold iAt; rw [List.getD_eq_getElem?_getD,List.getD_eq_getElem?_getD,List.getElem?_append_right (by omega),Nat.add_sub_cancel_left]
theorem AIc {w:den Zb} {a b:List Int} (h:¬ Bad w (a ++ b)):¬ Bad w a∧¬ Bad w b :=
  ⟨fun ⟨j,h1,h2⟩=>h ⟨j,by rw [List.length_append]; omega,by rw [Ny h1]; exact h2⟩,fun ⟨j,h1,h2⟩=>h ⟨a.length+j,by rw [List.length_append]; omega,by rw [Pt]; exact h2⟩⟩
theorem Ip {w:den Zb} (h:X9 w) {i:Nat} (hi:i<List.length (w.2.1:List Int)):H6 (Yv w i):=(h.at_ i hi).2
theorem Ud (a b:List Int) (ha:a.length≤524288) (hb:b.length≤524288):Ze (fun nf _ _ _=>V4 nf [a,b]) (fun r=>r=((a ++ b,()),[(0,[])])) :=
  Ze.succ (G:=fun _ _ _ _=>some ((a ++ b,()),[(0,[])])) (fun n _ _ _=>by
    show (if List.length a≤524288∧List.length b≤524288 then _ else none)=_
    rw [if_pos ⟨ha,hb⟩]) (Ze.ret rfl)
theorem AH7 {w:den Zb} (ok:Ok w) {p:Nat} (hp:p<List.length (w.2.1:List Int)) (c:Cm) (hg:(Xj c).length≤100) (hw:(Xl c).length≤100) (hpay:H6 (G6 c)) (hfee:H6 (G5 c)) :
    Ze (fun nf _ _ _=>Z6 nf (w) ((p:Int)) (c)) (fun r=>r=(V6 w p (Jz c) (Xj c) (G6 c) (Xl c) (G5 c),if tradeErr w p (Jz c) (Xj c) (G6 c) (Xl c) (G5 c)=0 then [(0,[2]),(0,[3])] else [])):=by
  have hlen:(Xj c ++ Xl c).length≤1048576:=by rw [List.length_append]; omega
  refine Ze.succ (fun nf _ _ _=>Z6.eq nf _ _ _) ?_
  by_cases c1:inQ w (Jz c)
  · by_cases c2:Bad w (Xj c ++ Xl c)
    · simp [-List.getD_eq_getElem?_getD,-List.length_eq_zero_iff,Zq,Zl,Zu,Zo,Z9,Z8,Xx,Zd (Ud (Xj c) (Xl c) (by omega) (by omega)),(Ud (Xj c) (Xl c) (by omega) (by omega)).prop,Zd (Vh w _),(Vh w _).prop,Zd (Ih w (Xj c ++ Xl c) hlen),(Ih w (Xj c ++ Xl c) hlen).bprop,c1,c2,V6,tradeErr]
    · obtain ⟨q,eq,hq⟩:=I7 c1
      have hin:=Rn c2
      obtain ⟨bg,bw⟩:=AIc c2
      have hc1:=ok.right.c1
      have ha1:=ok.right.a1
      have hpc:p<List.length (w.2.2.1:List Int):=by omega
      have hqc:q<List.length (w.2.2.1:List Int):=by omega
      have e1:IntKind.wrap .i64 (((Xl c).length:Int) - ((Xj c).length:Int))=((Xl c).length:Int) - ((Xj c).length:Int):=K6 (by omega) (by omega)
      have e2:IntKind.wrap .i64 (-(((Xl c).length:Int) - ((Xj c).length:Int)))=((Xj c).length:Int) - ((Xl c).length:Int):=by rw [K6 (by omega) (by omega)]; omega
      simp only [eq]
      simp [-List.getD_eq_getElem?_getD,-List.length_eq_zero_iff,Zq,Zl,Zu,Zo,Z9,Z8,Xx,Zd (Ud (Xj c) (Xl c) (by omega) (by omega)),(Ud (Xj c) (Xl c) (by omega) (by omega)).prop,Zd (Vh w _),(Vh w _).prop,Zd (Ih w (Xj c ++ Xl c) hlen),(Ih w (Xj c ++ Xl c) hlen).bprop,c2,hq,hp,show inQ w (q:Int) from eq ▸ c1,Zd (AAi (Xj c ++ Xl c) hlen),(AAi (Xj c ++ Xl c) hlen).bprop,Zd (Mk w (Xj c) (by omega) bg (p:Int)),(Mk w (Xj c) (by omega) bg (p:Int)).bprop,Zd (Mk w (Xl c) (by omega) bw (q:Int)),(Mk w (Xl c) (by omega) bw (q:Int)).bprop,Zd (K3 _),(K3 _).prop,Zd (Qq w ok (X8 p) (Uf p)),(Qq w ok (X8 p) (Uf p)).prop,Zd (Qq w ok (X8 q) (Uf q)),(Qq w ok (X8 q) (Uf q)).prop,e1,e2,hpc,hqc,Zd (ACf (Ip ok.right hp) (Ip ok.right hq) hpay hfee),(ACf (Ip ok.right hp) (Ip ok.right hq) hpay hfee).prop,AK0]
      by_cases c3:(q:Int)=(p:Int)
      · simp [-List.getD_eq_getElem?_getD,-List.length_eq_zero_iff,Zq,Zl,Zu,Zo,Z9,Z8,Xx,c3,c2,V6,tradeErr,show inQ w (p:Int) from c3 ▸ eq ▸ c1]
      by_cases c4:Qi w q=Qi w p
      rotate_left
      · simp [-List.getD_eq_getElem?_getD,-List.length_eq_zero_iff,Zq,Zl,Zu,Zo,Z9,Z8,Xx,c3,c4,c2,V6,tradeErr,show inQ w (q:Int) from eq ▸ c1]
      by_cases c5:Dup (Xj c ++ Xl c)
      · simp [-List.getD_eq_getElem?_getD,-List.length_eq_zero_iff,Zq,Zl,Zu,Zo,Z9,Z8,Xx,c3,c4,c5,c2,V6,tradeErr,show inQ w (q:Int) from eq ▸ c1]
      by_cases c6:Lj w (Xj c) (p:Int)
      · simp [-List.getD_eq_getElem?_getD,-List.length_eq_zero_iff,Zq,Zl,Zu,Zo,Z9,Z8,Xx,c3,c4,c5,c6,c2,V6,tradeErr,show inQ w (q:Int) from eq ▸ c1]
      by_cases c7:Lj w (Xl c) (q:Int)
      · simp [-List.getD_eq_getElem?_getD,-List.length_eq_zero_iff,Zq,Zl,Zu,Zo,Z9,Z8,Xx,c3,c4,c5,c6,c7,c2,V6,tradeErr,show inQ w (q:Int) from eq ▸ c1]
      by_cases c8:Y3 w (X8 p)<((Xl c).length:Int) - ((Xj c).length:Int)
      · simp [-List.getD_eq_getElem?_getD,-List.length_eq_zero_iff,Zq,Zl,Zu,Zo,Z9,Z8,Xx,c3,c4,c5,c6,c7,c8,c2,V6,tradeErr,show inQ w (q:Int) from eq ▸ c1]
        intro h; omega
      by_cases c9:Y3 w (X8 q)<((Xj c).length:Int) - ((Xl c).length:Int)
      · simp [-List.getD_eq_getElem?_getD,-List.length_eq_zero_iff,Zq,Zl,Zu,Zo,Z9,Z8,Xx,c3,c4,c5,c6,c7,c8,c9,c2,V6,tradeErr,show inQ w (q:Int) from eq ▸ c1]
        intro h; omega
      by_cases ca:swapErr (Yv w p) (Yv w q) (G6 c) (G5 c)=0
      rotate_left
      · simp [-List.getD_eq_getElem?_getD,-List.length_eq_zero_iff,Zq,Zl,Zu,Zo,Z9,Z8,Xx,c3,c4,c5,c6,c7,c8,c9,ca,c2,V6,tradeErr,show inQ w (q:Int) from eq ▸ c1]
      simp [-List.getD_eq_getElem?_getD,-List.length_eq_zero_iff,Zq,Zl,Zu,Zo,Z9,Z8,Xx,c3,c4,c5,c6,c7,c8,c9,ca,c2,V6,tradeErr,show inQ w (q:Int) from eq ▸ c1,Zd (Mp w ok.sm),(Mp w ok.sm).prop,hpc,hqc,AGl]
      intro _ _
      exact (AOl (N:=List.length (w.2.2.2.1:List (den Za))) p (q:Int) c (by omega) (by omega) w.2.2.2.1 rfl (Rn bw) (Rn bg) _ _ _ _ _ _ _ _ _ _ _ _ _ 0 (Nat.zero_le _)).enter
  · simp [-List.getD_eq_getElem?_getD,-List.length_eq_zero_iff,Zq,Zl,Zu,Zo,Z9,Z8,Xx,Zd (Ud (Xj c) (Xl c) (by omega) (by omega)),(Ud (Xj c) (Xl c) (by omega) (by omega)).prop,Zd (Vh w _),(Vh w _).prop,c1,V6,tradeErr]
end Go.Proofs.YtmemggdjnfccfaaGreatDoor.Ghost
namespace Go.Proofs.YtmemggdjnfccfaaGreatDoor.Ghost
open Go
section
variable {w:den Zb} (ok:Ok w) {p q:Nat} (hp:p<List.length (w.2.1:List Int)) (hq:q<List.length (w.2.1:List Int)) (c:Cm) (hg:(Xj c).length≤100) (hw:(Xl c).length≤100) (hpay:H6 (G6 c)) (hfee:H6 (G5 c)) (hbad:¬ Bad w (Xj c ++ Xl c))
include ok hp hq hg hw hpay hfee hbad
abbrev ASx (w:den Zb) (p q:Nat) (c:Cm):den Zb:=Ia w p q (Xj c) (Xl c) (Yv w p - G6 c+G5 c) (Yv w q - G5 c+G6 c)
open Classical in
noncomputable def lastR (w:den Zb) (p q:Nat) (c:Cm) (rp rq:Int):den Zb×Int×Unit :=
  if rp<0 then (w,9,()) else if rq<0 then (w,9,()) else if swapErr (Yv w p) (Yv w q) (G6 c) (G5 c)=0 then (ASx w p q c,0,()) else (w,swapErr (Yv w p) (Yv w q) (G6 c) (G5 c),())
end
end Go.Proofs.YtmemggdjnfccfaaGreatDoor.Ghost
namespace Go.Proofs.YtmemggdjnfccfaaGreatDoor.Ghost
open Go
open Classical in
theorem setAll_get {l:List Pl} {xs:List Int} {p:Pl}:{n:Nat}→(∀ j,j<n→0≤iAt xs j∧iAt xs j<(l.length:Int))→(k:Nat)→List.getD (Kd l xs p n) k (dft Za)=if ∃ i,i<n∧iAt xs i=(k:Int) then p else List.getD l k (dft Za)
  | 0,_,k=>by rw [if_neg (fun ⟨i,h,_⟩=>by omega)]; rfl
  | n+1,hin,k=>by
    have ih:=setAll_get (l:=l) (xs:=xs) (p:=p) (n:=n) (fun j hj=>hin j (by omega)) k
    have h:=hin n (by omega)
    simp only [Kd]
    rw [H8 _ _ _ _ _ (by rw [Vf]; omega)]
    by_cases e:k=(iAt xs n).toNat
    · rw [if_pos e,if_pos ⟨n,by omega,by omega⟩]
    · rw [if_neg e,ih]
      by_cases h2:∃ i,i<n∧iAt xs i=(k:Int)
      · obtain ⟨i,a,b⟩:=h2
        rw [if_pos ⟨i,a,b⟩,if_pos ⟨i,by omega,b⟩]
      · rw [if_neg h2,if_neg (fun ⟨i,a,b⟩=>h2 ⟨i,by
          by_cases e2:i=n
          · subst e2; omega
          · omega,b⟩)]
structure Lot (l:List Pl) (xs:List Int) (src:Pl):Prop where
  inn:∀ j,j<xs.length→0≤iAt xs j∧iAt xs j<(l.length:Int)
  at_:∀ j,j<xs.length→List.getD l (iAt xs j).toNat (dft Za)=src
  one:∀ i j,i<j→j<xs.length→¬ iAt xs i=iAt xs j
theorem Lot.get {l:List Pl} {xs:List Int} {src p:Pl} (h:Lot l xs src) {n:Nat} (hn:n<xs.length):List.getD (Kd l xs p n) (iAt xs n).toNat (dft Za)=src:=by
  have hi:=h.inn n hn
  rw [setAll_get (fun j hj=>h.inn j (by omega)),if_neg (fun ⟨i,a,b⟩=>h.one i n a hn (by omega))]
  exact h.at_ n hn
theorem Lot.many {l:List Pl} {xs:List Int} {src p:Pl} (h:Lot l xs src) (t:Pl):{n:Nat}→n≤xs.length→Yx (Kd l xs p n) t l.length+(if src=t then n else 0)=Yx l t l.length+(if p=t then n else 0)
  | 0,_=>by simp [Kd]
  | n+1,hn=>by
    have ih:=Lot.many h (p:=p) t (n:=n) (by omega)
    have hi:=h.inn n (by omega)
    have hk:(iAt xs n).toNat<(Kd l xs p n).length:=by rw [Vf]; omega
    have:=T7 (Kd l xs p n) (iAt xs n).toNat p t hk l.length
    rw [h.get (by omega)] at this
    have hk':(iAt xs n).toNat<l.length:=by omega
    simp only [hk',true_and] at this
    simp only [Kd]
    by_cases c1:src=t <;> by_cases c2:p=t <;> simp only [c1,c2,if_true,if_false] at this ih ⊢ <;> omega
structure AJg (w:den Zb) (p q:Nat) (gs ws:List Int):Prop where
  pq:¬ p=q
  lg:Lot w.2.2.2.1 gs (X8 p)
  lw:Lot (Kd w.2.2.2.1 gs (X8 q) gs.length) ws (X8 q)
  lw0:Lot w.2.2.2.1 ws (X8 q)
  gw:∀ i j,i<gs.length→j<ws.length→¬ iAt gs i=iAt ws j
theorem AN1 {p q:Nat} (h:X8 p=X8 q):p=q:=Int.ofNat.inj (congrArg (fun x:Pl=>(x.2.1:Int)) h)
theorem ASj {w:den Zb} {p q:Nat} {gs ws:List Int} (hpq:¬ p=q) (hb:¬ Bad w (gs ++ ws)) (hd:¬ Dup (gs ++ ws)) (hg:¬ Lj w gs p) (hw:¬ Lj w ws q):AJg w p q gs ws:=by
  obtain ⟨bg,bw⟩:=AIc hb
  have hgw:∀ i j,i<gs.length→j<ws.length→¬ iAt gs i=iAt ws j:=fun i j hi hj e=>hd ⟨i,gs.length+j,by omega,by rw [List.length_append]; omega,by rw [Ny hi,Pt]; exact e⟩
  have ag:∀ j,j<gs.length→List.getD (w.2.2.2.1:List Pl) (iAt gs j).toNat (dft Za)=X8 p:=fun j hj=>Classical.byContradiction (fun h=>hg ⟨j,hj,h⟩)
  have aw:∀ j,j<ws.length→List.getD (w.2.2.2.1:List Pl) (iAt ws j).toNat (dft Za)=X8 q:=fun j hj=>Classical.byContradiction (fun h=>hw ⟨j,hj,h⟩)
  have ng:∀ i j,i<j→j<gs.length→¬ iAt gs i=iAt gs j:=fun i j hi hj e=>hd ⟨i,j,hi,by rw [List.length_append]; omega,by rw [Ny (by omega),Ny hj]; exact e⟩
  have nw:∀ i j,i<j→j<ws.length→¬ iAt ws i=iAt ws j:=fun i j hi hj e=>hd ⟨gs.length+i,gs.length+j,by omega,by rw [List.length_append]; omega,by rw [Pt,Pt]; exact e⟩
  refine ⟨hpq,⟨Rn bg,ag,ng⟩,⟨fun j hj=>by rw [Vf]; exact Rn bw j hj,fun j hj => ?_,nw⟩,⟨Rn bw,aw,nw⟩,hgw⟩
  have hj':=Rn bw j hj
  rw [setAll_get (Rn bg)]
  split
  · rfl
  · exact aw j hj
theorem AJg.room {w:den Zb} {p q:Nat} {gs ws:List Int} (h:AJg w p q gs ws) (x:den Zb) (hx1:x.1=w.1) (hx:x.2.2.2.1=Hn w p q gs ws) (t:Pl):Y3 x t=Y3 w t+(if X8 p=t then (gs.length:Int) - (ws.length:Int) else 0)+(if X8 q=t then (ws.length:Int) - (gs.length:Int) else 0):=by
  have h1:Yx (Kd w.2.2.2.1 gs (X8 q) gs.length) t (List.length (w.2.2.2.1:List (den Za)))+(if X8 p=t then gs.length else 0)=Yx w.2.2.2.1 t (List.length (w.2.2.2.1:List (den Za)))+(if X8 q=t then gs.length else 0):=h.lg.many (p:=X8 q) t (Nat.le_refl _)
  have h2:=h.lw.many (p:=X8 p) t (Nat.le_refl _)
  rw [Vf] at h2
  have h2:Yx (Hn w p q gs ws) t (List.length (w.2.2.2.1:List (den Za)))+(if X8 q=t then ws.length else 0)=Yx (Kd w.2.2.2.1 gs (X8 q) gs.length) t (List.length (w.2.2.2.1:List (den Za)))+(if X8 p=t then ws.length else 0):=h2
  have hl:List.length (x.2.2.2.1:List (den Za))=List.length (w.2.2.2.1:List (den Za)):=by rw [hx]; unfold Hn; rw [Vf,Vf]
  unfold Y3
  rw [hl,hx1,hx]
  by_cases c1:X8 p=t
  · have c2:¬ X8 q=t:=fun e=>h.pq (AN1 (c1.trans e.symm))
    rw [if_pos c1,if_neg c2] at h1 h2 ⊢
    omega
  · by_cases c2:X8 q=t
    · rw [if_neg c1,if_pos c2] at h1 h2 ⊢
      omega
    · rw [if_neg c1,if_neg c2] at h1 h2 ⊢
      omega
def AOw (l:List Int) (i:Nat):Prop:=∃ a b,a<b∧i≤b∧b<l.length∧iAt l a=iAt l b
section
variable {w:den Zb} (ok:Ok w) {p q:Nat} (hp:p<List.length (w.2.1:List Int)) (hq:q<List.length (w.2.1:List Int)) (c:Cm) (hg:(Xj c).length≤100) (hw:(Xl c).length≤100) (hpay:H6 (G6 c)) (hfee:H6 (G5 c)) (hbad:¬ Bad w (Xj c ++ Xl c))
include ok hp hq hg hw hpay hfee hbad
open Classical in
noncomputable def l1R (w:den Zb) (p q:Nat) (c:Cm) (i:Nat):den Zb×Int×Unit :=
  if AOw (Xj c ++ Xl c) i then (w,13,()) else if Lj w (Xj c) p then (w,5,()) else if Lj w (Xl c) q then (w,5,())
    else lastR w p q c (Y3 (w.1,w.2.1,w.2.2.1,Hn w p q (Xj c) (Xl c),()) (X8 p)) (Y3 (w.1,w.2.1,w.2.2.1,Hn w p q (Xj c) (Xl c),()) (X8 q))
open Classical in
noncomputable def l0R (w:den Zb) (p q:Nat) (c:Cm):den Zb×Int×Unit:=if (q:Int)=(p:Int) then (w,12,()) else if ¬ Qi w q=Qi w p then (w,5,()) else l1R w p q c 0
end
end Go.Proofs.YtmemggdjnfccfaaGreatDoor.Ghost
namespace Go.Proofs.YtmemggdjnfccfaaGreatDoor.Ghost
open Go
structure AIa (w:den Zb) (p q:Nat) (gs:List Int) (pay:Int) (ws:List Int) (fee:Int):Prop where
  hq:q<List.length (w.2.1:List Int)
  bad:¬ Bad w (gs ++ ws)
  at_:Qi w q=Qi w p
  dup:¬ Dup (gs ++ ws)
  ag:¬ Lj w gs p
  aw:¬ Lj w ws q
  lots:AJg w p q gs ws
  rp:(ws.length:Int) - (gs.length:Int)≤Y3 w (X8 p)
  rq:(gs.length:Int) - (ws.length:Int)≤Y3 w (X8 q)
  sw:swapErr (Yv w p) (Yv w q) pay fee=0
theorem Lh {w:den Zb} {p:Nat} {q:Int} {gs ws:List Int} {pay fee:Int} (h10:∀ a b,swapErr a b pay fee=0∨0<swapErr a b pay fee):tradeErr w p q gs pay ws fee=0↔∃ n:Nat,q=(n:Int)∧AIa w p n gs pay ws fee:=by
  constructor
  · intro h
    unfold tradeErr at h
    by_cases c1:inQ w q
    rotate_left
    · rw [if_pos c1] at h; cases h
    rw [if_neg (fun h=>h c1)] at h
    obtain ⟨n,rfl,hn⟩:=I7 c1
    by_cases c2:Bad w (gs ++ ws)
    · rw [if_pos c2] at h; cases h
    rw [if_neg c2] at h
    by_cases c3:(n:Int)=(p:Int)
    · rw [if_pos c3] at h; cases h
    rw [if_neg c3,Int.toNat_natCast] at h
    by_cases c4:Qi w n=Qi w p
    rotate_left
    · rw [if_pos c4] at h; cases h
    rw [if_neg (fun h=>h c4)] at h
    by_cases c5:Dup (gs ++ ws)
    · rw [if_pos c5] at h; cases h
    rw [if_neg c5] at h
    by_cases c6:Lj w gs p
    · rw [if_pos c6] at h; cases h
    rw [if_neg c6] at h
    by_cases c7:Lj w ws n
    · rw [if_pos c7] at h; cases h
    rw [if_neg c7] at h
    by_cases c8:Y3 w (X8 p)<(ws.length:Int) - (gs.length:Int)
    · rw [if_pos c8] at h; cases h
    rw [if_neg c8] at h
    by_cases c9:Y3 w (meI (n:Int))<(gs.length:Int) - (ws.length:Int)
    · rw [if_pos c9] at h; cases h
    rw [if_neg c9] at h
    exact ⟨n,rfl,hn,c2,c4,c5,c6,c7,ASj (fun e=>c3 (by rw [e])) c2 c5 c6 c7,Int.not_lt.1 c8,Int.not_lt.1 c9,h⟩
  · rintro ⟨n,rfl,h⟩
    unfold tradeErr
    rw [if_neg (fun g=>g ⟨Int.natCast_nonneg n,Int.ofNat_lt.2 h.hq⟩),if_neg h.bad,if_neg (fun e:(n:Int)=(p:Int)=>h.lots.pq (Int.ofNat.inj e).symm),Int.toNat_natCast,if_neg (fun g=>g h.at_),if_neg h.dup,if_neg h.ag,if_neg h.aw,if_neg (Int.not_lt.2 h.rp),if_neg (Int.not_lt.2 (show _≤Y3 w (meI (n:Int)) from h.rq))]
    exact h.sw
theorem AAg (pay fee a b:Int):swapErr a b pay fee=0∨0<swapErr a b pay fee:=by
  unfold swapErr
  split
  · exact .inr (by decide)
  · split
    · exact .inl rfl
    · exact .inr (by decide)
theorem AD0 {a b pay fee:Int} (h:swapErr a b pay fee=0):pay≤a∧fee≤b∧H6 (a - pay+fee)∧H6 (b - fee+pay):=by
  unfold swapErr at h
  split at h
  · cases h
  · rename_i c1
    split at h
    · rename_i c2
      refine ⟨?_,?_,c2.1,c2.2⟩
      · exact Int.not_lt.1 (fun h=>c1 (.inl h))
      · exact Int.not_lt.1 (fun h=>c1 (.inr h))
    · cases h
theorem AB0 (i:Nat):¬ (X8 i).1=(2:Int):=fun e=>by
  have:(1:Int)=2:=e
  cases this
theorem Lot.depI {l:List Pl} {xs:List Int} {src p:Pl} (h:Lot l xs src) (hs:¬ src.1=(2:Int)) (hp:¬ p.1=(2:Int)) (f c:Nat) (x:Pl):{n:Nat}→n≤xs.length→depI (Kd l xs p n) f c x=depI l f c x
  | 0,_=>rfl
  | n+1,hn=>by
    have hi:=h.inn n (by omega)
    simp only [Kd]
    rw [Ir (by rw [Vf]; omega) hp (by rw [h.get (by omega)]; exact hs)]
    exact Lot.depI h hs hp f c x (by omega)
theorem AJg.at_ {w:den Zb} {p q:Nat} {gs ws:List Int} (h:AJg w p q gs ws) (j:Nat):List.getD (Hn w p q gs ws) j (dft Za)=List.getD (w.2.2.2.1:List Pl) j (dft Za)∧(∀ i,i<(gs ++ ws).length→¬ iAt (gs ++ ws) i=(j:Int))∨List.getD (Hn w p q gs ws) j (dft Za)=X8 p∧List.getD (w.2.2.2.1:List Pl) j (dft Za)=X8 q∧(∃ i,i<ws.length∧iAt ws i=(j:Int)) ∨
    List.getD (Hn w p q gs ws) j (dft Za)=X8 q∧List.getD (w.2.2.2.1:List Pl) j (dft Za)=X8 p∧(∃ i,i<gs.length∧iAt gs i=(j:Int)):=by
  unfold Hn
  rw [setAll_get h.lw.inn]
  by_cases c1:∃ i,i<ws.length∧iAt ws i=(j:Int)
  · rw [if_pos c1]
    obtain ⟨i,h1,h2⟩:=c1
    refine .inr (.inl ⟨rfl,?_,i,h1,h2⟩)
    have:=h.lw0.at_ i h1
    rw [h2,Int.toNat_natCast] at this
    exact this
  · rw [if_neg c1,setAll_get h.lg.inn]
    by_cases c2:∃ i,i<gs.length∧iAt gs i=(j:Int)
    · rw [if_pos c2]
      obtain ⟨i,h1,h2⟩:=c2
      refine .inr (.inr ⟨rfl,?_,i,h1,h2⟩)
      have:=h.lg.at_ i h1
      rw [h2,Int.toNat_natCast] at this
      exact this
    · rw [if_neg c2]
      refine .inl ⟨rfl,fun i hi e => ?_⟩
      by_cases hl:i<gs.length
      · rw [Ny hl] at e; exact c2 ⟨i,hl,e⟩
      · obtain ⟨k,rfl⟩:∃ k,i=gs.length+k:=⟨i - gs.length,by omega⟩
        rw [Pt] at e
        rw [List.length_append] at hi
        exact c1 ⟨k,by omega,e⟩
theorem AMp (l:List Int) {p q:Nat} (hp:p<l.length) (hq:q<l.length) (a b:Int) (j:Nat):List.getD (List.set (List.set l p a) q b) j 0=if j=q then b else if j=p then a else List.getD l j 0:=by
  rw [H8 _ _ _ _ _ (by rw [List.length_set]; exact hq),H8 _ _ _ _ _ hp]
section
variable {w:den Zb} {p q:Nat} {gs ws:List Int} {pay fee:Int} (ok:Ok w) (hp:p<List.length (w.2.1:List Int)) (h:AIa w p q gs pay ws fee)
include ok hp h
abbrev tdW (w:den Zb) (p q:Nat) (gs:List Int) (pay:Int) (ws:List Int) (fee:Int):den Zb:=Ia w p q gs ws (Yv w p - pay+fee) (Yv w q - fee+pay)
theorem AH8:List.length (Hn w p q gs ws)=List.length (w.2.2.2.1:List (den Za)):=by unfold Hn; rw [Vf,Vf]
theorem ACg (j:Nat):Yv (tdW w p q gs pay ws fee) j=if j=q then Yv w q - fee+pay else if j=p then Yv w p - pay+fee else Yv w j:=by
  have hc1:=ok.right.c1
  have ha1:=ok.right.a1
  have hqq:=h.hq
  show List.getD (List.set (List.set (w.2.2.1:List Int) p _) (Int.toNat (q:Int)) _) j 0=_
  rw [Int.toNat_natCast,AMp _ (by omega) (by omega)]
theorem AOk (t:Pl):Y3 (tdW w p q gs pay ws fee) t=Y3 w t+(if X8 p=t then (gs.length:Int) - (ws.length:Int) else 0)+(if X8 q=t then (ws.length:Int) - (gs.length:Int) else 0):=h.lots.room (tdW w p q gs pay ws fee) rfl rfl t
theorem BKr:Ok (tdW w p q gs pay ws fee):=by
  have hr:=ok.right
  have hs:=ok.sm
  have hc1:=ok.right.c1
  have ha1:=ok.right.a1
  have hqq:=h.hq
  have hlen:=AH8 ok hp h
  have hcl:List.length ((tdW w p q gs pay ws fee).2.2.1:List Int)=List.length (w.2.2.1:List Int):=by
    show List.length (List.set (List.set (w.2.2.1:List Int) p _) _ _)=_
    rw [List.length_set,List.length_set]
  obtain ⟨_,_,s1,s2⟩:=AD0 h.sw
  refine ⟨⟨hs.e,hs.b,hs.p,hs.c,hs.i,hs.a,by rw [hcl]; exact hs.wc,by show List.length (Hn w p q gs ws)≤_; rw [hlen]; exact hs.wh,hs.rows⟩,hr.may,hr.a1,by rw [hcl]; exact hr.c1,by show List.length (Hn w p q gs ws)=_; rw [hlen]; exact hr.w1,fun i hi=>⟨(hr.at_ i hi).1,?_⟩,fun i hi => ?_,fun i hi => ?_⟩
  · have hc:=ACg ok hp h i
    have:H6 (Yv (tdW w p q gs pay ws fee) i):=by
      rw [hc]
      split
      · exact s2
      · split
        · exact s1
        · exact (hr.at_ i hi).2
    exact this
  · have hi:i<List.length (w.2.2.2.1:List (den Za)):=by rw [← hlen]; exact hi
    have gm:∀ r,r<List.length (w.2.1:List Int)→K1 w.1 (X8 r):=fun r hr'=>.inr (.inl ⟨rfl,Int.natCast_nonneg r,by show (r:Int)<_; rw [← hr.a1]; exact Int.ofNat_lt.2 hr'⟩)
    show K1 w.1 (List.getD (Hn w p q gs ws) i (dft Za))
    rcases h.lots.at_ i with ⟨e,_⟩ | ⟨e,_⟩ | ⟨e,_⟩
    · rw [e]; exact hr.good i hi
    · rw [e]; exact gm p hp
    · rw [e]; exact gm q hqq
  · have hi:i<List.length (w.2.2.2.1:List (den Za)):=by rw [← hlen]; exact hi
    have hd:∀ x,depI (Hn w p q gs ws) 51 0 x=depI w.2.2.2.1 51 0 x:=fun x=>by
      unfold Hn
      rw [h.lots.lw.depI (AB0 q) (AB0 p) 51 0 x (Nat.le_refl _),h.lots.lg.depI (AB0 p) (AB0 q) 51 0 x (Nat.le_refl _)]
    have hroom:∀ t,0≤Y3 (tdW w p q gs pay ws fee) t:=fun t=>by
      rw [AOk ok hp h t]
      have h0:=(hr.room t).1
      by_cases c1:X8 p=t
      · have c2:¬ X8 q=t:=fun e=>h.lots.pq (AN1 (c1.trans e.symm))
        rw [if_pos c1,if_neg c2]
        have:=h.rp
        rw [c1] at this
        omega
      · by_cases c2:X8 q=t
        · rw [if_neg c1,if_pos c2]
          have:=h.rq
          rw [c2] at this
          omega
        · rw [if_neg c1,if_neg c2]; omega
    refine ⟨?_,?_⟩
    · show depI (Hn w p q gs ws) 51 0 (List.getD (Hn w p q gs ws) i (dft Za))≤4
      rw [hd]
      rcases h.lots.at_ i with ⟨e,_⟩ | ⟨e,_⟩ | ⟨e,_⟩
      · rw [e]; exact (hr.deep i hi).1
      · rw [e,Ed (AB0 p)]; omega
      · rw [e,Ed (AB0 q)]; omega
    · have:=hroom (List.getD ((tdW w p q gs pay ws fee).2.2.2.1:List (den Za)) i (dft Za))
      unfold Y3 at this
      show (Yx _ _ _:Int)≤Lo w.1 _
      have e:(tdW w p q gs pay ws fee).1=w.1:=rfl
      rw [e] at this
      omega
end
end Go.Proofs.YtmemggdjnfccfaaGreatDoor.Ghost
