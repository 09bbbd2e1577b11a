/- What functions come to, and that the statements are answered with 'true'. Conditions: none. -/
import Derived.Test.YtmemggdjnfccfaaGreatDoorS
import Derived.Test.YtmemggdjnfccfaaGreatDoorGE
import Derived.Test.YtmemggdjnfccfaaGreatDoorP1
import Derived.Test.YtmemggdjnfccfaaGreatDoorP2
import Derived.Test.YtmemggdjnfccfaaGreatDoorP3
import Derived.Test.YtmemggdjnfccfaaGreatDoorP4
import Derived.Test.YtmemggdjnfccfaaGreatDoorP5
import Derived.Test.YtmemggdjnfccfaaGreatDoorP6
import Derived.Test.YtmemggdjnfccfaaGreatDoorP7
import Derived.Test.YtmemggdjnfccfaaGreatDoorP8
import Derived.Test.YtmemggdjnfccfaaGreatDoorP9
import Derived.Test.YtmemggdjnfccfaaGreatDoorP10
import Derived.Test.YtmemggdjnfccfaaGreatDoorP11
import Derived.Test.YtmemggdjnfccfaaGreatDoorP12
import Derived.Test.YtmemggdjnfccfaaGreatDoorP13
import Derived.Test.YtmemggdjnfccfaaGreatDoorP14
import Derived.Test.YtmemggdjnfccfaaGreatDoorP15
import Derived.Test.YtmemggdjnfccfaaGreatDoorP16
import Derived.Test.YtmemggdjnfccfaaGreatDoorP17
import Derived.Test.YtmemggdjnfccfaaGreatDoorP18
import Derived.Test.YtmemggdjnfccfaaGreatDoorP19
set_option linter.unusedVariables false
set_option linter.unusedSimpArgs false
set_option linter.unusedSectionVars false
set_option linter.unnecessarySimpa false
namespace Go.Proofs.YtmemggdjnfccfaaGreatDoor.Ghost
open Go
def plc (ex pl k1 k2:Int):Int:=if k1=0∧0≤k2∧k2<ex then k2 else if k1=1∧0≤k2∧k2<pl then ex+k2 else -1
section
variable {d:den Xa}
theorem AGf (h1:List.length d.1≤20) (h2:List.length d.2.1≤20) (k:den Za):Ze (fun nf _ _ _=>Xy nf (d) (k)) (fun r=>r=((plc (List.length d.1:Nat) (List.length d.2.1:Nat) k.1 k.2.1,()),[])):=by
  refine Ze.succ (fun nf _ _ _=>Xy.eq nf _ _) ?_
  obtain ⟨k1,k2,⟨⟩⟩:=k
  have key:∀ k1 k2:Int,Ze (fun nf _ _ _=>Xy nf (d) ((k1,k2,()))) (fun r=>r=((plc (List.length d.1:Nat) (List.length d.2.1:Nat) k1 k2,()),[])):=by
    intro k1 k2
    refine Ze.succ (fun nf _ _ _=>Xy.eq nf _ _) ?_
    unfold plc
    by_cases a:k1=0
    · have a1:¬ k1=1:=by omega
      by_cases b:0≤k2
      · by_cases c:k2<((List.length d.1:Nat):Int)
        · simp only [a,b,c,decide_true,decide_false,cond_true,cond_false,V9,and_self,if_true]
        · simp [a,b,c]
      · simp [a,b]
    · by_cases a1:k1=1
      · by_cases b:0≤k2
        · by_cases c:k2<((List.length d.2.1:Nat):Int)
          · have w:IntKind.wrap .i64 (((List.length d.1:Nat):Int)+k2)=((List.length d.1:Nat):Int)+k2:=K6 (by omega) (by omega)
            simp [a1,b,c,w]
          · simp [a1,b,c]
        · simp [a1,b]
      · simp [a,a1]
  have:=key k1 k2
  obtain ⟨v,hv,N,hN⟩:=this
  refine ⟨v,hv,N,fun n m k j a b c e => ?_⟩
  exact (Xy.eq n d (k1,k2,())).symm.trans (hN (n+1) m k j (by omega) b c e)
end
end Go.Proofs.YtmemggdjnfccfaaGreatDoor.Ghost
namespace Go.Proofs.YtmemggdjnfccfaaGreatDoor.Ghost
open Go
structure Ch (w:den Zb) (i:Nat) (c:Cm) (n:den Zb):Prop where
  pl:∀ j:Nat,¬ (Qi w j=Qi n j∧Yv w j=Yv n j)→H2 w i c 1 (j:Int)
  it:∀ j,j<List.length (w.2.2.2.1:List (den Za))→¬ Yb w j=Yb n j→H2 w i c (Xz w j).1 (Xz w j).2.1∧H2 w i c (Xz n j).1 (Xz n j).2.1
  me:H2 w i c 0 (Qi n i)
theorem Pv (w:den Zb) (i:Nat) (c:Cm):H2 w i c 0 (Qi w i):=.inl ⟨rfl,rfl⟩
theorem Lv (w:den Zb) (i:Nat) (c:Cm):H2 w i c 1 (i:Int):=.inr (.inl ⟨rfl,rfl⟩)
theorem ADh {w:den Zb} {i:Nat} {c:Cm} {q:Nat} (hk:Z4 c=2∨Z4 c=7∨Z4 c=8) (e:Jz c=(q:Int)) (hq:q<List.length (w.2.1:List Int)):H2 w i c 1 (q:Int) :=
  .inr (.inr (.inr ⟨⟨hk,by rw [e]; exact Int.ofNat_lt.2 hq⟩,rfl,e.symm⟩))
theorem AFk {w:den Zb} {i:Nat} {c:Cm} {p:Pl} (h:Cb w i p):H2 w i c p.1 p.2.1:=by
  rcases h with rfl | rfl
  · exact Pv w i c
  · exact Lv w i c
theorem U9 (w:den Zb) (i:Nat) (c:Cm):Ch w i c w:=⟨fun j h=>absurd ⟨rfl,rfl⟩ h,fun j _ h=>absurd rfl h,Pv w i c⟩
theorem AMn {w:den Zb} {i m:Nat} {c:Cm} {q:Pl} (hm:m<List.length (w.2.2.2.1:List (den Za))) (h1:H2 w i c (Xz w m).1 (Xz w m).2.1) (h2:H2 w i c (Xz (put w m q) m).1 (Xz (put w m q) m).2.1):Ch w i c (put w m q):=by
  refine ⟨fun j h=>absurd ⟨rfl,rfl⟩ h,fun j _ h => ?_,Pv w i c⟩
  by_cases e:j=m
  · subst e; exact ⟨h1,h2⟩
  · refine absurd ?_ h
    show Yb w j=List.getD ((put w m q).2.2.2.1:List (den Za)) j (dft Za)
    rw [L5 w m j q hm,if_neg e]
theorem ATp {w:den Zb} {i k d:Nat} {c:Cm} (hk:k<List.length (w.2.1:List Int)) (h1:H2 w i c 1 (k:Int)) (h2:k=i→0≤Ke w i d→H2 w i c 0 (Ke w i d)):Ch w i c (goR w k d).1:=by
  unfold goR
  by_cases h:0≤Ke w k d
  · rw [if_pos h]
    refine ⟨fun j hj => ?_,fun j _ h=>absurd rfl h,?_⟩
    · by_cases e:j=k
      · subst e; exact h1
      · refine absurd ⟨?_,rfl⟩ hj
        show Qi w j=List.getD ((moved w k (Ke w k d)).2.1:List Int) j (0:Int)
        rw [AF1 w k j _ hk,if_neg e]
    · show H2 w i c 0 (List.getD ((moved w k (Ke w k d)).2.1:List Int) i (0:Int))
      rw [AF1 w k i _ hk]
      by_cases e:i=k
      · rw [if_pos e]; subst e; exact h2 rfl h
      · rw [if_neg e]; exact Pv w i c
  · rw [if_neg h]; exact U9 w i c
theorem AOi {w:den Zb} (ok:Ok w) {i:Nat} (hi:i<List.length (w.2.1:List Int)) {c:Cm} (may:Pm c):Ch w i c (Qj w i c).1:=by
  by_cases k36:3≤Z4 c∧Z4 c≤6
  · rw [BYh w i k36]
    by_cases e:eK w i c=0
    · rw [if_pos e]
      obtain ⟨p',d',D⟩:=BX9 ok hi k36 e
      have hr:=((D.mv.eqs D.ok'.right (Hk w _ _) D.hm).1 (.refl _)).1
      exact AMn D.hm (AFk D.near) (by rw [hr]; exact AFk D.np)
    · rw [if_neg e]; exact U9 w i c
  by_cases k1:Z4 c=1
  · have s:Qj w i c=goR w i (H5 c).toNat:=by unfold Qj; rw [if_pos k1]
    rw [s]
    exact ATp hi (Lv w i c) (fun _ h=>.inr (.inr (.inl ⟨⟨.inl k1,h⟩,rfl,rfl⟩)))
  by_cases k2:Z4 c=2
  · have s:Qj w i c=D0 w i (Jz c) (H5 c).toNat:=by unfold Qj; rw [if_neg k1,if_pos k2]
    rw [s]
    unfold D0
    by_cases h:Gm w i (Jz c)=0
    · rw [if_pos h]
      obtain ⟨h1,h2,h3,_⟩:=Ti h
      have e:Jz c=((Jz c).toNat:Int):=by omega
      have hq:(Jz c).toNat<List.length (w.2.1:List Int):=by omega
      exact ATp hq (ADh (.inl k2) e hq) (fun e' _=>absurd (by rw [e,e']) h3)
    · rw [if_neg h]; exact U9 w i c
  by_cases k7:Z4 c=7
  · have s:Qj w i c=((Wn w i (X5 c) (Jz c)).1,0,(Wn w i (X5 c) (Jz c)).2.1,()):=by
      unfold Qj; rw [if_neg k1,if_neg k2,if_neg (by omega),if_neg (by omega),if_neg (by omega),if_neg (by omega),if_pos k7]
    rw [s]
    show Ch w i c (Wn w i (X5 c) (Jz c)).1
    unfold Wn
    by_cases h:giveErr w i (X5 c) (Jz c)=0
    · rw [if_pos h]
      obtain ⟨h1,h2,h3,h4,h5,h6⟩:=I2 h
      obtain ⟨a,ea,ha⟩:=J3 h1
      obtain ⟨b,eb,hb⟩:=I7 h2
      rw [ea] at h5 ⊢
      rw [eb,Int.toNat_natCast,Int.toNat_natCast]
      have h5:Yb w a=X8 i:=h5
      refine AMn ha ?_ ?_
      · rw [Re h5 (Vc i)]; exact Lv w i c
      · rw [Re (p:=X8 b) (BKl ha _) (Vc b)]; exact ADh (.inr (.inl k7)) eb hb
    · rw [if_neg h]; exact U9 w i c
  by_cases k8:Z4 c=8
  · have s:Qj w i c=((V6 w i (Jz c) (Xj c) (G6 c) (Xl c) (G5 c)).1,0,(V6 w i (Jz c) (Xj c) (G6 c) (Xl c) (G5 c)).2.1,()):=by
      unfold Qj; rw [if_neg k1,if_neg k2,if_neg (by omega),if_neg (by omega),if_neg (by omega),if_neg (by omega),if_neg k7,if_pos k8]
    rw [s]
    show Ch w i c (V6 w i (Jz c) (Xj c) (G6 c) (Xl c) (G5 c)).1
    unfold V6
    by_cases h:tradeErr w i (Jz c) (Xj c) (G6 c) (Xl c) (G5 c)=0
    · rw [if_pos h]
      obtain ⟨q,e,ht⟩:=(Lh (AAg _ _)).1 h
      rw [e,Int.toNat_natCast]
      have fq:H2 w i c 1 (q:Int):=ADh (.inr (.inr k8)) e ht.hq
      refine ⟨fun j hj => ?_,fun j _ hj => ?_,Pv w i c⟩
      · have x:=ACg ok hi ht j
        by_cases e1:j=q
        · subst e1; exact fq
        · by_cases e2:j=i
          · subst e2; exact Lv w j c
          · rw [if_neg e1,if_neg e2] at x
            exact absurd ⟨rfl,x.symm⟩ hj
      · rcases ht.lots.at_ j with ⟨x,_⟩ | ⟨x,y,_⟩ | ⟨x,y,_⟩
        · exact absurd x.symm hj
        · rw [Re (show Yb w j=X8 q from y) (Vc q),Re (x:=Ia w i (q:Int) (Xj c) (Xl c) _ _) (show Yb (Ia w i (q:Int) (Xj c) (Xl c) _ _) j=X8 i from x) (Vc i)]
          exact ⟨fq,Lv w i c⟩
        · rw [Re (show Yb w j=X8 i from y) (Vc i),Re (x:=Ia w i (q:Int) (Xj c) (Xl c) _ _) (show Yb (Ia w i (q:Int) (Xj c) (Xl c) _ _) j=X8 q from x) (Vc q)]
          exact ⟨Lv w i c,fq⟩
    · rw [if_neg h]; exact U9 w i c
  have s:Qj w i c=(w,0,0,()):=by
    unfold Qj; rw [if_neg k1,if_neg k2,if_neg (by omega),if_neg (by omega),if_neg (by omega),if_neg (by omega),if_neg k7,if_neg k8]
  rw [s]; exact U9 w i c
theorem BJ7 {w:den Zb} (ok:Ok w) {i:Nat} (hi:i<List.length (w.2.1:List Int)) (c:Cm):Ch w i c (doR w i c).1:=by
  unfold doR
  by_cases hm:Pm c
  · rw [if_pos hm]
    have h:=AOi ok hi hm
    split
    · exact U9 w i c
    · split
      · exact U9 w i c
      · split
        · exact h
        · exact U9 w i c
  · rw [if_neg hm]; exact U9 w i c
theorem Ch.cov {w n:den Zb} {i:Nat} {c:Cm} (h:Ch w i c n):M7 (J5 (I0 w i c)) w n 0∧Gx (J5 (I0 w i c)) w n 0 :=
  ⟨fun j _ _ hj=>T9.2 (h.pl j hj),fun j _ hl hj=>⟨T9.2 (h.it j hl hj).1,T9.2 (h.it j hl hj).2⟩⟩
theorem AG5 {w:den Zb} (ok:Ok w) {i:Nat} (hi:i<List.length (w.2.1:List Int)) {c:Cm} (may:Pm c) {a b:Int} (h:H2 w i c a b):0≤plc (List.length w.1.1:Nat) (List.length w.1.2.1:Nat) a b:=by
  have ha:=(ok.right.at_ i hi).1
  have a1:=ok.right.a1
  obtain ⟨d,hd,ed⟩:=may.dir
  have hex:=ok.right.exit hi hd
  have ed':(H5 c).toNat=d:=by omega
  have hw0:0≤Jz c:=by
    by_cases hk:Z4 c=2∨Z4 c=7∨Z4 c=8
    · exact (may.who.1 hk).1
    · rw [may.who.2 hk]; exact Int.le_refl 0
  have room:∀ x:Int,0≤x→x<(List.length (w.1.1:List (List Int)):Int)→0≤plc (List.length w.1.1:Nat) (List.length w.1.2.1:Nat) 0 x:=fun x h1 h2=>by
    unfold plc; rw [if_pos ⟨rfl,h1,h2⟩]; exact h1
  have pl:∀ x:Int,0≤x→x<(List.length (w.2.1:List Int):Int)→0≤plc (List.length w.1.1:Nat) (List.length w.1.2.1:Nat) 1 x:=fun x h1 h2=>by
    have h2:x<((List.length w.1.2.1:Nat):Int):=by
      have e:(List.length (w.2.1:List Int):Int)=((List.length w.1.2.1:Nat):Int):=by omega
      omega
    unfold plc
    rw [if_neg (fun h=>absurd h.1 (by decide)),if_pos ⟨rfl,h1,h2⟩]
    omega
  rcases h with ⟨rfl,rfl⟩ | ⟨rfl,rfl⟩ | ⟨⟨_,hx⟩,rfl,rfl⟩ | ⟨⟨_,hx⟩,rfl,rfl⟩
  · exact room _ ha.1 ha.2
  · exact pl _ (Int.natCast_nonneg i) (Int.ofNat_lt.2 hi)
  · rw [ed'] at hx ⊢
    exact room _ hx (by rcases hex with e | e <;> omega)
  · exact pl _ hw0 hx
theorem AJp {w:den Zb} (h1:List.length w.1.1≤20) (h2:List.length w.1.2.1≤20) (l:List Ky) (hl:l.length≤1048576) (ha:Asc l) (hp:∀ x∈l,0≤plc (List.length w.1.1:Nat) (List.length w.1.2.1:Nat) x.1 x.2.1) (t0:(den Zb)) (t1:Int) (t2:(den Z2)) (t6:Bool) (t7:Int) (o1:(den Z2)) (o2:(den Zb)) (o3:(den Xm)):∀ k,k≤l.length→Ze (fun nf fm0 _ _=>Zs.l0 nf fm0 t0 t1 t2 t6 t7 (l) ((k:Int)) (w) o1 o2 o3) (fun r=>r.1.1=true):=by
  refine upto ?_ (fun k hk next => ?_)
  · refine Ze.succ1 (fun nf fm0 _ _=>Zs.l0_eq nf fm0 _ _ _ _ _ _ _ _ _ _ _) ?_
    simp [-List.getD_eq_getElem?_getD,-List.length_eq_zero_iff,Zq,Zl,Zu,Zo,Z9,Z8,Xx]
  · refine Ze.succ1 (fun nf fm0 _ _=>Zs.l0_eq nf fm0 _ _ _ _ _ _ _ _ _ _ _) ?_
    rw [← Xv (by omega)] at next
    have pk:=AGf (d:=w.1) h1 h2 (List.getD l k (dft Za))
    have hk0:¬ plc (List.length w.1.1:Nat) (List.length w.1.2.1:Nat) (List.getD l k (dft Za)).1 (List.getD l k (dft Za)).2.1<0:=Int.not_lt.2 (hp _ (ABh (dft Za) hk))
    by_cases k0:k=0
    · subst k0
      simp [-List.getD_eq_getElem?_getD,-List.length_eq_zero_iff,Zq,Zl,Zu,Zo,Z9,Z8,Xx,hk,Zd (pk),(pk).prop,hk0]
      exact next
    · obtain ⟨j,rfl⟩:∃ j,k=j+1:=⟨k - 1,by omega⟩
      have hj:j<l.length:=by omega
      have lt:kLt (List.getD l j (dft Za)) (List.getD l (j+1) (dft Za))=true:=by
        have:=List.pairwise_iff_getElem.1 ha j (j+1) hj hk (Nat.lt_succ_self j)
        rw [List.getD_eq_getElem?_getD,List.getD_eq_getElem?_getD,List.getElem?_eq_getElem hj,List.getElem?_eq_getElem hk]
        exact this
      have ls:=AHz (List.getD l j (dft Za)) (List.getD l (j+1) (dft Za))
      have e1:IntKind.wrap .i64 (((j+1:Nat):Int) - 1)=(j:Int):=by rw [K6 (by omega) (by omega)]; omega
      simp only [e1,Int.toNat_natCast]
      rw [show ((j+1:Nat):Int)=(j:Int)+1 by omega] at next
      simp [-List.getD_eq_getElem?_getD,-List.length_eq_zero_iff,Zq,Zl,Zu,Zo,Z9,Z8,Xx,hk,hj,Zd (pk),(pk).prop,hk0,Zd (ls),(ls).prop,lt]
      exact fun _=>⟨by omega,next⟩
theorem Cc (w:den Zb) (p:Int) (c:Cm) (hw:wfD Zb w) (hp:wfD (.int .u8) p) (_:wfD Z2 c):Ze (fun nf _ _ _=>Zs nf (w) (p) (c)) (fun r=>r.1.1=true):=by
  refine Ze.succ (fun nf _ _ _=>Zs.eq nf _ _ _) ?_
  simp [-List.getD_eq_getElem?_getD,-List.length_eq_zero_iff,Zq,Zl,Zu,Zo,Z9,Z8,Xx,Zd (Cl),(Cl).prop,Zd ((AM4 w).fit),((AM4 w).fit).bprop,Zd (ABe c),(ABe c).bprop]
  intro fit few
  simp [-List.getD_eq_getElem?_getD,-List.length_eq_zero_iff,Zq,Zl,Zu,Zo,Z9,Z8,Xx,Zd (Cl),(Cl).prop,Zd (ABz c (by have:=few.1; omega) (by have:=few.2; omega)),(ABz c (by have:=few.1; omega) (by have:=few.2; omega)).bprop]
  intro may
  have ok:=BYc hw fit.few fit.right
  have hpos:=ok.right.pos
  obtain ⟨i,hi,ei⟩:=ANl hp hpos
  rw [ei]
  have hkl:(J5 (I0 w i c)).length≤1048576:=Nat.le_trans (ADk _) (AJy w i c)
  have dk:=BJ8 ok hi c
  have tw:F3 w (doR w i c).1:=⟨ok,dk.1,dk.2⟩
  have ch:=BJ7 ok hi c
  have cv:=ch.cov
  have hn:i<List.length ((doR w i c).1.2.1:List Int):=by rw [AT1 ok dk.1 dk.2]; exact hi
  have x1:=T9 (x:=((1:Int),(i:Int),())).2 (Lv w i c)
  have x2:=T9 (x:=((0:Int),Qi w i,())).2 (Pv w i c)
  have x3:=T9 (x:=((0:Int),Qi (doR w i c).1 i,())).2 ch.me
  simp [-List.getD_eq_getElem?_getD,-List.length_eq_zero_iff,Zq,Zl,Zu,Zo,Z9,Z8,Xx,Zd (AF3 ok.right hi may),(AF3 ok.right hi may).prop,Zd (Dz ok hi few),(Dz ok hi few).prop,Zd (ABd _ hkl tw),(ABd _ hkl tw).bprop,Zd (AB7 _ hkl tw),(AB7 _ hkl tw).bprop,cv,Zd (Gk _ hkl 1 (i:Int)),(Gk _ hkl 1 (i:Int)).bprop,Zd (Gk _ hkl 0 (Qi w i)),(Gk _ hkl 0 (Qi w i)).bprop,Zd (Gk _ hkl 0 (Qi (doR w i c).1 i)),(Gk _ hkl 0 (Qi (doR w i c).1 i)).bprop,x1,x2,x3,hi,hn]
  have r1:=ok.right.may.r1
  have p1:=ok.right.may.p1
  exact ⟨by omega,(AJp (by omega) (by omega) _ hkl (Mj _) (fun x hx=>AG5 ok hi may (T9.1 hx)) _ _ _ _ _ _ _ _ 0 (Nat.zero_le _)).enter⟩
end Go.Proofs.YtmemggdjnfccfaaGreatDoor.Ghost
