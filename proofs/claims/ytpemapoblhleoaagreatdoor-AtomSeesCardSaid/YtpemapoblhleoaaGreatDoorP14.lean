/- What functions come to, and that the statements are answered with 'true'. Conditions: none. -/
import Derived.Test.YtpemapoblhleoaaGreatDoorS
import Derived.Test.YtpemapoblhleoaaGreatDoorGE
import Derived.Test.YtpemapoblhleoaaGreatDoorP1
import Derived.Test.YtpemapoblhleoaaGreatDoorP2
import Derived.Test.YtpemapoblhleoaaGreatDoorP3
import Derived.Test.YtpemapoblhleoaaGreatDoorP4
import Derived.Test.YtpemapoblhleoaaGreatDoorP5
import Derived.Test.YtpemapoblhleoaaGreatDoorP6
import Derived.Test.YtpemapoblhleoaaGreatDoorP7
import Derived.Test.YtpemapoblhleoaaGreatDoorP8
import Derived.Test.YtpemapoblhleoaaGreatDoorP9
import Derived.Test.YtpemapoblhleoaaGreatDoorP10
import Derived.Test.YtpemapoblhleoaaGreatDoorP11
import Derived.Test.YtpemapoblhleoaaGreatDoorP12
import Derived.Test.YtpemapoblhleoaaGreatDoorP13
set_option linter.unusedVariables false
set_option linter.unusedSimpArgs false
set_option linter.unusedSectionVars false
set_option linter.unnecessarySimpa false
namespace Go.Proofs.YtpemapoblhleoaaGreatDoor.Ghost
open Go
theorem As {α:Type} (d:α) {l:List α} {k:Nat} (h:k<l.length):l.drop k=l.getD k d :: l.drop (k+1):=by
  rw [List.drop_eq_getElem_cons h,List.getD_eq_getElem?_getD,List.getElem?_eq_getElem h]; rfl
def I9 (l:List Sn) (s:Sn):Nat:=(l.filter (fun x=>eqT Z2 x s)).length
theorem AG5 {l:List Sn} {s:Sn} (nd:l.Nodup) (h:s∈l):I9 l s=1:=by
  have n1:=nd.filter (fun x=>eqT Z2 x s)
  have h1:s∈l.filter (fun x=>eqT Z2 x s):=List.mem_filter.2 ⟨h,(ADq _ _).2 rfl⟩
  have h2:∀ x∈l.filter (fun x=>eqT Z2 x s),x=s:=fun x hx=>(ADq _ _).1 (List.mem_filter.1 hx).2
  unfold I9
  generalize l.filter (fun x=>eqT Z2 x s)=f at *
  match f,n1,h1,h2 with
  | [],_,h1,_=>cases h1
  | [a],_,_,_=>rfl
  | a :: b :: r,n1,_,h2 =>
    have ha:=h2 a (List.mem_cons_self ..)
    have hb:=h2 b (List.mem_cons_of_mem _ (List.mem_cons_self ..))
    exact absurd (show a∈b :: r by rw [ha,hb]; exact List.mem_cons_self ..) (List.nodup_cons.1 n1).1
theorem ADe (a:Sn) (l:List Sn) (s:Sn):I9 (a :: l) s=I9 l s+(if a=s then 1 else 0):=by
  unfold I9
  by_cases h:a=s
  · rw [List.filter_cons,if_pos ((ADq a s).2 h),if_pos h]; rfl
  · rw [List.filter_cons,if_neg (fun e=>h ((ADq a s).1 e)),if_neg h]; rfl
theorem ACn (l:List Sn) (hl:l.length≤1048576) (m:Int) (q:Pl) (t0:(den Za)) (t1:Int) (t2:(den Zw)) (t6:Bool) (t7:Int) (t71:Int) (t79:Bool) (o0:(den Za)) (o1:(den Zw)) (o2:(den Za)) (o3:(den Zn)) (o4:(den Za)) (o5:(den Zn)) (o6:(den Za)) (o7:(den Zn)):∀ k,k≤l.length→∀ a:Nat,a+I9 (l.drop k) ((m,q,()):Sn)=1→Zd (fun nf fm0 _ _=>Zi.l0 nf fm0 t0 t1 t2 t6 t7 (m) (l) t71 t79 ((a:Int)) ((k:Int)) o0 o1 o2 o3 o4 o5 o6 o7 (q)) (fun r=>r.1.1=true):=by
  refine upto (fun a ha => ?_) (fun k hk next a ha => ?_)
  · rw [List.drop_length] at ha
    have ha:a=1:=ha
    subst ha
    refine Zd.succ1 (fun nf fm0 _ _=>Zi.l0_eq nf fm0 _ _ _ _ _ _ _ _ _ _ _ _ _ _ _ _ _ _ _ _) ?_
    simp [-List.getD_eq_getElem?_getD,-List.length_eq_zero_iff,Zu,Zq,Z0,Zr,Xg,Xf,Ya]
  · rw [As (dft Z2) hk,ADe] at ha
    refine Zd.succ1 (fun nf fm0 _ _=>Zi.l0_eq nf fm0 _ _ _ _ _ _ _ _ _ _ _ _ _ _ _ _ _ _ _ _) ?_
    rw [← Xr (by omega)] at next
    by_cases h:List.getD l k (dft Z2)=((m,q,()):Sn)
    · rw [if_pos h] at ha
      have n:=next (a+1) (by omega)
      rw [← Xr (by omega)] at n
      have e:eqT Z2 (List.getD l k (dft Z2)) ((m,q,()):Sn)=true:=(ADq _ _).2 h
      simp only [Int.toNat_natCast,e,decide_eq_true (show (k:Int)<(l.length:Int) by omega),if_pos (show (0:Int)≤(k:Int)∧(k:Int)<(l.length:Int) by omega),cond_true]
      exact n
    · rw [if_neg h] at ha
      have n:=next a (by omega)
      have e:eqT Z2 (List.getD l k (dft Z2)) ((m,q,()):Sn)=false:=Bool.eq_false_iff.2 (fun e=>h ((ADq _ _).1 e))
      simp only [Int.toNat_natCast,e,decide_eq_true (show (k:Int)<(l.length:Int) by omega),if_pos (show (0:Int)≤(k:Int)∧(k:Int)<(l.length:Int) by omega),cond_true,cond_false]
      exact n
theorem AQ5 (l:List Sn) (hl:l.length≤1048576) (m:Int) (q:Pl) (t0:(den Za)) (t1:Int) (t2:(den Zw)) (t6:Bool) (t7:Int) (t71:Int) (t79:Bool) (o0:(den Za)) (o1:(den Zw)) (o2:(den Za)) (o3:(den Zn)) (o4:(den Za)) (o5:(den Zn)) (o6:(den Za)) (o7:(den Zn)):∀ k,k≤l.length→∀ a:Nat,a+I9 (l.drop k) ((m,q,()):Sn)=1→Zd (fun nf fm0 _ _=>Zi.l1 nf fm0 t0 t1 t2 t6 t7 (m) t71 t79 ((a:Int)) ((k:Int)) o0 o1 o2 o3 o4 o5 o6 o7 (q) (l)) (fun r=>r.1.1=true):=by
  refine upto (fun a ha => ?_) (fun k hk next a ha => ?_)
  · rw [List.drop_length] at ha
    have ha:a=1:=ha
    subst ha
    refine Zd.succ1 (fun nf fm0 _ _=>Zi.l1_eq nf fm0 _ _ _ _ _ _ _ _ _ _ _ _ _ _ _ _ _ _ _ _) ?_
    simp [-List.getD_eq_getElem?_getD,-List.length_eq_zero_iff,Zu,Zq,Z0,Zr,Xg,Xf,Ya]
  · rw [As (dft Z2) hk,ADe] at ha
    refine Zd.succ1 (fun nf fm0 _ _=>Zi.l1_eq nf fm0 _ _ _ _ _ _ _ _ _ _ _ _ _ _ _ _ _ _ _ _) ?_
    rw [← Xr (by omega)] at next
    by_cases h:List.getD l k (dft Z2)=((m,q,()):Sn)
    · rw [if_pos h] at ha
      have n:=next (a+1) (by omega)
      rw [← Xr (by omega)] at n
      have e:eqT Z2 (List.getD l k (dft Z2)) ((m,q,()):Sn)=true:=(ADq _ _).2 h
      simp only [Int.toNat_natCast,e,decide_eq_true (show (k:Int)<(l.length:Int) by omega),if_pos (show (0:Int)≤(k:Int)∧(k:Int)<(l.length:Int) by omega),cond_true]
      exact n
    · rw [if_neg h] at ha
      have n:=next a (by omega)
      have e:eqT Z2 (List.getD l k (dft Z2)) ((m,q,()):Sn)=false:=Bool.eq_false_iff.2 (fun e=>h ((ADq _ _).1 e))
      simp only [Int.toNat_natCast,e,decide_eq_true (show (k:Int)<(l.length:Int) by omega),if_pos (show (0:Int)≤(k:Int)∧(k:Int)<(l.length:Int) by omega),cond_true,cond_false]
      exact n
theorem AGw (x:den Za) (p:Pl):(J2 x p).Nodup:=(AGx x p _).imp (fun {a b} h e=>by subst e; exact absurd h (Int.lt_irrefl _))
theorem Bq {x:den Za} {m:Nat} (hm:m<List.length (x.2.2.2.1:List (den Zb))) {q p:Pl} (hq:Yr x m=q) (hr:Qa x m=p):I9 (J2 x p) (((m:Int),q,()):Sn)=1 :=
  AG5 (AGw x p) (T4.2 ⟨m,hm,by rw [hq],hr⟩)
theorem AMs {x:den Za} {m:Nat} (hm:m<List.length (x.2.2.2.1:List (den Zb))) {q p p':Pl} (hq:Yr x m=q) (hr:Qa x m=p∨Qa x m=p') (hp:¬ p=p'):I9 (J2 x p ++ J2 x p') (((m:Int),q,()):Sn)=1:=by
  refine AG5 ?_ ?_
  · rw [List.nodup_append]
    refine ⟨AGw x p,AGw x p',fun a ha b hb e => ?_⟩
    obtain ⟨j,_,rfl,h1⟩:=T4.1 ha
    obtain ⟨j',_,h2,h3⟩:=T4.1 hb
    rw [h2] at e
    have:((j:Int))=(j':Int):=congrArg (fun s:Sn=>(s.1:Int)) e
    obtain rfl:=Int.ofNat.inj this
    exact hp (h1.symm.trans h3)
  · rw [List.mem_append]
    rcases hr with h | h
    · exact .inl (T4.2 ⟨m,hm,by rw [hq],h⟩)
    · exact .inr (T4.2 ⟨m,hm,by rw [hq],h⟩)
theorem Bl {x:den Za} {m:Nat} {p:Pl} (h:Yr x m=p) (hp:¬ p.1=(2:Int)):Qa x m=p:=by
  show Ra x.2.2.2.1 51 (Yr x m)=p
  rw [h]; exact AA2 hp 51
theorem M6 {w:den Za} {m:Nat} (hm:m<List.length (w.2.2.2.1:List (den Zb))) (q:Pl):Yr (put w m q) m=q:=by
  show List.getD _ m _=_
  rw [ACk w m m _ hm,if_pos rfl]
abbrev AP8 (k:Int):Cm:=(k,0,0,0,0,([]:List Int),0,([]:List Int),0,())
theorem AHl {k:Int} (hk:k=9∨k=10):Rp (AP8 k):=by
  have f:∀ {P:Prop},¬ P→Gc 0 P:=fun h=>⟨fun h'=>absurd h' h,fun _=>rfl⟩
  have g:∀ {P:Prop},¬ P→M8 [] P:=fun h=>⟨fun h'=>absurd h' h,fun _=>rfl⟩
  have k1:1≤k:=by omega
  have k2:k≤10:=by omega
  exact ⟨k1,k2,Int.le_refl 0,by show (0:Int)≤3; decide,fun h=>absurd rfl h,f (by show ¬ (3≤k∧k≤7); omega),f (by show ¬ (k=5∨k=6); omega),f (by show ¬ (k=2∨k=7∨k=8); omega),f (by show ¬ k=8; omega),f (by show ¬ k=8; omega),g (by show ¬ k=8; omega),g (by show ¬ k=8; omega)⟩
theorem AQf (x:den Za) (i:Nat):doR x i (AP8 10)=(x,AMk x i,()):=by
  unfold doR
  rw [if_pos (AHl (.inr rfl)),if_neg (by show ¬ (10:Int)=9; decide),if_pos rfl]
theorem ALc (x:den Za) (i:Nat):doR x i (AP8 9)=(x,AAm x i,()):=by
  unfold doR
  rw [if_pos (AHl (.inl rfl)),if_pos rfl]
theorem AHb (k:Int):AH3 (AP8 k):=⟨Nat.zero_le _,Nat.zero_le _⟩
theorem Ou {w:den Za} {i:Nat} {c:Cm} (hm:Rp c) (h9:¬ Z6 c=9) (h10:¬ Z6 c=10) (e:((doR w i c).2.1.1:Int)=0):(Yw w i c).2.2.1=0∧doR w i c=((Yw w i c).1,AEu (Z6 c) (Yw w i c).2.1,()):=by
  rw [G2 hm h9 h10] at e ⊢
  by_cases z:(Yw w i c).2.2.1=0
  · exact ⟨z,by unfold AH5; rw [if_pos z]⟩
  · unfold AH5 at e
    rw [if_neg z] at e
    exact absurd e z
theorem ARx {w x:den Za} (ok:Ok w) (ok':Ok x) (h:x.1=w.1):List.length (x.2.1:List Int)=List.length (w.2.1:List Int):=by
  have a:=ok.right.a1
  have b:=ok'.right.a1
  rw [h] at b
  omega
theorem Pb {x:den Za} (ok:Ok x) (p:Pl):(J2 x p).length≤524288:=by
  have i1:=ok.right.may.i1; have w1:=ok.right.w1
  exact Nat.le_trans (Nl x p _) (by omega)
theorem Bc {w:den Za} {k:Int} {p q:Pl} (h:(Wc w k p q).2.1=0):∃ m:Nat,k=(m:Int)∧m<List.length (w.2.2.2.1:List (den Zb))∧(Wc w k p q).1=put w m q:=by
  unfold Wc at h ⊢
  by_cases e:J7 w k p q=0
  · rw [if_pos e]
    obtain ⟨h1,h2,_⟩:=Ij e
    obtain ⟨m,rfl⟩:∃ m:Nat,k=(m:Int):=⟨k.toNat,by omega⟩
    exact ⟨m,rfl,by omega,by rw [Int.toNat_natCast]⟩
  · rw [if_neg e] at h; exact absurd h e
theorem ALj (a:Int) (i:Nat):¬ Xz i=Aa a:=fun e=>absurd (congrArg (fun p:Pl=>(p.1:Int)) e) (by show ¬ (1:Int)=0; decide)
theorem ALo {w:den Za} {i d:Nat} (hi:i<List.length (w.2.1:List Int)) (h:(goR w i d).2.2.1=0):Gy (goR w i d).1 i=(goR w i d).2.1:=by
  unfold goR at h ⊢
  by_cases e:0≤Hl w i d
  · rw [if_pos e]
    show List.getD (moved w i (Hl w i d)).2.1 i (0:Int)=Hl w i d
    rw [AMi w i i _ hi,if_pos rfl]
  · rw [if_neg e] at h; exact absurd h (show ¬ (4:Int)=0 by decide)
section
variable {w:den Za} {i:Nat} {c:Cm} (may:Rp c) (e:((doR w i c).2.1.1:Int)=0)
include may e
theorem AQ3 (q:Z6 c=3):∃ m:Nat,Xu c=(m:Int)∧m<List.length (w.2.2.2.1:List (den Zb))∧(doR w i c).1=put w m (Xz i):=by
  obtain ⟨z,ed⟩:=Ou may (by omega) (by omega) e
  have s:Yw w i c=((AD0 w i (Xu c)).1,0,(AD0 w i (Xu c)).2.1,()):=by
    unfold Yw; rw [if_neg (by omega),if_neg (by omega),if_pos q]
  rw [s] at z
  obtain ⟨m,h1,h2,h3⟩:=Bc z
  exact ⟨m,h1,h2,by rw [ed,s]; exact h3⟩
theorem AMq (q:Z6 c=4):∃ m:Nat,Xu c=(m:Int)∧m<List.length (w.2.2.2.1:List (den Zb))∧(doR w i c).1=put w m (Aa (Gy w i)):=by
  obtain ⟨z,ed⟩:=Ou may (by omega) (by omega) e
  have s:Yw w i c=((Eh w i (Xu c)).1,0,(Eh w i (Xu c)).2.1,()):=by
    unfold Yw; rw [if_neg (by omega),if_neg (by omega),if_neg (by omega),if_pos q]
  rw [s] at z
  obtain ⟨m,h1,h2,h3⟩:=Bc z
  exact ⟨m,h1,h2,by rw [ed,s]; exact h3⟩
theorem AQ4 (q:Z6 c=5):∃ m b:Nat,Xu c=(m:Int)∧Kk c=(b:Int)∧Ai w i m b∧(doR w i c).1=put w m (Yx (b:Int)):=by
  obtain ⟨z,ed⟩:=Ou may (by omega) (by omega) e
  have s:Yw w i c=((putR w i (Xu c) (Kk c)).1,0,(putR w i (Xu c) (Kk c)).2.1,()):=by
    unfold Yw; rw [if_neg (by omega),if_neg (by omega),if_neg (by omega),if_neg (by omega),if_pos q]
  rw [s] at z
  have z:(putR w i (Xu c) (Kk c)).2.1=0:=z
  rw [AMm] at z
  obtain ⟨h1,h2⟩:=Fy (w:=w) (i:=i) (k:=Xu c) (b:=Kk c) (by rw [z]; decide)
  obtain ⟨a,ea,ha⟩:=Kc h1
  obtain ⟨b,eb,hb⟩:=Kc h2
  rw [ea,eb] at z
  exact ⟨a,b,ea,eb,(Ey ha hb).1 z,by rw [ed,s,ea,eb,AAy z]⟩
theorem AMr (q:Z6 c=6):∃ m:Nat,Xu c=(m:Int)∧m<List.length (w.2.2.2.1:List (den Zb))∧(doR w i c).1=put w m (Xz i):=by
  obtain ⟨z,ed⟩:=Ou may (by omega) (by omega) e
  have s:Yw w i c=((takeR w i (Xu c) (Kk c)).1,0,(takeR w i (Xu c) (Kk c)).2.1,()):=by
    unfold Yw; rw [if_neg (by omega),if_neg (by omega),if_neg (by omega),if_neg (by omega),if_neg (by omega),if_pos q]
  rw [s] at z
  have z:(takeR w i (Xu c) (Kk c)).2.1=0:=z
  rw [AJg] at z
  obtain ⟨h1,h2⟩:=La (w:=w) (i:=i) (k:=Xu c) (b:=Kk c) (by rw [z]; decide)
  obtain ⟨a,ea,ha⟩:=Kc h1
  obtain ⟨b,eb,hb⟩:=Kc h2
  rw [ea,eb] at z
  exact ⟨a,ea,ha,by rw [ed,s,ea,eb,Bx z]⟩
end
theorem B8 (w:den Za) (p:Int) (c:Cm) (hw:wfD Za w) (hp:wfD (.int .u8) p) (_:wfD Zw c):Zd (fun nf _ _ _=>Zi nf (w) (p) (c)) (fun r=>r.1.1=true):=by
  refine Zd.succ (fun nf _ _ _=>Zi.eq nf _ _ _) ?_
  simp [-List.getD_eq_getElem?_getD,-List.length_eq_zero_iff,Zu,Zq,Z0,Zr,Xg,Xf,Ya,Ze (Dd),(Dd).prop,Ze ((ALi w).fit),((ALi w).fit).bprop,Ze (Az c),(Az c).bprop]
  intro fit few
  simp [-List.getD_eq_getElem?_getD,-List.length_eq_zero_iff,Zu,Zq,Z0,Zr,Xg,Xf,Ya,Ze (Dd),(Dd).prop,Ze (AAq c (by have:=few.1; omega) (by have:=few.2; omega)),(AAq c (by have:=few.1; omega) (by have:=few.2; omega)).bprop]
  intro may
  have ok:=BUa hw fit.few fit.right
  have hpos:=ok.right.pos
  obtain ⟨i,hi,ei⟩:=AL0 hp hpos
  rw [ei]
  have k:=ALb ok hi c
  have pd:=Nf ok hi few
  have hl0:¬ List.length (w.2.1:List Int)=0:=by omega
  by_cases e:((doR w i c).2.1.1:Int)=0
  · have hi':i<List.length ((doR w i c).1.2.1:List Int):=by rw [ARx ok k.ok k.at_]; exact hi
    have po:=Nf k.ok hi' (AHb 10)
    rw [AQf] at po
    have pl:=Nf k.ok hi' (AHb 9)
    rw [ALc] at pl
    rcases may.kinds with q | q | q | q | q | q | q | q | q | q
    · obtain ⟨z,ed⟩:=Ou may (by omega) (by omega) e
      simp [-List.getD_eq_getElem?_getD,-List.length_eq_zero_iff,Zu,Zq,Z0,Zr,Xg,Xf,Ya,hl0,Ze (pd),(pd).prop,e,Ze (po),(po).prop,Ze (pl),(pl).prop,q]
      have s:Yw w i c=goR w i (Tm c).toNat:=by unfold Yw; rw [if_pos q]
      rw [s] at z
      rw [ed,s]
      exact ALo hi z
    · simp [-List.getD_eq_getElem?_getD,-List.length_eq_zero_iff,Zu,Zq,Z0,Zr,Xg,Xf,Ya,hl0,Ze (pd),(pd).prop,e,Ze (po),(po).prop,Ze (pl),(pl).prop,q]
    · simp [-List.getD_eq_getElem?_getD,-List.length_eq_zero_iff,Zu,Zq,Z0,Zr,Xg,Xf,Ya,hl0,Ze (pd),(pd).prop,e,Ze (po),(po).prop,Ze (pl),(pl).prop,q]
      intro _
      refine (ACn _ ?_ _ _ _ _ _ _ _ _ _ _ _ _ _ _ _ _ _ 0 (Nat.zero_le _) 0 ?_).enter
      · show (J2 (doR w i c).1 (Xz i)).length≤1048576
        have:=Pb k.ok (Xz i)
        omega
      · rw [Nat.zero_add,List.drop_zero]
        obtain ⟨m,h1,h2,h3⟩:=AQ3 may e q
        show I9 (J2 (doR w i c).1 (Xz i)) ((Xu c,Xz i,()):Sn)=1
        rw [h1,h3]
        exact Bq (by rw [Km]; exact h2) (M6 h2 _) (Bl (M6 h2 _) (by show ¬ (1:Int)=2; decide))
    · simp [-List.getD_eq_getElem?_getD,-List.length_eq_zero_iff,Zu,Zq,Z0,Zr,Xg,Xf,Ya,hl0,Ze (pd),(pd).prop,e,Ze (po),(po).prop,Ze (pl),(pl).prop,q]
      intro _
      refine (ACn _ ?_ _ _ _ _ _ _ _ _ _ _ _ _ _ _ _ _ _ 0 (Nat.zero_le _) 0 ?_).enter
      · show (J2 (doR w i c).1 (Aa (Gy (doR w i c).1 i))).length≤1048576
        have:=Pb k.ok (Aa (Gy (doR w i c).1 i))
        omega
      · rw [Nat.zero_add,List.drop_zero]
        obtain ⟨m,h1,h2,h3⟩:=AMq may e q
        show I9 (J2 (doR w i c).1 (Aa (Gy (doR w i c).1 i))) ((Xu c,Aa (Gy (doR w i c).1 i),()):Sn)=1
        rw [h1,h3]
        exact Bq (by rw [Km]; exact h2) (M6 h2 _) (Bl (M6 h2 _) (by show ¬ (0:Int)=2; decide))
    · simp [-List.getD_eq_getElem?_getD,-List.length_eq_zero_iff,Zu,Zq,Z0,Zr,Xg,Xf,Ya,hl0,Ze (pd),(pd).prop,e,Ze (po),(po).prop,Ze (pl),(pl).prop,q]
      have l1:=Pb k.ok (Xz i)
      have l2:=Pb k.ok (Aa (Gy (doR w i c).1 i))
      have l1':List.length ((AMk (doR w i c).1 i).2.2.2.2.1:List Sn)≤524288:=l1
      have l2':List.length ((AAm (doR w i c).1 i).2.2.2.2.1:List Sn)≤524288:=l2
      refine ⟨by omega,by omega,fun _ => ?_⟩
      refine (AQ5 _ ?_ _ _ _ _ _ _ _ _ _ _ _ _ _ _ _ _ _ 0 (Nat.zero_le _) 0 ?_).enter
      · rw [List.length_append]; omega
      · rw [Nat.zero_add,List.drop_zero]
        obtain ⟨m,b,h1,h2,h3,h4⟩:=AQ4 may e q
        show I9 (J2 (doR w i c).1 (Xz i) ++ J2 (doR w i c).1 (Aa (Gy (doR w i c).1 i))) ((Xu c,Yx (Kk c),()):Sn)=1
        have ok':=k.ok
        rw [h4] at ok'
        rw [h1,h2,h4]
        have mv:=Fp ok.right h3.hk h3.hb h3.wi
        have hr:=((mv.eqs ok'.right (Km w m (Yx (b:Int))) h3.hk).1 (.refl m)).1
        refine AMs (by rw [Km]; exact h3.hk) (M6 h3.hk _) ?_ (ALj _ i)
        rw [hr]
        exact h3.near.symm
    · simp [-List.getD_eq_getElem?_getD,-List.length_eq_zero_iff,Zu,Zq,Z0,Zr,Xg,Xf,Ya,hl0,Ze (pd),(pd).prop,e,Ze (po),(po).prop,Ze (pl),(pl).prop,q]
      intro _
      refine (ACn _ ?_ _ _ _ _ _ _ _ _ _ _ _ _ _ _ _ _ _ 0 (Nat.zero_le _) 0 ?_).enter
      · show (J2 (doR w i c).1 (Xz i)).length≤1048576
        have:=Pb k.ok (Xz i)
        omega
      · rw [Nat.zero_add,List.drop_zero]
        obtain ⟨m,h1,h2,h3⟩:=AMr may e q
        show I9 (J2 (doR w i c).1 (Xz i)) ((Xu c,Xz i,()):Sn)=1
        rw [h1,h3]
        exact Bq (by rw [Km]; exact h2) (M6 h2 _) (Bl (M6 h2 _) (by show ¬ (1:Int)=2; decide))
    all_goals simp [-List.getD_eq_getElem?_getD,-List.length_eq_zero_iff,Zu,Zq,Z0,Zr,Xg,Xf,Ya,hl0,Ze (pd),(pd).prop,e,Ze (po),(po).prop,Ze (pl),(pl).prop,q]
  · simp [-List.getD_eq_getElem?_getD,-List.length_eq_zero_iff,Zu,Zq,Z0,Zr,Xg,Xf,Ya,hl0,Ze (pd),(pd).prop,e]
end Go.Proofs.YtpemapoblhleoaaGreatDoor.Ghost
