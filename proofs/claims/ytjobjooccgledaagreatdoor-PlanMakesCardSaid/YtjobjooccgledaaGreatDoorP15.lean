/- What functions come to, and that the statements are answered with 'true'. Conditions: none. -/
import Derived.Test.YtjobjooccgledaaGreatDoorS
import Derived.Test.YtjobjooccgledaaGreatDoorGE
import Derived.Test.YtjobjooccgledaaGreatDoorP1
import Derived.Test.YtjobjooccgledaaGreatDoorP2
import Derived.Test.YtjobjooccgledaaGreatDoorP3
import Derived.Test.YtjobjooccgledaaGreatDoorP4
import Derived.Test.YtjobjooccgledaaGreatDoorP5
import Derived.Test.YtjobjooccgledaaGreatDoorP6
import Derived.Test.YtjobjooccgledaaGreatDoorP7
import Derived.Test.YtjobjooccgledaaGreatDoorP8
import Derived.Test.YtjobjooccgledaaGreatDoorP9
import Derived.Test.YtjobjooccgledaaGreatDoorP10
import Derived.Test.YtjobjooccgledaaGreatDoorP11
import Derived.Test.YtjobjooccgledaaGreatDoorP12
import Derived.Test.YtjobjooccgledaaGreatDoorP13
import Derived.Test.YtjobjooccgledaaGreatDoorP14
set_option linter.unusedVariables false
set_option linter.unusedSimpArgs false
set_option linter.unusedSectionVars false
set_option linter.unnecessarySimpa false
namespace Go.Proofs.YtjobjooccgledaaGreatDoor.Ghost
open Go
theorem An {α:Type} {R:α→α→Prop} (irr:∀ a,¬ R a a) (asy:∀ a b,R a b→¬ R b a):(l m:List α)→l.Pairwise R→m.Pairwise R→(∀ x,x∈l↔x∈m)→l=m
  | [],[],_,_,_=>rfl
  | [],b :: m,_,_,h=>by cases (h b).2 (by simp)
  | a :: l,[],_,_,h=>by cases (h a).1 (by simp)
  | a :: l,b :: m,h1,h2,h=>by
    obtain ⟨p1,p2⟩:=List.pairwise_cons.1 h1
    obtain ⟨q1,q2⟩:=List.pairwise_cons.1 h2
    have hab:a=b:=by
      rcases List.mem_cons.1 ((h a).1 (by simp)) with e | e
      · exact e
      · rcases List.mem_cons.1 ((h b).2 (by simp)) with e' | e'
        · exact e'.symm
        · exact absurd (p1 b e') (asy _ _ (q1 a e))
    subst hab
    rw [An irr asy l m p2 q2 (fun x=>⟨fun hx => ?_,fun hx => ?_⟩)]
    · rcases List.mem_cons.1 ((h x).1 (List.mem_cons_of_mem _ hx)) with e | e
      · subst e; exact absurd (p1 _ hx) (irr _)
      · exact e
    · rcases List.mem_cons.1 ((h x).2 (List.mem_cons_of_mem _ hx)) with e | e
      · subst e; exact absurd (q1 _ hx) (irr _)
      · exact e
def wLt (x y:Wri):Prop:=(x.1:Int)<y.1∨((x.1:Int)=y.1∧(x.2.1:Int)<y.2.1)
theorem ARd (x:Wri):¬ wLt x x:=fun h=>by rcases h with h | ⟨_,h⟩ <;> exact absurd h (Int.lt_irrefl _)
theorem BH9 (x y:Wri) (h:wLt x y):¬ wLt y x:=fun k=>by
  have key:∀ a b c d:Int,(a<b∨(a=b∧c<d))→(b<a∨(b=a∧d<c))→False:=by intro a b c d; omega
  exact key _ _ _ _ h k
theorem ACn (k:Int) (a b:List Int):(n:Nat)→(Ob k a b n).Pairwise wLt
  | 0=>List.Pairwise.nil
  | n+1=>by
    rw [Ob,List.pairwise_append]
    refine ⟨ACn k a b n,by split <;> simp,fun x hx y hy => ?_⟩
    obtain ⟨i,h1,_,rfl⟩:=Qb.1 hx
    split at hy
    · cases hy
    · rw [List.mem_singleton] at hy
      subst hy
      exact .inr ⟨rfl,Int.ofNat_lt.2 h1⟩
theorem AH3 (a b:List Pl):(n:Nat)→(Io a b n).Pairwise wLt
  | 0=>List.Pairwise.nil
  | n+1=>by
    rw [Io,List.pairwise_append]
    refine ⟨AH3 a b n,by split <;> simp,fun x hx y hy => ?_⟩
    obtain ⟨i,h1,_,rfl⟩:=Hw.1 hx
    split at hy
    · cases hy
    · rw [List.mem_singleton] at hy
      subst hy
      exact .inr ⟨rfl,Int.ofNat_lt.2 h1⟩
theorem Be (w v:Wd):(Y3 w v).Pairwise wLt:=by
  unfold Y3
  rw [List.pairwise_append,List.pairwise_append]
  refine ⟨⟨ACn ..,ACn ..,fun x hx y hy => ?_⟩,AH3 ..,fun x hx y hy => ?_⟩
  · obtain ⟨i,_,_,rfl⟩:=Qb.1 hx
    obtain ⟨j,_,_,rfl⟩:=Qb.1 hy
    exact .inl (show (0:Int)<1 by decide)
  · obtain ⟨j,_,_,rfl⟩:=Hw.1 hy
    rcases List.mem_append.1 hx with hx | hx
    · obtain ⟨i,_,_,rfl⟩:=Qb.1 hx
      exact .inl (show (0:Int)<2 by decide)
    · obtain ⟨i,_,_,rfl⟩:=Qb.1 hx
      exact .inl (show (1:Int)<2 by decide)
theorem AJp {w v u:Wd} (q:Eq3 w v) {k:Nat} (e:T5 w ((Y3 w v).take k)=some u):Y3 u v=(Y3 w v).drop k:=by
  obtain ⟨u',e',lk,t⟩:=AHq ((Y3 w v).take k) q (fun x hx=>Ma (List.mem_of_mem_take hx))
  rw [e] at e'
  cases e'
  have split:∀ x,x∈Y3 w v→x∈(Y3 w v).take k∨x∈(Y3 w v).drop k:=fun x hx=>by
    rw [← List.take_append_drop k (Y3 w v)] at hx
    exact List.mem_append.1 hx
  have apart:∀ x,x∈(Y3 w v).take k→∀ y,y∈(Y3 w v).drop k→wLt x y:=fun x hx y hy=>by
    have h:=Be w v
    rw [← List.take_append_drop k (Y3 w v),List.pairwise_append] at h
    exact h.2.2 x hx y hy
  have no:∀ x,x∈(Y3 w v).take k→∀ y,y∈(Y3 w v).drop k→¬ (x.1=y.1∧x.2.1=y.2.1):=fun x hx y hy h=>by
    rcases apart x hx y hy with h1 | ⟨_,h1⟩
    · rw [h.1] at h1; exact absurd h1 (Int.lt_irrefl _)
    · rw [h.2] at h1; exact absurd h1 (Int.lt_irrefl _)
  refine An ARd BH9 _ _ (Be u v) ((Be w v).sublist (List.drop_sublist ..)) (fun x=>⟨fun hx => ?_,fun hx => ?_⟩)
  · simp only [Y3,List.mem_append] at hx
    rcases hx with (hx | hx) | hx
    · obtain ⟨i,h1,h2,rfl⟩:=Qb.1 hx
      rcases t.a i with ⟨_,h⟩ | ⟨h,h'⟩
      · exact absurd h h2
      · rcases split (0,(i:Int),List.getD (v.2.1:List Int) i 0,(0,0,()),()) (List.mem_append.2 (.inl (List.mem_append.2 (.inl (Qb.2 ⟨i,h1,by rw [← h]; exact h2,rfl⟩))))) with m | m
        · exact absurd ⟨rfl,rfl⟩ (h' _ m)
        · exact m
    · obtain ⟨i,h1,h2,rfl⟩:=Qb.1 hx
      rcases t.c i with ⟨_,h⟩ | ⟨h,h'⟩
      · exact absurd h h2
      · rcases split (1,(i:Int),List.getD (v.2.2.1:List Int) i 0,(0,0,()),()) (List.mem_append.2 (.inl (List.mem_append.2 (.inr (Qb.2 ⟨i,h1,by rw [← h]; exact h2,rfl⟩))))) with m | m
        · exact absurd ⟨rfl,rfl⟩ (h' _ m)
        · exact m
    · obtain ⟨i,h1,h2,rfl⟩:=Hw.1 hx
      rcases t.h i with ⟨_,h⟩ | ⟨h,h'⟩
      · exact absurd h h2
      · rcases split (2,(i:Int),0,List.getD (v.2.2.2.1:List Pl) i (dft Zb),()) (List.mem_append.2 (.inr (Hw.2 ⟨i,h1,by rw [← h]; exact h2,rfl⟩))) with m | m
        · exact absurd ⟨rfl,rfl⟩ (h' _ m)
        · exact m
  · have hw:=List.mem_of_mem_drop hx
    simp only [Y3,List.mem_append] at hw ⊢
    rcases hw with (hw | hw) | hw
    · obtain ⟨i,h1,h2,rfl⟩:=Qb.1 hw
      refine .inl (.inl (Qb.2 ⟨i,h1,?_,rfl⟩))
      rcases t.a i with ⟨⟨y,y1,y2,y3⟩,_⟩ | ⟨h,_⟩
      · exact absurd ⟨y2,y3⟩ (no y y1 _ hx)
      · rw [h]; exact h2
    · obtain ⟨i,h1,h2,rfl⟩:=Qb.1 hw
      refine .inl (.inr (Qb.2 ⟨i,h1,?_,rfl⟩))
      rcases t.c i with ⟨⟨y,y1,y2,y3⟩,_⟩ | ⟨h,_⟩
      · exact absurd ⟨y2,y3⟩ (no y y1 _ hx)
      · rw [h]; exact h2
    · obtain ⟨i,h1,h2,rfl⟩:=Hw.1 hw
      refine .inr (Hw.2 ⟨i,h1,?_,rfl⟩)
      rcases t.h i with ⟨⟨y,y1,y2,y3⟩,_⟩ | ⟨h,_⟩
      · exact absurd ⟨y2,y3⟩ (no y y1 _ hx)
      · rw [h]; exact h2
theorem AEq {w v w1:Wd} (q:Eq3 w v) {x:Wri} (h:x∈Y3 w v) (e:wrW w x=some w1):¬ w1=w:=fun e1=>by
  obtain ⟨s1,s2,s3⟩:=AGa q (Ma h) e
  rw [e1] at s1 s2 s3
  simp only [Y3,List.mem_append] at h
  rcases h with (h | h) | h
  · obtain ⟨i,_,h2,rfl⟩:=Qb.1 h
    rcases s1 i with ⟨_,_,p⟩ | ⟨p,_⟩
    · exact h2 p
    · exact p ⟨rfl,rfl⟩
  · obtain ⟨i,_,h2,rfl⟩:=Qb.1 h
    rcases s2 i with ⟨_,_,p⟩ | ⟨p,_⟩
    · exact h2 p
    · exact p ⟨rfl,rfl⟩
  · obtain ⟨i,_,h2,rfl⟩:=Hw.1 h
    rcases s3 i with ⟨_,_,p⟩ | ⟨p,_⟩
    · exact h2 p
    · exact p ⟨rfl,rfl⟩
theorem AJg {w:Wd} {i:Nat} {c:Cm} (h:¬ ((doR w i c).2.1.1:Int)=0):(doR w i c).1=w:=by
  unfold doR at h ⊢
  by_cases hm:M3 c
  · rw [if_pos hm] at h ⊢
    split
    · rfl
    · split
      · rfl
      · rename_i n9 n10
        rw [if_neg n9,if_neg n10] at h
        split
        · rename_i e
          rw [if_pos e] at h
          exact absurd rfl h
        · rfl
  · rw [if_neg hm]
structure BXq (w:Wd):Prop where
  f:BIf w
theorem AMx (w:Wd):Zd (fun nf _ _ _=>X3 nf (w)) (fun r=>r.1.1=true↔BXq w):=(AMy w).mono (fun r h=>h.trans ⟨fun k=>⟨k⟩,fun k=>k.f⟩)
theorem AIo (w:Wd):Zd (fun nf _ _ _=>Zg nf (w)) (fun r=>r.1.1=true↔Yg w):=AHj w
theorem ANn {w v:Wd} (s:Sm w) (q:Eq3 w v) (p:Par w v) (t0:(den Za)) (t1:Int) (t2:(den Z6)) (t3:Int) (t8:Bool) (t12:Int) (o1:(den Z6)) (o2:(den Za)) (o3:(den Xg)) (o4:(den Za)):∀ i,i≤(Y3 w v).length→Zd (fun nf fm0 _ _=>Zt.l0 nf fm0 t0 t1 t2 t3 t8 (Y3 w v) t12 ((i:Int)) (w) o1 o2 o3 o4) (fun r=>r.1.1=true):=by
  have hl:=AAx p
  refine upto ?_ (fun i hi next => ?_)
  · refine Zd.succ1 (fun nf fm0 _ _=>Zt.l0_eq nf fm0 _ _ _ _ _ _ _ _ _ _ _ _ _) ?_
    simp [-List.getD_eq_getElem?_getD,-List.length_eq_zero_iff,Zq,Zp,Z5,Zr,Xj,Xi,X5]
  · have hx:List.getD (Y3 w v) i (dft Zi)∈Y3 w v:=AAz _ hi
    obtain ⟨w1,e1,k1⟩:=Bx (ADh q (Ma hx))
    have hne:=AEq q hx e1
    refine Zd.succ1 (fun nf fm0 _ _=>Zt.l0_eq nf fm0 _ _ _ _ _ _ _ _ _ _ _ _ _) ?_
    rw [← Xm (by omega)] at next
    simp [-List.getD_eq_getElem?_getD,-List.length_eq_zero_iff,Zq,Zp,Z5,Zr,Xj,Xi,X5,hi,Ze (AFs s e1),(AFs s e1).prop,Ze (G7 w1 w (k1.sm s) s),(G7 w1 w (k1.sm s) s).bprop,hne]
    exact next
theorem B7 (w:Wd) (pl:Int) (c:Cm) (cut:Int) (hw:wfD Za w) (hp:wfD (.int .u8) pl) (_:wfD Z6 c) (hcut:wfD (.int .u8) cut):Zd (fun nf _ _ _=>Zt nf (w) (pl) (c) (cut)) (fun r=>r.1.1=true):=by
  refine Zd.succ (fun nf _ _ _=>Zt.eq nf _ _ _ _) ?_
  simp [-List.getD_eq_getElem?_getD,-List.length_eq_zero_iff,Zq,Zp,Z5,Zr,Xj,Xi,X5,Ze (D3),(D3).prop,Ze (AMx w),(AMx w).bprop,Ze (AIo w),(AIo w).bprop,Ze (AAu c),(AAu c).bprop]
  intro fw rw_ few
  simp [-List.getD_eq_getElem?_getD,-List.length_eq_zero_iff,Zq,Zp,Z5,Zr,Xj,Xi,X5,Ze (D3),(D3).prop,Ze (ABd c (by have:=few.1; omega) (by have:=few.2; omega)),(ABd c (by have:=few.1; omega) (by have:=few.2; omega)).bprop]
  intro may
  have ok:=BXk hw fw.f rw_
  have hpos:=ok.right.pos
  obtain ⟨i,hi,ei⟩:=AE7 hp hpos
  rw [ei]
  obtain ⟨dk,de⟩:=BHb ok hi c
  have hdf:¬ ((doR w i c).2.1.1:Int)=0→Y3 w (doR w i c).1=[]:=fun h=>by rw [AJg h]; exact AAy w
  have pd:=AFv ok hi few
  generalize hR:doR w i c=R at *
  obtain ⟨n,r,⟨⟩⟩:=R
  simp only at dk de hdf
  have q:Eq3 w n:=by
    have a1:=ok.right.a1; have a2:=dk.right.a1
    have b1:=ok.right.c1; have b2:=dk.right.c1
    have c1:=ok.right.w1; have c2:=dk.right.w1
    rw [de] at a2 b2 c2
    exact ⟨a1.trans a2.symm,b1.trans b2.symm,c1.trans c2.symm⟩
  obtain ⟨_,_,_,_,_,f6,f7,f8⟩:=fw.f
  have par:Par w n:=⟨q.a,q.c,q.h,⟨by rw [← q.a]; omega,by rw [← q.c]; omega,by rw [← q.h]; omega⟩⟩
  have parw:Par w w:=⟨rfl,rfl,rfl,⟨by omega,by omega,by omega⟩⟩
  have hl:=AAx par
  have sm:=ok.sm
  have e1:=BXj q de.symm (fun x hx=>Ma hx) (fun x hx=>hx)
  obtain ⟨k,hk,ek⟩:=AE7 hcut (show 0<(Y3 w n).length+1 by omega)
  have ew:IntKind.wrap .i64 ((List.length (Y3 w n):Int)+1)=(((Y3 w n).length+1:Nat):Int):=Xm (by omega)
  obtain ⟨u,e2,lu⟩:=ABe ((Y3 w n).take k) (w:=w) (fun y hy=>ADh q (Ma (List.mem_of_mem_take hy)))
  have e3:T5 u ((Y3 w n).drop k)=some n:=by rw [← ADx _ _ e2,List.take_append_drop]; exact e1
  have su:=lu.sm sm
  have paru:Par u n:=⟨lu.a.trans q.a,lu.c.trans q.c,lu.h.trans q.h,par.few⟩
  have eh:=AJp q e2
  have sp:=Nd sm (l:=Y3 w n) (by omega) e1
  have sp2:=Nd sm (l:=(Y3 w n).take k) (by simp; omega) e2
  have sp3:=Nd su (l:=(Y3 w n).drop k) (by simp; omega) e3
  have fr:=Mo paru
  rw [eh] at fr
  have l0:=(ANn sm q par (w) (pl) (c) (cut) (false) ((k:Int)) (c) (n) (r) (u) 0 (Nat.zero_le _)).enter
  have hne:¬ (((Y3 w n).length+1:Nat):Int)=0:=by omega
  have hp0:¬ ((List.length (w.2.1:List Int):Nat):Int)=0:=by omega
  have fw0:=Mo parw
  rw [AAy] at fw0
  simp [-List.getD_eq_getElem?_getD,-List.length_eq_zero_iff,Zq,Zp,Z5,Zr,Xj,Xi,X5,hp0,Ze (pd),(pd).prop,Ze (Mo par),(Mo par).prop,Ze (sp),(sp).prop,Ze (G7 n n dk.sm dk.sm),(G7 n n dk.sm dk.sm).bprop,Ze (fw0),(fw0).prop]
  rw [ew,ek]
  have hs:=ADc ((Y3 w n).drop k) ((Y3 w n).drop k) (by simp; omega)
  have hk1:(0:Int)≤(k:Int)∧(k:Int)≤((List.length (Y3 w n):Nat):Int):=by omega
  have hk2:k≤(Y3 w n).length:=by omega
  refine ⟨by omega,fun _=>⟨hne,hk1,?_⟩,fun h=>⟨fun _=>⟨hne,hk1,?_⟩,by rw [hdf h]; rfl⟩⟩
  · simp [-List.getD_eq_getElem?_getD,-List.length_eq_zero_iff,Zq,Zp,Z5,Zr,Xj,Xi,X5,hk2,Ze (sp2),(sp2).prop,Ze (sp3),(sp3).prop,Ze (G7 n n dk.sm dk.sm),(G7 n n dk.sm dk.sm).bprop,Ze (fr),(fr).prop,Ze (hs),(hs).prop]
    exact l0
  · simp [-List.getD_eq_getElem?_getD,-List.length_eq_zero_iff,Zq,Zp,Z5,Zr,Xj,Xi,X5,hk2,Ze (sp2),(sp2).prop,Ze (sp3),(sp3).prop,Ze (G7 n n dk.sm dk.sm),(G7 n n dk.sm dk.sm).bprop,Ze (fr),(fr).prop,Ze (hs),(hs).prop]
    exact l0
end Go.Proofs.YtjobjooccgledaaGreatDoor.Ghost
