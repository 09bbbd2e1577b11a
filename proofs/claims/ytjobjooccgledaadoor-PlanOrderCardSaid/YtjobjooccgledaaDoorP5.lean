/- What functions come to, and that the statements are answered with 'true'. Conditions: none. -/
import Derived.Test.YtjobjooccgledaaDoorS
import Derived.Test.YtjobjooccgledaaDoorGE
import Derived.Test.YtjobjooccgledaaDoorP1
import Derived.Test.YtjobjooccgledaaDoorP2
import Derived.Test.YtjobjooccgledaaDoorP3
import Derived.Test.YtjobjooccgledaaDoorP4
set_option linter.unusedVariables false
set_option linter.unusedSimpArgs false
set_option linter.unusedSectionVars false
set_option linter.unnecessarySimpa false
namespace Go.Proofs.YtjobjooccgledaaDoor.Ghost
open Go
structure FewS (w:Wd):Prop where
  f:FewP w
theorem few18 (w:Wd):Comes (fun nf _ _ _=>innkeepref06_Few nf (w)) (fun r=>r.1.1=true↔FewS w):=(few_spec w).mono (fun r h=>h.trans ⟨fun k=>⟨k⟩,fun k=>k.f⟩)
section
variable {w:Wd} (s:Sm w) {l:List Wr} (hl:l.length≤60)
include s hl
theorem tells_l0 (t0:(den tWorld)) (t1:(den tWorld)) (t6:Bool) (o1:(den tWorld)):∀ i,i≤l.length→(∀ j,j<i→MayW w (l.getD j (dft tWrite)))→Comes (fun nf fm0 _ _=>innkeeplaw18_PlanTells.l0 nf fm0 t0 t1 (l) t6 ((i:Int)) (w) o1) (fun r=>r.1.1=true):=by
  refine upto (fun hm => ?_) (fun i hi next hm => ?_)
  · have hm':∀ x,x∈l→MayW w x:=fun x hx=>by
      obtain ⟨j,hj,rfl⟩:=List.getElem_of_mem hx
      have:=hm j hj
      rwa [List.getD_eq_getElem?_getD,List.getElem?_eq_getElem hj] at this
    obtain ⟨wE,e,k⟩:=mays_some l hm'
    have sE:=k.sm s
    refine Comes.succ1 (fun nf fm0 _ _=>innkeeplaw18_PlanTells.l0_eq nf fm0 _ _ _ _ _ _ _) ?_
    simp [-List.getD_eq_getElem?_getD,-List.length_eq_zero_iff,keepAll,freshHas,pathEq,eqPl_dec,wrap1,wrap0,nbeq,comes_call (all_spec s (by omega) e),(all_spec s (by omega) e).prop,comes_call (rall_spec s (by omega) hm' e),(rall_spec s (by omega) hm' e).prop,comes_call (same_spec wE wE sE sE),(same_spec wE wE sE sE).bprop]
    by_cases h0:l=[]
    · subst h0; simp
    · have hp:0<l.length:=List.length_pos_iff.2 h0
      have hx:=hm 0 hp
      obtain ⟨w1,e1,k1⟩:=may_some hx
      simp [-List.getD_eq_getElem?_getD,-List.length_eq_zero_iff,keepAll,freshHas,pathEq,eqPl_dec,wrap1,wrap0,nbeq,h0,hp,comes_call (pdo_spec s e1),(pdo_spec s e1).prop,comes_call (rdo_spec s hx e1),(rdo_spec s hx e1).prop,comes_call (same_spec w1 w1 (k1.sm s) (k1.sm s)),(same_spec w1 w1 (k1.sm s) (k1.sm s)).bprop]
  · refine Comes.succ1 (fun nf fm0 _ _=>innkeeplaw18_PlanTells.l0_eq nf fm0 _ _ _ _ _ _ _) ?_
    rw [← wrap_succ (by omega)] at next
    by_cases h:MayW w (l.getD i (dft tWrite))
    · simp [-List.getD_eq_getElem?_getD,-List.length_eq_zero_iff,keepAll,freshHas,pathEq,eqPl_dec,wrap1,wrap0,nbeq,hi,comes_call (rmay_spec w (l.getD i (dft tWrite))),(rmay_spec w (l.getD i (dft tWrite))).bprop,h]
      refine next (fun j hj => ?_)
      by_cases hji:j=i
      · subst hji; exact h
      · exact hm j (by omega)
    · simp [-List.getD_eq_getElem?_getD,-List.length_eq_zero_iff,keepAll,freshHas,pathEq,eqPl_dec,wrap1,wrap0,nbeq,hi,comes_call (rmay_spec w (l.getD i (dft tWrite))),(rmay_spec w (l.getD i (dft tWrite))).bprop,h]
end
theorem planTells_true (w v:Wd) (l:List Wr) (hw:wfD tWorld w) (hv:wfD tWorld v) (_:wfD (.sl tWrite) l):Comes (fun nf _ _ _=>innkeeplaw18_PlanTells nf (w) (v) (l)) (fun r=>r.1.1=true):=by
  refine Comes.succ (fun nf _ _ _=>innkeeplaw18_PlanTells.eq nf _ _ _) ?_
  simp [-List.getD_eq_getElem?_getD,-List.length_eq_zero_iff,keepAll,freshHas,pathEq,eqPl_dec,wrap1,wrap0,nbeq,comes_call (awake18),(awake18).prop,comes_call (few18 w),(few18 w).bprop,comes_call (few18 v),(few18 v).bprop,comes_call (full_spec w),(full_spec w).bprop,comes_call (full_spec v),(full_spec v).bprop]
  intro fw fv flw flv la lh hl
  have s:=sm_few hw fw.f
  have la:=Int.ofNat_inj.1 la
  have lh:=Int.ofNat_inj.1 lh
  have par:Par w (w.1,v.2.1,v.2.2.1,v.2.2.2.1,()):=⟨la,by have:=flw.a; have:=flw.c; have:=flv.a; have:=flv.c; show List.length (w.2.2.1:List Int)=List.length (v.2.2.1:List Int); omega,lh,by
    obtain ⟨_,_,_,_,_,f6,f7,f8⟩:=fv.f
    exact ⟨by show List.length (v.2.1:List Int)≤1000; omega,by show List.length (v.2.2.1:List Int)≤1000; omega,by show List.length (v.2.2.2.1:List Pl)≤1000; omega⟩⟩
  have hlen:=fromW_len par
  simp [-List.getD_eq_getElem?_getD,-List.length_eq_zero_iff,keepAll,freshHas,pathEq,eqPl_dec,wrap1,wrap0,nbeq,comes_call (from_spec par),(from_spec par).prop,comes_call (rfrom_spec par),(rfrom_spec par).prop,comes_call (rsame18_spec (fromW w (w.1,v.2.1,v.2.2.1,v.2.2.2.1,())) (fromW w (w.1,v.2.1,v.2.2.1,v.2.2.2.1,())) (by omega)),(rsame18_spec (fromW w (w.1,v.2.1,v.2.2.1,v.2.2.2.1,())) (fromW w (w.1,v.2.1,v.2.2.1,v.2.2.2.1,())) (by omega)).prop]
  exact (tells_l0 s (by omega) (w) (v) (false) ((w.1,v.2.1,v.2.2.1,v.2.2.2.1,())) 0 (Nat.zero_le _) (fun j hj=>by omega)).enter
abbrev Ss:=den tSess
abbrev phOf (x:Ss):Int:=x.2.2.2.1
abbrev stOf (x:Ss):Int:=x.2.2.2.2.1
abbrev plnOf (x:Ss):List Wr:=x.2.2.2.2.2.2.2.2.1
def settleW:Wd→List Ss→Option Wd
  | w,[]=>some w
  | w,x :: r=>bif decide (phOf x=5) then (match allW w ((plnOf x).drop (stOf x).toNat) with | some w'=>settleW w' r | none=>none) else settleW w r
def GoodS (w:Wd) (x:Ss):Prop:=phOf x=5→(0≤stOf x∧stOf x≤((List.length (plnOf x):Nat):Int))∧List.length (plnOf x)≤1048576∧∀ y,y∈plnOf x→MayW w y
theorem GoodS.like {w v:Wd} {x:Ss} (k:Like w v) (h:GoodS w x):GoodS v x:=fun e=>⟨(h e).1,(h e).2.1,fun y hy=>k.may ((h e).2.2 y hy)⟩
theorem goods_some:(l:List Ss)→{w:Wd}→(∀ x,x∈l→GoodS w x)→∃ w',settleW w l=some w'∧Like w w'
  | [],w,_=>⟨w,rfl,Like.refl w⟩
  | x :: r,w,h=>by
    have hx:=h x (by simp)
    by_cases e:phOf x=5
    · obtain ⟨w1,e1,k1⟩:=mays_some ((plnOf x).drop (stOf x).toNat) (w:=w) (fun y hy=>(hx e).2.2 y (List.mem_of_mem_drop hy))
      obtain ⟨w2,e2,k2⟩:=goods_some r (w:=w1) (fun y hy=>(h y (by simp [hy])).like k1)
      exact ⟨w2,by simp only [settleW,decide_eq_true e,cond_true,e1]; exact e2,k1.trans k2⟩
    · obtain ⟨w2,e2,k2⟩:=goods_some r (w:=w) (fun y hy=>h y (by simp [hy]))
      exact ⟨w2,by simp only [settleW,decide_eq_false e,cond_false]; exact e2,k2⟩
theorem settled_l0 (l:List Ss) (hl:l.length≤1048576) (wE:Wd) (t0:(den tWorld)) (t1:(List (den tSess))) (o0:(den tWorld)) (o1:(den tWorld)):∀ i,i≤l.length→∀ v,Sm v→(∀ x,x∈l→GoodS v x)→settleW v (l.drop i)=some wE →
    Comes (fun nf fm0 _ _=>plan_Settled.l0 nf fm0 t0 t1 (l) (((List.length l:Nat):Int)) ((i:Int)) o0 o1 ((v.1,[],v.2.2.1,[],())) (v.2.1) (v.2.2.2.1)) (fun r=>r=((wE,()),[(0,[1]),(0,[3])])):=by
  refine upto (fun v s hg e => ?_) (fun i hi next v s hg e => ?_)
  · rw [List.drop_length] at e
    cases e
    refine Comes.succ1 (fun nf fm0 _ _=>plan_Settled.l0_eq nf fm0 _ _ _ _ _ _ _ _ _ _) ?_
    simp [-List.getD_eq_getElem?_getD,-List.length_eq_zero_iff,keepAll,freshHas,pathEq,eqPl_dec,wrap1,wrap0,nbeq]
  · rw [drop_cons' (dft tSess) hi] at e
    have hx:=hg _ (getD_mem' (dft tSess) hi)
    refine Comes.succ1 (fun nf fm0 _ _=>plan_Settled.l0_eq nf fm0 _ _ _ _ _ _ _ _ _ _) ?_
    generalize hX:l.getD i (dft tSess)=x at hx e
    by_cases p:phOf x=5
    · obtain ⟨⟨h1,h2⟩,h3,h4⟩:=hx p
      obtain ⟨w1,e1,k1⟩:=mays_some ((plnOf x).drop (stOf x).toNat) (w:=v) (fun y hy=>h4 y (List.mem_of_mem_drop hy))
      simp only [settleW,decide_eq_true p,cond_true,e1] at e
      have nx:=next w1 (k1.sm s) (fun y hy=>(hg y hy).like k1) e
      rw [← wrap_succ (by omega)] at nx
      have ea:Comes (fun nf _ _ _=>plan_All nf ((v.1,v.2.1,v.2.2.1,v.2.2.2.1,())) (List.drop (stOf x).toNat (plnOf x))) (fun r=>r=((w1,()),[(0,[1]),(0,[2]),(0,[3])])):=all_spec s (by simp; omega) e1
      simp [-List.getD_eq_getElem?_getD,-List.length_eq_zero_iff,keepAll,freshHas,pathEq,eqPl_dec,wrap1,wrap0,nbeq,hi,hX,p,h1,h2,comes_call (ea),(ea).prop]
      exact nx
    · simp only [settleW,decide_eq_false p,cond_false] at e
      have nx:=next v s hg e
      rw [← wrap_succ (by omega)] at nx
      simp [-List.getD_eq_getElem?_getD,-List.length_eq_zero_iff,keepAll,freshHas,pathEq,eqPl_dec,wrap1,wrap0,nbeq,hi,hX,p]
      exact nx
theorem settled_spec {w wE:Wd} {l:List Ss} (s:Sm w) (hl:l.length≤1048576) (hg:∀ x,x∈l→GoodS w x) (e:settleW w l=some wE):Comes (fun nf _ _ _=>plan_Settled nf (w) (l)) (fun r=>r=((wE,()),[(0,[1]),(0,[3])])):=by
  refine Comes.succ (fun nf _ _ _=>plan_Settled.eq nf _ _) ?_
  simp [-List.getD_eq_getElem?_getD,-List.length_eq_zero_iff,keepAll,freshHas,pathEq,eqPl_dec,wrap1,wrap0,nbeq,comes_call (copy_spec w s),(copy_spec w s).prop]
  exact (settled_l0 l hl wE w l w _ 0 (Nat.zero_le _) w s hg e).enter
theorem rsettled_l0 (l:List Ss) (hl:l.length≤1048576) (wE:Wd) (t0:(den tWorld)) (o0:(den tWorld)) (o1:(den tWorld)):∀ i,i≤l.length→∀ v,Sm v→(∀ x,x∈l→GoodS v x)→settleW v (l.drop i)=some wE →
    Comes (fun nf fm0 _ _=>innkeepref18_Settled.l0 nf fm0 t0 (l) ((i:Int)) o0 o1 (v)) (fun r=>r=((wE,()),[])):=by
  refine upto (fun v s hg e => ?_) (fun i hi next v s hg e => ?_)
  · rw [List.drop_length] at e
    cases e
    refine Comes.succ1 (fun nf fm0 _ _=>innkeepref18_Settled.l0_eq nf fm0 _ _ _ _ _ _) ?_
    simp [-List.getD_eq_getElem?_getD,-List.length_eq_zero_iff,keepAll,freshHas,pathEq,eqPl_dec,wrap1,wrap0,nbeq]
  · rw [drop_cons' (dft tSess) hi] at e
    have hx:=hg _ (getD_mem' (dft tSess) hi)
    refine Comes.succ1 (fun nf fm0 _ _=>innkeepref18_Settled.l0_eq nf fm0 _ _ _ _ _ _) ?_
    generalize hX:l.getD i (dft tSess)=x at hx e
    by_cases p:phOf x=5
    · obtain ⟨⟨h1,h2⟩,h3,h4⟩:=hx p
      have h4':∀ y,y∈(plnOf x).drop (stOf x).toNat→MayW v y:=fun y hy=>h4 y (List.mem_of_mem_drop hy)
      obtain ⟨w1,e1,k1⟩:=mays_some ((plnOf x).drop (stOf x).toNat) (w:=v) h4'
      simp only [settleW,decide_eq_true p,cond_true,e1] at e
      have nx:=next w1 (k1.sm s) (fun y hy=>(hg y hy).like k1) e
      rw [← wrap_succ (by omega)] at nx
      have ea:=rall_spec s (by simp; omega) h4' e1
      simp [-List.getD_eq_getElem?_getD,-List.length_eq_zero_iff,keepAll,freshHas,pathEq,eqPl_dec,wrap1,wrap0,nbeq,hi,hX,p,h1,h2,comes_call (ea),(ea).prop]
      exact nx
    · simp only [settleW,decide_eq_false p,cond_false] at e
      have nx:=next v s hg e
      rw [← wrap_succ (by omega)] at nx
      simp [-List.getD_eq_getElem?_getD,-List.length_eq_zero_iff,keepAll,freshHas,pathEq,eqPl_dec,wrap1,wrap0,nbeq,hi,hX,p]
      exact nx
theorem rsettled_spec {w wE:Wd} {l:List Ss} (s:Sm w) (hl:l.length≤1048576) (hg:∀ x,x∈l→GoodS w x) (e:settleW w l=some wE):Comes (fun nf _ _ _=>innkeepref18_Settled nf (w) (l)) (fun r=>r=((wE,()),[])):=by
  refine Comes.succ (fun nf _ _ _=>innkeepref18_Settled.eq nf _ _) ?_
  simp [-List.getD_eq_getElem?_getD,-List.length_eq_zero_iff,keepAll,freshHas,pathEq,eqPl_dec,wrap1,wrap0,nbeq,comes_call (copied_spec w s),(copied_spec w s).prop]
  exact (rsettled_l0 l hl wE w w _ 0 (Nat.zero_le _) w s hg e).enter
section
variable {w:Wd} (s:Sm w)
include s
theorem keeps_l2 (n:Nat) (hn:n≤1048576) (t0:(den tWorld)) (t1:(List (den tWrite))) (t4:Bool) (t5:Int) (t9:Int) (o2:(den tWorld)) (o3:(List (den tSess))) (o4:(den tWorld)) (o5:(List Int)) (o6:(List Int)):∀ i,i≤n→∀ a b:List Pl,a.length=n→b.length=n→Comes (fun nf fm0 _ _=>innkeeplaw18_PlanKeeps.l2 nf fm0 t0 t1 t4 t5 t9 ((i:Int)) (w) (w) o2 o3 o4 o5 o6 (a) (b)) (fun r=>r.1.1=true):=by
  refine upto (fun a b ha hb => ?_) (fun i hi next a b ha hb => ?_)
  · refine Comes.succ1 (fun nf fm0 _ _=>innkeeplaw18_PlanKeeps.l2_eq nf fm0 _ _ _ _ _ _ _ _ _ _ _ _ _ _ _) ?_
    simp [-List.getD_eq_getElem?_getD,-List.length_eq_zero_iff,keepAll,freshHas,pathEq,eqPl_dec,wrap1,wrap0,nbeq,ha,comes_call (same_spec w w s s),(same_spec w w s s).bprop]
  · refine Comes.succ1 (fun nf fm0 _ _=>innkeeplaw18_PlanKeeps.l2_eq nf fm0 _ _ _ _ _ _ _ _ _ _ _ _ _ _ _) ?_
    rw [← wrap_succ (by omega)] at next
    simp [-List.getD_eq_getElem?_getD,-List.length_eq_zero_iff,keepAll,freshHas,pathEq,eqPl_dec,wrap1,wrap0,nbeq,ha,hb,hi]
    exact next _ _ (by simpa using ha) (by simpa using hb)
theorem keeps_l1 (n:Nat) (hn:n≤1048576) (t0:(den tWorld)) (t1:(List (den tWrite))) (t4:Bool) (t5:Int) (o2:(den tWorld)) (o3:(List (den tSess))) (o4:(den tWorld)) (o7:(List (den tPlace))) (o8:(List (den tPlace))) (hab:o7.length=o8.length) (ho:o7.length≤1048576):∀ i,i≤n→∀ a b:List Int,a.length=n→b.length=n→Comes (fun nf fm0 _ _=>innkeeplaw18_PlanKeeps.l1 nf fm0 t0 t1 t4 t5 ((i:Int)) (w) (w) o2 o3 o4 (a) (b) o7 o8) (fun r=>r.1.1=true):=by
  refine upto (fun a b ha hb => ?_) (fun i hi next a b ha hb => ?_)
  · refine Comes.succ1 (fun nf fm0 _ _=>innkeeplaw18_PlanKeeps.l1_eq nf fm0 _ _ _ _ _ _ _ _ _ _ _ _ _ _) ?_
    simp [-List.getD_eq_getElem?_getD,-List.length_eq_zero_iff,keepAll,freshHas,pathEq,eqPl_dec,wrap1,wrap0,nbeq,ha]
    exact (keeps_l2 s o7.length ho (t0) (t1) (t4) (t5) ((n:Int)) (o2) (o3) (o4) (a) (b) 0 (Nat.zero_le _) o7 o8 rfl hab.symm).enter
  · refine Comes.succ1 (fun nf fm0 _ _=>innkeeplaw18_PlanKeeps.l1_eq nf fm0 _ _ _ _ _ _ _ _ _ _ _ _ _ _) ?_
    rw [← wrap_succ (by omega)] at next
    simp [-List.getD_eq_getElem?_getD,-List.length_eq_zero_iff,keepAll,freshHas,pathEq,eqPl_dec,wrap1,wrap0,nbeq,ha,hb,hi]
    exact next _ _ (by simpa using ha) (by simpa using hb)
theorem keeps_l0 {l:List Wr} (hl:l.length≤40) (t0:(den tWorld)) (t4:Bool):∀ i,i≤l.length→(∀ j,j<i→MayW w (l.getD j (dft tWrite)))→Comes (fun nf fm0 _ _=>innkeeplaw18_PlanKeeps.l0 nf fm0 t0 (l) t4 ((i:Int)) (w)) (fun r=>r.1.1=true):=by
  refine upto (fun hm => ?_) (fun i hi next hm => ?_)
  · have hm':∀ x,x∈l→MayW w x:=fun x hx=>by
      obtain ⟨j,hj,rfl⟩:=List.getElem_of_mem hx
      have:=hm j hj
      rwa [List.getD_eq_getElem?_getD,List.getElem?_eq_getElem hj] at this
    obtain ⟨wE,e,k⟩:=mays_some l hm'
    have e2:settleW w [((0,([]:List ByteArray),0,5,0,(0,0,0,0,0,([]:List Int),0,([]:List Int),0,()),([]:List (den tPlace)),0,l,(0,0,0,([]:List Int),([]:List (den tSeen)),0,()),false,0,0,0,([]:List (den tPlace)),([]:List Int),0,()):Ss)]=some wE:=by
      show (match allW w l with | some w'=>settleW w' [] | none=>none)=some wE
      rw [e]; rfl
    have st:Comes (fun nf _ _ _=>plan_Settled nf (w) ([(0,([]:List ByteArray),0,5,0,(0,0,0,0,0,([]:List Int),0,([]:List Int),0,()),([]:List (den tPlace)),0,l,(0,0,0,([]:List Int),([]:List (den tSeen)),0,()),false,0,0,0,([]:List (den tPlace)),([]:List Int),0,())])) (fun r=>r=((wE,()),[(0,[1]),(0,[3])])):=settled_spec s (l:=[((0,([]:List ByteArray),0,5,0,(0,0,0,0,0,([]:List Int),0,([]:List Int),0,()),([]:List (den tPlace)),0,l,(0,0,0,([]:List Int),([]:List (den tSeen)),0,()),false,0,0,0,([]:List (den tPlace)),([]:List Int),0,()):Ss)]) (by simp) (fun x hx=>by
      rw [List.mem_singleton] at hx
      subst hx
      exact fun _=>⟨⟨Int.le_refl 0,by show (0:Int)≤_; omega⟩,(by show List.length l≤_; omega),hm'⟩) e2
    refine Comes.succ1 (fun nf fm0 _ _=>innkeeplaw18_PlanKeeps.l0_eq nf fm0 _ _ _ _ _) ?_
    simp [-List.getD_eq_getElem?_getD,-List.length_eq_zero_iff,keepAll,freshHas,pathEq,eqPl_dec,wrap1,wrap0,nbeq,comes_call (copied_spec w s),(copied_spec w s).prop,comes_call (all_spec s (by omega) e),(all_spec s (by omega) e).prop,comes_call (st),(st).prop]
    exact (keeps_l1 s (List.length (wE.2.1:List Int)) (k.sm s).a (t0) (l) (t4) ((l.length:Int)) ((wE.1,[],wE.2.2.1,[],())) ([(0,([]:List ByteArray),0,5,0,(0,0,0,0,0,([]:List Int),0,([]:List Int),0,()),([]:List (den tPlace)),0,l,(0,0,0,([]:List Int),([]:List (den tSeen)),0,()),false,0,0,0,([]:List (den tPlace)),([]:List Int),0,())]) ((wE.1,[],wE.2.2.1,[],())) (wE.2.2.2.1) (wE.2.2.2.1) rfl (k.sm s).wh 0 (Nat.zero_le _) _ _ rfl rfl).enter
  · refine Comes.succ1 (fun nf fm0 _ _=>innkeeplaw18_PlanKeeps.l0_eq nf fm0 _ _ _ _ _) ?_
    rw [← wrap_succ (by omega)] at next
    by_cases h:MayW w (l.getD i (dft tWrite))
    · simp [-List.getD_eq_getElem?_getD,-List.length_eq_zero_iff,keepAll,freshHas,pathEq,eqPl_dec,wrap1,wrap0,nbeq,hi,comes_call (rmay_spec w (l.getD i (dft tWrite))),(rmay_spec w (l.getD i (dft tWrite))).bprop,h]
      refine next (fun j hj => ?_)
      by_cases hji:j=i
      · subst hji; exact h
      · exact hm j (by omega)
    · simp [-List.getD_eq_getElem?_getD,-List.length_eq_zero_iff,keepAll,freshHas,pathEq,eqPl_dec,wrap1,wrap0,nbeq,hi,comes_call (rmay_spec w (l.getD i (dft tWrite))),(rmay_spec w (l.getD i (dft tWrite))).bprop,h]
end
theorem planKeeps_true (w:Wd) (l:List Wr) (hw:wfD tWorld w) (_:wfD (.sl tWrite) l):Comes (fun nf _ _ _=>innkeeplaw18_PlanKeeps nf (w) (l)) (fun r=>r.1.1=true):=by
  refine Comes.succ (fun nf _ _ _=>innkeeplaw18_PlanKeeps.eq nf _ _) ?_
  simp [-List.getD_eq_getElem?_getD,-List.length_eq_zero_iff,keepAll,freshHas,pathEq,eqPl_dec,wrap1,wrap0,nbeq,comes_call (awake18),(awake18).prop,comes_call (few18 w),(few18 w).bprop,comes_call (full_spec w),(full_spec w).bprop]
  intro fw flw hl
  exact (keeps_l0 (sm_few hw fw.f) (by omega) (w) (false) 0 (Nat.zero_le _) (fun j hj=>by omega)).enter
end Go.Proofs.YtjobjooccgledaaDoor.Ghost
