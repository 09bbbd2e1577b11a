/- What functions come to, and that the statements are answered with 'true'. Conditions: none. -/
import Derived.Test.YtjobjooccgledaaDoorS
import Derived.Test.YtjobjooccgledaaDoorGE
import Derived.Test.YtjobjooccgledaaDoorP1
import Derived.Test.YtjobjooccgledaaDoorP2
import Derived.Test.YtjobjooccgledaaDoorP3
set_option linter.unusedVariables false
set_option linter.unusedSimpArgs false
set_option linter.unusedSectionVars false
set_option linter.unnecessarySimpa false
namespace Go.Proofs.YtjobjooccgledaaDoor.Ghost
open Go
abbrev Wd:=den tWorld
theorem setI_some {α:Type} {l:List α} {i:Int} {x:α} (h0:0≤i) (h1:i<((List.length l:Nat):Int)):setI l i x=some (List.set l i.toNat x):=by unfold setI; rw [if_pos ⟨h0,h1⟩]
theorem setI_inv {α:Type} {l l':List α} {i:Int} {x:α} (h:setI l i x=some l'):0≤i∧i<((List.length l:Nat):Int)∧l'=List.set l i.toNat x:=by
  unfold setI at h
  split at h
  · rename_i hh; simp only [Option.some.injEq] at h; exact ⟨hh.1,hh.2,h.symm⟩
  · cases h
def MayW (w:Wd) (x:Wr):Prop:=(0:Int)≤x.2.1∧((x.1=(0:Int)∧x.2.1<((List.length (w.2.1:List Int):Nat):Int))∨(x.1=(1:Int)∧x.2.1<((List.length (w.2.2.1:List Int):Nat):Int))∨(x.1=(2:Int)∧x.2.1<((List.length (w.2.2.2.1:List Pl):Nat):Int)))
theorem wr0 {w:Wd} {x:Wr} (h:x.1=(0:Int)) (h0:(0:Int)≤x.2.1) (h1:x.2.1<((List.length (w.2.1:List Int):Nat):Int)):wrW w x=some (w.1,List.set (w.2.1:List Int) (Int.toNat x.2.1) x.2.2.1,w.2.2.1,w.2.2.2.1,()):=by
  unfold wrW; rw [decide_eq_true h,cond_true,setI_some h0 h1]
theorem wr1 {w:Wd} {x:Wr} (h:x.1=(1:Int)) (h0:(0:Int)≤x.2.1) (h1:x.2.1<((List.length (w.2.2.1:List Int):Nat):Int)):wrW w x=some (w.1,w.2.1,List.set (w.2.2.1:List Int) (Int.toNat x.2.1) x.2.2.1,w.2.2.2.1,()):=by
  unfold wrW; rw [decide_eq_false (show ¬ x.1=(0:Int) by rw [h]; decide),cond_false,decide_eq_true h,cond_true,setI_some h0 h1]
theorem wr2 {w:Wd} {x:Wr} (h:x.1=(2:Int)) (h0:(0:Int)≤x.2.1) (h1:x.2.1<((List.length (w.2.2.2.1:List Pl):Nat):Int)):wrW w x=some (w.1,w.2.1,w.2.2.1,List.set (w.2.2.2.1:List Pl) (Int.toNat x.2.1) x.2.2.2.1,()):=by
  unfold wrW; rw [decide_eq_false (show ¬ x.1=(0:Int) by rw [h]; decide),cond_false,decide_eq_false (show ¬ x.1=(1:Int) by rw [h]; decide),cond_false,decide_eq_true h,cond_true,setI_some h0 h1]
structure Like (w v:Wd):Prop where
  d:v.1=w.1
  a:List.length (v.2.1:List Int)=List.length (w.2.1:List Int)
  c:List.length (v.2.2.1:List Int)=List.length (w.2.2.1:List Int)
  h:List.length (v.2.2.2.1:List Pl)=List.length (w.2.2.2.1:List Pl)
theorem Like.refl (w:Wd):Like w w:=⟨rfl,rfl,rfl,rfl⟩
theorem Like.trans {u v w:Wd} (h:Like u v) (k:Like v w):Like u w:=⟨k.d.trans h.d,k.a.trans h.a,k.c.trans h.c,k.h.trans h.h⟩
theorem Like.symm {u v:Wd} (h:Like u v):Like v u:=⟨h.d.symm,h.a.symm,h.c.symm,h.h.symm⟩
theorem Like.sm {w v:Wd} (h:Like w v) (s:Sm w):Sm v:=⟨by rw [h.d]; exact s.e,by rw [h.d]; exact s.b,by rw [h.d]; exact s.p,by rw [h.d]; exact s.c,by rw [h.d]; exact s.i,by rw [h.a]; exact s.a,by rw [h.c]; exact s.wc,by rw [h.h]; exact s.wh,by rw [h.d]; exact s.rows⟩
theorem Like.may {w v:Wd} (h:Like w v) {x:Wr} (m:MayW w x):MayW v x:=by unfold MayW; rw [h.a,h.c,h.h]; exact m
theorem like_a (w:Wd) {a:List Int} (ha:a.length=List.length (w.2.1:List Int)):Like w (w.1,a,w.2.2.1,w.2.2.2.1,()):=⟨rfl,ha,rfl,rfl⟩
theorem may_some {w:Wd} {x:Wr} (h:MayW w x):∃ w',wrW w x=some w'∧Like w w':=by
  obtain ⟨h0,⟨h1,h2⟩ | ⟨h1,h2⟩ | ⟨h1,h2⟩⟩:=h
  · exact ⟨_,wr0 h1 h0 h2,⟨rfl,List.length_set,rfl,rfl⟩⟩
  · exact ⟨_,wr1 h1 h0 h2,⟨rfl,rfl,List.length_set,rfl⟩⟩
  · exact ⟨_,wr2 h1 h0 h2,⟨rfl,rfl,rfl,List.length_set⟩⟩
theorem mays_some:(l:List Wr)→{w:Wd}→(∀ x,x∈l→MayW w x)→∃ w',allW w l=some w'∧Like w w'
  | [],w,_=>⟨w,rfl,Like.refl w⟩
  | x :: r,w,h=>by
    obtain ⟨w1,e1,k1⟩:=may_some (h x (by simp))
    obtain ⟨w2,e2,k2⟩:=mays_some r (w:=w1) (fun y hy=>k1.may (h y (by simp [hy])))
    exact ⟨w2,by simp only [allW,e1]; exact e2,k1.trans k2⟩
theorem allW_app:(l m:List Wr)→{w v:Wd}→allW w l=some v→allW w (l ++ m)=allW v m
  | [],m,w,v,h=>by rw [show v=w from (Option.some.inj h).symm]; rfl
  | x :: r,m,w,v,h=>by
    simp only [allW,List.cons_append] at h ⊢
    split at h
    · rename_i w1 e; exact allW_app r m h
    · cases h
theorem rmay_spec (w:Wd) (x:Wr):Comes (fun nf _ _ _=>innkeepref18_May nf (w) (x)) (fun r=>r.1.1=true↔MayW w x):=by
  refine Comes.succ (fun nf _ _ _=>innkeepref18_May.eq nf _ _) ?_
  unfold MayW
  by_cases h0:(0:Int)≤x.2.1
  · by_cases e0:x.1=(0:Int)
    · by_cases l0:x.2.1<((List.length (w.2.1:List Int):Nat):Int) <;> simp [h0,e0,l0]
    · by_cases e1:x.1=(1:Int)
      · by_cases l1:x.2.1<((List.length (w.2.2.1:List Int):Nat):Int) <;> simp [h0,e1,l1]
      · by_cases e2:x.1=(2:Int)
        · simp [h0,e2]
        · simp [h0,e0,e1,e2]
  · simp [h0]
theorem rdo_spec {w w':Wd} {x:Wr} (s:Sm w) (h:MayW w x) (e:wrW w x=some w'):Comes (fun nf _ _ _=>innkeepref18_Do nf (w) (x)) (fun r=>r=((w',()),[(0,[1]),(0,[2]),(0,[3])])):=by
  refine Comes.succ (fun nf _ _ _=>innkeepref18_Do.eq nf _ _) ?_
  obtain ⟨h0,⟨h1,h2⟩ | ⟨h1,h2⟩ | ⟨h1,h2⟩⟩:=h
  · rw [wr0 h1 h0 h2] at e
    simp only [Option.some.injEq] at e
    subst e
    simp [-List.getD_eq_getElem?_getD,-List.length_eq_zero_iff,keepAll,freshHas,pathEq,eqPl_dec,wrap1,wrap0,nbeq,comes_call (copied_spec w s),(copied_spec w s).prop,h0,h1,h2]
  · rw [wr1 h1 h0 h2] at e
    simp only [Option.some.injEq] at e
    subst e
    simp [-List.getD_eq_getElem?_getD,-List.length_eq_zero_iff,keepAll,freshHas,pathEq,eqPl_dec,wrap1,wrap0,nbeq,comes_call (copied_spec w s),(copied_spec w s).prop,h0,h1,h2]
  · rw [wr2 h1 h0 h2] at e
    simp only [Option.some.injEq] at e
    subst e
    simp [-List.getD_eq_getElem?_getD,-List.length_eq_zero_iff,keepAll,freshHas,pathEq,eqPl_dec,wrap1,wrap0,nbeq,comes_call (copied_spec w s),(copied_spec w s).prop,h0,h1,h2]
theorem drop_cons' {α:Type} {l:List α} {i:Nat} (d:α) (h:i<l.length):l.drop i=l.getD i d :: l.drop (i+1):=by
  rw [List.drop_eq_getElem_cons h,List.getD_eq_getElem?_getD,List.getElem?_eq_getElem h]; rfl
theorem rall_l0 (l:List Wr) (hl:l.length≤1048576) (wE:Wd) (t0:(den tWorld)) (o0:(den tWorld)) (o1:(den tWorld)):∀ i,i≤l.length→∀ v,Sm v→(∀ x,x∈l→MayW v x)→allW v (l.drop i)=some wE→Comes (fun nf fm0 _ _=>innkeepref18_All.l0 nf fm0 t0 (l) ((i:Int)) o0 o1 (v)) (fun r=>r=((wE,()),[])):=by
  refine upto (fun v s hm e => ?_) (fun i hi next v s hm e => ?_)
  · rw [List.drop_length] at e
    cases e
    refine Comes.succ1 (fun nf fm0 _ _=>innkeepref18_All.l0_eq nf fm0 _ _ _ _ _ _) ?_
    simp [-List.getD_eq_getElem?_getD,-List.length_eq_zero_iff,keepAll,freshHas,pathEq,eqPl_dec,wrap1,wrap0,nbeq]
  · rw [drop_cons' (dft tWrite) hi] at e
    have hmem:l.getD i (dft tWrite)∈l:=getD_mem' _ hi
    obtain ⟨v1,e1,k1⟩:=may_some (hm _ hmem)
    simp only [allW,e1] at e
    have nx:=next v1 (k1.sm s) (fun x hx=>k1.may (hm x hx)) e
    rw [← wrap_succ (by omega)] at nx
    refine Comes.succ1 (fun nf fm0 _ _=>innkeepref18_All.l0_eq nf fm0 _ _ _ _ _ _) ?_
    simp [-List.getD_eq_getElem?_getD,-List.length_eq_zero_iff,keepAll,freshHas,pathEq,eqPl_dec,wrap1,wrap0,nbeq,hi,comes_call (rdo_spec s (hm _ hmem) e1),(rdo_spec s (hm _ hmem) e1).prop]
    exact nx
theorem rall_spec {w wE:Wd} {l:List Wr} (s:Sm w) (hl:l.length≤1048576) (hm:∀ x,x∈l→MayW w x) (e:allW w l=some wE):Comes (fun nf _ _ _=>innkeepref18_All nf (w) (l)) (fun r=>r=((wE,()),[])):=by
  refine Comes.succ (fun nf _ _ _=>innkeepref18_All.eq nf _ _) ?_
  simp [-List.getD_eq_getElem?_getD,-List.length_eq_zero_iff,keepAll,freshHas,pathEq,eqPl_dec,wrap1,wrap0,nbeq,comes_call (copied_spec w s),(copied_spec w s).prop]
  exact (rall_l0 l hl wE w w _ 0 (Nat.zero_le _) w s hm e).enter
theorem all_spec {w wE:Wd} {l:List Wr} (s:Sm w) (hl:l.length≤1048576) (e:allW w l=some wE):Comes (fun nf _ _ _=>plan_All nf (w) (l)) (fun r=>r=((wE,()),[(0,[1]),(0,[2]),(0,[3])])):=by
  refine Comes.succ (G:=fun _ _ _ _=>some ((wE,()),[(0,[1]),(0,[2]),(0,[3])])) (fun n _ _ _ => ?_) (Comes.ret rfl)
  show (if List.length (w.2.1:List Int)≤1048576∧List.length (w.2.2.1:List Int)≤1048576∧List.length (w.2.2.2.1:List Pl)≤1048576∧List.length l≤1048576 then (match allW w l with
      | some w'=>some ((w',()),[(0,[1]),(0,[2]),(0,[3])])
      | none=>none) else none)=some ((wE,()),[(0,[1]),(0,[2]),(0,[3])])
  rw [if_pos ⟨s.a,s.wc,s.wh,hl⟩,e]
theorem pdo_spec {w w':Wd} {x:Wr} (s:Sm w) (e:wrW w x=some w'):Comes (fun nf _ _ _=>plan_Do nf (w) (x)) (fun r=>r=((w',()),[])):=by
  have e1:allW w [x]=some w':=by simp only [allW,e]
  refine Comes.succ (fun nf _ _ _=>plan_Do.eq nf _ _) ?_
  simp [comes_call (all_spec s (l:=[x]) (by simp) e1),(all_spec s (l:=[x]) (by simp) e1).prop]
theorem rsame18_l0 (a b:List Wr) (ha:a.length≤1048576) (hl:a.length=b.length) (t4:Bool):∀ i,i≤a.length→Comes (fun nf fm0 _ _=>innkeepref18_Same.l0 nf fm0 (a) (b) t4 ((i:Int))) (fun r=>r=((dec (∀ j,i≤j→j<a.length→List.getD a j (dft tWrite)=List.getD b j (dft tWrite)),()),[])):=by
  have eqWr:∀ x y:Wr,eqT tWrite x y=dec (x=y):=fun x y=>by
    obtain ⟨a1,a2,a3,⟨a4,a5,⟨⟩⟩,⟨⟩⟩:=x
    obtain ⟨b1,b2,b3,⟨b4,b5,⟨⟩⟩,⟨⟩⟩:=y
    rw [Bool.eq_iff_iff,dec_true]
    simp [eqT,eqTL]
  refine upto ?_ (fun i hi next => ?_)
  · refine Comes.succ1 (fun nf fm0 _ _=>innkeepref18_Same.l0_eq nf fm0 _ _ _ _) ?_
    simp [-List.getD_eq_getElem?_getD,-List.length_eq_zero_iff,keepAll,freshHas,pathEq,eqPl_dec,wrap1,wrap0,nbeq]
    intro j h1 h2; omega
  · rw [← wrap_succ (by omega)] at next
    have hi2:i<b.length:=by omega
    refine Comes.succ1 (fun nf fm0 _ _=>innkeepref18_Same.l0_eq nf fm0 _ _ _ _) ?_
    by_cases e:List.getD a i (dft tWrite)=List.getD b i (dft tWrite)
    · simp [-List.getD_eq_getElem?_getD,-List.length_eq_zero_iff,keepAll,freshHas,pathEq,eqPl_dec,wrap1,wrap0,nbeq,hi,hi2,e,eqWr]
      refine next.mono (fun v hv => ?_)
      rw [hv]
      have:(∀ j,i+1≤j→j<a.length→List.getD a j (dft tWrite)=List.getD b j (dft tWrite))=(∀ j,i≤j→j<a.length→List.getD a j (dft tWrite)=List.getD b j (dft tWrite)):=propext ⟨fun h j h1 h2=>by
        by_cases hj:j=i
        · subst hj; exact e
        · exact h j (by omega) h2,fun h j h1 h2=>h j (by omega) h2⟩
      rw [this]
    · simp [-List.getD_eq_getElem?_getD,-List.length_eq_zero_iff,keepAll,freshHas,pathEq,eqPl_dec,wrap1,wrap0,nbeq,hi,hi2,e,eqWr]
      exact ⟨i,Nat.le_refl i,hi,e⟩
theorem rsame18_spec (a b:List Wr) (ha:a.length≤1048576):Comes (fun nf _ _ _=>innkeepref18_Same nf (a) (b)) (fun r=>r=((dec (a=b),()),[])):=by
  by_cases hl:a.length=b.length
  · have l0:=(rsame18_l0 a b ha hl false 0 (Nat.zero_le _))
    have:(∀ j,0≤j→j<a.length→List.getD a j (dft tWrite)=List.getD b j (dft tWrite))=(a=b):=propext ⟨fun h=>ext_getD (dft tWrite) hl (fun j hj=>h j (Nat.zero_le j) hj),fun h j _ _=>by rw [h]⟩
    rw [this] at l0
    refine Comes.succ (fun nf _ _ _=>innkeepref18_Same.eq nf _ _) ?_
    simp [-List.getD_eq_getElem?_getD,-List.length_eq_zero_iff,keepAll,freshHas,pathEq,eqPl_dec,wrap1,wrap0,nbeq,hl]
    exact l0.enter
  · have e:¬ a=b:=fun e=>hl (by rw [e])
    refine Comes.succ (fun nf _ _ _=>innkeepref18_Same.eq nf _ _) ?_
    simp [-List.getD_eq_getElem?_getD,-List.length_eq_zero_iff,keepAll,freshHas,pathEq,eqPl_dec,wrap1,wrap0,nbeq,hl,e,show ¬ (a.length:Int)=(b.length:Int) by omega]
structure FullP (w:Wd):Prop where
  a:List.length (w.2.1:List Int)=List.length (w.1.2.1:List Int)
  c:List.length (w.2.2.1:List Int)=List.length (w.1.2.1:List Int)
  h:List.length (w.2.2.2.1:List Pl)=List.length (w.1.2.2.2.1:List Int)
theorem full_spec (w:Wd):Comes (fun nf _ _ _=>innkeepref18_Full nf (w)) (fun r=>r.1.1=true↔FullP w):=by
  have key:FullP w↔(List.length (w.2.1:List Int)=List.length (w.1.2.1:List Int)∧List.length (w.2.2.1:List Int)=List.length (w.1.2.1:List Int)∧List.length (w.2.2.2.1:List Pl)=List.length (w.1.2.2.2.1:List Int)):=⟨fun h=>⟨h.a,h.c,h.h⟩,fun h=>⟨h.1,h.2.1,h.2.2⟩⟩
  refine Comes.succ (fun nf _ _ _=>innkeepref18_Full.eq nf _) ?_
  rw [key]
  by_cases h1:List.length (w.2.1:List Int)=List.length (w.1.2.1:List Int)
  · by_cases h2:List.length (w.2.2.1:List Int)=List.length (w.1.2.1:List Int)
    · simp [-List.length_eq_zero_iff,h1,h2]; omega
    · simp [-List.length_eq_zero_iff,h1,h2]; omega
  · simp [-List.length_eq_zero_iff,h1]; omega
theorem sm_few {w:Wd} (hw:wfD tWorld w) (f:FewP w):Sm w:=by
  obtain ⟨f1,f2,f3,f4,f5,f6,f7,f8⟩:=f
  refine ⟨by omega,by omega,by omega,by omega,by omega,by omega,by omega,by omega,fun i hi => ?_⟩
  have h1:∀ y:List Int,y∈(w.1.1:List (List Int))→wfD (.arr 4 (.int .i64)) y:=hw.1.1.2
  exact (h1 _ (getD_mem' _ hi)).1
theorem awake18:Comes (fun nf _ _ _=>innkeeplaw18_awake nf) (fun r=>r.1.1=true):=Comes.one 60 (r:=((true,()),[])) (by kernel_rfl) rfl
end Go.Proofs.YtjobjooccgledaaDoor.Ghost
