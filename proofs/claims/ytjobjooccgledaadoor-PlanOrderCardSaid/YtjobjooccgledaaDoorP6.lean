/- What functions come to, and that the statements are answered with 'true'. Conditions: none. -/
import Derived.Test.YtjobjooccgledaaDoorS
import Derived.Test.YtjobjooccgledaaDoorGE
import Derived.Test.YtjobjooccgledaaDoorP1
import Derived.Test.YtjobjooccgledaaDoorP2
import Derived.Test.YtjobjooccgledaaDoorP3
import Derived.Test.YtjobjooccgledaaDoorP4
import Derived.Test.YtjobjooccgledaaDoorP5
set_option linter.unusedVariables false
set_option linter.unusedSimpArgs false
set_option linter.unusedSectionVars false
set_option linter.unnecessarySimpa false
namespace Go.Proofs.YtjobjooccgledaaDoor.Ghost
open Go
def ssOf (ph st:Int) (l:List Wr):Ss:=(0,([]:List ByteArray),0,ph,st,(0,0,0,0,0,([]:List Int),0,([]:List Int),0,()),([]:List (den tPlace)),0,l,(0,0,0,([]:List Int),([]:List (den tSeen)),0,()),false,0,0,0,([]:List (den tPlace)),([]:List Int),0,())
theorem settleW_app:(a b:List Ss)→{w v:Wd}→settleW w a=some v→settleW w (a ++ b)=settleW v b
  | [],b,w,v,h=>by rw [show v=w from (Option.some.inj h).symm]; rfl
  | x :: r,b,w,v,h=>by
    cases hp:decide (phOf x=5) with
    | true =>
      cases e:allW w ((plnOf x).drop (stOf x).toNat) with
      | none=>simp only [settleW,hp,cond_true,e] at h; cases h
      | some w1 =>
        simp only [settleW,List.cons_append,hp,cond_true,e] at h ⊢
        exact settleW_app r b h
    | false =>
      simp only [settleW,List.cons_append,hp,cond_false] at h ⊢
      exact settleW_app r b h
theorem phase_of {a:Int} (h:wfD (.int .u8) a):∃ k:Int,Int.tmod (IntKind.wrap .i64 a) 13=k:=⟨_,rfl⟩
section
variable {w:Wd} (s:Sm w) {l:List Wr} (hl:l.length≤40) (hm:∀ x,x∈l→MayW w x) {rs:List Int} (hr:rs.length≤6) (hu:∀ i,i<rs.length→wfD (.int .u8) (rs.getD i 0))
include s hl hm hr hu
theorem settles_l1 (t0:(den tWorld)) (t3:Int) (t8:Bool) (t9:Int):∀ i,i≤rs.length→∀ (v:Wd) (o:List Ss),o.length≤2 * i→(∀ x,x∈o→GoodS w x)→settleW w o=some v→Like w v →
    Comes (fun nf fm0 _ _=>innkeeplaw18_PlanSettles.l1 nf fm0 t0 (l) (rs) t3 t8 t9 ((i:Int)) (w) (v) (o)) (fun r=>r.1.1=true):=by
  refine upto (fun v o ho hg e k => ?_) (fun i hi next v o ho hg e k => ?_)
  · have sv:=k.sm s
    have n0:Comes (fun nf _ _ _=>plan_Settled nf (w) (([]:List Ss))) (fun r=>r=((w,()),[(0,[1]),(0,[3])])):=settled_spec s (l:=[]) (by simp) (fun x hx=>by cases hx) rfl
    refine Comes.succ1 (fun nf fm0 _ _=>innkeeplaw18_PlanSettles.l1_eq nf fm0 _ _ _ _ _ _ _ _ _ _) ?_
    simp [-List.getD_eq_getElem?_getD,-List.length_eq_zero_iff,keepAll,freshHas,pathEq,eqPl_dec,wrap1,wrap0,nbeq,comes_call (settled_spec s (by omega) hg e),(settled_spec s (by omega) hg e).prop,comes_call (rsettled_spec s (by omega) hg e),(rsettled_spec s (by omega) hg e).prop,comes_call (same_spec v v sv sv),(same_spec v v sv sv).bprop,comes_call (n0),(n0).prop,comes_call (same_spec w w s s),(same_spec w w s s).bprop]
  · obtain ⟨j,hj,ej⟩:=index_of (hu i hi) (show 0<l.length+1 by omega)
    have ew:IntKind.wrap .i64 ((List.length l:Int)+1)=((l.length+1:Nat):Int):=wrap_succ (by omega)
    obtain ⟨v1,e1,k1⟩:=mays_some (l.drop j) (w:=v) (fun y hy=>k.may (hm y (List.mem_of_mem_drop hy)))
    have sv:=k.sm s
    have ea:=all_spec sv (l:=l.drop j) (by simp; omega) e1
    have good:∀ ph:Int,GoodS w (ssOf ph (j:Int) l)∧GoodS w (ssOf ph 0 l):=fun ph=>⟨fun _=>⟨⟨Int.natCast_nonneg j,by show (j:Int)≤(List.length l:Int); omega⟩,(by show List.length l≤_; omega),hm⟩,fun _=>⟨⟨Int.le_refl 0,by show (0:Int)≤(List.length l:Int); omega⟩,(by show List.length l≤_; omega),hm⟩⟩
    have e2:settleW w (o ++ [ssOf 5 (j:Int) l])=some v1:=by
      rw [settleW_app o _ e]
      show (match allW v (l.drop j) with | some w'=>settleW w' [] | none=>none)=some v1
      rw [e1]; rfl
    have g2:∀ x,x∈o ++ [ssOf 5 (j:Int) l]→GoodS w x:=fun x hx=>by
      rcases List.mem_append.1 hx with h | h
      · exact hg x h
      · rw [List.mem_singleton] at h; subst h; exact (good 5).1
    refine Comes.succ1 (fun nf fm0 _ _=>innkeeplaw18_PlanSettles.l1_eq nf fm0 _ _ _ _ _ _ _ _ _ _) ?_
    rw [ew,Int.toNat_natCast,ej]
    have hne:¬ ((l.length+1:Nat):Int)=0:=by omega
    by_cases p:Int.tmod (IntKind.wrap .i64 t3) 13=5
    · have nx:=next v1 (o ++ [ssOf 5 (j:Int) l]) (by simp; omega) g2 e2 (k.trans k1)
      rw [← wrap_succ (by omega)] at nx
      simp [-List.getD_eq_getElem?_getD,-List.length_eq_zero_iff,keepAll,freshHas,pathEq,eqPl_dec,wrap1,wrap0,nbeq,hi,hne,p,comes_call (ea),(ea).prop]
      exact ⟨by omega,by omega,by omega,nx⟩
    · have e3:settleW w ((o ++ [ssOf 5 (j:Int) l]) ++ [ssOf (Int.tmod (IntKind.wrap .i64 t3) 13) 0 l])=some v1:=by
        rw [settleW_app _ _ e2]
        show (bif decide (Int.tmod (IntKind.wrap .i64 t3) 13=5) then _ else settleW v1 [])=some v1
        rw [decide_eq_false p]; rfl
      have nx:=next v1 ((o ++ [ssOf 5 (j:Int) l]) ++ [ssOf (Int.tmod (IntKind.wrap .i64 t3) 13) 0 l]) (by simp; omega) (fun x hx=>by
        rcases List.mem_append.1 hx with h | h
        · exact g2 x h
        · rw [List.mem_singleton] at h; subst h; exact (good _).2) e3 (k.trans k1)
      rw [← wrap_succ (by omega)] at nx
      simp [-List.getD_eq_getElem?_getD,-List.length_eq_zero_iff,keepAll,freshHas,pathEq,eqPl_dec,wrap1,wrap0,nbeq,hi,hne,p,comes_call (ea),(ea).prop]
      exact ⟨by omega,by omega,by omega,by omega,by simpa [ssOf] using nx⟩
end
section
variable {w:Wd} (s:Sm w) {l:List Wr} (hl:l.length≤40) {rs:List Int} (hr:rs.length≤6) (hu:∀ i,i<rs.length→wfD (.int .u8) (rs.getD i 0))
include s hl hr hu
theorem settles_l0 (t0:(den tWorld)) (t3:Int) (t8:Bool):∀ i,i≤l.length→(∀ j,j<i→MayW w (l.getD j (dft tWrite)))→Comes (fun nf fm0 _ _=>innkeeplaw18_PlanSettles.l0 nf fm0 t0 (l) (rs) t3 t8 ((i:Int)) (w)) (fun r=>r.1.1=true):=by
  refine upto (fun hm => ?_) (fun i hi next hm => ?_)
  · have hm':∀ x,x∈l→MayW w x:=fun x hx=>by
      obtain ⟨j,hj,rfl⟩:=List.getElem_of_mem hx
      have:=hm j hj
      rwa [List.getD_eq_getElem?_getD,List.getElem?_eq_getElem hj] at this
    refine Comes.succ1 (fun nf fm0 _ _=>innkeeplaw18_PlanSettles.l0_eq nf fm0 _ _ _ _ _ _ _) ?_
    simp [-List.getD_eq_getElem?_getD,-List.length_eq_zero_iff,keepAll,freshHas,pathEq,eqPl_dec,wrap1,wrap0,nbeq]
    exact (settles_l1 s hl hm' hr hu (t0) (t3) (t8) ((l.length:Int)) 0 (Nat.zero_le _) w [] (Nat.le_refl _) (fun x hx=>by cases hx) rfl (Like.refl w)).enter
  · refine Comes.succ1 (fun nf fm0 _ _=>innkeeplaw18_PlanSettles.l0_eq nf fm0 _ _ _ _ _ _ _) ?_
    rw [← wrap_succ (by omega)] at next
    by_cases h:MayW w (l.getD i (dft tWrite))
    · simp [-List.getD_eq_getElem?_getD,-List.length_eq_zero_iff,keepAll,freshHas,pathEq,eqPl_dec,wrap1,wrap0,nbeq,hi,comes_call (rmay_spec w (l.getD i (dft tWrite))),(rmay_spec w (l.getD i (dft tWrite))).bprop,h]
      refine next (fun j hj => ?_)
      by_cases hji:j=i
      · subst hji; exact h
      · exact hm j (by omega)
    · simp [-List.getD_eq_getElem?_getD,-List.length_eq_zero_iff,keepAll,freshHas,pathEq,eqPl_dec,wrap1,wrap0,nbeq,hi,comes_call (rmay_spec w (l.getD i (dft tWrite))),(rmay_spec w (l.getD i (dft tWrite))).bprop,h]
end
theorem planSettles_true (w:Wd) (l:List Wr) (rs:List Int) (a:Int) (hw:wfD tWorld w) (_:wfD (.sl tWrite) l) (hrs:wfD (.sl (.int .u8)) rs) (_:wfD (.int .u8) a):Comes (fun nf _ _ _=>innkeeplaw18_PlanSettles nf (w) (l) (rs) (a)) (fun r=>r.1.1=true):=by
  refine Comes.succ (fun nf _ _ _=>innkeeplaw18_PlanSettles.eq nf _ _ _ _) ?_
  simp [-List.getD_eq_getElem?_getD,-List.length_eq_zero_iff,keepAll,freshHas,pathEq,eqPl_dec,wrap1,wrap0,nbeq,comes_call (awake18),(awake18).prop,comes_call (few18 w),(few18 w).bprop,comes_call (full_spec w),(full_spec w).bprop]
  intro fw flw hl hr
  have hall:∀ y:Int,y∈rs→wfD (.int .u8) y:=hrs.2
  exact (settles_l0 (sm_few hw fw.f) (by omega) (by omega) (fun i hi=>hall _ (getD_mem' _ hi)) (w) (a) (false) 0 (Nat.zero_le _) (fun j hj=>by omega)).enter
end Go.Proofs.YtjobjooccgledaaDoor.Ghost
