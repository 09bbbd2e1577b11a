/- What functions come to, and that the statements are answered with 'true'. Conditions: none. -/
import Derived.Test.YtmemggdjnfccfaaS
import Derived.Test.YtmemggdjnfccfaaGE
import Derived.Test.YtmemggdjnfccfaaP1
import Derived.Test.YtmemggdjnfccfaaP2
import Derived.Test.YtmemggdjnfccfaaP3
import Derived.Test.YtmemggdjnfccfaaP4
import Derived.Test.YtmemggdjnfccfaaP5
import Derived.Test.YtmemggdjnfccfaaP6
set_option linter.unusedVariables false
set_option linter.unusedSimpArgs false
set_option linter.unusedSectionVars false
set_option linter.unnecessarySimpa false
namespace Go.Proofs.Ytmemggdjnfccfaa.Ghost
open Go
theorem awake16:Comes (fun nf _ _ _=>innkeeplaw16_awake nf) (fun r=>r.1.1=true):=Comes.one 60 (r:=((true,()),[])) (by kernel_rfl) rfl
theorem fits16 (w:den tWorld):Comes (fun nf _ _ _=>innkeeplaw16_fits nf (w)) (fun r=>r.1.1=true↔FewP w∧RightP w):=by
  refine Comes.succ (fun n _ _ _=>innkeeplaw16_fits.eq n w) (Comes.call (few_spec w) (fun v hv=>Comes.bif (fun hb=>Comes.call (right_spec w) (fun u hu=>Comes.ret ?_)) (fun hb=>Comes.ret ?_)))
  · exact ⟨fun e=>⟨hv.1 hb,hu.1 e⟩,fun e=>hu.2 e.2⟩
  · exact ⟨(fun e=>by cases e),fun e=>by rw [hv.2 e.1] at hb; cases hb⟩
theorem drop_getD {α:Type} (d:α) {l:List α} {k:Nat} (h:k<l.length):l.drop k=l.getD k d :: l.drop (k+1):=by
  rw [List.drop_eq_getElem_cons h,List.getD_eq_getElem?_getD,List.getElem?_eq_getElem h]; rfl
def isR (x:Ky):Bool:=decide ((x.1:Int)=0)
def cnR (l:List Ky):Nat:=(l.filter isR).length
def cnP (l:List Ky):Nat:=(l.filter (fun x => !isR x)).length
def Another (w:den tWorld) (i:Nat) (c:Cm):Prop:=(cKind c=2∨cKind c=7∨cKind c=8)∧cWho c<(List.length (w.2.1:List Int):Int)∧¬ cWho c=(i:Int)
structure FewOk (w:den tWorld) (i:Nat) (c:Cm) (R S:Nat):Prop where
  r:R=1∨(R=2∧(cKind c=1∨cKind c=2))
  s:(S=1∧¬ Another w i c)∨(S=2∧Another w i c)
theorem few16_l0 (w:den tWorld) (i:Nat) (c:Cm) (l:List Ky) (hl:l.length≤1048576) (R S:Nat) (hf:FewOk w i c R S) (t0:(den tWorld)) (t1:Int) (t2:(den tCmd)) (t6:Bool):∀ k,k≤l.length→∀ a b:Nat,a+cnR (l.drop k)=R→b+cnP (l.drop k)=S →
    Comes (fun nf fm0 _ _=>innkeeplaw16_FootFew.l0 nf fm0 t0 t1 t2 t6 ((i:Int)) (l) ((a:Int)) ((b:Int)) ((k:Int)) (w) (c)) (fun r=>r.1.1=true):=by
  refine upto ?_ (fun k hk next => ?_)
  · intro a b ha hb
    rw [List.drop_length] at ha hb
    have ha:a=R:=ha
    have hb:b=S:=hb
    subst ha; subst hb
    refine Comes.succ1 (fun nf fm0 _ _=>innkeeplaw16_FootFew.l0_eq nf fm0 _ _ _ _ _ _ _ _ _ _ _) ?_
    have hfs:=hf.s
    unfold Another at hfs
    have hkk:cKind c=1∨cKind c=2∨cKind c=7∨cKind c=8∨(¬ cKind c=1∧¬ cKind c=2∧¬ cKind c=7∧¬ cKind c=8):=by omega
    by_cases hq:cWho c<(List.length (w.2.1:List Int):Int) <;> by_cases hqi:cWho c=(i:Int) <;> rcases hf.r with rfl | ⟨rfl,hg⟩ <;> rcases hfs with ⟨rfl,hs⟩ | ⟨rfl,hs⟩ <;> rcases hkk with q | q | q | q | ⟨q1,q2,q3,q4⟩ <;> simp_all [-List.getD_eq_getElem?_getD,-List.length_eq_zero_iff,keepAll,freshHas,pathEq,eqPl_dec,wrap1,wrap0,nbeq]
  · intro a b ha hb
    rw [drop_getD (dft tPlace) hk] at ha hb
    have hR:R≤2:=by rcases hf.r with h | h <;> omega
    have hS:S≤2:=by rcases hf.s with h | h <;> omega
    refine Comes.succ1 (fun nf fm0 _ _=>innkeeplaw16_FootFew.l0_eq nf fm0 _ _ _ _ _ _ _ _ _ _ _) ?_
    rw [← wrap_succ (by omega)] at next
    by_cases hr:((List.getD l k (dft tPlace)).1:Int)=0
    · have e1:isR (List.getD l k (dft tPlace))=true:=decide_eq_true hr
      have h1:cnR (List.getD l k (dft tPlace) :: l.drop (k+1))=cnR (l.drop (k+1))+1:=by unfold cnR; rw [List.filter_cons_of_pos e1]; rfl
      have h2:cnP (List.getD l k (dft tPlace) :: l.drop (k+1))=cnP (l.drop (k+1)):=by unfold cnP; rw [List.filter_cons_of_neg (by rw [e1]; decide)]
      rw [h1] at ha
      rw [h2] at hb
      have:=next (a+1) b (by omega) hb
      rw [← wrap_succ (by omega)] at this
      simp [-List.getD_eq_getElem?_getD,-List.length_eq_zero_iff,keepAll,freshHas,pathEq,eqPl_dec,wrap1,wrap0,nbeq,hk,hr]
      exact this
    · have e1:isR (List.getD l k (dft tPlace))=false:=decide_eq_false hr
      have h1:cnR (List.getD l k (dft tPlace) :: l.drop (k+1))=cnR (l.drop (k+1)):=by unfold cnR; rw [List.filter_cons_of_neg (by rw [e1]; decide)]
      have h2:cnP (List.getD l k (dft tPlace) :: l.drop (k+1))=cnP (l.drop (k+1))+1:=by unfold cnP; rw [List.filter_cons_of_pos (by rw [e1]; rfl)]; rfl
      rw [h1] at ha
      rw [h2] at hb
      have:=next a (b+1) ha (by omega)
      rw [← wrap_succ (by omega)] at this
      simp [-List.getD_eq_getElem?_getD,-List.length_eq_zero_iff,keepAll,freshHas,pathEq,eqPl_dec,wrap1,wrap0,nbeq,hk,hr]
      exact this
theorem same_len {l m:List Ky} (hl:l.Nodup) (hm:m.Nodup) (h:∀ x,x∈l↔x∈m):l.length=m.length :=
  Nat.le_antisymm (hl.length_le_of_subset (fun x hx=>(h x).1 hx)) (hm.length_le_of_subset (fun x hx=>(h x).2 hx))
theorem ascN {l:List Ky} (h:Asc l):l.Nodup:=List.Pairwise.imp (fun {a b} hab e=>by subst e; exact kLt_irrefl a hab) h
theorem ky_eq {x:Ky} {a b:Int}:x=((a,b,()):Ky)↔(x.1:Int)=a∧(x.2.1:Int)=b:=by
  obtain ⟨x1,x2,⟨⟩⟩:=x
  exact ⟨fun h=>by cases h; exact ⟨rfl,rfl⟩,fun ⟨h1,h2⟩=>by show ((x1,x2,()):Int×Int×Unit)=(a,b,()); rw [show x1=a from h1,show x2=b from h2]⟩
def InFoot (w:den tWorld) (i:Nat) (c:Cm) (a b:Int):Prop:=(a=0∧b=atOf w i)∨(a=1∧b=(i:Int))∨(((cKind c=1∨cKind c=2)∧0≤wExit w i (cDir c).toNat)∧a=0∧b=wExit w i (cDir c).toNat)∨(((cKind c=2∨cKind c=7∨cKind c=8)∧cWho c<(List.length (w.2.1:List Int):Int))∧a=1∧b=cWho c)
theorem mem_foot {w:den tWorld} {i:Nat} {c:Cm} {x:Ky}:x∈kSort (footL w i c)↔InFoot w i c x.1 x.2.1:=by
  rw [mem_kSort]
  unfold InFoot footL footA footB footC
  rw [List.mem_append,List.mem_append,List.mem_cons,List.mem_singleton,ky_eq,ky_eq]
  have e1:∀ (p:Prop) [Decidable p] (a b:Int),(x∈(if p then [((a,b,()):Ky)] else [])↔p∧(x.1:Int)=a∧(x.2.1:Int)=b):=fun p _ a b=>by
    by_cases hp:p
    · rw [if_pos hp,List.mem_singleton,ky_eq]; exact ⟨fun h=>⟨hp,h⟩,fun h=>h.2⟩
    · rw [if_neg hp]; exact ⟨fun h=>absurd h List.not_mem_nil,fun h=>absurd h.1 hp⟩
  rw [e1,e1,or_assoc]
theorem isR_iff {x:Ky}:isR x=true↔(x.1:Int)=0:=by unfold isR; exact decide_eq_true_iff
theorem few_ok {w:den tWorld} {i:Nat} {c:Cm}:FewOk w i c (cnR (kSort (footL w i c))) (cnP (kSort (footL w i c))):=by
  have nd:=ascN (asc_kSort (footL w i c))
  have nR:=nd.filter isR
  have nP:=nd.filter (fun x => !isR x)
  have n2:∀ (a b a' b':Int),¬ b=b'→[((a,b,()):Ky),((a',b',()):Ky)].Nodup:=fun a b a' b' h=>by
    refine List.nodup_cons.2 ⟨fun hm=>h ?_,List.nodup_cons.2 ⟨List.not_mem_nil,List.nodup_nil⟩⟩
    have:=(ky_eq.1 (List.mem_singleton.1 hm)).2
    exact this
  have n1:∀ (a b:Int),[((a,b,()):Ky)].Nodup:=fun a b=>List.nodup_cons.2 ⟨List.not_mem_nil,List.nodup_nil⟩
  have hR:∀ x:Ky,x∈(kSort (footL w i c)).filter isR↔InFoot w i c x.1 x.2.1∧(x.1:Int)=0:=fun x=>by rw [List.mem_filter,mem_foot,isR_iff]
  have hP:∀ x:Ky,x∈(kSort (footL w i c)).filter (fun x => !isR x)↔InFoot w i c x.1 x.2.1∧¬ (x.1:Int)=0:=fun x=>by rw [List.mem_filter,mem_foot,Bool.not_eq_true',← isR_iff,Bool.not_eq_true]
  have core1:∀ a b:Int,((cKind c=1∨cKind c=2)∧0≤wExit w i (cDir c).toNat)→(InFoot w i c a b∧a=0↔(a=0∧b=atOf w i)∨(a=0∧b=wExit w i (cDir c).toNat)):=fun a b hg=>by
    unfold InFoot
    constructor
    · rintro ⟨h | h | h | h,ha⟩
      · exact .inl h
      · omega
      · exact .inr h.2
      · omega
    · rintro (h | h)
      · exact ⟨.inl h,h.1⟩
      · exact ⟨.inr (.inr (.inl ⟨hg,h⟩)),h.1⟩
  have core2:∀ a b:Int,¬ ((cKind c=1∨cKind c=2)∧0≤wExit w i (cDir c).toNat)→(InFoot w i c a b∧a=0↔(a=0∧b=atOf w i)):=fun a b hg=>by
    unfold InFoot
    constructor
    · rintro ⟨h | h | h | h,ha⟩
      · exact h
      · omega
      · exact absurd h.1 hg
      · omega
    · intro h
      exact ⟨.inl h,h.1⟩
  have core3:∀ a b:Int,((cKind c=2∨cKind c=7∨cKind c=8)∧cWho c<(List.length (w.2.1:List Int):Int))→(InFoot w i c a b∧¬ a=0↔(a=1∧b=(i:Int))∨(a=1∧b=cWho c)):=fun a b hg=>by
    unfold InFoot
    constructor
    · rintro ⟨h | h | h | h,ha⟩
      · exact absurd h.1 ha
      · exact .inl h
      · exact absurd h.2.1 ha
      · exact .inr h.2
    · rintro (h | h)
      · exact ⟨.inr (.inl h),by omega⟩
      · exact ⟨.inr (.inr (.inr ⟨hg,h⟩)),by omega⟩
  have core4:∀ a b:Int,¬ ((cKind c=2∨cKind c=7∨cKind c=8)∧cWho c<(List.length (w.2.1:List Int):Int))→(InFoot w i c a b∧¬ a=0↔(a=1∧b=(i:Int))):=fun a b hg=>by
    unfold InFoot
    constructor
    · rintro ⟨h | h | h | h,ha⟩
      · exact absurd h.1 ha
      · exact h
      · exact absurd h.2.1 ha
      · exact absurd h.1 hg
    · intro h
      exact ⟨.inr (.inl h),by omega⟩
  constructor
  · by_cases hg:(cKind c=1∨cKind c=2)∧0≤wExit w i (cDir c).toNat
    · by_cases he:wExit w i (cDir c).toNat=atOf w i
      · left
        refine same_len (m:=[((0:Int),atOf w i,())]) nR (n1 _ _) (fun x => ?_)
        rw [hR,core1 _ _ hg,List.mem_singleton,ky_eq,he,or_self]
      · right
        refine ⟨same_len (m:=[((0:Int),atOf w i,()),((0:Int),wExit w i (cDir c).toNat,())]) nR (n2 _ _ _ _ (fun e=>he e.symm)) (fun x => ?_),hg.1⟩
        rw [hR,core1 _ _ hg,List.mem_cons,List.mem_singleton,ky_eq,ky_eq]
    · left
      refine same_len (m:=[((0:Int),atOf w i,())]) nR (n1 _ _) (fun x => ?_)
      rw [hR,core2 _ _ hg,List.mem_singleton,ky_eq]
  · by_cases hn:Another w i c
    · right
      refine ⟨same_len (m:=[((1:Int),(i:Int),()),((1:Int),cWho c,())]) nP (n2 _ _ _ _ (fun e=>hn.2.2 e.symm)) (fun x => ?_),hn⟩
      rw [hP,core3 _ _ ⟨hn.1,hn.2.1⟩,List.mem_cons,List.mem_singleton,ky_eq,ky_eq]
    · left
      refine ⟨same_len (m:=[((1:Int),(i:Int),())]) nP (n1 _ _) (fun x => ?_),hn⟩
      by_cases hq:(cKind c=2∨cKind c=7∨cKind c=8)∧cWho c<(List.length (w.2.1:List Int):Int)
      · have:cWho c=(i:Int):=Classical.byContradiction (fun h=>hn ⟨hq.1,hq.2,h⟩)
        rw [hP,core3 _ _ hq,List.mem_singleton,ky_eq,this,or_self]
      · rw [hP,core4 _ _ hq,List.mem_singleton,ky_eq]
theorem footFew_true (w:den tWorld) (p:Int) (c:Cm) (hw:wfD tWorld w) (hp:wfD (.int .u8) p) (_:wfD tCmd c):Comes (fun nf _ _ _=>innkeeplaw16_FootFew nf (w) (p) (c)) (fun r=>r.1.1=true):=by
  refine Comes.succ (fun nf _ _ _=>innkeeplaw16_FootFew.eq nf _ _ _) ?_
  simp [-List.getD_eq_getElem?_getD,-List.length_eq_zero_iff,keepAll,freshHas,pathEq,eqPl_dec,wrap1,wrap0,nbeq,comes_call (awake16),(awake16).prop,comes_call ((fits16 w).fit),((fits16 w).fit).bprop,comes_call (fewC_spec c),(fewC_spec c).bprop]
  intro fit few
  simp [-List.getD_eq_getElem?_getD,-List.length_eq_zero_iff,keepAll,freshHas,pathEq,eqPl_dec,wrap1,wrap0,nbeq,comes_call (awake16),(awake16).prop,comes_call (mayC_spec c (by have:=few.1; omega) (by have:=few.2; omega)),(mayC_spec c (by have:=few.1; omega) (by have:=few.2; omega)).bprop]
  intro may
  have ok:=ok_of hw fit.few fit.right
  have hpos:=ok.right.pos
  obtain ⟨i,hi,ei⟩:=index_of hp hpos
  rw [ei]
  have hkl:(kSort (footL w i c)).length≤1048576:=Nat.le_trans (kSort_length _) (footL_len w i c)
  have l0:=(few16_l0 w i c (kSort (footL w i c)) hkl _ _ few_ok w p c false 0 (Nat.zero_le _) 0 0 (Nat.zero_add _) (Nat.zero_add _)).enter
  simp [-List.getD_eq_getElem?_getD,-List.length_eq_zero_iff,keepAll,freshHas,pathEq,eqPl_dec,wrap1,wrap0,nbeq,comes_call (ofF_spec ok.right hi may),(ofF_spec ok.right hi may).prop]
  exact ⟨by omega,l0⟩
end Go.Proofs.Ytmemggdjnfccfaa.Ghost
