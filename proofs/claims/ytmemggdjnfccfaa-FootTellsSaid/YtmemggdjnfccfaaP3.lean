/- What functions come to, and that the statements are answered with 'true'. Conditions: none. -/
import Derived.Test.YtmemggdjnfccfaaS
import Derived.Test.YtmemggdjnfccfaaGE
import Derived.Test.YtmemggdjnfccfaaP1
import Derived.Test.YtmemggdjnfccfaaP2
set_option linter.unusedVariables false
set_option linter.unusedSimpArgs false
set_option linter.unusedSectionVars false
set_option linter.unnecessarySimpa false
namespace Go.Proofs.Ytmemggdjnfccfaa.Ghost
open Go
def Cand (o:List (den tPlace)) (x:den tPlace):Prop:=∀ y,y∈o→kLt y x=true
def MinOf (o xs:List (den tPlace)) (f:Bool) (b:den tPlace):Prop:=(f=true↔∃ x,x∈xs∧Cand o x)∧(f=true→b∈xs∧Cand o b∧∀ x,x∈xs→Cand o x→¬ kLt x b=true)
theorem cand_last {o:List (den tPlace)} (ha:Asc o) (hn:0<o.length) (x:den tPlace):kLt (List.getD o (o.length - 1) (dft tPlace)) x=dec (Cand o x):=by
  rw [Bool.eq_iff_iff,dec_true]
  have hg:List.getD o (o.length - 1) (dft tPlace)=o[o.length - 1]'(by omega):=by
    rw [List.getD_eq_getElem?_getD,List.getElem?_eq_getElem (by omega)]; rfl
  rw [hg]
  constructor
  · intro h y hy
    obtain ⟨j,hj,rfl⟩:=List.getElem_of_mem hy
    by_cases e:j=o.length - 1
    · subst e; exact h
    · exact kLt_trans (List.pairwise_iff_getElem.1 ha j (o.length - 1) hj (by omega) (by omega)) h
  · intro h; exact h _ (List.getElem_mem _)
theorem minOf_skip {o xs:List (den tPlace)} {f:Bool} {b x:den tPlace} (h:MinOf o xs f b) (hx:¬ Cand o x):MinOf o (xs ++ [x]) f b:=by
  refine ⟨h.1.trans ⟨fun ⟨y,hy,hc⟩=>⟨y,List.mem_append_left _ hy,hc⟩,fun ⟨y,hy,hc⟩ => ?_⟩,fun hf => ?_⟩
  · rcases List.mem_append.1 hy with hy | hy
    · exact ⟨y,hy,hc⟩
    · rw [List.mem_singleton] at hy; subst hy; exact absurd hc hx
  · obtain ⟨h1,h2,h3⟩:=h.2 hf
    refine ⟨List.mem_append_left _ h1,h2,fun y hy hc => ?_⟩
    rcases List.mem_append.1 hy with hy | hy
    · exact h3 y hy hc
    · rw [List.mem_singleton] at hy; subst hy; exact absurd hc hx
theorem minOf_keep {o xs:List (den tPlace)} {b x:den tPlace} (h:MinOf o xs true b) (hx:¬ kLt x b=true):MinOf o (xs ++ [x]) true b:=by
  obtain ⟨h1,h2,h3⟩:=h.2 rfl
  refine ⟨⟨fun _=>⟨b,List.mem_append_left _ h1,h2⟩,fun _=>rfl⟩,fun _=>⟨List.mem_append_left _ h1,h2,fun y hy hc => ?_⟩⟩
  rcases List.mem_append.1 hy with hy | hy
  · exact h3 y hy hc
  · rw [List.mem_singleton] at hy; subst hy; exact hx
theorem minOf_take {o xs:List (den tPlace)} {f:Bool} {b x:den tPlace} (h:MinOf o xs f b) (hc:Cand o x) (hx:f=true→kLt x b=true):MinOf o (xs ++ [x]) true x:=by
  have hm:x∈xs ++ [x]:=List.mem_append_right _ (List.mem_singleton.2 rfl)
  refine ⟨⟨fun _=>⟨x,hm,hc⟩,fun _=>rfl⟩,fun _=>⟨hm,hc,fun y hy hcy => ?_⟩⟩
  rcases List.mem_append.1 hy with hy | hy
  · have hf:f=true:=h.1.2 ⟨y,hy,hcy⟩
    obtain ⟨h1,h2,h3⟩:=h.2 hf
    intro hyx
    exact h3 y hy hcy (kLt_trans hyx (hx hf))
  · rw [List.mem_singleton] at hy; subst hy; exact kLt_irrefl y
theorem take_one {l:List (den tPlace)} {i:Nat} (hi:i<l.length):l.take (i+1)=l.take i ++ [List.getD l i (dft tPlace)]:=by
  rw [List.take_add_one,List.getElem?_eq_getElem hi,List.getD_eq_getElem?_getD,List.getElem?_eq_getElem hi]; rfl
theorem rsort_l1 (l o:List (den tPlace)) (hl:l.length≤1048576) (ho:o.length≤1048576) (ha:Asc o) {Q:innkeepref14_Sort.R→Prop} (t2:List (den tPlace))
    (hend:∀ f b,MinOf o l f b→(f=false→Q ((o,()),[(0,[])]))∧(f=true→o.length+1≤1048576∧Comes (fun nf fm0 _ _=>innkeepref14_Sort.l0 nf fm0 (l) t2 (o ++ [b])) Q)) :
    ∀ i,i≤l.length→∀ f b,MinOf o (l.take i) f b→Comes (fun nf fm0 fm1 _=>innkeepref14_Sort.l1 nf fm0 fm1 (l) t2 (f) ((i:Int)) (b) (o)) Q:=by
  refine upto ?_ (fun i hi next => ?_)
  · intro f b hm
    rw [List.take_length] at hm
    obtain ⟨h1,h2⟩:=hend f b hm
    refine Comes.succ2 (fun nf fm0 fm1 _=>innkeepref14_Sort.l1_eq nf fm0 fm1 _ _ _ _ _ _) ?_
    cases f
    · simp [-List.getD_eq_getElem?_getD,-List.length_eq_zero_iff,keepAll,freshHas,pathEq,eqPl_dec,wrap1,wrap0,nbeq]; exact h1 rfl
    · simp [-List.getD_eq_getElem?_getD,-List.length_eq_zero_iff,keepAll,freshHas,pathEq,eqPl_dec,wrap1,wrap0,nbeq]; exact ⟨by have:=(h2 rfl).1; omega,(h2 rfl).2⟩
  · intro f b hm
    rw [take_one hi] at next
    rw [← wrap_succ (by omega)] at next
    generalize hx:List.getD l i (dft tPlace)=x at next
    refine Comes.succ2 (fun nf fm0 fm1 _=>innkeepref14_Sort.l1_eq nf fm0 fm1 _ _ _ _ _ _) ?_
    by_cases h0:0<o.length
    · have w:IntKind.wrap .i64 ((o.length:Int) - 1)=((o.length - 1:Nat):Int):=by rw [wrap_id (by omega) (by omega)]; omega
      have hlt:o.length - 1<o.length:=by omega
      have cl:=cand_last ha h0 x
      simp only [w,hx,Int.toNat_natCast]
      by_cases hc:Cand o x
      · cases f
        · simp [-List.getD_eq_getElem?_getD,-List.length_eq_zero_iff,keepAll,freshHas,pathEq,eqPl_dec,wrap1,wrap0,nbeq,hi,h0,hlt,cl,hc,comes_call (rless_spec (List.getD o (o.length - 1) (dft tPlace)) x),(rless_spec (List.getD o (o.length - 1) (dft tPlace)) x).prop]
          exact next true x (minOf_take hm hc (fun h=>by cases h))
        · by_cases hk:kLt x b=true
          · simp [-List.getD_eq_getElem?_getD,-List.length_eq_zero_iff,keepAll,freshHas,pathEq,eqPl_dec,wrap1,wrap0,nbeq,hi,h0,hlt,cl,hc,hk,comes_call (rless_spec (List.getD o (o.length - 1) (dft tPlace)) x),(rless_spec (List.getD o (o.length - 1) (dft tPlace)) x).prop,comes_call (rless_spec x b),(rless_spec x b).prop]
            exact next true x (minOf_take hm hc (fun _=>hk))
          · simp [-List.getD_eq_getElem?_getD,-List.length_eq_zero_iff,keepAll,freshHas,pathEq,eqPl_dec,wrap1,wrap0,nbeq,hi,h0,hlt,cl,hc,hk,comes_call (rless_spec (List.getD o (o.length - 1) (dft tPlace)) x),(rless_spec (List.getD o (o.length - 1) (dft tPlace)) x).prop,comes_call (rless_spec x b),(rless_spec x b).prop]
            exact next true b (minOf_keep hm hk)
      · simp [-List.getD_eq_getElem?_getD,-List.length_eq_zero_iff,keepAll,freshHas,pathEq,eqPl_dec,wrap1,wrap0,nbeq,hi,h0,hlt,cl,hc,comes_call (rless_spec (List.getD o (o.length - 1) (dft tPlace)) x),(rless_spec (List.getD o (o.length - 1) (dft tPlace)) x).prop]
        exact next f b (minOf_skip hm hc)
    · have hc:Cand o x:=fun y hy=>absurd (List.length_pos_of_mem hy) h0
      simp only [hx,Int.toNat_natCast]
      cases f
      · simp [-List.getD_eq_getElem?_getD,-List.length_eq_zero_iff,keepAll,freshHas,pathEq,eqPl_dec,wrap1,wrap0,nbeq,hi,h0]
        exact next true x (minOf_take hm hc (fun h=>by cases h))
      · by_cases hk:kLt x b=true
        · simp [-List.getD_eq_getElem?_getD,-List.length_eq_zero_iff,keepAll,freshHas,pathEq,eqPl_dec,wrap1,wrap0,nbeq,hi,h0,hk,comes_call (rless_spec x b),(rless_spec x b).prop]
          exact next true x (minOf_take hm hc (fun _=>hk))
        · simp [-List.getD_eq_getElem?_getD,-List.length_eq_zero_iff,keepAll,freshHas,pathEq,eqPl_dec,wrap1,wrap0,nbeq,hi,h0,hk,comes_call (rless_spec x b),(rless_spec x b).prop]
          exact next true b (minOf_keep hm hk)
theorem rsort_l0 (l:List (den tPlace)) (hl:l.length≤1048576) (t2:List (den tPlace)):∀ (rest o:List (den tPlace)),o ++ rest=kSort l→Comes (fun nf fm0 _ _=>innkeepref14_Sort.l0 nf fm0 (l) t2 (o)) (fun r=>r=((kSort l,()),[(0,[])])):=by
  intro rest
  induction rest with
  | nil =>
    intro o e
    rw [List.append_nil] at e
    have hlen:o.length≤l.length:=by rw [e]; exact kSort_length l
    have ha:Asc o:=by rw [e]; exact asc_kSort l
    refine Comes.succ1 (fun nf fm0 _ _=>innkeepref14_Sort.l0_eq nf fm0 _ _ _) ?_
    refine (rsort_l1 l o hl (by omega) ha t2 (fun f b hm=>⟨fun _=>by rw [e],fun hf => ?_⟩) 0 (Nat.zero_le _) false _ ⟨⟨fun h=>(by cases h),fun ⟨x,hx,_⟩=>by cases hx⟩,fun h=>by cases h⟩).enter1
    obtain ⟨h1,h2,_⟩:=hm.2 hf
    exact absurd (h2 b (by rw [e]; exact mem_kSort.2 h1)) (kLt_irrefl b)
  | cons c rest ih =>
    intro o e
    have hs:Asc (o ++ c :: rest):=by rw [e]; exact asc_kSort l
    have hp:=List.pairwise_append.1 hs
    have hlen:o.length+1≤l.length:=by
      have:=kSort_length l
      rw [← e,List.length_append,List.length_cons] at this; omega
    have hcl:c∈l:=mem_kSort.1 (by rw [← e]; exact List.mem_append_right _ List.mem_cons_self)
    have hcc:Cand o c:=fun y hy=>hp.2.2 y hy c List.mem_cons_self
    refine Comes.succ1 (fun nf fm0 _ _=>innkeepref14_Sort.l0_eq nf fm0 _ _ _) ?_
    refine (rsort_l1 l o hl (by omega) hp.1 t2 (fun f b hm=>⟨fun hf => ?_,fun hf=>⟨by omega,?_⟩⟩) 0 (Nat.zero_le _) false _ ⟨⟨fun h=>(by cases h),fun ⟨x,hx,_⟩=>by cases hx⟩,fun h=>by cases h⟩).enter1
    · have:=hm.1.2 ⟨c,hcl,hcc⟩
      rw [hf] at this; cases this
    · obtain ⟨h1,h2,h3⟩:=hm.2 hf
      have hb:b∈o ++ c :: rest:=by rw [e]; exact mem_kSort.2 h1
      have:b=c:=by
        rcases List.mem_append.1 hb with hb | hb
        · exact absurd (h2 b hb) (kLt_irrefl b)
        · rcases List.mem_cons.1 hb with hb | hb
          · exact hb
          · exact absurd ((List.pairwise_cons.1 hp.2.1).1 b hb) (h3 c hcl hcc)
      subst this
      exact ih (o ++ [b]) (by rw [List.append_assoc]; exact e)
theorem rsort_spec (l:List (den tPlace)) (hl:l.length≤1048576):Comes (fun nf _ _ _=>innkeepref14_Sort nf (l)) (fun r=>r=((kSort l,()),[(0,[])])):=by
  refine Comes.succ (fun nf _ _ _=>innkeepref14_Sort.eq nf _) ?_
  exact (rsort_l0 l hl [] (kSort l) [] rfl).enter
theorem ksort_spec (l:List (den tPlace)) (hl:l.length≤1048576):Comes (fun nf _ _ _=>keys_Sort nf (l)) (fun r=>r=((kSort l,()),[(0,[])])):=by
  refine ⟨_,rfl,1,fun n m k j h1 _ _ _ => ?_⟩
  obtain ⟨n',rfl⟩:∃ n',n=n'+1:=⟨n - 1,by omega⟩
  show (if List.length l≤1048576 then some ((kSort l,()),[(0,[])]) else none)=_
  rw [if_pos hl]
end Go.Proofs.Ytmemggdjnfccfaa.Ghost
