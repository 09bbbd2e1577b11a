/- What functions come to, and that the statements are answered with 'true'. Conditions: none. -/
import Derived.Test.YtjobjooccgledaaDoorS
import Derived.Test.YtjobjooccgledaaDoorGE
import Derived.Test.YtjobjooccgledaaDoorP1
import Derived.Test.YtjobjooccgledaaDoorP2
import Derived.Test.YtjobjooccgledaaDoorP3
import Derived.Test.YtjobjooccgledaaDoorP4
import Derived.Test.YtjobjooccgledaaDoorP5
import Derived.Test.YtjobjooccgledaaDoorP6
set_option linter.unusedVariables false
set_option linter.unusedSimpArgs false
set_option linter.unusedSectionVars false
set_option linter.unnecessarySimpa false
namespace Go.Proofs.YtjobjooccgledaaDoor.Ghost
open Go
theorem wd_eq18 {a b:Wd} (h1:a.1=b.1) (h2:a.2.1=b.2.1) (h3:a.2.2.1=b.2.2.1) (h4:a.2.2.2.1=b.2.2.2.1):a=b:=Prod.ext h1 (Prod.ext h2 (Prod.ext h3 (Prod.ext h4 rfl)))
theorem mem_difI {k:Int} {a b:List Int} {x:Wr}:{n:Nat}→(x∈difI k a b n↔∃ i,i<n∧¬ a.getD i 0=b.getD i 0∧x=(k,(i:Int),b.getD i 0,(0,0,()),()))
  | 0=>⟨fun h=>(by cases h),fun ⟨i,h,_⟩=>absurd h (Nat.not_lt_zero i)⟩
  | n+1=>by
    rw [difI,List.mem_append,mem_difI (n:=n)]
    constructor
    · rintro (⟨i,h1,h2⟩ | h)
      · exact ⟨i,by omega,h2⟩
      · split at h
        · cases h
        · rename_i hn
          rw [List.mem_singleton] at h
          exact ⟨n,by omega,hn,h⟩
    · rintro ⟨i,h1,h2,h3⟩
      by_cases e:i=n
      · subst e; rw [if_neg h2]; exact .inr (by rw [h3]; exact List.mem_singleton.2 rfl)
      · exact .inl ⟨i,by omega,h2,h3⟩
theorem mem_difP {a b:List Pl} {x:Wr}:{n:Nat}→(x∈difP a b n↔∃ i,i<n∧¬ a.getD i (dft tPlace)=b.getD i (dft tPlace)∧x=(2,(i:Int),0,b.getD i (dft tPlace),()))
  | 0=>⟨fun h=>(by cases h),fun ⟨i,h,_⟩=>absurd h (Nat.not_lt_zero i)⟩
  | n+1=>by
    rw [difP,List.mem_append,mem_difP (n:=n)]
    constructor
    · rintro (⟨i,h1,h2⟩ | h)
      · exact ⟨i,by omega,h2⟩
      · split at h
        · cases h
        · rename_i hn
          rw [List.mem_singleton] at h
          exact ⟨n,by omega,hn,h⟩
    · rintro ⟨i,h1,h2,h3⟩
      by_cases e:i=n
      · subst e; rw [if_neg h2]; exact .inr (by rw [h3]; exact List.mem_singleton.2 rfl)
      · exact .inl ⟨i,by omega,h2,h3⟩
theorem difI_sym (k:Int) (a b:List Int):(n:Nat)→(difI k a b n).length=(difI k b a n).length
  | 0=>rfl
  | n+1=>by
    simp only [difI,List.length_append,difI_sym k a b n]
    by_cases e:a.getD n 0=b.getD n 0
    · rw [if_pos e,if_pos e.symm]
    · rw [if_neg e,if_neg (fun h=>e h.symm)]; rfl
theorem difP_sym (a b:List Pl):(n:Nat)→(difP a b n).length=(difP b a n).length
  | 0=>rfl
  | n+1=>by
    simp only [difP,List.length_append,difP_sym a b n]
    by_cases e:a.getD n (dft tPlace)=b.getD n (dft tPlace)
    · rw [if_pos e,if_pos e.symm]
    · rw [if_neg e,if_neg (fun h=>e h.symm)]; rfl
def Tow (v:Wd) (x:Wr):Prop:=∃ i:Nat,x.2.1=(i:Int)∧((x.1=(0:Int)∧i<List.length (v.2.1:List Int)∧x.2.2.1=List.getD (v.2.1:List Int) i 0)∨(x.1=(1:Int)∧i<List.length (v.2.2.1:List Int)∧x.2.2.1=List.getD (v.2.2.1:List Int) i 0)∨(x.1=(2:Int)∧i<List.length (v.2.2.2.1:List Pl)∧x.2.2.2.1=List.getD (v.2.2.2.1:List Pl) i (dft tPlace)))
theorem tow_from {w v:Wd} {x:Wr} (h:x∈fromW w v):Tow v x:=by
  simp only [fromW,List.mem_append] at h
  rcases h with (h | h) | h
  · obtain ⟨i,h1,_,rfl⟩:=mem_difI.1 h; exact ⟨i,rfl,.inl ⟨rfl,h1,rfl⟩⟩
  · obtain ⟨i,h1,_,rfl⟩:=mem_difI.1 h; exact ⟨i,rfl,.inr (.inl ⟨rfl,h1,rfl⟩)⟩
  · obtain ⟨i,h1,_,rfl⟩:=mem_difP.1 h; exact ⟨i,rfl,.inr (.inr ⟨rfl,h1,rfl⟩)⟩
structure Eq3 (w v:Wd):Prop where
  a:List.length (w.2.1:List Int)=List.length (v.2.1:List Int)
  c:List.length (w.2.2.1:List Int)=List.length (v.2.2.1:List Int)
  h:List.length (w.2.2.2.1:List Pl)=List.length (v.2.2.2.1:List Pl)
theorem Eq3.of {w v u:Wd} (h:Eq3 w v) (k:Like w u):Eq3 u v:=⟨k.a.trans h.a,k.c.trans h.c,k.h.trans h.h⟩
theorem tow_may {w v:Wd} (q:Eq3 w v) {x:Wr} (h:Tow v x):MayW w x:=by
  obtain ⟨i,h0,h⟩:=h
  refine ⟨by rw [h0]; omega,?_⟩
  rcases h with ⟨h1,h2,_⟩ | ⟨h1,h2,_⟩ | ⟨h1,h2,_⟩
  · exact .inl ⟨h1,by rw [h0,q.a]; exact Int.ofNat_lt.2 h2⟩
  · exact .inr (.inl ⟨h1,by rw [h0,q.c]; exact Int.ofNat_lt.2 h2⟩)
  · exact .inr (.inr ⟨h1,by rw [h0,q.h]; exact Int.ofNat_lt.2 h2⟩)
structure Toward (w v u:Wd) (l:List Wr):Prop where
  a:∀ i:Nat,List.getD (u.2.1:List Int) i 0=List.getD (v.2.1:List Int) i 0∨(List.getD (u.2.1:List Int) i 0=List.getD (w.2.1:List Int) i 0∧∀ x,x∈l→¬ (x.1=(0:Int)∧x.2.1=(i:Int)))
  c:∀ i:Nat,List.getD (u.2.2.1:List Int) i 0=List.getD (v.2.2.1:List Int) i 0∨(List.getD (u.2.2.1:List Int) i 0=List.getD (w.2.2.1:List Int) i 0∧∀ x,x∈l→¬ (x.1=(1:Int)∧x.2.1=(i:Int)))
  h:∀ i:Nat,List.getD (u.2.2.2.1:List Pl) i (dft tPlace)=List.getD (v.2.2.2.1:List Pl) i (dft tPlace)∨(List.getD (u.2.2.2.1:List Pl) i (dft tPlace)=List.getD (w.2.2.2.1:List Pl) i (dft tPlace)∧∀ x,x∈l→¬ (x.1=(2:Int)∧x.2.1=(i:Int)))
theorem tow_step {w v w1:Wd} (q:Eq3 w v) {x:Wr} (h:Tow v x) (e:wrW w x=some w1) :
    (∀ i:Nat,(x.1=(0:Int)∧x.2.1=(i:Int)∧List.getD (w1.2.1:List Int) i 0=List.getD (v.2.1:List Int) i 0)∨(¬ (x.1=(0:Int)∧x.2.1=(i:Int))∧List.getD (w1.2.1:List Int) i 0=List.getD (w.2.1:List Int) i 0)) ∧
    (∀ i:Nat,(x.1=(1:Int)∧x.2.1=(i:Int)∧List.getD (w1.2.2.1:List Int) i 0=List.getD (v.2.2.1:List Int) i 0)∨(¬ (x.1=(1:Int)∧x.2.1=(i:Int))∧List.getD (w1.2.2.1:List Int) i 0=List.getD (w.2.2.1:List Int) i 0)) ∧
    (∀ i:Nat,(x.1=(2:Int)∧x.2.1=(i:Int)∧List.getD (w1.2.2.2.1:List Pl) i (dft tPlace)=List.getD (v.2.2.2.1:List Pl) i (dft tPlace))∨(¬ (x.1=(2:Int)∧x.2.1=(i:Int))∧List.getD (w1.2.2.2.1:List Pl) i (dft tPlace)=List.getD (w.2.2.2.1:List Pl) i (dft tPlace))):=by
  have no:∀ {a b:Int},x.1=a→a≠b→∀ i:Nat,¬ (x.1=b∧x.2.1=(i:Int)):=fun h1 h2 i h3=>h2 (h1.symm.trans h3.1)
  obtain ⟨j,h0,h⟩:=h
  have hj:(0:Int)≤x.2.1:=by rw [h0]; omega
  have hn:Int.toNat x.2.1=j:=by rw [h0]; rfl
  rcases h with ⟨h1,h2,h3⟩ | ⟨h1,h2,h3⟩ | ⟨h1,h2,h3⟩
  · rw [wr0 h1 hj (by rw [h0,q.a]; exact Int.ofNat_lt.2 h2),hn,h3] at e
    simp only [Option.some.injEq] at e
    subst e
    refine ⟨fun i => ?_,fun i=>.inr ⟨no h1 (by decide) i,rfl⟩,fun i=>.inr ⟨no h1 (by decide) i,rfl⟩⟩
    by_cases hi:j=i
    · subst hi; exact .inl ⟨h1,h0,by rw [getD_set _ _ _ _ _ (by rw [q.a]; exact h2),if_pos rfl]⟩
    · exact .inr ⟨fun h=>hi (Int.ofNat_inj.1 (h0.symm.trans h.2)),by rw [getD_set _ _ _ _ _ (by rw [q.a]; exact h2),if_neg (fun h=>hi h.symm)]⟩
  · rw [wr1 h1 hj (by rw [h0,q.c]; exact Int.ofNat_lt.2 h2),hn,h3] at e
    simp only [Option.some.injEq] at e
    subst e
    refine ⟨fun i=>.inr ⟨no h1 (by decide) i,rfl⟩,fun i => ?_,fun i=>.inr ⟨no h1 (by decide) i,rfl⟩⟩
    by_cases hi:j=i
    · subst hi; exact .inl ⟨h1,h0,by rw [getD_set _ _ _ _ _ (by rw [q.c]; exact h2),if_pos rfl]⟩
    · exact .inr ⟨fun h=>hi (Int.ofNat_inj.1 (h0.symm.trans h.2)),by rw [getD_set _ _ _ _ _ (by rw [q.c]; exact h2),if_neg (fun h=>hi h.symm)]⟩
  · rw [wr2 h1 hj (by rw [h0,q.h]; exact Int.ofNat_lt.2 h2),hn,h3] at e
    simp only [Option.some.injEq] at e
    subst e
    refine ⟨fun i=>.inr ⟨no h1 (by decide) i,rfl⟩,fun i=>.inr ⟨no h1 (by decide) i,rfl⟩,fun i => ?_⟩
    by_cases hi:j=i
    · subst hi; exact .inl ⟨h1,h0,by rw [getD_set _ _ _ _ _ (by rw [q.h]; exact h2),if_pos rfl]⟩
    · exact .inr ⟨fun h=>hi (Int.ofNat_inj.1 (h0.symm.trans h.2)),by rw [getD_set _ _ _ _ _ (by rw [q.h]; exact h2),if_neg (fun h=>hi h.symm)]⟩
theorem toward:(l:List Wr)→{w v:Wd}→Eq3 w v→(∀ x,x∈l→Tow v x)→∃ u,allW w l=some u∧Like w u∧Toward w v u l
  | [],w,v,_,_=>⟨w,rfl,Like.refl w,⟨fun i=>.inr ⟨rfl,fun x h=>by cases h⟩,fun i=>.inr ⟨rfl,fun x h=>by cases h⟩,fun i=>.inr ⟨rfl,fun x h=>by cases h⟩⟩⟩
  | x :: r,w,v,q,hl=>by
    have hx:=hl x (by simp)
    obtain ⟨w1,e1,k1⟩:=may_some (tow_may q hx)
    obtain ⟨s1,s2,s3⟩:=tow_step q hx e1
    obtain ⟨u,e2,k2,t⟩:=toward r (q.of k1) (fun y hy=>hl y (by simp [hy]))
    refine ⟨u,by simp only [allW,e1]; exact e2,k1.trans k2,⟨fun i => ?_,fun i => ?_,fun i => ?_⟩⟩
    · rcases t.a i with h | ⟨h,h'⟩
      · exact .inl h
      · rcases s1 i with ⟨_,_,p⟩ | ⟨p1,p2⟩
        · exact .inl (h.trans p)
        · refine .inr ⟨h.trans p2,fun y hy => ?_⟩
          rcases List.mem_cons.1 hy with rfl | hy
          · exact p1
          · exact h' y hy
    · rcases t.c i with h | ⟨h,h'⟩
      · exact .inl h
      · rcases s2 i with ⟨_,_,p⟩ | ⟨p1,p2⟩
        · exact .inl (h.trans p)
        · refine .inr ⟨h.trans p2,fun y hy => ?_⟩
          rcases List.mem_cons.1 hy with rfl | hy
          · exact p1
          · exact h' y hy
    · rcases t.h i with h | ⟨h,h'⟩
      · exact .inl h
      · rcases s3 i with ⟨_,_,p⟩ | ⟨p1,p2⟩
        · exact .inl (h.trans p)
        · refine .inr ⟨h.trans p2,fun y hy => ?_⟩
          rcases List.mem_cons.1 hy with rfl | hy
          · exact p1
          · exact h' y hy
theorem makes {w v:Wd} {l:List Wr} (q:Eq3 w v) (hd:w.1=v.1) (h1:∀ x,x∈l→Tow v x) (h2:∀ x,x∈fromW w v→x∈l):allW w l=some v:=by
  obtain ⟨u,e,k,t⟩:=toward l q h1
  rw [e,Option.some.injEq]
  refine wd_eq18 (k.d.trans hd) (ext_getD (0:Int) (k.a.trans q.a) (fun i hi => ?_)) (ext_getD (0:Int) (k.c.trans q.c) (fun i hi => ?_)) (ext_getD (dft tPlace) (k.h.trans q.h) (fun i hi => ?_))
  · rw [k.a,q.a] at hi
    rcases t.a i with h | ⟨h,h'⟩
    · exact h
    · by_cases c:List.getD (w.2.1:List Int) i 0=List.getD (v.2.1:List Int) i 0
      · exact h.trans c
      · exact absurd ⟨rfl,rfl⟩ (h' _ (h2 _ (List.mem_append.2 (.inl (List.mem_append.2 (.inl (mem_difI.2 ⟨i,hi,c,rfl⟩)))))))
  · rw [k.c,q.c] at hi
    rcases t.c i with h | ⟨h,h'⟩
    · exact h
    · by_cases c:List.getD (w.2.2.1:List Int) i 0=List.getD (v.2.2.1:List Int) i 0
      · exact h.trans c
      · exact absurd ⟨rfl,rfl⟩ (h' _ (h2 _ (List.mem_append.2 (.inl (List.mem_append.2 (.inr (mem_difI.2 ⟨i,hi,c,rfl⟩)))))))
  · rw [k.h,q.h] at hi
    rcases t.h i with h | ⟨h,h'⟩
    · exact h
    · by_cases c:List.getD (w.2.2.2.1:List Pl) i (dft tPlace)=List.getD (v.2.2.2.1:List Pl) i (dft tPlace)
      · exact h.trans c
      · exact absurd ⟨rfl,rfl⟩ (h' _ (h2 _ (List.mem_append.2 (.inr (mem_difP.2 ⟨i,hi,c,rfl⟩)))))
theorem from_self (w:Wd):fromW w w=[]:=by
  refine List.eq_nil_iff_forall_not_mem.2 (fun x h => ?_)
  simp only [fromW,List.mem_append] at h
  rcases h with (h | h) | h
  · obtain ⟨i,_,h1,_⟩:=mem_difI.1 h; exact h1 rfl
  · obtain ⟨i,_,h1,_⟩:=mem_difI.1 h; exact h1 rfl
  · obtain ⟨i,_,h1,_⟩:=mem_difP.1 h; exact h1 rfl
section
variable {w v:Wd} (s:Sm w) (q:Eq3 w v) (p:Par w v) (p':Par v w) (hd:w.1=v.1) {t:Int} (ht:0≤t∧t<256)
include s q p p' hd ht
theorem order_l0 (t0:(den tWorld)) (t1:(den tWorld)) (t6:Bool):∀ i,i≤(fromW w v).length→∀ o:List Wr,o.length=i→(∀ x,x∈o→x∈fromW w v)→(∀ j,j<i→List.getD (fromW w v) ((j+t.toNat) % (fromW w v).length) (dft tWrite)∈o) →
    Comes (fun nf fm0 _ _=>innkeeplaw18_PlanOrder.l0 nf fm0 t0 t1 (t) t6 (fromW w v) ((i:Int)) (w) (v) (o)) (fun r=>r.1.1=true):=by
  have hlen:=fromW_len p
  obtain ⟨n,en⟩:∃ n:Nat,t=(n:Int):=⟨t.toNat,by omega⟩
  refine upto (fun o ho h1 h2 => ?_) (fun i hi next o ho h1 h2 => ?_)
  · have hall:∀ x,x∈fromW w v→x∈o:=fun x hx=>by
      obtain ⟨k,hk,rfl⟩:=List.getElem_of_mem hx
      obtain ⟨N,hN⟩:∃ N,N=(fromW w v).length:=⟨_,rfl⟩
      have hk':=hk
      rw [← hN] at h2 hk'
      have hm:t.toNat % N<N:=Nat.mod_lt _ (by omega)
      have:=h2 ((k+N - t.toNat % N) % N) (Nat.mod_lt _ (by omega))
      have e:((k+N - t.toNat % N) % N+t.toNat) % N=k:=by
        rw [Nat.mod_add_mod]
        have e1:t.toNat=N * (t.toNat / N)+t.toNat % N:=(Nat.div_add_mod _ _).symm
        have e2:k+N - t.toNat % N+t.toNat=k+N * (t.toNat / N+1):=by
          rw [Nat.mul_add,Nat.mul_one]; omega
        rw [e2,Nat.add_mul_mod_self_left,Nat.mod_eq_of_lt hk']
      rw [e,List.getD_eq_getElem?_getD,List.getElem?_eq_getElem hk] at this
      exact this
    have a1:=makes q hd (fun x hx=>tow_from hx) (fun x hx=>hx)
    have a2:=makes q hd (fun x hx=>tow_from (h1 x hx)) hall
    have a3:allW v o=some v:=makes ⟨rfl,rfl,rfl⟩ rfl (fun x hx=>tow_from (h1 x hx)) (fun x hx=>by rw [from_self] at hx; cases hx)
    have sv:Sm v:=(show Like w v from ⟨hd.symm,q.a.symm,q.c.symm,q.h.symm⟩).sm s
    have hs:(fromW v w).length=(fromW w v).length:=by
      simp only [fromW,List.length_append]
      rw [difI_sym 0 v.2.1,difI_sym 1 v.2.2.1,difP_sym v.2.2.2.1,q.a,q.c,q.h]
    refine Comes.succ1 (fun nf fm0 _ _=>innkeeplaw18_PlanOrder.l0_eq nf fm0 _ _ _ _ _ _ _ _ _) ?_
    simp [-List.getD_eq_getElem?_getD,-List.length_eq_zero_iff,keepAll,freshHas,pathEq,eqPl_dec,wrap1,wrap0,nbeq,comes_call (all_spec s (by omega) a1),(all_spec s (by omega) a1).prop,comes_call (all_spec s (by omega) a2),(all_spec s (by omega) a2).prop,comes_call (all_spec sv (by omega) a3),(all_spec sv (by omega) a3).prop,comes_call (same_spec v v sv sv),(same_spec v v sv sv).bprop,comes_call (from_spec p'),(from_spec p').prop,hs]
  · have e1:IntKind.wrap .i64 t=t:=wrap_id (by omega) (by omega)
    have e2:IntKind.wrap .i64 ((i:Int)+t)=((i+n:Nat):Int):=by rw [wrap_id (by omega) (by omega),en]; omega
    have e3:Int.tmod ((i+n:Nat):Int) ((List.length (fromW w v):Nat):Int)=(((i+n) % (fromW w v).length:Nat):Int):=by
      rw [Int.tmod_eq_emod_of_nonneg (by omega)]; rfl
    have hne:¬ ((List.length (fromW w v):Nat):Int)=0:=by omega
    have hm:=Nat.mod_lt (i+n) (show 0<(fromW w v).length by omega)
    have hn:t.toNat=n:=by omega
    refine Comes.succ1 (fun nf fm0 _ _=>innkeeplaw18_PlanOrder.l0_eq nf fm0 _ _ _ _ _ _ _ _ _) ?_
    rw [e1,e2,e3]
    have nx:=next (o ++ [List.getD (fromW w v) ((i+n) % (fromW w v).length) (dft tWrite)]) (by simp [ho]) (fun x hx=>by
      rcases List.mem_append.1 hx with h | h
      · exact h1 x h
      · rw [List.mem_singleton] at h; subst h; exact getD_mem' _ hm) (fun j hj=>by
      by_cases hji:j=i
      · subst hji; rw [hn]; simp
      · exact List.mem_append.2 (.inl (h2 j (by omega))))
    rw [← wrap_succ (by omega)] at nx
    have hnil:¬ fromW w v=[]:=fun h=>by rw [h] at hi; exact absurd hi (Nat.not_lt_zero i)
    simp [-List.getD_eq_getElem?_getD,-List.length_eq_zero_iff,keepAll,freshHas,pathEq,hi,hne,hm,ho,-Int.natCast_emod]
    refine ⟨by omega,by omega,?_⟩
    simpa using nx
end
theorem planOrder_true (w v:Wd) (t:Int) (hw:wfD tWorld w) (hv:wfD tWorld v) (ht:wfD (.int .u8) t):Comes (fun nf _ _ _=>innkeeplaw18_PlanOrder nf (w) (v) (t)) (fun r=>r.1.1=true):=by
  refine Comes.succ (fun nf _ _ _=>innkeeplaw18_PlanOrder.eq nf _ _ _) ?_
  simp [-List.getD_eq_getElem?_getD,-List.length_eq_zero_iff,keepAll,freshHas,pathEq,eqPl_dec,wrap1,wrap0,nbeq,comes_call (awake18),(awake18).prop,comes_call (few18 w),(few18 w).bprop,comes_call (few18 v),(few18 v).bprop,comes_call (full_spec w),(full_spec w).bprop,comes_call (full_spec v),(full_spec v).bprop]
  intro fw fv flw flv la lh
  have s:=sm_few hw fw.f
  have la:=Int.ofNat_inj.1 la
  have lh:=Int.ofNat_inj.1 lh
  have lc:List.length (w.2.2.1:List Int)=List.length (v.2.2.1:List Int):=by have:=flw.a; have:=flw.c; have:=flv.a; have:=flv.c; omega
  obtain ⟨_,_,_,_,_,f6,f7,f8⟩:=fv.f
  obtain ⟨_,_,_,_,_,g6,g7,g8⟩:=fw.f
  have par:Par w (w.1,v.2.1,v.2.2.1,v.2.2.2.1,()):=⟨la,lc,lh,⟨by show List.length (v.2.1:List Int)≤1000; omega,by show List.length (v.2.2.1:List Int)≤1000; omega,by show List.length (v.2.2.2.1:List Pl)≤1000; omega⟩⟩
  have par':Par (w.1,v.2.1,v.2.2.1,v.2.2.2.1,()) w:=⟨la.symm,lc.symm,lh.symm,⟨by omega,by omega,by omega⟩⟩
  simp [-List.getD_eq_getElem?_getD,-List.length_eq_zero_iff,keepAll,freshHas,pathEq,eqPl_dec,wrap1,wrap0,nbeq,comes_call (from_spec par),(from_spec par).prop]
  exact (order_l0 (v:=(w.1,v.2.1,v.2.2.1,v.2.2.2.1,())) s ⟨la,lc,lh⟩ par par' rfl (u8_range ht) (w) (v) (false) 0 (Nat.zero_le _) [] rfl (fun x hx=>by cases hx) (fun j hj=>by omega)).enter
end Go.Proofs.YtjobjooccgledaaDoor.Ghost
