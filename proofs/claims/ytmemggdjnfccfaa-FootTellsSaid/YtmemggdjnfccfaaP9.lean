/- What functions come to, and that the statements are answered with 'true'. Conditions: none. -/
import Derived.Test.YtmemggdjnfccfaaS
import Derived.Test.YtmemggdjnfccfaaGE
import Derived.Test.YtmemggdjnfccfaaP1
import Derived.Test.YtmemggdjnfccfaaP2
import Derived.Test.YtmemggdjnfccfaaP3
import Derived.Test.YtmemggdjnfccfaaP4
import Derived.Test.YtmemggdjnfccfaaP5
import Derived.Test.YtmemggdjnfccfaaP6
import Derived.Test.YtmemggdjnfccfaaP7
import Derived.Test.YtmemggdjnfccfaaP8
set_option linter.unusedVariables false
set_option linter.unusedSimpArgs false
set_option linter.unusedSectionVars false
set_option linter.unnecessarySimpa false
namespace Go.Proofs.Ytmemggdjnfccfaa.Ghost
open Go
abbrev boxAt (w:den tWorld) (b:Nat):Bool:=List.getD (w.1.2.2.2.2.1:List Bool) b false
def NearP (w:den tWorld) (i j:Nat):Prop:=rootOf w j=flPl (atOf w i)∨rootOf w j=mePl i
def inR (w:den tWorld) (k:Int):Prop:=0≤k∧k<(List.length (w.2.2.2.1:List (den tPlace)):Int)
open Classical in
noncomputable def putErr (w:den tWorld) (i:Nat) (k b:Int):Int:=if inR w k∧inR w b then
  (if plOf w k.toNat=mePl i∧NearP w i b.toNat then
    (if boxAt w b.toNat=true then
      (if WiW w b.toNat k.toNat then 7 else if 4<depOf w b.toNat+1+hgtOf w k.toNat then 8 else if roomI w (boxPl b)<1 then 9 else 0)
    else 6)
  else 5) else 3
open Classical in
noncomputable def takeErr (w:den tWorld) (i:Nat) (k b:Int):Int:=if inR w k∧inR w b then
  (if NearP w i b.toNat then
    (if boxAt w b.toNat=true then
      (if plOf w k.toNat=boxPl b then (if roomI w (mePl i)<1 then 9 else 0) else 5)
    else 6)
  else 5) else 3
open Classical in
noncomputable def putR (w:den tWorld) (i:Nat) (k b:Int):den tWorld×Int×Unit:=if putErr w i k b=0 then (put w k.toNat (boxPl b),0,()) else (w,putErr w i k b,())
open Classical in
noncomputable def takeR (w:den tWorld) (i:Nat) (k b:Int):den tWorld×Int×Unit:=if takeErr w i k b=0 then (put w k.toNat (mePl i),0,()) else (w,takeErr w i k b,())
theorem kind_box (b:Int):(0:Int)≤(boxPl b).1∧((boxPl b).1:Int)<3:=⟨by show (0:Int)≤2; decide,by show (2:Int)<3; decide⟩
theorem kind_mePl (i:Nat):(0:Int)≤(mePl i).1∧((mePl i).1:Int)<3:=⟨by show (0:Int)≤1; decide,by show (1:Int)<3; decide⟩
theorem inR_nat {w:den tWorld} {k:Int} (h:inR w k):∃ n:Nat,k=(n:Int)∧n<List.length (w.2.2.2.1:List (den tPlace)):=⟨k.toNat,by have:=h.1; omega,by have:=h.1; have:=h.2; omega⟩
theorem putErr_in {w:den tWorld} {i:Nat} {k b:Int} (h:¬ putErr w i k b=3):inR w k∧inR w b:=by
  by_cases hn:inR w k∧inR w b
  · exact hn
  · exact absurd (by unfold putErr; rw [if_neg hn]) h
theorem takeErr_in {w:den tWorld} {i:Nat} {k b:Int} (h:¬ takeErr w i k b=3):inR w k∧inR w b:=by
  by_cases hn:inR w k∧inR w b
  · exact hn
  · exact absurd (by unfold takeErr; rw [if_neg hn]) h
end Go.Proofs.Ytmemggdjnfccfaa.Ghost
namespace Go.Proofs.Ytmemggdjnfccfaa.Ghost
open Go
theorem root_iff (w:den tWorld) (j:Nat) (a b:Int):rootOf w j=(a,b,())↔(rootOf w j).1=a∧(rootOf w j).2.1=b :=
  ⟨fun h=>by rw [h]; exact ⟨rfl,rfl⟩,fun h=>Prod.ext h.1 (Prod.ext h.2 rfl)⟩
theorem is10_spec (w:den tWorld) (k:Int):Comes (fun nf _ _ _=>innkeepref10_is nf (w) (k)) (fun r=>r=((dec (inR w k),()),[])):=by
  refine Comes.succ (fun nf _ _ _=>innkeepref10_is.eq nf _ _) ?_
  by_cases h:0≤k <;> simp [h,inR,decide_dec]
theorem refNear_spec (w:den tWorld) (ok:Ok w) {i j:Nat} (hi:i<List.length (w.2.1:List Int)) (hj:j<List.length (w.2.2.2.1:List (den tPlace))):Comes (fun nf _ _ _=>innkeepref10_Near nf (w) ((i:Int)) ((j:Int))) (fun r=>r=((dec (NearP w i j),()),[])):=by
  refine Comes.succ (fun nf _ _ _=>innkeepref10_Near.eq nf _ _ _) ?_
  have hn:NearP w i j↔(((rootOf w j).1:Int)=0∧((rootOf w j).2.1:Int)=atOf w i)∨(((rootOf w j).1:Int)=1∧((rootOf w j).2.1:Int)=i):=by
    unfold NearP; rw [root_iff,root_iff]
  simp [-List.getD_eq_getElem?_getD,-List.length_eq_zero_iff,keepAll,freshHas,pathEq,eqPl_dec,wrap1,wrap0,nbeq,comes_call (refRoot_spec w ok.right 51 j hj (ok.right.ends hj)),(refRoot_spec w ok.right 51 j hj (ok.right.ends hj)).prop,hi,hn,decide_dec]
  by_cases c1:((rootOf w j).1:Int)=0 <;> by_cases c2:((rootOf w j).2.1:Int)=atOf w i <;> by_cases c3:((rootOf w j).1:Int)=1 <;> simp [-List.getD_eq_getElem?_getD,-List.length_eq_zero_iff,keepAll,freshHas,pathEq,eqPl_dec,wrap1,wrap0,nbeq,c1,c2,c3]
section
variable {w:den tWorld} (ok:Ok w) {k b:Nat} (hk:k<List.length (w.2.2.2.1:List (den tPlace))) (hb:b<List.length (w.2.2.2.1:List (den tPlace))) (hn:¬ WiW w b k)
open Classical in
noncomputable def dOf (w:den tWorld) (k b j:Nat):Nat:=if WiW w j k then depOf w b+1+(depOf w j - depOf w k) else depOf w j
include ok hk hb hn
theorem hang_d {j:Nat} (hj:j<List.length (w.2.2.2.1:List (den tPlace))):∃ p,Hang (put w k (boxPl (b:Int))).2.2.2.1 j p (dOf w k b j):=by
  have m:=moved_box ok.right hk hb hn
  unfold dOf
  by_cases hw:WiW w j k
  · rw [if_pos hw]; exact ⟨_,(m.inn j hj hw).1⟩
  · rw [if_neg hw]; exact ⟨_,m.out j hj hw⟩
theorem d_le {j:Nat} (hj:j<List.length (w.2.2.2.1:List (den tPlace))):dOf w k b j≤9:=by
  have h1:=(dep_le ok.right hj).2
  have h2:=(dep_le ok.right hb).2
  unfold dOf
  split <;> omega
theorem depI_d {j:Nat} (hj:j<List.length (w.2.2.2.1:List (den tPlace))):depI (put w k (boxPl (b:Int))).2.2.2.1 51 0 (plOf (put w k (boxPl (b:Int))) j)=dOf w k b j:=by
  obtain ⟨p,h⟩:=hang_d ok hk hb hn hj
  have:=d_le ok hk hb hn hj
  have:=h.depI 51 0 (by omega) (by omega)
  rw [Nat.zero_add] at this
  exact this
theorem deep_iff:(∃ j,j<List.length (w.2.2.2.1:List (den tPlace))∧4<dOf w k b j)↔4<depOf w b+1+hgtOf w k:=by
  constructor
  · rintro ⟨j,hj,hd⟩
    unfold dOf at hd
    split at hd
    · rename_i hw
      have:depOf w j - depOf w k≤hgtOf w k:=hgtL_ge (w:=w) (i:=k) hj hw
      omega
    · have:=(dep_le ok.right hj).2
      omega
  · intro h
    rcases hgtL_at (w:=w) (i:=k) (List.length (w.2.2.2.1:List (den tPlace))) with h0 | ⟨j,j1,j2,j3⟩
    · have h0:hgtOf w k=0:=h0
      refine ⟨k,hk,?_⟩
      unfold dOf
      rw [if_pos (.refl k)]; omega
    · have j3:depOf w j - depOf w k=hgtOf w k:=j3
      refine ⟨j,j1,?_⟩
      unfold dOf
      rw [if_pos j2]; omega
theorem inPl_d:∀ i,i<List.length ((put w k (boxPl (b:Int))).2.2.2.1:List (den tPlace))→inPl (put w k (boxPl (b:Int))).2.2.2.1 (List.getD ((put w k (boxPl (b:Int))).2.2.2.1:List (den tPlace)) i (dft tPlace)):=fun i hi h2=>by
  rw [put_len] at hi ⊢
  rw [put_at w k i _ hk] at h2 ⊢
  split
  · exact ⟨Int.natCast_nonneg b,Int.ofNat_lt.2 hb⟩
  · rename_i hne
    rw [if_neg hne] at h2
    exact ok.right.inPl i hi h2
theorem refPut_l0 (t0:(den tWorld)) (t1:Int) (t2:Int) (t9:Int) (o1:(den tWorld)) (hd:¬ 4<depOf w b+1+hgtOf w k) :
    ∀ i,i≤List.length (w.2.2.2.1:List (den tPlace))→Comes (fun nf fm0 _ _=>innkeepref10_Put.l0 nf fm0 t0 t1 t2 ((b:Int)) t9 ((i:Int)) (w) o1 (put w k (boxPl (b:Int)))) (fun r=>r.1=if roomI w (boxPl b)<1 then (w,9,()) else (put w k (boxPl (b:Int)),0,())):=by
  have hlen:=ok.sm.wh
  have hr:=ok.right.room (boxPl b)
  refine upto ?_ (fun i hi next => ?_)
  · refine Comes.succ1 (fun nf fm0 _ _=>innkeepref10_Put.l0_eq nf fm0 _ _ _ _ _ _ _ _ _) ?_
    simp [-List.getD_eq_getElem?_getD,-List.length_eq_zero_iff,keepAll,freshHas,pathEq,eqPl_dec,wrap1,wrap0,nbeq,put_len w k (boxPl (b:Int)),comes_call (refRoom_spec w ok (boxPl (b:Int)) (kind_box b)),(refRoom_spec w ok (boxPl (b:Int)) (kind_box b)).prop]
    by_cases h:roomI w (boxPl b)=0
    · simp [h]
    · simp [h,show ¬ roomI w (boxPl b)<1 by omega]
      omega
  · rw [← wrap_succ (by omega)] at next
    have hdi:=depI_d ok hk hb hn hi
    have hle:¬ (4:Int)<(dOf w k b i:Int):=fun h=>hd ((deep_iff ok hk hb hn).1 ⟨i,hi,by omega⟩)
    have sp:=depth_spec (put w k (boxPl (b:Int))) (inPl_d ok hk hb hn) (plOf (put w k (boxPl (b:Int))) i) (inPl_d ok hk hb hn i (by rw [put_len]; exact hi))
    rw [hdi] at sp
    refine Comes.succ1 (fun nf fm0 _ _=>innkeepref10_Put.l0_eq nf fm0 _ _ _ _ _ _ _ _ _) ?_
    simp [-List.getD_eq_getElem?_getD,-List.length_eq_zero_iff,keepAll,freshHas,pathEq,eqPl_dec,wrap1,wrap0,nbeq,put_len w k (boxPl (b:Int)),hi,comes_call (sp),(sp).prop,hle,next]
theorem refPut_l0d (t0:(den tWorld)) (t1:Int) (t2:Int) (t9:Int) (o1:(den tWorld)) :
    ∀ i,i≤List.length (w.2.2.2.1:List (den tPlace))→(∃ j,i≤j∧j<List.length (w.2.2.2.1:List (den tPlace))∧4<dOf w k b j)→Comes (fun nf fm0 _ _=>innkeepref10_Put.l0 nf fm0 t0 t1 t2 ((b:Int)) t9 ((i:Int)) (w) o1 (put w k (boxPl (b:Int)))) (fun r=>r.1=(w,8,())):=by
  have hlen:=ok.sm.wh
  refine upto (fun h => ?_) (fun i hi next h => ?_)
  · obtain ⟨j,h1,h2,_⟩:=h; omega
  · have hdi:=depI_d ok hk hb hn hi
    have sp:=depth_spec (put w k (boxPl (b:Int))) (inPl_d ok hk hb hn) (plOf (put w k (boxPl (b:Int))) i) (inPl_d ok hk hb hn i (by rw [put_len]; exact hi))
    rw [hdi] at sp
    refine Comes.succ1 (fun nf fm0 _ _=>innkeepref10_Put.l0_eq nf fm0 _ _ _ _ _ _ _ _ _) ?_
    by_cases h4:4<dOf w k b i
    · simp [-List.getD_eq_getElem?_getD,-List.length_eq_zero_iff,keepAll,freshHas,pathEq,eqPl_dec,wrap1,wrap0,nbeq,put_len w k (boxPl (b:Int)),hi,comes_call (sp),(sp).prop]
      omega
    · have next:=next (by
        obtain ⟨j,h1,h2,h3⟩:=h
        by_cases e:j=i
        · subst e; exact absurd h3 h4
        · exact ⟨j,by omega,h2,h3⟩)
      rw [← wrap_succ (by omega)] at next
      simp [-List.getD_eq_getElem?_getD,-List.length_eq_zero_iff,keepAll,freshHas,pathEq,eqPl_dec,wrap1,wrap0,nbeq,put_len w k (boxPl (b:Int)),hi,comes_call (sp),(sp).prop,next,show ¬ (4:Int)<(dOf w k b i:Int) by omega]
end
theorem refPut_spec {w:den tWorld} (ok:Ok w) {i:Nat} (hi:i<List.length (w.2.1:List Int)) (k b:Int):Comes (fun nf _ _ _=>innkeepref10_Put nf (w) ((i:Int)) (k) (b)) (fun r=>r.1=putR w i k b):=by
  refine Comes.succ (fun nf _ _ _=>innkeepref10_Put.eq nf _ _ _ _) ?_
  by_cases hk:inR w k
  · by_cases hb:inR w b
    · obtain ⟨k,rfl,hkn⟩:=inR_nat hk
      obtain ⟨b,rfl,hbn⟩:=inR_nat hb
      have hbx:b<List.length (w.1.2.2.2.2.1:List Bool):=by rw [ok.right.may.b1,← ok.right.w1]; exact hbn
      simp [-List.getD_eq_getElem?_getD,-List.length_eq_zero_iff,keepAll,freshHas,pathEq,eqPl_dec,wrap1,wrap0,nbeq,comes_call (is10_spec w (k:Int)),(is10_spec w (k:Int)).prop,comes_call (is10_spec w (b:Int)),(is10_spec w (b:Int)).prop,hk,hb,hkn,hbx,comes_call (refNear_spec w ok hi hbn),(refNear_spec w ok hi hbn).prop,comes_call (refWithin_iff w ok.right hbn k),(refWithin_iff w ok.right hbn k).bprop,putR,putErr]
      by_cases c1:plOf w k=mePl i <;> by_cases c2:NearP w i b <;> by_cases c3:boxAt w b=true <;> by_cases c4:WiW w b k <;> simp [-List.getD_eq_getElem?_getD,-List.length_eq_zero_iff,keepAll,freshHas,pathEq,eqPl_dec,wrap1,wrap0,nbeq,c1,c2,c3,c4]
      simp [-List.getD_eq_getElem?_getD,-List.length_eq_zero_iff,keepAll,freshHas,pathEq,eqPl_dec,wrap1,wrap0,nbeq,comes_call (refTo_spec w ok.sm hkn (boxPl b)),(refTo_spec w ok.sm hkn (boxPl b)).prop]
      by_cases c5:4<depOf w b+1+hgtOf w k
      · obtain ⟨j,h1,h2⟩:=(deep_iff ok hkn hbn c4).2 c5
        have h:=fun t0 t1 t2 t9 o1=>(refPut_l0d ok hkn hbn c4 t0 t1 t2 t9 o1 0 (Nat.zero_le _) ⟨j,Nat.zero_le _,h1,h2⟩).enter
        simp [-List.getD_eq_getElem?_getD,-List.length_eq_zero_iff,keepAll,freshHas,pathEq,eqPl_dec,wrap1,wrap0,nbeq,c5]
        exact h _ _ _ _ _
      · have h:=fun t0 t1 t2 t9 o1=>(refPut_l0 ok hkn hbn c4 t0 t1 t2 t9 o1 c5 0 (Nat.zero_le _)).enter
        by_cases c6:roomI w (boxPl b)<1
        · simp only [if_pos c6] at h
          simp [-List.getD_eq_getElem?_getD,-List.length_eq_zero_iff,keepAll,freshHas,pathEq,eqPl_dec,wrap1,wrap0,nbeq,c5,c6]
          exact h _ _ _ _ _
        · simp only [if_neg c6] at h
          simp [-List.getD_eq_getElem?_getD,-List.length_eq_zero_iff,keepAll,freshHas,pathEq,eqPl_dec,wrap1,wrap0,nbeq,c5,c6]
          exact h _ _ _ _ _
    · simp [-List.getD_eq_getElem?_getD,-List.length_eq_zero_iff,keepAll,freshHas,pathEq,eqPl_dec,wrap1,wrap0,nbeq,comes_call (is10_spec w k),(is10_spec w k).prop,comes_call (is10_spec w b),(is10_spec w b).prop,hk,hb,putR,putErr]
  · simp [-List.getD_eq_getElem?_getD,-List.length_eq_zero_iff,keepAll,freshHas,pathEq,eqPl_dec,wrap1,wrap0,nbeq,comes_call (is10_spec w k),(is10_spec w k).prop,comes_call (is10_spec w b),(is10_spec w b).prop,hk,putR,putErr]
theorem refTake_spec {w:den tWorld} (ok:Ok w) {i:Nat} (hi:i<List.length (w.2.1:List Int)) (k b:Int):Comes (fun nf _ _ _=>innkeepref10_Take nf (w) ((i:Int)) (k) (b)) (fun r=>r.1=takeR w i k b):=by
  have hr:=ok.right.room (mePl i)
  refine Comes.succ (fun nf _ _ _=>innkeepref10_Take.eq nf _ _ _ _) ?_
  by_cases hk:inR w k
  · by_cases hb:inR w b
    · obtain ⟨k,rfl,hkn⟩:=inR_nat hk
      obtain ⟨b,rfl,hbn⟩:=inR_nat hb
      have hbx:b<List.length (w.1.2.2.2.2.1:List Bool):=by rw [ok.right.may.b1,← ok.right.w1]; exact hbn
      simp [-List.getD_eq_getElem?_getD,-List.length_eq_zero_iff,keepAll,freshHas,pathEq,eqPl_dec,wrap1,wrap0,nbeq,comes_call (is10_spec w (k:Int)),(is10_spec w (k:Int)).prop,comes_call (is10_spec w (b:Int)),(is10_spec w (b:Int)).prop,hk,hb,hkn,hbx,comes_call (refNear_spec w ok hi hbn),(refNear_spec w ok hi hbn).prop,comes_call (refRoom_spec w ok (mePl i) (kind_mePl i)),(refRoom_spec w ok (mePl i) (kind_mePl i)).prop,comes_call (refTo_spec w ok.sm hkn (mePl i)),(refTo_spec w ok.sm hkn (mePl i)).prop,takeR,takeErr]
      by_cases c1:NearP w i b <;> by_cases c2:boxAt w b=true <;> by_cases c3:plOf w k=boxPl (b:Int) <;> by_cases c4:roomI w (mePl i)=0 <;> simp [-List.getD_eq_getElem?_getD,-List.length_eq_zero_iff,keepAll,freshHas,pathEq,eqPl_dec,wrap1,wrap0,nbeq,c1,c2,c3,c4]
      intro h; omega
    · simp [-List.getD_eq_getElem?_getD,-List.length_eq_zero_iff,keepAll,freshHas,pathEq,eqPl_dec,wrap1,wrap0,nbeq,comes_call (is10_spec w k),(is10_spec w k).prop,comes_call (is10_spec w b),(is10_spec w b).prop,hk,hb,takeR,takeErr]
  · simp [-List.getD_eq_getElem?_getD,-List.length_eq_zero_iff,keepAll,freshHas,pathEq,eqPl_dec,wrap1,wrap0,nbeq,comes_call (is10_spec w k),(is10_spec w k).prop,comes_call (is10_spec w b),(is10_spec w b).prop,hk,takeR,takeErr]
end Go.Proofs.Ytmemggdjnfccfaa.Ghost
namespace Go.Proofs.Ytmemggdjnfccfaa.Ghost
open Go
theorem Ok.put2 {w:den tWorld} (ok:Ok w) {k:Nat} (hk:k<List.length (w.2.2.2.1:List (den tPlace))) {q:Pl} (hg:GoodPl w.1 q) (hr:1≤roomI w q) (hd:∀ j,j<List.length (w.2.2.2.1:List (den tPlace))→∃ p d,Hang (Ghost.put w k q).2.2.2.1 j p d∧d≤4):Ok (Ghost.put w k q):=by
  have h:=ok.right
  have hset:∀ p:Pl,manyPl (List.set (w.2.2.2.1:List (den tPlace)) k q) p (List.length (w.2.2.2.1:List (den tPlace)))≤manyPl w.2.2.2.1 p (List.length (w.2.2.2.1:List (den tPlace)))+(if q=p then 1 else 0):=fun p=>by
    have:=manyPl_set w.2.2.2.1 k q p hk (List.length (w.2.2.2.1:List (den tPlace)))
    simp only [hk,true_and] at this
    omega
  refine ⟨sm_put ok.sm k q,h.may,h.a1,h.c1,by rw [put_len]; exact h.w1,h.at_,fun i hi => ?_,fun i hi => ?_⟩
  · rw [put_len] at hi
    rw [put_at w k i q hk]
    split
    · exact hg
    · exact h.good i hi
  · have hlen:=put_len w k q
    rw [hlen] at hi ⊢
    obtain ⟨p,d,h1,h2⟩:=hd i hi
    have h3:=h1.depI 51 0 (by omega) (by omega)
    rw [Nat.zero_add] at h3
    refine ⟨Nat.le_trans (Nat.le_of_eq h3) h2,?_⟩
    generalize List.getD ((Ghost.put w k q).2.2.2.1:List (den tPlace)) i (dft tPlace)=p
    show (manyPl (List.set (w.2.2.2.1:List (den tPlace)) k q) _ _:Int)≤capI w.1 _
    have h1:=hset p
    by_cases hqp:q=p
    · rw [if_pos hqp] at h1
      subst hqp
      unfold roomI at hr
      omega
    · rw [if_neg hqp] at h1
      have h2:=(h.room p).1
      unfold roomI at h2
      omega
structure PutOk (w:den tWorld) (i k b:Nat):Prop where
  hk:k<List.length (w.2.2.2.1:List (den tPlace))
  hb:b<List.length (w.2.2.2.1:List (den tPlace))
  me:plOf w k=mePl i
  near:NearP w i b
  box:boxAt w b=true
  wi:¬ WiW w b k
  deep:¬ 4<depOf w b+1+hgtOf w k
  room:1≤roomI w (boxPl b)
theorem putErr_zero {w:den tWorld} {i k b:Nat} (hk:k<List.length (w.2.2.2.1:List (den tPlace))) (hb:b<List.length (w.2.2.2.1:List (den tPlace))):putErr w i k b=0↔PutOk w i k b:=by
  have h1:inR w (k:Int):=⟨Int.natCast_nonneg k,Int.ofNat_lt.2 hk⟩
  have h2:inR w (b:Int):=⟨Int.natCast_nonneg b,Int.ofNat_lt.2 hb⟩
  unfold putErr
  simp only [h1,h2,and_self,if_true,Int.toNat_natCast]
  constructor
  · intro h
    split at h <;> rename_i c1
    · split at h <;> rename_i c2
      · split at h <;> rename_i c3
        · cases h
        · split at h <;> rename_i c4
          · cases h
          · split at h <;> rename_i c5
            · cases h
            · exact ⟨hk,hb,c1.1,c1.2,c2,c3,c4,by omega⟩
      · cases h
    · cases h
  · intro h
    rw [if_pos ⟨h.me,h.near⟩,if_pos h.box,if_neg h.wi,if_neg h.deep,if_neg (by have:=h.room; omega)]
structure TakeOk (w:den tWorld) (i k b:Nat):Prop where
  hk:k<List.length (w.2.2.2.1:List (den tPlace))
  hb:b<List.length (w.2.2.2.1:List (den tPlace))
  near:NearP w i b
  box:boxAt w b=true
  at_:plOf w k=boxPl b
  room:1≤roomI w (mePl i)
theorem takeErr_zero {w:den tWorld} {i k b:Nat} (hk:k<List.length (w.2.2.2.1:List (den tPlace))) (hb:b<List.length (w.2.2.2.1:List (den tPlace))):takeErr w i k b=0↔TakeOk w i k b:=by
  have h1:inR w (k:Int):=⟨Int.natCast_nonneg k,Int.ofNat_lt.2 hk⟩
  have h2:inR w (b:Int):=⟨Int.natCast_nonneg b,Int.ofNat_lt.2 hb⟩
  unfold takeErr
  simp only [h1,h2,and_self,if_true,Int.toNat_natCast]
  constructor
  · intro h
    split at h <;> rename_i c1
    · split at h <;> rename_i c2
      · split at h <;> rename_i c3
        · split at h <;> rename_i c4
          · cases h
          · exact ⟨hk,hb,c1,c2,c3,by omega⟩
        · cases h
      · cases h
    · cases h
  · intro h
    rw [if_pos h.near,if_pos h.box,if_pos h.at_,if_neg (by have:=h.room; omega)]
theorem me_ne_box (i b:Nat):¬ mePl i=boxPl (b:Int):=fun e=>by
  have:(1:Int)=2:=congrArg (fun p:Pl=>(p.1:Int)) e
  cases this
theorem PutOk.notTake {w:den tWorld} {i k b:Nat} (h:PutOk w i k b):¬ TakeOk w i k b:=fun h'=>me_ne_box i b (h.me.symm.trans h'.at_)
theorem PutOk.moved {w:den tWorld} {i k b:Nat} (h:PutOk w i k b) (ok:Ok w):MovedTo w (put w k (boxPl (b:Int))) k (rootOf w b) (depOf w b+1):=moved_box ok.right h.hk h.hb h.wi
theorem PutOk.ok {w:den tWorld} {i k b:Nat} (h:PutOk w i k b) (ok:Ok w):Ok (put w k (boxPl (b:Int))):=by
  refine ok.put2 h.hk (.inr (.inr ⟨rfl,⟨Int.natCast_nonneg b,?_⟩,?_⟩)) h.room (fun j hj => ?_)
  · show (b:Int)<_
    rw [← ok.right.w1]; exact Int.ofNat_lt.2 h.hb
  · show List.getD (w.1.2.2.2.2.1:List Bool) (Int.toNat (b:Int)) false=true
    rw [Int.toNat_natCast]; exact h.box
  · obtain ⟨p,hp⟩:=hang_d ok h.hk h.hb h.wi hj
    refine ⟨p,_,hp,?_⟩
    have:¬ 4<dOf w k b j:=fun h4=>h.deep ((deep_iff ok h.hk h.hb h.wi).1 ⟨j,hj,h4⟩)
    omega
theorem TakeOk.moved {w:den tWorld} {i k b:Nat} (h:TakeOk w i k b) (ok:Ok w):MovedTo w (put w k (mePl i)) k (mePl i) 0:=moved_top ok.right h.hk (show ¬ (1:Int)=2 by decide)
theorem TakeOk.ok {w:den tWorld} {i k b:Nat} (h:TakeOk w i k b) (ok:Ok w) (hi:i<List.length (w.2.1:List Int)):Ok (put w k (mePl i)):=by
  have m:=h.moved ok
  refine ok.put2 h.hk (.inr (.inl ⟨rfl,Int.natCast_nonneg i,?_⟩)) h.room (fun j hj => ?_)
  · show (i:Int)<_
    rw [← ok.right.a1]; exact Int.ofNat_lt.2 hi
  · have:=(dep_le ok.right hj).2
    by_cases hw:WiW w j k
    · exact ⟨_,_,(m.inn j hj hw).1,by omega⟩
    · exact ⟨_,_,m.out j hj hw,this⟩
theorem PutOk.back {w:den tWorld} {i k b:Nat} (h:PutOk w i k b) (ok:Ok w):TakeOk (put w k (boxPl (b:Int))) i k b:=by
  have ok':=h.ok ok
  have m:=h.moved ok
  have hl:=put_len w k (boxPl (b:Int))
  have hat:plOf (put w k (boxPl (b:Int))) k=boxPl b:=by show List.getD _ k _=_; rw [put_at w k k _ h.hk,if_pos rfl]
  refine ⟨by rw [hl]; exact h.hk,by rw [hl]; exact h.hb,?_,h.box,hat,?_⟩
  · have e:=((m.eqs ok'.right hl h.hb).2 h.wi).1
    have hn:=h.near
    unfold NearP at hn ⊢
    rw [e]
    exact hn
  · rw [roomI_put w h.hk,if_pos h.me,if_neg (fun e=>me_ne_box i b e.symm)]
    have:=(ok.right.room (mePl i)).1
    omega
theorem near_of_me {w:den tWorld} {i k:Nat} (h:plOf w k=mePl i):NearP w i k:=.inr (by
  show rootP w.2.2.2.1 51 (plOf w k)=_
  rw [h]; exact rootP_top (show ¬ (1:Int)=2 by decide) 51)
theorem near_box {w:den tWorld} (h:RightP w) {i j b:Nat} (hj:j<List.length (w.2.2.2.1:List (den tPlace))) (h2:(plOf w j).1=(2:Int)) (hb:(plOf w j).2.1=(b:Int)):NearP w i j↔NearP w i b:=by
  obtain ⟨b',e,_,er⟩:=root_box h hj h2
  obtain rfl:b=b':=Int.ofNat.inj (hb.symm.trans e)
  unfold NearP
  rw [er]
theorem near_top {w:den tWorld} {i j:Nat} (h2:¬ (plOf w j).1=(2:Int)):NearP w i j↔plOf w j=flPl (atOf w i)∨plOf w j=mePl i:=by
  have:rootOf w j=plOf w j:=rootP_top h2 51
  unfold NearP
  rw [this]
theorem putR_err (w:den tWorld) (i:Nat) (k b:Int):(putR w i k b).2.1=putErr w i k b:=by
  unfold putR
  split
  · rename_i h; exact h.symm
  · rfl
theorem takeR_err (w:den tWorld) (i:Nat) (k b:Int):(takeR w i k b).2.1=takeErr w i k b:=by
  unfold takeR
  split
  · rename_i h; exact h.symm
  · rfl
theorem putR_sm {w:den tWorld} (h:Sm w) {i:Nat} {k b:Int}:Sm (putR w i k b).1:=by
  unfold putR
  split
  · exact sm_put h _ _
  · exact h
theorem takeR_sm {w:den tWorld} (h:Sm w) {i:Nat} {k b:Int}:Sm (takeR w i k b).1:=by
  unfold takeR
  split
  · exact sm_put h _ _
  · exact h
theorem takeErr_pos {w:den tWorld} {i:Nat} {k b:Int} (h:¬ takeErr w i k b=0):takeR w i k b=(w,takeErr w i k b,()):=if_neg h
theorem putErr_pos {w:den tWorld} {i:Nat} {k b:Int} (h:¬ putErr w i k b=0):putR w i k b=(w,putErr w i k b,()):=if_neg h
theorem takeErr_ok {w:den tWorld} {i k:Nat} {b:Int} (h:takeErr w i k b=0):takeR w i k b=(put w k (mePl i),0,()):=if_pos h
theorem putErr_ok {w:den tWorld} {i k:Nat} {b:Int} (h:putErr w i k b=0):putR w i k b=(put w k (boxPl b),0,()):=if_pos h
end Go.Proofs.Ytmemggdjnfccfaa.Ghost
