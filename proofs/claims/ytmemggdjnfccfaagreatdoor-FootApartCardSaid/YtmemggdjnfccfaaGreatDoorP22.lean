/- What functions come to, and that the statements are answered with 'true'. Conditions: none. -/
import Derived.Test.YtmemggdjnfccfaaGreatDoorS
import Derived.Test.YtmemggdjnfccfaaGreatDoorGE
import Derived.Test.YtmemggdjnfccfaaGreatDoorP1
import Derived.Test.YtmemggdjnfccfaaGreatDoorP2
import Derived.Test.YtmemggdjnfccfaaGreatDoorP3
import Derived.Test.YtmemggdjnfccfaaGreatDoorP4
import Derived.Test.YtmemggdjnfccfaaGreatDoorP5
import Derived.Test.YtmemggdjnfccfaaGreatDoorP6
import Derived.Test.YtmemggdjnfccfaaGreatDoorP7
import Derived.Test.YtmemggdjnfccfaaGreatDoorP8
import Derived.Test.YtmemggdjnfccfaaGreatDoorP9
import Derived.Test.YtmemggdjnfccfaaGreatDoorP10
import Derived.Test.YtmemggdjnfccfaaGreatDoorP11
import Derived.Test.YtmemggdjnfccfaaGreatDoorP12
import Derived.Test.YtmemggdjnfccfaaGreatDoorP13
import Derived.Test.YtmemggdjnfccfaaGreatDoorP14
import Derived.Test.YtmemggdjnfccfaaGreatDoorP15
import Derived.Test.YtmemggdjnfccfaaGreatDoorP16
import Derived.Test.YtmemggdjnfccfaaGreatDoorP17
import Derived.Test.YtmemggdjnfccfaaGreatDoorP18
import Derived.Test.YtmemggdjnfccfaaGreatDoorP19
import Derived.Test.YtmemggdjnfccfaaGreatDoorP20
import Derived.Test.YtmemggdjnfccfaaGreatDoorP21
set_option linter.unusedVariables false
set_option linter.unusedSimpArgs false
set_option linter.unusedSectionVars false
set_option linter.unnecessarySimpa false
namespace Go.Proofs.YtmemggdjnfccfaaGreatDoor.Ghost
open Go
structure AEl (M:Int→Int→Prop) (w X A B:den Zb):Prop where
  at_:∀ j:Nat,(Yc X j=Yc w j∧Yc B j=Yc A j)∨(M 1 (j:Int)∧Yc B j=Yc X j)
  co:∀ j:Nat,(Yw X j=Yw w j∧Yw B j=Yw A j)∨(M 1 (j:Int)∧Yw B j=Yw X j)
  it:∀ j,j<List.length (w.2.2.2.1:List (den Za))→(Xs X j=Xs w j∧Xs B j=Xs A j)∨(M (Xd w j).1 (Xd w j).2.1∧Xs B j=Xs X j)
theorem Hs (M:Int→Int→Prop) (w A:den Zb):AEl M w w A A:=⟨fun _=>.inl ⟨rfl,rfl⟩,fun _=>.inl ⟨rfl,rfl⟩,fun _ _=>.inl ⟨rfl,rfl⟩⟩
theorem ACp {w:den Zb} {m:Nat} (hm:m<List.length (w.2.2.2.1:List (den Za))) (q:Pl) (j:Nat):Xs (put w m q) j=if j=m then q else Xs w j:=Mu w m j q hm
theorem ACn {M:Int→Int→Prop} {w A:den Zb} (hl:List.length (A.2.2.2.1:List (den Za))=List.length (w.2.2.2.1:List (den Za))) {m:Nat} (hm:m<List.length (w.2.2.2.1:List (den Za))) (q:Pl) (h:M (Xd w m).1 (Xd w m).2.1):AEl M w (put w m q) A (put A m q):=by
  refine ⟨fun _=>.inl ⟨rfl,rfl⟩,fun _=>.inl ⟨rfl,rfl⟩,fun j _ => ?_⟩
  rw [ACp hm,ACp (by rw [hl]; exact hm)]
  by_cases e:j=m
  · rw [if_pos e,if_pos e]; subst e; exact .inr ⟨h,rfl⟩
  · rw [if_neg e,if_neg e]; exact .inl ⟨rfl,rfl⟩
theorem AGr {M:Int→Int→Prop} {w A:den Zb} (hl:List.length (A.2.1:List Int)=List.length (w.2.1:List Int)) {k:Nat} (hk:k<List.length (w.2.1:List Int)) (h:M 1 (k:Int)) {d:Nat} (he:Y5 A k d=Y5 w k d):AEl M w (goR w k d).1 A (goR A k d).1∧(goR A k d).2=(goR w k d).2:=by
  unfold goR
  rw [he]
  by_cases c:0≤Y5 w k d
  · rw [if_pos c,if_pos c]
    refine ⟨⟨fun j => ?_,fun _=>.inl ⟨rfl,rfl⟩,fun _ _=>.inl ⟨rfl,rfl⟩⟩,rfl⟩
    show (List.getD ((moved w k (Y5 w k d)).2.1:List Int) j (0:Int)=_∧List.getD ((moved A k (Y5 w k d)).2.1:List Int) j (0:Int)=_)∨(_∧List.getD ((moved A k (Y5 w k d)).2.1:List Int) j (0:Int)=List.getD ((moved w k (Y5 w k d)).2.1:List Int) j (0:Int))
    rw [Mo w k j _ hk,Mo A k j _ (by rw [hl]; exact hk)]
    by_cases e:j=k
    · rw [if_pos e,if_pos e]; subst e; exact .inr ⟨h,rfl⟩
    · rw [if_neg e,if_neg e]; exact .inl ⟨rfl,rfl⟩
  · rw [if_neg c,if_neg c]
    exact ⟨Hs M w A,rfl⟩
section
variable {S:Int→Int→Prop} {w n:den Zb} (F:Far S w n) {k:Nat} (hk:k<List.length (w.2.1:List Int)) {d:Cm} (may:Ws d) (hd:∀ a b,Y7 w k d a b→¬ S a b)
include F hk may hd
theorem Far.here:BM0 S w k:=⟨hk,hd _ _ (Ri w k d),hd _ _ (Rh w k d)⟩
theorem Far.who (hkd:Z2 d=2∨Z2 d=7∨Z2 d=8):∀ b:Nat,Y6 d=(b:Int)→b<List.length (w.2.1:List Int)→¬ S 1 (b:Int):=fun b e hb=>hd _ _ (Li hkd e hb)
theorem Far.step:AEl (Y7 w k d) w (X9 w k d).1 n (X9 n k d).1∧(X9 n k d).2=(X9 w k d).2:=by
  have H:=F.here hk may hd
  have fa:=F.at_ H
  have ff:Cu S w (V7 w k):=F.fl H
  have fm:Cu S w (Ij k):=F.me H
  by_cases k36:3≤Z2 d∧Z2 d≤6
  · have ee:eK n k d=eK w k d:=by
      unfold eK
      rw [show V7 n k=V7 w k by show E4 (Yc n k)=E4 (Yc w k); rw [fa],F.pass ff fm,F.pass fm ff,F.putE H,F.takeE H]
    have eq:qK n k d=qK w k d:=by
      unfold qK
      rw [show V7 n k=V7 w k by show E4 (Yc n k)=E4 (Yc w k); rw [fa]]
    rw [AJx w k k36,AJx n k k36,ee,eq]
    by_cases e:eK w k d=0
    · rw [if_pos e,if_pos e]
      obtain ⟨p',d',D⟩:=AUg F.okw hk k36 e
      exact ⟨ACn F.lenW D.hm _ (Ar D.near),rfl⟩
    · rw [if_neg e,if_neg e]; exact ⟨Hs _ w n,rfl⟩
  by_cases k1:Z2 d=1
  · have s:∀ w,X9 w k d=goR w k (Hg d).toNat:=fun w=>by unfold X9; rw [if_pos k1]
    rw [s,s]
    exact AGr F.lenA hk (Ri w k d) (F.exit H _)
  by_cases k2:Z2 d=2
  · have s:∀ w,X9 w k d=Np w k (Y6 d) (Hg d).toNat:=fun w=>by unfold X9; rw [if_neg k1,if_pos k2]
    rw [s,s]
    unfold Np
    rw [F.pushE H _ (F.who hk may hd (.inl k2))]
    by_cases h:Ki w k (Y6 d)=0
    · rw [if_pos h,if_pos h]
      obtain ⟨h1,h2,h3,h4⟩:=Gx h
      have e:Y6 d=((Y6 d).toNat:Int):=by omega
      have hq:(Y6 d).toNat<List.length (w.2.1:List Int):=by omega
      have sq:=F.who hk may hd (.inl k2) _ e hq
      have ex:Y5 n (Y6 d).toNat (Hg d).toNat=Y5 w (Y6 d).toNat (Hg d).toNat:=by
        unfold Y5
        rw [F.desc,show List.getD (n.2.1:List Int) (Y6 d).toNat (0:Int)=List.getD (w.2.1:List Int) (Y6 d).toNat (0:Int) from (F.pl _ sq).1]
      exact AGr F.lenA hq (Li (.inl k2) e hq) ex
    · rw [if_neg h,if_neg h]; exact ⟨Hs _ w n,rfl⟩
  by_cases k7:Z2 d=7
  · have s:∀ w,X9 w k d=((H9 w k (X4 d) (Y6 d)).1,0,(H9 w k (X4 d) (Y6 d)).2.1,()):=fun w=>by
      unfold X9; rw [if_neg k1,if_neg k2,if_neg (by omega),if_neg (by omega),if_neg (by omega),if_neg (by omega),if_pos k7]
    rw [s,s]
    unfold H9
    rw [F.giveE H _ _ (F.who hk may hd (.inr (.inl k7)))]
    by_cases h:giveErr w k (X4 d) (Y6 d)=0
    · rw [if_pos h,if_pos h]
      obtain ⟨h1,h2,h3,h4,h5,h6⟩:=O2 h
      obtain ⟨a,ea,ha⟩:=Qk h1
      rw [ea,Int.toNat_natCast] at h5 ⊢
      have h5:Xs w a=X2 k:=h5
      exact ⟨ACn F.lenW ha _ (by rw [Gk h5 (Yx k)]; exact Ri w k d),rfl⟩
    · rw [if_neg h,if_neg h]; exact ⟨Hs _ w n,rfl⟩
  by_cases k8:Z2 d=8
  · have s:∀ w,X9 w k d=((Jj w k (Y6 d) (Xb d) (K9 d) (Xg d) (K8 d)).1,0,(Jj w k (Y6 d) (Xb d) (K9 d) (Xg d) (K8 d)).2.1,()):=fun w=>by
      unfold X9; rw [if_neg k1,if_neg k2,if_neg (by omega),if_neg (by omega),if_neg (by omega),if_neg (by omega),if_neg k7,if_pos k8]
    rw [s,s]
    unfold Jj
    have te:=F.tradeE H (Y6 d) (Xb d) (K9 d) (Xg d) (K8 d) (F.who hk may hd (.inr (.inr k8)))
    rw [te]
    by_cases h:tradeErr w k (Y6 d) (Xb d) (K9 d) (Xg d) (K8 d)=0
    · rw [if_pos h,if_pos h]
      rw [h] at te
      obtain ⟨q,e,ht⟩:=(Wq (Nj _ _)).1 h
      obtain ⟨q',e',ht'⟩:=(Wq (Nj _ _)).1 te
      obtain rfl:q=q':=Int.ofNat.inj (e.symm.trans e')
      rw [e,Int.toNat_natCast]
      have sq:=F.who hk may hd (.inr (.inr k8)) q e ht.hq
      have fq:Y7 w k d 1 (q:Int):=Li (.inr (.inr k8)) e ht.hq
      have cq:=(F.pl q sq).2
      have ck:=(F.pl k H.k1).2
      have hk':k<List.length (n.2.1:List Int):=by rw [F.lenA]; exact hk
      refine ⟨⟨fun _=>.inl ⟨rfl,rfl⟩,fun j => ?_,fun j hj => ?_⟩,rfl⟩
      · have x:=Lt F.okw hk ht j
        have y:=Lt F.okn hk' ht' j
        by_cases e1:j=q
        · rw [if_pos e1] at x y
          subst e1
          exact .inr ⟨fq,y.trans ((by rw [cq]:Yw n j - K8 d+K9 d=Yw w j - K8 d+K9 d).trans x.symm)⟩
        · by_cases e2:j=k
          · rw [if_neg e1,if_pos e2] at x y
            subst e2
            exact .inr ⟨Ri w j d,y.trans ((by rw [ck]:Yw n j - K9 d+K8 d=Yw w j - K9 d+K8 d).trans x.symm)⟩
          · rw [if_neg e1,if_neg e2] at x y
            exact .inl ⟨x,y⟩
      · have A:=ht.lots.at_ j
        have B:=ht'.lots.at_ j
        have rk:Xs w j=X2 k→Y7 w k d (Xd w j).1 (Xd w j).2.1:=fun y=>by rw [Gk y (Yx k)]; exact Ri w k d
        have rq:Xs w j=X2 q→Y7 w k d (Xd w j).1 (Xd w j).2.1:=fun y=>by rw [Gk y (Yx q)]; exact fq
        have no:(∀ i,i<(Xb d ++ Xg d).length→¬ iAt (Xb d ++ Xg d) i=(j:Int))→¬ (∃ i,i<(Xb d).length∧iAt (Xb d) i=(j:Int))∧¬ (∃ i,i<(Xg d).length∧iAt (Xg d) i=(j:Int)):=fun h =>
          ⟨fun ⟨i,h1,h2⟩=>h i (by rw [List.length_append]; omega) (by rw [Rg h1]; exact h2),fun ⟨i,h1,h2⟩=>h ((Xb d).length+i) (by rw [List.length_append]; omega) (by rw [Wb]; exact h2)⟩
        rcases A with ⟨x,z⟩ | ⟨x,y,z⟩ | ⟨x,y,z⟩
        · rcases B with ⟨x',_⟩ | ⟨_,_,z'⟩ | ⟨_,_,z'⟩
          · exact .inl ⟨x,x'⟩
          · exact absurd z' (no z).2
          · exact absurd z' (no z).1
        · rcases B with ⟨_,z'⟩ | ⟨x',_,_⟩ | ⟨x',y',z'⟩
          · exact absurd z (no z').2
          · exact .inr ⟨rq y,x'.trans x.symm⟩
          · have:=(F.place (F.me H) hj).1 y'
            rw [show Xs w j=X2 q from y] at this
            exact absurd (Int.ofNat.inj (congrArg (fun p:Pl=>(p.2.1:Int)) this)).symm ht.lots.pq
        · rcases B with ⟨_,z'⟩ | ⟨x',y',z'⟩ | ⟨x',_,_⟩
          · exact absurd z (no z').1
          · have:=(F.place (t:=X2 q) (.inl ⟨Yx q,sq⟩) hj).1 y'
            rw [show Xs w j=X2 k from y] at this
            exact absurd (Int.ofNat.inj (congrArg (fun p:Pl=>(p.2.1:Int)) this)) ht.lots.pq
          · exact .inr ⟨rk y,x'.trans x.symm⟩
    · rw [if_neg h,if_neg h]; exact ⟨Hs _ w n,rfl⟩
  have s:∀ w,X9 w k d=(w,0,0,()):=fun w=>by
    unfold X9; rw [if_neg k1,if_neg k2,if_neg (by omega),if_neg (by omega),if_neg (by omega),if_neg (by omega),if_neg k7,if_neg k8]
  rw [s,s]; exact ⟨Hs _ w n,rfl⟩
theorem Far.do:AEl (Y7 w k d) w (doR w k d).1 n (doR n k d).1∧(doR n k d).2.1=(doR w k d).2.1:=by
  have H:=F.here hk may hd
  obtain ⟨P,e⟩:=F.step hk may hd
  unfold doR
  rw [if_pos may,if_pos may]
  by_cases h9:Z2 d=9
  · rw [if_pos h9,if_pos h9,F.look H]; exact ⟨Hs _ w n,rfl⟩
  rw [if_neg h9,if_neg h9]
  by_cases h10:Z2 d=10
  · rw [if_pos h10,if_pos h10,F.own H]; exact ⟨Hs _ w n,rfl⟩
  rw [if_neg h10,if_neg h10,e]
  by_cases z:(X9 w k d).2.2.1=0
  · rw [if_pos z,if_pos z]; exact ⟨P,rfl⟩
  · rw [if_neg z,if_neg z]; exact ⟨Hs _ w n,rfl⟩
end
end Go.Proofs.YtmemggdjnfccfaaGreatDoor.Ghost
