/- What functions come to, and that the statements are answered with 'true'. Conditions: none. -/
import Derived.Test.YtmemggdjnfccfaaS
import Derived.Test.YtmemggdjnfccfaaGE
import Derived.Test.YtmemggdjnfccfaaP1
import Derived.Test.YtmemggdjnfccfaaP2
import Derived.Test.YtmemggdjnfccfaaP3
import Derived.Test.YtmemggdjnfccfaaP4
import Derived.Test.YtmemggdjnfccfaaP5
import Derived.Test.YtmemggdjnfccfaaP6
import Derived.Test.YtmemggdjnfccfaaP7
import Derived.Test.YtmemggdjnfccfaaP8
import Derived.Test.YtmemggdjnfccfaaP9
import Derived.Test.YtmemggdjnfccfaaP10
set_option linter.unusedVariables false
set_option linter.unusedSimpArgs false
set_option linter.unusedSectionVars false
set_option linter.unnecessarySimpa false
namespace Go.Proofs.Ytmemggdjnfccfaa.Ghost
open Go
noncomputable def stepR (w:den tWorld) (i:Nat) (c:Cm):den tWorld×Int×Int×Unit :=
  if cKind c=1 then goR w i (cDir c).toNat
  else if cKind c=2 then pushR w i (cWho c) (cDir c).toNat
  else if cKind c=3 then ((getR w i (cItem c)).1,0,(getR w i (cItem c)).2.1,())
  else if cKind c=4 then ((dropR w i (cItem c)).1,0,(dropR w i (cItem c)).2.1,())
  else if cKind c=5 then ((putR w i (cItem c) (cBox c)).1,0,(putR w i (cItem c) (cBox c)).2.1,())
  else if cKind c=6 then ((takeR w i (cItem c) (cBox c)).1,0,(takeR w i (cItem c) (cBox c)).2.1,())
  else if cKind c=7 then ((giveR w i (cItem c) (cWho c)).1,0,(giveR w i (cItem c) (cWho c)).2.1,())
  else if cKind c=8 then ((tradeR w i (cWho c) (cGives c) (cPay c) (cWants c) (cFee c)).1,0,(tradeR w i (cWho c) (cGives c) (cPay c) (cWants c) (cFee c)).2.1,())
  else (w,0,0,())
def errRep (e:Int):den tReply:=(e,(0:Int),(0:Int),([]:List Int),([]:List Sn),(0:Int),())
def okRep (k r:Int):den tReply:=((0:Int),k,r,([]:List Int),([]:List Sn),(0:Int),())
open Classical in
noncomputable def doR (w:den tWorld) (i:Nat) (c:Cm):den tWorld×den tReply×Unit :=
  if MayC c then (if cKind c=9 then (w,lookR w i,()) else if cKind c=10 then (w,ownR w i,()) else if (stepR w i c).2.2.1=0 then ((stepR w i c).1,okRep (cKind c) (stepR w i c).2.1,()) else (w,errRep (stepR w i c).2.2.1,())) else (w,errRep 2,())
theorem MayC.dir {c:Cm} (h:MayC c):∃ d:Nat,d<4∧cDir c=(d:Int):=⟨(cDir c).toNat,by have:=h.d1; have:=h.d2; omega,by have:=h.d1; omega⟩
theorem MayC.kinds {c:Cm} (h:MayC c):cKind c=1∨cKind c=2∨cKind c=3∨cKind c=4∨cKind c=5∨cKind c=6∨cKind c=7∨cKind c=8∨cKind c=9∨cKind c=10:=by
  have:=h.k1
  have:=h.k2
  omega
theorem coin0:coinP 0:=⟨Int.le_refl 0,by decide⟩
structure TrC (c:Cm):Prop where
  g:(cGives c).length≤100
  w:(cWants c).length≤100
  pay:coinP (cPay c)
  fee:coinP (cFee c)
theorem trC {c:Cm} (hf:FewC c) (hm:MayC c):TrC c where
  g:=by have:=hf.1; omega
  w:=by have:=hf.2; omega
  pay:=by
    by_cases hk:cKind c=8
    · exact hm.pay.1 hk
    · rw [hm.pay.2 hk]; exact coin0
  fee:=by
    by_cases hk:cKind c=8
    · exact hm.fee.1 hk
    · rw [hm.fee.2 hk]; exact coin0
theorem refDo_spec {w:den tWorld} (ok:Ok w) {i:Nat} (hi:i<List.length (w.2.1:List Int)) {c:Cm} (hf:FewC c):Comes (fun nf _ _ _=>innkeepref13_Do nf (w) ((i:Int)) (c)) (fun r=>r.1=doR w i c):=by
  have hmay:=mayC_spec c (by have:=hf.1; omega) (by have:=hf.2; omega)
  refine Comes.succ (fun nf _ _ _=>innkeepref13_Do.eq nf _ _ _) ?_
  by_cases hm:MayC c
  · have tr:=trC hf hm
    obtain ⟨d,hd,ed⟩:=hm.dir
    have hst:=ok.right.stands hi hd
    have hex:=ok.right.exit hi hd
    have k1:=refMove_spec w ok.sm hst (hex.elim .inl (fun h=>.inr h.1))
    have k2:=refPush_spec w ok.sm hi (cWho c) (d:=d) (fun hz=>pushStands ok hd hz)
    rw [← ed] at k1 k2
    have ed':d=(cDir c).toNat:=by omega
    rw [ed'] at k1 k2
    unfold doR
    rw [if_pos hm]
    rcases hm.kinds with k | k | k | k | k | k | k | k | k | k
    · by_cases he:(goR w i (cDir c).toNat).2.2.1=0 <;> simp [-List.getD_eq_getElem?_getD,-List.length_eq_zero_iff,keepAll,freshHas,pathEq,eqPl_dec,wrap1,wrap0,nbeq,comes_call (hmay),(hmay).bprop,hm,k,comes_call (k1),(k1).prop,stepR,he,okRep,errRep]
    · by_cases he:(pushR w i (cWho c) (cDir c).toNat).2.2.1=0 <;> simp [-List.getD_eq_getElem?_getD,-List.length_eq_zero_iff,keepAll,freshHas,pathEq,eqPl_dec,wrap1,wrap0,nbeq,comes_call (hmay),(hmay).bprop,hm,k,comes_call (k2),(k2).prop,stepR,he,okRep,errRep]
    · by_cases he:(getR w i (cItem c)).2.1=0 <;> simp [-List.getD_eq_getElem?_getD,-List.length_eq_zero_iff,keepAll,freshHas,pathEq,eqPl_dec,wrap1,wrap0,nbeq,comes_call (hmay),(hmay).bprop,hm,k,comes_call (refGet_spec w ok hi (cItem c)),(refGet_spec w ok hi (cItem c)).prop,stepR,he,okRep,errRep]
    · by_cases he:(dropR w i (cItem c)).2.1=0 <;> simp [-List.getD_eq_getElem?_getD,-List.length_eq_zero_iff,keepAll,freshHas,pathEq,eqPl_dec,wrap1,wrap0,nbeq,comes_call (hmay),(hmay).bprop,hm,k,comes_call (refDrop_spec w ok hi (cItem c)),(refDrop_spec w ok hi (cItem c)).prop,stepR,he,okRep,errRep]
    · by_cases he:(putR w i (cItem c) (cBox c)).2.1=0 <;> simp [-List.getD_eq_getElem?_getD,-List.length_eq_zero_iff,keepAll,freshHas,pathEq,eqPl_dec,wrap1,wrap0,nbeq,comes_call (hmay),(hmay).bprop,hm,k,comes_call (refPut_spec ok hi (cItem c) (cBox c)),(refPut_spec ok hi (cItem c) (cBox c)).prop,stepR,he,okRep,errRep]
    · by_cases he:(takeR w i (cItem c) (cBox c)).2.1=0 <;> simp [-List.getD_eq_getElem?_getD,-List.length_eq_zero_iff,keepAll,freshHas,pathEq,eqPl_dec,wrap1,wrap0,nbeq,comes_call (hmay),(hmay).bprop,hm,k,comes_call (refTake_spec ok hi (cItem c) (cBox c)),(refTake_spec ok hi (cItem c) (cBox c)).prop,stepR,he,okRep,errRep]
    · by_cases he:(giveR w i (cItem c) (cWho c)).2.1=0 <;> simp [-List.getD_eq_getElem?_getD,-List.length_eq_zero_iff,keepAll,freshHas,pathEq,eqPl_dec,wrap1,wrap0,nbeq,comes_call (hmay),(hmay).bprop,hm,k,comes_call (refGive_spec ok hi (cItem c) (cWho c)),(refGive_spec ok hi (cItem c) (cWho c)).prop,stepR,he,okRep,errRep]
    · by_cases he:(tradeR w i (cWho c) (cGives c) (cPay c) (cWants c) (cFee c)).2.1=0 <;> simp [-List.getD_eq_getElem?_getD,-List.length_eq_zero_iff,keepAll,freshHas,pathEq,eqPl_dec,wrap1,wrap0,nbeq,comes_call (hmay),(hmay).bprop,hm,k,comes_call (refTrade_spec ok hi c tr.g tr.w tr.pay tr.fee),(refTrade_spec ok hi c tr.g tr.w tr.pay tr.fee).prop,stepR,he,okRep,errRep]
    · simp [-List.getD_eq_getElem?_getD,-List.length_eq_zero_iff,keepAll,freshHas,pathEq,eqPl_dec,wrap1,wrap0,nbeq,comes_call (hmay),(hmay).bprop,hm,k,comes_call (refLook_spec w ok hi),(refLook_spec w ok hi).prop]
    · simp [-List.getD_eq_getElem?_getD,-List.length_eq_zero_iff,keepAll,freshHas,pathEq,eqPl_dec,wrap1,wrap0,nbeq,comes_call (hmay),(hmay).bprop,hm,k,comes_call (refOwn_spec w ok hi),(refOwn_spec w ok hi).prop]
  · unfold doR
    rw [if_neg hm]
    simp [-List.getD_eq_getElem?_getD,-List.length_eq_zero_iff,keepAll,freshHas,pathEq,eqPl_dec,wrap1,wrap0,nbeq,comes_call (hmay),(hmay).bprop,hm,errRep]
end Go.Proofs.Ytmemggdjnfccfaa.Ghost
namespace Go.Proofs.Ytmemggdjnfccfaa.Ghost
open Go
theorem goR_ok {w:den tWorld} (ok:Ok w) {i d:Nat} (hi:i<List.length (w.2.1:List Int)) (hd:d<4):Ok (goR w i d).1∧(goR w i d).1.1=w.1:=by
  unfold goR
  by_cases h:0≤wExit w i d
  · rw [if_pos h]; exact ⟨ok.moved hi hd h,rfl⟩
  · rw [if_neg h]; exact ⟨ok,rfl⟩
theorem passR_ok {w:den tWorld} (ok:Ok w) {k:Int} {p q:Pl} (hp:¬ p.1=(2:Int)) (hq:¬ q.1=(2:Int)) (hg:GoodPl w.1 q):Ok (passR w k p q).1∧(passR w k p q).1.1=w.1:=by
  unfold passR
  by_cases h:passErr w k p q=0
  · rw [if_pos h]
    obtain ⟨h1,h2,h3,h4⟩:=passErr_zero h
    exact ⟨ok.put (by omega) hq (by rw [h3]; exact hp) hg h4,rfl⟩
  · rw [if_neg h]; exact ⟨ok,rfl⟩
theorem giveErr_zero {w:den tWorld} {p:Nat} {k q:Int} (h:giveErr w p k q=0):inR w k∧inQ w q∧¬ q=(p:Int)∧atOf w q.toNat=atOf w p∧plOf w k.toNat=mePl p∧1≤roomI w (mePl q.toNat):=by
  have hin:=giveErr_in (w:=w) (p:=p) (k:=k) (q:=q) (by rw [h]; decide)
  unfold giveErr at h
  rw [if_pos hin] at h
  by_cases h1:q=(p:Int)
  · rw [if_pos h1] at h; exact absurd h (by decide)
  rw [if_neg h1] at h
  by_cases h2:atOf w q.toNat=atOf w p∧plOf w k.toNat=mePl p
  · rw [if_pos h2] at h
    by_cases h3:roomI w (mePl q.toNat)<1
    · rw [if_pos h3] at h; exact absurd h (by decide)
    · exact ⟨hin.1,hin.2,h1,h2.1,h2.2,by omega⟩
  · rw [if_neg h2] at h; exact absurd h (by decide)
theorem stepR_ok {w:den tWorld} (ok:Ok w) {i:Nat} (hi:i<List.length (w.2.1:List Int)) {c:Cm} (hm:MayC c):Ok (stepR w i c).1∧(stepR w i c).1.1=w.1:=by
  obtain ⟨d,hd,ed⟩:=hm.dir
  have ed':(cDir c).toNat=d:=by omega
  have g1:=ok.right.good_me hi
  have g2:=ok.right.good_floor hi
  unfold stepR
  rw [ed']
  by_cases k1:cKind c=1
  · rw [if_pos k1]; exact goR_ok ok hi hd
  rw [if_neg k1]
  by_cases k2:cKind c=2
  · rw [if_pos k2]
    unfold pushR
    by_cases h:pushErr w i (cWho c)=0
    · rw [if_pos h]
      obtain ⟨h1,h2,_⟩:=pushErr_zero h
      exact goR_ok ok (by omega) hd
    · rw [if_neg h]; exact ⟨ok,rfl⟩
  rw [if_neg k2]
  by_cases k3:cKind c=3
  · rw [if_pos k3]; exact passR_ok ok (floor_not_box w i) (me_not_box i) g1
  rw [if_neg k3]
  by_cases k4:cKind c=4
  · rw [if_pos k4]; exact passR_ok ok (me_not_box i) (floor_not_box w i) g2
  rw [if_neg k4]
  by_cases k5:cKind c=5
  · rw [if_pos k5]
    show Ok (putR w i (cItem c) (cBox c)).1∧(putR w i (cItem c) (cBox c)).1.1=w.1
    by_cases h:putErr w i (cItem c) (cBox c)=0
    · obtain ⟨h1,h2⟩:=putErr_in (w:=w) (i:=i) (k:=cItem c) (b:=cBox c) (by rw [h]; decide)
      obtain ⟨a,ea,ha⟩:=inR_nat h1
      obtain ⟨b,eb,hb⟩:=inR_nat h2
      rw [ea,eb] at h ⊢
      rw [putErr_ok h]
      exact ⟨((putErr_zero ha hb).1 h).ok ok,rfl⟩
    · rw [putErr_pos h]; exact ⟨ok,rfl⟩
  rw [if_neg k5]
  by_cases k6:cKind c=6
  · rw [if_pos k6]
    show Ok (takeR w i (cItem c) (cBox c)).1∧(takeR w i (cItem c) (cBox c)).1.1=w.1
    by_cases h:takeErr w i (cItem c) (cBox c)=0
    · obtain ⟨h1,h2⟩:=takeErr_in (w:=w) (i:=i) (k:=cItem c) (b:=cBox c) (by rw [h]; decide)
      obtain ⟨a,ea,ha⟩:=inR_nat h1
      obtain ⟨b,eb,hb⟩:=inR_nat h2
      rw [ea,eb] at h ⊢
      rw [takeErr_ok h]
      exact ⟨((takeErr_zero ha hb).1 h).ok ok hi,rfl⟩
    · rw [takeErr_pos h]; exact ⟨ok,rfl⟩
  rw [if_neg k6]
  by_cases k7:cKind c=7
  · rw [if_pos k7]
    show Ok (giveR w i (cItem c) (cWho c)).1∧(giveR w i (cItem c) (cWho c)).1.1=w.1
    unfold giveR
    by_cases h:giveErr w i (cItem c) (cWho c)=0
    · rw [if_pos h]
      obtain ⟨h1,h2,h3,h4,h5,h6⟩:=giveErr_zero h
      obtain ⟨a,ea,ha⟩:=inR_nat h1
      obtain ⟨b,eb,hb⟩:=inQ_nat h2
      rw [ea] at h5 ⊢
      rw [eb] at h6 ⊢
      exact ⟨ok.put ha (me_not_box b) (by show ¬ (plOf w a).1=(2:Int); rw [show plOf w a=mePl i from h5]; exact me_not_box i) (ok.right.good_me hb) h6,rfl⟩
    · rw [if_neg h]; exact ⟨ok,rfl⟩
  rw [if_neg k7]
  by_cases k8:cKind c=8
  · rw [if_pos k8]
    show Ok (tradeR w i (cWho c) (cGives c) (cPay c) (cWants c) (cFee c)).1∧(tradeR w i (cWho c) (cGives c) (cPay c) (cWants c) (cFee c)).1.1=w.1
    unfold tradeR
    by_cases h:tradeErr w i (cWho c) (cGives c) (cPay c) (cWants c) (cFee c)=0
    · rw [if_pos h]
      obtain ⟨n,e,ht⟩:=(tradeErr_zero (swapErr_nn _ _)).1 h
      rw [e,Int.toNat_natCast]
      exact ⟨tdW_ok ok hi ht,rfl⟩
    · rw [if_neg h]; exact ⟨ok,rfl⟩
  rw [if_neg k8]; exact ⟨ok,rfl⟩
theorem doR_ok {w:den tWorld} (ok:Ok w) {i:Nat} (hi:i<List.length (w.2.1:List Int)) (c:Cm):Ok (doR w i c).1∧(doR w i c).1.1=w.1:=by
  unfold doR
  by_cases hm:MayC c
  · rw [if_pos hm]
    have h:=stepR_ok ok hi hm
    split
    · exact ⟨ok,rfl⟩
    · split
      · exact ⟨ok,rfl⟩
      · split
        · exact h
        · exact ⟨ok,rfl⟩
  · rw [if_neg hm]; exact ⟨ok,rfl⟩
end Go.Proofs.Ytmemggdjnfccfaa.Ghost
