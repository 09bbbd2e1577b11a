/- What functions come to, and that the statements are answered with 'true'. Conditions: none. -/
import Derived.Test.YtmemggdjnfccfaaS
import Derived.Test.YtmemggdjnfccfaaGE
import Derived.Test.YtmemggdjnfccfaaP1
import Derived.Test.YtmemggdjnfccfaaP2
import Derived.Test.YtmemggdjnfccfaaP3
import Derived.Test.YtmemggdjnfccfaaP4
import Derived.Test.YtmemggdjnfccfaaP5
set_option linter.unusedVariables false
set_option linter.unusedSimpArgs false
set_option linter.unusedSectionVars false
set_option linter.unnecessarySimpa false
namespace Go.Proofs.Ytmemggdjnfccfaa.Ghost
open Go
theorem exit_spec (w:den tWorld) (a b:Int) (ha:0≤a∧a<(List.length (w.1.1:List (List Int)):Int)) (hb:0≤b∧b<4):Comes (fun n _ _ _=>ways_Exit n w a b) (fun r=>r=(((if exitAt w.1 (Int.toNat a) (Int.toNat b)<0 then 0 else exitAt w.1 (Int.toNat a) (Int.toNat b)),decide (0≤exitAt w.1 (Int.toNat a) (Int.toNat b)),()),[])) :=
  Comes.succ (fun n _ _ _=>ways_Exit.eq n w a b) (Comes.ite ha (Comes.ite hb (Comes.ret rfl)))
def pushErr (w:den tWorld) (i:Nat) (q:Int):Int:=if q<0 then 3 else if (List.length (w.2.1:List Int):Int)≤q then 3 else if q=(i:Int) then 12 else if List.getD (w.2.1:List Int) (Int.toNat q) (0:Int)=List.getD (w.2.1:List Int) i (0:Int) then 0 else 5
theorem pushErr_zero {w:den tWorld} {i:Nat} {q:Int} (h:pushErr w i q=0):0≤q∧q<(List.length (w.2.1:List Int):Int)∧q≠i∧List.getD (w.2.1:List Int) (Int.toNat q) (0:Int)=List.getD (w.2.1:List Int) i (0:Int):=by
  unfold pushErr at h
  split at h
  · cases h
  · split at h
    · cases h
    · split at h
      · cases h
      · split at h
        · rename_i a b c d; exact ⟨by omega,by omega,c,d⟩
        · cases h
def pushR (w:den tWorld) (i:Nat) (q:Int) (d:Nat):den tWorld×Int×Int×Unit:=if pushErr w i q=0 then goR w (Int.toNat q) d else (w,0,pushErr w i q,())
theorem pass8_spec (w:den tWorld) (h:Sm w) {i d:Nat} (hs:Stands w i d) (he:wExit w i d = -1∨0≤wExit w i d):Comes (fun n _ _ _=>innkeepref08_pass n w (i:Int) (d:Int)) (fun r=>r.1=goR w i d):=by
  have hi:=hs.ip
  have hd:=hs.dp
  have e1:exitAt w.1 (Int.toNat (List.getD (w.2.1:List Int) (Int.toNat (i:Int)) (0:Int))) (Int.toNat (d:Int))=wExit w i d:=by rw [Int.toNat_natCast,Int.toNat_natCast]; rfl
  refine Comes.succ (fun n _ _ _=>innkeepref08_pass.eq n w i d) (Comes.ite (by omega) (Comes.ite ⟨by rw [Int.toNat_natCast]; exact hs.r0,by rw [Int.toNat_natCast]; exact hs.r1⟩ (Comes.ite (by omega) (Comes.bif (fun hb=>Comes.ret ?_) (fun hb=>Comes.call (copied_spec w h) (fun u hu => ?_))))))
  · have hb:wExit w i d = -1:=by rw [← e1]; exact of_decide_eq_true hb
    unfold goR
    rw [if_neg (by omega)]
  · have hb:¬ wExit w i d = -1:=by rw [← e1]; exact of_decide_eq_false hb
    subst hu
    refine Comes.bifT rfl (Comes.ite (by show (0:Int)≤i∧(i:Int)<(List.length (w.2.1:List Int):Int); omega) (Comes.ret ?_))
    unfold goR
    rw [if_pos (by omega)]
    show ((w.1,List.set (w.2.1:List Int) (Int.toNat (i:Int)) (exitAt w.1 (Int.toNat (List.getD (w.2.1:List Int) (Int.toNat (i:Int)) (0:Int))) (Int.toNat (d:Int))),w.2.2.1,w.2.2.2.1,()),exitAt w.1 (Int.toNat (List.getD (w.2.1:List Int) (Int.toNat (i:Int)) (0:Int))) (Int.toNat (d:Int)),0,())=_
    rw [e1,Int.toNat_natCast]
    rfl
theorem refMove_spec (w:den tWorld) (h:Sm w) {i d:Nat} (hs:Stands w i d) (he:wExit w i d = -1∨0≤wExit w i d):Comes (fun n _ _ _=>innkeepref08_Move n w (i:Int) (d:Int)) (fun r=>r.1=goR w i d) :=
  Comes.succ (fun n _ _ _=>innkeepref08_Move.eq n w i d) (Comes.call (pass8_spec w h hs he) (fun _ hv=>Comes.ret hv))
theorem refPush_spec (w:den tWorld) (h:Sm w) {i:Nat} (hi:i<List.length (w.2.1:List Int)) (q:Int) {d:Nat} (hs:pushErr w i q=0→Stands w (Int.toNat q) d∧(wExit w (Int.toNat q) d = -1∨0≤wExit w (Int.toNat q) d)) :
    Comes (fun n _ _ _=>innkeepref08_Push n w (i:Int) q (d:Int)) (fun r=>r.1=pushR w i q d):=by
  refine Comes.succ (fun n _ _ _=>innkeepref08_Push.eq n w i q d) ?_
  unfold pushR
  refine Comes.bif (fun h1=>Comes.ret ?_) (fun h1=>Comes.bif (fun h2=>Comes.ret ?_) (fun h2=>Comes.bif (fun h3=>Comes.ret ?_) (fun h3 => ?_)))
  · have e:pushErr w i q=3:=by unfold pushErr; rw [if_pos (of_decide_eq_true h1)]
    rw [e,if_neg (by decide)]
  · have e:pushErr w i q=3:=by unfold pushErr; rw [if_neg (of_decide_eq_false h1),if_pos (of_decide_eq_true h2)]
    rw [e,if_neg (by decide)]
  · have e:pushErr w i q=12:=by unfold pushErr; rw [if_neg (of_decide_eq_false h1),if_neg (of_decide_eq_false h2),if_pos (of_decide_eq_true h3)]
    rw [e,if_neg (by decide)]
  · have h1:=of_decide_eq_false h1
    have h2:=of_decide_eq_false h2
    have h3:=of_decide_eq_false h3
    refine Comes.ite (by omega) (Comes.ite (by omega) (Comes.bifN (fun h4 => ?_) (fun h4=>Comes.ret ?_)))
    · have h4:=of_decide_eq_true h4
      rw [Int.toNat_natCast] at h4
      have e:pushErr w i q=0:=by unfold pushErr; rw [if_neg h1,if_neg h2,if_neg h3,if_pos h4.symm]
      obtain ⟨g1,g2⟩:=hs e
      rw [if_pos e]
      obtain ⟨k,rfl⟩:∃ k:Nat,q=(k:Int):=⟨q.toNat,by omega⟩
      rw [Int.toNat_natCast] at g1 g2 ⊢
      exact Comes.call (pass8_spec w h g1 g2) (fun _ hv=>Comes.ret hv)
    · have h4:=of_decide_eq_false h4
      rw [Int.toNat_natCast] at h4
      have e:pushErr w i q=5:=by unfold pushErr; rw [if_neg h1,if_neg h2,if_neg h3,if_neg (fun e=>h4 e.symm)]
      rw [e,if_neg (by decide)]
end Go.Proofs.Ytmemggdjnfccfaa.Ghost
namespace Go.Proofs.Ytmemggdjnfccfaa.Ghost
open Go
abbrev Ky:=den tPlace
def footA (w:den tWorld) (i:Nat) (c:Cm):List Ky:=[((0:Int),atOf w i,()),((1:Int),(i:Int),())]
def footB (w:den tWorld) (i:Nat) (c:Cm):List Ky:=if (cKind c=1∨cKind c=2)∧0≤wExit w i (cDir c).toNat then [((0:Int),wExit w i (cDir c).toNat,())] else []
def footC (w:den tWorld) (c:Cm):List Ky:=if (cKind c=2∨cKind c=7∨cKind c=8)∧(cWho c<(List.length (w.2.1:List Int):Int)) then [((1:Int),cWho c,())] else []
def footL (w:den tWorld) (i:Nat) (c:Cm):List Ky:=footA w i c ++ (footB w i c ++ footC w c)
theorem footL_len (w:den tWorld) (i:Nat) (c:Cm):(footL w i c).length≤1048576:=by
  unfold footL footA footB footC
  repeat' split
  all_goals simp
theorem ofF_spec {w:den tWorld} (h:RightP w) {i:Nat} (hi:i<List.length (w.2.1:List Int)) {c:Cm} (hc:MayC c):Comes (fun nf _ _ _=>foot_Of nf (w) ((i:Int)) (c)) (fun r=>r.1.1=kSort (footL w i c)):=by
  have ha:0≤atOf w i∧atOf w i<(List.length (w.1.1:List (List Int)):Int):=(h.at_ i hi).1
  have hd:0≤cDir c∧cDir c<4:=⟨hc.d1,by have:=hc.d2; omega⟩
  have hex:=exit_spec w (atOf w i) (cDir c) ha hd
  have hw0:0≤cWho c:=by
    by_cases hk:cKind c=2∨cKind c=7∨cKind c=8
    · exact (hc.who.1 hk).1
    · rw [hc.who.2 hk]; exact Int.le_refl 0
  have e1:exitAt w.1 (Int.toNat (atOf w i)) (Int.toNat (cDir c))=wExit w i (cDir c).toNat:=rfl
  rw [e1] at hex
  have hl:(0:Int)≤(i:Int)∧(i:Int)<(List.length (w.2.1:List Int):Int):=by omega
  have hnow:∀ l:List Ky,l.length≤4→Comes (fun nf _ _ _=>keys_Sort nf (l)) (fun r=>r=((kSort l,()),[(0,[])])):=fun l hl=>ksort_spec l (Nat.le_trans hl (by decide))
  have d2:=hnow [((0:Int),atOf w i,()),((1:Int),(i:Int),())] (by simp)
  have d3:=hnow [((0:Int),atOf w i,()),((1:Int),(i:Int),()),((0:Int),wExit w i (cDir c).toNat,())] (by simp)
  have d3':=hnow [((0:Int),atOf w i,()),((1:Int),(i:Int),()),((1:Int),cWho c,())] (by simp)
  have d4:=hnow [((0:Int),atOf w i,()),((1:Int),(i:Int),()),((0:Int),wExit w i (cDir c).toNat,()),((1:Int),cWho c,())] (by simp)
  have hk:cKind c=1∨cKind c=2∨cKind c=7∨cKind c=8∨(¬ cKind c=1∧¬ cKind c=2∧¬ cKind c=7∧¬ cKind c=8):=by omega
  unfold footL footA footB footC
  refine Comes.succ (fun nf _ _ _=>foot_Of.eq nf _ _ _) ?_
  by_cases hx:0≤wExit w i (cDir c).toNat
  · rw [if_neg (by omega),decide_eq_true hx] at hex
    by_cases hq:cWho c<(List.length (w.2.1:List Int):Int)
    · rcases hk with k | k | k | k | ⟨k1,k2,k3,k4⟩
      · simp [-List.getD_eq_getElem?_getD,-List.length_eq_zero_iff,keepAll,freshHas,pathEq,eqPl_dec,wrap1,wrap0,nbeq,hl,hi,k,hx,hq,hw0,comes_call (hex),(hex).prop,comes_call (d2),(d2).prop,comes_call (d3),(d3).prop,comes_call (d3'),(d3').prop,comes_call (d4),(d4).prop]
      · simp [-List.getD_eq_getElem?_getD,-List.length_eq_zero_iff,keepAll,freshHas,pathEq,eqPl_dec,wrap1,wrap0,nbeq,hl,hi,k,hx,hq,hw0,comes_call (hex),(hex).prop,comes_call (d2),(d2).prop,comes_call (d3),(d3).prop,comes_call (d3'),(d3').prop,comes_call (d4),(d4).prop]
      · simp [-List.getD_eq_getElem?_getD,-List.length_eq_zero_iff,keepAll,freshHas,pathEq,eqPl_dec,wrap1,wrap0,nbeq,hl,hi,k,hx,hq,hw0,comes_call (hex),(hex).prop,comes_call (d2),(d2).prop,comes_call (d3),(d3).prop,comes_call (d3'),(d3').prop,comes_call (d4),(d4).prop]
      · simp [-List.getD_eq_getElem?_getD,-List.length_eq_zero_iff,keepAll,freshHas,pathEq,eqPl_dec,wrap1,wrap0,nbeq,hl,hi,k,hx,hq,hw0,comes_call (hex),(hex).prop,comes_call (d2),(d2).prop,comes_call (d3),(d3).prop,comes_call (d3'),(d3').prop,comes_call (d4),(d4).prop]
      · simp [-List.getD_eq_getElem?_getD,-List.length_eq_zero_iff,keepAll,freshHas,pathEq,eqPl_dec,wrap1,wrap0,nbeq,hl,hi,k1,k2,k3,k4,hx,hq,hw0,comes_call (hex),(hex).prop,comes_call (d2),(d2).prop,comes_call (d3),(d3).prop,comes_call (d3'),(d3').prop,comes_call (d4),(d4).prop]
    · rcases hk with k | k | k | k | ⟨k1,k2,k3,k4⟩
      · simp [-List.getD_eq_getElem?_getD,-List.length_eq_zero_iff,keepAll,freshHas,pathEq,eqPl_dec,wrap1,wrap0,nbeq,hl,hi,k,hx,hq,hw0,comes_call (hex),(hex).prop,comes_call (d2),(d2).prop,comes_call (d3),(d3).prop,comes_call (d3'),(d3').prop,comes_call (d4),(d4).prop]
      · simp [-List.getD_eq_getElem?_getD,-List.length_eq_zero_iff,keepAll,freshHas,pathEq,eqPl_dec,wrap1,wrap0,nbeq,hl,hi,k,hx,hq,hw0,comes_call (hex),(hex).prop,comes_call (d2),(d2).prop,comes_call (d3),(d3).prop,comes_call (d3'),(d3').prop,comes_call (d4),(d4).prop]
      · simp [-List.getD_eq_getElem?_getD,-List.length_eq_zero_iff,keepAll,freshHas,pathEq,eqPl_dec,wrap1,wrap0,nbeq,hl,hi,k,hx,hq,hw0,comes_call (hex),(hex).prop,comes_call (d2),(d2).prop,comes_call (d3),(d3).prop,comes_call (d3'),(d3').prop,comes_call (d4),(d4).prop]
      · simp [-List.getD_eq_getElem?_getD,-List.length_eq_zero_iff,keepAll,freshHas,pathEq,eqPl_dec,wrap1,wrap0,nbeq,hl,hi,k,hx,hq,hw0,comes_call (hex),(hex).prop,comes_call (d2),(d2).prop,comes_call (d3),(d3).prop,comes_call (d3'),(d3').prop,comes_call (d4),(d4).prop]
      · simp [-List.getD_eq_getElem?_getD,-List.length_eq_zero_iff,keepAll,freshHas,pathEq,eqPl_dec,wrap1,wrap0,nbeq,hl,hi,k1,k2,k3,k4,hx,hq,hw0,comes_call (hex),(hex).prop,comes_call (d2),(d2).prop,comes_call (d3),(d3).prop,comes_call (d3'),(d3').prop,comes_call (d4),(d4).prop]
  · rw [if_pos (by omega),decide_eq_false hx] at hex
    by_cases hq:cWho c<(List.length (w.2.1:List Int):Int)
    · rcases hk with k | k | k | k | ⟨k1,k2,k3,k4⟩
      · simp [-List.getD_eq_getElem?_getD,-List.length_eq_zero_iff,keepAll,freshHas,pathEq,eqPl_dec,wrap1,wrap0,nbeq,hl,hi,k,hx,hq,hw0,comes_call (hex),(hex).prop,comes_call (d2),(d2).prop,comes_call (d3),(d3).prop,comes_call (d3'),(d3').prop,comes_call (d4),(d4).prop]
      · simp [-List.getD_eq_getElem?_getD,-List.length_eq_zero_iff,keepAll,freshHas,pathEq,eqPl_dec,wrap1,wrap0,nbeq,hl,hi,k,hx,hq,hw0,comes_call (hex),(hex).prop,comes_call (d2),(d2).prop,comes_call (d3),(d3).prop,comes_call (d3'),(d3').prop,comes_call (d4),(d4).prop]
      · simp [-List.getD_eq_getElem?_getD,-List.length_eq_zero_iff,keepAll,freshHas,pathEq,eqPl_dec,wrap1,wrap0,nbeq,hl,hi,k,hx,hq,hw0,comes_call (hex),(hex).prop,comes_call (d2),(d2).prop,comes_call (d3),(d3).prop,comes_call (d3'),(d3').prop,comes_call (d4),(d4).prop]
      · simp [-List.getD_eq_getElem?_getD,-List.length_eq_zero_iff,keepAll,freshHas,pathEq,eqPl_dec,wrap1,wrap0,nbeq,hl,hi,k,hx,hq,hw0,comes_call (hex),(hex).prop,comes_call (d2),(d2).prop,comes_call (d3),(d3).prop,comes_call (d3'),(d3').prop,comes_call (d4),(d4).prop]
      · simp [-List.getD_eq_getElem?_getD,-List.length_eq_zero_iff,keepAll,freshHas,pathEq,eqPl_dec,wrap1,wrap0,nbeq,hl,hi,k1,k2,k3,k4,hx,hq,hw0,comes_call (hex),(hex).prop,comes_call (d2),(d2).prop,comes_call (d3),(d3).prop,comes_call (d3'),(d3').prop,comes_call (d4),(d4).prop]
    · rcases hk with k | k | k | k | ⟨k1,k2,k3,k4⟩
      · simp [-List.getD_eq_getElem?_getD,-List.length_eq_zero_iff,keepAll,freshHas,pathEq,eqPl_dec,wrap1,wrap0,nbeq,hl,hi,k,hx,hq,hw0,comes_call (hex),(hex).prop,comes_call (d2),(d2).prop,comes_call (d3),(d3).prop,comes_call (d3'),(d3').prop,comes_call (d4),(d4).prop]
      · simp [-List.getD_eq_getElem?_getD,-List.length_eq_zero_iff,keepAll,freshHas,pathEq,eqPl_dec,wrap1,wrap0,nbeq,hl,hi,k,hx,hq,hw0,comes_call (hex),(hex).prop,comes_call (d2),(d2).prop,comes_call (d3),(d3).prop,comes_call (d3'),(d3').prop,comes_call (d4),(d4).prop]
      · simp [-List.getD_eq_getElem?_getD,-List.length_eq_zero_iff,keepAll,freshHas,pathEq,eqPl_dec,wrap1,wrap0,nbeq,hl,hi,k,hx,hq,hw0,comes_call (hex),(hex).prop,comes_call (d2),(d2).prop,comes_call (d3),(d3).prop,comes_call (d3'),(d3').prop,comes_call (d4),(d4).prop]
      · simp [-List.getD_eq_getElem?_getD,-List.length_eq_zero_iff,keepAll,freshHas,pathEq,eqPl_dec,wrap1,wrap0,nbeq,hl,hi,k,hx,hq,hw0,comes_call (hex),(hex).prop,comes_call (d2),(d2).prop,comes_call (d3),(d3).prop,comes_call (d3'),(d3').prop,comes_call (d4),(d4).prop]
      · simp [-List.getD_eq_getElem?_getD,-List.length_eq_zero_iff,keepAll,freshHas,pathEq,eqPl_dec,wrap1,wrap0,nbeq,hl,hi,k1,k2,k3,k4,hx,hq,hw0,comes_call (hex),(hex).prop,comes_call (d2),(d2).prop,comes_call (d3),(d3).prop,comes_call (d3'),(d3').prop,comes_call (d4),(d4).prop]
end Go.Proofs.Ytmemggdjnfccfaa.Ghost
