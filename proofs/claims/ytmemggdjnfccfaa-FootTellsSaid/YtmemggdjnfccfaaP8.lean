/- What functions come to, and that the statements are answered with 'true'. Conditions: none. -/
import Derived.Test.YtmemggdjnfccfaaS
import Derived.Test.YtmemggdjnfccfaaGE
import Derived.Test.YtmemggdjnfccfaaP1
import Derived.Test.YtmemggdjnfccfaaP2
import Derived.Test.YtmemggdjnfccfaaP3
import Derived.Test.YtmemggdjnfccfaaP4
import Derived.Test.YtmemggdjnfccfaaP5
import Derived.Test.YtmemggdjnfccfaaP6
import Derived.Test.YtmemggdjnfccfaaP7
set_option linter.unusedVariables false
set_option linter.unusedSimpArgs false
set_option linter.unusedSectionVars false
set_option linter.unnecessarySimpa false
namespace Go.Proofs.Ytmemggdjnfccfaa.Ghost
open Go
theorem pushR_world {w:den tWorld} (h:Ok w) {i:Nat} {q:Int} {d:Nat}:Sm (pushR w i q d).1:=by
  unfold pushR
  split
  · unfold goR
    split
    · exact sm_moved h.sm _ _
    · exact h.sm
  · exact h.sm
theorem goR_world {w:den tWorld} (h:Ok w) {i:Nat} {d:Nat}:Sm (goR w i d).1:=by
  unfold goR
  split
  · exact sm_moved h.sm _ _
  · exact h.sm
theorem pushStands {w:den tWorld} (h:Ok w) {i:Nat} {q:Int} {d:Nat} (hd:d<4) (hz:pushErr w i q=0):Stands w (Int.toNat q) d∧(wExit w (Int.toNat q) d = -1∨0≤wExit w (Int.toNat q) d):=by
  have hz:=pushErr_zero hz
  have hlt:Int.toNat q<List.length (w.2.1:List Int):=by omega
  refine ⟨h.right.stands hlt hd,?_⟩
  rcases h.right.exit hlt hd with e | e
  · exact .inl e
  · exact .inr e.1
end Go.Proofs.Ytmemggdjnfccfaa.Ghost
namespace Go.Proofs.Ytmemggdjnfccfaa.Ghost
open Go
theorem refTo_spec (w:den tWorld) (hs:Sm w) {i:Nat} (hi:i<List.length (w.2.2.2.1:List (den tPlace))) (p:Pl):Comes (fun n _ _ _=>innkeepref09_To n w (i:Int) p) (fun r=>r.1=(put w i p,())):=by
  refine Comes.succ (fun n _ _ _=>innkeepref09_To.eq n w i p) (Comes.call (copied_spec w hs) (fun v hv => ?_))
  subst hv
  refine Comes.bifT rfl (Comes.ite ⟨Int.natCast_nonneg i,Int.ofNat_lt.2 hi⟩ (Comes.ret ?_))
  rw [Int.toNat_natCast]
  rfl
end Go.Proofs.Ytmemggdjnfccfaa.Ghost
namespace Go.Proofs.Ytmemggdjnfccfaa.Ghost
open Go
def passErr (w:den tWorld) (k:Int) (p q:Pl):Int:=if k<0 then 3 else if (List.length (w.2.2.2.1:List (den tPlace)):Int)≤k then 3 else if List.getD (w.2.2.2.1:List (den tPlace)) (Int.toNat k) (dft tPlace)=p then (if roomI w q<1 then 9 else 0) else 5
def passR (w:den tWorld) (k:Int) (p q:Pl):den tWorld×Int×Unit:=if passErr w k p q=0 then (put w (Int.toNat k) q,0,()) else (w,passErr w k p q,())
theorem passErr_zero {w:den tWorld} {k:Int} {p q:Pl} (h:passErr w k p q=0):0≤k∧k<(List.length (w.2.2.2.1:List (den tPlace)):Int)∧List.getD (w.2.2.2.1:List (den tPlace)) (Int.toNat k) (dft tPlace)=p∧1≤roomI w q:=by
  unfold passErr at h
  split at h
  · cases h
  · split at h
    · cases h
    · split at h
      · split at h
        · cases h
        · rename_i a b c d; exact ⟨by omega,by omega,c,by omega⟩
      · cases h
def floorOf (w:den tWorld) (i:Nat):Pl:=((0:Int),List.getD (w.2.1:List Int) i (0:Int),())
def meOf (i:Nat):Pl:=((1:Int),(i:Int),())
def getR (w:den tWorld) (i:Nat) (k:Int):den tWorld×Int×Unit:=passR w k (floorOf w i) (meOf i)
def dropR (w:den tWorld) (i:Nat) (k:Int):den tWorld×Int×Unit:=passR w k (meOf i) (floorOf w i)
theorem kind_floor (w:den tWorld) (i:Nat):(0:Int)≤(floorOf w i).1∧((floorOf w i).1:Int)<3:=⟨by show (0:Int)≤0; decide,by show (0:Int)<3; decide⟩
theorem kind_me (i:Nat):(0:Int)≤(meOf i).1∧((meOf i).1:Int)<3:=⟨by show (0:Int)≤1; decide,by show (1:Int)<3; decide⟩
theorem refGet_spec (w:den tWorld) (ok:Ok w) {i:Nat} (hi:i<List.length (w.2.1:List Int)) (k:Int):Comes (fun n _ _ _=>innkeepref09_Get n w (i:Int) k) (fun r=>r.1=getR w i k):=by
  refine Comes.succ (fun n _ _ _=>innkeepref09_Get.eq n w i k) ?_
  unfold getR passR
  refine Comes.bif (fun h1=>Comes.ret ?_) (fun h1=>Comes.bif (fun h2=>Comes.ret ?_) (fun h2 => ?_))
  · have e:passErr w k (floorOf w i) (meOf i)=3:=by unfold passErr; rw [if_pos (of_decide_eq_true h1)]
    rw [e,if_neg (by decide)]
  · have e:passErr w k (floorOf w i) (meOf i)=3:=by unfold passErr; rw [if_neg (of_decide_eq_false h1),if_pos (of_decide_eq_true h2)]
    rw [e,if_neg (by decide)]
  · have h1:=of_decide_eq_false h1
    have h2:=of_decide_eq_false h2
    have ef:((0,(List.getD (w.2.1:List Int) (Int.toNat (i:Int)) (0:Int)),()):Pl)=floorOf w i:=by rw [Int.toNat_natCast]; rfl
    rw [ef]
    refine Comes.ite (by omega) (Comes.ite (by omega) (Comes.bifN (fun h3=>Comes.call (refRoom_spec w ok (meOf i) (kind_me i)) (fun v hv=>Comes.bif (fun h4=>Comes.ret ?_) (fun h4 => ?_))) (fun h3=>Comes.ret ?_)))
    · have h3:=(eqPl _ _).1 h3
      have h4:roomI w (meOf i)=0:=by rw [← hv]; exact of_decide_eq_true h4
      have e:passErr w k (floorOf w i) (meOf i)=9:=by unfold passErr; rw [if_neg h1,if_neg h2,if_pos h3,if_pos (by omega)]
      rw [e,if_neg (by decide)]
    · have h3:=(eqPl _ _).1 h3
      have h4:¬ roomI w (meOf i)=0:=by rw [← hv]; exact of_decide_eq_false h4
      have hr:=ok.right.room (meOf i)
      have e:passErr w k (floorOf w i) (meOf i)=0:=by unfold passErr; rw [if_neg h1,if_neg h2,if_pos h3,if_neg (by omega)]
      rw [e,if_pos rfl]
      obtain ⟨j,rfl⟩:∃ j:Nat,k=(j:Int):=⟨k.toNat,by omega⟩
      rw [Int.toNat_natCast]
      refine Comes.call (refTo_spec w ok.sm (by omega) (meOf i)) (fun u hu=>Comes.ret ?_)
      rw [hu]
    · have h3':¬ List.getD (w.2.2.2.1:List (den tPlace)) (Int.toNat k) (dft tPlace)=floorOf w i:=fun he=>by rw [(eqPl _ _).2 he] at h3; cases h3
      have e:passErr w k (floorOf w i) (meOf i)=5:=by unfold passErr; rw [if_neg h1,if_neg h2,if_neg h3']
      rw [e,if_neg (by decide)]
theorem refDrop_spec (w:den tWorld) (ok:Ok w) {i:Nat} (hi:i<List.length (w.2.1:List Int)) (k:Int):Comes (fun n _ _ _=>innkeepref09_Drop n w (i:Int) k) (fun r=>r.1=dropR w i k):=by
  refine Comes.succ (fun n _ _ _=>innkeepref09_Drop.eq n w i k) ?_
  unfold dropR passR
  refine Comes.bif (fun h1=>Comes.ret ?_) (fun h1=>Comes.bif (fun h2=>Comes.ret ?_) (fun h2 => ?_))
  · have e:passErr w k (meOf i) (floorOf w i)=3:=by unfold passErr; rw [if_pos (of_decide_eq_true h1)]
    rw [e,if_neg (by decide)]
  · have e:passErr w k (meOf i) (floorOf w i)=3:=by unfold passErr; rw [if_neg (of_decide_eq_false h1),if_pos (of_decide_eq_true h2)]
    rw [e,if_neg (by decide)]
  · have h1:=of_decide_eq_false h1
    have h2:=of_decide_eq_false h2
    have ef:((0,(List.getD (w.2.1:List Int) (Int.toNat (i:Int)) (0:Int)),()):Pl)=floorOf w i:=by rw [Int.toNat_natCast]; rfl
    rw [ef]
    refine Comes.ite (by omega) (Comes.bifN (fun h3=>Comes.ite (by omega) (Comes.call (refRoom_spec w ok (floorOf w i) (kind_floor w i)) (fun v hv=>Comes.bif (fun h4=>Comes.ret ?_) (fun h4=>Comes.ite (by omega) ?_)))) (fun h3=>Comes.ret ?_))
    · have h3:=(eqPl _ (meOf i)).1 h3
      have h4:roomI w (floorOf w i)=0:=by rw [← hv]; exact of_decide_eq_true h4
      have e:passErr w k (meOf i) (floorOf w i)=9:=by unfold passErr; rw [if_neg h1,if_neg h2,if_pos h3,if_pos (by omega)]
      rw [e,if_neg (by decide)]
    · have h3:=(eqPl _ (meOf i)).1 h3
      have h4:¬ roomI w (floorOf w i)=0:=by rw [← hv]; exact of_decide_eq_false h4
      have hr:=ok.right.room (floorOf w i)
      have e:passErr w k (meOf i) (floorOf w i)=0:=by unfold passErr; rw [if_neg h1,if_neg h2,if_pos h3,if_neg (by omega)]
      rw [e,if_pos rfl]
      obtain ⟨j,rfl⟩:∃ j:Nat,k=(j:Int):=⟨k.toNat,by omega⟩
      rw [Int.toNat_natCast]
      refine Comes.call (refTo_spec w ok.sm (by omega) (floorOf w i)) (fun u hu=>Comes.ret ?_)
      rw [hu]
    · have h3':¬ List.getD (w.2.2.2.1:List (den tPlace)) (Int.toNat k) (dft tPlace)=meOf i:=fun he=>by have h4:=(eqPl _ (meOf i)).2 he; exact absurd (h4.symm.trans h3) (by decide)
      have e:passErr w k (meOf i) (floorOf w i)=5:=by unfold passErr; rw [if_neg h1,if_neg h2,if_neg h3']
      rw [e,if_neg (by decide)]
theorem passR_sm {w:den tWorld} (h:Sm w) {k:Int} {p q:Pl}:Sm (passR w k p q).1:=by
  unfold passR
  split
  · exact sm_put h _ _
  · exact h
end Go.Proofs.Ytmemggdjnfccfaa.Ghost
namespace Go.Proofs.Ytmemggdjnfccfaa.Ghost
open Go
theorem item_of {a:Int} (h:wfD (.int .u8) a) {n:Nat} (hn:0<n):∃ i:Nat,i<n∧Int.tmod (IntKind.wrap .i64 a) (n:Int)=(i:Int):=index_of h hn
theorem floor_ne_me (w:den tWorld) (i j:Nat):¬ floorOf w i=meOf j:=fun e=>by
  have:(0:Int)=1:=congrArg (fun p:Pl=>(p.1:Int)) e
  cases this
theorem floor_not_box (w:den tWorld) (i:Nat):¬ (floorOf w i).1=(2:Int):=fun e=>by
  have:(0:Int)=2:=e
  cases this
theorem me_not_box (i:Nat):¬ (meOf i).1=(2:Int):=fun e=>by
  have:(1:Int)=2:=e
  cases this
theorem RightP.good_floor {w:den tWorld} (h:RightP w) {i:Nat} (hi:i<List.length (w.2.1:List Int)):GoodPl w.1 (floorOf w i):=.inl ⟨rfl,(h.at_ i hi).1⟩
theorem RightP.good_me {w:den tWorld} (h:RightP w) {i:Nat} (hi:i<List.length (w.2.1:List Int)):GoodPl w.1 (meOf i):=by
  have:=h.a1
  exact .inr (.inl ⟨rfl,Int.natCast_nonneg i,Int.ofNat_lt.2 (by omega)⟩)
theorem passErr_in {w:den tWorld} {k:Nat} (hk:k<List.length (w.2.2.2.1:List (den tPlace))) (p q:Pl):passErr w (k:Int) p q=if List.getD (w.2.2.2.1:List (den tPlace)) k (dft tPlace)=p then (if roomI w q<1 then 9 else 0) else 5:=by
  unfold passErr
  rw [if_neg (by omega),if_neg (by omega),Int.toNat_natCast]
end Go.Proofs.Ytmemggdjnfccfaa.Ghost
namespace Go.Proofs.Ytmemggdjnfccfaa.Ghost
open Go
theorem refWithin_spec (w:den tWorld) (h:RightP w) (b:Int):(k:Nat)→(i:Nat)→i<List.length (w.2.2.2.1:List (den tPlace))→Ends w.2.2.2.1 k (List.getD w.2.2.2.1 i (dft tPlace)) →
    Comes (fun n _ _ _=>innkeepref07_Within n w (i:Int) b) (fun r=>r.1.1=true↔withinP w.2.2.2.1 k (i:Int) b)
  | k,i,hi,he=>by
    refine Comes.succ (fun n _ _ _=>innkeepref07_Within.eq n w i b) (Comes.bif (fun h1=>Comes.ret ?_) (fun h1=>Comes.ite ⟨Int.natCast_nonneg i,Int.ofNat_lt.2 hi⟩ ?_))
    · exact ⟨fun _=>withinP_eq (of_decide_eq_true h1) k,fun _=>rfl⟩
    · have h1:=of_decide_eq_false h1
      refine Comes.bif (fun h2 => ?_) (fun h2=>Comes.ret ?_)
      · rw [Int.toNat_natCast] at h2 ⊢
        have h2:(List.getD w.2.2.2.1 i (dft tPlace)).1=(2:Int):=of_decide_eq_true h2
        have hin:=h.inPl i hi h2
        cases k with
        | zero=>exact absurd h2 he
        | succ k =>
          have e1:=Int.toNat_of_nonneg hin.1
          rw [← e1]
          refine Comes.call (refWithin_spec w h b k _ ((Int.toNat_lt hin.1).2 hin.2) (he h2)) (fun v hv=>Comes.ret ?_)
          show v.1.1=true↔_
          rw [hv]
          simp only [withinP,Int.toNat_natCast]
          rw [e1]
          exact ⟨fun h=>.inr ⟨h2,h⟩,fun h=>h.elim (fun e=>absurd e h1) (fun e=>e.2)⟩
      · rw [Int.toNat_natCast] at h2
        have h2:¬ (List.getD w.2.2.2.1 i (dft tPlace)).1=(2:Int):=of_decide_eq_false h2
        refine ⟨(fun e=>by cases e),fun e => ?_⟩
        cases k with
        | zero=>exact absurd e h1
        | succ k =>
          simp only [withinP,Int.toNat_natCast] at e
          rcases e with e | e
          · exact absurd e h1
          · exact absurd e.1 h2
end Go.Proofs.Ytmemggdjnfccfaa.Ghost
namespace Go.Proofs.Ytmemggdjnfccfaa.Ghost
open Go
abbrev boxPl (b:Int):Pl:=((2:Int),b,())
end Go.Proofs.Ytmemggdjnfccfaa.Ghost
namespace Go.Proofs.Ytmemggdjnfccfaa.Ghost
open Go
theorem Comes.nT {R:Type} {Q:R→Prop} {c:Bool} {A B:Nat→Nat→Nat→Nat→Option R} (hc:c=true) (h:Comes B Q):Comes (fun n m k j=>bif (!c) then A n m k j else B n m k j) Q:=Comes.bifN (fun _=>h) (fun e=>by rw [hc] at e; cases e)
theorem Comes.nF {R:Type} {Q:R→Prop} {c:Bool} {A B:Nat→Nat→Nat→Nat→Option R} (hc:c=false) (h:Comes A Q):Comes (fun n m k j=>bif (!c) then A n m k j else B n m k j) Q:=Comes.bifN (fun e=>by rw [hc] at e; cases e) (fun _=>h)
theorem roomI_put (w:den tWorld) {k:Nat} (hk:k<List.length (w.2.2.2.1:List (den tPlace))) (q p:Pl):roomI (put w k q) p=roomI w p+(if List.getD (w.2.2.2.1:List (den tPlace)) k (dft tPlace)=p then 1 else 0) - (if q=p then 1 else 0):=by
  unfold roomI
  rw [put_len]
  show capI w.1 p - (manyPl (List.set (w.2.2.2.1:List (den tPlace)) k q) p _:Int)=_
  have:=manyPl_set w.2.2.2.1 k q p hk (List.length (w.2.2.2.1:List (den tPlace)))
  simp only [hk,true_and] at this
  by_cases h1:List.getD (w.2.2.2.1:List (den tPlace)) k (dft tPlace)=p
  · rw [if_pos h1] at this ⊢
    by_cases h2:q=p
    · rw [if_pos h2] at this ⊢; omega
    · rw [if_neg h2] at this ⊢; omega
  · rw [if_neg h1] at this ⊢
    by_cases h2:q=p
    · rw [if_pos h2] at this ⊢; omega
    · rw [if_neg h2] at this ⊢; omega
end Go.Proofs.Ytmemggdjnfccfaa.Ghost
namespace Go.Proofs.Ytmemggdjnfccfaa.Ghost
open Go
theorem rootP_succ {l:List Pl}:(k:Nat)→(p:Pl)→Ends l k p→rootP l (k+1) p=rootP l k p
  | 0,p,h=>by
    have h:¬ p.1=(2:Int):=h
    simp only [rootP]; rw [if_neg h]
  | k+1,p,h=>by
    show (if p.1=(2:Int) then rootP l (k+1) (List.getD l (Int.toNat p.2.1) (dft tPlace)) else p)=(if p.1=(2:Int) then rootP l k (List.getD l (Int.toNat p.2.1) (dft tPlace)) else p)
    by_cases h2:p.1=(2:Int)
    · rw [if_pos h2,if_pos h2,rootP_succ k _ (h h2)]
    · rw [if_neg h2,if_neg h2]
theorem root_box {w:den tWorld} (h:RightP w) {j:Nat} (hj:j<List.length (w.2.2.2.1:List (den tPlace))) (h2:(plOf w j).1=(2:Int)):∃ b:Nat,(plOf w j).2.1=(b:Int)∧b<List.length (w.2.2.2.1:List (den tPlace))∧rootOf w j=rootOf w b:=by
  have hin:=h.inPl j hj h2
  refine ⟨Int.toNat (plOf w j).2.1,(Int.toNat_of_nonneg hin.1).symm,(Int.toNat_lt hin.1).2 hin.2,?_⟩
  have he:Ends w.2.2.2.1 50 (plOf w (Int.toNat (plOf w j).2.1)):=h.ends hj h2
  show rootP w.2.2.2.1 (50+1) (plOf w j)=rootP w.2.2.2.1 (50+1) (plOf w (Int.toNat (plOf w j).2.1))
  rw [rootP_succ 50 _ he]
  show (if (plOf w j).1=(2:Int) then _ else _)=_
  rw [if_pos h2]
end Go.Proofs.Ytmemggdjnfccfaa.Ghost
namespace Go.Proofs.Ytmemggdjnfccfaa.Ghost
open Go
inductive Wi (l:List Pl):Nat→Nat→Prop
  | refl (i:Nat):Wi l i i
  | step {i b j:Nat} (h2:(List.getD l i (dft tPlace)).1=(2:Int)) (hb:(List.getD l i (dft tPlace)).2.1=(b:Int)) (h:Wi l b j):Wi l i j
theorem Wi.trans {l:List Pl} {i j k:Nat} (h:Wi l i j) (h':Wi l j k):Wi l i k:=by
  induction h with
  | refl=>exact h'
  | step h2 hb _ ih=>exact .step h2 hb (ih h')
theorem Wi.last {l:List Pl} {i j:Nat} (h:Wi l i j):i=j∨∃ c,Wi l i c∧(List.getD l c (dft tPlace)).1=(2:Int)∧(List.getD l c (dft tPlace)).2.1=(j:Int):=by
  induction h with
  | refl i=>exact .inl rfl
  | @step i b j h2 hb h ih =>
    rcases ih with rfl | ⟨c,h3,h4,h5⟩
    · exact .inr ⟨i,.refl i,h2,hb⟩
    · exact .inr ⟨c,.step h2 hb h3,h4,h5⟩
theorem wi_of {l:List Pl} (hin:∀ i,i<l.length→inPl l (List.getD l i (dft tPlace))):(k:Nat)→(i j:Nat)→i<l.length→Ends l k (List.getD l i (dft tPlace))→(withinP l k (i:Int) (j:Int)↔Wi l i j)
  | 0,i,j,hi,he=>by
    have he:¬ (List.getD l i (dft tPlace)).1=(2:Int):=he
    refine ⟨fun h=>by rw [Int.ofNat.inj h]; exact .refl j,fun h => ?_⟩
    cases h with
    | refl=>rfl
    | step h2 _ _=>exact absurd h2 he
  | k+1,i,j,hi,he=>by
    simp only [withinP,Int.toNat_natCast]
    constructor
    · rintro (h | ⟨h2,h⟩)
      · rw [Int.ofNat.inj h]; exact .refl j
      · have hb:=hin i hi h2
        have e:=(Int.toNat_of_nonneg hb.1).symm
        rw [e] at h
        exact .step h2 e ((wi_of hin k _ j ((Int.toNat_lt hb.1).2 hb.2) (he h2)).1 h)
    · intro h
      cases h with
      | refl=>exact .inl rfl
      | @step _ b _ h2 hb h =>
        have hbn:=hin i hi h2
        have he2:=he h2
        rw [hb] at hbn he2
        rw [Int.toNat_natCast] at he2
        refine .inr ⟨h2,?_⟩
        rw [hb]
        exact (wi_of hin k b j (Int.ofNat_lt.1 hbn.2) he2).2 h
theorem Ends.succ {l:List Pl}:(k:Nat)→(p:Pl)→Ends l k p→Ends l (k+1) p
  | 0,p,h=>fun h2=>absurd h2 h
  | k+1,p,h=>fun h2=>Ends.succ k _ (h h2)
abbrev WiW (w:den tWorld) (i j:Nat):Prop:=Wi (w.2.2.2.1:List Pl) i j
theorem chain_wi {l:List Pl} (hin:∀ i,i<l.length→inPl l (List.getD l i (dft tPlace))) (j:Nat):(k:Nat)→(i:Nat)→i<l.length→Ends l k (List.getD l i (dft tPlace))→((∃ x∈chain l k (List.getD l i (dft tPlace)),x=boxPl (j:Int))↔(¬ i=j∧Wi l i j)∨∃ b:Nat,(List.getD l i (dft tPlace)).1=(2:Int)∧(List.getD l i (dft tPlace)).2.1=(b:Int)∧Wi l b j)
  | 0,i,hi,he=>by
    have he:¬ (List.getD l i (dft tPlace)).1=(2:Int):=he
    simp only [chain,List.mem_singleton]
    constructor
    · rintro ⟨x,rfl,hx⟩
      exact absurd (congrArg (fun p:Pl=>(p.1:Int)) hx) he
    · rintro (⟨h1,h2⟩ | ⟨b,h2,_⟩)
      · cases h2 with
        | refl=>exact absurd rfl h1
        | step h2 _ _=>exact absurd h2 he
      · exact absurd h2 he
  | k+1,i,hi,he=>by
    simp only [chain]
    by_cases h2:(List.getD l i (dft tPlace)).1=(2:Int)
    · rw [if_pos h2]
      have hb:=hin i hi h2
      have e:=(Int.toNat_of_nonneg hb.1).symm
      have hlt:=(Int.toNat_lt hb.1).2 hb.2
      have ih:=chain_wi hin j k _ hlt (he h2)
      constructor
      · rintro ⟨x,hx,rfl⟩
        refine .inr ⟨_,h2,e,?_⟩
        rcases List.mem_cons.1 hx with hx | hx
        · have:(j:Int)=(List.getD l i (dft tPlace)).2.1:=congrArg (fun p:Pl=>(p.2.1:Int)) hx
          rw [← this,Int.toNat_natCast]; exact .refl j
        · rcases ih.1 ⟨_,hx,rfl⟩ with h | ⟨b',g1,g2,g3⟩
          · exact h.2
          · exact .step g1 g2 g3
      · intro h
        have key:∀ b:Nat,(List.getD l i (dft tPlace)).2.1=(b:Int)→Wi l b j→∃ x∈List.getD l i (dft tPlace) :: chain l k (List.getD l (Int.toNat (List.getD l i (dft tPlace)).2.1) (dft tPlace)),x=boxPl (j:Int):=fun b hb' hw=>by
          by_cases hbj:b=j
          · subst hbj
            exact ⟨_,List.mem_cons_self,Prod.ext h2 (Prod.ext hb' rfl)⟩
          · have eb:Int.toNat (List.getD l i (dft tPlace)).2.1=b:=by rw [hb',Int.toNat_natCast]
            rw [eb] at ih ⊢
            obtain ⟨x,hx,hxe⟩:=ih.2 (.inl ⟨hbj,hw⟩)
            exact ⟨x,List.mem_cons_of_mem _ hx,hxe⟩
        rcases h with ⟨h1,h3⟩ | ⟨b,_,g2,g3⟩
        · cases h3 with
          | refl=>exact absurd rfl h1
          | @step _ b _ _ hb' hw=>exact key b hb' hw
        · exact key b g2 g3
    · rw [if_neg h2]
      constructor
      · rintro ⟨x,hx,hxe⟩
        rw [List.mem_singleton.1 hx] at hxe
        exact absurd (congrArg (fun p:Pl=>(p.1:Int)) hxe) h2
      · rintro (⟨h1,h3⟩ | ⟨b,g1,_⟩)
        · cases h3 with
          | refl=>exact absurd rfl h1
          | step g _ _=>exact absurd g h2
        · exact absurd g1 h2
theorem depN_succ {l:List Pl}:(k:Nat)→(p:Pl)→Ends l k p→depN l (k+1) p=depN l k p
  | 0,p,h=>by
    have h:¬ p.1=(2:Int):=h
    simp only [depN]; rw [if_neg h]
  | k+1,p,h=>by
    show (if p.1=(2:Int) then depN l (k+1) (List.getD l (Int.toNat p.2.1) (dft tPlace))+1 else 0)=(if p.1=(2:Int) then depN l k (List.getD l (Int.toNat p.2.1) (dft tPlace))+1 else 0)
    by_cases h2:p.1=(2:Int)
    · rw [if_pos h2,if_pos h2,depN_succ k _ (h h2)]
    · rw [if_neg h2,if_neg h2]
theorem dep_top {w:den tWorld} {j:Nat} (h2:¬ (plOf w j).1=(2:Int)):depOf w j=0:=by
  show (if (plOf w j).1=(2:Int) then _ else 0)=0
  rw [if_neg h2]
theorem dep_box {w:den tWorld} (h:RightP w) {j b:Nat} (hj:j<List.length (w.2.2.2.1:List (den tPlace))) (h2:(plOf w j).1=(2:Int)) (hb:(plOf w j).2.1=(b:Int)):b<List.length (w.2.2.2.1:List (den tPlace))∧depOf w j=depOf w b+1:=by
  have hin:=h.inPl j hj h2
  have e:Int.toNat (plOf w j).2.1=b:=by rw [hb,Int.toNat_natCast]
  refine ⟨by rw [← e]; exact (Int.toNat_lt hin.1).2 hin.2,?_⟩
  have he:Ends w.2.2.2.1 50 (plOf w (Int.toNat (plOf w j).2.1)):=h.ends hj h2
  rw [e] at he
  show depN w.2.2.2.1 (50+1) (plOf w j)=depN w.2.2.2.1 (50+1) (plOf w b)+1
  rw [depN_succ 50 _ he]
  show (if (plOf w j).1=(2:Int) then depN w.2.2.2.1 50 (plOf w (Int.toNat (plOf w j).2.1))+1 else 0)=_
  rw [if_pos h2,e]
theorem depI_N {l:List Pl}:(f c:Nat)→(p:Pl)→depI l f c p≤4→depI l f c p=c+depN l f p
  | 0,c,p,h=>by
    simp only [depI,depN] at h ⊢
    by_cases h2:p.1=(2:Int)
    · rw [if_pos h2] at h; omega
    · rw [if_neg h2]; rfl
  | f+1,c,p,h=>by
    simp only [depI,depN] at h ⊢
    by_cases h2:p.1=(2:Int)
    · rw [if_pos h2] at h ⊢
      rw [if_pos h2]
      by_cases h50:50<c+1
      · rw [if_pos h50] at h; omega
      · rw [if_neg h50] at h ⊢
        rw [depI_N f (c+1) _ h]; omega
    · rw [if_neg h2,if_neg h2]; rfl
theorem dep_le {w:den tWorld} (h:RightP w) {i:Nat} (hi:i<List.length (w.2.2.2.1:List (den tPlace))):depI w.2.2.2.1 51 0 (plOf w i)=depOf w i∧depOf w i≤4:=by
  have h4:=(h.deep i hi).1
  have:=depI_N 51 0 _ h4
  rw [Nat.zero_add] at this
  exact ⟨this,Nat.le_trans (Nat.le_of_eq this.symm) h4⟩
theorem Wi.facts {w:den tWorld} (h:RightP w) {i j:Nat} (hw:WiW w i j):i<List.length (w.2.2.2.1:List (den tPlace))→j<List.length (w.2.2.2.1:List (den tPlace))∧rootOf w i=rootOf w j∧depOf w j≤depOf w i∧(¬ i=j→depOf w j<depOf w i):=by
  induction hw with
  | refl i=>exact fun hi=>⟨hi,rfl,Nat.le_refl _,fun e=>absurd rfl e⟩
  | @step i b j h2 hb hw ih =>
    intro hi
    obtain ⟨hbl,hd⟩:=dep_box h hi h2 hb
    obtain ⟨b',e,_,er⟩:=root_box h hi h2
    obtain rfl:b=b':=Int.ofNat.inj (hb.symm.trans e)
    obtain ⟨i1,i2,i3,i4⟩:=ih hbl
    exact ⟨i1,er.trans i2,by omega,fun _=>by omega⟩
open Classical in
noncomputable def hgtL (w:den tWorld) (i:Nat):Nat→Nat
  | 0=>0
  | n+1=>Nat.max (hgtL w i n) (if WiW w n i then depOf w n - depOf w i else 0)
noncomputable abbrev hgtOf (w:den tWorld) (i:Nat):Nat:=hgtL w i (List.length (w.2.2.2.1:List (den tPlace)))
theorem hgtL_ge {w:den tWorld} {i k:Nat}:{n:Nat}→k<n→WiW w k i→depOf w k - depOf w i≤hgtL w i n
  | 0,h,_=>by omega
  | n+1,h,hw=>by
    simp only [hgtL]
    by_cases hk:k<n
    · exact Nat.le_trans (hgtL_ge hk hw) (Nat.le_max_left _ _)
    · have:k=n:=by omega
      subst this
      rw [if_pos hw]; exact Nat.le_max_right _ _
theorem hgtL_at {w:den tWorld} {i:Nat}:(n:Nat)→hgtL w i n=0∨∃ k,k<n∧WiW w k i∧depOf w k - depOf w i=hgtL w i n
  | 0=>.inl rfl
  | n+1=>by
    simp only [hgtL]
    by_cases hw:WiW w n i
    · rw [if_pos hw]
      rcases Nat.le_total (hgtL w i n) (depOf w n - depOf w i) with h | h
      · rw [show Nat.max _ _=depOf w n - depOf w i from Nat.max_eq_right h]
        exact .inr ⟨n,by omega,hw,rfl⟩
      · rw [show Nat.max _ _=hgtL w i n from Nat.max_eq_left h]
        rcases hgtL_at (w:=w) (i:=i) n with h1 | ⟨k,h1,h2,h3⟩
        · exact .inl h1
        · exact .inr ⟨k,by omega,h2,h3⟩
    · rw [if_neg hw,show Nat.max (hgtL w i n) 0=hgtL w i n from Nat.max_eq_left (Nat.zero_le _)]
      rcases hgtL_at (w:=w) (i:=i) n with h1 | ⟨k,h1,h2,h3⟩
      · exact .inl h1
      · exact .inr ⟨k,by omega,h2,h3⟩
theorem hgt_le {w:den tWorld} {i:Nat} (n:Nat):hgtL w i n≤51:=by
  rcases hgtL_at (w:=w) (i:=i) n with h | ⟨k,_,_,h⟩
  · omega
  · have:depOf w k≤51:=depN_le w.2.2.2.1 51 (plOf w k)
    omega
theorem max_if (a b:Nat):(if (a:Int)<(b:Int) then (b:Int) else (a:Int))=((Nat.max a b:Nat):Int):=by
  by_cases h:a<b
  · rw [if_pos (by omega),show Nat.max a b=b from Nat.max_eq_right (by omega)]
  · rw [if_neg (by omega),show Nat.max a b=a from Nat.max_eq_left (by omega)]
end Go.Proofs.Ytmemggdjnfccfaa.Ghost
namespace Go.Proofs.Ytmemggdjnfccfaa.Ghost
open Go
theorem refWithin_iff (w:den tWorld) (h:RightP w) {i:Nat} (hi:i<List.length (w.2.2.2.1:List (den tPlace))) (j:Nat):Comes (fun n _ _ _=>innkeepref07_Within n w (i:Int) (j:Int)) (fun r=>r.1.1=true↔WiW w i j) :=
  (refWithin_spec w h (j:Int) 51 i hi (h.ends hi)).mono (fun _ hv=>hv.trans (wi_of h.inPl 51 i j hi (h.ends hi)))
end Go.Proofs.Ytmemggdjnfccfaa.Ghost
namespace Go.Proofs.Ytmemggdjnfccfaa.Ghost
open Go
abbrev pAt (l:List Pl) (j:Nat):Pl:=List.getD l j (dft tPlace)
inductive Hang (l:List Pl):Nat→Pl→Nat→Prop
  | top {j:Nat} (h:¬ (pAt l j).1=(2:Int)):Hang l j (pAt l j) 0
  | box {j b:Nat} {p:Pl} {d:Nat} (h2:(pAt l j).1=(2:Int)) (hb:(pAt l j).2.1=(b:Int)) (h:Hang l b p d):Hang l j p (d+1)
theorem Hang.uniq {l:List Pl} {j:Nat} {p q:Pl} {d e:Nat} (h:Hang l j p d) (h':Hang l j q e):p=q∧d=e:=by
  induction h generalizing q e with
  | top h =>
    cases h' with
    | top=>exact ⟨rfl,rfl⟩
    | box h2=>exact absurd h2 h
  | box h2 hb _ ih =>
    cases h' with
    | top h=>exact absurd h2 h
    | box _ hb' h' =>
      rw [hb] at hb'
      obtain rfl:=Int.ofNat.inj hb'
      obtain ⟨e1,e2⟩:=ih h'
      exact ⟨e1,by rw [e2]⟩
theorem Hang.root {l:List Pl} {j:Nat} {p:Pl} {d:Nat} (h:Hang l j p d):¬ p.1=(2:Int):=by
  induction h with
  | top h=>exact h
  | box _ _ _ ih=>exact ih
theorem hang_of {w:den tWorld} (h:RightP w):(d:Nat)→(i:Nat)→i<List.length (w.2.2.2.1:List (den tPlace))→depOf w i=d→Hang w.2.2.2.1 i (rootOf w i) (depOf w i)
  | d,i,hi,hd=>by
    by_cases h2:(plOf w i).1=(2:Int)
    · obtain ⟨b,e,hb,er⟩:=root_box h hi h2
      obtain ⟨_,ed⟩:=dep_box h hi h2 e
      cases d with
      | zero=>omega
      | succ d =>
        rw [er,ed]
        exact .box h2 e (hang_of h d b hb (by omega))
    · have e1:depOf w i=0:=dep_top h2
      have e2:rootOf w i=plOf w i:=rootP_top h2 51
      rw [e1,e2]
      exact .top h2
theorem RightP.hang {w:den tWorld} (h:RightP w) {i:Nat} (hi:i<List.length (w.2.2.2.1:List (den tPlace))):Hang w.2.2.2.1 i (rootOf w i) (depOf w i):=hang_of h _ i hi rfl
theorem RightP.hang_eq {w:den tWorld} (h:RightP w) {i:Nat} (hi:i<List.length (w.2.2.2.1:List (den tPlace))) {p:Pl} {d:Nat} (h':Hang w.2.2.2.1 i p d):rootOf w i=p∧depOf w i=d:=(h.hang hi).uniq h'
theorem Hang.depI {l:List Pl} {j:Nat} {p:Pl} {d:Nat} (h:Hang l j p d):∀ f c,d≤f→c+d≤50→depI l f c (pAt l j)=c+d:=by
  induction h with
  | @top j h =>
    intro f c _ _
    cases f with
    | zero=>simp only [Ghost.depI]; rw [if_neg h]; rfl
    | succ f=>simp only [Ghost.depI]; rw [if_neg h]; rfl
  | @box j b p d h2 hb _ ih =>
    intro f c hf hc
    cases f with
    | zero=>omega
    | succ f =>
      simp only [Ghost.depI]
      have e:Int.toNat (pAt l j).2.1=b:=by rw [hb,Int.toNat_natCast]
      rw [if_pos h2,if_neg (by omega),e]
      rw [ih f (c+1) (by omega) (by omega)]
      omega
section
variable {l:List Pl} {k:Nat} {q:Pl} (hk:k<l.length)
include hk
theorem set_ne {j:Nat} (h:¬ j=k):pAt (l.set k q) j=pAt l j:=by
  show List.getD _ _ _=_
  rw [getD_set l k j q (dft tPlace) hk,if_neg h]
theorem set_eq:pAt (l.set k q) k=q:=by
  show List.getD _ _ _=_
  rw [getD_set l k k q (dft tPlace) hk,if_pos rfl]
theorem hang_out {j:Nat} {p:Pl} {d:Nat} (h:Hang l j p d):¬ Wi l j k→Hang (l.set k q) j p d:=by
  induction h with
  | @top j h =>
    intro hn
    have e:pAt (l.set k q) j=pAt l j:=set_ne hk (fun e=>hn (by subst e; exact .refl j))
    rw [← e] at h ⊢
    exact .top h
  | @box j b p d h2 hb h ih =>
    intro hn
    have e:pAt (l.set k q) j=pAt l j:=set_ne hk (fun e=>hn (by subst e; exact .refl j))
    refine .box (by rw [e]; exact h2) (by rw [e]; exact hb) (ih (fun hw=>hn (.step h2 hb hw)))
theorem hang_in {p':Pl} {d':Nat} (h':Hang (l.set k q) k p' d') {pk:Pl} {dk:Nat} (hkk:Hang l k pk dk) {j:Nat} (hw:Wi l j k):∀ {p:Pl} {d:Nat},Hang l j p d→p=pk∧∃ n,d=dk+n∧Hang (l.set k q) j p' (d'+n):=by
  induction hw with
  | refl j =>
    intro p d h
    obtain ⟨rfl,rfl⟩:=h.uniq hkk
    exact ⟨rfl,0,rfl,h'⟩
  | @step j b k h2 hb hw ih =>
    intro p d h
    by_cases hj:j=k
    · subst hj
      obtain ⟨rfl,rfl⟩:=h.uniq hkk
      exact ⟨rfl,0,rfl,h'⟩
    · cases h with
      | top h=>exact absurd h2 h
      | @box _ b' _ d _ hb' h =>
        obtain rfl:b=b':=by
          have:(pAt l j).2.1=(b:Int):=hb
          rw [this] at hb'
          exact Int.ofNat.inj hb'
        obtain ⟨e,n,e1,h3⟩:=ih hk h' hkk h
        have e2:pAt (l.set k q) j=pAt l j:=set_ne hk hj
        exact ⟨e,n+1,by omega,.box (by rw [e2]; exact h2) (by rw [e2]; exact hb) h3⟩
theorem wi_set {j:Nat}:Wi (l.set k q) j k↔Wi l j k:=by
  constructor
  · intro h
    generalize hl:l.set k q=l' at h
    induction h with
    | refl j=>exact .refl j
    | @step j b k h2 hb _ ih =>
      subst hl
      by_cases hj:j=k
      · subst hj; exact .refl j
      · have e2:pAt (l.set k q) j=pAt l j:=set_ne hk hj
        have h2:(pAt (l.set k q) j).1=(2:Int):=h2
        have hb:(pAt (l.set k q) j).2.1=(b:Int):=hb
        rw [e2] at h2 hb
        exact .step h2 hb (ih hk rfl)
  · intro h
    induction h with
    | refl j=>exact .refl j
    | @step j b k h2 hb _ ih =>
      by_cases hj:j=k
      · subst hj; exact .refl j
      · have e2:pAt (l.set k q) j=pAt l j:=set_ne hk hj
        refine .step (b:=b) ?_ ?_ (ih hk)
        · show (pAt (l.set k q) j).1=(2:Int); rw [e2]; exact h2
        · show (pAt (l.set k q) j).2.1=(b:Int); rw [e2]; exact hb
end
structure MovedTo (w w':den tWorld) (k:Nat) (p':Pl) (d':Nat):Prop where
  wi:∀ j,WiW w' j k↔WiW w j k
  inn:∀ j,j<List.length (w.2.2.2.1:List (den tPlace))→WiW w j k→Hang w'.2.2.2.1 j p' (d'+(depOf w j - depOf w k))∧depOf w k≤depOf w j∧rootOf w j=rootOf w k
  out:∀ j,j<List.length (w.2.2.2.1:List (den tPlace))→¬ WiW w j k→Hang w'.2.2.2.1 j (rootOf w j) (depOf w j)
theorem moved_to {w:den tWorld} (h:RightP w) {k:Nat} (hk:k<List.length (w.2.2.2.1:List (den tPlace))) {q p':Pl} {d':Nat} (h':Hang (List.set (w.2.2.2.1:List Pl) k q) k p' d'):MovedTo w (put w k q) k p' d':=by
  refine ⟨fun j=>wi_set hk,fun j hj hw => ?_,fun j hj hn=>hang_out hk (h.hang hj) hn⟩
  obtain ⟨e,n,e1,h3⟩:=hang_in hk h' (h.hang hk) hw (h.hang hj)
  have:depOf w j - depOf w k=n:=by omega
  rw [this]
  exact ⟨h3,by omega,e⟩
theorem moved_top {w:den tWorld} (h:RightP w) {k:Nat} (hk:k<List.length (w.2.2.2.1:List (den tPlace))) {q:Pl} (hq:¬ q.1=(2:Int)):MovedTo w (put w k q) k q 0:=by
  refine moved_to h hk ?_
  have e:pAt (List.set (w.2.2.2.1:List Pl) k q) k=q:=set_eq hk
  have:=Hang.top (l:=List.set (w.2.2.2.1:List Pl) k q) (j:=k) (by rw [e]; exact hq)
  rw [e] at this
  exact this
theorem moved_box {w:den tWorld} (h:RightP w) {k b:Nat} (hk:k<List.length (w.2.2.2.1:List (den tPlace))) (hb:b<List.length (w.2.2.2.1:List (den tPlace))) (hn:¬ WiW w b k):MovedTo w (put w k (boxPl (b:Int))) k (rootOf w b) (depOf w b+1):=by
  refine moved_to h hk ?_
  have e:pAt (List.set (w.2.2.2.1:List Pl) k (boxPl (b:Int))) k=boxPl (b:Int):=set_eq hk
  exact .box (by rw [e]) (by rw [e]) (hang_out hk (h.hang hb) hn)
theorem MovedTo.eqs {w w':den tWorld} {k:Nat} {p':Pl} {d':Nat} (m:MovedTo w w' k p' d') (h':RightP w') (hl:List.length (w'.2.2.2.1:List (den tPlace))=List.length (w.2.2.2.1:List (den tPlace))) {j:Nat} (hj:j<List.length (w.2.2.2.1:List (den tPlace))) :
    (WiW w j k→rootOf w' j=p'∧depOf w' j=d'+(depOf w j - depOf w k)∧depOf w k≤depOf w j∧rootOf w j=rootOf w k)∧(¬ WiW w j k→rootOf w' j=rootOf w j∧depOf w' j=depOf w j):=by
  constructor
  · intro hw
    obtain ⟨h1,h2,h3⟩:=m.inn j hj hw
    obtain ⟨e1,e2⟩:=h'.hang_eq (by rw [hl]; exact hj) h1
    exact ⟨e1,e2,h2,h3⟩
  · intro hn
    exact h'.hang_eq (by rw [hl]; exact hj) (m.out j hj hn)
theorem MovedTo.hgt {w w':den tWorld} {k:Nat} {p':Pl} {d':Nat} (m:MovedTo w w' k p' d') (h:RightP w) (h':RightP w') (hl:List.length (w'.2.2.2.1:List (den tPlace))=List.length (w.2.2.2.1:List (den tPlace))) (hk:k<List.length (w.2.2.2.1:List (den tPlace))):hgtOf w' k=hgtOf w k:=by
  have key:∀ n,n≤List.length (w.2.2.2.1:List (den tPlace))→hgtL w' k n=hgtL w k n:=by
    intro n
    induction n with
    | zero=>intro _; rfl
    | succ n ih =>
      intro hn
      simp only [hgtL]
      rw [ih (by omega)]
      by_cases hw:WiW w n k
      · rw [if_pos hw,if_pos ((m.wi n).2 hw)]
        obtain ⟨_,e,_,_⟩:=(m.eqs h' hl (show n<_ by omega)).1 hw
        obtain ⟨_,e',_,_⟩:=(m.eqs h' hl hk).1 (.refl k)
        rw [show depOf w' n - depOf w' k=depOf w n - depOf w k by omega]
      · rw [if_neg hw,if_neg (fun h=>hw ((m.wi n).1 h))]
  show hgtL w' k _=hgtL w k _
  rw [hl]
  exact key _ (Nat.le_refl _)
theorem dep_hgt {w:den tWorld} (h:RightP w) {i:Nat} (hi:i<List.length (w.2.2.2.1:List (den tPlace))):depOf w i+hgtOf w i≤4:=by
  have h1:=(dep_le h hi).2
  rcases hgtL_at (w:=w) (i:=i) (List.length (w.2.2.2.1:List (den tPlace))) with h0 | ⟨k,k1,k2,k3⟩
  · have h0:hgtOf w i=0:=h0
    omega
  · have h2:=(dep_le h k1).2
    have h3:=(k2.facts h k1).2.2.1
    have k3:depOf w k - depOf w i=hgtOf w i:=k3
    omega
end Go.Proofs.Ytmemggdjnfccfaa.Ghost
