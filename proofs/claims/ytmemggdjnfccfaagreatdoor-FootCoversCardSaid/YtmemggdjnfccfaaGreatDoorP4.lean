/- What functions come to, and that the statements are answered with 'true'. Conditions: none. -/
import Derived.Test.YtmemggdjnfccfaaGreatDoorS
import Derived.Test.YtmemggdjnfccfaaGreatDoorGE
import Derived.Test.YtmemggdjnfccfaaGreatDoorP1
import Derived.Test.YtmemggdjnfccfaaGreatDoorP2
import Derived.Test.YtmemggdjnfccfaaGreatDoorP3
set_option linter.unusedVariables false
set_option linter.unusedSimpArgs false
set_option linter.unusedSectionVars false
set_option linter.unnecessarySimpa false
namespace Go.Proofs.YtmemggdjnfccfaaGreatDoor.Ghost
open Go
def moved (w:den Zb) (i:Nat) (x:Int):den Zb:=(w.1,List.set (w.2.1:List Int) i x,w.2.2.1,w.2.2.2.1,())
def Ke (w:den Zb) (i d:Nat):Int:=Q8 w.1 (Int.toNat (List.getD (w.2.1:List Int) i (0:Int))) d
def goR (w:den Zb) (i d:Nat):den Zb×Int×Int×Unit:=if 0≤Ke w i d then (moved w i (Ke w i d),Ke w i d,0,()) else (w,0,4,())
structure Cy (w:den Zb) (i d:Nat):Prop where
  ip:i<List.length (w.2.1:List Int)
  r0:0≤List.getD (w.2.1:List Int) i (0:Int)
  r1:List.getD (w.2.1:List Int) i (0:Int)<(List.length (w.1.1:List (List Int)):Int)
  dp:d<4
section
variable {w:den Zb}
theorem X9.stands (h:X9 w) {i d:Nat} (hi:i<List.length (w.2.1:List Int)) (hd:d<4):Cy w i d:=⟨hi,(h.at_ i hi).1.1,(h.at_ i hi).1.2,hd⟩
theorem X9.exit (h:X9 w) {i d:Nat} (hi:i<List.length (w.2.1:List Int)) (hd:d<4):Ke w i d = -1∨(0≤Ke w i d∧Ke w i d<(List.length (w.1.1:List (List Int)):Int)):=by
  have h1:=h.at_ i hi
  unfold Ke
  exact h.may.exits _ ((Int.toNat_lt h1.1.1).2 h1.1.2) d hd
theorem AGe (h:X9 w) {i:Nat} (hi:i<List.length (w.2.1:List Int)) {x:Int} (hx:0≤x∧x<(List.length (w.1.1:List (List Int)):Int)):X9 (moved w i x) where
  may:=h.may
  a1:=by show List.length (List.set (w.2.1:List Int) i x)=_; rw [List.length_set]; exact h.a1
  c1:=h.c1
  w1:=h.w1
  at_ j hj:=by
    have hj':j<List.length (w.2.1:List Int):=by
      have e:List.length (List.set (w.2.1:List Int) i x)=List.length (w.2.1:List Int):=List.length_set
      rw [← e]; exact hj
    refine ⟨?_,(h.at_ j hj').2⟩
    show 0≤List.getD (List.set (w.2.1:List Int) i x) j (0:Int)∧List.getD (List.set (w.2.1:List Int) i x) j (0:Int)<_
    rw [H8 _ _ _ _ _ hi]
    split
    · exact hx
    · exact (h.at_ j hj').1
  good:=h.good
  deep:=h.deep
theorem AOf (h:Sm w) (i:Nat) (x:Int):Sm (moved w i x) :=
  ⟨h.e,h.b,h.p,h.c,h.i,by show List.length (List.set (w.2.1:List Int) i x)≤_; rw [List.length_set]; exact h.a,h.wc,h.wh,h.rows⟩
theorem Ok.moved (h:Ok w) {i:Nat} (hi:i<List.length (w.2.1:List Int)) {d:Nat} (hd:d<4) (hx:0≤Ke w i d):Ok (Ghost.moved w i (Ke w i d)) :=
  ⟨AOf h.sm i _,AGe h.right hi ⟨hx,by rcases h.right.exit hi hd with e | e <;> omega⟩⟩
end
theorem AF1 (w:den Zb) (i j:Nat) (x:Int) (h:i<List.length (w.2.1:List Int)):List.getD ((moved w i x).2.1:List Int) j (0:Int)=if j=i then x else List.getD (w.2.1:List Int) j (0:Int):=by
  show List.getD (List.set (w.2.1:List Int) i x) j (0:Int)=_
  exact H8 _ _ _ _ _ h
end Go.Proofs.YtmemggdjnfccfaaGreatDoor.Ghost
namespace Go.Proofs.YtmemggdjnfccfaaGreatDoor.Ghost
open Go
theorem ABc (w:den Zb) (a b:Int) (ha:0≤a∧a<(List.length (w.1.1:List (List Int)):Int)) (hb:0≤b∧b<4):Ze (fun n _ _ _=>Jq n w a b) (fun r=>r=(((if Q8 w.1 (Int.toNat a) (Int.toNat b)<0 then 0 else Q8 w.1 (Int.toNat a) (Int.toNat b)),decide (0≤Q8 w.1 (Int.toNat a) (Int.toNat b)),()),[])) :=
  Ze.succ (fun n _ _ _=>Jq.eq n w a b) (Ze.ite ha (Ze.ite hb (Ze.ret rfl)))
theorem B6 (w:den Zb) (h:Sm w) {i d:Nat} (hs:Cy w i d):Ze (R:=Q6.R) (fun n _ _ _ =>
    if (0:Int)≤(i:Int)∧(i:Int)<(((List.length (w.2.1:(List Int))):Nat):Int) then
    Option.bind (Jq n w (List.getD (w.2.1:(List Int)) (Int.toNat (i:Int)) (0:Int):Int) (d:Int)) fun r2 =>
    bif (!(r2.1.2.1:Bool)) then
      some ((w,0,4,()),[])
    else
      Option.bind (Jp n w) fun r3 =>
      bif (Zq r3.2 [((0,[1]),2)]) then
        if (0:Int)≤(i:Int)∧(i:Int)<(((List.length (r3.1.1.2.1:(List Int))):Nat):Int) then
        some (((r3.1.1.1,(List.set (r3.1.1.2.1:(List Int)) (Int.toNat (i:Int)) (r2.1.1:Int):(List Int)),(r3.1.1.2.2.1:(List Int)),(r3.1.1.2.2.2.1:(List (den Za))),()),(r2.1.1:Int),0,()),[(0,[1])])
        else none
      else
        none
    else none) (fun r=>r.1=goR w i d):=by
  have hi:=hs.ip
  have hd:=hs.dp
  have e1:Q8 w.1 (Int.toNat (List.getD (w.2.1:List Int) (Int.toNat (i:Int)) (0:Int))) (Int.toNat (d:Int))=Ke w i d:=by rw [Int.toNat_natCast,Int.toNat_natCast]; rfl
  refine Ze.ite (by omega) (Ze.call (ABc w _ _ ⟨by rw [Int.toNat_natCast]; exact hs.r0,by rw [Int.toNat_natCast]; exact hs.r1⟩ (by omega)) (fun v hv => ?_))
  rw [e1] at hv
  subst hv
  refine Ze.bifN (fun hb=>Ze.call (Mp w h) (fun u hu => ?_)) (fun hb=>Ze.ret ?_)
  · have hb:=of_decide_eq_true hb
    subst hu
    refine Ze.bifT rfl (Ze.ite (by show (0:Int)≤i∧(i:Int)<(List.length (w.2.1:List Int):Int); omega) (Ze.ret ?_))
    unfold goR
    rw [if_pos hb]
    show ((w.1,List.set (w.2.1:List Int) (Int.toNat (i:Int)) (if Ke w i d<0 then 0 else Ke w i d),w.2.2.1,w.2.2.2.1,()),(if Ke w i d<0 then 0 else Ke w i d),0,())=_
    rw [if_neg (by omega),Int.toNat_natCast]
    rfl
  · have hb:=of_decide_eq_false hb
    unfold goR
    rw [if_neg hb]
theorem AKm (w:den Zb) (h:Sm w) {i d:Nat} (hs:Cy w i d):Ze (fun n _ _ _=>Ku n w (i:Int) (d:Int)) (fun r=>r.1=goR w i d):=by
  refine Ze.succ (fun n _ _ _=>Ku.eq n w i d) (Ze.call (Q1:=fun r=>r=((((()),w,(d:Int),()),()),[])) (Ze.succ (fun n _ _ _=>Kf.eq n w d) (Ze.ret rfl)) (fun v hv => ?_))
  subst hv
  refine Ze.call (Q1:=fun r=>r.1=goR w i d) (Ze.succ (fun n _ _ _=>Q6.eq n (i:Int) w (d:Int)) (Ze.call (Q1:=fun r=>r=((0,()),[])) (Ze.succ (fun n _ _ _=>Vm.eq n) (Ze.ret rfl)) (fun u hu => ?_))) (fun u hu=>Ze.ret ?_)
  · subst hu
    exact Ze.bifN (fun _=>B6 w h hs) (fun hb=>absurd hb (by decide))
  · exact hu
def Gm (w:den Zb) (i:Nat) (q:Int):Int:=if q<0 then 3 else if (List.length (w.2.1:List Int):Int)≤q then 3 else if q=(i:Int) then 12 else if List.getD (w.2.1:List Int) (Int.toNat q) (0:Int)=List.getD (w.2.1:List Int) i (0:Int) then 0 else 5
theorem Ti {w:den Zb} {i:Nat} {q:Int} (h:Gm w i q=0):0≤q∧q<(List.length (w.2.1:List Int):Int)∧q≠i∧List.getD (w.2.1:List Int) (Int.toNat q) (0:Int)=List.getD (w.2.1:List Int) i (0:Int):=by
  unfold Gm at h
  split at h
  · cases h
  · split at h
    · cases h
    · split at h
      · cases h
      · split at h
        · rename_i a b c d; exact ⟨by omega,by omega,c,d⟩
        · cases h
def D0 (w:den Zb) (i:Nat) (q:Int) (d:Nat):den Zb×Int×Int×Unit:=if Gm w i q=0 then goR w (Int.toNat q) d else (w,0,Gm w i q,())
theorem AHs (w:den Zb) {i:Nat} (hi:i<List.length (w.2.1:List Int)) (q:Int):Ze (fun n _ _ _=>Jw n q w (i:Int)) (fun r=>r=((Gm w i q,()),[])):=by
  refine Ze.succ (fun n _ _ _=>Jw.eq n q w i) ?_
  unfold Gm
  refine Ze.bif (fun h1=>Ze.ret ?_) (fun h1=>Ze.bif (fun h2=>Ze.ret ?_) (fun h2=>Ze.bif (fun h3=>Ze.ret ?_) (fun h3 => ?_)))
  · rw [if_pos (of_decide_eq_true h1)]
  · rw [if_neg (of_decide_eq_false h1),if_pos (of_decide_eq_true h2)]
  · rw [if_neg (of_decide_eq_false h1),if_neg (of_decide_eq_false h2),if_pos (of_decide_eq_true h3)]
  · have h1:=of_decide_eq_false h1
    have h2:=of_decide_eq_false h2
    have h3:=of_decide_eq_false h3
    rw [if_neg h1,if_neg h2,if_neg h3]
    refine Ze.ite (by omega) (Ze.ite (by omega) (Ze.bifN (fun h4=>Ze.ret ?_) (fun h4=>Ze.ret ?_)))
    · have h4:=of_decide_eq_true h4
      rw [Int.toNat_natCast] at h4
      rw [if_pos h4]
    · have h4:=of_decide_eq_false h4
      rw [Int.toNat_natCast] at h4
      rw [if_neg h4]
theorem AKs (w:den Zb) (h:Sm w) {i:Nat} (hi:i<List.length (w.2.1:List Int)) (q:Int) {d:Nat} (hs:Gm w i q=0→Cy w (Int.toNat q) d):Ze (fun n _ _ _=>Kv n w (i:Int) q (d:Int)) (fun r=>r.1=D0 w i q d):=by
  refine Ze.succ (fun n _ _ _=>Kv.eq n w i q d) (Ze.call (Q1:=fun r=>r=((((q,w,(i:Int),()),w,(d:Int),()),()),[])) (Ze.succ (fun n _ _ _=>Hw.eq n w d q w i) (Ze.ret rfl)) (fun v hv => ?_))
  subst hv
  refine Ze.call (Q1:=fun r=>r.1=D0 w i q d) (Ze.succ (fun n _ _ _=>Kw.eq n q q w (i:Int) w (d:Int)) (Ze.call (AHs w hi q) (fun u hu => ?_))) (fun u hu=>Ze.ret ?_)
  · subst hu
    unfold D0
    refine Ze.bifN (fun hb => ?_) (fun hb=>Ze.ret ?_)
    · have hb:Gm w i q=0:=of_decide_eq_true hb
      rw [if_pos hb]
      have hz:=Ti hb
      obtain ⟨k,rfl⟩:∃ k:Nat,q=(k:Int):=⟨q.toNat,by omega⟩
      rw [Int.toNat_natCast] at hs ⊢
      exact B6 w h (hs hb)
    · have hb:¬ Gm w i q=0:=of_decide_eq_false hb
      rw [if_neg hb]
  · exact hu
end Go.Proofs.YtmemggdjnfccfaaGreatDoor.Ghost
namespace Go.Proofs.YtmemggdjnfccfaaGreatDoor.Ghost
open Go
theorem AHt {w:den Zb} (h:Ok w) {i:Nat} {q:Int} {d:Nat} (hd:d<4) (hz:Gm w i q=0):Cy w (Int.toNat q) d∧(Ke w (Int.toNat q) d = -1∨0≤Ke w (Int.toNat q) d):=by
  have hz:=Ti hz
  have hlt:Int.toNat q<List.length (w.2.1:List Int):=by omega
  refine ⟨h.right.stands hlt hd,?_⟩
  rcases h.right.exit hlt hd with e | e
  · exact .inl e
  · exact .inr e.1
end Go.Proofs.YtmemggdjnfccfaaGreatDoor.Ghost
