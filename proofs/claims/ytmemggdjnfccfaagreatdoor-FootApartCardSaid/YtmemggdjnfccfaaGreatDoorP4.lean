/- What functions come to, and that the statements are answered with 'true'. Conditions: none. -/
import Derived.Test.YtmemggdjnfccfaaGreatDoorS
import Derived.Test.YtmemggdjnfccfaaGreatDoorGE
import Derived.Test.YtmemggdjnfccfaaGreatDoorP1
import Derived.Test.YtmemggdjnfccfaaGreatDoorP2
import Derived.Test.YtmemggdjnfccfaaGreatDoorP3
set_option linter.unusedVariables false
set_option linter.unusedSimpArgs false
set_option linter.unusedSectionVars false
set_option linter.unnecessarySimpa false
namespace Go.Proofs.YtmemggdjnfccfaaGreatDoor.Ghost
open Go
def moved (w:den Zb) (i:Nat) (x:Int):den Zb:=(w.1,List.set (w.2.1:List Int) i x,w.2.2.1,w.2.2.2.1,())
def Y5 (w:den Zb) (i d:Nat):Int:=Ji w.1 (Int.toNat (List.getD (w.2.1:List Int) i (0:Int))) d
def goR (w:den Zb) (i d:Nat):den Zb×Int×Int×Unit:=if 0≤Y5 w i d then (moved w i (Y5 w i d),Y5 w i d,0,()) else (w,0,4,())
structure Bd (w:den Zb) (i d:Nat):Prop where
  ip:i<List.length (w.2.1:List Int)
  r0:0≤List.getD (w.2.1:List Int) i (0:Int)
  r1:List.getD (w.2.1:List Int) i (0:Int)<(List.length (w.1.1:List (List Int)):Int)
  dp:d<4
section
variable {w:den Zb}
theorem Yf.stands (h:Yf w) {i d:Nat} (hi:i<List.length (w.2.1:List Int)) (hd:d<4):Bd w i d:=⟨hi,(h.at_ i hi).1.1,(h.at_ i hi).1.2,hd⟩
theorem Yf.exit (h:Yf w) {i d:Nat} (hi:i<List.length (w.2.1:List Int)) (hd:d<4):Y5 w i d = -1∨(0≤Y5 w i d∧Y5 w i d<(List.length (w.1.1:List (List Int)):Int)):=by
  have h1:=h.at_ i hi
  unfold Y5
  exact h.may.exits _ ((Int.toNat_lt h1.1.1).2 h1.1.2) d hd
theorem AGz (h:Yf w) {i:Nat} (hi:i<List.length (w.2.1:List Int)) {x:Int} (hx:0≤x∧x<(List.length (w.1.1:List (List Int)):Int)):Yf (moved w i x) where
  may:=h.may
  a1:=by show List.length (List.set (w.2.1:List Int) i x)=_; rw [List.length_set]; exact h.a1
  c1:=h.c1
  w1:=h.w1
  at_ j hj:=by
    have hj':j<List.length (w.2.1:List Int):=by
      have e:List.length (List.set (w.2.1:List Int) i x)=List.length (w.2.1:List Int):=List.length_set
      rw [← e]; exact hj
    refine ⟨?_,(h.at_ j hj').2⟩
    show 0≤List.getD (List.set (w.2.1:List Int) i x) j (0:Int)∧List.getD (List.set (w.2.1:List Int) i x) j (0:Int)<_
    rw [Gh _ _ _ _ _ hi]
    split
    · exact hx
    · exact (h.at_ j hj').1
  good:=h.good
  deep:=h.deep
theorem AO3 (h:Sm w) (i:Nat) (x:Int):Sm (moved w i x) :=
  ⟨h.e,h.b,h.p,h.c,h.i,by show List.length (List.set (w.2.1:List Int) i x)≤_; rw [List.length_set]; exact h.a,h.wc,h.wh,h.rows⟩
theorem Ok.moved (h:Ok w) {i:Nat} (hi:i<List.length (w.2.1:List Int)) {d:Nat} (hd:d<4) (hx:0≤Y5 w i d):Ok (Ghost.moved w i (Y5 w i d)) :=
  ⟨AO3 h.sm i _,AGz h.right hi ⟨hx,by rcases h.right.exit hi hd with e | e <;> omega⟩⟩
end
theorem Mo (w:den Zb) (i j:Nat) (x:Int) (h:i<List.length (w.2.1:List Int)):List.getD ((moved w i x).2.1:List Int) j (0:Int)=if j=i then x else List.getD (w.2.1:List Int) j (0:Int):=by
  show List.getD (List.set (w.2.1:List Int) i x) j (0:Int)=_
  exact Gh _ _ _ _ _ h
end Go.Proofs.YtmemggdjnfccfaaGreatDoor.Ghost
namespace Go.Proofs.YtmemggdjnfccfaaGreatDoor.Ghost
open Go
theorem ABv (w:den Zb) (a b:Int) (ha:0≤a∧a<(List.length (w.1.1:List (List Int)):Int)) (hb:0≤b∧b<4):Zd (fun n _ _ _=>J0 n w a b) (fun r=>r=(((if Ji w.1 (Int.toNat a) (Int.toNat b)<0 then 0 else Ji w.1 (Int.toNat a) (Int.toNat b)),decide (0≤Ji w.1 (Int.toNat a) (Int.toNat b)),()),[])) :=
  Zd.succ (fun n _ _ _=>J0.eq n w a b) (Zd.ite ha (Zd.ite hb (Zd.ret rfl)))
theorem Ao (w:den Zb) (h:Sm w) {i d:Nat} (hs:Bd w i d):Zd (R:=Jg.R) (fun n _ _ _ =>
    if (0:Int)≤(i:Int)∧(i:Int)<(((List.length (w.2.1:(List Int))):Nat):Int) then
    Option.bind (J0 n w (List.getD (w.2.1:(List Int)) (Int.toNat (i:Int)) (0:Int):Int) (d:Int)) fun r2 =>
    bif (!(r2.1.2.1:Bool)) then
      some ((w,0,4,()),[])
    else
      Option.bind (Jz n w) fun r3 =>
      bif (Zp r3.2 [((0,[1]),2)]) then
        if (0:Int)≤(i:Int)∧(i:Int)<(((List.length (r3.1.1.2.1:(List Int))):Nat):Int) then
        some (((r3.1.1.1,(List.set (r3.1.1.2.1:(List Int)) (Int.toNat (i:Int)) (r2.1.1:Int):(List Int)),(r3.1.1.2.2.1:(List Int)),(r3.1.1.2.2.2.1:(List (den Za))),()),(r2.1.1:Int),0,()),[(0,[1])])
        else none
      else
        none
    else none) (fun r=>r.1=goR w i d):=by
  have hi:=hs.ip
  have hd:=hs.dp
  have e1:Ji w.1 (Int.toNat (List.getD (w.2.1:List Int) (Int.toNat (i:Int)) (0:Int))) (Int.toNat (d:Int))=Y5 w i d:=by rw [Int.toNat_natCast,Int.toNat_natCast]; rfl
  refine Zd.ite (by omega) (Zd.call (ABv w _ _ ⟨by rw [Int.toNat_natCast]; exact hs.r0,by rw [Int.toNat_natCast]; exact hs.r1⟩ (by omega)) (fun v hv => ?_))
  rw [e1] at hv
  subst hv
  refine Zd.bifN (fun hb=>Zd.call (La w h) (fun u hu => ?_)) (fun hb=>Zd.ret ?_)
  · have hb:=of_decide_eq_true hb
    subst hu
    refine Zd.bifT rfl (Zd.ite (by show (0:Int)≤i∧(i:Int)<(List.length (w.2.1:List Int):Int); omega) (Zd.ret ?_))
    unfold goR
    rw [if_pos hb]
    show ((w.1,List.set (w.2.1:List Int) (Int.toNat (i:Int)) (if Y5 w i d<0 then 0 else Y5 w i d),w.2.2.1,w.2.2.2.1,()),(if Y5 w i d<0 then 0 else Y5 w i d),0,())=_
    rw [if_neg (by omega),Int.toNat_natCast]
    rfl
  · have hb:=of_decide_eq_false hb
    unfold goR
    rw [if_neg hb]
theorem ALb (w:den Zb) (h:Sm w) {i d:Nat} (hs:Bd w i d):Zd (fun n _ _ _=>Kw n w (i:Int) (d:Int)) (fun r=>r.1=goR w i d):=by
  refine Zd.succ (fun n _ _ _=>Kw.eq n w i d) (Zd.call (Q1:=fun r=>r=((((()),w,(d:Int),()),()),[])) (Zd.succ (fun n _ _ _=>Kh.eq n w d) (Zd.ret rfl)) (fun v hv => ?_))
  subst hv
  refine Zd.call (Q1:=fun r=>r.1=goR w i d) (Zd.succ (fun n _ _ _=>Jg.eq n (i:Int) w (d:Int)) (Zd.call (Q1:=fun r=>r=((0,()),[])) (Zd.succ (fun n _ _ _=>Vq.eq n) (Zd.ret rfl)) (fun u hu => ?_))) (fun u hu=>Zd.ret ?_)
  · subst hu
    exact Zd.bifN (fun _=>Ao w h hs) (fun hb=>absurd hb (by decide))
  · exact hu
def Ki (w:den Zb) (i:Nat) (q:Int):Int:=if q<0 then 3 else if (List.length (w.2.1:List Int):Int)≤q then 3 else if q=(i:Int) then 12 else if List.getD (w.2.1:List Int) (Int.toNat q) (0:Int)=List.getD (w.2.1:List Int) i (0:Int) then 0 else 5
theorem Gx {w:den Zb} {i:Nat} {q:Int} (h:Ki w i q=0):0≤q∧q<(List.length (w.2.1:List Int):Int)∧q≠i∧List.getD (w.2.1:List Int) (Int.toNat q) (0:Int)=List.getD (w.2.1:List Int) i (0:Int):=by
  unfold Ki at h
  split at h
  · cases h
  · split at h
    · cases h
    · split at h
      · cases h
      · split at h
        · rename_i a b c d; exact ⟨by omega,by omega,c,d⟩
        · cases h
def Np (w:den Zb) (i:Nat) (q:Int) (d:Nat):den Zb×Int×Int×Unit:=if Ki w i q=0 then goR w (Int.toNat q) d else (w,0,Ki w i q,())
theorem AIf (w:den Zb) {i:Nat} (hi:i<List.length (w.2.1:List Int)) (q:Int):Zd (fun n _ _ _=>J6 n q w (i:Int)) (fun r=>r=((Ki w i q,()),[])):=by
  refine Zd.succ (fun n _ _ _=>J6.eq n q w i) ?_
  unfold Ki
  refine Zd.bif (fun h1=>Zd.ret ?_) (fun h1=>Zd.bif (fun h2=>Zd.ret ?_) (fun h2=>Zd.bif (fun h3=>Zd.ret ?_) (fun h3 => ?_)))
  · rw [if_pos (of_decide_eq_true h1)]
  · rw [if_neg (of_decide_eq_false h1),if_pos (of_decide_eq_true h2)]
  · rw [if_neg (of_decide_eq_false h1),if_neg (of_decide_eq_false h2),if_pos (of_decide_eq_true h3)]
  · have h1:=of_decide_eq_false h1
    have h2:=of_decide_eq_false h2
    have h3:=of_decide_eq_false h3
    rw [if_neg h1,if_neg h2,if_neg h3]
    refine Zd.ite (by omega) (Zd.ite (by omega) (Zd.bifN (fun h4=>Zd.ret ?_) (fun h4=>Zd.ret ?_)))
    · have h4:=of_decide_eq_true h4
      rw [Int.toNat_natCast] at h4
      rw [if_pos h4]
    · have h4:=of_decide_eq_false h4
      rw [Int.toNat_natCast] at h4
      rw [if_neg h4]
theorem ALh (w:den Zb) (h:Sm w) {i:Nat} (hi:i<List.length (w.2.1:List Int)) (q:Int) {d:Nat} (hs:Ki w i q=0→Bd w (Int.toNat q) d):Zd (fun n _ _ _=>Kx n w (i:Int) q (d:Int)) (fun r=>r.1=Np w i q d):=by
  refine Zd.succ (fun n _ _ _=>Kx.eq n w i q d) (Zd.call (Q1:=fun r=>r=((((q,w,(i:Int),()),w,(d:Int),()),()),[])) (Zd.succ (fun n _ _ _=>H5.eq n w d q w i) (Zd.ret rfl)) (fun v hv => ?_))
  subst hv
  refine Zd.call (Q1:=fun r=>r.1=Np w i q d) (Zd.succ (fun n _ _ _=>Kz.eq n q q w (i:Int) w (d:Int)) (Zd.call (AIf w hi q) (fun u hu => ?_))) (fun u hu=>Zd.ret ?_)
  · subst hu
    unfold Np
    refine Zd.bifN (fun hb => ?_) (fun hb=>Zd.ret ?_)
    · have hb:Ki w i q=0:=of_decide_eq_true hb
      rw [if_pos hb]
      have hz:=Gx hb
      obtain ⟨k,rfl⟩:∃ k:Nat,q=(k:Int):=⟨q.toNat,by omega⟩
      rw [Int.toNat_natCast] at hs ⊢
      exact Ao w h (hs hb)
    · have hb:¬ Ki w i q=0:=of_decide_eq_false hb
      rw [if_neg hb]
  · exact hu
end Go.Proofs.YtmemggdjnfccfaaGreatDoor.Ghost
namespace Go.Proofs.YtmemggdjnfccfaaGreatDoor.Ghost
open Go
theorem AIg {w:den Zb} (h:Ok w) {i:Nat} {q:Int} {d:Nat} (hd:d<4) (hz:Ki w i q=0):Bd w (Int.toNat q) d∧(Y5 w (Int.toNat q) d = -1∨0≤Y5 w (Int.toNat q) d):=by
  have hz:=Gx hz
  have hlt:Int.toNat q<List.length (w.2.1:List Int):=by omega
  refine ⟨h.right.stands hlt hd,?_⟩
  rcases h.right.exit hlt hd with e | e
  · exact .inl e
  · exact .inr e.1
end Go.Proofs.YtmemggdjnfccfaaGreatDoor.Ghost
