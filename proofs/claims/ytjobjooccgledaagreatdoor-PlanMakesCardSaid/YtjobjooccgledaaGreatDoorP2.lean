/- What functions come to, and that the statements are answered with 'true'. Conditions: none. -/
import Derived.Test.YtjobjooccgledaaGreatDoorS
import Derived.Test.YtjobjooccgledaaGreatDoorGE
import Derived.Test.YtjobjooccgledaaGreatDoorP1
set_option linter.unusedVariables false
set_option linter.unusedSimpArgs false
set_option linter.unusedSectionVars false
set_option linter.unnecessarySimpa false
namespace Go.Proofs.YtjobjooccgledaaGreatDoor.Ghost
open Go
def moved (w:den Za) (i:Nat) (x:Int):den Za:=(w.1,List.set (w.2.1:List Int) i x,w.2.2.1,w.2.2.2.1,())
def Uq (w:den Za) (i d:Nat):Int:=Q9 w.1 (Int.toNat (List.getD (w.2.1:List Int) i (0:Int))) d
def goR (w:den Za) (i d:Nat):den Za×Int×Int×Unit:=if 0≤Uq w i d then (moved w i (Uq w i d),Uq w i d,0,()) else (w,0,4,())
structure Ch (w:den Za) (i d:Nat):Prop where
  ip:i<List.length (w.2.1:List Int)
  r0:0≤List.getD (w.2.1:List Int) i (0:Int)
  r1:List.getD (w.2.1:List Int) i (0:Int)<(List.length (w.1.1:List (List Int)):Int)
  dp:d<4
section
variable {w:den Za}
theorem Yg.stands (h:Yg w) {i d:Nat} (hi:i<List.length (w.2.1:List Int)) (hd:d<4):Ch w i d:=⟨hi,(h.at_ i hi).1.1,(h.at_ i hi).1.2,hd⟩
theorem Yg.exit (h:Yg w) {i d:Nat} (hi:i<List.length (w.2.1:List Int)) (hd:d<4):Uq w i d = -1∨(0≤Uq w i d∧Uq w i d<(List.length (w.1.1:List (List Int)):Int)):=by
  have h1:=h.at_ i hi
  unfold Uq
  exact h.may.exits _ ((Int.toNat_lt h1.1.1).2 h1.1.2) d hd
theorem AF2 (h:Yg w) {i:Nat} (hi:i<List.length (w.2.1:List Int)) {x:Int} (hx:0≤x∧x<(List.length (w.1.1:List (List Int)):Int)):Yg (moved w i x) where
  may:=h.may
  a1:=by show List.length (List.set (w.2.1:List Int) i x)=_; rw [List.length_set]; exact h.a1
  c1:=h.c1
  w1:=h.w1
  at_ j hj:=by
    have hj':j<List.length (w.2.1:List Int):=by
      have e:List.length (List.set (w.2.1:List Int) i x)=List.length (w.2.1:List Int):=List.length_set
      rw [← e]; exact hj
    refine ⟨?_,(h.at_ j hj').2⟩
    show 0≤List.getD (List.set (w.2.1:List Int) i x) j (0:Int)∧List.getD (List.set (w.2.1:List Int) i x) j (0:Int)<_
    rw [Vz _ _ _ _ _ hi]
    split
    · exact hx
    · exact (h.at_ j hj').1
  good:=h.good
  deep:=h.deep
theorem AN4 (h:Sm w) (i:Nat) (x:Int):Sm (moved w i x) :=
  ⟨h.e,h.b,h.p,h.c,h.i,by show List.length (List.set (w.2.1:List Int) i x)≤_; rw [List.length_set]; exact h.a,h.wc,h.wh,h.rows⟩
theorem Ok.moved (h:Ok w) {i:Nat} (hi:i<List.length (w.2.1:List Int)) {d:Nat} (hd:d<4) (hx:0≤Uq w i d):Ok (Ghost.moved w i (Uq w i d)) :=
  ⟨AN4 h.sm i _,AF2 h.right hi ⟨hx,by rcases h.right.exit hi hd with e | e <;> omega⟩⟩
end
end Go.Proofs.YtjobjooccgledaaGreatDoor.Ghost
namespace Go.Proofs.YtjobjooccgledaaGreatDoor.Ghost
open Go
theorem AJm (w:den Za) (a b:Int) (ha:0≤a∧a<(List.length (w.1.1:List (List Int)):Int)) (hb:0≤b∧b<4):Zd (fun n _ _ _=>Vc n w a b) (fun r=>r=(((if Q9 w.1 (Int.toNat a) (Int.toNat b)<0 then 0 else Q9 w.1 (Int.toNat a) (Int.toNat b)),decide (0≤Q9 w.1 (Int.toNat a) (Int.toNat b)),()),[])) :=
  Zd.succ (fun n _ _ _=>Vc.eq n w a b) (Zd.ite ha (Zd.ite hb (Zd.ret rfl)))
theorem Bk (w:den Za) (h:Sm w) {i d:Nat} (hs:Ch w i d):Zd (R:=Q0.R) (fun n _ _ _ =>
    if (0:Int)≤(i:Int)∧(i:Int)<(((List.length (w.2.1:(List Int))):Nat):Int) then
    Option.bind (Vc n w (List.getD (w.2.1:(List Int)) (Int.toNat (i:Int)) (0:Int):Int) (d:Int)) fun r2 =>
    bif (!(r2.1.2.1:Bool)) then
      some ((w,0,4,()),[])
    else
      Option.bind (Jh n w) fun r3 =>
      bif (Zq r3.2 [((0,[1]),2)]) then
        if (0:Int)≤(i:Int)∧(i:Int)<(((List.length (r3.1.1.2.1:(List Int))):Nat):Int) then
        some (((r3.1.1.1,(List.set (r3.1.1.2.1:(List Int)) (Int.toNat (i:Int)) (r2.1.1:Int):(List Int)),(r3.1.1.2.2.1:(List Int)),(r3.1.1.2.2.2.1:(List (den Zb))),()),(r2.1.1:Int),0,()),[(0,[1])])
        else none
      else
        none
    else none) (fun r=>r.1=goR w i d):=by
  have hi:=hs.ip
  have hd:=hs.dp
  have e1:Q9 w.1 (Int.toNat (List.getD (w.2.1:List Int) (Int.toNat (i:Int)) (0:Int))) (Int.toNat (d:Int))=Uq w i d:=by rw [Int.toNat_natCast,Int.toNat_natCast]; rfl
  refine Zd.ite (by omega) (Zd.call (AJm w _ _ ⟨by rw [Int.toNat_natCast]; exact hs.r0,by rw [Int.toNat_natCast]; exact hs.r1⟩ (by omega)) (fun v hv => ?_))
  rw [e1] at hv
  subst hv
  refine Zd.bifN (fun hb=>Zd.call (Ml w h) (fun u hu => ?_)) (fun hb=>Zd.ret ?_)
  · have hb:=of_decide_eq_true hb
    subst hu
    refine Zd.bifT rfl (Zd.ite (by show (0:Int)≤i∧(i:Int)<(List.length (w.2.1:List Int):Int); omega) (Zd.ret ?_))
    unfold goR
    rw [if_pos hb]
    show ((w.1,List.set (w.2.1:List Int) (Int.toNat (i:Int)) (if Uq w i d<0 then 0 else Uq w i d),w.2.2.1,w.2.2.2.1,()),(if Uq w i d<0 then 0 else Uq w i d),0,())=_
    rw [if_neg (by omega),Int.toNat_natCast]
    rfl
  · have hb:=of_decide_eq_false hb
    unfold goR
    rw [if_neg hb]
theorem AJ9 (w:den Za) (h:Sm w) {i d:Nat} (hs:Ch w i d):Zd (fun n _ _ _=>Kf n w (i:Int) (d:Int)) (fun r=>r.1=goR w i d):=by
  refine Zd.succ (fun n _ _ _=>Kf.eq n w i d) (Zd.call (Q1:=fun r=>r=((((()),w,(d:Int),()),()),[])) (Zd.succ (fun n _ _ _=>V1.eq n w d) (Zd.ret rfl)) (fun v hv => ?_))
  subst hv
  refine Zd.call (Q1:=fun r=>r.1=goR w i d) (Zd.succ (fun n _ _ _=>Q0.eq n (i:Int) w (d:Int)) (Zd.call (Q1:=fun r=>r=((0,()),[])) (Zd.succ (fun n _ _ _=>J8.eq n) (Zd.ret rfl)) (fun u hu => ?_))) (fun u hu=>Zd.ret ?_)
  · subst hu
    exact Zd.bifN (fun _=>Bk w h hs) (fun hb=>absurd hb (by decide))
  · exact hu
def Gp (w:den Za) (i:Nat) (q:Int):Int:=if q<0 then 3 else if (List.length (w.2.1:List Int):Int)≤q then 3 else if q=(i:Int) then 12 else if List.getD (w.2.1:List Int) (Int.toNat q) (0:Int)=List.getD (w.2.1:List Int) i (0:Int) then 0 else 5
theorem Or {w:den Za} {i:Nat} {q:Int} (h:Gp w i q=0):0≤q∧q<(List.length (w.2.1:List Int):Int)∧q≠i∧List.getD (w.2.1:List Int) (Int.toNat q) (0:Int)=List.getD (w.2.1:List Int) i (0:Int):=by
  unfold Gp at h
  split at h
  · cases h
  · split at h
    · cases h
    · split at h
      · cases h
      · split at h
        · rename_i a b c d; exact ⟨by omega,by omega,c,d⟩
        · cases h
def ABp (w:den Za) (i:Nat) (q:Int) (d:Nat):den Za×Int×Int×Unit:=if Gp w i q=0 then goR w (Int.toNat q) d else (w,0,Gp w i q,())
theorem AHb (w:den Za) {i:Nat} (hi:i<List.length (w.2.1:List Int)) (q:Int):Zd (fun n _ _ _=>Jp n q w (i:Int)) (fun r=>r=((Gp w i q,()),[])):=by
  refine Zd.succ (fun n _ _ _=>Jp.eq n q w i) ?_
  unfold Gp
  refine Zd.bif (fun h1=>Zd.ret ?_) (fun h1=>Zd.bif (fun h2=>Zd.ret ?_) (fun h2=>Zd.bif (fun h3=>Zd.ret ?_) (fun h3 => ?_)))
  · rw [if_pos (of_decide_eq_true h1)]
  · rw [if_neg (of_decide_eq_false h1),if_pos (of_decide_eq_true h2)]
  · rw [if_neg (of_decide_eq_false h1),if_neg (of_decide_eq_false h2),if_pos (of_decide_eq_true h3)]
  · have h1:=of_decide_eq_false h1
    have h2:=of_decide_eq_false h2
    have h3:=of_decide_eq_false h3
    rw [if_neg h1,if_neg h2,if_neg h3]
    refine Zd.ite (by omega) (Zd.ite (by omega) (Zd.bifN (fun h4=>Zd.ret ?_) (fun h4=>Zd.ret ?_)))
    · have h4:=of_decide_eq_true h4
      rw [Int.toNat_natCast] at h4
      rw [if_pos h4]
    · have h4:=of_decide_eq_false h4
      rw [Int.toNat_natCast] at h4
      rw [if_neg h4]
theorem AKd (w:den Za) (h:Sm w) {i:Nat} (hi:i<List.length (w.2.1:List Int)) (q:Int) {d:Nat} (hs:Gp w i q=0→Ch w (Int.toNat q) d):Zd (fun n _ _ _=>Kg n w (i:Int) q (d:Int)) (fun r=>r.1=ABp w i q d):=by
  refine Zd.succ (fun n _ _ _=>Kg.eq n w i q d) (Zd.call (Q1:=fun r=>r=((((q,w,(i:Int),()),w,(d:Int),()),()),[])) (Zd.succ (fun n _ _ _=>Hn.eq n w d q w i) (Zd.ret rfl)) (fun v hv => ?_))
  subst hv
  refine Zd.call (Q1:=fun r=>r.1=ABp w i q d) (Zd.succ (fun n _ _ _=>Kh.eq n q q w (i:Int) w (d:Int)) (Zd.call (AHb w hi q) (fun u hu => ?_))) (fun u hu=>Zd.ret ?_)
  · subst hu
    unfold ABp
    refine Zd.bifN (fun hb => ?_) (fun hb=>Zd.ret ?_)
    · have hb:Gp w i q=0:=of_decide_eq_true hb
      rw [if_pos hb]
      have hz:=Or hb
      obtain ⟨k,rfl⟩:∃ k:Nat,q=(k:Int):=⟨q.toNat,by omega⟩
      rw [Int.toNat_natCast] at hs ⊢
      exact Bk w h (hs hb)
    · have hb:¬ Gp w i q=0:=of_decide_eq_false hb
      rw [if_neg hb]
  · exact hu
end Go.Proofs.YtjobjooccgledaaGreatDoor.Ghost
namespace Go.Proofs.YtjobjooccgledaaGreatDoor.Ghost
open Go
theorem AHc {w:den Za} (h:Ok w) {i:Nat} {q:Int} {d:Nat} (hd:d<4) (hz:Gp w i q=0):Ch w (Int.toNat q) d∧(Uq w (Int.toNat q) d = -1∨0≤Uq w (Int.toNat q) d):=by
  have hz:=Or hz
  have hlt:Int.toNat q<List.length (w.2.1:List Int):=by omega
  refine ⟨h.right.stands hlt hd,?_⟩
  rcases h.right.exit hlt hd with e | e
  · exact .inl e
  · exact .inr e.1
end Go.Proofs.YtjobjooccgledaaGreatDoor.Ghost
namespace Go.Proofs.YtjobjooccgledaaGreatDoor.Ghost
open Go
theorem BHf (x y:Pl):eqT Zb x y=false↔¬ x=y:=by rw [← Lv,Bool.not_eq_true]
theorem Zr (x y:Pl):eqT Zb x y=dec (x=y):=by
  by_cases h:x=y
  · rw [(Lv _ _).2 h,Q4.2 h]
  · rw [(BHf _ _).2 h,Kc.2 h]
theorem X5 (a b:Nat):Nat.beq a b=decide (a=b):=by
  by_cases h:a=b
  · rw [decide_eq_true h,h]; exact Nat.beq_refl b
  · rw [decide_eq_false h]; exact Bool.eq_false_iff.2 (fun e=>h (Nat.eq_of_beq_eq_true e))
theorem Xj:IntKind.wrap .i64 1=1:=by decide
theorem Xi:IntKind.wrap .i64 0=0:=by decide
end Go.Proofs.YtjobjooccgledaaGreatDoor.Ghost
