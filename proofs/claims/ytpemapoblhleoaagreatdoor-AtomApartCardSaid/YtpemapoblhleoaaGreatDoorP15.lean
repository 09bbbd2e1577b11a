/- What functions come to, and that the statements are answered with 'true'. Conditions: none. -/
import Derived.Test.YtpemapoblhleoaaGreatDoorS
import Derived.Test.YtpemapoblhleoaaGreatDoorGE
import Derived.Test.YtpemapoblhleoaaGreatDoorP1
import Derived.Test.YtpemapoblhleoaaGreatDoorP2
import Derived.Test.YtpemapoblhleoaaGreatDoorP3
import Derived.Test.YtpemapoblhleoaaGreatDoorP4
import Derived.Test.YtpemapoblhleoaaGreatDoorP5
import Derived.Test.YtpemapoblhleoaaGreatDoorP6
import Derived.Test.YtpemapoblhleoaaGreatDoorP7
import Derived.Test.YtpemapoblhleoaaGreatDoorP8
import Derived.Test.YtpemapoblhleoaaGreatDoorP9
import Derived.Test.YtpemapoblhleoaaGreatDoorP10
import Derived.Test.YtpemapoblhleoaaGreatDoorP11
import Derived.Test.YtpemapoblhleoaaGreatDoorP12
import Derived.Test.YtpemapoblhleoaaGreatDoorP13
import Derived.Test.YtpemapoblhleoaaGreatDoorP14
set_option linter.unusedVariables false
set_option linter.unusedSimpArgs false
set_option linter.unusedSectionVars false
set_option linter.unnecessarySimpa false
namespace Go.Proofs.YtpemapoblhleoaaGreatDoor.Ghost
open Go
theorem AQq {l:List Pl} {m:Nat} {q:Pl} (hm:m<l.length) {b j:Nat} (hn:¬ Wi l b m):Wi (l.set m q) b j↔Wi l b j:=by
  constructor
  · intro h
    generalize hl:l.set m q=l' at h
    induction h with
    | refl j=>exact .refl j
    | @step b c j h2 hb _ ih =>
      subst hl
      have hj:¬ b=m:=fun e=>hn (by subst e; exact .refl b)
      have e2:pAt (l.set m q) b=pAt l b:=Lc hm hj
      have h2:(pAt (l.set m q) b).1=(2:Int):=h2
      have hb:(pAt (l.set m q) b).2.1=(c:Int):=hb
      rw [e2] at h2 hb
      exact .step h2 hb (ih (fun h=>hn (.step h2 hb h)))
  · intro h
    induction h with
    | refl j=>exact .refl j
    | @step b c j h2 hb _ ih =>
      have hj:¬ b=m:=fun e=>hn (by subst e; exact .refl b)
      have e2:pAt (l.set m q) b=pAt l b:=Lc hm hj
      refine .step (b:=c) ?_ ?_ (ih (fun h=>hn (.step h2 hb h)))
      · show (pAt (l.set m q) b).1=(2:Int); rw [e2]; exact h2
      · show (pAt (l.set m q) b).2.1=(c:Int); rw [e2]; exact hb
def Dq (w:den Za) (i:Nat) (p:Pl):Prop:=p=AH4 (Ky w i)∨p=X2 i
def Rd (w:den Za) (i:Nat) (t:Pl):Prop:=Dq w i t∨∃ b:Nat,b<List.length (w.2.2.2.1:List (den Zb))∧t=Yx (b:Int)∧Vv w i b
theorem Tp {w:den Za} {i k:Nat} (ha:¬ Ky w i=Ky w k) {p:Pl} (h:Dq w i p):¬ Dq w k p:=by
  have hik:¬ i=k:=fun e=>ha (by rw [e])
  rintro (g | g) <;> rcases h with h | h
  · rw [h] at g
    exact ha (congrArg (fun p:Pl=>(p.2.1:Int)) g)
  · rw [h] at g
    exact absurd (congrArg (fun p:Pl=>(p.1:Int)) g) (by show ¬ (1:Int)=0; decide)
  · rw [h] at g
    exact absurd (congrArg (fun p:Pl=>(p.1:Int)) g) (by show ¬ (0:Int)=1; decide)
  · rw [h] at g
    exact hik (Int.ofNat.inj (congrArg (fun p:Pl=>(p.2.1:Int)) g))
theorem E4 {w:den Za} {i:Nat} {b:Int} (h:Dq w i (Yx b)):False:=by
  rcases h with h | h
  · exact absurd (congrArg (fun p:Pl=>(p.1:Int)) h) (by show ¬ (2:Int)=0; decide)
  · exact absurd (congrArg (fun p:Pl=>(p.1:Int)) h) (by show ¬ (2:Int)=1; decide)
theorem Wh {w:den Za} {i k:Nat} (ha:¬ Ky w i=Ky w k) {t:Pl} (h:Rd w i t) (g:Rd w k t):False:=by
  rcases h with h | ⟨b,_,rfl,h⟩
  · rcases g with g | ⟨b,_,rfl,g⟩
    · exact Tp ha h g
    · exact E4 h
  · rcases g with g | ⟨b',_,e,g⟩
    · exact E4 g
    · obtain rfl:=Int.ofNat.inj (congrArg (fun p:Pl=>(p.2.1:Int)) e)
      exact Tp ha (p:=Ys w b) h g
structure Mr (w:den Za) (k m:Nat) (q p':Pl) (d':Nat):Prop where
  hm:m<List.length (w.2.2.2.1:List (den Zb))
  near:Vv w k m
  mv:Uk w (put w m q) m p' d'
  np:Dq w k p'
  ok':Ok (put w m q)
  i0:Rd w k (Ym w m)
  i1:Rd w k q
section
variable {w:den Za} (ok:Ok w) {k m:Nat} {q p':Pl} {d':Nat} (D:Mr w k m q p' d') {i:Nat} (ha:¬ Ky w i=Ky w k)
include ok D ha
theorem Mr.not_wi {j:Nat} (hj:j<List.length (w.2.2.2.1:List (den Zb))) (h:Vv w i j):¬ WiW w j m:=fun hw=>by
  obtain ⟨_,_,e⟩:=D.mv.inn j hj hw
  exact Tp ha (p:=Ys w j) h (by rw [e]; exact D.near)
theorem Mr.ne {j:Nat} (hj:j<List.length (w.2.2.2.1:List (den Zb))) (h:Vv w i j):¬ j=m:=fun e=>D.not_wi ok ha hj h (by subst e; exact .refl j)
theorem Mr.root {j:Nat} (hj:j<List.length (w.2.2.2.1:List (den Zb))) (h:Vv w i j):Ys (put w m q) j=Ys w j∧Xw (put w m q) j=Xw w j :=
  (D.mv.eqs D.ok'.right (Hk w m q) hj).2 (D.not_wi ok ha hj h)
theorem Mr.near_iff {j:Nat} (hj:j<List.length (w.2.2.2.1:List (den Zb))):Vv (put w m q) i j↔Vv w i j:=by
  by_cases hw:WiW w j m
  · obtain ⟨e1,_,_,e2⟩:=(D.mv.eqs D.ok'.right (Hk w m q) hj).1 hw
    constructor
    · intro h
      have h:Dq w i (Ys (put w m q) j):=h
      rw [e1] at h
      exact absurd D.np (Tp ha h)
    · intro h
      have h:Dq w i (Ys w j):=h
      rw [e2] at h
      exact absurd D.near (Tp ha h)
  · have e:=((D.mv.eqs D.ok'.right (Hk w m q) hj).2 hw).1
    show Dq w i (Ys (put w m q) j)↔Dq w i (Ys w j)
    rw [e]
theorem Mr.place {j:Nat} {t:Pl} (ht:Rd w i t):Ym (put w m q) j=t↔Ym w j=t:=by
  show List.getD ((put w m q).2.2.2.1:List (den Zb)) j (dft Zb)=t↔_
  rw [ACc w m j q D.hm]
  by_cases e:j=m
  · rw [if_pos e]
    subst e
    constructor
    · intro h; exact absurd D.i1 (fun g=>Wh ha (by rw [h]; exact ht) g)
    · intro h; exact absurd D.i0 (fun g=>Wh ha (by rw [h]; exact ht) g)
  · rw [if_neg e]
theorem Mr.room {t:Pl} (ht:Rd w i t):Yr (put w m q) t=Yr w t:=by
  rw [AIy w D.hm,if_neg (fun e=>Wh ha ht (by have:=D.i0; rw [show Ym w m=t from e] at this; exact this)),if_neg (fun e=>Wh ha ht (by have:=D.i1; rw [e] at this; exact this))]
  omega
theorem Mr.wi {b j:Nat} (hb:b<List.length (w.2.2.2.1:List (den Zb))) (h:Vv w i b):WiW (put w m q) b j↔WiW w b j:=AQq (l:=(w.2.2.2.1:List Pl)) D.hm (D.not_wi ok ha hb h)
theorem Mr.hgt {j:Nat} (hj:j<List.length (w.2.2.2.1:List (den Zb))) (h:Vv w i j):Uz (put w m q) j=Uz w j:=by
  have hl:=Hk w m q
  have hr:=D.root ok ha hj h
  have key:∀ n,n≤List.length (w.2.2.2.1:List (den Zb))→hgtL (put w m q) j n=hgtL w j n:=by
    intro n
    induction n with
    | zero=>intro _; rfl
    | succ n ih =>
      intro hn
      have hn':n<List.length (w.2.2.2.1:List (den Zb)):=by omega
      simp only [hgtL]
      rw [ih (by omega),hr.2]
      by_cases hw:WiW w n j
      · have e:=(hw.facts ok.right hn').2.1
        have nn:Vv w i n:=by
          show Dq w i (Ys w n)
          rw [e]; exact h
        rw [if_pos hw,if_pos ((D.wi ok ha hn' nn).2 hw),(D.root ok ha hn' nn).2]
      · rw [if_neg hw,if_neg (fun g=>hw ?_)]
        have e:=(Wi.facts D.ok'.right g (by rw [hl]; exact hn')).2.1
        have nn:Vv (put w m q) i n:=by
          show Dq w i (Ys (put w m q) n)
          rw [e,hr.1]; exact h
        have nn:=(D.near_iff ok ha hn').1 nn
        exact (D.wi ok ha hn' nn).1 g
  show hgtL (put w m q) j _=hgtL w j _
  rw [hl]
  exact key _ (Nat.le_refl _)
theorem Mr.inR (x:Int):inR (put w m q) x↔Ghost.inR w x:=by unfold Ghost.inR; rw [Hk]
theorem Mr.pass {j:Int} {a b:Pl} (hA:Rd w i a) (hB:Rd w i b):Q7 (put w m q) j a b=Q7 w j a b:=by
  have e:=D.place ok ha (j:=Int.toNat j) hA
  have e:(List.getD ((put w m q).2.2.2.1:List (den Zb)) (Int.toNat j) (dft Zb)=a)=(List.getD (w.2.2.2.1:List (den Zb)) (Int.toNat j) (dft Zb)=a):=propext e
  have l:=Hk w m q
  unfold Q7
  rw [D.room ok ha hB,l]
  simp only [e]
open Classical in
theorem Mr.put {j b:Int}:putErr (put w m q) i j b=putErr w i j b:=by
  unfold putErr
  by_cases h:Ghost.inR w j∧Ghost.inR w b
  · rw [if_pos h,if_pos ⟨(D.inR ok ha j).2 h.1,(D.inR ok ha b).2 h.2⟩]
    obtain ⟨j,rfl,hj⟩:=Jw h.1
    obtain ⟨b,rfl,hb⟩:=Jw h.2
    simp only [Int.toNat_natCast]
    have e1:=D.place ok ha (j:=j) (t:=X2 i) (.inl (.inr rfl))
    have e2:=D.near_iff ok ha hb
    by_cases g:Ym w j=X2 i∧Vv w i b
    · rw [if_pos g,if_pos ⟨e1.2 g.1,e2.2 g.2⟩]
      have nj:Vv w i j:=M6 g.1
      have x2:=D.root ok ha hb g.2
      have x3:=D.hgt ok ha hj nj
      have x4:=D.room ok ha (t:=Yx (b:Int)) (.inr ⟨b,hb,rfl,g.2⟩)
      have x5:P8 (Ghost.put w m q) b=P8 w b:=rfl
      simp only [x2.2,x3,x4,x5]
      exact ite_congr rfl (fun _=>ite_congr (propext (D.wi ok ha hb g.2)) (fun _=>rfl) (fun _=>rfl)) (fun _=>rfl)
    · rw [if_neg g,if_neg (fun g'=>g ⟨e1.1 g'.1,e2.1 g'.2⟩)]
  · rw [if_neg h,if_neg (fun g=>h ⟨(D.inR ok ha j).1 g.1,(D.inR ok ha b).1 g.2⟩)]
theorem Mr.take {j b:Int}:takeErr (Ghost.put w m q) i j b=takeErr w i j b:=by
  unfold takeErr
  by_cases h:Ghost.inR w j∧Ghost.inR w b
  · rw [if_pos h,if_pos ⟨(D.inR ok ha j).2 h.1,(D.inR ok ha b).2 h.2⟩]
    obtain ⟨j,rfl,hj⟩:=Jw h.1
    obtain ⟨b,rfl,hb⟩:=Jw h.2
    simp only [Int.toNat_natCast]
    have e2:=D.near_iff ok ha hb
    by_cases g:Vv w i b
    · rw [if_pos g,if_pos (e2.2 g)]
      have e1:(Ym (Ghost.put w m q) j=Yx (b:Int))=(Ym w j=Yx (b:Int)):=propext (D.place ok ha (.inr ⟨b,hb,rfl,g⟩))
      have x4:=D.room ok ha (t:=X2 i) (.inl (.inr rfl))
      have x5:P8 (Ghost.put w m q) b=P8 w b:=rfl
      simp only [e1,x4,x5]
    · rw [if_neg g,if_neg (fun g'=>g (e2.1 g'))]
  · rw [if_neg h,if_neg (fun g=>h ⟨(D.inR ok ha j).1 g.1,(D.inR ok ha b).1 g.2⟩)]
end
noncomputable def eK (w:den Za) (i:Nat) (c:Cm):Int:=if Z9 c=3 then Q7 w (X0 c) (Kc w i) (M4 i) else if Z9 c=4 then Q7 w (X0 c) (M4 i) (Kc w i) else if Z9 c=5 then putErr w i (X0 c) (Hm c) else takeErr w i (X0 c) (Hm c)
def qK (w:den Za) (i:Nat) (c:Cm):Pl:=if Z9 c=3 then M4 i else if Z9 c=4 then Kc w i else if Z9 c=5 then Yx (Hm c) else X2 i
theorem BSl (w:den Za) (i:Nat) {c:Cm} (hk:3≤Z9 c∧Z9 c≤6):J5 w i c=if eK w i c=0 then (put w (X0 c).toNat (qK w i c),0,0,()) else (w,0,eK w i c,()):=by
  unfold J5 eK qK
  rw [if_neg (by omega),if_neg (by omega)]
  by_cases k3:Z9 c=3
  · rw [if_pos k3,if_pos k3,if_pos k3]
    unfold AFj Oa
    by_cases h:Q7 w (X0 c) (Kc w i) (M4 i)=0
    · rw [if_pos h,if_pos h]
    · rw [if_neg h,if_neg h]
  rw [if_neg k3,if_neg k3,if_neg k3]
  by_cases k4:Z9 c=4
  · rw [if_pos k4,if_pos k4,if_pos k4]
    unfold Cn Oa
    by_cases h:Q7 w (X0 c) (M4 i) (Kc w i)=0
    · rw [if_pos h,if_pos h]
    · rw [if_neg h,if_neg h]
  rw [if_neg k4,if_neg k4,if_neg k4]
  by_cases k5:Z9 c=5
  · rw [if_pos k5,if_pos k5,if_pos k5]
    unfold putR
    by_cases h:putErr w i (X0 c) (Hm c)=0
    · rw [if_pos h,if_pos h]
    · rw [if_neg h,if_neg h]
  rw [if_neg k5,if_neg k5,if_neg k5,if_pos (show Z9 c=6 by omega)]
  unfold takeR
  by_cases h:takeErr w i (X0 c) (Hm c)=0
  · rw [if_pos h,if_pos h]
  · rw [if_neg h,if_neg h]
theorem doK (w:den Za) (i:Nat) {c:Cm} (may:Pe c) (hk:3≤Z9 c∧Z9 c≤6):doR w i c=(if eK w i c=0 then put w (X0 c).toNat (qK w i c) else w,AJe (Z9 c) 0 (eK w i c),()):=by
  rw [G3 may (by omega) (by omega),BSl w i hk]
  by_cases h:eK w i c=0
  · rw [if_pos h,if_pos h,h]
  · rw [if_neg h,if_neg h]
theorem Ae {w:den Za} {i m:Nat} (h:Ym w m=AH4 (Ky w i)):Vv w i m:=.inl (AMc h (by show ¬ (0:Int)=2; decide))
theorem AKz {w:den Za} (ok:Ok w) {k:Nat} (hk:k<List.length (w.2.1:List Int)) {c:Cm} (hkk:3≤Z9 c∧Z9 c≤6) (e:eK w k c=0):∃ p' d',Mr w k (X0 c).toNat (qK w k c) p' d':=by
  have gm:=ok.right.good_me hk
  have gf:=ok.right.good_floor hk
  unfold eK at e
  unfold qK
  by_cases k3:Z9 c=3
  · rw [if_pos k3] at e ⊢
    obtain ⟨h1,h2,h3,h4⟩:=Pz e
    have hm:(X0 c).toNat<List.length (w.2.2.2.1:List (den Zb)):=by omega
    have h3:Ym w (X0 c).toNat=AH4 (Ky w k):=h3
    exact ⟨_,_,hm,Ae h3,Fr ok.right hm (Gm k),.inr rfl,ok.put hm (Gm k) (by show ¬ (Ym w (X0 c).toNat).1=(2:Int); rw [h3]; exact Gc w k) gm h4,by rw [h3]; exact .inl (.inl rfl),.inl (.inr rfl)⟩
  rw [if_neg k3] at e ⊢
  by_cases k4:Z9 c=4
  · rw [if_pos k4] at e ⊢
    obtain ⟨h1,h2,h3,h4⟩:=Pz e
    have hm:(X0 c).toNat<List.length (w.2.2.2.1:List (den Zb)):=by omega
    have h3:Ym w (X0 c).toNat=X2 k:=h3
    exact ⟨_,_,hm,M6 h3,Fr ok.right hm (Gc w k),.inl rfl,ok.put hm (Gc w k) (by show ¬ (Ym w (X0 c).toNat).1=(2:Int); rw [h3]; exact Gm k) gf h4,by rw [h3]; exact .inl (.inr rfl),.inl (.inl rfl)⟩
  rw [if_neg k4] at e ⊢
  by_cases k5:Z9 c=5
  · rw [if_pos k5] at e ⊢
    obtain ⟨h1,h2⟩:=F0 (w:=w) (i:=k) (k:=X0 c) (b:=Hm c) (by rw [e]; decide)
    obtain ⟨m,em,hm⟩:=Jw h1
    obtain ⟨b,eb,hb⟩:=Jw h2
    rw [em,eb] at e ⊢
    have P:=(Ez hm hb).1 e
    rw [Int.toNat_natCast]
    exact ⟨_,_,hm,M6 P.me,Fq ok.right hm hb P.wi,P.near,P.ok ok,by rw [P.me]; exact .inl (.inr rfl),.inr ⟨b,hb,rfl,P.near⟩⟩
  rw [if_neg k5] at e ⊢
  obtain ⟨h1,h2⟩:=Le (w:=w) (i:=k) (k:=X0 c) (b:=Hm c) (by rw [e]; decide)
  obtain ⟨m,em,hm⟩:=Jw h1
  obtain ⟨b,eb,hb⟩:=Jw h2
  rw [em,eb] at e
  rw [em]
  have P:=(Ix hm hb).1 e
  rw [Int.toNat_natCast]
  have nm:Vv w k m:=(AL5 ok.right hm (by rw [P.at_]) (by rw [P.at_])).2 P.near
  exact ⟨_,_,hm,nm,P.moved ok,.inr rfl,P.ok ok hk,by rw [P.at_]; exact .inr ⟨b,hb,rfl,P.near⟩,.inl (.inr rfl)⟩
theorem AFv {w:den Za} (ok:Ok w) {k m:Nat} {q p':Pl} {d':Nat} (D:Mr w k m q p' d') {i:Nat} (ha:¬ Ky w i=Ky w k) (c:Cm):eK (put w m q) i c=eK w i c:=by
  have f:Rd w i (Kc w i):=.inl (.inl rfl)
  have e:Rd w i (M4 i):=.inl (.inr rfl)
  unfold eK
  rw [show Kc (put w m q) i=Kc w i from rfl,D.pass ok ha f e,D.pass ok ha e f,D.put ok ha,D.take ok ha]
theorem AL9 (w:den Za) {m m':Nat} (h:¬ m=m') (q q':Pl):put (put w m q) m' q'=put (put w m' q') m q:=by
  show (w.1,w.2.1,w.2.2.1,List.set (List.set (w.2.2.2.1:List Pl) m q) m' q',())=(w.1,w.2.1,w.2.2.1,List.set (List.set (w.2.2.2.1:List Pl) m' q') m q,())
  rw [List.set_comm _ _ h]
theorem ARe {w:den Za} (ok:Ok w) {i k:Nat} (hi:i<List.length (w.2.1:List Int)) (hk:k<List.length (w.2.1:List Int)) (ha:¬ Ky w i=Ky w k) {c d:Cm} (hc:3≤Z9 c∧Z9 c≤6) (hd:3≤Z9 d∧Z9 d≤6) :
    (doR (doR w i c).1 k d).2.1=(doR w k d).2.1∧(doR (doR w k d).1 i c).2.1=(doR w i c).2.1∧(doR (doR w i c).1 k d).1=(doR (doR w k d).1 i c).1:=by
  have no:∀ {c:Cm},¬ Pe c→∀ x j,doR x j c=(x,Fj 2,()):=fun h x j=>by unfold doR; rw [if_neg h]
  by_cases mc:Pe c
  case neg=>rw [no mc w i,no mc _ i]; exact ⟨rfl,rfl,rfl⟩
  by_cases md:Pe d
  case neg=>rw [no md w k,no md _ k]; exact ⟨rfl,rfl,rfl⟩
  rw [doK w i mc hc,doK w k md hd,doK _ i mc hc,doK _ k md hd]
  have hb:¬ Ky w k=Ky w i:=fun e=>ha e.symm
  by_cases ec:eK w i c=0
  · obtain ⟨p1,d1,D1⟩:=AKz ok hi hc ec
    have x1:=AFv ok D1 hb d
    rw [if_pos ec]
    by_cases ed:eK w k d=0
    · obtain ⟨p2,d2,D2⟩:=AKz ok hk hd ed
      have x2:=AFv ok D2 ha c
      rw [if_pos ed,x1,x2,if_pos ed,if_pos ec]
      have hne:¬ (X0 c).toNat=(X0 d).toNat:=D2.ne ok ha D1.hm D1.near
      exact ⟨rfl,rfl,AL9 w hne (qK w i c) (qK w k d)⟩
    · rw [if_neg ed,x1,if_neg ed,if_pos ec]
      exact ⟨rfl,rfl,rfl⟩
  · rw [if_neg ec]
    by_cases ed:eK w k d=0
    · obtain ⟨p2,d2,D2⟩:=AKz ok hk hd ed
      have x2:=AFv ok D2 ha c
      rw [if_pos ed,x2,if_neg ec]
      exact ⟨rfl,rfl,rfl⟩
    · rw [if_neg ed,if_neg ec]
      exact ⟨rfl,rfl,rfl⟩
theorem Dv (w:den Za) (p:Int) (c:Cm) (p2:Int) (d:Cm) (hw:wfD Za w) (hp:wfD (.int .u8) p) (_:wfD Z1 c) (hp2:wfD (.int .u8) p2) (_:wfD Z1 d):Zd (fun nf _ _ _=>Xq nf (w) (p) (c) (p2) (d)) (fun r=>r.1.1=true):=by
  refine Zd.succ (fun nf _ _ _=>Xq.eq nf _ _ _ _ _) ?_
  simp [-List.getD_eq_getElem?_getD,-List.length_eq_zero_iff,Zv,Zt,Z4,Zw,Xt,Xs,Yq,Ze (AGl),(AGl).prop,Ze ((AK7 w).fit),((AK7 w).fit).bprop,Ze (N0 c),(N0 c).bprop,Ze (N0 d),(N0 d).bprop]
  intro fit few few2 c3 c6 d3 d6
  have ok:=BSi hw fit.few fit.right
  have hpos:=ok.right.pos
  obtain ⟨i,hi,ei⟩:=AD2 hp hpos
  obtain ⟨k,hk,ek⟩:=AD2 hp2 hpos
  rw [ei,ek]
  rw [Int.toNat_natCast,Int.toNat_natCast]
  refine ⟨by omega,by omega,by omega,fun ha => ?_⟩
  have A:=ABr ok hi c
  have X:=ABr ok hk d
  have hk':k<List.length ((doR w i c).1.2.1:List Int):=by rw [AJk ok A.1 A.2]; exact hk
  have hi':i<List.length ((doR w k d).1.2.1:List Int):=by rw [AJk ok X.1 X.2]; exact hi
  have B:=ABr A.1 hk' d
  have Y:=ABr X.1 hi' c
  obtain ⟨e1,e2,e3⟩:=ARe ok hi hk ha ⟨c3,c6⟩ ⟨d3,d6⟩
  have s1:=AK2 ok.sm i c
  have s2:=AK2 ok.sm k d
  simp [-List.getD_eq_getElem?_getD,-List.length_eq_zero_iff,Zv,Zt,Z4,Zw,Xt,Xs,Yq,Ze (Ku ok hi few),(Ku ok hi few).prop,Ze (Ku ok hk few2),(Ku ok hk few2).prop,Ze (Ku A.1 hk' few2),(Ku A.1 hk' few2).prop,Ze (Ku X.1 hi' few),(Ku X.1 hi' few).prop,e1,e2,e3,Ze (P3 (doR w i c).2.1 (doR w i c).2.1 s1.1 s1.2),(P3 (doR w i c).2.1 (doR w i c).2.1 s1.1 s1.2).bprop,Ze (P3 (doR w k d).2.1 (doR w k d).2.1 s2.1 s2.2),(P3 (doR w k d).2.1 (doR w k d).2.1 s2.1 s2.2).bprop,Ze (AAz (doR (doR w k d).1 i c).1 (doR (doR w k d).1 i c).1 Y.1.sm Y.1.sm),(AAz (doR (doR w k d).1 i c).1 (doR (doR w k d).1 i c).1 Y.1.sm Y.1.sm).bprop]
end Go.Proofs.YtpemapoblhleoaaGreatDoor.Ghost
