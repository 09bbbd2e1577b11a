/- What functions come to, and that the statements are answered with 'true'. Conditions: none. -/
import Derived.Test.YtmemggdjnfccfaaGreatDoorS
import Derived.Test.YtmemggdjnfccfaaGreatDoorGE
import Derived.Test.YtmemggdjnfccfaaGreatDoorP1
import Derived.Test.YtmemggdjnfccfaaGreatDoorP2
import Derived.Test.YtmemggdjnfccfaaGreatDoorP3
import Derived.Test.YtmemggdjnfccfaaGreatDoorP4
import Derived.Test.YtmemggdjnfccfaaGreatDoorP5
import Derived.Test.YtmemggdjnfccfaaGreatDoorP6
import Derived.Test.YtmemggdjnfccfaaGreatDoorP7
import Derived.Test.YtmemggdjnfccfaaGreatDoorP8
import Derived.Test.YtmemggdjnfccfaaGreatDoorP9
import Derived.Test.YtmemggdjnfccfaaGreatDoorP10
import Derived.Test.YtmemggdjnfccfaaGreatDoorP11
import Derived.Test.YtmemggdjnfccfaaGreatDoorP12
import Derived.Test.YtmemggdjnfccfaaGreatDoorP13
import Derived.Test.YtmemggdjnfccfaaGreatDoorP14
import Derived.Test.YtmemggdjnfccfaaGreatDoorP15
import Derived.Test.YtmemggdjnfccfaaGreatDoorP16
import Derived.Test.YtmemggdjnfccfaaGreatDoorP17
import Derived.Test.YtmemggdjnfccfaaGreatDoorP18
set_option linter.unusedVariables false
set_option linter.unusedSimpArgs false
set_option linter.unusedSectionVars false
set_option linter.unnecessarySimpa false
namespace Go.Proofs.YtmemggdjnfccfaaGreatDoor.Ghost
open Go
theorem ATo {l:List Pl} {m:Nat} {q:Pl} (hm:m<l.length) {b j:Nat} (hn:¬ Wi l b m):Wi (l.set m q) b j↔Wi l b j:=by
  constructor
  · intro h
    generalize hl:l.set m q=l' at h
    induction h with
    | refl j=>exact .refl j
    | @step b c j h2 hb _ ih =>
      subst hl
      have hj:¬ b=m:=fun e=>hn (by subst e; exact .refl b)
      have e2:pAt (l.set m q) b=pAt l b:=Ip hm hj
      have h2:(pAt (l.set m q) b).1=(2:Int):=h2
      have hb:(pAt (l.set m q) b).2.1=(c:Int):=hb
      rw [e2] at h2 hb
      exact .step h2 hb (ih (fun h=>hn (.step h2 hb h)))
  · intro h
    induction h with
    | refl j=>exact .refl j
    | @step b c j h2 hb _ ih =>
      have hj:¬ b=m:=fun e=>hn (by subst e; exact .refl b)
      have e2:pAt (l.set m q) b=pAt l b:=Ip hm hj
      refine .step (b:=c) ?_ ?_ (ih (fun h=>hn (.step h2 hb h)))
      · show (pAt (l.set m q) b).1=(2:Int); rw [e2]; exact h2
      · show (pAt (l.set m q) b).2.1=(c:Int); rw [e2]; exact hb
def Cv (w:den Zb) (i:Nat) (p:Pl):Prop:=p=E4 (Yc w i)∨p=X2 i
def Ny (w:den Zb) (i:Nat) (t:Pl):Prop:=Cv w i t∨∃ b:Nat,b<List.length (w.2.2.2.1:List (den Za))∧t=Yu (b:Int)∧Vk w i b
theorem Ru {w:den Zb} {i k:Nat} (ha:¬ Yc w i=Yc w k) {p:Pl} (h:Cv w i p):¬ Cv w k p:=by
  have hik:¬ i=k:=fun e=>ha (by rw [e])
  rintro (g | g) <;> rcases h with h | h
  · rw [h] at g
    exact ha (congrArg (fun p:Pl=>(p.2.1:Int)) g)
  · rw [h] at g
    exact absurd (congrArg (fun p:Pl=>(p.1:Int)) g) (by show ¬ (1:Int)=0; decide)
  · rw [h] at g
    exact absurd (congrArg (fun p:Pl=>(p.1:Int)) g) (by show ¬ (0:Int)=1; decide)
  · rw [h] at g
    exact hik (Int.ofNat.inj (congrArg (fun p:Pl=>(p.2.1:Int)) g))
theorem Co {w:den Zb} {i:Nat} {b:Int} (h:Cv w i (Yu b)):False:=by
  rcases h with h | h
  · exact absurd (congrArg (fun p:Pl=>(p.1:Int)) h) (by show ¬ (2:Int)=0; decide)
  · exact absurd (congrArg (fun p:Pl=>(p.1:Int)) h) (by show ¬ (2:Int)=1; decide)
theorem Tp {w:den Zb} {i k:Nat} (ha:¬ Yc w i=Yc w k) {t:Pl} (h:Ny w i t) (g:Ny w k t):False:=by
  rcases h with h | ⟨b,_,rfl,h⟩
  · rcases g with g | ⟨b,_,rfl,g⟩
    · exact Ru ha h g
    · exact Co h
  · rcases g with g | ⟨b',_,e,g⟩
    · exact Co g
    · obtain rfl:=Int.ofNat.inj (congrArg (fun p:Pl=>(p.2.1:Int)) e)
      exact Ru ha (p:=Xd w b) h g
structure Ef (w:den Zb) (k m:Nat) (q p':Pl) (d':Nat):Prop where
  hm:m<List.length (w.2.2.2.1:List (den Za))
  near:Vk w k m
  mv:Wf w (put w m q) m p' d'
  np:Cv w k p'
  ok':Ok (put w m q)
  i0:Ny w k (Xs w m)
  i1:Ny w k q
section
variable {w:den Zb} (ok:Ok w) {k m:Nat} {q p':Pl} {d':Nat} (D:Ef w k m q p' d') {i:Nat} (ha:¬ Yc w i=Yc w k)
include ok D ha
theorem Ef.not_wi {j:Nat} (hj:j<List.length (w.2.2.2.1:List (den Za))) (h:Vk w i j):¬ WiW w j m:=fun hw=>by
  obtain ⟨_,_,e⟩:=D.mv.inn j hj hw
  exact Ru ha (p:=Xd w j) h (by rw [e]; exact D.near)
theorem Ef.root {j:Nat} (hj:j<List.length (w.2.2.2.1:List (den Za))) (h:Vk w i j):Xd (put w m q) j=Xd w j∧X6 (put w m q) j=X6 w j :=
  (D.mv.eqs D.ok'.right (Hb w m q) hj).2 (D.not_wi ok ha hj h)
theorem Ef.near_iff {j:Nat} (hj:j<List.length (w.2.2.2.1:List (den Za))):Vk (put w m q) i j↔Vk w i j:=by
  by_cases hw:WiW w j m
  · obtain ⟨e1,_,_,e2⟩:=(D.mv.eqs D.ok'.right (Hb w m q) hj).1 hw
    constructor
    · intro h
      have h:Cv w i (Xd (put w m q) j):=h
      rw [e1] at h
      exact absurd D.np (Ru ha h)
    · intro h
      have h:Cv w i (Xd w j):=h
      rw [e2] at h
      exact absurd D.near (Ru ha h)
  · have e:=((D.mv.eqs D.ok'.right (Hb w m q) hj).2 hw).1
    show Cv w i (Xd (put w m q) j)↔Cv w i (Xd w j)
    rw [e]
theorem Ef.place {j:Nat} {t:Pl} (ht:Ny w i t):Xs (put w m q) j=t↔Xs w j=t:=by
  show List.getD ((put w m q).2.2.2.1:List (den Za)) j (dft Za)=t↔_
  rw [Mu w m j q D.hm]
  by_cases e:j=m
  · rw [if_pos e]
    subst e
    constructor
    · intro h; exact absurd D.i1 (fun g=>Tp ha (by rw [h]; exact ht) g)
    · intro h; exact absurd D.i0 (fun g=>Tp ha (by rw [h]; exact ht) g)
  · rw [if_neg e]
theorem Ef.room {t:Pl} (ht:Ny w i t):Y0 (put w m q) t=Y0 w t:=by
  rw [ACt w D.hm,if_neg (fun e=>Tp ha ht (by have:=D.i0; rw [show Xs w m=t from e] at this; exact this)),if_neg (fun e=>Tp ha ht (by have:=D.i1; rw [e] at this; exact this))]
  omega
theorem Ef.wi {b j:Nat} (hb:b<List.length (w.2.2.2.1:List (den Za))) (h:Vk w i b):WiW (put w m q) b j↔WiW w b j:=ATo (l:=(w.2.2.2.1:List Pl)) D.hm (D.not_wi ok ha hb h)
theorem Ef.hgt {j:Nat} (hj:j<List.length (w.2.2.2.1:List (den Za))) (h:Vk w i j):Uy (put w m q) j=Uy w j:=by
  have hl:=Hb w m q
  have hr:=D.root ok ha hj h
  have key:∀ n,n≤List.length (w.2.2.2.1:List (den Za))→hgtL (put w m q) j n=hgtL w j n:=by
    intro n
    induction n with
    | zero=>intro _; rfl
    | succ n ih =>
      intro hn
      have hn':n<List.length (w.2.2.2.1:List (den Za)):=by omega
      simp only [hgtL]
      rw [ih (by omega),hr.2]
      by_cases hw:WiW w n j
      · have e:=(hw.facts ok.right hn').2.1
        have nn:Vk w i n:=by
          show Cv w i (Xd w n)
          rw [e]; exact h
        rw [if_pos hw,if_pos ((D.wi ok ha hn' nn).2 hw),(D.root ok ha hn' nn).2]
      · rw [if_neg hw,if_neg (fun g=>hw ?_)]
        have e:=(Wi.facts D.ok'.right g (by rw [hl]; exact hn')).2.1
        have nn:Vk (put w m q) i n:=by
          show Cv w i (Xd (put w m q) n)
          rw [e,hr.1]; exact h
        have nn:=(D.near_iff ok ha hn').1 nn
        exact (D.wi ok ha hn' nn).1 g
  show hgtL (put w m q) j _=hgtL w j _
  rw [hl]
  exact key _ (Nat.le_refl _)
theorem Ef.inR (x:Int):inR (put w m q) x↔Ghost.inR w x:=by unfold Ghost.inR; rw [Hb]
theorem Ef.pass {j:Int} {a b:Pl} (hA:Ny w i a) (hB:Ny w i b):Qt (put w m q) j a b=Qt w j a b:=by
  have e:=D.place ok ha (j:=Int.toNat j) hA
  have e:(List.getD ((put w m q).2.2.2.1:List (den Za)) (Int.toNat j) (dft Za)=a)=(List.getD (w.2.2.2.1:List (den Za)) (Int.toNat j) (dft Za)=a):=propext e
  have l:=Hb w m q
  unfold Qt
  rw [D.room ok ha hB,l]
  simp only [e]
open Classical in
theorem Ef.put {j b:Int}:putErr (put w m q) i j b=putErr w i j b:=by
  unfold putErr
  by_cases h:Ghost.inR w j∧Ghost.inR w b
  · rw [if_pos h,if_pos ⟨(D.inR ok ha j).2 h.1,(D.inR ok ha b).2 h.2⟩]
    obtain ⟨j,rfl,hj⟩:=Qk h.1
    obtain ⟨b,rfl,hb⟩:=Qk h.2
    simp only [Int.toNat_natCast]
    have e1:=D.place ok ha (j:=j) (t:=X2 i) (.inl (.inr rfl))
    have e2:=D.near_iff ok ha hb
    by_cases g:Xs w j=X2 i∧Vk w i b
    · rw [if_pos g,if_pos ⟨e1.2 g.1,e2.2 g.2⟩]
      have nj:Vk w i j:=O7 g.1
      have x2:=D.root ok ha hb g.2
      have x3:=D.hgt ok ha hj nj
      have x4:=D.room ok ha (t:=Yu (b:Int)) (.inr ⟨b,hb,rfl,g.2⟩)
      have x5:Tk (Ghost.put w m q) b=Tk w b:=rfl
      simp only [x2.2,x3,x4,x5]
      exact ite_congr rfl (fun _=>ite_congr (propext (D.wi ok ha hb g.2)) (fun _=>rfl) (fun _=>rfl)) (fun _=>rfl)
    · rw [if_neg g,if_neg (fun g'=>g ⟨e1.1 g'.1,e2.1 g'.2⟩)]
  · rw [if_neg h,if_neg (fun g=>h ⟨(D.inR ok ha j).1 g.1,(D.inR ok ha b).1 g.2⟩)]
theorem Ef.take {j b:Int}:takeErr (Ghost.put w m q) i j b=takeErr w i j b:=by
  unfold takeErr
  by_cases h:Ghost.inR w j∧Ghost.inR w b
  · rw [if_pos h,if_pos ⟨(D.inR ok ha j).2 h.1,(D.inR ok ha b).2 h.2⟩]
    obtain ⟨j,rfl,hj⟩:=Qk h.1
    obtain ⟨b,rfl,hb⟩:=Qk h.2
    simp only [Int.toNat_natCast]
    have e2:=D.near_iff ok ha hb
    by_cases g:Vk w i b
    · rw [if_pos g,if_pos (e2.2 g)]
      have e1:(Xs (Ghost.put w m q) j=Yu (b:Int))=(Xs w j=Yu (b:Int)):=propext (D.place ok ha (.inr ⟨b,hb,rfl,g⟩))
      have x4:=D.room ok ha (t:=X2 i) (.inl (.inr rfl))
      have x5:Tk (Ghost.put w m q) b=Tk w b:=rfl
      simp only [e1,x4,x5]
    · rw [if_neg g,if_neg (fun g'=>g (e2.1 g'))]
  · rw [if_neg h,if_neg (fun g=>h ⟨(D.inR ok ha j).1 g.1,(D.inR ok ha b).1 g.2⟩)]
end
noncomputable def eK (w:den Zb) (i:Nat) (c:Cm):Int:=if Z2 c=3 then Qt w (X4 c) (V7 w i) (Ij i) else if Z2 c=4 then Qt w (X4 c) (Ij i) (V7 w i) else if Z2 c=5 then putErr w i (X4 c) (H6 c) else takeErr w i (X4 c) (H6 c)
def qK (w:den Zb) (i:Nat) (c:Cm):Pl:=if Z2 c=3 then Ij i else if Z2 c=4 then V7 w i else if Z2 c=5 then Yu (H6 c) else X2 i
theorem AJx (w:den Zb) (i:Nat) {c:Cm} (hk:3≤Z2 c∧Z2 c≤6):X9 w i c=if eK w i c=0 then (put w (X4 c).toNat (qK w i c),0,0,()) else (w,0,eK w i c,()):=by
  unfold X9 eK qK
  rw [if_neg (by omega),if_neg (by omega)]
  by_cases k3:Z2 c=3
  · rw [if_pos k3,if_pos k3,if_pos k3]
    unfold AHs Nn
    by_cases h:Qt w (X4 c) (V7 w i) (Ij i)=0
    · rw [if_pos h,if_pos h]
    · rw [if_neg h,if_neg h]
  rw [if_neg k3,if_neg k3,if_neg k3]
  by_cases k4:Z2 c=4
  · rw [if_pos k4,if_pos k4,if_pos k4]
    unfold B7 Nn
    by_cases h:Qt w (X4 c) (Ij i) (V7 w i)=0
    · rw [if_pos h,if_pos h]
    · rw [if_neg h,if_neg h]
  rw [if_neg k4,if_neg k4,if_neg k4]
  by_cases k5:Z2 c=5
  · rw [if_pos k5,if_pos k5,if_pos k5]
    unfold putR
    by_cases h:putErr w i (X4 c) (H6 c)=0
    · rw [if_pos h,if_pos h]
    · rw [if_neg h,if_neg h]
  rw [if_neg k5,if_neg k5,if_neg k5,if_pos (show Z2 c=6 by omega)]
  unfold takeR
  by_cases h:takeErr w i (X4 c) (H6 c)=0
  · rw [if_pos h,if_pos h]
  · rw [if_neg h,if_neg h]
theorem ABe {w:den Zb} {i m:Nat} (h:Xs w m=E4 (Yc w i)):Vk w i m:=.inl (Gk h (by show ¬ (0:Int)=2; decide))
theorem AUg {w:den Zb} (ok:Ok w) {k:Nat} (hk:k<List.length (w.2.1:List Int)) {c:Cm} (hkk:3≤Z2 c∧Z2 c≤6) (e:eK w k c=0):∃ p' d',Ef w k (X4 c).toNat (qK w k c) p' d':=by
  have gm:=ok.right.good_me hk
  have gf:=ok.right.good_floor hk
  unfold eK at e
  unfold qK
  by_cases k3:Z2 c=3
  · rw [if_pos k3] at e ⊢
    obtain ⟨h1,h2,h3,h4⟩:=Na e
    have hm:(X4 c).toNat<List.length (w.2.2.2.1:List (den Za)):=by omega
    have h3:Xs w (X4 c).toNat=E4 (Yc w k):=h3
    exact ⟨_,_,hm,ABe h3,Dc ok.right hm (Yx k),.inr rfl,ok.put hm (Yx k) (by show ¬ (Xs w (X4 c).toNat).1=(2:Int); rw [h3]; exact G8 w k) gm h4,by rw [h3]; exact .inl (.inl rfl),.inl (.inr rfl)⟩
  rw [if_neg k3] at e ⊢
  by_cases k4:Z2 c=4
  · rw [if_pos k4] at e ⊢
    obtain ⟨h1,h2,h3,h4⟩:=Na e
    have hm:(X4 c).toNat<List.length (w.2.2.2.1:List (den Za)):=by omega
    have h3:Xs w (X4 c).toNat=X2 k:=h3
    exact ⟨_,_,hm,O7 h3,Dc ok.right hm (G8 w k),.inl rfl,ok.put hm (G8 w k) (by show ¬ (Xs w (X4 c).toNat).1=(2:Int); rw [h3]; exact Yx k) gf h4,by rw [h3]; exact .inl (.inr rfl),.inl (.inl rfl)⟩
  rw [if_neg k4] at e ⊢
  by_cases k5:Z2 c=5
  · rw [if_pos k5] at e ⊢
    obtain ⟨h1,h2⟩:=Dl (w:=w) (i:=k) (k:=X4 c) (b:=H6 c) (by rw [e]; decide)
    obtain ⟨m,em,hm⟩:=Qk h1
    obtain ⟨b,eb,hb⟩:=Qk h2
    rw [em,eb] at e ⊢
    have P:=(Ck hm hb).1 e
    rw [Int.toNat_natCast]
    exact ⟨_,_,hm,O7 P.me,Db ok.right hm hb P.wi,P.near,P.ok ok,by rw [P.me]; exact .inl (.inr rfl),.inr ⟨b,hb,rfl,P.near⟩⟩
  rw [if_neg k5] at e ⊢
  obtain ⟨h1,h2⟩:=Ir (w:=w) (i:=k) (k:=X4 c) (b:=H6 c) (by rw [e]; decide)
  obtain ⟨m,em,hm⟩:=Qk h1
  obtain ⟨b,eb,hb⟩:=Qk h2
  rw [em,eb] at e
  rw [em]
  have P:=(Ea hm hb).1 e
  rw [Int.toNat_natCast]
  have nm:Vk w k m:=(AOs ok.right hm (by rw [P.at_]) (by rw [P.at_])).2 P.near
  exact ⟨_,_,hm,nm,P.moved ok,.inr rfl,P.ok ok hk,by rw [P.at_]; exact .inr ⟨b,hb,rfl,P.near⟩,.inl (.inr rfl)⟩
end Go.Proofs.YtmemggdjnfccfaaGreatDoor.Ghost
