/- What functions come to, and that the statements are answered with 'true'. Conditions: none. -/
import Derived.Test.YtmemggdjnfccfaaGreatDoorS
import Derived.Test.YtmemggdjnfccfaaGreatDoorGE
import Derived.Test.YtmemggdjnfccfaaGreatDoorP1
import Derived.Test.YtmemggdjnfccfaaGreatDoorP2
import Derived.Test.YtmemggdjnfccfaaGreatDoorP3
import Derived.Test.YtmemggdjnfccfaaGreatDoorP4
import Derived.Test.YtmemggdjnfccfaaGreatDoorP5
import Derived.Test.YtmemggdjnfccfaaGreatDoorP6
import Derived.Test.YtmemggdjnfccfaaGreatDoorP7
import Derived.Test.YtmemggdjnfccfaaGreatDoorP8
import Derived.Test.YtmemggdjnfccfaaGreatDoorP9
import Derived.Test.YtmemggdjnfccfaaGreatDoorP10
import Derived.Test.YtmemggdjnfccfaaGreatDoorP11
import Derived.Test.YtmemggdjnfccfaaGreatDoorP12
import Derived.Test.YtmemggdjnfccfaaGreatDoorP13
import Derived.Test.YtmemggdjnfccfaaGreatDoorP14
import Derived.Test.YtmemggdjnfccfaaGreatDoorP15
import Derived.Test.YtmemggdjnfccfaaGreatDoorP16
import Derived.Test.YtmemggdjnfccfaaGreatDoorP17
import Derived.Test.YtmemggdjnfccfaaGreatDoorP18
set_option linter.unusedVariables false
set_option linter.unusedSimpArgs false
set_option linter.unusedSectionVars false
set_option linter.unnecessarySimpa false
namespace Go.Proofs.YtmemggdjnfccfaaGreatDoor.Ghost
open Go
theorem AS3 {l:List Pl} {m:Nat} {q:Pl} (hm:m<l.length) {b j:Nat} (hn:¬ Wi l b m):Wi (l.set m q) b j↔Wi l b j:=by
  constructor
  · intro h
    generalize hl:l.set m q=l' at h
    induction h with
    | refl j=>exact .refl j
    | @step b c j h2 hb _ ih =>
      subst hl
      have hj:¬ b=m:=fun e=>hn (by subst e; exact .refl b)
      have e2:pAt (l.set m q) b=pAt l b:=L6 hm hj
      have h2:(pAt (l.set m q) b).1=(2:Int):=h2
      have hb:(pAt (l.set m q) b).2.1=(c:Int):=hb
      rw [e2] at h2 hb
      exact .step h2 hb (ih (fun h=>hn (.step h2 hb h)))
  · intro h
    induction h with
    | refl j=>exact .refl j
    | @step b c j h2 hb _ ih =>
      have hj:¬ b=m:=fun e=>hn (by subst e; exact .refl b)
      have e2:pAt (l.set m q) b=pAt l b:=L6 hm hj
      refine .step (b:=c) ?_ ?_ (ih (fun h=>hn (.step h2 hb h)))
      · show (pAt (l.set m q) b).1=(2:Int); rw [e2]; exact h2
      · show (pAt (l.set m q) b).2.1=(c:Int); rw [e2]; exact hb
def Cb (w:den Zb) (i:Nat) (p:Pl):Prop:=p=AM5 (Qi w i)∨p=X8 i
def F0 (w:den Zb) (i:Nat) (t:Pl):Prop:=Cb w i t∨∃ b:Nat,b<List.length (w.2.2.2.1:List (den Za))∧t=Yu (b:Int)∧Kg w i b
theorem Ri {w:den Zb} {i k:Nat} (ha:¬ Qi w i=Qi w k) {p:Pl} (h:Cb w i p):¬ Cb w k p:=by
  have hik:¬ i=k:=fun e=>ha (by rw [e])
  rintro (g | g) <;> rcases h with h | h
  · rw [h] at g
    exact ha (congrArg (fun p:Pl=>(p.2.1:Int)) g)
  · rw [h] at g
    exact absurd (congrArg (fun p:Pl=>(p.1:Int)) g) (by show ¬ (1:Int)=0; decide)
  · rw [h] at g
    exact absurd (congrArg (fun p:Pl=>(p.1:Int)) g) (by show ¬ (0:Int)=1; decide)
  · rw [h] at g
    exact hik (Int.ofNat.inj (congrArg (fun p:Pl=>(p.2.1:Int)) g))
theorem D4 {w:den Zb} {i:Nat} {b:Int} (h:Cb w i (Yu b)):False:=by
  rcases h with h | h
  · exact absurd (congrArg (fun p:Pl=>(p.1:Int)) h) (by show ¬ (2:Int)=0; decide)
  · exact absurd (congrArg (fun p:Pl=>(p.1:Int)) h) (by show ¬ (2:Int)=1; decide)
theorem Tg {w:den Zb} {i k:Nat} (ha:¬ Qi w i=Qi w k) {t:Pl} (h:F0 w i t) (g:F0 w k t):False:=by
  rcases h with h | ⟨b,_,rfl,h⟩
  · rcases g with g | ⟨b,_,rfl,g⟩
    · exact Ri ha h g
    · exact D4 h
  · rcases g with g | ⟨b',_,e,g⟩
    · exact D4 g
    · obtain rfl:=Int.ofNat.inj (congrArg (fun p:Pl=>(p.2.1:Int)) e)
      exact Ri ha (p:=Xz w b) h g
structure D9 (w:den Zb) (k m:Nat) (q p':Pl) (d':Nat):Prop where
  hm:m<List.length (w.2.2.2.1:List (den Za))
  near:Kg w k m
  mv:U7 w (put w m q) m p' d'
  np:Cb w k p'
  ok':Ok (put w m q)
  i0:F0 w k (Yb w m)
  i1:F0 w k q
section
variable {w:den Zb} (ok:Ok w) {k m:Nat} {q p':Pl} {d':Nat} (D:D9 w k m q p' d') {i:Nat} (ha:¬ Qi w i=Qi w k)
include ok D ha
theorem D9.not_wi {j:Nat} (hj:j<List.length (w.2.2.2.1:List (den Za))) (h:Kg w i j):¬ WiW w j m:=fun hw=>by
  obtain ⟨_,_,e⟩:=D.mv.inn j hj hw
  exact Ri ha (p:=Xz w j) h (by rw [e]; exact D.near)
theorem D9.root {j:Nat} (hj:j<List.length (w.2.2.2.1:List (den Za))) (h:Kg w i j):Xz (put w m q) j=Xz w j∧X4 (put w m q) j=X4 w j :=
  (D.mv.eqs D.ok'.right (Hk w m q) hj).2 (D.not_wi ok ha hj h)
theorem D9.near_iff {j:Nat} (hj:j<List.length (w.2.2.2.1:List (den Za))):Kg (put w m q) i j↔Kg w i j:=by
  by_cases hw:WiW w j m
  · obtain ⟨e1,_,_,e2⟩:=(D.mv.eqs D.ok'.right (Hk w m q) hj).1 hw
    constructor
    · intro h
      have h:Cb w i (Xz (put w m q) j):=h
      rw [e1] at h
      exact absurd D.np (Ri ha h)
    · intro h
      have h:Cb w i (Xz w j):=h
      rw [e2] at h
      exact absurd D.near (Ri ha h)
  · have e:=((D.mv.eqs D.ok'.right (Hk w m q) hj).2 hw).1
    show Cb w i (Xz (put w m q) j)↔Cb w i (Xz w j)
    rw [e]
theorem D9.place {j:Nat} {t:Pl} (ht:F0 w i t):Yb (put w m q) j=t↔Yb w j=t:=by
  show List.getD ((put w m q).2.2.2.1:List (den Za)) j (dft Za)=t↔_
  rw [L5 w m j q D.hm]
  by_cases e:j=m
  · rw [if_pos e]
    subst e
    constructor
    · intro h; exact absurd D.i1 (fun g=>Tg ha (by rw [h]; exact ht) g)
    · intro h; exact absurd D.i0 (fun g=>Tg ha (by rw [h]; exact ht) g)
  · rw [if_neg e]
theorem D9.room {t:Pl} (ht:F0 w i t):Y3 (put w m q) t=Y3 w t:=by
  rw [ACb w D.hm,if_neg (fun e=>Tg ha ht (by have:=D.i0; rw [show Yb w m=t from e] at this; exact this)),if_neg (fun e=>Tg ha ht (by have:=D.i1; rw [e] at this; exact this))]
  omega
theorem D9.wi {b j:Nat} (hb:b<List.length (w.2.2.2.1:List (den Za))) (h:Kg w i b):WiW (put w m q) b j↔WiW w b j:=AS3 (l:=(w.2.2.2.1:List Pl)) D.hm (D.not_wi ok ha hb h)
theorem D9.hgt {j:Nat} (hj:j<List.length (w.2.2.2.1:List (den Za))) (h:Kg w i j):Wo (put w m q) j=Wo w j:=by
  have hl:=Hk w m q
  have hr:=D.root ok ha hj h
  have key:∀ n,n≤List.length (w.2.2.2.1:List (den Za))→hgtL (put w m q) j n=hgtL w j n:=by
    intro n
    induction n with
    | zero=>intro _; rfl
    | succ n ih =>
      intro hn
      have hn':n<List.length (w.2.2.2.1:List (den Za)):=by omega
      simp only [hgtL]
      rw [ih (by omega),hr.2]
      by_cases hw:WiW w n j
      · have e:=(hw.facts ok.right hn').2.1
        have nn:Kg w i n:=by
          show Cb w i (Xz w n)
          rw [e]; exact h
        rw [if_pos hw,if_pos ((D.wi ok ha hn' nn).2 hw),(D.root ok ha hn' nn).2]
      · rw [if_neg hw,if_neg (fun g=>hw ?_)]
        have e:=(Wi.facts D.ok'.right g (by rw [hl]; exact hn')).2.1
        have nn:Kg (put w m q) i n:=by
          show Cb w i (Xz (put w m q) n)
          rw [e,hr.1]; exact h
        have nn:=(D.near_iff ok ha hn').1 nn
        exact (D.wi ok ha hn' nn).1 g
  show hgtL (put w m q) j _=hgtL w j _
  rw [hl]
  exact key _ (Nat.le_refl _)
theorem D9.inR (x:Int):inR (put w m q) x↔Ghost.inR w x:=by unfold Ghost.inR; rw [Hk]
open Classical in
theorem D9.put {j b:Int}:putErr (put w m q) i j b=putErr w i j b:=by
  unfold putErr
  by_cases h:Ghost.inR w j∧Ghost.inR w b
  · rw [if_pos h,if_pos ⟨(D.inR ok ha j).2 h.1,(D.inR ok ha b).2 h.2⟩]
    obtain ⟨j,rfl,hj⟩:=J3 h.1
    obtain ⟨b,rfl,hb⟩:=J3 h.2
    simp only [Int.toNat_natCast]
    have e1:=D.place ok ha (j:=j) (t:=X8 i) (.inl (.inr rfl))
    have e2:=D.near_iff ok ha hb
    by_cases g:Yb w j=X8 i∧Kg w i b
    · rw [if_pos g,if_pos ⟨e1.2 g.1,e2.2 g.2⟩]
      have nj:Kg w i j:=L0 g.1
      have x2:=D.root ok ha hb g.2
      have x3:=D.hgt ok ha hj nj
      have x4:=D.room ok ha (t:=Yu (b:Int)) (.inr ⟨b,hb,rfl,g.2⟩)
      have x5:O2 (Ghost.put w m q) b=O2 w b:=rfl
      simp only [x2.2,x3,x4,x5]
      exact ite_congr rfl (fun _=>ite_congr (propext (D.wi ok ha hb g.2)) (fun _=>rfl) (fun _=>rfl)) (fun _=>rfl)
    · rw [if_neg g,if_neg (fun g'=>g ⟨e1.1 g'.1,e2.1 g'.2⟩)]
  · rw [if_neg h,if_neg (fun g=>h ⟨(D.inR ok ha j).1 g.1,(D.inR ok ha b).1 g.2⟩)]
theorem D9.take {j b:Int}:takeErr (Ghost.put w m q) i j b=takeErr w i j b:=by
  unfold takeErr
  by_cases h:Ghost.inR w j∧Ghost.inR w b
  · rw [if_pos h,if_pos ⟨(D.inR ok ha j).2 h.1,(D.inR ok ha b).2 h.2⟩]
    obtain ⟨j,rfl,hj⟩:=J3 h.1
    obtain ⟨b,rfl,hb⟩:=J3 h.2
    simp only [Int.toNat_natCast]
    have e2:=D.near_iff ok ha hb
    by_cases g:Kg w i b
    · rw [if_pos g,if_pos (e2.2 g)]
      have e1:(Yb (Ghost.put w m q) j=Yu (b:Int))=(Yb w j=Yu (b:Int)):=propext (D.place ok ha (.inr ⟨b,hb,rfl,g⟩))
      have x4:=D.room ok ha (t:=X8 i) (.inl (.inr rfl))
      have x5:O2 (Ghost.put w m q) b=O2 w b:=rfl
      simp only [e1,x4,x5]
    · rw [if_neg g,if_neg (fun g'=>g (e2.1 g'))]
  · rw [if_neg h,if_neg (fun g=>h ⟨(D.inR ok ha j).1 g.1,(D.inR ok ha b).1 g.2⟩)]
end
noncomputable def eK (w:den Zb) (i:Nat) (c:Cm):Int:=if Z4 c=3 then Vr w (X5 c) (H0 w i) (Fl i) else if Z4 c=4 then Vr w (X5 c) (Fl i) (H0 w i) else if Z4 c=5 then putErr w i (X5 c) (Hx c) else takeErr w i (X5 c) (Hx c)
def qK (w:den Zb) (i:Nat) (c:Cm):Pl:=if Z4 c=3 then Fl i else if Z4 c=4 then H0 w i else if Z4 c=5 then Yu (Hx c) else X8 i
theorem BYh (w:den Zb) (i:Nat) {c:Cm} (hk:3≤Z4 c∧Z4 c≤6):Qj w i c=if eK w i c=0 then (put w (X5 c).toNat (qK w i c),0,0,()) else (w,0,eK w i c,()):=by
  unfold Qj eK qK
  rw [if_neg (by omega),if_neg (by omega)]
  by_cases k3:Z4 c=3
  · rw [if_pos k3,if_pos k3,if_pos k3]
    unfold AG6 O4
    by_cases h:Vr w (X5 c) (H0 w i) (Fl i)=0
    · rw [if_pos h,if_pos h]
    · rw [if_neg h,if_neg h]
  rw [if_neg k3,if_neg k3,if_neg k3]
  by_cases k4:Z4 c=4
  · rw [if_pos k4,if_pos k4,if_pos k4]
    unfold Bq O4
    by_cases h:Vr w (X5 c) (Fl i) (H0 w i)=0
    · rw [if_pos h,if_pos h]
    · rw [if_neg h,if_neg h]
  rw [if_neg k4,if_neg k4,if_neg k4]
  by_cases k5:Z4 c=5
  · rw [if_pos k5,if_pos k5,if_pos k5]
    unfold putR
    by_cases h:putErr w i (X5 c) (Hx c)=0
    · rw [if_pos h,if_pos h]
    · rw [if_neg h,if_neg h]
  rw [if_neg k5,if_neg k5,if_neg k5,if_pos (show Z4 c=6 by omega)]
  unfold takeR
  by_cases h:takeErr w i (X5 c) (Hx c)=0
  · rw [if_pos h,if_pos h]
  · rw [if_neg h,if_neg h]
theorem AAv {w:den Zb} {i m:Nat} (h:Yb w m=AM5 (Qi w i)):Kg w i m:=.inl (Re h (by show ¬ (0:Int)=2; decide))
theorem BX9 {w:den Zb} (ok:Ok w) {k:Nat} (hk:k<List.length (w.2.1:List Int)) {c:Cm} (hkk:3≤Z4 c∧Z4 c≤6) (e:eK w k c=0):∃ p' d',D9 w k (X5 c).toNat (qK w k c) p' d':=by
  have gm:=ok.right.good_me hk
  have gf:=ok.right.good_floor hk
  unfold eK at e
  unfold qK
  by_cases k3:Z4 c=3
  · rw [if_pos k3] at e ⊢
    obtain ⟨h1,h2,h3,h4⟩:=Or e
    have hm:(X5 c).toNat<List.length (w.2.2.2.1:List (den Za)):=by omega
    have h3:Yb w (X5 c).toNat=AM5 (Qi w k):=h3
    exact ⟨_,_,hm,AAv h3,Er ok.right hm (Vc k),.inr rfl,ok.put hm (Vc k) (by show ¬ (Yb w (X5 c).toNat).1=(2:Int); rw [h3]; exact Gy w k) gm h4,by rw [h3]; exact .inl (.inl rfl),.inl (.inr rfl)⟩
  rw [if_neg k3] at e ⊢
  by_cases k4:Z4 c=4
  · rw [if_pos k4] at e ⊢
    obtain ⟨h1,h2,h3,h4⟩:=Or e
    have hm:(X5 c).toNat<List.length (w.2.2.2.1:List (den Za)):=by omega
    have h3:Yb w (X5 c).toNat=X8 k:=h3
    exact ⟨_,_,hm,L0 h3,Er ok.right hm (Gy w k),.inl rfl,ok.put hm (Gy w k) (by show ¬ (Yb w (X5 c).toNat).1=(2:Int); rw [h3]; exact Vc k) gf h4,by rw [h3]; exact .inl (.inr rfl),.inl (.inl rfl)⟩
  rw [if_neg k4] at e ⊢
  by_cases k5:Z4 c=5
  · rw [if_pos k5] at e ⊢
    obtain ⟨h1,h2⟩:=E3 (w:=w) (i:=k) (k:=X5 c) (b:=Hx c) (by rw [e]; decide)
    obtain ⟨m,em,hm⟩:=J3 h1
    obtain ⟨b,eb,hb⟩:=J3 h2
    rw [em,eb] at e ⊢
    have P:=(D1 hm hb).1 e
    rw [Int.toNat_natCast]
    exact ⟨_,_,hm,L0 P.me,Ep ok.right hm hb P.wi,P.near,P.ok ok,by rw [P.me]; exact .inl (.inr rfl),.inr ⟨b,hb,rfl,P.near⟩⟩
  rw [if_neg k5] at e ⊢
  obtain ⟨h1,h2⟩:=L8 (w:=w) (i:=k) (k:=X5 c) (b:=Hx c) (by rw [e]; decide)
  obtain ⟨m,em,hm⟩:=J3 h1
  obtain ⟨b,eb,hb⟩:=J3 h2
  rw [em,eb] at e
  rw [em]
  have P:=(Fv hm hb).1 e
  rw [Int.toNat_natCast]
  have nm:Kg w k m:=(AN4 ok.right hm (by rw [P.at_]) (by rw [P.at_])).2 P.near
  exact ⟨_,_,hm,nm,P.moved ok,.inr rfl,P.ok ok hk,by rw [P.at_]; exact .inr ⟨b,hb,rfl,P.near⟩,.inl (.inr rfl)⟩
end Go.Proofs.YtmemggdjnfccfaaGreatDoor.Ghost
