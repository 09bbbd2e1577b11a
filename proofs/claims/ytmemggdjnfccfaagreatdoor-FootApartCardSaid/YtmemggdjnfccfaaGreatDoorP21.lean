/- What functions come to, and that the statements are answered with 'true'. Conditions: none. -/
import Derived.Test.YtmemggdjnfccfaaGreatDoorS
import Derived.Test.YtmemggdjnfccfaaGreatDoorGE
import Derived.Test.YtmemggdjnfccfaaGreatDoorP1
import Derived.Test.YtmemggdjnfccfaaGreatDoorP2
import Derived.Test.YtmemggdjnfccfaaGreatDoorP3
import Derived.Test.YtmemggdjnfccfaaGreatDoorP4
import Derived.Test.YtmemggdjnfccfaaGreatDoorP5
import Derived.Test.YtmemggdjnfccfaaGreatDoorP6
import Derived.Test.YtmemggdjnfccfaaGreatDoorP7
import Derived.Test.YtmemggdjnfccfaaGreatDoorP8
import Derived.Test.YtmemggdjnfccfaaGreatDoorP9
import Derived.Test.YtmemggdjnfccfaaGreatDoorP10
import Derived.Test.YtmemggdjnfccfaaGreatDoorP11
import Derived.Test.YtmemggdjnfccfaaGreatDoorP12
import Derived.Test.YtmemggdjnfccfaaGreatDoorP13
import Derived.Test.YtmemggdjnfccfaaGreatDoorP14
import Derived.Test.YtmemggdjnfccfaaGreatDoorP15
import Derived.Test.YtmemggdjnfccfaaGreatDoorP16
import Derived.Test.YtmemggdjnfccfaaGreatDoorP17
import Derived.Test.YtmemggdjnfccfaaGreatDoorP18
import Derived.Test.YtmemggdjnfccfaaGreatDoorP19
import Derived.Test.YtmemggdjnfccfaaGreatDoorP20
set_option linter.unusedVariables false
set_option linter.unusedSimpArgs false
set_option linter.unusedSectionVars false
set_option linter.unnecessarySimpa false
namespace Go.Proofs.YtmemggdjnfccfaaGreatDoor.Ghost
open Go
structure Far (S:Int→Int→Prop) (w n:den Zb):Prop where
  okw:Ok w
  okn:Ok n
  desc:n.1=w.1
  pl:∀ j:Nat,¬ S 1 (j:Int)→Yc n j=Yc w j∧Yw n j=Yw w j
  mv:∀ j:Nat,¬ Yc n j=Yc w j→S 0 (Yc w j)∧S 0 (Yc n j)
  it:∀ j,j<List.length (w.2.2.2.1:List (den Za))→¬ Xs w j=Xs n j→S (Xd w j).1 (Xd w j).2.1∧S (Xd n j).1 (Xd n j).2.1
section
variable {S:Int→Int→Prop} {w n:den Zb} (F:Far S w n)
include F
theorem Far.lenW:List.length (n.2.2.2.1:List (den Za))=List.length (w.2.2.2.1:List (den Za)):=by rw [F.okn.right.w1,F.okw.right.w1,F.desc]
theorem Far.lenA:List.length (n.2.1:List Int)=List.length (w.2.1:List Int):=AHg F.okw F.okn F.desc
theorem Far.symm:Far S n w :=
  ⟨F.okn,F.okw,F.desc.symm,fun j h=>⟨(F.pl j h).1.symm,(F.pl j h).2.symm⟩,fun j h=>(F.mv j (fun e=>h e.symm)).symm,fun j hj h=>(F.it j (by rw [← F.lenW]; exact hj) (fun e=>h e.symm)).symm⟩
theorem Far.hang {j:Nat} {p:Pl} {d:Nat} (h:Uu w.2.2.2.1 j p d):j<List.length (w.2.2.2.1:List (den Za))→¬ S p.1 p.2.1→Uu n.2.2.2.1 j p d:=by
  induction h with
  | @top j h =>
    intro hj hs
    have e:Xs w j=Xs n j:=Classical.byContradiction (fun hn=>hs (by
      have:=(F.it j hj hn).1
      rw [(F.okw.right.hang_eq hj (.top h)).1] at this
      exact this))
    have e':pAt (n.2.2.2.1:List Pl) j=pAt (w.2.2.2.1:List Pl) j:=e.symm
    rw [← e'] at h ⊢
    exact .top h
  | @box j b p d h2 hb h ih =>
    intro hj hs
    have e:Xs w j=Xs n j:=Classical.byContradiction (fun hn=>hs (by
      have:=(F.it j hj hn).1
      rw [(F.okw.right.hang_eq hj (.box h2 hb h)).1] at this
      exact this))
    have e':pAt (n.2.2.2.1:List Pl) j=pAt (w.2.2.2.1:List Pl) j:=e.symm
    have hin:=F.okw.right.inPl j hj h2
    have hb':b<List.length (w.2.2.2.1:List (den Za)):=by
      have hb0:(Xs w j).2.1=(b:Int):=hb
      have:=hin.2
      rw [show (List.getD (w.2.2.2.1:List (den Za)) j (dft Za)).2.1=(b:Int) from hb] at this
      exact Int.ofNat_lt.1 this
    exact .box (by rw [e']; exact h2) (by rw [e']; exact hb) (ih hb' hs)
theorem Far.root {j:Nat} (hj:j<List.length (w.2.2.2.1:List (den Za))) (h:¬ S (Xd w j).1 (Xd w j).2.1):Xs n j=Xs w j∧Xd n j=Xd w j∧X6 n j=X6 w j:=by
  have e:Xs w j=Xs n j:=Classical.byContradiction (fun hn=>h (F.it j hj hn).1)
  obtain ⟨e1,e2⟩:=F.okn.right.hang_eq (by rw [F.lenW]; exact hj) (F.hang (F.okw.right.hang hj) hj h)
  exact ⟨e.symm,e1,e2⟩
theorem Far.root_iff {j:Nat} (hj:j<List.length (w.2.2.2.1:List (den Za))) {p:Pl} (hp:¬ S p.1 p.2.1):Xd n j=p↔Xd w j=p:=by
  constructor
  · intro h
    have:=(F.symm.root (by rw [F.lenW]; exact hj) (by rw [h]; exact hp)).2.1
    rw [this,h]
  · intro h
    rw [(F.root hj (by rw [h]; exact hp)).2.1,h]
end
def Cu (S:Int→Int→Prop) (w:den Zb) (t:Pl):Prop:=(¬ t.1=(2:Int)∧¬ S t.1 t.2.1)∨∃ b:Nat,b<List.length (w.2.2.2.1:List (den Za))∧t=Yu (b:Int)∧¬ S (Xd w b).1 (Xd w b).2.1
theorem Cu.root {S:Int→Int→Prop} {w:den Zb} (ok:Ok w) {t:Pl} (h:Cu S w t) {j:Nat} (hj:j<List.length (w.2.2.2.1:List (den Za))) (e:Xs w j=t):¬ S (Xd w j).1 (Xd w j).2.1:=by
  rcases h with ⟨h1,h2⟩ | ⟨b,hb,rfl,h⟩
  · rw [Gk e h1]; exact h2
  · obtain ⟨b',e1,_,er⟩:=Mx ok.right hj (by rw [e])
    rw [e] at e1
    obtain rfl:b=b':=Int.ofNat.inj e1
    rw [er]; exact h
theorem AAb {l m:List Pl} {t:Pl}:{k:Nat}→(∀ j,j<k→(List.getD l j (dft Za)=t↔List.getD m j (dft Za)=t))→Yv l t k=Yv m t k
  | 0,_=>rfl
  | k+1,h=>by
    simp only [Yv]
    rw [AAb (fun j hj=>h j (by omega))]
    by_cases e:List.getD l k (dft Za)=t
    · rw [if_pos e,if_pos ((h k (by omega)).1 e)]
    · rw [if_neg e,if_neg (fun g=>e ((h k (by omega)).2 g))]
section
variable {S:Int→Int→Prop} {w n:den Zb} (F:Far S w n)
include F
theorem Far.free {t:Pl} (h:Cu S w t):Cu S n t:=by
  rcases h with h | ⟨b,hb,e,h⟩
  · exact .inl h
  · exact .inr ⟨b,by rw [F.lenW]; exact hb,e,by rw [(F.root hb h).2.1]; exact h⟩
theorem Far.place {t:Pl} (h:Cu S w t) {j:Nat} (hj:j<List.length (w.2.2.2.1:List (den Za))):Xs n j=t↔Xs w j=t:=by
  constructor
  · intro e
    have hj':j<List.length (n.2.2.2.1:List (den Za)):=by rw [F.lenW]; exact hj
    have:=(F.symm.root hj' ((F.free h).root F.okn hj' e)).1
    rw [this,e]
  · intro e
    rw [(F.root hj (h.root F.okw hj e)).1,e]
theorem Far.room {t:Pl} (h:Cu S w t):Y0 n t=Y0 w t:=by
  unfold Y0
  rw [F.desc,F.lenW,AAb (l:=(n.2.2.2.1:List Pl)) (m:=(w.2.2.2.1:List Pl)) (fun j hj=>F.place h hj)]
theorem Far.wi1 {j m:Nat} (h:WiW w j m):j<List.length (w.2.2.2.1:List (den Za))→¬ S (Xd w j).1 (Xd w j).2.1→WiW n j m:=by
  induction h with
  | refl j=>exact fun _ _=>.refl j
  | @step j b m h2 hb h ih =>
    intro hj hs
    obtain ⟨b',e1,hb',er⟩:=Mx F.okw.right hj h2
    obtain rfl:b=b':=Int.ofNat.inj (hb.symm.trans e1)
    have e:=(F.root hj hs).1
    refine .step (b:=b) ?_ ?_ (ih hb' (by rw [← er]; exact hs))
    · show (Xs n j).1=(2:Int); rw [e]; exact h2
    · show (Xs n j).2.1=(b:Int); rw [e]; exact hb
theorem Far.wi {j m:Nat} (hj:j<List.length (w.2.2.2.1:List (den Za))) (h:¬ S (Xd w j).1 (Xd w j).2.1):WiW n j m↔WiW w j m :=
  ⟨fun g=>F.symm.wi1 g (by rw [F.lenW]; exact hj) (by rw [(F.root hj h).2.1]; exact h),fun g=>F.wi1 g hj h⟩
theorem Far.hgt {j:Nat} (hj:j<List.length (w.2.2.2.1:List (den Za))) (h:¬ S (Xd w j).1 (Xd w j).2.1):Uy n j=Uy w j:=by
  have hr:=F.root hj h
  have key:∀ x,x≤List.length (w.2.2.2.1:List (den Za))→hgtL n j x=hgtL w j x:=by
    intro x
    induction x with
    | zero=>intro _; rfl
    | succ x ih =>
      intro hn
      have hx:x<List.length (w.2.2.2.1:List (den Za)):=by omega
      have hx':x<List.length (n.2.2.2.1:List (den Za)):=by rw [F.lenW]; exact hx
      simp only [hgtL]
      rw [ih (by omega),hr.2.2]
      by_cases hw:WiW w x j
      · have e:=(hw.facts F.okw.right hx).2.1
        have nn:¬ S (Xd w x).1 (Xd w x).2.1:=by rw [e]; exact h
        rw [if_pos hw,if_pos ((F.wi hx nn).2 hw),(F.root hx nn).2.2]
      · rw [if_neg hw,if_neg (fun g=>hw ?_)]
        have e:=(Wi.facts F.okn.right g hx').2.1
        have nn:¬ S (Xd n x).1 (Xd n x).2.1:=by rw [e,hr.2.1]; exact h
        exact (F.symm.wi hx' nn).2 g
  show hgtL n j _=hgtL w j _
  rw [F.lenW]
  exact key _ (Nat.le_refl _)
theorem Far.inR (x:Int):inR n x↔Ghost.inR w x:=by unfold Ghost.inR; rw [F.lenW]
theorem Far.inQ (x:Int):inQ n x↔Ghost.inQ w x:=by unfold Ghost.inQ; rw [F.lenA]
theorem Far.pass {j:Int} {a b:Pl} (hA:Cu S w a) (hB:Cu S w b):Qt n j a b=Qt w j a b:=by
  unfold Qt
  rw [F.room hB,F.lenW]
  by_cases c1:j<0
  · rw [if_pos c1,if_pos c1]
  by_cases c2:(List.length (w.2.2.2.1:List (den Za)):Int)≤j
  · rw [if_neg c1,if_neg c1,if_pos c2,if_pos c2]
  rw [if_neg c1,if_neg c1,if_neg c2,if_neg c2]
  have e:=F.place hA (j:=Int.toNat j) (by omega)
  by_cases c3:List.getD (w.2.2.2.1:List (den Za)) (Int.toNat j) (dft Za)=a
  · rw [if_pos c3,if_pos (e.2 c3)]
  · rw [if_neg c3,if_neg (fun g=>c3 (e.1 g))]
end
structure BM0 (S:Int→Int→Prop) (w:den Zb) (k:Nat):Prop where
  hk:k<List.length (w.2.1:List Int)
  k1:¬ S 1 (k:Int)
  k0:¬ S 0 (Yc w k)
section
variable {S:Int→Int→Prop} {w n:den Zb} (F:Far S w n) {k:Nat} (H:BM0 S w k)
include F H
theorem Far.at_:Yc n k=Yc w k:=(F.pl k H.k1).1
theorem Far.me:Cu S w (X2 k):=.inl ⟨Yx k,H.k1⟩
theorem Far.fl:Cu S w (E4 (Yc w k)):=.inl ⟨by show ¬ (0:Int)=2; decide,H.k0⟩
theorem Far.near {b:Nat} (hb:b<List.length (w.2.2.2.1:List (den Za))):Vk n k b↔Vk w k b:=by
  unfold Vk
  rw [F.at_ H,F.root_iff hb (p:=E4 (Yc w k)) H.k0,F.root_iff hb (p:=X2 k) H.k1]
theorem Far.near_free {b:Nat} (h:Vk w k b):¬ S (Xd w b).1 (Xd w b).2.1:=by
  rcases h with h | h <;> rw [h]
  · exact H.k0
  · exact H.k1
open Classical in
theorem Far.putE (j b:Int):putErr n k j b=putErr w k j b:=by
  unfold putErr
  by_cases h:Ghost.inR w j∧Ghost.inR w b
  · rw [if_pos h,if_pos ⟨(F.inR j).2 h.1,(F.inR b).2 h.2⟩]
    obtain ⟨j,rfl,hj⟩:=Qk h.1
    obtain ⟨b,rfl,hb⟩:=Qk h.2
    simp only [Int.toNat_natCast]
    have e1:=F.place (F.me H) hj
    have e2:=F.near H hb
    by_cases g:Xs w j=X2 k∧Vk w k b
    · rw [if_pos g,if_pos ⟨e1.2 g.1,e2.2 g.2⟩]
      have fb:=F.near_free H g.2
      have fj:=F.near_free H (O7 g.1)
      have x2:=F.root hb fb
      have x3:=F.hgt hj fj
      have x4:=F.room (t:=Yu (b:Int)) (.inr ⟨b,hb,rfl,fb⟩)
      have x5:Tk n b=Tk w b:=by show List.getD (n.1.2.2.2.2.1:List Bool) b false=_; rw [F.desc]
      simp only [x2.2.2,x3,x4,x5]
      exact ite_congr rfl (fun _=>ite_congr (propext (F.wi hb fb)) (fun _=>rfl) (fun _=>rfl)) (fun _=>rfl)
    · rw [if_neg g,if_neg (fun g'=>g ⟨e1.1 g'.1,e2.1 g'.2⟩)]
  · rw [if_neg h,if_neg (fun g=>h ⟨(F.inR j).1 g.1,(F.inR b).1 g.2⟩)]
theorem Far.takeE (j b:Int):takeErr n k j b=takeErr w k j b:=by
  unfold takeErr
  by_cases h:Ghost.inR w j∧Ghost.inR w b
  · rw [if_pos h,if_pos ⟨(F.inR j).2 h.1,(F.inR b).2 h.2⟩]
    obtain ⟨j,rfl,hj⟩:=Qk h.1
    obtain ⟨b,rfl,hb⟩:=Qk h.2
    simp only [Int.toNat_natCast]
    have e2:=F.near H hb
    by_cases g:Vk w k b
    · rw [if_pos g,if_pos (e2.2 g)]
      have fb:=F.near_free H g
      have e1:(Xs n j=Yu (b:Int))=(Xs w j=Yu (b:Int)):=propext (F.place (.inr ⟨b,hb,rfl,fb⟩) hj)
      have x4:=F.room (F.me H)
      have x5:Tk n b=Tk w b:=by show List.getD (n.1.2.2.2.2.1:List Bool) b false=_; rw [F.desc]
      simp only [e1,x4,x5]
    · rw [if_neg g,if_neg (fun g'=>g (e2.1 g'))]
  · rw [if_neg h,if_neg (fun g=>h ⟨(F.inR j).1 g.1,(F.inR b).1 g.2⟩)]
theorem Far.giveE (j q:Int) (hq:∀ b:Nat,q=(b:Int)→b<List.length (w.2.1:List Int)→¬ S 1 (b:Int)):giveErr n k j q=giveErr w k j q:=by
  unfold giveErr
  by_cases h:Ghost.inR w j∧Ghost.inQ w q
  · rw [if_pos h,if_pos ⟨(F.inR j).2 h.1,(F.inQ q).2 h.2⟩]
    obtain ⟨j,rfl,hj⟩:=Qk h.1
    obtain ⟨b,rfl,hb⟩:=O3 h.2
    have sb:=hq b rfl hb
    simp only [Int.toNat_natCast]
    have e1:(Xs n j=X2 k)=(Xs w j=X2 k):=propext (F.place (F.me H) hj)
    have e2:Yc n b=Yc w b:=(F.pl b sb).1
    have e3:=F.at_ H
    have e4:=F.room (t:=X2 b) (.inl ⟨Yx b,sb⟩)
    simp only [e1,e2,e3,e4]
  · rw [if_neg h,if_neg (fun g=>h ⟨(F.inR j).1 g.1,(F.inQ q).1 g.2⟩)]
theorem Far.pushE (q:Int) (hq:∀ b:Nat,q=(b:Int)→b<List.length (w.2.1:List Int)→¬ S 1 (b:Int)):Ki n k q=Ki w k q:=by
  unfold Ki
  rw [F.lenA]
  by_cases c1:q<0
  · rw [if_pos c1,if_pos c1]
  by_cases c2:(List.length (w.2.1:List Int):Int)≤q
  · rw [if_neg c1,if_neg c1,if_pos c2,if_pos c2]
  rw [if_neg c1,if_neg c1,if_neg c2,if_neg c2]
  obtain ⟨b,rfl⟩:∃ b:Nat,q=(b:Int):=⟨q.toNat,by omega⟩
  have e2:List.getD (n.2.1:List Int) b (0:Int)=List.getD (w.2.1:List Int) b (0:Int):=(F.pl b (hq b rfl (by omega))).1
  have e3:List.getD (n.2.1:List Int) k (0:Int)=List.getD (w.2.1:List Int) k (0:Int):=F.at_ H
  rw [Int.toNat_natCast,e2,e3]
theorem Far.away {l:List Int} (hl:¬ Bad w l) {p:Nat} (hp:¬ S 1 (p:Int)):Pk n l (p:Int)↔Pk w l (p:Int):=by
  have e:∀ j,j<l.length→(Xs n (iAt l j).toNat=((1:Int),(p:Int),())↔Xs w (iAt l j).toNat=((1:Int),(p:Int),())):=fun j hj=>by
    have hr:Ghost.inR w (iAt l j):=Classical.byContradiction (fun h=>hl ⟨j,hj,h⟩)
    have h1:=hr.1; have h2:=hr.2
    exact F.place (t:=X2 p) (.inl ⟨Yx p,hp⟩) (by omega)
  exact ⟨fun ⟨j,h1,h2⟩=>⟨j,h1,fun g=>h2 ((e j h1).2 g)⟩,fun ⟨j,h1,h2⟩=>⟨j,h1,fun g=>h2 ((e j h1).1 g)⟩⟩
theorem Far.bad (l:List Int):Bad n l↔Bad w l :=
  ⟨fun ⟨j,h1,h2⟩=>⟨j,h1,fun g=>h2 ((F.inR _).2 g)⟩,fun ⟨j,h1,h2⟩=>⟨j,h1,fun g=>h2 ((F.inR _).1 g)⟩⟩
open Classical in
theorem Far.tradeE (q:Int) (gs:List Int) (pay:Int) (ws:List Int) (fee:Int) (hq:∀ b:Nat,q=(b:Int)→b<List.length (w.2.1:List Int)→¬ S 1 (b:Int)):tradeErr n k q gs pay ws fee=tradeErr w k q gs pay ws fee:=by
  unfold tradeErr
  by_cases c1:Ghost.inQ w q
  rotate_left
  · rw [if_pos (show ¬ Ghost.inQ n q from fun h=>c1 ((F.inQ q).1 h)),if_pos c1]
  rw [if_neg (show ¬ ¬ Ghost.inQ n q from fun h=>h ((F.inQ q).2 c1)),if_neg (show ¬ ¬ Ghost.inQ w q from fun h=>h c1)]
  obtain ⟨b,rfl,hb⟩:=O3 c1
  have sb:=hq b rfl hb
  by_cases c2:Bad w (gs ++ ws)
  · rw [if_pos ((F.bad H _).2 c2),if_pos c2]
  rw [if_neg (fun h=>c2 ((F.bad H _).1 h)),if_neg c2]
  have b1:¬ Bad w gs:=fun ⟨j,h1,h2⟩=>c2 ⟨j,by rw [List.length_append]; omega,by rw [Rg h1]; exact h2⟩
  have b2:¬ Bad w ws:=fun ⟨j,h1,h2⟩=>c2 ⟨gs.length+j,by rw [List.length_append]; omega,by rw [Wb]; exact h2⟩
  have a1:Pk n gs (k:Int)=Pk w gs (k:Int):=propext (F.away H b1 H.k1)
  have a2:Pk n ws (b:Int)=Pk w ws (b:Int):=propext (F.away H b2 sb)
  have e2:=F.pl b sb
  have e3:=F.pl k H.k1
  have r1:=F.room (F.me H)
  have r2:Y0 n (meI (b:Int))=Y0 w (meI (b:Int)):=F.room (t:=X2 b) (.inl ⟨Yx b,sb⟩)
  simp only [Int.toNat_natCast,e2.1,e2.2,e3.1,e3.2,r1,r2]
  exact ite_congr rfl (fun _=>rfl) (fun _=>ite_congr rfl (fun _=>rfl) (fun _=>ite_congr rfl (fun _=>rfl) (fun _=>ite_congr a1 (fun _=>rfl) (fun _=>ite_congr a2 (fun _=>rfl) (fun _=>rfl)))))
theorem Far.pre:AGt n (Yc n k)=AGt w (Yc w k):=by
  rw [F.at_ H]
  show F3 n _ (List.length (n.2.1:List Int))=F3 w _ (List.length (w.2.1:List Int))
  rw [F.lenA]
  generalize List.length (w.2.1:List Int)=m
  induction m with
  | zero=>rfl
  | succ m ih =>
    simp only [F3]
    rw [ih]
    have e:List.getD (n.2.1:List Int) m (0:Int)=Yc w k↔List.getD (w.2.1:List Int) m (0:Int)=Yc w k:=by
      by_cases h:Yc n m=Yc w m
      · rw [show List.getD (n.2.1:List Int) m (0:Int)=List.getD (w.2.1:List Int) m (0:Int) from h]
      · obtain ⟨h1,h2⟩:=F.mv m h
        exact ⟨fun g=>absurd (show S 0 (Yc w k) by rw [← g]; exact h2) H.k0,fun g=>absurd (show S 0 (Yc w k) by rw [← g]; exact h1) H.k0⟩
    by_cases c:List.getD (w.2.1:List Int) m (0:Int)=Yc w k
    · rw [if_pos c,if_pos (e.2 c)]
    · rw [if_neg c,if_neg (fun g=>c (e.1 g))]
omit H in
theorem Far.und {p:Pl} (hp:¬ S p.1 p.2.1):Pi n p=Pi w p:=by
  show P0 n p (List.length (n.2.2.2.1:List (den Za)))=P0 w p (List.length (w.2.2.2.1:List (den Za)))
  rw [F.lenW]
  have key:∀ m,m≤List.length (w.2.2.2.1:List (den Za))→P0 n p m=P0 w p m:=by
    intro m
    induction m with
    | zero=>intro _; rfl
    | succ m ih =>
      intro hm
      simp only [P0]
      rw [ih (by omega)]
      have e:=F.root_iff (j:=m) (by omega) hp
      by_cases c:Xd w m=p
      · rw [if_pos c,if_pos (e.2 c),(F.root (j:=m) (by omega) (by rw [c]; exact hp)).1]
      · rw [if_neg c,if_neg (fun g=>c (e.1 g))]
  exact key _ (Nat.le_refl _)
theorem Far.look:AAa n k=AAa w k:=by
  unfold AAa
  rw [F.pre H,F.at_ H,F.und (p:=E4 (Yc w k)) H.k0]
theorem Far.own:AId n k=AId w k:=by
  unfold AId
  rw [F.und (p:=X2 k) H.k1,(F.pl k H.k1).2]
theorem Far.exit (d:Nat):Y5 n k d=Y5 w k d:=by
  unfold Y5
  rw [F.desc,show List.getD (n.2.1:List Int) k (0:Int)=List.getD (w.2.1:List Int) k (0:Int) from F.at_ H]
end
end Go.Proofs.YtmemggdjnfccfaaGreatDoor.Ghost
