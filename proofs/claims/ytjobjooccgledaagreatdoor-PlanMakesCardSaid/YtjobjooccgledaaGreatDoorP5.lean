/- What functions come to, and that the statements are answered with 'true'. Conditions: none. -/
import Derived.Test.YtjobjooccgledaaGreatDoorS
import Derived.Test.YtjobjooccgledaaGreatDoorGE
import Derived.Test.YtjobjooccgledaaGreatDoorP1
import Derived.Test.YtjobjooccgledaaGreatDoorP2
import Derived.Test.YtjobjooccgledaaGreatDoorP3
import Derived.Test.YtjobjooccgledaaGreatDoorP4
set_option linter.unusedVariables false
set_option linter.unusedSimpArgs false
set_option linter.unusedSectionVars false
set_option linter.unnecessarySimpa false
namespace Go.Proofs.YtjobjooccgledaaGreatDoor.Ghost
open Go
theorem Lb (w:den Za) (i:Nat):¬ (Wx w i).1=(2:Int):=fun e=>by
  have:(0:Int)=2:=e
  cases this
theorem On (i:Nat):¬ (AC4 i).1=(2:Int):=fun e=>by
  have:(1:Int)=2:=e
  cases this
theorem Yg.good_floor {w:den Za} (h:Yg w) {i:Nat} (hi:i<List.length (w.2.1:List Int)):Ks w.1 (Wx w i):=.inl ⟨rfl,(h.at_ i hi).1⟩
theorem Yg.good_me {w:den Za} (h:Yg w) {i:Nat} (hi:i<List.length (w.2.1:List Int)):Ks w.1 (AC4 i):=by
  have:=h.a1
  exact .inr (.inl ⟨rfl,Int.natCast_nonneg i,Int.ofNat_lt.2 (by omega)⟩)
end Go.Proofs.YtjobjooccgledaaGreatDoor.Ghost
namespace Go.Proofs.YtjobjooccgledaaGreatDoor.Ghost
open Go
end Go.Proofs.YtjobjooccgledaaGreatDoor.Ghost
namespace Go.Proofs.YtjobjooccgledaaGreatDoor.Ghost
open Go
theorem Ae {l:List Pl}:(k:Nat)→(p:Pl)→Fq l k p→Pt l (k+1) p=Pt l k p
  | 0,p,h=>by
    have h:¬ p.1=(2:Int):=h
    simp only [Pt]; rw [if_neg h]
  | k+1,p,h=>by
    show (if p.1=(2:Int) then Pt l (k+1) (List.getD l (Int.toNat p.2.1) (dft Zb)) else p)=(if p.1=(2:Int) then Pt l k (List.getD l (Int.toNat p.2.1) (dft Zb)) else p)
    by_cases h2:p.1=(2:Int)
    · rw [if_pos h2,if_pos h2,Ae k _ (h h2)]
    · rw [if_neg h2,if_neg h2]
theorem AF3 {w:den Za} (h:Yg w) {j:Nat} (hj:j<List.length (w.2.2.2.1:List (den Zb))) (h2:(Qz w j).1=(2:Int)):∃ b:Nat,(Qz w j).2.1=(b:Int)∧b<List.length (w.2.2.2.1:List (den Zb))∧V7 w j=V7 w b:=by
  have hin:=h.inPl j hj h2
  refine ⟨Int.toNat (Qz w j).2.1,(Int.toNat_of_nonneg hin.1).symm,(Int.toNat_lt hin.1).2 hin.2,?_⟩
  have he:Fq w.2.2.2.1 50 (Qz w (Int.toNat (Qz w j).2.1)):=h.ends hj h2
  show Pt w.2.2.2.1 (50+1) (Qz w j)=Pt w.2.2.2.1 (50+1) (Qz w (Int.toNat (Qz w j).2.1))
  rw [Ae 50 _ he]
  show (if (Qz w j).1=(2:Int) then _ else _)=_
  rw [if_pos h2]
end Go.Proofs.YtjobjooccgledaaGreatDoor.Ghost
namespace Go.Proofs.YtjobjooccgledaaGreatDoor.Ghost
open Go
inductive Wi (l:List Pl):Nat→Nat→Prop
  | refl (i:Nat):Wi l i i
  | step {i b j:Nat} (h2:(List.getD l i (dft Zb)).1=(2:Int)) (hb:(List.getD l i (dft Zb)).2.1=(b:Int)) (h:Wi l b j):Wi l i j
theorem Wi.trans {l:List Pl} {i j k:Nat} (h:Wi l i j) (h':Wi l j k):Wi l i k:=by
  induction h with
  | refl=>exact h'
  | step h2 hb _ ih=>exact .step h2 hb (ih h')
theorem Fq.succ {l:List Pl}:(k:Nat)→(p:Pl)→Fq l k p→Fq l (k+1) p
  | 0,p,h=>fun h2=>absurd h2 h
  | k+1,p,h=>fun h2=>Fq.succ k _ (h h2)
abbrev WiW (w:den Za) (i j:Nat):Prop:=Wi (w.2.2.2.1:List Pl) i j
theorem AD5 {l:List Pl} (hin:∀ i,i<l.length→inPl l (List.getD l i (dft Zb))) (j:Nat):(k:Nat)→(i:Nat)→i<l.length→Fq l k (List.getD l i (dft Zb))→((∃ x∈Kv l k (List.getD l i (dft Zb)),x=Qd (j:Int))↔(¬ i=j∧Wi l i j)∨∃ b:Nat,(List.getD l i (dft Zb)).1=(2:Int)∧(List.getD l i (dft Zb)).2.1=(b:Int)∧Wi l b j)
  | 0,i,hi,he=>by
    have he:¬ (List.getD l i (dft Zb)).1=(2:Int):=he
    simp only [Kv,List.mem_singleton]
    constructor
    · rintro ⟨x,rfl,hx⟩
      exact absurd (congrArg (fun p:Pl=>(p.1:Int)) hx) he
    · rintro (⟨h1,h2⟩ | ⟨b,h2,_⟩)
      · cases h2 with
        | refl=>exact absurd rfl h1
        | step h2 _ _=>exact absurd h2 he
      · exact absurd h2 he
  | k+1,i,hi,he=>by
    simp only [Kv]
    by_cases h2:(List.getD l i (dft Zb)).1=(2:Int)
    · rw [if_pos h2]
      have hb:=hin i hi h2
      have e:=(Int.toNat_of_nonneg hb.1).symm
      have hlt:=(Int.toNat_lt hb.1).2 hb.2
      have ih:=AD5 hin j k _ hlt (he h2)
      constructor
      · rintro ⟨x,hx,rfl⟩
        refine .inr ⟨_,h2,e,?_⟩
        rcases List.mem_cons.1 hx with hx | hx
        · have:(j:Int)=(List.getD l i (dft Zb)).2.1:=congrArg (fun p:Pl=>(p.2.1:Int)) hx
          rw [← this,Int.toNat_natCast]; exact .refl j
        · rcases ih.1 ⟨_,hx,rfl⟩ with h | ⟨b',g1,g2,g3⟩
          · exact h.2
          · exact .step g1 g2 g3
      · intro h
        have key:∀ b:Nat,(List.getD l i (dft Zb)).2.1=(b:Int)→Wi l b j→∃ x∈List.getD l i (dft Zb) :: Kv l k (List.getD l (Int.toNat (List.getD l i (dft Zb)).2.1) (dft Zb)),x=Qd (j:Int):=fun b hb' hw=>by
          by_cases hbj:b=j
          · subst hbj
            exact ⟨_,List.mem_cons_self,Prod.ext h2 (Prod.ext hb' rfl)⟩
          · have eb:Int.toNat (List.getD l i (dft Zb)).2.1=b:=by rw [hb',Int.toNat_natCast]
            rw [eb] at ih ⊢
            obtain ⟨x,hx,hxe⟩:=ih.2 (.inl ⟨hbj,hw⟩)
            exact ⟨x,List.mem_cons_of_mem _ hx,hxe⟩
        rcases h with ⟨h1,h3⟩ | ⟨b,_,g2,g3⟩
        · cases h3 with
          | refl=>exact absurd rfl h1
          | @step _ b _ _ hb' hw=>exact key b hb' hw
        · exact key b g2 g3
    · rw [if_neg h2]
      constructor
      · rintro ⟨x,hx,hxe⟩
        rw [List.mem_singleton.1 hx] at hxe
        exact absurd (congrArg (fun p:Pl=>(p.1:Int)) hxe) h2
      · rintro (⟨h1,h3⟩ | ⟨b,g1,_⟩)
        · cases h3 with
          | refl=>exact absurd rfl h1
          | step g _ _=>exact absurd g h2
        · exact absurd g1 h2
theorem AAo {l:List Pl}:(k:Nat)→(p:Pl)→Fq l k p→Oa l (k+1) p=Oa l k p
  | 0,p,h=>by
    have h:¬ p.1=(2:Int):=h
    simp only [Oa]; rw [if_neg h]
  | k+1,p,h=>by
    show (if p.1=(2:Int) then Oa l (k+1) (List.getD l (Int.toNat p.2.1) (dft Zb))+1 else 0)=(if p.1=(2:Int) then Oa l k (List.getD l (Int.toNat p.2.1) (dft Zb))+1 else 0)
    by_cases h2:p.1=(2:Int)
    · rw [if_pos h2,if_pos h2,AAo k _ (h h2)]
    · rw [if_neg h2,if_neg h2]
theorem AQl {w:den Za} {j:Nat} (h2:¬ (Qz w j).1=(2:Int)):X2 w j=0:=by
  show (if (Qz w j).1=(2:Int) then _ else 0)=0
  rw [if_neg h2]
theorem AH2 {w:den Za} (h:Yg w) {j b:Nat} (hj:j<List.length (w.2.2.2.1:List (den Zb))) (h2:(Qz w j).1=(2:Int)) (hb:(Qz w j).2.1=(b:Int)):b<List.length (w.2.2.2.1:List (den Zb))∧X2 w j=X2 w b+1:=by
  have hin:=h.inPl j hj h2
  have e:Int.toNat (Qz w j).2.1=b:=by rw [hb,Int.toNat_natCast]
  refine ⟨by rw [← e]; exact (Int.toNat_lt hin.1).2 hin.2,?_⟩
  have he:Fq w.2.2.2.1 50 (Qz w (Int.toNat (Qz w j).2.1)):=h.ends hj h2
  rw [e] at he
  show Oa w.2.2.2.1 (50+1) (Qz w j)=Oa w.2.2.2.1 (50+1) (Qz w b)+1
  rw [AAo 50 _ he]
  show (if (Qz w j).1=(2:Int) then Oa w.2.2.2.1 50 (Qz w (Int.toNat (Qz w j).2.1))+1 else 0)=_
  rw [if_pos h2,e]
theorem AMs {l:List Pl}:(f c:Nat)→(p:Pl)→depI l f c p≤4→depI l f c p=c+Oa l f p
  | 0,c,p,h=>by
    simp only [depI,Oa] at h ⊢
    by_cases h2:p.1=(2:Int)
    · rw [if_pos h2] at h; omega
    · rw [if_neg h2]; rfl
  | f+1,c,p,h=>by
    simp only [depI,Oa] at h ⊢
    by_cases h2:p.1=(2:Int)
    · rw [if_pos h2] at h ⊢
      rw [if_pos h2]
      by_cases h50:50<c+1
      · rw [if_pos h50] at h; omega
      · rw [if_neg h50] at h ⊢
        rw [AMs f (c+1) _ h]; omega
    · rw [if_neg h2,if_neg h2]; rfl
theorem C2 {w:den Za} (h:Yg w) {i:Nat} (hi:i<List.length (w.2.2.2.1:List (den Zb))):depI w.2.2.2.1 51 0 (Qz w i)=X2 w i∧X2 w i≤4:=by
  have h4:=(h.deep i hi).1
  have:=AMs 51 0 _ h4
  rw [Nat.zero_add] at this
  exact ⟨this,Nat.le_trans (Nat.le_of_eq this.symm) h4⟩
theorem Wi.facts {w:den Za} (h:Yg w) {i j:Nat} (hw:WiW w i j):i<List.length (w.2.2.2.1:List (den Zb))→j<List.length (w.2.2.2.1:List (den Zb))∧V7 w i=V7 w j∧X2 w j≤X2 w i∧(¬ i=j→X2 w j<X2 w i):=by
  induction hw with
  | refl i=>exact fun hi=>⟨hi,rfl,Nat.le_refl _,fun e=>absurd rfl e⟩
  | @step i b j h2 hb hw ih =>
    intro hi
    obtain ⟨hbl,hd⟩:=AH2 h hi h2 hb
    obtain ⟨b',e,_,er⟩:=AF3 h hi h2
    obtain rfl:b=b':=Int.ofNat.inj (hb.symm.trans e)
    obtain ⟨i1,i2,i3,i4⟩:=ih hbl
    exact ⟨i1,er.trans i2,by omega,fun _=>by omega⟩
open Classical in
noncomputable def hgtL (w:den Za) (i:Nat):Nat→Nat
  | 0=>0
  | n+1=>Nat.max (hgtL w i n) (if WiW w n i then X2 w n - X2 w i else 0)
noncomputable abbrev Pk (w:den Za) (i:Nat):Nat:=hgtL w i (List.length (w.2.2.2.1:List (den Zb)))
theorem AIb {w:den Za} {i k:Nat}:{n:Nat}→k<n→WiW w k i→X2 w k - X2 w i≤hgtL w i n
  | 0,h,_=>by omega
  | n+1,h,hw=>by
    simp only [hgtL]
    by_cases hk:k<n
    · exact Nat.le_trans (AIb hk hw) (Nat.le_max_left _ _)
    · have:k=n:=by omega
      subst this
      rw [if_pos hw]; exact Nat.le_max_right _ _
theorem D9 {w:den Za} {i:Nat}:(n:Nat)→hgtL w i n=0∨∃ k,k<n∧WiW w k i∧X2 w k - X2 w i=hgtL w i n
  | 0=>.inl rfl
  | n+1=>by
    simp only [hgtL]
    by_cases hw:WiW w n i
    · rw [if_pos hw]
      rcases Nat.le_total (hgtL w i n) (X2 w n - X2 w i) with h | h
      · rw [show Nat.max _ _=X2 w n - X2 w i from Nat.max_eq_right h]
        exact .inr ⟨n,by omega,hw,rfl⟩
      · rw [show Nat.max _ _=hgtL w i n from Nat.max_eq_left h]
        rcases D9 (w:=w) (i:=i) n with h1 | ⟨k,h1,h2,h3⟩
        · exact .inl h1
        · exact .inr ⟨k,by omega,h2,h3⟩
    · rw [if_neg hw,show Nat.max (hgtL w i n) 0=hgtL w i n from Nat.max_eq_left (Nat.zero_le _)]
      rcases D9 (w:=w) (i:=i) n with h1 | ⟨k,h1,h2,h3⟩
      · exact .inl h1
      · exact .inr ⟨k,by omega,h2,h3⟩
theorem BHp (a b:Nat):(if (a:Int)<(b:Int) then (b:Int) else (a:Int))=((Nat.max a b:Nat):Int):=by
  by_cases h:a<b
  · rw [if_pos (by omega),show Nat.max a b=b from Nat.max_eq_right (by omega)]
  · rw [if_neg (by omega),show Nat.max a b=a from Nat.max_eq_left (by omega)]
end Go.Proofs.YtjobjooccgledaaGreatDoor.Ghost
namespace Go.Proofs.YtjobjooccgledaaGreatDoor.Ghost
open Go
theorem T4 (w:den Za) (h:Yg w) {i:Nat} (hi:i<List.length (w.2.2.2.1:List (den Zb))) (j:Nat):Zd (fun n _ _ _=>Wk n w (i:Int) (j:Int)) (fun r=>r.1.1=true↔WiW w i j):=by
  by_cases hij:i=j
  · subst hij
    refine Zd.succ (G:=fun _ _ _ _=>some ((true,()),[])) (fun n _ _ _ => ?_) (Zd.ret ⟨fun _=>.refl i,fun _=>rfl⟩)
    show (match (if (i:Int)=(i:Int) then some true else _:Option Bool) with | some r=>some ((r,()),[]) | none=>none)=_
    rw [if_pos rfl]
  · have hne:¬ (i:Int)=(j:Int):=fun e=>hij (Int.ofNat.inj e)
    refine Zd.succ (G:=fun _ _ _ _=>some (((Kv w.2.2.2.1 51 (Qz w i)).any (fun x=>eqT Zb x (Qd (j:Int))),()),[])) (fun n _ _ _ => ?_) (Zd.ret ?_)
    · show (match (Cg w (i:Int) (j:Int)) with | some r=>some ((r,()),[]) | none=>none)=_
      unfold Cg
      rw [if_neg hne,if_pos ⟨Int.natCast_nonneg i,Int.ofNat_lt.2 hi⟩,Int.toNat_natCast,Ey h.inPl 51 60 _ (h.inPl i hi) (h.ends hi) (by omega)]
    · show (Kv w.2.2.2.1 51 (Qz w i)).any (fun x=>eqT Zb x (Qd (j:Int)))=true↔_
      rw [List.any_eq_true]
      have hc:=AD5 h.inPl j 51 i hi (h.ends hi)
      constructor
      · rintro ⟨x,hx,hxe⟩
        rcases hc.1 ⟨x,hx,(Lv _ _).1 hxe⟩ with g | ⟨b,g1,g2,g3⟩
        · exact g.2
        · exact .step g1 g2 g3
      · intro hw
        obtain ⟨x,hx,hxe⟩:=hc.2 (.inl ⟨hij,hw⟩)
        exact ⟨x,hx,(Lv _ _).2 hxe⟩
theorem Uo (w:den Za) (h:Yg w) {i:Nat} (hi:i<List.length (w.2.2.2.1:List (den Zb))):Zd (fun n _ _ _=>Jg n w (i:Int)) (fun r=>r.1.1=(X2 w i:Int)):=by
  refine Zd.succ (fun n _ _ _=>Jg.eq n w i) (Zd.call (AIz w i) (fun v hv => ?_))
  subst hv
  refine Zd.call (Il w h hi) (fun u hu => ?_)
  subst hu
  have hl:(Kv w.2.2.2.1 51 (Qz w i)).length=X2 w i+1:=Fs w.2.2.2.1 51 (Qz w i)
  have hd:X2 w i≤51:=D7 w.2.2.2.1 51 (Qz w i)
  refine Zd.ret ?_
  show IntKind.wrap .i64 ((List.length (Kv w.2.2.2.1 51 (Qz w i)):Int) - 1)=(X2 w i:Int)
  rw [hl,Hr (by omega) (by omega)]; omega
theorem Lj (w:den Za) (ok:Ok w) {i:Nat} (hi:i<List.length (w.2.2.2.1:List (den Zb))) (t0:den Za) (t4:Int):(r n0:Nat)→n0+r=List.length (w.2.2.2.1:List (den Zb)) →
    Zd (fun n m _ _=>Xq.l0 n m t0 (i:Int) t4 (hgtL w i n0:Int) (List.length (w.2.2.2.1:List (den Zb)):Int) (n0:Int) w) (fun r=>r.1.1=(Pk w i:Int))
  | 0,n0,hn=>by
    refine Zd.succ1 (fun n m _ _=>Xq.l0_eq n m t0 i t4 _ _ n0 w) (Zd.bifF (decide_eq_false (by omega)) (Zd.ret ?_))
    rw [show n0=List.length (w.2.2.2.1:List (den Zb)) by omega]
  | r+1,n0,hn=>by
    have hlen:=ok.sm.wh
    have hl:n0<List.length (w.2.2.2.1:List (den Zb)):=by omega
    have next:=Lj w ok hi t0 t4 r (n0+1) (by omega)
    rw [← Xm (by omega)] at next
    refine Zd.succ1 (fun n m _ _=>Xq.l0_eq n m t0 i t4 _ _ n0 w) (Zd.bifT (decide_eq_true (by omega)) (Zd.call (T4 w ok.right hl i) (fun v hv=>Zd.bif (fun hb => ?_) (fun hb => ?_))))
    · have hw:=hv.1 hb
      refine Zd.call (Uo w ok.right hl) (fun u hu=>Zd.call (Uo w ok.right hi) (fun u2 hu2 => ?_))
      rw [hu,hu2]
      obtain ⟨_,_,hd,_⟩:=hw.facts ok.right hl
      have h51:X2 w n0≤51:=D7 w.2.2.2.1 51 (Qz w n0)
      have e:IntKind.wrap .i64 ((X2 w n0:Int) - (X2 w i:Int))=((X2 w n0 - X2 w i:Nat):Int):=by rw [Hr (by omega) (by omega)]; omega
      rw [e,BHp]
      simp only [hgtL] at next
      rw [if_pos hw] at next
      exact next
    · have hw:¬ WiW w n0 i:=fun h=>by rw [hv.2 h] at hb; cases hb
      simp only [hgtL] at next
      rw [if_neg hw,show Nat.max (hgtL w i n0) 0=hgtL w i n0 from Nat.max_eq_left (Nat.zero_le _)] at next
      exact next
theorem O8 (w:den Za) (ok:Ok w) {i:Nat} (hi:i<List.length (w.2.2.2.1:List (den Zb))):Zd (fun n _ _ _=>Xq n w (i:Int)) (fun r=>r.1.1=(Pk w i:Int)) :=
  Zd.succ (fun n _ _ _=>Xq.eq n w i) (Lj w ok hi w 0 _ 0 (Nat.zero_add _)).enter
end Go.Proofs.YtjobjooccgledaaGreatDoor.Ghost
namespace Go.Proofs.YtjobjooccgledaaGreatDoor.Ghost
open Go
abbrev pAt (l:List Pl) (j:Nat):Pl:=List.getD l j (dft Zb)
inductive Tj (l:List Pl):Nat→Pl→Nat→Prop
  | top {j:Nat} (h:¬ (pAt l j).1=(2:Int)):Tj l j (pAt l j) 0
  | box {j b:Nat} {p:Pl} {d:Nat} (h2:(pAt l j).1=(2:Int)) (hb:(pAt l j).2.1=(b:Int)) (h:Tj l b p d):Tj l j p (d+1)
theorem Tj.uniq {l:List Pl} {j:Nat} {p q:Pl} {d e:Nat} (h:Tj l j p d) (h':Tj l j q e):p=q∧d=e:=by
  induction h generalizing q e with
  | top h =>
    cases h' with
    | top=>exact ⟨rfl,rfl⟩
    | box h2=>exact absurd h2 h
  | box h2 hb _ ih =>
    cases h' with
    | top h=>exact absurd h2 h
    | box _ hb' h' =>
      rw [hb] at hb'
      obtain rfl:=Int.ofNat.inj hb'
      obtain ⟨e1,e2⟩:=ih h'
      exact ⟨e1,by rw [e2]⟩
theorem AIa {w:den Za} (h:Yg w):(d:Nat)→(i:Nat)→i<List.length (w.2.2.2.1:List (den Zb))→X2 w i=d→Tj w.2.2.2.1 i (V7 w i) (X2 w i)
  | d,i,hi,hd=>by
    by_cases h2:(Qz w i).1=(2:Int)
    · obtain ⟨b,e,hb,er⟩:=AF3 h hi h2
      obtain ⟨_,ed⟩:=AH2 h hi h2 e
      cases d with
      | zero=>omega
      | succ d =>
        rw [er,ed]
        exact .box h2 e (AIa h d b hb (by omega))
    · have e1:X2 w i=0:=AQl h2
      have e2:V7 w i=Qz w i:=AKi h2 51
      rw [e1,e2]
      exact .top h2
theorem Yg.hang {w:den Za} (h:Yg w) {i:Nat} (hi:i<List.length (w.2.2.2.1:List (den Zb))):Tj w.2.2.2.1 i (V7 w i) (X2 w i):=AIa h _ i hi rfl
theorem Yg.hang_eq {w:den Za} (h:Yg w) {i:Nat} (hi:i<List.length (w.2.2.2.1:List (den Zb))) {p:Pl} {d:Nat} (h':Tj w.2.2.2.1 i p d):V7 w i=p∧X2 w i=d:=(h.hang hi).uniq h'
theorem Tj.depI {l:List Pl} {j:Nat} {p:Pl} {d:Nat} (h:Tj l j p d):∀ f c,d≤f→c+d≤50→depI l f c (pAt l j)=c+d:=by
  induction h with
  | @top j h =>
    intro f c _ _
    cases f with
    | zero=>simp only [Ghost.depI]; rw [if_neg h]; rfl
    | succ f=>simp only [Ghost.depI]; rw [if_neg h]; rfl
  | @box j b p d h2 hb _ ih =>
    intro f c hf hc
    cases f with
    | zero=>omega
    | succ f =>
      simp only [Ghost.depI]
      have e:Int.toNat (pAt l j).2.1=b:=by rw [hb,Int.toNat_natCast]
      rw [if_pos h2,if_neg (by omega),e]
      rw [ih f (c+1) (by omega) (by omega)]
      omega
section
variable {l:List Pl} {k:Nat} {q:Pl} (hk:k<l.length)
include hk
theorem Al {j:Nat} (h:¬ j=k):pAt (l.set k q) j=pAt l j:=by
  show List.getD _ _ _=_
  rw [Vz l k j q (dft Zb) hk,if_neg h]
theorem AN3:pAt (l.set k q) k=q:=by
  show List.getD _ _ _=_
  rw [Vz l k k q (dft Zb) hk,if_pos rfl]
theorem AE5 {j:Nat} {p:Pl} {d:Nat} (h:Tj l j p d):¬ Wi l j k→Tj (l.set k q) j p d:=by
  induction h with
  | @top j h =>
    intro hn
    have e:pAt (l.set k q) j=pAt l j:=Al hk (fun e=>hn (by subst e; exact .refl j))
    rw [← e] at h ⊢
    exact .top h
  | @box j b p d h2 hb h ih =>
    intro hn
    have e:pAt (l.set k q) j=pAt l j:=Al hk (fun e=>hn (by subst e; exact .refl j))
    refine .box (by rw [e]; exact h2) (by rw [e]; exact hb) (ih (fun hw=>hn (.step h2 hb hw)))
theorem AQu {p':Pl} {d':Nat} (h':Tj (l.set k q) k p' d') {pk:Pl} {dk:Nat} (hkk:Tj l k pk dk) {j:Nat} (hw:Wi l j k):∀ {p:Pl} {d:Nat},Tj l j p d→p=pk∧∃ n,d=dk+n∧Tj (l.set k q) j p' (d'+n):=by
  induction hw with
  | refl j =>
    intro p d h
    obtain ⟨rfl,rfl⟩:=h.uniq hkk
    exact ⟨rfl,0,rfl,h'⟩
  | @step j b k h2 hb hw ih =>
    intro p d h
    by_cases hj:j=k
    · subst hj
      obtain ⟨rfl,rfl⟩:=h.uniq hkk
      exact ⟨rfl,0,rfl,h'⟩
    · cases h with
      | top h=>exact absurd h2 h
      | @box _ b' _ d _ hb' h =>
        obtain rfl:b=b':=by
          have:(pAt l j).2.1=(b:Int):=hb
          rw [this] at hb'
          exact Int.ofNat.inj hb'
        obtain ⟨e,n,e1,h3⟩:=ih hk h' hkk h
        have e2:pAt (l.set k q) j=pAt l j:=Al hk hj
        exact ⟨e,n+1,by omega,.box (by rw [e2]; exact h2) (by rw [e2]; exact hb) h3⟩
theorem BIb {j:Nat}:Wi (l.set k q) j k↔Wi l j k:=by
  constructor
  · intro h
    generalize hl:l.set k q=l' at h
    induction h with
    | refl j=>exact .refl j
    | @step j b k h2 hb _ ih =>
      subst hl
      by_cases hj:j=k
      · subst hj; exact .refl j
      · have e2:pAt (l.set k q) j=pAt l j:=Al hk hj
        have h2:(pAt (l.set k q) j).1=(2:Int):=h2
        have hb:(pAt (l.set k q) j).2.1=(b:Int):=hb
        rw [e2] at h2 hb
        exact .step h2 hb (ih hk rfl)
  · intro h
    induction h with
    | refl j=>exact .refl j
    | @step j b k h2 hb _ ih =>
      by_cases hj:j=k
      · subst hj; exact .refl j
      · have e2:pAt (l.set k q) j=pAt l j:=Al hk hj
        refine .step (b:=b) ?_ ?_ (ih hk)
        · show (pAt (l.set k q) j).1=(2:Int); rw [e2]; exact h2
        · show (pAt (l.set k q) j).2.1=(b:Int); rw [e2]; exact hb
end
structure P0 (w w':den Za) (k:Nat) (p':Pl) (d':Nat):Prop where
  wi:∀ j,WiW w' j k↔WiW w j k
  inn:∀ j,j<List.length (w.2.2.2.1:List (den Zb))→WiW w j k→Tj w'.2.2.2.1 j p' (d'+(X2 w j - X2 w k))∧X2 w k≤X2 w j∧V7 w j=V7 w k
  out:∀ j,j<List.length (w.2.2.2.1:List (den Zb))→¬ WiW w j k→Tj w'.2.2.2.1 j (V7 w j) (X2 w j)
theorem AFn {w:den Za} (h:Yg w) {k:Nat} (hk:k<List.length (w.2.2.2.1:List (den Zb))) {q p':Pl} {d':Nat} (h':Tj (List.set (w.2.2.2.1:List Pl) k q) k p' d'):P0 w (put w k q) k p' d':=by
  refine ⟨fun j=>BIb hk,fun j hj hw => ?_,fun j hj hn=>AE5 hk (h.hang hj) hn⟩
  obtain ⟨e,n,e1,h3⟩:=AQu hk h' (h.hang hk) hw (h.hang hj)
  have:X2 w j - X2 w k=n:=by omega
  rw [this]
  exact ⟨h3,by omega,e⟩
theorem AKa {w:den Za} (h:Yg w) {k:Nat} (hk:k<List.length (w.2.2.2.1:List (den Zb))) {q:Pl} (hq:¬ q.1=(2:Int)):P0 w (put w k q) k q 0:=by
  refine AFn h hk ?_
  have e:pAt (List.set (w.2.2.2.1:List Pl) k q) k=q:=AN3 hk
  have:=Tj.top (l:=List.set (w.2.2.2.1:List Pl) k q) (j:=k) (by rw [e]; exact hq)
  rw [e] at this
  exact this
theorem ABi {w:den Za} (h:Yg w) {k b:Nat} (hk:k<List.length (w.2.2.2.1:List (den Zb))) (hb:b<List.length (w.2.2.2.1:List (den Zb))) (hn:¬ WiW w b k):P0 w (put w k (Qd (b:Int))) k (V7 w b) (X2 w b+1):=by
  refine AFn h hk ?_
  have e:pAt (List.set (w.2.2.2.1:List Pl) k (Qd (b:Int))) k=Qd (b:Int):=AN3 hk
  exact .box (by rw [e]) (by rw [e]) (AE5 hk (h.hang hb) hn)
theorem P0.eqs {w w':den Za} {k:Nat} {p':Pl} {d':Nat} (m:P0 w w' k p' d') (h':Yg w') (hl:List.length (w'.2.2.2.1:List (den Zb))=List.length (w.2.2.2.1:List (den Zb))) {j:Nat} (hj:j<List.length (w.2.2.2.1:List (den Zb))) :
    (WiW w j k→V7 w' j=p'∧X2 w' j=d'+(X2 w j - X2 w k)∧X2 w k≤X2 w j∧V7 w j=V7 w k)∧(¬ WiW w j k→V7 w' j=V7 w j∧X2 w' j=X2 w j):=by
  constructor
  · intro hw
    obtain ⟨h1,h2,h3⟩:=m.inn j hj hw
    obtain ⟨e1,e2⟩:=h'.hang_eq (by rw [hl]; exact hj) h1
    exact ⟨e1,e2,h2,h3⟩
  · intro hn
    exact h'.hang_eq (by rw [hl]; exact hj) (m.out j hj hn)
theorem AQk {w:den Za} (h:Yg w) {i:Nat} (hi:i<List.length (w.2.2.2.1:List (den Zb))):X2 w i+Pk w i≤4:=by
  have h1:=(C2 h hi).2
  rcases D9 (w:=w) (i:=i) (List.length (w.2.2.2.1:List (den Zb))) with h0 | ⟨k,k1,k2,k3⟩
  · have h0:Pk w i=0:=h0
    omega
  · have h2:=(C2 h k1).2
    have h3:=(k2.facts h k1).2.2.1
    have k3:X2 w k - X2 w i=Pk w i:=k3
    omega
end Go.Proofs.YtjobjooccgledaaGreatDoor.Ghost
