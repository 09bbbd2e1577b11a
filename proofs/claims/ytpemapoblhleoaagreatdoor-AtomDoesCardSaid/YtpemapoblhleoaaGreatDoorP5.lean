/- What functions come to, and that the statements are answered with 'true'. Conditions: none. -/
import Derived.Test.YtpemapoblhleoaaGreatDoorS
import Derived.Test.YtpemapoblhleoaaGreatDoorGE
import Derived.Test.YtpemapoblhleoaaGreatDoorP1
import Derived.Test.YtpemapoblhleoaaGreatDoorP2
import Derived.Test.YtpemapoblhleoaaGreatDoorP3
import Derived.Test.YtpemapoblhleoaaGreatDoorP4
set_option linter.unusedVariables false
set_option linter.unusedSimpArgs false
set_option linter.unusedSectionVars false
set_option linter.unnecessarySimpa false
namespace Go.Proofs.YtpemapoblhleoaaGreatDoor.Ghost
open Go
theorem Lx (w:den Za) (i:Nat):¬ (Qx w i).1=(2:Int):=fun e=>by
  have:(0:Int)=2:=e
  cases this
theorem Oj (i:Nat):¬ (Wa i).1=(2:Int):=fun e=>by
  have:(1:Int)=2:=e
  cases this
theorem Ym.good_floor {w:den Za} (h:Ym w) {i:Nat} (hi:i<List.length (w.2.1:List Int)):Hp w.1 (Qx w i):=.inl ⟨rfl,(h.at_ i hi).1⟩
theorem Ym.good_me {w:den Za} (h:Ym w) {i:Nat} (hi:i<List.length (w.2.1:List Int)):Hp w.1 (Wa i):=by
  have:=h.a1
  exact .inr (.inl ⟨rfl,Int.natCast_nonneg i,Int.ofNat_lt.2 (by omega)⟩)
end Go.Proofs.YtpemapoblhleoaaGreatDoor.Ghost
namespace Go.Proofs.YtpemapoblhleoaaGreatDoor.Ghost
open Go
end Go.Proofs.YtpemapoblhleoaaGreatDoor.Ghost
namespace Go.Proofs.YtpemapoblhleoaaGreatDoor.Ghost
open Go
theorem A8 {l:List Pl}:(k:Nat)→(p:Pl)→Lk l k p→Rk l (k+1) p=Rk l k p
  | 0,p,h=>by
    have h:¬ p.1=(2:Int):=h
    simp only [Rk]; rw [if_neg h]
  | k+1,p,h=>by
    show (if p.1=(2:Int) then Rk l (k+1) (List.getD l (Int.toNat p.2.1) (dft Zb)) else p)=(if p.1=(2:Int) then Rk l k (List.getD l (Int.toNat p.2.1) (dft Zb)) else p)
    by_cases h2:p.1=(2:Int)
    · rw [if_pos h2,if_pos h2,A8 k _ (h h2)]
    · rw [if_neg h2,if_neg h2]
theorem AGl {w:den Za} (h:Ym w) {j:Nat} (hj:j<List.length (w.2.2.2.1:List (den Zb))) (h2:(Qr w j).1=(2:Int)):∃ b:Nat,(Qr w j).2.1=(b:Int)∧b<List.length (w.2.2.2.1:List (den Zb))∧Q7 w j=Q7 w b:=by
  have hin:=h.inPl j hj h2
  refine ⟨Int.toNat (Qr w j).2.1,(Int.toNat_of_nonneg hin.1).symm,(Int.toNat_lt hin.1).2 hin.2,?_⟩
  have he:Lk w.2.2.2.1 50 (Qr w (Int.toNat (Qr w j).2.1)):=h.ends hj h2
  show Rk w.2.2.2.1 (50+1) (Qr w j)=Rk w.2.2.2.1 (50+1) (Qr w (Int.toNat (Qr w j).2.1))
  rw [A8 50 _ he]
  show (if (Qr w j).1=(2:Int) then _ else _)=_
  rw [if_pos h2]
end Go.Proofs.YtpemapoblhleoaaGreatDoor.Ghost
namespace Go.Proofs.YtpemapoblhleoaaGreatDoor.Ghost
open Go
inductive Wi (l:List Pl):Nat→Nat→Prop
  | refl (i:Nat):Wi l i i
  | step {i b j:Nat} (h2:(List.getD l i (dft Zb)).1=(2:Int)) (hb:(List.getD l i (dft Zb)).2.1=(b:Int)) (h:Wi l b j):Wi l i j
theorem Wi.trans {l:List Pl} {i j k:Nat} (h:Wi l i j) (h':Wi l j k):Wi l i k:=by
  induction h with
  | refl=>exact h'
  | step h2 hb _ ih=>exact .step h2 hb (ih h')
theorem ANl {l:List Pl} (hin:∀ i,i<l.length→inPl l (List.getD l i (dft Zb))):(k:Nat)→(i j:Nat)→i<l.length→Lk l k (List.getD l i (dft Zb))→(Ox l k (i:Int) (j:Int)↔Wi l i j)
  | 0,i,j,hi,he=>by
    have he:¬ (List.getD l i (dft Zb)).1=(2:Int):=he
    refine ⟨fun h=>by rw [Int.ofNat.inj h]; exact .refl j,fun h => ?_⟩
    cases h with
    | refl=>rfl
    | step h2 _ _=>exact absurd h2 he
  | k+1,i,j,hi,he=>by
    simp only [Ox,Int.toNat_natCast]
    constructor
    · rintro (h | ⟨h2,h⟩)
      · rw [Int.ofNat.inj h]; exact .refl j
      · have hb:=hin i hi h2
        have e:=(Int.toNat_of_nonneg hb.1).symm
        rw [e] at h
        exact .step h2 e ((ANl hin k _ j ((Int.toNat_lt hb.1).2 hb.2) (he h2)).1 h)
    · intro h
      cases h with
      | refl=>exact .inl rfl
      | @step _ b _ h2 hb h =>
        have hbn:=hin i hi h2
        have he2:=he h2
        rw [hb] at hbn he2
        rw [Int.toNat_natCast] at he2
        refine .inr ⟨h2,?_⟩
        rw [hb]
        exact (ANl hin k b j (Int.ofNat_lt.1 hbn.2) he2).2 h
theorem Lk.succ {l:List Pl}:(k:Nat)→(p:Pl)→Lk l k p→Lk l (k+1) p
  | 0,p,h=>fun h2=>absurd h2 h
  | k+1,p,h=>fun h2=>Lk.succ k _ (h h2)
abbrev WiW (w:den Za) (i j:Nat):Prop:=Wi (w.2.2.2.1:List Pl) i j
theorem AGm {l:List Pl} (hin:∀ i,i<l.length→inPl l (List.getD l i (dft Zb))) (j:Nat):(k:Nat)→(i:Nat)→i<l.length→Lk l k (List.getD l i (dft Zb))→((∃ x∈Hk l k (List.getD l i (dft Zb)),x=Ye (j:Int))↔(¬ i=j∧Wi l i j)∨∃ b:Nat,(List.getD l i (dft Zb)).1=(2:Int)∧(List.getD l i (dft Zb)).2.1=(b:Int)∧Wi l b j)
  | 0,i,hi,he=>by
    have he:¬ (List.getD l i (dft Zb)).1=(2:Int):=he
    simp only [Hk,List.mem_singleton]
    constructor
    · rintro ⟨x,rfl,hx⟩
      exact absurd (congrArg (fun p:Pl=>(p.1:Int)) hx) he
    · rintro (⟨h1,h2⟩ | ⟨b,h2,_⟩)
      · cases h2 with
        | refl=>exact absurd rfl h1
        | step h2 _ _=>exact absurd h2 he
      · exact absurd h2 he
  | k+1,i,hi,he=>by
    simp only [Hk]
    by_cases h2:(List.getD l i (dft Zb)).1=(2:Int)
    · rw [if_pos h2]
      have hb:=hin i hi h2
      have e:=(Int.toNat_of_nonneg hb.1).symm
      have hlt:=(Int.toNat_lt hb.1).2 hb.2
      have ih:=AGm hin j k _ hlt (he h2)
      constructor
      · rintro ⟨x,hx,rfl⟩
        refine .inr ⟨_,h2,e,?_⟩
        rcases List.mem_cons.1 hx with hx | hx
        · have:(j:Int)=(List.getD l i (dft Zb)).2.1:=congrArg (fun p:Pl=>(p.2.1:Int)) hx
          rw [← this,Int.toNat_natCast]; exact .refl j
        · rcases ih.1 ⟨_,hx,rfl⟩ with h | ⟨b',g1,g2,g3⟩
          · exact h.2
          · exact .step g1 g2 g3
      · intro h
        have key:∀ b:Nat,(List.getD l i (dft Zb)).2.1=(b:Int)→Wi l b j→∃ x∈List.getD l i (dft Zb) :: Hk l k (List.getD l (Int.toNat (List.getD l i (dft Zb)).2.1) (dft Zb)),x=Ye (j:Int):=fun b hb' hw=>by
          by_cases hbj:b=j
          · subst hbj
            exact ⟨_,List.mem_cons_self,Prod.ext h2 (Prod.ext hb' rfl)⟩
          · have eb:Int.toNat (List.getD l i (dft Zb)).2.1=b:=by rw [hb',Int.toNat_natCast]
            rw [eb] at ih ⊢
            obtain ⟨x,hx,hxe⟩:=ih.2 (.inl ⟨hbj,hw⟩)
            exact ⟨x,List.mem_cons_of_mem _ hx,hxe⟩
        rcases h with ⟨h1,h3⟩ | ⟨b,_,g2,g3⟩
        · cases h3 with
          | refl=>exact absurd rfl h1
          | @step _ b _ _ hb' hw=>exact key b hb' hw
        · exact key b g2 g3
    · rw [if_neg h2]
      constructor
      · rintro ⟨x,hx,hxe⟩
        rw [List.mem_singleton.1 hx] at hxe
        exact absurd (congrArg (fun p:Pl=>(p.1:Int)) hxe) h2
      · rintro (⟨h1,h3⟩ | ⟨b,g1,_⟩)
        · cases h3 with
          | refl=>exact absurd rfl h1
          | step g _ _=>exact absurd g h2
        · exact absurd g1 h2
theorem ACi {l:List Pl}:(k:Nat)→(p:Pl)→Lk l k p→Oh l (k+1) p=Oh l k p
  | 0,p,h=>by
    have h:¬ p.1=(2:Int):=h
    simp only [Oh]; rw [if_neg h]
  | k+1,p,h=>by
    show (if p.1=(2:Int) then Oh l (k+1) (List.getD l (Int.toNat p.2.1) (dft Zb))+1 else 0)=(if p.1=(2:Int) then Oh l k (List.getD l (Int.toNat p.2.1) (dft Zb))+1 else 0)
    by_cases h2:p.1=(2:Int)
    · rw [if_pos h2,if_pos h2,ACi k _ (h h2)]
    · rw [if_neg h2,if_neg h2]
theorem ARe {w:den Za} {j:Nat} (h2:¬ (Qr w j).1=(2:Int)):Yd w j=0:=by
  show (if (Qr w j).1=(2:Int) then _ else 0)=0
  rw [if_neg h2]
theorem AIv {w:den Za} (h:Ym w) {j b:Nat} (hj:j<List.length (w.2.2.2.1:List (den Zb))) (h2:(Qr w j).1=(2:Int)) (hb:(Qr w j).2.1=(b:Int)):b<List.length (w.2.2.2.1:List (den Zb))∧Yd w j=Yd w b+1:=by
  have hin:=h.inPl j hj h2
  have e:Int.toNat (Qr w j).2.1=b:=by rw [hb,Int.toNat_natCast]
  refine ⟨by rw [← e]; exact (Int.toNat_lt hin.1).2 hin.2,?_⟩
  have he:Lk w.2.2.2.1 50 (Qr w (Int.toNat (Qr w j).2.1)):=h.ends hj h2
  rw [e] at he
  show Oh w.2.2.2.1 (50+1) (Qr w j)=Oh w.2.2.2.1 (50+1) (Qr w b)+1
  rw [ACi 50 _ he]
  show (if (Qr w j).1=(2:Int) then Oh w.2.2.2.1 50 (Qr w (Int.toNat (Qr w j).2.1))+1 else 0)=_
  rw [if_pos h2,e]
theorem AM6 {l:List Pl}:(f c:Nat)→(p:Pl)→depI l f c p≤4→depI l f c p=c+Oh l f p
  | 0,c,p,h=>by
    simp only [depI,Oh] at h ⊢
    by_cases h2:p.1=(2:Int)
    · rw [if_pos h2] at h; omega
    · rw [if_neg h2]; rfl
  | f+1,c,p,h=>by
    simp only [depI,Oh] at h ⊢
    by_cases h2:p.1=(2:Int)
    · rw [if_pos h2] at h ⊢
      rw [if_pos h2]
      by_cases h50:50<c+1
      · rw [if_pos h50] at h; omega
      · rw [if_neg h50] at h ⊢
        rw [AM6 f (c+1) _ h]; omega
    · rw [if_neg h2,if_neg h2]; rfl
theorem Ig {w:den Za} (h:Ym w) {i:Nat} (hi:i<List.length (w.2.2.2.1:List (den Zb))):depI w.2.2.2.1 51 0 (Qr w i)=Yd w i∧Yd w i≤4:=by
  have h4:=(h.deep i hi).1
  have:=AM6 51 0 _ h4
  rw [Nat.zero_add] at this
  exact ⟨this,Nat.le_trans (Nat.le_of_eq this.symm) h4⟩
theorem Wi.facts {w:den Za} (h:Ym w) {i j:Nat} (hw:WiW w i j):i<List.length (w.2.2.2.1:List (den Zb))→j<List.length (w.2.2.2.1:List (den Zb))∧Q7 w i=Q7 w j∧Yd w j≤Yd w i∧(¬ i=j→Yd w j<Yd w i):=by
  induction hw with
  | refl i=>exact fun hi=>⟨hi,rfl,Nat.le_refl _,fun e=>absurd rfl e⟩
  | @step i b j h2 hb hw ih =>
    intro hi
    obtain ⟨hbl,hd⟩:=AIv h hi h2 hb
    obtain ⟨b',e,_,er⟩:=AGl h hi h2
    obtain rfl:b=b':=Int.ofNat.inj (hb.symm.trans e)
    obtain ⟨i1,i2,i3,i4⟩:=ih hbl
    exact ⟨i1,er.trans i2,by omega,fun _=>by omega⟩
open Classical in
noncomputable def hgtL (w:den Za) (i:Nat):Nat→Nat
  | 0=>0
  | n+1=>Nat.max (hgtL w i n) (if WiW w n i then Yd w n - Yd w i else 0)
noncomputable abbrev Ro (w:den Za) (i:Nat):Nat:=hgtL w i (List.length (w.2.2.2.1:List (den Zb)))
theorem AIp {w:den Za} {i k:Nat}:{n:Nat}→k<n→WiW w k i→Yd w k - Yd w i≤hgtL w i n
  | 0,h,_=>by omega
  | n+1,h,hw=>by
    simp only [hgtL]
    by_cases hk:k<n
    · exact Nat.le_trans (AIp hk hw) (Nat.le_max_left _ _)
    · have:k=n:=by omega
      subst this
      rw [if_pos hw]; exact Nat.le_max_right _ _
theorem C2 {w:den Za} {i:Nat}:(n:Nat)→hgtL w i n=0∨∃ k,k<n∧WiW w k i∧Yd w k - Yd w i=hgtL w i n
  | 0=>.inl rfl
  | n+1=>by
    simp only [hgtL]
    by_cases hw:WiW w n i
    · rw [if_pos hw]
      rcases Nat.le_total (hgtL w i n) (Yd w n - Yd w i) with h | h
      · rw [show Nat.max _ _=Yd w n - Yd w i from Nat.max_eq_right h]
        exact .inr ⟨n,by omega,hw,rfl⟩
      · rw [show Nat.max _ _=hgtL w i n from Nat.max_eq_left h]
        rcases C2 (w:=w) (i:=i) n with h1 | ⟨k,h1,h2,h3⟩
        · exact .inl h1
        · exact .inr ⟨k,by omega,h2,h3⟩
    · rw [if_neg hw,show Nat.max (hgtL w i n) 0=hgtL w i n from Nat.max_eq_left (Nat.zero_le _)]
      rcases C2 (w:=w) (i:=i) n with h1 | ⟨k,h1,h2,h3⟩
      · exact .inl h1
      · exact .inr ⟨k,by omega,h2,h3⟩
theorem BRo (a b:Nat):(if (a:Int)<(b:Int) then (b:Int) else (a:Int))=((Nat.max a b:Nat):Int):=by
  by_cases h:a<b
  · rw [if_pos (by omega),show Nat.max a b=b from Nat.max_eq_right (by omega)]
  · rw [if_neg (by omega),show Nat.max a b=a from Nat.max_eq_left (by omega)]
end Go.Proofs.YtpemapoblhleoaaGreatDoor.Ghost
namespace Go.Proofs.YtpemapoblhleoaaGreatDoor.Ghost
open Go
theorem Ly (w:den Za) (h:Ym w) {i:Nat} (hi:i<List.length (w.2.2.2.1:List (den Zb))) (j:Nat):Zd (fun n _ _ _=>Xy n w (i:Int) (j:Int)) (fun r=>r.1.1=true↔WiW w i j) :=
  (Nu w h (j:Int) 51 i hi (h.ends hi)).mono (fun _ hv=>hv.trans (ANl h.inPl 51 i j hi (h.ends hi)))
theorem Rc (w:den Za) (h:Ym w) {i:Nat} (hi:i<List.length (w.2.2.2.1:List (den Zb))) (j:Nat):Zd (fun n _ _ _=>Wy n w (i:Int) (j:Int)) (fun r=>r.1.1=true↔WiW w i j):=by
  by_cases hij:i=j
  · subst hij
    refine Zd.succ (G:=fun _ _ _ _=>some ((true,()),[])) (fun n _ _ _ => ?_) (Zd.ret ⟨fun _=>.refl i,fun _=>rfl⟩)
    show (match (if (i:Int)=(i:Int) then some true else _:Option Bool) with | some r=>some ((r,()),[]) | none=>none)=_
    rw [if_pos rfl]
  · have hne:¬ (i:Int)=(j:Int):=fun e=>hij (Int.ofNat.inj e)
    refine Zd.succ (G:=fun _ _ _ _=>some (((Hk w.2.2.2.1 51 (Qr w i)).any (fun x=>eqT Zb x (Ye (j:Int))),()),[])) (fun n _ _ _ => ?_) (Zd.ret ?_)
    · show (match (Cx w (i:Int) (j:Int)) with | some r=>some ((r,()),[]) | none=>none)=_
      unfold Cx
      rw [if_neg hne,if_pos ⟨Int.natCast_nonneg i,Int.ofNat_lt.2 hi⟩,Int.toNat_natCast,Eh h.inPl 51 60 _ (h.inPl i hi) (h.ends hi) (by omega)]
    · show (Hk w.2.2.2.1 51 (Qr w i)).any (fun x=>eqT Zb x (Ye (j:Int)))=true↔_
      rw [List.any_eq_true]
      have hc:=AGm h.inPl j 51 i hi (h.ends hi)
      constructor
      · rintro ⟨x,hx,hxe⟩
        rcases hc.1 ⟨x,hx,(Tm _ _).1 hxe⟩ with g | ⟨b,g1,g2,g3⟩
        · exact g.2
        · exact .step g1 g2 g3
      · intro hw
        obtain ⟨x,hx,hxe⟩:=hc.2 (.inl ⟨hij,hw⟩)
        exact ⟨x,hx,(Tm _ _).2 hxe⟩
theorem Uz (w:den Za) (h:Ym w) {i:Nat} (hi:i<List.length (w.2.2.2.1:List (den Zb))):Zd (fun n _ _ _=>J2 n w (i:Int)) (fun r=>r.1.1=(Yd w i:Int)):=by
  refine Zd.succ (fun n _ _ _=>J2.eq n w i) (Zd.call (AIy w i) (fun v hv => ?_))
  subst hv
  refine Zd.call (I7 w h hi) (fun u hu => ?_)
  subst hu
  have hl:(Hk w.2.2.2.1 51 (Qr w i)).length=Yd w i+1:=Et w.2.2.2.1 51 (Qr w i)
  have hd:Yd w i≤51:=Cy w.2.2.2.1 51 (Qr w i)
  refine Zd.ret ?_
  show IntKind.wrap .i64 ((List.length (Hk w.2.2.2.1 51 (Qr w i)):Int) - 1)=(Yd w i:Int)
  rw [hl,Vy (by omega) (by omega)]; omega
theorem Lw (w:den Za) (ok:Ok w) {i:Nat} (hi:i<List.length (w.2.2.2.1:List (den Zb))) (t0:den Za) (t4:Int):(r n0:Nat)→n0+r=List.length (w.2.2.2.1:List (den Zb)) →
    Zd (fun n m _ _=>Xs.l0 n m t0 (i:Int) t4 (hgtL w i n0:Int) (List.length (w.2.2.2.1:List (den Zb)):Int) (n0:Int) w) (fun r=>r.1.1=(Ro w i:Int))
  | 0,n0,hn=>by
    refine Zd.succ1 (fun n m _ _=>Xs.l0_eq n m t0 i t4 _ _ n0 w) (Zd.bifF (decide_eq_false (by omega)) (Zd.ret ?_))
    rw [show n0=List.length (w.2.2.2.1:List (den Zb)) by omega]
  | r+1,n0,hn=>by
    have hlen:=ok.sm.wh
    have hl:n0<List.length (w.2.2.2.1:List (den Zb)):=by omega
    have next:=Lw w ok hi t0 t4 r (n0+1) (by omega)
    rw [← Xm (by omega)] at next
    refine Zd.succ1 (fun n m _ _=>Xs.l0_eq n m t0 i t4 _ _ n0 w) (Zd.bifT (decide_eq_true (by omega)) (Zd.call (Rc w ok.right hl i) (fun v hv=>Zd.bif (fun hb => ?_) (fun hb => ?_))))
    · have hw:=hv.1 hb
      refine Zd.call (Uz w ok.right hl) (fun u hu=>Zd.call (Uz w ok.right hi) (fun u2 hu2 => ?_))
      rw [hu,hu2]
      obtain ⟨_,_,hd,_⟩:=hw.facts ok.right hl
      have h51:Yd w n0≤51:=Cy w.2.2.2.1 51 (Qr w n0)
      have e:IntKind.wrap .i64 ((Yd w n0:Int) - (Yd w i:Int))=((Yd w n0 - Yd w i:Nat):Int):=by rw [Vy (by omega) (by omega)]; omega
      rw [e,BRo]
      simp only [hgtL] at next
      rw [if_pos hw] at next
      exact next
    · have hw:¬ WiW w n0 i:=fun h=>by rw [hv.2 h] at hb; cases hb
      simp only [hgtL] at next
      rw [if_neg hw,show Nat.max (hgtL w i n0) 0=hgtL w i n0 from Nat.max_eq_left (Nat.zero_le _)] at next
      exact next
theorem Nd (w:den Za) (ok:Ok w) {i:Nat} (hi:i<List.length (w.2.2.2.1:List (den Zb))):Zd (fun n _ _ _=>Xs n w (i:Int)) (fun r=>r.1.1=(Ro w i:Int)) :=
  Zd.succ (fun n _ _ _=>Xs.eq n w i) (Lw w ok hi w 0 _ 0 (Nat.zero_add _)).enter
end Go.Proofs.YtpemapoblhleoaaGreatDoor.Ghost
namespace Go.Proofs.YtpemapoblhleoaaGreatDoor.Ghost
open Go
abbrev pAt (l:List Pl) (j:Nat):Pl:=List.getD l j (dft Zb)
inductive Rl (l:List Pl):Nat→Pl→Nat→Prop
  | top {j:Nat} (h:¬ (pAt l j).1=(2:Int)):Rl l j (pAt l j) 0
  | box {j b:Nat} {p:Pl} {d:Nat} (h2:(pAt l j).1=(2:Int)) (hb:(pAt l j).2.1=(b:Int)) (h:Rl l b p d):Rl l j p (d+1)
theorem Rl.uniq {l:List Pl} {j:Nat} {p q:Pl} {d e:Nat} (h:Rl l j p d) (h':Rl l j q e):p=q∧d=e:=by
  induction h generalizing q e with
  | top h =>
    cases h' with
    | top=>exact ⟨rfl,rfl⟩
    | box h2=>exact absurd h2 h
  | box h2 hb _ ih =>
    cases h' with
    | top h=>exact absurd h2 h
    | box _ hb' h' =>
      rw [hb] at hb'
      obtain rfl:=Int.ofNat.inj hb'
      obtain ⟨e1,e2⟩:=ih h'
      exact ⟨e1,by rw [e2]⟩
theorem AJf {w:den Za} (h:Ym w):(d:Nat)→(i:Nat)→i<List.length (w.2.2.2.1:List (den Zb))→Yd w i=d→Rl w.2.2.2.1 i (Q7 w i) (Yd w i)
  | d,i,hi,hd=>by
    by_cases h2:(Qr w i).1=(2:Int)
    · obtain ⟨b,e,hb,er⟩:=AGl h hi h2
      obtain ⟨_,ed⟩:=AIv h hi h2 e
      cases d with
      | zero=>omega
      | succ d =>
        rw [er,ed]
        exact .box h2 e (AJf h d b hb (by omega))
    · have e1:Yd w i=0:=ARe h2
      have e2:Q7 w i=Qr w i:=AB3 h2 51
      rw [e1,e2]
      exact .top h2
theorem Ym.hang {w:den Za} (h:Ym w) {i:Nat} (hi:i<List.length (w.2.2.2.1:List (den Zb))):Rl w.2.2.2.1 i (Q7 w i) (Yd w i):=AJf h _ i hi rfl
theorem Ym.hang_eq {w:den Za} (h:Ym w) {i:Nat} (hi:i<List.length (w.2.2.2.1:List (den Zb))) {p:Pl} {d:Nat} (h':Rl w.2.2.2.1 i p d):Q7 w i=p∧Yd w i=d:=(h.hang hi).uniq h'
theorem Rl.depI {l:List Pl} {j:Nat} {p:Pl} {d:Nat} (h:Rl l j p d):∀ f c,d≤f→c+d≤50→depI l f c (pAt l j)=c+d:=by
  induction h with
  | @top j h =>
    intro f c _ _
    cases f with
    | zero=>simp only [Ghost.depI]; rw [if_neg h]; rfl
    | succ f=>simp only [Ghost.depI]; rw [if_neg h]; rfl
  | @box j b p d h2 hb _ ih =>
    intro f c hf hc
    cases f with
    | zero=>omega
    | succ f =>
      simp only [Ghost.depI]
      have e:Int.toNat (pAt l j).2.1=b:=by rw [hb,Int.toNat_natCast]
      rw [if_pos h2,if_neg (by omega),e]
      rw [ih f (c+1) (by omega) (by omega)]
      omega
section
variable {l:List Pl} {k:Nat} {q:Pl} (hk:k<l.length)
include hk
theorem Az {j:Nat} (h:¬ j=k):pAt (l.set k q) j=pAt l j:=by
  show List.getD _ _ _=_
  rw [Uy l k j q (dft Zb) hk,if_neg h]
theorem AM1:pAt (l.set k q) k=q:=by
  show List.getD _ _ _=_
  rw [Uy l k k q (dft Zb) hk,if_pos rfl]
theorem AF0 {j:Nat} {p:Pl} {d:Nat} (h:Rl l j p d):¬ Wi l j k→Rl (l.set k q) j p d:=by
  induction h with
  | @top j h =>
    intro hn
    have e:pAt (l.set k q) j=pAt l j:=Az hk (fun e=>hn (by subst e; exact .refl j))
    rw [← e] at h ⊢
    exact .top h
  | @box j b p d h2 hb h ih =>
    intro hn
    have e:pAt (l.set k q) j=pAt l j:=Az hk (fun e=>hn (by subst e; exact .refl j))
    refine .box (by rw [e]; exact h2) (by rw [e]; exact hb) (ih (fun hw=>hn (.step h2 hb hw)))
theorem AO4 {p':Pl} {d':Nat} (h':Rl (l.set k q) k p' d') {pk:Pl} {dk:Nat} (hkk:Rl l k pk dk) {j:Nat} (hw:Wi l j k):∀ {p:Pl} {d:Nat},Rl l j p d→p=pk∧∃ n,d=dk+n∧Rl (l.set k q) j p' (d'+n):=by
  induction hw with
  | refl j =>
    intro p d h
    obtain ⟨rfl,rfl⟩:=h.uniq hkk
    exact ⟨rfl,0,rfl,h'⟩
  | @step j b k h2 hb hw ih =>
    intro p d h
    by_cases hj:j=k
    · subst hj
      obtain ⟨rfl,rfl⟩:=h.uniq hkk
      exact ⟨rfl,0,rfl,h'⟩
    · cases h with
      | top h=>exact absurd h2 h
      | @box _ b' _ d _ hb' h =>
        obtain rfl:b=b':=by
          have:(pAt l j).2.1=(b:Int):=hb
          rw [this] at hb'
          exact Int.ofNat.inj hb'
        obtain ⟨e,n,e1,h3⟩:=ih hk h' hkk h
        have e2:pAt (l.set k q) j=pAt l j:=Az hk hj
        exact ⟨e,n+1,by omega,.box (by rw [e2]; exact h2) (by rw [e2]; exact hb) h3⟩
theorem BHd {j:Nat}:Wi (l.set k q) j k↔Wi l j k:=by
  constructor
  · intro h
    generalize hl:l.set k q=l' at h
    induction h with
    | refl j=>exact .refl j
    | @step j b k h2 hb _ ih =>
      subst hl
      by_cases hj:j=k
      · subst hj; exact .refl j
      · have e2:pAt (l.set k q) j=pAt l j:=Az hk hj
        have h2:(pAt (l.set k q) j).1=(2:Int):=h2
        have hb:(pAt (l.set k q) j).2.1=(b:Int):=hb
        rw [e2] at h2 hb
        exact .step h2 hb (ih hk rfl)
  · intro h
    induction h with
    | refl j=>exact .refl j
    | @step j b k h2 hb _ ih =>
      by_cases hj:j=k
      · subst hj; exact .refl j
      · have e2:pAt (l.set k q) j=pAt l j:=Az hk hj
        refine .step (b:=b) ?_ ?_ (ih hk)
        · show (pAt (l.set k q) j).1=(2:Int); rw [e2]; exact h2
        · show (pAt (l.set k q) j).2.1=(b:Int); rw [e2]; exact hb
end
structure O2 (w w':den Za) (k:Nat) (p':Pl) (d':Nat):Prop where
  wi:∀ j,WiW w' j k↔WiW w j k
  inn:∀ j,j<List.length (w.2.2.2.1:List (den Zb))→WiW w j k→Rl w'.2.2.2.1 j p' (d'+(Yd w j - Yd w k))∧Yd w k≤Yd w j∧Q7 w j=Q7 w k
  out:∀ j,j<List.length (w.2.2.2.1:List (den Zb))→¬ WiW w j k→Rl w'.2.2.2.1 j (Q7 w j) (Yd w j)
theorem AEv {w:den Za} (h:Ym w) {k:Nat} (hk:k<List.length (w.2.2.2.1:List (den Zb))) {q p':Pl} {d':Nat} (h':Rl (List.set (w.2.2.2.1:List Pl) k q) k p' d'):O2 w (put w k q) k p' d':=by
  refine ⟨fun j=>BHd hk,fun j hj hw => ?_,fun j hj hn=>AF0 hk (h.hang hj) hn⟩
  obtain ⟨e,n,e1,h3⟩:=AO4 hk h' (h.hang hk) hw (h.hang hj)
  have:Yd w j - Yd w k=n:=by omega
  rw [this]
  exact ⟨h3,by omega,e⟩
theorem AJw {w:den Za} (h:Ym w) {k:Nat} (hk:k<List.length (w.2.2.2.1:List (den Zb))) {q:Pl} (hq:¬ q.1=(2:Int)):O2 w (put w k q) k q 0:=by
  refine AEv h hk ?_
  have e:pAt (List.set (w.2.2.2.1:List Pl) k q) k=q:=AM1 hk
  have:=Rl.top (l:=List.set (w.2.2.2.1:List Pl) k q) (j:=k) (by rw [e]; exact hq)
  rw [e] at this
  exact this
theorem ABn {w:den Za} (h:Ym w) {k b:Nat} (hk:k<List.length (w.2.2.2.1:List (den Zb))) (hb:b<List.length (w.2.2.2.1:List (den Zb))) (hn:¬ WiW w b k):O2 w (put w k (Ye (b:Int))) k (Q7 w b) (Yd w b+1):=by
  refine AEv h hk ?_
  have e:pAt (List.set (w.2.2.2.1:List Pl) k (Ye (b:Int))) k=Ye (b:Int):=AM1 hk
  exact .box (by rw [e]) (by rw [e]) (AF0 hk (h.hang hb) hn)
theorem O2.eqs {w w':den Za} {k:Nat} {p':Pl} {d':Nat} (m:O2 w w' k p' d') (h':Ym w') (hl:List.length (w'.2.2.2.1:List (den Zb))=List.length (w.2.2.2.1:List (den Zb))) {j:Nat} (hj:j<List.length (w.2.2.2.1:List (den Zb))) :
    (WiW w j k→Q7 w' j=p'∧Yd w' j=d'+(Yd w j - Yd w k)∧Yd w k≤Yd w j∧Q7 w j=Q7 w k)∧(¬ WiW w j k→Q7 w' j=Q7 w j∧Yd w' j=Yd w j):=by
  constructor
  · intro hw
    obtain ⟨h1,h2,h3⟩:=m.inn j hj hw
    obtain ⟨e1,e2⟩:=h'.hang_eq (by rw [hl]; exact hj) h1
    exact ⟨e1,e2,h2,h3⟩
  · intro hn
    exact h'.hang_eq (by rw [hl]; exact hj) (m.out j hj hn)
theorem ASe {w:den Za} (h:Ym w) {i:Nat} (hi:i<List.length (w.2.2.2.1:List (den Zb))):Yd w i+Ro w i≤4:=by
  have h1:=(Ig h hi).2
  rcases C2 (w:=w) (i:=i) (List.length (w.2.2.2.1:List (den Zb))) with h0 | ⟨k,k1,k2,k3⟩
  · have h0:Ro w i=0:=h0
    omega
  · have h2:=(Ig h k1).2
    have h3:=(k2.facts h k1).2.2.1
    have k3:Yd w k - Yd w i=Ro w i:=k3
    omega
end Go.Proofs.YtpemapoblhleoaaGreatDoor.Ghost
