/- What functions come to, and that the statements are answered with 'true'. Conditions: none. -/
import Derived.Test.YtpemapoblhleoaaGreatDoorS
import Derived.Test.YtpemapoblhleoaaGreatDoorGE
import Derived.Test.YtpemapoblhleoaaGreatDoorP1
import Derived.Test.YtpemapoblhleoaaGreatDoorP2
import Derived.Test.YtpemapoblhleoaaGreatDoorP3
import Derived.Test.YtpemapoblhleoaaGreatDoorP4
import Derived.Test.YtpemapoblhleoaaGreatDoorP5
import Derived.Test.YtpemapoblhleoaaGreatDoorP6
import Derived.Test.YtpemapoblhleoaaGreatDoorP7
import Derived.Test.YtpemapoblhleoaaGreatDoorP8
import Derived.Test.YtpemapoblhleoaaGreatDoorP9
import Derived.Test.YtpemapoblhleoaaGreatDoorP10
import Derived.Test.YtpemapoblhleoaaGreatDoorP11
import Derived.Test.YtpemapoblhleoaaGreatDoorP12
set_option linter.unusedVariables false
set_option linter.unusedSimpArgs false
set_option linter.unusedSectionVars false
set_option linter.unnecessarySimpa false
namespace Go.Proofs.YtpemapoblhleoaaGreatDoor.Ghost
open Go
theorem AB1 {w:den Za} {p:Pl} {s:Sn}:{n:Nat}→(s∈Mg w p n↔∃ j,j<n∧s=((j:Int),Y2 w j,())∧Jm w j=p)
  | 0=>⟨fun h=>by simp [Mg] at h,fun ⟨j,h,_⟩=>by omega⟩
  | n+1=>by
    simp only [Mg,List.mem_append]
    rw [AB1 (n:=n)]
    constructor
    · rintro (⟨j,h1,h2⟩ | h)
      · exact ⟨j,by omega,h2⟩
      · by_cases hr:Jm w n=p
        · rw [if_pos hr] at h; exact ⟨n,by omega,List.mem_singleton.1 h,hr⟩
        · rw [if_neg hr] at h; cases h
    · rintro ⟨j,h1,h2,h3⟩
      by_cases hj:j<n
      · exact .inl ⟨j,hj,h2,h3⟩
      · have:j=n:=by omega
        subst this
        rw [if_pos h3]
        exact .inr (List.mem_singleton.2 h2)
end Go.Proofs.YtpemapoblhleoaaGreatDoor.Ghost
namespace Go.Proofs.YtpemapoblhleoaaGreatDoor.Ghost
open Go
theorem AMy (w:den Za) (p:Pl):(n:Nat)→(Mg w p n).Pairwise (fun a b:Sn=>(a.1:Int)<b.1)
  | 0=>.nil
  | n+1=>by
    simp only [Mg]
    rw [List.pairwise_append]
    refine ⟨AMy w p n,?_,fun a ha b hb => ?_⟩
    · split
      · exact List.pairwise_singleton _ _
      · exact .nil
    · obtain ⟨j,h1,rfl,_⟩:=AB1.1 ha
      by_cases hp:Jm w n=p
      · rw [if_pos hp] at hb
        rw [List.mem_singleton.1 hb]
        show (j:Int)<(n:Int)
        omega
      · rw [if_neg hp] at hb; cases hb
theorem AQ4 {w:den Za} {p:Pl} {j:Nat} (hj:j<(Gb w p).length):∃ m,m<List.length (w.2.2.2.1:List (den Zb))∧List.getD (Gb w p) j (dft Z7)=((m:Int),Y2 w m,())∧Jm w m=p :=
  AB1.1 (Ff (dft Z7) hj)
theorem BJx {w:den Za} {p:Pl} {i j:Nat} (hij:i<j) (hj:j<(Gb w p).length):((List.getD (Gb w p) i (dft Z7)).1:Int)<(List.getD (Gb w p) j (dft Z7)).1:=by
  have hi:i<(Gb w p).length:=Nat.lt_trans hij hj
  have:=List.pairwise_iff_getElem.1 (AMy w p (List.length (w.2.2.2.1:List (den Zb)))) i j hi hj hij
  rw [List.getD_eq_getElem?_getD,List.getD_eq_getElem?_getD,List.getElem?_eq_getElem hj,List.getElem?_eq_getElem hi]
  exact this
def Tal (w:den Za) (lo hi:Nat→Prop) (o:List Int):Prop:=o.length=List.length (w.2.2.2.1:List (den Zb))∧∀ i,i<List.length (w.2.2.2.1:List (den Zb))→(List.getD o i (0:Int)=0∧¬ lo i)∨(List.getD o i (0:Int)=1∧hi i)
theorem Tal.mono {w:den Za} {lo hi lo' hi':Nat→Prop} {o:List Int} (h:Tal w lo hi o) (hl:∀ i,i<List.length (w.2.2.2.1:List (den Zb))→lo' i→lo i) (hh:∀ i,i<List.length (w.2.2.2.1:List (den Zb))→hi i→hi' i):Tal w lo' hi' o :=
  ⟨h.1,fun i hi=>(h.2 i hi).imp (fun e=>⟨e.1,fun e'=>e.2 (hl i hi e')⟩) (fun e=>⟨e.1,hh i hi e.2⟩)⟩
theorem Tal.zero (w:den Za) {lo hi:Nat→Prop} (h:∀ i,¬ lo i):Tal w lo hi (List.replicate (List.length (w.2.2.2.1:List (den Zb))) 0) :=
  ⟨List.length_replicate,fun i hi=>.inl ⟨by rw [List.getD_eq_getElem?_getD,List.getElem?_replicate,if_pos hi]; rfl,h i⟩⟩
def Dn (w:den Za) (p:Pl) (proc:Nat→Prop) (j:Nat) (i:Nat):Prop:=proc i∨∃ j',j'<j∧j'<(Gb w p).length∧((List.getD (Gb w p) j' (dft Z7)).1:Int)=(i:Int)
theorem Tal.step {w:den Za} {p:Pl} {lo hi:Nat→Prop} (hp:∀ i,hi i→¬ Jm w i=p) {j m:Nat} {o:List Int} (h:Tal w (Dn w p lo j) (Dn w p hi j) o) (hj:j<(Gb w p).length) (hm:((List.getD (Gb w p) j (dft Z7)).1:Int)=(m:Int)) (hml:m<List.length (w.2.2.2.1:List (den Zb))) (hmr:Jm w m=p) :
    List.getD o m (0:Int)=0∧Tal w (Dn w p lo (j+1)) (Dn w p hi (j+1)) (List.set o m 1):=by
  have h0:List.getD o m (0:Int)=0:=by
    rcases h.2 m hml with ⟨e,_⟩ | ⟨_,e | ⟨j',h1,h2,h3⟩⟩
    · exact e
    · exact absurd hmr (hp m e)
    · have:=BJx (w:=w) (p:=p) h1 hj
      rw [h3,hm] at this
      exact absurd this (Int.lt_irrefl _)
  refine ⟨h0,by rw [List.length_set]; exact h.1,fun i hi => ?_⟩
  rw [Hb o m i 1 0 (by rw [h.1]; exact hml)]
  by_cases hi2:i=m
  · subst hi2; rw [if_pos rfl]; exact .inr ⟨rfl,.inr ⟨j,by omega,hj,hm⟩⟩
  · rw [if_neg hi2]
    refine (h.2 i hi).imp (fun e=>⟨e.1,fun e'=>e.2 (e'.imp id (fun ⟨j',h1,h2,h3⟩=>⟨j',?_,h2,h3⟩))⟩) (fun e=>⟨e.1,e.2.imp id (fun ⟨j',h1,h2⟩=>⟨j',by omega,h2⟩)⟩)
    by_cases hjj:j'=j
    · subst hjj; rw [hm] at h3; exact absurd (Int.ofNat.inj h3).symm hi2
    · omega
theorem U7.good {w:den Za} (h:X3 w) {i:Nat} {p:Pl} {d:Nat} (hg:U7 w.2.2.2.1 i p d):i<List.length (w.2.2.2.1:List (den Zb))→Kh w.1 p:=by
  induction hg with
  | @top j h2=>exact fun hj=>h.good j hj
  | @box j b p d h2 hb _ ih=>exact fun hj=>ih (ABj h hj h2 hb).1
end Go.Proofs.YtpemapoblhleoaaGreatDoor.Ghost
namespace Go.Proofs.YtpemapoblhleoaaGreatDoor.Ghost
open Go
theorem AHe {w:den Za} {x:Int} {y:Int}:{n:Nat}→(y∈Ik w x n↔∃ j:Nat,j<n∧y=(j:Int)∧List.getD (w.2.1:List Int) j (0:Int)=x)
  | 0=>⟨fun h=>by simp [Ik] at h,fun ⟨j,h,_⟩=>by omega⟩
  | n+1=>by
    simp only [Ik,List.mem_append]
    rw [AHe (n:=n)]
    constructor
    · rintro (⟨j,h1,h2⟩ | h)
      · exact ⟨j,by omega,h2⟩
      · by_cases hr:List.getD (w.2.1:List Int) n (0:Int)=x
        · rw [if_pos hr] at h; exact ⟨n,by omega,List.mem_singleton.1 h,hr⟩
        · rw [if_neg hr] at h; cases h
    · rintro ⟨j,h1,h2,h3⟩
      by_cases hj:j<n
      · exact .inl ⟨j,hj,h2,h3⟩
      · have:j=n:=by omega
        subst this
        rw [if_pos h3]
        exact .inr (List.mem_singleton.2 h2)
theorem AQy {w:den Za} {x:Int} {k:Nat} (hk:k<(AEk w x).length):∃ j:Nat,j<List.length (w.2.1:List Int)∧List.getD (AEk w x) k (0:Int)=(j:Int)∧List.getD (w.2.1:List Int) j (0:Int)=x :=
  AHe.1 (Ff (0:Int) hk)
end Go.Proofs.YtpemapoblhleoaaGreatDoor.Ghost
namespace Go.Proofs.YtpemapoblhleoaaGreatDoor.Ghost
open Go
theorem Wo (a:Int):Zd (fun nf _ _ _=>Xw nf (a)) (fun r=>r=((decide (0≤a∧a≤1073741824),()),[])):=by
  refine Zd.succ (fun nf _ _ _=>Xw.eq nf _) ?_
  by_cases h:0≤a <;> simp [h]
structure AFd (r:den Zm):Prop where
  e:r.1=(0:Int)
  k:1≤(r.2.1:Int)∧(r.2.1:Int)≤10
  room:0≤(r.2.2.1:Int)∧(r.2.2.1:Int)≤1073741824
  coins:0≤(r.2.2.2.2.2.1:Int)∧(r.2.2.2.2.2.1:Int)≤1073741824
  lp:List.length (r.2.2.2.1:List Int)≤16
  li:List.length (r.2.2.2.2.1:List (den Z7))≤16
  ps:∀ i,i<List.length (r.2.2.2.1:List Int)→0≤List.getD (r.2.2.2.1:List Int) i (0:Int)∧List.getD (r.2.2.2.1:List Int) i (0:Int)≤1073741824
  it:∀ i,i<List.length (r.2.2.2.2.1:List (den Z7))→(0≤((List.getD (r.2.2.2.2.1:List (den Z7)) i (dft Z7)).1:Int)∧((List.getD (r.2.2.2.2.1:List (den Z7)) i (dft Z7)).1:Int)≤1073741824) ∧
    (0≤((List.getD (r.2.2.2.2.1:List (den Z7)) i (dft Z7)).2.1.2.1:Int)∧((List.getD (r.2.2.2.2.1:List (den Z7)) i (dft Z7)).2.1.2.1:Int)≤1073741824) ∧
    (((List.getD (r.2.2.2.2.1:List (den Z7)) i (dft Z7)).2.1.1:Int)=0∨((List.getD (r.2.2.2.2.1:List (den Z7)) i (dft Z7)).2.1.1:Int)=1∨((List.getD (r.2.2.2.2.1:List (den Z7)) i (dft Z7)).2.1.1:Int)=2)
  f1:(r.2.1:Int)=1∨(r.2.1:Int)=2∨(r.2.1:Int)=9∨(r.2.2.1:Int)=0
  f2:(r.2.1:Int)=9∨List.length (r.2.2.2.1:List Int)=0
  f3:9≤(r.2.1:Int)∨List.length (r.2.2.2.2.1:List (den Z7))=0
  f4:(r.2.1:Int)=10∨(r.2.2.2.2.2.1:Int)=0
theorem AQt {r:den Zm} (h:AFd r) (t0:den Zm) (t2:Bool) (t4:Int):∀ i,i≤List.length (r.2.2.2.2.1:List (den Z7))→Zd (fun nf fm0 _ _=>Zn.l1 nf fm0 t0 t2 (r.2.1) t4 ((i:Int)) (r)) (fun r=>r.1.1=true) :=
  upto (by
    refine Zd.succ1 (fun nf fm0 _ _=>Zn.l1_eq nf fm0 _ _ _ _ _ _) ?_
    have h1:=h.f1; have h2:=h.f2; have h3:=h.f3; have h4:=h.f4
    simp [-List.getD_eq_getElem?_getD,-List.length_eq_zero_iff,Zr,Zp,Z4,G2,Gl,Xk,Xj]
    ((try simp only [ARx,ARw,ARv] at *); (try simp only [oLt,oLe,oEq] at *); omega)) (fun i hi next=>by
    refine Zd.succ1 (fun nf fm0 _ _=>Zn.l1_eq nf fm0 _ _ _ _ _ _) ?_
    have h1:=h.li
    obtain ⟨a,b,c⟩:=h.it i hi
    rw [← Xm (by omega)] at next
    simp [-List.getD_eq_getElem?_getD,-List.length_eq_zero_iff,Zr,Zp,Z4,G2,Gl,Xk,Xj,Ze (Wo _),(Wo _).prop,next,hi,a,b]
    ((try simp only [ARx,ARw,ARv] at *); (try simp only [oLt,oLe,oEq] at *); omega))
theorem AQs {r:den Zm} (h:AFd r) (t0:den Zm) (t2:Bool):∀ i,i≤List.length (r.2.2.2.1:List Int)→Zd (fun nf fm0 _ _=>Zn.l0 nf fm0 t0 t2 (r.2.1) ((i:Int)) (r)) (fun r=>r.1.1=true) :=
  upto (by
    refine Zd.succ1 (fun nf fm0 _ _=>Zn.l0_eq nf fm0 _ _ _ _ _) ?_
    simp [-List.getD_eq_getElem?_getD,-List.length_eq_zero_iff,Zr,Zp,Z4,G2,Gl,Xk,Xj]
    exact (AQt h t0 t2 _ 0 (Nat.zero_le _)).enter) (fun i hi next=>by
    refine Zd.succ1 (fun nf fm0 _ _=>Zn.l0_eq nf fm0 _ _ _ _ _) ?_
    have h1:=h.lp
    have a:=h.ps i hi
    rw [← Xm (by omega)] at next
    simp [-List.getD_eq_getElem?_getD,-List.length_eq_zero_iff,Zr,Zp,Z4,G2,Gl,Xk,Xj,Ze (Wo _),(Wo _).prop,next,hi,a])
theorem AI0 {r:den Zm} (h:AFd r):Zd (fun nf _ _ _=>Zn nf (r)) (fun r=>r.1.1=true):=by
  refine Zd.succ (fun nf _ _ _=>Zn.eq nf _) ?_
  have h1:=h.e; have h2:=h.k; have h3:=h.room; have h4:=h.coins; have h5:=h.lp; have h6:=h.li
  have h0:=(AQs h r false 0 (Nat.zero_le _)).enter
  simp [-List.getD_eq_getElem?_getD,-List.length_eq_zero_iff,Zr,Zp,Z4,G2,Gl,Xk,Xj,Ze (Wo _),(Wo _).prop,h1,h3,h4]
  exact ⟨h2.1,fun _=>⟨h2.2,fun _=>⟨by omega,fun _=>⟨by omega,fun _=>h0⟩⟩⟩⟩
end Go.Proofs.YtpemapoblhleoaaGreatDoor.Ghost
namespace Go.Proofs.YtpemapoblhleoaaGreatDoor.Ghost
open Go
theorem AI6 {w:den Za} (h:X3 w) {m:Nat} (hm:m<List.length (w.2.2.2.1:List (den Zb))):(0≤((Y2 w m).2.1:Int)∧((Y2 w m).2.1:Int)≤1073741824)∧(((Y2 w m).1:Int)=0∨((Y2 w m).1:Int)=1∨((Y2 w m).1:Int)=2):=by
  have g:=h.good m hm
  have r1:=h.may.r1; have p1:=h.may.p1; have i1:=h.may.i1
  rcases g with ⟨a,b,c⟩ | ⟨a,b,c⟩ | ⟨a,⟨b,c⟩,_⟩
  · exact ⟨⟨b,Int.le_of_lt (Int.lt_of_lt_of_le c (by omega))⟩,.inl a⟩
  · exact ⟨⟨b,Int.le_of_lt (Int.lt_of_lt_of_le c (by omega))⟩,.inr (.inl a)⟩
  · exact ⟨⟨b,Int.le_of_lt (Int.lt_of_lt_of_le c (by omega))⟩,.inr (.inr a)⟩
theorem AHv {w:den Za} (h:X3 w) (p:Pl) {j:Nat} (hj:j<(Gb w p).length):(0≤((List.getD (Gb w p) j (dft Z7)).1:Int)∧((List.getD (Gb w p) j (dft Z7)).1:Int)≤1073741824) ∧
    (0≤((List.getD (Gb w p) j (dft Z7)).2.1.2.1:Int)∧((List.getD (Gb w p) j (dft Z7)).2.1.2.1:Int)≤1073741824) ∧
    (((List.getD (Gb w p) j (dft Z7)).2.1.1:Int)=0∨((List.getD (Gb w p) j (dft Z7)).2.1.1:Int)=1∨((List.getD (Gb w p) j (dft Z7)).2.1.1:Int)=2):=by
  obtain ⟨m,hm,he,_⟩:=AQ4 hj
  have:=h.may.i1; have:=h.w1
  have hp:=AI6 h hm
  rw [he]
  exact ⟨⟨by show (0:Int)≤(m:Int); omega,by show (m:Int)≤1073741824; omega⟩,hp.1,hp.2⟩
theorem AMh {w:den Za} (h:X3 w) {i:Nat} (hi:i<List.length (w.2.1:List Int)):AFd (AHd w i):=by
  have r1:=h.may.r1; have p1:=h.may.p1; have i1:=h.may.i1; have w1:=h.w1; have a1:=h.a1
  have hat:=(h.at_ i hi).1
  refine ⟨rfl,⟨by show (1:Int)≤9; decide,by show (9:Int)≤10; decide⟩,⟨hat.1,Int.le_of_lt (Int.lt_of_lt_of_le hat.2 (by omega))⟩,⟨by show (0:Int)≤0; decide,by show (0:Int)≤1073741824; decide⟩,Nat.le_trans (C6 w _ _) (by omega),Nat.le_trans (Iw w _ _) (by omega),fun j hj => ?_,fun j hj=>AHv h _ hj,.inr (.inr (.inl rfl)),.inl rfl,.inl (by show (9:Int)≤9; decide),.inr rfl⟩
  obtain ⟨m,hm,he,_⟩:=AQy hj
  have he:List.getD ((AHd w i).2.2.2.1:List Int) j (0:Int)=(m:Int):=he
  rw [he]
  exact ⟨by show (0:Int)≤(m:Int); omega,by show (m:Int)≤1073741824; omega⟩
theorem AQu {w:den Za} (h:X3 w) {i:Nat} (hi:i<List.length (w.2.1:List Int)):AFd (BJo w i):=by
  have i1:=h.may.i1; have w1:=h.w1
  exact ⟨rfl,⟨by show (1:Int)≤10; decide,by show (10:Int)≤10; decide⟩,⟨by show (0:Int)≤0; decide,by show (0:Int)≤1073741824; decide⟩,(h.at_ i hi).2,Nat.zero_le _,Nat.le_trans (Iw w _ _) (by omega),fun j hj=>absurd hj (Nat.not_lt_zero j),fun j hj=>AHv h _ hj,.inr (.inr (.inr rfl)),.inr rfl,.inl (by show (9:Int)≤10; decide),.inl rfl⟩
end Go.Proofs.YtpemapoblhleoaaGreatDoor.Ghost
namespace Go.Proofs.YtpemapoblhleoaaGreatDoor.Ghost
open Go
def Vy (l:List Int):Nat→Int
  | 0=>0
  | i+1=>Vy l i+List.getD l i 0
theorem Eb {l:List Int} (h:∀ i,i<l.length→Ha (List.getD l i 0)):(i:Nat)→i≤l.length→0≤Vy l i∧Vy l i≤1073741824 * (i:Int)
  | 0,_=>⟨Int.le_refl _,Int.le_refl _⟩
  | i+1,hi=>by
    have ih:=Eb h i (by omega)
    have:=h i (by omega)
    have h1:=this.1; have h2:=this.2
    simp only [Vy]
    omega
theorem Oz (l:List Int) {k:Nat} (hk:k<l.length) (v:Int):(i:Nat)→Vy (List.set l k v) i=Vy l i+(if k<i then v - List.getD l k 0 else 0)
  | 0=>by rw [if_neg (by omega)]; rfl
  | i+1=>by
    simp only [Vy]
    rw [Oz l hk v i,Hb _ _ _ _ _ hk]
    by_cases e:i=k
    · subst e
      rw [if_pos rfl,if_neg (by omega),if_pos (by omega)]
      omega
    · rw [if_neg e]
      by_cases g:k<i
      · rw [if_pos g,if_pos (by omega)]; omega
      · rw [if_neg g,if_neg (by omega)]; omega
theorem AE2 {w:den Za} (ok:Ok w):Zd (fun nf _ _ _=>Z3 nf (w)) (fun r=>r.1.1=Vy w.2.2.1 (List.length (w.2.2.1:List Int))):=by
  have hc1:=ok.right.c1
  have ha1:=ok.right.a1
  have hs:List.length (w.2.2.1:List Int)≤1048576:=ok.sm.wc
  have fit:∀ i,i<List.length (w.2.2.1:List Int)→Ha (List.getD (w.2.2.1:List Int) i 0):=fun i hi=>O0 ok.right (by omega)
  have l0:∀ (t0:(den Za)) (t2:Int),∀ i,i≤List.length (w.2.2.1:List Int)→Zd (fun nf fm0 _ _=>Z3.l0 nf fm0 t0 t2 (Vy w.2.2.1 i) ((i:Int)) (w)) (fun r=>r.1.1=Vy w.2.2.1 (List.length (w.2.2.1:List Int))):=by
    intros
    rename_i i hi
    revert i
    refine upto ?_ (fun i hi next => ?_)
    · refine Zd.succ1 (fun nf fm0 _ _=>Z3.l0_eq nf fm0 _ _ _ _ _) ?_
      simp [-List.getD_eq_getElem?_getD,-List.length_eq_zero_iff,Zr,Zp,Z4,Zy,Xk,Xj,Yt]
    · have h1:=Eb fit (i+1) (by omega)
      have e:IntKind.wrap .i64 (Vy w.2.2.1 i+List.getD (w.2.2.1:List Int) i 0)=Vy w.2.2.1 (i+1):=Hn (by show -9223372036854775808≤Vy w.2.2.1 (i+1); omega) (by show Vy w.2.2.1 (i+1)<_; omega)
      rw [← Xm (by omega)] at next
      refine Zd.succ1 (fun nf fm0 _ _=>Z3.l0_eq nf fm0 _ _ _ _ _) ?_
      simp [-List.getD_eq_getElem?_getD,-List.length_eq_zero_iff,Zr,Zp,Z4,Zy,Xk,Xj,Yt,hi,e]
      exact next
  refine Zd.succ (fun nf _ _ _=>Z3.eq nf _) ?_
  exact (l0 _ _ 0 (Nat.zero_le _)).enter
theorem AQ0 {w:den Za} (ok:Ok w) {p q:Nat} {gs ws:List Int} {pay fee:Int} (hp:p<List.length (w.2.1:List Int)) (h:AA0 w p q gs pay ws fee):Vy (tdW w p q gs pay ws fee).2.2.1 (List.length ((tdW w p q gs pay ws fee).2.2.1:List Int))=Vy w.2.2.1 (List.length (w.2.2.1:List Int)):=by
  have hc1:=ok.right.c1
  have ha1:=ok.right.a1
  have hqq:=h.hq
  show Vy (List.set (List.set (w.2.2.1:List Int) p (Qz w p - pay+fee)) (Int.toNat (q:Int)) (Qz w q - fee+pay)) (List.length (List.set (List.set (w.2.2.1:List Int) p (Qz w p - pay+fee)) (Int.toNat (q:Int)) (Qz w q - fee+pay)))=_
  rw [Int.toNat_natCast,List.length_set,List.length_set,Oz _ (by rw [List.length_set]; omega),Oz _ (by omega),if_pos (by omega),if_pos (by omega),Hb _ _ _ _ _ (by omega),if_neg (fun e=>h.lots.pq e.symm)]
  show _+(Qz w p - pay+fee - Qz w p)+(Qz w q - fee+pay - Qz w q)=_
  omega
end Go.Proofs.YtpemapoblhleoaaGreatDoor.Ghost
namespace Go.Proofs.YtpemapoblhleoaaGreatDoor.Ghost
open Go
abbrev Rng (e:Int):Prop:=0≤e∧e≤13
theorem AQd (w:den Za) (i d:Nat):Rng (goR w i d).2.2.1:=by
  unfold goR
  by_cases h:0≤Gi w i d
  · rw [if_pos h]; exact ⟨by show (0:Int)≤0; decide,by show (0:Int)≤13; decide⟩
  · rw [if_neg h]; exact ⟨by show (0:Int)≤4; decide,by show (4:Int)≤13; decide⟩
theorem AEm (w:den Za) (i:Nat) (q:Int):Rng (K4 w i q):=by
  unfold K4
  (repeat' split) <;> exact ⟨by decide,by decide⟩
theorem AEh (w:den Za) (k:Int) (p q:Pl):Rng (Vm w k p q):=by
  unfold Vm
  (repeat' split) <;> exact ⟨by decide,by decide⟩
theorem AGa (w:den Za) (i:Nat) (k b:Int):Rng (putErr w i k b):=by
  unfold putErr
  (repeat' split) <;> exact ⟨by decide,by decide⟩
theorem AE5 (w:den Za) (i:Nat) (k b:Int):Rng (takeErr w i k b):=by
  unfold takeErr
  (repeat' split) <;> exact ⟨by decide,by decide⟩
theorem ADl (w:den Za) (i:Nat) (k b:Int):Rng (giveErr w i k b):=by
  unfold giveErr
  (repeat' split) <;> exact ⟨by decide,by decide⟩
theorem AE3 (a b p f:Int):Rng (swapErr a b p f):=by
  unfold swapErr
  (repeat' split) <;> exact ⟨by decide,by decide⟩
theorem ACd (w:den Za) (p:Nat) (q:Int) (gs:List Int) (pay:Int) (ws:List Int) (fee:Int):Rng (tradeErr w p q gs pay ws fee):=by
  unfold tradeErr
  (repeat' split) <;> first | exact AE3 _ _ _ _ | exact ⟨by decide,by decide⟩
abbrev AP5 (w:den Za):Int:=Vy w.2.2.1 (List.length (w.2.2.1:List Int))
abbrev AQo (w:den Za):Nat:=List.length (w.2.2.2.1:List (den Zb))
structure AFf (w:den Za) (k:Int) (x:den Za×Int×Int×Unit):Prop where
  rng:Rng x.2.2.1
  sum:AP5 x.1=AP5 w
  len:AQo x.1=AQo w
  room:0≤x.2.1∧x.2.1≤1073741824
  r0:k=1∨k=2∨x.2.1=0
theorem Re:(0:Int)≤0∧(0:Int)≤1073741824:=⟨by decide,by decide⟩
theorem AHb {w:den Za} (ok:Ok w) {i d:Nat} (hi:i<List.length (w.2.1:List Int)) (hd:d<4) {k:Int} (hk:k=1∨k=2):AFf w k (goR w i d):=by
  refine ⟨AQd w i d,?_,?_,?_,hk.elim .inl (fun h=>.inr (.inl h))⟩
  · unfold goR; split <;> rfl
  · unfold goR; split <;> rfl
  · have r1:=ok.right.may.r1
    have he:=ok.right.exit hi hd
    unfold goR
    by_cases h:0≤Gi w i d
    · rw [if_pos h]
      refine ⟨h,?_⟩
      show Gi w i d≤1073741824
      omega
    · rw [if_neg h]; exact Re
theorem A6 {w:den Za} {k j:Int} {p q:Pl}:AFf w k ((Pb w j p q).1,0,(Pb w j p q).2.1,()):=by
  unfold Pb
  by_cases h:Vm w j p q=0
  · rw [if_pos h]; exact ⟨⟨by show (0:Int)≤0; decide,by show (0:Int)≤13; decide⟩,rfl,Ua _ _ _,Re,.inr (.inr rfl)⟩
  · rw [if_neg h]; exact ⟨AEh _ _ _ _,rfl,rfl,Re,.inr (.inr rfl)⟩
theorem AGk {w:den Za} (ok:Ok w) {i:Nat} (hi:i<List.length (w.2.1:List Int)) {c:Cm} (hm:Mv c):AFf w (Xg c) (J4 w i c):=by
  obtain ⟨d,hd,ed⟩:=hm.dir
  have ed':(Oi c).toNat=d:=by omega
  have z:Rng 0:=⟨by decide,by decide⟩
  unfold J4
  rw [ed']
  by_cases k1:Xg c=1
  · rw [if_pos k1]; exact AHb ok hi hd (.inl k1)
  rw [if_neg k1]
  by_cases k2:Xg c=2
  · rw [if_pos k2]
    unfold C8
    by_cases h:K4 w i (Hp c)=0
    · rw [if_pos h]
      obtain ⟨h1,h2,_⟩:=Wk h
      exact AHb ok (by omega) hd (.inr k2)
    · rw [if_neg h]; exact ⟨AEm _ _ _,rfl,rfl,Re,.inr (.inl k2)⟩
  rw [if_neg k2]
  by_cases k3:Xg c=3
  · rw [if_pos k3]; exact A6
  rw [if_neg k3]
  by_cases k4:Xg c=4
  · rw [if_pos k4]; exact A6
  rw [if_neg k4]
  by_cases k5:Xg c=5
  · rw [if_pos k5]
    unfold putR
    by_cases h:putErr w i (Yo c) (Gk c)=0
    · rw [if_pos h]; exact ⟨z,rfl,Ua _ _ _,Re,.inr (.inr rfl)⟩
    · rw [if_neg h]; exact ⟨AGa _ _ _ _,rfl,rfl,Re,.inr (.inr rfl)⟩
  rw [if_neg k5]
  by_cases k6:Xg c=6
  · rw [if_pos k6]
    unfold takeR
    by_cases h:takeErr w i (Yo c) (Gk c)=0
    · rw [if_pos h]; exact ⟨z,rfl,Ua _ _ _,Re,.inr (.inr rfl)⟩
    · rw [if_neg h]; exact ⟨AE5 _ _ _ _,rfl,rfl,Re,.inr (.inr rfl)⟩
  rw [if_neg k6]
  by_cases k7:Xg c=7
  · rw [if_pos k7]
    unfold T5
    by_cases h:giveErr w i (Yo c) (Hp c)=0
    · rw [if_pos h]; exact ⟨z,rfl,Ua _ _ _,Re,.inr (.inr rfl)⟩
    · rw [if_neg h]; exact ⟨ADl _ _ _ _,rfl,rfl,Re,.inr (.inr rfl)⟩
  rw [if_neg k7]
  by_cases k8:Xg c=8
  · rw [if_pos k8]
    unfold Kl
    by_cases h:tradeErr w i (Hp c) (Xi c) (Uh c) (Xp c) (Ug c)=0
    · rw [if_pos h]
      obtain ⟨n,e,ht⟩:=(Mr (Bm _ _)).1 h
      rw [e,Int.toNat_natCast]
      refine ⟨z,AQ0 ok hi ht,?_,Re,.inr (.inr rfl)⟩
      exact Bp ok hi ht
    · rw [if_neg h]; exact ⟨ACd _ _ _ _ _ _ _,rfl,rfl,Re,.inr (.inr rfl)⟩
  rw [if_neg k8]
  exact ⟨z,rfl,rfl,Re,.inr (.inr rfl)⟩
def AQ9 (r:den Zm) (k:Int):Prop:=(AFd r∧(r.2.1:Int)=k)∨(∃ e,r=Rj e∧1≤e∧e≤13)
theorem BJl {k r:Int} (h1:1≤k) (h2:k≤10) (hr:0≤r∧r≤1073741824) (h0:k=1∨k=2∨r=0):AFd (AHj k r):=by
  refine ⟨rfl,⟨h1,h2⟩,hr,Re,Nat.zero_le _,Nat.zero_le _,fun i hi=>absurd hi (Nat.not_lt_zero i),fun i hi=>absurd hi (Nat.not_lt_zero i),?_,.inr rfl,.inr rfl,.inr rfl⟩
  rcases h0 with h | h | h
  · exact .inl h
  · exact .inr (.inl h)
  · exact .inr (.inr (.inr h))
structure BKb (w:den Za) (x:den Za×den Zm×Unit) (c:Cm):Prop where
  ok:Ok x.1
  sum:AP5 x.1=AP5 w
  len:AQo x.1=AQo w
  at_:x.1.1=w.1
  rep:AQ9 x.2.1 (Xg c)
  same:¬ (x.2.1.1:Int)=0∨Xg c=9∨Xg c=10→x.1=w
theorem ALg {w:den Za} (ok:Ok w) {i:Nat} (hi:i<List.length (w.2.1:List Int)) (c:Cm):BKb w (doR w i c) c:=by
  have hk:=BJa ok hi c
  unfold doR at hk ⊢
  by_cases hm:Mv c
  · rw [if_pos hm] at hk ⊢
    have st:=AGk ok hi hm
    by_cases h9:Xg c=9
    · rw [if_pos h9]; exact ⟨ok,rfl,rfl,rfl,.inl ⟨AMh ok.right hi,h9.symm⟩,fun _=>rfl⟩
    rw [if_neg h9] at hk ⊢
    by_cases h10:Xg c=10
    · rw [if_pos h10]; exact ⟨ok,rfl,rfl,rfl,.inl ⟨AQu ok.right hi,h10.symm⟩,fun _=>rfl⟩
    rw [if_neg h10] at hk ⊢
    by_cases he:(J4 w i c).2.2.1=0
    · rw [if_pos he] at hk ⊢
      exact ⟨hk.1,st.sum,st.len,hk.2,.inl ⟨BJl hm.k1 hm.k2 st.room st.r0,rfl⟩,fun h=>by
        rcases h with h | h | h
        · exact absurd rfl h
        · exact absurd h h9
        · exact absurd h h10⟩
    · rw [if_neg he]
      have:=st.rng
      exact ⟨ok,rfl,rfl,rfl,.inr ⟨_,rfl,by omega,by omega⟩,fun _=>rfl⟩
  · rw [if_neg hm]
    exact ⟨ok,rfl,rfl,rfl,.inr ⟨2,rfl,by decide,by decide⟩,fun _=>rfl⟩
theorem AMb {e:Int} (h1:1≤e) (h2:e≤13):Zd (fun nf _ _ _=>Zn nf (Rj e)) (fun r=>r.1.1=true):=by
  have hs:=AGh (Rj e) (Rj e) (Nat.zero_le _) (Nat.zero_le _)
  unfold Rj at hs ⊢
  have a1:¬ e<0:=by omega
  have a2:¬ 13<e:=by omega
  have a3:¬ e=0:=by omega
  refine Zd.succ (fun nf _ _ _=>Zn.eq nf _) ?_
  simp [-List.getD_eq_getElem?_getD,-List.length_eq_zero_iff,Zr,Zp,Z4,G2,Gl,Xk,Xj,a1,a2,a3,Ze (hs),(hs).bprop]
theorem AMc {r:den Zm} {k:Int} (h:AQ9 r k):Zd (fun nf _ _ _=>Zn nf (r)) (fun r=>r.1.1=true):=by
  rcases h with ⟨h,_⟩ | ⟨e,rfl,h1,h2⟩
  · exact AI0 h
  · exact AMb h1 h2
theorem AL8 (l:List (den Yb)) (hl:l.length≤60) (t0:(den Za)) (t4:Bool):∀ j,j≤l.length→∀ w:den Za,Ok w→Zd (fun nf fm0 _ _=>Zl.l0 nf fm0 t0 (l) t4 ((j:Int)) (w)) (fun r=>r.1.1=true):=by
  refine upto (fun w ok => ?_) (fun j hj next w ok => ?_)
  · refine Zd.succ1 (fun nf fm0 _ _=>Zl.l0_eq nf fm0 _ _ _ _ _) ?_
    simp [-List.getD_eq_getElem?_getD,-List.length_eq_zero_iff,Zr,Zp,Z4,G2,Gl,Xk,Xj]
  · refine Zd.succ1 (fun nf fm0 _ _=>Zl.l0_eq nf fm0 _ _ _ _ _) ?_
    rw [← Xm (by omega)] at next
    have few:=AIf (List.getD l j (dft Yb)).2.1
    by_cases hf:AHz (List.getD l j (dft Yb)).2.1
    · obtain ⟨pp,ep⟩:∃ pp:Int,(List.getD l j (dft Yb)).1=pp:=⟨_,rfl⟩
      by_cases hp:0≤pp∧pp<(List.length (w.2.1:List Int):Int)
      · obtain ⟨i,ei⟩:∃ i:Nat,pp=(i:Int):=⟨pp.toNat,by omega⟩
        have hi:i<List.length (w.2.1:List Int):=by omega
        have k:=ALg ok hi (List.getD l j (dft Yb)).2.1
        have pd:=AEl ok hi hf
        generalize doR w i (List.getD l j (dft Yb)).2.1=x at k pd
        have n:=next x.1 k.ok
        have hr:=Hs x.1
        have rr:=k.ok.right
        have s1:=AE2 k.ok
        have s2:=AE2 ok
        have ss:=k.sum
        have ll:=k.len
        have m:=AMc k.rep
        have kk:(x.2.1.1:Int)=0→(x.2.1.2.1:Int)=Xg (List.getD l j (dft Yb)).2.1:=fun h0=>by
          rcases k.rep with ⟨_,h⟩ | ⟨e,h,h3,h4⟩
          · exact h
          · rw [h] at h0
            have h0:e=0:=h0
            omega
        have sa:=k.same
        by_cases e:(x.2.1.1:Int)=0
        · have kk:=kk e
          by_cases c9:Xg (List.getD l j (dft Yb)).2.1=9
          · have xw:=sa (.inr (.inl c9))
            rw [xw] at n
            simp [-List.getD_eq_getElem?_getD,-List.length_eq_zero_iff,Zr,Zp,Z4,G2,Gl,Xk,Xj,hj,Ze (few),(few).bprop,hf,ep,ei,hi,Ze (pd),(pd).prop,Ze (Hs w),(Hs w).bprop,ok.right,Ze (s2),(s2).prop,Ze (m),(m).prop,Ze (Wx w w ok.sm ok.sm),(Wx w w ok.sm ok.sm).bprop,e,kk,c9,xw,n]
          · by_cases c10:Xg (List.getD l j (dft Yb)).2.1=10
            · have xw:=sa (.inr (.inr c10))
              rw [xw] at n
              simp [-List.getD_eq_getElem?_getD,-List.length_eq_zero_iff,Zr,Zp,Z4,G2,Gl,Xk,Xj,hj,Ze (few),(few).bprop,hf,ep,ei,hi,Ze (pd),(pd).prop,Ze (Hs w),(Hs w).bprop,ok.right,Ze (s2),(s2).prop,Ze (m),(m).prop,Ze (Wx w w ok.sm ok.sm),(Wx w w ok.sm ok.sm).bprop,e,kk,c10,xw,n]
            · simp [-List.getD_eq_getElem?_getD,-List.length_eq_zero_iff,Zr,Zp,Z4,G2,Gl,Xk,Xj,hj,Ze (few),(few).bprop,hf,ep,ei,hi,Ze (pd),(pd).prop,Ze (hr),(hr).bprop,rr,Ze (s1),(s1).prop,Ze (s2),(s2).prop,ss,ll,Ze (m),(m).prop,e,kk,c9,c10,n]
        · have xw:=sa (.inl e)
          rw [xw] at n
          simp [-List.getD_eq_getElem?_getD,-List.length_eq_zero_iff,Zr,Zp,Z4,G2,Gl,Xk,Xj,hj,Ze (few),(few).bprop,hf,ep,ei,hi,Ze (pd),(pd).prop,Ze (Hs w),(Hs w).bprop,ok.right,Ze (s2),(s2).prop,Ze (m),(m).prop,Ze (Wx w w ok.sm ok.sm),(Wx w w ok.sm ok.sm).bprop,e,xw,n]
      · by_cases h1:pp<0
        · simp [-List.getD_eq_getElem?_getD,-List.length_eq_zero_iff,Zr,Zp,Z4,G2,Gl,Xk,Xj,hj,Ze (few),(few).bprop,hf,ep,h1]
        · have h2:(List.length (w.2.1:List Int):Int)≤pp:=by omega
          simp [-List.getD_eq_getElem?_getD,-List.length_eq_zero_iff,Zr,Zp,Z4,G2,Gl,Xk,Xj,hj,Ze (few),(few).bprop,hf,ep,h1,h2]
    · simp [-List.getD_eq_getElem?_getD,-List.length_eq_zero_iff,Zr,Zp,Z4,G2,Gl,Xk,Xj,hj,Ze (few),(few).bprop,hf]
theorem Dm (w:den Za) (l:List (den Yb)) (hw:wfD Za w) (_:wfD (.sl Yb) l):Zd (fun nf _ _ _=>Zl nf (w) (l)) (fun r=>r.1.1=true):=by
  refine Zd.succ (fun nf _ _ _=>Zl.eq nf _ _) ?_
  simp [-List.getD_eq_getElem?_getD,-List.length_eq_zero_iff,Zr,Zp,Z4,Zy,Xk,Xj,Yt,Ze (AGr),(AGr).prop,Ze ((ALl w).fit),((ALl w).fit).bprop]
  intro fit hl
  have ok:=BVq hw fit.few fit.right
  exact (AL8 l (by omega) _ _ 0 (Nat.zero_le _) w ok).enter
end Go.Proofs.YtpemapoblhleoaaGreatDoor.Ghost
