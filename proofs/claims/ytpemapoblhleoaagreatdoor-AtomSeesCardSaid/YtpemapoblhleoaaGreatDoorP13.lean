/- What functions come to, and that the statements are answered with 'true'. Conditions: none. -/
import Derived.Test.YtpemapoblhleoaaGreatDoorS
import Derived.Test.YtpemapoblhleoaaGreatDoorGE
import Derived.Test.YtpemapoblhleoaaGreatDoorP1
import Derived.Test.YtpemapoblhleoaaGreatDoorP2
import Derived.Test.YtpemapoblhleoaaGreatDoorP3
import Derived.Test.YtpemapoblhleoaaGreatDoorP4
import Derived.Test.YtpemapoblhleoaaGreatDoorP5
import Derived.Test.YtpemapoblhleoaaGreatDoorP6
import Derived.Test.YtpemapoblhleoaaGreatDoorP7
import Derived.Test.YtpemapoblhleoaaGreatDoorP8
import Derived.Test.YtpemapoblhleoaaGreatDoorP9
import Derived.Test.YtpemapoblhleoaaGreatDoorP10
import Derived.Test.YtpemapoblhleoaaGreatDoorP11
import Derived.Test.YtpemapoblhleoaaGreatDoorP12
set_option linter.unusedVariables false
set_option linter.unusedSimpArgs false
set_option linter.unusedSectionVars false
set_option linter.unnecessarySimpa false
namespace Go.Proofs.YtpemapoblhleoaaGreatDoor.Ghost
open Go
theorem T4 {w:den Za} {p:Pl} {s:Sn}:{n:Nat}→(s∈Mc w p n↔∃ j,j<n∧s=((j:Int),Yr w j,())∧Qa w j=p)
  | 0=>⟨fun h=>by simp [Mc] at h,fun ⟨j,h,_⟩=>by omega⟩
  | n+1=>by
    simp only [Mc,List.mem_append]
    rw [T4 (n:=n)]
    constructor
    · rintro (⟨j,h1,h2⟩ | h)
      · exact ⟨j,by omega,h2⟩
      · by_cases hr:Qa w n=p
        · rw [if_pos hr] at h; exact ⟨n,by omega,List.mem_singleton.1 h,hr⟩
        · rw [if_neg hr] at h; cases h
    · rintro ⟨j,h1,h2,h3⟩
      by_cases hj:j<n
      · exact .inl ⟨j,hj,h2,h3⟩
      · have:j=n:=by omega
        subst this
        rw [if_pos h3]
        exact .inr (List.mem_singleton.2 h2)
end Go.Proofs.YtpemapoblhleoaaGreatDoor.Ghost
namespace Go.Proofs.YtpemapoblhleoaaGreatDoor.Ghost
open Go
theorem AGx (w:den Za) (p:Pl):(n:Nat)→(Mc w p n).Pairwise (fun a b:Sn=>(a.1:Int)<b.1)
  | 0=>.nil
  | n+1=>by
    simp only [Mc]
    rw [List.pairwise_append]
    refine ⟨AGx w p n,?_,fun a ha b hb => ?_⟩
    · split
      · exact List.pairwise_singleton _ _
      · exact .nil
    · obtain ⟨j,h1,rfl,_⟩:=T4.1 ha
      by_cases hp:Qa w n=p
      · rw [if_pos hp] at hb
        rw [List.mem_singleton.1 hb]
        show (j:Int)<(n:Int)
        omega
      · rw [if_neg hp] at hb; cases hb
theorem ARb {w:den Za} {p:Pl} {j:Nat} (hj:j<(J2 w p).length):∃ m,m<List.length (w.2.2.2.1:List (den Zb))∧List.getD (J2 w p) j (dft Z2)=((m:Int),Yr w m,())∧Qa w m=p :=
  T4.1 (Fi (dft Z2) hj)
theorem BHj {w:den Za} {p:Pl} {i j:Nat} (hij:i<j) (hj:j<(J2 w p).length):((List.getD (J2 w p) i (dft Z2)).1:Int)<(List.getD (J2 w p) j (dft Z2)).1:=by
  have hi:i<(J2 w p).length:=Nat.lt_trans hij hj
  have:=List.pairwise_iff_getElem.1 (AGx w p (List.length (w.2.2.2.1:List (den Zb)))) i j hi hj hij
  rw [List.getD_eq_getElem?_getD,List.getD_eq_getElem?_getD,List.getElem?_eq_getElem hj,List.getElem?_eq_getElem hi]
  exact this
def Tal (w:den Za) (lo hi:Nat→Prop) (o:List Int):Prop:=o.length=List.length (w.2.2.2.1:List (den Zb))∧∀ i,i<List.length (w.2.2.2.1:List (den Zb))→(List.getD o i (0:Int)=0∧¬ lo i)∨(List.getD o i (0:Int)=1∧hi i)
theorem Tal.mono {w:den Za} {lo hi lo' hi':Nat→Prop} {o:List Int} (h:Tal w lo hi o) (hl:∀ i,i<List.length (w.2.2.2.1:List (den Zb))→lo' i→lo i) (hh:∀ i,i<List.length (w.2.2.2.1:List (den Zb))→hi i→hi' i):Tal w lo' hi' o :=
  ⟨h.1,fun i hi=>(h.2 i hi).imp (fun e=>⟨e.1,fun e'=>e.2 (hl i hi e')⟩) (fun e=>⟨e.1,hh i hi e.2⟩)⟩
theorem Tal.zero (w:den Za) {lo hi:Nat→Prop} (h:∀ i,¬ lo i):Tal w lo hi (List.replicate (List.length (w.2.2.2.1:List (den Zb))) 0) :=
  ⟨List.length_replicate,fun i hi=>.inl ⟨by rw [List.getD_eq_getElem?_getD,List.getElem?_replicate,if_pos hi]; rfl,h i⟩⟩
def Dt (w:den Za) (p:Pl) (proc:Nat→Prop) (j:Nat) (i:Nat):Prop:=proc i∨∃ j',j'<j∧j'<(J2 w p).length∧((List.getD (J2 w p) j' (dft Z2)).1:Int)=(i:Int)
theorem Tal.step {w:den Za} {p:Pl} {lo hi:Nat→Prop} (hp:∀ i,hi i→¬ Qa w i=p) {j m:Nat} {o:List Int} (h:Tal w (Dt w p lo j) (Dt w p hi j) o) (hj:j<(J2 w p).length) (hm:((List.getD (J2 w p) j (dft Z2)).1:Int)=(m:Int)) (hml:m<List.length (w.2.2.2.1:List (den Zb))) (hmr:Qa w m=p) :
    List.getD o m (0:Int)=0∧Tal w (Dt w p lo (j+1)) (Dt w p hi (j+1)) (List.set o m 1):=by
  have h0:List.getD o m (0:Int)=0:=by
    rcases h.2 m hml with ⟨e,_⟩ | ⟨_,e | ⟨j',h1,h2,h3⟩⟩
    · exact e
    · exact absurd hmr (hp m e)
    · have:=BHj (w:=w) (p:=p) h1 hj
      rw [h3,hm] at this
      exact absurd this (Int.lt_irrefl _)
  refine ⟨h0,by rw [List.length_set]; exact h.1,fun i hi => ?_⟩
  rw [Kr o m i 1 0 (by rw [h.1]; exact hml)]
  by_cases hi2:i=m
  · subst hi2; rw [if_pos rfl]; exact .inr ⟨rfl,.inr ⟨j,by omega,hj,hm⟩⟩
  · rw [if_neg hi2]
    refine (h.2 i hi).imp (fun e=>⟨e.1,fun e'=>e.2 (e'.imp id (fun ⟨j',h1,h2,h3⟩=>⟨j',?_,h2,h3⟩))⟩) (fun e=>⟨e.1,e.2.imp id (fun ⟨j',h1,h2⟩=>⟨j',by omega,h2⟩)⟩)
    by_cases hjj:j'=j
    · subst hjj; rw [hm] at h3; exact absurd (Int.ofNat.inj h3).symm hi2
    · omega
theorem U2.good {w:den Za} (h:X0 w) {i:Nat} {p:Pl} {d:Nat} (hg:U2 w.2.2.2.1 i p d):i<List.length (w.2.2.2.1:List (den Zb))→Kf w.1 p:=by
  induction hg with
  | @top j h2=>exact fun hj=>h.good j hj
  | @box j b p d h2 hb _ ih=>exact fun hj=>ih (ABx h hj h2 hb).1
end Go.Proofs.YtpemapoblhleoaaGreatDoor.Ghost
namespace Go.Proofs.YtpemapoblhleoaaGreatDoor.Ghost
open Go
theorem AHm {w:den Za} {x:Int} {y:Int}:{n:Nat}→(y∈Il w x n↔∃ j:Nat,j<n∧y=(j:Int)∧List.getD (w.2.1:List Int) j (0:Int)=x)
  | 0=>⟨fun h=>by simp [Il] at h,fun ⟨j,h,_⟩=>by omega⟩
  | n+1=>by
    simp only [Il,List.mem_append]
    rw [AHm (n:=n)]
    constructor
    · rintro (⟨j,h1,h2⟩ | h)
      · exact ⟨j,by omega,h2⟩
      · by_cases hr:List.getD (w.2.1:List Int) n (0:Int)=x
        · rw [if_pos hr] at h; exact ⟨n,by omega,List.mem_singleton.1 h,hr⟩
        · rw [if_neg hr] at h; cases h
    · rintro ⟨j,h1,h2,h3⟩
      by_cases hj:j<n
      · exact .inl ⟨j,hj,h2,h3⟩
      · have:j=n:=by omega
        subst this
        rw [if_pos h3]
        exact .inr (List.mem_singleton.2 h2)
theorem AQ1 {w:den Za} {x:Int} {k:Nat} (hk:k<(AE0 w x).length):∃ j:Nat,j<List.length (w.2.1:List Int)∧List.getD (AE0 w x) k (0:Int)=(j:Int)∧List.getD (w.2.1:List Int) j (0:Int)=x :=
  AHm.1 (Fi (0:Int) hk)
end Go.Proofs.YtpemapoblhleoaaGreatDoor.Ghost
namespace Go.Proofs.YtpemapoblhleoaaGreatDoor.Ghost
open Go
structure ANc (r:den Zn):Prop where
  e:r.1=(0:Int)
  k:1≤(r.2.1:Int)∧(r.2.1:Int)≤10
  room:0≤(r.2.2.1:Int)∧(r.2.2.1:Int)≤1073741824
  coins:0≤(r.2.2.2.2.2.1:Int)∧(r.2.2.2.2.2.1:Int)≤1073741824
  lp:List.length (r.2.2.2.1:List Int)≤16
  li:List.length (r.2.2.2.2.1:List (den Z2))≤16
  ps:∀ i,i<List.length (r.2.2.2.1:List Int)→0≤List.getD (r.2.2.2.1:List Int) i (0:Int)∧List.getD (r.2.2.2.1:List Int) i (0:Int)≤1073741824
  it:∀ i,i<List.length (r.2.2.2.2.1:List (den Z2))→(0≤((List.getD (r.2.2.2.2.1:List (den Z2)) i (dft Z2)).1:Int)∧((List.getD (r.2.2.2.2.1:List (den Z2)) i (dft Z2)).1:Int)≤1073741824) ∧
    (0≤((List.getD (r.2.2.2.2.1:List (den Z2)) i (dft Z2)).2.1.2.1:Int)∧((List.getD (r.2.2.2.2.1:List (den Z2)) i (dft Z2)).2.1.2.1:Int)≤1073741824) ∧
    (((List.getD (r.2.2.2.2.1:List (den Z2)) i (dft Z2)).2.1.1:Int)=0∨((List.getD (r.2.2.2.2.1:List (den Z2)) i (dft Z2)).2.1.1:Int)=1∨((List.getD (r.2.2.2.2.1:List (den Z2)) i (dft Z2)).2.1.1:Int)=2)
  f1:(r.2.1:Int)=1∨(r.2.1:Int)=2∨(r.2.1:Int)=9∨(r.2.2.1:Int)=0
  f2:(r.2.1:Int)=9∨List.length (r.2.2.2.1:List Int)=0
  f3:9≤(r.2.1:Int)∨List.length (r.2.2.2.2.1:List (den Z2))=0
  f4:(r.2.1:Int)=10∨(r.2.2.2.2.2.1:Int)=0
end Go.Proofs.YtpemapoblhleoaaGreatDoor.Ghost
namespace Go.Proofs.YtpemapoblhleoaaGreatDoor.Ghost
open Go
theorem AI8 {w:den Za} (h:X0 w) {m:Nat} (hm:m<List.length (w.2.2.2.1:List (den Zb))):(0≤((Yr w m).2.1:Int)∧((Yr w m).2.1:Int)≤1073741824)∧(((Yr w m).1:Int)=0∨((Yr w m).1:Int)=1∨((Yr w m).1:Int)=2):=by
  have g:=h.good m hm
  have r1:=h.may.r1; have p1:=h.may.p1; have i1:=h.may.i1
  rcases g with ⟨a,b,c⟩ | ⟨a,b,c⟩ | ⟨a,⟨b,c⟩,_⟩
  · exact ⟨⟨b,Int.le_of_lt (Int.lt_of_lt_of_le c (by omega))⟩,.inl a⟩
  · exact ⟨⟨b,Int.le_of_lt (Int.lt_of_lt_of_le c (by omega))⟩,.inr (.inl a)⟩
  · exact ⟨⟨b,Int.le_of_lt (Int.lt_of_lt_of_le c (by omega))⟩,.inr (.inr a)⟩
theorem AHz {w:den Za} (h:X0 w) (p:Pl) {j:Nat} (hj:j<(J2 w p).length):(0≤((List.getD (J2 w p) j (dft Z2)).1:Int)∧((List.getD (J2 w p) j (dft Z2)).1:Int)≤1073741824) ∧
    (0≤((List.getD (J2 w p) j (dft Z2)).2.1.2.1:Int)∧((List.getD (J2 w p) j (dft Z2)).2.1.2.1:Int)≤1073741824) ∧
    (((List.getD (J2 w p) j (dft Z2)).2.1.1:Int)=0∨((List.getD (J2 w p) j (dft Z2)).2.1.1:Int)=1∨((List.getD (J2 w p) j (dft Z2)).2.1.1:Int)=2):=by
  obtain ⟨m,hm,he,_⟩:=ARb hj
  have:=h.may.i1; have:=h.w1
  have hp:=AI8 h hm
  rw [he]
  exact ⟨⟨by show (0:Int)≤(m:Int); omega,by show (m:Int)≤1073741824; omega⟩,hp.1,hp.2⟩
theorem AMe {w:den Za} (h:X0 w) {i:Nat} (hi:i<List.length (w.2.1:List Int)):ANc (AAm w i):=by
  have r1:=h.may.r1; have p1:=h.may.p1; have i1:=h.may.i1; have w1:=h.w1; have a1:=h.a1
  have hat:=(h.at_ i hi).1
  refine ⟨rfl,⟨by show (1:Int)≤9; decide,by show (9:Int)≤10; decide⟩,⟨hat.1,Int.le_of_lt (Int.lt_of_lt_of_le hat.2 (by omega))⟩,⟨by show (0:Int)≤0; decide,by show (0:Int)≤1073741824; decide⟩,Nat.le_trans (Bd w _ _) (by omega),Nat.le_trans (Nl w _ _) (by omega),fun j hj => ?_,fun j hj=>AHz h _ hj,.inr (.inr (.inl rfl)),.inl rfl,.inl (by show (9:Int)≤9; decide),.inr rfl⟩
  obtain ⟨m,hm,he,_⟩:=AQ1 hj
  have he:List.getD ((AAm w i).2.2.2.1:List Int) j (0:Int)=(m:Int):=he
  rw [he]
  exact ⟨by show (0:Int)≤(m:Int); omega,by show (m:Int)≤1073741824; omega⟩
theorem AQx {w:den Za} (h:X0 w) {i:Nat} (hi:i<List.length (w.2.1:List Int)):ANc (AMk w i):=by
  have i1:=h.may.i1; have w1:=h.w1
  exact ⟨rfl,⟨by show (1:Int)≤10; decide,by show (10:Int)≤10; decide⟩,⟨by show (0:Int)≤0; decide,by show (0:Int)≤1073741824; decide⟩,(h.at_ i hi).2,Nat.zero_le _,Nat.le_trans (Nl w _ _) (by omega),fun j hj=>absurd hj (Nat.not_lt_zero j),fun j hj=>AHz h _ hj,.inr (.inr (.inr rfl)),.inr rfl,.inl (by show (9:Int)≤10; decide),.inl rfl⟩
end Go.Proofs.YtpemapoblhleoaaGreatDoor.Ghost
namespace Go.Proofs.YtpemapoblhleoaaGreatDoor.Ghost
open Go
def Tu (l:List Int):Nat→Int
  | 0=>0
  | i+1=>Tu l i+List.getD l i 0
theorem Or (l:List Int) {k:Nat} (hk:k<l.length) (v:Int):(i:Nat)→Tu (List.set l k v) i=Tu l i+(if k<i then v - List.getD l k 0 else 0)
  | 0=>by rw [if_neg (by omega)]; rfl
  | i+1=>by
    simp only [Tu]
    rw [Or l hk v i,Kr _ _ _ _ _ hk]
    by_cases e:i=k
    · subst e
      rw [if_pos rfl,if_neg (by omega),if_pos (by omega)]
      omega
    · rw [if_neg e]
      by_cases g:k<i
      · rw [if_pos g,if_pos (by omega)]; omega
      · rw [if_neg g,if_neg (by omega)]; omega
theorem AQ7 {w:den Za} (ok:Ok w) {p q:Nat} {gs ws:List Int} {pay fee:Int} (hp:p<List.length (w.2.1:List Int)) (h:ABd w p q gs pay ws fee):Tu (tdW w p q gs pay ws fee).2.2.1 (List.length ((tdW w p q gs pay ws fee).2.2.1:List Int))=Tu w.2.2.1 (List.length (w.2.2.1:List Int)):=by
  have hc1:=ok.right.c1
  have ha1:=ok.right.a1
  have hqq:=h.hq
  show Tu (List.set (List.set (w.2.2.1:List Int) p (Qu w p - pay+fee)) (Int.toNat (q:Int)) (Qu w q - fee+pay)) (List.length (List.set (List.set (w.2.2.1:List Int) p (Qu w p - pay+fee)) (Int.toNat (q:Int)) (Qu w q - fee+pay)))=_
  rw [Int.toNat_natCast,List.length_set,List.length_set,Or _ (by rw [List.length_set]; omega),Or _ (by omega),if_pos (by omega),if_pos (by omega),Kr _ _ _ _ _ (by omega),if_neg (fun e=>h.lots.pq e.symm)]
  show _+(Qu w p - pay+fee - Qu w p)+(Qu w q - fee+pay - Qu w q)=_
  omega
end Go.Proofs.YtpemapoblhleoaaGreatDoor.Ghost
namespace Go.Proofs.YtpemapoblhleoaaGreatDoor.Ghost
open Go
abbrev Rng (e:Int):Prop:=0≤e∧e≤13
theorem AQi (w:den Za) (i d:Nat):Rng (goR w i d).2.2.1:=by
  unfold goR
  by_cases h:0≤Hl w i d
  · rw [if_pos h]; exact ⟨by show (0:Int)≤0; decide,by show (0:Int)≤13; decide⟩
  · rw [if_neg h]; exact ⟨by show (0:Int)≤4; decide,by show (4:Int)≤13; decide⟩
theorem AE1 (w:den Za) (i:Nat) (q:Int):Rng (K5 w i q):=by
  unfold K5
  (repeat' split) <;> exact ⟨by decide,by decide⟩
theorem AEy (w:den Za) (k:Int) (p q:Pl):Rng (J7 w k p q):=by
  unfold J7
  (repeat' split) <;> exact ⟨by decide,by decide⟩
theorem AGl (w:den Za) (i:Nat) (k b:Int):Rng (putErr w i k b):=by
  unfold putErr
  (repeat' split) <;> exact ⟨by decide,by decide⟩
theorem AFh (w:den Za) (i:Nat) (k b:Int):Rng (takeErr w i k b):=by
  unfold takeErr
  (repeat' split) <;> exact ⟨by decide,by decide⟩
theorem AD1 (w:den Za) (i:Nat) (k b:Int):Rng (giveErr w i k b):=by
  unfold giveErr
  (repeat' split) <;> exact ⟨by decide,by decide⟩
theorem AFf (a b p f:Int):Rng (swapErr a b p f):=by
  unfold swapErr
  (repeat' split) <;> exact ⟨by decide,by decide⟩
theorem ACs (w:den Za) (p:Nat) (q:Int) (gs:List Int) (pay:Int) (ws:List Int) (fee:Int):Rng (tradeErr w p q gs pay ws fee):=by
  unfold tradeErr
  (repeat' split) <;> first | exact AFf _ _ _ _ | exact ⟨by decide,by decide⟩
abbrev AP9 (w:den Za):Int:=Tu w.2.2.1 (List.length (w.2.2.1:List Int))
abbrev AQt (w:den Za):Nat:=List.length (w.2.2.2.1:List (den Zb))
structure AFq (w:den Za) (k:Int) (x:den Za×Int×Int×Unit):Prop where
  rng:Rng x.2.2.1
  sum:AP9 x.1=AP9 w
  len:AQt x.1=AQt w
  room:0≤x.2.1∧x.2.1≤1073741824
  r0:k=1∨k=2∨x.2.1=0
theorem T9:(0:Int)≤0∧(0:Int)≤1073741824:=⟨by decide,by decide⟩
theorem AHk {w:den Za} (ok:Ok w) {i d:Nat} (hi:i<List.length (w.2.1:List Int)) (hd:d<4) {k:Int} (hk:k=1∨k=2):AFq w k (goR w i d):=by
  refine ⟨AQi w i d,?_,?_,?_,hk.elim .inl (fun h=>.inr (.inl h))⟩
  · unfold goR; split <;> rfl
  · unfold goR; split <;> rfl
  · have r1:=ok.right.may.r1
    have he:=ok.right.exit hi hd
    unfold goR
    by_cases h:0≤Hl w i d
    · rw [if_pos h]
      refine ⟨h,?_⟩
      show Hl w i d≤1073741824
      omega
    · rw [if_neg h]; exact T9
theorem AAj {w:den Za} {k j:Int} {p q:Pl}:AFq w k ((Wc w j p q).1,0,(Wc w j p q).2.1,()):=by
  unfold Wc
  by_cases h:J7 w j p q=0
  · rw [if_pos h]; exact ⟨⟨by show (0:Int)≤0; decide,by show (0:Int)≤13; decide⟩,rfl,Km _ _ _,T9,.inr (.inr rfl)⟩
  · rw [if_neg h]; exact ⟨AEy _ _ _ _,rfl,rfl,T9,.inr (.inr rfl)⟩
theorem AGs {w:den Za} (ok:Ok w) {i:Nat} (hi:i<List.length (w.2.1:List Int)) {c:Cm} (hm:Rp c):AFq w (Z6 c) (Yw w i c):=by
  obtain ⟨d,hd,ed⟩:=hm.dir
  have ed':(Tm c).toNat=d:=by omega
  have z:Rng 0:=⟨by decide,by decide⟩
  unfold Yw
  rw [ed']
  by_cases k1:Z6 c=1
  · rw [if_pos k1]; exact AHk ok hi hd (.inl k1)
  rw [if_neg k1]
  by_cases k2:Z6 c=2
  · rw [if_pos k2]
    unfold Bf
    by_cases h:K5 w i (Hn c)=0
    · rw [if_pos h]
      obtain ⟨h1,h2,_⟩:=Wf h
      exact AHk ok (by omega) hd (.inr k2)
    · rw [if_neg h]; exact ⟨AE1 _ _ _,rfl,rfl,T9,.inr (.inl k2)⟩
  rw [if_neg k2]
  by_cases k3:Z6 c=3
  · rw [if_pos k3]; exact AAj
  rw [if_neg k3]
  by_cases k4:Z6 c=4
  · rw [if_pos k4]; exact AAj
  rw [if_neg k4]
  by_cases k5:Z6 c=5
  · rw [if_pos k5]
    unfold putR
    by_cases h:putErr w i (Xu c) (Kk c)=0
    · rw [if_pos h]; exact ⟨z,rfl,Km _ _ _,T9,.inr (.inr rfl)⟩
    · rw [if_neg h]; exact ⟨AGl _ _ _ _,rfl,rfl,T9,.inr (.inr rfl)⟩
  rw [if_neg k5]
  by_cases k6:Z6 c=6
  · rw [if_pos k6]
    unfold takeR
    by_cases h:takeErr w i (Xu c) (Kk c)=0
    · rw [if_pos h]; exact ⟨z,rfl,Km _ _ _,T9,.inr (.inr rfl)⟩
    · rw [if_neg h]; exact ⟨AFh _ _ _ _,rfl,rfl,T9,.inr (.inr rfl)⟩
  rw [if_neg k6]
  by_cases k7:Z6 c=7
  · rw [if_pos k7]
    unfold Tz
    by_cases h:giveErr w i (Xu c) (Hn c)=0
    · rw [if_pos h]; exact ⟨z,rfl,Km _ _ _,T9,.inr (.inr rfl)⟩
    · rw [if_neg h]; exact ⟨AD1 _ _ _ _,rfl,rfl,T9,.inr (.inr rfl)⟩
  rw [if_neg k7]
  by_cases k8:Z6 c=8
  · rw [if_pos k8]
    unfold Kj
    by_cases h:tradeErr w i (Hn c) (Xc c) (Ud c) (Xi c) (Uc c)=0
    · rw [if_pos h]
      obtain ⟨n,e,ht⟩:=(Mn (Bw _ _)).1 h
      rw [e,Int.toNat_natCast]
      refine ⟨z,AQ7 ok hi ht,?_,T9,.inr (.inr rfl)⟩
      exact B0 ok hi ht
    · rw [if_neg h]; exact ⟨ACs _ _ _ _ _ _ _,rfl,rfl,T9,.inr (.inr rfl)⟩
  rw [if_neg k8]
  exact ⟨z,rfl,rfl,T9,.inr (.inr rfl)⟩
def BHy (r:den Zn) (k:Int):Prop:=(ANc r∧(r.2.1:Int)=k)∨(∃ e,r=Fh e∧1≤e∧e≤13)
theorem BG8 {k r:Int} (h1:1≤k) (h2:k≤10) (hr:0≤r∧r≤1073741824) (h0:k=1∨k=2∨r=0):ANc (AEu k r):=by
  refine ⟨rfl,⟨h1,h2⟩,hr,T9,Nat.zero_le _,Nat.zero_le _,fun i hi=>absurd hi (Nat.not_lt_zero i),fun i hi=>absurd hi (Nat.not_lt_zero i),?_,.inr rfl,.inr rfl,.inr rfl⟩
  rcases h0 with h | h | h
  · exact .inl h
  · exact .inr (.inl h)
  · exact .inr (.inr (.inr h))
structure BHx (w:den Za) (x:den Za×den Zn×Unit) (c:Cm):Prop where
  ok:Ok x.1
  sum:AP9 x.1=AP9 w
  len:AQt x.1=AQt w
  at_:x.1.1=w.1
  rep:BHy x.2.1 (Z6 c)
  same:¬ (x.2.1.1:Int)=0∨Z6 c=9∨Z6 c=10→x.1=w
theorem ALb {w:den Za} (ok:Ok w) {i:Nat} (hi:i<List.length (w.2.1:List Int)) (c:Cm):BHx w (doR w i c) c:=by
  have hk:=BGw ok hi c
  unfold doR at hk ⊢
  by_cases hm:Rp c
  · rw [if_pos hm] at hk ⊢
    have st:=AGs ok hi hm
    by_cases h9:Z6 c=9
    · rw [if_pos h9]; exact ⟨ok,rfl,rfl,rfl,.inl ⟨AMe ok.right hi,h9.symm⟩,fun _=>rfl⟩
    rw [if_neg h9] at hk ⊢
    by_cases h10:Z6 c=10
    · rw [if_pos h10]; exact ⟨ok,rfl,rfl,rfl,.inl ⟨AQx ok.right hi,h10.symm⟩,fun _=>rfl⟩
    rw [if_neg h10] at hk ⊢
    by_cases he:(Yw w i c).2.2.1=0
    · rw [if_pos he] at hk ⊢
      exact ⟨hk.1,st.sum,st.len,hk.2,.inl ⟨BG8 hm.k1 hm.k2 st.room st.r0,rfl⟩,fun h=>by
        rcases h with h | h | h
        · exact absurd rfl h
        · exact absurd h h9
        · exact absurd h h10⟩
    · rw [if_neg he]
      have:=st.rng
      exact ⟨ok,rfl,rfl,rfl,.inr ⟨_,rfl,by omega,by omega⟩,fun _=>rfl⟩
  · rw [if_neg hm]
    exact ⟨ok,rfl,rfl,rfl,.inr ⟨2,rfl,by decide,by decide⟩,fun _=>rfl⟩
end Go.Proofs.YtpemapoblhleoaaGreatDoor.Ghost
