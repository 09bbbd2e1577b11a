/- What functions come to, and that the statements are answered with 'true'. Conditions: none. -/
import Derived.Test.YtjobjooccgledaaGreatDoorS
import Derived.Test.YtjobjooccgledaaGreatDoorGE
import Derived.Test.YtjobjooccgledaaGreatDoorP1
import Derived.Test.YtjobjooccgledaaGreatDoorP2
set_option linter.unusedVariables false
set_option linter.unusedSimpArgs false
set_option linter.unusedSectionVars false
set_option linter.unnecessarySimpa false
namespace Go.Proofs.YtjobjooccgledaaGreatDoor.Ghost
open Go
def inL (l:List Pl) (p:Pl):Nat→List Int
  | 0=>[]
  | n+1=>inL l p n ++ (if List.getD l n (dft Zb)=p then [(n:Int)] else [])
theorem ACx (l:List Pl) (p:Pl):(n:Nat)→(inL l p n).length=Yp l p n
  | 0=>rfl
  | n+1=>by
    simp only [inL,Yp,List.length_append,ACx l p n]
    split <;> rfl
theorem Ev (w:den Za) (hs:Sm w) (p:Pl) (t0:den Za) (t1:Pl) (t4:List Int):(r i:Nat)→i+r=List.length (w.2.2.2.1:List (den Zb)) →
    Zd (fun n m _ _=>Yv.l0 n m t0 t1 t4 w.2.2.2.1 (List.length (w.2.2.2.1:List (den Zb)):Int) (i:Int) w p (inL w.2.2.2.1 p i)) (fun r=>r=((inL w.2.2.2.1 p (List.length (w.2.2.2.1:List (den Zb))),()),[(0,[])]))
  | 0,i,hi=>by
    refine Zd.succ1 (fun n m _ _=>Yv.l0_eq n m t0 t1 t4 w.2.2.2.1 _ i w p _) (Zd.bif (fun h => ?_) (fun h=>Zd.ret ?_))
    · have:=of_decide_eq_true h; omega
    · rw [show i=List.length (w.2.2.2.1:List (den Zb)) by omega]
  | r+1,i,hi=>by
    have hlen:=hs.wh
    have hle:=Eb w.2.2.2.1 p i
    have hil:=ACx w.2.2.2.1 p i
    refine Zd.succ1 (fun n m _ _=>Yv.l0_eq n m t0 t1 t4 w.2.2.2.1 _ i w p _) (Zd.bif (fun h=>Zd.ite (by omega) (Zd.bif (fun h2=>Zd.ite (by omega) ?_) (fun h2 => ?_))) (fun h => ?_))
    · rw [Xm (by omega)]
      have e:inL w.2.2.2.1 p (i+1)=inL w.2.2.2.1 p i ++ [(i:Int)]:=by
        simp only [inL]; rw [if_pos (by simpa using ((Lv _ _).1 h2).symm)]
      rw [← e]
      exact Ev w hs p t0 t1 t4 r (i+1) (by omega)
    · rw [Xm (by omega)]
      have e:inL w.2.2.2.1 p (i+1)=inL w.2.2.2.1 p i:=by
        simp only [inL]
        rw [if_neg (fun he=>by rw [(Lv _ _).2 (by simpa using he.symm)] at h2; cases h2),List.append_nil]
      have:=Ev w hs p t0 t1 t4 r (i+1) (by omega)
      rw [e] at this
      exact this
    · have:=of_decide_eq_false h; omega
theorem ADi (w:den Za) (hs:Sm w) (p:Pl):Zd (fun n _ _ _=>Yv n w p) (fun r=>r=((inL w.2.2.2.1 p (List.length (w.2.2.2.1:List (den Zb))),()),[(0,[])])):=by
  refine Zd.succ (fun n _ _ _=>Yv.eq n w p) ?_
  exact (Ev w hs p w p [] _ 0 (Nat.zero_add _)).enter
theorem AGb (w:den Za) (hs:Sm w) (p:Pl):Zd (fun n _ _ _=>Yv n w p) (fun r=>r.1.1=inL w.2.2.2.1 p (List.length (w.2.2.2.1:List (den Zb)))):=(ADi w hs p).mono (fun _ h=>by rw [h])
end Go.Proofs.YtjobjooccgledaaGreatDoor.Ghost
namespace Go.Proofs.YtjobjooccgledaaGreatDoor.Ghost
open Go
def Y7 (w:den Za) (p:Pl):Int:=Ie w.1 p - (Yp w.2.2.2.1 p (List.length (w.2.2.2.1:List (den Zb))):Int)
theorem AI8 (d:den Z0) (p:Pl) (hp:(0:Int)≤p.1∧(p.1:Int)<3):List.getD ([(d.2.2.2.2.2.1:Int),(d.2.2.2.2.2.2.1:Int),(d.2.2.2.2.2.2.2.1:Int)]:List Int) (Int.toNat (p.1:Int)) (0:Int)=Ie d p:=by
  have key:∀ k:Int,0≤k→k<3→k=0∨k=1∨k=2:=fun k h0 h1=>by omega
  unfold Ie
  rcases key p.1 hp.1 hp.2 with h | h | h <;> rw [h] <;> rfl
theorem AGk {d:den Z0} (h:AKz d) (p:Pl):0≤Ie d p∧Ie d p<65:=by
  unfold Ie
  split
  · exact h.room
  · split
    · exact h.player
    · exact h.box
theorem AFi {l:List Pl} {p:Pl}:{n:Nat}→0<Yp l p n→∃ i,i<n∧List.getD l i (dft Zb)=p
  | 0,h=>by simp [Yp] at h
  | n+1,h=>by
    simp only [Yp] at h
    by_cases he:List.getD l n (dft Zb)=p
    · exact ⟨n,by omega,he⟩
    · rw [if_neg he] at h
      obtain ⟨i,h1,h2⟩:=AFi (l:=l) (p:=p) (n:=n) (by omega)
      exact ⟨i,by omega,h2⟩
theorem Yg.room {w:den Za} (h:Yg w) (p:Pl):0≤Y7 w p∧Y7 w p<65:=by
  have hc:=AGk h.may p
  unfold Y7
  by_cases h0:0<Yp w.2.2.2.1 p (List.length (w.2.2.2.1:List (den Zb)))
  · obtain ⟨i,hi,he⟩:=AFi h0
    have:=(h.deep i hi).2
    rw [he] at this
    omega
  · omega
end Go.Proofs.YtjobjooccgledaaGreatDoor.Ghost
namespace Go.Proofs.YtjobjooccgledaaGreatDoor.Ghost
open Go
theorem Qj (w:den Za) (ok:Ok w) (p:Pl) (hp:(0:Int)≤p.1∧(p.1:Int)<3):Zd (fun n _ _ _=>Q8 n w p) (fun r=>r.1.1=Y7 w p):=by
  refine Zd.succ (fun n _ _ _=>Q8.eq n w p) (Zd.ite hp (Zd.call (AGb w ok.sm p) (fun v hv=>Zd.ret ?_)))
  have hr:=ok.right.room p
  show IntKind.wrap .i64 (List.getD ([(w.1.2.2.2.2.2.1:Int),(w.1.2.2.2.2.2.2.1:Int),(w.1.2.2.2.2.2.2.2.1:Int)]:List Int) (Int.toNat (p.1:Int)) (0:Int) - (List.length (v.1.1:List Int):Int))=Y7 w p
  rw [hv,ACx,AI8 w.1 p hp]
  unfold Y7 at hr ⊢
  rw [Hr (by omega) (by omega)]
end Go.Proofs.YtjobjooccgledaaGreatDoor.Ghost
namespace Go.Proofs.YtjobjooccgledaaGreatDoor.Ghost
open Go
def put (w:den Za) (i:Nat) (p:Pl):den Za:=(w.1,w.2.1,w.2.2.1,List.set (w.2.2.2.1:List (den Zb)) i p,())
theorem Ot (w:den Za) (i:Nat) (p:Pl):List.length ((put w i p).2.2.2.1:List (den Zb))=List.length (w.2.2.2.1:List (den Zb)):=by
  show List.length (List.set (w.2.2.2.1:List (den Zb)) i p)=_
  exact List.length_set
theorem AHd (w:den Za) (i j:Nat) (p:Pl) (h:i<List.length (w.2.2.2.1:List (den Zb))):List.getD ((put w i p).2.2.2.1:List (den Zb)) j (dft Zb)=if j=i then p else List.getD (w.2.2.2.1:List (den Zb)) j (dft Zb):=by
  show List.getD (List.set (w.2.2.2.1:List (den Zb)) i p) j (dft Zb)=_
  exact Vz _ _ _ _ _ h
theorem AN5 {w:den Za} (h:Sm w) (i:Nat) (p:Pl):Sm (put w i p) :=
  ⟨h.e,h.b,h.p,h.c,h.i,h.a,h.wc,by rw [Ot]; exact h.wh,h.rows⟩
end Go.Proofs.YtjobjooccgledaaGreatDoor.Ghost
namespace Go.Proofs.YtjobjooccgledaaGreatDoor.Ghost
open Go
theorem Oz (w:den Za) (hs:Sm w) {i:Nat} (hi:i<List.length (w.2.2.2.1:List (den Zb))) (p:Pl):Zd (fun n _ _ _=>K8 n w (i:Int) p) (fun r=>r=((put w i p,()),[(0,[3])])):=by
  refine Zd.succ (fun n _ _ _=>K8.eq n w i p) (Zd.call (Ml w hs) (fun v hv => ?_))
  subst hv
  refine Zd.bifT rfl (Zd.ite ⟨Int.natCast_nonneg i,Int.ofNat_lt.2 hi⟩ (Zd.ret ?_))
  rw [Int.toNat_natCast]
  rfl
end Go.Proofs.YtjobjooccgledaaGreatDoor.Ghost
namespace Go.Proofs.YtjobjooccgledaaGreatDoor.Ghost
open Go
def Kr (w:den Za) (k:Int) (p q:Pl):Int:=if k<0 then 3 else if (List.length (w.2.2.2.1:List (den Zb)):Int)≤k then 3 else if List.getD (w.2.2.2.1:List (den Zb)) (Int.toNat k) (dft Zb)=p then (if Y7 w q<1 then 9 else 0) else 5
def Li (w:den Za) (k:Int) (p q:Pl):den Za×Int×Unit:=if Kr w k p q=0 then (put w (Int.toNat k) q,0,()) else (w,Kr w k p q,())
theorem AC8 {w:den Za} {k:Int} {p q:Pl} (h:Kr w k p q=0):0≤k∧k<(List.length (w.2.2.2.1:List (den Zb)):Int)∧List.getD (w.2.2.2.1:List (den Zb)) (Int.toNat k) (dft Zb)=p∧1≤Y7 w q:=by
  unfold Kr at h
  split at h
  · cases h
  · split at h
    · cases h
    · split at h
      · split at h
        · cases h
        · rename_i a b c d; exact ⟨by omega,by omega,c,by omega⟩
      · cases h
theorem ABm (w:den Za) (ok:Ok w) (k:Int) (p q:Pl) (hq:(0:Int)≤q.1∧(q.1:Int)<3):Zd (fun n _ _ _=>Vt n w k p q) (fun r=>r.1=Li w k p q∧True):=by
  refine Zd.succ (fun n _ _ _=>Vt.eq n w k p q) ?_
  unfold Li
  refine Zd.bif (fun h1=>Zd.ret ?_) (fun h1=>Zd.bif (fun h2=>Zd.ret ?_) (fun h2 => ?_))
  · have e:Kr w k p q=3:=by unfold Kr; rw [if_pos (of_decide_eq_true h1)]
    rw [e,if_neg (by decide)]; exact ⟨rfl,trivial⟩
  · have e:Kr w k p q=3:=by unfold Kr; rw [if_neg (of_decide_eq_false h1),if_pos (of_decide_eq_true h2)]
    rw [e,if_neg (by decide)]; exact ⟨rfl,trivial⟩
  · have h1:=of_decide_eq_false h1
    have h2:=of_decide_eq_false h2
    refine Zd.ite (by omega) (Zd.bifN (fun h3=>Zd.call (Qj w ok q hq) (fun v hv=>Zd.bif (fun h4=>Zd.ret ?_) (fun h4 => ?_))) (fun h3=>Zd.ret ?_))
    · have h3:=(Lv _ _).1 h3
      have h4:Y7 w q<1:=by rw [← hv]; exact of_decide_eq_true h4
      have e:Kr w k p q=9:=by unfold Kr; rw [if_neg h1,if_neg h2,if_pos h3,if_pos h4]
      rw [e,if_neg (by decide)]; exact ⟨rfl,trivial⟩
    · have h3:=(Lv _ _).1 h3
      have h4:¬ Y7 w q<1:=by rw [← hv]; exact of_decide_eq_false h4
      have e:Kr w k p q=0:=by unfold Kr; rw [if_neg h1,if_neg h2,if_pos h3,if_neg h4]
      rw [e,if_pos rfl]
      obtain ⟨i,rfl⟩:∃ i:Nat,k=(i:Int):=⟨k.toNat,by omega⟩
      rw [Int.toNat_natCast]
      refine Zd.call (Oz w ok.sm (by omega) q) (fun u hu => ?_)
      subst hu
      exact Zd.ret ⟨rfl,trivial⟩
    · have h3':¬ List.getD (w.2.2.2.1:List (den Zb)) (Int.toNat k) (dft Zb)=p:=fun he=>by rw [(Lv _ _).2 he] at h3; cases h3
      have e:Kr w k p q=5:=by unfold Kr; rw [if_neg h1,if_neg h2,if_neg h3']
      rw [e,if_neg (by decide)]; exact ⟨rfl,trivial⟩
def Wx (w:den Za) (i:Nat):Pl:=((0:Int),List.getD (w.2.1:List Int) i (0:Int),())
def AC4 (i:Nat):Pl:=((1:Int),(i:Int),())
def AJq (w:den Za) (i:Nat) (k:Int):den Za×Int×Unit:=Li w k (Wx w i) (AC4 i)
def AAp (w:den Za) (i:Nat) (k:Int):den Za×Int×Unit:=Li w k (AC4 i) (Wx w i)
theorem AG6 (w:den Za) (i:Nat):(0:Int)≤(Wx w i).1∧((Wx w i).1:Int)<3:=⟨by show (0:Int)≤0; decide,by show (0:Int)<3; decide⟩
theorem AQz (i:Nat):(0:Int)≤(AC4 i).1∧((AC4 i).1:Int)<3:=⟨by show (0:Int)≤1; decide,by show (1:Int)<3; decide⟩
theorem Fe (w:den Za) {i:Nat} (hi:i<List.length (w.2.1:List Int)):Zd (fun n _ _ _=>Q6 n w (i:Int)) (fun r=>r=((Wx w i,AC4 i,()),[])):=by
  refine Zd.succ (fun n _ _ _=>Q6.eq n w i) (Zd.ite ⟨Int.natCast_nonneg i,Int.ofNat_lt.2 hi⟩ (Zd.ret ?_))
  rw [Int.toNat_natCast]
  rfl
theorem AM0 (w:den Za) (ok:Ok w) {i:Nat} (hi:i<List.length (w.2.1:List Int)) (k:Int):Zd (fun n _ _ _=>Hg n w (i:Int) k) (fun r=>r.1=AJq w i k):=by
  refine Zd.succ (fun n _ _ _=>Hg.eq n w i k) (Zd.call (Fe w hi) (fun v hv => ?_))
  subst hv
  refine Zd.call (ABm w ok k (Wx w i) (AC4 i) (AQz i)) (fun u hu=>Zd.ret ?_)
  rw [hu.1]
  rfl
theorem AJi (w:den Za) (ok:Ok w) {i:Nat} (hi:i<List.length (w.2.1:List Int)) (k:Int):Zd (fun n _ _ _=>Kd n w (i:Int) k) (fun r=>r.1=AAp w i k):=by
  refine Zd.succ (fun n _ _ _=>Kd.eq n w i k) (Zd.call (Fe w hi) (fun v hv => ?_))
  subst hv
  refine Zd.call (ABm w ok k (AC4 i) (Wx w i) (AG6 w i)) (fun u hu=>Zd.ret ?_)
  rw [hu.1]
  rfl
end Go.Proofs.YtjobjooccgledaaGreatDoor.Ghost
namespace Go.Proofs.YtjobjooccgledaaGreatDoor.Ghost
open Go
theorem Om (l:List Pl) (k:Nat) (q p:Pl) (hk:k<l.length):(n:Nat)→Yp (l.set k q) p n+(if k<n∧List.getD l k (dft Zb)=p then 1 else 0)=Yp l p n+(if k<n∧q=p then 1 else 0)
  | 0=>by simp [Yp]
  | n+1=>by
    have ih:=Om l k q p hk n
    simp only [Yp]
    rw [Vz l k n q (dft Zb) hk]
    by_cases hn:n=k
    · subst hn
      simp only [Nat.lt_irrefl,false_and,if_false,if_true,Nat.lt_succ_self,true_and,Nat.add_zero] at ih ⊢
      omega
    · rw [if_neg hn]
      have e:k<n+1↔k<n:=⟨fun h=>by omega,fun h=>by omega⟩
      simp only [e]
      omega
theorem Im {l:List Pl} {k:Nat} {q:Pl} (hk:k<l.length) (hq:¬ q.1=(2:Int)) (hl:¬ (List.getD l k (dft Zb)).1=(2:Int)):(f c:Nat)→(p:Pl)→depI (l.set k q) f c p=depI l f c p
  | 0,c,p=>rfl
  | f+1,c,p=>by
    simp only [depI]
    by_cases hp:p.1=(2:Int)
    · rw [if_pos hp,if_pos hp]
      by_cases h50:50<c+1
      · rw [if_pos h50,if_pos h50]
      · rw [if_neg h50,if_neg h50,Vz l k _ q (dft Zb) hk]
        by_cases hi:Int.toNat p.2.1=k
        · rw [if_pos hi,hi,Im hk hq hl]
          cases f with
          | zero=>simp only [depI]; rw [if_neg hq,if_neg hl]
          | succ f=>simp only [depI]; rw [if_neg hq,if_neg hl]
        · rw [if_neg hi]
          exact Im hk hq hl f (c+1) _
    · rw [if_neg hp,if_neg hp]
theorem F0 {l:List Pl} {q:Pl} (hq:¬ q.1=(2:Int)):depI l 51 0 q=0:=by
  simp only [depI]
  rw [if_neg hq]
theorem Ok.put {w:den Za} (ok:Ok w) {k:Nat} (hk:k<List.length (w.2.2.2.1:List (den Zb))) {q:Pl} (hq:¬ q.1=(2:Int)) (hl:¬ (List.getD (w.2.2.2.1:List (den Zb)) k (dft Zb)).1=(2:Int)) (hg:Ks w.1 q) (hr:1≤Y7 w q):Ok (Ghost.put w k q):=by
  have h:=ok.right
  have hset:∀ p:Pl,Yp (List.set (w.2.2.2.1:List (den Zb)) k q) p (List.length (w.2.2.2.1:List (den Zb)))≤Yp w.2.2.2.1 p (List.length (w.2.2.2.1:List (den Zb)))+(if q=p then 1 else 0):=fun p=>by
    have:=Om w.2.2.2.1 k q p hk (List.length (w.2.2.2.1:List (den Zb)))
    simp only [hk,true_and] at this
    omega
  refine ⟨AN5 ok.sm k q,h.may,h.a1,h.c1,by rw [Ot]; exact h.w1,h.at_,fun i hi => ?_,fun i hi => ?_⟩
  · rw [Ot] at hi
    rw [AHd w k i q hk]
    split
    · exact hg
    · exact h.good i hi
  · have hlen:=Ot w k q
    rw [hlen] at hi ⊢
    rw [AHd w k i q hk]
    show depI (List.set (w.2.2.2.1:List (den Zb)) k q) 51 0 _≤4∧(Yp (List.set (w.2.2.2.1:List (den Zb)) k q) _ _:Int)≤Ie w.1 _
    rw [Im hk hq hl]
    have many:∀ p:Pl,(Yp (List.set (w.2.2.2.1:List (den Zb)) k q) p (List.length (w.2.2.2.1:List (den Zb))):Int)≤Ie w.1 p:=fun p=>by
      have h1:=hset p
      by_cases hqp:q=p
      · rw [if_pos hqp] at h1
        subst hqp
        unfold Y7 at hr
        omega
      · rw [if_neg hqp] at h1
        have h2:=(h.room p).1
        unfold Y7 at h2
        omega
    split
    · exact ⟨by rw [F0 hq]; omega,many q⟩
    · exact ⟨(h.deep i hi).1,many _⟩
def Fq (l:List Pl):Nat→Pl→Prop
  | 0,p=>¬ p.1=(2:Int)
  | k+1,p=>p.1=(2:Int)→Fq l k (List.getD l (Int.toNat p.2.1) (dft Zb))
theorem AH4 {l:List Pl}:(f c:Nat)→(p:Pl)→depI l f c p≤4→Fq l f p
  | 0,c,p,h=>by
    simp only [depI] at h
    intro hp
    rw [if_pos hp] at h
    omega
  | f+1,c,p,h=>by
    simp only [depI] at h
    intro hp
    rw [if_pos hp] at h
    by_cases h50:50<c+1
    · rw [if_pos h50] at h; omega
    · rw [if_neg h50] at h
      exact AH4 f (c+1) _ h
def Pt (l:List Pl):Nat→Pl→Pl
  | 0,p=>p
  | k+1,p=>if p.1=(2:Int) then Pt l k (List.getD l (Int.toNat p.2.1) (dft Zb)) else p
theorem AKi {l:List Pl} {p:Pl} (h:¬ p.1=(2:Int)) (k:Nat):Pt l k p=p:=by
  cases k with
  | zero=>rfl
  | succ k=>simp only [Pt]; rw [if_neg h]
theorem Yg.inPl {w:den Za} (h:Yg w):∀ i,i<List.length (w.2.2.2.1:List (den Zb))→Ghost.inPl w.2.2.2.1 (List.getD w.2.2.2.1 i (dft Zb)):=fun i hi=>(h.good i hi).inPl h.w1
theorem Yg.ends {w:den Za} (h:Yg w) {i:Nat} (hi:i<List.length (w.2.2.2.1:List (den Zb))):Fq w.2.2.2.1 51 (List.getD w.2.2.2.1 i (dft Zb)):=AH4 51 0 _ (h.deep i hi).1
end Go.Proofs.YtjobjooccgledaaGreatDoor.Ghost
namespace Go.Proofs.YtjobjooccgledaaGreatDoor.Ghost
open Go
end Go.Proofs.YtjobjooccgledaaGreatDoor.Ghost
namespace Go.Proofs.YtjobjooccgledaaGreatDoor.Ghost
open Go
end Go.Proofs.YtjobjooccgledaaGreatDoor.Ghost
