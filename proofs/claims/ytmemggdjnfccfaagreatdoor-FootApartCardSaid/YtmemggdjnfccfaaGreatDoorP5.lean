/- What functions come to, and that the statements are answered with 'true'. Conditions: none. -/
import Derived.Test.YtmemggdjnfccfaaGreatDoorS
import Derived.Test.YtmemggdjnfccfaaGreatDoorGE
import Derived.Test.YtmemggdjnfccfaaGreatDoorP1
import Derived.Test.YtmemggdjnfccfaaGreatDoorP2
import Derived.Test.YtmemggdjnfccfaaGreatDoorP3
import Derived.Test.YtmemggdjnfccfaaGreatDoorP4
set_option linter.unusedVariables false
set_option linter.unusedSimpArgs false
set_option linter.unusedSectionVars false
set_option linter.unnecessarySimpa false
namespace Go.Proofs.YtmemggdjnfccfaaGreatDoor.Ghost
open Go
def inL (l:List Pl) (p:Pl):Nat→List Int
  | 0=>[]
  | n+1=>inL l p n ++ (if List.getD l n (dft Za)=p then [(n:Int)] else [])
theorem ADy (l:List Pl) (p:Pl):(n:Nat)→(inL l p n).length=Yv l p n
  | 0=>rfl
  | n+1=>by
    simp only [inL,Yv,List.length_append,ADy l p n]
    split <;> rfl
theorem Du (w:den Zb) (hs:Sm w) (p:Pl) (t0:den Zb) (t1:Pl) (t4:List Int):(r i:Nat)→i+r=List.length (w.2.2.2.1:List (den Za)) →
    Zd (fun n m _ _=>Qd.l0 n m t0 t1 t4 w.2.2.2.1 (List.length (w.2.2.2.1:List (den Za)):Int) (i:Int) w p (inL w.2.2.2.1 p i)) (fun r=>r=((inL w.2.2.2.1 p (List.length (w.2.2.2.1:List (den Za))),()),[(0,[])]))
  | 0,i,hi=>by
    refine Zd.succ1 (fun n m _ _=>Qd.l0_eq n m t0 t1 t4 w.2.2.2.1 _ i w p _) (Zd.bif (fun h => ?_) (fun h=>Zd.ret ?_))
    · have:=of_decide_eq_true h; omega
    · rw [show i=List.length (w.2.2.2.1:List (den Za)) by omega]
  | r+1,i,hi=>by
    have hlen:=hs.wh
    have hle:=E9 w.2.2.2.1 p i
    have hil:=ADy w.2.2.2.1 p i
    refine Zd.succ1 (fun n m _ _=>Qd.l0_eq n m t0 t1 t4 w.2.2.2.1 _ i w p _) (Zd.bif (fun h=>Zd.ite (by omega) (Zd.bif (fun h2=>Zd.ite (by omega) ?_) (fun h2 => ?_))) (fun h => ?_))
    · rw [Xv (by omega)]
      have e:inL w.2.2.2.1 p (i+1)=inL w.2.2.2.1 p i ++ [(i:Int)]:=by
        simp only [inL]; rw [if_pos (by simpa using ((Lw _ _).1 h2).symm)]
      rw [← e]
      exact Du w hs p t0 t1 t4 r (i+1) (by omega)
    · rw [Xv (by omega)]
      have e:inL w.2.2.2.1 p (i+1)=inL w.2.2.2.1 p i:=by
        simp only [inL]
        rw [if_neg (fun he=>by rw [(Lw _ _).2 (by simpa using he.symm)] at h2; cases h2),List.append_nil]
      have:=Du w hs p t0 t1 t4 r (i+1) (by omega)
      rw [e] at this
      exact this
    · have:=of_decide_eq_false h; omega
theorem AEf (w:den Zb) (hs:Sm w) (p:Pl):Zd (fun n _ _ _=>Qd n w p) (fun r=>r=((inL w.2.2.2.1 p (List.length (w.2.2.2.1:List (den Za))),()),[(0,[])])):=by
  refine Zd.succ (fun n _ _ _=>Qd.eq n w p) ?_
  exact (Du w hs p w p [] _ 0 (Nat.zero_add _)).enter
theorem AG8 (w:den Zb) (hs:Sm w) (p:Pl):Zd (fun n _ _ _=>Qd n w p) (fun r=>r.1.1=inL w.2.2.2.1 p (List.length (w.2.2.2.1:List (den Za)))):=(AEf w hs p).mono (fun _ h=>by rw [h])
end Go.Proofs.YtmemggdjnfccfaaGreatDoor.Ghost
namespace Go.Proofs.YtmemggdjnfccfaaGreatDoor.Ghost
open Go
def Y0 (w:den Zb) (p:Pl):Int:=L9 w.1 p - (Yv w.2.2.2.1 p (List.length (w.2.2.2.1:List (den Za))):Int)
theorem AJ9 (d:den Z3) (p:Pl) (hp:(0:Int)≤p.1∧(p.1:Int)<3):List.getD ([(d.2.2.2.2.2.1:Int),(d.2.2.2.2.2.2.1:Int),(d.2.2.2.2.2.2.2.1:Int)]:List Int) (Int.toNat (p.1:Int)) (0:Int)=L9 d p:=by
  have key:∀ k:Int,0≤k→k<3→k=0∨k=1∨k=2:=fun k h0 h1=>by omega
  unfold L9
  rcases key p.1 hp.1 hp.2 with h | h | h <;> rw [h] <;> rfl
theorem AHi {d:den Z3} (h:ALy d) (p:Pl):0≤L9 d p∧L9 d p<65:=by
  unfold L9
  split
  · exact h.room
  · split
    · exact h.player
    · exact h.box
theorem AGf {l:List Pl} {p:Pl}:{n:Nat}→0<Yv l p n→∃ i,i<n∧List.getD l i (dft Za)=p
  | 0,h=>by simp [Yv] at h
  | n+1,h=>by
    simp only [Yv] at h
    by_cases he:List.getD l n (dft Za)=p
    · exact ⟨n,by omega,he⟩
    · rw [if_neg he] at h
      obtain ⟨i,h1,h2⟩:=AGf (l:=l) (p:=p) (n:=n) (by omega)
      exact ⟨i,by omega,h2⟩
theorem Yf.room {w:den Zb} (h:Yf w) (p:Pl):0≤Y0 w p∧Y0 w p<65:=by
  have hc:=AHi h.may p
  unfold Y0
  by_cases h0:0<Yv w.2.2.2.1 p (List.length (w.2.2.2.1:List (den Za)))
  · obtain ⟨i,hi,he⟩:=AGf h0
    have:=(h.deep i hi).2
    rw [he] at this
    omega
  · omega
end Go.Proofs.YtmemggdjnfccfaaGreatDoor.Ghost
namespace Go.Proofs.YtmemggdjnfccfaaGreatDoor.Ghost
open Go
theorem Qy (w:den Zb) (ok:Ok w) (p:Pl) (hp:(0:Int)≤p.1∧(p.1:Int)<3):Zd (fun n _ _ _=>Jp n w p) (fun r=>r.1.1=Y0 w p):=by
  refine Zd.succ (fun n _ _ _=>Jp.eq n w p) (Zd.ite hp (Zd.call (AG8 w ok.sm p) (fun v hv=>Zd.ret ?_)))
  have hr:=ok.right.room p
  show IntKind.wrap .i64 (List.getD ([(w.1.2.2.2.2.2.1:Int),(w.1.2.2.2.2.2.2.1:Int),(w.1.2.2.2.2.2.2.2.1:Int)]:List Int) (Int.toNat (p.1:Int)) (0:Int) - (List.length (v.1.1:List Int):Int))=Y0 w p
  rw [hv,ADy,AJ9 w.1 p hp]
  unfold Y0 at hr ⊢
  rw [Gb (by omega) (by omega)]
end Go.Proofs.YtmemggdjnfccfaaGreatDoor.Ghost
namespace Go.Proofs.YtmemggdjnfccfaaGreatDoor.Ghost
open Go
def put (w:den Zb) (i:Nat) (p:Pl):den Zb:=(w.1,w.2.1,w.2.2.1,List.set (w.2.2.2.1:List (den Za)) i p,())
theorem Hb (w:den Zb) (i:Nat) (p:Pl):List.length ((put w i p).2.2.2.1:List (den Za))=List.length (w.2.2.2.1:List (den Za)):=by
  show List.length (List.set (w.2.2.2.1:List (den Za)) i p)=_
  exact List.length_set
theorem Mu (w:den Zb) (i j:Nat) (p:Pl) (h:i<List.length (w.2.2.2.1:List (den Za))):List.getD ((put w i p).2.2.2.1:List (den Za)) j (dft Za)=if j=i then p else List.getD (w.2.2.2.1:List (den Za)) j (dft Za):=by
  show List.getD (List.set (w.2.2.2.1:List (den Za)) i p) j (dft Za)=_
  exact Gh _ _ _ _ _ h
theorem AO4 {w:den Zb} (h:Sm w) (i:Nat) (p:Pl):Sm (put w i p) :=
  ⟨h.e,h.b,h.p,h.c,h.i,h.a,h.wc,by rw [Hb]; exact h.wh,h.rows⟩
end Go.Proofs.YtmemggdjnfccfaaGreatDoor.Ghost
namespace Go.Proofs.YtmemggdjnfccfaaGreatDoor.Ghost
open Go
theorem Nk (w:den Zb) (hs:Sm w) {i:Nat} (hi:i<List.length (w.2.2.2.1:List (den Za))) (p:Pl):Zd (fun n _ _ _=>Hq n w (i:Int) p) (fun r=>r=((put w i p,()),[(0,[3])])):=by
  refine Zd.succ (fun n _ _ _=>Hq.eq n w i p) (Zd.call (La w hs) (fun v hv => ?_))
  subst hv
  refine Zd.bifT rfl (Zd.ite ⟨Int.natCast_nonneg i,Int.ofNat_lt.2 hi⟩ (Zd.ret ?_))
  rw [Int.toNat_natCast]
  rfl
end Go.Proofs.YtmemggdjnfccfaaGreatDoor.Ghost
namespace Go.Proofs.YtmemggdjnfccfaaGreatDoor.Ghost
open Go
def Qt (w:den Zb) (k:Int) (p q:Pl):Int:=if k<0 then 3 else if (List.length (w.2.2.2.1:List (den Za)):Int)≤k then 3 else if List.getD (w.2.2.2.1:List (den Za)) (Int.toNat k) (dft Za)=p then (if Y0 w q<1 then 9 else 0) else 5
def Nn (w:den Zb) (k:Int) (p q:Pl):den Zb×Int×Unit:=if Qt w k p q=0 then (put w (Int.toNat k) q,0,()) else (w,Qt w k p q,())
theorem Na {w:den Zb} {k:Int} {p q:Pl} (h:Qt w k p q=0):0≤k∧k<(List.length (w.2.2.2.1:List (den Za)):Int)∧List.getD (w.2.2.2.1:List (den Za)) (Int.toNat k) (dft Za)=p∧1≤Y0 w q:=by
  unfold Qt at h
  split at h
  · cases h
  · split at h
    · cases h
    · split at h
      · split at h
        · cases h
        · rename_i a b c d; exact ⟨by omega,by omega,c,by omega⟩
      · cases h
theorem ACm (w:den Zb) (ok:Ok w) (k:Int) (p q:Pl) (hq:(0:Int)≤q.1∧(q.1:Int)<3):Zd (fun n _ _ _=>Kc n w k p q) (fun r=>r.1=Nn w k p q∧True):=by
  refine Zd.succ (fun n _ _ _=>Kc.eq n w k p q) ?_
  unfold Nn
  refine Zd.bif (fun h1=>Zd.ret ?_) (fun h1=>Zd.bif (fun h2=>Zd.ret ?_) (fun h2 => ?_))
  · have e:Qt w k p q=3:=by unfold Qt; rw [if_pos (of_decide_eq_true h1)]
    rw [e,if_neg (by decide)]; exact ⟨rfl,trivial⟩
  · have e:Qt w k p q=3:=by unfold Qt; rw [if_neg (of_decide_eq_false h1),if_pos (of_decide_eq_true h2)]
    rw [e,if_neg (by decide)]; exact ⟨rfl,trivial⟩
  · have h1:=of_decide_eq_false h1
    have h2:=of_decide_eq_false h2
    refine Zd.ite (by omega) (Zd.bifN (fun h3=>Zd.call (Qy w ok q hq) (fun v hv=>Zd.bif (fun h4=>Zd.ret ?_) (fun h4 => ?_))) (fun h3=>Zd.ret ?_))
    · have h3:=(Lw _ _).1 h3
      have h4:Y0 w q<1:=by rw [← hv]; exact of_decide_eq_true h4
      have e:Qt w k p q=9:=by unfold Qt; rw [if_neg h1,if_neg h2,if_pos h3,if_pos h4]
      rw [e,if_neg (by decide)]; exact ⟨rfl,trivial⟩
    · have h3:=(Lw _ _).1 h3
      have h4:¬ Y0 w q<1:=by rw [← hv]; exact of_decide_eq_false h4
      have e:Qt w k p q=0:=by unfold Qt; rw [if_neg h1,if_neg h2,if_pos h3,if_neg h4]
      rw [e,if_pos rfl]
      obtain ⟨i,rfl⟩:∃ i:Nat,k=(i:Int):=⟨k.toNat,by omega⟩
      rw [Int.toNat_natCast]
      refine Zd.call (Nk w ok.sm (by omega) q) (fun u hu => ?_)
      subst hu
      exact Zd.ret ⟨rfl,trivial⟩
    · have h3':¬ List.getD (w.2.2.2.1:List (den Za)) (Int.toNat k) (dft Za)=p:=fun he=>by rw [(Lw _ _).2 he] at h3; cases h3
      have e:Qt w k p q=5:=by unfold Qt; rw [if_neg h1,if_neg h2,if_neg h3']
      rw [e,if_neg (by decide)]; exact ⟨rfl,trivial⟩
def V7 (w:den Zb) (i:Nat):Pl:=((0:Int),List.getD (w.2.1:List Int) i (0:Int),())
def Ij (i:Nat):Pl:=((1:Int),(i:Int),())
def AHs (w:den Zb) (i:Nat) (k:Int):den Zb×Int×Unit:=Nn w k (V7 w i) (Ij i)
def B7 (w:den Zb) (i:Nat) (k:Int):den Zb×Int×Unit:=Nn w k (Ij i) (V7 w i)
theorem AH6 (w:den Zb) (i:Nat):(0:Int)≤(V7 w i).1∧((V7 w i).1:Int)<3:=⟨by show (0:Int)≤0; decide,by show (0:Int)<3; decide⟩
theorem AS3 (i:Nat):(0:Int)≤(Ij i).1∧((Ij i).1:Int)<3:=⟨by show (0:Int)≤1; decide,by show (1:Int)<3; decide⟩
theorem F2 (w:den Zb) {i:Nat} (hi:i<List.length (w.2.1:List Int)):Zd (fun n _ _ _=>Jn n w (i:Int)) (fun r=>r=((V7 w i,Ij i,()),[])):=by
  refine Zd.succ (fun n _ _ _=>Jn.eq n w i) (Zd.ite ⟨Int.natCast_nonneg i,Int.ofNat_lt.2 hi⟩ (Zd.ret ?_))
  rw [Int.toNat_natCast]
  rfl
theorem ANv (w:den Zb) (ok:Ok w) {i:Nat} (hi:i<List.length (w.2.1:List Int)) (k:Int):Zd (fun n _ _ _=>Hy n w (i:Int) k) (fun r=>r.1=AHs w i k):=by
  refine Zd.succ (fun n _ _ _=>Hy.eq n w i k) (Zd.call (F2 w hi) (fun v hv => ?_))
  subst hv
  refine Zd.call (ACm w ok k (V7 w i) (Ij i) (AS3 i)) (fun u hu=>Zd.ret ?_)
  rw [hu.1]
  rfl
theorem AKi (w:den Zb) (ok:Ok w) {i:Nat} (hi:i<List.length (w.2.1:List Int)) (k:Int):Zd (fun n _ _ _=>Ku n w (i:Int) k) (fun r=>r.1=B7 w i k):=by
  refine Zd.succ (fun n _ _ _=>Ku.eq n w i k) (Zd.call (F2 w hi) (fun v hv => ?_))
  subst hv
  refine Zd.call (ACm w ok k (Ij i) (V7 w i) (AH6 w i)) (fun u hu=>Zd.ret ?_)
  rw [hu.1]
  rfl
end Go.Proofs.YtmemggdjnfccfaaGreatDoor.Ghost
namespace Go.Proofs.YtmemggdjnfccfaaGreatDoor.Ghost
open Go
theorem Rk (l:List Pl) (k:Nat) (q p:Pl) (hk:k<l.length):(n:Nat)→Yv (l.set k q) p n+(if k<n∧List.getD l k (dft Za)=p then 1 else 0)=Yv l p n+(if k<n∧q=p then 1 else 0)
  | 0=>by simp [Yv]
  | n+1=>by
    have ih:=Rk l k q p hk n
    simp only [Yv]
    rw [Gh l k n q (dft Za) hk]
    by_cases hn:n=k
    · subst hn
      simp only [Nat.lt_irrefl,false_and,if_false,if_true,Nat.lt_succ_self,true_and,Nat.add_zero] at ih ⊢
      omega
    · rw [if_neg hn]
      have e:k<n+1↔k<n:=⟨fun h=>by omega,fun h=>by omega⟩
      simp only [e]
      omega
theorem Fa {l:List Pl} {k:Nat} {q:Pl} (hk:k<l.length) (hq:¬ q.1=(2:Int)) (hl:¬ (List.getD l k (dft Za)).1=(2:Int)):(f c:Nat)→(p:Pl)→depI (l.set k q) f c p=depI l f c p
  | 0,c,p=>rfl
  | f+1,c,p=>by
    simp only [depI]
    by_cases hp:p.1=(2:Int)
    · rw [if_pos hp,if_pos hp]
      by_cases h50:50<c+1
      · rw [if_pos h50,if_pos h50]
      · rw [if_neg h50,if_neg h50,Gh l k _ q (dft Za) hk]
        by_cases hi:Int.toNat p.2.1=k
        · rw [if_pos hi,hi,Fa hk hq hl]
          cases f with
          | zero=>simp only [depI]; rw [if_neg hq,if_neg hl]
          | succ f=>simp only [depI]; rw [if_neg hq,if_neg hl]
        · rw [if_neg hi]
          exact Fa hk hq hl f (c+1) _
    · rw [if_neg hp,if_neg hp]
theorem Eu {l:List Pl} {q:Pl} (hq:¬ q.1=(2:Int)):depI l 51 0 q=0:=by
  simp only [depI]
  rw [if_neg hq]
theorem Ok.put {w:den Zb} (ok:Ok w) {k:Nat} (hk:k<List.length (w.2.2.2.1:List (den Za))) {q:Pl} (hq:¬ q.1=(2:Int)) (hl:¬ (List.getD (w.2.2.2.1:List (den Za)) k (dft Za)).1=(2:Int)) (hg:K3 w.1 q) (hr:1≤Y0 w q):Ok (Ghost.put w k q):=by
  have h:=ok.right
  have hset:∀ p:Pl,Yv (List.set (w.2.2.2.1:List (den Za)) k q) p (List.length (w.2.2.2.1:List (den Za)))≤Yv w.2.2.2.1 p (List.length (w.2.2.2.1:List (den Za)))+(if q=p then 1 else 0):=fun p=>by
    have:=Rk w.2.2.2.1 k q p hk (List.length (w.2.2.2.1:List (den Za)))
    simp only [hk,true_and] at this
    omega
  refine ⟨AO4 ok.sm k q,h.may,h.a1,h.c1,by rw [Hb]; exact h.w1,h.at_,fun i hi => ?_,fun i hi => ?_⟩
  · rw [Hb] at hi
    rw [Mu w k i q hk]
    split
    · exact hg
    · exact h.good i hi
  · have hlen:=Hb w k q
    rw [hlen] at hi ⊢
    rw [Mu w k i q hk]
    show depI (List.set (w.2.2.2.1:List (den Za)) k q) 51 0 _≤4∧(Yv (List.set (w.2.2.2.1:List (den Za)) k q) _ _:Int)≤L9 w.1 _
    rw [Fa hk hq hl]
    have many:∀ p:Pl,(Yv (List.set (w.2.2.2.1:List (den Za)) k q) p (List.length (w.2.2.2.1:List (den Za))):Int)≤L9 w.1 p:=fun p=>by
      have h1:=hset p
      by_cases hqp:q=p
      · rw [if_pos hqp] at h1
        subst hqp
        unfold Y0 at hr
        omega
      · rw [if_neg hqp] at h1
        have h2:=(h.room p).1
        unfold Y0 at h2
        omega
    split
    · exact ⟨by rw [Eu hq]; omega,many q⟩
    · exact ⟨(h.deep i hi).1,many _⟩
def Eh (l:List Pl):Nat→Pl→Prop
  | 0,p=>¬ p.1=(2:Int)
  | k+1,p=>p.1=(2:Int)→Eh l k (List.getD l (Int.toNat p.2.1) (dft Za))
theorem AI4 {l:List Pl}:(f c:Nat)→(p:Pl)→depI l f c p≤4→Eh l f p
  | 0,c,p,h=>by
    simp only [depI] at h
    intro hp
    rw [if_pos hp] at h
    omega
  | f+1,c,p,h=>by
    simp only [depI] at h
    intro hp
    rw [if_pos hp] at h
    by_cases h50:50<c+1
    · rw [if_pos h50] at h; omega
    · rw [if_neg h50] at h
      exact AI4 f (c+1) _ h
def Rq (l:List Pl):Nat→Pl→Pl
  | 0,p=>p
  | k+1,p=>if p.1=(2:Int) then Rq l k (List.getD l (Int.toNat p.2.1) (dft Za)) else p
theorem Dn {l:List Pl} {p:Pl} (h:¬ p.1=(2:Int)) (k:Nat):Rq l k p=p:=by
  cases k with
  | zero=>rfl
  | succ k=>simp only [Rq]; rw [if_neg h]
theorem Yf.inPl {w:den Zb} (h:Yf w):∀ i,i<List.length (w.2.2.2.1:List (den Za))→Ghost.inPl w.2.2.2.1 (List.getD w.2.2.2.1 i (dft Za)):=fun i hi=>(h.good i hi).inPl h.w1
theorem Yf.ends {w:den Zb} (h:Yf w) {i:Nat} (hi:i<List.length (w.2.2.2.1:List (den Za))):Eh w.2.2.2.1 51 (List.getD w.2.2.2.1 i (dft Za)):=AI4 51 0 _ (h.deep i hi).1
end Go.Proofs.YtmemggdjnfccfaaGreatDoor.Ghost
namespace Go.Proofs.YtmemggdjnfccfaaGreatDoor.Ghost
open Go
end Go.Proofs.YtmemggdjnfccfaaGreatDoor.Ghost
namespace Go.Proofs.YtmemggdjnfccfaaGreatDoor.Ghost
open Go
end Go.Proofs.YtmemggdjnfccfaaGreatDoor.Ghost
