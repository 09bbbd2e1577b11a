/- What functions come to, and that the statements are answered with 'true'. Conditions: none. -/
import Derived.Test.YtmemggdjnfccfaaGreatDoorS
import Derived.Test.YtmemggdjnfccfaaGreatDoorGE
import Derived.Test.YtmemggdjnfccfaaGreatDoorP1
import Derived.Test.YtmemggdjnfccfaaGreatDoorP2
import Derived.Test.YtmemggdjnfccfaaGreatDoorP3
import Derived.Test.YtmemggdjnfccfaaGreatDoorP4
set_option linter.unusedVariables false
set_option linter.unusedSimpArgs false
set_option linter.unusedSectionVars false
set_option linter.unnecessarySimpa false
namespace Go.Proofs.YtmemggdjnfccfaaGreatDoor.Ghost
open Go
def inL (l:List Pl) (p:Pl):Nat→List Int
  | 0=>[]
  | n+1=>inL l p n ++ (if List.getD l n (dft Za)=p then [(n:Int)] else [])
theorem ADi (l:List Pl) (p:Pl):(n:Nat)→(inL l p n).length=Yx l p n
  | 0=>rfl
  | n+1=>by
    simp only [inL,Yx,List.length_append,ADi l p n]
    split <;> rfl
theorem Db (w:den Zb) (hs:Sm w) (p:Pl) (t0:den Zb) (t1:Pl) (t4:List Int):(r i:Nat)→i+r=List.length (w.2.2.2.1:List (den Za)) →
    Ze (fun n m _ _=>Y5.l0 n m t0 t1 t4 w.2.2.2.1 (List.length (w.2.2.2.1:List (den Za)):Int) (i:Int) w p (inL w.2.2.2.1 p i)) (fun r=>r=((inL w.2.2.2.1 p (List.length (w.2.2.2.1:List (den Za))),()),[(0,[])]))
  | 0,i,hi=>by
    refine Ze.succ1 (fun n m _ _=>Y5.l0_eq n m t0 t1 t4 w.2.2.2.1 _ i w p _) (Ze.bif (fun h => ?_) (fun h=>Ze.ret ?_))
    · have:=of_decide_eq_true h; omega
    · rw [show i=List.length (w.2.2.2.1:List (den Za)) by omega]
  | r+1,i,hi=>by
    have hlen:=hs.wh
    have hle:=En w.2.2.2.1 p i
    have hil:=ADi w.2.2.2.1 p i
    refine Ze.succ1 (fun n m _ _=>Y5.l0_eq n m t0 t1 t4 w.2.2.2.1 _ i w p _) (Ze.bif (fun h=>Ze.ite (by omega) (Ze.bif (fun h2=>Ze.ite (by omega) ?_) (fun h2 => ?_))) (fun h => ?_))
    · rw [Xv (by omega)]
      have e:inL w.2.2.2.1 p (i+1)=inL w.2.2.2.1 p i ++ [(i:Int)]:=by
        simp only [inL]; rw [if_pos (by simpa using ((Iv _ _).1 h2).symm)]
      rw [← e]
      exact Db w hs p t0 t1 t4 r (i+1) (by omega)
    · rw [Xv (by omega)]
      have e:inL w.2.2.2.1 p (i+1)=inL w.2.2.2.1 p i:=by
        simp only [inL]
        rw [if_neg (fun he=>by rw [(Iv _ _).2 (by simpa using he.symm)] at h2; cases h2),List.append_nil]
      have:=Db w hs p t0 t1 t4 r (i+1) (by omega)
      rw [e] at this
      exact this
    · have:=of_decide_eq_false h; omega
theorem AD1 (w:den Zb) (hs:Sm w) (p:Pl):Ze (fun n _ _ _=>Y5 n w p) (fun r=>r=((inL w.2.2.2.1 p (List.length (w.2.2.2.1:List (den Za))),()),[(0,[])])):=by
  refine Ze.succ (fun n _ _ _=>Y5.eq n w p) ?_
  exact (Db w hs p w p [] _ 0 (Nat.zero_add _)).enter
theorem AGn (w:den Zb) (hs:Sm w) (p:Pl):Ze (fun n _ _ _=>Y5 n w p) (fun r=>r.1.1=inL w.2.2.2.1 p (List.length (w.2.2.2.1:List (den Za)))):=(AD1 w hs p).mono (fun _ h=>by rw [h])
end Go.Proofs.YtmemggdjnfccfaaGreatDoor.Ghost
namespace Go.Proofs.YtmemggdjnfccfaaGreatDoor.Ghost
open Go
def Y3 (w:den Zb) (p:Pl):Int:=Lo w.1 p - (Yx w.2.2.2.1 p (List.length (w.2.2.2.1:List (den Za))):Int)
theorem AJl (d:den Xa) (p:Pl) (hp:(0:Int)≤p.1∧(p.1:Int)<3):List.getD ([(d.2.2.2.2.2.1:Int),(d.2.2.2.2.2.2.1:Int),(d.2.2.2.2.2.2.2.1:Int)]:List Int) (Int.toNat (p.1:Int)) (0:Int)=Lo d p:=by
  have key:∀ k:Int,0≤k→k<3→k=0∨k=1∨k=2:=fun k h0 h1=>by omega
  unfold Lo
  rcases key p.1 hp.1 hp.2 with h | h | h <;> rw [h] <;> rfl
theorem AGw {d:den Xa} (h:AK9 d) (p:Pl):0≤Lo d p∧Lo d p<65:=by
  unfold Lo
  split
  · exact h.room
  · split
    · exact h.player
    · exact h.box
theorem AFv {l:List Pl} {p:Pl}:{n:Nat}→0<Yx l p n→∃ i,i<n∧List.getD l i (dft Za)=p
  | 0,h=>by simp [Yx] at h
  | n+1,h=>by
    simp only [Yx] at h
    by_cases he:List.getD l n (dft Za)=p
    · exact ⟨n,by omega,he⟩
    · rw [if_neg he] at h
      obtain ⟨i,h1,h2⟩:=AFv (l:=l) (p:=p) (n:=n) (by omega)
      exact ⟨i,by omega,h2⟩
theorem X9.room {w:den Zb} (h:X9 w) (p:Pl):0≤Y3 w p∧Y3 w p<65:=by
  have hc:=AGw h.may p
  unfold Y3
  by_cases h0:0<Yx w.2.2.2.1 p (List.length (w.2.2.2.1:List (den Za)))
  · obtain ⟨i,hi,he⟩:=AFv h0
    have:=(h.deep i hi).2
    rw [he] at this
    omega
  · omega
end Go.Proofs.YtmemggdjnfccfaaGreatDoor.Ghost
namespace Go.Proofs.YtmemggdjnfccfaaGreatDoor.Ghost
open Go
theorem Qq (w:den Zb) (ok:Ok w) (p:Pl) (hp:(0:Int)≤p.1∧(p.1:Int)<3):Ze (fun n _ _ _=>Je n w p) (fun r=>r.1.1=Y3 w p):=by
  refine Ze.succ (fun n _ _ _=>Je.eq n w p) (Ze.ite hp (Ze.call (AGn w ok.sm p) (fun v hv=>Ze.ret ?_)))
  have hr:=ok.right.room p
  show IntKind.wrap .i64 (List.getD ([(w.1.2.2.2.2.2.1:Int),(w.1.2.2.2.2.2.2.1:Int),(w.1.2.2.2.2.2.2.2.1:Int)]:List Int) (Int.toNat (p.1:Int)) (0:Int) - (List.length (v.1.1:List Int):Int))=Y3 w p
  rw [hv,ADi,AJl w.1 p hp]
  unfold Y3 at hr ⊢
  rw [K6 (by omega) (by omega)]
end Go.Proofs.YtmemggdjnfccfaaGreatDoor.Ghost
namespace Go.Proofs.YtmemggdjnfccfaaGreatDoor.Ghost
open Go
def put (w:den Zb) (i:Nat) (p:Pl):den Zb:=(w.1,w.2.1,w.2.2.1,List.set (w.2.2.2.1:List (den Za)) i p,())
theorem Hk (w:den Zb) (i:Nat) (p:Pl):List.length ((put w i p).2.2.2.1:List (den Za))=List.length (w.2.2.2.1:List (den Za)):=by
  show List.length (List.set (w.2.2.2.1:List (den Za)) i p)=_
  exact List.length_set
theorem L5 (w:den Zb) (i j:Nat) (p:Pl) (h:i<List.length (w.2.2.2.1:List (den Za))):List.getD ((put w i p).2.2.2.1:List (den Za)) j (dft Za)=if j=i then p else List.getD (w.2.2.2.1:List (den Za)) j (dft Za):=by
  show List.getD (List.set (w.2.2.2.1:List (den Za)) i p) j (dft Za)=_
  exact H8 _ _ _ _ _ h
theorem AOg {w:den Zb} (h:Sm w) (i:Nat) (p:Pl):Sm (put w i p) :=
  ⟨h.e,h.b,h.p,h.c,h.i,h.a,h.wc,by rw [Hk]; exact h.wh,h.rows⟩
end Go.Proofs.YtmemggdjnfccfaaGreatDoor.Ghost
namespace Go.Proofs.YtmemggdjnfccfaaGreatDoor.Ghost
open Go
theorem O0 (w:den Zb) (hs:Sm w) {i:Nat} (hi:i<List.length (w.2.2.2.1:List (den Za))) (p:Pl):Ze (fun n _ _ _=>Hi n w (i:Int) p) (fun r=>r=((put w i p,()),[(0,[3])])):=by
  refine Ze.succ (fun n _ _ _=>Hi.eq n w i p) (Ze.call (Mp w hs) (fun v hv => ?_))
  subst hv
  refine Ze.bifT rfl (Ze.ite ⟨Int.natCast_nonneg i,Int.ofNat_lt.2 hi⟩ (Ze.ret ?_))
  rw [Int.toNat_natCast]
  rfl
end Go.Proofs.YtmemggdjnfccfaaGreatDoor.Ghost
namespace Go.Proofs.YtmemggdjnfccfaaGreatDoor.Ghost
open Go
def Vr (w:den Zb) (k:Int) (p q:Pl):Int:=if k<0 then 3 else if (List.length (w.2.2.2.1:List (den Za)):Int)≤k then 3 else if List.getD (w.2.2.2.1:List (den Za)) (Int.toNat k) (dft Za)=p then (if Y3 w q<1 then 9 else 0) else 5
def O4 (w:den Zb) (k:Int) (p q:Pl):den Zb×Int×Unit:=if Vr w k p q=0 then (put w (Int.toNat k) q,0,()) else (w,Vr w k p q,())
theorem Or {w:den Zb} {k:Int} {p q:Pl} (h:Vr w k p q=0):0≤k∧k<(List.length (w.2.2.2.1:List (den Za)):Int)∧List.getD (w.2.2.2.1:List (den Za)) (Int.toNat k) (dft Za)=p∧1≤Y3 w q:=by
  unfold Vr at h
  split at h
  · cases h
  · split at h
    · cases h
    · split at h
      · split at h
        · cases h
        · rename_i a b c d; exact ⟨by omega,by omega,c,by omega⟩
      · cases h
theorem AB6 (w:den Zb) (ok:Ok w) (k:Int) (p q:Pl) (hq:(0:Int)≤q.1∧(q.1:Int)<3):Ze (fun n _ _ _=>Ka n w k p q) (fun r=>r.1=O4 w k p q∧True):=by
  refine Ze.succ (fun n _ _ _=>Ka.eq n w k p q) ?_
  unfold O4
  refine Ze.bif (fun h1=>Ze.ret ?_) (fun h1=>Ze.bif (fun h2=>Ze.ret ?_) (fun h2 => ?_))
  · have e:Vr w k p q=3:=by unfold Vr; rw [if_pos (of_decide_eq_true h1)]
    rw [e,if_neg (by decide)]; exact ⟨rfl,trivial⟩
  · have e:Vr w k p q=3:=by unfold Vr; rw [if_neg (of_decide_eq_false h1),if_pos (of_decide_eq_true h2)]
    rw [e,if_neg (by decide)]; exact ⟨rfl,trivial⟩
  · have h1:=of_decide_eq_false h1
    have h2:=of_decide_eq_false h2
    refine Ze.ite (by omega) (Ze.bifN (fun h3=>Ze.call (Qq w ok q hq) (fun v hv=>Ze.bif (fun h4=>Ze.ret ?_) (fun h4 => ?_))) (fun h3=>Ze.ret ?_))
    · have h3:=(Iv _ _).1 h3
      have h4:Y3 w q<1:=by rw [← hv]; exact of_decide_eq_true h4
      have e:Vr w k p q=9:=by unfold Vr; rw [if_neg h1,if_neg h2,if_pos h3,if_pos h4]
      rw [e,if_neg (by decide)]; exact ⟨rfl,trivial⟩
    · have h3:=(Iv _ _).1 h3
      have h4:¬ Y3 w q<1:=by rw [← hv]; exact of_decide_eq_false h4
      have e:Vr w k p q=0:=by unfold Vr; rw [if_neg h1,if_neg h2,if_pos h3,if_neg h4]
      rw [e,if_pos rfl]
      obtain ⟨i,rfl⟩:∃ i:Nat,k=(i:Int):=⟨k.toNat,by omega⟩
      rw [Int.toNat_natCast]
      refine Ze.call (O0 w ok.sm (by omega) q) (fun u hu => ?_)
      subst hu
      exact Ze.ret ⟨rfl,trivial⟩
    · have h3':¬ List.getD (w.2.2.2.1:List (den Za)) (Int.toNat k) (dft Za)=p:=fun he=>by rw [(Iv _ _).2 he] at h3; cases h3
      have e:Vr w k p q=5:=by unfold Vr; rw [if_neg h1,if_neg h2,if_neg h3']
      rw [e,if_neg (by decide)]; exact ⟨rfl,trivial⟩
def H0 (w:den Zb) (i:Nat):Pl:=((0:Int),List.getD (w.2.1:List Int) i (0:Int),())
def Fl (i:Nat):Pl:=((1:Int),(i:Int),())
def AG6 (w:den Zb) (i:Nat) (k:Int):den Zb×Int×Unit:=O4 w k (H0 w i) (Fl i)
def Bq (w:den Zb) (i:Nat) (k:Int):den Zb×Int×Unit:=O4 w k (Fl i) (H0 w i)
theorem AHk (w:den Zb) (i:Nat):(0:Int)≤(H0 w i).1∧((H0 w i).1:Int)<3:=⟨by show (0:Int)≤0; decide,by show (0:Int)<3; decide⟩
theorem ASh (i:Nat):(0:Int)≤(Fl i).1∧((Fl i).1:Int)<3:=⟨by show (0:Int)≤1; decide,by show (1:Int)<3; decide⟩
theorem Fo (w:den Zb) {i:Nat} (hi:i<List.length (w.2.1:List Int)):Ze (fun n _ _ _=>Jc n w (i:Int)) (fun r=>r=((H0 w i,Fl i,()),[])):=by
  refine Ze.succ (fun n _ _ _=>Jc.eq n w i) (Ze.ite ⟨Int.natCast_nonneg i,Int.ofNat_lt.2 hi⟩ (Ze.ret ?_))
  rw [Int.toNat_natCast]
  rfl
theorem AM7 (w:den Zb) (ok:Ok w) {i:Nat} (hi:i<List.length (w.2.1:List Int)) (k:Int):Ze (fun n _ _ _=>Hq n w (i:Int) k) (fun r=>r.1=AG6 w i k):=by
  refine Ze.succ (fun n _ _ _=>Hq.eq n w i k) (Ze.call (Fo w hi) (fun v hv => ?_))
  subst hv
  refine Ze.call (AB6 w ok k (H0 w i) (Fl i) (ASh i)) (fun u hu=>Ze.ret ?_)
  rw [hu.1]
  rfl
theorem AJu (w:den Zb) (ok:Ok w) {i:Nat} (hi:i<List.length (w.2.1:List Int)) (k:Int):Ze (fun n _ _ _=>Kr n w (i:Int) k) (fun r=>r.1=Bq w i k):=by
  refine Ze.succ (fun n _ _ _=>Kr.eq n w i k) (Ze.call (Fo w hi) (fun v hv => ?_))
  subst hv
  refine Ze.call (AB6 w ok k (Fl i) (H0 w i) (AHk w i)) (fun u hu=>Ze.ret ?_)
  rw [hu.1]
  rfl
end Go.Proofs.YtmemggdjnfccfaaGreatDoor.Ghost
namespace Go.Proofs.YtmemggdjnfccfaaGreatDoor.Ghost
open Go
theorem T7 (l:List Pl) (k:Nat) (q p:Pl) (hk:k<l.length):(n:Nat)→Yx (l.set k q) p n+(if k<n∧List.getD l k (dft Za)=p then 1 else 0)=Yx l p n+(if k<n∧q=p then 1 else 0)
  | 0=>by simp [Yx]
  | n+1=>by
    have ih:=T7 l k q p hk n
    simp only [Yx]
    rw [H8 l k n q (dft Za) hk]
    by_cases hn:n=k
    · subst hn
      simp only [Nat.lt_irrefl,false_and,if_false,if_true,Nat.lt_succ_self,true_and,Nat.add_zero] at ih ⊢
      omega
    · rw [if_neg hn]
      have e:k<n+1↔k<n:=⟨fun h=>by omega,fun h=>by omega⟩
      simp only [e]
      omega
theorem Ir {l:List Pl} {k:Nat} {q:Pl} (hk:k<l.length) (hq:¬ q.1=(2:Int)) (hl:¬ (List.getD l k (dft Za)).1=(2:Int)):(f c:Nat)→(p:Pl)→depI (l.set k q) f c p=depI l f c p
  | 0,c,p=>rfl
  | f+1,c,p=>by
    simp only [depI]
    by_cases hp:p.1=(2:Int)
    · rw [if_pos hp,if_pos hp]
      by_cases h50:50<c+1
      · rw [if_pos h50,if_pos h50]
      · rw [if_neg h50,if_neg h50,H8 l k _ q (dft Za) hk]
        by_cases hi:Int.toNat p.2.1=k
        · rw [if_pos hi,hi,Ir hk hq hl]
          cases f with
          | zero=>simp only [depI]; rw [if_neg hq,if_neg hl]
          | succ f=>simp only [depI]; rw [if_neg hq,if_neg hl]
        · rw [if_neg hi]
          exact Ir hk hq hl f (c+1) _
    · rw [if_neg hp,if_neg hp]
theorem Ed {l:List Pl} {q:Pl} (hq:¬ q.1=(2:Int)):depI l 51 0 q=0:=by
  simp only [depI]
  rw [if_neg hq]
theorem Ok.put {w:den Zb} (ok:Ok w) {k:Nat} (hk:k<List.length (w.2.2.2.1:List (den Za))) {q:Pl} (hq:¬ q.1=(2:Int)) (hl:¬ (List.getD (w.2.2.2.1:List (den Za)) k (dft Za)).1=(2:Int)) (hg:K1 w.1 q) (hr:1≤Y3 w q):Ok (Ghost.put w k q):=by
  have h:=ok.right
  have hset:∀ p:Pl,Yx (List.set (w.2.2.2.1:List (den Za)) k q) p (List.length (w.2.2.2.1:List (den Za)))≤Yx w.2.2.2.1 p (List.length (w.2.2.2.1:List (den Za)))+(if q=p then 1 else 0):=fun p=>by
    have:=T7 w.2.2.2.1 k q p hk (List.length (w.2.2.2.1:List (den Za)))
    simp only [hk,true_and] at this
    omega
  refine ⟨AOg ok.sm k q,h.may,h.a1,h.c1,by rw [Hk]; exact h.w1,h.at_,fun i hi => ?_,fun i hi => ?_⟩
  · rw [Hk] at hi
    rw [L5 w k i q hk]
    split
    · exact hg
    · exact h.good i hi
  · have hlen:=Hk w k q
    rw [hlen] at hi ⊢
    rw [L5 w k i q hk]
    show depI (List.set (w.2.2.2.1:List (den Za)) k q) 51 0 _≤4∧(Yx (List.set (w.2.2.2.1:List (den Za)) k q) _ _:Int)≤Lo w.1 _
    rw [Ir hk hq hl]
    have many:∀ p:Pl,(Yx (List.set (w.2.2.2.1:List (den Za)) k q) p (List.length (w.2.2.2.1:List (den Za))):Int)≤Lo w.1 p:=fun p=>by
      have h1:=hset p
      by_cases hqp:q=p
      · rw [if_pos hqp] at h1
        subst hqp
        unfold Y3 at hr
        omega
      · rw [if_neg hqp] at h1
        have h2:=(h.room p).1
        unfold Y3 at h2
        omega
    split
    · exact ⟨by rw [Ed hq]; omega,many q⟩
    · exact ⟨(h.deep i hi).1,many _⟩
def Id (l:List Pl):Nat→Pl→Prop
  | 0,p=>¬ p.1=(2:Int)
  | k+1,p=>p.1=(2:Int)→Id l k (List.getD l (Int.toNat p.2.1) (dft Za))
theorem AIi {l:List Pl}:(f c:Nat)→(p:Pl)→depI l f c p≤4→Id l f p
  | 0,c,p,h=>by
    simp only [depI] at h
    intro hp
    rw [if_pos hp] at h
    omega
  | f+1,c,p,h=>by
    simp only [depI] at h
    intro hp
    rw [if_pos hp] at h
    by_cases h50:50<c+1
    · rw [if_pos h50] at h; omega
    · rw [if_neg h50] at h
      exact AIi f (c+1) _ h
def Ws (l:List Pl):Nat→Pl→Pl
  | 0,p=>p
  | k+1,p=>if p.1=(2:Int) then Ws l k (List.getD l (Int.toNat p.2.1) (dft Za)) else p
theorem M2 {l:List Pl} {p:Pl} (h:¬ p.1=(2:Int)) (k:Nat):Ws l k p=p:=by
  cases k with
  | zero=>rfl
  | succ k=>simp only [Ws]; rw [if_neg h]
theorem X9.inPl {w:den Zb} (h:X9 w):∀ i,i<List.length (w.2.2.2.1:List (den Za))→Ghost.inPl w.2.2.2.1 (List.getD w.2.2.2.1 i (dft Za)):=fun i hi=>(h.good i hi).inPl h.w1
theorem X9.ends {w:den Zb} (h:X9 w) {i:Nat} (hi:i<List.length (w.2.2.2.1:List (den Za))):Id w.2.2.2.1 51 (List.getD w.2.2.2.1 i (dft Za)):=AIi 51 0 _ (h.deep i hi).1
end Go.Proofs.YtmemggdjnfccfaaGreatDoor.Ghost
namespace Go.Proofs.YtmemggdjnfccfaaGreatDoor.Ghost
open Go
theorem Ot (w:den Zb) (h:X9 w):(k:Nat)→(i:Nat)→i<List.length (w.2.2.2.1:List (den Za))→Id w.2.2.2.1 k (List.getD w.2.2.2.1 i (dft Za)) →
    Ze (fun n _ _ _=>X6 n w (i:Int)) (fun r=>r.1.1=Ws w.2.2.2.1 k (List.getD w.2.2.2.1 i (dft Za)))
  | k,i,hi,he=>by
    refine Ze.succ (fun n _ _ _=>X6.eq n w i) (Ze.ite ⟨Int.natCast_nonneg i,Int.ofNat_lt.2 hi⟩ ?_)
    rw [Int.toNat_natCast]
    refine Ze.bifN (fun h2 => ?_) (fun h2=>Ze.ret ?_)
    · have h2:(List.getD w.2.2.2.1 i (dft Za)).1=(2:Int):=of_decide_eq_true h2
      have hin:=h.inPl i hi h2
      cases k with
      | zero=>exact absurd h2 he
      | succ k =>
        have e1:=Int.toNat_of_nonneg hin.1
        rw [← e1]
        refine Ze.call (Ot w h k _ ((Int.toNat_lt hin.1).2 hin.2) (he h2)) (fun v hv=>Ze.ret ?_)
        show v.1.1=_
        rw [hv]
        simp only [Ws]
        rw [if_pos h2]
    · have h2:¬ (List.getD w.2.2.2.1 i (dft Za)).1=(2:Int):=of_decide_eq_false h2
      rw [M2 h2]
end Go.Proofs.YtmemggdjnfccfaaGreatDoor.Ghost
namespace Go.Proofs.YtmemggdjnfccfaaGreatDoor.Ghost
open Go
end Go.Proofs.YtmemggdjnfccfaaGreatDoor.Ghost
