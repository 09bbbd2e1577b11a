/- What functions come to, and that the statements are answered with 'true'. Conditions: none. -/
import Derived.Test.YtpemapoblhleoaaGreatDoorS
import Derived.Test.YtpemapoblhleoaaGreatDoorGE
import Derived.Test.YtpemapoblhleoaaGreatDoorP1
import Derived.Test.YtpemapoblhleoaaGreatDoorP2
set_option linter.unusedVariables false
set_option linter.unusedSimpArgs false
set_option linter.unusedSectionVars false
set_option linter.unnecessarySimpa false
namespace Go.Proofs.YtpemapoblhleoaaGreatDoor.Ghost
open Go
def inL (l:List Pl) (p:Pl):Nat→List Int
  | 0=>[]
  | n+1=>inL l p n ++ (if List.getD l n (dft Zb)=p then [(n:Int)] else [])
theorem AB1 (l:List Pl) (p:Pl):(n:Nat)→(inL l p n).length=Yl l p n
  | 0=>rfl
  | n+1=>by
    simp only [inL,Yl,List.length_append,AB1 l p n]
    split <;> rfl
theorem F9 (w:den Za) (hs:Sm w) (p:Pl) (t0:den Za) (t1:Pl) (t4:List Int):(r i:Nat)→i+r=List.length (w.2.2.2.1:List (den Zb)) →
    Zd (fun n m _ _=>Yu.l0 n m t0 t1 t4 w.2.2.2.1 (List.length (w.2.2.2.1:List (den Zb)):Int) (i:Int) w p (inL w.2.2.2.1 p i)) (fun r=>r=((inL w.2.2.2.1 p (List.length (w.2.2.2.1:List (den Zb))),()),[(0,[])]))
  | 0,i,hi=>by
    refine Zd.succ1 (fun n m _ _=>Yu.l0_eq n m t0 t1 t4 w.2.2.2.1 _ i w p _) (Zd.bif (fun h => ?_) (fun h=>Zd.ret ?_))
    · have:=of_decide_eq_true h; omega
    · rw [show i=List.length (w.2.2.2.1:List (den Zb)) by omega]
  | r+1,i,hi=>by
    have hlen:=hs.wh
    have hle:=Fo w.2.2.2.1 p i
    have hil:=AB1 w.2.2.2.1 p i
    refine Zd.succ1 (fun n m _ _=>Yu.l0_eq n m t0 t1 t4 w.2.2.2.1 _ i w p _) (Zd.bif (fun h=>Zd.ite (by omega) (Zd.bif (fun h2=>Zd.ite (by omega) ?_) (fun h2 => ?_))) (fun h => ?_))
    · rw [Xr (by omega)]
      have e:inL w.2.2.2.1 p (i+1)=inL w.2.2.2.1 p i ++ [(i:Int)]:=by
        simp only [inL]; rw [if_pos (by simpa using ((Me _ _).1 h2).symm)]
      rw [← e]
      exact F9 w hs p t0 t1 t4 r (i+1) (by omega)
    · rw [Xr (by omega)]
      have e:inL w.2.2.2.1 p (i+1)=inL w.2.2.2.1 p i:=by
        simp only [inL]
        rw [if_neg (fun he=>by rw [(Me _ _).2 (by simpa using he.symm)] at h2; cases h2),List.append_nil]
      have:=F9 w hs p t0 t1 t4 r (i+1) (by omega)
      rw [e] at this
      exact this
    · have:=of_decide_eq_false h; omega
theorem ACi (w:den Za) (hs:Sm w) (p:Pl):Zd (fun n _ _ _=>Yu n w p) (fun r=>r=((inL w.2.2.2.1 p (List.length (w.2.2.2.1:List (den Zb))),()),[(0,[])])):=by
  refine Zd.succ (fun n _ _ _=>Yu.eq n w p) ?_
  exact (F9 w hs p w p [] _ 0 (Nat.zero_add _)).enter
theorem AE2 (w:den Za) (hs:Sm w) (p:Pl):Zd (fun n _ _ _=>Yu n w p) (fun r=>r.1.1=inL w.2.2.2.1 p (List.length (w.2.2.2.1:List (den Zb)))):=(ACi w hs p).mono (fun _ h=>by rw [h])
end Go.Proofs.YtpemapoblhleoaaGreatDoor.Ghost
namespace Go.Proofs.YtpemapoblhleoaaGreatDoor.Ghost
open Go
def Yr (w:den Za) (p:Pl):Int:=Mv w.1 p - (Yl w.2.2.2.1 p (List.length (w.2.2.2.1:List (den Zb))):Int)
theorem AHt (d:den Zu) (p:Pl) (hp:(0:Int)≤p.1∧(p.1:Int)<3):List.getD ([(d.2.2.2.2.2.1:Int),(d.2.2.2.2.2.2.1:Int),(d.2.2.2.2.2.2.2.1:Int)]:List Int) (Int.toNat (p.1:Int)) (0:Int)=Mv d p:=by
  have key:∀ k:Int,0≤k→k<3→k=0∨k=1∨k=2:=fun k h0 h1=>by omega
  unfold Mv
  rcases key p.1 hp.1 hp.2 with h | h | h <;> rw [h] <;> rfl
theorem AFa {d:den Zu} (h:AJd d) (p:Pl):0≤Mv d p∧Mv d p<65:=by
  unfold Mv
  split
  · exact h.room
  · split
    · exact h.player
    · exact h.box
theorem AEc {l:List Pl} {p:Pl}:{n:Nat}→0<Yl l p n→∃ i,i<n∧List.getD l i (dft Zb)=p
  | 0,h=>by simp [Yl] at h
  | n+1,h=>by
    simp only [Yl] at h
    by_cases he:List.getD l n (dft Zb)=p
    · exact ⟨n,by omega,he⟩
    · rw [if_neg he] at h
      obtain ⟨i,h1,h2⟩:=AEc (l:=l) (p:=p) (n:=n) (by omega)
      exact ⟨i,by omega,h2⟩
theorem X1.room {w:den Za} (h:X1 w) (p:Pl):0≤Yr w p∧Yr w p<65:=by
  have hc:=AFa h.may p
  unfold Yr
  by_cases h0:0<Yl w.2.2.2.1 p (List.length (w.2.2.2.1:List (den Zb)))
  · obtain ⟨i,hi,he⟩:=AEc h0
    have:=(h.deep i hi).2
    rw [he] at this
    omega
  · omega
end Go.Proofs.YtpemapoblhleoaaGreatDoor.Ghost
namespace Go.Proofs.YtpemapoblhleoaaGreatDoor.Ghost
open Go
theorem Qd (w:den Za) (ok:Ok w) (p:Pl) (hp:(0:Int)≤p.1∧(p.1:Int)<3):Zd (fun n _ _ _=>Qz n w p) (fun r=>r.1.1=Yr w p):=by
  refine Zd.succ (fun n _ _ _=>Qz.eq n w p) (Zd.ite hp (Zd.call (AE2 w ok.sm p) (fun v hv=>Zd.ret ?_)))
  have hr:=ok.right.room p
  show IntKind.wrap .i64 (List.getD ([(w.1.2.2.2.2.2.1:Int),(w.1.2.2.2.2.2.2.1:Int),(w.1.2.2.2.2.2.2.2.1:Int)]:List Int) (Int.toNat (p.1:Int)) (0:Int) - (List.length (v.1.1:List Int):Int))=Yr w p
  rw [hv,AB1,AHt w.1 p hp]
  unfold Yr at hr ⊢
  rw [Hl (by omega) (by omega)]
end Go.Proofs.YtpemapoblhleoaaGreatDoor.Ghost
namespace Go.Proofs.YtpemapoblhleoaaGreatDoor.Ghost
open Go
def put (w:den Za) (i:Nat) (p:Pl):den Za:=(w.1,w.2.1,w.2.2.1,List.set (w.2.2.2.1:List (den Zb)) i p,())
theorem Hk (w:den Za) (i:Nat) (p:Pl):List.length ((put w i p).2.2.2.1:List (den Zb))=List.length (w.2.2.2.1:List (den Zb)):=by
  show List.length (List.set (w.2.2.2.1:List (den Zb)) i p)=_
  exact List.length_set
theorem ACc (w:den Za) (i j:Nat) (p:Pl) (h:i<List.length (w.2.2.2.1:List (den Zb))):List.getD ((put w i p).2.2.2.1:List (den Zb)) j (dft Zb)=if j=i then p else List.getD (w.2.2.2.1:List (den Zb)) j (dft Zb):=by
  show List.getD (List.set (w.2.2.2.1:List (den Zb)) i p) j (dft Zb)=_
  exact Gd _ _ _ _ _ h
theorem AMg {w:den Za} (h:Sm w) (i:Nat) (p:Pl):Sm (put w i p) :=
  ⟨h.e,h.b,h.p,h.c,h.i,h.a,h.wc,by rw [Hk]; exact h.wh,h.rows⟩
end Go.Proofs.YtpemapoblhleoaaGreatDoor.Ghost
namespace Go.Proofs.YtpemapoblhleoaaGreatDoor.Ghost
open Go
theorem P6 (w:den Za) (hs:Sm w) {i:Nat} (hi:i<List.length (w.2.2.2.1:List (den Zb))) (p:Pl):Zd (fun n _ _ _=>K2 n w (i:Int) p) (fun r=>r=((put w i p,()),[(0,[3])])):=by
  refine Zd.succ (fun n _ _ _=>K2.eq n w i p) (Zd.call (Nx w hs) (fun v hv => ?_))
  subst hv
  refine Zd.bifT rfl (Zd.ite ⟨Int.natCast_nonneg i,Int.ofNat_lt.2 hi⟩ (Zd.ret ?_))
  rw [Int.toNat_natCast]
  rfl
end Go.Proofs.YtpemapoblhleoaaGreatDoor.Ghost
namespace Go.Proofs.YtpemapoblhleoaaGreatDoor.Ghost
open Go
def Q7 (w:den Za) (k:Int) (p q:Pl):Int:=if k<0 then 3 else if (List.length (w.2.2.2.1:List (den Zb)):Int)≤k then 3 else if List.getD (w.2.2.2.1:List (den Zb)) (Int.toNat k) (dft Zb)=p then (if Yr w q<1 then 9 else 0) else 5
def Oa (w:den Za) (k:Int) (p q:Pl):den Za×Int×Unit:=if Q7 w k p q=0 then (put w (Int.toNat k) q,0,()) else (w,Q7 w k p q,())
theorem Pz {w:den Za} {k:Int} {p q:Pl} (h:Q7 w k p q=0):0≤k∧k<(List.length (w.2.2.2.1:List (den Zb)):Int)∧List.getD (w.2.2.2.1:List (den Zb)) (Int.toNat k) (dft Zb)=p∧1≤Yr w q:=by
  unfold Q7 at h
  split at h
  · cases h
  · split at h
    · cases h
    · split at h
      · split at h
        · cases h
        · rename_i a b c d; exact ⟨by omega,by omega,c,by omega⟩
      · cases h
theorem AAr (w:den Za) (ok:Ok w) (k:Int) (p q:Pl) (hq:(0:Int)≤q.1∧(q.1:Int)<3):Zd (fun n _ _ _=>Vn n w k p q) (fun r=>r.1=Oa w k p q∧True):=by
  refine Zd.succ (fun n _ _ _=>Vn.eq n w k p q) ?_
  unfold Oa
  refine Zd.bif (fun h1=>Zd.ret ?_) (fun h1=>Zd.bif (fun h2=>Zd.ret ?_) (fun h2 => ?_))
  · have e:Q7 w k p q=3:=by unfold Q7; rw [if_pos (of_decide_eq_true h1)]
    rw [e,if_neg (by decide)]; exact ⟨rfl,trivial⟩
  · have e:Q7 w k p q=3:=by unfold Q7; rw [if_neg (of_decide_eq_false h1),if_pos (of_decide_eq_true h2)]
    rw [e,if_neg (by decide)]; exact ⟨rfl,trivial⟩
  · have h1:=of_decide_eq_false h1
    have h2:=of_decide_eq_false h2
    refine Zd.ite (by omega) (Zd.bifN (fun h3=>Zd.call (Qd w ok q hq) (fun v hv=>Zd.bif (fun h4=>Zd.ret ?_) (fun h4 => ?_))) (fun h3=>Zd.ret ?_))
    · have h3:=(Me _ _).1 h3
      have h4:Yr w q<1:=by rw [← hv]; exact of_decide_eq_true h4
      have e:Q7 w k p q=9:=by unfold Q7; rw [if_neg h1,if_neg h2,if_pos h3,if_pos h4]
      rw [e,if_neg (by decide)]; exact ⟨rfl,trivial⟩
    · have h3:=(Me _ _).1 h3
      have h4:¬ Yr w q<1:=by rw [← hv]; exact of_decide_eq_false h4
      have e:Q7 w k p q=0:=by unfold Q7; rw [if_neg h1,if_neg h2,if_pos h3,if_neg h4]
      rw [e,if_pos rfl]
      obtain ⟨i,rfl⟩:∃ i:Nat,k=(i:Int):=⟨k.toNat,by omega⟩
      rw [Int.toNat_natCast]
      refine Zd.call (P6 w ok.sm (by omega) q) (fun u hu => ?_)
      subst hu
      exact Zd.ret ⟨rfl,trivial⟩
    · have h3':¬ List.getD (w.2.2.2.1:List (den Zb)) (Int.toNat k) (dft Zb)=p:=fun he=>by rw [(Me _ _).2 he] at h3; cases h3
      have e:Q7 w k p q=5:=by unfold Q7; rw [if_neg h1,if_neg h2,if_neg h3']
      rw [e,if_neg (by decide)]; exact ⟨rfl,trivial⟩
def Kc (w:den Za) (i:Nat):Pl:=((0:Int),List.getD (w.2.1:List Int) i (0:Int),())
def M4 (i:Nat):Pl:=((1:Int),(i:Int),())
def AFj (w:den Za) (i:Nat) (k:Int):den Za×Int×Unit:=Oa w k (Kc w i) (M4 i)
def Cn (w:den Za) (i:Nat) (k:Int):den Za×Int×Unit:=Oa w k (M4 i) (Kc w i)
theorem AFx (w:den Za) (i:Nat):(0:Int)≤(Kc w i).1∧((Kc w i).1:Int)<3:=⟨by show (0:Int)≤0; decide,by show (0:Int)<3; decide⟩
theorem AP9 (i:Nat):(0:Int)≤(M4 i).1∧((M4 i).1:Int)<3:=⟨by show (0:Int)≤1; decide,by show (1:Int)<3; decide⟩
theorem Io (w:den Za) {i:Nat} (hi:i<List.length (w.2.1:List Int)):Zd (fun n _ _ _=>Qx n w (i:Int)) (fun r=>r=((Kc w i,M4 i,()),[])):=by
  refine Zd.succ (fun n _ _ _=>Qx.eq n w i) (Zd.ite ⟨Int.natCast_nonneg i,Int.ofNat_lt.2 hi⟩ (Zd.ret ?_))
  rw [Int.toNat_natCast]
  rfl
theorem AK9 (w:den Za) (ok:Ok w) {i:Nat} (hi:i<List.length (w.2.1:List Int)) (k:Int):Zd (fun n _ _ _=>K9 n w (i:Int) k) (fun r=>r.1=AFj w i k):=by
  refine Zd.succ (fun n _ _ _=>K9.eq n w i k) (Zd.call (Io w hi) (fun v hv => ?_))
  subst hv
  refine Zd.call (AAr w ok k (Kc w i) (M4 i) (AP9 i)) (fun u hu=>Zd.ret ?_)
  rw [hu.1]
  rfl
theorem AH1 (w:den Za) (ok:Ok w) {i:Nat} (hi:i<List.length (w.2.1:List Int)) (k:Int):Zd (fun n _ _ _=>V5 n w (i:Int) k) (fun r=>r.1=Cn w i k):=by
  refine Zd.succ (fun n _ _ _=>V5.eq n w i k) (Zd.call (Io w hi) (fun v hv => ?_))
  subst hv
  refine Zd.call (AAr w ok k (M4 i) (Kc w i) (AFx w i)) (fun u hu=>Zd.ret ?_)
  rw [hu.1]
  rfl
end Go.Proofs.YtpemapoblhleoaaGreatDoor.Ghost
namespace Go.Proofs.YtpemapoblhleoaaGreatDoor.Ghost
open Go
theorem Tf (l:List Pl) (k:Nat) (q p:Pl) (hk:k<l.length):(n:Nat)→Yl (l.set k q) p n+(if k<n∧List.getD l k (dft Zb)=p then 1 else 0)=Yl l p n+(if k<n∧q=p then 1 else 0)
  | 0=>by simp [Yl]
  | n+1=>by
    have ih:=Tf l k q p hk n
    simp only [Yl]
    rw [Gd l k n q (dft Zb) hk]
    by_cases hn:n=k
    · subst hn
      simp only [Nat.lt_irrefl,false_and,if_false,if_true,Nat.lt_succ_self,true_and,Nat.add_zero] at ih ⊢
      omega
    · rw [if_neg hn]
      have e:k<n+1↔k<n:=⟨fun h=>by omega,fun h=>by omega⟩
      simp only [e]
      omega
theorem Lu {l:List Pl} {k:Nat} {q:Pl} (hk:k<l.length) (hq:¬ q.1=(2:Int)) (hl:¬ (List.getD l k (dft Zb)).1=(2:Int)):(f c:Nat)→(p:Pl)→depI (l.set k q) f c p=depI l f c p
  | 0,c,p=>rfl
  | f+1,c,p=>by
    simp only [depI]
    by_cases hp:p.1=(2:Int)
    · rw [if_pos hp,if_pos hp]
      by_cases h50:50<c+1
      · rw [if_pos h50,if_pos h50]
      · rw [if_neg h50,if_neg h50,Gd l k _ q (dft Zb) hk]
        by_cases hi:Int.toNat p.2.1=k
        · rw [if_pos hi,hi,Lu hk hq hl]
          cases f with
          | zero=>simp only [depI]; rw [if_neg hq,if_neg hl]
          | succ f=>simp only [depI]; rw [if_neg hq,if_neg hl]
        · rw [if_neg hi]
          exact Lu hk hq hl f (c+1) _
    · rw [if_neg hp,if_neg hp]
theorem Fd {l:List Pl} {q:Pl} (hq:¬ q.1=(2:Int)):depI l 51 0 q=0:=by
  simp only [depI]
  rw [if_neg hq]
theorem Ok.put {w:den Za} (ok:Ok w) {k:Nat} (hk:k<List.length (w.2.2.2.1:List (den Zb))) {q:Pl} (hq:¬ q.1=(2:Int)) (hl:¬ (List.getD (w.2.2.2.1:List (den Zb)) k (dft Zb)).1=(2:Int)) (hg:Kf w.1 q) (hr:1≤Yr w q):Ok (Ghost.put w k q):=by
  have h:=ok.right
  have hset:∀ p:Pl,Yl (List.set (w.2.2.2.1:List (den Zb)) k q) p (List.length (w.2.2.2.1:List (den Zb)))≤Yl w.2.2.2.1 p (List.length (w.2.2.2.1:List (den Zb)))+(if q=p then 1 else 0):=fun p=>by
    have:=Tf w.2.2.2.1 k q p hk (List.length (w.2.2.2.1:List (den Zb)))
    simp only [hk,true_and] at this
    omega
  refine ⟨AMg ok.sm k q,h.may,h.a1,h.c1,by rw [Hk]; exact h.w1,h.at_,fun i hi => ?_,fun i hi => ?_⟩
  · rw [Hk] at hi
    rw [ACc w k i q hk]
    split
    · exact hg
    · exact h.good i hi
  · have hlen:=Hk w k q
    rw [hlen] at hi ⊢
    rw [ACc w k i q hk]
    show depI (List.set (w.2.2.2.1:List (den Zb)) k q) 51 0 _≤4∧(Yl (List.set (w.2.2.2.1:List (den Zb)) k q) _ _:Int)≤Mv w.1 _
    rw [Lu hk hq hl]
    have many:∀ p:Pl,(Yl (List.set (w.2.2.2.1:List (den Zb)) k q) p (List.length (w.2.2.2.1:List (den Zb))):Int)≤Mv w.1 p:=fun p=>by
      have h1:=hset p
      by_cases hqp:q=p
      · rw [if_pos hqp] at h1
        subst hqp
        unfold Yr at hr
        omega
      · rw [if_neg hqp] at h1
        have h2:=(h.room p).1
        unfold Yr at h2
        omega
    split
    · exact ⟨by rw [Fd hq]; omega,many q⟩
    · exact ⟨(h.deep i hi).1,many _⟩
def I3 (l:List Pl):Nat→Pl→Prop
  | 0,p=>¬ p.1=(2:Int)
  | k+1,p=>p.1=(2:Int)→I3 l k (List.getD l (Int.toNat p.2.1) (dft Zb))
theorem AGs {l:List Pl}:(f c:Nat)→(p:Pl)→depI l f c p≤4→I3 l f p
  | 0,c,p,h=>by
    simp only [depI] at h
    intro hp
    rw [if_pos hp] at h
    omega
  | f+1,c,p,h=>by
    simp only [depI] at h
    intro hp
    rw [if_pos hp] at h
    by_cases h50:50<c+1
    · rw [if_pos h50] at h; omega
    · rw [if_neg h50] at h
      exact AGs f (c+1) _ h
def Tl (l:List Pl):Nat→Pl→Pl
  | 0,p=>p
  | k+1,p=>if p.1=(2:Int) then Tl l k (List.getD l (Int.toNat p.2.1) (dft Zb)) else p
theorem F3 {l:List Pl} {p:Pl} (h:¬ p.1=(2:Int)) (k:Nat):Tl l k p=p:=by
  cases k with
  | zero=>rfl
  | succ k=>simp only [Tl]; rw [if_neg h]
theorem X1.inPl {w:den Za} (h:X1 w):∀ i,i<List.length (w.2.2.2.1:List (den Zb))→Ghost.inPl w.2.2.2.1 (List.getD w.2.2.2.1 i (dft Zb)):=fun i hi=>(h.good i hi).inPl h.w1
theorem X1.ends {w:den Za} (h:X1 w) {i:Nat} (hi:i<List.length (w.2.2.2.1:List (den Zb))):I3 w.2.2.2.1 51 (List.getD w.2.2.2.1 i (dft Zb)):=AGs 51 0 _ (h.deep i hi).1
end Go.Proofs.YtpemapoblhleoaaGreatDoor.Ghost
namespace Go.Proofs.YtpemapoblhleoaaGreatDoor.Ghost
open Go
end Go.Proofs.YtpemapoblhleoaaGreatDoor.Ghost
namespace Go.Proofs.YtpemapoblhleoaaGreatDoor.Ghost
open Go
end Go.Proofs.YtpemapoblhleoaaGreatDoor.Ghost
