/- What functions come to, and that the statements are answered with 'true'. Conditions: none. -/
import Derived.Test.YtpemapoblhleoaaGreatDoorS
import Derived.Test.YtpemapoblhleoaaGreatDoorGE
import Derived.Test.YtpemapoblhleoaaGreatDoorP1
import Derived.Test.YtpemapoblhleoaaGreatDoorP2
set_option linter.unusedVariables false
set_option linter.unusedSimpArgs false
set_option linter.unusedSectionVars false
set_option linter.unnecessarySimpa false
namespace Go.Proofs.YtpemapoblhleoaaGreatDoor.Ghost
open Go
def inL (l:List Pl) (p:Pl):Nat→List Int
  | 0=>[]
  | n+1=>inL l p n ++ (if List.getD l n (dft Zb)=p then [(n:Int)] else [])
theorem AD7 (l:List Pl) (p:Pl):(n:Nat)→(inL l p n).length=Qf l p n
  | 0=>rfl
  | n+1=>by
    simp only [inL,Qf,List.length_append,AD7 l p n]
    split <;> rfl
theorem Ey (w:den Za) (hs:Sm w) (p:Pl) (t0:den Za) (t1:Pl) (t4:List Int):(r i:Nat)→i+r=List.length (w.2.2.2.1:List (den Zb)) →
    Zd (fun n m _ _=>Ql.l0 n m t0 t1 t4 w.2.2.2.1 (List.length (w.2.2.2.1:List (den Zb)):Int) (i:Int) w p (inL w.2.2.2.1 p i)) (fun r=>r=((inL w.2.2.2.1 p (List.length (w.2.2.2.1:List (den Zb))),()),[(0,[])]))
  | 0,i,hi=>by
    refine Zd.succ1 (fun n m _ _=>Ql.l0_eq n m t0 t1 t4 w.2.2.2.1 _ i w p _) (Zd.bif (fun h => ?_) (fun h=>Zd.ret ?_))
    · have:=of_decide_eq_true h; omega
    · rw [show i=List.length (w.2.2.2.1:List (den Zb)) by omega]
  | r+1,i,hi=>by
    have hlen:=hs.wh
    have hle:=M8 w.2.2.2.1 p i
    have hil:=AD7 w.2.2.2.1 p i
    refine Zd.succ1 (fun n m _ _=>Ql.l0_eq n m t0 t1 t4 w.2.2.2.1 _ i w p _) (Zd.bif (fun h=>Zd.ite (by omega) (Zd.bif (fun h2=>Zd.ite (by omega) ?_) (fun h2 => ?_))) (fun h => ?_))
    · rw [Xm (by omega)]
      have e:inL w.2.2.2.1 p (i+1)=inL w.2.2.2.1 p i ++ [(i:Int)]:=by
        simp only [inL]; rw [if_pos (by simpa using ((Tm _ _).1 h2).symm)]
      rw [← e]
      exact Ey w hs p t0 t1 t4 r (i+1) (by omega)
    · rw [Xm (by omega)]
      have e:inL w.2.2.2.1 p (i+1)=inL w.2.2.2.1 p i:=by
        simp only [inL]
        rw [if_neg (fun he=>by rw [(Tm _ _).2 (by simpa using he.symm)] at h2; cases h2),List.append_nil]
      have:=Ey w hs p t0 t1 t4 r (i+1) (by omega)
      rw [e] at this
      exact this
    · have:=of_decide_eq_false h; omega
theorem AD1 (w:den Za) (hs:Sm w) (p:Pl):Zd (fun n _ _ _=>Ql n w p) (fun r=>r=((inL w.2.2.2.1 p (List.length (w.2.2.2.1:List (den Zb))),()),[(0,[])])):=by
  refine Zd.succ (fun n _ _ _=>Ql.eq n w p) ?_
  exact (Ey w hs p w p [] _ 0 (Nat.zero_add _)).enter
theorem AE5 (w:den Za) (hs:Sm w) (p:Pl):Zd (fun n _ _ _=>Ql n w p) (fun r=>r.1.1=inL w.2.2.2.1 p (List.length (w.2.2.2.1:List (den Zb)))):=(AD1 w hs p).mono (fun _ h=>by rw [h])
end Go.Proofs.YtpemapoblhleoaaGreatDoor.Ghost
namespace Go.Proofs.YtpemapoblhleoaaGreatDoor.Ghost
open Go
def Yb (w:den Za) (p:Pl):Int:=L7 w.1 p - (Qf w.2.2.2.1 p (List.length (w.2.2.2.1:List (den Zb))):Int)
theorem AJ0 (d:den Z6) (p:Pl) (hp:(0:Int)≤p.1∧(p.1:Int)<3):List.getD ([(d.2.2.2.2.2.1:Int),(d.2.2.2.2.2.2.1:Int),(d.2.2.2.2.2.2.2.1:Int)]:List Int) (Int.toNat (p.1:Int)) (0:Int)=L7 d p:=by
  have key:∀ k:Int,0≤k→k<3→k=0∨k=1∨k=2:=fun k h0 h1=>by omega
  unfold L7
  rcases key p.1 hp.1 hp.2 with h | h | h <;> rw [h] <;> rfl
theorem Am {d:den Z6} (h:AK5 d) (p:Pl):0≤L7 d p∧L7 d p<65:=by
  unfold L7
  split
  · exact h.room
  · split
    · exact h.player
    · exact h.box
theorem AF5 {l:List Pl} {p:Pl}:{n:Nat}→0<Qf l p n→∃ i,i<n∧List.getD l i (dft Zb)=p
  | 0,h=>by simp [Qf] at h
  | n+1,h=>by
    simp only [Qf] at h
    by_cases he:List.getD l n (dft Zb)=p
    · exact ⟨n,by omega,he⟩
    · rw [if_neg he] at h
      obtain ⟨i,h1,h2⟩:=AF5 (l:=l) (p:=p) (n:=n) (by omega)
      exact ⟨i,by omega,h2⟩
theorem Ym.room {w:den Za} (h:Ym w) (p:Pl):0≤Yb w p∧Yb w p<65:=by
  have hc:=Am h.may p
  unfold Yb
  by_cases h0:0<Qf w.2.2.2.1 p (List.length (w.2.2.2.1:List (den Zb)))
  · obtain ⟨i,hi,he⟩:=AF5 h0
    have:=(h.deep i hi).2
    rw [he] at this
    omega
  · omega
end Go.Proofs.YtpemapoblhleoaaGreatDoor.Ghost
namespace Go.Proofs.YtpemapoblhleoaaGreatDoor.Ghost
open Go
theorem Q9 (w:den Za) (ok:Ok w) (p:Pl) (hp:(0:Int)≤p.1∧(p.1:Int)<3):Zd (fun n _ _ _=>Jy n w p) (fun r=>r.1.1=Yb w p):=by
  refine Zd.succ (fun n _ _ _=>Jy.eq n w p) (Zd.ite hp (Zd.call (AE5 w ok.sm p) (fun v hv=>Zd.ret ?_)))
  have hr:=ok.right.room p
  show IntKind.wrap .i64 (List.getD ([(w.1.2.2.2.2.2.1:Int),(w.1.2.2.2.2.2.2.1:Int),(w.1.2.2.2.2.2.2.2.1:Int)]:List Int) (Int.toNat (p.1:Int)) (0:Int) - (List.length (v.1.1:List Int):Int))=Yb w p
  rw [hv,AD7,AJ0 w.1 p hp]
  unfold Yb at hr ⊢
  rw [Vy (by omega) (by omega)]
theorem Ha (w:den Za) (ok:Ok w) (p:Pl) (hp:(0:Int)≤p.1∧(p.1:Int)<3):Zd (fun n _ _ _=>Xj n w p) (fun r=>r.1.1=Yb w p):=by
  have hw:=ok.sm.wh
  refine Zd.succ (fun n _ _ _=>Xj.eq n w p) (Zd.call (Fs w p hp) (fun v hv=>Zd.call (Lg w (by omega) p) (fun u hu=>Zd.ret ?_)))
  have hr:=ok.right.room p
  subst hv hu
  show IntKind.wrap .i64 (L7 w.1 p - (Qf w.2.2.2.1 p (List.length (w.2.2.2.1:List (den Zb))):Int))=Yb w p
  unfold Yb at hr ⊢
  rw [Vy (by omega) (by omega)]
end Go.Proofs.YtpemapoblhleoaaGreatDoor.Ghost
namespace Go.Proofs.YtpemapoblhleoaaGreatDoor.Ghost
open Go
def put (w:den Za) (i:Nat) (p:Pl):den Za:=(w.1,w.2.1,w.2.2.1,List.set (w.2.2.2.1:List (den Zb)) i p,())
theorem Gf (w:den Za) (i:Nat) (p:Pl):List.length ((put w i p).2.2.2.1:List (den Zb))=List.length (w.2.2.2.1:List (den Zb)):=by
  show List.length (List.set (w.2.2.2.1:List (den Zb)) i p)=_
  exact List.length_set
theorem ADk (w:den Za) (i j:Nat) (p:Pl) (h:i<List.length (w.2.2.2.1:List (den Zb))):List.getD ((put w i p).2.2.2.1:List (den Zb)) j (dft Zb)=if j=i then p else List.getD (w.2.2.2.1:List (den Zb)) j (dft Zb):=by
  show List.getD (List.set (w.2.2.2.1:List (den Zb)) i p) j (dft Zb)=_
  exact Uy _ _ _ _ _ h
theorem ANe {w:den Za} (h:Sm w) (i:Nat) (p:Pl):Sm (put w i p) :=
  ⟨h.e,h.b,h.p,h.c,h.i,h.a,h.wc,by rw [Gf]; exact h.wh,h.rows⟩
end Go.Proofs.YtpemapoblhleoaaGreatDoor.Ghost
namespace Go.Proofs.YtpemapoblhleoaaGreatDoor.Ghost
open Go
theorem Ol (w:den Za) (hs:Sm w) {i:Nat} (hi:i<List.length (w.2.2.2.1:List (den Zb))) (p:Pl):Zd (fun n _ _ _=>Hu n w (i:Int) p) (fun r=>r=((put w i p,()),[(0,[3])])):=by
  refine Zd.succ (fun n _ _ _=>Hu.eq n w i p) (Zd.call (Lh w hs) (fun v hv => ?_))
  subst hv
  refine Zd.bifT rfl (Zd.ite ⟨Int.natCast_nonneg i,Int.ofNat_lt.2 hi⟩ (Zd.ret ?_))
  rw [Int.toNat_natCast]
  rfl
theorem Gl (w:den Za) (hs:Sm w) {i:Nat} (hi:i<List.length (w.2.2.2.1:List (den Zb))) (p:Pl):Zd (fun n _ _ _=>Yc n w (i:Int) p) (fun r=>r.1=(put w i p,())):=by
  refine Zd.succ (fun n _ _ _=>Yc.eq n w i p) (Zd.call (R3 w hs) (fun v hv => ?_))
  subst hv
  refine Zd.bifT rfl (Zd.ite ⟨Int.natCast_nonneg i,Int.ofNat_lt.2 hi⟩ (Zd.ret ?_))
  rw [Int.toNat_natCast]
  rfl
end Go.Proofs.YtpemapoblhleoaaGreatDoor.Ghost
namespace Go.Proofs.YtpemapoblhleoaaGreatDoor.Ghost
open Go
def Y0 (w:den Za) (k:Int) (p q:Pl):Int:=if k<0 then 3 else if (List.length (w.2.2.2.1:List (den Zb)):Int)≤k then 3 else if List.getD (w.2.2.2.1:List (den Zb)) (Int.toNat k) (dft Zb)=p then (if Yb w q<1 then 9 else 0) else 5
def Nj (w:den Za) (k:Int) (p q:Pl):den Za×Int×Unit:=if Y0 w k p q=0 then (put w (Int.toNat k) q,0,()) else (w,Y0 w k p q,())
theorem ADs {w:den Za} {k:Int} {p q:Pl} (h:Y0 w k p q=0):0≤k∧k<(List.length (w.2.2.2.1:List (den Zb)):Int)∧List.getD (w.2.2.2.1:List (den Zb)) (Int.toNat k) (dft Zb)=p∧1≤Yb w q:=by
  unfold Y0 at h
  split at h
  · cases h
  · split at h
    · cases h
    · split at h
      · split at h
        · cases h
        · rename_i a b c d; exact ⟨by omega,by omega,c,by omega⟩
      · cases h
theorem AA2 (w:den Za) (ok:Ok w) (k:Int) (p q:Pl) (hq:(0:Int)≤q.1∧(q.1:Int)<3):Zd (fun n _ _ _=>Kq n w k p q) (fun r=>r.1=Nj w k p q∧True):=by
  refine Zd.succ (fun n _ _ _=>Kq.eq n w k p q) ?_
  unfold Nj
  refine Zd.bif (fun h1=>Zd.ret ?_) (fun h1=>Zd.bif (fun h2=>Zd.ret ?_) (fun h2 => ?_))
  · have e:Y0 w k p q=3:=by unfold Y0; rw [if_pos (of_decide_eq_true h1)]
    rw [e,if_neg (by decide)]; exact ⟨rfl,trivial⟩
  · have e:Y0 w k p q=3:=by unfold Y0; rw [if_neg (of_decide_eq_false h1),if_pos (of_decide_eq_true h2)]
    rw [e,if_neg (by decide)]; exact ⟨rfl,trivial⟩
  · have h1:=of_decide_eq_false h1
    have h2:=of_decide_eq_false h2
    refine Zd.ite (by omega) (Zd.bifN (fun h3=>Zd.call (Q9 w ok q hq) (fun v hv=>Zd.bif (fun h4=>Zd.ret ?_) (fun h4 => ?_))) (fun h3=>Zd.ret ?_))
    · have h3:=(Tm _ _).1 h3
      have h4:Yb w q<1:=by rw [← hv]; exact of_decide_eq_true h4
      have e:Y0 w k p q=9:=by unfold Y0; rw [if_neg h1,if_neg h2,if_pos h3,if_pos h4]
      rw [e,if_neg (by decide)]; exact ⟨rfl,trivial⟩
    · have h3:=(Tm _ _).1 h3
      have h4:¬ Yb w q<1:=by rw [← hv]; exact of_decide_eq_false h4
      have e:Y0 w k p q=0:=by unfold Y0; rw [if_neg h1,if_neg h2,if_pos h3,if_neg h4]
      rw [e,if_pos rfl]
      obtain ⟨i,rfl⟩:∃ i:Nat,k=(i:Int):=⟨k.toNat,by omega⟩
      rw [Int.toNat_natCast]
      refine Zd.call (Ol w ok.sm (by omega) q) (fun u hu => ?_)
      subst hu
      exact Zd.ret ⟨rfl,trivial⟩
    · have h3':¬ List.getD (w.2.2.2.1:List (den Zb)) (Int.toNat k) (dft Zb)=p:=fun he=>by rw [(Tm _ _).2 he] at h3; cases h3
      have e:Y0 w k p q=5:=by unfold Y0; rw [if_neg h1,if_neg h2,if_neg h3']
      rw [e,if_neg (by decide)]; exact ⟨rfl,trivial⟩
def Qx (w:den Za) (i:Nat):Pl:=((0:Int),List.getD (w.2.1:List Int) i (0:Int),())
def Wa (i:Nat):Pl:=((1:Int),(i:Int),())
def ACz (w:den Za) (i:Nat) (k:Int):den Za×Int×Unit:=Nj w k (Qx w i) (Wa i)
def Fw (w:den Za) (i:Nat) (k:Int):den Za×Int×Unit:=Nj w k (Wa i) (Qx w i)
theorem AAq (w:den Za) (i:Nat):(0:Int)≤(Qx w i).1∧((Qx w i).1:Int)<3:=⟨by show (0:Int)≤0; decide,by show (0:Int)<3; decide⟩
theorem AJa (i:Nat):(0:Int)≤(Wa i).1∧((Wa i).1:Int)<3:=⟨by show (0:Int)≤1; decide,by show (1:Int)<3; decide⟩
theorem Fu (w:den Za) {i:Nat} (hi:i<List.length (w.2.1:List Int)):Zd (fun n _ _ _=>Ju n w (i:Int)) (fun r=>r=((Qx w i,Wa i,()),[])):=by
  refine Zd.succ (fun n _ _ _=>Ju.eq n w i) (Zd.ite ⟨Int.natCast_nonneg i,Int.ofNat_lt.2 hi⟩ (Zd.ret ?_))
  rw [Int.toNat_natCast]
  rfl
theorem AMv (w:den Za) (ok:Ok w) {i:Nat} (hi:i<List.length (w.2.1:List Int)) (k:Int):Zd (fun n _ _ _=>H8 n w (i:Int) k) (fun r=>r.1=ACz w i k):=by
  refine Zd.succ (fun n _ _ _=>H8.eq n w i k) (Zd.call (Fu w hi) (fun v hv => ?_))
  subst hv
  refine Zd.call (AA2 w ok k (Qx w i) (Wa i) (AJa i)) (fun u hu=>Zd.ret ?_)
  rw [hu.1]
  rfl
theorem AKw (w:den Za) (ok:Ok w) {i:Nat} (hi:i<List.length (w.2.1:List Int)) (k:Int):Zd (fun n _ _ _=>K8 n w (i:Int) k) (fun r=>r.1=Fw w i k):=by
  refine Zd.succ (fun n _ _ _=>K8.eq n w i k) (Zd.call (Fu w hi) (fun v hv => ?_))
  subst hv
  refine Zd.call (AA2 w ok k (Wa i) (Qx w i) (AAq w i)) (fun u hu=>Zd.ret ?_)
  rw [hu.1]
  rfl
theorem Dy (w:den Za) (ok:Ok w) {i:Nat} (hi:i<List.length (w.2.1:List Int)) (k:Int):Zd (fun n _ _ _=>Y2 n w (i:Int) k) (fun r=>r.1=ACz w i k):=by
  refine Zd.succ (fun n _ _ _=>Y2.eq n w i k) ?_
  unfold ACz Nj
  refine Zd.bif (fun h1=>Zd.ret ?_) (fun h1=>Zd.bif (fun h2=>Zd.ret ?_) (fun h2 => ?_))
  · have e:Y0 w k (Qx w i) (Wa i)=3:=by unfold Y0; rw [if_pos (of_decide_eq_true h1)]
    rw [e,if_neg (by decide)]
  · have e:Y0 w k (Qx w i) (Wa i)=3:=by unfold Y0; rw [if_neg (of_decide_eq_false h1),if_pos (of_decide_eq_true h2)]
    rw [e,if_neg (by decide)]
  · have h1:=of_decide_eq_false h1
    have h2:=of_decide_eq_false h2
    have ef:((0,(List.getD (w.2.1:List Int) (Int.toNat (i:Int)) (0:Int)),()):Pl)=Qx w i:=by rw [Int.toNat_natCast]; rfl
    rw [ef]
    refine Zd.ite (by omega) (Zd.ite (by omega) (Zd.bifN (fun h3=>Zd.call (Ha w ok (Wa i) (AJa i)) (fun v hv=>Zd.bif (fun h4=>Zd.ret ?_) (fun h4 => ?_))) (fun h3=>Zd.ret ?_)))
    · have h3:=(Tm _ _).1 h3
      have h4:Yb w (Wa i)=0:=by rw [← hv]; exact of_decide_eq_true h4
      have e:Y0 w k (Qx w i) (Wa i)=9:=by unfold Y0; rw [if_neg h1,if_neg h2,if_pos h3,if_pos (by omega)]
      rw [e,if_neg (by decide)]
    · have h3:=(Tm _ _).1 h3
      have h4:¬ Yb w (Wa i)=0:=by rw [← hv]; exact of_decide_eq_false h4
      have hr:=ok.right.room (Wa i)
      have e:Y0 w k (Qx w i) (Wa i)=0:=by unfold Y0; rw [if_neg h1,if_neg h2,if_pos h3,if_neg (by omega)]
      rw [e,if_pos rfl]
      obtain ⟨j,rfl⟩:∃ j:Nat,k=(j:Int):=⟨k.toNat,by omega⟩
      rw [Int.toNat_natCast]
      refine Zd.call (Gl w ok.sm (by omega) (Wa i)) (fun u hu=>Zd.ret ?_)
      rw [hu]
    · have h3':¬ List.getD (w.2.2.2.1:List (den Zb)) (Int.toNat k) (dft Zb)=Qx w i:=fun he=>by rw [(Tm _ _).2 he] at h3; cases h3
      have e:Y0 w k (Qx w i) (Wa i)=5:=by unfold Y0; rw [if_neg h1,if_neg h2,if_neg h3']
      rw [e,if_neg (by decide)]
theorem I2 (w:den Za) (ok:Ok w) {i:Nat} (hi:i<List.length (w.2.1:List Int)) (k:Int):Zd (fun n _ _ _=>Yq n w (i:Int) k) (fun r=>r.1=Fw w i k):=by
  refine Zd.succ (fun n _ _ _=>Yq.eq n w i k) ?_
  unfold Fw Nj
  refine Zd.bif (fun h1=>Zd.ret ?_) (fun h1=>Zd.bif (fun h2=>Zd.ret ?_) (fun h2 => ?_))
  · have e:Y0 w k (Wa i) (Qx w i)=3:=by unfold Y0; rw [if_pos (of_decide_eq_true h1)]
    rw [e,if_neg (by decide)]
  · have e:Y0 w k (Wa i) (Qx w i)=3:=by unfold Y0; rw [if_neg (of_decide_eq_false h1),if_pos (of_decide_eq_true h2)]
    rw [e,if_neg (by decide)]
  · have h1:=of_decide_eq_false h1
    have h2:=of_decide_eq_false h2
    have ef:((0,(List.getD (w.2.1:List Int) (Int.toNat (i:Int)) (0:Int)),()):Pl)=Qx w i:=by rw [Int.toNat_natCast]; rfl
    rw [ef]
    refine Zd.ite (by omega) (Zd.bifN (fun h3=>Zd.ite (by omega) (Zd.call (Ha w ok (Qx w i) (AAq w i)) (fun v hv=>Zd.bif (fun h4=>Zd.ret ?_) (fun h4=>Zd.ite (by omega) ?_)))) (fun h3=>Zd.ret ?_))
    · have h3:=(Tm _ (Wa i)).1 h3
      have h4:Yb w (Qx w i)=0:=by rw [← hv]; exact of_decide_eq_true h4
      have e:Y0 w k (Wa i) (Qx w i)=9:=by unfold Y0; rw [if_neg h1,if_neg h2,if_pos h3,if_pos (by omega)]
      rw [e,if_neg (by decide)]
    · have h3:=(Tm _ (Wa i)).1 h3
      have h4:¬ Yb w (Qx w i)=0:=by rw [← hv]; exact of_decide_eq_false h4
      have hr:=ok.right.room (Qx w i)
      have e:Y0 w k (Wa i) (Qx w i)=0:=by unfold Y0; rw [if_neg h1,if_neg h2,if_pos h3,if_neg (by omega)]
      rw [e,if_pos rfl]
      obtain ⟨j,rfl⟩:∃ j:Nat,k=(j:Int):=⟨k.toNat,by omega⟩
      rw [Int.toNat_natCast]
      refine Zd.call (Gl w ok.sm (by omega) (Qx w i)) (fun u hu=>Zd.ret ?_)
      rw [hu]
    · have h3':¬ List.getD (w.2.2.2.1:List (den Zb)) (Int.toNat k) (dft Zb)=Wa i:=fun he=>by have h4:=(Tm _ (Wa i)).2 he; exact absurd (h4.symm.trans h3) (by decide)
      have e:Y0 w k (Wa i) (Qx w i)=5:=by unfold Y0; rw [if_neg h1,if_neg h2,if_neg h3']
      rw [e,if_neg (by decide)]
end Go.Proofs.YtpemapoblhleoaaGreatDoor.Ghost
namespace Go.Proofs.YtpemapoblhleoaaGreatDoor.Ghost
open Go
theorem O5 (l:List Pl) (k:Nat) (q p:Pl) (hk:k<l.length):(n:Nat)→Qf (l.set k q) p n+(if k<n∧List.getD l k (dft Zb)=p then 1 else 0)=Qf l p n+(if k<n∧q=p then 1 else 0)
  | 0=>by simp [Qf]
  | n+1=>by
    have ih:=O5 l k q p hk n
    simp only [Qf]
    rw [Uy l k n q (dft Zb) hk]
    by_cases hn:n=k
    · subst hn
      simp only [Nat.lt_irrefl,false_and,if_false,if_true,Nat.lt_succ_self,true_and,Nat.add_zero] at ih ⊢
      omega
    · rw [if_neg hn]
      have e:k<n+1↔k<n:=⟨fun h=>by omega,fun h=>by omega⟩
      simp only [e]
      omega
theorem I8 {l:List Pl} {k:Nat} {q:Pl} (hk:k<l.length) (hq:¬ q.1=(2:Int)) (hl:¬ (List.getD l k (dft Zb)).1=(2:Int)):(f c:Nat)→(p:Pl)→depI (l.set k q) f c p=depI l f c p
  | 0,c,p=>rfl
  | f+1,c,p=>by
    simp only [depI]
    by_cases hp:p.1=(2:Int)
    · rw [if_pos hp,if_pos hp]
      by_cases h50:50<c+1
      · rw [if_pos h50,if_pos h50]
      · rw [if_neg h50,if_neg h50,Uy l k _ q (dft Zb) hk]
        by_cases hi:Int.toNat p.2.1=k
        · rw [if_pos hi,hi,I8 hk hq hl]
          cases f with
          | zero=>simp only [depI]; rw [if_neg hq,if_neg hl]
          | succ f=>simp only [depI]; rw [if_neg hq,if_neg hl]
        · rw [if_neg hi]
          exact I8 hk hq hl f (c+1) _
    · rw [if_neg hp,if_neg hp]
theorem Dn {l:List Pl} {q:Pl} (hq:¬ q.1=(2:Int)):depI l 51 0 q=0:=by
  simp only [depI]
  rw [if_neg hq]
theorem Ok.put {w:den Za} (ok:Ok w) {k:Nat} (hk:k<List.length (w.2.2.2.1:List (den Zb))) {q:Pl} (hq:¬ q.1=(2:Int)) (hl:¬ (List.getD (w.2.2.2.1:List (den Zb)) k (dft Zb)).1=(2:Int)) (hg:Hp w.1 q) (hr:1≤Yb w q):Ok (Ghost.put w k q):=by
  have h:=ok.right
  have hset:∀ p:Pl,Qf (List.set (w.2.2.2.1:List (den Zb)) k q) p (List.length (w.2.2.2.1:List (den Zb)))≤Qf w.2.2.2.1 p (List.length (w.2.2.2.1:List (den Zb)))+(if q=p then 1 else 0):=fun p=>by
    have:=O5 w.2.2.2.1 k q p hk (List.length (w.2.2.2.1:List (den Zb)))
    simp only [hk,true_and] at this
    omega
  refine ⟨ANe ok.sm k q,h.may,h.a1,h.c1,by rw [Gf]; exact h.w1,h.at_,fun i hi => ?_,fun i hi => ?_⟩
  · rw [Gf] at hi
    rw [ADk w k i q hk]
    split
    · exact hg
    · exact h.good i hi
  · have hlen:=Gf w k q
    rw [hlen] at hi ⊢
    rw [ADk w k i q hk]
    show depI (List.set (w.2.2.2.1:List (den Zb)) k q) 51 0 _≤4∧(Qf (List.set (w.2.2.2.1:List (den Zb)) k q) _ _:Int)≤L7 w.1 _
    rw [I8 hk hq hl]
    have many:∀ p:Pl,(Qf (List.set (w.2.2.2.1:List (den Zb)) k q) p (List.length (w.2.2.2.1:List (den Zb))):Int)≤L7 w.1 p:=fun p=>by
      have h1:=hset p
      by_cases hqp:q=p
      · rw [if_pos hqp] at h1
        subst hqp
        unfold Yb at hr
        omega
      · rw [if_neg hqp] at h1
        have h2:=(h.room p).1
        unfold Yb at h2
        omega
    split
    · exact ⟨by rw [Dn hq]; omega,many q⟩
    · exact ⟨(h.deep i hi).1,many _⟩
def Lk (l:List Pl):Nat→Pl→Prop
  | 0,p=>¬ p.1=(2:Int)
  | k+1,p=>p.1=(2:Int)→Lk l k (List.getD l (Int.toNat p.2.1) (dft Zb))
theorem AI3 {l:List Pl}:(f c:Nat)→(p:Pl)→depI l f c p≤4→Lk l f p
  | 0,c,p,h=>by
    simp only [depI] at h
    intro hp
    rw [if_pos hp] at h
    omega
  | f+1,c,p,h=>by
    simp only [depI] at h
    intro hp
    rw [if_pos hp] at h
    by_cases h50:50<c+1
    · rw [if_pos h50] at h; omega
    · rw [if_neg h50] at h
      exact AI3 f (c+1) _ h
def Rk (l:List Pl):Nat→Pl→Pl
  | 0,p=>p
  | k+1,p=>if p.1=(2:Int) then Rk l k (List.getD l (Int.toNat p.2.1) (dft Zb)) else p
theorem AB3 {l:List Pl} {p:Pl} (h:¬ p.1=(2:Int)) (k:Nat):Rk l k p=p:=by
  cases k with
  | zero=>rfl
  | succ k=>simp only [Rk]; rw [if_neg h]
theorem Ym.inPl {w:den Za} (h:Ym w):∀ i,i<List.length (w.2.2.2.1:List (den Zb))→Ghost.inPl w.2.2.2.1 (List.getD w.2.2.2.1 i (dft Zb)):=fun i hi=>(h.good i hi).inPl h.w1
theorem Ym.ends {w:den Za} (h:Ym w) {i:Nat} (hi:i<List.length (w.2.2.2.1:List (den Zb))):Lk w.2.2.2.1 51 (List.getD w.2.2.2.1 i (dft Zb)):=AI3 51 0 _ (h.deep i hi).1
def Ox (l:List Pl):Nat→Int→Int→Prop
  | 0,j,b=>j=b
  | k+1,j,b=>j=b∨((List.getD l (Int.toNat j) (dft Zb)).1=(2:Int)∧Ox l k (List.getD l (Int.toNat j) (dft Zb)).2.1 b)
theorem AHm {l:List Pl} {j b:Int} (h:j=b) (k:Nat):Ox l k j b:=by
  cases k with
  | zero=>exact h
  | succ k=>exact .inl h
end Go.Proofs.YtpemapoblhleoaaGreatDoor.Ghost
namespace Go.Proofs.YtpemapoblhleoaaGreatDoor.Ghost
open Go
theorem Tn (w:den Za) (h:Ym w):(k:Nat)→(i:Nat)→i<List.length (w.2.2.2.1:List (den Zb))→Lk w.2.2.2.1 k (List.getD w.2.2.2.1 i (dft Zb)) →
    Zd (fun n _ _ _=>X9 n w (i:Int)) (fun r=>r.1.1=Rk w.2.2.2.1 k (List.getD w.2.2.2.1 i (dft Zb)))
  | k,i,hi,he=>by
    refine Zd.succ (fun n _ _ _=>X9.eq n w i) (Zd.ite ⟨Int.natCast_nonneg i,Int.ofNat_lt.2 hi⟩ ?_)
    rw [Int.toNat_natCast]
    refine Zd.bifN (fun h2 => ?_) (fun h2=>Zd.ret ?_)
    · have h2:(List.getD w.2.2.2.1 i (dft Zb)).1=(2:Int):=of_decide_eq_true h2
      have hin:=h.inPl i hi h2
      cases k with
      | zero=>exact absurd h2 he
      | succ k =>
        have e1:=Int.toNat_of_nonneg hin.1
        rw [← e1]
        refine Zd.call (Tn w h k _ ((Int.toNat_lt hin.1).2 hin.2) (he h2)) (fun v hv=>Zd.ret ?_)
        show v.1.1=_
        rw [hv]
        simp only [Rk]
        rw [if_pos h2]
    · have h2:¬ (List.getD w.2.2.2.1 i (dft Zb)).1=(2:Int):=of_decide_eq_false h2
      rw [AB3 h2]
end Go.Proofs.YtpemapoblhleoaaGreatDoor.Ghost
namespace Go.Proofs.YtpemapoblhleoaaGreatDoor.Ghost
open Go
theorem Nu (w:den Za) (h:Ym w) (b:Int):(k:Nat)→(i:Nat)→i<List.length (w.2.2.2.1:List (den Zb))→Lk w.2.2.2.1 k (List.getD w.2.2.2.1 i (dft Zb)) →
    Zd (fun n _ _ _=>Xy n w (i:Int) b) (fun r=>r.1.1=true↔Ox w.2.2.2.1 k (i:Int) b)
  | k,i,hi,he=>by
    refine Zd.succ (fun n _ _ _=>Xy.eq n w i b) (Zd.bif (fun h1=>Zd.ret ?_) (fun h1=>Zd.ite ⟨Int.natCast_nonneg i,Int.ofNat_lt.2 hi⟩ ?_))
    · exact ⟨fun _=>AHm (of_decide_eq_true h1) k,fun _=>rfl⟩
    · have h1:=of_decide_eq_false h1
      refine Zd.bif (fun h2 => ?_) (fun h2=>Zd.ret ?_)
      · rw [Int.toNat_natCast] at h2 ⊢
        have h2:(List.getD w.2.2.2.1 i (dft Zb)).1=(2:Int):=of_decide_eq_true h2
        have hin:=h.inPl i hi h2
        cases k with
        | zero=>exact absurd h2 he
        | succ k =>
          have e1:=Int.toNat_of_nonneg hin.1
          rw [← e1]
          refine Zd.call (Nu w h b k _ ((Int.toNat_lt hin.1).2 hin.2) (he h2)) (fun v hv=>Zd.ret ?_)
          show v.1.1=true↔_
          rw [hv]
          simp only [Ox,Int.toNat_natCast]
          rw [e1]
          exact ⟨fun h=>.inr ⟨h2,h⟩,fun h=>h.elim (fun e=>absurd e h1) (fun e=>e.2)⟩
      · rw [Int.toNat_natCast] at h2
        have h2:¬ (List.getD w.2.2.2.1 i (dft Zb)).1=(2:Int):=of_decide_eq_false h2
        refine ⟨(fun e=>by cases e),fun e => ?_⟩
        cases k with
        | zero=>exact absurd e h1
        | succ k =>
          simp only [Ox,Int.toNat_natCast] at e
          rcases e with e | e
          · exact absurd e h1
          · exact absurd e.1 h2
end Go.Proofs.YtpemapoblhleoaaGreatDoor.Ghost
