/- What functions come to, and that the statements are answered with 'true'. Conditions: none. -/
import Derived.Test.YtpemapoblhleoaaGreatDoorS
import Derived.Test.YtpemapoblhleoaaGreatDoorGE
import Derived.Test.YtpemapoblhleoaaGreatDoorP1
import Derived.Test.YtpemapoblhleoaaGreatDoorP2
import Derived.Test.YtpemapoblhleoaaGreatDoorP3
set_option linter.unusedVariables false
set_option linter.unusedSimpArgs false
set_option linter.unusedSectionVars false
set_option linter.unnecessarySimpa false
namespace Go.Proofs.YtpemapoblhleoaaGreatDoor.Ghost
open Go
def Hk (l:List Pl):Nat→Pl→List Pl
  | 0,p=>[p]
  | k+1,p=>if p.1=(2:Int) then p :: Hk l k (List.getD l (Int.toNat p.2.1) (dft Zb)) else [p]
def Oh (l:List Pl):Nat→Pl→Nat
  | 0,_=>0
  | k+1,p=>if p.1=(2:Int) then Oh l k (List.getD l (Int.toNat p.2.1) (dft Zb))+1 else 0
theorem Cy (l:List Pl):(k:Nat)→(p:Pl)→Oh l k p≤k
  | 0,_=>Nat.le_refl 0
  | k+1,p=>by
    simp only [Oh]
    have:=Cy l k (List.getD l (Int.toNat p.2.1) (dft Zb))
    split <;> omega
theorem Et (l:List Pl):(k:Nat)→(p:Pl)→(Hk l k p).length=Oh l k p+1
  | 0,_=>rfl
  | k+1,p=>by
    simp only [Hk,Oh]
    split
    · simp only [List.length_cons,Et l k]
    · rfl
theorem AAb (l:List Pl):(k:Nat)→(p:Pl)→List.getD (Hk l k p) (Oh l k p) (dft Zb)=Rk l k p
  | 0,_=>rfl
  | k+1,p=>by
    simp only [Hk,Oh,Rk]
    split
    · rw [List.getD_cons_succ]; exact AAb l k _
    · rfl
theorem Eh {l:List Pl} (hin:∀ i,i<l.length→inPl l (List.getD l i (dft Zb))):(k f:Nat)→(p:Pl)→inPl l p→Lk l k p→k<f→upL l f p=some (Hk l k p)
  | 0,f+1,p,hp,he,_=>by
    have he:¬ p.1=(2:Int):=he
    simp only [upL,Hk]
    rw [decide_eq_false he]; rfl
  | k+1,f+1,p,hp,he,hf=>by
    simp only [upL,Hk]
    by_cases h2:p.1=(2:Int)
    · have hb:=hp h2
      rw [decide_eq_true h2,cond_true,if_pos hb,if_pos h2]
      have hlt:Int.toNat p.2.1<l.length:=(Int.toNat_lt hb.1).2 hb.2
      rw [Eh hin k f _ (hin _ hlt) (he h2) (by omega)]
    · rw [decide_eq_false h2,cond_false,if_neg h2]
theorem I7 (w:den Za) (h:Ym w) {i:Nat} (hi:i<List.length (w.2.2.2.1:List (den Zb))):Zd (fun n _ _ _=>Ja n w (i:Int)) (fun r=>r=((Hk w.2.2.2.1 51 (List.getD w.2.2.2.1 i (dft Zb)),()),[(0,[])])):=by
  refine Zd.succ (G:=fun _ _ _ _=>some ((Hk w.2.2.2.1 51 (List.getD w.2.2.2.1 i (dft Zb)),()),[(0,[])])) (fun n _ _ _ => ?_) (Zd.ret rfl)
  show (if (0:Int)≤(i:Int)∧((i:Int):Int)<(List.length (w.2.2.2.1:List (den Zb)):Int) then (match upL w.2.2.2.1 60 (List.getD (w.2.2.2.1:List (den Zb)) (Int.toNat (i:Int)) (dft Zb)) with
      | some xs=>some ((xs,()),[(0,[])])
      | none=>none) else none)=_
  rw [if_pos ⟨Int.natCast_nonneg i,Int.ofNat_lt.2 hi⟩,Int.toNat_natCast,Eh h.inPl 51 60 _ (h.inPl i hi) (h.ends hi) (by omega)]
theorem AIy (w:den Za) (i:Int):Zd (fun n _ _ _=>Gy n w i) (fun r=>r=(((w,i,()),()),[])):=Zd.succ (fun n _ _ _=>Gy.eq n w i) (Zd.ret rfl)
abbrev Qr (w:den Za) (i:Nat):Pl:=List.getD (w.2.2.2.1:List Pl) i (dft Zb)
abbrev Q7 (w:den Za) (i:Nat):Pl:=Rk w.2.2.2.1 51 (Qr w i)
abbrev Yd (w:den Za) (i:Nat):Nat:=Oh w.2.2.2.1 51 (Qr w i)
theorem Pr (w:den Za) (h:Ym w) {i:Nat} (hi:i<List.length (w.2.2.2.1:List (den Zb))):Zd (fun n _ _ _=>Ko n w (i:Int)) (fun r=>r.1.1=Q7 w i):=by
  refine Zd.succ (fun n _ _ _=>Ko.eq n w i) (Zd.call (AIy w i) (fun v hv => ?_))
  subst hv
  refine Zd.call (I7 w h hi) (fun u hu => ?_)
  subst hu
  have hl:(Hk w.2.2.2.1 51 (Qr w i)).length=Yd w i+1:=Et w.2.2.2.1 51 (Qr w i)
  have hd:Yd w i≤51:=Cy w.2.2.2.1 51 (Qr w i)
  have e:IntKind.wrap .i64 ((List.length (Hk w.2.2.2.1 51 (Qr w i)):Int) - 1)=(Yd w i:Int):=by rw [hl,Vy (by omega) (by omega)]; omega
  show Zd (fun _ _ _ _=>if (0:Int)≤IntKind.wrap .i64 ((List.length (Hk w.2.2.2.1 51 (Qr w i)):Int) - 1)∧IntKind.wrap .i64 ((List.length (Hk w.2.2.2.1 51 (Qr w i)):Int) - 1)<(List.length (Hk w.2.2.2.1 51 (Qr w i)):Int) then some ((List.getD (Hk w.2.2.2.1 51 (Qr w i)) (Int.toNat (IntKind.wrap .i64 ((List.length (Hk w.2.2.2.1 51 (Qr w i)):Int) - 1))) (dft Zb),()),[]) else none) _
  rw [e,hl]
  refine Zd.ite ⟨Int.natCast_nonneg _,by omega⟩ (Zd.ret ?_)
  rw [Int.toNat_natCast]
  exact AAb _ _ _
end Go.Proofs.YtpemapoblhleoaaGreatDoor.Ghost
namespace Go.Proofs.YtpemapoblhleoaaGreatDoor.Ghost
open Go
abbrev Sn:=den Xn
def Nl (w:den Za) (p:Pl):Nat→List Sn
  | 0=>[]
  | n+1=>Nl w p n ++ (if Q7 w n=p then [((n:Int),Qr w n,())] else [])
theorem Ny (w:den Za) (p:Pl):(n:Nat)→(Nl w p n).length≤n
  | 0=>Nat.le_refl 0
  | n+1=>by
    simp only [Nl,List.length_append]
    have:=Ny w p n
    split
    · simp only [List.length_singleton]; omega
    · simp only [List.length_nil]; omega
abbrev ACh (w:den Za) (p:Pl):List Sn:=Nl w p (List.length (w.2.2.2.1:List (den Zb)))
theorem Ec (w:den Za) (ok:Ok w) (p:Pl) (t0:den Za) (t1:Pl) (t4:List Sn):(r i:Nat)→i+r=List.length (w.2.2.2.1:List (den Zb)) →
    Zd (fun n m _ _=>X1.l0 n m t0 t1 t4 w.2.2.2.1 (List.length (w.2.2.2.1:List (den Zb)):Int) (i:Int) w p (Nl w p i)) (fun r=>r=((ACh w p,()),[(0,[])]))
  | 0,i,hi=>by
    refine Zd.succ1 (fun n m _ _=>X1.l0_eq n m t0 t1 t4 w.2.2.2.1 _ i w p _) (Zd.bifF (decide_eq_false (by omega)) (Zd.ret ?_))
    rw [show i=List.length (w.2.2.2.1:List (den Zb)) by omega]
  | r+1,i,hi=>by
    have hlen:=ok.sm.wh
    have hle:=Ny w p i
    have hil:i<List.length (w.2.2.2.1:List (den Zb)):=by omega
    have next:=Ec w ok p t0 t1 t4 r (i+1) (by omega)
    rw [← Xm (by omega)] at next
    refine Zd.succ1 (fun n m _ _=>X1.l0_eq n m t0 t1 t4 w.2.2.2.1 _ i w p _) (Zd.bifT (decide_eq_true (by omega)) (Zd.ite (by omega) (Zd.call (Pr w ok.right hil) (fun v hv => ?_))))
    rw [hv,Int.toNat_natCast]
    refine Zd.bif (fun h2=>Zd.ite (by omega) ?_) (fun h2 => ?_)
    · have e:Nl w p (i+1)=Nl w p i ++ [((i:Int),Qr w i,())]:=by
        simp only [Nl]; rw [if_pos ((Tm _ _).1 h2)]
      rw [e] at next
      exact next
    · have e:Nl w p (i+1)=Nl w p i:=by
        simp only [Nl]; rw [if_neg (fun he=>by rw [(Tm _ _).2 he] at h2; cases h2),List.append_nil]
      rw [e] at next
      exact next
theorem Nt (w:den Za) (ok:Ok w) (p:Pl):Zd (fun n _ _ _=>X1 n w p) (fun r=>r=((ACh w p,()),[(0,[])])) :=
  Zd.succ (fun n _ _ _=>X1.eq n w p) (Ec w ok p w p [] _ 0 (Nat.zero_add _)).enter
theorem Ci (w:den Za) (ok:Ok w) (p:Pl) (t0:den Za) (t1:Pl) (t4:List Sn):(r i:Nat)→i+r=List.length (w.2.2.2.1:List (den Zb)) →
    Zd (fun n m _ _=>Z4.l0 n m t0 t1 t4 (i:Int) w p (Nl w p i)) (fun r=>r=((ACh w p,()),[(0,[])]))
  | 0,i,hi=>by
    refine Zd.succ1 (fun n m _ _=>Z4.l0_eq n m t0 t1 t4 i w p _) (Zd.bifF (decide_eq_false (by omega)) (Zd.ret ?_))
    rw [show i=List.length (w.2.2.2.1:List (den Zb)) by omega]
  | r+1,i,hi=>by
    have hlen:=ok.sm.wh
    have hle:=Ny w p i
    have hil:i<List.length (w.2.2.2.1:List (den Zb)):=by omega
    have next:=Ci w ok p t0 t1 t4 r (i+1) (by omega)
    rw [← Xm (by omega)] at next
    refine Zd.succ1 (fun n m _ _=>Z4.l0_eq n m t0 t1 t4 i w p _) (Zd.bifT (decide_eq_true (by omega)) (Zd.call (Tn w ok.right 51 i hil (ok.right.ends hil)) (fun v hv => ?_)))
    rw [hv,Int.toNat_natCast]
    refine Zd.bif (fun h2=>Zd.ite (by omega) (Zd.ite (by omega) ?_)) (fun h2 => ?_)
    · have e:Nl w p (i+1)=Nl w p i ++ [((i:Int),Qr w i,())]:=by
        simp only [Nl]; rw [if_pos ((Tm _ _).1 h2)]
      rw [e] at next
      exact next
    · have e:Nl w p (i+1)=Nl w p i:=by
        simp only [Nl]; rw [if_neg (fun he=>by rw [(Tm _ _).2 he] at h2; cases h2),List.append_nil]
      rw [e] at next
      exact next
theorem Ll (w:den Za) (ok:Ok w) (p:Pl):Zd (fun n _ _ _=>Z4 n w p) (fun r=>r=((ACh w p,()),[(0,[])])) :=
  Zd.succ (fun n _ _ _=>Z4.eq n w p) (Ci w ok p w p [] _ 0 (Nat.zero_add _)).enter
end Go.Proofs.YtpemapoblhleoaaGreatDoor.Ghost
namespace Go.Proofs.YtpemapoblhleoaaGreatDoor.Ghost
open Go
theorem BXp (x y:Sn):eqT Xn x y=true↔x=y:=by
  obtain ⟨a,b,u⟩:=x
  obtain ⟨c,d,v⟩:=y
  cases u; cases v
  have h:=Tm b d
  simp only [eqT,AD4] at h ⊢
  simp only [Bool.and_eq_true,Bool.and_true,decide_eq_true_eq,Prod.mk.injEq,and_true,beq_iff_eq] at h ⊢
  rw [h]
theorem AGc (a b:List Sn) (hl:a.length=b.length) (hs:a.length≤1048576) (t4:Bool):(r i:Nat)→i+r=a.length→(∀ i',i'<i→a.getD i' (dft Xn)=b.getD i' (dft Xn)) →
    Zd (fun n m _ _=>Z9.l0 n m a b t4 (i:Int)) (fun r=>r.1.1=true↔a=b)
  | 0,i,hi,hp=>by
    refine Zd.succ1 (fun n m _ _=>Z9.l0_eq n m a b t4 i) (Zd.bif (fun h => ?_) (fun h=>Zd.ret ?_))
    · have:=of_decide_eq_true h; omega
    · exact ⟨fun _=>Pt (dft Xn) hl (fun i' hi'=>hp i' (by omega)),fun _=>rfl⟩
  | r+1,i,hi,hp=>by
    refine Zd.succ1 (fun n m _ _=>Z9.l0_eq n m a b t4 i) (Zd.bif (fun h=>Zd.ite (by omega) (Zd.ite (by omega) (Zd.bifN (fun h2 => ?_) (fun h2=>Zd.ret ?_)))) (fun h => ?_))
    · have h2:=(BXp _ _).1 h2
      rw [Xm (by omega)]
      refine AGc a b hl hs t4 r (i+1) (by omega) (fun i' hi' => ?_)
      by_cases he:i'=i
      · subst he; simpa using h2
      · exact hp i' (by omega)
    · refine ⟨(fun e=>by cases e),fun e => ?_⟩
      rw [e,(BXp _ _).2 rfl] at h2
      cases h2
    · have:=of_decide_eq_false h; omega
theorem AHe (a b:List Sn) (hs:a.length≤1048576):Zd (fun n _ _ _=>Z9 n a b) (fun r=>r.1.1=true↔a=b):=by
  refine Zd.succ (fun n _ _ _=>Z9.eq n a b) (Zd.bifN (fun h => ?_) (fun h=>Zd.ret ?_))
  · have h:=of_decide_eq_true h
    exact (AGc a b (by omega) hs false _ 0 (Nat.zero_add _) (fun i' hi'=>by omega)).enter
  · have h:=of_decide_eq_false h
    exact ⟨(fun e=>by cases e),fun e=>absurd (by rw [e]) h⟩
end Go.Proofs.YtpemapoblhleoaaGreatDoor.Ghost
namespace Go.Proofs.YtpemapoblhleoaaGreatDoor.Ghost
open Go
def Nk (w:den Za) (room:Int):Nat→List Int
  | 0=>[]
  | n+1=>Nk w room n ++ (if List.getD (w.2.1:List Int) n (0:Int)=room then [(n:Int)] else [])
theorem F7 (w:den Za) (room:Int):(n:Nat)→(Nk w room n).length≤n
  | 0=>Nat.le_refl 0
  | n+1=>by
    simp only [Nk,List.length_append]
    have:=F7 w room n
    split
    · simp only [List.length_singleton]; omega
    · simp only [List.length_nil]; omega
abbrev AGq (w:den Za) (room:Int):List Int:=Nk w room (List.length (w.2.1:List Int))
theorem Av (w:den Za) (hs:Sm w) (room:Int) (t0:den Za) (t4:List Int):(r i:Nat)→i+r=List.length (w.2.1:List Int) →
    Zd (fun n m _ _=>Xl.l0 n m t0 room t4 (List.length (w.2.1:List Int):Int) (i:Int) w (Nk w room i)) (fun r=>r=((AGq w room,()),[(0,[])]))
  | 0,i,hi=>by
    refine Zd.succ1 (fun n m _ _=>Xl.l0_eq n m t0 room t4 _ i w _) (Zd.bifF (decide_eq_false (by omega)) (Zd.ret ?_))
    rw [show i=List.length (w.2.1:List Int) by omega]
  | r+1,i,hi=>by
    have hlen:=hs.a
    have hle:=F7 w room i
    have next:=Av w hs room t0 t4 r (i+1) (by omega)
    rw [← Xm (by omega)] at next
    refine Zd.succ1 (fun n m _ _=>Xl.l0_eq n m t0 room t4 _ i w _) (Zd.bifT (decide_eq_true (by omega)) (Zd.ite (by omega) ?_))
    rw [Int.toNat_natCast]
    refine Zd.bif (fun h2=>Zd.ite (by omega) ?_) (fun h2 => ?_)
    · have e:Nk w room (i+1)=Nk w room i ++ [(i:Int)]:=by
        simp only [Nk]; rw [if_pos (of_decide_eq_true h2)]
      rw [e] at next
      exact next
    · have e:Nk w room (i+1)=Nk w room i:=by
        simp only [Nk]; rw [if_neg (of_decide_eq_false h2),List.append_nil]
      rw [e] at next
      exact next
theorem AC6 (w:den Za) (hs:Sm w) (room:Int):Zd (fun n _ _ _=>Xl n w room) (fun r=>r=((AGq w room,()),[(0,[])])) :=
  Zd.succ (fun n _ _ _=>Xl.eq n w room) (Av w hs room w [] _ 0 (Nat.zero_add _)).enter
theorem Lr (w:den Za) (hs:Sm w) (room:Int) (t0:den Za) (t4:List Int):(r i:Nat)→i+r=List.length (w.2.1:List Int) →
    Zd (fun n m _ _=>Z0.l0 n m t0 room t4 (i:Int) w (Nk w room i)) (fun r=>r=((AGq w room,()),[(0,[])]))
  | 0,i,hi=>by
    refine Zd.succ1 (fun n m _ _=>Z0.l0_eq n m t0 room t4 i w _) (Zd.bifF (decide_eq_false (by omega)) (Zd.ret ?_))
    rw [show i=List.length (w.2.1:List Int) by omega]
  | r+1,i,hi=>by
    have hlen:=hs.a
    have hle:=F7 w room i
    have next:=Lr w hs room t0 t4 r (i+1) (by omega)
    rw [← Xm (by omega)] at next
    refine Zd.succ1 (fun n m _ _=>Z0.l0_eq n m t0 room t4 i w _) (Zd.bifT (decide_eq_true (by omega)) (Zd.ite (by omega) ?_))
    rw [Int.toNat_natCast]
    refine Zd.bif (fun h2=>Zd.ite (by omega) ?_) (fun h2 => ?_)
    · have e:Nk w room (i+1)=Nk w room i ++ [(i:Int)]:=by
        simp only [Nk]; rw [if_pos (of_decide_eq_true h2)]
      rw [e] at next
      exact next
    · have e:Nk w room (i+1)=Nk w room i:=by
        simp only [Nk]; rw [if_neg (of_decide_eq_false h2),List.append_nil]
      rw [e] at next
      exact next
theorem Cs (w:den Za) (hs:Sm w) (room:Int):Zd (fun n _ _ _=>Z0 n w room) (fun r=>r=((AGq w room,()),[(0,[])])) :=
  Zd.succ (fun n _ _ _=>Z0.eq n w room) (Lr w hs room w [] _ 0 (Nat.zero_add _)).enter
abbrev G1 (w:den Za) (i:Nat):Int:=List.getD (w.2.1:List Int) i (0:Int)
abbrev V5 (w:den Za) (i:Nat):Int:=List.getD (w.2.2.1:List Int) i (0:Int)
abbrev BSn (r:Int):Pl:=((0:Int),r,())
abbrev Xt (i:Nat):Pl:=((1:Int),(i:Int),())
def AFv (w:den Za) (i:Nat):den Zt:=((0:Int),(9:Int),G1 w i,AGq w (G1 w i),ACh w (BSn (G1 w i)),(0:Int),())
def AMm (w:den Za) (i:Nat):den Zt:=((0:Int),(10:Int),(0:Int),([]:List Int),ACh w (Xt i),V5 w i,())
theorem AA3 (w:den Za) (ok:Ok w) {i:Nat} (hi:i<List.length (w.2.1:List Int)):Zd (fun n _ _ _=>V8 n w (i:Int)) (fun r=>r=((AFv w i,()),[])):=by
  refine Zd.succ (fun n _ _ _=>V8.eq n w i) (Zd.ite (by omega) ?_)
  rw [Int.toNat_natCast]
  refine Zd.call (AC6 w ok.sm _) (fun v hv => ?_)
  subst hv
  refine Zd.call (Nt w ok _) (fun u hu => ?_)
  subst hu
  exact Zd.ret rfl
theorem I1 (w:den Za) (ok:Ok w) {i:Nat} (hi:i<List.length (w.2.1:List Int)):Zd (fun n _ _ _=>Yt n w (i:Int)) (fun r=>r.1.1=AFv w i):=by
  refine Zd.succ (fun n _ _ _=>Yt.eq n w i) (Zd.ite (by omega) (Zd.ite (by omega) ?_))
  rw [Int.toNat_natCast]
  refine Zd.call (Cs w ok.sm _) (fun v hv => ?_)
  subst hv
  refine Zd.ite (by omega) (Zd.call (Ll w ok _) (fun u hu => ?_))
  subst hu
  exact Zd.ret rfl
theorem AEm (w:den Za) (ok:Ok w) {i:Nat} (hi:i<List.length (w.2.1:List Int)):Zd (fun n _ _ _=>K5 n w (i:Int)) (fun r=>r=((AMm w i,()),[])):=by
  have h1:=ok.right.a1
  have h2:=ok.right.c1
  refine Zd.succ (fun n _ _ _=>K5.eq n w i) (Zd.ite (by omega) (Zd.call (Nt w ok _) (fun u hu => ?_)))
  subst hu
  rw [Int.toNat_natCast]
  exact Zd.ret rfl
theorem D6 (w:den Za) (ok:Ok w) {i:Nat} (hi:i<List.length (w.2.1:List Int)):Zd (fun n _ _ _=>Y1 n w (i:Int)) (fun r=>r.1.1=AMm w i):=by
  have h1:=ok.right.a1
  have h2:=ok.right.c1
  refine Zd.succ (fun n _ _ _=>Y1.eq n w i) (Zd.ite (by omega) (Zd.call (Ll w ok _) (fun u hu => ?_)))
  subst hu
  rw [Int.toNat_natCast]
  exact Zd.ret rfl
theorem Bc (a b:den Zt) (h1:List.length (a.2.2.2.1:List Int)≤1048576) (h2:List.length (a.2.2.2.2.1:List Sn)≤1048576):Zd (fun n _ _ _=>Yf n a b) (fun r=>r.1.1=true↔a=b):=by
  have no:∀ {c:Yf.R},c=((false,()),[])→¬ a=b→(c.1.1=true↔a=b):=fun hc hn=>by subst hc; exact ⟨fun e=>(by cases e),fun e=>absurd e hn⟩
  refine Zd.succ (fun n _ _ _=>Yf.eq n a b) (Zd.bif (fun e1=>Zd.bif (fun e2=>Zd.bif (fun e3=>Zd.bif (fun e4=>Zd.call (Tx _ _ h1) (fun v hv=>Zd.bif (fun e5=>Zd.call (AHe _ _ h2) (fun u hu=>Zd.ret ?_)) (fun e5=>Zd.ret (no rfl (fun e => ?_))))) (fun e4=>Zd.ret (no rfl (fun e=>of_decide_eq_false e4 (by rw [e])))))
    (fun e3=>Zd.ret (no rfl (fun e=>of_decide_eq_false e3 (by rw [e]))))) (fun e2=>Zd.ret (no rfl (fun e=>of_decide_eq_false e2 (by rw [e]))))) (fun e1=>Zd.ret (no rfl (fun e=>of_decide_eq_false e1 (by rw [e])))))
  · refine hu.trans ⟨fun e6 => ?_,fun e=>by rw [e]⟩
    exact Prod.ext (of_decide_eq_true e1) (Prod.ext (of_decide_eq_true e2) (Prod.ext (of_decide_eq_true e3) (Prod.ext (hv.1 e5) (Prod.ext e6 (Prod.ext (of_decide_eq_true e4) rfl)))))
  · rw [hv.2 (by rw [e])] at e5; cases e5
theorem ALu {w:den Za} (hs:Sm w) (i:Nat):List.length ((AFv w i).2.2.2.1:List Int)≤1048576∧List.length ((AFv w i).2.2.2.2.1:List Sn)≤1048576:=by
  have h1:=hs.a
  have h2:=hs.wh
  have h3:=F7 w (G1 w i) (List.length (w.2.1:List Int))
  have h4:=Ny w (BSn (G1 w i)) (List.length (w.2.2.2.1:List (den Zb)))
  exact ⟨Nat.le_trans h3 h1,Nat.le_trans h4 h2⟩
theorem AOr {w:den Za} (hs:Sm w) (i:Nat):List.length ((AMm w i).2.2.2.1:List Int)≤1048576∧List.length ((AMm w i).2.2.2.2.1:List Sn)≤1048576:=by
  have h2:=hs.wh
  have h4:=Ny w (Xt i) (List.length (w.2.2.2.1:List (den Zb)))
  exact ⟨Nat.zero_le _,Nat.le_trans h4 h2⟩
theorem Ym.exits {w:den Za} (h:Ym w):0<List.length (w.1.1:List (List Int)):=Int.ofNat_lt.1 (Int.lt_of_le_of_lt (h.at_ 0 h.pos).1.1 (h.at_ 0 h.pos).1.2)
end Go.Proofs.YtpemapoblhleoaaGreatDoor.Ghost
