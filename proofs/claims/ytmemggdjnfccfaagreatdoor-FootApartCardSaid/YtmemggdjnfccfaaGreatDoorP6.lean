/- What functions come to, and that the statements are answered with 'true'. Conditions: none. -/
import Derived.Test.YtmemggdjnfccfaaGreatDoorS
import Derived.Test.YtmemggdjnfccfaaGreatDoorGE
import Derived.Test.YtmemggdjnfccfaaGreatDoorP1
import Derived.Test.YtmemggdjnfccfaaGreatDoorP2
import Derived.Test.YtmemggdjnfccfaaGreatDoorP3
import Derived.Test.YtmemggdjnfccfaaGreatDoorP4
import Derived.Test.YtmemggdjnfccfaaGreatDoorP5
set_option linter.unusedVariables false
set_option linter.unusedSimpArgs false
set_option linter.unusedSectionVars false
set_option linter.unnecessarySimpa false
namespace Go.Proofs.YtmemggdjnfccfaaGreatDoor.Ghost
open Go
def Hc (l:List Pl):Nat→Pl→List Pl
  | 0,p=>[p]
  | k+1,p=>if p.1=(2:Int) then p :: Hc l k (List.getD l (Int.toNat p.2.1) (dft Za)) else [p]
def Ou (l:List Pl):Nat→Pl→Nat
  | 0,_=>0
  | k+1,p=>if p.1=(2:Int) then Ou l k (List.getD l (Int.toNat p.2.1) (dft Za))+1 else 0
theorem C6 (l:List Pl):(k:Nat)→(p:Pl)→Ou l k p≤k
  | 0,_=>Nat.le_refl 0
  | k+1,p=>by
    simp only [Ou]
    have:=C6 l k (List.getD l (Int.toNat p.2.1) (dft Za))
    split <;> omega
theorem El (l:List Pl):(k:Nat)→(p:Pl)→(Hc l k p).length=Ou l k p+1
  | 0,_=>rfl
  | k+1,p=>by
    simp only [Hc,Ou]
    split
    · simp only [List.length_cons,El l k]
    · rfl
theorem Bk (l:List Pl):(k:Nat)→(p:Pl)→List.getD (Hc l k p) (Ou l k p) (dft Za)=Rq l k p
  | 0,_=>rfl
  | k+1,p=>by
    simp only [Hc,Ou,Rq]
    split
    · rw [List.getD_cons_succ]; exact Bk l k _
    · rfl
theorem Dw {l:List Pl} (hin:∀ i,i<l.length→inPl l (List.getD l i (dft Za))):(k f:Nat)→(p:Pl)→inPl l p→Eh l k p→k<f→upL l f p=some (Hc l k p)
  | 0,f+1,p,hp,he,_=>by
    have he:¬ p.1=(2:Int):=he
    simp only [upL,Hc]
    rw [decide_eq_false he]; rfl
  | k+1,f+1,p,hp,he,hf=>by
    simp only [upL,Hc]
    by_cases h2:p.1=(2:Int)
    · have hb:=hp h2
      rw [decide_eq_true h2,cond_true,if_pos hb,if_pos h2]
      have hlt:Int.toNat p.2.1<l.length:=(Int.toNat_lt hb.1).2 hb.2
      rw [Dw hin k f _ (hin _ hlt) (he h2) (by omega)]
    · rw [decide_eq_false h2,cond_false,if_neg h2]
theorem I9 (w:den Zb) (h:Yf w) {i:Nat} (hi:i<List.length (w.2.2.2.1:List (den Za))):Zd (fun n _ _ _=>Qx n w (i:Int)) (fun r=>r=((Hc w.2.2.2.1 51 (List.getD w.2.2.2.1 i (dft Za)),()),[(0,[])])):=by
  refine Zd.succ (G:=fun _ _ _ _=>some ((Hc w.2.2.2.1 51 (List.getD w.2.2.2.1 i (dft Za)),()),[(0,[])])) (fun n _ _ _ => ?_) (Zd.ret rfl)
  show (if (0:Int)≤(i:Int)∧((i:Int):Int)<(List.length (w.2.2.2.1:List (den Za)):Int) then (match upL w.2.2.2.1 60 (List.getD (w.2.2.2.1:List (den Za)) (Int.toNat (i:Int)) (dft Za)) with
      | some xs=>some ((xs,()),[(0,[])])
      | none=>none) else none)=_
  rw [if_pos ⟨Int.natCast_nonneg i,Int.ofNat_lt.2 hi⟩,Int.toNat_natCast,Dw h.inPl 51 60 _ (h.inPl i hi) (h.ends hi) (by omega)]
theorem AJ0 (w:den Zb) (i:Int):Zd (fun n _ _ _=>G0 n w i) (fun r=>r=(((w,i,()),()),[])):=Zd.succ (fun n _ _ _=>G0.eq n w i) (Zd.ret rfl)
abbrev Xs (w:den Zb) (i:Nat):Pl:=List.getD (w.2.2.2.1:List Pl) i (dft Za)
abbrev Xd (w:den Zb) (i:Nat):Pl:=Rq w.2.2.2.1 51 (Xs w i)
abbrev X6 (w:den Zb) (i:Nat):Nat:=Ou w.2.2.2.1 51 (Xs w i)
theorem Pz (w:den Zb) (h:Yf w) {i:Nat} (hi:i<List.length (w.2.2.2.1:List (den Za))):Zd (fun n _ _ _=>Kf n w (i:Int)) (fun r=>r.1.1=Xd w i):=by
  refine Zd.succ (fun n _ _ _=>Kf.eq n w i) (Zd.call (AJ0 w i) (fun v hv => ?_))
  subst hv
  refine Zd.call (I9 w h hi) (fun u hu => ?_)
  subst hu
  have hl:(Hc w.2.2.2.1 51 (Xs w i)).length=X6 w i+1:=El w.2.2.2.1 51 (Xs w i)
  have hd:X6 w i≤51:=C6 w.2.2.2.1 51 (Xs w i)
  have e:IntKind.wrap .i64 ((List.length (Hc w.2.2.2.1 51 (Xs w i)):Int) - 1)=(X6 w i:Int):=by rw [hl,Gb (by omega) (by omega)]; omega
  show Zd (fun _ _ _ _=>if (0:Int)≤IntKind.wrap .i64 ((List.length (Hc w.2.2.2.1 51 (Xs w i)):Int) - 1)∧IntKind.wrap .i64 ((List.length (Hc w.2.2.2.1 51 (Xs w i)):Int) - 1)<(List.length (Hc w.2.2.2.1 51 (Xs w i)):Int) then some ((List.getD (Hc w.2.2.2.1 51 (Xs w i)) (Int.toNat (IntKind.wrap .i64 ((List.length (Hc w.2.2.2.1 51 (Xs w i)):Int) - 1))) (dft Za),()),[]) else none) _
  rw [e,hl]
  refine Zd.ite ⟨Int.natCast_nonneg _,by omega⟩ (Zd.ret ?_)
  rw [Int.toNat_natCast]
  exact Bk _ _ _
end Go.Proofs.YtmemggdjnfccfaaGreatDoor.Ghost
namespace Go.Proofs.YtmemggdjnfccfaaGreatDoor.Ghost
open Go
abbrev Sn:=den Ym
def P0 (w:den Zb) (p:Pl):Nat→List Sn
  | 0=>[]
  | n+1=>P0 w p n ++ (if Xd w n=p then [((n:Int),Xs w n,())] else [])
theorem Ed (w:den Zb) (p:Pl):(n:Nat)→(P0 w p n).length≤n
  | 0=>Nat.le_refl 0
  | n+1=>by
    simp only [P0,List.length_append]
    have:=Ed w p n
    split
    · simp only [List.length_singleton]; omega
    · simp only [List.length_nil]; omega
abbrev Pi (w:den Zb) (p:Pl):List Sn:=P0 w p (List.length (w.2.2.2.1:List (den Za)))
theorem Eb (w:den Zb) (ok:Ok w) (p:Pl) (t0:den Zb) (t1:Pl) (t4:List Sn):(r i:Nat)→i+r=List.length (w.2.2.2.1:List (den Za)) →
    Zd (fun n m _ _=>X1.l0 n m t0 t1 t4 w.2.2.2.1 (List.length (w.2.2.2.1:List (den Za)):Int) (i:Int) w p (P0 w p i)) (fun r=>r=((Pi w p,()),[(0,[])]))
  | 0,i,hi=>by
    refine Zd.succ1 (fun n m _ _=>X1.l0_eq n m t0 t1 t4 w.2.2.2.1 _ i w p _) (Zd.bifF (decide_eq_false (by omega)) (Zd.ret ?_))
    rw [show i=List.length (w.2.2.2.1:List (den Za)) by omega]
  | r+1,i,hi=>by
    have hlen:=ok.sm.wh
    have hle:=Ed w p i
    have hil:i<List.length (w.2.2.2.1:List (den Za)):=by omega
    have next:=Eb w ok p t0 t1 t4 r (i+1) (by omega)
    rw [← Xv (by omega)] at next
    refine Zd.succ1 (fun n m _ _=>X1.l0_eq n m t0 t1 t4 w.2.2.2.1 _ i w p _) (Zd.bifT (decide_eq_true (by omega)) (Zd.ite (by omega) (Zd.call (Pz w ok.right hil) (fun v hv => ?_))))
    rw [hv,Int.toNat_natCast]
    refine Zd.bif (fun h2=>Zd.ite (by omega) ?_) (fun h2 => ?_)
    · have e:P0 w p (i+1)=P0 w p i ++ [((i:Int),Xs w i,())]:=by
        simp only [P0]; rw [if_pos ((Lw _ _).1 h2)]
      rw [e] at next
      exact next
    · have e:P0 w p (i+1)=P0 w p i:=by
        simp only [P0]; rw [if_neg (fun he=>by rw [(Lw _ _).2 he] at h2; cases h2),List.append_nil]
      rw [e] at next
      exact next
theorem M0 (w:den Zb) (ok:Ok w) (p:Pl):Zd (fun n _ _ _=>X1 n w p) (fun r=>r=((Pi w p,()),[(0,[])])) :=
  Zd.succ (fun n _ _ _=>X1.eq n w p) (Eb w ok p w p [] _ 0 (Nat.zero_add _)).enter
end Go.Proofs.YtmemggdjnfccfaaGreatDoor.Ghost
namespace Go.Proofs.YtmemggdjnfccfaaGreatDoor.Ghost
open Go
theorem CAd (x y:Sn):eqT Ym x y=true↔x=y:=by
  obtain ⟨a,b,u⟩:=x
  obtain ⟨c,d,v⟩:=y
  cases u; cases v
  have h:=Lw b d
  simp only [eqT,Ad] at h ⊢
  simp only [Bool.and_eq_true,Bool.and_true,decide_eq_true_eq,Prod.mk.injEq,and_true,beq_iff_eq] at h ⊢
  rw [h]
theorem AG3 (a b:List Sn) (hl:a.length=b.length) (hs:a.length≤1048576) (t4:Bool):(r i:Nat)→i+r=a.length→(∀ i',i'<i→a.getD i' (dft Ym)=b.getD i' (dft Ym)) →
    Zd (fun n m _ _=>Z5.l0 n m a b t4 (i:Int)) (fun r=>r.1.1=true↔a=b)
  | 0,i,hi,hp=>by
    refine Zd.succ1 (fun n m _ _=>Z5.l0_eq n m a b t4 i) (Zd.bif (fun h => ?_) (fun h=>Zd.ret ?_))
    · have:=of_decide_eq_true h; omega
    · exact ⟨fun _=>G7 (dft Ym) hl (fun i' hi'=>hp i' (by omega)),fun _=>rfl⟩
  | r+1,i,hi,hp=>by
    refine Zd.succ1 (fun n m _ _=>Z5.l0_eq n m a b t4 i) (Zd.bif (fun h=>Zd.ite (by omega) (Zd.ite (by omega) (Zd.bifN (fun h2 => ?_) (fun h2=>Zd.ret ?_)))) (fun h => ?_))
    · have h2:=(CAd _ _).1 h2
      rw [Xv (by omega)]
      refine AG3 a b hl hs t4 r (i+1) (by omega) (fun i' hi' => ?_)
      by_cases he:i'=i
      · subst he; simpa using h2
      · exact hp i' (by omega)
    · refine ⟨(fun e=>by cases e),fun e => ?_⟩
      rw [e,(CAd _ _).2 rfl] at h2
      cases h2
    · have:=of_decide_eq_false h; omega
theorem AIn (a b:List Sn) (hs:a.length≤1048576):Zd (fun n _ _ _=>Z5 n a b) (fun r=>r.1.1=true↔a=b):=by
  refine Zd.succ (fun n _ _ _=>Z5.eq n a b) (Zd.bifN (fun h => ?_) (fun h=>Zd.ret ?_))
  · have h:=of_decide_eq_true h
    exact (AG3 a b (by omega) hs false _ 0 (Nat.zero_add _) (fun i' hi'=>by omega)).enter
  · have h:=of_decide_eq_false h
    exact ⟨(fun e=>by cases e),fun e=>absurd (by rw [e]) h⟩
end Go.Proofs.YtmemggdjnfccfaaGreatDoor.Ghost
namespace Go.Proofs.YtmemggdjnfccfaaGreatDoor.Ghost
open Go
def F3 (w:den Zb) (room:Int):Nat→List Int
  | 0=>[]
  | n+1=>F3 w room n ++ (if List.getD (w.2.1:List Int) n (0:Int)=room then [(n:Int)] else [])
theorem AAl (w:den Zb) (room:Int):(n:Nat)→(F3 w room n).length≤n
  | 0=>Nat.le_refl 0
  | n+1=>by
    simp only [F3,List.length_append]
    have:=AAl w room n
    split
    · simp only [List.length_singleton]; omega
    · simp only [List.length_nil]; omega
abbrev AGt (w:den Zb) (room:Int):List Int:=F3 w room (List.length (w.2.1:List Int))
theorem AAm (w:den Zb) (hs:Sm w) (room:Int) (t0:den Zb) (t4:List Int):(r i:Nat)→i+r=List.length (w.2.1:List Int) →
    Zd (fun n m _ _=>Xm.l0 n m t0 room t4 (List.length (w.2.1:List Int):Int) (i:Int) w (F3 w room i)) (fun r=>r=((AGt w room,()),[(0,[])]))
  | 0,i,hi=>by
    refine Zd.succ1 (fun n m _ _=>Xm.l0_eq n m t0 room t4 _ i w _) (Zd.bifF (decide_eq_false (by omega)) (Zd.ret ?_))
    rw [show i=List.length (w.2.1:List Int) by omega]
  | r+1,i,hi=>by
    have hlen:=hs.a
    have hle:=AAl w room i
    have next:=AAm w hs room t0 t4 r (i+1) (by omega)
    rw [← Xv (by omega)] at next
    refine Zd.succ1 (fun n m _ _=>Xm.l0_eq n m t0 room t4 _ i w _) (Zd.bifT (decide_eq_true (by omega)) (Zd.ite (by omega) ?_))
    rw [Int.toNat_natCast]
    refine Zd.bif (fun h2=>Zd.ite (by omega) ?_) (fun h2 => ?_)
    · have e:F3 w room (i+1)=F3 w room i ++ [(i:Int)]:=by
        simp only [F3]; rw [if_pos (of_decide_eq_true h2)]
      rw [e] at next
      exact next
    · have e:F3 w room (i+1)=F3 w room i:=by
        simp only [F3]; rw [if_neg (of_decide_eq_false h2),List.append_nil]
      rw [e] at next
      exact next
theorem AD7 (w:den Zb) (hs:Sm w) (room:Int):Zd (fun n _ _ _=>Xm n w room) (fun r=>r=((AGt w room,()),[(0,[])])) :=
  Zd.succ (fun n _ _ _=>Xm.eq n w room) (AAm w hs room w [] _ 0 (Nat.zero_add _)).enter
abbrev Yc (w:den Zb) (i:Nat):Int:=List.getD (w.2.1:List Int) i (0:Int)
abbrev Yw (w:den Zb) (i:Nat):Int:=List.getD (w.2.2.1:List Int) i (0:Int)
abbrev E4 (r:Int):Pl:=((0:Int),r,())
abbrev X2 (i:Nat):Pl:=((1:Int),(i:Int),())
def AAa (w:den Zb) (i:Nat):den Z9:=((0:Int),(9:Int),Yc w i,AGt w (Yc w i),Pi w (E4 (Yc w i)),(0:Int),())
def AId (w:den Zb) (i:Nat):den Z9:=((0:Int),(10:Int),(0:Int),([]:List Int),Pi w (X2 i),Yw w i,())
theorem ACe (w:den Zb) (ok:Ok w) {i:Nat} (hi:i<List.length (w.2.1:List Int)):Zd (fun n _ _ _=>V3 n w (i:Int)) (fun r=>r=((AAa w i,()),[])):=by
  refine Zd.succ (fun n _ _ _=>V3.eq n w i) (Zd.ite (by omega) ?_)
  rw [Int.toNat_natCast]
  refine Zd.call (AD7 w ok.sm _) (fun v hv => ?_)
  subst hv
  refine Zd.call (M0 w ok _) (fun u hu => ?_)
  subst hu
  exact Zd.ret rfl
theorem AGp (w:den Zb) (ok:Ok w) {i:Nat} (hi:i<List.length (w.2.1:List Int)):Zd (fun n _ _ _=>Kv n w (i:Int)) (fun r=>r=((AId w i,()),[])):=by
  have h1:=ok.right.a1
  have h2:=ok.right.c1
  refine Zd.succ (fun n _ _ _=>Kv.eq n w i) (Zd.ite (by omega) (Zd.call (M0 w ok _) (fun u hu => ?_)))
  subst hu
  rw [Int.toNat_natCast]
  exact Zd.ret rfl
theorem Ng (a b:den Z9) (h1:List.length (a.2.2.2.1:List Int)≤1048576) (h2:List.length (a.2.2.2.2.1:List Sn)≤1048576):Zd (fun n _ _ _=>Ya n a b) (fun r=>r.1.1=true↔a=b):=by
  have no:∀ {c:Ya.R},c=((false,()),[])→¬ a=b→(c.1.1=true↔a=b):=fun hc hn=>by subst hc; exact ⟨fun e=>(by cases e),fun e=>absurd e hn⟩
  refine Zd.succ (fun n _ _ _=>Ya.eq n a b) (Zd.bif (fun e1=>Zd.bif (fun e2=>Zd.bif (fun e3=>Zd.bif (fun e4=>Zd.call (T0 _ _ h1) (fun v hv=>Zd.bif (fun e5=>Zd.call (AIn _ _ h2) (fun u hu=>Zd.ret ?_)) (fun e5=>Zd.ret (no rfl (fun e => ?_))))) (fun e4=>Zd.ret (no rfl (fun e=>of_decide_eq_false e4 (by rw [e])))))
    (fun e3=>Zd.ret (no rfl (fun e=>of_decide_eq_false e3 (by rw [e]))))) (fun e2=>Zd.ret (no rfl (fun e=>of_decide_eq_false e2 (by rw [e]))))) (fun e1=>Zd.ret (no rfl (fun e=>of_decide_eq_false e1 (by rw [e])))))
  · refine hu.trans ⟨fun e6 => ?_,fun e=>by rw [e]⟩
    exact Prod.ext (of_decide_eq_true e1) (Prod.ext (of_decide_eq_true e2) (Prod.ext (of_decide_eq_true e3) (Prod.ext (hv.1 e5) (Prod.ext e6 (Prod.ext (of_decide_eq_true e4) rfl)))))
  · rw [hv.2 (by rw [e])] at e5; cases e5
theorem AOi {w:den Zb} (hs:Sm w) (i:Nat):List.length ((AAa w i).2.2.2.1:List Int)≤1048576∧List.length ((AAa w i).2.2.2.2.1:List Sn)≤1048576:=by
  have h1:=hs.a
  have h2:=hs.wh
  have h3:=AAl w (Yc w i) (List.length (w.2.1:List Int))
  have h4:=Ed w (E4 (Yc w i)) (List.length (w.2.2.2.1:List (den Za)))
  exact ⟨Nat.le_trans h3 h1,Nat.le_trans h4 h2⟩
theorem ATa {w:den Zb} (hs:Sm w) (i:Nat):List.length ((AId w i).2.2.2.1:List Int)≤1048576∧List.length ((AId w i).2.2.2.2.1:List Sn)≤1048576:=by
  have h2:=hs.wh
  have h4:=Ed w (X2 i) (List.length (w.2.2.2.1:List (den Za)))
  exact ⟨Nat.zero_le _,Nat.le_trans h4 h2⟩
theorem Yf.exits {w:den Zb} (h:Yf w):0<List.length (w.1.1:List (List Int)):=Int.ofNat_lt.1 (Int.lt_of_le_of_lt (h.at_ 0 h.pos).1.1 (h.at_ 0 h.pos).1.2)
end Go.Proofs.YtmemggdjnfccfaaGreatDoor.Ghost
