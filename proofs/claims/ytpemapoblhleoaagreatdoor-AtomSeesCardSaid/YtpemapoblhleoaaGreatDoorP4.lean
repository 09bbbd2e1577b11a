/- What functions come to, and that the statements are answered with 'true'. Conditions: none. -/
import Derived.Test.YtpemapoblhleoaaGreatDoorS
import Derived.Test.YtpemapoblhleoaaGreatDoorGE
import Derived.Test.YtpemapoblhleoaaGreatDoorP1
import Derived.Test.YtpemapoblhleoaaGreatDoorP2
import Derived.Test.YtpemapoblhleoaaGreatDoorP3
set_option linter.unusedVariables false
set_option linter.unusedSimpArgs false
set_option linter.unusedSectionVars false
set_option linter.unnecessarySimpa false
namespace Go.Proofs.YtpemapoblhleoaaGreatDoor.Ghost
open Go
def Ko (l:List Pl):Nat→Pl→List Pl
  | 0,p=>[p]
  | k+1,p=>if p.1=(2:Int) then p :: Ko l k (List.getD l (Int.toNat p.2.1) (dft Zb)) else [p]
def Pn (l:List Pl):Nat→Pl→Nat
  | 0,_=>0
  | k+1,p=>if p.1=(2:Int) then Pn l k (List.getD l (Int.toNat p.2.1) (dft Zb))+1 else 0
theorem Di (l:List Pl):(k:Nat)→(p:Pl)→Pn l k p≤k
  | 0,_=>Nat.le_refl 0
  | k+1,p=>by
    simp only [Pn]
    have:=Di l k (List.getD l (Int.toNat p.2.1) (dft Zb))
    split <;> omega
theorem I2 (l:List Pl):(k:Nat)→(p:Pl)→(Ko l k p).length=Pn l k p+1
  | 0,_=>rfl
  | k+1,p=>by
    simp only [Ko,Pn]
    split
    · simp only [List.length_cons,I2 l k]
    · rfl
theorem Dw (l:List Pl):(k:Nat)→(p:Pl)→List.getD (Ko l k p) (Pn l k p) (dft Zb)=Ra l k p
  | 0,_=>rfl
  | k+1,p=>by
    simp only [Ko,Pn,Ra]
    split
    · rw [List.getD_cons_succ]; exact Dw l k _
    · rfl
theorem F8 {l:List Pl} (hin:∀ i,i<l.length→inPl l (List.getD l i (dft Zb))):(k f:Nat)→(p:Pl)→inPl l p→Iz l k p→k<f→upL l f p=some (Ko l k p)
  | 0,f+1,p,hp,he,_=>by
    have he:¬ p.1=(2:Int):=he
    simp only [upL,Ko]
    rw [decide_eq_false he]; rfl
  | k+1,f+1,p,hp,he,hf=>by
    simp only [upL,Ko]
    by_cases h2:p.1=(2:Int)
    · have hb:=hp h2
      rw [decide_eq_true h2,cond_true,if_pos hb,if_pos h2]
      have hlt:Int.toNat p.2.1<l.length:=(Int.toNat_lt hb.1).2 hb.2
      rw [F8 hin k f _ (hin _ hlt) (he h2) (by omega)]
    · rw [decide_eq_false h2,cond_false,if_neg h2]
theorem Lp (w:den Za) (h:X0 w) {i:Nat} (hi:i<List.length (w.2.2.2.1:List (den Zb))):Zd (fun n _ _ _=>Qb n w (i:Int)) (fun r=>r=((Ko w.2.2.2.1 51 (List.getD w.2.2.2.1 i (dft Zb)),()),[(0,[])])):=by
  refine Zd.succ (G:=fun _ _ _ _=>some ((Ko w.2.2.2.1 51 (List.getD w.2.2.2.1 i (dft Zb)),()),[(0,[])])) (fun n _ _ _ => ?_) (Zd.ret rfl)
  show (if (0:Int)≤(i:Int)∧((i:Int):Int)<(List.length (w.2.2.2.1:List (den Zb)):Int) then (match upL w.2.2.2.1 60 (List.getD (w.2.2.2.1:List (den Zb)) (Int.toNat (i:Int)) (dft Zb)) with
      | some xs=>some ((xs,()),[(0,[])])
      | none=>none) else none)=_
  rw [if_pos ⟨Int.natCast_nonneg i,Int.ofNat_lt.2 hi⟩,Int.toNat_natCast,F8 h.inPl 51 60 _ (h.inPl i hi) (h.ends hi) (by omega)]
theorem AH0 (w:den Za) (i:Int):Zd (fun n _ _ _=>H4 n w i) (fun r=>r=(((w,i,()),()),[])):=Zd.succ (fun n _ _ _=>H4.eq n w i) (Zd.ret rfl)
abbrev Yr (w:den Za) (i:Nat):Pl:=List.getD (w.2.2.2.1:List Pl) i (dft Zb)
abbrev Qa (w:den Za) (i:Nat):Pl:=Ra w.2.2.2.1 51 (Yr w i)
abbrev Xy (w:den Za) (i:Nat):Nat:=Pn w.2.2.2.1 51 (Yr w i)
theorem Rn (w:den Za) (h:X0 w) {i:Nat} (hi:i<List.length (w.2.2.2.1:List (den Zb))):Zd (fun n _ _ _=>Vs n w (i:Int)) (fun r=>r.1.1=Qa w i):=by
  refine Zd.succ (fun n _ _ _=>Vs.eq n w i) (Zd.call (AH0 w i) (fun v hv => ?_))
  subst hv
  refine Zd.call (Lp w h hi) (fun u hu => ?_)
  subst hu
  have hl:(Ko w.2.2.2.1 51 (Yr w i)).length=Xy w i+1:=I2 w.2.2.2.1 51 (Yr w i)
  have hd:Xy w i≤51:=Di w.2.2.2.1 51 (Yr w i)
  have e:IntKind.wrap .i64 ((List.length (Ko w.2.2.2.1 51 (Yr w i)):Int) - 1)=(Xy w i:Int):=by rw [hl,Hm (by omega) (by omega)]; omega
  show Zd (fun _ _ _ _=>if (0:Int)≤IntKind.wrap .i64 ((List.length (Ko w.2.2.2.1 51 (Yr w i)):Int) - 1)∧IntKind.wrap .i64 ((List.length (Ko w.2.2.2.1 51 (Yr w i)):Int) - 1)<(List.length (Ko w.2.2.2.1 51 (Yr w i)):Int) then some ((List.getD (Ko w.2.2.2.1 51 (Yr w i)) (Int.toNat (IntKind.wrap .i64 ((List.length (Ko w.2.2.2.1 51 (Yr w i)):Int) - 1))) (dft Zb),()),[]) else none) _
  rw [e,hl]
  refine Zd.ite ⟨Int.natCast_nonneg _,by omega⟩ (Zd.ret ?_)
  rw [Int.toNat_natCast]
  exact Dw _ _ _
end Go.Proofs.YtpemapoblhleoaaGreatDoor.Ghost
namespace Go.Proofs.YtpemapoblhleoaaGreatDoor.Ghost
open Go
abbrev Sn:=den Z2
def Mc (w:den Za) (p:Pl):Nat→List Sn
  | 0=>[]
  | n+1=>Mc w p n ++ (if Qa w n=p then [((n:Int),Yr w n,())] else [])
theorem Nl (w:den Za) (p:Pl):(n:Nat)→(Mc w p n).length≤n
  | 0=>Nat.le_refl 0
  | n+1=>by
    simp only [Mc,List.length_append]
    have:=Nl w p n
    split
    · simp only [List.length_singleton]; omega
    · simp only [List.length_nil]; omega
abbrev J2 (w:den Za) (p:Pl):List Sn:=Mc w p (List.length (w.2.2.2.1:List (den Zb)))
theorem Iv (w:den Za) (ok:Ok w) (p:Pl) (t0:den Za) (t1:Pl) (t4:List Sn):(r i:Nat)→i+r=List.length (w.2.2.2.1:List (den Zb)) →
    Zd (fun n m _ _=>Xo.l0 n m t0 t1 t4 w.2.2.2.1 (List.length (w.2.2.2.1:List (den Zb)):Int) (i:Int) w p (Mc w p i)) (fun r=>r=((J2 w p,()),[(0,[])]))
  | 0,i,hi=>by
    refine Zd.succ1 (fun n m _ _=>Xo.l0_eq n m t0 t1 t4 w.2.2.2.1 _ i w p _) (Zd.bifF (decide_eq_false (by omega)) (Zd.ret ?_))
    rw [show i=List.length (w.2.2.2.1:List (den Zb)) by omega]
  | r+1,i,hi=>by
    have hlen:=ok.sm.wh
    have hle:=Nl w p i
    have hil:i<List.length (w.2.2.2.1:List (den Zb)):=by omega
    have next:=Iv w ok p t0 t1 t4 r (i+1) (by omega)
    rw [← Xr (by omega)] at next
    refine Zd.succ1 (fun n m _ _=>Xo.l0_eq n m t0 t1 t4 w.2.2.2.1 _ i w p _) (Zd.bifT (decide_eq_true (by omega)) (Zd.ite (by omega) (Zd.call (Rn w ok.right hil) (fun v hv => ?_))))
    rw [hv,Int.toNat_natCast]
    refine Zd.bif (fun h2=>Zd.ite (by omega) ?_) (fun h2 => ?_)
    · have e:Mc w p (i+1)=Mc w p i ++ [((i:Int),Yr w i,())]:=by
        simp only [Mc]; rw [if_pos ((Ls _ _).1 h2)]
      rw [e] at next
      exact next
    · have e:Mc w p (i+1)=Mc w p i:=by
        simp only [Mc]; rw [if_neg (fun he=>by rw [(Ls _ _).2 he] at h2; cases h2),List.append_nil]
      rw [e] at next
      exact next
theorem Nk (w:den Za) (ok:Ok w) (p:Pl):Zd (fun n _ _ _=>Xo n w p) (fun r=>r=((J2 w p,()),[(0,[])])) :=
  Zd.succ (fun n _ _ _=>Xo.eq n w p) (Iv w ok p w p [] _ 0 (Nat.zero_add _)).enter
end Go.Proofs.YtpemapoblhleoaaGreatDoor.Ghost
namespace Go.Proofs.YtpemapoblhleoaaGreatDoor.Ghost
open Go
theorem ADq (x y:Sn):eqT Z2 x y=true↔x=y:=by
  obtain ⟨a,b,u⟩:=x
  obtain ⟨c,d,v⟩:=y
  cases u; cases v
  have h:=Ls b d
  simp only [eqT,ABy] at h ⊢
  simp only [Bool.and_eq_true,Bool.and_true,decide_eq_true_eq,Prod.mk.injEq,and_true,beq_iff_eq] at h ⊢
  rw [h]
end Go.Proofs.YtpemapoblhleoaaGreatDoor.Ghost
namespace Go.Proofs.YtpemapoblhleoaaGreatDoor.Ghost
open Go
def Il (w:den Za) (room:Int):Nat→List Int
  | 0=>[]
  | n+1=>Il w room n ++ (if List.getD (w.2.1:List Int) n (0:Int)=room then [(n:Int)] else [])
theorem Bd (w:den Za) (room:Int):(n:Nat)→(Il w room n).length≤n
  | 0=>Nat.le_refl 0
  | n+1=>by
    simp only [Il,List.length_append]
    have:=Bd w room n
    split
    · simp only [List.length_singleton]; omega
    · simp only [List.length_nil]; omega
abbrev AE0 (w:den Za) (room:Int):List Int:=Il w room (List.length (w.2.1:List Int))
theorem Be (w:den Za) (hs:Sm w) (room:Int) (t0:den Za) (t4:List Int):(r i:Nat)→i+r=List.length (w.2.1:List Int) →
    Zd (fun n m _ _=>Z8.l0 n m t0 room t4 (List.length (w.2.1:List Int):Int) (i:Int) w (Il w room i)) (fun r=>r=((AE0 w room,()),[(0,[])]))
  | 0,i,hi=>by
    refine Zd.succ1 (fun n m _ _=>Z8.l0_eq n m t0 room t4 _ i w _) (Zd.bifF (decide_eq_false (by omega)) (Zd.ret ?_))
    rw [show i=List.length (w.2.1:List Int) by omega]
  | r+1,i,hi=>by
    have hlen:=hs.a
    have hle:=Bd w room i
    have next:=Be w hs room t0 t4 r (i+1) (by omega)
    rw [← Xr (by omega)] at next
    refine Zd.succ1 (fun n m _ _=>Z8.l0_eq n m t0 room t4 _ i w _) (Zd.bifT (decide_eq_true (by omega)) (Zd.ite (by omega) ?_))
    rw [Int.toNat_natCast]
    refine Zd.bif (fun h2=>Zd.ite (by omega) ?_) (fun h2 => ?_)
    · have e:Il w room (i+1)=Il w room i ++ [(i:Int)]:=by
        simp only [Il]; rw [if_pos (of_decide_eq_true h2)]
      rw [e] at next
      exact next
    · have e:Il w room (i+1)=Il w room i:=by
        simp only [Il]; rw [if_neg (of_decide_eq_false h2),List.append_nil]
      rw [e] at next
      exact next
theorem ACi (w:den Za) (hs:Sm w) (room:Int):Zd (fun n _ _ _=>Z8 n w room) (fun r=>r=((AE0 w room,()),[(0,[])])) :=
  Zd.succ (fun n _ _ _=>Z8.eq n w room) (Be w hs room w [] _ 0 (Nat.zero_add _)).enter
abbrev Gy (w:den Za) (i:Nat):Int:=List.getD (w.2.1:List Int) i (0:Int)
abbrev Qu (w:den Za) (i:Nat):Int:=List.getD (w.2.2.1:List Int) i (0:Int)
abbrev Aa (r:Int):Pl:=((0:Int),r,())
abbrev Xz (i:Nat):Pl:=((1:Int),(i:Int),())
def AAm (w:den Za) (i:Nat):den Zn:=((0:Int),(9:Int),Gy w i,AE0 w (Gy w i),J2 w (Aa (Gy w i)),(0:Int),())
def AMk (w:den Za) (i:Nat):den Zn:=((0:Int),(10:Int),(0:Int),([]:List Int),J2 w (Xz i),Qu w i,())
theorem AAo (w:den Za) (ok:Ok w) {i:Nat} (hi:i<List.length (w.2.1:List Int)):Zd (fun n _ _ _=>Vh n w (i:Int)) (fun r=>r=((AAm w i,()),[])):=by
  refine Zd.succ (fun n _ _ _=>Vh.eq n w i) (Zd.ite (by omega) ?_)
  rw [Int.toNat_natCast]
  refine Zd.call (ACi w ok.sm _) (fun v hv => ?_)
  subst hv
  refine Zd.call (Nk w ok _) (fun u hu => ?_)
  subst hu
  exact Zd.ret rfl
theorem AEx (w:den Za) (ok:Ok w) {i:Nat} (hi:i<List.length (w.2.1:List Int)):Zd (fun n _ _ _=>V6 n w (i:Int)) (fun r=>r=((AMk w i,()),[])):=by
  have h1:=ok.right.a1
  have h2:=ok.right.c1
  refine Zd.succ (fun n _ _ _=>V6.eq n w i) (Zd.ite (by omega) (Zd.call (Nk w ok _) (fun u hu => ?_)))
  subst hu
  rw [Int.toNat_natCast]
  exact Zd.ret rfl
theorem X0.exits {w:den Za} (h:X0 w):0<List.length (w.1.1:List (List Int)):=Int.ofNat_lt.1 (Int.lt_of_le_of_lt (h.at_ 0 h.pos).1.1 (h.at_ 0 h.pos).1.2)
end Go.Proofs.YtpemapoblhleoaaGreatDoor.Ghost
