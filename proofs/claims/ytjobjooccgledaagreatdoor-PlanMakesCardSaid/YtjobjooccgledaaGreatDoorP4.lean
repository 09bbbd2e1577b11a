/- What functions come to, and that the statements are answered with 'true'. Conditions: none. -/
import Derived.Test.YtjobjooccgledaaGreatDoorS
import Derived.Test.YtjobjooccgledaaGreatDoorGE
import Derived.Test.YtjobjooccgledaaGreatDoorP1
import Derived.Test.YtjobjooccgledaaGreatDoorP2
import Derived.Test.YtjobjooccgledaaGreatDoorP3
set_option linter.unusedVariables false
set_option linter.unusedSimpArgs false
set_option linter.unusedSectionVars false
set_option linter.unnecessarySimpa false
namespace Go.Proofs.YtjobjooccgledaaGreatDoor.Ghost
open Go
def Kv (l:List Pl):Nat→Pl→List Pl
  | 0,p=>[p]
  | k+1,p=>if p.1=(2:Int) then p :: Kv l k (List.getD l (Int.toNat p.2.1) (dft Zb)) else [p]
def Oa (l:List Pl):Nat→Pl→Nat
  | 0,_=>0
  | k+1,p=>if p.1=(2:Int) then Oa l k (List.getD l (Int.toNat p.2.1) (dft Zb))+1 else 0
theorem D7 (l:List Pl):(k:Nat)→(p:Pl)→Oa l k p≤k
  | 0,_=>Nat.le_refl 0
  | k+1,p=>by
    simp only [Oa]
    have:=D7 l k (List.getD l (Int.toNat p.2.1) (dft Zb))
    split <;> omega
theorem Fs (l:List Pl):(k:Nat)→(p:Pl)→(Kv l k p).length=Oa l k p+1
  | 0,_=>rfl
  | k+1,p=>by
    simp only [Kv,Oa]
    split
    · simp only [List.length_cons,Fs l k]
    · rfl
theorem Co (l:List Pl):(k:Nat)→(p:Pl)→List.getD (Kv l k p) (Oa l k p) (dft Zb)=Pt l k p
  | 0,_=>rfl
  | k+1,p=>by
    simp only [Kv,Oa,Pt]
    split
    · rw [List.getD_cons_succ]; exact Co l k _
    · rfl
theorem Ey {l:List Pl} (hin:∀ i,i<l.length→inPl l (List.getD l i (dft Zb))):(k f:Nat)→(p:Pl)→inPl l p→Fq l k p→k<f→upL l f p=some (Kv l k p)
  | 0,f+1,p,hp,he,_=>by
    have he:¬ p.1=(2:Int):=he
    simp only [upL,Kv]
    rw [decide_eq_false he]; rfl
  | k+1,f+1,p,hp,he,hf=>by
    simp only [upL,Kv]
    by_cases h2:p.1=(2:Int)
    · have hb:=hp h2
      rw [decide_eq_true h2,cond_true,if_pos hb,if_pos h2]
      have hlt:Int.toNat p.2.1<l.length:=(Int.toNat_lt hb.1).2 hb.2
      rw [Ey hin k f _ (hin _ hlt) (he h2) (by omega)]
    · rw [decide_eq_false h2,cond_false,if_neg h2]
theorem Il (w:den Za) (h:Yg w) {i:Nat} (hi:i<List.length (w.2.2.2.1:List (den Zb))):Zd (fun n _ _ _=>Qi n w (i:Int)) (fun r=>r=((Kv w.2.2.2.1 51 (List.getD w.2.2.2.1 i (dft Zb)),()),[(0,[])])):=by
  refine Zd.succ (G:=fun _ _ _ _=>some ((Kv w.2.2.2.1 51 (List.getD w.2.2.2.1 i (dft Zb)),()),[(0,[])])) (fun n _ _ _ => ?_) (Zd.ret rfl)
  show (if (0:Int)≤(i:Int)∧((i:Int):Int)<(List.length (w.2.2.2.1:List (den Zb)):Int) then (match upL w.2.2.2.1 60 (List.getD (w.2.2.2.1:List (den Zb)) (Int.toNat (i:Int)) (dft Zb)) with
      | some xs=>some ((xs,()),[(0,[])])
      | none=>none) else none)=_
  rw [if_pos ⟨Int.natCast_nonneg i,Int.ofNat_lt.2 hi⟩,Int.toNat_natCast,Ey h.inPl 51 60 _ (h.inPl i hi) (h.ends hi) (by omega)]
theorem AIz (w:den Za) (i:Int):Zd (fun n _ _ _=>Gb n w i) (fun r=>r=(((w,i,()),()),[])):=Zd.succ (fun n _ _ _=>Gb.eq n w i) (Zd.ret rfl)
abbrev Qz (w:den Za) (i:Nat):Pl:=List.getD (w.2.2.2.1:List Pl) i (dft Zb)
abbrev V7 (w:den Za) (i:Nat):Pl:=Pt w.2.2.2.1 51 (Qz w i)
abbrev X2 (w:den Za) (i:Nat):Nat:=Oa w.2.2.2.1 51 (Qz w i)
theorem Pa (w:den Za) (h:Yg w) {i:Nat} (hi:i<List.length (w.2.2.2.1:List (den Zb))):Zd (fun n _ _ _=>Vv n w (i:Int)) (fun r=>r.1.1=V7 w i):=by
  refine Zd.succ (fun n _ _ _=>Vv.eq n w i) (Zd.call (AIz w i) (fun v hv => ?_))
  subst hv
  refine Zd.call (Il w h hi) (fun u hu => ?_)
  subst hu
  have hl:(Kv w.2.2.2.1 51 (Qz w i)).length=X2 w i+1:=Fs w.2.2.2.1 51 (Qz w i)
  have hd:X2 w i≤51:=D7 w.2.2.2.1 51 (Qz w i)
  have e:IntKind.wrap .i64 ((List.length (Kv w.2.2.2.1 51 (Qz w i)):Int) - 1)=(X2 w i:Int):=by rw [hl,Hr (by omega) (by omega)]; omega
  show Zd (fun _ _ _ _=>if (0:Int)≤IntKind.wrap .i64 ((List.length (Kv w.2.2.2.1 51 (Qz w i)):Int) - 1)∧IntKind.wrap .i64 ((List.length (Kv w.2.2.2.1 51 (Qz w i)):Int) - 1)<(List.length (Kv w.2.2.2.1 51 (Qz w i)):Int) then some ((List.getD (Kv w.2.2.2.1 51 (Qz w i)) (Int.toNat (IntKind.wrap .i64 ((List.length (Kv w.2.2.2.1 51 (Qz w i)):Int) - 1))) (dft Zb),()),[]) else none) _
  rw [e,hl]
  refine Zd.ite ⟨Int.natCast_nonneg _,by omega⟩ (Zd.ret ?_)
  rw [Int.toNat_natCast]
  exact Co _ _ _
end Go.Proofs.YtjobjooccgledaaGreatDoor.Ghost
namespace Go.Proofs.YtjobjooccgledaaGreatDoor.Ghost
open Go
abbrev Sn:=den Kq
def Au (w:den Za) (p:Pl):Nat→List Sn
  | 0=>[]
  | n+1=>Au w p n ++ (if V7 w n=p then [((n:Int),Qz w n,())] else [])
theorem AGd (w:den Za) (p:Pl):(n:Nat)→(Au w p n).length≤n
  | 0=>Nat.le_refl 0
  | n+1=>by
    simp only [Au,List.length_append]
    have:=AGd w p n
    split
    · simp only [List.length_singleton]; omega
    · simp only [List.length_nil]; omega
abbrev AIy (w:den Za) (p:Pl):List Sn:=Au w p (List.length (w.2.2.2.1:List (den Zb)))
theorem Fl (w:den Za) (ok:Ok w) (p:Pl) (t0:den Za) (t1:Pl) (t4:List Sn):(r i:Nat)→i+r=List.length (w.2.2.2.1:List (den Zb)) →
    Zd (fun n m _ _=>Xw.l0 n m t0 t1 t4 w.2.2.2.1 (List.length (w.2.2.2.1:List (den Zb)):Int) (i:Int) w p (Au w p i)) (fun r=>r=((AIy w p,()),[(0,[])]))
  | 0,i,hi=>by
    refine Zd.succ1 (fun n m _ _=>Xw.l0_eq n m t0 t1 t4 w.2.2.2.1 _ i w p _) (Zd.bifF (decide_eq_false (by omega)) (Zd.ret ?_))
    rw [show i=List.length (w.2.2.2.1:List (den Zb)) by omega]
  | r+1,i,hi=>by
    have hlen:=ok.sm.wh
    have hle:=AGd w p i
    have hil:i<List.length (w.2.2.2.1:List (den Zb)):=by omega
    have next:=Fl w ok p t0 t1 t4 r (i+1) (by omega)
    rw [← Xm (by omega)] at next
    refine Zd.succ1 (fun n m _ _=>Xw.l0_eq n m t0 t1 t4 w.2.2.2.1 _ i w p _) (Zd.bifT (decide_eq_true (by omega)) (Zd.ite (by omega) (Zd.call (Pa w ok.right hil) (fun v hv => ?_))))
    rw [hv,Int.toNat_natCast]
    refine Zd.bif (fun h2=>Zd.ite (by omega) ?_) (fun h2 => ?_)
    · have e:Au w p (i+1)=Au w p i ++ [((i:Int),Qz w i,())]:=by
        simp only [Au]; rw [if_pos ((Lv _ _).1 h2)]
      rw [e] at next
      exact next
    · have e:Au w p (i+1)=Au w p i:=by
        simp only [Au]; rw [if_neg (fun he=>by rw [(Lv _ _).2 he] at h2; cases h2),List.append_nil]
      rw [e] at next
      exact next
theorem Mb (w:den Za) (ok:Ok w) (p:Pl):Zd (fun n _ _ _=>Xw n w p) (fun r=>r=((AIy w p,()),[(0,[])])) :=
  Zd.succ (fun n _ _ _=>Xw.eq n w p) (Fl w ok p w p [] _ 0 (Nat.zero_add _)).enter
end Go.Proofs.YtjobjooccgledaaGreatDoor.Ghost
namespace Go.Proofs.YtjobjooccgledaaGreatDoor.Ghost
open Go
end Go.Proofs.YtjobjooccgledaaGreatDoor.Ghost
namespace Go.Proofs.YtjobjooccgledaaGreatDoor.Ghost
open Go
def B8 (w:den Za) (room:Int):Nat→List Int
  | 0=>[]
  | n+1=>B8 w room n ++ (if List.getD (w.2.1:List Int) n (0:Int)=room then [(n:Int)] else [])
theorem AFu (w:den Za) (room:Int):(n:Nat)→(B8 w room n).length≤n
  | 0=>Nat.le_refl 0
  | n+1=>by
    simp only [B8,List.length_append]
    have:=AFu w room n
    split
    · simp only [List.length_singleton]; omega
    · simp only [List.length_nil]; omega
abbrev ANz (w:den Za) (room:Int):List Int:=B8 w room (List.length (w.2.1:List Int))
theorem B9 (w:den Za) (hs:Sm w) (room:Int) (t0:den Za) (t4:List Int):(r i:Nat)→i+r=List.length (w.2.1:List Int) →
    Zd (fun n m _ _=>Xd.l0 n m t0 room t4 (List.length (w.2.1:List Int):Int) (i:Int) w (B8 w room i)) (fun r=>r=((ANz w room,()),[(0,[])]))
  | 0,i,hi=>by
    refine Zd.succ1 (fun n m _ _=>Xd.l0_eq n m t0 room t4 _ i w _) (Zd.bifF (decide_eq_false (by omega)) (Zd.ret ?_))
    rw [show i=List.length (w.2.1:List Int) by omega]
  | r+1,i,hi=>by
    have hlen:=hs.a
    have hle:=AFu w room i
    have next:=B9 w hs room t0 t4 r (i+1) (by omega)
    rw [← Xm (by omega)] at next
    refine Zd.succ1 (fun n m _ _=>Xd.l0_eq n m t0 room t4 _ i w _) (Zd.bifT (decide_eq_true (by omega)) (Zd.ite (by omega) ?_))
    rw [Int.toNat_natCast]
    refine Zd.bif (fun h2=>Zd.ite (by omega) ?_) (fun h2 => ?_)
    · have e:B8 w room (i+1)=B8 w room i ++ [(i:Int)]:=by
        simp only [B8]; rw [if_pos (of_decide_eq_true h2)]
      rw [e] at next
      exact next
    · have e:B8 w room (i+1)=B8 w room i:=by
        simp only [B8]; rw [if_neg (of_decide_eq_false h2),List.append_nil]
      rw [e] at next
      exact next
theorem AC9 (w:den Za) (hs:Sm w) (room:Int):Zd (fun n _ _ _=>Xd n w room) (fun r=>r=((ANz w room,()),[(0,[])])) :=
  Zd.succ (fun n _ _ _=>Xd.eq n w room) (B9 w hs room w [] _ 0 (Nat.zero_add _)).enter
abbrev T6 (w:den Za) (i:Nat):Int:=List.getD (w.2.1:List Int) i (0:Int)
abbrev Vx (w:den Za) (i:Nat):Int:=List.getD (w.2.2.1:List Int) i (0:Int)
abbrev BXf (r:Int):Pl:=((0:Int),r,())
abbrev Yc (i:Nat):Pl:=((1:Int),(i:Int),())
def ASd (w:den Za) (i:Nat):den Xg:=((0:Int),(9:Int),T6 w i,ANz w (T6 w i),AIy w (BXf (T6 w i)),(0:Int),())
def BXl (w:den Za) (i:Nat):den Xg:=((0:Int),(10:Int),(0:Int),([]:List Int),AIy w (Yc i),Vx w i,())
theorem ABc (w:den Za) (ok:Ok w) {i:Nat} (hi:i<List.length (w.2.1:List Int)):Zd (fun n _ _ _=>Vl n w (i:Int)) (fun r=>r=((ASd w i,()),[])):=by
  refine Zd.succ (fun n _ _ _=>Vl.eq n w i) (Zd.ite (by omega) ?_)
  rw [Int.toNat_natCast]
  refine Zd.call (AC9 w ok.sm _) (fun v hv => ?_)
  subst hv
  refine Zd.call (Mb w ok _) (fun u hu => ?_)
  subst hu
  exact Zd.ret rfl
theorem AFq (w:den Za) (ok:Ok w) {i:Nat} (hi:i<List.length (w.2.1:List Int)):Zd (fun n _ _ _=>Ke n w (i:Int)) (fun r=>r=((BXl w i,()),[])):=by
  have h1:=ok.right.a1
  have h2:=ok.right.c1
  refine Zd.succ (fun n _ _ _=>Ke.eq n w i) (Zd.ite (by omega) (Zd.call (Mb w ok _) (fun u hu => ?_)))
  subst hu
  rw [Int.toNat_natCast]
  exact Zd.ret rfl
theorem Yg.exits {w:den Za} (h:Yg w):0<List.length (w.1.1:List (List Int)):=Int.ofNat_lt.1 (Int.lt_of_le_of_lt (h.at_ 0 h.pos).1.1 (h.at_ 0 h.pos).1.2)
end Go.Proofs.YtjobjooccgledaaGreatDoor.Ghost
