/- What functions come to, and that the statements are answered with 'true'. Conditions: none. -/
import Derived.Test.YtmemggdjnfccfaaGreatDoorS
import Derived.Test.YtmemggdjnfccfaaGreatDoorGE
import Derived.Test.YtmemggdjnfccfaaGreatDoorP1
import Derived.Test.YtmemggdjnfccfaaGreatDoorP2
import Derived.Test.YtmemggdjnfccfaaGreatDoorP3
import Derived.Test.YtmemggdjnfccfaaGreatDoorP4
import Derived.Test.YtmemggdjnfccfaaGreatDoorP5
set_option linter.unusedVariables false
set_option linter.unusedSimpArgs false
set_option linter.unusedSectionVars false
set_option linter.unnecessarySimpa false
namespace Go.Proofs.YtmemggdjnfccfaaGreatDoor.Ghost
open Go
def K7 (l:List Pl):Nat→Pl→List Pl
  | 0,p=>[p]
  | k+1,p=>if p.1=(2:Int) then p :: K7 l k (List.getD l (Int.toNat p.2.1) (dft Za)) else [p]
def Od (l:List Pl):Nat→Pl→Nat
  | 0,_=>0
  | k+1,p=>if p.1=(2:Int) then Od l k (List.getD l (Int.toNat p.2.1) (dft Za))+1 else 0
theorem Cr (l:List Pl):(k:Nat)→(p:Pl)→Od l k p≤k
  | 0,_=>Nat.le_refl 0
  | k+1,p=>by
    simp only [Od]
    have:=Cr l k (List.getD l (Int.toNat p.2.1) (dft Za))
    split <;> omega
theorem F5 (l:List Pl):(k:Nat)→(p:Pl)→(K7 l k p).length=Od l k p+1
  | 0,_=>rfl
  | k+1,p=>by
    simp only [K7,Od]
    split
    · simp only [List.length_cons,F5 l k]
    · rfl
theorem C5 (l:List Pl):(k:Nat)→(p:Pl)→List.getD (K7 l k p) (Od l k p) (dft Za)=Ws l k p
  | 0,_=>rfl
  | k+1,p=>by
    simp only [K7,Od,Ws]
    split
    · rw [List.getD_cons_succ]; exact C5 l k _
    · rfl
theorem Dd {l:List Pl} (hin:∀ i,i<l.length→inPl l (List.getD l i (dft Za))):(k f:Nat)→(p:Pl)→inPl l p→Id l k p→k<f→upL l f p=some (K7 l k p)
  | 0,f+1,p,hp,he,_=>by
    have he:¬ p.1=(2:Int):=he
    simp only [upL,K7]
    rw [decide_eq_false he]; rfl
  | k+1,f+1,p,hp,he,hf=>by
    simp only [upL,K7]
    by_cases h2:p.1=(2:Int)
    · have hb:=hp h2
      rw [decide_eq_true h2,cond_true,if_pos hb,if_pos h2]
      have hlt:Int.toNat p.2.1<l.length:=(Int.toNat_lt hb.1).2 hb.2
      rw [Dd hin k f _ (hin _ hlt) (he h2) (by omega)]
    · rw [decide_eq_false h2,cond_false,if_neg h2]
theorem Iq (w:den Zb) (h:X9 w) {i:Nat} (hi:i<List.length (w.2.2.2.1:List (den Za))):Ze (fun n _ _ _=>Qp n w (i:Int)) (fun r=>r=((K7 w.2.2.2.1 51 (List.getD w.2.2.2.1 i (dft Za)),()),[(0,[])])):=by
  refine Ze.succ (G:=fun _ _ _ _=>some ((K7 w.2.2.2.1 51 (List.getD w.2.2.2.1 i (dft Za)),()),[(0,[])])) (fun n _ _ _ => ?_) (Ze.ret rfl)
  show (if (0:Int)≤(i:Int)∧((i:Int):Int)<(List.length (w.2.2.2.1:List (den Za)):Int) then (match upL w.2.2.2.1 60 (List.getD (w.2.2.2.1:List (den Za)) (Int.toNat (i:Int)) (dft Za)) with
      | some xs=>some ((xs,()),[(0,[])])
      | none=>none) else none)=_
  rw [if_pos ⟨Int.natCast_nonneg i,Int.ofNat_lt.2 hi⟩,Int.toNat_natCast,Dd h.inPl 51 60 _ (h.inPl i hi) (h.ends hi) (by omega)]
theorem AJc (w:den Zb) (i:Int):Ze (fun n _ _ _=>Gq n w i) (fun r=>r=(((w,i,()),()),[])):=Ze.succ (fun n _ _ _=>Gq.eq n w i) (Ze.ret rfl)
abbrev Yb (w:den Zb) (i:Nat):Pl:=List.getD (w.2.2.2.1:List Pl) i (dft Za)
abbrev Xz (w:den Zb) (i:Nat):Pl:=Ws w.2.2.2.1 51 (Yb w i)
abbrev X4 (w:den Zb) (i:Nat):Nat:=Od w.2.2.2.1 51 (Yb w i)
theorem G2 (w:den Zb) (h:X9 w) {i:Nat} (hi:i<List.length (w.2.2.2.1:List (den Za))):Ze (fun n _ _ _=>Vg n w (i:Int)) (fun r=>r.1.1=Xz w i):=by
  refine Ze.succ (fun n _ _ _=>Vg.eq n w i) (Ze.call (AJc w i) (fun v hv => ?_))
  subst hv
  refine Ze.call (Iq w h hi) (fun u hu => ?_)
  subst hu
  have hl:(K7 w.2.2.2.1 51 (Yb w i)).length=X4 w i+1:=F5 w.2.2.2.1 51 (Yb w i)
  have hd:X4 w i≤51:=Cr w.2.2.2.1 51 (Yb w i)
  have e:IntKind.wrap .i64 ((List.length (K7 w.2.2.2.1 51 (Yb w i)):Int) - 1)=(X4 w i:Int):=by rw [hl,K6 (by omega) (by omega)]; omega
  show Ze (fun _ _ _ _=>if (0:Int)≤IntKind.wrap .i64 ((List.length (K7 w.2.2.2.1 51 (Yb w i)):Int) - 1)∧IntKind.wrap .i64 ((List.length (K7 w.2.2.2.1 51 (Yb w i)):Int) - 1)<(List.length (K7 w.2.2.2.1 51 (Yb w i)):Int) then some ((List.getD (K7 w.2.2.2.1 51 (Yb w i)) (Int.toNat (IntKind.wrap .i64 ((List.length (K7 w.2.2.2.1 51 (Yb w i)):Int) - 1))) (dft Za),()),[]) else none) _
  rw [e,hl]
  refine Ze.ite ⟨Int.natCast_nonneg _,by omega⟩ (Ze.ret ?_)
  rw [Int.toNat_natCast]
  exact C5 _ _ _
end Go.Proofs.YtmemggdjnfccfaaGreatDoor.Ghost
namespace Go.Proofs.YtmemggdjnfccfaaGreatDoor.Ghost
open Go
abbrev Sn:=den V8
def M9 (w:den Zb) (p:Pl):Nat→List Sn
  | 0=>[]
  | n+1=>M9 w p n ++ (if Xz w n=p then [((n:Int),Yb w n,())] else [])
theorem AGp (w:den Zb) (p:Pl):(n:Nat)→(M9 w p n).length≤n
  | 0=>Nat.le_refl 0
  | n+1=>by
    simp only [M9,List.length_append]
    have:=AGp w p n
    split
    · simp only [List.length_singleton]; omega
    · simp only [List.length_nil]; omega
abbrev Na (w:den Zb) (p:Pl):List Sn:=M9 w p (List.length (w.2.2.2.1:List (den Za)))
theorem Fw (w:den Zb) (ok:Ok w) (p:Pl) (t0:den Zb) (t1:Pl) (t4:List Sn):(r i:Nat)→i+r=List.length (w.2.2.2.1:List (den Za)) →
    Ze (fun n m _ _=>X0.l0 n m t0 t1 t4 w.2.2.2.1 (List.length (w.2.2.2.1:List (den Za)):Int) (i:Int) w p (M9 w p i)) (fun r=>r=((Na w p,()),[(0,[])]))
  | 0,i,hi=>by
    refine Ze.succ1 (fun n m _ _=>X0.l0_eq n m t0 t1 t4 w.2.2.2.1 _ i w p _) (Ze.bifF (decide_eq_false (by omega)) (Ze.ret ?_))
    rw [show i=List.length (w.2.2.2.1:List (den Za)) by omega]
  | r+1,i,hi=>by
    have hlen:=ok.sm.wh
    have hle:=AGp w p i
    have hil:i<List.length (w.2.2.2.1:List (den Za)):=by omega
    have next:=Fw w ok p t0 t1 t4 r (i+1) (by omega)
    rw [← Xv (by omega)] at next
    refine Ze.succ1 (fun n m _ _=>X0.l0_eq n m t0 t1 t4 w.2.2.2.1 _ i w p _) (Ze.bifT (decide_eq_true (by omega)) (Ze.ite (by omega) (Ze.call (G2 w ok.right hil) (fun v hv => ?_))))
    rw [hv,Int.toNat_natCast]
    refine Ze.bif (fun h2=>Ze.ite (by omega) ?_) (fun h2 => ?_)
    · have e:M9 w p (i+1)=M9 w p i ++ [((i:Int),Yb w i,())]:=by
        simp only [M9]; rw [if_pos ((Iv _ _).1 h2)]
      rw [e] at next
      exact next
    · have e:M9 w p (i+1)=M9 w p i:=by
        simp only [M9]; rw [if_neg (fun he=>by rw [(Iv _ _).2 he] at h2; cases h2),List.append_nil]
      rw [e] at next
      exact next
theorem Mf (w:den Zb) (ok:Ok w) (p:Pl):Ze (fun n _ _ _=>X0 n w p) (fun r=>r=((Na w p,()),[(0,[])])) :=
  Ze.succ (fun n _ _ _=>X0.eq n w p) (Fw w ok p w p [] _ 0 (Nat.zero_add _)).enter
end Go.Proofs.YtmemggdjnfccfaaGreatDoor.Ghost
namespace Go.Proofs.YtmemggdjnfccfaaGreatDoor.Ghost
open Go
end Go.Proofs.YtmemggdjnfccfaaGreatDoor.Ghost
namespace Go.Proofs.YtmemggdjnfccfaaGreatDoor.Ghost
open Go
def Ar (w:den Zb) (room:Int):Nat→List Int
  | 0=>[]
  | n+1=>Ar w room n ++ (if List.getD (w.2.1:List Int) n (0:Int)=room then [(n:Int)] else [])
theorem AF8 (w:den Zb) (room:Int):(n:Nat)→(Ar w room n).length≤n
  | 0=>Nat.le_refl 0
  | n+1=>by
    simp only [Ar,List.length_append]
    have:=AF8 w room n
    split
    · simp only [List.length_singleton]; omega
    · simp only [List.length_nil]; omega
abbrev AN8 (w:den Zb) (room:Int):List Int:=Ar w room (List.length (w.2.1:List Int))
theorem As (w:den Zb) (hs:Sm w) (room:Int) (t0:den Zb) (t4:List Int):(r i:Nat)→i+r=List.length (w.2.1:List Int) →
    Ze (fun n m _ _=>Xg.l0 n m t0 room t4 (List.length (w.2.1:List Int):Int) (i:Int) w (Ar w room i)) (fun r=>r=((AN8 w room,()),[(0,[])]))
  | 0,i,hi=>by
    refine Ze.succ1 (fun n m _ _=>Xg.l0_eq n m t0 room t4 _ i w _) (Ze.bifF (decide_eq_false (by omega)) (Ze.ret ?_))
    rw [show i=List.length (w.2.1:List Int) by omega]
  | r+1,i,hi=>by
    have hlen:=hs.a
    have hle:=AF8 w room i
    have next:=As w hs room t0 t4 r (i+1) (by omega)
    rw [← Xv (by omega)] at next
    refine Ze.succ1 (fun n m _ _=>Xg.l0_eq n m t0 room t4 _ i w _) (Ze.bifT (decide_eq_true (by omega)) (Ze.ite (by omega) ?_))
    rw [Int.toNat_natCast]
    refine Ze.bif (fun h2=>Ze.ite (by omega) ?_) (fun h2 => ?_)
    · have e:Ar w room (i+1)=Ar w room i ++ [(i:Int)]:=by
        simp only [Ar]; rw [if_pos (of_decide_eq_true h2)]
      rw [e] at next
      exact next
    · have e:Ar w room (i+1)=Ar w room i:=by
        simp only [Ar]; rw [if_neg (of_decide_eq_false h2),List.append_nil]
      rw [e] at next
      exact next
theorem ADt (w:den Zb) (hs:Sm w) (room:Int):Ze (fun n _ _ _=>Xg n w room) (fun r=>r=((AN8 w room,()),[(0,[])])) :=
  Ze.succ (fun n _ _ _=>Xg.eq n w room) (As w hs room w [] _ 0 (Nat.zero_add _)).enter
abbrev Qi (w:den Zb) (i:Nat):Int:=List.getD (w.2.1:List Int) i (0:Int)
abbrev Yv (w:den Zb) (i:Nat):Int:=List.getD (w.2.2.1:List Int) i (0:Int)
abbrev AM5 (r:Int):Pl:=((0:Int),r,())
abbrev X8 (i:Nat):Pl:=((1:Int),(i:Int),())
def ATu (w:den Zb) (i:Nat):den Xm:=((0:Int),(9:Int),Qi w i,AN8 w (Qi w i),Na w (AM5 (Qi w i)),(0:Int),())
def BYd (w:den Zb) (i:Nat):den Xm:=((0:Int),(10:Int),(0:Int),([]:List Int),Na w (X8 i),Yv w i,())
theorem ABx (w:den Zb) (ok:Ok w) {i:Nat} (hi:i<List.length (w.2.1:List Int)):Ze (fun n _ _ _=>V0 n w (i:Int)) (fun r=>r=((ATu w i,()),[])):=by
  refine Ze.succ (fun n _ _ _=>V0.eq n w i) (Ze.ite (by omega) ?_)
  rw [Int.toNat_natCast]
  refine Ze.call (ADt w ok.sm _) (fun v hv => ?_)
  subst hv
  refine Ze.call (Mf w ok _) (fun u hu => ?_)
  subst hu
  exact Ze.ret rfl
theorem AF6 (w:den Zb) (ok:Ok w) {i:Nat} (hi:i<List.length (w.2.1:List Int)):Ze (fun n _ _ _=>Ks n w (i:Int)) (fun r=>r=((BYd w i,()),[])):=by
  have h1:=ok.right.a1
  have h2:=ok.right.c1
  refine Ze.succ (fun n _ _ _=>Ks.eq n w i) (Ze.ite (by omega) (Ze.call (Mf w ok _) (fun u hu => ?_)))
  subst hu
  rw [Int.toNat_natCast]
  exact Ze.ret rfl
theorem X9.exits {w:den Zb} (h:X9 w):0<List.length (w.1.1:List (List Int)):=Int.ofNat_lt.1 (Int.lt_of_le_of_lt (h.at_ 0 h.pos).1.1 (h.at_ 0 h.pos).1.2)
end Go.Proofs.YtmemggdjnfccfaaGreatDoor.Ghost
