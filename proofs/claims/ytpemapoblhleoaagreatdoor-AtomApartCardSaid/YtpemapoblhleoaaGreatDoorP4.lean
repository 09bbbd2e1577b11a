/- What functions come to, and that the statements are answered with 'true'. Conditions: none. -/
import Derived.Test.YtpemapoblhleoaaGreatDoorS
import Derived.Test.YtpemapoblhleoaaGreatDoorGE
import Derived.Test.YtpemapoblhleoaaGreatDoorP1
import Derived.Test.YtpemapoblhleoaaGreatDoorP2
import Derived.Test.YtpemapoblhleoaaGreatDoorP3
set_option linter.unusedVariables false
set_option linter.unusedSimpArgs false
set_option linter.unusedSectionVars false
set_option linter.unnecessarySimpa false
namespace Go.Proofs.YtpemapoblhleoaaGreatDoor.Ghost
open Go
def Kk (l:List Pl):Nat→Pl→List Pl
  | 0,p=>[p]
  | k+1,p=>if p.1=(2:Int) then p :: Kk l k (List.getD l (Int.toNat p.2.1) (dft Zb)) else [p]
def Po (l:List Pl):Nat→Pl→Nat
  | 0,_=>0
  | k+1,p=>if p.1=(2:Int) then Po l k (List.getD l (Int.toNat p.2.1) (dft Zb))+1 else 0
theorem Dj (l:List Pl):(k:Nat)→(p:Pl)→Po l k p≤k
  | 0,_=>Nat.le_refl 0
  | k+1,p=>by
    simp only [Po]
    have:=Dj l k (List.getD l (Int.toNat p.2.1) (dft Zb))
    split <;> omega
theorem I5 (l:List Pl):(k:Nat)→(p:Pl)→(Kk l k p).length=Po l k p+1
  | 0,_=>rfl
  | k+1,p=>by
    simp only [Kk,Po]
    split
    · simp only [List.length_cons,I5 l k]
    · rfl
theorem Dz (l:List Pl):(k:Nat)→(p:Pl)→List.getD (Kk l k p) (Po l k p) (dft Zb)=Tl l k p
  | 0,_=>rfl
  | k+1,p=>by
    simp only [Kk,Po,Tl]
    split
    · rw [List.getD_cons_succ]; exact Dz l k _
    · rfl
theorem Eb {l:List Pl} (hin:∀ i,i<l.length→inPl l (List.getD l i (dft Zb))):(k f:Nat)→(p:Pl)→inPl l p→I3 l k p→k<f→upL l f p=some (Kk l k p)
  | 0,f+1,p,hp,he,_=>by
    have he:¬ p.1=(2:Int):=he
    simp only [upL,Kk]
    rw [decide_eq_false he]; rfl
  | k+1,f+1,p,hp,he,hf=>by
    simp only [upL,Kk]
    by_cases h2:p.1=(2:Int)
    · have hb:=hp h2
      rw [decide_eq_true h2,cond_true,if_pos hb,if_pos h2]
      have hlt:Int.toNat p.2.1<l.length:=(Int.toNat_lt hb.1).2 hb.2
      rw [Eb hin k f _ (hin _ hlt) (he h2) (by omega)]
    · rw [decide_eq_false h2,cond_false,if_neg h2]
theorem Lt (w:den Za) (h:X1 w) {i:Nat} (hi:i<List.length (w.2.2.2.1:List (den Zb))):Zd (fun n _ _ _=>Qc n w (i:Int)) (fun r=>r=((Kk w.2.2.2.1 51 (List.getD w.2.2.2.1 i (dft Zb)),()),[(0,[])])):=by
  refine Zd.succ (G:=fun _ _ _ _=>some ((Kk w.2.2.2.1 51 (List.getD w.2.2.2.1 i (dft Zb)),()),[(0,[])])) (fun n _ _ _ => ?_) (Zd.ret rfl)
  show (if (0:Int)≤(i:Int)∧((i:Int):Int)<(List.length (w.2.2.2.1:List (den Zb)):Int) then (match upL w.2.2.2.1 60 (List.getD (w.2.2.2.1:List (den Zb)) (Int.toNat (i:Int)) (dft Zb)) with
      | some xs=>some ((xs,()),[(0,[])])
      | none=>none) else none)=_
  rw [if_pos ⟨Int.natCast_nonneg i,Int.ofNat_lt.2 hi⟩,Int.toNat_natCast,Eb h.inPl 51 60 _ (h.inPl i hi) (h.ends hi) (by omega)]
theorem AHm (w:den Za) (i:Int):Zd (fun n _ _ _=>H3 n w i) (fun r=>r=(((w,i,()),()),[])):=Zd.succ (fun n _ _ _=>H3.eq n w i) (Zd.ret rfl)
abbrev Ym (w:den Za) (i:Nat):Pl:=List.getD (w.2.2.2.1:List Pl) i (dft Zb)
abbrev Ys (w:den Za) (i:Nat):Pl:=Tl w.2.2.2.1 51 (Ym w i)
abbrev Xw (w:den Za) (i:Nat):Nat:=Po w.2.2.2.1 51 (Ym w i)
theorem Ro (w:den Za) (h:X1 w) {i:Nat} (hi:i<List.length (w.2.2.2.1:List (den Zb))):Zd (fun n _ _ _=>Vq n w (i:Int)) (fun r=>r.1.1=Ys w i):=by
  refine Zd.succ (fun n _ _ _=>Vq.eq n w i) (Zd.call (AHm w i) (fun v hv => ?_))
  subst hv
  refine Zd.call (Lt w h hi) (fun u hu => ?_)
  subst hu
  have hl:(Kk w.2.2.2.1 51 (Ym w i)).length=Xw w i+1:=I5 w.2.2.2.1 51 (Ym w i)
  have hd:Xw w i≤51:=Dj w.2.2.2.1 51 (Ym w i)
  have e:IntKind.wrap .i64 ((List.length (Kk w.2.2.2.1 51 (Ym w i)):Int) - 1)=(Xw w i:Int):=by rw [hl,Hl (by omega) (by omega)]; omega
  show Zd (fun _ _ _ _=>if (0:Int)≤IntKind.wrap .i64 ((List.length (Kk w.2.2.2.1 51 (Ym w i)):Int) - 1)∧IntKind.wrap .i64 ((List.length (Kk w.2.2.2.1 51 (Ym w i)):Int) - 1)<(List.length (Kk w.2.2.2.1 51 (Ym w i)):Int) then some ((List.getD (Kk w.2.2.2.1 51 (Ym w i)) (Int.toNat (IntKind.wrap .i64 ((List.length (Kk w.2.2.2.1 51 (Ym w i)):Int) - 1))) (dft Zb),()),[]) else none) _
  rw [e,hl]
  refine Zd.ite ⟨Int.natCast_nonneg _,by omega⟩ (Zd.ret ?_)
  rw [Int.toNat_natCast]
  exact Dz _ _ _
end Go.Proofs.YtpemapoblhleoaaGreatDoor.Ghost
namespace Go.Proofs.YtpemapoblhleoaaGreatDoor.Ghost
open Go
abbrev Sn:=den X7
def Mg (w:den Za) (p:Pl):Nat→List Sn
  | 0=>[]
  | n+1=>Mg w p n ++ (if Ys w n=p then [((n:Int),Ym w n,())] else [])
theorem I0 (w:den Za) (p:Pl):(n:Nat)→(Mg w p n).length≤n
  | 0=>Nat.le_refl 0
  | n+1=>by
    simp only [Mg,List.length_append]
    have:=I0 w p n
    split
    · simp only [List.length_singleton]; omega
    · simp only [List.length_nil]; omega
abbrev Oh (w:den Za) (p:Pl):List Sn:=Mg w p (List.length (w.2.2.2.1:List (den Zb)))
theorem Iy (w:den Za) (ok:Ok w) (p:Pl) (t0:den Za) (t1:Pl) (t4:List Sn):(r i:Nat)→i+r=List.length (w.2.2.2.1:List (den Zb)) →
    Zd (fun n m _ _=>Xn.l0 n m t0 t1 t4 w.2.2.2.1 (List.length (w.2.2.2.1:List (den Zb)):Int) (i:Int) w p (Mg w p i)) (fun r=>r=((Oh w p,()),[(0,[])]))
  | 0,i,hi=>by
    refine Zd.succ1 (fun n m _ _=>Xn.l0_eq n m t0 t1 t4 w.2.2.2.1 _ i w p _) (Zd.bifF (decide_eq_false (by omega)) (Zd.ret ?_))
    rw [show i=List.length (w.2.2.2.1:List (den Zb)) by omega]
  | r+1,i,hi=>by
    have hlen:=ok.sm.wh
    have hle:=I0 w p i
    have hil:i<List.length (w.2.2.2.1:List (den Zb)):=by omega
    have next:=Iy w ok p t0 t1 t4 r (i+1) (by omega)
    rw [← Xr (by omega)] at next
    refine Zd.succ1 (fun n m _ _=>Xn.l0_eq n m t0 t1 t4 w.2.2.2.1 _ i w p _) (Zd.bifT (decide_eq_true (by omega)) (Zd.ite (by omega) (Zd.call (Ro w ok.right hil) (fun v hv => ?_))))
    rw [hv,Int.toNat_natCast]
    refine Zd.bif (fun h2=>Zd.ite (by omega) ?_) (fun h2 => ?_)
    · have e:Mg w p (i+1)=Mg w p i ++ [((i:Int),Ym w i,())]:=by
        simp only [Mg]; rw [if_pos ((Me _ _).1 h2)]
      rw [e] at next
      exact next
    · have e:Mg w p (i+1)=Mg w p i:=by
        simp only [Mg]; rw [if_neg (fun he=>by rw [(Me _ _).2 he] at h2; cases h2),List.append_nil]
      rw [e] at next
      exact next
theorem Nn (w:den Za) (ok:Ok w) (p:Pl):Zd (fun n _ _ _=>Xn n w p) (fun r=>r=((Oh w p,()),[(0,[])])) :=
  Zd.succ (fun n _ _ _=>Xn.eq n w p) (Iy w ok p w p [] _ 0 (Nat.zero_add _)).enter
end Go.Proofs.YtpemapoblhleoaaGreatDoor.Ghost
namespace Go.Proofs.YtpemapoblhleoaaGreatDoor.Ghost
open Go
theorem BSf (x y:Sn):eqT X7 x y=true↔x=y:=by
  obtain ⟨a,b,u⟩:=x
  obtain ⟨c,d,v⟩:=y
  cases u; cases v
  have h:=Me b d
  simp only [eqT,ABs] at h ⊢
  simp only [Bool.and_eq_true,Bool.and_true,decide_eq_true_eq,Prod.mk.injEq,and_true,beq_iff_eq] at h ⊢
  rw [h]
theorem AEx (a b:List Sn) (hl:a.length=b.length) (hs:a.length≤1048576) (t4:Bool):(r i:Nat)→i+r=a.length→(∀ i',i'<i→a.getD i' (dft X7)=b.getD i' (dft X7)) →
    Zd (fun n m _ _=>Zx.l0 n m a b t4 (i:Int)) (fun r=>r.1.1=true↔a=b)
  | 0,i,hi,hp=>by
    refine Zd.succ1 (fun n m _ _=>Zx.l0_eq n m a b t4 i) (Zd.bif (fun h => ?_) (fun h=>Zd.ret ?_))
    · have:=of_decide_eq_true h; omega
    · exact ⟨fun _=>Rw (dft X7) hl (fun i' hi'=>hp i' (by omega)),fun _=>rfl⟩
  | r+1,i,hi,hp=>by
    refine Zd.succ1 (fun n m _ _=>Zx.l0_eq n m a b t4 i) (Zd.bif (fun h=>Zd.ite (by omega) (Zd.ite (by omega) (Zd.bifN (fun h2 => ?_) (fun h2=>Zd.ret ?_)))) (fun h => ?_))
    · have h2:=(BSf _ _).1 h2
      rw [Xr (by omega)]
      refine AEx a b hl hs t4 r (i+1) (by omega) (fun i' hi' => ?_)
      by_cases he:i'=i
      · subst he; simpa using h2
      · exact hp i' (by omega)
    · refine ⟨(fun e=>by cases e),fun e => ?_⟩
      rw [e,(BSf _ _).2 rfl] at h2
      cases h2
    · have:=of_decide_eq_false h; omega
theorem AGb (a b:List Sn) (hs:a.length≤1048576):Zd (fun n _ _ _=>Zx n a b) (fun r=>r.1.1=true↔a=b):=by
  refine Zd.succ (fun n _ _ _=>Zx.eq n a b) (Zd.bifN (fun h => ?_) (fun h=>Zd.ret ?_))
  · have h:=of_decide_eq_true h
    exact (AEx a b (by omega) hs false _ 0 (Nat.zero_add _) (fun i' hi'=>by omega)).enter
  · have h:=of_decide_eq_false h
    exact ⟨(fun e=>by cases e),fun e=>absurd (by rw [e]) h⟩
end Go.Proofs.YtpemapoblhleoaaGreatDoor.Ghost
namespace Go.Proofs.YtpemapoblhleoaaGreatDoor.Ghost
open Go
def Bi (w:den Za) (room:Int):Nat→List Int
  | 0=>[]
  | n+1=>Bi w room n ++ (if List.getD (w.2.1:List Int) n (0:Int)=room then [(n:Int)] else [])
theorem Bj (w:den Za) (room:Int):(n:Nat)→(Bi w room n).length≤n
  | 0=>Nat.le_refl 0
  | n+1=>by
    simp only [Bi,List.length_append]
    have:=Bj w room n
    split
    · simp only [List.length_singleton]; omega
    · simp only [List.length_nil]; omega
abbrev AL8 (w:den Za) (room:Int):List Int:=Bi w room (List.length (w.2.1:List Int))
theorem Bk (w:den Za) (hs:Sm w) (room:Int) (t0:den Za) (t4:List Int):(r i:Nat)→i+r=List.length (w.2.1:List Int) →
    Zd (fun n m _ _=>Z7.l0 n m t0 room t4 (List.length (w.2.1:List Int):Int) (i:Int) w (Bi w room i)) (fun r=>r=((AL8 w room,()),[(0,[])]))
  | 0,i,hi=>by
    refine Zd.succ1 (fun n m _ _=>Z7.l0_eq n m t0 room t4 _ i w _) (Zd.bifF (decide_eq_false (by omega)) (Zd.ret ?_))
    rw [show i=List.length (w.2.1:List Int) by omega]
  | r+1,i,hi=>by
    have hlen:=hs.a
    have hle:=Bj w room i
    have next:=Bk w hs room t0 t4 r (i+1) (by omega)
    rw [← Xr (by omega)] at next
    refine Zd.succ1 (fun n m _ _=>Z7.l0_eq n m t0 room t4 _ i w _) (Zd.bifT (decide_eq_true (by omega)) (Zd.ite (by omega) ?_))
    rw [Int.toNat_natCast]
    refine Zd.bif (fun h2=>Zd.ite (by omega) ?_) (fun h2 => ?_)
    · have e:Bi w room (i+1)=Bi w room i ++ [(i:Int)]:=by
        simp only [Bi]; rw [if_pos (of_decide_eq_true h2)]
      rw [e] at next
      exact next
    · have e:Bi w room (i+1)=Bi w room i:=by
        simp only [Bi]; rw [if_neg (of_decide_eq_false h2),List.append_nil]
      rw [e] at next
      exact next
theorem ACa (w:den Za) (hs:Sm w) (room:Int):Zd (fun n _ _ _=>Z7 n w room) (fun r=>r=((AL8 w room,()),[(0,[])])) :=
  Zd.succ (fun n _ _ _=>Z7.eq n w room) (Bk w hs room w [] _ 0 (Nat.zero_add _)).enter
abbrev Ky (w:den Za) (i:Nat):Int:=List.getD (w.2.1:List Int) i (0:Int)
abbrev Vs (w:den Za) (i:Nat):Int:=List.getD (w.2.2.1:List Int) i (0:Int)
abbrev AH4 (r:Int):Pl:=((0:Int),r,())
abbrev X2 (i:Nat):Pl:=((1:Int),(i:Int),())
def AG5 (w:den Za) (i:Nat):den Zn:=((0:Int),(9:Int),Ky w i,AL8 w (Ky w i),Oh w (AH4 (Ky w i)),(0:Int),())
def AQg (w:den Za) (i:Nat):den Zn:=((0:Int),(10:Int),(0:Int),([]:List Int),Oh w (X2 i),Vs w i,())
theorem AAj (w:den Za) (ok:Ok w) {i:Nat} (hi:i<List.length (w.2.1:List Int)):Zd (fun n _ _ _=>Vf n w (i:Int)) (fun r=>r=((AG5 w i,()),[])):=by
  refine Zd.succ (fun n _ _ _=>Vf.eq n w i) (Zd.ite (by omega) ?_)
  rw [Int.toNat_natCast]
  refine Zd.call (ACa w ok.sm _) (fun v hv => ?_)
  subst hv
  refine Zd.call (Nn w ok _) (fun u hu => ?_)
  subst hu
  exact Zd.ret rfl
theorem AEk (w:den Za) (ok:Ok w) {i:Nat} (hi:i<List.length (w.2.1:List Int)):Zd (fun n _ _ _=>V6 n w (i:Int)) (fun r=>r=((AQg w i,()),[])):=by
  have h1:=ok.right.a1
  have h2:=ok.right.c1
  refine Zd.succ (fun n _ _ _=>V6.eq n w i) (Zd.ite (by omega) (Zd.call (Nn w ok _) (fun u hu => ?_)))
  subst hu
  rw [Int.toNat_natCast]
  exact Zd.ret rfl
theorem P3 (a b:den Zn) (h1:List.length (a.2.2.2.1:List Int)≤1048576) (h2:List.length (a.2.2.2.2.1:List Sn)≤1048576):Zd (fun n _ _ _=>Xy n a b) (fun r=>r.1.1=true↔a=b):=by
  have no:∀ {c:Xy.R},c=((false,()),[])→¬ a=b→(c.1.1=true↔a=b):=fun hc hn=>by subst hc; exact ⟨fun e=>(by cases e),fun e=>absurd e hn⟩
  refine Zd.succ (fun n _ _ _=>Xy.eq n a b) (Zd.bif (fun e1=>Zd.bif (fun e2=>Zd.bif (fun e3=>Zd.bif (fun e4=>Zd.call (Wo _ _ h1) (fun v hv=>Zd.bif (fun e5=>Zd.call (AGb _ _ h2) (fun u hu=>Zd.ret ?_)) (fun e5=>Zd.ret (no rfl (fun e => ?_))))) (fun e4=>Zd.ret (no rfl (fun e=>of_decide_eq_false e4 (by rw [e])))))
    (fun e3=>Zd.ret (no rfl (fun e=>of_decide_eq_false e3 (by rw [e]))))) (fun e2=>Zd.ret (no rfl (fun e=>of_decide_eq_false e2 (by rw [e]))))) (fun e1=>Zd.ret (no rfl (fun e=>of_decide_eq_false e1 (by rw [e])))))
  · refine hu.trans ⟨fun e6 => ?_,fun e=>by rw [e]⟩
    exact Prod.ext (of_decide_eq_true e1) (Prod.ext (of_decide_eq_true e2) (Prod.ext (of_decide_eq_true e3) (Prod.ext (hv.1 e5) (Prod.ext e6 (Prod.ext (of_decide_eq_true e4) rfl)))))
  · rw [hv.2 (by rw [e])] at e5; cases e5
theorem ALv {w:den Za} (hs:Sm w) (i:Nat):List.length ((AG5 w i).2.2.2.1:List Int)≤1048576∧List.length ((AG5 w i).2.2.2.2.1:List Sn)≤1048576:=by
  have h1:=hs.a
  have h2:=hs.wh
  have h3:=Bj w (Ky w i) (List.length (w.2.1:List Int))
  have h4:=I0 w (AH4 (Ky w i)) (List.length (w.2.2.2.1:List (den Zb)))
  exact ⟨Nat.le_trans h3 h1,Nat.le_trans h4 h2⟩
theorem AQh {w:den Za} (hs:Sm w) (i:Nat):List.length ((AQg w i).2.2.2.1:List Int)≤1048576∧List.length ((AQg w i).2.2.2.2.1:List Sn)≤1048576:=by
  have h2:=hs.wh
  have h4:=I0 w (X2 i) (List.length (w.2.2.2.1:List (den Zb)))
  exact ⟨Nat.zero_le _,Nat.le_trans h4 h2⟩
theorem X1.exits {w:den Za} (h:X1 w):0<List.length (w.1.1:List (List Int)):=Int.ofNat_lt.1 (Int.lt_of_le_of_lt (h.at_ 0 h.pos).1.1 (h.at_ 0 h.pos).1.2)
end Go.Proofs.YtpemapoblhleoaaGreatDoor.Ghost
