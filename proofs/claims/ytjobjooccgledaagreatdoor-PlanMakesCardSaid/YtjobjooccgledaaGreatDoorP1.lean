/- What functions come to, and that the statements are answered with 'true'. Conditions: none. -/
import Derived.Test.YtjobjooccgledaaGreatDoorS
import Derived.Test.YtjobjooccgledaaGreatDoorGE
import Derived.Test.YtjobjooccgledaaGreatDoorA4
import Derived.KernelRfl
set_option linter.unusedVariables false
set_option linter.unusedSimpArgs false
set_option linter.unusedSectionVars false
set_option linter.unnecessarySimpa false
namespace Go.Proofs.YtjobjooccgledaaGreatDoor.Ghost
open Go
section
theorem U3 (a b:Int):Zd (fun n _ _ _=>Z9 n a b) (fun r=>r.1.1=true↔0≤a∧a<b):=by
  refine Zd.succ (fun n _ _ _=>Z9.eq n a b) (Zd.bif (fun h=>Zd.ret ?_) (fun h=>Zd.ret ?_))
  · have:=of_decide_eq_true h
    simp [this]
  · have:=of_decide_eq_false h
    simp [this]
theorem AIg (a:Int):Zd (fun n _ _ _=>Yd n a) (fun r=>r.1.1=true↔0≤a∧a≤1073741824):=by
  refine Zd.succ (fun n _ _ _=>Yd.eq n a) (Zd.bif (fun h=>Zd.ret ?_) (fun h=>Zd.ret ?_))
  · have:=of_decide_eq_true h
    simp [this]
  · have:=of_decide_eq_false h
    simp [this]
def Q9 (d:den Z0) (i k:Nat):Int:=List.getD (List.getD (d.1:List (List Int)) i (dft (.arr 4 (.int .i64))):List Int) k (0:Int)
def Wf (l:List Int) (x:Int):Nat→Nat
  | 0=>0
  | n+1=>Wf l x n+(if List.getD l n (0:Int)=x then 1 else 0)
theorem AFh (l:List Int) (x:Int):(n:Nat)→Wf l x n≤n
  | 0=>Nat.le_refl 0
  | n+1=>by
    have:=AFh l x n
    simp only [Wf]
    split <;> omega
structure AKz (d:den Z0):Prop where
  r1:1≤List.length (d.1:List (List Int))∧List.length (d.1:List (List Int))≤8
  p1:1≤List.length (d.2.1:List Int)∧List.length (d.2.1:List Int)≤6
  c1:List.length (d.2.2.1:List Int)=List.length (d.2.1:List Int)
  i1:List.length (d.2.2.2.1:List Int)≤16
  b1:List.length (d.2.2.2.2.1:List Bool)=List.length (d.2.2.2.1:List Int)
  room:0≤(d.2.2.2.2.2.1:Int)∧(d.2.2.2.2.2.1:Int)<65
  player:0≤(d.2.2.2.2.2.2.1:Int)∧(d.2.2.2.2.2.2.1:Int)<65
  box:0≤(d.2.2.2.2.2.2.2.1:Int)∧(d.2.2.2.2.2.2.2.1:Int)<65
  exits:∀ i,i<List.length (d.1:List (List Int))→∀ k,k<4→Q9 d i k = -1∨(0≤Q9 d i k∧Q9 d i k<(List.length (d.1:List (List Int)):Int))
  many:∀ i:Nat,i<List.length (d.1:List (List Int))→(Wf d.2.2.2.1 (i:Int) (List.length (d.2.2.2.1:List Int)):Int)≤(d.2.2.2.2.2.1:Int)
  players:∀ i,i<List.length (d.2.1:List Int)→(0≤List.getD (d.2.1:List Int) i (0:Int)∧List.getD (d.2.1:List Int) i (0:Int)<(List.length (d.1:List (List Int)):Int))∧(0≤List.getD (d.2.2.1:List Int) i (0:Int)∧List.getD (d.2.2.1:List Int) i (0:Int)≤1073741824)
  items:∀ i,i<List.length (d.2.2.2.1:List Int)→0≤List.getD (d.2.2.2.1:List Int) i (0:Int)∧List.getD (d.2.2.2.1:List Int) i (0:Int)<(List.length (d.1:List (List Int)):Int)
abbrev AAc (d:den Z0) (r:Zc.R):Prop:=r.1.1=true↔AKz d
theorem K9 {d:den Z0} (h:¬ AKz d):AAc d ((false,()),[]):=⟨(fun e=>by cases e),fun e=>absurd e h⟩
section
variable (d:den Z0)
structure AKy (d:den Z0):Prop where
  r1:1≤List.length (d.1:List (List Int))∧List.length (d.1:List (List Int))≤8
  p1:1≤List.length (d.2.1:List Int)∧List.length (d.2.1:List Int)≤6
  c1:List.length (d.2.2.1:List Int)=List.length (d.2.1:List Int)
  i1:List.length (d.2.2.2.1:List Int)≤16
  b1:List.length (d.2.2.2.2.1:List Bool)=List.length (d.2.2.2.1:List Int)
  room:0≤(d.2.2.2.2.2.1:Int)∧(d.2.2.2.2.2.1:Int)<65
  player:0≤(d.2.2.2.2.2.2.1:Int)∧(d.2.2.2.2.2.2.1:Int)<65
  box:0≤(d.2.2.2.2.2.2.2.1:Int)∧(d.2.2.2.2.2.2.2.1:Int)<65
theorem ANs (h1:AKy d) (h2:∀ i,i<List.length (d.1:List (List Int))→(∀ k,k<4→Q9 d i k = -1∨(0≤Q9 d i k∧Q9 d i k<(List.length (d.1:List (List Int)):Int)))∧(Wf d.2.2.2.1 (i:Int) (List.length (d.2.2.2.1:List Int)):Int)≤(d.2.2.2.2.2.1:Int))
    (h3:∀ i,i<List.length (d.2.1:List Int)→(0≤List.getD (d.2.1:List Int) i (0:Int)∧List.getD (d.2.1:List Int) i (0:Int)<(List.length (d.1:List (List Int)):Int))∧(0≤List.getD (d.2.2.1:List Int) i (0:Int)∧List.getD (d.2.2.1:List Int) i (0:Int)≤1073741824))
    (t0:den Z0) (t2:Bool) (t4 t8:Int):(r i:Nat)→i+r=List.length (d.2.2.2.1:List Int)→(∀ i',i'<i→0≤List.getD (d.2.2.2.1:List Int) i' (0:Int)∧List.getD (d.2.2.2.1:List Int) i' (0:Int)<(List.length (d.1:List (List Int)):Int)) →
    Zd (fun n m _ _=>Zc.l4 n m t0 t2 (List.length (d.1:List (List Int)):Int) t4 t8 (i:Int) d) (AAc d)
  | 0,i,hi,hp=>by
    refine Zd.succ1 (fun n m _ _=>Zc.l4_eq n m t0 t2 _ t4 t8 i d) (Zd.bif (fun h => ?_) (fun h=>Zd.ret ?_))
    · have:=of_decide_eq_true h; omega
    · exact ⟨fun _=>⟨h1.r1,h1.p1,h1.c1,h1.i1,h1.b1,h1.room,h1.player,h1.box,fun i hi=>(h2 i hi).1,fun i hi=>(h2 i hi).2,h3,fun i' hi'=>hp i' (by omega)⟩,fun _=>rfl⟩
  | r+1,i,hi,hp=>by
    have hlt:=h1.i1
    refine Zd.succ1 (fun n m _ _=>Zc.l4_eq n m t0 t2 _ t4 t8 i d) (Zd.bif (fun h => ?_) (fun h => ?_))
    · refine Zd.ite (by omega) (Zd.call (U3 _ _) (fun v hv=>Zd.bifN (fun hb => ?_) (fun hb=>Zd.ret (K9 fun hm => ?_))))
      · have hg:=hv.1 hb
        rw [Xm (by omega)]
        refine ANs h1 h2 h3 t0 t2 t4 t8 r (i+1) (by omega) (fun i' hi' => ?_)
        by_cases he:i'=i
        · subst he; simpa using hg
        · exact hp i' (by omega)
      · have:=hv.2 (by simpa using hm.items i (by omega))
        rw [hb] at this; cases this
    · have:=of_decide_eq_false h; omega
theorem ANr (h1:AKy d) (h2:∀ i,i<List.length (d.1:List (List Int))→(∀ k,k<4→Q9 d i k = -1∨(0≤Q9 d i k∧Q9 d i k<(List.length (d.1:List (List Int)):Int)))∧(Wf d.2.2.2.1 (i:Int) (List.length (d.2.2.2.1:List Int)):Int)≤(d.2.2.2.2.2.1:Int))
    (t0:den Z0) (t2:Bool) (t4:Int):(r i:Nat)→i+r=List.length (d.2.1:List Int)→(∀ i',i'<i→(0≤List.getD (d.2.1:List Int) i' (0:Int)∧List.getD (d.2.1:List Int) i' (0:Int)<(List.length (d.1:List (List Int)):Int))∧(0≤List.getD (d.2.2.1:List Int) i' (0:Int)∧List.getD (d.2.2.1:List Int) i' (0:Int)≤1073741824)) →
    Zd (fun n m _ _=>Zc.l3 n m t0 t2 (List.length (d.1:List (List Int)):Int) t4 (i:Int) d) (AAc d)
  | 0,i,hi,hp=>by
    refine Zd.succ1 (fun n m _ _=>Zc.l3_eq n m t0 t2 _ t4 i d) (Zd.bif (fun h => ?_) (fun h => ?_))
    · have:=of_decide_eq_true h; omega
    · exact (ANs d h1 h2 (fun i' hi'=>hp i' (by omega)) t0 t2 t4 i _ 0 (Nat.zero_add _) (fun i' hi'=>by omega)).enter
  | r+1,i,hi,hp=>by
    have hlt:=h1.p1
    refine Zd.succ1 (fun n m _ _=>Zc.l3_eq n m t0 t2 _ t4 i d) (Zd.bif (fun h => ?_) (fun h => ?_))
    · refine Zd.ite (by omega) (Zd.call (U3 _ _) (fun v hv=>Zd.bifN (fun hb => ?_) (fun hb=>Zd.ret (K9 fun hm => ?_))))
      · have hg:=hv.1 hb
        refine Zd.ite (by rw [h1.c1]; omega) (Zd.call (AIg _) (fun u hu=>Zd.bifN (fun hb2 => ?_) (fun hb2=>Zd.ret (K9 fun hm => ?_))))
        · have hg2:=hu.1 hb2
          rw [Xm (by omega)]
          refine ANr h1 h2 t0 t2 t4 r (i+1) (by omega) (fun i' hi' => ?_)
          by_cases he:i'=i
          · subst he; exact ⟨by simpa using hg,by simpa using hg2⟩
          · exact hp i' (by omega)
        · have:=hu.2 (by simpa using (hm.players i (by omega)).2)
          rw [hb2] at this; cases this
      · have:=hv.2 (by simpa using (hm.players i (by omega)).1)
        rw [hb] at this; cases this
    · have:=of_decide_eq_false h; omega
theorem AG9 (h1:AKy d) (t0:den Z0) (t2:Bool) (i:Nat) (hi:i<List.length (d.1:List (List Int))) (t5:Int)
    (next:(Wf d.2.2.2.1 (i:Int) (List.length (d.2.2.2.1:List Int)):Int)≤(d.2.2.2.2.2.1:Int)→Zd (fun n m _ _=>Zc.l0 n m t0 t2 (List.length (d.1:List (List Int)):Int) ((i+1:Nat):Int) d) (AAc d)) :
    (r k:Nat)→k+r=List.length (d.2.2.2.1:List Int)→Zd (fun n m q _=>Zc.l2 n m q t0 t2 (List.length (d.1:List (List Int)):Int) (i:Int) t5 (Wf d.2.2.2.1 (i:Int) k:Int) (k:Int) d) (AAc d)
  | 0,k,hk=>by
    have hlt:=h1.r1
    refine Zd.succ2 (fun n m q _=>Zc.l2_eq n m q t0 t2 _ i t5 _ k d) (Zd.bif (fun h => ?_) (fun h=>Zd.bif (fun h2=>Zd.ret (K9 fun hm => ?_)) (fun h2 => ?_)))
    · have:=of_decide_eq_true h; omega
    · have h2:=of_decide_eq_true h2
      have:=hm.many i hi
      have hk':k=List.length (d.2.2.2.1:List Int):=by omega
      rw [hk'] at h2
      exact absurd this (Int.not_le.2 h2)
    · have h2:=of_decide_eq_false h2
      rw [Xm (by omega)]
      refine next ?_
      rw [show k=List.length (d.2.2.2.1:List Int) by omega] at h2
      exact Int.not_lt.1 h2
  | r+1,k,hk=>by
    have hlt:=h1.i1
    have hle:=AFh d.2.2.2.1 (i:Int) k
    refine Zd.succ2 (fun n m q _=>Zc.l2_eq n m q t0 t2 _ i t5 _ k d) (Zd.bif (fun h=>Zd.ite (by omega) (Zd.bif (fun h2 => ?_) (fun h2 => ?_))) (fun h => ?_))
    · have h2:=of_decide_eq_true h2
      rw [Xm (i:=Wf d.2.2.2.1 (i:Int) k) (by omega),Xm (by omega)]
      have e:Wf d.2.2.2.1 (i:Int) (k+1)=Wf d.2.2.2.1 (i:Int) k+1:=by
        simp only [Wf]; rw [if_pos (by simpa using h2)]
      rw [← e]
      exact AG9 h1 t0 t2 i hi t5 next r (k+1) (by omega)
    · have h2:=of_decide_eq_false h2
      rw [Xm (by omega)]
      have e:Wf d.2.2.2.1 (i:Int) (k+1)=Wf d.2.2.2.1 (i:Int) k:=by
        simp only [Wf]; rw [if_neg (by simpa using h2)]; rfl
      rw [← e]
      exact AG9 h1 t0 t2 i hi t5 next r (k+1) (by omega)
    · have:=of_decide_eq_false h; omega
theorem ANq (h1:AKy d) (t0:den Z0) (t2:Bool) (i:Nat) (hi:i<List.length (d.1:List (List Int)))
    (next:(∀ k,k<4→Q9 d i k = -1∨(0≤Q9 d i k∧Q9 d i k<(List.length (d.1:List (List Int)):Int)))→(Wf d.2.2.2.1 (i:Int) (List.length (d.2.2.2.1:List Int)):Int)≤(d.2.2.2.2.2.1:Int)→Zd (fun n m _ _=>Zc.l0 n m t0 t2 (List.length (d.1:List (List Int)):Int) ((i+1:Nat):Int) d) (AAc d)) :
    (r k:Nat)→k+r=4→(∀ k',k'<k→Q9 d i k' = -1∨(0≤Q9 d i k'∧Q9 d i k'<(List.length (d.1:List (List Int)):Int)))→Zd (fun n m q _=>Zc.l1 n m q t0 t2 (List.length (d.1:List (List Int)):Int) (i:Int) (k:Int) d) (AAc d)
  | 0,k,hk,hp=>by
    refine Zd.succ2 (fun n m q _=>Zc.l1_eq n m q t0 t2 _ i k d) (Zd.bif (fun h => ?_) (fun h => ?_))
    · have:=of_decide_eq_true h; omega
    · exact (AG9 d h1 t0 t2 i hi k (next fun k' hk'=>hp k' (by omega)) _ 0 (Nat.zero_add _)).enter1
  | r+1,k,hk,hp=>by
    have e:∀ x:Int,List.getD (List.getD (d.1:List (List Int)) (Int.toNat (i:Int)) (dft (.arr 4 (.int .i64))):List Int) (Int.toNat (k:Int)) (0:Int)=x↔Q9 d i k=x:=fun x=>by simp [Q9]
    have cont:(Q9 d i k = -1∨(0≤Q9 d i k∧Q9 d i k<(List.length (d.1:List (List Int)):Int)))→Zd (fun n m q _=>Zc.l1 n m q t0 t2 (List.length (d.1:List (List Int)):Int) (i:Int) (IntKind.wrap .i64 ((k:Int)+1)) d) (AAc d):=fun hk0=>by
      rw [Xm (by omega)]
      refine ANq h1 t0 t2 i hi next r (k+1) (by omega) (fun k' hk' => ?_)
      by_cases he:k'=k
      · subst he; exact hk0
      · exact hp k' (by omega)
    refine Zd.succ2 (fun n m q _=>Zc.l1_eq n m q t0 t2 _ i k d) (Zd.bif (fun h=>Zd.ite (by omega) (Zd.ite (by omega) (Zd.bifN (fun h2 => ?_) (fun h2=>Zd.ite (by omega) (Zd.ite (by omega) (Zd.call (U3 _ _) (fun v hv=>Zd.bifN (fun hb => ?_) (fun hb=>Zd.ret (K9 fun hm => ?_))))))))) (fun h => ?_))
    · exact cont (.inl ((e _).1 (of_decide_eq_true h2)))
    · exact cont (.inr (by simpa [Q9] using hv.1 hb))
    · have h2:=of_decide_eq_false h2
      rcases hm.exits i hi k (by omega) with h3 | h3
      · exact h2 ((e _).2 h3)
      · have:=hv.2 (by simpa [Q9] using h3)
        rw [hb] at this; cases this
    · have:=of_decide_eq_false h; omega
theorem ANp (h1:AKy d) (t0:den Z0) (t2:Bool):(r i:Nat)→i+r=List.length (d.1:List (List Int))→(∀ i',i'<i→(∀ k,k<4→Q9 d i' k = -1∨(0≤Q9 d i' k∧Q9 d i' k<(List.length (d.1:List (List Int)):Int)))∧(Wf d.2.2.2.1 (i':Int) (List.length (d.2.2.2.1:List Int)):Int)≤(d.2.2.2.2.2.1:Int)) →
    Zd (fun n m _ _=>Zc.l0 n m t0 t2 (List.length (d.1:List (List Int)):Int) (i:Int) d) (AAc d)
  | 0,i,hi,hp=>by
    refine Zd.succ1 (fun n m _ _=>Zc.l0_eq n m t0 t2 _ i d) (Zd.bif (fun h => ?_) (fun h => ?_))
    · have:=of_decide_eq_true h; omega
    · exact (ANr d h1 (fun i' hi'=>hp i' (by omega)) t0 t2 i _ 0 (Nat.zero_add _) (fun i' hi'=>by omega)).enter
  | r+1,i,hi,hp=>by
    refine Zd.succ1 (fun n m _ _=>Zc.l0_eq n m t0 t2 _ i d) (Zd.bif (fun h => ?_) (fun h => ?_))
    · refine (ANq d h1 t0 t2 i (by omega) (fun he hm=>ANp h1 t0 t2 r (i+1) (by omega) (fun i' hi' => ?_)) 4 0 rfl (fun k' hk'=>by omega)).enter1
      by_cases he':i'=i
      · subst he'; exact ⟨he,hm⟩
      · exact hp i' (by omega)
    · have:=of_decide_eq_false h; omega
theorem ANt:Zd (fun n _ _ _=>Zc n d) (AAc d):=by
  refine Zd.succ (fun n _ _ _=>Zc.eq n d) ?_
  refine Zd.bif (fun h=>Zd.ret (K9 fun hm => ?_)) (fun a1 => ?_)
  · have:=of_decide_eq_true h; have:=hm.r1; omega
  refine Zd.bif (fun h=>Zd.ret (K9 fun hm => ?_)) (fun a2 => ?_)
  · have:=of_decide_eq_true h; have:=hm.r1; omega
  refine Zd.bif (fun h=>Zd.ret (K9 fun hm => ?_)) (fun a3 => ?_)
  · have:=of_decide_eq_true h; have:=hm.p1; omega
  refine Zd.bif (fun h=>Zd.ret (K9 fun hm => ?_)) (fun a4 => ?_)
  · have:=of_decide_eq_true h; have:=hm.p1; omega
  refine Zd.bifN (fun a5 => ?_) (fun h=>Zd.ret (K9 fun hm => ?_))
  rotate_left
  · have:=of_decide_eq_false h; have:=hm.c1; omega
  refine Zd.bif (fun h=>Zd.ret (K9 fun hm => ?_)) (fun a6 => ?_)
  · have:=of_decide_eq_true h; have:=hm.i1; omega
  refine Zd.bifN (fun a7 => ?_) (fun h=>Zd.ret (K9 fun hm => ?_))
  rotate_left
  · have:=of_decide_eq_false h; have:=hm.b1; omega
  have a1:=of_decide_eq_false a1
  have a2:=of_decide_eq_false a2
  have a3:=of_decide_eq_false a3
  have a4:=of_decide_eq_false a4
  have a5:=of_decide_eq_true a5
  have a6:=of_decide_eq_false a6
  have a7:=of_decide_eq_true a7
  refine Zd.call (U3 _ _) (fun v hv=>Zd.bifN (fun hb => ?_) (fun hb=>Zd.ret (K9 fun hm => ?_)))
  rotate_left
  · have:=hv.2 hm.room; rw [hb] at this; cases this
  refine Zd.call (U3 _ _) (fun v2 hv2=>Zd.bifN (fun hb2 => ?_) (fun hb2=>Zd.ret (K9 fun hm => ?_)))
  rotate_left
  · have:=hv2.2 hm.player; rw [hb2] at this; cases this
  refine Zd.call (U3 _ _) (fun v3 hv3=>Zd.bifN (fun hb3 => ?_) (fun hb3=>Zd.ret (K9 fun hm => ?_)))
  rotate_left
  · have:=hv3.2 hm.box; rw [hb3] at this; cases this
  exact (ANp d ⟨by omega,by omega,by omega,by omega,by omega,hv.1 hb,hv2.1 hb2,hv3.1 hb3⟩ d false _ 0 (Nat.zero_add _) (fun i' hi'=>by omega)).enter
end
end
end Go.Proofs.YtjobjooccgledaaGreatDoor.Ghost
namespace Go.Proofs.YtjobjooccgledaaGreatDoor.Ghost
open Go
abbrev Pl:=den Zb
theorem AMy (w:den Za):Zd (fun n _ _ _=>X3 n w) (fun r=>r.1.1=true↔(List.length (w.1.1:List (List Int))≤20∧List.length (w.1.2.1:List Int)≤20∧List.length (w.1.2.2.1:List Int)≤20∧List.length (w.1.2.2.2.1:List Int)≤40 ∧
    List.length (w.1.2.2.2.2.1:List Bool)≤40∧List.length (w.2.1:List Int)≤40∧List.length (w.2.2.1:List Int)≤40∧List.length (w.2.2.2.1:List (den Zb))≤40)):=by
  have no:∀ (p:Prop),¬ p→((((false,()),[]):X3.R).1.1=true↔p):=fun p hp=>⟨fun e=>absurd e (by decide),fun e=>absurd e hp⟩
  refine Zd.succ (fun n _ _ _=>X3.eq n w) ?_
  refine Zd.bif (fun a1 => ?_) (fun h=>Zd.ret (no _ fun hm => ?_))
  rotate_left
  · have:=of_decide_eq_false h; omega
  refine Zd.bif (fun a2 => ?_) (fun h=>Zd.ret (no _ fun hm => ?_))
  rotate_left
  · have:=of_decide_eq_false h; omega
  refine Zd.bif (fun a3 => ?_) (fun h=>Zd.ret (no _ fun hm => ?_))
  rotate_left
  · have:=of_decide_eq_false h; omega
  refine Zd.bif (fun a4 => ?_) (fun h=>Zd.ret (no _ fun hm => ?_))
  rotate_left
  · have:=of_decide_eq_false h; omega
  refine Zd.bif (fun a5 => ?_) (fun h=>Zd.ret (no _ fun hm => ?_))
  rotate_left
  · have:=of_decide_eq_false h; omega
  refine Zd.bif (fun a6 => ?_) (fun h=>Zd.ret (no _ fun hm => ?_))
  rotate_left
  · have:=of_decide_eq_false h; omega
  refine Zd.bif (fun a7 => ?_) (fun h=>Zd.ret (no _ fun hm => ?_))
  rotate_left
  · have:=of_decide_eq_false h; omega
  have a1:=of_decide_eq_true a1
  have a2:=of_decide_eq_true a2
  have a3:=of_decide_eq_true a3
  have a4:=of_decide_eq_true a4
  have a5:=of_decide_eq_true a5
  have a6:=of_decide_eq_true a6
  have a7:=of_decide_eq_true a7
  refine Zd.ret ?_
  constructor
  · intro h
    have:=of_decide_eq_true h
    omega
  · intro h
    exact decide_eq_true (by omega)
theorem Lv (x y:Pl):eqT Zb x y=true↔x=y:=by
  obtain ⟨a,b,u⟩:=x
  obtain ⟨c,d,v⟩:=y
  cases u; cases v
  simp [eqT,ACo]
def Yp (l:List Pl) (p:Pl):Nat→Nat
  | 0=>0
  | n+1=>Yp l p n+(if List.getD l n (dft Zb)=p then 1 else 0)
theorem Eb (l:List Pl) (p:Pl):(n:Nat)→Yp l p n≤n
  | 0=>Nat.le_refl 0
  | n+1=>by
    have:=Eb l p n
    simp only [Yp]
    split <;> omega
theorem AC2 (w:den Za) (hw:List.length (w.2.2.2.1:List (den Zb))<4611686018427387904) (p:Pl) (t0:den Za) (t1:Pl) (t4:Int):(r i:Nat)→i+r=List.length (w.2.2.2.1:List (den Zb)) →
    Zd (fun n m _ _=>Z4.l0 n m t0 t1 t4 (Yp w.2.2.2.1 p i:Int) (i:Int) w p) (fun r=>r=(((Yp w.2.2.2.1 p (List.length (w.2.2.2.1:List (den Zb))):Int),()),[]))
  | 0,i,hi=>by
    refine Zd.succ1 (fun n m _ _=>Z4.l0_eq n m t0 t1 t4 _ i w p) (Zd.bif (fun h => ?_) (fun h=>Zd.ret ?_))
    · have:=of_decide_eq_true h; omega
    · rw [show i=List.length (w.2.2.2.1:List (den Zb)) by omega]
  | r+1,i,hi=>by
    have hle:=Eb w.2.2.2.1 p i
    refine Zd.succ1 (fun n m _ _=>Z4.l0_eq n m t0 t1 t4 _ i w p) (Zd.bif (fun h=>Zd.ite (by omega) (Zd.bif (fun h2 => ?_) (fun h2 => ?_))) (fun h => ?_))
    · rw [Xm (i:=Yp w.2.2.2.1 p i) (by omega),Xm (by omega)]
      have e:Yp w.2.2.2.1 p (i+1)=Yp w.2.2.2.1 p i+1:=by
        simp only [Yp]; rw [if_pos (by simpa using (Lv _ _).1 h2)]
      rw [← e]
      exact AC2 w hw p t0 t1 t4 r (i+1) (by omega)
    · rw [Xm (by omega)]
      have e:Yp w.2.2.2.1 p (i+1)=Yp w.2.2.2.1 p i:=by
        simp only [Yp]
        rw [if_neg (fun he=>by rw [(Lv _ _).2 (by simpa using he)] at h2; cases h2)]; rfl
      rw [← e]
      exact AC2 w hw p t0 t1 t4 r (i+1) (by omega)
    · have:=of_decide_eq_false h; omega
theorem AJ7 (w:den Za) (hw:List.length (w.2.2.2.1:List (den Zb))<4611686018427387904) (p:Pl):Zd (fun n _ _ _=>Z4 n w p) (fun r=>r=(((Yp w.2.2.2.1 p (List.length (w.2.2.2.1:List (den Zb))):Int),()),[])):=by
  refine Zd.succ (fun n _ _ _=>Z4.eq n w p) ?_
  exact (AC2 w hw p w p 0 _ 0 (Nat.zero_add _)).enter
def depI (l:List Pl):Nat→Nat→Pl→Nat
  | 0,c,p=>if p.1=(2:Int) then 99 else c
  | f+1,c,p=>if p.1=(2:Int) then (if 50<c+1 then 99 else depI l f (c+1) (List.getD l (Int.toNat p.2.1) (dft Zb))) else c
def inPl (l:List Pl) (p:Pl):Prop:=p.1=(2:Int)→(0:Int)≤p.2.1∧(p.2.1:Int)<(List.length l:Int)
theorem AEd (w:den Za) (hl:∀ i,i<List.length (w.2.2.2.1:List (den Zb))→inPl w.2.2.2.1 (List.getD w.2.2.2.1 i (dft Zb))) (t0:den Za) (t1:Pl) (t4:Int):(f c:Nat)→f+c=51→(p:Pl)→inPl w.2.2.2.1 p →
    Zd (fun n m _ _=>Z2.l0 n m t0 t1 t4 (c:Int) w p) (fun r=>r=(((depI w.2.2.2.1 f c p:Int),()),[]))
  | 0,c,hc,p,hp=>by
    refine Zd.succ1 (fun n m _ _=>Z2.l0_eq n m t0 t1 t4 c w p) (Zd.bif (fun h=>Zd.bif (fun h2=>Zd.ret ?_) (fun h2 => ?_)) (fun h=>Zd.ret ?_))
    · have h:=of_decide_eq_true h
      simp only [depI]
      rw [if_pos h]
      rfl
    · rw [Xm (by omega)] at h2
      have:=of_decide_eq_false h2; omega
    · have h:=of_decide_eq_false h
      simp only [depI]
      rw [if_neg h]
  | f+1,c,hc,p,hp=>by
    refine Zd.succ1 (fun n m _ _=>Z2.l0_eq n m t0 t1 t4 c w p) (Zd.bif (fun h=>Zd.bif (fun h2=>Zd.ret ?_) (fun h2 => ?_)) (fun h=>Zd.ret ?_))
    · have h:=of_decide_eq_true h
      rw [Xm (by omega)] at h2
      have:=of_decide_eq_true h2
      simp only [depI]
      rw [if_pos h,if_pos (by omega)]
      rfl
    · have h:=of_decide_eq_true h
      rw [Xm (by omega)] at h2 ⊢
      have:=of_decide_eq_false h2
      obtain ⟨g1,g2⟩:=hp h
      refine Zd.ite ⟨g1,g2⟩ ?_
      simp only [depI]
      rw [if_pos h,if_neg (by omega)]
      exact AEd w hl t0 t1 t4 f (c+1) (by omega) _ (hl _ ((Int.toNat_lt g1).2 g2))
    · have h:=of_decide_eq_false h
      simp only [depI]
      rw [if_neg h]
theorem AGs (w:den Za) (hl:∀ i,i<List.length (w.2.2.2.1:List (den Zb))→inPl w.2.2.2.1 (List.getD w.2.2.2.1 i (dft Zb))) (p:Pl) (hp:inPl w.2.2.2.1 p) :
    Zd (fun n _ _ _=>Z2 n w p) (fun r=>r=(((depI w.2.2.2.1 51 0 p:Int),()),[])):=by
  refine Zd.succ (fun n _ _ _=>Z2.eq n w p) ?_
  exact (AEd w hl w p 0 51 0 rfl p hp).enter
def Ie (d:den Z0) (p:Pl):Int:=if p.1=(0:Int) then d.2.2.2.2.2.1 else if p.1=(1:Int) then d.2.2.2.2.2.2.1 else d.2.2.2.2.2.2.2.1
theorem AMb (w:den Za) (p:Pl) (hp:(0:Int)≤p.1∧(p.1:Int)<3):Zd (fun n _ _ _=>Yf n w p) (fun r=>r=((Ie w.1 p,()),[])):=by
  refine Zd.succ (fun n _ _ _=>Yf.eq n w p) (Zd.ite hp (Zd.ret ?_))
  have key:∀ k:Int,0≤k→k<3→k=0∨k=1∨k=2:=fun k h0 h1=>by omega
  have h3:=key p.1 hp.1 hp.2
  unfold Ie
  rcases h3 with h | h | h <;> rw [h] <;> rfl
def Ks (d:den Z0) (p:Pl):Prop :=
  (p.1=(0:Int)∧(0:Int)≤p.2.1∧(p.2.1:Int)<(List.length (d.1:List (List Int)):Int))∨(p.1=(1:Int)∧(0:Int)≤p.2.1∧(p.2.1:Int)<(List.length (d.2.1:List Int):Int)) ∨
    (p.1=(2:Int)∧((0:Int)≤p.2.1∧(p.2.1:Int)<(List.length (d.2.2.2.1:List Int):Int))∧List.getD (d.2.2.2.2.1:List Bool) (Int.toNat p.2.1) false=true)
structure Yg (w:den Za):Prop where
  may:AKz w.1
  a1:List.length (w.2.1:List Int)=List.length (w.1.2.1:List Int)
  c1:List.length (w.2.2.1:List Int)=List.length (w.1.2.1:List Int)
  w1:List.length (w.2.2.2.1:List (den Zb))=List.length (w.1.2.2.2.1:List Int)
  at_:∀ i,i<List.length (w.2.1:List Int)→(0≤List.getD (w.2.1:List Int) i (0:Int)∧List.getD (w.2.1:List Int) i (0:Int)<(List.length (w.1.1:List (List Int)):Int))∧(0≤List.getD (w.2.2.1:List Int) i (0:Int)∧List.getD (w.2.2.1:List Int) i (0:Int)≤1073741824)
  good:∀ i,i<List.length (w.2.2.2.1:List (den Zb))→Ks w.1 (List.getD w.2.2.2.1 i (dft Zb))
  deep:∀ i,i<List.length (w.2.2.2.1:List (den Zb))→depI w.2.2.2.1 51 0 (List.getD w.2.2.2.1 i (dft Zb))≤4∧(Yp w.2.2.2.1 (List.getD w.2.2.2.1 i (dft Zb)) (List.length (w.2.2.2.1:List (den Zb))):Int)≤Ie w.1 (List.getD w.2.2.2.1 i (dft Zb))
abbrev N8 (w:den Za) (r:Zg.R):Prop:=r.1.1=true↔Yg w
theorem H9 {w:den Za} (h:¬ Yg w):N8 w ((false,()),[]):=⟨(fun e=>by cases e),fun e=>absurd e h⟩
section
variable (w:den Za)
structure AGi (w:den Za):Prop where
  may:AKz w.1
  a1:List.length (w.2.1:List Int)=List.length (w.1.2.1:List Int)
  c1:List.length (w.2.2.1:List Int)=List.length (w.1.2.1:List Int)
  w1:List.length (w.2.2.2.1:List (den Zb))=List.length (w.1.2.2.2.1:List Int)
theorem Ks.inPl {d:den Z0} {l:List Pl} (hl:l.length=List.length (d.2.2.2.1:List Int)) {p:Pl} (h:Ks d p):inPl l p:=fun hk=>by
  rcases h with ⟨h,_⟩ | ⟨h,_⟩ | ⟨_,h,_⟩
  · rw [h] at hk; cases hk
  · rw [h] at hk; cases hk
  · rw [hl]; exact h
theorem Ks.kind {d:den Z0} {p:Pl} (h:Ks d p):(0:Int)≤p.1∧(p.1:Int)<3:=by
  rcases h with ⟨h,_⟩ | ⟨h,_⟩ | ⟨h,_⟩ <;> rw [h] <;> decide
theorem AF1 (h1:AGi w) (h2:∀ i,i<List.length (w.2.1:List Int)→(0≤List.getD (w.2.1:List Int) i (0:Int)∧List.getD (w.2.1:List Int) i (0:Int)<(List.length (w.1.1:List (List Int)):Int))∧(0≤List.getD (w.2.2.1:List Int) i (0:Int)∧List.getD (w.2.2.1:List Int) i (0:Int)≤1073741824))
    (h3:∀ i,i<List.length (w.2.2.2.1:List (den Zb))→Ks w.1 (List.getD w.2.2.2.1 i (dft Zb))) (t0:den Za) (t2:Bool) (t4 t5:Int):(r i:Nat)→i+r=List.length (w.2.2.2.1:List (den Zb)) →
    (∀ i',i'<i→depI w.2.2.2.1 51 0 (List.getD w.2.2.2.1 i' (dft Zb))≤4∧(Yp w.2.2.2.1 (List.getD w.2.2.2.1 i' (dft Zb)) (List.length (w.2.2.2.1:List (den Zb))):Int)≤Ie w.1 (List.getD w.2.2.2.1 i' (dft Zb))) →
    Zd (fun n m _ _=>Zg.l2 n m t0 t2 t4 t5 (i:Int) w w.1) (N8 w)
  | 0,i,hi,hp=>by
    refine Zd.succ1 (fun n m _ _=>Zg.l2_eq n m t0 t2 t4 t5 i w w.1) (Zd.bif (fun h => ?_) (fun h=>Zd.ret ?_))
    · have:=of_decide_eq_true h; omega
    · exact ⟨fun _=>⟨h1.may,h1.a1,h1.c1,h1.w1,h2,h3,fun i' hi'=>hp i' (by omega)⟩,fun _=>rfl⟩
  | r+1,i,hi,hp=>by
    have h16:=h1.may.i1
    have hw:=h1.w1
    have hg:=h3 i (by omega)
    have hin:∀ i,i<List.length (w.2.2.2.1:List (den Zb))→inPl w.2.2.2.1 (List.getD w.2.2.2.1 i (dft Zb)):=fun i hi=>(h3 i hi).inPl h1.w1
    refine Zd.succ1 (fun n m _ _=>Zg.l2_eq n m t0 t2 t4 t5 i w w.1) (Zd.bif (fun h=>Zd.ite (by omega) ?_) (fun h => ?_))
    · rw [Int.toNat_natCast]
      refine Zd.call (AGs w hin _ (hin i (by omega))) (fun v hv => ?_)
      subst hv
      refine Zd.bif (fun hb=>Zd.ret (H9 fun hm => ?_)) (fun hb=>Zd.ite (by omega) (Zd.call (AJ7 w (by omega) _) (fun u hu=>Zd.ite (by omega) (Zd.call (AMb w _ hg.kind) (fun x hx => ?_)))))
      · have h4:(4:Int)<(depI w.2.2.2.1 51 0 (List.getD w.2.2.2.1 i (dft Zb)):Int):=of_decide_eq_true hb
        have:=(hm.deep i (by omega)).1
        omega
      · subst hu hx
        refine Zd.bif (fun hb2=>Zd.ret (H9 fun hm => ?_)) (fun hb2 => ?_)
        · have h4:=of_decide_eq_true hb2
          exact absurd (hm.deep i (by omega)).2 (Int.not_le.2 h4)
        · have h4:¬ (4:Int)<(depI w.2.2.2.1 51 0 (List.getD w.2.2.2.1 i (dft Zb)):Int):=of_decide_eq_false hb
          have h5:=of_decide_eq_false hb2
          rw [Xm (by omega)]
          refine AF1 h1 h2 h3 t0 t2 t4 t5 r (i+1) (by omega) (fun i' hi' => ?_)
          by_cases he:i'=i
          · subst he
            exact ⟨by omega,Int.not_lt.1 h5⟩
          · exact hp i' (by omega)
    · have:=of_decide_eq_false h; omega
end
end Go.Proofs.YtjobjooccgledaaGreatDoor.Ghost
namespace Go.Proofs.YtjobjooccgledaaGreatDoor.Ghost
open Go
section
variable (w:den Za)
theorem AF0 (h1:AGi w) (h2:∀ i,i<List.length (w.2.1:List Int)→(0≤List.getD (w.2.1:List Int) i (0:Int)∧List.getD (w.2.1:List Int) i (0:Int)<(List.length (w.1.1:List (List Int)):Int))∧(0≤List.getD (w.2.2.1:List Int) i (0:Int)∧List.getD (w.2.2.1:List Int) i (0:Int)≤1073741824))
    (t0:den Za) (t2:Bool) (t4:Int):(r i:Nat)→i+r=List.length (w.2.2.2.1:List (den Zb))→(∀ i',i'<i→Ks w.1 (List.getD w.2.2.2.1 i' (dft Zb))) →
    Zd (fun n m _ _=>Zg.l1 n m t0 t2 t4 (i:Int) w w.1) (N8 w)
  | 0,i,hi,hp=>by
    refine Zd.succ1 (fun n m _ _=>Zg.l1_eq n m t0 t2 t4 i w w.1) (Zd.bif (fun h => ?_) (fun h => ?_))
    · have:=of_decide_eq_true h; omega
    · exact (AF1 w h1 h2 (fun i' hi'=>hp i' (by omega)) t0 t2 t4 i _ 0 (Nat.zero_add _) (fun i' hi'=>by omega)).enter
  | r+1,i,hi,hp=>by
    have h16:=h1.may.i1
    have hw:=h1.w1
    refine Zd.succ1 (fun n m _ _=>Zg.l1_eq n m t0 t2 t4 i w w.1) (Zd.bif (fun h=>Zd.ite (by omega) ?_) (fun h => ?_))
    rotate_left
    · have:=of_decide_eq_false h; omega
    rw [Int.toNat_natCast]
    have next:Ks w.1 (List.getD w.2.2.2.1 i (dft Zb))→Zd (fun n m _ _=>Zg.l1 n m t0 t2 t4 (IntKind.wrap .i64 ((i:Int)+1)) w w.1) (N8 w):=fun hg=>by
      rw [Xm (by omega)]
      refine AF0 h1 h2 t0 t2 t4 r (i+1) (by omega) (fun i' hi' => ?_)
      by_cases he:i'=i
      · subst he; exact hg
      · exact hp i' (by omega)
    have no:¬ Ks w.1 (List.getD w.2.2.2.1 i (dft Zb))→N8 w ((false,()),[]):=fun hn=>H9 fun hm=>hn (hm.good i (by omega))
    have hb1:=h1.may.b1
    generalize hpe:(List.getD w.2.2.2.1 i (dft Zb):den Zb)=p at next no ⊢
    have ne01:¬ (0:Int)=1:=by decide
    have ne02:¬ (0:Int)=2:=by decide
    have ne12:¬ (1:Int)=2:=by decide
    have box:(p.1=(2:Int)→((0:Int)≤p.2.1∧(p.2.1:Int)<(List.length (w.1.2.2.2.1:List Int):Int))→List.getD (w.1.2.2.2.2.1:List Bool) (Int.toNat p.2.1) false=true→Ks w.1 p):=fun a b c=>.inr (.inr ⟨a,b,c⟩)
    have t2':(p.1=(2:Int)∨¬ Ks w.1 p)→Zd (fun n m _ _=>bif (decide ((p.1:Int)=2)) then
            Option.bind (Z9 n (p.2.1:Int) ((List.length (w.1.2.2.2.1:(List Int))):Int)) fun r6 =>
            bif (r6.1.1:Bool) then
              if (0:Int)≤(p.2.1:Int)∧(p.2.1:Int)<(((List.length (w.1.2.2.2.2.1:(List Bool))):Nat):Int) then
              bif (!(List.getD (w.1.2.2.2.2.1:(List Bool)) (Int.toNat (p.2.1:Int)) false:Bool)) then
                some ((false,()),[])
              else
                Zg.l1 n m t0 t2 t4 (IntKind.wrap .i64 ((i:Int)+1)) w w.1
              else none
            else
              some ((false,()),[])
          else
            some ((false,()),[])) (N8 w):=fun hor=>by
      refine Zd.bif (fun k2=>Zd.call (U3 _ _) (fun v hv=>Zd.bif (fun hb=>Zd.ite ?_ (Zd.bifN (fun hx => ?_) (fun hx=>Zd.ret (no ?_)))) (fun hb=>Zd.ret (no ?_)))) (fun k2=>Zd.ret (no ?_))
      · rw [hb1]; exact hv.1 hb
      · exact next (box (of_decide_eq_true k2) (hv.1 hb) hx)
      · rintro (⟨a,_⟩ | ⟨a,_⟩ | ⟨a,b,c⟩)
        · have:=of_decide_eq_true k2; rw [a] at this; exact ne02 this
        · have:=of_decide_eq_true k2; rw [a] at this; exact ne12 this
        · rw [hx] at c; cases c
      · rintro (⟨a,_⟩ | ⟨a,_⟩ | ⟨a,b,c⟩)
        · have:=of_decide_eq_true k2; rw [a] at this; exact ne02 this
        · have:=of_decide_eq_true k2; rw [a] at this; exact ne12 this
        · have:=hv.2 b; rw [hb] at this; cases this
      · rcases hor with hor | hor
        · exact absurd hor (of_decide_eq_false k2)
        · exact hor
    refine Zd.bif (fun k0=>Zd.call (U3 _ _) (fun v hv=>Zd.bif (fun hb=>next (.inl ⟨of_decide_eq_true k0,hv.1 hb⟩)) (fun hb => ?_))) (fun k0 => ?_)
    · have ng:¬ Ks w.1 p:=by
        have k0:=of_decide_eq_true k0
        rintro (⟨a,b⟩ | ⟨a,_⟩ | ⟨a,_⟩)
        · have:=hv.2 b; rw [hb] at this; cases this
        · rw [k0] at a; exact ne01 a
        · rw [k0] at a; exact ne02 a
      refine Zd.bif (fun k1 => ?_) (fun k1=>t2' (.inr ng))
      have k0:=of_decide_eq_true k0
      have k1:=of_decide_eq_true k1
      rw [k0] at k1; exact absurd k1 ne01
    · refine Zd.bif (fun k1=>Zd.call (U3 _ _) (fun v hv=>Zd.bif (fun hb=>next (.inr (.inl ⟨of_decide_eq_true k1,hv.1 hb⟩))) (fun hb => ?_))) (fun k1 => ?_)
      · have ng:¬ Ks w.1 p:=by
          have k1:=of_decide_eq_true k1
          rintro (⟨a,b⟩ | ⟨a,b⟩ | ⟨a,_⟩)
          · rw [k1] at a; exact ne01 a.symm
          · have:=hv.2 b; rw [hb] at this; cases this
          · rw [k1] at a; exact ne12 a
        exact t2' (.inr ng)
      · by_cases k2:p.1=(2:Int)
        · exact t2' (.inl k2)
        · refine t2' (.inr ?_)
          rintro (⟨a,b⟩ | ⟨a,b⟩ | ⟨a,_⟩)
          · exact of_decide_eq_false k0 a
          · exact of_decide_eq_false k1 a
          · exact k2 a
theorem AFz (h1:AGi w) (t0:den Za) (t2:Bool):(r i:Nat)→i+r=List.length (w.2.1:List Int)→(∀ i',i'<i→(0≤List.getD (w.2.1:List Int) i' (0:Int)∧List.getD (w.2.1:List Int) i' (0:Int)<(List.length (w.1.1:List (List Int)):Int))∧(0≤List.getD (w.2.2.1:List Int) i' (0:Int)∧List.getD (w.2.2.1:List Int) i' (0:Int)≤1073741824)) →
    Zd (fun n m _ _=>Zg.l0 n m t0 t2 (i:Int) w w.1) (N8 w)
  | 0,i,hi,hp=>by
    refine Zd.succ1 (fun n m _ _=>Zg.l0_eq n m t0 t2 i w w.1) (Zd.bif (fun h => ?_) (fun h => ?_))
    · have:=of_decide_eq_true h; omega
    · exact (AF0 w h1 (fun i' hi'=>hp i' (by omega)) t0 t2 i _ 0 (Nat.zero_add _) (fun i' hi'=>by omega)).enter
  | r+1,i,hi,hp=>by
    have h6:=h1.may.p1
    have ha:=h1.a1
    have hc:=h1.c1
    refine Zd.succ1 (fun n m _ _=>Zg.l0_eq n m t0 t2 i w w.1) (Zd.bif (fun h=>Zd.ite (by omega) (Zd.call (U3 _ _) (fun v hv=>Zd.bifN (fun hb=>Zd.ite (by omega) (Zd.call (AIg _) (fun u hu=>Zd.bifN (fun hb2 => ?_) (fun hb2=>Zd.ret (H9 fun hm => ?_))))) (fun hb=>Zd.ret (H9 fun hm => ?_))))) (fun h => ?_))
    · rw [Xm (by omega)]
      refine AFz h1 t0 t2 r (i+1) (by omega) (fun i' hi' => ?_)
      by_cases he:i'=i
      · subst he; exact ⟨by simpa using hv.1 hb,by simpa using hu.1 hb2⟩
      · exact hp i' (by omega)
    · have:=hu.2 (by simpa using (hm.at_ i (by omega)).2)
      rw [hb2] at this; cases this
    · have:=hv.2 (by simpa using (hm.at_ i (by omega)).1)
      rw [hb] at this; cases this
    · have:=of_decide_eq_false h; omega
theorem AHj:Zd (fun n _ _ _=>Zg n w) (N8 w):=by
  refine Zd.succ (fun n _ _ _=>Zg.eq n w) ?_
  refine Zd.call (ANt w.1) (fun v hv=>Zd.bifN (fun hb => ?_) (fun hb=>Zd.ret (H9 fun hm => ?_)))
  rotate_left
  · have:=hv.2 hm.may; rw [hb] at this; cases this
  refine Zd.bifN (fun a1 => ?_) (fun h=>Zd.ret (H9 fun hm => ?_))
  rotate_left
  · have:=of_decide_eq_false h; have:=hm.a1; omega
  refine Zd.bifN (fun a2 => ?_) (fun h=>Zd.ret (H9 fun hm => ?_))
  rotate_left
  · have:=of_decide_eq_false h; have:=hm.c1; omega
  refine Zd.bifN (fun a3 => ?_) (fun h=>Zd.ret (H9 fun hm => ?_))
  rotate_left
  · have:=of_decide_eq_false h; have:=hm.w1; omega
  have a1:=of_decide_eq_true a1
  have a2:=of_decide_eq_true a2
  have a3:=of_decide_eq_true a3
  exact (AFz w ⟨hv.1 hb,by omega,by omega,by omega⟩ w false _ 0 (Nat.zero_add _) (fun i' hi'=>by omega)).enter
end
end Go.Proofs.YtjobjooccgledaaGreatDoor.Ghost
namespace Go.Proofs.YtjobjooccgledaaGreatDoor.Ghost
open Go
theorem Ue {α:Type} (d:α) {a b:List α} (hl:a.length=b.length) (h:∀ i,i<a.length→a.getD i d=b.getD i d):a=b:=by
  refine List.ext_getElem hl (fun i h1 h2 => ?_)
  have:=h i h1
  rw [List.getD_eq_getElem?_getD,List.getD_eq_getElem?_getD,List.getElem?_eq_getElem h1,List.getElem?_eq_getElem h2] at this
  exact this
theorem AIe (a b:List Int) (hl:a.length=b.length) (hs:a.length≤1048576) (t4:Bool):(r i:Nat)→i+r=a.length→(∀ i',i'<i→a.getD i' 0=b.getD i' 0) →
    Zd (fun n m _ _=>Zx.l0 n m a b t4 (i:Int)) (fun r=>r.1.1=true↔a=b)
  | 0,i,hi,hp=>by
    refine Zd.succ1 (fun n m _ _=>Zx.l0_eq n m a b t4 i) (Zd.bif (fun h => ?_) (fun h=>Zd.ret ?_))
    · have:=of_decide_eq_true h; omega
    · exact ⟨fun _=>Ue 0 hl (fun i' hi'=>hp i' (by omega)),fun _=>rfl⟩
  | r+1,i,hi,hp=>by
    refine Zd.succ1 (fun n m _ _=>Zx.l0_eq n m a b t4 i) (Zd.bif (fun h=>Zd.ite (by omega) (Zd.ite (by omega) (Zd.bifN (fun h2 => ?_) (fun h2=>Zd.ret ?_)))) (fun h => ?_))
    · have h2:=of_decide_eq_true h2
      rw [Xm (by omega)]
      refine AIe a b hl hs t4 r (i+1) (by omega) (fun i' hi' => ?_)
      by_cases he:i'=i
      · subst he; simpa using h2
      · exact hp i' (by omega)
    · have h2:=of_decide_eq_false h2
      exact ⟨(fun e=>by cases e),fun e=>absurd (by rw [e]) h2⟩
    · have:=of_decide_eq_false h; omega
theorem Po (a b:List Int) (hs:a.length≤1048576):Zd (fun n _ _ _=>Zx n a b) (fun r=>r.1.1=true↔a=b):=by
  refine Zd.succ (fun n _ _ _=>Zx.eq n a b) (Zd.bifN (fun h => ?_) (fun h=>Zd.ret ?_))
  · have h:=of_decide_eq_true h
    exact (AIe a b (by omega) hs false _ 0 (Nat.zero_add _) (fun i' hi'=>by omega)).enter
  · have h:=of_decide_eq_false h
    exact ⟨(fun e=>by cases e),fun e=>absurd (by rw [e]) h⟩
theorem ABo (a b:List Pl) (hl:a.length=b.length) (hs:a.length≤1048576) (t4:Bool):(r i:Nat)→i+r=a.length→(∀ i',i'<i→a.getD i' (dft Zb)=b.getD i' (dft Zb)) →
    Zd (fun n m _ _=>Zy.l0 n m a b t4 (i:Int)) (fun r=>r.1.1=true↔a=b)
  | 0,i,hi,hp=>by
    refine Zd.succ1 (fun n m _ _=>Zy.l0_eq n m a b t4 i) (Zd.bif (fun h => ?_) (fun h=>Zd.ret ?_))
    · have:=of_decide_eq_true h; omega
    · exact ⟨fun _=>Ue (dft Zb) hl (fun i' hi'=>hp i' (by omega)),fun _=>rfl⟩
  | r+1,i,hi,hp=>by
    refine Zd.succ1 (fun n m _ _=>Zy.l0_eq n m a b t4 i) (Zd.bif (fun h=>Zd.ite (by omega) (Zd.ite (by omega) (Zd.bifN (fun h2 => ?_) (fun h2=>Zd.ret ?_)))) (fun h => ?_))
    · have h2:=(Lv _ _).1 h2
      rw [Xm (by omega)]
      refine ABo a b hl hs t4 r (i+1) (by omega) (fun i' hi' => ?_)
      by_cases he:i'=i
      · subst he; simpa using h2
      · exact hp i' (by omega)
    · refine ⟨(fun e=>by cases e),fun e => ?_⟩
      rw [e,(Lv _ _).2 rfl] at h2
      cases h2
    · have:=of_decide_eq_false h; omega
theorem AFt (a b:List Pl) (hs:a.length≤1048576):Zd (fun n _ _ _=>Zy n a b) (fun r=>r.1.1=true↔a=b):=by
  refine Zd.succ (fun n _ _ _=>Zy.eq n a b) (Zd.bifN (fun h => ?_) (fun h=>Zd.ret ?_))
  · have h:=of_decide_eq_true h
    exact (ABo a b (by omega) hs false _ 0 (Nat.zero_add _) (fun i' hi'=>by omega)).enter
  · have h:=of_decide_eq_false h
    exact ⟨(fun e=>by cases e),fun e=>absurd (by rw [e]) h⟩
structure Sm (w:den Za):Prop where
  e:List.length (w.1.1:List (List Int))≤1048576
  b:List.length (w.1.2.2.2.2.1:List Bool)≤1048576
  p:List.length (w.1.2.1:List Int)≤1048576
  c:List.length (w.1.2.2.1:List Int)≤1048576
  i:List.length (w.1.2.2.2.1:List Int)≤1048576
  a:List.length (w.2.1:List Int)≤1048576
  wc:List.length (w.2.2.1:List Int)≤1048576
  wh:List.length (w.2.2.2.1:List (den Zb))≤1048576
  rows:∀ i,i<List.length (w.1.1:List (List Int))→List.length (List.getD (w.1.1:List (List Int)) i (dft (.arr 4 (.int .i64))):List Int)=4
theorem ASc {x y:List Int} (hx:x.length=4) (hy:y.length=4):eqT (.arr 4 (.int .i64)) x y=true↔x=y:=by
  match x,y,hx,hy with
  | [a,b,c,d],[a',b',c',d'],_,_=>simp [eqT,ADv]
abbrev AIs (a b:den Za) (r:Zn.R):Prop:=r.1.1=true↔a=b
theorem Hk {a b:den Za} (h:¬ a=b):AIs a b ((false,()),[]):=⟨(fun e=>by cases e),fun e=>absurd e h⟩
theorem AKt {a b:den Za} (h5:(a.1.2.2.2.2.2.1:Int)=b.1.2.2.2.2.2.1) (h6:(a.1.2.2.2.2.2.2.1:Int)=b.1.2.2.2.2.2.2.1) (h7:(a.1.2.2.2.2.2.2.2.1:Int)=b.1.2.2.2.2.2.2.2.1) (he:a.1.1=b.1.1) (hbx:a.1.2.2.2.2.1=b.1.2.2.2.2.1)
    (c1:a.1.2.1=b.1.2.1) (c2:a.1.2.2.1=b.1.2.2.1) (c3:a.1.2.2.2.1=b.1.2.2.2.1) (c4:a.2.1=b.2.1) (c5:a.2.2.1=b.2.2.1) (c6:a.2.2.2.1=b.2.2.2.1):a=b :=
  Prod.ext (Prod.ext he (Prod.ext c1 (Prod.ext c2 (Prod.ext c3 (Prod.ext hbx (Prod.ext h5 (Prod.ext h6 (Prod.ext h7 rfl)))))))) (Prod.ext c4 (Prod.ext c5 (Prod.ext c6 rfl)))
section
variable (a b:den Za) (ha:Sm a) (hb:Sm b)
include ha hb
theorem AIu (h5:(a.1.2.2.2.2.2.1:Int)=b.1.2.2.2.2.2.1) (h6:(a.1.2.2.2.2.2.2.1:Int)=b.1.2.2.2.2.2.2.1) (h7:(a.1.2.2.2.2.2.2.2.1:Int)=b.1.2.2.2.2.2.2.2.1) (he:a.1.1=b.1.1) (hl:List.length (a.1.2.2.2.2.1:List Bool)=List.length (b.1.2.2.2.2.1:List Bool))
    (t0 t1:den Za) (t4:Bool) (t7:Int):(r i:Nat)→i+r=List.length (a.1.2.2.2.2.1:List Bool)→(∀ i',i'<i→List.getD (a.1.2.2.2.2.1:List Bool) i' false=List.getD (b.1.2.2.2.2.1:List Bool) i' false) →
    Zd (fun n m _ _=>Zn.l1 n m t0 t1 t4 t7 (i:Int) a b a.1 b.1) (AIs a b)
  | 0,i,hi,hp=>by
    refine Zd.succ1 (fun n m _ _=>Zn.l1_eq n m t0 t1 t4 t7 i a b a.1 b.1) (Zd.bif (fun h => ?_) (fun h => ?_))
    · have:=of_decide_eq_true h; omega
    · have hbx:(a.1.2.2.2.2.1:List Bool)=b.1.2.2.2.2.1:=Ue false hl (fun i' hi'=>hp i' (by omega))
      refine Zd.call (Po _ _ ha.p) (fun v1 g1=>Zd.bif (fun k1 => ?_) (fun k1=>Zd.ret (Hk fun e => ?_)))
      rotate_left
      · have:=g1.2 (by rw [e]); rw [k1] at this; cases this
      refine Zd.call (Po _ _ ha.c) (fun v2 g2=>Zd.bif (fun k2 => ?_) (fun k2=>Zd.ret (Hk fun e => ?_)))
      rotate_left
      · have:=g2.2 (by rw [e]); rw [k2] at this; cases this
      refine Zd.call (Po _ _ ha.i) (fun v3 g3=>Zd.bif (fun k3 => ?_) (fun k3=>Zd.ret (Hk fun e => ?_)))
      rotate_left
      · have:=g3.2 (by rw [e]); rw [k3] at this; cases this
      refine Zd.call (Po _ _ ha.a) (fun v4 g4=>Zd.bif (fun k4 => ?_) (fun k4=>Zd.ret (Hk fun e => ?_)))
      rotate_left
      · have:=g4.2 (by rw [e]); rw [k4] at this; cases this
      refine Zd.call (Po _ _ ha.wc) (fun v5 g5=>Zd.bif (fun k5 => ?_) (fun k5=>Zd.ret (Hk fun e => ?_)))
      rotate_left
      · have:=g5.2 (by rw [e]); rw [k5] at this; cases this
      refine Zd.call (AFt _ _ ha.wh) (fun v6 g6=>Zd.ret ?_)
      have c1:=g1.1 k1
      have c2:=g2.1 k2
      have c3:=g3.1 k3
      have c4:=g4.1 k4
      have c5:=g5.1 k5
      constructor
      · intro k6
        have c6:=g6.1 k6
        exact AKt h5 h6 h7 he hbx c1 c2 c3 c4 c5 c6
      · intro e
        exact g6.2 (by rw [e])
  | r+1,i,hi,hp=>by
    have hlb:=ha.b
    refine Zd.succ1 (fun n m _ _=>Zn.l1_eq n m t0 t1 t4 t7 i a b a.1 b.1) (Zd.bif (fun h=>Zd.ite (by omega) (Zd.ite (by omega) (Zd.bifN (fun h2 => ?_) (fun h2=>Zd.ret (Hk fun e => ?_))))) (fun h => ?_))
    · have h2:List.getD (a.1.2.2.2.2.1:List Bool) (Int.toNat (i:Int)) false=List.getD (b.1.2.2.2.2.1:List Bool) (Int.toNat (i:Int)) false:=by simpa [eqT] using h2
      rw [Xm (by omega)]
      refine AIu h5 h6 h7 he hl t0 t1 t4 t7 r (i+1) (by omega) (fun i' hi' => ?_)
      by_cases hee:i'=i
      · subst hee; simpa using h2
      · exact hp i' (by omega)
    · rw [e] at h2
      simp [eqT] at h2
    · have:=of_decide_eq_false h; omega
theorem AIt (h5:(a.1.2.2.2.2.2.1:Int)=b.1.2.2.2.2.2.1) (h6:(a.1.2.2.2.2.2.2.1:Int)=b.1.2.2.2.2.2.2.1) (h7:(a.1.2.2.2.2.2.2.2.1:Int)=b.1.2.2.2.2.2.2.2.1) (hle:List.length (a.1.1:List (List Int))=List.length (b.1.1:List (List Int))) (hl:List.length (a.1.2.2.2.2.1:List Bool)=List.length (b.1.2.2.2.2.1:List Bool))
    (t0 t1:den Za) (t4:Bool):(r i:Nat)→i+r=List.length (a.1.1:List (List Int))→(∀ i',i'<i→List.getD (a.1.1:List (List Int)) i' (dft (.arr 4 (.int .i64)))=List.getD (b.1.1:List (List Int)) i' (dft (.arr 4 (.int .i64)))) →
    Zd (fun n m _ _=>Zn.l0 n m t0 t1 t4 (i:Int) a b a.1 b.1) (AIs a b)
  | 0,i,hi,hp=>by
    refine Zd.succ1 (fun n m _ _=>Zn.l0_eq n m t0 t1 t4 i a b a.1 b.1) (Zd.bif (fun h => ?_) (fun h => ?_))
    · have:=of_decide_eq_true h; omega
    · have he:(a.1.1:List (List Int))=b.1.1:=Ue (dft (.arr 4 (.int .i64))) hle (fun i' hi'=>hp i' (by omega))
      exact (AIu a b ha hb h5 h6 h7 he hl t0 t1 t4 i _ 0 (Nat.zero_add _) (fun i' hi'=>by omega)).enter
  | r+1,i,hi,hp=>by
    have hlb:=ha.e
    have e1:=ha.rows i (by omega)
    have e2:=hb.rows i (by omega)
    refine Zd.succ1 (fun n m _ _=>Zn.l0_eq n m t0 t1 t4 i a b a.1 b.1) (Zd.bif (fun h=>Zd.ite (by omega) (Zd.ite (by omega) (Zd.bifN (fun h2 => ?_) (fun h2=>Zd.ret (Hk fun e => ?_))))) (fun h => ?_))
    · rw [Int.toNat_natCast] at h2
      have h2:=(ASc e1 e2).1 h2
      rw [Xm (by omega)]
      refine AIt h5 h6 h7 hle hl t0 t1 t4 r (i+1) (by omega) (fun i' hi' => ?_)
      by_cases hee:i'=i
      · subst hee; simpa using h2
      · exact hp i' (by omega)
    · rw [Int.toNat_natCast] at h2
      have:=(ASc e1 e2).2 (by rw [e])
      rw [this] at h2
      cases h2
    · have:=of_decide_eq_false h; omega
theorem G7:Zd (fun n _ _ _=>Zn n a b) (AIs a b):=by
  refine Zd.succ (fun n _ _ _=>Zn.eq n a b) ?_
  refine Zd.bifN (fun k1 => ?_) (fun k1=>Zd.ret (Hk fun e=>of_decide_eq_false k1 (by rw [e])))
  refine Zd.bifN (fun k2 => ?_) (fun k2=>Zd.ret (Hk fun e=>of_decide_eq_false k2 (by rw [e])))
  refine Zd.bifN (fun k3 => ?_) (fun k3=>Zd.ret (Hk fun e=>of_decide_eq_false k3 (by rw [e])))
  refine Zd.bifN (fun k4 => ?_) (fun k4=>Zd.ret (Hk fun e=>of_decide_eq_false k4 (by rw [e])))
  refine Zd.bifN (fun k5 => ?_) (fun k5=>Zd.ret (Hk fun e=>of_decide_eq_false k5 (by rw [e])))
  have k4:=of_decide_eq_true k4
  have k5:=of_decide_eq_true k5
  exact (AIt a b ha hb (of_decide_eq_true k1) (of_decide_eq_true k2) (of_decide_eq_true k3) (by omega) (by omega) a b false _ 0 (Nat.zero_add _) (fun i' hi'=>by omega)).enter
end
end Go.Proofs.YtjobjooccgledaaGreatDoor.Ghost
namespace Go.Proofs.YtjobjooccgledaaGreatDoor.Ghost
open Go
theorem E7 (l:List Int) (h:l.length≤1048576):Zd (fun n _ _ _=>Jw n l) (fun r=>r=((l,()),[(0,[])])):=by
  refine Zd.succ (G:=fun _ _ _ _=>some ((l,()),[(0,[])])) (fun n _ _ _ => ?_) (Zd.ret rfl)
  show (if l.length≤1048576 then some ((l,()),[(0,[])]) else none)=some ((l,()),[(0,[])])
  rw [if_pos h]
theorem AD7 (l:List Pl) (h:l.length≤1048576):Zd (fun n _ _ _=>Yu n l) (fun r=>r=((l,()),[(0,[])])):=by
  refine Zd.succ (G:=fun _ _ _ _=>some ((l,()),[(0,[])])) (fun n _ _ _ => ?_) (Zd.ret rfl)
  show (if l.length≤1048576 then some ((l,()),[(0,[])]) else none)=some ((l,()),[(0,[])])
  rw [if_pos h]
theorem Ml (w:den Za) (h:Sm w):Zd (fun n _ _ _=>Jh n w) (fun r=>r=((w,()),[(0,[1]),(0,[2]),(0,[3])])):=by
  refine Zd.succ (fun n _ _ _=>Jh.eq n w) (Zd.call (E7 _ h.a) (fun v1 e1 => ?_))
  subst e1
  refine Zd.bifT rfl (Zd.call (E7 _ h.wc) (fun v2 e2 => ?_))
  subst e2
  refine Zd.bifT rfl (Zd.call (AD7 _ h.wh) (fun v3 e3 => ?_))
  subst e3
  exact Zd.bifT rfl (Zd.ret rfl)
end Go.Proofs.YtjobjooccgledaaGreatDoor.Ghost
namespace Go.Proofs.YtjobjooccgledaaGreatDoor.Ghost
open Go
structure Ok (w:den Za):Prop where
  sm:Sm w
  right:Yg w
abbrev BIf (w:den Za):Prop:=List.length (w.1.1:List (List Int))≤20∧List.length (w.1.2.1:List Int)≤20∧List.length (w.1.2.2.1:List Int)≤20∧List.length (w.1.2.2.2.1:List Int)≤40 ∧
    List.length (w.1.2.2.2.2.1:List Bool)≤40∧List.length (w.2.1:List Int)≤40∧List.length (w.2.2.1:List Int)≤40∧List.length (w.2.2.2.1:List (den Zb))≤40
theorem AAz {α:Type} {l:List α} {i:Nat} (d:α) (h:i<l.length):l.getD i d∈l:=by
  rw [List.getD_eq_getElem?_getD,List.getElem?_eq_getElem h]
  exact List.getElem_mem h
theorem BXk {w:den Za} (hw:wfD Za w) (hf:BIf w) (hr:Yg w):Ok w:=by
  obtain ⟨f1,f2,f3,f4,f5,f6,f7,f8⟩:=hf
  refine ⟨⟨by omega,by omega,by omega,by omega,by omega,by omega,by omega,by omega,fun i hi => ?_⟩,hr⟩
  have h1:∀ y:List Int,y∈(w.1.1:List (List Int))→wfD (.arr 4 (.int .i64)) y:=hw.1.1.2
  exact (h1 _ (AAz _ hi)).1
theorem AOb {a:Int} (h:wfD (.int .u8) a):0≤a∧a<256:=by
  have h1:IntKind.u8.min≤a∧a≤IntKind.u8.max:=h
  have e1:IntKind.u8.min=0:=rfl
  have e2:IntKind.u8.max=255:=rfl
  omega
theorem AE7 {a:Int} (h:wfD (.int .u8) a) {n:Nat} (hn:0<n):∃ i:Nat,i<n∧Int.tmod (IntKind.wrap .i64 a) (n:Int)=(i:Int):=by
  obtain ⟨h0,h1⟩:=AOb h
  rw [Hr (by omega) (by omega)]
  refine ⟨(a % (n:Int)).toNat,?_,?_⟩
  · have:=Int.emod_lt_of_pos a (show (0:Int)<n by omega)
    have:=Int.emod_nonneg a (show (n:Int)≠0 by omega)
    omega
  · rw [Int.tmod_eq_emod_of_nonneg h0]
    have:=Int.emod_nonneg a (show (n:Int)≠0 by omega)
    omega
theorem Vz {α:Type} (l:List α) (i j:Nat) (x d:α) (h:i<l.length):(l.set i x).getD j d=if j=i then x else l.getD j d:=by
  rw [List.getD_eq_getElem?_getD,List.getD_eq_getElem?_getD]
  by_cases hj:j=i
  · subst hj; rw [List.getElem?_set_self h,if_pos rfl]; rfl
  · rw [List.getElem?_set_ne (Ne.symm hj),if_neg hj]
theorem Yg.pos {w:den Za} (h:Yg w):0<List.length (w.2.1:List Int):=by have:=h.a1; have:=h.may.p1; omega
end Go.Proofs.YtjobjooccgledaaGreatDoor.Ghost
