/- What functions come to, and that the statements are answered with 'true'. Conditions: none. -/
import Derived.Test.YtmemggdjnfccfaaGreatDoorS
import Derived.Test.YtmemggdjnfccfaaGreatDoorGE
import Derived.Test.YtmemggdjnfccfaaGreatDoorA4
import Derived.KernelRfl
set_option linter.unusedVariables false
set_option linter.unusedSimpArgs false
set_option linter.unusedSectionVars false
set_option linter.unnecessarySimpa false
namespace Go.Proofs.YtmemggdjnfccfaaGreatDoor.Ghost
open Go
section
theorem Wd (a b:Int):Ze (fun n _ _ _=>Xc n a b) (fun r=>r.1.1=true↔0≤a∧a<b):=by
  refine Ze.succ (fun n _ _ _=>Xc.eq n a b) (Ze.bif (fun h=>Ze.ret ?_) (fun h=>Ze.ret ?_))
  · have:=of_decide_eq_true h
    simp [this]
  · have:=of_decide_eq_false h
    simp [this]
theorem AIw (a:Int):Ze (fun n _ _ _=>Ym n a) (fun r=>r.1.1=true↔0≤a∧a≤1073741824):=by
  refine Ze.succ (fun n _ _ _=>Ym.eq n a) (Ze.bif (fun h=>Ze.ret ?_) (fun h=>Ze.ret ?_))
  · have:=of_decide_eq_true h
    simp [this]
  · have:=of_decide_eq_false h
    simp [this]
def Q8 (d:den Xa) (i k:Nat):Int:=List.getD (List.getD (d.1:List (List Int)) i (dft (.arr 4 (.int .i64))):List Int) k (0:Int)
def Wq (l:List Int) (x:Int):Nat→Nat
  | 0=>0
  | n+1=>Wq l x n+(if List.getD l n (0:Int)=x then 1 else 0)
theorem AFu (l:List Int) (x:Int):(n:Nat)→Wq l x n≤n
  | 0=>Nat.le_refl 0
  | n+1=>by
    have:=AFu l x n
    simp only [Wq]
    split <;> omega
structure AK9 (d:den Xa):Prop where
  r1:1≤List.length (d.1:List (List Int))∧List.length (d.1:List (List Int))≤8
  p1:1≤List.length (d.2.1:List Int)∧List.length (d.2.1:List Int)≤6
  c1:List.length (d.2.2.1:List Int)=List.length (d.2.1:List Int)
  i1:List.length (d.2.2.2.1:List Int)≤16
  b1:List.length (d.2.2.2.2.1:List Bool)=List.length (d.2.2.2.1:List Int)
  room:0≤(d.2.2.2.2.2.1:Int)∧(d.2.2.2.2.2.1:Int)<65
  player:0≤(d.2.2.2.2.2.2.1:Int)∧(d.2.2.2.2.2.2.1:Int)<65
  box:0≤(d.2.2.2.2.2.2.2.1:Int)∧(d.2.2.2.2.2.2.2.1:Int)<65
  exits:∀ i,i<List.length (d.1:List (List Int))→∀ k,k<4→Q8 d i k = -1∨(0≤Q8 d i k∧Q8 d i k<(List.length (d.1:List (List Int)):Int))
  many:∀ i:Nat,i<List.length (d.1:List (List Int))→(Wq d.2.2.2.1 (i:Int) (List.length (d.2.2.2.1:List Int)):Int)≤(d.2.2.2.2.2.1:Int)
  players:∀ i,i<List.length (d.2.1:List Int)→(0≤List.getD (d.2.1:List Int) i (0:Int)∧List.getD (d.2.1:List Int) i (0:Int)<(List.length (d.1:List (List Int)):Int))∧(0≤List.getD (d.2.2.1:List Int) i (0:Int)∧List.getD (d.2.2.1:List Int) i (0:Int)≤1073741824)
  items:∀ i,i<List.length (d.2.2.2.1:List Int)→0≤List.getD (d.2.2.2.1:List Int) i (0:Int)∧List.getD (d.2.2.2.1:List Int) i (0:Int)<(List.length (d.1:List (List Int)):Int)
abbrev AAu (d:den Xa) (r:Zc.R):Prop:=r.1.1=true↔AK9 d
theorem Hj {d:den Xa} (h:¬ AK9 d):AAu d ((false,()),[]):=⟨(fun e=>by cases e),fun e=>absurd e h⟩
section
variable (d:den Xa)
structure AK8 (d:den Xa):Prop where
  r1:1≤List.length (d.1:List (List Int))∧List.length (d.1:List (List Int))≤8
  p1:1≤List.length (d.2.1:List Int)∧List.length (d.2.1:List Int)≤6
  c1:List.length (d.2.2.1:List Int)=List.length (d.2.1:List Int)
  i1:List.length (d.2.2.2.1:List Int)≤16
  b1:List.length (d.2.2.2.2.1:List Bool)=List.length (d.2.2.2.1:List Int)
  room:0≤(d.2.2.2.2.2.1:Int)∧(d.2.2.2.2.2.1:Int)<65
  player:0≤(d.2.2.2.2.2.2.1:Int)∧(d.2.2.2.2.2.2.1:Int)<65
  box:0≤(d.2.2.2.2.2.2.2.1:Int)∧(d.2.2.2.2.2.2.2.1:Int)<65
theorem ANz (h1:AK8 d) (h2:∀ i,i<List.length (d.1:List (List Int))→(∀ k,k<4→Q8 d i k = -1∨(0≤Q8 d i k∧Q8 d i k<(List.length (d.1:List (List Int)):Int)))∧(Wq d.2.2.2.1 (i:Int) (List.length (d.2.2.2.1:List Int)):Int)≤(d.2.2.2.2.2.1:Int))
    (h3:∀ i,i<List.length (d.2.1:List Int)→(0≤List.getD (d.2.1:List Int) i (0:Int)∧List.getD (d.2.1:List Int) i (0:Int)<(List.length (d.1:List (List Int)):Int))∧(0≤List.getD (d.2.2.1:List Int) i (0:Int)∧List.getD (d.2.2.1:List Int) i (0:Int)≤1073741824))
    (t0:den Xa) (t2:Bool) (t4 t8:Int):(r i:Nat)→i+r=List.length (d.2.2.2.1:List Int)→(∀ i',i'<i→0≤List.getD (d.2.2.2.1:List Int) i' (0:Int)∧List.getD (d.2.2.2.1:List Int) i' (0:Int)<(List.length (d.1:List (List Int)):Int)) →
    Ze (fun n m _ _=>Zc.l4 n m t0 t2 (List.length (d.1:List (List Int)):Int) t4 t8 (i:Int) d) (AAu d)
  | 0,i,hi,hp=>by
    refine Ze.succ1 (fun n m _ _=>Zc.l4_eq n m t0 t2 _ t4 t8 i d) (Ze.bif (fun h => ?_) (fun h=>Ze.ret ?_))
    · have:=of_decide_eq_true h; omega
    · exact ⟨fun _=>⟨h1.r1,h1.p1,h1.c1,h1.i1,h1.b1,h1.room,h1.player,h1.box,fun i hi=>(h2 i hi).1,fun i hi=>(h2 i hi).2,h3,fun i' hi'=>hp i' (by omega)⟩,fun _=>rfl⟩
  | r+1,i,hi,hp=>by
    have hlt:=h1.i1
    refine Ze.succ1 (fun n m _ _=>Zc.l4_eq n m t0 t2 _ t4 t8 i d) (Ze.bif (fun h => ?_) (fun h => ?_))
    · refine Ze.ite (by omega) (Ze.call (Wd _ _) (fun v hv=>Ze.bifN (fun hb => ?_) (fun hb=>Ze.ret (Hj fun hm => ?_))))
      · have hg:=hv.1 hb
        rw [Xv (by omega)]
        refine ANz h1 h2 h3 t0 t2 t4 t8 r (i+1) (by omega) (fun i' hi' => ?_)
        by_cases he:i'=i
        · subst he; simpa using hg
        · exact hp i' (by omega)
      · have:=hv.2 (by simpa using hm.items i (by omega))
        rw [hb] at this; cases this
    · have:=of_decide_eq_false h; omega
theorem ANy (h1:AK8 d) (h2:∀ i,i<List.length (d.1:List (List Int))→(∀ k,k<4→Q8 d i k = -1∨(0≤Q8 d i k∧Q8 d i k<(List.length (d.1:List (List Int)):Int)))∧(Wq d.2.2.2.1 (i:Int) (List.length (d.2.2.2.1:List Int)):Int)≤(d.2.2.2.2.2.1:Int))
    (t0:den Xa) (t2:Bool) (t4:Int):(r i:Nat)→i+r=List.length (d.2.1:List Int)→(∀ i',i'<i→(0≤List.getD (d.2.1:List Int) i' (0:Int)∧List.getD (d.2.1:List Int) i' (0:Int)<(List.length (d.1:List (List Int)):Int))∧(0≤List.getD (d.2.2.1:List Int) i' (0:Int)∧List.getD (d.2.2.1:List Int) i' (0:Int)≤1073741824)) →
    Ze (fun n m _ _=>Zc.l3 n m t0 t2 (List.length (d.1:List (List Int)):Int) t4 (i:Int) d) (AAu d)
  | 0,i,hi,hp=>by
    refine Ze.succ1 (fun n m _ _=>Zc.l3_eq n m t0 t2 _ t4 i d) (Ze.bif (fun h => ?_) (fun h => ?_))
    · have:=of_decide_eq_true h; omega
    · exact (ANz d h1 h2 (fun i' hi'=>hp i' (by omega)) t0 t2 t4 i _ 0 (Nat.zero_add _) (fun i' hi'=>by omega)).enter
  | r+1,i,hi,hp=>by
    have hlt:=h1.p1
    refine Ze.succ1 (fun n m _ _=>Zc.l3_eq n m t0 t2 _ t4 i d) (Ze.bif (fun h => ?_) (fun h => ?_))
    · refine Ze.ite (by omega) (Ze.call (Wd _ _) (fun v hv=>Ze.bifN (fun hb => ?_) (fun hb=>Ze.ret (Hj fun hm => ?_))))
      · have hg:=hv.1 hb
        refine Ze.ite (by rw [h1.c1]; omega) (Ze.call (AIw _) (fun u hu=>Ze.bifN (fun hb2 => ?_) (fun hb2=>Ze.ret (Hj fun hm => ?_))))
        · have hg2:=hu.1 hb2
          rw [Xv (by omega)]
          refine ANy h1 h2 t0 t2 t4 r (i+1) (by omega) (fun i' hi' => ?_)
          by_cases he:i'=i
          · subst he; exact ⟨by simpa using hg,by simpa using hg2⟩
          · exact hp i' (by omega)
        · have:=hu.2 (by simpa using (hm.players i (by omega)).2)
          rw [hb2] at this; cases this
      · have:=hv.2 (by simpa using (hm.players i (by omega)).1)
        rw [hb] at this; cases this
    · have:=of_decide_eq_false h; omega
theorem AHp (h1:AK8 d) (t0:den Xa) (t2:Bool) (i:Nat) (hi:i<List.length (d.1:List (List Int))) (t5:Int)
    (next:(Wq d.2.2.2.1 (i:Int) (List.length (d.2.2.2.1:List Int)):Int)≤(d.2.2.2.2.2.1:Int)→Ze (fun n m _ _=>Zc.l0 n m t0 t2 (List.length (d.1:List (List Int)):Int) ((i+1:Nat):Int) d) (AAu d)) :
    (r k:Nat)→k+r=List.length (d.2.2.2.1:List Int)→Ze (fun n m q _=>Zc.l2 n m q t0 t2 (List.length (d.1:List (List Int)):Int) (i:Int) t5 (Wq d.2.2.2.1 (i:Int) k:Int) (k:Int) d) (AAu d)
  | 0,k,hk=>by
    have hlt:=h1.r1
    refine Ze.succ2 (fun n m q _=>Zc.l2_eq n m q t0 t2 _ i t5 _ k d) (Ze.bif (fun h => ?_) (fun h=>Ze.bif (fun h2=>Ze.ret (Hj fun hm => ?_)) (fun h2 => ?_)))
    · have:=of_decide_eq_true h; omega
    · have h2:=of_decide_eq_true h2
      have:=hm.many i hi
      have hk':k=List.length (d.2.2.2.1:List Int):=by omega
      rw [hk'] at h2
      exact absurd this (Int.not_le.2 h2)
    · have h2:=of_decide_eq_false h2
      rw [Xv (by omega)]
      refine next ?_
      rw [show k=List.length (d.2.2.2.1:List Int) by omega] at h2
      exact Int.not_lt.1 h2
  | r+1,k,hk=>by
    have hlt:=h1.i1
    have hle:=AFu d.2.2.2.1 (i:Int) k
    refine Ze.succ2 (fun n m q _=>Zc.l2_eq n m q t0 t2 _ i t5 _ k d) (Ze.bif (fun h=>Ze.ite (by omega) (Ze.bif (fun h2 => ?_) (fun h2 => ?_))) (fun h => ?_))
    · have h2:=of_decide_eq_true h2
      rw [Xv (i:=Wq d.2.2.2.1 (i:Int) k) (by omega),Xv (by omega)]
      have e:Wq d.2.2.2.1 (i:Int) (k+1)=Wq d.2.2.2.1 (i:Int) k+1:=by
        simp only [Wq]; rw [if_pos (by simpa using h2)]
      rw [← e]
      exact AHp h1 t0 t2 i hi t5 next r (k+1) (by omega)
    · have h2:=of_decide_eq_false h2
      rw [Xv (by omega)]
      have e:Wq d.2.2.2.1 (i:Int) (k+1)=Wq d.2.2.2.1 (i:Int) k:=by
        simp only [Wq]; rw [if_neg (by simpa using h2)]; rfl
      rw [← e]
      exact AHp h1 t0 t2 i hi t5 next r (k+1) (by omega)
    · have:=of_decide_eq_false h; omega
theorem ANx (h1:AK8 d) (t0:den Xa) (t2:Bool) (i:Nat) (hi:i<List.length (d.1:List (List Int)))
    (next:(∀ k,k<4→Q8 d i k = -1∨(0≤Q8 d i k∧Q8 d i k<(List.length (d.1:List (List Int)):Int)))→(Wq d.2.2.2.1 (i:Int) (List.length (d.2.2.2.1:List Int)):Int)≤(d.2.2.2.2.2.1:Int)→Ze (fun n m _ _=>Zc.l0 n m t0 t2 (List.length (d.1:List (List Int)):Int) ((i+1:Nat):Int) d) (AAu d)) :
    (r k:Nat)→k+r=4→(∀ k',k'<k→Q8 d i k' = -1∨(0≤Q8 d i k'∧Q8 d i k'<(List.length (d.1:List (List Int)):Int)))→Ze (fun n m q _=>Zc.l1 n m q t0 t2 (List.length (d.1:List (List Int)):Int) (i:Int) (k:Int) d) (AAu d)
  | 0,k,hk,hp=>by
    refine Ze.succ2 (fun n m q _=>Zc.l1_eq n m q t0 t2 _ i k d) (Ze.bif (fun h => ?_) (fun h => ?_))
    · have:=of_decide_eq_true h; omega
    · exact (AHp d h1 t0 t2 i hi k (next fun k' hk'=>hp k' (by omega)) _ 0 (Nat.zero_add _)).enter1
  | r+1,k,hk,hp=>by
    have e:∀ x:Int,List.getD (List.getD (d.1:List (List Int)) (Int.toNat (i:Int)) (dft (.arr 4 (.int .i64))):List Int) (Int.toNat (k:Int)) (0:Int)=x↔Q8 d i k=x:=fun x=>by simp [Q8]
    have cont:(Q8 d i k = -1∨(0≤Q8 d i k∧Q8 d i k<(List.length (d.1:List (List Int)):Int)))→Ze (fun n m q _=>Zc.l1 n m q t0 t2 (List.length (d.1:List (List Int)):Int) (i:Int) (IntKind.wrap .i64 ((k:Int)+1)) d) (AAu d):=fun hk0=>by
      rw [Xv (by omega)]
      refine ANx h1 t0 t2 i hi next r (k+1) (by omega) (fun k' hk' => ?_)
      by_cases he:k'=k
      · subst he; exact hk0
      · exact hp k' (by omega)
    refine Ze.succ2 (fun n m q _=>Zc.l1_eq n m q t0 t2 _ i k d) (Ze.bif (fun h=>Ze.ite (by omega) (Ze.ite (by omega) (Ze.bifN (fun h2 => ?_) (fun h2=>Ze.ite (by omega) (Ze.ite (by omega) (Ze.call (Wd _ _) (fun v hv=>Ze.bifN (fun hb => ?_) (fun hb=>Ze.ret (Hj fun hm => ?_))))))))) (fun h => ?_))
    · exact cont (.inl ((e _).1 (of_decide_eq_true h2)))
    · exact cont (.inr (by simpa [Q8] using hv.1 hb))
    · have h2:=of_decide_eq_false h2
      rcases hm.exits i hi k (by omega) with h3 | h3
      · exact h2 ((e _).2 h3)
      · have:=hv.2 (by simpa [Q8] using h3)
        rw [hb] at this; cases this
    · have:=of_decide_eq_false h; omega
theorem ANw (h1:AK8 d) (t0:den Xa) (t2:Bool):(r i:Nat)→i+r=List.length (d.1:List (List Int))→(∀ i',i'<i→(∀ k,k<4→Q8 d i' k = -1∨(0≤Q8 d i' k∧Q8 d i' k<(List.length (d.1:List (List Int)):Int)))∧(Wq d.2.2.2.1 (i':Int) (List.length (d.2.2.2.1:List Int)):Int)≤(d.2.2.2.2.2.1:Int)) →
    Ze (fun n m _ _=>Zc.l0 n m t0 t2 (List.length (d.1:List (List Int)):Int) (i:Int) d) (AAu d)
  | 0,i,hi,hp=>by
    refine Ze.succ1 (fun n m _ _=>Zc.l0_eq n m t0 t2 _ i d) (Ze.bif (fun h => ?_) (fun h => ?_))
    · have:=of_decide_eq_true h; omega
    · exact (ANy d h1 (fun i' hi'=>hp i' (by omega)) t0 t2 i _ 0 (Nat.zero_add _) (fun i' hi'=>by omega)).enter
  | r+1,i,hi,hp=>by
    refine Ze.succ1 (fun n m _ _=>Zc.l0_eq n m t0 t2 _ i d) (Ze.bif (fun h => ?_) (fun h => ?_))
    · refine (ANx d h1 t0 t2 i (by omega) (fun he hm=>ANw h1 t0 t2 r (i+1) (by omega) (fun i' hi' => ?_)) 4 0 rfl (fun k' hk'=>by omega)).enter1
      by_cases he':i'=i
      · subst he'; exact ⟨he,hm⟩
      · exact hp i' (by omega)
    · have:=of_decide_eq_false h; omega
theorem AN0:Ze (fun n _ _ _=>Zc n d) (AAu d):=by
  refine Ze.succ (fun n _ _ _=>Zc.eq n d) ?_
  refine Ze.bif (fun h=>Ze.ret (Hj fun hm => ?_)) (fun a1 => ?_)
  · have:=of_decide_eq_true h; have:=hm.r1; omega
  refine Ze.bif (fun h=>Ze.ret (Hj fun hm => ?_)) (fun a2 => ?_)
  · have:=of_decide_eq_true h; have:=hm.r1; omega
  refine Ze.bif (fun h=>Ze.ret (Hj fun hm => ?_)) (fun a3 => ?_)
  · have:=of_decide_eq_true h; have:=hm.p1; omega
  refine Ze.bif (fun h=>Ze.ret (Hj fun hm => ?_)) (fun a4 => ?_)
  · have:=of_decide_eq_true h; have:=hm.p1; omega
  refine Ze.bifN (fun a5 => ?_) (fun h=>Ze.ret (Hj fun hm => ?_))
  rotate_left
  · have:=of_decide_eq_false h; have:=hm.c1; omega
  refine Ze.bif (fun h=>Ze.ret (Hj fun hm => ?_)) (fun a6 => ?_)
  · have:=of_decide_eq_true h; have:=hm.i1; omega
  refine Ze.bifN (fun a7 => ?_) (fun h=>Ze.ret (Hj fun hm => ?_))
  rotate_left
  · have:=of_decide_eq_false h; have:=hm.b1; omega
  have a1:=of_decide_eq_false a1
  have a2:=of_decide_eq_false a2
  have a3:=of_decide_eq_false a3
  have a4:=of_decide_eq_false a4
  have a5:=of_decide_eq_true a5
  have a6:=of_decide_eq_false a6
  have a7:=of_decide_eq_true a7
  refine Ze.call (Wd _ _) (fun v hv=>Ze.bifN (fun hb => ?_) (fun hb=>Ze.ret (Hj fun hm => ?_)))
  rotate_left
  · have:=hv.2 hm.room; rw [hb] at this; cases this
  refine Ze.call (Wd _ _) (fun v2 hv2=>Ze.bifN (fun hb2 => ?_) (fun hb2=>Ze.ret (Hj fun hm => ?_)))
  rotate_left
  · have:=hv2.2 hm.player; rw [hb2] at this; cases this
  refine Ze.call (Wd _ _) (fun v3 hv3=>Ze.bifN (fun hb3 => ?_) (fun hb3=>Ze.ret (Hj fun hm => ?_)))
  rotate_left
  · have:=hv3.2 hm.box; rw [hb3] at this; cases this
  exact (ANw d ⟨by omega,by omega,by omega,by omega,by omega,hv.1 hb,hv2.1 hb2,hv3.1 hb3⟩ d false _ 0 (Nat.zero_add _) (fun i' hi'=>by omega)).enter
end
end
end Go.Proofs.YtmemggdjnfccfaaGreatDoor.Ghost
namespace Go.Proofs.YtmemggdjnfccfaaGreatDoor.Ghost
open Go
abbrev Pl:=den Za
theorem AM3 (w:den Zb):Ze (fun n _ _ _=>Ye n w) (fun r=>r.1.1=true↔(List.length (w.1.1:List (List Int))≤20∧List.length (w.1.2.1:List Int)≤20∧List.length (w.1.2.2.1:List Int)≤20∧List.length (w.1.2.2.2.1:List Int)≤40 ∧
    List.length (w.1.2.2.2.2.1:List Bool)≤40∧List.length (w.2.1:List Int)≤40∧List.length (w.2.2.1:List Int)≤40∧List.length (w.2.2.2.1:List (den Za))≤40)):=by
  have no:∀ (p:Prop),¬ p→((((false,()),[]):Ye.R).1.1=true↔p):=fun p hp=>⟨fun e=>absurd e (by decide),fun e=>absurd e hp⟩
  refine Ze.succ (fun n _ _ _=>Ye.eq n w) ?_
  refine Ze.bif (fun a1 => ?_) (fun h=>Ze.ret (no _ fun hm => ?_))
  rotate_left
  · have:=of_decide_eq_false h; omega
  refine Ze.bif (fun a2 => ?_) (fun h=>Ze.ret (no _ fun hm => ?_))
  rotate_left
  · have:=of_decide_eq_false h; omega
  refine Ze.bif (fun a3 => ?_) (fun h=>Ze.ret (no _ fun hm => ?_))
  rotate_left
  · have:=of_decide_eq_false h; omega
  refine Ze.bif (fun a4 => ?_) (fun h=>Ze.ret (no _ fun hm => ?_))
  rotate_left
  · have:=of_decide_eq_false h; omega
  refine Ze.bif (fun a5 => ?_) (fun h=>Ze.ret (no _ fun hm => ?_))
  rotate_left
  · have:=of_decide_eq_false h; omega
  refine Ze.bif (fun a6 => ?_) (fun h=>Ze.ret (no _ fun hm => ?_))
  rotate_left
  · have:=of_decide_eq_false h; omega
  refine Ze.bif (fun a7 => ?_) (fun h=>Ze.ret (no _ fun hm => ?_))
  rotate_left
  · have:=of_decide_eq_false h; omega
  have a1:=of_decide_eq_true a1
  have a2:=of_decide_eq_true a2
  have a3:=of_decide_eq_true a3
  have a4:=of_decide_eq_true a4
  have a5:=of_decide_eq_true a5
  have a6:=of_decide_eq_true a6
  have a7:=of_decide_eq_true a7
  refine Ze.ret ?_
  constructor
  · intro h
    have:=of_decide_eq_true h
    omega
  · intro h
    exact decide_eq_true (by omega)
theorem Iv (x y:Pl):eqT Za x y=true↔x=y:=by
  obtain ⟨a,b,u⟩:=x
  obtain ⟨c,d,v⟩:=y
  cases u; cases v
  simp [eqT,AC9]
def Yx (l:List Pl) (p:Pl):Nat→Nat
  | 0=>0
  | n+1=>Yx l p n+(if List.getD l n (dft Za)=p then 1 else 0)
theorem En (l:List Pl) (p:Pl):(n:Nat)→Yx l p n≤n
  | 0=>Nat.le_refl 0
  | n+1=>by
    have:=En l p n
    simp only [Yx]
    split <;> omega
theorem ADo (w:den Zb) (hw:List.length (w.2.2.2.1:List (den Za))<4611686018427387904) (p:Pl) (t0:den Zb) (t1:Pl) (t4:Int):(r i:Nat)→i+r=List.length (w.2.2.2.1:List (den Za)) →
    Ze (fun n m _ _=>Z3.l0 n m t0 t1 t4 (Yx w.2.2.2.1 p i:Int) (i:Int) w p) (fun r=>r=(((Yx w.2.2.2.1 p (List.length (w.2.2.2.1:List (den Za))):Int),()),[]))
  | 0,i,hi=>by
    refine Ze.succ1 (fun n m _ _=>Z3.l0_eq n m t0 t1 t4 _ i w p) (Ze.bif (fun h => ?_) (fun h=>Ze.ret ?_))
    · have:=of_decide_eq_true h; omega
    · rw [show i=List.length (w.2.2.2.1:List (den Za)) by omega]
  | r+1,i,hi=>by
    have hle:=En w.2.2.2.1 p i
    refine Ze.succ1 (fun n m _ _=>Z3.l0_eq n m t0 t1 t4 _ i w p) (Ze.bif (fun h=>Ze.ite (by omega) (Ze.bif (fun h2 => ?_) (fun h2 => ?_))) (fun h => ?_))
    · rw [Xv (i:=Yx w.2.2.2.1 p i) (by omega),Xv (by omega)]
      have e:Yx w.2.2.2.1 p (i+1)=Yx w.2.2.2.1 p i+1:=by
        simp only [Yx]; rw [if_pos (by simpa using (Iv _ _).1 h2)]
      rw [← e]
      exact ADo w hw p t0 t1 t4 r (i+1) (by omega)
    · rw [Xv (by omega)]
      have e:Yx w.2.2.2.1 p (i+1)=Yx w.2.2.2.1 p i:=by
        simp only [Yx]
        rw [if_neg (fun he=>by rw [(Iv _ _).2 (by simpa using he)] at h2; cases h2)]; rfl
      rw [← e]
      exact ADo w hw p t0 t1 t4 r (i+1) (by omega)
    · have:=of_decide_eq_false h; omega
theorem AKj (w:den Zb) (hw:List.length (w.2.2.2.1:List (den Za))<4611686018427387904) (p:Pl):Ze (fun n _ _ _=>Z3 n w p) (fun r=>r=(((Yx w.2.2.2.1 p (List.length (w.2.2.2.1:List (den Za))):Int),()),[])):=by
  refine Ze.succ (fun n _ _ _=>Z3.eq n w p) ?_
  exact (ADo w hw p w p 0 _ 0 (Nat.zero_add _)).enter
def depI (l:List Pl):Nat→Nat→Pl→Nat
  | 0,c,p=>if p.1=(2:Int) then 99 else c
  | f+1,c,p=>if p.1=(2:Int) then (if 50<c+1 then 99 else depI l f (c+1) (List.getD l (Int.toNat p.2.1) (dft Za))) else c
def inPl (l:List Pl) (p:Pl):Prop:=p.1=(2:Int)→(0:Int)≤p.2.1∧(p.2.1:Int)<(List.length l:Int)
theorem AEr (w:den Zb) (hl:∀ i,i<List.length (w.2.2.2.1:List (den Za))→inPl w.2.2.2.1 (List.getD w.2.2.2.1 i (dft Za))) (t0:den Zb) (t1:Pl) (t4:Int):(f c:Nat)→f+c=51→(p:Pl)→inPl w.2.2.2.1 p →
    Ze (fun n m _ _=>Z1.l0 n m t0 t1 t4 (c:Int) w p) (fun r=>r=(((depI w.2.2.2.1 f c p:Int),()),[]))
  | 0,c,hc,p,hp=>by
    refine Ze.succ1 (fun n m _ _=>Z1.l0_eq n m t0 t1 t4 c w p) (Ze.bif (fun h=>Ze.bif (fun h2=>Ze.ret ?_) (fun h2 => ?_)) (fun h=>Ze.ret ?_))
    · have h:=of_decide_eq_true h
      simp only [depI]
      rw [if_pos h]
      rfl
    · rw [Xv (by omega)] at h2
      have:=of_decide_eq_false h2; omega
    · have h:=of_decide_eq_false h
      simp only [depI]
      rw [if_neg h]
  | f+1,c,hc,p,hp=>by
    refine Ze.succ1 (fun n m _ _=>Z1.l0_eq n m t0 t1 t4 c w p) (Ze.bif (fun h=>Ze.bif (fun h2=>Ze.ret ?_) (fun h2 => ?_)) (fun h=>Ze.ret ?_))
    · have h:=of_decide_eq_true h
      rw [Xv (by omega)] at h2
      have:=of_decide_eq_true h2
      simp only [depI]
      rw [if_pos h,if_pos (by omega)]
      rfl
    · have h:=of_decide_eq_true h
      rw [Xv (by omega)] at h2 ⊢
      have:=of_decide_eq_false h2
      obtain ⟨g1,g2⟩:=hp h
      refine Ze.ite ⟨g1,g2⟩ ?_
      simp only [depI]
      rw [if_pos h,if_neg (by omega)]
      exact AEr w hl t0 t1 t4 f (c+1) (by omega) _ (hl _ ((Int.toNat_lt g1).2 g2))
    · have h:=of_decide_eq_false h
      simp only [depI]
      rw [if_neg h]
theorem AG4 (w:den Zb) (hl:∀ i,i<List.length (w.2.2.2.1:List (den Za))→inPl w.2.2.2.1 (List.getD w.2.2.2.1 i (dft Za))) (p:Pl) (hp:inPl w.2.2.2.1 p) :
    Ze (fun n _ _ _=>Z1 n w p) (fun r=>r=(((depI w.2.2.2.1 51 0 p:Int),()),[])):=by
  refine Ze.succ (fun n _ _ _=>Z1.eq n w p) ?_
  exact (AEr w hl w p 0 51 0 rfl p hp).enter
def Lo (d:den Xa) (p:Pl):Int:=if p.1=(0:Int) then d.2.2.2.2.2.1 else if p.1=(1:Int) then d.2.2.2.2.2.2.1 else d.2.2.2.2.2.2.2.1
theorem AMg (w:den Zb) (p:Pl) (hp:(0:Int)≤p.1∧(p.1:Int)<3):Ze (fun n _ _ _=>Yo n w p) (fun r=>r=((Lo w.1 p,()),[])):=by
  refine Ze.succ (fun n _ _ _=>Yo.eq n w p) (Ze.ite hp (Ze.ret ?_))
  have key:∀ k:Int,0≤k→k<3→k=0∨k=1∨k=2:=fun k h0 h1=>by omega
  have h3:=key p.1 hp.1 hp.2
  unfold Lo
  rcases h3 with h | h | h <;> rw [h] <;> rfl
def K1 (d:den Xa) (p:Pl):Prop :=
  (p.1=(0:Int)∧(0:Int)≤p.2.1∧(p.2.1:Int)<(List.length (d.1:List (List Int)):Int))∨(p.1=(1:Int)∧(0:Int)≤p.2.1∧(p.2.1:Int)<(List.length (d.2.1:List Int):Int)) ∨
    (p.1=(2:Int)∧((0:Int)≤p.2.1∧(p.2.1:Int)<(List.length (d.2.2.2.1:List Int):Int))∧List.getD (d.2.2.2.2.1:List Bool) (Int.toNat p.2.1) false=true)
structure X9 (w:den Zb):Prop where
  may:AK9 w.1
  a1:List.length (w.2.1:List Int)=List.length (w.1.2.1:List Int)
  c1:List.length (w.2.2.1:List Int)=List.length (w.1.2.1:List Int)
  w1:List.length (w.2.2.2.1:List (den Za))=List.length (w.1.2.2.2.1:List Int)
  at_:∀ i,i<List.length (w.2.1:List Int)→(0≤List.getD (w.2.1:List Int) i (0:Int)∧List.getD (w.2.1:List Int) i (0:Int)<(List.length (w.1.1:List (List Int)):Int))∧(0≤List.getD (w.2.2.1:List Int) i (0:Int)∧List.getD (w.2.2.1:List Int) i (0:Int)≤1073741824)
  good:∀ i,i<List.length (w.2.2.2.1:List (den Za))→K1 w.1 (List.getD w.2.2.2.1 i (dft Za))
  deep:∀ i,i<List.length (w.2.2.2.1:List (den Za))→depI w.2.2.2.1 51 0 (List.getD w.2.2.2.1 i (dft Za))≤4∧(Yx w.2.2.2.1 (List.getD w.2.2.2.1 i (dft Za)) (List.length (w.2.2.2.1:List (den Za))):Int)≤Lo w.1 (List.getD w.2.2.2.1 i (dft Za))
abbrev Mc (w:den Zb) (r:Zg.R):Prop:=r.1.1=true↔X9 w
theorem Gn {w:den Zb} (h:¬ X9 w):Mc w ((false,()),[]):=⟨(fun e=>by cases e),fun e=>absurd e h⟩
section
variable (w:den Zb)
structure AGu (w:den Zb):Prop where
  may:AK9 w.1
  a1:List.length (w.2.1:List Int)=List.length (w.1.2.1:List Int)
  c1:List.length (w.2.2.1:List Int)=List.length (w.1.2.1:List Int)
  w1:List.length (w.2.2.2.1:List (den Za))=List.length (w.1.2.2.2.1:List Int)
theorem K1.inPl {d:den Xa} {l:List Pl} (hl:l.length=List.length (d.2.2.2.1:List Int)) {p:Pl} (h:K1 d p):inPl l p:=fun hk=>by
  rcases h with ⟨h,_⟩ | ⟨h,_⟩ | ⟨_,h,_⟩
  · rw [h] at hk; cases hk
  · rw [h] at hk; cases hk
  · rw [hl]; exact h
theorem K1.kind {d:den Xa} {p:Pl} (h:K1 d p):(0:Int)≤p.1∧(p.1:Int)<3:=by
  rcases h with ⟨h,_⟩ | ⟨h,_⟩ | ⟨h,_⟩ <;> rw [h] <;> decide
theorem AGd (h1:AGu w) (h2:∀ i,i<List.length (w.2.1:List Int)→(0≤List.getD (w.2.1:List Int) i (0:Int)∧List.getD (w.2.1:List Int) i (0:Int)<(List.length (w.1.1:List (List Int)):Int))∧(0≤List.getD (w.2.2.1:List Int) i (0:Int)∧List.getD (w.2.2.1:List Int) i (0:Int)≤1073741824))
    (h3:∀ i,i<List.length (w.2.2.2.1:List (den Za))→K1 w.1 (List.getD w.2.2.2.1 i (dft Za))) (t0:den Zb) (t2:Bool) (t4 t5:Int):(r i:Nat)→i+r=List.length (w.2.2.2.1:List (den Za)) →
    (∀ i',i'<i→depI w.2.2.2.1 51 0 (List.getD w.2.2.2.1 i' (dft Za))≤4∧(Yx w.2.2.2.1 (List.getD w.2.2.2.1 i' (dft Za)) (List.length (w.2.2.2.1:List (den Za))):Int)≤Lo w.1 (List.getD w.2.2.2.1 i' (dft Za))) →
    Ze (fun n m _ _=>Zg.l2 n m t0 t2 t4 t5 (i:Int) w w.1) (Mc w)
  | 0,i,hi,hp=>by
    refine Ze.succ1 (fun n m _ _=>Zg.l2_eq n m t0 t2 t4 t5 i w w.1) (Ze.bif (fun h => ?_) (fun h=>Ze.ret ?_))
    · have:=of_decide_eq_true h; omega
    · exact ⟨fun _=>⟨h1.may,h1.a1,h1.c1,h1.w1,h2,h3,fun i' hi'=>hp i' (by omega)⟩,fun _=>rfl⟩
  | r+1,i,hi,hp=>by
    have h16:=h1.may.i1
    have hw:=h1.w1
    have hg:=h3 i (by omega)
    have hin:∀ i,i<List.length (w.2.2.2.1:List (den Za))→inPl w.2.2.2.1 (List.getD w.2.2.2.1 i (dft Za)):=fun i hi=>(h3 i hi).inPl h1.w1
    refine Ze.succ1 (fun n m _ _=>Zg.l2_eq n m t0 t2 t4 t5 i w w.1) (Ze.bif (fun h=>Ze.ite (by omega) ?_) (fun h => ?_))
    · rw [Int.toNat_natCast]
      refine Ze.call (AG4 w hin _ (hin i (by omega))) (fun v hv => ?_)
      subst hv
      refine Ze.bif (fun hb=>Ze.ret (Gn fun hm => ?_)) (fun hb=>Ze.ite (by omega) (Ze.call (AKj w (by omega) _) (fun u hu=>Ze.ite (by omega) (Ze.call (AMg w _ hg.kind) (fun x hx => ?_)))))
      · have h4:(4:Int)<(depI w.2.2.2.1 51 0 (List.getD w.2.2.2.1 i (dft Za)):Int):=of_decide_eq_true hb
        have:=(hm.deep i (by omega)).1
        omega
      · subst hu hx
        refine Ze.bif (fun hb2=>Ze.ret (Gn fun hm => ?_)) (fun hb2 => ?_)
        · have h4:=of_decide_eq_true hb2
          exact absurd (hm.deep i (by omega)).2 (Int.not_le.2 h4)
        · have h4:¬ (4:Int)<(depI w.2.2.2.1 51 0 (List.getD w.2.2.2.1 i (dft Za)):Int):=of_decide_eq_false hb
          have h5:=of_decide_eq_false hb2
          rw [Xv (by omega)]
          refine AGd h1 h2 h3 t0 t2 t4 t5 r (i+1) (by omega) (fun i' hi' => ?_)
          by_cases he:i'=i
          · subst he
            exact ⟨by omega,Int.not_lt.1 h5⟩
          · exact hp i' (by omega)
    · have:=of_decide_eq_false h; omega
end
end Go.Proofs.YtmemggdjnfccfaaGreatDoor.Ghost
namespace Go.Proofs.YtmemggdjnfccfaaGreatDoor.Ghost
open Go
section
variable (w:den Zb)
theorem AGc (h1:AGu w) (h2:∀ i,i<List.length (w.2.1:List Int)→(0≤List.getD (w.2.1:List Int) i (0:Int)∧List.getD (w.2.1:List Int) i (0:Int)<(List.length (w.1.1:List (List Int)):Int))∧(0≤List.getD (w.2.2.1:List Int) i (0:Int)∧List.getD (w.2.2.1:List Int) i (0:Int)≤1073741824))
    (t0:den Zb) (t2:Bool) (t4:Int):(r i:Nat)→i+r=List.length (w.2.2.2.1:List (den Za))→(∀ i',i'<i→K1 w.1 (List.getD w.2.2.2.1 i' (dft Za))) →
    Ze (fun n m _ _=>Zg.l1 n m t0 t2 t4 (i:Int) w w.1) (Mc w)
  | 0,i,hi,hp=>by
    refine Ze.succ1 (fun n m _ _=>Zg.l1_eq n m t0 t2 t4 i w w.1) (Ze.bif (fun h => ?_) (fun h => ?_))
    · have:=of_decide_eq_true h; omega
    · exact (AGd w h1 h2 (fun i' hi'=>hp i' (by omega)) t0 t2 t4 i _ 0 (Nat.zero_add _) (fun i' hi'=>by omega)).enter
  | r+1,i,hi,hp=>by
    have h16:=h1.may.i1
    have hw:=h1.w1
    refine Ze.succ1 (fun n m _ _=>Zg.l1_eq n m t0 t2 t4 i w w.1) (Ze.bif (fun h=>Ze.ite (by omega) ?_) (fun h => ?_))
    rotate_left
    · have:=of_decide_eq_false h; omega
    rw [Int.toNat_natCast]
    have next:K1 w.1 (List.getD w.2.2.2.1 i (dft Za))→Ze (fun n m _ _=>Zg.l1 n m t0 t2 t4 (IntKind.wrap .i64 ((i:Int)+1)) w w.1) (Mc w):=fun hg=>by
      rw [Xv (by omega)]
      refine AGc h1 h2 t0 t2 t4 r (i+1) (by omega) (fun i' hi' => ?_)
      by_cases he:i'=i
      · subst he; exact hg
      · exact hp i' (by omega)
    have no:¬ K1 w.1 (List.getD w.2.2.2.1 i (dft Za))→Mc w ((false,()),[]):=fun hn=>Gn fun hm=>hn (hm.good i (by omega))
    have hb1:=h1.may.b1
    generalize hpe:(List.getD w.2.2.2.1 i (dft Za):den Za)=p at next no ⊢
    have ne01:¬ (0:Int)=1:=by decide
    have ne02:¬ (0:Int)=2:=by decide
    have ne12:¬ (1:Int)=2:=by decide
    have box:(p.1=(2:Int)→((0:Int)≤p.2.1∧(p.2.1:Int)<(List.length (w.1.2.2.2.1:List Int):Int))→List.getD (w.1.2.2.2.2.1:List Bool) (Int.toNat p.2.1) false=true→K1 w.1 p):=fun a b c=>.inr (.inr ⟨a,b,c⟩)
    have t2':(p.1=(2:Int)∨¬ K1 w.1 p)→Ze (fun n m _ _=>bif (decide ((p.1:Int)=2)) then
            Option.bind (Xc n (p.2.1:Int) ((List.length (w.1.2.2.2.1:(List Int))):Int)) fun r6 =>
            bif (r6.1.1:Bool) then
              if (0:Int)≤(p.2.1:Int)∧(p.2.1:Int)<(((List.length (w.1.2.2.2.2.1:(List Bool))):Nat):Int) then
              bif (!(List.getD (w.1.2.2.2.2.1:(List Bool)) (Int.toNat (p.2.1:Int)) false:Bool)) then
                some ((false,()),[])
              else
                Zg.l1 n m t0 t2 t4 (IntKind.wrap .i64 ((i:Int)+1)) w w.1
              else none
            else
              some ((false,()),[])
          else
            some ((false,()),[])) (Mc w):=fun hor=>by
      refine Ze.bif (fun k2=>Ze.call (Wd _ _) (fun v hv=>Ze.bif (fun hb=>Ze.ite ?_ (Ze.bifN (fun hx => ?_) (fun hx=>Ze.ret (no ?_)))) (fun hb=>Ze.ret (no ?_)))) (fun k2=>Ze.ret (no ?_))
      · rw [hb1]; exact hv.1 hb
      · exact next (box (of_decide_eq_true k2) (hv.1 hb) hx)
      · rintro (⟨a,_⟩ | ⟨a,_⟩ | ⟨a,b,c⟩)
        · have:=of_decide_eq_true k2; rw [a] at this; exact ne02 this
        · have:=of_decide_eq_true k2; rw [a] at this; exact ne12 this
        · rw [hx] at c; cases c
      · rintro (⟨a,_⟩ | ⟨a,_⟩ | ⟨a,b,c⟩)
        · have:=of_decide_eq_true k2; rw [a] at this; exact ne02 this
        · have:=of_decide_eq_true k2; rw [a] at this; exact ne12 this
        · have:=hv.2 b; rw [hb] at this; cases this
      · rcases hor with hor | hor
        · exact absurd hor (of_decide_eq_false k2)
        · exact hor
    refine Ze.bif (fun k0=>Ze.call (Wd _ _) (fun v hv=>Ze.bif (fun hb=>next (.inl ⟨of_decide_eq_true k0,hv.1 hb⟩)) (fun hb => ?_))) (fun k0 => ?_)
    · have ng:¬ K1 w.1 p:=by
        have k0:=of_decide_eq_true k0
        rintro (⟨a,b⟩ | ⟨a,_⟩ | ⟨a,_⟩)
        · have:=hv.2 b; rw [hb] at this; cases this
        · rw [k0] at a; exact ne01 a
        · rw [k0] at a; exact ne02 a
      refine Ze.bif (fun k1 => ?_) (fun k1=>t2' (.inr ng))
      have k0:=of_decide_eq_true k0
      have k1:=of_decide_eq_true k1
      rw [k0] at k1; exact absurd k1 ne01
    · refine Ze.bif (fun k1=>Ze.call (Wd _ _) (fun v hv=>Ze.bif (fun hb=>next (.inr (.inl ⟨of_decide_eq_true k1,hv.1 hb⟩))) (fun hb => ?_))) (fun k1 => ?_)
      · have ng:¬ K1 w.1 p:=by
          have k1:=of_decide_eq_true k1
          rintro (⟨a,b⟩ | ⟨a,b⟩ | ⟨a,_⟩)
          · rw [k1] at a; exact ne01 a.symm
          · have:=hv.2 b; rw [hb] at this; cases this
          · rw [k1] at a; exact ne12 a
        exact t2' (.inr ng)
      · by_cases k2:p.1=(2:Int)
        · exact t2' (.inl k2)
        · refine t2' (.inr ?_)
          rintro (⟨a,b⟩ | ⟨a,b⟩ | ⟨a,_⟩)
          · exact of_decide_eq_false k0 a
          · exact of_decide_eq_false k1 a
          · exact k2 a
theorem AGb (h1:AGu w) (t0:den Zb) (t2:Bool):(r i:Nat)→i+r=List.length (w.2.1:List Int)→(∀ i',i'<i→(0≤List.getD (w.2.1:List Int) i' (0:Int)∧List.getD (w.2.1:List Int) i' (0:Int)<(List.length (w.1.1:List (List Int)):Int))∧(0≤List.getD (w.2.2.1:List Int) i' (0:Int)∧List.getD (w.2.2.1:List Int) i' (0:Int)≤1073741824)) →
    Ze (fun n m _ _=>Zg.l0 n m t0 t2 (i:Int) w w.1) (Mc w)
  | 0,i,hi,hp=>by
    refine Ze.succ1 (fun n m _ _=>Zg.l0_eq n m t0 t2 i w w.1) (Ze.bif (fun h => ?_) (fun h => ?_))
    · have:=of_decide_eq_true h; omega
    · exact (AGc w h1 (fun i' hi'=>hp i' (by omega)) t0 t2 i _ 0 (Nat.zero_add _) (fun i' hi'=>by omega)).enter
  | r+1,i,hi,hp=>by
    have h6:=h1.may.p1
    have ha:=h1.a1
    have hc:=h1.c1
    refine Ze.succ1 (fun n m _ _=>Zg.l0_eq n m t0 t2 i w w.1) (Ze.bif (fun h=>Ze.ite (by omega) (Ze.call (Wd _ _) (fun v hv=>Ze.bifN (fun hb=>Ze.ite (by omega) (Ze.call (AIw _) (fun u hu=>Ze.bifN (fun hb2 => ?_) (fun hb2=>Ze.ret (Gn fun hm => ?_))))) (fun hb=>Ze.ret (Gn fun hm => ?_))))) (fun h => ?_))
    · rw [Xv (by omega)]
      refine AGb h1 t0 t2 r (i+1) (by omega) (fun i' hi' => ?_)
      by_cases he:i'=i
      · subst he; exact ⟨by simpa using hv.1 hb,by simpa using hu.1 hb2⟩
      · exact hp i' (by omega)
    · have:=hu.2 (by simpa using (hm.at_ i (by omega)).2)
      rw [hb2] at this; cases this
    · have:=hv.2 (by simpa using (hm.at_ i (by omega)).1)
      rw [hb] at this; cases this
    · have:=of_decide_eq_false h; omega
theorem AHy:Ze (fun n _ _ _=>Zg n w) (Mc w):=by
  refine Ze.succ (fun n _ _ _=>Zg.eq n w) ?_
  refine Ze.call (AN0 w.1) (fun v hv=>Ze.bifN (fun hb => ?_) (fun hb=>Ze.ret (Gn fun hm => ?_)))
  rotate_left
  · have:=hv.2 hm.may; rw [hb] at this; cases this
  refine Ze.bifN (fun a1 => ?_) (fun h=>Ze.ret (Gn fun hm => ?_))
  rotate_left
  · have:=of_decide_eq_false h; have:=hm.a1; omega
  refine Ze.bifN (fun a2 => ?_) (fun h=>Ze.ret (Gn fun hm => ?_))
  rotate_left
  · have:=of_decide_eq_false h; have:=hm.c1; omega
  refine Ze.bifN (fun a3 => ?_) (fun h=>Ze.ret (Gn fun hm => ?_))
  rotate_left
  · have:=of_decide_eq_false h; have:=hm.w1; omega
  have a1:=of_decide_eq_true a1
  have a2:=of_decide_eq_true a2
  have a3:=of_decide_eq_true a3
  exact (AGb w ⟨hv.1 hb,by omega,by omega,by omega⟩ w false _ 0 (Nat.zero_add _) (fun i' hi'=>by omega)).enter
end
end Go.Proofs.YtmemggdjnfccfaaGreatDoor.Ghost
namespace Go.Proofs.YtmemggdjnfccfaaGreatDoor.Ghost
open Go
theorem AM2 {α:Type} (d:α) {a b:List α} (hl:a.length=b.length) (h:∀ i,i<a.length→a.getD i d=b.getD i d):a=b:=by
  refine List.ext_getElem hl (fun i h1 h2 => ?_)
  have:=h i h1
  rw [List.getD_eq_getElem?_getD,List.getD_eq_getElem?_getD,List.getElem?_eq_getElem h1,List.getElem?_eq_getElem h2] at this
  exact this
structure Sm (w:den Zb):Prop where
  e:List.length (w.1.1:List (List Int))≤1048576
  b:List.length (w.1.2.2.2.2.1:List Bool)≤1048576
  p:List.length (w.1.2.1:List Int)≤1048576
  c:List.length (w.1.2.2.1:List Int)≤1048576
  i:List.length (w.1.2.2.2.1:List Int)≤1048576
  a:List.length (w.2.1:List Int)≤1048576
  wc:List.length (w.2.2.1:List Int)≤1048576
  wh:List.length (w.2.2.2.1:List (den Za))≤1048576
  rows:∀ i,i<List.length (w.1.1:List (List Int))→List.length (List.getD (w.1.1:List (List Int)) i (dft (.arr 4 (.int .i64))):List Int)=4
section
variable (a b:den Zb) (ha:Sm a) (hb:Sm b)
include ha hb
end
end Go.Proofs.YtmemggdjnfccfaaGreatDoor.Ghost
namespace Go.Proofs.YtmemggdjnfccfaaGreatDoor.Ghost
open Go
theorem Di (l:List Int) (h:l.length≤1048576):Ze (fun n _ _ _=>J8 n l) (fun r=>r=((l,()),[(0,[])])):=by
  refine Ze.succ (G:=fun _ _ _ _=>some ((l,()),[(0,[])])) (fun n _ _ _ => ?_) (Ze.ret rfl)
  show (if l.length≤1048576 then some ((l,()),[(0,[])]) else none)=some ((l,()),[(0,[])])
  rw [if_pos h]
theorem AEl (l:List Pl) (h:l.length≤1048576):Ze (fun n _ _ _=>Y4 n l) (fun r=>r=((l,()),[(0,[])])):=by
  refine Ze.succ (G:=fun _ _ _ _=>some ((l,()),[(0,[])])) (fun n _ _ _ => ?_) (Ze.ret rfl)
  show (if l.length≤1048576 then some ((l,()),[(0,[])]) else none)=some ((l,()),[(0,[])])
  rw [if_pos h]
theorem Mp (w:den Zb) (h:Sm w):Ze (fun n _ _ _=>Jp n w) (fun r=>r=((w,()),[(0,[1]),(0,[2]),(0,[3])])):=by
  refine Ze.succ (fun n _ _ _=>Jp.eq n w) (Ze.call (Di _ h.a) (fun v1 e1 => ?_))
  subst e1
  refine Ze.bifT rfl (Ze.call (Di _ h.wc) (fun v2 e2 => ?_))
  subst e2
  refine Ze.bifT rfl (Ze.call (AEl _ h.wh) (fun v3 e3 => ?_))
  subst e3
  exact Ze.bifT rfl (Ze.ret rfl)
end Go.Proofs.YtmemggdjnfccfaaGreatDoor.Ghost
namespace Go.Proofs.YtmemggdjnfccfaaGreatDoor.Ghost
open Go
structure Ok (w:den Zb):Prop where
  sm:Sm w
  right:X9 w
abbrev AOx (w:den Zb):Prop:=List.length (w.1.1:List (List Int))≤20∧List.length (w.1.2.1:List Int)≤20∧List.length (w.1.2.2.1:List Int)≤20∧List.length (w.1.2.2.2.1:List Int)≤40 ∧
    List.length (w.1.2.2.2.2.1:List Bool)≤40∧List.length (w.2.1:List Int)≤40∧List.length (w.2.2.1:List Int)≤40∧List.length (w.2.2.2.1:List (den Za))≤40
theorem ABh {α:Type} {l:List α} {i:Nat} (d:α) (h:i<l.length):l.getD i d∈l:=by
  rw [List.getD_eq_getElem?_getD,List.getElem?_eq_getElem h]
  exact List.getElem_mem h
theorem BYc {w:den Zb} (hw:wfD Zb w) (hf:AOx w) (hr:X9 w):Ok w:=by
  obtain ⟨f1,f2,f3,f4,f5,f6,f7,f8⟩:=hf
  refine ⟨⟨by omega,by omega,by omega,by omega,by omega,by omega,by omega,by omega,fun i hi => ?_⟩,hr⟩
  have h1:∀ y:List Int,y∈(w.1.1:List (List Int))→wfD (.arr 4 (.int .i64)) y:=hw.1.1.2
  exact (h1 _ (ABh _ hi)).1
theorem AOo {a:Int} (h:wfD (.int .u8) a):0≤a∧a<256:=by
  have h1:IntKind.u8.min≤a∧a≤IntKind.u8.max:=h
  have e1:IntKind.u8.min=0:=rfl
  have e2:IntKind.u8.max=255:=rfl
  omega
theorem ANl {a:Int} (h:wfD (.int .u8) a) {n:Nat} (hn:0<n):∃ i:Nat,i<n∧Int.tmod (IntKind.wrap .i64 a) (n:Int)=(i:Int):=by
  obtain ⟨h0,h1⟩:=AOo h
  rw [K6 (by omega) (by omega)]
  refine ⟨(a % (n:Int)).toNat,?_,?_⟩
  · have:=Int.emod_lt_of_pos a (show (0:Int)<n by omega)
    have:=Int.emod_nonneg a (show (n:Int)≠0 by omega)
    omega
  · rw [Int.tmod_eq_emod_of_nonneg h0]
    have:=Int.emod_nonneg a (show (n:Int)≠0 by omega)
    omega
theorem H8 {α:Type} (l:List α) (i j:Nat) (x d:α) (h:i<l.length):(l.set i x).getD j d=if j=i then x else l.getD j d:=by
  rw [List.getD_eq_getElem?_getD,List.getD_eq_getElem?_getD]
  by_cases hj:j=i
  · subst hj; rw [List.getElem?_set_self h,if_pos rfl]; rfl
  · rw [List.getElem?_set_ne (Ne.symm hj),if_neg hj]
theorem X9.pos {w:den Zb} (h:X9 w):0<List.length (w.2.1:List Int):=by have:=h.a1; have:=h.may.p1; omega
end Go.Proofs.YtmemggdjnfccfaaGreatDoor.Ghost
