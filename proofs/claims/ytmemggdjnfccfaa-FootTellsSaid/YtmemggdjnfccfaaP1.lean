/- What functions come to, and that the statements are answered with 'true'. Conditions: none. -/
import Derived.Test.YtmemggdjnfccfaaS
import Derived.Test.YtmemggdjnfccfaaGE
import Derived.Test.YtmemggdjnfccfaaA4
import Derived.KernelRfl
set_option linter.unusedVariables false
set_option linter.unusedSimpArgs false
set_option linter.unusedSectionVars false
set_option linter.unnecessarySimpa false
namespace Go.Proofs.Ytmemggdjnfccfaa.Ghost
open Go
section
theorem in_spec (a b:Int):Comes (fun n _ _ _=>innkeepref06_in n a b) (fun r=>r.1.1=true↔0≤a∧a<b):=by
  refine Comes.succ (fun n _ _ _=>innkeepref06_in.eq n a b) (Comes.bif (fun h=>Comes.ret ?_) (fun h=>Comes.ret ?_))
  · have:=of_decide_eq_true h
    simp [this]
  · have:=of_decide_eq_false h
    simp [this]
theorem is_spec (a:Int):Comes (fun n _ _ _=>innkeepref01_Is n a) (fun r=>r.1.1=true↔0≤a∧a≤1073741824):=by
  refine Comes.succ (fun n _ _ _=>innkeepref01_Is.eq n a) (Comes.bif (fun h=>Comes.ret ?_) (fun h=>Comes.ret ?_))
  · have:=of_decide_eq_true h
    simp [this]
  · have:=of_decide_eq_false h
    simp [this]
def exitAt (d:den tDesc) (i k:Nat):Int:=List.getD (List.getD (d.1:List (List Int)) i (dft (.arr 4 (.int .i64))):List Int) k (0:Int)
def manyI (l:List Int) (x:Int):Nat→Nat
  | 0=>0
  | n+1=>manyI l x n+(if List.getD l n (0:Int)=x then 1 else 0)
theorem manyI_le (l:List Int) (x:Int):(n:Nat)→manyI l x n≤n
  | 0=>Nat.le_refl 0
  | n+1=>by
    have:=manyI_le l x n
    simp only [manyI]
    split <;> omega
structure MayP (d:den tDesc):Prop where
  r1:1≤List.length (d.1:List (List Int))∧List.length (d.1:List (List Int))≤8
  p1:1≤List.length (d.2.1:List Int)∧List.length (d.2.1:List Int)≤6
  c1:List.length (d.2.2.1:List Int)=List.length (d.2.1:List Int)
  i1:List.length (d.2.2.2.1:List Int)≤16
  b1:List.length (d.2.2.2.2.1:List Bool)=List.length (d.2.2.2.1:List Int)
  room:0≤(d.2.2.2.2.2.1:Int)∧(d.2.2.2.2.2.1:Int)<65
  player:0≤(d.2.2.2.2.2.2.1:Int)∧(d.2.2.2.2.2.2.1:Int)<65
  box:0≤(d.2.2.2.2.2.2.2.1:Int)∧(d.2.2.2.2.2.2.2.1:Int)<65
  exits:∀ i,i<List.length (d.1:List (List Int))→∀ k,k<4→exitAt d i k = -1∨(0≤exitAt d i k∧exitAt d i k<(List.length (d.1:List (List Int)):Int))
  many:∀ i:Nat,i<List.length (d.1:List (List Int))→(manyI d.2.2.2.1 (i:Int) (List.length (d.2.2.2.1:List Int)):Int)≤(d.2.2.2.2.2.1:Int)
  players:∀ i,i<List.length (d.2.1:List Int)→(0≤List.getD (d.2.1:List Int) i (0:Int)∧List.getD (d.2.1:List Int) i (0:Int)<(List.length (d.1:List (List Int)):Int))∧(0≤List.getD (d.2.2.1:List Int) i (0:Int)∧List.getD (d.2.2.1:List Int) i (0:Int)≤1073741824)
  items:∀ i,i<List.length (d.2.2.2.1:List Int)→0≤List.getD (d.2.2.2.1:List Int) i (0:Int)∧List.getD (d.2.2.2.1:List Int) i (0:Int)<(List.length (d.1:List (List Int)):Int)
abbrev mayQ (d:den tDesc) (r:innkeepref06_May.R):Prop:=r.1.1=true↔MayP d
theorem mayQ_no {d:den tDesc} (h:¬ MayP d):mayQ d ((false,()),[]):=⟨(fun e=>by cases e),fun e=>absurd e h⟩
section
variable (d:den tDesc)
structure May1 (d:den tDesc):Prop where
  r1:1≤List.length (d.1:List (List Int))∧List.length (d.1:List (List Int))≤8
  p1:1≤List.length (d.2.1:List Int)∧List.length (d.2.1:List Int)≤6
  c1:List.length (d.2.2.1:List Int)=List.length (d.2.1:List Int)
  i1:List.length (d.2.2.2.1:List Int)≤16
  b1:List.length (d.2.2.2.2.1:List Bool)=List.length (d.2.2.2.1:List Int)
  room:0≤(d.2.2.2.2.2.1:Int)∧(d.2.2.2.2.2.1:Int)<65
  player:0≤(d.2.2.2.2.2.2.1:Int)∧(d.2.2.2.2.2.2.1:Int)<65
  box:0≤(d.2.2.2.2.2.2.2.1:Int)∧(d.2.2.2.2.2.2.2.1:Int)<65
theorem may_l4 (h1:May1 d) (h2:∀ i,i<List.length (d.1:List (List Int))→(∀ k,k<4→exitAt d i k = -1∨(0≤exitAt d i k∧exitAt d i k<(List.length (d.1:List (List Int)):Int)))∧(manyI d.2.2.2.1 (i:Int) (List.length (d.2.2.2.1:List Int)):Int)≤(d.2.2.2.2.2.1:Int))
    (h3:∀ i,i<List.length (d.2.1:List Int)→(0≤List.getD (d.2.1:List Int) i (0:Int)∧List.getD (d.2.1:List Int) i (0:Int)<(List.length (d.1:List (List Int)):Int))∧(0≤List.getD (d.2.2.1:List Int) i (0:Int)∧List.getD (d.2.2.1:List Int) i (0:Int)≤1073741824))
    (t0:den tDesc) (t2:Bool) (t4 t8:Int):(r i:Nat)→i+r=List.length (d.2.2.2.1:List Int)→(∀ i',i'<i→0≤List.getD (d.2.2.2.1:List Int) i' (0:Int)∧List.getD (d.2.2.2.1:List Int) i' (0:Int)<(List.length (d.1:List (List Int)):Int)) →
    Comes (fun n m _ _=>innkeepref06_May.l4 n m t0 t2 (List.length (d.1:List (List Int)):Int) t4 t8 (i:Int) d) (mayQ d)
  | 0,i,hi,hp=>by
    refine Comes.succ1 (fun n m _ _=>innkeepref06_May.l4_eq n m t0 t2 _ t4 t8 i d) (Comes.bif (fun h => ?_) (fun h=>Comes.ret ?_))
    · have:=of_decide_eq_true h; omega
    · exact ⟨fun _=>⟨h1.r1,h1.p1,h1.c1,h1.i1,h1.b1,h1.room,h1.player,h1.box,fun i hi=>(h2 i hi).1,fun i hi=>(h2 i hi).2,h3,fun i' hi'=>hp i' (by omega)⟩,fun _=>rfl⟩
  | r+1,i,hi,hp=>by
    have hlt:=h1.i1
    refine Comes.succ1 (fun n m _ _=>innkeepref06_May.l4_eq n m t0 t2 _ t4 t8 i d) (Comes.bif (fun h => ?_) (fun h => ?_))
    · refine Comes.ite (by omega) (Comes.call (in_spec _ _) (fun v hv=>Comes.bifN (fun hb => ?_) (fun hb=>Comes.ret (mayQ_no fun hm => ?_))))
      · have hg:=hv.1 hb
        rw [wrap_succ (by omega)]
        refine may_l4 h1 h2 h3 t0 t2 t4 t8 r (i+1) (by omega) (fun i' hi' => ?_)
        by_cases he:i'=i
        · subst he; simpa using hg
        · exact hp i' (by omega)
      · have:=hv.2 (by simpa using hm.items i (by omega))
        rw [hb] at this; cases this
    · have:=of_decide_eq_false h; omega
theorem may_l3 (h1:May1 d) (h2:∀ i,i<List.length (d.1:List (List Int))→(∀ k,k<4→exitAt d i k = -1∨(0≤exitAt d i k∧exitAt d i k<(List.length (d.1:List (List Int)):Int)))∧(manyI d.2.2.2.1 (i:Int) (List.length (d.2.2.2.1:List Int)):Int)≤(d.2.2.2.2.2.1:Int))
    (t0:den tDesc) (t2:Bool) (t4:Int):(r i:Nat)→i+r=List.length (d.2.1:List Int)→(∀ i',i'<i→(0≤List.getD (d.2.1:List Int) i' (0:Int)∧List.getD (d.2.1:List Int) i' (0:Int)<(List.length (d.1:List (List Int)):Int))∧(0≤List.getD (d.2.2.1:List Int) i' (0:Int)∧List.getD (d.2.2.1:List Int) i' (0:Int)≤1073741824)) →
    Comes (fun n m _ _=>innkeepref06_May.l3 n m t0 t2 (List.length (d.1:List (List Int)):Int) t4 (i:Int) d) (mayQ d)
  | 0,i,hi,hp=>by
    refine Comes.succ1 (fun n m _ _=>innkeepref06_May.l3_eq n m t0 t2 _ t4 i d) (Comes.bif (fun h => ?_) (fun h => ?_))
    · have:=of_decide_eq_true h; omega
    · exact (may_l4 d h1 h2 (fun i' hi'=>hp i' (by omega)) t0 t2 t4 i _ 0 (Nat.zero_add _) (fun i' hi'=>by omega)).enter
  | r+1,i,hi,hp=>by
    have hlt:=h1.p1
    refine Comes.succ1 (fun n m _ _=>innkeepref06_May.l3_eq n m t0 t2 _ t4 i d) (Comes.bif (fun h => ?_) (fun h => ?_))
    · refine Comes.ite (by omega) (Comes.call (in_spec _ _) (fun v hv=>Comes.bifN (fun hb => ?_) (fun hb=>Comes.ret (mayQ_no fun hm => ?_))))
      · have hg:=hv.1 hb
        refine Comes.ite (by rw [h1.c1]; omega) (Comes.call (is_spec _) (fun u hu=>Comes.bifN (fun hb2 => ?_) (fun hb2=>Comes.ret (mayQ_no fun hm => ?_))))
        · have hg2:=hu.1 hb2
          rw [wrap_succ (by omega)]
          refine may_l3 h1 h2 t0 t2 t4 r (i+1) (by omega) (fun i' hi' => ?_)
          by_cases he:i'=i
          · subst he; exact ⟨by simpa using hg,by simpa using hg2⟩
          · exact hp i' (by omega)
        · have:=hu.2 (by simpa using (hm.players i (by omega)).2)
          rw [hb2] at this; cases this
      · have:=hv.2 (by simpa using (hm.players i (by omega)).1)
        rw [hb] at this; cases this
    · have:=of_decide_eq_false h; omega
theorem may_l2 (h1:May1 d) (t0:den tDesc) (t2:Bool) (i:Nat) (hi:i<List.length (d.1:List (List Int))) (t5:Int)
    (next:(manyI d.2.2.2.1 (i:Int) (List.length (d.2.2.2.1:List Int)):Int)≤(d.2.2.2.2.2.1:Int)→Comes (fun n m _ _=>innkeepref06_May.l0 n m t0 t2 (List.length (d.1:List (List Int)):Int) ((i+1:Nat):Int) d) (mayQ d)) :
    (r k:Nat)→k+r=List.length (d.2.2.2.1:List Int)→Comes (fun n m q _=>innkeepref06_May.l2 n m q t0 t2 (List.length (d.1:List (List Int)):Int) (i:Int) t5 (manyI d.2.2.2.1 (i:Int) k:Int) (k:Int) d) (mayQ d)
  | 0,k,hk=>by
    have hlt:=h1.r1
    refine Comes.succ2 (fun n m q _=>innkeepref06_May.l2_eq n m q t0 t2 _ i t5 _ k d) (Comes.bif (fun h => ?_) (fun h=>Comes.bif (fun h2=>Comes.ret (mayQ_no fun hm => ?_)) (fun h2 => ?_)))
    · have:=of_decide_eq_true h; omega
    · have h2:=of_decide_eq_true h2
      have:=hm.many i hi
      have hk':k=List.length (d.2.2.2.1:List Int):=by omega
      rw [hk'] at h2
      exact absurd this (Int.not_le.2 h2)
    · have h2:=of_decide_eq_false h2
      rw [wrap_succ (by omega)]
      refine next ?_
      rw [show k=List.length (d.2.2.2.1:List Int) by omega] at h2
      exact Int.not_lt.1 h2
  | r+1,k,hk=>by
    have hlt:=h1.i1
    have hle:=manyI_le d.2.2.2.1 (i:Int) k
    refine Comes.succ2 (fun n m q _=>innkeepref06_May.l2_eq n m q t0 t2 _ i t5 _ k d) (Comes.bif (fun h=>Comes.ite (by omega) (Comes.bif (fun h2 => ?_) (fun h2 => ?_))) (fun h => ?_))
    · have h2:=of_decide_eq_true h2
      rw [wrap_succ (i:=manyI d.2.2.2.1 (i:Int) k) (by omega),wrap_succ (by omega)]
      have e:manyI d.2.2.2.1 (i:Int) (k+1)=manyI d.2.2.2.1 (i:Int) k+1:=by
        simp only [manyI]; rw [if_pos (by simpa using h2)]
      rw [← e]
      exact may_l2 h1 t0 t2 i hi t5 next r (k+1) (by omega)
    · have h2:=of_decide_eq_false h2
      rw [wrap_succ (by omega)]
      have e:manyI d.2.2.2.1 (i:Int) (k+1)=manyI d.2.2.2.1 (i:Int) k:=by
        simp only [manyI]; rw [if_neg (by simpa using h2)]; rfl
      rw [← e]
      exact may_l2 h1 t0 t2 i hi t5 next r (k+1) (by omega)
    · have:=of_decide_eq_false h; omega
theorem may_l1 (h1:May1 d) (t0:den tDesc) (t2:Bool) (i:Nat) (hi:i<List.length (d.1:List (List Int)))
    (next:(∀ k,k<4→exitAt d i k = -1∨(0≤exitAt d i k∧exitAt d i k<(List.length (d.1:List (List Int)):Int)))→(manyI d.2.2.2.1 (i:Int) (List.length (d.2.2.2.1:List Int)):Int)≤(d.2.2.2.2.2.1:Int)→Comes (fun n m _ _=>innkeepref06_May.l0 n m t0 t2 (List.length (d.1:List (List Int)):Int) ((i+1:Nat):Int) d) (mayQ d)) :
    (r k:Nat)→k+r=4→(∀ k',k'<k→exitAt d i k' = -1∨(0≤exitAt d i k'∧exitAt d i k'<(List.length (d.1:List (List Int)):Int)))→Comes (fun n m q _=>innkeepref06_May.l1 n m q t0 t2 (List.length (d.1:List (List Int)):Int) (i:Int) (k:Int) d) (mayQ d)
  | 0,k,hk,hp=>by
    refine Comes.succ2 (fun n m q _=>innkeepref06_May.l1_eq n m q t0 t2 _ i k d) (Comes.bif (fun h => ?_) (fun h => ?_))
    · have:=of_decide_eq_true h; omega
    · exact (may_l2 d h1 t0 t2 i hi k (next fun k' hk'=>hp k' (by omega)) _ 0 (Nat.zero_add _)).enter1
  | r+1,k,hk,hp=>by
    have e:∀ x:Int,List.getD (List.getD (d.1:List (List Int)) (Int.toNat (i:Int)) (dft (.arr 4 (.int .i64))):List Int) (Int.toNat (k:Int)) (0:Int)=x↔exitAt d i k=x:=fun x=>by simp [exitAt]
    have cont:(exitAt d i k = -1∨(0≤exitAt d i k∧exitAt d i k<(List.length (d.1:List (List Int)):Int)))→Comes (fun n m q _=>innkeepref06_May.l1 n m q t0 t2 (List.length (d.1:List (List Int)):Int) (i:Int) (IntKind.wrap .i64 ((k:Int)+1)) d) (mayQ d):=fun hk0=>by
      rw [wrap_succ (by omega)]
      refine may_l1 h1 t0 t2 i hi next r (k+1) (by omega) (fun k' hk' => ?_)
      by_cases he:k'=k
      · subst he; exact hk0
      · exact hp k' (by omega)
    refine Comes.succ2 (fun n m q _=>innkeepref06_May.l1_eq n m q t0 t2 _ i k d) (Comes.bif (fun h=>Comes.ite (by omega) (Comes.ite (by omega) (Comes.bifN (fun h2 => ?_) (fun h2=>Comes.ite (by omega) (Comes.ite (by omega) (Comes.call (in_spec _ _) (fun v hv=>Comes.bifN (fun hb => ?_) (fun hb=>Comes.ret (mayQ_no fun hm => ?_))))))))) (fun h => ?_))
    · exact cont (.inl ((e _).1 (of_decide_eq_true h2)))
    · exact cont (.inr (by simpa [exitAt] using hv.1 hb))
    · have h2:=of_decide_eq_false h2
      rcases hm.exits i hi k (by omega) with h3 | h3
      · exact h2 ((e _).2 h3)
      · have:=hv.2 (by simpa [exitAt] using h3)
        rw [hb] at this; cases this
    · have:=of_decide_eq_false h; omega
theorem may_l0 (h1:May1 d) (t0:den tDesc) (t2:Bool):(r i:Nat)→i+r=List.length (d.1:List (List Int))→(∀ i',i'<i→(∀ k,k<4→exitAt d i' k = -1∨(0≤exitAt d i' k∧exitAt d i' k<(List.length (d.1:List (List Int)):Int)))∧(manyI d.2.2.2.1 (i':Int) (List.length (d.2.2.2.1:List Int)):Int)≤(d.2.2.2.2.2.1:Int)) →
    Comes (fun n m _ _=>innkeepref06_May.l0 n m t0 t2 (List.length (d.1:List (List Int)):Int) (i:Int) d) (mayQ d)
  | 0,i,hi,hp=>by
    refine Comes.succ1 (fun n m _ _=>innkeepref06_May.l0_eq n m t0 t2 _ i d) (Comes.bif (fun h => ?_) (fun h => ?_))
    · have:=of_decide_eq_true h; omega
    · exact (may_l3 d h1 (fun i' hi'=>hp i' (by omega)) t0 t2 i _ 0 (Nat.zero_add _) (fun i' hi'=>by omega)).enter
  | r+1,i,hi,hp=>by
    refine Comes.succ1 (fun n m _ _=>innkeepref06_May.l0_eq n m t0 t2 _ i d) (Comes.bif (fun h => ?_) (fun h => ?_))
    · refine (may_l1 d h1 t0 t2 i (by omega) (fun he hm=>may_l0 h1 t0 t2 r (i+1) (by omega) (fun i' hi' => ?_)) 4 0 rfl (fun k' hk'=>by omega)).enter1
      by_cases he':i'=i
      · subst he'; exact ⟨he,hm⟩
      · exact hp i' (by omega)
    · have:=of_decide_eq_false h; omega
theorem may_spec:Comes (fun n _ _ _=>innkeepref06_May n d) (mayQ d):=by
  refine Comes.succ (fun n _ _ _=>innkeepref06_May.eq n d) ?_
  refine Comes.bif (fun h=>Comes.ret (mayQ_no fun hm => ?_)) (fun a1 => ?_)
  · have:=of_decide_eq_true h; have:=hm.r1; omega
  refine Comes.bif (fun h=>Comes.ret (mayQ_no fun hm => ?_)) (fun a2 => ?_)
  · have:=of_decide_eq_true h; have:=hm.r1; omega
  refine Comes.bif (fun h=>Comes.ret (mayQ_no fun hm => ?_)) (fun a3 => ?_)
  · have:=of_decide_eq_true h; have:=hm.p1; omega
  refine Comes.bif (fun h=>Comes.ret (mayQ_no fun hm => ?_)) (fun a4 => ?_)
  · have:=of_decide_eq_true h; have:=hm.p1; omega
  refine Comes.bifN (fun a5 => ?_) (fun h=>Comes.ret (mayQ_no fun hm => ?_))
  rotate_left
  · have:=of_decide_eq_false h; have:=hm.c1; omega
  refine Comes.bif (fun h=>Comes.ret (mayQ_no fun hm => ?_)) (fun a6 => ?_)
  · have:=of_decide_eq_true h; have:=hm.i1; omega
  refine Comes.bifN (fun a7 => ?_) (fun h=>Comes.ret (mayQ_no fun hm => ?_))
  rotate_left
  · have:=of_decide_eq_false h; have:=hm.b1; omega
  have a1:=of_decide_eq_false a1
  have a2:=of_decide_eq_false a2
  have a3:=of_decide_eq_false a3
  have a4:=of_decide_eq_false a4
  have a5:=of_decide_eq_true a5
  have a6:=of_decide_eq_false a6
  have a7:=of_decide_eq_true a7
  refine Comes.call (in_spec _ _) (fun v hv=>Comes.bifN (fun hb => ?_) (fun hb=>Comes.ret (mayQ_no fun hm => ?_)))
  rotate_left
  · have:=hv.2 hm.room; rw [hb] at this; cases this
  refine Comes.call (in_spec _ _) (fun v2 hv2=>Comes.bifN (fun hb2 => ?_) (fun hb2=>Comes.ret (mayQ_no fun hm => ?_)))
  rotate_left
  · have:=hv2.2 hm.player; rw [hb2] at this; cases this
  refine Comes.call (in_spec _ _) (fun v3 hv3=>Comes.bifN (fun hb3 => ?_) (fun hb3=>Comes.ret (mayQ_no fun hm => ?_)))
  rotate_left
  · have:=hv3.2 hm.box; rw [hb3] at this; cases this
  exact (may_l0 d ⟨by omega,by omega,by omega,by omega,by omega,hv.1 hb,hv2.1 hb2,hv3.1 hb3⟩ d false _ 0 (Nat.zero_add _) (fun i' hi'=>by omega)).enter
end
end
end Go.Proofs.Ytmemggdjnfccfaa.Ghost
namespace Go.Proofs.Ytmemggdjnfccfaa.Ghost
open Go
abbrev Pl:=den tPlace
theorem few_spec (w:den tWorld):Comes (fun n _ _ _=>innkeepref06_Few n w) (fun r=>r.1.1=true↔(List.length (w.1.1:List (List Int))≤20∧List.length (w.1.2.1:List Int)≤20∧List.length (w.1.2.2.1:List Int)≤20∧List.length (w.1.2.2.2.1:List Int)≤40 ∧
    List.length (w.1.2.2.2.2.1:List Bool)≤40∧List.length (w.2.1:List Int)≤40∧List.length (w.2.2.1:List Int)≤40∧List.length (w.2.2.2.1:List (den tPlace))≤40)):=by
  have no:∀ (p:Prop),¬ p→((((false,()),[]):innkeepref06_Few.R).1.1=true↔p):=fun p hp=>⟨fun e=>absurd e (by decide),fun e=>absurd e hp⟩
  refine Comes.succ (fun n _ _ _=>innkeepref06_Few.eq n w) ?_
  refine Comes.bif (fun a1 => ?_) (fun h=>Comes.ret (no _ fun hm => ?_))
  rotate_left
  · have:=of_decide_eq_false h; omega
  refine Comes.bif (fun a2 => ?_) (fun h=>Comes.ret (no _ fun hm => ?_))
  rotate_left
  · have:=of_decide_eq_false h; omega
  refine Comes.bif (fun a3 => ?_) (fun h=>Comes.ret (no _ fun hm => ?_))
  rotate_left
  · have:=of_decide_eq_false h; omega
  refine Comes.bif (fun a4 => ?_) (fun h=>Comes.ret (no _ fun hm => ?_))
  rotate_left
  · have:=of_decide_eq_false h; omega
  refine Comes.bif (fun a5 => ?_) (fun h=>Comes.ret (no _ fun hm => ?_))
  rotate_left
  · have:=of_decide_eq_false h; omega
  refine Comes.bif (fun a6 => ?_) (fun h=>Comes.ret (no _ fun hm => ?_))
  rotate_left
  · have:=of_decide_eq_false h; omega
  refine Comes.bif (fun a7 => ?_) (fun h=>Comes.ret (no _ fun hm => ?_))
  rotate_left
  · have:=of_decide_eq_false h; omega
  have a1:=of_decide_eq_true a1
  have a2:=of_decide_eq_true a2
  have a3:=of_decide_eq_true a3
  have a4:=of_decide_eq_true a4
  have a5:=of_decide_eq_true a5
  have a6:=of_decide_eq_true a6
  have a7:=of_decide_eq_true a7
  refine Comes.ret ?_
  constructor
  · intro h
    have:=of_decide_eq_true h
    omega
  · intro h
    exact decide_eq_true (by omega)
theorem eqPl (x y:Pl):eqT tPlace x y=true↔x=y:=by
  obtain ⟨a,b,u⟩:=x
  obtain ⟨c,d,v⟩:=y
  cases u; cases v
  simp [eqT,eqTL]
def manyPl (l:List Pl) (p:Pl):Nat→Nat
  | 0=>0
  | n+1=>manyPl l p n+(if List.getD l n (dft tPlace)=p then 1 else 0)
theorem manyPl_le (l:List Pl) (p:Pl):(n:Nat)→manyPl l p n≤n
  | 0=>Nat.le_refl 0
  | n+1=>by
    have:=manyPl_le l p n
    simp only [manyPl]
    split <;> omega
theorem many_l0 (w:den tWorld) (hw:List.length (w.2.2.2.1:List (den tPlace))<4611686018427387904) (p:Pl) (t0:den tWorld) (t1:Pl) (t4:Int):(r i:Nat)→i+r=List.length (w.2.2.2.1:List (den tPlace)) →
    Comes (fun n m _ _=>innkeepref06_Many.l0 n m t0 t1 t4 (manyPl w.2.2.2.1 p i:Int) (i:Int) w p) (fun r=>r=(((manyPl w.2.2.2.1 p (List.length (w.2.2.2.1:List (den tPlace))):Int),()),[]))
  | 0,i,hi=>by
    refine Comes.succ1 (fun n m _ _=>innkeepref06_Many.l0_eq n m t0 t1 t4 _ i w p) (Comes.bif (fun h => ?_) (fun h=>Comes.ret ?_))
    · have:=of_decide_eq_true h; omega
    · rw [show i=List.length (w.2.2.2.1:List (den tPlace)) by omega]
  | r+1,i,hi=>by
    have hle:=manyPl_le w.2.2.2.1 p i
    refine Comes.succ1 (fun n m _ _=>innkeepref06_Many.l0_eq n m t0 t1 t4 _ i w p) (Comes.bif (fun h=>Comes.ite (by omega) (Comes.bif (fun h2 => ?_) (fun h2 => ?_))) (fun h => ?_))
    · rw [wrap_succ (i:=manyPl w.2.2.2.1 p i) (by omega),wrap_succ (by omega)]
      have e:manyPl w.2.2.2.1 p (i+1)=manyPl w.2.2.2.1 p i+1:=by
        simp only [manyPl]; rw [if_pos (by simpa using (eqPl _ _).1 h2)]
      rw [← e]
      exact many_l0 w hw p t0 t1 t4 r (i+1) (by omega)
    · rw [wrap_succ (by omega)]
      have e:manyPl w.2.2.2.1 p (i+1)=manyPl w.2.2.2.1 p i:=by
        simp only [manyPl]
        rw [if_neg (fun he=>by rw [(eqPl _ _).2 (by simpa using he)] at h2; cases h2)]; rfl
      rw [← e]
      exact many_l0 w hw p t0 t1 t4 r (i+1) (by omega)
    · have:=of_decide_eq_false h; omega
theorem many_spec (w:den tWorld) (hw:List.length (w.2.2.2.1:List (den tPlace))<4611686018427387904) (p:Pl):Comes (fun n _ _ _=>innkeepref06_Many n w p) (fun r=>r=(((manyPl w.2.2.2.1 p (List.length (w.2.2.2.1:List (den tPlace))):Int),()),[])):=by
  refine Comes.succ (fun n _ _ _=>innkeepref06_Many.eq n w p) ?_
  exact (many_l0 w hw p w p 0 _ 0 (Nat.zero_add _)).enter
def depI (l:List Pl):Nat→Nat→Pl→Nat
  | 0,c,p=>if p.1=(2:Int) then 99 else c
  | f+1,c,p=>if p.1=(2:Int) then (if 50<c+1 then 99 else depI l f (c+1) (List.getD l (Int.toNat p.2.1) (dft tPlace))) else c
def inPl (l:List Pl) (p:Pl):Prop:=p.1=(2:Int)→(0:Int)≤p.2.1∧(p.2.1:Int)<(List.length l:Int)
theorem depth_l0 (w:den tWorld) (hl:∀ i,i<List.length (w.2.2.2.1:List (den tPlace))→inPl w.2.2.2.1 (List.getD w.2.2.2.1 i (dft tPlace))) (t0:den tWorld) (t1:Pl) (t4:Int):(f c:Nat)→f+c=51→(p:Pl)→inPl w.2.2.2.1 p →
    Comes (fun n m _ _=>innkeepref06_Depth.l0 n m t0 t1 t4 (c:Int) w p) (fun r=>r=(((depI w.2.2.2.1 f c p:Int),()),[]))
  | 0,c,hc,p,hp=>by
    refine Comes.succ1 (fun n m _ _=>innkeepref06_Depth.l0_eq n m t0 t1 t4 c w p) (Comes.bif (fun h=>Comes.bif (fun h2=>Comes.ret ?_) (fun h2 => ?_)) (fun h=>Comes.ret ?_))
    · have h:=of_decide_eq_true h
      simp only [depI]
      rw [if_pos h]
      rfl
    · rw [wrap_succ (by omega)] at h2
      have:=of_decide_eq_false h2; omega
    · have h:=of_decide_eq_false h
      simp only [depI]
      rw [if_neg h]
  | f+1,c,hc,p,hp=>by
    refine Comes.succ1 (fun n m _ _=>innkeepref06_Depth.l0_eq n m t0 t1 t4 c w p) (Comes.bif (fun h=>Comes.bif (fun h2=>Comes.ret ?_) (fun h2 => ?_)) (fun h=>Comes.ret ?_))
    · have h:=of_decide_eq_true h
      rw [wrap_succ (by omega)] at h2
      have:=of_decide_eq_true h2
      simp only [depI]
      rw [if_pos h,if_pos (by omega)]
      rfl
    · have h:=of_decide_eq_true h
      rw [wrap_succ (by omega)] at h2 ⊢
      have:=of_decide_eq_false h2
      obtain ⟨g1,g2⟩:=hp h
      refine Comes.ite ⟨g1,g2⟩ ?_
      simp only [depI]
      rw [if_pos h,if_neg (by omega)]
      exact depth_l0 w hl t0 t1 t4 f (c+1) (by omega) _ (hl _ ((Int.toNat_lt g1).2 g2))
    · have h:=of_decide_eq_false h
      simp only [depI]
      rw [if_neg h]
theorem depth_spec (w:den tWorld) (hl:∀ i,i<List.length (w.2.2.2.1:List (den tPlace))→inPl w.2.2.2.1 (List.getD w.2.2.2.1 i (dft tPlace))) (p:Pl) (hp:inPl w.2.2.2.1 p) :
    Comes (fun n _ _ _=>innkeepref06_Depth n w p) (fun r=>r=(((depI w.2.2.2.1 51 0 p:Int),()),[])):=by
  refine Comes.succ (fun n _ _ _=>innkeepref06_Depth.eq n w p) ?_
  exact (depth_l0 w hl w p 0 51 0 rfl p hp).enter
def capI (d:den tDesc) (p:Pl):Int:=if p.1=(0:Int) then d.2.2.2.2.2.1 else if p.1=(1:Int) then d.2.2.2.2.2.2.1 else d.2.2.2.2.2.2.2.1
theorem cap_spec (w:den tWorld) (p:Pl) (hp:(0:Int)≤p.1∧(p.1:Int)<3):Comes (fun n _ _ _=>innkeepref06_Cap n w p) (fun r=>r=((capI w.1 p,()),[])):=by
  refine Comes.succ (fun n _ _ _=>innkeepref06_Cap.eq n w p) (Comes.ite hp (Comes.ret ?_))
  have key:∀ k:Int,0≤k→k<3→k=0∨k=1∨k=2:=fun k h0 h1=>by omega
  have h3:=key p.1 hp.1 hp.2
  unfold capI
  rcases h3 with h | h | h <;> rw [h] <;> rfl
def GoodPl (d:den tDesc) (p:Pl):Prop :=
  (p.1=(0:Int)∧(0:Int)≤p.2.1∧(p.2.1:Int)<(List.length (d.1:List (List Int)):Int))∨(p.1=(1:Int)∧(0:Int)≤p.2.1∧(p.2.1:Int)<(List.length (d.2.1:List Int):Int)) ∨
    (p.1=(2:Int)∧((0:Int)≤p.2.1∧(p.2.1:Int)<(List.length (d.2.2.2.1:List Int):Int))∧List.getD (d.2.2.2.2.1:List Bool) (Int.toNat p.2.1) false=true)
structure RightP (w:den tWorld):Prop where
  may:MayP w.1
  a1:List.length (w.2.1:List Int)=List.length (w.1.2.1:List Int)
  c1:List.length (w.2.2.1:List Int)=List.length (w.1.2.1:List Int)
  w1:List.length (w.2.2.2.1:List (den tPlace))=List.length (w.1.2.2.2.1:List Int)
  at_:∀ i,i<List.length (w.2.1:List Int)→(0≤List.getD (w.2.1:List Int) i (0:Int)∧List.getD (w.2.1:List Int) i (0:Int)<(List.length (w.1.1:List (List Int)):Int))∧(0≤List.getD (w.2.2.1:List Int) i (0:Int)∧List.getD (w.2.2.1:List Int) i (0:Int)≤1073741824)
  good:∀ i,i<List.length (w.2.2.2.1:List (den tPlace))→GoodPl w.1 (List.getD w.2.2.2.1 i (dft tPlace))
  deep:∀ i,i<List.length (w.2.2.2.1:List (den tPlace))→depI w.2.2.2.1 51 0 (List.getD w.2.2.2.1 i (dft tPlace))≤4∧(manyPl w.2.2.2.1 (List.getD w.2.2.2.1 i (dft tPlace)) (List.length (w.2.2.2.1:List (den tPlace))):Int)≤capI w.1 (List.getD w.2.2.2.1 i (dft tPlace))
abbrev rightQ (w:den tWorld) (r:innkeepref06_Right.R):Prop:=r.1.1=true↔RightP w
theorem rightQ_no {w:den tWorld} (h:¬ RightP w):rightQ w ((false,()),[]):=⟨(fun e=>by cases e),fun e=>absurd e h⟩
section
variable (w:den tWorld)
structure Right1 (w:den tWorld):Prop where
  may:MayP w.1
  a1:List.length (w.2.1:List Int)=List.length (w.1.2.1:List Int)
  c1:List.length (w.2.2.1:List Int)=List.length (w.1.2.1:List Int)
  w1:List.length (w.2.2.2.1:List (den tPlace))=List.length (w.1.2.2.2.1:List Int)
theorem GoodPl.inPl {d:den tDesc} {l:List Pl} (hl:l.length=List.length (d.2.2.2.1:List Int)) {p:Pl} (h:GoodPl d p):inPl l p:=fun hk=>by
  rcases h with ⟨h,_⟩ | ⟨h,_⟩ | ⟨_,h,_⟩
  · rw [h] at hk; cases hk
  · rw [h] at hk; cases hk
  · rw [hl]; exact h
theorem GoodPl.kind {d:den tDesc} {p:Pl} (h:GoodPl d p):(0:Int)≤p.1∧(p.1:Int)<3:=by
  rcases h with ⟨h,_⟩ | ⟨h,_⟩ | ⟨h,_⟩ <;> rw [h] <;> decide
theorem right_l2 (h1:Right1 w) (h2:∀ i,i<List.length (w.2.1:List Int)→(0≤List.getD (w.2.1:List Int) i (0:Int)∧List.getD (w.2.1:List Int) i (0:Int)<(List.length (w.1.1:List (List Int)):Int))∧(0≤List.getD (w.2.2.1:List Int) i (0:Int)∧List.getD (w.2.2.1:List Int) i (0:Int)≤1073741824))
    (h3:∀ i,i<List.length (w.2.2.2.1:List (den tPlace))→GoodPl w.1 (List.getD w.2.2.2.1 i (dft tPlace))) (t0:den tWorld) (t2:Bool) (t4 t5:Int):(r i:Nat)→i+r=List.length (w.2.2.2.1:List (den tPlace)) →
    (∀ i',i'<i→depI w.2.2.2.1 51 0 (List.getD w.2.2.2.1 i' (dft tPlace))≤4∧(manyPl w.2.2.2.1 (List.getD w.2.2.2.1 i' (dft tPlace)) (List.length (w.2.2.2.1:List (den tPlace))):Int)≤capI w.1 (List.getD w.2.2.2.1 i' (dft tPlace))) →
    Comes (fun n m _ _=>innkeepref06_Right.l2 n m t0 t2 t4 t5 (i:Int) w w.1) (rightQ w)
  | 0,i,hi,hp=>by
    refine Comes.succ1 (fun n m _ _=>innkeepref06_Right.l2_eq n m t0 t2 t4 t5 i w w.1) (Comes.bif (fun h => ?_) (fun h=>Comes.ret ?_))
    · have:=of_decide_eq_true h; omega
    · exact ⟨fun _=>⟨h1.may,h1.a1,h1.c1,h1.w1,h2,h3,fun i' hi'=>hp i' (by omega)⟩,fun _=>rfl⟩
  | r+1,i,hi,hp=>by
    have h16:=h1.may.i1
    have hw:=h1.w1
    have hg:=h3 i (by omega)
    have hin:∀ i,i<List.length (w.2.2.2.1:List (den tPlace))→inPl w.2.2.2.1 (List.getD w.2.2.2.1 i (dft tPlace)):=fun i hi=>(h3 i hi).inPl h1.w1
    refine Comes.succ1 (fun n m _ _=>innkeepref06_Right.l2_eq n m t0 t2 t4 t5 i w w.1) (Comes.bif (fun h=>Comes.ite (by omega) ?_) (fun h => ?_))
    · rw [Int.toNat_natCast]
      refine Comes.call (depth_spec w hin _ (hin i (by omega))) (fun v hv => ?_)
      subst hv
      refine Comes.bif (fun hb=>Comes.ret (rightQ_no fun hm => ?_)) (fun hb=>Comes.ite (by omega) (Comes.call (many_spec w (by omega) _) (fun u hu=>Comes.ite (by omega) (Comes.call (cap_spec w _ hg.kind) (fun x hx => ?_)))))
      · have h4:(4:Int)<(depI w.2.2.2.1 51 0 (List.getD w.2.2.2.1 i (dft tPlace)):Int):=of_decide_eq_true hb
        have:=(hm.deep i (by omega)).1
        omega
      · subst hu hx
        refine Comes.bif (fun hb2=>Comes.ret (rightQ_no fun hm => ?_)) (fun hb2 => ?_)
        · have h4:=of_decide_eq_true hb2
          exact absurd (hm.deep i (by omega)).2 (Int.not_le.2 h4)
        · have h4:¬ (4:Int)<(depI w.2.2.2.1 51 0 (List.getD w.2.2.2.1 i (dft tPlace)):Int):=of_decide_eq_false hb
          have h5:=of_decide_eq_false hb2
          rw [wrap_succ (by omega)]
          refine right_l2 h1 h2 h3 t0 t2 t4 t5 r (i+1) (by omega) (fun i' hi' => ?_)
          by_cases he:i'=i
          · subst he
            exact ⟨by omega,Int.not_lt.1 h5⟩
          · exact hp i' (by omega)
    · have:=of_decide_eq_false h; omega
end
end Go.Proofs.Ytmemggdjnfccfaa.Ghost
namespace Go.Proofs.Ytmemggdjnfccfaa.Ghost
open Go
section
variable (w:den tWorld)
theorem right_l1 (h1:Right1 w) (h2:∀ i,i<List.length (w.2.1:List Int)→(0≤List.getD (w.2.1:List Int) i (0:Int)∧List.getD (w.2.1:List Int) i (0:Int)<(List.length (w.1.1:List (List Int)):Int))∧(0≤List.getD (w.2.2.1:List Int) i (0:Int)∧List.getD (w.2.2.1:List Int) i (0:Int)≤1073741824))
    (t0:den tWorld) (t2:Bool) (t4:Int):(r i:Nat)→i+r=List.length (w.2.2.2.1:List (den tPlace))→(∀ i',i'<i→GoodPl w.1 (List.getD w.2.2.2.1 i' (dft tPlace))) →
    Comes (fun n m _ _=>innkeepref06_Right.l1 n m t0 t2 t4 (i:Int) w w.1) (rightQ w)
  | 0,i,hi,hp=>by
    refine Comes.succ1 (fun n m _ _=>innkeepref06_Right.l1_eq n m t0 t2 t4 i w w.1) (Comes.bif (fun h => ?_) (fun h => ?_))
    · have:=of_decide_eq_true h; omega
    · exact (right_l2 w h1 h2 (fun i' hi'=>hp i' (by omega)) t0 t2 t4 i _ 0 (Nat.zero_add _) (fun i' hi'=>by omega)).enter
  | r+1,i,hi,hp=>by
    have h16:=h1.may.i1
    have hw:=h1.w1
    refine Comes.succ1 (fun n m _ _=>innkeepref06_Right.l1_eq n m t0 t2 t4 i w w.1) (Comes.bif (fun h=>Comes.ite (by omega) ?_) (fun h => ?_))
    rotate_left
    · have:=of_decide_eq_false h; omega
    rw [Int.toNat_natCast]
    have next:GoodPl w.1 (List.getD w.2.2.2.1 i (dft tPlace))→Comes (fun n m _ _=>innkeepref06_Right.l1 n m t0 t2 t4 (IntKind.wrap .i64 ((i:Int)+1)) w w.1) (rightQ w):=fun hg=>by
      rw [wrap_succ (by omega)]
      refine right_l1 h1 h2 t0 t2 t4 r (i+1) (by omega) (fun i' hi' => ?_)
      by_cases he:i'=i
      · subst he; exact hg
      · exact hp i' (by omega)
    have no:¬ GoodPl w.1 (List.getD w.2.2.2.1 i (dft tPlace))→rightQ w ((false,()),[]):=fun hn=>rightQ_no fun hm=>hn (hm.good i (by omega))
    have hb1:=h1.may.b1
    generalize hpe:(List.getD w.2.2.2.1 i (dft tPlace):den tPlace)=p at next no ⊢
    have ne01:¬ (0:Int)=1:=by decide
    have ne02:¬ (0:Int)=2:=by decide
    have ne12:¬ (1:Int)=2:=by decide
    have box:(p.1=(2:Int)→((0:Int)≤p.2.1∧(p.2.1:Int)<(List.length (w.1.2.2.2.1:List Int):Int))→List.getD (w.1.2.2.2.2.1:List Bool) (Int.toNat p.2.1) false=true→GoodPl w.1 p):=fun a b c=>.inr (.inr ⟨a,b,c⟩)
    have t2':(p.1=(2:Int)∨¬ GoodPl w.1 p)→Comes (fun n m _ _=>bif (decide ((p.1:Int)=2)) then
            Option.bind (innkeepref06_in n (p.2.1:Int) ((List.length (w.1.2.2.2.1:(List Int))):Int)) fun r6 =>
            bif (r6.1.1:Bool) then
              if (0:Int)≤(p.2.1:Int)∧(p.2.1:Int)<(((List.length (w.1.2.2.2.2.1:(List Bool))):Nat):Int) then
              bif (!(List.getD (w.1.2.2.2.2.1:(List Bool)) (Int.toNat (p.2.1:Int)) false:Bool)) then
                some ((false,()),[])
              else
                innkeepref06_Right.l1 n m t0 t2 t4 (IntKind.wrap .i64 ((i:Int)+1)) w w.1
              else none
            else
              some ((false,()),[])
          else
            some ((false,()),[])) (rightQ w):=fun hor=>by
      refine Comes.bif (fun k2=>Comes.call (in_spec _ _) (fun v hv=>Comes.bif (fun hb=>Comes.ite ?_ (Comes.bifN (fun hx => ?_) (fun hx=>Comes.ret (no ?_)))) (fun hb=>Comes.ret (no ?_)))) (fun k2=>Comes.ret (no ?_))
      · rw [hb1]; exact hv.1 hb
      · exact next (box (of_decide_eq_true k2) (hv.1 hb) hx)
      · rintro (⟨a,_⟩ | ⟨a,_⟩ | ⟨a,b,c⟩)
        · have:=of_decide_eq_true k2; rw [a] at this; exact ne02 this
        · have:=of_decide_eq_true k2; rw [a] at this; exact ne12 this
        · rw [hx] at c; cases c
      · rintro (⟨a,_⟩ | ⟨a,_⟩ | ⟨a,b,c⟩)
        · have:=of_decide_eq_true k2; rw [a] at this; exact ne02 this
        · have:=of_decide_eq_true k2; rw [a] at this; exact ne12 this
        · have:=hv.2 b; rw [hb] at this; cases this
      · rcases hor with hor | hor
        · exact absurd hor (of_decide_eq_false k2)
        · exact hor
    refine Comes.bif (fun k0=>Comes.call (in_spec _ _) (fun v hv=>Comes.bif (fun hb=>next (.inl ⟨of_decide_eq_true k0,hv.1 hb⟩)) (fun hb => ?_))) (fun k0 => ?_)
    · have ng:¬ GoodPl w.1 p:=by
        have k0:=of_decide_eq_true k0
        rintro (⟨a,b⟩ | ⟨a,_⟩ | ⟨a,_⟩)
        · have:=hv.2 b; rw [hb] at this; cases this
        · rw [k0] at a; exact ne01 a
        · rw [k0] at a; exact ne02 a
      refine Comes.bif (fun k1 => ?_) (fun k1=>t2' (.inr ng))
      have k0:=of_decide_eq_true k0
      have k1:=of_decide_eq_true k1
      rw [k0] at k1; exact absurd k1 ne01
    · refine Comes.bif (fun k1=>Comes.call (in_spec _ _) (fun v hv=>Comes.bif (fun hb=>next (.inr (.inl ⟨of_decide_eq_true k1,hv.1 hb⟩))) (fun hb => ?_))) (fun k1 => ?_)
      · have ng:¬ GoodPl w.1 p:=by
          have k1:=of_decide_eq_true k1
          rintro (⟨a,b⟩ | ⟨a,b⟩ | ⟨a,_⟩)
          · rw [k1] at a; exact ne01 a.symm
          · have:=hv.2 b; rw [hb] at this; cases this
          · rw [k1] at a; exact ne12 a
        exact t2' (.inr ng)
      · by_cases k2:p.1=(2:Int)
        · exact t2' (.inl k2)
        · refine t2' (.inr ?_)
          rintro (⟨a,b⟩ | ⟨a,b⟩ | ⟨a,_⟩)
          · exact of_decide_eq_false k0 a
          · exact of_decide_eq_false k1 a
          · exact k2 a
theorem right_l0 (h1:Right1 w) (t0:den tWorld) (t2:Bool):(r i:Nat)→i+r=List.length (w.2.1:List Int)→(∀ i',i'<i→(0≤List.getD (w.2.1:List Int) i' (0:Int)∧List.getD (w.2.1:List Int) i' (0:Int)<(List.length (w.1.1:List (List Int)):Int))∧(0≤List.getD (w.2.2.1:List Int) i' (0:Int)∧List.getD (w.2.2.1:List Int) i' (0:Int)≤1073741824)) →
    Comes (fun n m _ _=>innkeepref06_Right.l0 n m t0 t2 (i:Int) w w.1) (rightQ w)
  | 0,i,hi,hp=>by
    refine Comes.succ1 (fun n m _ _=>innkeepref06_Right.l0_eq n m t0 t2 i w w.1) (Comes.bif (fun h => ?_) (fun h => ?_))
    · have:=of_decide_eq_true h; omega
    · exact (right_l1 w h1 (fun i' hi'=>hp i' (by omega)) t0 t2 i _ 0 (Nat.zero_add _) (fun i' hi'=>by omega)).enter
  | r+1,i,hi,hp=>by
    have h6:=h1.may.p1
    have ha:=h1.a1
    have hc:=h1.c1
    refine Comes.succ1 (fun n m _ _=>innkeepref06_Right.l0_eq n m t0 t2 i w w.1) (Comes.bif (fun h=>Comes.ite (by omega) (Comes.call (in_spec _ _) (fun v hv=>Comes.bifN (fun hb=>Comes.ite (by omega) (Comes.call (is_spec _) (fun u hu=>Comes.bifN (fun hb2 => ?_) (fun hb2=>Comes.ret (rightQ_no fun hm => ?_))))) (fun hb=>Comes.ret (rightQ_no fun hm => ?_))))) (fun h => ?_))
    · rw [wrap_succ (by omega)]
      refine right_l0 h1 t0 t2 r (i+1) (by omega) (fun i' hi' => ?_)
      by_cases he:i'=i
      · subst he; exact ⟨by simpa using hv.1 hb,by simpa using hu.1 hb2⟩
      · exact hp i' (by omega)
    · have:=hu.2 (by simpa using (hm.at_ i (by omega)).2)
      rw [hb2] at this; cases this
    · have:=hv.2 (by simpa using (hm.at_ i (by omega)).1)
      rw [hb] at this; cases this
    · have:=of_decide_eq_false h; omega
theorem right_spec:Comes (fun n _ _ _=>innkeepref06_Right n w) (rightQ w):=by
  refine Comes.succ (fun n _ _ _=>innkeepref06_Right.eq n w) ?_
  refine Comes.call (may_spec w.1) (fun v hv=>Comes.bifN (fun hb => ?_) (fun hb=>Comes.ret (rightQ_no fun hm => ?_)))
  rotate_left
  · have:=hv.2 hm.may; rw [hb] at this; cases this
  refine Comes.bifN (fun a1 => ?_) (fun h=>Comes.ret (rightQ_no fun hm => ?_))
  rotate_left
  · have:=of_decide_eq_false h; have:=hm.a1; omega
  refine Comes.bifN (fun a2 => ?_) (fun h=>Comes.ret (rightQ_no fun hm => ?_))
  rotate_left
  · have:=of_decide_eq_false h; have:=hm.c1; omega
  refine Comes.bifN (fun a3 => ?_) (fun h=>Comes.ret (rightQ_no fun hm => ?_))
  rotate_left
  · have:=of_decide_eq_false h; have:=hm.w1; omega
  have a1:=of_decide_eq_true a1
  have a2:=of_decide_eq_true a2
  have a3:=of_decide_eq_true a3
  exact (right_l0 w ⟨hv.1 hb,by omega,by omega,by omega⟩ w false _ 0 (Nat.zero_add _) (fun i' hi'=>by omega)).enter
end
end Go.Proofs.Ytmemggdjnfccfaa.Ghost
namespace Go.Proofs.Ytmemggdjnfccfaa.Ghost
open Go
theorem ext_getD {α:Type} (d:α) {a b:List α} (hl:a.length=b.length) (h:∀ i,i<a.length→a.getD i d=b.getD i d):a=b:=by
  refine List.ext_getElem hl (fun i h1 h2 => ?_)
  have:=h i h1
  rw [List.getD_eq_getElem?_getD,List.getD_eq_getElem?_getD,List.getElem?_eq_getElem h1,List.getElem?_eq_getElem h2] at this
  exact this
structure Sm (w:den tWorld):Prop where
  e:List.length (w.1.1:List (List Int))≤1048576
  b:List.length (w.1.2.2.2.2.1:List Bool)≤1048576
  p:List.length (w.1.2.1:List Int)≤1048576
  c:List.length (w.1.2.2.1:List Int)≤1048576
  i:List.length (w.1.2.2.2.1:List Int)≤1048576
  a:List.length (w.2.1:List Int)≤1048576
  wc:List.length (w.2.2.1:List Int)≤1048576
  wh:List.length (w.2.2.2.1:List (den tPlace))≤1048576
  rows:∀ i,i<List.length (w.1.1:List (List Int))→List.length (List.getD (w.1.1:List (List Int)) i (dft (.arr 4 (.int .i64))):List Int)=4
theorem eqRow {x y:List Int} (hx:x.length=4) (hy:y.length=4):eqT (.arr 4 (.int .i64)) x y=true↔x=y:=by
  match x,y,hx,hy with
  | [a,b,c,d],[a',b',c',d'],_,_=>simp [eqT,allEq]
theorem world_ext {a b:den tWorld} (h5:(a.1.2.2.2.2.2.1:Int)=b.1.2.2.2.2.2.1) (h6:(a.1.2.2.2.2.2.2.1:Int)=b.1.2.2.2.2.2.2.1) (h7:(a.1.2.2.2.2.2.2.2.1:Int)=b.1.2.2.2.2.2.2.2.1) (he:a.1.1=b.1.1) (hbx:a.1.2.2.2.2.1=b.1.2.2.2.2.1)
    (c1:a.1.2.1=b.1.2.1) (c2:a.1.2.2.1=b.1.2.2.1) (c3:a.1.2.2.2.1=b.1.2.2.2.1) (c4:a.2.1=b.2.1) (c5:a.2.2.1=b.2.2.1) (c6:a.2.2.2.1=b.2.2.2.1):a=b :=
  Prod.ext (Prod.ext he (Prod.ext c1 (Prod.ext c2 (Prod.ext c3 (Prod.ext hbx (Prod.ext h5 (Prod.ext h6 (Prod.ext h7 rfl)))))))) (Prod.ext c4 (Prod.ext c5 (Prod.ext c6 rfl)))
section
variable (a b:den tWorld) (ha:Sm a) (hb:Sm b)
include ha hb
end
theorem copied_spec (w:den tWorld) (h:Sm w):Comes (fun n _ _ _=>innkeepref06_Copied n w) (fun r=>r=((w,()),[(0,[1]),(0,[2]),(0,[3])])):=by
  refine Comes.succ (fun n _ _ _=>innkeepref06_Copied.eq n w) (Comes.ite (by rw [Nat.zero_add]; exact h.a) (Comes.ite (by rw [Nat.zero_add]; exact h.wc) (Comes.ite (by rw [Nat.zero_add]; exact h.wh) (Comes.ret rfl))))
end Go.Proofs.Ytmemggdjnfccfaa.Ghost
namespace Go.Proofs.Ytmemggdjnfccfaa.Ghost
open Go
structure Ok (w:den tWorld):Prop where
  sm:Sm w
  right:RightP w
abbrev FewP (w:den tWorld):Prop:=List.length (w.1.1:List (List Int))≤20∧List.length (w.1.2.1:List Int)≤20∧List.length (w.1.2.2.1:List Int)≤20∧List.length (w.1.2.2.2.1:List Int)≤40 ∧
    List.length (w.1.2.2.2.2.1:List Bool)≤40∧List.length (w.2.1:List Int)≤40∧List.length (w.2.2.1:List Int)≤40∧List.length (w.2.2.2.1:List (den tPlace))≤40
theorem getD_mem' {α:Type} {l:List α} {i:Nat} (d:α) (h:i<l.length):l.getD i d∈l:=by
  rw [List.getD_eq_getElem?_getD,List.getElem?_eq_getElem h]
  exact List.getElem_mem h
theorem ok_of {w:den tWorld} (hw:wfD tWorld w) (hf:FewP w) (hr:RightP w):Ok w:=by
  obtain ⟨f1,f2,f3,f4,f5,f6,f7,f8⟩:=hf
  refine ⟨⟨by omega,by omega,by omega,by omega,by omega,by omega,by omega,by omega,fun i hi => ?_⟩,hr⟩
  have h1:∀ y:List Int,y∈(w.1.1:List (List Int))→wfD (.arr 4 (.int .i64)) y:=hw.1.1.2
  exact (h1 _ (getD_mem' _ hi)).1
theorem u8_range {a:Int} (h:wfD (.int .u8) a):0≤a∧a<256:=by
  have h1:IntKind.u8.min≤a∧a≤IntKind.u8.max:=h
  have e1:IntKind.u8.min=0:=rfl
  have e2:IntKind.u8.max=255:=rfl
  omega
theorem index_of {a:Int} (h:wfD (.int .u8) a) {n:Nat} (hn:0<n):∃ i:Nat,i<n∧Int.tmod (IntKind.wrap .i64 a) (n:Int)=(i:Int):=by
  obtain ⟨h0,h1⟩:=u8_range h
  rw [wrap_id (by omega) (by omega)]
  refine ⟨(a % (n:Int)).toNat,?_,?_⟩
  · have:=Int.emod_lt_of_pos a (show (0:Int)<n by omega)
    have:=Int.emod_nonneg a (show (n:Int)≠0 by omega)
    omega
  · rw [Int.tmod_eq_emod_of_nonneg h0]
    have:=Int.emod_nonneg a (show (n:Int)≠0 by omega)
    omega
theorem dir_of {a:Int} (h:wfD (.int .u8) a):∃ d:Nat,d<4∧IntKind.wrap .i64 (Int.tmod a 4)=(d:Int):=by
  obtain ⟨h0,h1⟩:=u8_range h
  rw [Int.tmod_eq_emod_of_nonneg h0,wrap_id (by omega) (by omega)]
  exact ⟨(a % 4).toNat,by omega,by omega⟩
theorem getD_set {α:Type} (l:List α) (i j:Nat) (x d:α) (h:i<l.length):(l.set i x).getD j d=if j=i then x else l.getD j d:=by
  rw [List.getD_eq_getElem?_getD,List.getD_eq_getElem?_getD]
  by_cases hj:j=i
  · subst hj; rw [List.getElem?_set_self h,if_pos rfl]; rfl
  · rw [List.getElem?_set_ne (Ne.symm hj),if_neg hj]
theorem RightP.pos {w:den tWorld} (h:RightP w):0<List.length (w.2.1:List Int):=by have:=h.a1; have:=h.may.p1; omega
end Go.Proofs.Ytmemggdjnfccfaa.Ghost
