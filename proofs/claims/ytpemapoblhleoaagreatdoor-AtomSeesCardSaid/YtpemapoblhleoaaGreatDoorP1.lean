/- What functions come to, and that the statements are answered with 'true'. Conditions: none. -/
import Derived.Test.YtpemapoblhleoaaGreatDoorS
import Derived.Test.YtpemapoblhleoaaGreatDoorGE
import Derived.Test.YtpemapoblhleoaaGreatDoorA4
import Derived.KernelRfl
set_option linter.unusedVariables false
set_option linter.unusedSimpArgs false
set_option linter.unusedSectionVars false
set_option linter.unnecessarySimpa false
namespace Go.Proofs.YtpemapoblhleoaaGreatDoor.Ghost
open Go
section
theorem Un (a b:Int):Zd (fun n _ _ _=>Z5 n a b) (fun r=>r.1.1=true↔0≤a∧a<b):=by
  refine Zd.succ (fun n _ _ _=>Z5.eq n a b) (Zd.bif (fun h=>Zd.ret ?_) (fun h=>Zd.ret ?_))
  · have:=of_decide_eq_true h
    simp [this]
  · have:=of_decide_eq_false h
    simp [this]
theorem AHi (a:Int):Zd (fun n _ _ _=>X7 n a) (fun r=>r.1.1=true↔0≤a∧a≤1073741824):=by
  refine Zd.succ (fun n _ _ _=>X7.eq n a) (Zd.bif (fun h=>Zd.ret ?_) (fun h=>Zd.ret ?_))
  · have:=of_decide_eq_true h
    simp [this]
  · have:=of_decide_eq_false h
    simp [this]
def Q2 (d:den Z4) (i k:Nat):Int:=List.getD (List.getD (d.1:List (List Int)) i (dft (.arr 4 (.int .i64))):List Int) k (0:Int)
def Uw (l:List Int) (x:Int):Nat→Nat
  | 0=>0
  | n+1=>Uw l x n+(if List.getD l n (0:Int)=x then 1 else 0)
theorem AEn (l:List Int) (x:Int):(n:Nat)→Uw l x n≤n
  | 0=>Nat.le_refl 0
  | n+1=>by
    have:=AEn l x n
    simp only [Uw]
    split <;> omega
structure AJq (d:den Z4):Prop where
  r1:1≤List.length (d.1:List (List Int))∧List.length (d.1:List (List Int))≤8
  p1:1≤List.length (d.2.1:List Int)∧List.length (d.2.1:List Int)≤6
  c1:List.length (d.2.2.1:List Int)=List.length (d.2.1:List Int)
  i1:List.length (d.2.2.2.1:List Int)≤16
  b1:List.length (d.2.2.2.2.1:List Bool)=List.length (d.2.2.2.1:List Int)
  room:0≤(d.2.2.2.2.2.1:Int)∧(d.2.2.2.2.2.1:Int)<65
  player:0≤(d.2.2.2.2.2.2.1:Int)∧(d.2.2.2.2.2.2.1:Int)<65
  box:0≤(d.2.2.2.2.2.2.2.1:Int)∧(d.2.2.2.2.2.2.2.1:Int)<65
  exits:∀ i,i<List.length (d.1:List (List Int))→∀ k,k<4→Q2 d i k = -1∨(0≤Q2 d i k∧Q2 d i k<(List.length (d.1:List (List Int)):Int))
  many:∀ i:Nat,i<List.length (d.1:List (List Int))→(Uw d.2.2.2.1 (i:Int) (List.length (d.2.2.2.1:List Int)):Int)≤(d.2.2.2.2.2.1:Int)
  players:∀ i,i<List.length (d.2.1:List Int)→(0≤List.getD (d.2.1:List Int) i (0:Int)∧List.getD (d.2.1:List Int) i (0:Int)<(List.length (d.1:List (List Int)):Int))∧(0≤List.getD (d.2.2.1:List Int) i (0:Int)∧List.getD (d.2.2.1:List Int) i (0:Int)≤1073741824)
  items:∀ i,i<List.length (d.2.2.2.1:List Int)→0≤List.getD (d.2.2.2.1:List Int) i (0:Int)∧List.getD (d.2.2.2.1:List Int) i (0:Int)<(List.length (d.1:List (List Int)):Int)
abbrev Af (d:den Z4) (r:Zc.R):Prop:=r.1.1=true↔AJq d
theorem K4 {d:den Z4} (h:¬ AJq d):Af d ((false,()),[]):=⟨(fun e=>by cases e),fun e=>absurd e h⟩
section
variable (d:den Z4)
structure AJp (d:den Z4):Prop where
  r1:1≤List.length (d.1:List (List Int))∧List.length (d.1:List (List Int))≤8
  p1:1≤List.length (d.2.1:List Int)∧List.length (d.2.1:List Int)≤6
  c1:List.length (d.2.2.1:List Int)=List.length (d.2.1:List Int)
  i1:List.length (d.2.2.2.1:List Int)≤16
  b1:List.length (d.2.2.2.2.1:List Bool)=List.length (d.2.2.2.1:List Int)
  room:0≤(d.2.2.2.2.2.1:Int)∧(d.2.2.2.2.2.1:Int)<65
  player:0≤(d.2.2.2.2.2.2.1:Int)∧(d.2.2.2.2.2.2.1:Int)<65
  box:0≤(d.2.2.2.2.2.2.2.1:Int)∧(d.2.2.2.2.2.2.2.1:Int)<65
theorem AMd (h1:AJp d) (h2:∀ i,i<List.length (d.1:List (List Int))→(∀ k,k<4→Q2 d i k = -1∨(0≤Q2 d i k∧Q2 d i k<(List.length (d.1:List (List Int)):Int)))∧(Uw d.2.2.2.1 (i:Int) (List.length (d.2.2.2.1:List Int)):Int)≤(d.2.2.2.2.2.1:Int))
    (h3:∀ i,i<List.length (d.2.1:List Int)→(0≤List.getD (d.2.1:List Int) i (0:Int)∧List.getD (d.2.1:List Int) i (0:Int)<(List.length (d.1:List (List Int)):Int))∧(0≤List.getD (d.2.2.1:List Int) i (0:Int)∧List.getD (d.2.2.1:List Int) i (0:Int)≤1073741824))
    (t0:den Z4) (t2:Bool) (t4 t8:Int):(r i:Nat)→i+r=List.length (d.2.2.2.1:List Int)→(∀ i',i'<i→0≤List.getD (d.2.2.2.1:List Int) i' (0:Int)∧List.getD (d.2.2.2.1:List Int) i' (0:Int)<(List.length (d.1:List (List Int)):Int)) →
    Zd (fun n m _ _=>Zc.l4 n m t0 t2 (List.length (d.1:List (List Int)):Int) t4 t8 (i:Int) d) (Af d)
  | 0,i,hi,hp=>by
    refine Zd.succ1 (fun n m _ _=>Zc.l4_eq n m t0 t2 _ t4 t8 i d) (Zd.bif (fun h => ?_) (fun h=>Zd.ret ?_))
    · have:=of_decide_eq_true h; omega
    · exact ⟨fun _=>⟨h1.r1,h1.p1,h1.c1,h1.i1,h1.b1,h1.room,h1.player,h1.box,fun i hi=>(h2 i hi).1,fun i hi=>(h2 i hi).2,h3,fun i' hi'=>hp i' (by omega)⟩,fun _=>rfl⟩
  | r+1,i,hi,hp=>by
    have hlt:=h1.i1
    refine Zd.succ1 (fun n m _ _=>Zc.l4_eq n m t0 t2 _ t4 t8 i d) (Zd.bif (fun h => ?_) (fun h => ?_))
    · refine Zd.ite (by omega) (Zd.call (Un _ _) (fun v hv=>Zd.bifN (fun hb => ?_) (fun hb=>Zd.ret (K4 fun hm => ?_))))
      · have hg:=hv.1 hb
        rw [Xr (by omega)]
        refine AMd h1 h2 h3 t0 t2 t4 t8 r (i+1) (by omega) (fun i' hi' => ?_)
        by_cases he:i'=i
        · subst he; simpa using hg
        · exact hp i' (by omega)
      · have:=hv.2 (by simpa using hm.items i (by omega))
        rw [hb] at this; cases this
    · have:=of_decide_eq_false h; omega
theorem AMc (h1:AJp d) (h2:∀ i,i<List.length (d.1:List (List Int))→(∀ k,k<4→Q2 d i k = -1∨(0≤Q2 d i k∧Q2 d i k<(List.length (d.1:List (List Int)):Int)))∧(Uw d.2.2.2.1 (i:Int) (List.length (d.2.2.2.1:List Int)):Int)≤(d.2.2.2.2.2.1:Int))
    (t0:den Z4) (t2:Bool) (t4:Int):(r i:Nat)→i+r=List.length (d.2.1:List Int)→(∀ i',i'<i→(0≤List.getD (d.2.1:List Int) i' (0:Int)∧List.getD (d.2.1:List Int) i' (0:Int)<(List.length (d.1:List (List Int)):Int))∧(0≤List.getD (d.2.2.1:List Int) i' (0:Int)∧List.getD (d.2.2.1:List Int) i' (0:Int)≤1073741824)) →
    Zd (fun n m _ _=>Zc.l3 n m t0 t2 (List.length (d.1:List (List Int)):Int) t4 (i:Int) d) (Af d)
  | 0,i,hi,hp=>by
    refine Zd.succ1 (fun n m _ _=>Zc.l3_eq n m t0 t2 _ t4 i d) (Zd.bif (fun h => ?_) (fun h => ?_))
    · have:=of_decide_eq_true h; omega
    · exact (AMd d h1 h2 (fun i' hi'=>hp i' (by omega)) t0 t2 t4 i _ 0 (Nat.zero_add _) (fun i' hi'=>by omega)).enter
  | r+1,i,hi,hp=>by
    have hlt:=h1.p1
    refine Zd.succ1 (fun n m _ _=>Zc.l3_eq n m t0 t2 _ t4 i d) (Zd.bif (fun h => ?_) (fun h => ?_))
    · refine Zd.ite (by omega) (Zd.call (Un _ _) (fun v hv=>Zd.bifN (fun hb => ?_) (fun hb=>Zd.ret (K4 fun hm => ?_))))
      · have hg:=hv.1 hb
        refine Zd.ite (by rw [h1.c1]; omega) (Zd.call (AHi _) (fun u hu=>Zd.bifN (fun hb2 => ?_) (fun hb2=>Zd.ret (K4 fun hm => ?_))))
        · have hg2:=hu.1 hb2
          rw [Xr (by omega)]
          refine AMc h1 h2 t0 t2 t4 r (i+1) (by omega) (fun i' hi' => ?_)
          by_cases he:i'=i
          · subst he; exact ⟨by simpa using hg,by simpa using hg2⟩
          · exact hp i' (by omega)
        · have:=hu.2 (by simpa using (hm.players i (by omega)).2)
          rw [hb2] at this; cases this
      · have:=hv.2 (by simpa using (hm.players i (by omega)).1)
        rw [hb] at this; cases this
    · have:=of_decide_eq_false h; omega
theorem AGh (h1:AJp d) (t0:den Z4) (t2:Bool) (i:Nat) (hi:i<List.length (d.1:List (List Int))) (t5:Int)
    (next:(Uw d.2.2.2.1 (i:Int) (List.length (d.2.2.2.1:List Int)):Int)≤(d.2.2.2.2.2.1:Int)→Zd (fun n m _ _=>Zc.l0 n m t0 t2 (List.length (d.1:List (List Int)):Int) ((i+1:Nat):Int) d) (Af d)) :
    (r k:Nat)→k+r=List.length (d.2.2.2.1:List Int)→Zd (fun n m q _=>Zc.l2 n m q t0 t2 (List.length (d.1:List (List Int)):Int) (i:Int) t5 (Uw d.2.2.2.1 (i:Int) k:Int) (k:Int) d) (Af d)
  | 0,k,hk=>by
    have hlt:=h1.r1
    refine Zd.succ2 (fun n m q _=>Zc.l2_eq n m q t0 t2 _ i t5 _ k d) (Zd.bif (fun h => ?_) (fun h=>Zd.bif (fun h2=>Zd.ret (K4 fun hm => ?_)) (fun h2 => ?_)))
    · have:=of_decide_eq_true h; omega
    · have h2:=of_decide_eq_true h2
      have:=hm.many i hi
      have hk':k=List.length (d.2.2.2.1:List Int):=by omega
      rw [hk'] at h2
      exact absurd this (Int.not_le.2 h2)
    · have h2:=of_decide_eq_false h2
      rw [Xr (by omega)]
      refine next ?_
      rw [show k=List.length (d.2.2.2.1:List Int) by omega] at h2
      exact Int.not_lt.1 h2
  | r+1,k,hk=>by
    have hlt:=h1.i1
    have hle:=AEn d.2.2.2.1 (i:Int) k
    refine Zd.succ2 (fun n m q _=>Zc.l2_eq n m q t0 t2 _ i t5 _ k d) (Zd.bif (fun h=>Zd.ite (by omega) (Zd.bif (fun h2 => ?_) (fun h2 => ?_))) (fun h => ?_))
    · have h2:=of_decide_eq_true h2
      rw [Xr (i:=Uw d.2.2.2.1 (i:Int) k) (by omega),Xr (by omega)]
      have e:Uw d.2.2.2.1 (i:Int) (k+1)=Uw d.2.2.2.1 (i:Int) k+1:=by
        simp only [Uw]; rw [if_pos (by simpa using h2)]
      rw [← e]
      exact AGh h1 t0 t2 i hi t5 next r (k+1) (by omega)
    · have h2:=of_decide_eq_false h2
      rw [Xr (by omega)]
      have e:Uw d.2.2.2.1 (i:Int) (k+1)=Uw d.2.2.2.1 (i:Int) k:=by
        simp only [Uw]; rw [if_neg (by simpa using h2)]; rfl
      rw [← e]
      exact AGh h1 t0 t2 i hi t5 next r (k+1) (by omega)
    · have:=of_decide_eq_false h; omega
theorem AMb (h1:AJp d) (t0:den Z4) (t2:Bool) (i:Nat) (hi:i<List.length (d.1:List (List Int)))
    (next:(∀ k,k<4→Q2 d i k = -1∨(0≤Q2 d i k∧Q2 d i k<(List.length (d.1:List (List Int)):Int)))→(Uw d.2.2.2.1 (i:Int) (List.length (d.2.2.2.1:List Int)):Int)≤(d.2.2.2.2.2.1:Int)→Zd (fun n m _ _=>Zc.l0 n m t0 t2 (List.length (d.1:List (List Int)):Int) ((i+1:Nat):Int) d) (Af d)) :
    (r k:Nat)→k+r=4→(∀ k',k'<k→Q2 d i k' = -1∨(0≤Q2 d i k'∧Q2 d i k'<(List.length (d.1:List (List Int)):Int)))→Zd (fun n m q _=>Zc.l1 n m q t0 t2 (List.length (d.1:List (List Int)):Int) (i:Int) (k:Int) d) (Af d)
  | 0,k,hk,hp=>by
    refine Zd.succ2 (fun n m q _=>Zc.l1_eq n m q t0 t2 _ i k d) (Zd.bif (fun h => ?_) (fun h => ?_))
    · have:=of_decide_eq_true h; omega
    · exact (AGh d h1 t0 t2 i hi k (next fun k' hk'=>hp k' (by omega)) _ 0 (Nat.zero_add _)).enter1
  | r+1,k,hk,hp=>by
    have e:∀ x:Int,List.getD (List.getD (d.1:List (List Int)) (Int.toNat (i:Int)) (dft (.arr 4 (.int .i64))):List Int) (Int.toNat (k:Int)) (0:Int)=x↔Q2 d i k=x:=fun x=>by simp [Q2]
    have cont:(Q2 d i k = -1∨(0≤Q2 d i k∧Q2 d i k<(List.length (d.1:List (List Int)):Int)))→Zd (fun n m q _=>Zc.l1 n m q t0 t2 (List.length (d.1:List (List Int)):Int) (i:Int) (IntKind.wrap .i64 ((k:Int)+1)) d) (Af d):=fun hk0=>by
      rw [Xr (by omega)]
      refine AMb h1 t0 t2 i hi next r (k+1) (by omega) (fun k' hk' => ?_)
      by_cases he:k'=k
      · subst he; exact hk0
      · exact hp k' (by omega)
    refine Zd.succ2 (fun n m q _=>Zc.l1_eq n m q t0 t2 _ i k d) (Zd.bif (fun h=>Zd.ite (by omega) (Zd.ite (by omega) (Zd.bifN (fun h2 => ?_) (fun h2=>Zd.ite (by omega) (Zd.ite (by omega) (Zd.call (Un _ _) (fun v hv=>Zd.bifN (fun hb => ?_) (fun hb=>Zd.ret (K4 fun hm => ?_))))))))) (fun h => ?_))
    · exact cont (.inl ((e _).1 (of_decide_eq_true h2)))
    · exact cont (.inr (by simpa [Q2] using hv.1 hb))
    · have h2:=of_decide_eq_false h2
      rcases hm.exits i hi k (by omega) with h3 | h3
      · exact h2 ((e _).2 h3)
      · have:=hv.2 (by simpa [Q2] using h3)
        rw [hb] at this; cases this
    · have:=of_decide_eq_false h; omega
theorem AMa (h1:AJp d) (t0:den Z4) (t2:Bool):(r i:Nat)→i+r=List.length (d.1:List (List Int))→(∀ i',i'<i→(∀ k,k<4→Q2 d i' k = -1∨(0≤Q2 d i' k∧Q2 d i' k<(List.length (d.1:List (List Int)):Int)))∧(Uw d.2.2.2.1 (i':Int) (List.length (d.2.2.2.1:List Int)):Int)≤(d.2.2.2.2.2.1:Int)) →
    Zd (fun n m _ _=>Zc.l0 n m t0 t2 (List.length (d.1:List (List Int)):Int) (i:Int) d) (Af d)
  | 0,i,hi,hp=>by
    refine Zd.succ1 (fun n m _ _=>Zc.l0_eq n m t0 t2 _ i d) (Zd.bif (fun h => ?_) (fun h => ?_))
    · have:=of_decide_eq_true h; omega
    · exact (AMc d h1 (fun i' hi'=>hp i' (by omega)) t0 t2 i _ 0 (Nat.zero_add _) (fun i' hi'=>by omega)).enter
  | r+1,i,hi,hp=>by
    refine Zd.succ1 (fun n m _ _=>Zc.l0_eq n m t0 t2 _ i d) (Zd.bif (fun h => ?_) (fun h => ?_))
    · refine (AMb d h1 t0 t2 i (by omega) (fun he hm=>AMa h1 t0 t2 r (i+1) (by omega) (fun i' hi' => ?_)) 4 0 rfl (fun k' hk'=>by omega)).enter1
      by_cases he':i'=i
      · subst he'; exact ⟨he,hm⟩
      · exact hp i' (by omega)
    · have:=of_decide_eq_false h; omega
theorem AMf:Zd (fun n _ _ _=>Zc n d) (Af d):=by
  refine Zd.succ (fun n _ _ _=>Zc.eq n d) ?_
  refine Zd.bif (fun h=>Zd.ret (K4 fun hm => ?_)) (fun a1 => ?_)
  · have:=of_decide_eq_true h; have:=hm.r1; omega
  refine Zd.bif (fun h=>Zd.ret (K4 fun hm => ?_)) (fun a2 => ?_)
  · have:=of_decide_eq_true h; have:=hm.r1; omega
  refine Zd.bif (fun h=>Zd.ret (K4 fun hm => ?_)) (fun a3 => ?_)
  · have:=of_decide_eq_true h; have:=hm.p1; omega
  refine Zd.bif (fun h=>Zd.ret (K4 fun hm => ?_)) (fun a4 => ?_)
  · have:=of_decide_eq_true h; have:=hm.p1; omega
  refine Zd.bifN (fun a5 => ?_) (fun h=>Zd.ret (K4 fun hm => ?_))
  rotate_left
  · have:=of_decide_eq_false h; have:=hm.c1; omega
  refine Zd.bif (fun h=>Zd.ret (K4 fun hm => ?_)) (fun a6 => ?_)
  · have:=of_decide_eq_true h; have:=hm.i1; omega
  refine Zd.bifN (fun a7 => ?_) (fun h=>Zd.ret (K4 fun hm => ?_))
  rotate_left
  · have:=of_decide_eq_false h; have:=hm.b1; omega
  have a1:=of_decide_eq_false a1
  have a2:=of_decide_eq_false a2
  have a3:=of_decide_eq_false a3
  have a4:=of_decide_eq_false a4
  have a5:=of_decide_eq_true a5
  have a6:=of_decide_eq_false a6
  have a7:=of_decide_eq_true a7
  refine Zd.call (Un _ _) (fun v hv=>Zd.bifN (fun hb => ?_) (fun hb=>Zd.ret (K4 fun hm => ?_)))
  rotate_left
  · have:=hv.2 hm.room; rw [hb] at this; cases this
  refine Zd.call (Un _ _) (fun v2 hv2=>Zd.bifN (fun hb2 => ?_) (fun hb2=>Zd.ret (K4 fun hm => ?_)))
  rotate_left
  · have:=hv2.2 hm.player; rw [hb2] at this; cases this
  refine Zd.call (Un _ _) (fun v3 hv3=>Zd.bifN (fun hb3 => ?_) (fun hb3=>Zd.ret (K4 fun hm => ?_)))
  rotate_left
  · have:=hv3.2 hm.box; rw [hb3] at this; cases this
  exact (AMa d ⟨by omega,by omega,by omega,by omega,by omega,hv.1 hb,hv2.1 hb2,hv3.1 hb3⟩ d false _ 0 (Nat.zero_add _) (fun i' hi'=>by omega)).enter
end
end
end Go.Proofs.YtpemapoblhleoaaGreatDoor.Ghost
namespace Go.Proofs.YtpemapoblhleoaaGreatDoor.Ghost
open Go
abbrev Pl:=den Zb
theorem ALh (w:den Za):Zd (fun n _ _ _=>X3 n w) (fun r=>r.1.1=true↔(List.length (w.1.1:List (List Int))≤20∧List.length (w.1.2.1:List Int)≤20∧List.length (w.1.2.2.1:List Int)≤20∧List.length (w.1.2.2.2.1:List Int)≤40 ∧
    List.length (w.1.2.2.2.2.1:List Bool)≤40∧List.length (w.2.1:List Int)≤40∧List.length (w.2.2.1:List Int)≤40∧List.length (w.2.2.2.1:List (den Zb))≤40)):=by
  have no:∀ (p:Prop),¬ p→((((false,()),[]):X3.R).1.1=true↔p):=fun p hp=>⟨fun e=>absurd e (by decide),fun e=>absurd e hp⟩
  refine Zd.succ (fun n _ _ _=>X3.eq n w) ?_
  refine Zd.bif (fun a1 => ?_) (fun h=>Zd.ret (no _ fun hm => ?_))
  rotate_left
  · have:=of_decide_eq_false h; omega
  refine Zd.bif (fun a2 => ?_) (fun h=>Zd.ret (no _ fun hm => ?_))
  rotate_left
  · have:=of_decide_eq_false h; omega
  refine Zd.bif (fun a3 => ?_) (fun h=>Zd.ret (no _ fun hm => ?_))
  rotate_left
  · have:=of_decide_eq_false h; omega
  refine Zd.bif (fun a4 => ?_) (fun h=>Zd.ret (no _ fun hm => ?_))
  rotate_left
  · have:=of_decide_eq_false h; omega
  refine Zd.bif (fun a5 => ?_) (fun h=>Zd.ret (no _ fun hm => ?_))
  rotate_left
  · have:=of_decide_eq_false h; omega
  refine Zd.bif (fun a6 => ?_) (fun h=>Zd.ret (no _ fun hm => ?_))
  rotate_left
  · have:=of_decide_eq_false h; omega
  refine Zd.bif (fun a7 => ?_) (fun h=>Zd.ret (no _ fun hm => ?_))
  rotate_left
  · have:=of_decide_eq_false h; omega
  have a1:=of_decide_eq_true a1
  have a2:=of_decide_eq_true a2
  have a3:=of_decide_eq_true a3
  have a4:=of_decide_eq_true a4
  have a5:=of_decide_eq_true a5
  have a6:=of_decide_eq_true a6
  have a7:=of_decide_eq_true a7
  refine Zd.ret ?_
  constructor
  · intro h
    have:=of_decide_eq_true h
    omega
  · intro h
    exact decide_eq_true (by omega)
theorem Ls (x y:Pl):eqT Zb x y=true↔x=y:=by
  obtain ⟨a,b,u⟩:=x
  obtain ⟨c,d,v⟩:=y
  cases u; cases v
  simp [eqT,ABy]
def Yl (l:List Pl) (p:Pl):Nat→Nat
  | 0=>0
  | n+1=>Yl l p n+(if List.getD l n (dft Zb)=p then 1 else 0)
theorem Fm (l:List Pl) (p:Pl):(n:Nat)→Yl l p n≤n
  | 0=>Nat.le_refl 0
  | n+1=>by
    have:=Fm l p n
    simp only [Yl]
    split <;> omega
theorem ACc (w:den Za) (hw:List.length (w.2.2.2.1:List (den Zb))<4611686018427387904) (p:Pl) (t0:den Za) (t1:Pl) (t4:Int):(r i:Nat)→i+r=List.length (w.2.2.2.1:List (den Zb)) →
    Zd (fun n m _ _=>Zz.l0 n m t0 t1 t4 (Yl w.2.2.2.1 p i:Int) (i:Int) w p) (fun r=>r=(((Yl w.2.2.2.1 p (List.length (w.2.2.2.1:List (den Zb))):Int),()),[]))
  | 0,i,hi=>by
    refine Zd.succ1 (fun n m _ _=>Zz.l0_eq n m t0 t1 t4 _ i w p) (Zd.bif (fun h => ?_) (fun h=>Zd.ret ?_))
    · have:=of_decide_eq_true h; omega
    · rw [show i=List.length (w.2.2.2.1:List (den Zb)) by omega]
  | r+1,i,hi=>by
    have hle:=Fm w.2.2.2.1 p i
    refine Zd.succ1 (fun n m _ _=>Zz.l0_eq n m t0 t1 t4 _ i w p) (Zd.bif (fun h=>Zd.ite (by omega) (Zd.bif (fun h2 => ?_) (fun h2 => ?_))) (fun h => ?_))
    · rw [Xr (i:=Yl w.2.2.2.1 p i) (by omega),Xr (by omega)]
      have e:Yl w.2.2.2.1 p (i+1)=Yl w.2.2.2.1 p i+1:=by
        simp only [Yl]; rw [if_pos (by simpa using (Ls _ _).1 h2)]
      rw [← e]
      exact ACc w hw p t0 t1 t4 r (i+1) (by omega)
    · rw [Xr (by omega)]
      have e:Yl w.2.2.2.1 p (i+1)=Yl w.2.2.2.1 p i:=by
        simp only [Yl]
        rw [if_neg (fun he=>by rw [(Ls _ _).2 (by simpa using he)] at h2; cases h2)]; rfl
      rw [← e]
      exact ACc w hw p t0 t1 t4 r (i+1) (by omega)
    · have:=of_decide_eq_false h; omega
theorem AI2 (w:den Za) (hw:List.length (w.2.2.2.1:List (den Zb))<4611686018427387904) (p:Pl):Zd (fun n _ _ _=>Zz n w p) (fun r=>r=(((Yl w.2.2.2.1 p (List.length (w.2.2.2.1:List (den Zb))):Int),()),[])):=by
  refine Zd.succ (fun n _ _ _=>Zz.eq n w p) ?_
  exact (ACc w hw p w p 0 _ 0 (Nat.zero_add _)).enter
def depI (l:List Pl):Nat→Nat→Pl→Nat
  | 0,c,p=>if p.1=(2:Int) then 99 else c
  | f+1,c,p=>if p.1=(2:Int) then (if 50<c+1 then 99 else depI l f (c+1) (List.getD l (Int.toNat p.2.1) (dft Zb))) else c
def inPl (l:List Pl) (p:Pl):Prop:=p.1=(2:Int)→(0:Int)≤p.2.1∧(p.2.1:Int)<(List.length l:Int)
theorem ADj (w:den Za) (hl:∀ i,i<List.length (w.2.2.2.1:List (den Zb))→inPl w.2.2.2.1 (List.getD w.2.2.2.1 i (dft Zb))) (t0:den Za) (t1:Pl) (t4:Int):(f c:Nat)→f+c=51→(p:Pl)→inPl w.2.2.2.1 p →
    Zd (fun n m _ _=>Zx.l0 n m t0 t1 t4 (c:Int) w p) (fun r=>r=(((depI w.2.2.2.1 f c p:Int),()),[]))
  | 0,c,hc,p,hp=>by
    refine Zd.succ1 (fun n m _ _=>Zx.l0_eq n m t0 t1 t4 c w p) (Zd.bif (fun h=>Zd.bif (fun h2=>Zd.ret ?_) (fun h2 => ?_)) (fun h=>Zd.ret ?_))
    · have h:=of_decide_eq_true h
      simp only [depI]
      rw [if_pos h]
      rfl
    · rw [Xr (by omega)] at h2
      have:=of_decide_eq_false h2; omega
    · have h:=of_decide_eq_false h
      simp only [depI]
      rw [if_neg h]
  | f+1,c,hc,p,hp=>by
    refine Zd.succ1 (fun n m _ _=>Zx.l0_eq n m t0 t1 t4 c w p) (Zd.bif (fun h=>Zd.bif (fun h2=>Zd.ret ?_) (fun h2 => ?_)) (fun h=>Zd.ret ?_))
    · have h:=of_decide_eq_true h
      rw [Xr (by omega)] at h2
      have:=of_decide_eq_true h2
      simp only [depI]
      rw [if_pos h,if_pos (by omega)]
      rfl
    · have h:=of_decide_eq_true h
      rw [Xr (by omega)] at h2 ⊢
      have:=of_decide_eq_false h2
      obtain ⟨g1,g2⟩:=hp h
      refine Zd.ite ⟨g1,g2⟩ ?_
      simp only [depI]
      rw [if_pos h,if_neg (by omega)]
      exact ADj w hl t0 t1 t4 f (c+1) (by omega) _ (hl _ ((Int.toNat_lt g1).2 g2))
    · have h:=of_decide_eq_false h
      simp only [depI]
      rw [if_neg h]
theorem AF0 (w:den Za) (hl:∀ i,i<List.length (w.2.2.2.1:List (den Zb))→inPl w.2.2.2.1 (List.getD w.2.2.2.1 i (dft Zb))) (p:Pl) (hp:inPl w.2.2.2.1 p) :
    Zd (fun n _ _ _=>Zx n w p) (fun r=>r=(((depI w.2.2.2.1 51 0 p:Int),()),[])):=by
  refine Zd.succ (fun n _ _ _=>Zx.eq n w p) ?_
  exact (ADj w hl w p 0 51 0 rfl p hp).enter
def Lj (d:den Z4) (p:Pl):Int:=if p.1=(0:Int) then d.2.2.2.2.2.1 else if p.1=(1:Int) then d.2.2.2.2.2.2.1 else d.2.2.2.2.2.2.2.1
theorem AKu (w:den Za) (p:Pl) (hp:(0:Int)≤p.1∧(p.1:Int)<3):Zd (fun n _ _ _=>X9 n w p) (fun r=>r=((Lj w.1 p,()),[])):=by
  refine Zd.succ (fun n _ _ _=>X9.eq n w p) (Zd.ite hp (Zd.ret ?_))
  have key:∀ k:Int,0≤k→k<3→k=0∨k=1∨k=2:=fun k h0 h1=>by omega
  have h3:=key p.1 hp.1 hp.2
  unfold Lj
  rcases h3 with h | h | h <;> rw [h] <;> rfl
def Kf (d:den Z4) (p:Pl):Prop :=
  (p.1=(0:Int)∧(0:Int)≤p.2.1∧(p.2.1:Int)<(List.length (d.1:List (List Int)):Int))∨(p.1=(1:Int)∧(0:Int)≤p.2.1∧(p.2.1:Int)<(List.length (d.2.1:List Int):Int)) ∨
    (p.1=(2:Int)∧((0:Int)≤p.2.1∧(p.2.1:Int)<(List.length (d.2.2.2.1:List Int):Int))∧List.getD (d.2.2.2.2.1:List Bool) (Int.toNat p.2.1) false=true)
structure X0 (w:den Za):Prop where
  may:AJq w.1
  a1:List.length (w.2.1:List Int)=List.length (w.1.2.1:List Int)
  c1:List.length (w.2.2.1:List Int)=List.length (w.1.2.1:List Int)
  w1:List.length (w.2.2.2.1:List (den Zb))=List.length (w.1.2.2.2.1:List Int)
  at_:∀ i,i<List.length (w.2.1:List Int)→(0≤List.getD (w.2.1:List Int) i (0:Int)∧List.getD (w.2.1:List Int) i (0:Int)<(List.length (w.1.1:List (List Int)):Int))∧(0≤List.getD (w.2.2.1:List Int) i (0:Int)∧List.getD (w.2.2.1:List Int) i (0:Int)≤1073741824)
  good:∀ i,i<List.length (w.2.2.2.1:List (den Zb))→Kf w.1 (List.getD w.2.2.2.1 i (dft Zb))
  deep:∀ i,i<List.length (w.2.2.2.1:List (den Zb))→depI w.2.2.2.1 51 0 (List.getD w.2.2.2.1 i (dft Zb))≤4∧(Yl w.2.2.2.1 (List.getD w.2.2.2.1 i (dft Zb)) (List.length (w.2.2.2.1:List (den Zb))):Int)≤Lj w.1 (List.getD w.2.2.2.1 i (dft Zb))
abbrev Nh (w:den Za) (r:Zg.R):Prop:=r.1.1=true↔X0 w
theorem H2 {w:den Za} (h:¬ X0 w):Nh w ((false,()),[]):=⟨(fun e=>by cases e),fun e=>absurd e h⟩
section
variable (w:den Za)
structure AFp (w:den Za):Prop where
  may:AJq w.1
  a1:List.length (w.2.1:List Int)=List.length (w.1.2.1:List Int)
  c1:List.length (w.2.2.1:List Int)=List.length (w.1.2.1:List Int)
  w1:List.length (w.2.2.2.1:List (den Zb))=List.length (w.1.2.2.2.1:List Int)
theorem Kf.inPl {d:den Z4} {l:List Pl} (hl:l.length=List.length (d.2.2.2.1:List Int)) {p:Pl} (h:Kf d p):inPl l p:=fun hk=>by
  rcases h with ⟨h,_⟩ | ⟨h,_⟩ | ⟨_,h,_⟩
  · rw [h] at hk; cases hk
  · rw [h] at hk; cases hk
  · rw [hl]; exact h
theorem Kf.kind {d:den Z4} {p:Pl} (h:Kf d p):(0:Int)≤p.1∧(p.1:Int)<3:=by
  rcases h with ⟨h,_⟩ | ⟨h,_⟩ | ⟨h,_⟩ <;> rw [h] <;> decide
theorem AE6 (h1:AFp w) (h2:∀ i,i<List.length (w.2.1:List Int)→(0≤List.getD (w.2.1:List Int) i (0:Int)∧List.getD (w.2.1:List Int) i (0:Int)<(List.length (w.1.1:List (List Int)):Int))∧(0≤List.getD (w.2.2.1:List Int) i (0:Int)∧List.getD (w.2.2.1:List Int) i (0:Int)≤1073741824))
    (h3:∀ i,i<List.length (w.2.2.2.1:List (den Zb))→Kf w.1 (List.getD w.2.2.2.1 i (dft Zb))) (t0:den Za) (t2:Bool) (t4 t5:Int):(r i:Nat)→i+r=List.length (w.2.2.2.1:List (den Zb)) →
    (∀ i',i'<i→depI w.2.2.2.1 51 0 (List.getD w.2.2.2.1 i' (dft Zb))≤4∧(Yl w.2.2.2.1 (List.getD w.2.2.2.1 i' (dft Zb)) (List.length (w.2.2.2.1:List (den Zb))):Int)≤Lj w.1 (List.getD w.2.2.2.1 i' (dft Zb))) →
    Zd (fun n m _ _=>Zg.l2 n m t0 t2 t4 t5 (i:Int) w w.1) (Nh w)
  | 0,i,hi,hp=>by
    refine Zd.succ1 (fun n m _ _=>Zg.l2_eq n m t0 t2 t4 t5 i w w.1) (Zd.bif (fun h => ?_) (fun h=>Zd.ret ?_))
    · have:=of_decide_eq_true h; omega
    · exact ⟨fun _=>⟨h1.may,h1.a1,h1.c1,h1.w1,h2,h3,fun i' hi'=>hp i' (by omega)⟩,fun _=>rfl⟩
  | r+1,i,hi,hp=>by
    have h16:=h1.may.i1
    have hw:=h1.w1
    have hg:=h3 i (by omega)
    have hin:∀ i,i<List.length (w.2.2.2.1:List (den Zb))→inPl w.2.2.2.1 (List.getD w.2.2.2.1 i (dft Zb)):=fun i hi=>(h3 i hi).inPl h1.w1
    refine Zd.succ1 (fun n m _ _=>Zg.l2_eq n m t0 t2 t4 t5 i w w.1) (Zd.bif (fun h=>Zd.ite (by omega) ?_) (fun h => ?_))
    · rw [Int.toNat_natCast]
      refine Zd.call (AF0 w hin _ (hin i (by omega))) (fun v hv => ?_)
      subst hv
      refine Zd.bif (fun hb=>Zd.ret (H2 fun hm => ?_)) (fun hb=>Zd.ite (by omega) (Zd.call (AI2 w (by omega) _) (fun u hu=>Zd.ite (by omega) (Zd.call (AKu w _ hg.kind) (fun x hx => ?_)))))
      · have h4:(4:Int)<(depI w.2.2.2.1 51 0 (List.getD w.2.2.2.1 i (dft Zb)):Int):=of_decide_eq_true hb
        have:=(hm.deep i (by omega)).1
        omega
      · subst hu hx
        refine Zd.bif (fun hb2=>Zd.ret (H2 fun hm => ?_)) (fun hb2 => ?_)
        · have h4:=of_decide_eq_true hb2
          exact absurd (hm.deep i (by omega)).2 (Int.not_le.2 h4)
        · have h4:¬ (4:Int)<(depI w.2.2.2.1 51 0 (List.getD w.2.2.2.1 i (dft Zb)):Int):=of_decide_eq_false hb
          have h5:=of_decide_eq_false hb2
          rw [Xr (by omega)]
          refine AE6 h1 h2 h3 t0 t2 t4 t5 r (i+1) (by omega) (fun i' hi' => ?_)
          by_cases he:i'=i
          · subst he
            exact ⟨by omega,Int.not_lt.1 h5⟩
          · exact hp i' (by omega)
    · have:=of_decide_eq_false h; omega
end
end Go.Proofs.YtpemapoblhleoaaGreatDoor.Ghost
namespace Go.Proofs.YtpemapoblhleoaaGreatDoor.Ghost
open Go
section
variable (w:den Za)
theorem AE5 (h1:AFp w) (h2:∀ i,i<List.length (w.2.1:List Int)→(0≤List.getD (w.2.1:List Int) i (0:Int)∧List.getD (w.2.1:List Int) i (0:Int)<(List.length (w.1.1:List (List Int)):Int))∧(0≤List.getD (w.2.2.1:List Int) i (0:Int)∧List.getD (w.2.2.1:List Int) i (0:Int)≤1073741824))
    (t0:den Za) (t2:Bool) (t4:Int):(r i:Nat)→i+r=List.length (w.2.2.2.1:List (den Zb))→(∀ i',i'<i→Kf w.1 (List.getD w.2.2.2.1 i' (dft Zb))) →
    Zd (fun n m _ _=>Zg.l1 n m t0 t2 t4 (i:Int) w w.1) (Nh w)
  | 0,i,hi,hp=>by
    refine Zd.succ1 (fun n m _ _=>Zg.l1_eq n m t0 t2 t4 i w w.1) (Zd.bif (fun h => ?_) (fun h => ?_))
    · have:=of_decide_eq_true h; omega
    · exact (AE6 w h1 h2 (fun i' hi'=>hp i' (by omega)) t0 t2 t4 i _ 0 (Nat.zero_add _) (fun i' hi'=>by omega)).enter
  | r+1,i,hi,hp=>by
    have h16:=h1.may.i1
    have hw:=h1.w1
    refine Zd.succ1 (fun n m _ _=>Zg.l1_eq n m t0 t2 t4 i w w.1) (Zd.bif (fun h=>Zd.ite (by omega) ?_) (fun h => ?_))
    rotate_left
    · have:=of_decide_eq_false h; omega
    rw [Int.toNat_natCast]
    have next:Kf w.1 (List.getD w.2.2.2.1 i (dft Zb))→Zd (fun n m _ _=>Zg.l1 n m t0 t2 t4 (IntKind.wrap .i64 ((i:Int)+1)) w w.1) (Nh w):=fun hg=>by
      rw [Xr (by omega)]
      refine AE5 h1 h2 t0 t2 t4 r (i+1) (by omega) (fun i' hi' => ?_)
      by_cases he:i'=i
      · subst he; exact hg
      · exact hp i' (by omega)
    have no:¬ Kf w.1 (List.getD w.2.2.2.1 i (dft Zb))→Nh w ((false,()),[]):=fun hn=>H2 fun hm=>hn (hm.good i (by omega))
    have hb1:=h1.may.b1
    generalize hpe:(List.getD w.2.2.2.1 i (dft Zb):den Zb)=p at next no ⊢
    have ne01:¬ (0:Int)=1:=by decide
    have ne02:¬ (0:Int)=2:=by decide
    have ne12:¬ (1:Int)=2:=by decide
    have box:(p.1=(2:Int)→((0:Int)≤p.2.1∧(p.2.1:Int)<(List.length (w.1.2.2.2.1:List Int):Int))→List.getD (w.1.2.2.2.2.1:List Bool) (Int.toNat p.2.1) false=true→Kf w.1 p):=fun a b c=>.inr (.inr ⟨a,b,c⟩)
    have t2':(p.1=(2:Int)∨¬ Kf w.1 p)→Zd (fun n m _ _=>bif (decide ((p.1:Int)=2)) then
            Option.bind (Z5 n (p.2.1:Int) ((List.length (w.1.2.2.2.1:(List Int))):Int)) fun r6 =>
            bif (r6.1.1:Bool) then
              if (0:Int)≤(p.2.1:Int)∧(p.2.1:Int)<(((List.length (w.1.2.2.2.2.1:(List Bool))):Nat):Int) then
              bif (!(List.getD (w.1.2.2.2.2.1:(List Bool)) (Int.toNat (p.2.1:Int)) false:Bool)) then
                some ((false,()),[])
              else
                Zg.l1 n m t0 t2 t4 (IntKind.wrap .i64 ((i:Int)+1)) w w.1
              else none
            else
              some ((false,()),[])
          else
            some ((false,()),[])) (Nh w):=fun hor=>by
      refine Zd.bif (fun k2=>Zd.call (Un _ _) (fun v hv=>Zd.bif (fun hb=>Zd.ite ?_ (Zd.bifN (fun hx => ?_) (fun hx=>Zd.ret (no ?_)))) (fun hb=>Zd.ret (no ?_)))) (fun k2=>Zd.ret (no ?_))
      · rw [hb1]; exact hv.1 hb
      · exact next (box (of_decide_eq_true k2) (hv.1 hb) hx)
      · rintro (⟨a,_⟩ | ⟨a,_⟩ | ⟨a,b,c⟩)
        · have:=of_decide_eq_true k2; rw [a] at this; exact ne02 this
        · have:=of_decide_eq_true k2; rw [a] at this; exact ne12 this
        · rw [hx] at c; cases c
      · rintro (⟨a,_⟩ | ⟨a,_⟩ | ⟨a,b,c⟩)
        · have:=of_decide_eq_true k2; rw [a] at this; exact ne02 this
        · have:=of_decide_eq_true k2; rw [a] at this; exact ne12 this
        · have:=hv.2 b; rw [hb] at this; cases this
      · rcases hor with hor | hor
        · exact absurd hor (of_decide_eq_false k2)
        · exact hor
    refine Zd.bif (fun k0=>Zd.call (Un _ _) (fun v hv=>Zd.bif (fun hb=>next (.inl ⟨of_decide_eq_true k0,hv.1 hb⟩)) (fun hb => ?_))) (fun k0 => ?_)
    · have ng:¬ Kf w.1 p:=by
        have k0:=of_decide_eq_true k0
        rintro (⟨a,b⟩ | ⟨a,_⟩ | ⟨a,_⟩)
        · have:=hv.2 b; rw [hb] at this; cases this
        · rw [k0] at a; exact ne01 a
        · rw [k0] at a; exact ne02 a
      refine Zd.bif (fun k1 => ?_) (fun k1=>t2' (.inr ng))
      have k0:=of_decide_eq_true k0
      have k1:=of_decide_eq_true k1
      rw [k0] at k1; exact absurd k1 ne01
    · refine Zd.bif (fun k1=>Zd.call (Un _ _) (fun v hv=>Zd.bif (fun hb=>next (.inr (.inl ⟨of_decide_eq_true k1,hv.1 hb⟩))) (fun hb => ?_))) (fun k1 => ?_)
      · have ng:¬ Kf w.1 p:=by
          have k1:=of_decide_eq_true k1
          rintro (⟨a,b⟩ | ⟨a,b⟩ | ⟨a,_⟩)
          · rw [k1] at a; exact ne01 a.symm
          · have:=hv.2 b; rw [hb] at this; cases this
          · rw [k1] at a; exact ne12 a
        exact t2' (.inr ng)
      · by_cases k2:p.1=(2:Int)
        · exact t2' (.inl k2)
        · refine t2' (.inr ?_)
          rintro (⟨a,b⟩ | ⟨a,b⟩ | ⟨a,_⟩)
          · exact of_decide_eq_false k0 a
          · exact of_decide_eq_false k1 a
          · exact k2 a
theorem AE4 (h1:AFp w) (t0:den Za) (t2:Bool):(r i:Nat)→i+r=List.length (w.2.1:List Int)→(∀ i',i'<i→(0≤List.getD (w.2.1:List Int) i' (0:Int)∧List.getD (w.2.1:List Int) i' (0:Int)<(List.length (w.1.1:List (List Int)):Int))∧(0≤List.getD (w.2.2.1:List Int) i' (0:Int)∧List.getD (w.2.2.1:List Int) i' (0:Int)≤1073741824)) →
    Zd (fun n m _ _=>Zg.l0 n m t0 t2 (i:Int) w w.1) (Nh w)
  | 0,i,hi,hp=>by
    refine Zd.succ1 (fun n m _ _=>Zg.l0_eq n m t0 t2 i w w.1) (Zd.bif (fun h => ?_) (fun h => ?_))
    · have:=of_decide_eq_true h; omega
    · exact (AE5 w h1 (fun i' hi'=>hp i' (by omega)) t0 t2 i _ 0 (Nat.zero_add _) (fun i' hi'=>by omega)).enter
  | r+1,i,hi,hp=>by
    have h6:=h1.may.p1
    have ha:=h1.a1
    have hc:=h1.c1
    refine Zd.succ1 (fun n m _ _=>Zg.l0_eq n m t0 t2 i w w.1) (Zd.bif (fun h=>Zd.ite (by omega) (Zd.call (Un _ _) (fun v hv=>Zd.bifN (fun hb=>Zd.ite (by omega) (Zd.call (AHi _) (fun u hu=>Zd.bifN (fun hb2 => ?_) (fun hb2=>Zd.ret (H2 fun hm => ?_))))) (fun hb=>Zd.ret (H2 fun hm => ?_))))) (fun h => ?_))
    · rw [Xr (by omega)]
      refine AE4 h1 t0 t2 r (i+1) (by omega) (fun i' hi' => ?_)
      by_cases he:i'=i
      · subst he; exact ⟨by simpa using hv.1 hb,by simpa using hu.1 hb2⟩
      · exact hp i' (by omega)
    · have:=hu.2 (by simpa using (hm.at_ i (by omega)).2)
      rw [hb2] at this; cases this
    · have:=hv.2 (by simpa using (hm.at_ i (by omega)).1)
      rw [hb] at this; cases this
    · have:=of_decide_eq_false h; omega
theorem AGq:Zd (fun n _ _ _=>Zg n w) (Nh w):=by
  refine Zd.succ (fun n _ _ _=>Zg.eq n w) ?_
  refine Zd.call (AMf w.1) (fun v hv=>Zd.bifN (fun hb => ?_) (fun hb=>Zd.ret (H2 fun hm => ?_)))
  rotate_left
  · have:=hv.2 hm.may; rw [hb] at this; cases this
  refine Zd.bifN (fun a1 => ?_) (fun h=>Zd.ret (H2 fun hm => ?_))
  rotate_left
  · have:=of_decide_eq_false h; have:=hm.a1; omega
  refine Zd.bifN (fun a2 => ?_) (fun h=>Zd.ret (H2 fun hm => ?_))
  rotate_left
  · have:=of_decide_eq_false h; have:=hm.c1; omega
  refine Zd.bifN (fun a3 => ?_) (fun h=>Zd.ret (H2 fun hm => ?_))
  rotate_left
  · have:=of_decide_eq_false h; have:=hm.w1; omega
  have a1:=of_decide_eq_true a1
  have a2:=of_decide_eq_true a2
  have a3:=of_decide_eq_true a3
  exact (AE4 w ⟨hv.1 hb,by omega,by omega,by omega⟩ w false _ 0 (Nat.zero_add _) (fun i' hi'=>by omega)).enter
end
end Go.Proofs.YtpemapoblhleoaaGreatDoor.Ghost
namespace Go.Proofs.YtpemapoblhleoaaGreatDoor.Ghost
open Go
theorem ALg {α:Type} (d:α) {a b:List α} (hl:a.length=b.length) (h:∀ i,i<a.length→a.getD i d=b.getD i d):a=b:=by
  refine List.ext_getElem hl (fun i h1 h2 => ?_)
  have:=h i h1
  rw [List.getD_eq_getElem?_getD,List.getD_eq_getElem?_getD,List.getElem?_eq_getElem h1,List.getElem?_eq_getElem h2] at this
  exact this
structure Sm (w:den Za):Prop where
  e:List.length (w.1.1:List (List Int))≤1048576
  b:List.length (w.1.2.2.2.2.1:List Bool)≤1048576
  p:List.length (w.1.2.1:List Int)≤1048576
  c:List.length (w.1.2.2.1:List Int)≤1048576
  i:List.length (w.1.2.2.2.1:List Int)≤1048576
  a:List.length (w.2.1:List Int)≤1048576
  wc:List.length (w.2.2.1:List Int)≤1048576
  wh:List.length (w.2.2.2.1:List (den Zb))≤1048576
  rows:∀ i,i<List.length (w.1.1:List (List Int))→List.length (List.getD (w.1.1:List (List Int)) i (dft (.arr 4 (.int .i64))):List Int)=4
section
variable (a b:den Za) (ha:Sm a) (hb:Sm b)
include ha hb
end
end Go.Proofs.YtpemapoblhleoaaGreatDoor.Ghost
namespace Go.Proofs.YtpemapoblhleoaaGreatDoor.Ghost
open Go
theorem Ee (l:List Int) (h:l.length≤1048576):Zd (fun n _ _ _=>Jo n l) (fun r=>r=((l,()),[(0,[])])):=by
  refine Zd.succ (G:=fun _ _ _ _=>some ((l,()),[(0,[])])) (fun n _ _ _ => ?_) (Zd.ret rfl)
  show (if l.length≤1048576 then some ((l,()),[(0,[])]) else none)=some ((l,()),[(0,[])])
  rw [if_pos h]
theorem ADc (l:List Pl) (h:l.length≤1048576):Zd (fun n _ _ _=>Yo n l) (fun r=>r=((l,()),[(0,[])])):=by
  refine Zd.succ (G:=fun _ _ _ _=>some ((l,()),[(0,[])])) (fun n _ _ _ => ?_) (Zd.ret rfl)
  show (if l.length≤1048576 then some ((l,()),[(0,[])]) else none)=some ((l,()),[(0,[])])
  rw [if_pos h]
theorem Nv (w:den Za) (h:Sm w):Zd (fun n _ _ _=>Jb n w) (fun r=>r=((w,()),[(0,[1]),(0,[2]),(0,[3])])):=by
  refine Zd.succ (fun n _ _ _=>Jb.eq n w) (Zd.call (Ee _ h.a) (fun v1 e1 => ?_))
  subst e1
  refine Zd.bifT rfl (Zd.call (Ee _ h.wc) (fun v2 e2 => ?_))
  subst e2
  refine Zd.bifT rfl (Zd.call (ADc _ h.wh) (fun v3 e3 => ?_))
  subst e3
  exact Zd.bifT rfl (Zd.ret rfl)
end Go.Proofs.YtpemapoblhleoaaGreatDoor.Ghost
namespace Go.Proofs.YtpemapoblhleoaaGreatDoor.Ghost
open Go
structure Ok (w:den Za):Prop where
  sm:Sm w
  right:X0 w
abbrev AM9 (w:den Za):Prop:=List.length (w.1.1:List (List Int))≤20∧List.length (w.1.2.1:List Int)≤20∧List.length (w.1.2.2.1:List Int)≤20∧List.length (w.1.2.2.2.1:List Int)≤40 ∧
    List.length (w.1.2.2.2.2.1:List Bool)≤40∧List.length (w.2.1:List Int)≤40∧List.length (w.2.2.1:List Int)≤40∧List.length (w.2.2.2.1:List (den Zb))≤40
theorem Fi {α:Type} {l:List α} {i:Nat} (d:α) (h:i<l.length):l.getD i d∈l:=by
  rw [List.getD_eq_getElem?_getD,List.getElem?_eq_getElem h]
  exact List.getElem_mem h
theorem BUa {w:den Za} (hw:wfD Za w) (hf:AM9 w) (hr:X0 w):Ok w:=by
  obtain ⟨f1,f2,f3,f4,f5,f6,f7,f8⟩:=hf
  refine ⟨⟨by omega,by omega,by omega,by omega,by omega,by omega,by omega,by omega,fun i hi => ?_⟩,hr⟩
  have h1:∀ y:List Int,y∈(w.1.1:List (List Int))→wfD (.arr 4 (.int .i64)) y:=hw.1.1.2
  exact (h1 _ (Fi _ hi)).1
theorem AM1 {a:Int} (h:wfD (.int .u8) a):0≤a∧a<256:=by
  have h1:IntKind.u8.min≤a∧a≤IntKind.u8.max:=h
  have e1:IntKind.u8.min=0:=rfl
  have e2:IntKind.u8.max=255:=rfl
  omega
theorem AL0 {a:Int} (h:wfD (.int .u8) a) {n:Nat} (hn:0<n):∃ i:Nat,i<n∧Int.tmod (IntKind.wrap .i64 a) (n:Int)=(i:Int):=by
  obtain ⟨h0,h1⟩:=AM1 h
  rw [Hm (by omega) (by omega)]
  refine ⟨(a % (n:Int)).toNat,?_,?_⟩
  · have:=Int.emod_lt_of_pos a (show (0:Int)<n by omega)
    have:=Int.emod_nonneg a (show (n:Int)≠0 by omega)
    omega
  · rw [Int.tmod_eq_emod_of_nonneg h0]
    have:=Int.emod_nonneg a (show (n:Int)≠0 by omega)
    omega
theorem Kr {α:Type} (l:List α) (i j:Nat) (x d:α) (h:i<l.length):(l.set i x).getD j d=if j=i then x else l.getD j d:=by
  rw [List.getD_eq_getElem?_getD,List.getD_eq_getElem?_getD]
  by_cases hj:j=i
  · subst hj; rw [List.getElem?_set_self h,if_pos rfl]; rfl
  · rw [List.getElem?_set_ne (Ne.symm hj),if_neg hj]
theorem X0.pos {w:den Za} (h:X0 w):0<List.length (w.2.1:List Int):=by have:=h.a1; have:=h.may.p1; omega
end Go.Proofs.YtpemapoblhleoaaGreatDoor.Ghost
