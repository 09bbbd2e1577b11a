/- What functions come to, and that the statements are answered with 'true'. Conditions: none. -/
import Derived.Test.YtjobjooccgledaaDoorS
import Derived.Test.YtjobjooccgledaaDoorGE
import Derived.Test.YtjobjooccgledaaDoorA4
import Derived.KernelRfl
set_option linter.unusedVariables false
set_option linter.unusedSimpArgs false
set_option linter.unusedSectionVars false
set_option linter.unnecessarySimpa false
namespace Go.Proofs.YtjobjooccgledaaDoor.Ghost
open Go
section
def exitAt (d:den tDesc) (i k:Nat):Int:=List.getD (List.getD (d.1:List (List Int)) i (dft (.arr 4 (.int .i64))):List Int) k (0:Int)
def manyI (l:List Int) (x:Int):Nat→Nat
  | 0=>0
  | n+1=>manyI l x n+(if List.getD l n (0:Int)=x then 1 else 0)
theorem manyI_le (l:List Int) (x:Int):(n:Nat)→manyI l x n≤n
  | 0=>Nat.le_refl 0
  | n+1=>by
    have:=manyI_le l x n
    simp only [manyI]
    split <;> omega
structure MayP (d:den tDesc):Prop where
  r1:1≤List.length (d.1:List (List Int))∧List.length (d.1:List (List Int))≤8
  p1:1≤List.length (d.2.1:List Int)∧List.length (d.2.1:List Int)≤6
  c1:List.length (d.2.2.1:List Int)=List.length (d.2.1:List Int)
  i1:List.length (d.2.2.2.1:List Int)≤16
  b1:List.length (d.2.2.2.2.1:List Bool)=List.length (d.2.2.2.1:List Int)
  room:0≤(d.2.2.2.2.2.1:Int)∧(d.2.2.2.2.2.1:Int)<65
  player:0≤(d.2.2.2.2.2.2.1:Int)∧(d.2.2.2.2.2.2.1:Int)<65
  box:0≤(d.2.2.2.2.2.2.2.1:Int)∧(d.2.2.2.2.2.2.2.1:Int)<65
  exits:∀ i,i<List.length (d.1:List (List Int))→∀ k,k<4→exitAt d i k = -1∨(0≤exitAt d i k∧exitAt d i k<(List.length (d.1:List (List Int)):Int))
  many:∀ i:Nat,i<List.length (d.1:List (List Int))→(manyI d.2.2.2.1 (i:Int) (List.length (d.2.2.2.1:List Int)):Int)≤(d.2.2.2.2.2.1:Int)
  players:∀ i,i<List.length (d.2.1:List Int)→(0≤List.getD (d.2.1:List Int) i (0:Int)∧List.getD (d.2.1:List Int) i (0:Int)<(List.length (d.1:List (List Int)):Int))∧(0≤List.getD (d.2.2.1:List Int) i (0:Int)∧List.getD (d.2.2.1:List Int) i (0:Int)≤1073741824)
  items:∀ i,i<List.length (d.2.2.2.1:List Int)→0≤List.getD (d.2.2.2.1:List Int) i (0:Int)∧List.getD (d.2.2.2.1:List Int) i (0:Int)<(List.length (d.1:List (List Int)):Int)
section
variable (d:den tDesc)
structure May1 (d:den tDesc):Prop where
  r1:1≤List.length (d.1:List (List Int))∧List.length (d.1:List (List Int))≤8
  p1:1≤List.length (d.2.1:List Int)∧List.length (d.2.1:List Int)≤6
  c1:List.length (d.2.2.1:List Int)=List.length (d.2.1:List Int)
  i1:List.length (d.2.2.2.1:List Int)≤16
  b1:List.length (d.2.2.2.2.1:List Bool)=List.length (d.2.2.2.1:List Int)
  room:0≤(d.2.2.2.2.2.1:Int)∧(d.2.2.2.2.2.1:Int)<65
  player:0≤(d.2.2.2.2.2.2.1:Int)∧(d.2.2.2.2.2.2.1:Int)<65
  box:0≤(d.2.2.2.2.2.2.2.1:Int)∧(d.2.2.2.2.2.2.2.1:Int)<65
end
end
end Go.Proofs.YtjobjooccgledaaDoor.Ghost
namespace Go.Proofs.YtjobjooccgledaaDoor.Ghost
open Go
abbrev Pl:=den tPlace
theorem few_spec (w:den tWorld):Comes (fun n _ _ _=>innkeepref06_Few n w) (fun r=>r.1.1=true↔(List.length (w.1.1:List (List Int))≤20∧List.length (w.1.2.1:List Int)≤20∧List.length (w.1.2.2.1:List Int)≤20∧List.length (w.1.2.2.2.1:List Int)≤40 ∧
    List.length (w.1.2.2.2.2.1:List Bool)≤40∧List.length (w.2.1:List Int)≤40∧List.length (w.2.2.1:List Int)≤40∧List.length (w.2.2.2.1:List (den tPlace))≤40)):=by
  have no:∀ (p:Prop),¬ p→((((false,()),[]):innkeepref06_Few.R).1.1=true↔p):=fun p hp=>⟨fun e=>absurd e (by decide),fun e=>absurd e hp⟩
  refine Comes.succ (fun n _ _ _=>innkeepref06_Few.eq n w) ?_
  refine Comes.bif (fun a1 => ?_) (fun h=>Comes.ret (no _ fun hm => ?_))
  rotate_left
  · have:=of_decide_eq_false h; omega
  refine Comes.bif (fun a2 => ?_) (fun h=>Comes.ret (no _ fun hm => ?_))
  rotate_left
  · have:=of_decide_eq_false h; omega
  refine Comes.bif (fun a3 => ?_) (fun h=>Comes.ret (no _ fun hm => ?_))
  rotate_left
  · have:=of_decide_eq_false h; omega
  refine Comes.bif (fun a4 => ?_) (fun h=>Comes.ret (no _ fun hm => ?_))
  rotate_left
  · have:=of_decide_eq_false h; omega
  refine Comes.bif (fun a5 => ?_) (fun h=>Comes.ret (no _ fun hm => ?_))
  rotate_left
  · have:=of_decide_eq_false h; omega
  refine Comes.bif (fun a6 => ?_) (fun h=>Comes.ret (no _ fun hm => ?_))
  rotate_left
  · have:=of_decide_eq_false h; omega
  refine Comes.bif (fun a7 => ?_) (fun h=>Comes.ret (no _ fun hm => ?_))
  rotate_left
  · have:=of_decide_eq_false h; omega
  have a1:=of_decide_eq_true a1
  have a2:=of_decide_eq_true a2
  have a3:=of_decide_eq_true a3
  have a4:=of_decide_eq_true a4
  have a5:=of_decide_eq_true a5
  have a6:=of_decide_eq_true a6
  have a7:=of_decide_eq_true a7
  refine Comes.ret ?_
  constructor
  · intro h
    have:=of_decide_eq_true h
    omega
  · intro h
    exact decide_eq_true (by omega)
theorem eqPl (x y:Pl):eqT tPlace x y=true↔x=y:=by
  obtain ⟨a,b,u⟩:=x
  obtain ⟨c,d,v⟩:=y
  cases u; cases v
  simp [eqT,eqTL]
def manyPl (l:List Pl) (p:Pl):Nat→Nat
  | 0=>0
  | n+1=>manyPl l p n+(if List.getD l n (dft tPlace)=p then 1 else 0)
theorem manyPl_le (l:List Pl) (p:Pl):(n:Nat)→manyPl l p n≤n
  | 0=>Nat.le_refl 0
  | n+1=>by
    have:=manyPl_le l p n
    simp only [manyPl]
    split <;> omega
def depI (l:List Pl):Nat→Nat→Pl→Nat
  | 0,c,p=>if p.1=(2:Int) then 99 else c
  | f+1,c,p=>if p.1=(2:Int) then (if 50<c+1 then 99 else depI l f (c+1) (List.getD l (Int.toNat p.2.1) (dft tPlace))) else c
def inPl (l:List Pl) (p:Pl):Prop:=p.1=(2:Int)→(0:Int)≤p.2.1∧(p.2.1:Int)<(List.length l:Int)
def capI (d:den tDesc) (p:Pl):Int:=if p.1=(0:Int) then d.2.2.2.2.2.1 else if p.1=(1:Int) then d.2.2.2.2.2.2.1 else d.2.2.2.2.2.2.2.1
def GoodPl (d:den tDesc) (p:Pl):Prop :=
  (p.1=(0:Int)∧(0:Int)≤p.2.1∧(p.2.1:Int)<(List.length (d.1:List (List Int)):Int))∨(p.1=(1:Int)∧(0:Int)≤p.2.1∧(p.2.1:Int)<(List.length (d.2.1:List Int):Int)) ∨
    (p.1=(2:Int)∧((0:Int)≤p.2.1∧(p.2.1:Int)<(List.length (d.2.2.2.1:List Int):Int))∧List.getD (d.2.2.2.2.1:List Bool) (Int.toNat p.2.1) false=true)
structure RightP (w:den tWorld):Prop where
  may:MayP w.1
  a1:List.length (w.2.1:List Int)=List.length (w.1.2.1:List Int)
  c1:List.length (w.2.2.1:List Int)=List.length (w.1.2.1:List Int)
  w1:List.length (w.2.2.2.1:List (den tPlace))=List.length (w.1.2.2.2.1:List Int)
  at_:∀ i,i<List.length (w.2.1:List Int)→(0≤List.getD (w.2.1:List Int) i (0:Int)∧List.getD (w.2.1:List Int) i (0:Int)<(List.length (w.1.1:List (List Int)):Int))∧(0≤List.getD (w.2.2.1:List Int) i (0:Int)∧List.getD (w.2.2.1:List Int) i (0:Int)≤1073741824)
  good:∀ i,i<List.length (w.2.2.2.1:List (den tPlace))→GoodPl w.1 (List.getD w.2.2.2.1 i (dft tPlace))
  deep:∀ i,i<List.length (w.2.2.2.1:List (den tPlace))→depI w.2.2.2.1 51 0 (List.getD w.2.2.2.1 i (dft tPlace))≤4∧(manyPl w.2.2.2.1 (List.getD w.2.2.2.1 i (dft tPlace)) (List.length (w.2.2.2.1:List (den tPlace))):Int)≤capI w.1 (List.getD w.2.2.2.1 i (dft tPlace))
section
variable (w:den tWorld)
structure Right1 (w:den tWorld):Prop where
  may:MayP w.1
  a1:List.length (w.2.1:List Int)=List.length (w.1.2.1:List Int)
  c1:List.length (w.2.2.1:List Int)=List.length (w.1.2.1:List Int)
  w1:List.length (w.2.2.2.1:List (den tPlace))=List.length (w.1.2.2.2.1:List Int)
theorem GoodPl.inPl {d:den tDesc} {l:List Pl} (hl:l.length=List.length (d.2.2.2.1:List Int)) {p:Pl} (h:GoodPl d p):inPl l p:=fun hk=>by
  rcases h with ⟨h,_⟩ | ⟨h,_⟩ | ⟨_,h,_⟩
  · rw [h] at hk; cases hk
  · rw [h] at hk; cases hk
  · rw [hl]; exact h
theorem GoodPl.kind {d:den tDesc} {p:Pl} (h:GoodPl d p):(0:Int)≤p.1∧(p.1:Int)<3:=by
  rcases h with ⟨h,_⟩ | ⟨h,_⟩ | ⟨h,_⟩ <;> rw [h] <;> decide
end
end Go.Proofs.YtjobjooccgledaaDoor.Ghost
namespace Go.Proofs.YtjobjooccgledaaDoor.Ghost
open Go
theorem ext_getD {α:Type} (d:α) {a b:List α} (hl:a.length=b.length) (h:∀ i,i<a.length→a.getD i d=b.getD i d):a=b:=by
  refine List.ext_getElem hl (fun i h1 h2 => ?_)
  have:=h i h1
  rw [List.getD_eq_getElem?_getD,List.getD_eq_getElem?_getD,List.getElem?_eq_getElem h1,List.getElem?_eq_getElem h2] at this
  exact this
theorem ints_l0 (a b:List Int) (hl:a.length=b.length) (hs:a.length≤1048576) (t4:Bool):(r i:Nat)→i+r=a.length→(∀ i',i'<i→a.getD i' 0=b.getD i' 0) →
    Comes (fun n m _ _=>innkeepref03_Ints.l0 n m a b t4 (i:Int)) (fun r=>r.1.1=true↔a=b)
  | 0,i,hi,hp=>by
    refine Comes.succ1 (fun n m _ _=>innkeepref03_Ints.l0_eq n m a b t4 i) (Comes.bif (fun h => ?_) (fun h=>Comes.ret ?_))
    · have:=of_decide_eq_true h; omega
    · exact ⟨fun _=>ext_getD 0 hl (fun i' hi'=>hp i' (by omega)),fun _=>rfl⟩
  | r+1,i,hi,hp=>by
    refine Comes.succ1 (fun n m _ _=>innkeepref03_Ints.l0_eq n m a b t4 i) (Comes.bif (fun h=>Comes.ite (by omega) (Comes.ite (by omega) (Comes.bifN (fun h2 => ?_) (fun h2=>Comes.ret ?_)))) (fun h => ?_))
    · have h2:=of_decide_eq_true h2
      rw [wrap_succ (by omega)]
      refine ints_l0 a b hl hs t4 r (i+1) (by omega) (fun i' hi' => ?_)
      by_cases he:i'=i
      · subst he; simpa using h2
      · exact hp i' (by omega)
    · have h2:=of_decide_eq_false h2
      exact ⟨(fun e=>by cases e),fun e=>absurd (by rw [e]) h2⟩
    · have:=of_decide_eq_false h; omega
theorem ints_spec (a b:List Int) (hs:a.length≤1048576):Comes (fun n _ _ _=>innkeepref03_Ints n a b) (fun r=>r.1.1=true↔a=b):=by
  refine Comes.succ (fun n _ _ _=>innkeepref03_Ints.eq n a b) (Comes.bifN (fun h => ?_) (fun h=>Comes.ret ?_))
  · have h:=of_decide_eq_true h
    exact (ints_l0 a b (by omega) hs false _ 0 (Nat.zero_add _) (fun i' hi'=>by omega)).enter
  · have h:=of_decide_eq_false h
    exact ⟨(fun e=>by cases e),fun e=>absurd (by rw [e]) h⟩
theorem places_l0 (a b:List Pl) (hl:a.length=b.length) (hs:a.length≤1048576) (t4:Bool):(r i:Nat)→i+r=a.length→(∀ i',i'<i→a.getD i' (dft tPlace)=b.getD i' (dft tPlace)) →
    Comes (fun n m _ _=>innkeepref06_Places.l0 n m a b t4 (i:Int)) (fun r=>r.1.1=true↔a=b)
  | 0,i,hi,hp=>by
    refine Comes.succ1 (fun n m _ _=>innkeepref06_Places.l0_eq n m a b t4 i) (Comes.bif (fun h => ?_) (fun h=>Comes.ret ?_))
    · have:=of_decide_eq_true h; omega
    · exact ⟨fun _=>ext_getD (dft tPlace) hl (fun i' hi'=>hp i' (by omega)),fun _=>rfl⟩
  | r+1,i,hi,hp=>by
    refine Comes.succ1 (fun n m _ _=>innkeepref06_Places.l0_eq n m a b t4 i) (Comes.bif (fun h=>Comes.ite (by omega) (Comes.ite (by omega) (Comes.bifN (fun h2 => ?_) (fun h2=>Comes.ret ?_)))) (fun h => ?_))
    · have h2:=(eqPl _ _).1 h2
      rw [wrap_succ (by omega)]
      refine places_l0 a b hl hs t4 r (i+1) (by omega) (fun i' hi' => ?_)
      by_cases he:i'=i
      · subst he; simpa using h2
      · exact hp i' (by omega)
    · refine ⟨(fun e=>by cases e),fun e => ?_⟩
      rw [e,(eqPl _ _).2 rfl] at h2
      cases h2
    · have:=of_decide_eq_false h; omega
theorem places_spec (a b:List Pl) (hs:a.length≤1048576):Comes (fun n _ _ _=>innkeepref06_Places n a b) (fun r=>r.1.1=true↔a=b):=by
  refine Comes.succ (fun n _ _ _=>innkeepref06_Places.eq n a b) (Comes.bifN (fun h => ?_) (fun h=>Comes.ret ?_))
  · have h:=of_decide_eq_true h
    exact (places_l0 a b (by omega) hs false _ 0 (Nat.zero_add _) (fun i' hi'=>by omega)).enter
  · have h:=of_decide_eq_false h
    exact ⟨(fun e=>by cases e),fun e=>absurd (by rw [e]) h⟩
structure Sm (w:den tWorld):Prop where
  e:List.length (w.1.1:List (List Int))≤1048576
  b:List.length (w.1.2.2.2.2.1:List Bool)≤1048576
  p:List.length (w.1.2.1:List Int)≤1048576
  c:List.length (w.1.2.2.1:List Int)≤1048576
  i:List.length (w.1.2.2.2.1:List Int)≤1048576
  a:List.length (w.2.1:List Int)≤1048576
  wc:List.length (w.2.2.1:List Int)≤1048576
  wh:List.length (w.2.2.2.1:List (den tPlace))≤1048576
  rows:∀ i,i<List.length (w.1.1:List (List Int))→List.length (List.getD (w.1.1:List (List Int)) i (dft (.arr 4 (.int .i64))):List Int)=4
theorem eqRow {x y:List Int} (hx:x.length=4) (hy:y.length=4):eqT (.arr 4 (.int .i64)) x y=true↔x=y:=by
  match x,y,hx,hy with
  | [a,b,c,d],[a',b',c',d'],_,_=>simp [eqT,allEq]
abbrev sameQ (a b:den tWorld) (r:innkeepref06_Same.R):Prop:=r.1.1=true↔a=b
theorem sameQ_no {a b:den tWorld} (h:¬ a=b):sameQ a b ((false,()),[]):=⟨(fun e=>by cases e),fun e=>absurd e h⟩
theorem world_ext {a b:den tWorld} (h5:(a.1.2.2.2.2.2.1:Int)=b.1.2.2.2.2.2.1) (h6:(a.1.2.2.2.2.2.2.1:Int)=b.1.2.2.2.2.2.2.1) (h7:(a.1.2.2.2.2.2.2.2.1:Int)=b.1.2.2.2.2.2.2.2.1) (he:a.1.1=b.1.1) (hbx:a.1.2.2.2.2.1=b.1.2.2.2.2.1)
    (c1:a.1.2.1=b.1.2.1) (c2:a.1.2.2.1=b.1.2.2.1) (c3:a.1.2.2.2.1=b.1.2.2.2.1) (c4:a.2.1=b.2.1) (c5:a.2.2.1=b.2.2.1) (c6:a.2.2.2.1=b.2.2.2.1):a=b :=
  Prod.ext (Prod.ext he (Prod.ext c1 (Prod.ext c2 (Prod.ext c3 (Prod.ext hbx (Prod.ext h5 (Prod.ext h6 (Prod.ext h7 rfl)))))))) (Prod.ext c4 (Prod.ext c5 (Prod.ext c6 rfl)))
section
variable (a b:den tWorld) (ha:Sm a) (hb:Sm b)
include ha hb
theorem same_l1 (h5:(a.1.2.2.2.2.2.1:Int)=b.1.2.2.2.2.2.1) (h6:(a.1.2.2.2.2.2.2.1:Int)=b.1.2.2.2.2.2.2.1) (h7:(a.1.2.2.2.2.2.2.2.1:Int)=b.1.2.2.2.2.2.2.2.1) (he:a.1.1=b.1.1) (hl:List.length (a.1.2.2.2.2.1:List Bool)=List.length (b.1.2.2.2.2.1:List Bool))
    (t0 t1:den tWorld) (t4:Bool) (t7:Int):(r i:Nat)→i+r=List.length (a.1.2.2.2.2.1:List Bool)→(∀ i',i'<i→List.getD (a.1.2.2.2.2.1:List Bool) i' false=List.getD (b.1.2.2.2.2.1:List Bool) i' false) →
    Comes (fun n m _ _=>innkeepref06_Same.l1 n m t0 t1 t4 t7 (i:Int) a b a.1 b.1) (sameQ a b)
  | 0,i,hi,hp=>by
    refine Comes.succ1 (fun n m _ _=>innkeepref06_Same.l1_eq n m t0 t1 t4 t7 i a b a.1 b.1) (Comes.bif (fun h => ?_) (fun h => ?_))
    · have:=of_decide_eq_true h; omega
    · have hbx:(a.1.2.2.2.2.1:List Bool)=b.1.2.2.2.2.1:=ext_getD false hl (fun i' hi'=>hp i' (by omega))
      refine Comes.call (ints_spec _ _ ha.p) (fun v1 g1=>Comes.bif (fun k1 => ?_) (fun k1=>Comes.ret (sameQ_no fun e => ?_)))
      rotate_left
      · have:=g1.2 (by rw [e]); rw [k1] at this; cases this
      refine Comes.call (ints_spec _ _ ha.c) (fun v2 g2=>Comes.bif (fun k2 => ?_) (fun k2=>Comes.ret (sameQ_no fun e => ?_)))
      rotate_left
      · have:=g2.2 (by rw [e]); rw [k2] at this; cases this
      refine Comes.call (ints_spec _ _ ha.i) (fun v3 g3=>Comes.bif (fun k3 => ?_) (fun k3=>Comes.ret (sameQ_no fun e => ?_)))
      rotate_left
      · have:=g3.2 (by rw [e]); rw [k3] at this; cases this
      refine Comes.call (ints_spec _ _ ha.a) (fun v4 g4=>Comes.bif (fun k4 => ?_) (fun k4=>Comes.ret (sameQ_no fun e => ?_)))
      rotate_left
      · have:=g4.2 (by rw [e]); rw [k4] at this; cases this
      refine Comes.call (ints_spec _ _ ha.wc) (fun v5 g5=>Comes.bif (fun k5 => ?_) (fun k5=>Comes.ret (sameQ_no fun e => ?_)))
      rotate_left
      · have:=g5.2 (by rw [e]); rw [k5] at this; cases this
      refine Comes.call (places_spec _ _ ha.wh) (fun v6 g6=>Comes.ret ?_)
      have c1:=g1.1 k1
      have c2:=g2.1 k2
      have c3:=g3.1 k3
      have c4:=g4.1 k4
      have c5:=g5.1 k5
      constructor
      · intro k6
        have c6:=g6.1 k6
        exact world_ext h5 h6 h7 he hbx c1 c2 c3 c4 c5 c6
      · intro e
        exact g6.2 (by rw [e])
  | r+1,i,hi,hp=>by
    have hlb:=ha.b
    refine Comes.succ1 (fun n m _ _=>innkeepref06_Same.l1_eq n m t0 t1 t4 t7 i a b a.1 b.1) (Comes.bif (fun h=>Comes.ite (by omega) (Comes.ite (by omega) (Comes.bifN (fun h2 => ?_) (fun h2=>Comes.ret (sameQ_no fun e => ?_))))) (fun h => ?_))
    · have h2:List.getD (a.1.2.2.2.2.1:List Bool) (Int.toNat (i:Int)) false=List.getD (b.1.2.2.2.2.1:List Bool) (Int.toNat (i:Int)) false:=by simpa [eqT] using h2
      rw [wrap_succ (by omega)]
      refine same_l1 h5 h6 h7 he hl t0 t1 t4 t7 r (i+1) (by omega) (fun i' hi' => ?_)
      by_cases hee:i'=i
      · subst hee; simpa using h2
      · exact hp i' (by omega)
    · rw [e] at h2
      simp [eqT] at h2
    · have:=of_decide_eq_false h; omega
theorem same_l0 (h5:(a.1.2.2.2.2.2.1:Int)=b.1.2.2.2.2.2.1) (h6:(a.1.2.2.2.2.2.2.1:Int)=b.1.2.2.2.2.2.2.1) (h7:(a.1.2.2.2.2.2.2.2.1:Int)=b.1.2.2.2.2.2.2.2.1) (hle:List.length (a.1.1:List (List Int))=List.length (b.1.1:List (List Int))) (hl:List.length (a.1.2.2.2.2.1:List Bool)=List.length (b.1.2.2.2.2.1:List Bool))
    (t0 t1:den tWorld) (t4:Bool):(r i:Nat)→i+r=List.length (a.1.1:List (List Int))→(∀ i',i'<i→List.getD (a.1.1:List (List Int)) i' (dft (.arr 4 (.int .i64)))=List.getD (b.1.1:List (List Int)) i' (dft (.arr 4 (.int .i64)))) →
    Comes (fun n m _ _=>innkeepref06_Same.l0 n m t0 t1 t4 (i:Int) a b a.1 b.1) (sameQ a b)
  | 0,i,hi,hp=>by
    refine Comes.succ1 (fun n m _ _=>innkeepref06_Same.l0_eq n m t0 t1 t4 i a b a.1 b.1) (Comes.bif (fun h => ?_) (fun h => ?_))
    · have:=of_decide_eq_true h; omega
    · have he:(a.1.1:List (List Int))=b.1.1:=ext_getD (dft (.arr 4 (.int .i64))) hle (fun i' hi'=>hp i' (by omega))
      exact (same_l1 a b ha hb h5 h6 h7 he hl t0 t1 t4 i _ 0 (Nat.zero_add _) (fun i' hi'=>by omega)).enter
  | r+1,i,hi,hp=>by
    have hlb:=ha.e
    have e1:=ha.rows i (by omega)
    have e2:=hb.rows i (by omega)
    refine Comes.succ1 (fun n m _ _=>innkeepref06_Same.l0_eq n m t0 t1 t4 i a b a.1 b.1) (Comes.bif (fun h=>Comes.ite (by omega) (Comes.ite (by omega) (Comes.bifN (fun h2 => ?_) (fun h2=>Comes.ret (sameQ_no fun e => ?_))))) (fun h => ?_))
    · rw [Int.toNat_natCast] at h2
      have h2:=(eqRow e1 e2).1 h2
      rw [wrap_succ (by omega)]
      refine same_l0 h5 h6 h7 hle hl t0 t1 t4 r (i+1) (by omega) (fun i' hi' => ?_)
      by_cases hee:i'=i
      · subst hee; simpa using h2
      · exact hp i' (by omega)
    · rw [Int.toNat_natCast] at h2
      have:=(eqRow e1 e2).2 (by rw [e])
      rw [this] at h2
      cases h2
    · have:=of_decide_eq_false h; omega
theorem same_spec:Comes (fun n _ _ _=>innkeepref06_Same n a b) (sameQ a b):=by
  refine Comes.succ (fun n _ _ _=>innkeepref06_Same.eq n a b) ?_
  refine Comes.bifN (fun k1 => ?_) (fun k1=>Comes.ret (sameQ_no fun e=>of_decide_eq_false k1 (by rw [e])))
  refine Comes.bifN (fun k2 => ?_) (fun k2=>Comes.ret (sameQ_no fun e=>of_decide_eq_false k2 (by rw [e])))
  refine Comes.bifN (fun k3 => ?_) (fun k3=>Comes.ret (sameQ_no fun e=>of_decide_eq_false k3 (by rw [e])))
  refine Comes.bifN (fun k4 => ?_) (fun k4=>Comes.ret (sameQ_no fun e=>of_decide_eq_false k4 (by rw [e])))
  refine Comes.bifN (fun k5 => ?_) (fun k5=>Comes.ret (sameQ_no fun e=>of_decide_eq_false k5 (by rw [e])))
  have k4:=of_decide_eq_true k4
  have k5:=of_decide_eq_true k5
  exact (same_l0 a b ha hb (of_decide_eq_true k1) (of_decide_eq_true k2) (of_decide_eq_true k3) (by omega) (by omega) a b false _ 0 (Nat.zero_add _) (fun i' hi'=>by omega)).enter
end
theorem copied_spec (w:den tWorld) (h:Sm w):Comes (fun n _ _ _=>innkeepref06_Copied n w) (fun r=>r=((w,()),[(0,[1]),(0,[2]),(0,[3])])):=by
  refine Comes.succ (fun n _ _ _=>innkeepref06_Copied.eq n w) (Comes.ite (by rw [Nat.zero_add]; exact h.a) (Comes.ite (by rw [Nat.zero_add]; exact h.wc) (Comes.ite (by rw [Nat.zero_add]; exact h.wh) (Comes.ret rfl))))
end Go.Proofs.YtjobjooccgledaaDoor.Ghost
namespace Go.Proofs.YtjobjooccgledaaDoor.Ghost
open Go
theorem cloneI_spec (l:List Int) (h:l.length≤1048576):Comes (fun n _ _ _=>slices_Clone_sint_int n l) (fun r=>r=((l,()),[(0,[])])):=by
  refine Comes.succ (G:=fun _ _ _ _=>some ((l,()),[(0,[])])) (fun n _ _ _ => ?_) (Comes.ret rfl)
  show (if l.length≤1048576 then some ((l,()),[(0,[])]) else none)=some ((l,()),[(0,[])])
  rw [if_pos h]
theorem cloneP_spec (l:List Pl) (h:l.length≤1048576):Comes (fun n _ _ _=>slices_Clone_sapi_Place_api_Place n l) (fun r=>r=((l,()),[(0,[])])):=by
  refine Comes.succ (G:=fun _ _ _ _=>some ((l,()),[(0,[])])) (fun n _ _ _ => ?_) (Comes.ret rfl)
  show (if l.length≤1048576 then some ((l,()),[(0,[])]) else none)=some ((l,()),[(0,[])])
  rw [if_pos h]
theorem copy_spec (w:den tWorld) (h:Sm w):Comes (fun n _ _ _=>desc_Copy n w) (fun r=>r=((w,()),[(0,[1]),(0,[2]),(0,[3])])):=by
  refine Comes.succ (fun n _ _ _=>desc_Copy.eq n w) (Comes.call (cloneI_spec _ h.a) (fun v1 e1 => ?_))
  subst e1
  refine Comes.bifT rfl (Comes.call (cloneI_spec _ h.wc) (fun v2 e2 => ?_))
  subst e2
  refine Comes.bifT rfl (Comes.call (cloneP_spec _ h.wh) (fun v3 e3 => ?_))
  subst e3
  exact Comes.bifT rfl (Comes.ret rfl)
end Go.Proofs.YtjobjooccgledaaDoor.Ghost
namespace Go.Proofs.YtjobjooccgledaaDoor.Ghost
open Go
structure Ok (w:den tWorld):Prop where
  sm:Sm w
  right:RightP w
abbrev FewP (w:den tWorld):Prop:=List.length (w.1.1:List (List Int))≤20∧List.length (w.1.2.1:List Int)≤20∧List.length (w.1.2.2.1:List Int)≤20∧List.length (w.1.2.2.2.1:List Int)≤40 ∧
    List.length (w.1.2.2.2.2.1:List Bool)≤40∧List.length (w.2.1:List Int)≤40∧List.length (w.2.2.1:List Int)≤40∧List.length (w.2.2.2.1:List (den tPlace))≤40
theorem getD_mem' {α:Type} {l:List α} {i:Nat} (d:α) (h:i<l.length):l.getD i d∈l:=by
  rw [List.getD_eq_getElem?_getD,List.getElem?_eq_getElem h]
  exact List.getElem_mem h
theorem ok_of {w:den tWorld} (hw:wfD tWorld w) (hf:FewP w) (hr:RightP w):Ok w:=by
  obtain ⟨f1,f2,f3,f4,f5,f6,f7,f8⟩:=hf
  refine ⟨⟨by omega,by omega,by omega,by omega,by omega,by omega,by omega,by omega,fun i hi => ?_⟩,hr⟩
  have h1:∀ y:List Int,y∈(w.1.1:List (List Int))→wfD (.arr 4 (.int .i64)) y:=hw.1.1.2
  exact (h1 _ (getD_mem' _ hi)).1
theorem u8_range {a:Int} (h:wfD (.int .u8) a):0≤a∧a<256:=by
  have h1:IntKind.u8.min≤a∧a≤IntKind.u8.max:=h
  have e1:IntKind.u8.min=0:=rfl
  have e2:IntKind.u8.max=255:=rfl
  omega
theorem index_of {a:Int} (h:wfD (.int .u8) a) {n:Nat} (hn:0<n):∃ i:Nat,i<n∧Int.tmod (IntKind.wrap .i64 a) (n:Int)=(i:Int):=by
  obtain ⟨h0,h1⟩:=u8_range h
  rw [wrap_id (by omega) (by omega)]
  refine ⟨(a % (n:Int)).toNat,?_,?_⟩
  · have:=Int.emod_lt_of_pos a (show (0:Int)<n by omega)
    have:=Int.emod_nonneg a (show (n:Int)≠0 by omega)
    omega
  · rw [Int.tmod_eq_emod_of_nonneg h0]
    have:=Int.emod_nonneg a (show (n:Int)≠0 by omega)
    omega
theorem dir_of {a:Int} (h:wfD (.int .u8) a):∃ d:Nat,d<4∧IntKind.wrap .i64 (Int.tmod a 4)=(d:Int):=by
  obtain ⟨h0,h1⟩:=u8_range h
  rw [Int.tmod_eq_emod_of_nonneg h0,wrap_id (by omega) (by omega)]
  exact ⟨(a % 4).toNat,by omega,by omega⟩
theorem getD_set {α:Type} (l:List α) (i j:Nat) (x d:α) (h:i<l.length):(l.set i x).getD j d=if j=i then x else l.getD j d:=by
  rw [List.getD_eq_getElem?_getD,List.getD_eq_getElem?_getD]
  by_cases hj:j=i
  · subst hj; rw [List.getElem?_set_self h,if_pos rfl]; rfl
  · rw [List.getElem?_set_ne (Ne.symm hj),if_neg hj]
theorem RightP.pos {w:den tWorld} (h:RightP w):0<List.length (w.2.1:List Int):=by have:=h.a1; have:=h.may.p1; omega
end Go.Proofs.YtjobjooccgledaaDoor.Ghost
