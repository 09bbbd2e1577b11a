/- What the functions come to whose answers are given: slices.Clone, slices.Collect over places, tree.Within. Conditions: none. -/
import Derived.Test.YtmemggdjnfccfaaGreatDoorU
set_option linter.unusedVariables false
set_option linter.unusedSimpArgs false
set_option linter.unusedSectionVars false
set_option linter.unnecessarySimpa false
namespace Go.Proofs.YtmemggdjnfccfaaGreatDoor.Ghost
open Go
def C5 (e:Ty) (args:List SV) (res:List Sh):Option (Xf res×Z0):=match args with
  | [.dat τ x []]=>(match Jt τ (.sl e) x with
    | some l=>if List.length (l:List (den e))≤1048576 then (match Pv res [.dat (.sl e) l []] with | some y=>some (y,[(0,[])]) | none=>none) else none
    | none=>none)
  | _=>none
def Et (args:List SV) (res:List Sh):Option (Xf res×Z0):=match args with
  | [.clo g [.ref τ w,.ref σ i]]=>(match Nat.beq g 123,Jt τ Zb w,Jt σ (.int .i64) i with
    | true,some w,some i=>if (0:Int)≤i∧(i:Int)<(List.length (w.2.2.2.1:List (den Za)):Int) then (match upL w.2.2.2.1 60 (List.getD (w.2.2.2.1:List (den Za)) (Int.toNat i) (dft Za)) with
      | some xs=>(match Pv res [.dat (.sl Za) xs []] with | some y=>some (y,[(0,[])]) | none=>none)
      | none=>none) else none
    | _,_,_=>none)
  | _=>none
def Bb (w:den Zb) (i b:Int):Option Bool:=if i=b then some true else if (0:Int)≤i∧i<(List.length (w.2.2.2.1:List (den Za)):Int) then (match upL w.2.2.2.1 60 (List.getD (w.2.2.2.1:List (den Za)) (Int.toNat i) (dft Za)) with
      | some xs=>some (xs.any (fun x=>eqT Za x (Yu b)))
      | none=>none) else none
def AA4 (args:List SV) (res:List Sh):Option (Xf res×Z0):=match args with
  | [.dat τ w [],.dat σ i [],.dat σ' b []]=>(match Jt τ Zb w,Jt σ (.int .i64) i,Jt σ' (.int .i64) b with
    | some w,some i,some b=>(match Bb w i b with
      | some r=>(match Pv res [.dat .bool r []] with | some y=>some (y,[]) | none=>none)
      | none=>none)
    | _,_,_=>none)
  | _=>none
def ANb (args:List SV) (res:List Sh):Option (Xf res×Z0):=match args with
  | [.dat τ x []]=>(match Jt τ (.sl (.sl (.int .i64))) x with
    | some [a,b]=>if List.length (a:List Int)≤524288∧List.length (b:List Int)≤524288 then (match Pv res [.dat (.sl (.int .i64)) ((a:List Int) ++ (b:List Int)) []] with | some y=>some (y,[(0,[])]) | none=>none) else none
    | _=>none)
  | _=>none
abbrev kT:Ty:=.st [.int .i64,.int .i64]
def kLt (a b:den kT):Bool:=decide ((a.1:Int)<b.1) || (decide ((a.1:Int)=b.1) && decide ((a.2.1:Int)<b.2.1))
def Ax (k:den kT):List (den kT)→List (den kT)
  | []=>[k]
  | x :: l=>if kLt k x then k :: x :: l else if kLt x k then x :: Ax k l else x :: l
def Yz (l:List (den kT)):List (den kT):=l.foldr Ax []
def AIq (args:List SV) (res:List Sh):Option (Xf res×Z0):=match args with
  | [.dat τ x []]=>(match Jt τ (.sl kT) x with
    | some l=>if List.length (l:List (den kT))≤1048576 then (match Pv res [.dat (.sl kT) (Yz l) []] with | some y=>some (y,[(0,[])]) | none=>none) else none
    | none=>none)
  | _=>none
def pLt (a1 a2 b1 b2:Int):Prop:=a1<b1∨a1=b1∧a2<b2
theorem AIe (a1 a2:Int):¬ pLt a1 a2 a1 a2:=by unfold pLt; omega
theorem ALg {a1 a2 b1 b2 c1 c2:Int} (h:pLt a1 a2 b1 b2) (k:pLt b1 b2 c1 c2):pLt a1 a2 c1 c2:=by unfold pLt at *; omega
theorem ALe {a1 a2 b1 b2:Int} (h:pLt a1 a2 b1 b2):¬ pLt b1 b2 a1 a2:=by unfold pLt at *; omega
theorem ALf {a1 a2 b1 b2:Int} (h:¬ pLt a1 a2 b1 b2) (k:¬ pLt b1 b2 a1 a2):a1=b1∧a2=b2:=by unfold pLt at *; omega
theorem Tq (a b:den kT):kLt a b=true↔pLt a.1 a.2.1 b.1 b.2.1:=by
  unfold kLt pLt; simp only [Bool.or_eq_true,Bool.and_eq_true,decide_eq_true_eq]
theorem O5 (a:den kT):¬ kLt a a=true:=by rw [Tq]; exact AIe _ _
theorem AB8 {a b c:den kT} (h:kLt a b=true) (k:kLt b c=true):kLt a c=true:=by rw [Tq] at *; exact ALg h k
theorem AK3 {a b:den kT} (h:kLt a b=true):¬ kLt b a=true:=by rw [Tq] at *; exact ALe h
theorem E8 {a b:den kT} (h:¬ kLt a b=true) (k:¬ kLt b a=true):a=b:=by
  rw [Tq] at *
  obtain ⟨e1,e2⟩:=ALf h k
  obtain ⟨a1,a2,⟨⟩⟩:=a
  obtain ⟨b1,b2,⟨⟩⟩:=b
  rw [show a1=b1 from e1,show a2=b2 from e2]
def Asc (l:List (den kT)):Prop:=l.Pairwise (fun a b=>kLt a b=true)
theorem AGl {x k:den kT} {l:List (den kT)}:x∈Ax k l↔x=k∨x∈l:=by
  induction l with
  | nil=>simp [Ax]
  | cons y l ih =>
    unfold Ax
    split
    · simp only [List.mem_cons]
    · split
      · simp only [List.mem_cons,ih]
        constructor
        · rintro (h | h | h)
          · exact .inr (.inl h)
          · exact .inl h
          · exact .inr (.inr h)
        · rintro (h | h | h)
          · exact .inr (.inl h)
          · exact .inl h
          · exact .inr (.inr h)
      · rename_i h1 h2
        have:=E8 h1 h2
        subst this
        simp only [List.mem_cons]
        constructor
        · intro h; exact .inr h
        · rintro (h | h)
          · exact .inl h
          · exact h
theorem AL5 {k:den kT} {l:List (den kT)} (h:Asc l):Asc (Ax k l):=by
  induction l with
  | nil=>exact List.pairwise_singleton _ _
  | cons y l ih =>
    have h':=List.pairwise_cons.1 h
    unfold Ax
    split
    · rename_i h1
      refine List.pairwise_cons.2 ⟨fun z hz => ?_,h⟩
      rcases List.mem_cons.1 hz with rfl | hz
      · exact h1
      · exact AB8 h1 (h'.1 z hz)
    · split
      · rename_i h2
        refine List.pairwise_cons.2 ⟨fun z hz => ?_,ih h'.2⟩
        rcases AGl.1 hz with rfl | hz
        · exact h2
        · exact h'.1 z hz
      · exact h
theorem Ob {x:den kT} {l:List (den kT)}:x∈Yz l↔x∈l:=by
  induction l with
  | nil=>exact Iff.rfl
  | cons y l ih =>
    rw [show Yz (y :: l)=Ax y (Yz l) from rfl,AGl,ih,List.mem_cons]
theorem Ek (l:List (den kT)):Asc (Yz l):=by
  induction l with
  | nil=>exact List.Pairwise.nil
  | cons y l ih=>exact AL5 ih
theorem Bg:∀ {a b:List (den kT)},Asc a→Asc b→(∀ x,x∈a↔x∈b)→a=b
  | [],[],_,_,_=>rfl
  | [],y :: b,_,_,h=>absurd ((h y).2 List.mem_cons_self) List.not_mem_nil
  | x :: a,[],_,_,h=>absurd ((h x).1 List.mem_cons_self) List.not_mem_nil
  | x :: a,y :: b,ha,hb,h=>by
    have ha':=List.pairwise_cons.1 ha
    have hb':=List.pairwise_cons.1 hb
    have e:x=y:=by
      rcases List.mem_cons.1 ((h x).1 List.mem_cons_self) with e | e
      · exact e
      · rcases List.mem_cons.1 ((h y).2 List.mem_cons_self) with k | k
        · exact k.symm
        · exact absurd (ha'.1 y k) (AK3 (hb'.1 x e))
    subst e
    rw [Bg ha'.2 hb'.2 (fun z => ?_)]
    constructor
    · intro hz
      rcases List.mem_cons.1 ((h z).1 (List.mem_cons_of_mem _ hz)) with e | e
      · subst e; exact absurd (ha'.1 z hz) (O5 z)
      · exact e
    · intro hz
      rcases List.mem_cons.1 ((h z).2 (List.mem_cons_of_mem _ hz)) with e | e
      · subst e; exact absurd (hb'.1 z hz) (O5 z)
      · exact e
theorem Ay {a l:List (den kT)} (h:Asc a) (hm:∀ x,x∈a↔x∈l):a=Yz l:=Bg h (Ek l) (fun x=>(hm x).trans Ob.symm)
theorem AF6 (k:den kT) (l:List (den kT)):(Ax k l).length≤l.length+1:=by
  induction l with
  | nil=>exact Nat.le_refl 1
  | cons y l ih =>
    unfold Ax
    split
    · exact Nat.le_refl _
    · split
      · simp only [List.length_cons]; omega
      · exact Nat.le_succ _
theorem Fp (l:List (den kT)):(Yz l).length≤l.length:=by
  induction l with
  | nil=>exact Nat.le_refl 0
  | cons y l ih =>
    have:=AF6 y (Yz l)
    rw [show Yz (y :: l)=Ax y (Yz l) from rfl,List.length_cons]; omega
def ADn:List (Int×FuncId×FuncId):=[(1,(82,51)),(2,(82,53)),(3,(87,56)),(4,(87,58)),(5,(87,60)),(6,(87,62)),(7,(87,64)),(8,(87,66)),(9,(119,68)),(10,(119,69))]
def ADo (args:List SV) (res:List Sh):Option (Xf res×Z0):=match args with
  | []=>(match Pv res [.fmap (ADn.map (·.1)) (ADn.map fun p=>.clo p.2.1 [.refv (.clo p.2.2 [])])] with | some y=>some (y,[]) | none=>none)
  | _=>none
def sp:Calls:=fun f args res=>match f with
  | 140=>C5 (.int .i64) args res
  | 141=>C5 Za args res
  | 71=>Et args res
  | 97=>AA4 args res
  | 112=>ANb args res
  | 26=>AIq args res
  | 28=>ADo args res
  | _=>none
end Go.Proofs.YtmemggdjnfccfaaGreatDoor.Ghost
