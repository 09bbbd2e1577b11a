/- What the functions come to whose answers are given: slices.Clone, slices.Collect over places, tree.Within. Conditions: none. -/
import Derived.Test.YtmemggdjnfccfaaGreatDoorU
set_option linter.unusedVariables false
set_option linter.unusedSimpArgs false
set_option linter.unusedSectionVars false
set_option linter.unnecessarySimpa false
namespace Go.Proofs.YtmemggdjnfccfaaGreatDoor.Ghost
open Go
def Cq (e:Ty) (args:List SV) (res:List Sh):Option (Xd res×Z0):=match args with
  | [.dat τ x []]=>(match Ji τ (.sl e) x with
    | some l=>if List.length (l:List (den e))≤1048576 then (match Pg res [.dat (.sl e) l []] with | some y=>some (y,[(0,[])]) | none=>none) else none
    | none=>none)
  | _=>none
def Ec (args:List SV) (res:List Sh):Option (Xd res×Z0):=match args with
  | [.clo g [.ref τ w,.ref σ i]]=>(match Nat.beq g 123,Ji τ Zb w,Ji σ (.int .i64) i with
    | true,some w,some i=>if (0:Int)≤i∧(i:Int)<(List.length (w.2.2.2.1:List (den Za)):Int) then (match upL w.2.2.2.1 60 (List.getD (w.2.2.2.1:List (den Za)) (Int.toNat i) (dft Za)) with
      | some xs=>(match Pg res [.dat (.sl Za) xs []] with | some y=>some (y,[(0,[])]) | none=>none)
      | none=>none) else none
    | _,_,_=>none)
  | _=>none
def Cw (w:den Zb) (i b:Int):Option Bool:=if i=b then some true else if (0:Int)≤i∧i<(List.length (w.2.2.2.1:List (den Za)):Int) then (match upL w.2.2.2.1 60 (List.getD (w.2.2.2.1:List (den Za)) (Int.toNat i) (dft Za)) with
      | some xs=>some (xs.any (fun x=>eqT Za x (Yu b)))
      | none=>none) else none
def AAl (args:List SV) (res:List Sh):Option (Xd res×Z0):=match args with
  | [.dat τ w [],.dat σ i [],.dat σ' b []]=>(match Ji τ Zb w,Ji σ (.int .i64) i,Ji σ' (.int .i64) b with
    | some w,some i,some b=>(match Cw w i b with
      | some r=>(match Pg res [.dat .bool r []] with | some y=>some (y,[]) | none=>none)
      | none=>none)
    | _,_,_=>none)
  | _=>none
def AMl (args:List SV) (res:List Sh):Option (Xd res×Z0):=match args with
  | [.dat τ x []]=>(match Ji τ (.sl (.sl (.int .i64))) x with
    | some [a,b]=>if List.length (a:List Int)≤524288∧List.length (b:List Int)≤524288 then (match Pg res [.dat (.sl (.int .i64)) ((a:List Int) ++ (b:List Int)) []] with | some y=>some (y,[(0,[])]) | none=>none) else none
    | _=>none)
  | _=>none
abbrev kT:Ty:=.st [.int .i64,.int .i64]
def kLt (a b:den kT):Bool:=decide ((a.1:Int)<b.1) || (decide ((a.1:Int)=b.1) && decide ((a.2.1:Int)<b.2.1))
def Ac (k:den kT):List (den kT)→List (den kT)
  | []=>[k]
  | x :: l=>if kLt k x then k :: x :: l else if kLt x k then x :: Ac k l else x :: l
def J5 (l:List (den kT)):List (den kT):=l.foldr Ac []
def AH3 (args:List SV) (res:List Sh):Option (Xd res×Z0):=match args with
  | [.dat τ x []]=>(match Ji τ (.sl kT) x with
    | some l=>if List.length (l:List (den kT))≤1048576 then (match Pg res [.dat (.sl kT) (J5 l) []] with | some y=>some (y,[(0,[])]) | none=>none) else none
    | none=>none)
  | _=>none
def pLt (a1 a2 b1 b2:Int):Prop:=a1<b1∨a1=b1∧a2<b2
theorem AHr (a1 a2:Int):¬ pLt a1 a2 a1 a2:=by unfold pLt; omega
theorem AKr {a1 a2 b1 b2 c1 c2:Int} (h:pLt a1 a2 b1 b2) (k:pLt b1 b2 c1 c2):pLt a1 a2 c1 c2:=by unfold pLt at *; omega
theorem AKp {a1 a2 b1 b2:Int} (h:pLt a1 a2 b1 b2):¬ pLt b1 b2 a1 a2:=by unfold pLt at *; omega
theorem AKq {a1 a2 b1 b2:Int} (h:¬ pLt a1 a2 b1 b2) (k:¬ pLt b1 b2 a1 a2):a1=b1∧a2=b2:=by unfold pLt at *; omega
theorem Th (a b:den kT):kLt a b=true↔pLt a.1 a.2.1 b.1 b.2.1:=by
  unfold kLt pLt; simp only [Bool.or_eq_true,Bool.and_eq_true,decide_eq_true_eq]
theorem Om (a:den kT):¬ kLt a a=true:=by rw [Th]; exact AHr _ _
theorem ABr {a b c:den kT} (h:kLt a b=true) (k:kLt b c=true):kLt a c=true:=by rw [Th] at *; exact AKr h k
theorem AKe {a b:den kT} (h:kLt a b=true):¬ kLt b a=true:=by rw [Th] at *; exact AKp h
theorem Em {a b:den kT} (h:¬ kLt a b=true) (k:¬ kLt b a=true):a=b:=by
  rw [Th] at *
  obtain ⟨e1,e2⟩:=AKq h k
  obtain ⟨a1,a2,⟨⟩⟩:=a
  obtain ⟨b1,b2,⟨⟩⟩:=b
  rw [show a1=b1 from e1,show a2=b2 from e2]
def Asc (l:List (den kT)):Prop:=l.Pairwise (fun a b=>kLt a b=true)
theorem AF0 {x k:den kT} {l:List (den kT)}:x∈Ac k l↔x=k∨x∈l:=by
  induction l with
  | nil=>simp [Ac]
  | cons y l ih =>
    unfold Ac
    split
    · simp only [List.mem_cons]
    · split
      · simp only [List.mem_cons,ih]
        constructor
        · rintro (h | h | h)
          · exact .inr (.inl h)
          · exact .inl h
          · exact .inr (.inr h)
        · rintro (h | h | h)
          · exact .inr (.inl h)
          · exact .inl h
          · exact .inr (.inr h)
      · rename_i h1 h2
        have:=Em h1 h2
        subst this
        simp only [List.mem_cons]
        constructor
        · intro h; exact .inr h
        · rintro (h | h)
          · exact .inl h
          · exact h
theorem ALf {k:den kT} {l:List (den kT)} (h:Asc l):Asc (Ac k l):=by
  induction l with
  | nil=>exact List.pairwise_singleton _ _
  | cons y l ih =>
    have h':=List.pairwise_cons.1 h
    unfold Ac
    split
    · rename_i h1
      refine List.pairwise_cons.2 ⟨fun z hz => ?_,h⟩
      rcases List.mem_cons.1 hz with rfl | hz
      · exact h1
      · exact ABr h1 (h'.1 z hz)
    · split
      · rename_i h2
        refine List.pairwise_cons.2 ⟨fun z hz => ?_,ih h'.2⟩
        rcases AF0.1 hz with rfl | hz
        · exact h2
        · exact h'.1 z hz
      · exact h
theorem Px {x:den kT} {l:List (den kT)}:x∈J5 l↔x∈l:=by
  induction l with
  | nil=>exact Iff.rfl
  | cons y l ih =>
    rw [show J5 (y :: l)=Ac y (J5 l) from rfl,AF0,ih,List.mem_cons]
theorem Mj (l:List (den kT)):Asc (J5 l):=by
  induction l with
  | nil=>exact List.Pairwise.nil
  | cons y l ih=>exact ALf ih
theorem C1:∀ {a b:List (den kT)},Asc a→Asc b→(∀ x,x∈a↔x∈b)→a=b
  | [],[],_,_,_=>rfl
  | [],y :: b,_,_,h=>absurd ((h y).2 List.mem_cons_self) List.not_mem_nil
  | x :: a,[],_,_,h=>absurd ((h x).1 List.mem_cons_self) List.not_mem_nil
  | x :: a,y :: b,ha,hb,h=>by
    have ha':=List.pairwise_cons.1 ha
    have hb':=List.pairwise_cons.1 hb
    have e:x=y:=by
      rcases List.mem_cons.1 ((h x).1 List.mem_cons_self) with e | e
      · exact e
      · rcases List.mem_cons.1 ((h y).2 List.mem_cons_self) with k | k
        · exact k.symm
        · exact absurd (ha'.1 y k) (AKe (hb'.1 x e))
    subst e
    rw [C1 ha'.2 hb'.2 (fun z => ?_)]
    constructor
    · intro hz
      rcases List.mem_cons.1 ((h z).1 (List.mem_cons_of_mem _ hz)) with e | e
      · subst e; exact absurd (ha'.1 z hz) (Om z)
      · exact e
    · intro hz
      rcases List.mem_cons.1 ((h z).2 (List.mem_cons_of_mem _ hz)) with e | e
      · subst e; exact absurd (hb'.1 z hz) (Om z)
      · exact e
theorem Ad {a l:List (den kT)} (h:Asc a) (hm:∀ x,x∈a↔x∈l):a=J5 l:=C1 h (Mj l) (fun x=>(hm x).trans Px.symm)
theorem AFm (k:den kT) (l:List (den kT)):(Ac k l).length≤l.length+1:=by
  induction l with
  | nil=>exact Nat.le_refl 1
  | cons y l ih =>
    unfold Ac
    split
    · exact Nat.le_refl _
    · split
      · simp only [List.length_cons]; omega
      · exact Nat.le_succ _
theorem ADk (l:List (den kT)):(J5 l).length≤l.length:=by
  induction l with
  | nil=>exact Nat.le_refl 0
  | cons y l ih =>
    have:=AFm y (J5 l)
    rw [show J5 (y :: l)=Ac y (J5 l) from rfl,List.length_cons]; omega
def AC6:List (Int×FuncId×FuncId):=[(1,(82,51)),(2,(82,53)),(3,(87,56)),(4,(87,58)),(5,(87,60)),(6,(87,62)),(7,(87,64)),(8,(87,66)),(9,(119,68)),(10,(119,69))]
def AC7 (args:List SV) (res:List Sh):Option (Xd res×Z0):=match args with
  | []=>(match Pg res [.fmap (AC6.map (·.1)) (AC6.map fun p=>.clo p.2.1 [.refv (.clo p.2.2 [])])] with | some y=>some (y,[]) | none=>none)
  | _=>none
def sp:Calls:=fun f args res=>match f with
  | 140=>Cq (.int .i64) args res
  | 141=>Cq Za args res
  | 71=>Ec args res
  | 97=>AAl args res
  | 112=>AMl args res
  | 26=>AH3 args res
  | 28=>AC7 args res
  | _=>none
end Go.Proofs.YtmemggdjnfccfaaGreatDoor.Ghost
