/- What the functions come to whose answers are given: slices.Clone, slices.Collect over places, tree.Within. Conditions: none. -/
import Derived.Test.YtmemggdjnfccfaaU
set_option linter.unusedVariables false
set_option linter.unusedSimpArgs false
set_option linter.unusedSectionVars false
set_option linter.unnecessarySimpa false
namespace Go.Proofs.Ytmemggdjnfccfaa.Ghost
open Go
def collectSp (args:List SV) (res:List Sh):Option (dShL res×Fresh):=match args with
  | [.clo g [.ref τ w,.ref σ i]]=>(match Nat.beq g 65,castT τ tWorld w,castT σ (.int .i64) i with
    | true,some w,some i=>if (0:Int)≤i∧(i:Int)<(List.length (w.2.2.2.1:List (den tPlace)):Int) then (match upL w.2.2.2.1 60 (List.getD (w.2.2.2.1:List (den tPlace)) (Int.toNat i) (dft tPlace)) with
      | some xs=>(match prjL res [.dat (.sl tPlace) xs []] with | some y=>some (y,[(0,[])]) | none=>none)
      | none=>none) else none
    | _,_,_=>none)
  | _=>none
abbrev kT:Ty:=.st [.int .i64,.int .i64]
def kLt (a b:den kT):Bool:=decide ((a.1:Int)<b.1) || (decide ((a.1:Int)=b.1) && decide ((a.2.1:Int)<b.2.1))
def kIns (k:den kT):List (den kT)→List (den kT)
  | []=>[k]
  | x :: l=>if kLt k x then k :: x :: l else if kLt x k then x :: kIns k l else x :: l
def kSort (l:List (den kT)):List (den kT):=l.foldr kIns []
def sortSp (args:List SV) (res:List Sh):Option (dShL res×Fresh):=match args with
  | [.dat τ x []]=>(match castT τ (.sl kT) x with
    | some l=>if List.length (l:List (den kT))≤1048576 then (match prjL res [.dat (.sl kT) (kSort l) []] with | some y=>some (y,[(0,[])]) | none=>none) else none
    | none=>none)
  | _=>none
def pLt (a1 a2 b1 b2:Int):Prop:=a1<b1∨a1=b1∧a2<b2
theorem pLt_irrefl (a1 a2:Int):¬ pLt a1 a2 a1 a2:=by unfold pLt; omega
theorem pLt_trans {a1 a2 b1 b2 c1 c2:Int} (h:pLt a1 a2 b1 b2) (k:pLt b1 b2 c1 c2):pLt a1 a2 c1 c2:=by unfold pLt at *; omega
theorem pLt_asymm {a1 a2 b1 b2:Int} (h:pLt a1 a2 b1 b2):¬ pLt b1 b2 a1 a2:=by unfold pLt at *; omega
theorem pLt_total {a1 a2 b1 b2:Int} (h:¬ pLt a1 a2 b1 b2) (k:¬ pLt b1 b2 a1 a2):a1=b1∧a2=b2:=by unfold pLt at *; omega
theorem kLt_iff (a b:den kT):kLt a b=true↔pLt a.1 a.2.1 b.1 b.2.1:=by
  unfold kLt pLt; simp only [Bool.or_eq_true,Bool.and_eq_true,decide_eq_true_eq]
theorem kLt_irrefl (a:den kT):¬ kLt a a=true:=by rw [kLt_iff]; exact pLt_irrefl _ _
theorem kLt_trans {a b c:den kT} (h:kLt a b=true) (k:kLt b c=true):kLt a c=true:=by rw [kLt_iff] at *; exact pLt_trans h k
theorem kLt_asymm {a b:den kT} (h:kLt a b=true):¬ kLt b a=true:=by rw [kLt_iff] at *; exact pLt_asymm h
theorem kLt_total {a b:den kT} (h:¬ kLt a b=true) (k:¬ kLt b a=true):a=b:=by
  rw [kLt_iff] at *
  obtain ⟨e1,e2⟩:=pLt_total h k
  obtain ⟨a1,a2,⟨⟩⟩:=a
  obtain ⟨b1,b2,⟨⟩⟩:=b
  rw [show a1=b1 from e1,show a2=b2 from e2]
def Asc (l:List (den kT)):Prop:=l.Pairwise (fun a b=>kLt a b=true)
theorem mem_kIns {x k:den kT} {l:List (den kT)}:x∈kIns k l↔x=k∨x∈l:=by
  induction l with
  | nil=>simp [kIns]
  | cons y l ih =>
    unfold kIns
    split
    · simp only [List.mem_cons]
    · split
      · simp only [List.mem_cons,ih]
        constructor
        · rintro (h | h | h)
          · exact .inr (.inl h)
          · exact .inl h
          · exact .inr (.inr h)
        · rintro (h | h | h)
          · exact .inr (.inl h)
          · exact .inl h
          · exact .inr (.inr h)
      · rename_i h1 h2
        have:=kLt_total h1 h2
        subst this
        simp only [List.mem_cons]
        constructor
        · intro h; exact .inr h
        · rintro (h | h)
          · exact .inl h
          · exact h
theorem asc_kIns {k:den kT} {l:List (den kT)} (h:Asc l):Asc (kIns k l):=by
  induction l with
  | nil=>exact List.pairwise_singleton _ _
  | cons y l ih =>
    have h':=List.pairwise_cons.1 h
    unfold kIns
    split
    · rename_i h1
      refine List.pairwise_cons.2 ⟨fun z hz => ?_,h⟩
      rcases List.mem_cons.1 hz with rfl | hz
      · exact h1
      · exact kLt_trans h1 (h'.1 z hz)
    · split
      · rename_i h2
        refine List.pairwise_cons.2 ⟨fun z hz => ?_,ih h'.2⟩
        rcases mem_kIns.1 hz with rfl | hz
        · exact h2
        · exact h'.1 z hz
      · exact h
theorem mem_kSort {x:den kT} {l:List (den kT)}:x∈kSort l↔x∈l:=by
  induction l with
  | nil=>exact Iff.rfl
  | cons y l ih =>
    rw [show kSort (y :: l)=kIns y (kSort l) from rfl,mem_kIns,ih,List.mem_cons]
theorem asc_kSort (l:List (den kT)):Asc (kSort l):=by
  induction l with
  | nil=>exact List.Pairwise.nil
  | cons y l ih=>exact asc_kIns ih
theorem asc_unique:∀ {a b:List (den kT)},Asc a→Asc b→(∀ x,x∈a↔x∈b)→a=b
  | [],[],_,_,_=>rfl
  | [],y :: b,_,_,h=>absurd ((h y).2 List.mem_cons_self) List.not_mem_nil
  | x :: a,[],_,_,h=>absurd ((h x).1 List.mem_cons_self) List.not_mem_nil
  | x :: a,y :: b,ha,hb,h=>by
    have ha':=List.pairwise_cons.1 ha
    have hb':=List.pairwise_cons.1 hb
    have e:x=y:=by
      rcases List.mem_cons.1 ((h x).1 List.mem_cons_self) with e | e
      · exact e
      · rcases List.mem_cons.1 ((h y).2 List.mem_cons_self) with k | k
        · exact k.symm
        · exact absurd (ha'.1 y k) (kLt_asymm (hb'.1 x e))
    subst e
    rw [asc_unique ha'.2 hb'.2 (fun z => ?_)]
    constructor
    · intro hz
      rcases List.mem_cons.1 ((h z).1 (List.mem_cons_of_mem _ hz)) with e | e
      · subst e; exact absurd (ha'.1 z hz) (kLt_irrefl z)
      · exact e
    · intro hz
      rcases List.mem_cons.1 ((h z).2 (List.mem_cons_of_mem _ hz)) with e | e
      · subst e; exact absurd (hb'.1 z hz) (kLt_irrefl z)
      · exact e
theorem kSort_uniq {a l:List (den kT)} (h:Asc a) (hm:∀ x,x∈a↔x∈l):a=kSort l:=asc_unique h (asc_kSort l) (fun x=>(hm x).trans mem_kSort.symm)
theorem kIns_length (k:den kT) (l:List (den kT)):(kIns k l).length≤l.length+1:=by
  induction l with
  | nil=>exact Nat.le_refl 1
  | cons y l ih =>
    unfold kIns
    split
    · exact Nat.le_refl _
    · split
      · simp only [List.length_cons]; omega
      · exact Nat.le_succ _
theorem kSort_length (l:List (den kT)):(kSort l).length≤l.length:=by
  induction l with
  | nil=>exact Nat.le_refl 0
  | cons y l ih =>
    have:=kIns_length y (kSort l)
    rw [show kSort (y :: l)=kIns y (kSort l) from rfl,List.length_cons]; omega
def sp:Calls:=fun f args res=>match f with
  | 58=>collectSp args res
  | 32=>sortSp args res
  | _=>none
end Go.Proofs.Ytmemggdjnfccfaa.Ghost
