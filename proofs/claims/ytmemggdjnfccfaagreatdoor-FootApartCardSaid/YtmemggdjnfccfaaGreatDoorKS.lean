/- keys.Sort: whatever the map's order is, its keys are collected, and sorted. Conditions: its code is the program's (sortOk), and slices.SortFunc sorts (SortsOk). -/
import Derived.Test.YtmemggdjnfccfaaGreatDoorGSp
import Derived.Test.YtmemggdjnfccfaaGreatDoorA4
import Derived.KernelRfl
import Derived.Laws.IdiomRangeMap
set_option linter.unusedVariables false
set_option linter.unusedSimpArgs false
namespace Go.Proofs.YtmemggdjnfccfaaGreatDoor.Ghost
open Go
theorem AUi {a b:den kT}:eqT kT a b=true↔a=b:=by
  obtain ⟨a1,a2,⟨⟩⟩:=a
  obtain ⟨b1,b2,⟨⟩⟩:=b
  simp [eqT,Ad]
def Mi (l:List (den kT×Bool)) (k:den kT):List (den kT×Bool):=H7 kT .bool k true l
def AH5 (l:List (den kT)):List (den kT×Bool):=l.foldl Mi []
theorem AK5 (l:List (den kT×Bool)) (k:den kT):(Mi l k).map (·.1)=if k∈l.map (·.1) then l.map (·.1) else l.map (·.1) ++ [k]:=by
  induction l with
  | nil=>simp [Mi,H7]
  | cons e r ih =>
    obtain ⟨a,b⟩:=e
    unfold Mi at ih ⊢
    simp only [H7]
    by_cases h:eqT kT k a=true
    · rw [if_pos h]
      have:=AUi.1 h
      subst this
      simp
    · rw [if_neg h]
      have hne:k≠a:=fun e=>h (AUi.2 e)
      simp only [List.map_cons,ih,List.mem_cons,hne,false_or]
      split <;> simp
theorem AK4 (l:List (den kT)):∀ (m:List (den kT×Bool)),(m.map (·.1)).Nodup→((l.foldl Mi m).map (·.1)).Nodup∧(∀ x,x∈(l.foldl Mi m).map (·.1)↔x∈m.map (·.1)∨x∈l)∧(l.foldl Mi m).length≤m.length+l.length:=by
  induction l with
  | nil=>intro m h; exact ⟨h,by simp,by simp⟩
  | cons k r ih =>
    intro m h
    have hk:=AK5 m k
    have hn:((Mi m k).map (·.1)).Nodup:=by
      rw [hk]
      split
      · exact h
      · rename_i hx
        refine List.nodup_append.2 ⟨h,by simp,?_⟩
        intro a ha b hb
        simp only [List.mem_singleton] at hb
        subst hb
        intro e; subst e; exact hx ha
    obtain ⟨i1,i2,i3⟩:=ih (Mi m k) hn
    refine ⟨i1,fun x => ?_,?_⟩
    · show x∈(List.foldl Mi (Mi m k) r).map (·.1)↔_
      rw [i2,hk]
      split
      · rename_i hx
        simp only [List.mem_cons]
        constructor
        · rintro (h | h)
          · exact .inl h
          · exact .inr (.inr h)
        · rintro (h | h | h)
          · exact .inl h
          · subst h; exact .inl hx
          · exact .inr h
      · simp only [List.mem_append,List.mem_cons,List.not_mem_nil,or_false]
        constructor
        · rintro ((h | h) | h)
          · exact .inl h
          · exact .inr (.inl h)
          · exact .inr (.inr h)
        · rintro (h | h | h)
          · exact .inl (.inl h)
          · exact .inl (.inr h)
          · exact .inr h
    · have e:(Mi m k).length≤m.length+1:=by
        have:=congrArg List.length hk
        rw [List.length_map] at this
        rw [this]
        split <;> simp
      show (List.foldl Mi (Mi m k) r).length≤_
      simp only [List.length_cons]
      omega
def sA0:Cd:=.reg false [⟨some 2,.move (.c (.sl kT) []),none,[],[]⟩]
def sA1:Cd:=.reg false [⟨some 8,.mkmap 0 kT .bool,none,[],[]⟩,⟨some 3,.move (.t 8),none,[],[]⟩]
def AJs:Cd:=.seq (.seq (.reg false [⟨some 12,.bin .lss (.t 11) (.t 10),none,[],[]⟩]) (.seq (.cond (.t 12) (.seq (.tidy [12] [] [] none) .skip) (.seq (.tidy [12] [] [] none) (.exit 0))) (.seq (.block 1 (.seq (.reg false [⟨some 13,.index (.sl kT) (.t 9) (.t 11),none,[],[]⟩,⟨some 14,.load (.d kT) (.t 13),none,[],[]⟩,⟨some 5,.newbox 1 kT [],none,[],[]⟩,⟨none,.store (.d kT) (.t 5) (.t 14),none,[],[]⟩]) (.seq (.reg false [⟨some 15,.move (.t 3),none,[],[]⟩,⟨some 16,.load (.d kT) (.t 5),none,[],[]⟩,⟨none,.mapset kT .bool (.t 15) (.t 16) (.c .bool true),none,[],[]⟩]) (.tidy [13,14,15,16] [] [] none)))) (.seq (.reg false [⟨some 17,.bin .add (.t 11) (.c (.int .i64) (1:Int)),none,[],[]⟩,⟨some 11,.move (.t 17),none,[],[]⟩]) (.tidy [17] [] [] none))))) (.tidy [5] [] [] (some 1))
def sA2:Cd:=.seq (.reg false [⟨some 9,.move (.t 0),none,[],[]⟩,⟨some 10,.len (.t 9),none,[],[]⟩,⟨some 11,.move (.c (.int .i64) (0:Int)),none,[],[]⟩]) (.block 0 (.loop AJs))
def sS (l:List (den kT)) (i:Int):Xp:=[(0,.dat (.sl kT) l []),(2,.dat (.sl kT) [] []),(8,.ptr 0 []),(3,.ptr 0 []),(9,.dat (.sl kT) l []),(10,.dat (.int .i64) ((List.length l:Nat):Int) []),(11,.dat (.int .i64) i [])]
theorem ATd (l:List (den kT)) (i:Int) (m:List (den kT×Bool)) (n:Nat) (K:Kt (Xp×Qa)):Pa (fun Kn K s h=>run Yh 0 AJs Kn K s h) (n+1) K (sS l i) [.map kT .bool m] =
    bif decide (i<((List.length l:Nat):Int)) then inB i (List.length l) fun j=>Pa (fun Kn K s h=>run Yh 0 AJs Kn K s h) n K (sS l (IntKind.wrap .i64 (i+1))) [.map kT .bool (Mi m (List.getD l j (dft kT)))]
    else K (.exit 0) (sS l i) [.map kT .bool m]:=by kernel_rfl
theorem ATc (l:List (den kT)) (hl:l.length≤1048576) (K:Kt (Xp×Qa)):∀ (n i:Nat) (m:List (den kT×Bool)),n+i=l.length+1→Pa (fun Kn K s h=>run Yh 0 AJs Kn K s h) n K (sS l (i:Int)) [.map kT .bool m]=(if i≤l.length then K (.exit 0) (sS l ((l.length:Nat):Int)) [.map kT .bool ((l.drop i).foldl Mi m)] else none):=by
  intro n
  induction n with
  | zero=>intro i m h; rw [if_neg (by omega)]; rfl
  | succ n ih =>
    intro i m h
    rw [ATd,if_pos (by omega)]
    by_cases hi:i<l.length
    · rw [decide_eq_true (by omega)]
      unfold inB
      rw [if_pos (by omega),cond_true]
      have hw:IntKind.wrap .i64 ((i:Int)+1)=((i+1:Nat):Int):=by
        show (if (true && decide (((i:Int)+1) % (2 ^ 64:Int) ≥ (2 ^ 63:Int)))=true then ((i:Int)+1) % (2 ^ 64:Int) - (2 ^ 64:Int) else ((i:Int)+1) % (2 ^ 64:Int))=_
        rw [decide_eq_false (by omega)]; simp only [Bool.and_false,Bool.false_eq_true,if_false]; omega
      show Pa _ n K (sS l (IntKind.wrap .i64 ((i:Int)+1))) [.map kT .bool (Mi m (List.getD l (Int.toNat (i:Int)) (dft kT)))]=_
      rw [hw,Int.toNat_natCast,ih (i+1) _ (by omega),if_pos (by omega),List.drop_eq_getElem_cons hi,List.foldl_cons]
      congr 4
      simp [List.getD_eq_getElem?_getD,List.getElem?_eq_getElem hi]
    · have:i=l.length:=by omega
      subst this
      rw [decide_eq_false (by omega),cond_false,List.drop_length,List.foldl_nil]
theorem BMd (l:List (den kT)) (hl:l.length≤1048576):run Yh (l.length+1) sA2 (fun _ s h=>some (s,h)) (fun _ _ _=>none) [(0,.dat (.sl kT) l []),(2,.dat (.sl kT) [] []),(8,.ptr 0 []),(3,.ptr 0 [])] [.map kT .bool []]=some (sS l ((l.length:Nat):Int),[.map kT .bool (AH5 l)]):=by
  have:=ATc l hl (Jr 0 (fun _ s h=>some (s,h)) (fun _ _ _=>none)) (l.length+1) 0 [] (by omega)
  rw [if_pos (Nat.zero_le _)] at this
  exact this
end Go.Proofs.YtmemggdjnfccfaaGreatDoor.Ghost
namespace Go.Proofs.YtmemggdjnfccfaaGreatDoor.Ghost
open Go
section
variable {P:Program}
theorem AOt (w:World) (ty:TypeId) (bm r since c0:Nat) (seen:Array Nat) (es:Array MapEntry) (clock:Nat) (hr:w.heap[r]?=some (.mapIter (some bm) since seen c0)) (hb:w.heap[bm]?=some (.map es clock)) (hold:∀ x∈es.toList,x.born<since) (hsc:since≤c0) :
    ((leftOf es seen).size=0∧(Instr.next (.pointer (some ⟨r,0,none⟩)) false ty).run P w=.ok (.tuple #[.bool false]) w) ∨
    ∃ e∈(leftOf es seen).toList,∃ d,(Instr.next (.pointer (some ⟨r,0,none⟩)) false ty).run P w=.ok (.tuple #[.bool true,e.key,e.val]) { w with heap:=w.heap.setIfInBounds r (.mapIter (some bm) since (seen.push e.born) clock),drawn:=d }:=by
  simp only [Instr.next,getObj,Sem.run_bind,Sem.run,hr,hb,Result.andThen,next_test_false seen es since c0 hold hsc,Bool.false_eq_true,if_false]
  unfold leftOf
  have hmem:∀ x∈(Array.filter (fun e => !seen.contains e.born) es).toList,x.born<since:=fun x hx=>hold x (by simp at hx ⊢; exact hx.1)
  generalize Array.filter (fun e => !seen.contains e.born) es=L at hmem ⊢
  have e1:L.filter (fun x=>decide (x.born<since))=L:=Array.filter_eq_self.2 (fun x hx=>by simpa using hmem x (by simpa using hx))
  have e2:L.filter (fun x=>decide (x.born ≥ since)) = #[]:=by
    rw [Array.filter_eq_empty_iff]
    intro x hx
    have:=hmem x (by simpa using hx)
    simp
    omega
  simp only [e1,e2,Array.append_empty]
  by_cases h0:L.size=0
  · left
    have:L = #[]:=Array.eq_empty_of_size_eq_zero h0
    subst this
    refine ⟨rfl,?_⟩
    simp [choose,Sem.run,Question.forced]
  · right
    have hne:L.isEmpty=false:=by simp [Array.isEmpty,h0]
    simp only [hne,Bool.false_eq_true,if_false,Array.empty_append,Array.size_map]
    have hch:∃ (j d:Nat),j<L.size∧(choose (Question.mapNext L.size)).run P w=.ok j { w with drawn:=d }:=by
      by_cases hf:L.size≤1
      · exact ⟨0,w.drawn,by omega,by simp [choose,Sem.run,Question.forced,hf]⟩
      · exact ⟨_,w.drawn+1,Nat.mod_lt _ (by omega),by
          simp only [choose,Sem.run,Question.forced,decide_eq_true_eq,hf,if_false,Question.cut]
          rfl⟩
    obtain ⟨j,d,hj,hrun⟩:=hch
    refine ⟨L[j],by simp,d,?_⟩
    simp only [hrun,Array.getElem?_map,Array.getElem?_eq_getElem hj,Option.map_some,Sem.run_bind,setObj,Sem.run,hr,Result.andThen]
    rfl
theorem AKj (w:World) (bm r since:Nat) (seen:Array Nat) (es:Array MapEntry) (clock:Nat) (e:MapEntry) (hr:w.heap[r]?=some (.mapIter (some bm) since (seen.push e.born) clock)) (hb:w.heap[bm]?=some (.map es clock)) (he:e∈es.toList) (hn:(es.toList.map (·.born)).Nodup) :
    (Instr.entry (.pointer (some ⟨r,0,none⟩))).run P w=.ok (.tuple #[e.key,e.val]) w:=by
  have hf:es.find? (·.born == e.born)=some e:=by rw [← Array.find?_toList]; exact find_born e es.toList hn he
  simp only [Instr.entry,getObj,Sem.run_bind,Sem.run,hr,hb,Result.andThen,Array.back?_push,bne_self_eq_false,Bool.false_eq_true,if_false,hf]
  rfl
end
end Go.Proofs.YtmemggdjnfccfaaGreatDoor.Ghost
namespace Go.Proofs.YtmemggdjnfccfaaGreatDoor.Ghost
open Go
section
variable {P:Program} {N B:Nat} {w0:Qq}
theorem Is.put {s:Xp} {h:Nat→Obj} {a:Act} {w:World} (hs:Is N B w0 (Xz s) h a w) {d:Nat} {v:SV} {v':Value} (hd:d<N) (hv:∀ A ρ,Zk A ρ w v v'):Is N B w0 (Xz (Nv s d v)) h (a.put (some d) v') w:=by
  obtain ⟨A,ρ,own,st,sl,sz,df⟩:=hs
  refine ⟨A,ρ,own,st,?_,by rw [Vc]; exact sz,by rw [Qm]; exact df⟩
  have:=Xq.put (d:=some d) (v:=v) (v':=v') sl (Yl.refl A ρ w) (fun i hi=>by cases hi; rw [sz]; exact hd) (hv A ρ)
  intro i
  have h1:=this i
  have he:Xz (Nv s d v) i=U7 (Xz s) (some d) v i:=by
    rw [Wa]; unfold U7; simp only [Option.some.injEq]
  rw [he]; exact h1
theorem Is.stepped {s:Xp} {h:Qa} {a:Act} {w:World} {d:Option Nat} {v:SV} {e:Eff} {s':Xp} {h':Qa} (hs:Is N B w0 (U7 (Xz s) d v) (Yq (Xu h) e) a w) (h1:Mt s d v=s') (h2:Pm h e=h'):Is N B w0 (Xz s') (Xu h') a w:=by
  subst h1; subst h2
  have e1:Xz (Mt s d v)=U7 (Xz s) d v:=by
    funext i
    cases d with
    | none=>unfold U7; simp [Mt]
    | some d=>rw [show Mt s (some d) v=Nv s d v from rfl,Wa]; unfold U7; simp only [Option.some.injEq]
  rw [e1,R8]; exact hs
theorem St.anew {r:Nat} {wS:World} {A1 A:Nat→Prop} {ρ:Xo} {own:Nat→Option Nat} {w w2:World} {h:Nat→Obj} (st:St (r+1) ⟨wS,A1⟩ A ρ own w h) (hA:∀ b,A1 b→b<r) (hz:w2.heap.size=w.heap.size) (hw:∀ b,b≠r→w2.heap[b]?=w.heap[b]?) :
    St (r+1) ⟨w2,A1⟩ A ρ own w2 h∧Yl A ρ w A ρ w2:=by
  have hne:∀ b,A b→b≠r:=fun b hb=>(st.imm b hb).elim (fun h=>Nat.ne_of_lt (hA b h)) (fun h=>by omega)
  have hno:∀ b g,own b=some g→b≠r:=fun b g hb=>by have:=st.base b g hb; omega
  refine ⟨{ objs:=fun g=>Va.mono (fun _ h=>h) (fun _ _ h=>h) (fun b hb=>hw b (hb.elim (hne b) (hno b g))) (fun _ h=>h) (fun h=>h) (st.objs g),apart:=st.apart,old:=fun b hb=>by rw [hz]; exact st.old b hb,oldO:=fun b g hb=>by rw [hz]; exact st.oldO b g hb,base:=st.base,below:=RowKit.Below.refl _ _,hB := ?_,imm:=st.imm,names:=st.names,glob:=Vn.mono (fun _ h=>h) (fun b hb=>hw b (hne b hb)) st.glob },⟨fun _ h=>h,fun _ _ h=>h,fun b hb=>hw b (hne b hb)⟩⟩
  have h1:=st.below.size
  have h2:=st.hB
  show r+1≤w2.heap.size
  rw [hz]
  exact Nat.le_trans h2 h1
def AE1 (P:Program) (o:Oper):Bool:=(match o.op with
  | .range T (.tmp 18)=>(match P.underlying T with | some (.map _ _)=>true | _=>false)
  | _=>false) && (match o.dst with | some d=>Nat.beq d 19 | none=>false) && o.guard.isNone
def ADi (o:Oper):Bool:=(match o.op with
  | .next (.tmp 19) false=>true
  | _=>false) && (match o.dst with | some d=>Nat.beq d 20 | none=>false) && o.guard.isNone
def Bn (o:Oper):Bool:=(match o.op with
  | .entry (.tmp 19)=>true
  | _=>false) && (match o.dst with | some d=>Nat.beq d 22 | none=>false) && o.guard.isNone
def I4 (o:Oper):Bool:=(match o.op with
  | .assign (.const (.slice none 0 0))=>true
  | _=>false) && (match o.dst with | some d=>Nat.beq d 6 | none=>false) && o.guard.isNone
def AIm:SV:=.dat (.sl kT) [] [([],some 0)]
def sC:Cd:=.cond (.t 21) .skip (.exit 2)
def ATe:Cd:=.seq (.reg false [⟨some 24,.move (.t 6),none,[],[]⟩,⟨some 25,.load (.d kT) (.t 7),none,[],[]⟩,⟨some 26,.slice 2 kT [.t 25],none,[],[]⟩,⟨some 27,.append 3 kT (.t 24) (.t 26),none,[],[]⟩,⟨some 6,.move (.t 27),none,[],[]⟩]) (.tidy [7,20,21,22,23,24,25,26,27] [(3,0)] [1,2] (some 1))
def sS1 (r:Nat):Xp:=[(6,AIm),(19,.glo r)]
def sS2 (r:Nat) (k:den kT):Xp:=sS1 r ++ [(20,.tup [.dat .bool true [],.junk,.junk]),(21,.dat .bool true []),(22,.tup [.dat kT k [],.junk]),(23,.dat kT k []),(7,.ptr 1 [])]
theorem AO0 (r:Nat) (k:den kT) (out:List (den kT)):run Yh 0 ATe (fun _ s h=>some (s,h)) (fun _ _ _=>none) (sS2 r k) [.arr kT out,.box kT k []] =
    if List.length out+List.length [k]≤1048576 then some (sS1 r,[.arr kT (out ++ [k])]) else none:=by kernel_rfl
def Mr (l:List (den kT×Bool)) (j:Nat):den kT:=(l.getD j (dft kT,false)).1
def Gi (l:List (den kT×Bool)) (seen:Array Nat):List (den kT):=seen.toList.map (Mr l)
def AS2 (k:den kT):Value:=.agg #[.int .i64 k.1,.int .i64 k.2.1]
theorem AOg (k:den kT) (A:Nat→Prop) (ρ:Xo) (w:World):Zk A ρ w (.dat kT k []) (AS2 k):=by
  obtain ⟨a,b,⟨⟩⟩:=k
  simp only [Zk,Zl,Xx]
  refine ⟨[.int .i64 a,.int .i64 b],?_,rfl⟩
  simp [Zi]
def AUm (N:Nat) (W0:World) (A1:Nat→Prop) (bm r:Nat) (es:Array MapEntry) (l:List (den kT×Bool)) (a:Act) (w:World):Prop :=
  ∃ (seen:Array Nat) (c0:Nat) (wS:World),Is N (r+1) ⟨wS,A1⟩ (Xz (sS1 r)) (Xu [.arr kT (Gi l seen)]) a w∧RowKit.Below W0.heap.size W0 wS ∧
    wS.heap[bm]?=some (.map es es.size)∧wS.heap[r]?=some (.mapIter (some bm) es.size seen c0)∧es.size≤c0∧seen.toList.Nodup∧(∀ j,j∈seen.toList→j<l.length)
def ATp (N:Nat) (W0:World) (A1:Nat→Prop) (r:Nat) (l:List (den kT×Bool)) (a:Act) (w:World):Prop :=
  ∃ (seen:Array Nat) (wS:World),Is N (r+1) ⟨wS,A1⟩ (Xz (sS1 r ++ [(20,.tup [.dat .bool false []]),(21,.dat .bool false [])])) (Xu [.arr kT (Gi l seen)]) a w∧RowKit.Below W0.heap.size W0 wS ∧
    seen.toList.Nodup∧(∀ j,j∈seen.toList↔j<l.length)
theorem Is.heap {s:Nat→SV} {h:Nat→Obj} {a:Act} {w:World} (hs:Is N B w0 s h a w) {b:Nat} (hb:b<B):w.heap[b]?=w0.w.heap[b]?:=by
  obtain ⟨A,ρ,own,st,sl,sz,df⟩:=hs
  exact st.below.block b hb
theorem Is.size {s:Nat→SV} {h:Nat→Obj} {a:Act} {w:World} (hs:Is N B w0 s h a w):a.tmps.size=N:=by
  obtain ⟨A,ρ,own,st,sl,sz,df⟩:=hs
  exact sz
end
end Go.Proofs.YtmemggdjnfccfaaGreatDoor.Ghost
namespace Go.Proofs.YtmemggdjnfccfaaGreatDoor.Ghost
open Go
section
variable {P:Program} {N:Nat}
theorem BMe (hm:P.follows .mixedOrders=true) (hN:27<N) {o9 o10:Array Oper} {id9 id10:Nat} {C R11:Code} {x9 y9 x10 y10 z10 u10:Oper}
    (h9:o9.toList=[x9,y9]) (h10:o10.toList=[x10,y10,z10,u10]) (c1:ADi x9=true) (c2:Vt P N o9 ⟨some 21,.extract (.t 20) 0,none,[],[]⟩ y9=true) (c3:Jk P N sC C=true)
    (c4:Bn x10=true) (c5:Vt P N o10 ⟨some 23,.extract (.t 22) 0,none,[],[]⟩ y10=true) (c6:Vt P N o10 ⟨some 7,.newbox 1 kT [],none,[],[]⟩ z10=true) (c7:Vt P N o10 ⟨none,.store (.d kT) (.t 7) (.t 23),none,[],[]⟩ u10=true) (c8:Jk P N ATe R11=true)
    {W0:World} {A1:Nat→Prop} {bm r:Nat} {es:Array MapEntry} {l:List (den kT×Bool)} (hA:∀ b,A1 b→b<r) (hbm:bm<r) (hes:es.size=l.length) (hB:∀ (j:Nat) e,es.toList[j]?=some e→e.born=j∧e.key=AS2 (Mr l j)) (hl:l.length≤1048576) (hn0:W0.heap.size≤r)
    {Q:Exit→Act→World→Prop} (hQ:∀ a w,ATp N W0 A1 r l a w→Q (.exit 2) a w) (a:Act) (w:World) (hI:AUm N W0 A1 bm r es l a w) :
    Code.wp P (.seq (.region id9 o9 false) (.seq C (.block 3 (.seq (.region id10 o10 false) R11)))) (Exit.then (fun a' w'=>AUm N W0 A1 bm r es l a' w'∧(leftOf es (w'.iterSeen r)).size<(leftOf es (w.iterSeen r)).size) Q) a w:=by
  obtain ⟨seen,c0,wS,his,hbl,hmap,hit,hc0,hnd,hlt⟩:=hI
  have i0:o9[0]?=some x9:=by rw [← Array.getElem?_toList,h9]; rfl
  have i1:o9[1]?=some y9:=by rw [← Array.getElem?_toList,h9]; rfl
  have hsz:o9.size=2:=by rw [← Array.length_toList,h9]; rfl
  have j0:o10[0]?=some x10:=by rw [← Array.getElem?_toList,h10]; rfl
  have j1:o10[1]?=some y10:=by rw [← Array.getElem?_toList,h10]; rfl
  have j2:o10[2]?=some z10:=by rw [← Array.getElem?_toList,h10]; rfl
  have j3:o10[3]?=some u10:=by rw [← Array.getElem?_toList,h10]; rfl
  have hsz':o10.size=4:=by rw [← Array.length_toList,h10]; rfl
  have hmem:∀ e,e∈es.toList→∃ j,j<l.length∧e.born=j∧e.key=AS2 (Mr l j):=fun e he=>by
    obtain ⟨j,hj⟩:=List.getElem?_of_mem he
    have:=(List.getElem?_eq_some_iff.1 hj).1
    exact ⟨j,by rw [← hes]; simpa using this,hB j e hj⟩
  have hborn:(es.toList.map (·.born)).Nodup:=by
    have:es.toList.map (·.born)=List.range es.toList.length:=by
      refine List.ext_getElem? fun j => ?_
      rw [List.getElem?_map]
      by_cases hj:j<es.toList.length
      · rw [List.getElem?_eq_getElem hj,List.getElem?_range hj]
        exact congrArg some (hB j _ (List.getElem?_eq_getElem hj)).1
      · rw [List.getElem?_eq_none (by omega),List.getElem?_eq_none (by simpa using hj)]; rfl
    rw [this]; exact List.nodup_range
  have hm0:w.heap[bm]?=some (.map es es.size):=by rw [his.heap (by omega)]; exact hmap
  have hr0:w.heap[r]?=some (.mapIter (some bm) es.size seen c0):=by rw [his.heap (by omega)]; exact hit
  have hrl:r<w.heap.size:=(Array.getElem?_eq_some_iff.1 hr0).1
  have hev:a.eval (.tmp 19)=.pointer (some ⟨r,0,none⟩):=by
    obtain ⟨A,ρ,own,st,sl,sz,df⟩:=his
    have:=sl 19
    have h2:Zk A ρ w (.glo r) (a.eval (.tmp 19)):=this
    simpa only [Zk] using h2
  unfold ADi at c1
  simp only [Bool.and_eq_true] at c1
  obtain ⟨⟨c1,c1d⟩,c1g⟩:=c1
  have hx9:x9.op=.next (.tmp 19) false:=by
    split at c1
    · assumption
    · cases c1
  have hd9:x9.dst=some 20:=by
    split at c1d
    · rename_i d hd; rw [hd,Nat.eq_of_beq_eq_true c1d]
    · cases c1d
  have hg9:x9.guard=none:=by simpa using c1g
  unfold Bn at c4
  simp only [Bool.and_eq_true] at c4
  obtain ⟨⟨c4,c4d⟩,c4g⟩:=c4
  have hx10:x10.op=.entry (.tmp 19):=by
    split at c4
    · assumption
    · cases c4
  have hd10:x10.dst=some 22:=by
    split at c4d
    · rename_i d hd; rw [hd,Nat.eq_of_beq_eq_true c4d]
    · cases c4d
  have hg10:x10.guard=none:=by simpa using c4g
  refine wp_seq (wp_region ?_)
  rw [hsz,List.range_eq_range']
  show wpOps P o9 _ [0,1] a w
  rw [wpOps_cons]
  unfold wpOp
  simp only [i0,Region.wanted,hg9,if_true]
  refine .inl ?_
  unfold Oper.wp
  have hrun:(execOp a.eval x9).run P w=((Instr.next (.pointer (some ⟨r,0,none⟩)) false x9.type).run P w).andThen fun v w=>.ok (.value v) w:=by
    simp only [execOp,hx9,hev,Sem.run_bind]
    rfl
  rcases AOt (P:=P) w x9.type bm r es.size c0 seen es es.size hr0 hm0 (fun x hx=>by
      obtain ⟨j,h1,h2,_⟩:=hmem x hx
      rw [h2,hes]; exact h1) hc0 with ⟨h0,hnx⟩ | ⟨e,he,d,hnx⟩
  · -- nothing is left
    rw [hrun,hnx,Result.andThen_ok,Oper.upon_value,hd9]
    have his1:=Is.put (d:=20) (v:=.tup [.dat .bool false []]) (v':=.tuple #[.bool false]) his (by omega) (fun A ρ=>by
      simp only [Zk,Zr]
      exact ⟨[.bool false],rfl,_,[],rfl,⟨[.bool false],by simp only [Zl],rfl⟩,rfl⟩)
    rw [wpOps_cons]
    refine U3 (draw:=false) i1 his1 Xn c2 (v:=.dat .bool false []) (e:=[]) ⟨(fun h=>by cases h),rfl⟩ (fun a3 w3 hs3 => ?_)
    simp only [wpOps]
    have hs3:=Is.stepped (s':=sS1 r ++ [(20,.tup [.dat .bool false []]),(21,.dat .bool false [])]) (h':=[.arr kT (Gi l seen)]) hs3 rfl rfl
    show Code.wp P (.seq C _) _ a3 w3
    refine wp_seq (Jq (R:=Xp×Qa) (r:=(sS1 r ++ [(20,.tup [.dat .bool false []]),(21,.dat .bool false [])],[.arr kT (Gi l seen)])) (lp:=0) Xn hm sC C c3 (Kn:=fun _ _ _=>none) (K:=fun e s h=>match e with | .exit 2=>some (s,h) | _=>none) (fun s h a w' hk _=>by cases hk) (fun ex hex s h a w' hk hs => ?_) hs3 rfl)
    dsimp only at hk
    split at hk
    · simp only [Option.some.injEq,Prod.mk.injEq] at hk
      obtain ⟨rfl,rfl⟩:=hk
      refine hQ _ _ ⟨seen,wS,hs,hbl,hnd,fun j=>⟨hlt j,fun hj => ?_⟩⟩
      have he:∃ e,es.toList[j]?=some e:=⟨_,List.getElem?_eq_getElem (by simpa [hes] using hj)⟩
      obtain ⟨e,he⟩:=he
      have hb:=(hB j e he).1
      cases hcon:seen.contains j with
      | true=>simpa using hcon
      | false =>
        have:e∈leftOf es seen:=by
          unfold leftOf
          rw [Array.mem_filter]
          exact ⟨Array.mem_toList_iff.1 (List.mem_of_getElem? he),by rw [hb,hcon]; rfl⟩
        have:=Array.size_pos_of_mem this
        omega
    · cases hk
  · -- an entry has come
    rw [hrun,hnx,Result.andThen_ok,Oper.upon_value,hd9]
    obtain ⟨he1,he2⟩:=mem_left he
    obtain ⟨j,hj1,hj2,hj3⟩:=hmem e he1
    have hjs:j ∉ seen.toList:=fun h=>by
      have:seen.contains e.born=true:=by rw [hj2]; simpa using h
      rw [this] at he2; cases he2
    generalize hw2:({ w with heap:=w.heap.setIfInBounds r (.mapIter (some bm) es.size (seen.push e.born) es.size),drawn:=d }:World)=w2
    have hz2:w2.heap.size=w.heap.size:=by subst hw2; simp
    have hsame:∀ b,b≠r→w2.heap[b]?=w.heap[b]?:=fun b hb=>by subst hw2; simp only [Array.getElem?_setIfInBounds_ne (Ne.symm hb)]
    have hm2:w2.heap[bm]?=some (.map es es.size):=by rw [hsame bm (by omega)]; exact hm0
    have hr2:w2.heap[r]?=some (.mapIter (some bm) es.size (seen.push e.born) es.size):=by subst hw2; simp [hrl]
    have hbl2:RowKit.Below W0.heap.size W0 w2:=by
      obtain ⟨A,ρ,own,st,sl,sz,df⟩:=his
      refine (hbl.trans (st.below.mono (by omega))).trans ⟨?_,?_,?_,by omega,fun k hk=>hsame k (by omega)⟩ <;> (subst hw2; rfl)
    have his1:Is N (r+1) ⟨w2,A1⟩ (Xz (sS1 r)) (Xu [.arr kT (Gi l seen)]) a w2:=by
      obtain ⟨A,ρ,own,st,sl,sz,df⟩:=his
      obtain ⟨st2,l2⟩:=st.anew hA hz2 hsame
      exact ⟨A,ρ,own,st2,fun i=>l2.repV (sl i),sz,df⟩
    have his2:=Is.put (d:=20) (v:=.tup [.dat .bool true [],.junk,.junk]) (v':=.tuple #[.bool true,e.key,e.val]) his1 (by omega) (fun A ρ=>by
      simp only [Zk,Zr]
      exact ⟨[.bool true,e.key,e.val],rfl,_,[e.key,e.val],rfl,⟨[.bool true],by simp only [Zl],rfl⟩,_,[e.val],rfl,trivial,_,[],rfl,trivial,rfl⟩)
    rw [wpOps_cons]
    refine U3 (draw:=false) i1 his2 Xn c2 (v:=.dat .bool true []) (e:=[]) ⟨(fun h=>by cases h),rfl⟩ (fun a3 w3 hs3 => ?_)
    simp only [wpOps]
    have hs3:=Is.stepped (s':=sS1 r ++ [(20,.tup [.dat .bool true [],.junk,.junk]),(21,.dat .bool true [])]) (h':=[.arr kT (Gi l seen)]) hs3 rfl rfl
    show Code.wp P (.seq C _) _ a3 w3
    refine wp_seq (Jq (R:=Xp×Qa) (r:=(sS1 r ++ [(20,.tup [.dat .bool true [],.junk,.junk]),(21,.dat .bool true [])],[.arr kT (Gi l seen)])) (lp:=0) Xn hm sC C c3 (Kn:=fun _ s h=>some (s,h)) (K:=fun _ _ _=>none) (fun s h a4 w4 hk hs4 => ?_) (fun _ _ s h a w' hk _=>by cases hk) hs3 rfl)
    simp only [Option.some.injEq,Prod.mk.injEq] at hk
    obtain ⟨rfl,rfl⟩:=hk
    show Code.wp P (.block 3 _) _ a4 w4
    refine wp_block (wp_seq (wp_region ?_))
    rw [hsz',List.range_eq_range']
    show wpOps P o10 _ [0,1,2,3] a4 w4
    rw [wpOps_cons]
    unfold wpOp
    simp only [j0,Region.wanted,hg10,if_true]
    refine .inl ?_
    unfold Oper.wp
    have hev4:a4.eval (.tmp 19)=.pointer (some ⟨r,0,none⟩):=by
      obtain ⟨A,ρ,own,st,sl,sz,df⟩:=hs4
      have:=sl 19
      have h2:Zk A ρ w4 (.glo r) (a4.eval (.tmp 19)):=this
      simpa only [Zk] using h2
    have hen:=AKj (P:=P) w4 bm r es.size seen es es.size e (by rw [hs4.heap (by omega)]; exact hr2) (by rw [hs4.heap (by omega)]; exact hm2) he1 hborn
    have hrun4:(execOp a4.eval x10).run P w4=.ok (.value (.tuple #[e.key,e.val])) w4:=by
      simp only [execOp,hx10,hev4,Sem.run_bind,hen]
      rfl
    rw [hrun4,Oper.upon_value,hd10]
    have his5:=Is.put (d:=22) (v:=.tup [.dat kT (Mr l j) [],.junk]) (v':=.tuple #[e.key,e.val]) hs4 (by omega) (fun A ρ=>by
      have:=AOg (Mr l j) A ρ w4
      rw [← hj3] at this
      unfold Zk
      refine ⟨[e.key,e.val],rfl,?_⟩
      unfold Zr
      refine ⟨_,[e.val],rfl,this,?_⟩
      unfold Zr
      refine ⟨_,[],rfl,trivial,?_⟩
      unfold Zr
      rfl)
    rw [wpOps_cons]
    refine U3 (draw:=false) j1 his5 Xn c5 (v:=.dat kT (Mr l j) []) (e:=[]) ⟨(fun h=>by cases h),rfl⟩ (fun a6 w6 hs6 => ?_)
    have hs6:=Is.stepped (s':=sS1 r ++ [(20,.tup [.dat .bool true [],.junk,.junk]),(21,.dat .bool true []),(22,.tup [.dat kT (Mr l j) [],.junk]),(23,.dat kT (Mr l j) [])]) (h':=[.arr kT (Gi l seen)]) hs6 rfl rfl
    rw [wpOps_cons]
    refine U3 (draw:=false) j2 hs6 Xn c6 (v:=.ptr 1 []) (e:=[(1,.box kT (dft kT) [])]) ⟨(fun h=>by cases h),rfl⟩ (fun a7 w7 hs7 => ?_)
    have hs7:=Is.stepped (s':=sS2 r (Mr l j)) (h':=[.arr kT (Gi l seen),.box kT (dft kT) []]) hs7 rfl rfl
    rw [wpOps_cons]
    refine U3 (draw:=false) j3 hs7 Xn c7 (v:=.junk) (e:=[(1,.box kT (Mr l j) [])]) ⟨(fun h=>by cases h),rfl⟩ (fun a8 w8 hs8 => ?_)
    have hs8:=Is.stepped (s':=sS2 r (Mr l j)) (h':=[.arr kT (Gi l seen),.box kT (Mr l j) []]) hs8 rfl rfl
    simp only [wpOps]
    show Code.wp P R11 _ a8 w8
    have hlen:seen.toList.length<l.length:=by
      have h1:(j :: seen.toList).Nodup:=List.nodup_cons.2 ⟨hjs,hnd⟩
      have h2:(j :: seen.toList) ⊆ List.range l.length:=fun x hx=>by
        rw [List.mem_range]
        rcases List.mem_cons.1 hx with rfl | h
        · exact hj1
        · exact hlt x h
      have:=h1.length_le_of_subset h2
      simp only [List.length_cons,List.length_range] at this
      omega
    refine Jq (R:=Xp×Qa) (r:=(sS1 r,[.arr kT (Gi l seen ++ [Mr l j])])) (lp:=0) Xn hm ATe R11 c8 (Kn:=fun _ s h=>some (s,h)) (K:=fun _ _ _=>none) (fun s h a9 w9 hk hs9 => ?_) (fun _ _ s h a w' hk _=>by cases hk) hs8 ?_
    · simp only [Option.some.injEq,Prod.mk.injEq] at hk
      obtain ⟨rfl,rfl⟩:=hk
      refine ⟨⟨seen.push e.born,es.size,w2,?_,hbl2,hm2,hr2,Nat.le_refl _,?_,?_⟩,?_⟩
      · have:Gi l (seen.push e.born)=Gi l seen ++ [Mr l j]:=by unfold Gi; rw [Array.toList_push,List.map_append,hj2]; rfl
        rw [this]; exact hs9
      · rw [Array.toList_push,hj2]
        exact List.nodup_append.2 ⟨hnd,by simp,fun x hx y hy=>by rw [List.mem_singleton.1 hy]; exact fun e=>hjs (e ▸ hx)⟩
      · intro x hx
        rw [Array.toList_push,hj2,List.mem_append,List.mem_singleton] at hx
        rcases hx with hx | rfl
        · exact hlt x hx
        · exact hj1
      · have e1:w9.iterSeen r=seen.push e.born:=by unfold World.iterSeen; rw [hs9.heap (by omega),hr2]
        have e2:w.iterSeen r=seen:=by unfold World.iterSeen; rw [hr0]
        rw [e1,e2]
        exact left_shrinks es seen e he
    · rw [AO0,if_pos]
      unfold Gi
      simp only [List.length_map,List.length_cons,List.length_nil]
      omega
end
end Go.Proofs.YtmemggdjnfccfaaGreatDoor.Ghost
namespace Go.Proofs.YtmemggdjnfccfaaGreatDoor.Ghost
open Go
structure C1 (P:Program) (sf cf:FuncId):Prop where
  call:Qb P sf=true
  empty:∀ (p:Option Addr) (cap:Nat) (w:World),Go.Calls P sf #[.slice p 0 cap,.func (.func cf) #[] #[]] w fun e w'=>e=.returned (.tuple #[])∧w'=w
  more:∀ (b cap:Nat) (l:List (den kT)) (cs:List Value) (w:World),0<l.length→l.length≤1048576→w.rangeAt b 0 cs→w.there b 0 cs.length→l.length * 2≤cs.length →
    (∀ i,i<l.length→cs[i * 2]?=some (.int .i64 (l.getD i (dft kT)).1)∧cs[i * 2+1]?=some (.int .i64 (l.getD i (dft kT)).2.1))→b<w.heap.size→l.Nodup →
    Go.Calls P sf #[.slice (some ⟨b,0,none⟩) l.length cap,.func (.func cf) #[] #[]] w fun e w'=>e=.returned (.tuple #[])∧w'.os=w.os∧w'.tape=w.tape∧w'.output=w.output∧w.heap.size≤w'.heap.size∧(∀ k,k<w.heap.size→k≠b→w'.heap[k]?=w.heap[k]?) ∧
      ∃ cs':List Value,cs'.length=cs.length∧w'.rangeAt b 0 cs'∧w'.there b 0 cs.length∧∀ i,i<l.length→cs'[i * 2]?=some (.int .i64 ((Yz l).getD i (dft kT)).1)∧cs'[i * 2+1]?=some (.int .i64 ((Yz l).getD i (dft kT)).2.1)
theorem AJ5 {l:List (den kT)} (h:Asc l):l.Nodup:=List.Pairwise.imp (fun {a b} hab e=>by subst e; exact O5 a hab) h
theorem AB9 {l:List (den kT)} (h:l.Nodup):(Yz l).length=l.length:=by
  have h1:=(AJ5 (Ek l)).length_le_of_subset (fun x hx=>Ob.1 hx)
  have h2:=h.length_le_of_subset (fun x hx=>Ob.2 hx)
  omega
section
variable {P:Program} {N:Nat}
def ADl (P:Program) (sf cf:FuncId) (o:Oper):Bool:=(match o.op with
  | .call c=>(match c.callee with | .value g=>Xr (.f sf) g | _=>false) && (match c.args.toList with | [.tmp 28,g]=>Xr (.f cf) g | _=>false)
  | _=>false) && o.guard.isNone && (match o.dst with | some x=>Nat.beq x 29 | none=>false)
theorem St.back {r:Nat} {wS W0:World} {A0 A1 A:Nat→Prop} {ρ:Xo} {own:Nat→Option Nat} {w:World} {h:Nat→Obj} (st:St (r+1) ⟨wS,A1⟩ A ρ own w h) (hb:RowKit.Below W0.heap.size W0 wS) (hn:W0.heap.size≤r) (hA:∀ b,A1 b→A0 b∨W0.heap.size≤b):St W0.heap.size ⟨W0,A0⟩ A ρ own w h :=
  { objs:=st.objs,apart:=st.apart,old:=st.old,oldO:=st.oldO,base:=fun b g hb=>Nat.le_trans (by omega) (st.base b g hb),below:=hb.trans (st.below.mono (by omega)),hB:=Nat.le_refl _,imm:=fun b hb=>(st.imm b hb).elim (hA b) (fun h=>.inr (by omega)),names:=st.names,glob:=st.glob }
def sS3 (r:Nat):Xp:=sS1 r ++ [(20,.tup [.dat .bool false []]),(21,.dat .bool false []),(28,AIm),(29,.junk)]
def ATf:Cd:=.seq (.seq (.reg false [⟨some 30,.move (.t 6),none,[],[]⟩,⟨some 2,.move (.t 30),none,[],[]⟩]) (.tidy [30] [] [] none)) .ret
def AI8:Fn:=⟨1,[.tmp 2],.skip⟩
theorem AO1 (r:Nat) (l:List (den kT)):run Yh 0 ATf (fun _ _ _=>none) (Xk AI8 [.d (.sl kT)]) (sS3 r) [.arr kT l]=some ((l,()),[(0,[])]):=by kernel_rfl
theorem CBy {cs:List Value} {i:Nat} {x y:Value} (h1:cs[i * 2]?=some x) (h2:cs[i * 2+1]?=some y):cut cs (i * 2) 2=[x,y]:=by
  refine List.ext_getElem? fun k => ?_
  rw [Qi]
  rcases k with _ | _ | k
  · simpa using h1
  · simpa using h2
  · simp; omega
theorem CAi (hm:P.follows .mixedOrders=true) (hN:30<N) {sf cf:FuncId} (hso:C1 P sf cf) {o12:Array Oper} {id12:Nat} {S13:Code} {x y:Oper} (h12:o12.toList=[x,y])
    (c1:Vt P N o12 ⟨some 28,.move (.t 6),none,[],[]⟩ x=true) (c2:ADl P sf cf y=true) (c3:Jk P N ATf S13=true)
    {W0:World} {A0 A1:Nat→Prop} {r:Nat} {l:List (den kT×Bool)} (hA:∀ b,A1 b→A0 b∨W0.heap.size≤b) (hn0:W0.heap.size≤r) (hl:l.length≤1048576) (hnd:(l.map (·.1)).Nodup) {ks:List (den kT)} (hks:∀ x,x∈l.map (·.1)↔x∈ks)
    {Q:Exit→Act→World→Prop} (hQ:∀ ex,ex≠.norm→AJ3 N W0.heap.size ⟨W0,A0⟩ ((Yz ks,()),[(0,[])]) (Xk AI8 [.d (.sl kT)]) ex Q) (a:Act) (w:World) (hI:ATp N W0 A1 r l a w) :
    Code.wp P (.seq (.region id12 o12 false) S13) Q a w:=by
  obtain ⟨seen,wS,his,hbl,hsn,hsm⟩:=hI
  have i0:o12[0]?=some x:=by rw [← Array.getElem?_toList,h12]; rfl
  have i1:o12[1]?=some y:=by rw [← Array.getElem?_toList,h12]; rfl
  have hsz:o12.size=2:=by rw [← Array.length_toList,h12]; rfl
  have hnth:∀ j,j<l.length→(l.map (·.1))[j]?=some (Mr l j):=fun j hj=>by
    rw [List.getElem?_map]; unfold Mr; rw [List.getD_eq_getElem?_getD,List.getElem?_eq_getElem hj]; rfl
  have hout:∀ x,x∈Gi l seen↔x∈ks:=fun x=>by
    rw [← hks]
    unfold Gi
    rw [List.mem_map]
    constructor
    · rintro ⟨j,hj,rfl⟩
      exact List.mem_of_getElem? (hnth j ((hsm j).1 hj))
    · intro hx
      obtain ⟨j,hj⟩:=List.getElem?_of_mem hx
      have hj':j<l.length:=by have:=(List.getElem?_eq_some_iff.1 hj).1; simpa using this
      refine ⟨j,(hsm j).2 hj',?_⟩
      rw [hnth j hj'] at hj
      exact Option.some.inj hj
  have hond:(Gi l seen).Nodup:=by
    unfold Gi
    refine List.pairwise_map.2 (List.Pairwise.imp_of_mem (fun {i j} hi hj hij e=>hij ?_) hsn)
    have h1:=hnth i ((hsm i).1 hi)
    have h2:=hnth j ((hsm j).1 hj)
    rw [e,← h2] at h1
    exact (List.getElem?_inj (by simpa using (hsm i).1 hi) hnd).1 h1
  have holen:(Gi l seen).length≤1048576:=by
    have h1:=hsn.length_le_of_subset (l₂:=List.range l.length) (fun x hx=>by rw [List.mem_range]; exact (hsm x).1 hx)
    unfold Gi
    rw [List.length_map]
    rw [List.length_range] at h1
    omega
  generalize hgo:Gi l seen=out at *
  have hsort:Yz out=Yz ks:=Ay (Ek out) (fun x=>Ob.trans (hout x))
  unfold ADl at c2
  simp only [Bool.and_eq_true] at c2
  obtain ⟨⟨c2,c2g⟩,c2d⟩:=c2
  split at c2
  case h_2=>cases c2
  rename_i c ho
  simp only [Bool.and_eq_true] at c2
  obtain ⟨hf,hargs⟩:=c2
  split at hf
  case h_2=>cases hf
  rename_i g hcal
  split at hargs
  case h_2=>cases hargs
  rename_i gc hargs'
  have hd:y.dst=some 29:=by
    split at c2d
    · rename_i d hd; rw [hd,Nat.eq_of_beq_eq_true c2d]
    · cases c2d
  have hg:y.guard=none:=by simpa using c2g
  refine wp_seq (wp_region ?_)
  rw [hsz,List.range_eq_range']
  show wpOps P o12 _ [0,1] a w
  rw [wpOps_cons]
  refine U3 (draw:=false) i0 his Xn c1 (v:=AIm) (e:=[]) ⟨(fun h=>by cases h),rfl⟩ (fun a3 w3 hs3 => ?_)
  have hs3:=Is.stepped (s':=sS1 r ++ [(20,.tup [.dat .bool false []]),(21,.dat .bool false []),(28,AIm)]) (h':=[.arr kT out]) hs3 rfl rfl
  rw [wpOps_cons]
  unfold wpOp
  simp only [i1,Region.wanted,hg,if_true]
  refine .inl ?_
  obtain ⟨A,ρ,own,st,sl,sz,df⟩:=hs3
  have k1:=Yg sl hf
  simp only [evO,Zk] at k1
  obtain ⟨capv,hgv,k3⟩:=k1
  simp only [Zr] at k3
  subst k3
  have k2:=Yg sl hargs
  simp only [evO,Zk] at k2
  obtain ⟨capc,hgc,k4⟩:=k2
  simp only [Zr] at k4
  subst k4
  have hex:=AAt (P:=P) (w:=w3) ho hcal hgv hso.call
  have k28:Zk A ρ w3 AIm (a3.eval (.tmp 28)):=sl 28
  unfold AIm Zk Zl at k28
  obtain ⟨cs0,⟨ad,n,cp,rfl,hhead,_⟩,hv28⟩:=k28
  have hv28:a3.eval (.tmp 28)=.slice ad n cp:=hv28
  obtain ⟨s,ad',hρ0,hmp,hsv,hadd⟩:=hhead 0 (by simp)
  simp only [Value.slice.injEq] at hsv
  obtain ⟨rfl,rfl,rfl⟩:=hsv
  have hobj:Va A ρ own w3 0 (.arr kT out):=st.objs 0
  simp only [Va,V5] at hobj
  obtain ⟨s',hρ1,r2,r3,r4,r5,r6,r7,r8,r9⟩:=hobj
  rw [hρ0] at hρ1
  cases hρ1
  have hav:c.args.map a3.eval ++ #[] = #[.slice ad s.len s.cap,.func (.func cf) #[] #[]]:=by
    rw [Array.append_empty,← Array.toList_inj,Array.toList_map,hargs']
    simp only [List.map_cons,List.map_nil,hv28,hgc]
  unfold Oper.wp
  rw [hex,Oper.upon_enter,hav]
  have fin:∀ (w':World),Is N (r+1) ⟨wS,A1⟩ (Xz (sS1 r ++ [(20,.tup [.dat .bool false []]),(21,.dat .bool false []),(28,AIm)])) (Xu [.arr kT (Yz ks)]) a3 w'→wpOps P o12 (Exit.then (Code.wp P S13 Q) Q) [] (a3.put y.dst (.tuple #[])) w':=fun w' hw'=>by
    have hw2:=Is.put (d:=29) (v:=.junk) (v':=.tuple #[]) hw' (by omega) (fun A ρ=>trivial)
    rw [hd]
    simp only [wpOps]
    show Code.wp P S13 _ _ w'
    have hw3:Is N W0.heap.size ⟨W0,A0⟩ (Xz (sS3 r)) (Xu [.arr kT (Yz ks)]) (a3.put (some 29) (.tuple #[])) w':=by
      obtain ⟨A,ρ,own,st,sl,sz,df⟩:=hw2
      exact ⟨A,ρ,own,st.back hbl hn0 hA,sl,sz,df⟩
    exact Jq (R:=Xf [Sh.d (.sl kT)]×Z0) (r:=((Yz ks,()),[(0,[])])) (lp:=0) Xn hm ATf S13 c3 (Kn:=fun _ _ _=>none) (K:=Xk AI8 [.d (.sl kT)]) (fun s h a w' hk _=>by cases hk) hQ hw3 (AO1 r _)
  rcases Nat.eq_zero_or_pos s.len with h0 | h0
  · have hnil:out=[]:=List.length_eq_zero_iff.1 (by rw [r7]; exact h0)
    rw [h0]
    refine Calls.mono (hso.empty ad s.cap w3) (fun en w' he => ?_)
    obtain ⟨rfl,rfl⟩:=he
    refine fin _ ⟨A,ρ,own,?_,sl,sz,df⟩
    have:Yz ks=out:=by rw [← hsort,hnil]; rfl
    rw [this]; exact st
  · obtain ⟨cs,q1,⟨q2,q3,q4⟩,q5⟩:=r9 (by omega)
    have hes:s.es=2:=r3
    have hadd':=hadd (by omega)
    subst hadd'
    have hcells:∀ i,i<out.length→cs[i * 2]?=some (.int .i64 (out.getD i (dft kT)).1)∧cs[i * 2+1]?=some (.int .i64 (out.getD i (dft kT)).2.1):=fun i hi=>by
      have:=q5 i (by omega)
      rw [hes] at this
      simp only [Zl,Xx,Zi] at this
      obtain ⟨t1,t2,t3⟩:=this
      have u1:=congrArg (fun (l:List Value)=>l[0]?) t1
      have u2:=congrArg (fun (l:List Value)=>l[0]?) t2
      simp [Qi,List.getElem?_take,List.getElem?_drop] at u1 u2
      exact ⟨u1,u2⟩
    have hlen:out.length=s.len:=r7
    rw [← hlen]
    refine Calls.mono (hso.more s.b s.cap out cs w3 (by omega) holen q3 q4 (by rw [q1,hes,hlen]; omega) hcells (st.oldO _ _ q2) hond) (fun en w' he => ?_)
    obtain ⟨rfl,e1,e2,e3,e4,e5,cs',e6,e7,e8,e9⟩:=he
    refine fin _ ⟨A,ρ,own,?_,?_,sz,df⟩
    · have hne:∀ b,A b→b≠s.b:=fun b hb e=>st.apart _ _ q2 (e ▸ hb)
      have hlat:Yl A ρ w3 A ρ w':=⟨fun _ h=>h,fun _ _ h=>h,fun b hb=>e5 b (st.old b hb) (hne b hb)⟩
      refine st.turn (fun g=>g=0) hlat (fun b g hb hg=>e5 b (st.oldO b g hb) (fun e=>hg (by rw [e,q2] at hb; exact (Option.some.inj hb).symm))) (fun _ _ h _=>h) (fun _ _ h=>h) (fun g hg => ?_) (fun g hg => ?_) (fun g hg => ?_) st.apart (fun b hb=>Nat.lt_of_lt_of_le (st.old b hb) e4) (fun b g hb=>Nat.lt_of_lt_of_le (st.oldO b g hb) e4) st.base ⟨e1,e2,e3,e4,fun k hk=>e5 k ?_ ?_⟩ (fun _ h=>.inl h)
      · cases g with
        | zero=>exact absurd rfl hg
        | succ g=>rfl
      · subst hg
        show Va A ρ own w' 0 (.arr kT (Yz ks))
        simp only [Va,V5]
        refine ⟨s,hρ0,r2,r3,r4,r5,r6,by rw [← hsort,AB9 hond]; exact r7,r8,fun _=>⟨cs',by rw [e6]; exact q1,⟨q2,e7,by rw [e6]; exact e8⟩,fun i hi => ?_⟩⟩
        obtain ⟨f1,f2⟩:=e9 i (by omega)
        rw [hes,CBy f1 f2,hsort]
        simp [Zl,Xx,Zi]
      · subst hg; show Obj.arr kT (Yz ks)≠.none; simp
      · have h1:=st.below.size
        have h2:=st.hB
        omega
      · have:=st.base _ _ q2
        omega
    · have hne:∀ b,A b→b≠s.b:=fun b hb e=>st.apart _ _ q2 (e ▸ hb)
      have hlat:Yl A ρ w3 A ρ w':=⟨fun _ h=>h,fun _ _ h=>h,fun b hb=>e5 b (st.old b hb) (hne b hb)⟩
      exact fun i=>hlat.repV (sl i)
end
end Go.Proofs.YtmemggdjnfccfaaGreatDoor.Ghost
namespace Go.Proofs.YtmemggdjnfccfaaGreatDoor.Ghost
open Go
section
variable {P:Program}
def AUd (o:Oper):Bool:=(match o.op with
  | .move (.tmp 3)=>true
  | _=>false) && (match o.dst with | some d=>Nat.beq d 18 | none=>false) && o.guard.isNone
def AIp (P:Program) (f sf cf:FuncId):Bool:=match P.funcs[f]? with
  | some fn => fn.name != "runtime.NumGoroutine" && Rc P [.tmp 2] fn.results.toList && Nat.blt 30 (1 + (fn.ntmps - 1)) && (match fn.body with
    | some (.seq R0 (.seq R1 (.seq L1 (.seq (.region _ o7 false) (.seq (.seq (.region _ o8 false) (.block 2 (.loop (.seq (.region _ o9 false) (.seq C (.block 3 (.seq (.region _ o10 false) R11))))))) (.seq (.region _ o12 false) S13)))))) =>
      Jk P (1+(fn.ntmps - 1)) sA0 R0 && Jk P (1+(fn.ntmps - 1)) sA1 R1 && Jk P (1+(fn.ntmps - 1)) sA2 L1 && Jk P (1+(fn.ntmps - 1)) sC C && Jk P (1+(fn.ntmps - 1)) ATe R11 && Jk P (1+(fn.ntmps - 1)) ATf S13 &&
      (match o7.toList,o8.toList,o9.toList,o10.toList,o12.toList with
      | [x7],[x8,y8],[x9,y9],[x10,y10,z10,u10],[x12,y12]=>I4 x7 && AUd x8 && AE1 P y8 && ADi x9 && Vt P (1+(fn.ntmps - 1)) o9 ⟨some 21,.extract (.t 20) 0,none,[],[]⟩ y9 &&
        Bn x10 && Vt P (1+(fn.ntmps - 1)) o10 ⟨some 23,.extract (.t 22) 0,none,[],[]⟩ y10 && Vt P (1+(fn.ntmps - 1)) o10 ⟨some 7,.newbox 1 kT [],none,[],[]⟩ z10 && Vt P (1+(fn.ntmps - 1)) o10 ⟨none,.store (.d kT) (.t 7) (.t 23),none,[],[]⟩ u10 &&
        Vt P (1+(fn.ntmps - 1)) o12 ⟨some 28,.move (.t 6),none,[],[]⟩ x12 && ADl P sf cf y12
      | _,_,_,_,_=>false)
    | _=>false)
  | none=>false
theorem AFa {A:Nat→Prop} {ρ:Xo} {w:World}:{l:List (den kT×den .bool)}→{es:List MapEntry}→Xw A ρ w kT .bool l es→es.length=l.length∧∀ (j:Nat) e,es[j]?=some e→e.key=AS2 (Mr l j)
  | [],_,h=>by simp only [Xw] at h; subst h; exact ⟨rfl,fun j e he=>by simp at he⟩
  | (k,v) :: r,_,h=>by
    simp only [Xw] at h
    obtain ⟨e,es',rfl,⟨c1,h2,h3⟩,⟨c2,h4,h5⟩,h6⟩:=h
    obtain ⟨i1,i2⟩:=AFa h6
    refine ⟨by simp [i1],fun j e' he => ?_⟩
    cases j with
    | zero =>
      simp only [List.getElem?_cons_zero,Option.some.injEq] at he
      subst he
      obtain ⟨a,b,⟨⟩⟩:=k
      simp only [Zl,Xx] at h2
      obtain ⟨t1,t2,t3⟩:=h2
      rw [h3]
      have hc:c1=[.int .i64 a,.int .i64 b]:=by
        rcases c1 with _ | ⟨x,_ | ⟨y,_ | ⟨z,c1⟩⟩⟩ <;> simp [Zi] at t1 t2 t3
        rw [t1,t2]
      rw [hc]; rfl
    | succ j =>
      simp only [List.getElem?_cons_succ] at he
      exact i2 j e' he
theorem AIr (hm:P.follows .mixedOrders=true) {f sf cf:FuncId} (hc:AIp P f sf cf=true) (hso:C1 P sf cf) {ks:List (den kT)} (hks:List.length ks≤1048576) {w:World} {A:Nat→Prop} {vs:List Value} (hA:∀ b,A b→b<w.heap.size) (hgl:Vn A w)
    (hr:Zr A (fun _=>none) w [.dat (.sl kT) ks []] vs):Qb P f=true∧Go.Calls P f vs.toArray w (fun en w'=>∃ vals,en=.returned (Js vals)∧Gd A w w' [.dat (.sl kT) (Yz ks) []] [(0,[])] vals):=by
  unfold AIp at hc
  cases hf:P.funcs[f]? with
  | none=>rw [hf] at hc; cases hc
  | some fn =>
    rw [hf] at hc
    simp only [Bool.and_eq_true,Nat.blt_eq] at hc
    obtain ⟨⟨⟨c1,c2⟩,hN⟩,c3⟩:=hc
    split at c3
    case h_2=>cases c3
    rename_i R0 R1 L1 id7 o7 id8 o8 id9 o9 C id10 o10 R11 id12 o12 S13 hbd
    simp only [Bool.and_eq_true] at c3
    obtain ⟨⟨⟨⟨⟨⟨d0,d1⟩,d2⟩,d3⟩,d4⟩,d5⟩,dO⟩:=c3
    split at dO
    case h_2=>cases dO
    rename_i x7 x8 y8 x9 y9 x10 y10 z10 u10 x12 y12 h7 h8 h9 h10 h12
    simp only [Bool.and_eq_true] at dO
    obtain ⟨⟨⟨⟨⟨⟨⟨⟨⟨⟨e7,e8⟩,e8'⟩,e9⟩,e9'⟩,e10⟩,e10'⟩,e10z⟩,e10u⟩,e12⟩,e12'⟩:=dO
    refine ⟨by unfold Qb; rw [hf]; simp only [c1,hbd]; rfl,?_⟩
    refine calls_of_wp hf hbd ?_
    have hret:=AD9 (P:=P) (N:=1+(fn.ntmps - 1)) (w:=w) (A:=A) (fn:=fn) (g:=AI8) (res:=[.d (.sl kT)]) (r:=((Yz ks,()),[(0,[])])) c2
    have h0:=Ab (n:=1) (k:=fn.ntmps) hA hgl hr rfl
    refine wp_seq (Jq (R:=Xp×Qa) (r:=([(0,.dat (.sl kT) ks []),(2,.dat (.sl kT) [] [])],[])) (lp:=0) Xn hm sA0 R0 d0 (Kn:=fun _ s h=>some (s,h)) (K:=fun _ _ _=>none) (fun s h a w1 hk hs => ?_) (fun _ _ s h a w' hk _=>by cases hk) h0 rfl)
    simp only [Option.some.injEq,Prod.mk.injEq] at hk
    obtain ⟨rfl,rfl⟩:=hk
    refine wp_seq (Jq (R:=Xp×Qa) (r:=([(0,.dat (.sl kT) ks []),(2,.dat (.sl kT) [] []),(8,.ptr 0 []),(3,.ptr 0 [])],[.map kT .bool []])) (lp:=0) Xn hm sA1 R1 d1 (Kn:=fun _ s h=>some (s,h)) (K:=fun _ _ _=>none) (fun s h a w1 hk hs => ?_) (fun _ _ s h a w' hk _=>by cases hk) hs rfl)
    simp only [Option.some.injEq,Prod.mk.injEq] at hk
    obtain ⟨rfl,rfl⟩:=hk
    refine wp_seq (Jq (R:=Xp×Qa) (r:=(sS ks ((ks.length:Nat):Int),[.map kT .bool (AH5 ks)])) (lp:=ks.length+1) Xn hm sA2 L1 d2 (Kn:=fun _ s h=>some (s,h)) (K:=fun _ _ _=>none) (fun s h a w1 hk hs => ?_) (fun _ _ s h a w' hk _=>by cases hk) hs (BMd ks hks))
    simp only [Option.some.injEq,Prod.mk.injEq] at hk
    obtain ⟨rfl,rfl⟩:=hk
    have i7:o7[0]?=some x7:=by rw [← Array.getElem?_toList,h7]; rfl
    have hsz7:o7.size=1:=by rw [← Array.length_toList,h7]; rfl
    have i8:o8[0]?=some x8:=by rw [← Array.getElem?_toList,h8]; rfl
    have j8:o8[1]?=some y8:=by rw [← Array.getElem?_toList,h8]; rfl
    have hsz8:o8.size=2:=by rw [← Array.length_toList,h8]; rfl
    unfold I4 at e7
    simp only [Bool.and_eq_true] at e7
    obtain ⟨⟨e7,e7d⟩,e7g⟩:=e7
    have hx7:x7.op=.assign (.const (.slice none 0 0)):=by
      split at e7
      · assumption
      · cases e7
    have hd7:x7.dst=some 6:=by
      split at e7d
      · rename_i d hd; rw [hd,Nat.eq_of_beq_eq_true e7d]
      · cases e7d
    have hg7:x7.guard=none:=by simpa using e7g
    unfold AE1 at e8'
    simp only [Bool.and_eq_true] at e8'
    obtain ⟨⟨e8a,e8d⟩,e8g⟩:=e8'
    split at e8a
    case h_2=>cases e8a
    rename_i T hop8
    split at e8a
    case h_2=>cases e8a
    rename_i kt vt hund
    have hd8:y8.dst=some 19:=by
      split at e8d
      · rename_i d hd; rw [hd,Nat.eq_of_beq_eq_true e8d]
      · cases e8d
    have hg8:y8.guard=none:=by simpa using e8g
    refine wp_seq (wp_region ?_)
    rw [hsz7,List.range_eq_range']
    show wpOps P o7 _ [0] a w1
    rw [wpOps_cons]
    unfold wpOp
    simp only [i7,Region.wanted,hg7,if_true]
    refine .inl ?_
    unfold Oper.wp
    have hrun7:(execOp a.eval x7).run P w1=.ok (.value (.slice none 0 0)) w1:=by
      simp only [execOp,hx7]
      rfl
    rw [hrun7,Oper.upon_value,hd7]
    simp only [wpOps]
    have hs1:=Is.put (d:=6) (v:=.junk) (v':=.slice none 0 0) hs (by omega) (fun A ρ=>trivial)
    have hsz1:=hs1.size
    have h6:(a.put (some 6) (.slice none 0 0)).tmps[6]?=some (.slice none 0 0):=by
      rw [Vc] at hsz1
      show (a.tmps.setIfInBounds 6 _)[6]?=_
      rw [Array.getElem?_setIfInBounds_self]
      simp only [hsz1]
      rw [if_pos (by omega)]
    generalize a.put (some 6) (.slice none 0 0)=a2 at hs1 h6
    show Code.wp P (.seq (.seq _ _) _) _ a2 w1
    refine wp_seq (wp_seq (wp_region ?_))
    rw [hsz8,List.range_eq_range']
    show wpOps P o8 _ [0,1] a2 w1
    rw [wpOps_cons]
    unfold AUd at e8
    simp only [Bool.and_eq_true] at e8
    obtain ⟨⟨e8,e8m⟩,e8n⟩:=e8
    have hx8:x8.op=.move (.tmp 3):=by
      split at e8
      · assumption
      · cases e8
    have hdx:x8.dst=some 18:=by
      split at e8m
      · rename_i d hd; rw [hd,Nat.eq_of_beq_eq_true e8m]
      · cases e8m
    have hgx:x8.guard=none:=by simpa using e8n
    obtain ⟨A2,ρ2,own2,st2,sl2,sz2,df2⟩:=hs1
    have hob:Va A2 ρ2 own2 w1 0 (.map kT .bool (AH5 ks)):=st2.objs 0
    simp only [Va] at hob
    obtain ⟨s,es,clk,r1,r2,r3,r4,r5,r6,r7⟩:=hob
    have h3:Zk A2 ρ2 w1 (.ptr 0 []) (a2.eval (.tmp 3)):=sl2 3
    simp only [Zk] at h3
    obtain ⟨s',q1,q2,q3⟩:=h3
    rw [r1] at q1
    cases q1
    rw [r2] at q3
    have q3:a2.eval (.tmp 3)=.map (some s.b):=q3
    unfold wpOp
    simp only [i8,Region.wanted,hgx,if_true]
    refine .inl ?_
    unfold Oper.wp
    have hrun8:(execOp a2.eval x8).run P w1=.ok (.value (.map (some s.b))) w1:=by
      simp only [execOp,hx8,q3]
      rfl
    rw [hrun8,Oper.upon_value,hdx,wpOps_cons]
    unfold wpOp
    simp only [j8,Region.wanted,hg8,if_true]
    refine .inl ?_
    unfold Oper.wp
    have hrun9:(execOp (a2.put (some 18) (.map (some s.b))).eval y8).run P w1=.ok (.value (.pointer (some ⟨w1.heap.size,0,none⟩))) (w1.alloc (.mapIter (some s.b) clk #[] clk)):=by
      have hev:(a2.put (some 18) (.map (some s.b))).eval (.tmp 18)=.map (some s.b):=by
        have:18<a2.tmps.size:=by rw [sz2]; omega
        simp [Act.put,Act.eval,Array.getD_eq_getD_getElem?,this]
      simp only [execOp,hop8,hev,Sem.run_bind,run_range_map w1 T kt vt s.b es clk hund r5]
      rfl
    rw [hrun9,Oper.upon_value,hd8]
    simp only [wpOps]
    show Code.wp P (.block 2 _) _ _ _
    obtain ⟨n1,n2⟩:=AFa r6
    have hclk:clk=es.size:=by rw [r7.1]; exact Array.length_toList
    subst hclk
    obtain ⟨m1,m2,m3⟩:=AK4 ks [] List.nodup_nil
    have hml:(AH5 ks).length≤1048576:=by
      have:(AH5 ks).length≤0+ks.length:=m3
      omega
    have hbr:s.b<w1.heap.size:=st2.oldO _ _ r3
    have hws:w.heap.size≤w1.heap.size:=st2.below.size
    have hold:∀ b,b<w1.heap.size→(w1.alloc (.mapIter (some s.b) es.size #[] es.size)).heap[b]?=w1.heap[b]?:=fun b hb=>heap_alloc_old w1 _ hb
    refine wp_block (wp_loop (AUm (1+(fn.ntmps - 1)) w A2 s.b w1.heap.size es (AH5 ks)) (fun _ w'=>(leftOf es (w'.iterSeen w1.heap.size)).size) ⟨#[],es.size,w1.alloc (.mapIter (some s.b) es.size #[] es.size),?_,st2.below.alloc hws _,by rw [hold _ hbr]; exact r5,heap_alloc_new w1 _,Nat.le_refl _,List.nodup_nil,fun j hj=>by cases hj⟩
      (fun a w' hI=>BMe hm (by omega) h9 h10 e9 e9' d3 e10 e10' e10z e10u d4 (fun b hb=>st2.old b hb) hbr (by rw [← n1]; exact Array.length_toList.symm) (fun j e he=>⟨r7.2 j e he,n2 j e he⟩) hml hws (fun a' w'' hp => ?_) a w' hI))
    · -- the state as the loop begins
      have hst:St (w1.heap.size+1) ⟨w1.alloc (.mapIter (some s.b) es.size #[] es.size),A2⟩ A2 (fun _=>none) (fun _=>none) (w1.alloc (.mapIter (some s.b) es.size #[] es.size)) (Xu []) :=
        { objs:=fun g=>rfl,apart:=(fun b g h=>by cases h),old:=fun b hb=>Nat.lt_trans (st2.old b hb) (by show w1.heap.size<(w1.heap.push _).size; simp),oldO:=(fun b g h=>by cases h),base:=(fun b g h=>by cases h),below:=RowKit.Below.refl _ _,hB:=(by show w1.heap.size+1≤(w1.heap.push _).size; simp),imm:=fun b h=>.inl h,names:=(fun g ⟨s,h⟩=>by cases h),glob:=st2.glob.mono (fun _ h=>h) (fun b hb=>hold b (st2.old b hb)) }
      obtain ⟨st3,l3⟩:=hst.nil (k:=0) (e:=kT) rfl (by decide)
      have hh:Rx (Xu []) 0 (.arr kT [])=Xu [.arr kT (Gi (AH5 ks) #[])]:=by
        funext i
        cases i <;> rfl
      rw [hh] at st3
      refine ⟨A2,_,_,st3,fun i => ?_,by rw [Vc,Vc]; exact sz2,by rw [Qm,Qm]; exact df2⟩
      by_cases h19:i=19
      · subst h19
        have:19<(a2.put (some 18) (.map (some s.b))).tmps.size:=by rw [Vc,sz2]; omega
        show Zk _ _ _ (.glo w1.heap.size) _
        simp only [Zk]
        generalize a2.put (some 18) (.map (some s.b))=a3 at this
        simp [Act.put,Act.eval,Array.getD_eq_getD_getElem?,this]
      · by_cases h6':i=6
        · subst h6'
          have hev6:((a2.put (some 18) (.map (some s.b))).put (some 19) (.pointer (some ⟨w1.heap.size,0,none⟩))).eval (.tmp 6)=.slice none 0 0:=by
            rw [Act.eval_put (fun d hd e=>by cases hd; cases e),Act.eval_put (fun d hd e=>by cases hd; cases e)]
            simp [Act.eval,Array.getD_eq_getD_getElem?,h6]
          rw [hev6]
          exact Tr rfl Lf
        · have:Xz (sS1 w1.heap.size) i=.junk:=by
            have e1:Nat.beq 6 i=false:=by
              cases h:Nat.beq 6 i with
              | false=>rfl
              | true=>exact absurd (Nat.eq_of_beq_eq_true h).symm h6'
            have e2:Nat.beq 19 i=false:=by
              cases h:Nat.beq 19 i with
              | false=>rfl
              | true=>exact absurd (Nat.eq_of_beq_eq_true h).symm h19
            simp only [sS1,Xz,e1,e2]
          rw [this]
          trivial
    · show Code.wp P (.seq (.region id12 o12 false) S13) _ a' w''
      refine CAi hm (by omega) hso h12 e12 e12' d5 (fun b hb=>st2.imm b hb) hws hml m1 (ks:=ks) (fun x=>(m2 x).trans (by simp)) (fun ex hex => ?_) a' w'' hp
      cases ex with
      | norm=>exact absurd rfl hex
      | exit i=>exact Nc i
      | ret=>exact hret .ret (by simp)
end
end Go.Proofs.YtmemggdjnfccfaaGreatDoor.Ghost
