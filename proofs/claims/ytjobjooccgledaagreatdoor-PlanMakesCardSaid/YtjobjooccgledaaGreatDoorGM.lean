/- Package-level maps of functions, as a row's condition lays them. Conditions: none. -/
import Derived.Test.YtjobjooccgledaaGreatDoorA4
import Derived.LaidMore
import Derived.WideKeyElems2
import Derived.WideShapes
namespace Go.Proofs.YtjobjooccgledaaGreatDoor.Ghost
open Go
theorem ABn {α β:Type} {f:α→β}:(m:List β)→{l:List α}→m.Perm (l.map f)→∃ l':List α,l'.Perm l∧l'.map f=m
  | [],l,h=>by
    have:l=[]:=by simpa using h.symm.eq_nil
    exact ⟨[],by rw [this],rfl⟩
  | x :: m,l,h=>by
    obtain ⟨a,ha,hx⟩:=List.mem_map.1 (h.mem_iff.1 (List.mem_cons_self ..))
    obtain ⟨s,t,rfl⟩:=List.append_of_mem ha
    have h1:(x :: m).Perm (x :: (s ++ t).map f):=by
      refine h.trans ?_
      rw [← hx,← List.map_cons]
      exact (List.perm_middle).map f
    obtain ⟨l',p,e⟩:=ABn m ((List.perm_cons x).1 h1)
    exact ⟨a :: l',((List.perm_cons a).2 p).trans List.perm_middle.symm,by rw [List.map_cons,hx,e]⟩
def AB3 (P:Program):List (List UInt8)→List FuncId→Prop
  | [],[]=>True
  | n :: ns,f :: fs=>(∃ b r,n=b :: r)∧((List.range P.funcs.size).filter fun g=>(P.funcs[g]?).any (·.name.toUTF8.data.toList == n))=[f]∧AB3 P ns fs
  | _,_=>False
theorem AH8 {P:Program} {W:World} {A:Nat→Prop} {k e:TypeId} {ps rs:Array TypeId} {va:Bool} {m:Nat} (hk:P.underlying k=some (.int .i64)) (he:P.underlying e=some (.func ps rs va)):(ks:List Int)→(ns:List (List UInt8))→(fs:List FuncId)→AB3 P ns fs→ks.length=ns.length→(l:List MapEntry) →
    (∀ x,x∈l→∃ y,WideElems.rd P k (WideElems.elemAt (funcToken P) P W 0 (fun _=>true) true m e) x=some y) →
    l.map (WideElems.rg P k (WideElems.elemAt (funcToken P) P W 0 (fun _=>true) true m e))=(ks.zip ns).map (fun x=>(Lit.int .i64 x.1,(.held x.2:DataW (List UInt8))))→l.map (·.key)=ks.map (Value.int .i64)∧Zs A (fun _=>none) W (fs.map fun f=>.clo f []) (l.map (·.val))
  | [],[],[],_,_,l,_,h=>by
    have:l=[]:=by simpa using h
    subst this
    simp [Zs]
  | k0 :: ks,n :: ns,f :: fs,hn,hl,l,hr,h=>by
    cases l with
    | nil=>simp at h
    | cons x l =>
      simp only [List.map_cons,List.zip_cons_cons,List.cons.injEq] at h
      obtain ⟨h1,h2⟩:=h
      obtain ⟨⟨b,r,hb⟩,hf,hn'⟩:=hn
      obtain ⟨y,hy⟩:=hr x (by simp)
      rw [WideElems.rg_of hy] at h1
      subst h1
      have c1:=WideElems.rd_key hy
      obtain ⟨z,c2,c3⟩:=WideElems.rd_val hy
      obtain ⟨i1,i2⟩:=AH8 hk he ks ns fs hn' (by simpa using hl) l (fun y hy=>hr y (by simp [hy])) h2
      have ekey:x.key=.int .i64 k0:=by
        unfold keyOf at c1
        simp only [hk] at c1
        unfold mapKey at c1
        rw [hk] at c1
        split at c1
        · rename_i heq hv; cases heq
        · rename_i q q' n' heq hv
          cases heq
          split at c1
          · rename_i hq
            simp only [Option.some.injEq,Lit.int.injEq,true_and] at c1
            rw [hv,hq.1,c1]
          · cases c1
        · rename_i heq hv; cases heq
        · cases c1
      have eval:x.val=.func (.func f) #[] #[]:=by
        unfold WideElems.elemAt at c2
        split at c2
        · rename_i hfm
          obtain ⟨d,q⟩:=z
          simp only at c3
          subst c3
          have one:x.val.cells.toList=[x.val]:=by
            cases hx:x.val with
            | agg cs=>rw [hx] at hfm; simp [Value.formed,he] at hfm
            | tuple cs=>rw [hx] at hfm; simp [Value.formed] at hfm
            | _=>rfl
          rw [one,hb] at c2
          exact func_of_trod he (by rw [← hb]; exact hf) c2
        · cases c2
      refine ⟨by simp only [List.map_cons,ekey,i1],?_⟩
      simp only [List.map_cons,Zs]
      exact ⟨_,_,rfl,by rw [eval]; simp only [Zl]; exact ⟨[],rfl,by simp only [Zs]⟩,i2⟩
  | [],[],_ :: _,hn,_,_,_,_=>hn.elim
  | [],_ :: _,_,_,hl,_,_,_=>by simp at hl
  | _ :: _,[],_,_,hl,_,_,_=>by simp at hl
  | _ :: _,_ :: _,[],hn,_,_,_,_=>hn.elim
theorem AM1 {P:Program} {W:World} {n:String} {g:Nat} {t k e:TypeId} {ps rs:Array TypeId} {va:Bool} {fuel:Nat} {cs:Array Value} {p:List MemPlace} {D:List (Lit×DataW (List UInt8))} {ks:List Int} {ns:List (List UInt8)} {fs:List FuncId} (hg:P.globalNamed n=some g)
    (hu:P.underlying t=some (.map k e)) (hk:P.underlying k=some (.int .i64)) (he:P.underlying e=some (.func ps rs va)) (hv:W.var? P n=some cs) (htr:DataW.trod (funcToken P) P W 0 (fun _=>true) true fuel t cs.toList=some (.map D,p))
    (hD:D=(ks.zip ns).map (fun x=>(Lit.int .i64 x.1,.held x.2))) (hn:AB3 P ns fs) (hl:ks.length=ns.length) (hnd:ks.Nodup) :
    g<W.heap.size∧∃ v,Zl (fun b=>b<W.heap.size) (fun _=>none) W (.fmap ks (fs.map fun f=>.clo f [])) v∧W.rangeAt g 0 [v]:=by
  rcases WideElems.open_map hu htr with ⟨_,hx⟩ | ⟨b,es,clock,m,_,hcs,hb,_,F,hx⟩
  · simp at hx
  simp only [Prod.mk.injEq,DataW.map.injEq] at hx
  have hp:D.Perm (es.toList.map (WideElems.rg P k (WideElems.elemAt (funcToken P) P W 0 (fun _=>true) true m e))):=by rw [hx.1]; exact WideShapes.sorted_perm _
  obtain ⟨l,lp,hlD⟩:=ABn D hp
  obtain ⟨r1,r2⟩:=AH8 (A:=fun b=>b<W.heap.size) hk he ks ns fs hn hl l (fun x hx=>F.reads x (lp.mem_iff.1 hx)) (hlD.trans hD)
  have hbs:b<W.heap.size:=(Array.getElem?_eq_some_iff.1 hb).1
  have hr:W.rangeAt g 0 [.map (some b)]:=fun j v hj=>by
    rw [Nat.zero_add,World.var?_cell hg hv j,← Array.getElem?_toList,hcs]
    exact hj
  have hgl:g<W.heap.size:=by
    have h0:=hr 0 _ rfl
    rcases Nat.lt_or_ge g W.heap.size with h | h
    · exact h
    · unfold World.cell? at h0
      simp only [Array.getElem?_eq_none h] at h0
      cases h0
  refine ⟨hgl,_,?_,hr⟩
  simp only [Zl]
  exact ⟨b,es,clock,rfl,hbs,hb,hnd,l,lp,r1,r2⟩
end Go.Proofs.YtjobjooccgledaaGreatDoor.Ghost
