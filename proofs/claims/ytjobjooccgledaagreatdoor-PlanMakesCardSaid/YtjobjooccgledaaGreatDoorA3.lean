/- Operations and calls do what the ghost's do. Conditions: none. -/
import Derived.Test.YtjobjooccgledaaGreatDoorA2
import Derived.Laws.StructEq
import Derived.ChangeKeysEq
set_option linter.unusedVariables false
set_option linter.unusedSimpArgs false
set_option linter.unusedSectionVars false
set_option linter.unnecessarySimpa false
namespace Go.Proofs.YtjobjooccgledaaGreatDoor.Ghost
open Go
mutual
def eqD:Ty→Nat
  | .arr _ e=>eqD e+1
  | .st fs=>AQm fs+1
  | _=>1
def AQm:List Ty→Nat
  | []=>0
  | t :: r=>eqD t+AQm r
end
section
variable {P:Program} {o:Oper} {a:Act} {w:World} {B:Nat} {w0:Y6} {A:Nat→Prop} {ρ:Xf} {own:Nat→Option Nat} {h:Nat→Obj} {s:Nat→SV}
mutual
def AEi (P:Program):Ty→TypeId→Bool
  | .sl _,_=>false
  | .arr _ e,t=>(match P.underlying t with | some (.array _ e')=>AEi P e e' | _=>false)
  | .st fs,t=>(match P.underlying t with | some (.struct l) => !(P.stoodInHeld t) && AH5 P fs l.toList | _=>false)
  | _,_=>true
def AH5 (P:Program):List Ty→List Field→Bool
  | [],[]=>true
  | t :: r, f :: s => decide (f.name ≠ "_") && AEi P t f.type && AH5 P r s
  | _,_=>false
end
theorem E3 {α:Type} {f:α→α→Bool} {d:α}:(l m:List α)→l.length=m.length→ADv f l m=(List.range l.length).all fun i=>f (l.getD i d) (m.getD i d)
  | [],[],_=>rfl
  | x :: r,y :: t,h=>by
    have:=E3 (f:=f) (d:=d) r t (by simpa using h)
    simp only [ADv,this,List.length_cons,List.range_succ_eq_map,List.all_cons,List.all_map]
    rfl
mutual
theorem Rf:(τ:Ty)→(d:Nat)→(t:TypeId)→{x y:den τ}→{cs ds:List Value}→Xx P τ t=true→AEi P τ t=true→eqD τ≤d→Zm A ρ w τ x [] cs→Zm A ρ w τ y [] ds →
    (Op.equalIn d t (mkV τ cs) (mkV τ ds)).run P w=.ok (eqT τ x y) w
  | .bool,0,_,_,_,_,_,_,_,hd,_,_=>by simp [eqD] at hd
  | .bool,d+1,t,x,y,cs,ds,h,_,_,h1,h2=>by
    simp only [Zm] at h1 h2
    subst h1; subst h2
    simp only [Xx] at h
    split at h
    · rename_i hu
      exact run_equalIn_bool' w d t x y hu
    · cases h
  | .int k,0,_,_,_,_,_,_,_,hd,_,_=>by simp [eqD] at hd
  | .int k,d+1,t,x,y,cs,ds,h,_,_,h1,h2=>by
    simp only [Zm] at h1 h2
    subst h1; subst h2
    simp only [Xx] at h
    split at h
    · rename_i k' hu
      exact run_equalIn_int w d t k k' x y hu
    · cases h
  | .str,0,_,_,_,_,_,_,_,hd,_,_=>by simp [eqD] at hd
  | .str,d+1,t,x,y,cs,ds,h,_,_,h1,h2=>by
    simp only [Zm] at h1 h2
    subst h1; subst h2
    simp only [Xx] at h
    split at h
    · rename_i hu
      have:=run_equalIn_string (P:=P) w d t x y hu
      rw [← beq_toListBytes] at this
      exact this
    · cases h
  | .sl _,_,_,_,_,_,_,_,he,_,_,_=>by simp [AEi] at he
  | .arr n e,0,_,_,_,_,_,_,_,hd,_,_=>by simp [eqD] at hd
  | .arr n e,d+1,t,x,y,cs,ds,h,he,hd,h1,h2=>by
    obtain ⟨e',u1,u2,u3,u4⟩:=Tp h
    simp only [AEi,u1] at he
    simp only [eqD] at hd
    obtain ⟨i,hi,hsz⟩:=G8 u3
    have hc:P.cellsOf e'=Zj e:=by simp [Program.cellsOf,hi,hsz]
    simp only [Zm] at h1 h2
    have hr:=run_equalIn_array (P:=P) w d cs.toArray ds.toArray u1 hi
    rw [hc] at hr
    simp only [mkV,Ua]
    rw [hr]
    have items:∀ is:List Nat,(∀ i,i∈is→i<n)→(Op.eqItems d e' (Zj e) cs.toArray ds.toArray is).run P w=.ok (is.all fun i=>eqT e (List.getD x i (dft e)) (List.getD y i (dft e))) w:=by
      intro is
      induction is with
      | nil=>intro _; rfl
      | cons j r ih =>
        intro hj
        have hjn:=hj j (by simp)
        have p1:=Pv (P:=P) (cs:=cs.toArray) (off:=j * Zj e) u2 u3 (by simpa [Jv,cut] using h1.2.2 j hjn)
        have p2:=Pv (P:=P) (cs:=ds.toArray) (off:=j * Zj e) u2 u3 (by simpa [Jv,cut] using h2.2.2 j hjn)
        have h3:=Rf (x:=List.getD x j (dft e)) (y:=List.getD y j (dft e)) e d e' u2 he (by omega) (h1.2.2 j hjn) (h2.2.2 j hjn)
        simp only [Op.eqItems,Sem.run_bind,p1,p2,Result.andThen_ok]
        change ((Op.equalIn d e' (mkV e (List.take (Zj e) (List.drop (j * Zj e) cs))) (mkV e (List.take (Zj e) (List.drop (j * Zj e) ds)))).run P w).andThen _=_
        rw [h3]
        simp only [Result.andThen_ok,List.all_cons]
        generalize eqT e (List.getD x j (dft e)) (List.getD y j (dft e))=b
        cases b
        · rfl
        · rw [Bool.true_and]
          exact ih (fun i hi=>hj i (List.mem_cons_of_mem _ hi))
    rw [items (List.range n) (by simp)]
    simp only [eqT]
    rw [E3 (d:=dft e) x y (by rw [h1.1,h2.1]),h1.1]
  | .st fs,0,_,_,_,_,_,_,_,hd,_,_=>by simp [eqD] at hd
  | .st fs,d+1,t,x,y,cs,ds,h,he,hd,h1,h2=>by
    simp only [Xx] at h
    simp only [AEi] at he
    simp only [eqD] at hd
    cases hu:P.underlying t with
    | none=>simp [hu] at h
    | some dd =>
      cases dd with
      | struct l =>
        simp only [hu] at h he
        simp only [Bool.and_eq_true,Bool.not_eq_true'] at he
        simp only [Zm] at h1 h2
        have hf:P.fieldsOf t=l:=by simp [Program.fieldsOf,hu]
        have hr:=run_equalIn_struct (P:=P) w d t cs.toArray ds.toArray (by rw [hf]; exact hu) he.1
        rw [hf] at hr
        simp only [mkV,Ua]
        rw [hr]
        simp only [eqT]
        exact Ip fs d 0 0 l.toList h he.2 (by omega) (by simpa using h1) (by simpa using h2)
      | _=>simp [hu] at h
theorem Ip:(fs:List Ty)→(d j off:Nat)→(l:List Field)→{x y:K7 fs}→{cs ds:List Value}→Q5 P fs off l=true→AH5 P fs l=true→AQm fs≤d→Xs A ρ w fs j x [] (cs.drop off)→Xs A ρ w fs j y [] (ds.drop off) →
    (Op.eqFields d cs.toArray ds.toArray l).run P w=.ok (ACo fs x y) w
  | [],_,_,_,[],_,_,_,_,_,_,_,_,_=>rfl
  | [],_,_,_,_ :: _,_,_,_,_,h,_,_,_,_=>by simp [Q5] at h
  | _ :: _,_,_,_,[],_,_,_,_,h,_,_,_,_=>by simp [Q5] at h
  | t :: r,d,j,off,f :: l,x,y,cs,ds,h,he,hd,h1,h2=>by
    simp only [Q5,Bool.and_eq_true] at h
    obtain ⟨⟨⟨⟨g1,g2⟩,g3⟩,g4⟩,g5⟩:=h
    have g1:=Nat.eq_of_beq_eq_true g1
    subst g1
    simp only [AH5,Bool.and_eq_true,decide_eq_true_eq] at he
    simp only [AQm] at hd
    simp only [Xs] at h1 h2
    have p1:=Pv (P:=P) (cs:=cs.toArray) (off:=f.offset) g4 g2 (by simpa [Jv,cut] using h1.1)
    have p2:=Pv (P:=P) (cs:=ds.toArray) (off:=f.offset) g4 g2 (by simpa [Jv,cut] using h2.1)
    have h3:=Rf (x:=x.1) (y:=y.1) t d f.type g4 he.1.2 (by omega) h1.1 h2.1
    have h4:=Ip r d (j+1) (f.offset+Zj t) l g5 he.2 (by omega) (by rw [← List.drop_drop]; exact h1.2) (by rw [← List.drop_drop]; exact h2.2)
    simp only [Op.eqFields]
    rw [if_pos he.1.1]
    simp only [Sem.run_bind,p1,p2,Result.andThen_ok]
    change ((Op.equalIn d f.type (mkV t (List.take (Zj t) (List.drop f.offset cs))) (mkV t (List.take (Zj t) (List.drop f.offset ds)))).run P w).andThen _=_
    rw [h3]
    simp only [Result.andThen_ok,ACo]
    generalize eqT t x.1 y.1=b
    cases b
    · rfl
    · rw [Bool.true_and]; exact h4
end
def AGm (P:Program) (o:Oper) (τ:Ty) (neg:Bool) (x y:Opd):Bool:=match o.op with
  | .binOp op t x' y' _=>(match neg with | true=>decide (op=.neq) | false=>decide (op=.eql)) && Xx P τ t && AEi P τ t && Nat.ble (eqD τ) 10000 && (Ua τ && !(P.eqGuardType P.depth t) || (match τ with | .bool=>true | .str=>true | _=>false)) && Xp x x' && Xp y y'
  | _=>false
theorem AM6 (st:St B w0 A ρ own w h) (hs:Xh A ρ w s a) {τ:Ty} {neg:Bool} {x y:Opd} (hc:AGm P o τ neg x y=true) {m n:den τ} (hx:evO s x=.dat τ m []) (hy:evO s y=.dat τ n []) :
    Zw P o a w B w0 A ρ (.dat .bool (match neg with | true => !(eqT τ m n) | false=>eqT τ m n) []) h:=by
  unfold AGm at hc
  split at hc
  case h_2=>cases hc
  rename_i op t x' y' t' ho
  simp only [Bool.and_eq_true,Bool.or_eq_true,Nat.ble_eq,Bool.not_eq_true'] at hc
  obtain ⟨⟨⟨⟨⟨⟨c1,c2⟩,c3⟩,c4⟩,c5⟩,c6⟩,c7⟩:=hc
  have k1:=X4 hs c6
  have k2:=X4 hs c7
  rw [hx] at k1
  rw [hy] at k2
  simp only [Zl] at k1 k2
  obtain ⟨cs,k1,v1⟩:=k1
  obtain ⟨ds,k2,v2⟩:=k2
  have he:=Rf τ 10000 t c2 c3 c4 k1 k2
  have hgood:∀ b,(execOp a.eval o).run P w=.ok (.value (.bool b)) w→b=(match neg with | true => !(eqT τ m n) | false=>eqT τ m n)→Zw P o a w B w0 A ρ (.dat .bool (match neg with | true => !(eqT τ m n) | false=>eqT τ m n) []) h:=fun b h1 h2=>by
    subst h2; exact Zw.pure st h1 Hq
  rcases c5 with ⟨hag,hgd⟩ | hb
  · have e1:mkV τ cs=.agg cs.toArray:=by simp [mkV,hag]
    have e2:mkV τ ds=.agg ds.toArray:=by simp [mkV,hag]
    rw [e1,e2] at he
    rw [e1] at v1
    rw [e2] at v2
    have hguard:=fun op=>run_eqGuard_agg (P:=P) w op t x' y' cs.toArray ds.toArray hgd
    cases neg with
    | true =>
      have hop:op=.neq:=by simpa using c1
      subst hop
      refine hgood _ ?_ rfl
      simp only [execOp,ho,v1,v2,Sem.run_bind,hguard,Result.andThen_ok,run_neq_struct,he,Sem.run_pure]
    | false =>
      have hop:op=.eql:=by simpa using c1
      subst hop
      refine hgood _ ?_ rfl
      simp only [execOp,ho,v1,v2,Sem.run_bind,hguard,Result.andThen_ok,run_eql_struct,he,Sem.run_pure]
  · cases τ with
    | bool =>
      simp only [Zm] at k1 k2
      subst k1; subst k2
      have v1:a.eval x'=.bool m:=v1
      have v2:a.eval y'=.bool n:=v2
      have he:(Op.equal t (.bool m) (.bool n)).run P w=.ok (eqT .bool m n) w:=he
      cases neg with
      | true =>
        have hop:op=.neq:=by simpa using c1
        subst hop
        refine hgood _ ?_ rfl
        simp only [execOp,ho,v1,v2,Sem.run_bind,Pu,Result.andThen_ok,binOp,he,Sem.run_pure]
      | false =>
        have hop:op=.eql:=by simpa using c1
        subst hop
        refine hgood _ ?_ rfl
        simp only [execOp,ho,v1,v2,Sem.run_bind,Pu,Result.andThen_ok,binOp,he,Sem.run_pure]
    | str =>
      simp only [Zm] at k1 k2
      subst k1; subst k2
      have v1:a.eval x'=.string m:=v1
      have v2:a.eval y'=.string n:=v2
      have he:(Op.equal t (.string m) (.string n)).run P w=.ok (eqT .str m n) w:=he
      cases neg with
      | true =>
        have hop:op=.neq:=by simpa using c1
        subst hop
        refine hgood _ ?_ rfl
        have e1:(m == n)=(ByteArray.toList m == ByteArray.toList n):=beq_toListBytes m n
        simp only [execOp,ho,v1,v2,Sem.run_bind,O5,Result.andThen_ok,binOp,Op.stringOp,Sem.run_pure,eqT,e1]
      | false =>
        have hop:op=.eql:=by simpa using c1
        subst hop
        refine hgood _ ?_ rfl
        have e1:(m == n)=(ByteArray.toList m == ByteArray.toList n):=beq_toListBytes m n
        simp only [execOp,ho,v1,v2,Sem.run_bind,O5,Result.andThen_ok,binOp,Op.stringOp,Sem.run_pure,eqT,e1]
    | _=>simp at hb
end
end Go.Proofs.YtjobjooccgledaaGreatDoor.Ghost
namespace Go.Proofs.YtjobjooccgledaaGreatDoor.Ghost
open Go
section
variable {P:Program} {o:Oper} {a:Act} {w:World} {B:Nat} {w0:Y6} {A:Nat→Prop} {ρ:Xf} {own:Nat→Option Nat} {h:Nat→Obj} {s:Nat→SV}
def AC3 (b:Nat):K1:=⟨b,0,0,0,true,fun _=>0,fun p=>p=[]⟩
def Wn:Ty→Bool
  | .int _=>true
  | .bool=>true
  | _=>false
def AFa:Ty→Bool
  | .st fs=>fs.all Wn
  | t=>Wn t
def Df (P:Program) (κ:Ty) (T:TypeId):Bool:=AFa κ && Xx P κ T && AEi P κ T && Nat.ble (eqD κ) 10000
def Oj (P:Program) (κ ν:Ty) (t:TypeId):Bool:=match P.underlying t with
  | some (.map key elem)=>Df P κ key && Xx P ν elem && Jr P elem (Zj ν) && L8 P ν elem
  | _=>false
def Cx (P:Program) (o:Oper) (κ ν:Ty):Bool:=match o.op with
  | .makeMap T none=>Oj P κ ν T
  | .makeMap T (some (.const (.int _ _)))=>Oj P κ ν T
  | _=>false
theorem Rg {κ ν:Ty} {t:TypeId} (hc:Oj P κ ν t=true):∃ key elem,P.underlying t=some (.map key elem)∧Df P κ key=true∧L8 P ν elem=true:=by
  unfold Oj at hc
  split at hc
  · rename_i key elem hu
    simp only [Bool.and_eq_true] at hc
    exact ⟨key,elem,hu,hc.1.1.1,hc.2⟩
  · cases hc
theorem AG2 (st:St B w0 A ρ own w h) {k:Nat} {κ ν:Ty} (hc:Cx P o κ ν=true) (hk:h k=.none):Zw P o a w B w0 A ρ (.ptr k []) (X7 h [(k,.map κ ν [])]):=by
  obtain ⟨st2,l2⟩:=st.alloc (k:=k) (sp:=AC3 w.heap.size) (ob:=.map #[] 0) (o':=.map κ ν []) hk rfl (fun hl=>⟨AC3 w.heap.size,#[],0,Gd,rfl,O0,fun _=>Iff.rfl,Array.getElem?_push_size,rfl,rfl,fun j e he=>by simp at he⟩) (by simp)
  have hv:Zl A (Gc ρ k (AC3 w.heap.size)) (w.alloc (.map #[] 0)) (.ptr k []) (.map (some w.heap.size)):=by
    simp only [Zl]
    exact ⟨_,Gd,rfl,rfl⟩
  unfold Cx at hc
  split at hc
  · rename_i T ho
    refine Zw.value ?_ st2 l2 hv
    simp only [execOp,ho,Option.map_none,Instr.makeMap,Sem.run_bind,Sem.run_pure,Result.andThen_ok]; rfl
  · rename_i T kd n ho
    obtain ⟨key,elem,hu,_⟩:=Rg hc
    refine Zw.value ?_ st2 l2 hv
    simp only [execOp,ho,Option.map_some,Instr.makeMap,Sem.run_bind,run_underlying hu w,Sem.run_pure,Result.andThen_ok,Act.eval,asInt,asIntOf]; rfl
  · cases hc
def Wm (A:Nat→Prop) (ρ:Xf) (w:World) (ν:Ty) (x:den ν) (v:Value):Prop:=∃ cs,Zm A ρ w ν x [] cs∧v=mkV ν cs
theorem Dg {t:Ty} (ht:Wn t=true) {ov:Ov} {x y:den t} {cs ds:List Value} (h1:Zm A ρ w t x ov cs) (h2:Zm A ρ w t y ov ds) (he:eqT t x y=true):cs=ds∧cs.all (fun v=>Instr.sameBits 0 v v)=true:=by
  cases t with
  | int k =>
    simp only [Zm] at h1 h2
    have:x=y:=by simpa [eqT] using he
    rw [h1,h2,this]
    exact ⟨rfl,by simp [Instr.sameBits]⟩
  | bool =>
    simp only [Zm] at h1 h2
    have:x=y:=by simpa [eqT] using he
    rw [h1,h2,this]
    exact ⟨rfl,by simp [Instr.sameBits]⟩
  | _=>simp [Wn] at ht
theorem I6:{fs:List Ty}→fs.all Wn=true→{j:Nat}→{x y:K7 fs}→{cs ds:List Value}→Xs A ρ w fs j x [] cs→Xs A ρ w fs j y [] ds→ACo fs x y=true→cs=ds∧cs.all (fun v=>Instr.sameBits 0 v v)=true
  | [],_,_,_,_,_,_,h1,h2,_=>by
    simp only [Xs] at h1 h2
    rw [h1,h2]; exact ⟨rfl,rfl⟩
  | t :: r,hf,j,x,y,cs,ds,h1,h2,he=>by
    simp only [List.all_cons,Bool.and_eq_true] at hf
    simp only [Xs,Jv] at h1 h2
    simp only [ACo,Bool.and_eq_true] at he
    obtain ⟨a1,a2⟩:=Dg hf.1 h1.1 h2.1 he.1
    obtain ⟨b1,b2⟩:=I6 hf.2 h1.2 h2.2 he.2
    have e1:=List.take_append_drop (Zj t) cs
    have e2:=List.take_append_drop (Zj t) ds
    refine ⟨by rw [← e1,← e2,a1,b1],?_⟩
    rw [← e1,List.all_append,a2,b2]
    rfl
theorem AF5 {v:Value} (h:Instr.sameBits 0 v v=true) (n:Nat):Instr.sameBits n v v=true:=by
  cases v <;> simp_all [Instr.sameBits]
theorem AI1 {f:Value→Value→Bool}:(l:List Value)→l.all (fun v=>f v v)=true→(l.zip l).all (fun x=>f x.1 x.2)=true
  | [],_=>rfl
  | v :: r,h=>by
    simp only [List.all_cons,Bool.and_eq_true] at h
    simp only [List.zip_cons_cons,List.all_cons,Bool.and_eq_true]
    exact ⟨h.1,AI1 r h.2⟩
theorem AFb {κ:Ty} (hk:AFa κ=true) {x y:den κ} {u v:Value} (h1:Wm A ρ w κ x u) (h2:Wm A ρ w κ y v) (he:eqT κ x y=true):u=v∧Instr.sameBits 10000 u u=true:=by
  obtain ⟨cs,g1,rfl⟩:=h1
  obtain ⟨ds,g2,rfl⟩:=h2
  have flat:Wn κ=true→mkV κ cs=mkV κ ds∧Instr.sameBits 10000 (mkV κ cs) (mkV κ cs)=true:=fun hf=>by
    obtain ⟨a1,a2⟩:=Dg hf g1 g2 he
    subst a1
    refine ⟨rfl,?_⟩
    cases κ with
    | int k=>simp only [Zm] at g1; subst g1; simp [mkV,Ua,Instr.sameBits]
    | bool=>simp only [Zm] at g1; subst g1; simp [mkV,Ua,Instr.sameBits]
    | _=>simp [Wn] at hf
  cases κ with
  | st fs =>
    simp only [AFa] at hk
    simp only [Zm] at g1 g2
    obtain ⟨a1,a2⟩:=I6 hk g1 g2 (by simpa only [eqT] using he)
    subst a1
    refine ⟨rfl,?_⟩
    simp only [mkV,Ua]
    rw [show (10000:Nat)=9999+1 from rfl,Instr.sameBits]
    simp only [beq_self_eq_true,Bool.true_and]
    refine AI1 (f:=fun x y=>Instr.sameBits 9999 x y) cs ?_
    rw [List.all_eq_true] at a2 ⊢
    exact fun v hv=>AF5 (a2 v hv) 9999
  | _=>exact flat hk
theorem R2 {t:Ty} {T:TypeId} (ht:Wn t=true) (hd:Xx P t T=true) {v:Value} {b:Bool} {n:Nat}:(Instr.checkKey b (n+1) T v).run P w=.ok () w:=by
  rw [Instr.checkKey]
  cases t with
  | int k =>
    simp only [Xx] at hd
    split at hd
    · rename_i hu; simp only [Sem.run_bind,run_underlying hu w,Result.andThen_ok]; rfl
    · cases hd
  | bool =>
    simp only [Xx] at hd
    split at hd
    · rename_i hu; simp only [Sem.run_bind,run_underlying hu w,Result.andThen_ok]; rfl
    · cases hd
  | _=>simp [Wn] at ht
theorem O4 {b:Bool} {n:Nat}:{fs:List Ty}→{off j:Nat}→{l:List Field}→{x:K7 fs}→{cs:List Value}→fs.all Wn=true→Q5 P fs off l=true→Xs A ρ w fs j x [] (cs.drop off) →
    ((forIn l PUnit.unit fun f (_:PUnit)=>do
      if f.name ≠ "_" then do
        Instr.checkKey b (n+1) f.type (← part f.type cs.toArray f.offset)
        pure (ForInStep.yield PUnit.unit)
      else pure (ForInStep.yield PUnit.unit)):Sem PUnit).run P w=.ok PUnit.unit w
  | [],_,_,[],_,_,_,_,_=>by simp only [List.forIn_nil,Sem.run_pure]
  | [],_,_,_ :: _,_,_,_,h,_=>by simp [Q5] at h
  | _ :: _,_,_,[],_,_,_,h,_=>by simp [Q5] at h
  | t :: r,off,j,f :: l,x,cs,hf,h,h1=>by
    simp only [Q5,Bool.and_eq_true] at h
    obtain ⟨⟨⟨⟨g1,g2⟩,g3⟩,g4⟩,g5⟩:=h
    have g1:=Nat.eq_of_beq_eq_true g1
    subst g1
    simp only [List.all_cons,Bool.and_eq_true] at hf
    simp only [Xs] at h1
    have p1:=Pv (P:=P) (cs:=cs.toArray) (off:=f.offset) g4 g2 (by simpa [Jv,cut] using h1.1)
    have h4:=O4 (b:=b) (n:=n) (l:=l) (x:=x.2) (cs:=cs) hf.2 g5 (by rw [← List.drop_drop]; exact h1.2)
    rw [List.forIn_cons]
    simp only [Sem.run_bind]
    by_cases hn : f.name ≠ "_"
    · simp only [if_pos hn,Sem.run_bind,p1,Result.andThen_ok,R2 hf.1 g4,Sem.run_pure]
      exact h4
    · simp only [if_neg hn,Sem.run_pure,Result.andThen_ok]
      exact h4
theorem Ga {κ:Ty} {T:TypeId} (hk:Df P κ T=true) {x:den κ} {v:Value} (hv:Wm A ρ w κ x v) (b:Bool):(Instr.checkKey b 10000 T v).run P w=.ok () w:=by
  unfold Df at hk
  simp only [Bool.and_eq_true] at hk
  obtain ⟨⟨⟨k1,k2⟩,k3⟩,k4⟩:=hk
  cases κ with
  | st fs =>
    obtain ⟨cs,g1,rfl⟩:=hv
    simp only [AFa] at k1
    simp only [Xx] at k2
    split at k2
    · rename_i l hu
      simp only [Zm] at g1
      simp only [mkV,Ua]
      rw [show (10000:Nat)=9998+1+1 from rfl,Instr.checkKey]
      simp only [Sem.run_bind,run_underlying hu w,Result.andThen_ok]
      rw [← Array.forIn_toList]
      have:=O4 (P:=P) (b:=b) (n:=9998) (l:=l.toList) (cs:=cs) k1 k2 (by simpa using g1)
      rw [this]; rfl
    · cases k2
  | int k=>exact R2 (t:=.int k) rfl k2
  | bool=>exact R2 (t:=.bool) rfl k2
  | _=>simp [AFa,Wn] at k1
def V6 (κ ν:Ty) (i:den κ):List (den κ×den ν)→Option Nat
  | []=>none
  | (k,_) :: r=>if eqT κ i k then some 0 else (V6 κ ν i r).map (· + 1)
theorem Bc {κ ν:Ty} {d:TypeDesc} {kv:Value} {n:den κ} (hs:∀ m v,Wm A ρ w κ m v→Instr.sameNow d kv v=some (eqT κ n m)) :
    (l:List (den κ×den ν))→(es:List MapEntry)→Xv A ρ w κ ν l es→(i0:Nat)→Instr.findNow d kv es i0=some ((V6 κ ν n l).bind fun j=>(es[j]?).map fun e=>(i0+j,e.val))
  | [],es,h,i0=>by
    simp only [Xv] at h
    subst h
    rfl
  | (m,y0) :: r,es,h,i0=>by
    simp only [Xv] at h
    obtain ⟨e,es',rfl,g1,_,g4⟩:=h
    have hsame:=hs m e.key g1
    have ih:=Bc hs r es' g4 (i0+1)
    simp only [Instr.findNow,hsame,V6]
    cases hb:eqT κ n m with
    | true=>simp
    | false =>
      simp only [Bool.false_eq_true,if_false,ih]
      cases V6 κ ν n r with
      | none=>rfl
      | some j=>simp only [Option.bind_some,Option.map_some,List.getElem?_cons_succ]; rw [show i0+1+j=i0+(j+1) by omega]
theorem Db {κ ν:Ty} {T:TypeId} {kv:Value} {n:den κ} (hs:∀ m v,Wm A ρ w κ m v→(Op.equal T kv v).run P w=.ok (eqT κ n m) w) :
    (l:List (den κ×den ν))→(es:List MapEntry)→Xv A ρ w κ ν l es→(i0:Nat)→(Instr.findAsking T kv es i0).run P w=.ok ((V6 κ ν n l).bind fun j=>(es[j]?).map fun e=>(i0+j,e.val)) w
  | [],es,h,i0=>by
    simp only [Xv] at h
    subst h
    rfl
  | (m,y0) :: r,es,h,i0=>by
    simp only [Xv] at h
    obtain ⟨e,es',rfl,g1,_,g4⟩:=h
    have hsame:=hs m e.key g1
    have ih:=Db hs r es' g4 (i0+1)
    simp only [Instr.findAsking,Sem.run_bind,hsame,Result.andThen_ok,V6]
    cases hb:eqT κ n m with
    | true=>simp
    | false =>
      simp only [Bool.false_eq_true,if_false,ih]
      cases V6 κ ν n r with
      | none=>rfl
      | some j=>simp only [Option.bind_some,Option.map_some,List.getElem?_cons_succ]; rw [show i0+1+j=i0+(j+1) by omega]
theorem N9 {κ ν:Ty} {T:TypeId} (hk:Df P κ T=true) {n:den κ} {kv:Value} (hv:Wm A ρ w κ n kv) (l:List (den κ×den ν)) (es:List MapEntry) (h:Xv A ρ w κ ν l es) :
    (Instr.findKey T kv es).run P w=.ok ((V6 κ ν n l).bind fun j=>(es[j]?).map fun e=>(j,e.val)) w:=by
  unfold Df at hk
  simp only [Bool.and_eq_true,Nat.ble_eq] at hk
  obtain ⟨⟨⟨k1,k2⟩,k3⟩,k4⟩:=hk
  have zero:((V6 κ ν n l).bind fun j=>(es[j]?).map fun e=>(0+j,e.val))=((V6 κ ν n l).bind fun j=>(es[j]?).map fun e=>(j,e.val)):=by simp only [Nat.zero_add]
  unfold Instr.findKey
  cases κ with
  | int k =>
    simp only [Xx] at k2
    split at k2
    · rename_i k' hu
      have:=Bc (d:=.int k') (kv:=kv) (n:=n) (fun m v hm=>by
        obtain ⟨cs,c1,rfl⟩:=hm
        obtain ⟨ds,c2,rfl⟩:=hv
        simp only [Zm] at c1 c2
        subst c1; subst c2
        simp [mkV,Ua,Instr.sameNow,eqT]) l es h 0
      rw [zero] at this
      simp only [Sem.run_bind,run_underlying hu w,Result.andThen_ok,this]; rfl
    · cases k2
  | bool =>
    simp only [Xx] at k2
    split at k2
    · rename_i hu
      have:=Bc (d:=.bool) (kv:=kv) (n:=n) (fun m v hm=>by
        obtain ⟨cs,c1,rfl⟩:=hm
        obtain ⟨ds,c2,rfl⟩:=hv
        simp only [Zm] at c1 c2
        subst c1; subst c2
        simp [mkV,Ua,Instr.sameNow,eqT]) l es h 0
      rw [zero] at this
      simp only [Sem.run_bind,run_underlying hu w,Result.andThen_ok,this]; rfl
    · cases k2
  | st fs =>
    have ask:=Db (P:=P) (T:=T) (kv:=kv) (n:=n) (fun m v hm=>by
      obtain ⟨cs,c1,rfl⟩:=hm
      obtain ⟨ds,c2,rfl⟩:=hv
      exact Rf (.st fs) 10000 T k2 k3 k4 c2 c1) l es h 0
    rw [zero] at ask
    simp only [Xx] at k2
    split at k2
    · rename_i fl hu
      cases es with
      | nil =>
        have:V6 (.st fs) ν n l=none:=by
          cases l with
          | nil=>rfl
          | cons e r=>simp [Xv] at h
        rw [this]
        simp only [Sem.run_bind,run_underlying hu w,Result.andThen_ok,Instr.findNow]; rfl
      | cons e r =>
        simp only [Sem.run_bind,run_underlying hu w,Result.andThen_ok,Instr.findNow,Instr.sameNow]
        exact ask
    · cases k2
  | _=>simp [AFa,Wn] at k1
theorem Rh {κ ν:Ty} {n:den κ}:{l:List (den κ×den ν)}→V6 κ ν n l=none→Yo κ ν n l=none∧(∀ x,Gu κ ν n x l=l ++ [(n,x)])∧Di κ ν n l=l.length
  | [],_=>⟨rfl,fun _=>rfl,rfl⟩
  | (m,y) :: r,h=>by
    simp only [V6] at h
    split at h
    · cases h
    · rename_i hb
      obtain ⟨i1,i2,i3⟩:=Rh (l:=r) (by simpa using h)
      simp only [Yo,Gu,Di,hb,if_false,Bool.false_eq_true]
      exact ⟨i1,fun x=>by rw [i2 x]; rfl,by rw [i3]; rfl⟩
theorem Ri {κ ν:Ty} {n:den κ}:{l:List (den κ×den ν)}→{j:Nat}→V6 κ ν n l=some j→∃ m y,l[j]?=some (m,y)∧eqT κ n m=true∧Yo κ ν n l=some y∧Di κ ν n l=j
  | [],_,h=>by simp [V6] at h
  | (m,y) :: r,j,h=>by
    simp only [V6] at h
    split at h
    · rename_i hb
      cases h
      exact ⟨m,y,rfl,hb,by simp only [Yo,hb,if_true],by simp only [Di,hb,if_true]⟩
    · rename_i hb
      simp only [Option.map_eq_some_iff] at h
      obtain ⟨i,hi,rfl⟩:=h
      obtain ⟨m',y',h1,h2,h3,h4⟩:=Ri (l:=r) hi
      exact ⟨m',y',by simpa using h1,h2,by simp only [Yo,hb,if_false,Bool.false_eq_true,h3],by simp only [Di,hb,if_false,Bool.false_eq_true,h4]⟩
theorem Ba {κ ν:Ty}:{l:List (den κ×den ν)}→{es:List MapEntry}→Xv A ρ w κ ν l es→es.length=l.length
  | [],_,h=>by simp only [Xv] at h; rw [h]; rfl
  | (m,y) :: r,es,h=>by
    simp only [Xv] at h
    obtain ⟨e,es',rfl,_,_,g4⟩:=h
    simp only [List.length_cons,Ba g4]
theorem F5 {κ ν:Ty} {n:den κ} {x:den ν} {e:MapEntry} (h1:Wm A ρ w κ n e.key) (h2:Wm A ρ w ν x e.val):{l:List (den κ×den ν)}→{es:List MapEntry}→Xv A ρ w κ ν l es→Xv A ρ w κ ν (l ++ [(n,x)]) (es ++ [e])
  | [],_,h=>by
    simp only [Xv] at h
    subst h
    simp only [List.nil_append,Xv]
    exact ⟨_,[],rfl,h1,h2,rfl⟩
  | (m,y) :: r,es,h=>by
    simp only [Xv] at h
    obtain ⟨e',es',rfl,g1,g2,g4⟩:=h
    simp only [List.cons_append,Xv]
    exact ⟨_,_,rfl,g1,g2,F5 h1 h2 g4⟩
theorem D8 {κ ν:Ty}:{l:List (den κ×den ν)}→{es:List MapEntry}→Xv A ρ w κ ν l es→{j:Nat}→{m:den κ}→{y:den ν}→l[j]?=some (m,y)→∃ e,es[j]?=some e∧Wm A ρ w κ m e.key∧Wm A ρ w ν y e.val
  | [],_,_,_,_,_,h=>by simp at h
  | (m0,y0) :: r,es,h,j,m,y,hj=>by
    simp only [Xv] at h
    obtain ⟨e',es',rfl,g1,g2,g4⟩:=h
    cases j with
    | zero =>
      simp only [List.getElem?_cons_zero,Option.some.injEq,Prod.mk.injEq] at hj
      obtain ⟨rfl,rfl⟩:=hj
      exact ⟨e',rfl,g1,g2⟩
    | succ j=>simpa using D8 g4 (j:=j) (by simpa using hj)
theorem AEg {κ ν:Ty} {x:den ν} {v:Value} (hv:Wm A ρ w ν x v):{l:List (den κ×den ν)}→{es:List MapEntry}→Xv A ρ w κ ν l es→(j:Nat)→Xv A ρ w κ ν (N1 κ ν j x l) (es.modify j fun e=>{ e with val:=v })
  | [],_,h,j=>by
    simp only [Xv] at h
    subst h
    cases j <;> simp [N1,Xv]
  | (m0,y0) :: r,es,h,j=>by
    simp only [Xv] at h
    obtain ⟨e',es',rfl,g1,g2,g4⟩:=h
    cases j with
    | zero =>
      simp only [N1,List.modify_zero_cons,Xv]
      exact ⟨_,_,rfl,g1,hv,g4⟩
    | succ j =>
      simp only [N1,List.modify_succ_cons,Xv]
      exact ⟨_,_,rfl,g1,g2,AEg hv g4 j⟩
theorem AEf {κ ν:Ty} {n:den κ} {kv:Value} {x:den ν} {v:Value} (hk:Wm A ρ w κ n kv) (hv:Wm A ρ w ν x v):{l:List (den κ×den ν)}→{es:List MapEntry}→Xv A ρ w κ ν l es→{j:Nat}→V6 κ ν n l=some j→Xv A ρ w κ ν (Gu κ ν n x l) (es.modify j fun e=>{ e with key:=kv,val:=v })
  | [],_,_,_,hj=>by simp [V6] at hj
  | (m0,y0) :: r,es,h,j,hj=>by
    simp only [Xv] at h
    obtain ⟨e',es',rfl,g1,g2,g4⟩:=h
    simp only [V6] at hj
    split at hj
    · rename_i hb
      cases hj
      simp only [Gu,hb,if_true,List.modify_zero_cons,Xv]
      exact ⟨_,_,rfl,hk,hv,g4⟩
    · rename_i hb
      simp only [Option.map_eq_some_iff] at hj
      obtain ⟨i,hi,rfl⟩:=hj
      simp only [Gu,hb,if_false,Bool.false_eq_true,List.modify_succ_cons,Xv]
      exact ⟨_,_,rfl,g1,g2,AEf hk hv g4 hi⟩
theorem AB0.push {es:List MapEntry} {c:Nat} (h:AB0 es c) {e:MapEntry} (he:e.born=c):AB0 (es ++ [e]) (c+1):=by
  obtain ⟨h1,h2⟩:=h
  refine ⟨by rw [List.length_append,h1]; rfl,fun j e' hj => ?_⟩
  by_cases hl:j<es.length
  · rw [List.getElem?_append_left hl] at hj; exact h2 j e' hj
  · rw [List.getElem?_append_right (by omega)] at hj
    have:j - es.length=0:=by
      by_cases h0:j - es.length=0
      · exact h0
      · rw [List.getElem?_eq_none (by simp; omega)] at hj; cases hj
    rw [this] at hj
    simp only [List.getElem?_cons_zero,Option.some.injEq] at hj
    rw [← hj,he,h1]; omega
theorem AB0.modify {es:List MapEntry} {c:Nat} (h:AB0 es c) (i:Nat) {f:MapEntry→MapEntry} (hf:∀ e,(f e).born=e.born):AB0 (es.modify i f) c:=by
  obtain ⟨h1,h2⟩:=h
  refine ⟨by rw [List.length_modify]; exact h1,fun j e' hj => ?_⟩
  rw [List.getElem?_modify] at hj
  cases hx:es[j]? with
  | none=>rw [hx] at hj; cases hj
  | some e =>
    rw [hx] at hj
    simp only [Option.map_eq_map,Option.map_some,Option.some.injEq] at hj
    rw [← hj]
    split
    · rw [hf]; exact h2 j e hx
    · exact h2 j e hx
theorem AI6 {es:List MapEntry} {c:Nat} (h:AB0 es c) {n:Int} (h0:0≤n) (hn:n<(es.length:Int)):es.findIdx? (fun e=>(e.born:Int) == n)=some n.toNat:=by
  rw [List.findIdx?_eq_some_iff_getElem]
  refine ⟨by omega,?_,fun j hj => ?_⟩
  · have:=h.2 n.toNat _ (List.getElem?_eq_getElem (by omega))
    rw [this,beq_iff_eq]; omega
  · have hlt:j<es.length:=by omega
    have:=h.2 j _ (List.getElem?_eq_getElem hlt)
    rw [this]
    simp only [Bool.not_eq_true,beq_eq_false_iff_ne,ne_eq]
    omega
theorem Ff {g:Nat} {v:Value} {sp:K1} (hv:Zl A ρ w (.ptr g []) v) (hr:ρ g=some sp) (hm:sp.mp=true):v=.map (some sp.b):=by
  simp only [Zl] at hv
  obtain ⟨s',h1,h2,h3⟩:=hv
  rw [hr] at h1
  cases h1
  rw [hm] at h3
  exact h3
def Fv (P:Program) (o:Oper) (κ ν:Ty) (m i:Opd):Bool:=match o.op with
  | .lookup T m' i' false=>Oj P κ ν T && Xp m m' && Xp i i'
  | _=>false
theorem AEw (st:St B w0 A ρ own w h) (hs:Xh A ρ w s a) {κ ν:Ty} {m i:Opd} (hc:Fv P o κ ν m i=true) {g:Nat} (hm:evO s m=.ptr g []) {n:den κ} (hi:evO s i=.dat κ n []) {l:List (den κ×den ν)} (hg:h g=.map κ ν l) :
    Zw P o a w B w0 A ρ (.dat ν ((Yo κ ν n l).getD (dft ν)) []) h:=by
  unfold Fv at hc
  split at hc
  case h_2=>cases hc
  rename_i T m' i' ho
  simp only [Bool.and_eq_true] at hc
  obtain ⟨⟨c1,c2⟩,c3⟩:=hc
  obtain ⟨key,elem,u1,u2,u3⟩:=Rg c1
  have k1:=X4 hs c2
  have k2:=X4 hs c3
  rw [hm] at k1
  rw [hi] at k2
  have k2:Wm A ρ w κ n (a.eval i'):=by simpa only [Zl,Wm] using k2
  have ob:=st.objs g
  rw [hg] at ob
  obtain ⟨sp,es,c,n1,n2,n3,n4,n5,n6,n7⟩:=ob
  have v1:=Ff k1 n1 n2
  have f1:=N9 u2 k2 l es.toList n6
  have hobj:(getObj sp.b).run P w=.ok (.map es c) w:=by simp only [getObj,Sem.run,n5]
  have hz:=Wl u3 w
  cases hf:V6 κ ν n l with
  | none =>
    obtain ⟨q1,_,_⟩:=Rh hf
    rw [hf] at f1
    rw [q1]
    refine Zw.pure st (v':=mkV ν (zeroCells ν)) ?_ (by simp only [Zl]; exact ⟨_,Zm.zero A ρ w ν,rfl⟩)
    simp only [execOp,ho,v1,Instr.lookup,Sem.run_bind,run_underlying u1 w,Result.andThen_ok,hobj,Sem.run_pure,Ga u2 k2,f1,Option.bind_none,hz]
    rfl
  | some j =>
    obtain ⟨m0,y,q1,q2,q3,q4⟩:=Ri hf
    obtain ⟨e,e1,e2,⟨cs,e3,e4⟩⟩:=D8 n6 q1
    rw [hf,Option.bind_some,e1] at f1
    rw [q3]
    refine Zw.pure st (v':=e.val) ?_ (by simp only [Zl]; exact ⟨cs,e3,e4⟩)
    simp only [execOp,ho,v1,Instr.lookup,Sem.run_bind,run_underlying u1 w,Result.andThen_ok,hobj,Sem.run_pure,Ga u2 k2,f1,Option.map_some]
    rfl
theorem Nt {k:IntKind} {n:Int}:(es:List MapEntry)→(ks:List Int)→es.map (·.key)=ks.map (Value.int k)→(i0:Nat) →
    (∃ j e,ks[j]?=some n∧es[j]?=some e∧(∀ i,i<j→ks[i]?≠some n)∧Instr.findNow (.int k) (.int k n) es i0=some (some (i0+j,e.val)))∨(n ∉ ks∧Instr.findNow (.int k) (.int k n) es i0=some none)
  | [],[],_,i0=>.inr ⟨by simp,rfl⟩
  | [],_ :: _,h,_=>by simp at h
  | _ :: _,[],h,_=>by simp at h
  | e :: es,m :: ks,h,i0=>by
    simp only [List.map_cons,List.cons.injEq] at h
    have hs:Instr.sameNow (.int k) (.int k n) e.key=some (decide (n=m)):=by
      rw [h.1]
      by_cases hnm:n=m <;> simp [Instr.sameNow,hnm]
    simp only [Instr.findNow,hs]
    by_cases hn:n=m
    · left
      subst hn
      exact ⟨0,e,rfl,rfl,fun i hi=>absurd hi (Nat.not_lt_zero i),by simp⟩
    · rw [decide_eq_false hn]
      simp only [Bool.false_eq_true,if_false]
      rcases Nt es ks h.2 (i0+1) with ⟨j,e',h1,h2,h3,h4⟩ | ⟨h1,h2⟩
      · left
        refine ⟨j+1,e',h1,h2,fun i hi => ?_,by rw [h4]; congr 3; omega⟩
        cases i with
        | zero=>simp; exact fun e=>hn e.symm
        | succ i=>simpa using h3 i (by omega)
      · right
        exact ⟨by simp [hn,h1],h2⟩
def ACy (P:Program) (t:TypeId):Bool:=match P.underlying t with
  | some (.map key elem)=>(match P.underlying key with | some (.int .i64)=>true | _=>false) && (match P.info? elem with | some i=>(match i.zero with | some .nilFunc=>true | _=>false) | none=>false)
  | _=>false
def Cu (P:Program) (o:Oper) (m i:Opd) (ok:Bool):Bool:=match o.op with
  | .lookup T m' i' ok'=>(ok == ok') && ACy P T && Xp m m' && Xp i i'
  | _=>false
theorem AFy:{us:List SV}→{vs:List Value}→Zs A ρ w us vs→{j:Nat}→{v:Value}→vs[j]?=some v→∃ u,us[j]?=some u∧Zl A ρ w u v
  | [],vs,h,j,v,hv=>by simp only [Zs] at h; subst h; simp at hv
  | u :: r,vs,h,j,v,hv=>by
    simp only [Zs] at h
    obtain ⟨v0,vs',rfl,h1,h2⟩:=h
    cases j with
    | zero=>simp only [List.getElem?_cons_zero,Option.some.injEq] at hv; subst hv; exact ⟨u,rfl,h1⟩
    | succ j=>exact AFy h2 (by simpa using hv)
theorem AFg {R:Type} {n:Int} {K:SV→Bool→Option R}:{ks:List Int}→{us:List SV}→{j:Nat}→{u:SV}→ks[j]?=some n→us[j]?=some u→(∀ i,i<j→ks[i]?≠some n)→Wv n ks us K=K u true
  | [],_,_,_,h,_,_=>by simp at h
  | _ :: _,[],_,_,_,h,_=>by simp at h
  | k :: ks,u0 :: us,j,u,h1,h2,h3=>by
    cases j with
    | zero =>
      simp only [List.getElem?_cons_zero,Option.some.injEq] at h1 h2
      subst h1; subst h2
      simp [Wv]
    | succ j =>
      have:=h3 0 (by omega)
      simp only [List.getElem?_cons_zero,ne_eq,Option.some.injEq] at this
      simp only [Wv]
      rw [decide_eq_false (fun e=>this e.symm),cond_false]
      exact AFg (by simpa using h1) (by simpa using h2) (fun i hi=>by have:=h3 (i+1) (by omega); simpa using this)
theorem ABb {R:Type} {n:Int} {K:SV→Bool→Option R}:{ks:List Int}→{us:List SV}→n ∉ ks→Wv n ks us K=K .nilfn false
  | [],_,_=>by unfold Wv; rfl
  | _ :: _,[],_=>by unfold Wv; rfl
  | k :: ks,u0 :: us,h=>by
    simp only [List.mem_cons,not_or] at h
    simp only [Wv]
    rw [decide_eq_false h.1,cond_false]
    exact ABb h.2
def ANl (e:MapEntry):Int:=match e.key with
  | .int _ n=>n
  | _=>0
theorem AG0 (st:St B w0 A ρ own w h) (hs:Xh A ρ w s a) {m i:Opd} {ok:Bool} (hc:Cu P o m i ok=true) {ks:List Int} {us:List SV} (hm:evO s m=.fmap ks us) {n:Int} (hi:evO s i=.dat (.int .i64) n []) {R:Type} {K:SV→Eff→Option R} {r:R}
    (hg:Wv n ks us (fun v b=>K (ABa ok v b) [])=some r):∃ v e,K v e=some r∧Zw P o a w B w0 A ρ v (X7 h e):=by
  unfold Cu at hc
  split at hc
  case h_2=>cases hc
  rename_i T m' i' ok' ho
  simp only [Bool.and_eq_true,beq_iff_eq] at hc
  obtain ⟨⟨⟨rfl,c1⟩,c2⟩,c3⟩:=hc
  have k1:=X4 hs c2
  have k2:=X4 hs c3
  rw [hm] at k1
  rw [hi] at k2
  simp only [Zl] at k1
  obtain ⟨b,es,c,v1,g2,g3,gn,l,gp,g4,g5⟩:=k1
  have gk:∀ (j:Nat) (e:MapEntry),l[j]?=some e→∃ n:Int,ks[j]?=some n∧e.key=.int .i64 n:=fun j e he=>by
    have h1:(l.map (·.key))[j]?=some e.key:=by rw [List.getElem?_map,he]; rfl
    rw [g4,List.getElem?_map] at h1
    cases hk:ks[j]? with
    | none=>rw [hk] at h1; cases h1
    | some n=>rw [hk] at h1; exact ⟨n,rfl,(Option.some.inj h1).symm⟩
  have ge:es.toList.map (·.key)=(es.toList.map ANl).map (Value.int .i64):=by
    rw [List.map_map]
    refine List.map_congr_left (fun e he => ?_)
    obtain ⟨j,hj⟩:=List.getElem?_of_mem (gp.mem_iff.2 he)
    obtain ⟨n,_,h2⟩:=gk j e hj
    simp only [Function.comp_apply,ANl,h2]
  have v2:a.eval i'=.int .i64 n:=by
    simp only [Zl,Zm] at k2
    obtain ⟨cs,rfl,h2⟩:=k2
    exact h2
  unfold ACy at c1
  split at c1
  case h_2=>cases c1
  rename_i key elem u1
  simp only [Bool.and_eq_true] at c1
  obtain ⟨c1,c4⟩:=c1
  split at c1
  case h_2=>cases c1
  rename_i u2
  split at c4
  case h_2=>cases c4
  rename_i inf u3
  split at c4
  case h_2=>cases c4
  rename_i u4
  have hobj:(getObj b).run P w=.ok (.map es c) w:=by simp only [getObj,Sem.run,g3]
  have hck:(Instr.checkKey es.isEmpty 10000 key (.int .i64 n)).run P w=.ok () w:=by
    rw [show (10000:Nat)=9999+1 from rfl,Instr.checkKey]
    simp only [Sem.run_bind,run_underlying u2 w,Result.andThen_ok]; rfl
  have hz:(zeroValue elem).run P w=.ok .nilFunc w:=by simp only [zeroValue,Sem.run_bind,Gl u3,Result.andThen_ok,u4]; rfl
  have hB:∀ (t:Bool) (v:Value) (u:SV),Zl A ρ w u v→(∀ ok,(Instr.lookup T (.map (some b)) (.int .i64 n) ok).run P w=.ok (if ok then .tuple #[v,.bool t] else v) w)→Zw P o a w B w0 A ρ (ABa ok u t) h:=fun t v u hu hrun=>by
    refine Zw.pure st (v':=if ok then .tuple #[v,.bool t] else v) ?_ ?_
    · simp only [execOp,ho,v1,v2,Sem.run_bind,hrun ok]; rfl
    · cases ok with
      | false=>exact hu
      | true =>
        simp only [ABa,Zl,Zs]
        exact ⟨[v,.bool t],rfl,v,[.bool t],rfl,hu,.bool t,[],rfl,⟨[.bool t],by simp only [Zm],rfl⟩,rfl⟩
  rcases Nt (k:=.i64) (n:=n) es.toList (es.toList.map ANl) ge 0 with ⟨j,e,f1,f2,f3,f4⟩ | ⟨f1,f2⟩
  · obtain ⟨j2,hj2⟩:=List.getElem?_of_mem (gp.mem_iff.2 (List.mem_of_getElem? f2))
    obtain ⟨u,q1,q2⟩:=AFy g5 (j:=j2) (v:=e.val) (by rw [List.getElem?_map,hj2]; rfl)
    obtain ⟨n',p1,p2⟩:=gk j2 e hj2
    have hn':n'=n:=by
      rw [List.getElem?_map,f2,Option.map_some,Option.some.injEq] at f1
      unfold ANl at f1
      rw [p2] at f1
      exact f1
    rw [hn'] at p1
    rw [AFg p1 q1 (fun i hi hh=>by
      obtain ⟨a1,a2⟩:=List.getElem?_eq_some_iff.1 hh
      obtain ⟨b1,b2⟩:=List.getElem?_eq_some_iff.1 p1
      exact (List.pairwise_iff_getElem.1 gn) i j2 a1 b1 hi (a2.trans b2.symm))] at hg
    refine ⟨_,_,hg,hB true e.val u q2 (fun ok => ?_)⟩
    simp only [Instr.lookup,Sem.run_bind,run_underlying u1 w,Result.andThen_ok,hobj,Sem.run_pure,hck,Instr.findKey,run_underlying u2 w,f4]
  · rw [ABb (fun hk=>f1 (by
      obtain ⟨j,hj⟩:=List.getElem?_of_mem hk
      have h1:(l.map (·.key))[j]?=some (.int .i64 n):=by rw [g4,List.getElem?_map,hj]; rfl
      rw [List.getElem?_map] at h1
      cases he:l[j]? with
      | none=>rw [he] at h1; cases h1
      | some e =>
        rw [he,Option.map_some,Option.some.injEq] at h1
        refine List.mem_map.2 ⟨e,gp.mem_iff.1 (List.mem_of_getElem? he),?_⟩
        unfold ANl
        rw [h1]))] at hg
    refine ⟨_,_,hg,hB false .nilFunc .nilfn (by simp only [Zl]) (fun ok => ?_)⟩
    simp only [Instr.lookup,Sem.run_bind,run_underlying u1 w,Result.andThen_ok,hobj,Sem.run_pure,hck,Instr.findKey,run_underlying u2 w,f2,hz]
def ACi:Option Opd→Option Operand→Bool
  | none,none=>true
  | some x,some y=>Xp x y
  | _,_=>false
def Lt (P:Program) (o:Oper) (e:Ty) (x:Opd) (lo hi:Option Opd):Bool:=match o.op with
  | .slice T y l' h' none=>Xx P (.sl e) T && Xp x y && ACi lo l' && ACi hi h'
  | _=>false
theorem ALh (hs:Xh A ρ w s a) {x:Option Opd} {y:Option Operand} (hc:ACi x y=true) {d n:Int} (hb:O9 s x d=some n):(y=none∧n=d)∨∃ y',y=some y'∧a.eval y'=.int .i64 n:=by
  cases x with
  | none =>
    cases y with
    | none=>left; simp only [O9,Option.some.injEq] at hb; exact ⟨rfl,hb.symm⟩
    | some y=>cases hc
  | some x =>
    cases y with
    | none=>cases hc
    | some y =>
      right
      have k:=X4 hs hc
      simp only [O9] at hb
      split at hb
      · rename_i m ov hx
        simp only [Option.some.injEq] at hb
        subst hb
        rw [hx] at k
        simp only [Zl,Zm] at k
        obtain ⟨cs,rfl,h2⟩:=k
        exact ⟨y,rfl,h2⟩
      · cases hb
theorem Lc (st:St B w0 A ρ own w h) (hs:Xh A ρ w s a) {e:Ty} {x:Opd} {lo hi:Option Opd} (hc:Lt P o e x lo hi=true) {ad:Option Addr} {n c:Nat} (hx:∀ T y l' h',o.op=.slice T y l' h' none→a.eval y=.slice ad n c) (hnc:n≤c)
    {l:List (den e)} (hl:n=List.length l) (hd:0<n→∃ b o ds,ad=some ⟨b,o,none⟩∧A b∧w.rangeAt b o ds∧ds.length=n * Zj e∧∀ i,i<n→Zm A ρ w e (List.getD l i (dft e)) [] ((ds.drop (i * Zj e)).take (Zj e)))
    {m k:Int} (hm:O9 s lo 0=some m) (hk:O9 s hi ((List.length l:Nat):Int)=some k) (h0:0≤m∧m≤k∧k≤((List.length l:Nat):Int)) :
    Zw P o a w B w0 A ρ (.dat (.sl e) ((l.take k.toNat).drop m.toNat) []) h:=by
  unfold Lt at hc
  split at hc
  case h_2=>cases hc
  rename_i T y l' h' ho
  simp only [Bool.and_eq_true] at hc
  obtain ⟨⟨⟨c1,c2⟩,c3⟩,c4⟩:=hc
  obtain ⟨e',u1,u2,u3,u4⟩:=F1 c1
  have hv:=hx T y l' h' ho
  obtain ⟨m0,rfl⟩:∃ m0:Nat,m=(m0:Int):=⟨m.toNat,by omega⟩
  obtain ⟨k0,rfl⟩:∃ k0:Nat,k=(k0:Int):=⟨k.toNat,by omega⟩
  simp only [Int.toNat_natCast]
  have b1:(Instr.sliceBounds true n c (l'.map a.eval) (h'.map a.eval) none).run P w=.ok (m0,k0,c) w:=by
    have e1:=ALh hs c3 hm
    have e2:=ALh hs c4 hk
    unfold Instr.sliceBounds
    have p1:(0:Int)≤(k0:Int)∧(k0:Int)≤(c:Int):=by omega
    have p2:(0:Int)≤(m0:Int)∧(m0:Int)≤(k0:Int):=by omega
    rcases e1 with ⟨rfl,e1⟩ | ⟨y1,rfl,e1⟩ <;> rcases e2 with ⟨rfl,e2⟩ | ⟨y2,rfl,e2⟩
    · have q1:m0=0:=by omega
      have q2:k0=n:=by omega
      subst q1; subst q2
      simp only [Option.map_none,Sem.run_bind,Sem.run_pure,Result.andThen_ok]
    · have q1:m0=0:=by omega
      subst q1
      simp only [Option.map_none,Option.map_some,Sem.run_bind,Sem.run_pure,Result.andThen_ok,e2,Instr.sliceBound,asIntOf,if_pos p1,Int.toNat_natCast]
    · have q2:k0=n:=by omega
      subst q2
      simp only [Option.map_none,Option.map_some,Sem.run_bind,Sem.run_pure,Result.andThen_ok,e1,Instr.sliceBound,asIntOf,if_pos p2,Int.toNat_natCast]
    · simp only [Option.map_none,Option.map_some,Sem.run_bind,Sem.run_pure,Result.andThen_ok,e1,e2,Instr.sliceBound,asIntOf,if_pos p1,if_pos p2,Int.toNat_natCast]
  refine Zw.pure st (v':=.slice (if c=m0 then ad else ad.map (·.add (m0 * Zj e))) (k0 - m0) (c - m0)) ?_ ?_
  · simp only [execOp,ho,hv,Option.map_none,Instr.sliceAt,Sem.run_bind,run_underlying u1 w,Result.andThen_ok,Instr.slice,b1,J7 u3,Sem.run_pure]
  · simp only [Zl,Zm]
    refine ⟨_,⟨_,k0 - m0,c - m0,rfl,by simp,fun _=>⟨by rw [List.length_drop,List.length_take]; omega,by omega,fun hp => ?_⟩⟩,rfl⟩
    obtain ⟨b,of,ds,rfl,q2,q3,q4,q5⟩:=hd (by omega)
    rw [if_neg (by omega)]
    refine ⟨b,of+m0 * Zj e,(ds.drop (m0 * Zj e)).take ((k0 - m0) * Zj e),by simp [Addr.add_mid],q2,fun j v hj => ?_,?_,fun i hi => ?_⟩
    · have hj2:j<(k0 - m0) * Zj e:=by
        have:=(List.getElem?_eq_some_iff.1 hj).1
        rw [List.length_take] at this
        omega
      rw [List.getElem?_take_of_lt hj2,List.getElem?_drop] at hj
      have:=q3 _ _ hj
      rw [← Nat.add_assoc] at this
      exact this
    · rw [List.length_take,List.length_drop,q4,← Nat.sub_mul]
      exact Nat.min_eq_left (Nat.mul_le_mul_right _ (by omega))
    · have h1:=q5 (m0+i) (by omega)
      have e1:List.getD ((l.take k0).drop m0) i (dft e)=List.getD l (m0+i) (dft e):=by
        rw [List.getD_eq_getElem?_getD,List.getD_eq_getElem?_getD,List.getElem?_drop,List.getElem?_take_of_lt (by omega)]
      have e2:(((ds.drop (m0 * Zj e)).take ((k0 - m0) * Zj e)).drop (i * Zj e)).take (Zj e)=(ds.drop ((m0+i) * Zj e)).take (Zj e):=by
        refine List.ext_getElem? fun j => ?_
        by_cases hj:j<Zj e
        · rw [List.getElem?_take_of_lt hj,List.getElem?_take_of_lt hj,List.getElem?_drop,List.getElem?_drop]
          have hlt:i * Zj e+j<(k0 - m0) * Zj e:=by
            calc i * Zj e+j<i * Zj e+Zj e:=by omega
              _=(i+1) * Zj e:=by rw [Nat.add_mul,Nat.one_mul]
              _≤(k0 - m0) * Zj e:=Nat.mul_le_mul_right _ (by omega)
          rw [List.getElem?_take_of_lt hlt,List.getElem?_drop]
          congr 1
          rw [Nat.add_mul]; omega
        · rw [List.getElem?_eq_none (by rw [List.length_take]; omega),List.getElem?_eq_none (by rw [List.length_take]; omega)]
      rw [e1,e2]
      exact h1
theorem AJ1 (st:St B w0 A ρ own w h) (hs:Xh A ρ w s a) {e:Ty} {x:Opd} {lo hi:Option Opd} (hc:Lt P o e x lo hi=true) {l:List (den e)} (hx:evO s x=.dat (.sl e) l [])
    {m k:Int} (hm:O9 s lo 0=some m) (hk:O9 s hi ((List.length l:Nat):Int)=some k) (h0:0≤m∧m≤k∧k≤((List.length l:Nat):Int)) :
    Zw P o a w B w0 A ρ (.dat (.sl e) ((l.take k.toNat).drop m.toNat) []) h:=by
  have hv:∀ z,Xp x z=true→∃ ad n c,a.eval z=.slice ad n c∧n=List.length l∧n≤c∧(0<n→∃ b o ds,ad=some ⟨b,o,none⟩∧A b∧w.rangeAt b o ds∧ds.length=n * Zj e∧∀ i,i<n→Zm A ρ w e (List.getD l i (dft e)) [] ((ds.drop (i * Zj e)).take (Zj e))):=fun z hz=>by
    have k1:=X4 hs hz
    rw [hx] at k1
    simp only [Zl,Zm] at k1
    obtain ⟨cs,⟨ad,n,c,rfl,_,h1⟩,h2⟩:=k1
    exact ⟨ad,n,c,h2,h1 (fun o ho=>by cases ho)⟩
  have hc':=hc
  unfold Lt at hc'
  split at hc'
  case h_2=>cases hc'
  rename_i T z l' h' ho
  simp only [Bool.and_eq_true] at hc'
  obtain ⟨ad,n,c,e1,e2,e3,e4⟩:=hv z hc'.1.1.2
  refine Lc st hs hc (ad:=ad) (n:=n) (c:=c) (fun T' z' l2 h2 hz' => ?_) e3 e2 e4 hm hk h0
  rw [ho] at hz'
  cases hz'
  exact e1
theorem ANc (st:St B w0 A ρ own w h) (hs:Xh A ρ w s a) {e e0:Ty} {x:Opd} {lo hi:Option Opd} (hc:Lt P o e x lo hi=true) {y:den (.sl e0)} {g:Nat} (hx:evO s x=.dat (.sl e0) y [([],some g)]) {l:List (den e)} (hg:h g=.frz e l)
    {m k:Int} (hm:O9 s lo 0=some m) (hk:O9 s hi ((List.length l:Nat):Int)=some k) (h0:0≤m∧m≤k∧k≤((List.length l:Nat):Int)) :
    Zw P o a w B w0 A ρ (.dat (.sl e) ((l.take k.toNat).drop m.toNat) []) h:=by
  have ob:=st.objs g
  rw [hg] at ob
  simp only [Vn,V4] at ob
  obtain ⟨sp,r1,r2,r3,r4,r5,r6,r7,r8,r9⟩:=ob
  have hv:∀ z,Xp x z=true→∃ ad,a.eval z=.slice ad sp.len sp.cap∧(0<sp.cap→ad=some ⟨sp.b,0,none⟩):=fun z hz=>by
    have k1:=X4 hs hz
    rw [hx] at k1
    simp only [Zl,Zm] at k1
    obtain ⟨cs,⟨ad,n,c,rfl,hh,_⟩,h2⟩:=k1
    obtain ⟨s',ad',h3,h4,h5,h6⟩:=hh g (by simp)
    rw [r1] at h3
    cases h3
    simp only [Value.slice.injEq] at h5
    obtain ⟨rfl,rfl,rfl⟩:=h5
    exact ⟨ad,h2,h6⟩
  have hc':=hc
  unfold Lt at hc'
  split at hc'
  case h_2=>cases hc'
  rename_i T z l' h' ho
  simp only [Bool.and_eq_true] at hc'
  obtain ⟨ad,e1,e2⟩:=hv z hc'.1.1.2
  refine Lc st hs hc (ad:=ad) (n:=sp.len) (c:=sp.cap) (fun T' z' l2 h2 hz' => ?_) r8 r7.symm (fun hp => ?_) hm hk h0
  · rw [ho] at hz'
    cases hz'
    exact e1
  · obtain ⟨cs,q1,⟨q2,q3⟩,q4⟩:=r9 (by omega)
    rw [r3] at q1 q4
    refine ⟨sp.b,0,cs.take (sp.len * Zj e),e2 (by omega),q2,fun j v hj=>q3 j v ?_,?_,fun i hi => ?_⟩
    · have:=(List.getElem?_eq_some_iff.1 hj).1
      rw [List.length_take] at this
      rw [List.getElem?_take_of_lt (by omega)] at hj
      exact hj
    · rw [List.length_take,q1]
      exact Nat.min_eq_left (Nat.mul_le_mul_right _ r8)
    · have h1:=q4 i hi
      have e3:((cs.take (sp.len * Zj e)).drop (i * Zj e)).take (Zj e)=cut cs (i * Zj e) (Zj e):=by
        unfold cut
        refine List.ext_getElem? fun j => ?_
        by_cases hj:j<Zj e
        · rw [List.getElem?_take_of_lt hj,List.getElem?_take_of_lt hj,List.getElem?_drop,List.getElem?_drop]
          have hlt:i * Zj e+j<sp.len * Zj e:=by
            calc i * Zj e+j<i * Zj e+Zj e:=by omega
              _=(i+1) * Zj e:=by rw [Nat.add_mul,Nat.one_mul]
              _≤sp.len * Zj e:=Nat.mul_le_mul_right _ (by omega)
          rw [List.getElem?_take_of_lt hlt]
        · rw [List.getElem?_eq_none (by rw [List.length_take]; omega),List.getElem?_eq_none (by rw [List.length_take]; omega)]
      rw [e3]; exact h1
theorem Pp (st:St B w0 A ρ own w h) {g:Nat} {κ ν:Ty} {l l':List (den κ×den ν)} (hg:h g=.map κ ν l) {sp:K1} {es:Array MapEntry} {c:Nat} (n1:ρ g=some sp) (n2:sp.mp=true) (n3:own sp.b=some g) (n4:∀ p,sp.ok p↔p=[]) (n5:w.heap[sp.b]?=some (.map es c))
    {es':Array MapEntry} {c':Nat} (h1:Xv A ρ w κ ν l' es'.toList) (h2:AB0 es'.toList c') :
    St B w0 A ρ own { w with heap:=w.heap.setIfInBounds sp.b (.map es' c') } (X7 h [(g,.map κ ν l')])∧X9 A ρ w A ρ { w with heap:=w.heap.setIfInBounds sp.b (.map es' c') }:=by
  have hlt:sp.b<w.heap.size:=st.oldO _ _ n3
  have hw:∀ b,b≠sp.b→(w.heap.setIfInBounds sp.b (.map es' c'))[b]?=w.heap[b]?:=fun b hb=>Array.getElem?_setIfInBounds_ne (Ne.symm hb)
  obtain ⟨st2,l2⟩:=st.write (w':={ w with heap:=w.heap.setIfInBounds sp.b (.map es' c') }) (o':=.map κ ν l') n3 hw
    ⟨rfl,rfl,rfl,by simp,fun b hb=>hw b (fun e=>by have:=st.base _ _ n3; omega)⟩ (by simp)
    (fun hl=>⟨sp,es',c',n1,n2,n3,n4,by
      show (w.heap.setIfInBounds sp.b (.map es' c'))[sp.b]?=_
      simp [hlt],Xv.mono hl.hA hl.hρ hl.hw h1,h2⟩) (by simp)
  exact ⟨st2,l2⟩
def Mj (P:Program) (o:Oper) (κ ν:Ty) (m i v:Opd):Bool:=match o.op with
  | .mapUpdate T m' i' v'=>Oj P κ ν T && Xp m m' && Xp i i' && Xp v v'
  | .insert T m' i' v'=>Oj P κ ν T && Xp m m' && Xp i i' && Xp v v'
  | _=>false
theorem Cv {κ ν:Ty} {m i v:Opd} (hc:Mj P o κ ν m i v=true):∃ T m' i' v',(∀ ev:Operand→Value,execOp ev o=execOp ev { o with op:=.mapUpdate T m' i' v' })∧Oj P κ ν T=true∧Xp m m'=true∧Xp i i'=true∧Xp v v'=true:=by
  unfold Mj at hc
  split at hc
  · rename_i T m' i' v' ho
    simp only [Bool.and_eq_true] at hc
    exact ⟨T,m',i',v',fun ev=>by simp only [execOp,ho],hc.1.1.1,hc.1.1.2,hc.1.2,hc.2⟩
  · rename_i T m' i' v' ho
    simp only [Bool.and_eq_true] at hc
    exact ⟨T,m',i',v',fun ev=>by simp only [execOp,ho],hc.1.1.1,hc.1.1.2,hc.1.2,hc.2⟩
  · cases hc
theorem M0 {b:Nat} {es:Array MapEntry} {c:Nat} (h:w.heap[b]?=some (.map es c)) (ob:Go.Obj):(setObj b ob).run P w=.ok () { w with heap:=w.heap.setIfInBounds b ob }:=by simp only [setObj,Sem.run,h]
theorem AEy (st:St B w0 A ρ own w h) (hs:Xh A ρ w s a) {κ ν:Ty} {m i v:Opd} (hc:Mj P o κ ν m i v=true) {g:Nat} (hm:evO s m=.ptr g []) {n:den κ} (hi:evO s i=.dat κ n []) {x:den ν} (hv:evO s v=.dat ν x [])
    {l:List (den κ×den ν)} (hg:h g=.map κ ν l):Zw P o a w B w0 A ρ .junk (X7 h [(g,.map κ ν (Gu κ ν n x l))]):=by
  obtain ⟨T,m',i',v',ho,c1,c2,c3,c4⟩:=Cv hc
  obtain ⟨key,elem,u1,u2,u3⟩:=Rg c1
  have k1:=X4 hs c2
  have k2:=X4 hs c3
  have k3:=X4 hs c4
  rw [hm] at k1
  rw [hi] at k2
  rw [hv] at k3
  have k2:Wm A ρ w κ n (a.eval i'):=by simpa only [Zl,Wm] using k2
  have k3:Wm A ρ w ν x (a.eval v'):=by simpa only [Zl,Wm] using k3
  have hkt:AFa κ=true:=by
    unfold Df at u2
    simp only [Bool.and_eq_true] at u2
    exact u2.1.1.1
  have ob:=st.objs g
  rw [hg] at ob
  obtain ⟨sp,es,c,n1,n2,n3,n4,n5,n6,n7⟩:=ob
  have v1:=Ff k1 n1 n2
  have f1:=N9 u2 k2 l es.toList n6
  have hobj:(getObj sp.b).run P w=.ok (.map es c) w:=by simp only [getObj,Sem.run,n5]
  cases hf:V6 κ ν n l with
  | none =>
    obtain ⟨q1,q2,_⟩:=Rh hf
    rw [hf] at f1
    obtain ⟨st2,l2⟩:=Pp st hg n1 n2 n3 n4 n5 (es':=es.push { key:=a.eval i',val:=a.eval v',born:=c }) (c':=c+1) (l':=Gu κ ν n x l)
      (by rw [q2,Array.toList_push]; exact F5 k2 k3 n6) (by rw [Array.toList_push]; exact n7.push rfl)
    refine Zw.skip ?_ st2 l2 (by simp only [Zl])
    rw [ho]
    simp only [execOp,v1,Instr.mapUpdate,Sem.run_bind,run_underlying u1 w,Result.andThen_ok,hobj,Sem.run_pure,Ga u2 k2,f1,Option.bind_none,M0 n5]
  | some j =>
    obtain ⟨m0,y,q1,q2,q3,q4⟩:=Ri hf
    obtain ⟨e,e1,e2,_⟩:=D8 n6 q1
    obtain ⟨s1,s2⟩:=AFb hkt k2 e2 q2
    rw [hf,Option.bind_some,e1,Option.map_some] at f1
    have hj:es[j]?=some e:=by rw [← Array.getElem?_toList]; exact e1
    have hk:(Instr.keyThatStays (a.eval i') (a.eval i')).run P w=.ok (a.eval i') w:=by
      simp only [Instr.keyThatStays,s2,if_true,Sem.run_pure]
    obtain ⟨st2,l2⟩:=Pp st hg n1 n2 n3 n4 n5 (es':=es.modify j fun e=>{ e with key:=a.eval i',val:=a.eval v' }) (c':=c) (l':=Gu κ ν n x l)
      (by rw [Array.toList_modify]; exact AEf k2 k3 n6 hf) (by rw [Array.toList_modify]; exact n7.modify j (fun _=>rfl))
    refine Zw.skip ?_ st2 l2 (by simp only [Zl])
    rw [ho]
    simp only [execOp,v1,Instr.mapUpdate,Sem.run_bind,run_underlying u1 w,Result.andThen_ok,hobj,Sem.run_pure,Ga u2 k2,f1,hj,Option.map_some,Option.getD_some,← s1,hk,M0 n5]
def Fw (P:Program) (o:Oper) (κ ν:Ty) (m i:Opd):Bool:=match o.op with
  | .mapEntry T m' i'=>Oj P κ ν T && Xp m m' && Xp i i'
  | _=>false
theorem AEx (st:St B w0 A ρ own w h) (hs:Xh A ρ w s a) {κ ν:Ty} {m i:Opd} (hc:Fw P o κ ν m i=true) {g:Nat} (hm:evO s m=.ptr g []) {n:den κ} (hi:evO s i=.dat κ n [])
    {l:List (den κ×den ν)} (hg:h g=.map κ ν l):Zw P o a w B w0 A ρ (.tup [.dat ν ((Yo κ ν n l).getD (dft ν)) [],.dat (.int .i64) ((Di κ ν n l:Nat):Int) []]) (X7 h [(g,.map κ ν (Ry κ ν n l))]):=by
  unfold Fw at hc
  split at hc
  case h_2=>cases hc
  rename_i T m' i' ho
  simp only [Bool.and_eq_true] at hc
  obtain ⟨⟨c1,c2⟩,c3⟩:=hc
  obtain ⟨key,elem,u1,u2,u3⟩:=Rg c1
  have k1:=X4 hs c2
  have k2:=X4 hs c3
  rw [hm] at k1
  rw [hi] at k2
  have k2:Wm A ρ w κ n (a.eval i'):=by simpa only [Zl,Wm] using k2
  have hkt:AFa κ=true:=by
    unfold Df at u2
    simp only [Bool.and_eq_true] at u2
    exact u2.1.1.1
  have ob:=st.objs g
  rw [hg] at ob
  obtain ⟨sp,es,c,n1,n2,n3,n4,n5,n6,n7⟩:=ob
  have v1:=Ff k1 n1 n2
  have f1:=N9 u2 k2 l es.toList n6
  have hobj:(getObj sp.b).run P w=.ok (.map es c) w:=by simp only [getObj,Sem.run,n5]
  have hz:=Wl u3 w
  have tup:∀ (w':World) (x:den ν) (v:Value) (k:Nat),X9 A ρ w A ρ w'→Wm A ρ w ν x v→Zl A ρ w' (.tup [.dat ν x [],.dat (.int .i64) ((k:Nat):Int) []]) (.tuple #[v,goInt (k:Int)]):=fun w' x v k hl hx=>by
    obtain ⟨cs,x1,x2⟩:=hx
    rw [Zl]
    refine ⟨[v,goInt (k:Int)],rfl,?_⟩
    rw [Zs]
    refine ⟨_,_,rfl,by rw [Zl]; exact ⟨cs,hl.repC x1,x2⟩,?_⟩
    rw [Zs]
    refine ⟨_,_,rfl,Gg,?_⟩
    rw [Zs]
  cases hf:V6 κ ν n l with
  | none =>
    obtain ⟨q1,q2,q3⟩:=Rh hf
    rw [hf] at f1
    have hc0:c=l.length:=by rw [n7.1,Ba n6]
    have hd:Wm A ρ w ν (dft ν) (mkV ν (zeroCells ν)):=⟨_,Zm.zero A ρ w ν,rfl⟩
    obtain ⟨st2,l2⟩:=Pp st hg n1 n2 n3 n4 n5 (es':=es.push { key:=a.eval i',val:=mkV ν (zeroCells ν),born:=c }) (c':=c+1) (l':=Ry κ ν n l)
      (by unfold Ry; rw [q1,Array.toList_push]; exact F5 k2 hd n6) (by rw [Array.toList_push]; exact n7.push rfl)
    rw [q1,q3,← hc0]
    refine Zw.value ?_ st2 l2 (tup _ (dft ν) _ c l2 hd)
    simp only [execOp,ho,v1,Instr.mapEntry,Sem.run_bind,run_underlying u1 w,Result.andThen_ok,hobj,Sem.run_pure,Ga u2 k2,f1,Option.bind_none,M0 n5,hz]
  | some j =>
    obtain ⟨m0,y,q1,q2,q3,q4⟩:=Ri hf
    obtain ⟨e,e1,e2,e3⟩:=D8 n6 q1
    obtain ⟨s1,s2⟩:=AFb hkt k2 e2 q2
    rw [hf,Option.bind_some,e1,Option.map_some] at f1
    have hj:es[j]?=some e:=by rw [← Array.getElem?_toList]; exact e1
    have hk:(Instr.keyThatStays (a.eval i') (a.eval i')).run P w=.ok (a.eval i') w:=by
      simp only [Instr.keyThatStays,s2,if_true,Sem.run_pure]
    have same:es.modify j (fun e=>{ e with key:=a.eval i' })=es:=by
      refine Array.ext_getElem? fun k => ?_
      rw [Array.getElem?_modify]
      split
      · rename_i hkj
        subst hkj
        rw [hj,Option.map_some,s1]
      · rfl
    obtain ⟨st2,l2⟩:=Pp st hg n1 n2 n3 n4 n5 (es':=es) (c':=c) (l':=Ry κ ν n l) (by unfold Ry; rw [q3]; exact n6) n7
    have hb:=n7.2 j e e1
    rw [q3,q4]
    refine Zw.value (v':=.tuple #[e.val,goInt (j:Int)]) ?_ st2 l2 (tup _ y _ j l2 e3)
    simp only [execOp,ho,v1,Instr.mapEntry,Sem.run_bind,run_underlying u1 w,Result.andThen_ok,hobj,Sem.run_pure,Ga u2 k2,f1,hj,Option.map_some,Option.getD_some,← s1,hk,same,M0 n5,hb]
def Cw (P:Program) (o:Oper) (κ ν:Ty) (m e v:Opd):Bool:=match o.op with
  | .entryStore _ m' e' v'=>Xp m m' && Xp e e' && Xp v v'
  | _=>false
theorem AG1 (st:St B w0 A ρ own w h) (hs:Xh A ρ w s a) {κ ν:Ty} {m e v:Opd} (hc:Cw P o κ ν m e v=true) {g:Nat} (hm:evO s m=.ptr g []) {n:Int} {ov:Ov} (hi:evO s e=.dat (.int .i64) n ov) {x:den ν} (hv:evO s v=.dat ν x [])
    {l:List (den κ×den ν)} (h0:0≤n) (hn:n<((List.length l:Nat):Int)) (hg:h g=.map κ ν l):Zw P o a w B w0 A ρ .junk (X7 h [(g,.map κ ν (N1 κ ν (Int.toNat n) x l))]):=by
  unfold Cw at hc
  split at hc
  case h_2=>cases hc
  rename_i T m' e' v' ho
  simp only [Bool.and_eq_true] at hc
  obtain ⟨⟨c2,c3⟩,c4⟩:=hc
  have k1:=X4 hs c2
  have k2:=X4 hs c3
  have k3:=X4 hs c4
  rw [hm] at k1
  rw [hi] at k2
  rw [hv] at k3
  have k2:=Hx k2
  have k3:Wm A ρ w ν x (a.eval v'):=by simpa only [Zl,Wm] using k3
  have ob:=st.objs g
  rw [hg] at ob
  obtain ⟨sp,es,c,n1,n2,n3,n4,n5,n6,n7⟩:=ob
  have v1:=Ff k1 n1 n2
  have hobj:(getObj sp.b).run P w=.ok (.map es c) w:=by simp only [getObj,Sem.run,n5]
  have hfi:=AI6 n7 h0 (by rw [Ba n6]; exact hn)
  have hfa:es.findIdx? (fun e=>(e.born:Int) == n)=some n.toNat:=by
    obtain ⟨l0⟩:=es
    simpa using hfi
  obtain ⟨st2,l2⟩:=Pp st hg n1 n2 n3 n4 n5 (es':=es.modify n.toNat fun e=>{ e with val:=a.eval v' }) (c':=c) (l':=N1 κ ν n.toNat x l)
    (by rw [Array.toList_modify]; exact AEg k3 n6 _) (by rw [Array.toList_modify]; exact n7.modify _ (fun _=>rfl))
  refine Zw.skip ?_ st2 l2 (by simp only [Zl])
  simp only [execOp,ho,v1,k2,Instr.entryStore,asInt,asIntOf,Sem.run_bind,Result.andThen_ok,hobj,Sem.run_pure,hfa,M0 n5]
end
end Go.Proofs.YtjobjooccgledaaGreatDoor.Ghost
namespace Go.Proofs.YtjobjooccgledaaGreatDoor.Ghost
open Go
def Lr (P:Program) (o:Oper):GOp→Bool
  | .move x=>ACh o x
  | .mknil _ e=>Cy o e
  | .pick c a b=>D5 o c a b
  | .newbox _ τ nils=>Fx P o τ nils
  | .newboxv _ z=>Ls P o z
  | .box _ x=>Cp o x
  | .load t a=>ACf P o t a
  | .store t a v=>Ij P o t a v
  | .bin op x y=>AB8 o op x y
  | .eqs τ neg x y=>AGm P o τ neg x y
  | .not x=>AGp o x
  | .neg x=>AGo o x
  | .conv k x=>ACa P o k x
  | .fieldAddr t j a=>P6 P o t j a
  | .field τ j a=>Cr P o τ j a
  | .index t x i=>Cs P o t x i
  | .len x=>Nk o (fun | .len=>true | _=>false) [x] && ANi P o
  | .lens x=>Nk o (fun | .len=>true | _=>false) [x] && ANj P o
  | .slicearr n e x=>U9 P o n e x
  | .max xs=>Nk o (fun | .max=>true | _=>false) xs
  | .min xs=>Nk o (fun | .min=>true | _=>false) xs
  | .build τ parts nils=>Cq P o τ parts nils
  | .buildv sizes parts=>Fu P o sizes parts
  | .slice _ e parts=>Cz P o e parts
  | .slicev n parts=>Fy P o n parts
  | .make _ e n=>ACg P o e n
  | .append _ e x y=>Ft P o e x y
  | .extract x i=>Lq o x i
  | .func f caps=>ACc o f caps
  | .mkmap _ κ ν=>Cx P o κ ν
  | .lookup κ ν m i=>Fv P o κ ν m i
  | .lookv m i ok=>Cu P o m i ok
  | .slx e x lo hi=>Lt P o e x lo hi
  | .mapset κ ν m i v=>Mj P o κ ν m i v
  | .mapent κ ν m i=>Fw P o κ ν m i
  | .mapst κ ν m e v=>Cw P o κ ν m e v
  | .call _ _ _ _ _=>false
  | .fail=>true
section
variable {P:Program} {o:Oper} {a:Act} {w:World} {B:Nat} {w0:Y6} {A:Nat→Prop} {ρ:Xf} {own:Nat→Option Nat} {h:Nat→Obj} {s:Nat→SV}
theorem U8 {a b:Ty} {x:den a} {y:den b} (h:Jc a b x=some y):a=b:=by have:=X8 h; cases this; rfl
theorem ANd (st:St B w0 A ρ own w h) (hs:Xh A ρ w s a) {cf:Calls} {g:GOp} (hc:Lr P o g=true) {R:Type} {K:SV→Eff→Option R} {r:R} (hg:gop cf s h g K=some r) :
    ∃ v e,K v e=some r∧Zw P o a w B w0 A ρ v (X7 h e):=by
  cases g with
  | move x=>exact ⟨_,_,hg,AJ0 st hs hc⟩
  | mknil k e =>
    simp only [gop] at hg
    split at hg
    · rename_i hk; exact ⟨_,_,hg,AG3 st hc hk⟩
    · cases hg
  | pick c x y =>
    simp only [gop] at hg
    split at hg
    · rename_i t ov ht
      split at hg
      · rename_i u ov1 u' ov2 h1 h2
        refine ⟨_,_,hg,F8 st hs hc ht fun q q' g1 g2 => ?_⟩
        rw [h1] at g1; rw [h2] at g2
        rw [Jj g1,Jj g2]
        cases t
        · exact Hq
        · exact Hq
      · rename_i u ov1 h1 h2
        cases t with
        | false=>cases hg
        | true =>
          refine ⟨_,_,hg,F8 st hs hc ht fun q q' g1 g2 => ?_⟩
          rw [h1] at g1
          rw [Jj g1]
          exact Hq
      · rename_i u ov1 h1 h2
        cases t with
        | true=>cases hg
        | false =>
          refine ⟨_,_,hg,F8 st hs hc ht fun q q' g1 g2 => ?_⟩
          rw [h2] at g2
          rw [Jj g2]
          exact Hq
      · cases hg
    · cases hg
  | newbox k τ nils =>
    simp only [gop] at hg
    split at hg
    · rename_i ov es h1 h2 h3; exact ⟨_,_,hg,AEz st hc h1 h2 h3⟩
    · cases hg
  | newboxv k z =>
    simp only [gop] at hg
    split at hg
    · rename_i h1 h2; exact ⟨_,_,hg,ACu st hc h1 h2⟩
    · cases hg
  | box k x =>
    simp only [gop] at hg
    split at hg
    · rename_i hk
      split at hg
      · rename_i τ y ov hx; exact ⟨_,_,hg,AM5 st hs hc hk hx⟩
      · rename_i f caps hx
        have:=AJs (P:=P) st hs hc hk (by rw [hx]; simp)
        rw [hx] at this
        exact ⟨_,_,hg,this⟩
      · cases hg
    · cases hg
  | load t x =>
    simp only [gop] at hg
    obtain ⟨v,h1,h2⟩:=AJy st hs hc hg
    exact ⟨v,[],h1,h2⟩
  | store t x y =>
    simp only [gop] at hg
    split at hg
    · rename_i hk; exact Bm st hs hc hk hg
    · cases hg
  | bin op x y =>
    simp only [gop] at hg
    obtain ⟨v,h1,h2⟩:=AM4 st hs hc hg
    exact ⟨v,[],h1,h2⟩
  | eqs τ neg x y =>
    simp only [gop,AMw] at hg
    split at hg
    · rename_i σ m ρ' n hx hy
      split at hg
      · rename_i m' n' h1 h2 _
        have e1:=U8 h1
        have e2:=U8 h2
        subst e1; subst e2
        rw [J0] at h1 h2
        cases h1; cases h2
        simp only [Lr] at hc
        have hgood:=AM6 st hs hc hx hy
        cases neg
        · exact ⟨_,[],hg,hgood⟩
        · exact ⟨_,[],hg,hgood⟩
      · cases hg
    · cases hg
  | not x =>
    simp only [gop] at hg
    split at hg
    · rename_i b ov hx; exact ⟨_,_,hg,ANb st hs hc hx⟩
    · cases hg
  | neg x =>
    simp only [gop] at hg
    split at hg
    · rename_i k n ov hx; exact ⟨_,_,hg,ANa st hs hc hx⟩
    · cases hg
  | conv k x =>
    simp only [gop] at hg
    split at hg
    · rename_i k' n ov hx; exact ⟨_,_,hg,AJu st hs hc hx⟩
    · cases hg
  | fieldAddr t j x =>
    simp only [gop] at hg
    obtain ⟨v,h1,h2⟩:=Bl st hs hc hg
    exact ⟨v,[],h1,h2⟩
  | field τ j x =>
    simp only [gop] at hg
    split at hg
    · rename_i σ y ov hx
      split at hg
      · rename_i pl _
        have:=pl.down
        subst this
        unfold Et at hg
        split at hg
        · rename_i d hd; exact ⟨_,_,hg,AGy st hs hc hx hd⟩
        · cases hg
      · cases hg
    · cases hg
  | index t x i =>
    simp only [gop] at hg
    obtain ⟨v,h1,h2⟩:=AGz st hs hc hg
    exact ⟨v,[],h1,h2⟩
  | len x =>
    simp only [gop] at hg
    simp only [Lr,Bool.and_eq_true] at hc
    obtain ⟨v,h1,h2⟩:=AM7 st hs hc.1 hc.2 hg
    exact ⟨v,[],h1,h2⟩
  | lens x =>
    simp only [gop] at hg
    simp only [Lr,Bool.and_eq_true] at hc
    split at hg
    · rename_i y ov hx
      exact ⟨_,_,hg,AJx st hs hc.1 hc.2 hx⟩
    · cases hg
  | slicearr n e x =>
    simp only [gop] at hg
    split at hg
    · rename_i k hx
      unfold AGw at hg
      split at hg
      · rename_i N e' l hh
        split at hg
        · rename_i pl _ hN
          subst pl
          have hN:=Nat.eq_of_beq_eq_true hN
          subst hN
          exact ⟨_,_,hg,AAa st hs hc hx hh⟩
        · cases hg
      · cases hg
    · rename_i g hx
      split at hg
      · rename_i N e' l hh
        split at hg
        · rename_i pl _ hN
          have:=pl.down
          subst this
          have hN:=Nat.eq_of_beq_eq_true hN
          subst hN
          exact ⟨_,_,hg,A9 st hs hc hx hh⟩
        · cases hg
      · cases hg
    · cases hg
  | max xs =>
    simp only [gop] at hg
    split at hg
    · rename_i k n l hx; exact ⟨_,_,hg,AM8 st hs hc hx⟩
    · cases hg
  | min xs =>
    simp only [gop] at hg
    split at hg
    · rename_i k n l hx; exact ⟨_,_,hg,AM9 st hs hc hx⟩
    · cases hg
  | build τ parts nils =>
    simp only [gop] at hg
    split at hg
    · rename_i ov es hn
      obtain ⟨v,h1,h2⟩:=AGx st hs hc hn hg
      exact ⟨v,es,h1,h2⟩
    · cases hg
  | buildv sizes parts =>
    simp only [gop] at hg
    split at hg
    · rename_i hz; exact ⟨_,_,hg,AEv st hs hc hz⟩
    · cases hg
  | slice k e parts =>
    simp only [gop] at hg
    split at hg
    · rename_i l hk hl; exact ⟨_,_,hg,AG4 st hs hc hk hl⟩
    · cases hg
  | slicev n parts =>
    simp only [gop] at hg
    split at hg
    · rename_i hz; exact ⟨_,_,hg,AE0 st hs hc hz⟩
    · cases hg
  | make k e n =>
    simp only [gop] at hg
    split at hg
    · rename_i kd m ov hk hn
      split at hg
      · rename_i hm; exact ⟨_,_,hg,AJz st hs hc hk hn hm.1 hm.2⟩
      · cases hg
    · cases hg
  | append k e x y =>
    simp only [gop] at hg
    split at hg
    · rename_i e0 l0 g σ l' ov' hx hy hk
      split at hg
      · rename_i e1 l hh
        split at hg
        · rename_i pl1 pl2 l'' h1 h2 hres
          have e1':=pl1.down
          have e2':=pl2.down
          subst e1'; subst e2'
          split at hg
          · rename_i m hm
            split at hg
            · rename_i hle; exact ⟨_,_,hg,AEu st hs hc hk hx hh hy hres hm hle⟩
            · cases hg
          · cases hg
        · cases hg
      · cases hg
    · cases hg
  | extract x i =>
    simp only [gop] at hg
    split at hg
    · rename_i us hx
      split at hg
      · rename_i u hu; exact ⟨_,_,hg,ACt st hs hc hx hu⟩
      · cases hg
    · cases hg
  | func f caps=>exact ⟨_,_,hg,AJv st hs hc⟩
  | mkmap k κ ν =>
    simp only [gop] at hg
    split at hg
    · rename_i hk; exact ⟨_,_,hg,AG2 st hc hk⟩
    · cases hg
  | lookv m i ok =>
    simp only [gop] at hg
    split at hg
    · rename_i ks us n hm hi
      exact AG0 st hs hc hm hi hg
    · cases hg
  | slx e x lo hi =>
    simp only [gop] at hg
    split at hg
    · rename_i e0 y g hx
      split at hg
      · rename_i e1 l hh
        split at hg
        · rename_i pl m k _ hm hk
          have e2:=pl.down
          subst e2
          split at hg
          · rename_i h0
            exact ⟨_,_,hg,ANc st hs hc hx hh hm hk h0⟩
          · cases hg
        · cases hg
      · cases hg
    · rename_i e1 l hx
      split at hg
      · rename_i pl m k _ hm hk
        have e2:=pl.down
        subst e2
        split at hg
        · rename_i h0
          exact ⟨_,_,hg,AJ1 st hs hc hx hm hk h0⟩
        · cases hg
      · cases hg
    · cases hg
  | lookup κ ν m i =>
    simp only [gop] at hg
    split at hg
    · rename_i g σ y hm hi
      split at hg
      · rename_i κ' ν' l hh
        split at hg
        · rename_i n pl1 pl2 h1 h2 h3
          have e1:=U8 h1
          have e2:=pl1.down
          have e3:=pl2.down
          subst e1; subst e2; subst e3
          rw [J0] at h1
          cases h1
          exact ⟨_,_,hg,AEw st hs hc hm hi hh⟩
        · cases hg
      · cases hg
    · cases hg
  | mapset κ ν m i v =>
    simp only [gop] at hg
    split at hg
    · rename_i g σ y ρ' z hm hi hv
      split at hg
      · rename_i κ' ν' l hh
        split at hg
        · rename_i n x pl1 pl2 h1 h2 h3 h4
          have e1:=U8 h1
          have e0:=U8 h2
          have e2:=pl1.down
          have e3:=pl2.down
          subst e1; subst e0; subst e2; subst e3
          rw [J0] at h1 h2
          cases h1; cases h2
          exact ⟨_,_,hg,AEy st hs hc hm hi hv hh⟩
        · cases hg
      · cases hg
    · cases hg
  | mapent κ ν m i =>
    simp only [gop] at hg
    split at hg
    · rename_i g σ y hm hi
      split at hg
      · rename_i κ' ν' l hh
        split at hg
        · rename_i n pl1 pl2 h1 h2 h3
          have e1:=U8 h1
          have e2:=pl1.down
          have e3:=pl2.down
          subst e1; subst e2; subst e3
          rw [J0] at h1
          cases h1
          exact ⟨_,_,hg,AEx st hs hc hm hi hh⟩
        · cases hg
      · cases hg
    · cases hg
  | mapst κ ν m e v =>
    simp only [gop] at hg
    split at hg
    · rename_i g n ov ρ' z hm hi hv
      split at hg
      · rename_i κ' ν' l hh
        split at hg
        · rename_i x pl1 pl2 h2 h3 h4
          have e0:=U8 h2
          have e2:=pl1.down
          have e3:=pl2.down
          subst e0; subst e2; subst e3
          rw [J0] at h2
          cases h2
          split at hg
          · rename_i hn
            exact ⟨_,_,hg,AG1 st hs hc hm hi hv hn.1 hn.2 hh⟩
          · cases hg
        · cases hg
      · cases hg
    · cases hg
  | call f args res keep opt=>simp [Lr] at hc
  | fail=>simp [gop] at hg
end
end Go.Proofs.YtjobjooccgledaaGreatDoor.Ghost
namespace Go.Proofs.YtjobjooccgledaaGreatDoor.Ghost
open Go
section
variable {P:Program} {w:World} {B:Nat} {w0:Y6} {A Aw:Nat→Prop} {ρ ρ':Xf} {own:Nat→Option Nat} {h:Nat→Obj}
theorem Zm.noRef {τ:Ty} {x:den τ} {cs:List Value} (hr:Zm A ρ w τ x [] cs):Zm A ρ' w τ x [] cs:=by
  have:=Zm.names (A:=A) (ρ:=ρ) (ρ':=ρ') (w:=w) (p:=fun _=>false) (f:=id) (fun g s hf=>by cases hf) τ (ov:=[]) rfl hr
  simpa only [Kj] using this
theorem Zm.lift (hA:∀ b,A b→Aw b) {τ:Ty} {x:den τ} {cs:List Value} (hr:Zm A ρ w τ x [] cs):Zm Aw ρ' w τ x [] cs :=
  Zm.noRef (Zm.mono hA (fun _ _ h=>h) (fun _ _=>rfl) τ hr)
theorem Uk (hA:∀ b,A b→Aw b) (hO:∀ g,Vn A ρ own w g (h g)) {τ:Ty}:(ov:Ov)→(hids:∀ g,g∈Ps ov→∀ b,own b=some g→Aw b)→{x y:den τ}→{cs:List Value}→Zm Aw ρ w τ x ov cs→Ghost.resolve h τ x ov=some y→Zm Aw ρ w τ y [] cs
  | [],_,x,y,cs,hr,he=>by simp only [Ghost.resolve,Option.some.injEq] at he; subst he; exact hr
  | (q,none) :: r,_,x,y,cs,hr,he=>by simp [Ghost.resolve] at he
  | (q,some g) :: r,hids,x,y,cs,hr,he=>by
    have ob:=hO g
    have hr':∀ g,g∈Ps r→∀ b,own b=some g→Aw b:=fun g' hg'=>hids g' (by simp [Ps,hg'])
    simp only [Ghost.resolve] at he
    split at he
    · rename_i e l hg
      rw [hg] at ob
      split at he
      · rename_i x1 hx1
        exact Uk hA hO r hr' (Zm.res1 (V4.plain hA (fun s cs hm=>⟨hids g (by simp [Ps]) _ hm.1,hm.2.1⟩) ob) τ q hr hx1 (fun ee=>by simp)) he
      · cases he
    · rename_i e l hg
      rw [hg] at ob
      split at he
      · rename_i x1 hx1
        exact Uk hA hO r hr' (Zm.res1 (V4.plain hA (fun s cs hm=>⟨hA _ hm.1,hm.2⟩) ob) τ q hr hx1 (fun ee=>by simp)) he
      · cases he
    · cases he
theorem AF6 {g:Nat} {p:Z8} {v:SV} {f:FuncId} {caps:List SV} (h:Ak g p v=some (f,caps)):p=[]∧v=.clo f (.ptr g [] :: caps):=by
  unfold Ak at h
  split at h
  · split at h
    · rename_i hb
      simp only [Option.some.injEq,Prod.mk.injEq] at h
      rw [Nat.eq_of_beq_eq_true hb,h.1,h.2]
      exact ⟨rfl,rfl⟩
    · cases h
  · cases h
theorem AQ0:(n:Nat)→(v:SV)→{u:SV}→{ids:List Nat}→Y0 h n v=some (u,ids)→v≠.junk∧u≠.junk
  | 0,_,_,_,he=>by simp [Y0] at he
  | n+1,v,u,ids,he=>by
    cases v with
    | dat τ x ov=>simp only [Y0] at he; split at he <;> first | (cases he; done) | (simp only [Option.some.injEq,Prod.mk.injEq] at he; rw [← he.1]; simp)
    | ptr g p =>
      simp only [Y0] at he
      split at he
      · split at he
        · split at he <;> first | (cases he; done) | (simp only [Option.some.injEq,Prod.mk.injEq] at he; rw [← he.1]; simp)
        · cases he
      · split at he
        · split at he <;> first | (cases he; done) | (simp only [Option.some.injEq,Prod.mk.injEq] at he; rw [← he.1]; simp)
        · cases he
      · split at he
        · split at he <;> first | (cases he; done) | (simp only [Option.some.injEq,Prod.mk.injEq] at he; rw [← he.1]; simp)
        · split at he
          · split at he <;> first | (cases he; done) | (simp only [Option.some.injEq,Prod.mk.injEq] at he; rw [← he.1]; simp)
          · cases he
      · split at he
        · split at he <;> first | (cases he; done) | (simp only [Option.some.injEq,Prod.mk.injEq] at he; rw [← he.1]; simp)
        · split at he
          · split at he <;> first | (cases he; done) | (simp only [Option.some.injEq,Prod.mk.injEq] at he; rw [← he.1]; simp)
          · cases he
      · cases he
    | ref τ x=>simp [Y0] at he; rw [← he.1]; simp
    | selfc f caps=>simp only [Y0] at he; split at he <;> first | (cases he; done) | (simp only [Option.some.injEq,Prod.mk.injEq] at he; rw [← he.1]; simp)
    | refv v=>simp only [Y0] at he; split at he <;> first | (cases he; done) | (simp only [Option.some.injEq,Prod.mk.injEq] at he; rw [← he.1]; simp)
    | elp g i p=>simp [Y0] at he
    | glo k=>simp [Y0] at he
    | clo f caps=>simp only [Y0] at he; split at he <;> first | (cases he; done) | (simp only [Option.some.injEq,Prod.mk.injEq] at he; rw [← he.1]; simp)
    | tup vs=>simp [Y0] at he
    | fmap ks vs=>simp [Y0] at he
    | slv vs=>simp only [Y0] at he; split at he <;> first | (cases he; done) | (simp only [Option.some.injEq,Prod.mk.injEq] at he; rw [← he.1]; simp)
    | agv vs=>simp only [Y0] at he; split at he <;> first | (cases he; done) | (simp only [Option.some.injEq,Prod.mk.injEq] at he; rw [← he.1]; simp)
    | nilfn=>simp [Y0] at he; rw [← he.1]; simp
    | und=>simp [Y0] at he
    | junk=>simp [Y0] at he
mutual
theorem I8 (hA:∀ b,A b→Aw b) (hO:∀ g,Vn A ρ own w g (h g)):(n:Nat)→(v:SV)→{u:SV}→{ids:List Nat}→{val:Value}→Y0 h n v=some (u,ids)→(∀ g,g∈ids→∀ b,own b=some g→Aw b)→Zl A ρ w v val→Zl Aw ρ' w u val
  | 0,_,_,_,_,he,_,_=>by simp [Y0] at he
  | n+1,v,u,ids,val,he,hi,hv=>by
    cases v with
    | dat τ x ov =>
      simp only [Y0] at he
      split at he
      · rename_i y hy
        simp only [Option.some.injEq,Prod.mk.injEq] at he
        obtain ⟨rfl,rfl⟩:=he
        simp only [Zl] at hv ⊢
        obtain ⟨cs,h1,h2⟩:=hv
        exact ⟨cs,Zm.noRef (Uk hA hO ov hi (Zm.wide hA h1) hy),h2⟩
      · cases he
    | ptr g p =>
      have ob:=hO g
      have box:∀ (τ:Ty) (x y:den τ) (ov:Ov) (d:Dyn) (M:K1→List Value→Prop),(∀ s cs,M s cs→Aw s.b∧w.rangeAt s.b 0 cs)→Tk A ρ w g τ x ov M→(∀ g,g∈Ps ov→∀ b,own b=some g→Aw b) →
          Ghost.resolve h τ x ov=some y→getP p τ y=some d→Zl Aw ρ' w (.ref d.τ d.x) val:=fun τ x y ov d M hM hb hid hy hd=>by
        obtain ⟨sp,cs,n1,n2,n3,n4,n5,n6⟩:=hb
        obtain ⟨q1,q2⟩:=Hj hv n1 n2
        rw [n4] at q1
        obtain ⟨m1,m2⟩:=hM _ _ n5
        have hr:=Uk hA hO ov hid (Zm.wide hA n6) hy
        have hp:=Zm.getP τ p hr q1 hd
        simp only [Zl]
        refine ⟨sp.b,sp.off p,_,q2,m1,by rw [n3]; exact Ge m2 _,Zm.noRef (Zm.ov d.τ (fun e => ?_) hp)⟩
        obtain ⟨q,oo⟩:=e
        rw [Qa]; simp
      have boxv:∀ (v1 x u1:SV) (ids1:List Nat) (M:K1→List Value→Prop),(∀ s cs,M s cs→Aw s.b∧w.rangeAt s.b 0 cs)→Uy A ρ w g v1 M→getV v1 p=some x→Y0 h n x=some (u1,ids1)→(∀ g,g∈ids1→∀ b,own b=some g→Aw b) →
          Zl Aw ρ' w (.refv u1) val:=fun v1 x u1 ids1 M hM hb hx hl hid=>by
        obtain ⟨sp,v',n1,n2,n3,n4,_,n5,n6⟩:=hb
        obtain ⟨q1,q2⟩:=Hj hv n1 n2
        obtain ⟨m1,m2⟩:=hM _ _ n5
        obtain ⟨v2,w1,w2⟩:=Zl.getV v1 n6 hx
        simp only [Zl]
        refine ⟨sp.b,sp.off p,v2,q2,m1,?_,I8 hA hO n x hl hid w1⟩
        rw [w2,n3]
        exact Ge m2 _
      have boxs:∀ (v1:SV) (f:FuncId) (caps us:List SV) (ids1:List Nat) (M:K1→List Value→Prop),(∀ s cs,M s cs→Aw s.b∧w.rangeAt s.b 0 cs)→Uy A ρ w g v1 M→Ak g p v1=some (f,caps)→We h n caps=some (us,ids1)→(∀ g,g∈ids1→∀ b,own b=some g→Aw b) →
          Zl Aw ρ' w (.selfc f us) val:=fun v1 f caps us ids1 M hM hb hx hl hid=>by
        obtain ⟨e1,e2⟩:=AF6 hx
        subst e1; subst e2
        obtain ⟨sp,v',n1,n2,n3,n4,_,n5,n6⟩:=hb
        obtain ⟨q1,q2⟩:=Hj hv n1 n2
        obtain ⟨m1,m2⟩:=hM _ _ n5
        obtain ⟨v2,w1,w2⟩:=Zl.getV _ n6 (p:=[]) (x:=.clo f (.ptr g [] :: caps)) rfl
        rw [Zl] at w1
        obtain ⟨vs,h1,h2⟩:=w1
        rw [Zs] at h2
        obtain ⟨vp,vs',rfl,h3,h4⟩:=h2
        obtain ⟨_,q4⟩:=Hj h3 n1 n2
        simp only [Zl]
        refine ⟨sp.b,sp.off [],q2,m1,vs',?_,(Uv hA hO n caps hl hid h4).1⟩
        have:=Ge m2 (k:=Wp (.clo f (.ptr g [] :: caps)) []) v2.cells.size
        rw [← w2,h1,q4,← q2] at this
        rw [n3]
        exact this
      simp only [Y0] at he
      split at he
      · rename_i τ x ov hg
        rw [hg] at ob
        split at he
        · rename_i y hy
          split at he
          · rename_i d hd
            simp only [Option.some.injEq,Prod.mk.injEq] at he
            obtain ⟨rfl,rfl⟩:=he
            exact box τ x y ov d _ (fun s cs hm=>⟨hi g (by simp) _ hm.1,hm.2.1⟩) ob (fun g' hg'=>hi g' (by simp [hg'])) hy hd
          · cases he
        · cases he
      · rename_i τ x ov hg
        rw [hg] at ob
        split at he
        · rename_i y hy
          split at he
          · rename_i d hd
            simp only [Option.some.injEq,Prod.mk.injEq] at he
            obtain ⟨rfl,rfl⟩:=he
            exact box τ x y ov d _ (fun s cs hm=>⟨hA _ hm.1,hm.2⟩) ob (fun g' hg'=>hi g' (by simp [hg'])) hy hd
          · cases he
        · cases he
      · rename_i v1 hg
        rw [hg] at ob
        split at he
        · rename_i f caps hx
          split at he
          · rename_i us ids1 hl
            simp only [Option.some.injEq,Prod.mk.injEq] at he
            obtain ⟨rfl,rfl⟩:=he
            exact boxs v1 f caps us ids1 _ (fun s cs hm=>⟨hi g (by simp) _ hm.1,hm.2.1⟩) ob hx hl (fun g' hg'=>hi g' (by simp [hg']))
          · cases he
        · split at he
          · rename_i x hx
            split at he
            · rename_i u1 ids1 hl
              simp only [Option.some.injEq,Prod.mk.injEq] at he
              obtain ⟨rfl,rfl⟩:=he
              exact boxv v1 x u1 ids1 _ (fun s cs hm=>⟨hi g (by simp) _ hm.1,hm.2.1⟩) ob hx hl (fun g' hg'=>hi g' (by simp [hg']))
            · cases he
          · cases he
      · rename_i v1 hg
        rw [hg] at ob
        split at he
        · rename_i f caps hx
          split at he
          · rename_i us ids1 hl
            simp only [Option.some.injEq,Prod.mk.injEq] at he
            obtain ⟨rfl,rfl⟩:=he
            exact boxs v1 f caps us ids1 _ (fun s cs hm=>⟨hA _ hm.1,hm.2⟩) ob hx hl (fun g' hg'=>hi g' (by simp [hg']))
          · cases he
        · split at he
          · rename_i x hx
            split at he
            · rename_i u1 ids1 hl
              simp only [Option.some.injEq,Prod.mk.injEq] at he
              obtain ⟨rfl,rfl⟩:=he
              exact boxv v1 x u1 ids1 _ (fun s cs hm=>⟨hA _ hm.1,hm.2⟩) ob hx hl (fun g' hg'=>hi g' (by simp [hg']))
            · cases he
          · cases he
      · cases he
    | ref τ x =>
      simp only [Y0,Option.some.injEq,Prod.mk.injEq] at he
      obtain ⟨rfl,rfl⟩:=he
      simp only [Zl] at hv ⊢
      obtain ⟨b,k,cs,h1,h2,h3,h4⟩:=hv
      exact ⟨b,k,cs,h1,hA b h2,h3,Zm.lift hA h4⟩
    | refv v1 =>
      simp only [Y0] at he
      split at he
      · rename_i u1 ids1 hl
        simp only [Option.some.injEq,Prod.mk.injEq] at he
        obtain ⟨rfl,rfl⟩:=he
        simp only [Zl] at hv ⊢
        obtain ⟨b,k,v',h1,h2,h3,h4⟩:=hv
        exact ⟨b,k,v',h1,hA b h2,h3,I8 hA hO n v1 hl hi h4⟩
      · cases he
    | selfc f caps =>
      simp only [Y0] at he
      split at he
      · rename_i us ids1 hl
        simp only [Option.some.injEq,Prod.mk.injEq] at he
        obtain ⟨rfl,rfl⟩:=he
        simp only [Zl] at hv ⊢
        obtain ⟨b,k,h1,h2,vs,h3,h4⟩:=hv
        exact ⟨b,k,h1,hA b h2,vs,h3,(Uv hA hO n caps hl hi h4).1⟩
      · cases he
    | elp g i p=>simp [Y0] at he
    | glo k=>simp [Y0] at he
    | clo f caps =>
      simp only [Y0] at he
      split at he
      · rename_i us ids1 hl
        simp only [Option.some.injEq,Prod.mk.injEq] at he
        obtain ⟨rfl,rfl⟩:=he
        simp only [Zl] at hv ⊢
        obtain ⟨vs,h1,h2⟩:=hv
        exact ⟨vs,h1,(Uv hA hO n caps hl hi h2).1⟩
      · cases he
    | tup vs=>simp [Y0] at he
    | fmap ks vs=>simp [Y0] at he
    | slv vs0 =>
      simp only [Y0] at he
      split at he
      · rename_i us ids1 hl
        simp only [Option.some.injEq,Prod.mk.injEq] at he
        obtain ⟨rfl,rfl⟩:=he
        simp only [Zl] at hv ⊢
        obtain ⟨ad,m,c,h1,h2,vs,h3,h4,⟨z,h5⟩,h6⟩:=hv
        obtain ⟨k1,k2,k3,k4⟩:=Uv hA hO n vs0 hl hi h3
        refine ⟨ad,m,c,h1,by rw [k2]; exact h2,vs,k1,k3 h4,⟨z,k4 z h5⟩,fun hp => ?_⟩
        obtain ⟨b,k,q1,q2,q3⟩:=h6 hp
        exact ⟨b,k,q1,hA b q2,q3⟩
      · cases he
    | agv vs0 =>
      simp only [Y0] at he
      split at he
      · rename_i us ids1 hl
        simp only [Option.some.injEq,Prod.mk.injEq] at he
        obtain ⟨rfl,rfl⟩:=he
        simp only [Zl] at hv ⊢
        obtain ⟨vs,h1,h2,h3⟩:=hv
        obtain ⟨k1,k2,k3,k4⟩:=Uv hA hO n vs0 hl hi h2
        exact ⟨vs,h1,k1,k3 h3⟩
      · cases he
    | nilfn =>
      simp only [Y0,Option.some.injEq,Prod.mk.injEq] at he
      obtain ⟨rfl,rfl⟩:=he
      simpa only [Zl] using hv
    | und=>simp [Y0] at he
    | junk=>simp [Y0] at he
theorem Uv (hA:∀ b,A b→Aw b) (hO:∀ g,Vn A ρ own w g (h g)):(n:Nat)→(vs:List SV)→{us:List SV}→{ids:List Nat}→{vals:List Value}→We h n vs=some (us,ids)→(∀ g,g∈ids→∀ b,own b=some g→Aw b)→Zs A ρ w vs vals →
    Zs Aw ρ' w us vals∧us.length=vs.length∧(Ws vs vals→Ws us vals)∧(∀ z,(∀ v,v∈vs→Jb v=z)→∀ u,u∈us→Jb u=z)
  | 0,_,_,_,_,he,_,_=>by simp [We] at he
  | n+1,[],us,ids,vals,he,_,hv=>by
    simp only [We,Option.some.injEq,Prod.mk.injEq] at he
    obtain ⟨rfl,rfl⟩:=he
    exact ⟨by simpa only [Zs] using hv,rfl,fun _=>by cases vals <;> simp [Ws],fun _ _ u hu=>by cases hu⟩
  | n+1,v :: r,us,ids,vals,he,hi,hv=>by
    simp only [We] at he
    split at he
    · rename_i u ids1 hl
      split at he
      · rename_i us1 ids2 hl2
        simp only [Option.some.injEq,Prod.mk.injEq] at he
        obtain ⟨rfl,rfl⟩:=he
        simp only [Zs] at hv
        obtain ⟨val,vals',rfl,h1,h2⟩:=hv
        have k0:=I8 hA hO n v hl (fun g hg=>hi g (by simp [hg])) h1
        obtain ⟨k1,k2,k3,k4⟩:=Uv hA hO n r hl2 (fun g hg=>hi g (by simp [hg])) h2
        obtain ⟨ne1,ne2⟩:=AQ0 n v hl
        have hsz:Jb u=Jb v:=by rw [← Zl.size ne2 k0,Zl.size ne1 h1]
        refine ⟨by simp only [Zs]; exact ⟨val,vals',rfl,k0,k1⟩,by simp [k2],fun hz => ?_,fun z hz u' hu' => ?_⟩
        · simp only [Ws] at hz ⊢
          exact ⟨by rw [hsz]; exact hz.1,hz.2.1,k3 hz.2.2⟩
        · rcases List.mem_cons.1 hu' with rfl | hu'
          · rw [hsz]; exact hz v (by simp)
          · exact k4 z (fun v hv=>hz v (by simp [hv])) u' hu'
      · cases he
    · cases he
end
end
end Go.Proofs.YtjobjooccgledaaGreatDoor.Ghost
namespace Go.Proofs.YtjobjooccgledaaGreatDoor.Ghost
open Go
mutual
theorem Zm.setOwn {A:Nat→Prop} {ρ:Xf} {w:World} {e:Ty} {l:List (den e)}:(τ:Ty)→(q:Z8)→{x x1:den τ}→{ov:Ov}→{cs:List Value} →
    Zm A ρ w τ x ov cs→(∃ g,(q,some g)∈ov)→Ghost.setP τ q x ⟨.sl e,l⟩=some x1→Zm A ρ w τ x1 ov cs
  | τ,[],x,x1,ov,cs,h,⟨g,hg⟩,hs=>by
    have hc:Jc (.sl e) τ l=some x1:=by cases τ <;> simpa only [Ghost.setP] using hs
    have:=X8 hc
    cases this
    simp only [Zm] at h ⊢
    obtain ⟨a,n,c,h1,h2,h3⟩:=h
    exact ⟨a,n,c,h1,h2,fun hn=>absurd hg (hn _)⟩
  | .st fs,i :: q,x,x1,ov,cs,h,⟨g,hg⟩,hs=>by
    simp only [Zm] at h ⊢
    simp only [Ghost.setP] at hs
    exact Xs.setOwn fs 0 i q h ⟨g,by rw [Nat.zero_add]; exact hg⟩ hs
  | .arr n t,i :: q,x,x1,ov,cs,h,⟨g,hg⟩,hs=>by
    simp only [Zm] at h ⊢
    simp only [Ghost.setP] at hs
    cases hy:Ghost.setP t q (List.getD x i (dft t)) ⟨.sl e,l⟩ with
    | none=>rw [hy] at hs; cases hs
    | some y =>
      rw [hy] at hs
      simp only [Option.some.injEq] at hs
      subst hs
      refine ⟨by simpa using h.1,h.2.1,fun k hkn => ?_⟩
      by_cases hki:k=i
      · subst hki
        have:List.getD (List.set x k y) k (dft t)=y:=by
          have hl:k<List.length x:=by omega
          rw [List.getD_eq_getElem?_getD,List.getElem?_set_self hl]; rfl
        rw [this]
        exact Zm.setOwn t q (h.2.2 k hkn) ⟨g,by rw [Qa]; exact hg⟩ hy
      · have:List.getD (List.set x i y) k (dft t)=List.getD x k (dft t):=by
          rw [List.getD_eq_getElem?_getD,List.getElem?_set_ne (Ne.symm hki),← List.getD_eq_getElem?_getD]
        rw [this]
        exact h.2.2 k hkn
  | .bool,_ :: _,_,_,_,_,_,_,hs=>by simp [Ghost.setP] at hs
  | .int _,_ :: _,_,_,_,_,_,_,hs=>by simp [Ghost.setP] at hs
  | .str,_ :: _,_,_,_,_,_,_,hs=>by simp [Ghost.setP] at hs
  | .sl _,_ :: _,_,_,_,_,_,_,hs=>by simp [Ghost.setP] at hs
theorem Xs.setOwn {A:Nat→Prop} {ρ:Xf} {w:World} {e:Ty} {l:List (den e)}:(fs:List Ty)→(j i:Nat)→(q:Z8)→{x x1:K7 fs}→{ov:Ov}→{cs:List Value} →
    Xs A ρ w fs j x ov cs→(∃ g,((j+i) :: q,some g)∈ov)→Ko fs i q x ⟨.sl e,l⟩=some x1→Xs A ρ w fs j x1 ov cs
  | [],_,_,_,_,_,_,_,_,_,hs=>by simp [Ko] at hs
  | t :: r,j,0,q,x,x1,ov,cs,h,⟨g,hg⟩,hs=>by
    simp only [Xs] at h ⊢
    simp only [Ko] at hs
    cases hy:Ghost.setP t q x.1 ⟨.sl e,l⟩ with
    | none=>rw [hy] at hs; cases hs
    | some y =>
      rw [hy] at hs
      simp only [Option.some.injEq] at hs
      subst hs
      exact ⟨Zm.setOwn t q h.1 ⟨g,by rw [Qa]; exact hg⟩ hy,h.2⟩
  | t :: r,j,n+1,q,x,x1,ov,cs,h,⟨g,hg⟩,hs=>by
    simp only [Xs] at h ⊢
    simp only [Ko] at hs
    cases hy:Ko r n q x.2 ⟨.sl e,l⟩ with
    | none=>rw [hy] at hs; cases hs
    | some y =>
      rw [hy] at hs
      simp only [Option.some.injEq] at hs
      subst hs
      exact ⟨h.1,Xs.setOwn r (j+1) n q h.2 ⟨g,by rw [show j+1+n=j+(n+1) by omega]; exact hg⟩ hy⟩
end
abbrev Vm:=List ((Nat×Z8)×Nat)
def Pr:Vm→Nat→Ov
  | [],_=>[]
  | ((j,p),g) :: r,i=>if j=i then (p,some g) :: Pr r i else Pr r i
def Rv (o:Vm) (i:Nat):SV→SV
  | .dat τ x _=>.dat τ x (Pr o i)
  | v=>v
def J9 (o:Vm):Nat→List SV→List SV
  | _,[]=>[]
  | i,v :: r=>Rv o i v :: J9 o (i+1) r
def Wu:SV→Bool
  | .dat _ _ _=>true
  | _=>false
theorem Jq (o:Vm) (i:Nat) (v:SV) (r:List SV):J9 o i (v :: r)=Rv o i v :: J9 o (i+1) r:=rfl
theorem Mr {o:Vm} {i:Nat} {u:SV} (hu:Wu u=false):Rv o i u=u:=by
  cases u with
  | dat τ x ov=>cases hu
  | _=>rfl
theorem N2 {o:Vm} {i:Nat} {p:Z8} {og:Option Nat}:(p,og)∈Pr o i↔∃ g,og=some g∧((i,p),g)∈o:=by
  induction o with
  | nil=>simp [Pr]
  | cons q r ih =>
    obtain ⟨⟨j,p'⟩,g'⟩:=q
    simp only [Pr]
    by_cases hj:j=i
    · subst hj
      rw [if_pos rfl]
      simp only [List.mem_cons,Prod.mk.injEq,ih,true_and]
      constructor
      · rintro (⟨rfl,rfl⟩ | ⟨g,h1,h2⟩)
        · exact ⟨g',rfl,.inl ⟨rfl,rfl⟩⟩
        · exact ⟨g,h1,.inr h2⟩
      · rintro ⟨g,rfl,⟨rfl,rfl⟩ | h2⟩
        · exact .inl ⟨rfl,rfl⟩
        · exact .inr ⟨g,rfl,h2⟩
    · rw [if_neg hj,ih]
      simp only [List.mem_cons,Prod.mk.injEq]
      constructor
      · rintro ⟨g,h1,h2⟩; exact ⟨g,h1,.inr h2⟩
      · rintro ⟨g,h1,⟨⟨rfl,_⟩,_⟩ | h2⟩
        · exact absurd rfl hj
        · exact ⟨g,h1,h2⟩
section
variable {A:Nat→Prop} {ρ ρ':Xf} {w:World}
theorem Zs.res {o:Vm} {i:Nat} {p:Z8} {g:Nat}:(us:List SV)→(i0:Nat)→{vals:List Value} →
    (∀ τ x ov,us[i - i0]?=some (.dat τ x ov)→i0≤i→∃ e,∃ l:List (den e),getP p τ x=some ⟨.sl e,l⟩∧∀ v,Uc ρ g v→ADo A ρ w e l v) →
    Zs A ρ w (J9 (((i,p),g) :: o) i0 us) vals→Zs A ρ w (J9 o i0 us) vals
  | [],_,_,_,hr=>hr
  | u :: r,i0,vals,hp,hr=>by
    rw [Jq] at hr ⊢
    simp only [Zs] at hr ⊢
    obtain ⟨v,vs',rfl,h1,h2⟩:=hr
    refine ⟨v,vs',rfl,?_,Zs.res r (i0+1) (fun τ x ov hx hi=>hp τ x ov (by rw [show i - i0=(i - (i0+1))+1 by omega]; simpa using hx) (by omega)) h2⟩
    cases u with
    | dat τ x ov =>
      simp only [Rv,Pr] at h1 ⊢
      by_cases hi:i=i0
      · subst hi
        rw [if_pos rfl] at h1
        obtain ⟨e,l,g1,g2⟩:=hp τ x ov (by simp) (Nat.le_refl _)
        simp only [Zl] at h1 ⊢
        obtain ⟨cs,k1,k2⟩:=h1
        exact ⟨cs,Zm.res1 g2 τ p k1 (ADe τ p x _ g1) (fun ee=>by simp),k2⟩
      · rw [if_neg hi] at h1
        exact h1
    | _=>exact h1
theorem Zs.renamed {o:Vm} {f:Nat→Nat} (hf:∀ q s,q∈o→ρ q.2=some s→ρ' (f q.2)=some s):(us:List SV)→(i:Nat)→{vals:List Value}→(∀ u,u∈us→Wu u=false→(∀ p,Up p u=true)∧(∀ f,J6 f u=u)) →
    Zs A ρ w (J9 o i us) vals→Zs A ρ' w (J9 (o.map fun q=>(q.1,f q.2)) i us) vals
  | [],_,_,_,hr=>by simpa only [J9,Zs] using hr
  | u :: r,i,vals,hp,hr=>by
    rw [Jq] at hr ⊢
    simp only [Zs] at hr ⊢
    obtain ⟨v,vs',rfl,h1,h2⟩:=hr
    refine ⟨v,vs',rfl,?_,Zs.renamed hf r (i+1) (fun u hu=>hp u (by simp [hu])) h2⟩
    have hmap:∀ o:Vm,Kj f (Pr o i)=Pr (o.map fun q=>(q.1,f q.2)) i:=fun o=>by
      induction o with
      | nil=>rfl
      | cons q r ih =>
        obtain ⟨⟨j,p⟩,g⟩:=q
        simp only [Pr,List.map_cons]
        split
        · simp only [Kj,ih]
        · exact ih
    have hall:G3 (fun g=>o.any fun q=>q.2 == g) (Pr o i)=true:=by
      have:∀ ov:Ov,(∀ p g,(p,some g)∈ov→(o.any fun q=>q.2 == g)=true)→G3 (fun g=>o.any fun q=>q.2 == g) ov=true:=fun ov=>by
        induction ov with
        | nil=>intro _; rfl
        | cons e r ih =>
          obtain ⟨p,og⟩:=e
          intro hh
          cases og with
          | none=>simp only [G3]; exact ih fun p g hm=>hh p g (by simp [hm])
          | some g=>simp only [G3,Bool.and_eq_true]; exact ⟨hh p g (by simp),ih fun p g hm=>hh p g (by simp [hm])⟩
      refine this _ fun p g hm => ?_
      obtain ⟨g',e,hm'⟩:=N2.1 hm
      cases e
      exact List.any_eq_true.2 ⟨_,hm',by simp⟩
    have hf':∀ g s,(o.any fun q=>q.2 == g)=true→ρ g=some s→ρ' (f g)=some s:=fun g s hg hs=>by
      obtain ⟨q,hq,he⟩:=List.any_eq_true.1 hg
      have:q.2=g:=by simpa using he
      subst this
      exact hf q s hq hs
    cases hu:Wu u with
    | true =>
      cases u with
      | dat τ x ov =>
        have:=Zl.names hf' (.dat τ x (Pr o i)) (by simp only [Up]; exact hall) h1
        simpa only [J6,hmap,Rv] using this
      | _=>cases hu
    | false =>
      rw [Mr hu] at h1 ⊢
      obtain ⟨q1,q2⟩:=hp u (List.mem_cons_self ..) hu
      have:=Zl.names hf' u (q1 _) h1
      rwa [q2] at this
end
end Go.Proofs.YtjobjooccgledaaGreatDoor.Ghost
namespace Go.Proofs.YtjobjooccgledaaGreatDoor.Ghost
open Go
section
variable {A:Nat→Prop} {ρ ρ':Xf} {w:World}
theorem Zs.set {o:Vm} {τ:Ty} {x x':den τ} {ov ov':Ov}:(us:List SV)→(i0 i:Nat)→{vals:List Value}→us[i]?=some (.dat τ x ov) →
    (∀ cs,Zm A ρ w τ x (Pr o (i0+i)) cs→Zm A ρ w τ x' (Pr o (i0+i)) cs)→Zs A ρ w (J9 o i0 us) vals→Zs A ρ w (J9 o i0 (us.set i (.dat τ x' ov'))) vals
  | [],_,_,_,h,_,_=>by simp at h
  | u :: r,i0,0,vals,h,hx,hr=>by
    simp at h
    subst h
    rw [Jq] at hr
    simp only [List.set_cons_zero,Jq,Zs] at hr ⊢
    obtain ⟨v,vs',rfl,h1,h2⟩:=hr
    refine ⟨v,vs',rfl,?_,h2⟩
    simp only [Rv,Zl] at h1 ⊢
    obtain ⟨cs,k1,k2⟩:=h1
    exact ⟨cs,hx cs k1,k2⟩
  | u :: r,i0,i+1,vals,h,hx,hr=>by
    rw [Jq] at hr
    simp only [List.set_cons_succ,Jq,Zs] at hr ⊢
    obtain ⟨v,vs',rfl,h1,h2⟩:=hr
    exact ⟨v,vs',rfl,h1,Zs.set r (i0+1) i (by simpa using h) (by rw [show i0+1+i=i0+(i+1) by omega]; exact hx) h2⟩
def AOk (keep1:Vm) (us us':List SV):Prop:=us'.length=us.length∧∀ i:Nat,(∀ τ x ov,us[i]?=some (.dat τ x ov)→∃ x',us'[i]?=some (.dat τ x' (ov ++ Pr keep1 i)))∧(∀ u,us[i]?=some u→Wu u=false→us'[i]?=some u)
theorem Bt {keep:Vm}:(keep1:Vm)→(us:List SV)→{us':List SV}→{es:Eff}→{vals:List Value}→Tt us keep1=some (us',es)→(∀ q,q∈keep1→q∈keep)→Zs A ρ w (J9 keep 0 us) vals →
    Zs A ρ w (J9 keep 0 us') vals∧AOk keep1 us us'
  | [],us,us',es,vals,hg,_,hr=>by
    simp only [Tt,Option.some.injEq,Prod.mk.injEq] at hg
    obtain ⟨rfl,rfl⟩:=hg
    exact ⟨hr,rfl,fun i=>⟨fun τ x ov h=>⟨x,by simpa [Pr] using h⟩,fun u h _=>h⟩⟩
  | ((i,p),k) :: r,us,us',es,vals,hg,hk,hr=>by
    simp only [Tt] at hg
    split at hg
    · rename_i τ x ov hu
      split at hg
      · rename_i e l hp
        split at hg
        · rename_i x' hx'
          split at hg
          · rename_i us1 es1 h1
            simp only [Option.some.injEq,Prod.mk.injEq] at hg
            obtain ⟨rfl,rfl⟩:=hg
            have hr':=Zs.set (x':=x') (ov':=ov ++ [(p,some k)]) us 0 i hu (fun cs hc=>Zm.setOwn τ p hc ⟨k,by rw [Nat.zero_add]; exact N2.2 ⟨k,rfl,hk _ (by simp)⟩⟩ hx') hr
            obtain ⟨g1,g2,g3⟩:=Bt r _ h1 (fun q hq=>hk q (by simp [hq])) hr'
            have hlt:i<us.length:=(List.getElem?_eq_some_iff.1 hu).1
            refine ⟨g1,by rw [g2]; simp,fun j=>⟨fun τ' y ov1 hj => ?_,fun u hj hd => ?_⟩⟩
            · by_cases hij:i=j
              · subst hij
                rw [hu] at hj
                cases hj
                obtain ⟨y',hy'⟩:=(g3 i).1 τ x' (ov ++ [(p,some k)]) (List.getElem?_set_self hlt)
                refine ⟨y',?_⟩
                rw [hy']
                simp [Pr]
              · obtain ⟨y',hy'⟩:=(g3 j).1 τ' y ov1 (by rw [List.getElem?_set_ne hij]; exact hj)
                refine ⟨y',?_⟩
                rw [hy']
                simp [Pr,hij]
            · have hij:i≠j:=fun e=>by
                subst e
                rw [hu] at hj
                cases hj
                cases hd
              exact (g3 j).2 u (by rw [List.getElem?_set_ne hij]; exact hj) hd
          · cases hg
        · cases hg
      · cases hg
    · cases hg
theorem AOk.rep {keep:Vm}:(us us':List SV)→(i0:Nat)→{vals:List Value}→us'.length=us.length →
    (∀ i:Nat,(∀ τ x ov,us[i]?=some (.dat τ x ov)→ov=[]∧∃ x',us'[i]?=some (.dat τ x' (Pr keep (i0+i))))∧(∀ u,us[i]?=some u→Wu u=false→us'[i]?=some u)) →
    Zs A ρ w (J9 keep i0 us') vals→Zs A ρ w us' vals
  | [],[],_,_,_,_,hr=>hr
  | u :: r,u' :: r',i0,vals,hl,hk,hr=>by
    rw [Jq] at hr
    simp only [Zs] at hr ⊢
    obtain ⟨v,vs',rfl,h1,h2⟩:=hr
    refine ⟨v,vs',rfl,?_,AOk.rep r r' (i0+1) (by simpa using hl) (fun i => ?_) h2⟩
    · cases hd:Wu u with
      | true =>
        cases u with
        | dat τ x ov =>
          obtain ⟨_,x',hx'⟩:=(hk 0).1 τ x ov rfl
          simp at hx'
          subst hx'
          exact h1
        | _=>cases hd
      | false =>
        have:=(hk 0).2 u rfl hd
        simp at this
        subst this
        rwa [Mr hd] at h1
    · have:=hk (i+1)
      simp only [List.getElem?_cons_succ] at this
      rw [show i0+(i+1)=i0+1+i by omega] at this
      exact this
  | [],_ :: _,_,_,hl,_,_=>by simp at hl
  | _ :: _,[],_,_,hl,_,_=>by simp at hl
end
end Go.Proofs.YtjobjooccgledaaGreatDoor.Ghost
namespace Go.Proofs.YtjobjooccgledaaGreatDoor.Ghost
open Go
section
variable {P:Program} {w:World} {B:Nat} {w0:Y6} {A:Nat→Prop} {ρ:Xf} {own:Nat→Option Nat} {h:Nat→Obj}
def Bf:Obj→Obj
  | .arr e l=>.frz e l
  | .box τ x ov=>.fbox τ x ov
  | .boxv v=>.fboxv v
  | o=>o
theorem E4:(e e':Eff)→(h:Nat→Obj)→X7 h (e ++ e')=X7 (X7 h e) e'
  | [],_,_=>rfl
  | (g,o) :: r,e',h=>by simp only [List.cons_append,X7]; exact E4 r e' _
theorem Ia:(ids:List Nat)→(h0 h:Nat→Obj)→{es:Eff}→(∀ i,h i=h0 i∨h i=Bf (h0 i))→Qe h0 ids=some es→X7 h es=fun i=>if i∈ids then Bf (h0 i) else h i
  | [],h0,h,es,_,hf=>by
    simp only [Qe,Option.some.injEq] at hf
    subst hf
    funext i; simp [X7]
  | g :: r,h0,h,es,hh,hf=>by
    have step:∀ (es1:Eff) (o':Obj),Qe h0 r=some es1→o'=Bf (h0 g)→X7 h ((g,o') :: es1)=fun i=>if i∈g :: r then Bf (h0 i) else h i:=fun es1 o' h1 h2=>by
      have:=Ia r h0 (fun i=>if i=g then o' else h i) (es:=es1) (fun i=>by
        by_cases hi:i=g
        · subst hi; rw [if_pos rfl]; exact .inr h2
        · rw [if_neg hi]; exact hh i) h1
      simp only [X7,this]
      funext i
      by_cases hr:i∈r
      · simp [hr]
      · by_cases hi:i=g
        · subst hi; simp [hr,h2]
        · simp [hr,hi]
    have same:∀ es1:Eff,Qe h0 r=some es1→Bf (h0 g)=h0 g→X7 h es1=fun i=>if i∈g :: r then Bf (h0 i) else h i:=fun es1 h1 h2=>by
      rw [Ia r h0 h hh h1]
      funext i
      by_cases hr:i∈r
      · simp [hr]
      · by_cases hi:i=g
        · subst hi
          have:h i=Bf (h0 i):=by
            rcases hh i with h3 | h3
            · rw [h3,h2]
            · exact h3
          simp [hr,this]
        · simp [hr,hi]
    simp only [Qe] at hf
    split at hf
    · rename_i e l hg
      split at hf
      · rename_i es1 h1
        simp only [Option.some.injEq] at hf
        subst hf
        exact step es1 _ h1 (by rw [hg]; rfl)
      · cases hf
    · rename_i e l hg; exact same es hf (by rw [hg]; rfl)
    · rename_i τ x ov hg
      split at hf
      · rename_i es1 h1
        simp only [Option.some.injEq] at hf
        subst hf
        exact step es1 _ h1 (by rw [hg]; rfl)
      · cases hf
    · rename_i v hg
      split at hf
      · rename_i es1 h1
        simp only [Option.some.injEq] at hf
        subst hf
        exact step es1 _ h1 (by rw [hg]; rfl)
      · cases hf
    · rename_i hg; exact same es hf (by rw [hg]; rfl)
    · rename_i hg; exact same es hf (by rw [hg]; rfl)
    · cases hf
theorem Of:(ids:List Nat)→{es:Eff}→Qe h ids=some es→∀ g,g∈ids→h g≠.none
  | [],_,_,g,hg=>by cases hg
  | g :: r,es,hf,i,hi=>by
    have key:∀ es1,Qe h r=some es1→h g≠.none→h i≠.none:=fun es1 h1 h2=>by
      rcases List.mem_cons.1 hi with rfl | hi
      · exact h2
      · exact Of r h1 i hi
    simp only [Qe] at hf
    split at hf
    · rename_i hg; split at hf
      · rename_i es1 h1; exact key es1 h1 (by rw [hg]; simp)
      · cases hf
    · rename_i hg; exact key es hf (by rw [hg]; simp)
    · rename_i hg; split at hf
      · rename_i es1 h1; exact key es1 h1 (by rw [hg]; simp)
      · cases hf
    · rename_i hg; split at hf
      · rename_i es1 h1; exact key es1 h1 (by rw [hg]; simp)
      · cases hf
    · rename_i hg; exact key es hf (by rw [hg]; simp)
    · rename_i hg; exact key es hf (by rw [hg]; simp)
    · cases hf
def AE6 (A:Nat→Prop) (own:Nat→Option Nat) (ids:List Nat):Nat→Prop:=fun b=>A b∨∃ g,g∈ids∧own b=some g
def AQv (own:Nat→Option Nat) (ids:List Nat):Nat→Option Nat:=fun b=>match own b with
  | some g=>if g∈ids then none else some g
  | none=>none
theorem Ms {ids:List Nat} {b g:Nat}:AQv own ids b=some g↔own b=some g∧g ∉ ids:=by
  unfold AQv
  cases own b with
  | none=>simp
  | some g' =>
    simp only []
    split
    · rename_i hg
      simp only [reduceCtorEq,Option.some.injEq,false_iff,not_and,Decidable.not_not]
      rintro rfl; exact hg
    · rename_i hg
      simp only [Option.some.injEq]
      constructor
      · rintro rfl; exact ⟨rfl,hg⟩
      · exact fun h=>h.1
theorem St.freezeL (st:St B w0 A ρ own w h) {ids:List Nat} {es:Eff} (hf:Qe h ids=some es) :
    St B w0 (AE6 A own ids) ρ (AQv own ids) w (X7 h es)∧X9 A ρ w (AE6 A own ids) ρ w:=by
  have hl:X9 A ρ w (AE6 A own ids) ρ w:=⟨fun b hb=>.inl hb,fun _ _ h=>h,fun _ _=>rfl⟩
  rw [Ia ids h h (fun _=>.inl rfl) hf]
  refine ⟨st.turn (fun i=>i∈ids) hl (fun _ _ _ _=>rfl) (fun b g' h1 h2=>Ms.2 ⟨h1,h2⟩) (fun _ _ h1=>h1) (fun i hi=>if_neg hi) (fun i hi => ?_) (fun i hi => ?_) (fun b g' h1 hA => ?_)
    (fun b hA => ?_) (fun b g' h1=>st.oldO _ _ (Ms.1 h1).1) (fun b g' h1=>st.base _ _ (Ms.1 h1).1) (RowKit.Below.refl B w) (fun b h1=>h1.imp id (fun ⟨g,_,e⟩=>st.base _ _ e)),hl⟩
  · show Vn _ _ _ _ _ (if i∈ids then Bf (h i) else h i)
    rw [if_pos hi]
    have ob:=st.objs i
    have hS:∀ s cs,Own own w i s cs→ADq (AE6 A own ids) w s cs:=fun s cs hm=>⟨.inr ⟨i,hi,hm.1⟩,hm.2.1⟩
    have hk:=Of ids hf i hi
    cases ho:h i with
    | box τ x ov =>
      rw [ho] at ob
      obtain ⟨sp,cs,n1,n2,n3,n4,n5,n6⟩:=ob
      exact ⟨sp,cs,n1,n2,n3,n4,hS _ _ n5,hl.repC n6⟩
    | boxv u =>
      rw [ho] at ob
      obtain ⟨sp,v,n1,n2,n3,n4,n5,n6,n7⟩:=ob
      exact ⟨sp,v,n1,n2,n3,n4,n5,hS _ _ n6,hl.repV n7⟩
    | arr e l =>
      rw [ho] at ob
      obtain ⟨sp,n1,n2,n3,n4,n5,n6,n7,n8,n9⟩:=ob
      refine ⟨sp,n1,n2,n3,n4,n5,n6,n7,n8,fun hc => ?_⟩
      obtain ⟨cs,m1,m2,m3⟩:=n9 hc
      exact ⟨cs,m1,hS _ _ m2,fun i hi=>hl.repC (m3 i hi)⟩
    | fbox τ x ov =>
      rw [ho] at ob
      obtain ⟨sp,cs,n1,n2,n3,n4,⟨m1,m2⟩,n6⟩:=ob
      exact ⟨sp,cs,n1,n2,n3,n4,⟨.inl m1,m2⟩,hl.repC n6⟩
    | fboxv u =>
      rw [ho] at ob
      obtain ⟨sp,v,n1,n2,n3,n4,n5,⟨m1,m2⟩,n7⟩:=ob
      exact ⟨sp,v,n1,n2,n3,n4,n5,⟨.inl m1,m2⟩,hl.repV n7⟩
    | frz e l =>
      rw [ho] at ob
      obtain ⟨sp,n1,n2,n3,n4,n5,n6,n7,n8,n9⟩:=ob
      refine ⟨sp,n1,n2,n3,n4,n5,n6,n7,n8,fun hc => ?_⟩
      obtain ⟨cs,m1,⟨q1,q2⟩,m3⟩:=n9 hc
      exact ⟨cs,m1,⟨.inl q1,q2⟩,fun i hi=>hl.repC (m3 i hi)⟩
    | map κ ν l =>
      exfalso
      have:∀ (ids:List Nat) (es:Eff),Qe h ids=some es→i∈ids→False:=by
        intro ids
        induction ids with
        | nil=>intro _ _ hm; cases hm
        | cons g r ih =>
          intro es hf hm
          simp only [Qe] at hf
          rcases List.mem_cons.1 hm with rfl | hm
          · rw [ho] at hf; cases hf
          · split at hf
            · split at hf
              · rename_i es1 h1; exact ih es1 h1 hm
              · cases hf
            · exact ih es hf hm
            · split at hf
              · rename_i es1 h1; exact ih es1 h1 hm
              · cases hf
            · split at hf
              · rename_i es1 h1; exact ih es1 h1 hm
              · cases hf
            · exact ih es hf hm
            · exact ih es hf hm
            · cases hf
      exact this ids es hf hi
    | hid=>trivial
    | dead=>trivial
    | none=>exact absurd ho hk
  · show (if i∈ids then Bf (h i) else h i)≠.none
    rw [if_pos hi]
    have hk:=Of ids hf i hi
    cases ho:h i <;> simp_all [Bf]
  · obtain ⟨h1,h2⟩:=Ms.1 h1
    rcases hA with hA | ⟨g,hg,hA⟩
    · exact st.apart _ _ h1 hA
    · rw [h1] at hA; cases hA; exact h2 hg
  · rcases hA with hA | ⟨g,hg,hA⟩
    · exact st.old b hA
    · exact st.oldO _ _ hA
end
end Go.Proofs.YtjobjooccgledaaGreatDoor.Ghost
namespace Go.Proofs.YtjobjooccgledaaGreatDoor.Ghost
open Go
theorem L5:{p q:Z8}→(Z5 p q=true↔p=q)
  | [],[]=>by simp [Z5]
  | [],_ :: _=>by simp [Z5]
  | _ :: _,[]=>by simp [Z5]
  | i :: p,j :: q=>by
    simp only [Z5,Bool.and_eq_true,L5 (p:=p) (q:=q),List.cons.injEq,Nat.beq_eq]
theorem Mt {a b:Nat×Z8}:(Nat.beq a.1 b.1 && Z5 a.2 b.2)=true↔a=b:=by
  rw [Bool.and_eq_true,L5,Nat.beq_eq,Prod.ext_iff]
def Je:List Value→Value
  | [v]=>v
  | vs=>.tuple vs.toArray
structure Ub (A:Nat→Prop) (w w':World) (us:List SV) (fr:Zz) (vals:List Value) (A':Nat→Prop) (ρ':Xf) (own':Nat→Option Nat) (o:Vm):Prop where
  keys:o.map (·.1)=fr
  ids:(o.map (·.2)).Nodup
  kn:(o.map (·.1)).Nodup
  rep:Zs A' ρ' w' (J9 o 0 us) vals
  arr:∀ q,q∈o→∃ τ x e,∃ l:List (den e),us[q.1.1]?=some (.dat τ x [])∧getP q.1.2 τ x=some ⟨.sl e,l⟩∧V4 A' ρ' w' q.2 e l (Own own' w' q.2)
  own:∀ b g,own' b=some g→¬ A' b∧w.heap.size≤b∧b<w'.heap.size
  imm:∀ b,A' b→(A b∨w.heap.size≤b)∧b<w'.heap.size
def Ht (A:Nat→Prop) (w w':World) (us:List SV) (fr:Zz) (vals:List Value):Prop :=
  RowKit.Below w.heap.size w w'∧∃ A' ρ' own' o,Ub A w w' us fr vals A' ρ' own' o
def Y2 (P:Program) (f:FuncId):Bool:=match P.funcs[f]? with
  | some fn => fn.name != "runtime.NumGoroutine" && fn.body.isSome
  | none=>false
def Vw (P:Program) (cf:Calls):Prop:=∀ (f:FuncId) (args:List SV) (res:List Sh) (r:Xc res×Zz),cf f args res=some r→Y2 P f=true ∧
  ∀ (w:World) (A:Nat→Prop) (vs:List Value),(∀ b,A b→b<w.heap.size)→Yq A w→Zs A (fun _=>none) w args vs →
    Go.Calls P f vs.toArray w (fun e w'=>∃ vals,e=.returned (Je vals)∧Ht A w w' (V5 res r.1) r.2 vals)
section
variable {P:Program} {o:Oper} {a:Act} {w w':World} {B:Nat} {w0:Y6} {A:Nat→Prop} {ρ:Xf} {own:Nat→Option Nat} {h:Nat→Obj} {s:Nat→SV}
theorem Zs.ovc {ρ:Xf} {o o2:Vm} (ho:∀ e,e∈o↔e∈o2):(us:List SV)→(i:Nat)→{vals:List Value}→Zs A ρ w (J9 o i us) vals→Zs A ρ w (J9 o2 i us) vals
  | [],_,_,hr=>hr
  | u :: r,i,vals,hr=>by
    rw [Jq] at hr ⊢
    simp only [Zs] at hr ⊢
    obtain ⟨v,vs',rfl,h1,h2⟩:=hr
    refine ⟨v,vs',rfl,?_,Zs.ovc ho r (i+1) h2⟩
    cases hd:Wu u with
    | true =>
      cases u with
      | dat τ x ov =>
        simp only [Rv,Zl] at h1 ⊢
        obtain ⟨cs,k1,k2⟩:=h1
        refine ⟨cs,Zm.ov τ (fun ⟨p,og⟩ => ?_) k1,k2⟩
        rw [N2,N2]
        constructor
        · rintro ⟨g,h1,h2⟩; exact ⟨g,h1,(ho _).1 h2⟩
        · rintro ⟨g,h1,h2⟩; exact ⟨g,h1,(ho _).2 h2⟩
      | _=>cases hd
    | false =>
      rw [Mr hd] at h1 ⊢
      exact h1
theorem Zs.resAll {A2:Nat→Prop} {ρ':Xf} {us:List SV} {vals:List Value}:(un o:Vm)→(∀ q,q∈un→∃ τ x e,∃ l:List (den e),us[q.1.1]?=some (.dat τ x [])∧getP q.1.2 τ x=some ⟨.sl e,l⟩∧∀ v,Uc ρ' q.2 v→ADo A2 ρ' w e l v) →
    Zs A2 ρ' w (J9 (un ++ o) 0 us) vals→Zs A2 ρ' w (J9 o 0 us) vals
  | [],_,_,hr=>hr
  | ((i,p),g) :: r,o,hp,hr=>by
    refine Zs.resAll r o (fun q hq=>hp q (by simp [hq])) (Zs.res us 0 (fun τ x ov hx _ => ?_) hr)
    obtain ⟨τ',x',e,l,h1,h2,h3⟩:=hp ((i,p),g) (by simp)
    rw [Nat.sub_zero] at hx
    rw [hx] at h1
    cases h1
    exact ⟨e,l,h2,h3⟩
theorem Tg {α β:Type} {f:α→β}:{l:List α}→(l.map f).Nodup→∀ {a b:α},a∈l→b∈l→f a=f b→a=b
  | [],_,_,_,h,_,_=>by cases h
  | x :: r,hn,a,b,ha,hb,he=>by
    simp only [List.map_cons,List.nodup_cons,List.mem_map,not_exists,not_and] at hn
    rcases List.mem_cons.1 ha with e1 | ha1
    · rcases List.mem_cons.1 hb with e2 | hb1
      · rw [e1,e2]
      · subst e1; exact absurd he.symm (hn.1 b hb1)
    · rcases List.mem_cons.1 hb with e2 | hb1
      · subst e2; exact absurd he (hn.1 a ha1)
      · exact Tg hn.2 ha1 hb1 he
open Classical in
noncomputable def idOf (o keep:Vm) (k:Nat):Option Nat:=if h:∃ g,∃ key,(key,k)∈keep∧(key,g)∈o then some h.choose else none
open Classical in
noncomputable def nameOf (o keep:Vm) (g:Nat):Option Nat:=if h:∃ k,∃ key,(key,k)∈keep∧(key,g)∈o then some h.choose else none
theorem AIc {o keep:Vm} (h1:(keep.map (·.2)).Nodup) (h2:(o.map (·.1)).Nodup) {key:Nat×Z8} {k g:Nat} (hk:(key,k)∈keep) (hg:(key,g)∈o):idOf o keep k=some g:=by
  have h:∃ g,∃ key,(key,k)∈keep∧(key,g)∈o:=⟨g,key,hk,hg⟩
  unfold idOf
  rw [dif_pos h]
  obtain ⟨key',a1,a2⟩:=h.choose_spec
  have e1:=Tg h1 hk a1 rfl
  cases e1
  have e2:=Tg h2 hg a2 rfl
  rw [Option.some.injEq]
  exact (Prod.mk.inj e2).2.symm
theorem AA5 {o keep:Vm} {k:Nat} (h:∀ key,(key,k) ∉ keep):idOf o keep k=none:=by
  unfold idOf
  rw [dif_neg]
  rintro ⟨g,key,h1,_⟩
  exact h key h1
theorem ABj {o keep:Vm} (h1:(o.map (·.2)).Nodup) (h2:(keep.map (·.1)).Nodup) {key:Nat×Z8} {k g:Nat} (hk:(key,k)∈keep) (hg:(key,g)∈o):nameOf o keep g=some k:=by
  have h:∃ k,∃ key,(key,k)∈keep∧(key,g)∈o:=⟨k,key,hk,hg⟩
  unfold nameOf
  rw [dif_pos h]
  obtain ⟨key',a1,a2⟩:=h.choose_spec
  have e1:=Tg h1 hg a2 rfl
  cases e1
  have e2:=Tg h2 hk a1 rfl
  rw [Option.some.injEq]
  exact (Prod.mk.inj e2).2.symm
theorem Dj {o keep:Vm} {g k:Nat} (h:nameOf o keep g=some k):∃ key,(key,k)∈keep∧(key,g)∈o:=by
  unfold nameOf at h
  split at h
  · rename_i hx
    rw [Option.some.injEq] at h
    have:=hx.choose_spec
    rw [h] at this
    exact this
  · cases h
noncomputable def Ww (ρ ρ':Xf) (o keep:Vm):Xf:=fun j=>match idOf o keep j with
  | some g=>ρ' g
  | none=>ρ j
noncomputable def H3 (own own':Nat→Option Nat) (z:Nat) (o keep:Vm):Nat→Option Nat:=fun b=>if b<z then own b else match own' b with
  | some g=>nameOf o keep g
  | none=>none
def Ud (A:Nat→Prop) (z z':Nat) (own2:Nat→Option Nat):Nat→Prop:=fun b=>if b<z then A b else b<z'∧own2 b=none
end
end Go.Proofs.YtjobjooccgledaaGreatDoor.Ghost
namespace Go.Proofs.YtjobjooccgledaaGreatDoor.Ghost
open Go
section
variable {P:Program} {o:Oper} {a:Act} {w w':World} {B:Nat} {w0:Y6} {A A1 A':Nat→Prop} {ρ ρ':Xf} {own own1 own':Nat→Option Nat} {h h1 h2:Nat→Obj} {s:Nat→SV} {us:List SV} {frs:Zz} {vals:List Value} {ks keep:Vm}
theorem Ub.sub (fr:Ub A1 w w' us frs vals A' ρ' own' ks):∀ b,A' b→Ud A1 w.heap.size w'.heap.size (H3 own1 own' w.heap.size ks keep) b:=fun b hb=>by
  obtain ⟨k1,k2⟩:=fr.imm b hb
  unfold Ud
  by_cases hlt:b<w.heap.size
  · rw [if_pos hlt]
    rcases k1 with k1 | k1
    · exact k1
    · omega
  · rw [if_neg hlt]
    refine ⟨k2,?_⟩
    unfold H3
    rw [if_neg hlt]
    cases ho:own' b with
    | none=>rfl
    | some g=>exact absurd hb (fr.own b g ho).1
theorem St.called (st:St B w0 A1 ρ own1 w h1) (hb:RowKit.Below w.heap.size w w') (fr:Ub A1 w w' us frs vals A' ρ' own' ks) (hk1:(keep.map (·.2)).Nodup) (hk2:(keep.map (·.1)).Nodup)
    (hin:∀ q,q∈keep→∃ g,(q.1,g)∈ks) (hfree:∀ q,q∈keep→h1 q.2=.none) (hh:∀ i,(∀ key,(key,i) ∉ keep)→h2 i=h1 i)
    (hobj:∀ q,q∈keep→∃ τ x e,∃ l:List (den e),us[q.1.1]?=some (.dat τ x [])∧getP q.1.2 τ x=some ⟨.sl e,l⟩∧h2 q.2=.arr e l) :
    St B w0 (Ud A1 w.heap.size w'.heap.size (H3 own1 own' w.heap.size ks keep)) (Ww ρ ρ' ks keep) (H3 own1 own' w.heap.size ks keep) w' h2 ∧
      X9 A1 ρ w (Ud A1 w.heap.size w'.heap.size (H3 own1 own' w.heap.size ks keep)) (Ww ρ ρ' ks keep) w':=by
  have hBw:B≤w.heap.size:=Nat.le_trans st.hB st.below.size
  have hkn:∀ g s,ρ g=some s→∀ key,(key,g) ∉ keep:=fun g s hs key hm=>by
    have:=st.free (hfree _ hm)
    simp only [] at this
    rw [this] at hs; cases hs
  have hl:X9 A1 ρ w (Ud A1 w.heap.size w'.heap.size (H3 own1 own' w.heap.size ks keep)) (Ww ρ ρ' ks keep) w':=by
    refine ⟨fun b hA => ?_,fun g s hs => ?_,fun b hA=>hb.block b (st.old b hA)⟩
    · unfold Ud; rw [if_pos (st.old b hA)]; exact hA
    · unfold Ww; rw [AA5 (hkn g s hs)]; exact hs
  refine ⟨st.turn (fun i=>∃ key,(key,i)∈keep) hl (fun b g h3 _=>hb.block b (st.oldO b g h3)) (fun b g h3 _ => ?_) (fun g hg h3 => ?_) (fun i hi=>hh i (fun key hm=>hi ⟨key,hm⟩)) (fun k hk => ?_) (fun k hk => ?_)
    (fun b g h3 hA => ?_) (fun b hA => ?_) (fun b g h3 => ?_) (fun b g h3 => ?_) (hb.mono hBw) (fun b h3 => ?_),hl⟩
  · unfold H3; rw [if_pos (st.oldO b g h3)]; exact h3
  · unfold Ww; rw [AA5 (fun key hm=>hg ⟨key,hm⟩)]; exact h3
  · obtain ⟨key,hm⟩:=hk
    obtain ⟨τ,x,e,l,g1,g2,g3⟩:=hobj _ hm
    obtain ⟨g,hg⟩:=hin _ hm
    obtain ⟨τ',x',e',l',f1,f2,f3⟩:=fr.arr _ hg
    simp only [] at g1 f1 g2 f2 g3 f3
    rw [g1] at f1
    cases f1
    rw [g2] at f2
    cases f2
    rw [g3]
    obtain ⟨sp,n1,n2,n3,n4,n5,n6,n7,n8,n9⟩:=f3
    refine ⟨sp,?_,n2,n3,n4,n5,n6,n7,n8,fun hc => ?_⟩
    · unfold Ww; rw [AIc hk1 fr.kn hm hg]; exact n1
    · obtain ⟨cs,m1,⟨o1,o2,o3⟩,m3⟩:=n9 hc
      refine ⟨cs,m1,⟨?_,o2,o3⟩,fun i hi=>Zm.lift fr.sub (m3 i hi)⟩
      have:=fr.own _ _ o1
      unfold H3
      rw [if_neg (by omega),o1]
      exact ABj fr.ids hk2 hm hg
  · obtain ⟨key,hm⟩:=hk
    obtain ⟨τ,x,e,l,g1,g2,g3⟩:=hobj _ hm
    simp only [] at g3
    rw [g3]; simp
  · unfold Ud at hA
    by_cases hlt:b<w.heap.size
    · rw [if_pos hlt] at hA
      unfold H3 at h3
      rw [if_pos hlt] at h3
      exact st.apart _ _ h3 hA
    · rw [if_neg hlt] at hA
      rw [hA.2] at h3; cases h3
  · unfold Ud at hA
    by_cases hlt:b<w.heap.size
    · exact Nat.lt_of_lt_of_le hlt hb.size
    · rw [if_neg hlt] at hA; exact hA.1
  · unfold H3 at h3
    by_cases hlt:b<w.heap.size
    · exact Nat.lt_of_lt_of_le hlt hb.size
    · rw [if_neg hlt] at h3
      cases ho:own' b with
      | none=>simp [ho] at h3
      | some g'=>exact (fr.own b g' ho).2.2
  · unfold H3 at h3
    by_cases hlt:b<w.heap.size
    · rw [if_pos hlt] at h3; exact st.base _ _ h3
    · omega
  · unfold Ud at h3
    by_cases hlt:b<w.heap.size
    · rw [if_pos hlt] at h3; exact .inl h3
    · exact .inr (by omega)
theorem Ub.kept (fr:Ub A1 w w' us frs vals A' ρ' own' ks) (hk1:(keep.map (·.2)).Nodup) (hk2:(keep.map (·.1)).Nodup) (hin:∀ q,q∈keep→∃ g,(q.1,g)∈ks)
    (hpure:∀ u,u∈us→Wu u=false→(∀ p,Up p u=true)∧(∀ f,J6 f u=u)) :
    Zs (Ud A1 w.heap.size w'.heap.size (H3 own1 own' w.heap.size ks keep)) (Ww ρ ρ' ks keep) w' (J9 keep 0 us) vals:=by
  classical
  have hsub:=fr.sub (own1:=own1) (keep:=keep)
  have h1:=Zs.mono hsub (fun _ _ h=>h) (fun _ _=>rfl) _ fr.rep
  let kq:(Nat×Z8)×Nat→Bool:=fun q=>(nameOf ks keep q.2).isSome
  have h2:=Zs.ovc (o2:=ks.filter (fun q => !(kq q)) ++ ks.filter kq) (fun e=>by
    simp only [List.mem_append,List.mem_filter]
    cases kq e <;> simp) us 0 h1
  have h3:=Zs.resAll (ks.filter (fun q => !(kq q))) (ks.filter kq) (fun q hq=>by
    obtain ⟨hm,hn⟩:=List.mem_filter.1 hq
    obtain ⟨τ,x,e,l,f1,f2,f3⟩:=fr.arr q hm
    refine ⟨τ,x,e,l,f1,f2,V4.plain hsub (fun s cs hO=>⟨?_,hO.2.1⟩) f3⟩
    have ho:=fr.own _ _ hO.1
    unfold Ud
    rw [if_neg (by omega)]
    refine ⟨ho.2.2,?_⟩
    unfold H3
    rw [if_neg (by omega),hO.1]
    have:(nameOf ks keep q.2).isSome=false:=by simpa [kq] using hn
    simpa using this) h2
  have h4:=Zs.renamed (ρ':=Ww ρ ρ' ks keep) (f:=fun g=>(nameOf ks keep g).getD 0) (o:=ks.filter kq) (fun q s hq hs=>by
    obtain ⟨hm,hn⟩:=List.mem_filter.1 hq
    obtain ⟨k,hk⟩:=Option.isSome_iff_exists.1 hn
    simp only [hk,Option.getD_some]
    obtain ⟨key,a1,a2⟩:=Dj hk
    unfold Ww
    rw [AIc hk1 fr.kn a1 a2]
    exact hs) us 0 hpure h3
  refine Zs.ovc (fun e => ?_) us 0 h4
  simp only [List.mem_map,List.mem_filter]
  constructor
  · rintro ⟨q,⟨hm,hn⟩,rfl⟩
    obtain ⟨k,hk⟩:=Option.isSome_iff_exists.1 hn
    obtain ⟨key,a1,a2⟩:=Dj hk
    have:=Tg fr.ids hm a2 rfl
    have hkey:q.1=key:=congrArg Prod.fst this
    simp only [hk,Option.getD_some,hkey]
    exact a1
  · intro he
    obtain ⟨g,hg⟩:=hin e he
    have:=ABj fr.ids hk2 (k:=e.2) (key:=e.1) he hg
    exact ⟨(e.1,g),⟨hg,by simp [kq,this]⟩,by simp [this]⟩
end
end Go.Proofs.YtjobjooccgledaaGreatDoor.Ghost
namespace Go.Proofs.YtjobjooccgledaaGreatDoor.Ghost
open Go
mutual
theorem Zm.noSl {A A2:Nat→Prop} {ρ ρ2:Xf} {w w2:World}:(τ:Ty)→{x:den τ}→{ov ov2:Ov}→{cs:List Value}→noSl τ=true→Zm A ρ w τ x ov cs→Zm A2 ρ2 w2 τ x ov2 cs
  | .bool,_,_,_,_,_,h=>by simpa only [Zm] using h
  | .int _,_,_,_,_,_,h=>by simpa only [Zm] using h
  | .str,_,_,_,_,_,h=>by simpa only [Zm] using h
  | .sl _,_,_,_,_,hn,_=>by simp [Ghost.noSl] at hn
  | .arr n e,_,_,_,_,hn,h=>by
    simp only [Ghost.noSl] at hn
    simp only [Zm] at h ⊢
    exact ⟨h.1,h.2.1,fun i hi=>Zm.noSl e hn (h.2.2 i hi)⟩
  | .st fs,_,_,_,_,hn,h=>by
    simp only [Ghost.noSl] at hn
    simp only [Zm] at h ⊢
    exact Xs.noSl fs hn h
theorem Xs.noSl {A A2:Nat→Prop} {ρ ρ2:Xf} {w w2:World}:(fs:List Ty)→{j:Nat}→{x:K7 fs}→{ov ov2:Ov}→{cs:List Value}→AIi fs=true→Xs A ρ w fs j x ov cs→Xs A2 ρ2 w2 fs j x ov2 cs
  | [],_,_,_,_,_,_,h=>by simpa only [Xs] using h
  | t :: r,_,_,_,_,_,hn,h=>by
    simp only [AIi,Bool.and_eq_true] at hn
    simp only [Xs] at h ⊢
    exact ⟨Zm.noSl t hn.1 h.1,Xs.noSl r hn.2 h.2⟩
end
theorem Aq {A A2:Nat→Prop} {ρ ρ2:Xf} {w w2:World} {o:Vm}:(res:List Sh)→(x:Xc res)→(i:Nat)→{vals:List Value}→L7 res=true→Zs A ρ w (J9 o i (V5 res x)) vals→Zs A2 ρ2 w2 (V5 res x) vals
  | [],_,_,_,_,h=>by simpa only [V5,J9,Zs] using h
  | .d τ :: r,x,i,vals,ht,h=>by
    simp only [L7,Bool.and_eq_true] at ht
    simp only [V5,inj,Jq,Rv,Zs] at h ⊢
    obtain ⟨v,vs',rfl,h1,h2⟩:=h
    refine ⟨v,vs',rfl,?_,Aq r x.2 (i+1) ht.2 h2⟩
    simp only [Zl] at h1 ⊢
    obtain ⟨cs,k1,k2⟩:=h1
    exact ⟨cs,Zm.noSl τ ht.1 k1,k2⟩
  | .ref _ :: _,_,_,_,ht,_=>by simp [L7] at ht
  | .refv _ :: _,_,_,_,ht,_=>by simp [L7] at ht
  | .selfc _ _ :: _,_,_,_,ht,_=>by simp [L7] at ht
  | .clo _ _ :: _,_,_,_,ht,_=>by simp [L7] at ht
  | .nilfn :: _,_,_,_,ht,_=>by simp [L7] at ht
  | .agv _ :: _,_,_,_,ht,_=>by simp [L7] at ht
  | .slv _ :: _,_,_,_,ht,_=>by simp [L7] at ht
  | .fmap _ _ :: _,_,_,_,ht,_=>by simp [L7] at ht
mutual
theorem Bo:(s:Sh)→(x:dSh s)→(∀ p,Up p (inj s x)=true)∧(∀ f,J6 f (inj s x)=inj s x)
  | .d τ,x=>⟨fun _=>rfl,fun _=>rfl⟩
  | .ref τ,x=>⟨fun _=>rfl,fun _=>rfl⟩
  | .refv s,x=>by
    obtain ⟨h1,h2⟩:=Bo s x
    exact ⟨fun p=>by simp only [inj,Up]; exact h1 p,fun f=>by simp only [inj,J6,h2 f]⟩
  | .selfc f l,x=>by
    obtain ⟨h1,h2⟩:=Td l x
    exact ⟨fun p=>by simp only [inj,Up]; exact h1 p,fun f=>by simp only [inj,J6,h2 f]⟩
  | .clo f l,x=>by
    obtain ⟨h1,h2⟩:=Td l x
    exact ⟨fun p=>by simp only [inj,Up]; exact h1 p,fun f=>by simp only [inj,J6,h2 f]⟩
  | .nilfn,x=>⟨fun _=>rfl,fun _=>rfl⟩
  | .agv l,x=>by
    obtain ⟨h1,h2⟩:=Td l x
    exact ⟨fun p=>by simp only [inj,Up]; exact h1 p,fun f=>by simp only [inj,J6,h2 f]⟩
  | .fmap ks l,x=>by
    obtain ⟨h1,h2⟩:=Td l x
    exact ⟨fun p=>by simp only [inj,Up]; exact h1 p,fun f=>by simp only [inj,J6,h2 f]⟩
  | .slv l,x=>by
    obtain ⟨h1,h2⟩:=Td l x
    exact ⟨fun p=>by simp only [inj,Up]; exact h1 p,fun f=>by simp only [inj,J6,h2 f]⟩
theorem Td:(l:List Sh)→(x:Xc l)→(∀ p,Nc p (V5 l x)=true)∧(∀ f,V2 f (V5 l x)=V5 l x)
  | [],_=>⟨fun _=>rfl,fun _=>rfl⟩
  | s :: r,x=>by
    obtain ⟨h1,h2⟩:=Bo s x.1
    obtain ⟨h3,h4⟩:=Td r x.2
    exact ⟨fun p=>by simp only [V5,Nc,h1 p,h3 p,Bool.and_self],fun f=>by simp only [V5,V2,h2 f,h4 f]⟩
end
theorem I1:(l:List Sh)→(x:Xc l)→∀ u,u∈V5 l x→∃ s,∃ y:dSh s,u=inj s y
  | [],_,u,hu=>by simp [V5] at hu
  | s :: r,x,u,hu=>by
    simp only [V5,List.mem_cons] at hu
    rcases hu with rfl | hu
    · exact ⟨s,x.1,rfl⟩
    · exact I1 r x.2 u hu
theorem AId {s:Sh} {x:dSh s} {τ:Ty} {y:den τ} {ov:Ov} (h:inj s x=.dat τ y ov):ov=[]:=by
  cases s <;> simp only [inj] at h <;> cases h
  rfl
end Go.Proofs.YtjobjooccgledaaGreatDoor.Ghost
namespace Go.Proofs.YtjobjooccgledaaGreatDoor.Ghost
open Go
section
variable {P:Program} {o:Oper} {a:Act} {w:World} {B:Nat} {w0:Y6} {A:Nat→Prop} {ρ:Xf} {own:Nat→Option Nat} {h:Nat→Obj} {s:Nat→SV}
def Ig (o:Oper) (f:Opd) (args:List Opd):Bool:=match o.op with
  | .call c=>(match c.callee with | .value g=>Xp f g | _=>false) && Jt args c.args.toList
  | _=>false
theorem AB9 {f:Opd} {args:List Opd} (hc:Ig o f args=true):∃ c g,o.op=.call c∧c.callee=.value g∧Xp f g=true∧Jt args c.args.toList=true:=by
  unfold Ig at hc
  split at hc
  · rename_i c ho
    simp only [Bool.and_eq_true] at hc
    cases hb:c.callee with
    | builtin b'=>simp [hb] at hc
    | value g=>simp only [hb] at hc; exact ⟨c,g,ho,hb,hc.1,hc.2⟩
    | invoke f m=>simp [hb] at hc
  · cases hc
theorem Ag {c:Call} {g:Operand} {fid:FuncId} {caps:Array Value} (ho:o.op=.call c) (hb:c.callee=.value g) (hg:a.eval g=.func (.func fid) #[] caps) (hcl:Y2 P fid=true) :
    (execOp a.eval o).run P w=.ok (.enter fid (c.args.map a.eval ++ caps)) w:=by
  unfold Y2 at hcl
  cases hf:P.funcs[fid]? with
  | none=>simp [hf] at hcl
  | some fn =>
    simp only [hf,Bool.and_eq_true,bne_iff_ne,ne_eq] at hcl
    have hn:fn.body.isNone=false:=by
      cases hbd:fn.body with
      | none=>simp [hbd] at hcl
      | some b=>rfl
    simp [execOp,ho,Go.resolve,hb,hg,Deferred.ofValue,invoke,callFunc,hf,hcl.1]
    intro hbd
    simp [hbd] at hn
theorem Zs.append {us us':List SV}:{vs vs':List Value}→Zs A ρ w us vs→Zs A ρ w us' vs'→Zs A ρ w (us ++ us') (vs ++ vs'):=by
  induction us with
  | nil=>intro vs vs' h1 h2; simp only [Zs] at h1; subst h1; exact h2
  | cons u r ih =>
    intro vs vs' h1 h2
    simp only [Zs] at h1
    obtain ⟨v,vs1,rfl,g1,g2⟩:=h1
    simp only [List.cons_append,Zs]
    exact ⟨v,vs1 ++ vs',rfl,g1,ih g2 h2⟩
theorem AHh {us:List SV} {vs:List Value} (hr:Zs A ρ w us vs):Zl A ρ w (Ni us) (Je vs):=by
  match us,vs,hr with
  | [],vs,hr =>
    simp only [Zs] at hr
    subst hr
    simp only [Ni,Je,Zl]
    exact ⟨[],rfl,by simp only [Zs]⟩
  | [u],vs,hr =>
    simp only [Zs] at hr
    obtain ⟨v,vs',rfl,h1,rfl⟩:=hr
    exact h1
  | u :: u' :: r,vs,hr =>
    have hr':=hr
    simp only [Zs] at hr'
    obtain ⟨v,vs',rfl,h1,v',vs'',rfl,h2,h3⟩:=hr'
    simp only [Ni,Je,Zl]
    exact ⟨_,rfl,hr⟩
theorem AA8:(keep:Vm)→{us us':List SV}→{es:Eff}→Tt us keep=some (us',es)→(∀ q,q∈es→∃ key,(key,q.1)∈keep)∧es.map (·.1)=keep.map (·.2)
  | [],us,us',es,hg=>by
    simp only [Tt,Option.some.injEq,Prod.mk.injEq] at hg
    obtain ⟨rfl,rfl⟩:=hg
    simp
  | ((i,p),k) :: r,us,us',es,hg=>by
    simp only [Tt] at hg
    split at hg
    · split at hg
      · split at hg
        · split at hg
          · rename_i us1 es1 h1
            simp only [Option.some.injEq,Prod.mk.injEq] at hg
            obtain ⟨rfl,rfl⟩:=hg
            obtain ⟨k1,k2⟩:=AA8 r h1
            refine ⟨fun q hq => ?_,by simp [k2]⟩
            rcases List.mem_cons.1 hq with rfl | hq
            · exact ⟨(i,p),by simp⟩
            · obtain ⟨key,hk⟩:=k1 q hq
              exact ⟨key,by simp [hk]⟩
          · cases hg
        · cases hg
      · cases hg
    · cases hg
theorem P1:(es:Eff)→{h:Nat→Obj}→{i:Nat}→(∀ q,q∈es→q.1≠i)→X7 h es i=h i
  | [],_,_,_=>rfl
  | (g,o) :: r,h,i,hn=>by
    simp only [X7]
    rw [P1 r (fun q hq=>hn q (by simp [hq]))]
    exact if_neg (fun e=>hn (g,o) (by simp) e.symm)
theorem ACr {fr:Zz} {k:Nat×Z8}:Zp fr k=true↔k∈fr:=by
  simp only [Zp,List.any_eq_true]
  constructor
  · rintro ⟨f,h1,h2⟩
    have:=Mt.1 h2
    subst this; exact h1
  · intro hk; exact ⟨k,hk,Mt.2 rfl⟩
theorem I4 {fr:Zz}:(keep:Vm)→Zq fr keep=true→(∀ q,q∈keep→q.1∈fr)∧(keep.map (·.1)).Nodup
  | [],_=>by simp
  | (k,g) :: r,hk=>by
    simp only [Zq,Bool.and_eq_true,Bool.not_eq_true'] at hk
    obtain ⟨⟨h1,h2⟩,h3⟩:=hk
    obtain ⟨k1,k2⟩:=I4 r h3
    refine ⟨fun q hq => ?_,?_⟩
    · rcases List.mem_cons.1 hq with rfl | hq
      · exact ACr.1 h1
      · exact k1 q hq
    · simp only [List.map_cons,List.nodup_cons,List.mem_map,not_exists,not_and]
      refine ⟨fun q hq e => ?_,k2⟩
      have:=List.any_eq_false.1 h2 q hq
      rw [e] at this
      exact this (Mt.2 rfl)
theorem Ld:(keep:Vm)→Hh h keep=true→(∀ q,q∈keep→h q.2=.none)∧(keep.map (·.2)).Nodup
  | [],_=>by simp
  | (key,k) :: r,hk=>by
    simp only [Hh,Bool.and_eq_true,Bool.not_eq_true'] at hk
    obtain ⟨⟨h1,h2⟩,h3⟩:=hk
    obtain ⟨k1,k2⟩:=Ld r h2
    refine ⟨fun q hq => ?_,?_⟩
    · rcases List.mem_cons.1 hq with rfl | hq
      · split at h1
        · assumption
        · cases h1
      · exact k1 q hq
    · simp only [List.map_cons,List.nodup_cons,List.mem_map,not_exists,not_and]
      refine ⟨fun q hq e => ?_,k2⟩
      have:=List.any_eq_false.1 h3 q hq
      rw [e] at this
      simp at this
end
end Go.Proofs.YtjobjooccgledaaGreatDoor.Ghost
namespace Go.Proofs.YtjobjooccgledaaGreatDoor.Ghost
open Go
theorem Oh:(fs:List Ty)→(i j:Nat)→(p:Z8)→(x x':K7 fs)→(d:Dyn)→Ko fs i p x d=some x'→j≠i→Gs fs j x'=Gs fs j x
  | [],_,_,_,_,_,_,h,_=>by simp [Ko] at h
  | t :: r,0,0,_,_,_,_,_,hne=>absurd rfl hne
  | t :: r,0,j+1,p,x,x',d,h,_=>by
    simp only [Ko] at h
    split at h
    · simp only [Option.some.injEq] at h; subst h; rfl
    · cases h
  | t :: r,i+1,0,p,x,x',d,h,_=>by
    simp only [Ko] at h
    split at h
    · simp only [Option.some.injEq] at h; subst h; rfl
    · cases h
  | t :: r,i+1,j+1,p,x,x',d,h,hne=>by
    simp only [Ko] at h
    split at h
    · rename_i y hy
      simp only [Option.some.injEq] at h
      subst h
      exact Oh r i j p x.2 y d hy (by omega)
    · cases h
mutual
theorem Oi {e' e:Ty} {l':List (den e')} {l:List (den e)}:(τ:Ty)→(p q:Z8)→(x x':den τ)→setP τ p x ⟨.sl e',l'⟩=some x'→getP q τ x'=some ⟨.sl e,l⟩→q≠p→getP q τ x=some ⟨.sl e,l⟩
  | τ,[],[],_,_,_,_,hne=>absurd rfl hne
  | τ,[],j :: q,x,x',hs,hg,_=>by
    have hc:Jc (.sl e') τ l'=some x':=by cases τ <;> simpa only [setP] using hs
    have:=U8 hc
    subst this
    simp [getP] at hg
  | τ,i :: p,[],x,x',hs,hg,_=>by
    have:(⟨.sl e,l⟩:Dyn)=⟨τ,x'⟩:=by cases τ <;> first | (simp [getP] at hg; done) | simpa [getP,eq_comm] using hg
    cases this
    simp [setP] at hs
  | .st fs,i :: p,j :: q,x,x',hs,hg,hne=>by
    simp only [setP] at hs
    simp only [getP] at hg ⊢
    by_cases hij:j=i
    · subst hij
      exact Nv fs j p q x x' hs hg (fun e=>hne (by rw [e]))
    · rw [Oh fs i j p x x' _ hs hij] at hg
      exact hg
  | .arr n t,i :: p,j :: q,x,x',hs,hg,hne=>by
    simp only [setP] at hs
    simp only [getP] at hg ⊢
    split at hs
    · rename_i y hy
      simp only [Option.some.injEq] at hs
      subst hs
      by_cases hij:i=j
      · subst hij
        by_cases hl:i<List.length x
        · have:List.getD (List.set x i y) i (dft t)=y:=by
            rw [List.getD_eq_getElem?_getD,List.getElem?_set_self hl]; rfl
          rw [this] at hg
          exact Oi t p q _ y hy hg (fun e=>hne (by rw [e]))
        · have:List.getD (List.set x i y) i (dft t)=List.getD x i (dft t):=by
            rw [List.getD_eq_getElem?_getD,List.getD_eq_getElem?_getD,List.getElem?_eq_none (by simpa using hl),List.getElem?_eq_none (by simpa using hl)]
          rw [this] at hg
          exact hg
      · have:List.getD (List.set x i y) j (dft t)=List.getD x j (dft t):=by
          rw [List.getD_eq_getElem?_getD,List.getElem?_set_ne hij,← List.getD_eq_getElem?_getD]
        rw [this] at hg
        exact hg
    · cases hs
  | .bool,_ :: _,_ :: _,_,_,hs,_,_=>by simp [setP] at hs
  | .int _,_ :: _,_ :: _,_,_,hs,_,_=>by simp [setP] at hs
  | .str,_ :: _,_ :: _,_,_,hs,_,_=>by simp [setP] at hs
  | .sl _,_ :: _,_ :: _,_,_,hs,_,_=>by simp [setP] at hs
theorem Nv {e' e:Ty} {l':List (den e')} {l:List (den e)}:(fs:List Ty)→(i:Nat)→(p q:Z8)→(x x':K7 fs)→Ko fs i p x ⟨.sl e',l'⟩=some x' →
    (match Gs fs i x' with | some d=>getP q d.τ d.x | none=>none)=some ⟨.sl e,l⟩→q≠p→(match Gs fs i x with | some d=>getP q d.τ d.x | none=>none)=some ⟨.sl e,l⟩
  | [],_,_,_,_,_,hs,_,_=>by simp [Ko] at hs
  | t :: r,0,p,q,x,x',hs,hg,hne=>by
    simp only [Ko] at hs
    split at hs
    · rename_i y hy
      simp only [Option.some.injEq] at hs
      subst hs
      simp only [Gs] at hg ⊢
      exact Oi t p q x.1 y hy hg hne
    · cases hs
  | t :: r,i+1,p,q,x,x',hs,hg,hne=>by
    simp only [Ko] at hs
    split at hs
    · rename_i y hy
      simp only [Option.some.injEq] at hs
      subst hs
      simp only [Gs] at hg ⊢
      exact Nv r i p q x.2 y hy hg hne
    · cases hs
end
theorem Br:(keep:Vm)→{us us':List SV}→{es:Eff}→Tt us keep=some (us',es)→(keep.map (·.1)).Nodup →
    ∀ q,q∈keep→∃ τ x ov e,∃ l:List (den e),us[q.1.1]?=some (.dat τ x ov)∧getP q.1.2 τ x=some ⟨.sl e,l⟩∧(q.2,Obj.arr e l)∈es
  | [],_,_,_,_,_,q,hq=>by cases hq
  | ((i,p),k) :: r,us,us',es,hg,hn,q,hq=>by
    simp only [List.map_cons,List.nodup_cons,List.mem_map,not_exists,not_and] at hn
    simp only [Tt] at hg
    split at hg
    · rename_i τ x ov hu
      split at hg
      · rename_i e l hp
        split at hg
        · rename_i x' hx'
          split at hg
          · rename_i us1 es1 h1
            simp only [Option.some.injEq,Prod.mk.injEq] at hg
            obtain ⟨rfl,rfl⟩:=hg
            rcases List.mem_cons.1 hq with rfl | hq
            · exact ⟨τ,x,ov,e,l,hu,hp,by simp⟩
            · obtain ⟨τ2,x2,ov2,e2,l2,g1,g2,g3⟩:=Br r h1 hn.2 q hq
              by_cases hij:i=q.1.1
              · have hlt:i<us.length:=(List.getElem?_eq_some_iff.1 hu).1
                rw [← hij,List.getElem?_set_self hlt] at g1
                cases g1
                have hne:q.1.2≠p:=fun e=>hn.1 q hq (by rw [Prod.ext_iff]; exact ⟨hij.symm,e⟩)
                exact ⟨τ,x,ov,e2,l2,by rw [← hij]; exact hu,Oi τ p q.1.2 x x' hx' g2 hne,by simp [g3]⟩
              · rw [List.getElem?_set_ne hij] at g1
                exact ⟨τ2,x2,ov2,e2,l2,g1,g2,by simp [g3]⟩
          · cases hg
        · cases hg
      · cases hg
    · cases hg
theorem ADy:(es:Eff)→{h:Nat→Obj}→{k:Nat}→{o:Obj}→(es.map (·.1)).Nodup→(k,o)∈es→X7 h es k=o
  | [],_,_,_,_,hm=>by cases hm
  | (g,o') :: r,h,k,o,hn,hm=>by
    simp only [List.map_cons,List.nodup_cons,List.mem_map,not_exists,not_and] at hn
    simp only [X7]
    rcases List.mem_cons.1 hm with e | hm
    · cases e
      rw [P1 r (fun q hq=>hn.1 q hq)]
      exact if_pos rfl
    · exact ADy r hn.2 hm
end Go.Proofs.YtjobjooccgledaaGreatDoor.Ghost
namespace Go.Proofs.YtjobjooccgledaaGreatDoor.Ghost
open Go
theorem Av:(res:List Sh)→(x:Xc res)→(i:Nat)→J9 [] i (V5 res x)=V5 res x
  | [],_,_=>rfl
  | s :: r,x,i=>by
    simp only [V5,Jq,Av r x.2 (i+1)]
    congr 1
    cases s <;> rfl
section
variable {P:Program} {o:Oper} {a:Act} {w:World} {B:Nat} {w0:Y6} {A:Nat→Prop} {ρ:Xf} {own:Nat→Option Nat} {h:Nat→Obj} {s:Nat→SV}
theorem AD1 (st:St B w0 A ρ own w h) {ids:List Nat} {es es':Eff} {keep:Vm} {res:List Sh} {r:Xc res×Zz} {us':List SV} {vals:List Value} {w':World}
    (hf:Qe h ids=some es) (hk1:Zq r.2 keep=true) (hk2:Hh h keep=true) (hkg:Tt (V5 res r.1) keep=some (us',es')) (hr:Ht (AE6 A own ids) w w' (V5 res r.1) r.2 vals) :
    ∃ A2 ρ2 own2,St B w0 A2 ρ2 own2 w' (X7 h (es ++ es'))∧X9 A ρ w A2 ρ2 w'∧Zs A2 ρ2 w' us' vals:=by
  obtain ⟨hb,A',ρ',own',ks,fr⟩:=hr
  obtain ⟨st1,l1⟩:=St.freezeL st hf
  obtain ⟨q1,q2⟩:=I4 keep hk1
  obtain ⟨q3,q4⟩:=Ld keep hk2
  obtain ⟨q5,q6⟩:=AA8 keep hkg
  have hin:∀ q,q∈keep→∃ g,(q.1,g)∈ks:=fun q hq=>by
    have:=q1 q hq
    rw [← fr.keys,List.mem_map] at this
    obtain ⟨e,e1,e2⟩:=this
    exact ⟨e.2,by rw [← e2]; exact e1⟩
  have hobj:∀ q,q∈keep→∃ τ x e,∃ l:List (den e),(V5 res r.1)[q.1.1]?=some (.dat τ x [])∧getP q.1.2 τ x=some ⟨.sl e,l⟩∧X7 (X7 h es) es' q.2=.arr e l:=fun q hq=>by
    obtain ⟨τ,x,ov,e,l,g1,g2,g3⟩:=Br keep hkg q2 q hq
    obtain ⟨s,y,hy⟩:=I1 res r.1 _ (List.mem_of_getElem? g1)
    have:=AId hy.symm
    subst this
    exact ⟨τ,x,e,l,g1,g2,ADy es' (by rw [q6]; exact q4) g3⟩
  obtain ⟨st2,l2⟩:=St.called (h2:=X7 (X7 h es) es') (keep:=keep) st1 hb fr q4 q2 hin (fun q hq=>by
      rw [Ia ids h h (fun _=>.inl rfl) hf]
      have:=q3 q hq
      simp only [this,Bf,ite_self]) (fun i hi=>P1 es' (fun q hq e=>by
        obtain ⟨key,hkey⟩:=q5 q hq
        rw [e] at hkey
        exact hi key hkey)) hobj
  have hv1:=Ub.kept (own1:=AQv own ids) (ρ:=ρ) fr q4 q2 hin (fun u hu _=>by
    obtain ⟨s,y,rfl⟩:=I1 res r.1 u hu
    exact Bo s y)
  obtain ⟨hv2,hl,hkp⟩:=Bt keep _ hkg (fun q hq=>hq) hv1
  have hv3:=AOk.rep (keep:=keep) (V5 res r.1) us' 0 hl (fun i=>⟨fun τ x ov hi=>by
    obtain ⟨s,y,hy⟩:=I1 res r.1 _ (List.mem_of_getElem? hi)
    have:=AId hy.symm
    subst this
    refine ⟨rfl,?_⟩
    obtain ⟨x',hx'⟩:=(hkp i).1 τ x [] hi
    exact ⟨x',by rw [hx']; simp⟩,(hkp i).2⟩) hv2
  rw [E4]
  exact ⟨_,_,_,st2,l1.trans l2,hv3⟩
theorem AD2 (st:St B w0 A ρ own w h) {A1:Nat→Prop} {res:List Sh} {r:Xc res×Zz} {vals:List Value} {w':World} (ht:L7 res=true) (hr:Ht A1 w w' (V5 res r.1) r.2 vals) :
    ∃ A2 ρ2 own2,St B w0 A2 ρ2 own2 w' h∧X9 A ρ w A2 ρ2 w'∧Zs A2 ρ2 w' (V5 res r.1) vals:=by
  obtain ⟨hb,A',ρ',own',ks,fr⟩:=hr
  have fr2:Ub A w w' (V5 res r.1) [] vals (fun _=>False) (fun _=>none) (fun _=>none) [] :=
    ⟨rfl,by simp,by simp,(by rw [Av]; exact Aq res r.1 0 ht fr.rep),(fun q hq=>by cases hq),(fun b g hg=>by cases hg),(fun b hb=>hb.elim)⟩
  obtain ⟨st2,l2⟩:=St.called (h2:=h) (keep:=[]) st hb fr2 (by simp) (by simp) (fun q hq=>by cases hq) (fun q hq=>by cases hq) (fun i _=>rfl) (fun q hq=>by cases hq)
  exact ⟨_,_,_,st2,l2,Aq res r.1 0 ht fr.rep⟩
theorem AJt (st:St B w0 A ρ own w h) (hs:Xh A ρ w s a) {cf:Calls} (hcf:Vw P cf) {f:Opd} {args:List Opd} {res:List Sh} {keep:Vm} (hc:Ig o f args=true) {R:Type} {K:SV→Eff→Option R} {r:R}
    {opt:Bool} (hg:Pg cf h (evO s f) (args.map (evO s)) res keep opt K=some r):∃ v e,K v e=some r∧Zw P o a w B w0 A ρ v (X7 h e):=by
  obtain ⟨c,g,ho,hcal,hfo,hao⟩:=AB9 hc
  have k1:=X4 hs hfo
  have k2:=Rl hs hao
  unfold Pg at hg
  split at hg
  case h_2=>cases hg
  case h_3=>cases hg
  rename_i fid caps hclo
  rw [hclo] at k1
  simp only [Zl] at k1
  obtain ⟨capv,hgv,k3⟩:=k1
  have k4:=Zs.append k2 k3
  split at hg
  case h_2=>cases hg
  rename_i as ids hlend
  cases hcr:cf fid as res with
  | none=>rw [hcr] at hg; simp at hg
  | some x =>
    rw [hcr] at hg
    simp only [Option.bind_some] at hg
    obtain ⟨hcl,hcalls⟩:=hcf fid as res x hcr
    have hargs:=(Uv (Aw:=AE6 A own ids) (ρ':=fun _=>none) (fun b hb=>.inl hb) st.objs 60 _ hlend (fun g hg b hb=>.inr ⟨g,hg,hb⟩) k4).1
    have hrun:=hcalls w (AE6 A own ids) _ (fun b hb=>by
      rcases hb with hb | ⟨g',_,hb⟩
      · exact st.old b hb
      · exact st.oldO b g' hb) (st.glob.mono (fun b hb=>.inl hb) (fun _ _=>rfl)) hargs
    have hex:=Ag (P:=P) (w:=w) ho hcal hgv hcl
    have good:∀ (us':List SV) (h':Nat→Obj),(∀ w' vals,Ht (AE6 A own ids) w w' (V5 res x.1) x.2 vals→∃ A2 ρ2 own2,St B w0 A2 ρ2 own2 w' h'∧X9 A ρ w A2 ρ2 w'∧Zs A2 ρ2 w' us' vals) →
        Zw P o a w B w0 A ρ (Ni us') h':=fun us' h' hh next Q K=>by
      unfold Oper.wp
      rw [hex,Oper.upon_enter]
      have:c.args.map a.eval ++ capv.toArray=(c.args.toList.map a.eval ++ capv).toArray:=by
        rw [← List.toArray_appendList]
        simp
      rw [this]
      refine Calls.mono hrun (fun e w' he => ?_)
      obtain ⟨vals,rfl,hres⟩:=he
      obtain ⟨A2,ρ2,own2,st2,l2,hv⟩:=hh w' vals hres
      exact K _ _ _ _ _ st2 l2 (AHh hv)
    have fin:∀ keep:Vm,Zq x.2 keep=true→Hh h keep=true→M9 h ids res x.1 keep K=some r→∃ v e,K v e=some r∧Zw P o a w B w0 A ρ v (X7 h e):=fun keep hka hkf hg=>by
      unfold M9 at hg
      have full:∀ es:Eff,Qe h ids=some es→(match Tt (V5 res x.1) keep with
          | some (vs,es')=>K (Ni vs) (es ++ es')
          | none=>none)=some r→∃ v e,K v e=some r∧Zw P o a w B w0 A ρ v (X7 h e):=fun es hes hk=>by
        split at hk
        · rename_i us' es' hkg
          exact ⟨_,_,hk,good us' _ (fun w' vals hres=>AD1 st hes hka hkf hkg hres)⟩
        · cases hk
      cases ht:L7 res with
      | false =>
        rw [ht] at hg
        simp only [] at hg
        split at hg
        · rename_i es hes
          exact full es hes hg
        · cases hg
      | true =>
        rw [ht] at hg
        cases keep with
        | nil =>
          simp only [Tt,List.nil_append] at hg
          exact ⟨_,_,hg,good _ _ (fun w' vals hres=>AD2 st ht hres)⟩
        | cons q rest =>
          simp only [] at hg
          split at hg
          · rename_i es hes
            exact full es hes hg
          · cases hg
    cases hka:Zq x.2 keep with
    | true =>
      rw [hka,cond_true] at hg
      cases hkf:Hh h keep with
      | true=>rw [hkf,cond_true] at hg; exact fin keep hka hkf hg
      | false=>rw [hkf,cond_false] at hg; cases hg
    | false =>
      rw [hka,cond_false] at hg
      cases opt with
      | true=>exact fin [] rfl rfl hg
      | false=>cases hg
end
end Go.Proofs.YtjobjooccgledaaGreatDoor.Ghost
namespace Go.Proofs.YtjobjooccgledaaGreatDoor.Ghost
open Go
def Msk (h1 h2:Nat→Obj):Prop:=∀ g,h1 g=h2 g∨h1 g=.hid
section
variable {h1 h2:Nat→Obj}
theorem G5 (hm:Msk h1 h2) {τ:Ty}:(ov:Ov)→{x y:den τ}→Ghost.resolve h1 τ x ov=some y→Ghost.resolve h2 τ x ov=some y
  | [],_,_,he=>he
  | (_,none) :: _,_,_,he=>by simp [Ghost.resolve] at he
  | (q,some g) :: r,x,y,he=>by
    simp only [Ghost.resolve] at he ⊢
    rcases hm g with e | e
    · rw [e] at he
      split at he
      · rename_i e' l hg
        try simp only [hg]
        split at he
        · rename_i x1 hx1
          try simp only [hx1]
          exact G5 hm r he
        · cases he
      · rename_i e' l hg
        try simp only [hg]
        split at he
        · rename_i x1 hx1
          try simp only [hx1]
          exact G5 hm r he
        · cases he
      · cases he
    · rw [e] at he; cases he
mutual
theorem I7 (hm:Msk h1 h2):(n:Nat)→(v:SV)→{u:SV×List Nat}→Y0 h1 n v=some u→Y0 h2 n v=some u
  | 0,_,_,he=>by simp [Y0] at he
  | n+1,v,u,he=>by
    cases v with
    | dat τ x ov =>
      simp only [Y0] at he ⊢
      split at he
      · rename_i y hy; rw [G5 hm ov hy]; exact he
      · cases he
    | ptr g p =>
      simp only [Y0] at he ⊢
      rcases hm g with e | e
      · rw [e] at he
        split at he
        · rename_i τ x ov hg
          try simp only [hg]
          split at he
          · rename_i y hy; rw [G5 hm ov hy]; exact he
          · cases he
        · rename_i τ x ov hg
          try simp only [hg]
          split at he
          · rename_i y hy; rw [G5 hm ov hy]; exact he
          · cases he
        · rename_i v1 hg
          try simp only [hg]
          split at he
          · rename_i f caps hx
            try simp only [hx]
            split at he
            · rename_i us ids1 hl
              rw [G1 hm n caps hl]; exact he
            · cases he
          · rename_i hs
            try simp only [hs]
            split at he
            · rename_i x hx
              try simp only [hx]
              split at he
              · rename_i u1 ids1 hl
                rw [I7 hm n x hl]; exact he
              · cases he
            · cases he
        · rename_i v1 hg
          try simp only [hg]
          split at he
          · rename_i f caps hx
            try simp only [hx]
            split at he
            · rename_i us ids1 hl
              rw [G1 hm n caps hl]; exact he
            · cases he
          · rename_i hs
            try simp only [hs]
            split at he
            · rename_i x hx
              try simp only [hx]
              split at he
              · rename_i u1 ids1 hl
                rw [I7 hm n x hl]; exact he
              · cases he
            · cases he
        · cases he
      · rw [e] at he; cases he
    | ref τ x=>exact he
    | selfc f caps =>
      simp only [Y0] at he ⊢
      split at he
      · rename_i us ids1 hl; rw [G1 hm n caps hl]; exact he
      · cases he
    | refv v1 =>
      simp only [Y0] at he ⊢
      split at he
      · rename_i u1 ids1 hl; rw [I7 hm n v1 hl]; exact he
      · cases he
    | elp g i p=>simp [Y0] at he
    | glo k=>simp [Y0] at he
    | clo f caps =>
      simp only [Y0] at he ⊢
      split at he
      · rename_i us ids1 hl; rw [G1 hm n caps hl]; exact he
      · cases he
    | tup vs=>simp [Y0] at he
    | fmap ks vs=>simp [Y0] at he
    | slv vs0 =>
      simp only [Y0] at he ⊢
      split at he
      · rename_i us ids1 hl; rw [G1 hm n vs0 hl]; exact he
      · cases he
    | agv vs0 =>
      simp only [Y0] at he ⊢
      split at he
      · rename_i us ids1 hl; rw [G1 hm n vs0 hl]; exact he
      · cases he
    | nilfn=>exact he
    | und=>simp [Y0] at he
    | junk=>simp [Y0] at he
theorem G1 (hm:Msk h1 h2):(n:Nat)→(vs:List SV)→{u:List SV×List Nat}→We h1 n vs=some u→We h2 n vs=some u
  | 0,_,_,he=>by simp [We] at he
  | n+1,[],_,he=>he
  | n+1,v :: r,u,he=>by
    simp only [We] at he ⊢
    split at he
    · rename_i u1 ids1 hl
      rw [I7 hm n v hl]
      split at he
      · rename_i us ids2 hl2
        rw [G1 hm n r hl2]
        exact he
      · cases he
    · cases he
end
end
section
variable {h1 h2:Nat→Obj} (hm:Msk h1 h2) {R:Type}
include hm
theorem Gy:(ids:List Nat)→{es:Eff}→Qe h1 ids=some es→Qe h2 ids=some es
  | [],_,he=>he
  | g :: r,es,he=>by
    simp only [Qe] at he ⊢
    rcases hm g with e | e
    · rw [e] at he
      have key:∀ {es':Eff} {o:Obj},(match Qe h1 r with | some es=>some ((g,o) :: es) | none=>none)=some es'→(match Qe h2 r with | some es=>some ((g,o) :: es) | none=>none)=some es':=fun {es' o} hh=>by
        split at hh
        · rename_i es1 h3; rw [Gy r h3]; exact hh
        · cases hh
      split at he
      · exact key he
      · exact Gy r he
      · exact key he
      · exact key he
      · exact Gy r he
      · exact Gy r he
      · cases he
    · rw [e] at he; cases he
theorem Gj {k:Nat} (hk:h1 k=.none):h2 k=.none:=by
  rcases hm k with e | e
  · rw [← e]; exact hk
  · rw [hk] at e; cases e
theorem I5:(keep:Vm)→Hh h1 keep=true→Hh h2 keep=true
  | [],he=>he
  | (key,k) :: r,he=>by
    simp only [Hh,Bool.and_eq_true] at he ⊢
    obtain ⟨⟨k1,k2⟩,k3⟩:=he
    refine ⟨⟨?_,I5 r k2⟩,k3⟩
    split at k1
    · rename_i hk; rw [Gj hm hk]
    · cases k1
theorem Eg {τ:Ty} {x:den τ}:(l:List (Z8×Nat))→{u:Ov×Eff}→Rk τ x h1 l=some u→Rk τ x h2 l=some u
  | [],_,he=>he
  | (p,k) :: r,u,he=>by
    simp only [Rk] at he ⊢
    split at he
    · rename_i e' l' ov es hk hp ha hn
      simp only [Gj hm hk,hp,ha,Eg r hn]
      exact he
    · cases he
theorem AJ6 {a:SV} {K:SV→Option R} {r:R} (he:I9 h1 a K=some r):I9 h2 a K=some r:=by
  unfold I9 at he ⊢
  cases a with
  | ptr g p=>rcases hm g with e | e <;> simp only [e] at he ⊢ <;> first | exact he | cases he
  | elp g i p=>rcases hm g with e | e <;> simp only [e] at he ⊢ <;> first | exact he | cases he
  | _=>exact he
theorem AHn {a v:SV} {K:Eff→Option R} {r:R} (he:R9 h1 a v K=some r):R9 h2 a v K=some r:=by
  unfold R9 at he ⊢
  cases a with
  | ptr g p=>rcases hm g with e | e <;> simp only [e] at he ⊢ <;> first | exact he | cases he
  | elp g i p=>rcases hm g with e | e <;> simp only [e] at he ⊢ <;> first | exact he | cases he
  | _=>exact he
theorem AEn {t:FT} {j:Nat} {a:SV} {K:SV→Option R} {r:R} (he:Yb h1 t j a K=some r):Yb h2 t j a K=some r:=by
  unfold Yb at he ⊢
  cases t with
  | d σ =>
    cases σ with
    | st fs =>
      cases a with
      | ptr g p =>
        simp only [] at he ⊢
        cases hb:Nat.blt j fs.length with
        | false=>simp [hb] at he
        | true=>rcases hm g with e | e <;> simp only [hb,cond_true,e] at he ⊢ <;> first | exact he | cases he
      | elp g i p =>
        simp only [] at he ⊢
        cases hb:Nat.blt j fs.length with
        | false=>simp [hb] at he
        | true=>rcases hm g with e | e <;> simp only [hb,cond_true,e] at he ⊢ <;> first | exact he | cases he
      | _=>exact he
    | _=>exact he
  | v sizes =>
    cases a with
    | ptr g p=>rcases hm g with e | e <;> simp only [e] at he ⊢ <;> first | exact he | cases he
    | refv u=>cases u <;> exact he
    | _=>exact he
theorem ANm {x:SV} {K:SV→Option R} {r:R} (he:ACz h1 x K=some r):ACz h2 x K=some r:=by
  unfold ACz at he ⊢
  split at he
  · exact he
  · rename_i g
    rcases hm g with e | e <;> simp only [e] at he ⊢ <;> first | exact he | cases he
  · exact he
  · cases he
theorem AG5 {t:IT} {x i:SV} {K:SV→Option R} {r:R} (he:Uh t h1 x i K=some r):Uh t h2 x i K=some r:=by
  unfold Uh at he ⊢
  split at he
  · rename_i n _
    cases t with
    | sl σ =>
      simp only [] at he ⊢
      split at he
      · exact he
      · rename_i g
        rcases hm g with e | e <;> simp only [e] at he ⊢ <;> first | exact he | cases he
      · cases he
    | arr M σ =>
      simp only [] at he ⊢
      split at he
      · exact he
      · rename_i g p
        rcases hm g with e | e <;> simp only [e] at he ⊢ <;> first | exact he | cases he
      · cases he
    | slv sz=>exact he
  · cases he
theorem AAm {ids:List Nat} {res:List Sh} {x:Xc res} {keep:Vm} {K:SV→Eff→Option R} {r:R} (he:M9 h1 ids res x keep K=some r):M9 h2 ids res x keep K=some r:=by
  unfold M9 at he ⊢
  cases ht:L7 res with
  | false =>
    simp only [ht] at he ⊢
    split at he
    · rename_i es hes; rw [Gy hm ids hes]; exact he
    · cases he
  | true =>
    cases keep with
    | nil=>simp only [ht] at he ⊢; exact he
    | cons q rest =>
      simp only [ht] at he ⊢
      split at he
      · rename_i es hes; rw [Gy hm ids hes]; exact he
      · cases he
theorem AI7 {cf:Calls} {f:SV} {args:List SV} {res:List Sh} {keep:Vm} {opt:Bool} {K:SV→Eff→Option R} {r:R} (he:Pg cf h1 f args res keep opt K=some r):Pg cf h2 f args res keep opt K=some r:=by
  unfold Pg at he ⊢
  split at he
  · rename_i fid caps
    split at he
    · rename_i as ids hl
      simp only [G1 hm 60 _ hl]
      cases hcr:cf fid as res with
      | none=>rw [hcr] at he; simp at he
      | some x =>
        rw [hcr] at he
        simp only [Option.bind_some] at he ⊢
        cases hka:Zq x.2 keep with
        | true =>
          simp only [hka,cond_true] at he ⊢
          cases hkf:Hh h1 keep with
          | false=>simp [hkf] at he
          | true =>
            simp only [hkf,I5 hm keep hkf,cond_true] at he ⊢
            exact AAm hm he
        | false =>
          simp only [hka,cond_false] at he ⊢
          cases opt with
          | true=>exact AAm hm he
          | false=>cases he
    · cases he
  · cases he
  · cases he
theorem AQr {cf:Calls} {s:Nat→SV} {g:GOp} {K:SV→Eff→Option R} {r:R} (he:gop cf s h1 g K=some r):gop cf s h2 g K=some r:=by
  cases g with
  | mknil k e =>
    simp only [gop] at he ⊢
    split at he
    · rename_i hk; rw [Gj hm hk]; exact he
    · cases he
  | newbox k τ nils =>
    simp only [gop] at he ⊢
    split at he
    · rename_i hk hn ha; simp only [Gj hm hk,Eg hm nils hn,ha]; exact he
    · cases he
  | newboxv k z =>
    simp only [gop] at he ⊢
    split at he
    · rename_i hk hz; simp only [Gj hm hk,hz]; exact he
    · cases he
  | box k x =>
    simp only [gop] at he ⊢
    split at he
    · rename_i hk; rw [Gj hm hk]; exact he
    · cases he
  | load t a=>simp only [gop,Fa] at he ⊢; exact AJ6 hm he
  | store t a v =>
    simp only [gop] at he ⊢
    split at he
    · exact AHn hm he
    · cases he
  | fieldAddr t j a=>simp only [gop] at he ⊢; exact AEn hm he
  | index t x i=>simp only [gop] at he ⊢; exact AG5 hm he
  | len x=>simp only [gop] at he ⊢; exact ANm hm he
  | build τ parts nils =>
    simp only [gop] at he ⊢
    split at he
    · rename_i hn; simp only [Eg hm nils hn]; exact he
    · cases he
  | slice k e parts =>
    simp only [gop] at he ⊢
    split at he
    · rename_i hk hp; simp only [Gj hm hk,hp]; exact he
    · cases he
  | make k e n =>
    simp only [gop] at he ⊢
    split at he
    · rename_i hk hp; simp only [Gj hm hk,hp]; exact he
    · cases he
  | append k e x y =>
    simp only [gop] at he ⊢
    split at he
    · rename_i e0 x0 g σ l' ov' hx hy hk
      simp only [hx,hy,Gj hm hk]
      rcases hm g with e | e
      · rw [e] at he
        split at he
        · rename_i e1 l hg
          try simp only [hg]
          split at he
          · rename_i h3 h4 h5
            simp only [h3,h4,G5 hm ov' h5]
            exact he
          · cases he
        · cases he
      · rw [e] at he; cases he
    · cases he
  | mkmap k κ ν =>
    simp only [gop] at he ⊢
    split at he
    · rename_i hk; rw [Gj hm hk]; exact he
    · cases he
  | lookup κ ν m i =>
    simp only [gop] at he ⊢
    split at he
    · rename_i g σ y hx hy
      rcases hm g with e | e
      · rw [e] at he; exact he
      · rw [e] at he; cases he
    · cases he
  | mapset κ ν m i v =>
    simp only [gop] at he ⊢
    split at he
    · rename_i g σ y ρ z hx hy hz
      rcases hm g with e | e
      · rw [e] at he; exact he
      · rw [e] at he; cases he
    · cases he
  | mapent κ ν m i =>
    simp only [gop] at he ⊢
    split at he
    · rename_i g σ y hx hy
      rcases hm g with e | e
      · rw [e] at he; exact he
      · rw [e] at he; cases he
    · cases he
  | mapst κ ν m e v =>
    simp only [gop] at he ⊢
    split at he
    · rename_i g n ov ρ z hx hy hz
      rcases hm g with e | e
      · rw [e] at he; exact he
      · rw [e] at he; cases he
    · cases he
  | call f args res keep opt=>simp only [gop] at he ⊢; exact AI7 hm he
  | slx e x lo hi =>
    simp only [gop] at he ⊢
    split at he
    · rename_i e0 y g hx
      rcases hm g with e | e
      · rw [e] at he; exact he
      · rw [e] at he; cases he
    · exact he
    · cases he
  | slicearr M σ x =>
    simp only [gop] at he ⊢
    split at he
    · exact he
    · rename_i g hx
      rcases hm g with e | e
      · rw [e] at he; exact he
      · rw [e] at he; cases he
    · cases he
  | _=>exact he
end
theorem ANo (ids:List Nat) (h:Nat→Obj):Msk (Bw ids h) h:=fun g=>by
  unfold Bw
  cases ids.any (Nat.beq g) with
  | true=>exact .inl rfl
  | false=>exact .inr rfl
end Go.Proofs.YtjobjooccgledaaGreatDoor.Ghost
