/- Operations and calls do what the ghost's do. Conditions: none. -/
import Derived.Test.YtjobjooccgledaaDoorA2
import Derived.Laws.StructEq
import Derived.ChangeKeysEq
set_option linter.unusedVariables false
set_option linter.unusedSimpArgs false
set_option linter.unusedSectionVars false
set_option linter.unnecessarySimpa false
namespace Go.Proofs.YtjobjooccgledaaDoor.Ghost
open Go
mutual
def eqD:Ty→Nat
  | .arr _ e=>eqD e+1
  | .st fs=>eqDF fs+1
  | _=>1
def eqDF:List Ty→Nat
  | []=>0
  | t :: r=>eqD t+eqDF r
end
section
variable {P:Program} {o:Oper} {a:Act} {w:World} {B:Nat} {w0:Start} {A:Nat→Prop} {ρ:Refs} {own:Nat→Option Nat} {h:Nat→Obj} {s:Nat→SV}
mutual
def eqOk (P:Program):Ty→TypeId→Bool
  | .sl _,_=>false
  | .arr _ e,t=>(match P.underlying t with | some (.array _ e')=>eqOk P e e' | _=>false)
  | .st fs,t=>(match P.underlying t with | some (.struct l) => !(P.stoodInHeld t) && eqOkF P fs l.toList | _=>false)
  | _,_=>true
def eqOkF (P:Program):List Ty→List Field→Bool
  | [],[]=>true
  | t :: r, f :: s => decide (f.name ≠ "_") && eqOk P t f.type && eqOkF P r s
  | _,_=>false
end
theorem allEq_range {α:Type} {f:α→α→Bool} {d:α}:(l m:List α)→l.length=m.length→allEq f l m=(List.range l.length).all fun i=>f (l.getD i d) (m.getD i d)
  | [],[],_=>rfl
  | x :: r,y :: t,h=>by
    have:=allEq_range (f:=f) (d:=d) r t (by simpa using h)
    simp only [allEq,this,List.length_cons,List.range_succ_eq_map,List.all_cons,List.all_map]
    rfl
mutual
theorem equalIn_rep:(τ:Ty)→(d:Nat)→(t:TypeId)→{x y:den τ}→{cs ds:List Value}→descOk P τ t=true→eqOk P τ t=true→eqD τ≤d→RepC A ρ w τ x [] cs→RepC A ρ w τ y [] ds →
    (Op.equalIn d t (mkV τ cs) (mkV τ ds)).run P w=.ok (eqT τ x y) w
  | .bool,0,_,_,_,_,_,_,_,hd,_,_=>by simp [eqD] at hd
  | .bool,d+1,t,x,y,cs,ds,h,_,_,h1,h2=>by
    simp only [RepC] at h1 h2
    subst h1; subst h2
    simp only [descOk] at h
    split at h
    · rename_i hu
      exact run_equalIn_bool' w d t x y hu
    · cases h
  | .int k,0,_,_,_,_,_,_,_,hd,_,_=>by simp [eqD] at hd
  | .int k,d+1,t,x,y,cs,ds,h,_,_,h1,h2=>by
    simp only [RepC] at h1 h2
    subst h1; subst h2
    simp only [descOk] at h
    split at h
    · rename_i k' hu
      exact run_equalIn_int w d t k k' x y hu
    · cases h
  | .str,0,_,_,_,_,_,_,_,hd,_,_=>by simp [eqD] at hd
  | .str,d+1,t,x,y,cs,ds,h,_,_,h1,h2=>by
    simp only [RepC] at h1 h2
    subst h1; subst h2
    simp only [descOk] at h
    split at h
    · rename_i hu
      have:=run_equalIn_string (P:=P) w d t x y hu
      rw [← beq_toListBytes] at this
      exact this
    · cases h
  | .sl _,_,_,_,_,_,_,_,he,_,_,_=>by simp [eqOk] at he
  | .arr n e,0,_,_,_,_,_,_,_,hd,_,_=>by simp [eqD] at hd
  | .arr n e,d+1,t,x,y,cs,ds,h,he,hd,h1,h2=>by
    obtain ⟨e',u1,u2,u3,u4⟩:=descOk_arr h
    simp only [eqOk,u1] at he
    simp only [eqD] at hd
    obtain ⟨i,hi,hsz⟩:=sizeIs_spec u3
    have hc:P.cellsOf e'=tsize e:=by simp [Program.cellsOf,hi,hsz]
    simp only [RepC] at h1 h2
    have hr:=run_equalIn_array (P:=P) w d cs.toArray ds.toArray u1 hi
    rw [hc] at hr
    simp only [mkV,isAg]
    rw [hr]
    have items:∀ is:List Nat,(∀ i,i∈is→i<n)→(Op.eqItems d e' (tsize e) cs.toArray ds.toArray is).run P w=.ok (is.all fun i=>eqT e (List.getD x i (dft e)) (List.getD y i (dft e))) w:=by
      intro is
      induction is with
      | nil=>intro _; rfl
      | cons j r ih =>
        intro hj
        have hjn:=hj j (by simp)
        have p1:=run_part (P:=P) (cs:=cs.toArray) (off:=j * tsize e) u2 u3 (by simpa [ovSub,cut] using h1.2.2 j hjn)
        have p2:=run_part (P:=P) (cs:=ds.toArray) (off:=j * tsize e) u2 u3 (by simpa [ovSub,cut] using h2.2.2 j hjn)
        have h3:=equalIn_rep (x:=List.getD x j (dft e)) (y:=List.getD y j (dft e)) e d e' u2 he (by omega) (h1.2.2 j hjn) (h2.2.2 j hjn)
        simp only [Op.eqItems,Sem.run_bind,p1,p2,Result.andThen_ok]
        change ((Op.equalIn d e' (mkV e (List.take (tsize e) (List.drop (j * tsize e) cs))) (mkV e (List.take (tsize e) (List.drop (j * tsize e) ds)))).run P w).andThen _=_
        rw [h3]
        simp only [Result.andThen_ok,List.all_cons]
        generalize eqT e (List.getD x j (dft e)) (List.getD y j (dft e))=b
        cases b
        · rfl
        · rw [Bool.true_and]
          exact ih (fun i hi=>hj i (List.mem_cons_of_mem _ hi))
    rw [items (List.range n) (by simp)]
    simp only [eqT]
    rw [allEq_range (d:=dft e) x y (by rw [h1.1,h2.1]),h1.1]
  | .st fs,0,_,_,_,_,_,_,_,hd,_,_=>by simp [eqD] at hd
  | .st fs,d+1,t,x,y,cs,ds,h,he,hd,h1,h2=>by
    simp only [descOk] at h
    simp only [eqOk] at he
    simp only [eqD] at hd
    cases hu:P.underlying t with
    | none=>simp [hu] at h
    | some dd =>
      cases dd with
      | struct l =>
        simp only [hu] at h he
        simp only [Bool.and_eq_true,Bool.not_eq_true'] at he
        simp only [RepC] at h1 h2
        have hf:P.fieldsOf t=l:=by simp [Program.fieldsOf,hu]
        have hr:=run_equalIn_struct (P:=P) w d t cs.toArray ds.toArray (by rw [hf]; exact hu) he.1
        rw [hf] at hr
        simp only [mkV,isAg]
        rw [hr]
        simp only [eqT]
        exact eqFields_rep fs d 0 0 l.toList h he.2 (by omega) (by simpa using h1) (by simpa using h2)
      | _=>simp [hu] at h
theorem eqFields_rep:(fs:List Ty)→(d j off:Nat)→(l:List Field)→{x y:denL fs}→{cs ds:List Value}→fieldsOk P fs off l=true→eqOkF P fs l=true→eqDF fs≤d→RepF A ρ w fs j x [] (cs.drop off)→RepF A ρ w fs j y [] (ds.drop off) →
    (Op.eqFields d cs.toArray ds.toArray l).run P w=.ok (eqTL fs x y) w
  | [],_,_,_,[],_,_,_,_,_,_,_,_,_=>rfl
  | [],_,_,_,_ :: _,_,_,_,_,h,_,_,_,_=>by simp [fieldsOk] at h
  | _ :: _,_,_,_,[],_,_,_,_,h,_,_,_,_=>by simp [fieldsOk] at h
  | t :: r,d,j,off,f :: l,x,y,cs,ds,h,he,hd,h1,h2=>by
    simp only [fieldsOk,Bool.and_eq_true] at h
    obtain ⟨⟨⟨⟨g1,g2⟩,g3⟩,g4⟩,g5⟩:=h
    have g1:=Nat.eq_of_beq_eq_true g1
    subst g1
    simp only [eqOkF,Bool.and_eq_true,decide_eq_true_eq] at he
    simp only [eqDF] at hd
    simp only [RepF] at h1 h2
    have p1:=run_part (P:=P) (cs:=cs.toArray) (off:=f.offset) g4 g2 (by simpa [ovSub,cut] using h1.1)
    have p2:=run_part (P:=P) (cs:=ds.toArray) (off:=f.offset) g4 g2 (by simpa [ovSub,cut] using h2.1)
    have h3:=equalIn_rep (x:=x.1) (y:=y.1) t d f.type g4 he.1.2 (by omega) h1.1 h2.1
    have h4:=eqFields_rep r d (j+1) (f.offset+tsize t) l g5 he.2 (by omega) (by rw [← List.drop_drop]; exact h1.2) (by rw [← List.drop_drop]; exact h2.2)
    simp only [Op.eqFields]
    rw [if_pos he.1.1]
    simp only [Sem.run_bind,p1,p2,Result.andThen_ok]
    change ((Op.equalIn d f.type (mkV t (List.take (tsize t) (List.drop f.offset cs))) (mkV t (List.take (tsize t) (List.drop f.offset ds)))).run P w).andThen _=_
    rw [h3]
    simp only [Result.andThen_ok,eqTL]
    generalize eqT t x.1 y.1=b
    cases b
    · rfl
    · rw [Bool.true_and]; exact h4
end
def chkEqs (P:Program) (o:Oper) (τ:Ty) (neg:Bool) (x y:Opd):Bool:=match o.op with
  | .binOp op t x' y' _=>(match neg with | true=>decide (op=.neq) | false=>decide (op=.eql)) && descOk P τ t && eqOk P τ t && Nat.ble (eqD τ) 10000 && (isAg τ && !(P.eqGuardType P.depth t) || (match τ with | .bool=>true | .str=>true | _=>false)) && chkOpd x x' && chkOpd y y'
  | _=>false
theorem good_eqs (st:St B w0 A ρ own w h) (hs:SlotsOk A ρ w s a) {τ:Ty} {neg:Bool} {x y:Opd} (hc:chkEqs P o τ neg x y=true) {m n:den τ} (hx:evO s x=.dat τ m []) (hy:evO s y=.dat τ n []) :
    OpGood P o a w B w0 A ρ (.dat .bool (match neg with | true => !(eqT τ m n) | false=>eqT τ m n) []) h:=by
  unfold chkEqs at hc
  split at hc
  case h_2=>cases hc
  rename_i op t x' y' t' ho
  simp only [Bool.and_eq_true,Bool.or_eq_true,Nat.ble_eq,Bool.not_eq_true'] at hc
  obtain ⟨⟨⟨⟨⟨⟨c1,c2⟩,c3⟩,c4⟩,c5⟩,c6⟩,c7⟩:=hc
  have k1:=opd_ok hs c6
  have k2:=opd_ok hs c7
  rw [hx] at k1
  rw [hy] at k2
  simp only [RepV] at k1 k2
  obtain ⟨cs,k1,v1⟩:=k1
  obtain ⟨ds,k2,v2⟩:=k2
  have he:=equalIn_rep τ 10000 t c2 c3 c4 k1 k2
  have hgood:∀ b,(execOp a.eval o).run P w=.ok (.value (.bool b)) w→b=(match neg with | true => !(eqT τ m n) | false=>eqT τ m n)→OpGood P o a w B w0 A ρ (.dat .bool (match neg with | true => !(eqT τ m n) | false=>eqT τ m n) []) h:=fun b h1 h2=>by
    subst h2; exact OpGood.pure st h1 mk_bool
  rcases c5 with ⟨hag,hgd⟩ | hb
  · have e1:mkV τ cs=.agg cs.toArray:=by simp [mkV,hag]
    have e2:mkV τ ds=.agg ds.toArray:=by simp [mkV,hag]
    rw [e1,e2] at he
    rw [e1] at v1
    rw [e2] at v2
    have hguard:=fun op=>run_eqGuard_agg (P:=P) w op t x' y' cs.toArray ds.toArray hgd
    cases neg with
    | true =>
      have hop:op=.neq:=by simpa using c1
      subst hop
      refine hgood _ ?_ rfl
      simp only [execOp,ho,v1,v2,Sem.run_bind,hguard,Result.andThen_ok,run_neq_struct,he,Sem.run_pure]
    | false =>
      have hop:op=.eql:=by simpa using c1
      subst hop
      refine hgood _ ?_ rfl
      simp only [execOp,ho,v1,v2,Sem.run_bind,hguard,Result.andThen_ok,run_eql_struct,he,Sem.run_pure]
  · cases τ with
    | bool =>
      simp only [RepC] at k1 k2
      subst k1; subst k2
      have v1:a.eval x'=.bool m:=v1
      have v2:a.eval y'=.bool n:=v2
      have he:(Op.equal t (.bool m) (.bool n)).run P w=.ok (eqT .bool m n) w:=he
      cases neg with
      | true =>
        have hop:op=.neq:=by simpa using c1
        subst hop
        refine hgood _ ?_ rfl
        simp only [execOp,ho,v1,v2,Sem.run_bind,run_eqGuard_bool,Result.andThen_ok,binOp,he,Sem.run_pure]
      | false =>
        have hop:op=.eql:=by simpa using c1
        subst hop
        refine hgood _ ?_ rfl
        simp only [execOp,ho,v1,v2,Sem.run_bind,run_eqGuard_bool,Result.andThen_ok,binOp,he,Sem.run_pure]
    | str =>
      simp only [RepC] at k1 k2
      subst k1; subst k2
      have v1:a.eval x'=.string m:=v1
      have v2:a.eval y'=.string n:=v2
      have he:(Op.equal t (.string m) (.string n)).run P w=.ok (eqT .str m n) w:=he
      cases neg with
      | true =>
        have hop:op=.neq:=by simpa using c1
        subst hop
        refine hgood _ ?_ rfl
        have e1:(m == n)=(ByteArray.toList m == ByteArray.toList n):=beq_toListBytes m n
        simp only [execOp,ho,v1,v2,Sem.run_bind,run_eqGuard_str,Result.andThen_ok,binOp,Op.stringOp,Sem.run_pure,eqT,e1]
      | false =>
        have hop:op=.eql:=by simpa using c1
        subst hop
        refine hgood _ ?_ rfl
        have e1:(m == n)=(ByteArray.toList m == ByteArray.toList n):=beq_toListBytes m n
        simp only [execOp,ho,v1,v2,Sem.run_bind,run_eqGuard_str,Result.andThen_ok,binOp,Op.stringOp,Sem.run_pure,eqT,e1]
    | _=>simp at hb
end
end Go.Proofs.YtjobjooccgledaaDoor.Ghost
namespace Go.Proofs.YtjobjooccgledaaDoor.Ghost
open Go
section
variable {P:Program} {o:Oper} {a:Act} {w:World} {B:Nat} {w0:Start} {A:Nat→Prop} {ρ:Refs} {own:Nat→Option Nat} {h:Nat→Obj} {s:Nat→SV}
def mapSpot (b:Nat):Spot:=⟨b,0,0,0,true,fun _=>0,fun p=>p=[]⟩
def kflatT:Ty→Bool
  | .int _=>true
  | .bool=>true
  | _=>false
def keyT:Ty→Bool
  | .st fs=>fs.all kflatT
  | t=>kflatT t
def keyOk (P:Program) (κ:Ty) (T:TypeId):Bool:=keyT κ && descOk P κ T && eqOk P κ T && Nat.ble (eqD κ) 10000
def isMapT (P:Program) (κ ν:Ty) (t:TypeId):Bool:=match P.underlying t with
  | some (.map key elem)=>keyOk P κ key && descOk P ν elem && sizeIs P elem (tsize ν) && zeroOk P ν elem
  | _=>false
def chkMkmap (P:Program) (o:Oper) (κ ν:Ty):Bool:=match o.op with
  | .makeMap T none=>isMapT P κ ν T
  | .makeMap T (some (.const (.int _ _)))=>isMapT P κ ν T
  | _=>false
theorem isMapT_spec {κ ν:Ty} {t:TypeId} (hc:isMapT P κ ν t=true):∃ key elem,P.underlying t=some (.map key elem)∧keyOk P κ key=true∧zeroOk P ν elem=true:=by
  unfold isMapT at hc
  split at hc
  · rename_i key elem hu
    simp only [Bool.and_eq_true] at hc
    exact ⟨key,elem,hu,hc.1.1.1,hc.2⟩
  · cases hc
theorem good_mkmap (st:St B w0 A ρ own w h) {k:Nat} {κ ν:Ty} (hc:chkMkmap P o κ ν=true) (hk:h k=.none):OpGood P o a w B w0 A ρ (.ptr k []) (appE h [(k,.map κ ν [])]):=by
  obtain ⟨st2,l2⟩:=st.alloc (k:=k) (sp:=mapSpot w.heap.size) (ob:=.map #[] 0) (o':=.map κ ν []) hk rfl (fun hl=>⟨mapSpot w.heap.size,#[],0,updR_at,rfl,updO_at,fun _=>Iff.rfl,Array.getElem?_push_size,rfl,rfl,fun j e he=>by simp at he⟩) (by simp)
  have hv:RepV A (updR ρ k (mapSpot w.heap.size)) (w.alloc (.map #[] 0)) (.ptr k []) (.map (some w.heap.size)):=by
    simp only [RepV]
    exact ⟨_,updR_at,rfl,rfl⟩
  unfold chkMkmap at hc
  split at hc
  · rename_i T ho
    refine OpGood.value ?_ st2 l2 hv
    simp only [execOp,ho,Option.map_none,Instr.makeMap,Sem.run_bind,Sem.run_pure,Result.andThen_ok]; rfl
  · rename_i T kd n ho
    obtain ⟨key,elem,hu,_⟩:=isMapT_spec hc
    refine OpGood.value ?_ st2 l2 hv
    simp only [execOp,ho,Option.map_some,Instr.makeMap,Sem.run_bind,run_underlying hu w,Sem.run_pure,Result.andThen_ok,Act.eval,asInt,asIntOf]; rfl
  · cases hc
def RepX (A:Nat→Prop) (ρ:Refs) (w:World) (ν:Ty) (x:den ν) (v:Value):Prop:=∃ cs,RepC A ρ w ν x [] cs∧v=mkV ν cs
theorem kflat_cells {t:Ty} (ht:kflatT t=true) {ov:Ov} {x y:den t} {cs ds:List Value} (h1:RepC A ρ w t x ov cs) (h2:RepC A ρ w t y ov ds) (he:eqT t x y=true):cs=ds∧cs.all (fun v=>Instr.sameBits 0 v v)=true:=by
  cases t with
  | int k =>
    simp only [RepC] at h1 h2
    have:x=y:=by simpa [eqT] using he
    rw [h1,h2,this]
    exact ⟨rfl,by simp [Instr.sameBits]⟩
  | bool =>
    simp only [RepC] at h1 h2
    have:x=y:=by simpa [eqT] using he
    rw [h1,h2,this]
    exact ⟨rfl,by simp [Instr.sameBits]⟩
  | _=>simp [kflatT] at ht
theorem kflat_cellsF:{fs:List Ty}→fs.all kflatT=true→{j:Nat}→{x y:denL fs}→{cs ds:List Value}→RepF A ρ w fs j x [] cs→RepF A ρ w fs j y [] ds→eqTL fs x y=true→cs=ds∧cs.all (fun v=>Instr.sameBits 0 v v)=true
  | [],_,_,_,_,_,_,h1,h2,_=>by
    simp only [RepF] at h1 h2
    rw [h1,h2]; exact ⟨rfl,rfl⟩
  | t :: r,hf,j,x,y,cs,ds,h1,h2,he=>by
    simp only [List.all_cons,Bool.and_eq_true] at hf
    simp only [RepF,ovSub] at h1 h2
    simp only [eqTL,Bool.and_eq_true] at he
    obtain ⟨a1,a2⟩:=kflat_cells hf.1 h1.1 h2.1 he.1
    obtain ⟨b1,b2⟩:=kflat_cellsF hf.2 h1.2 h2.2 he.2
    have e1:=List.take_append_drop (tsize t) cs
    have e2:=List.take_append_drop (tsize t) ds
    refine ⟨by rw [← e1,← e2,a1,b1],?_⟩
    rw [← e1,List.all_append,a2,b2]
    rfl
theorem sameBits_up {v:Value} (h:Instr.sameBits 0 v v=true) (n:Nat):Instr.sameBits n v v=true:=by
  cases v <;> simp_all [Instr.sameBits]
theorem zip_all {f:Value→Value→Bool}:(l:List Value)→l.all (fun v=>f v v)=true→(l.zip l).all (fun x=>f x.1 x.2)=true
  | [],_=>rfl
  | v :: r,h=>by
    simp only [List.all_cons,Bool.and_eq_true] at h
    simp only [List.zip_cons_cons,List.all_cons,Bool.and_eq_true]
    exact ⟨h.1,zip_all r h.2⟩
theorem key_same {κ:Ty} (hk:keyT κ=true) {x y:den κ} {u v:Value} (h1:RepX A ρ w κ x u) (h2:RepX A ρ w κ y v) (he:eqT κ x y=true):u=v∧Instr.sameBits 10000 u u=true:=by
  obtain ⟨cs,g1,rfl⟩:=h1
  obtain ⟨ds,g2,rfl⟩:=h2
  have flat:kflatT κ=true→mkV κ cs=mkV κ ds∧Instr.sameBits 10000 (mkV κ cs) (mkV κ cs)=true:=fun hf=>by
    obtain ⟨a1,a2⟩:=kflat_cells hf g1 g2 he
    subst a1
    refine ⟨rfl,?_⟩
    cases κ with
    | int k=>simp only [RepC] at g1; subst g1; simp [mkV,isAg,Instr.sameBits]
    | bool=>simp only [RepC] at g1; subst g1; simp [mkV,isAg,Instr.sameBits]
    | _=>simp [kflatT] at hf
  cases κ with
  | st fs =>
    simp only [keyT] at hk
    simp only [RepC] at g1 g2
    obtain ⟨a1,a2⟩:=kflat_cellsF hk g1 g2 (by simpa only [eqT] using he)
    subst a1
    refine ⟨rfl,?_⟩
    simp only [mkV,isAg]
    rw [show (10000:Nat)=9999+1 from rfl,Instr.sameBits]
    simp only [beq_self_eq_true,Bool.true_and]
    refine zip_all (f:=fun x y=>Instr.sameBits 9999 x y) cs ?_
    rw [List.all_eq_true] at a2 ⊢
    exact fun v hv=>sameBits_up (a2 v hv) 9999
  | _=>exact flat hk
theorem run_checkFlat {t:Ty} {T:TypeId} (ht:kflatT t=true) (hd:descOk P t T=true) {v:Value} {b:Bool} {n:Nat}:(Instr.checkKey b (n+1) T v).run P w=.ok () w:=by
  rw [Instr.checkKey]
  cases t with
  | int k =>
    simp only [descOk] at hd
    split at hd
    · rename_i hu; simp only [Sem.run_bind,run_underlying hu w,Result.andThen_ok]; rfl
    · cases hd
  | bool =>
    simp only [descOk] at hd
    split at hd
    · rename_i hu; simp only [Sem.run_bind,run_underlying hu w,Result.andThen_ok]; rfl
    · cases hd
  | _=>simp [kflatT] at ht
theorem run_checkFields {b:Bool} {n:Nat}:{fs:List Ty}→{off j:Nat}→{l:List Field}→{x:denL fs}→{cs:List Value}→fs.all kflatT=true→fieldsOk P fs off l=true→RepF A ρ w fs j x [] (cs.drop off) →
    ((forIn l PUnit.unit fun f (_:PUnit)=>do
      if f.name ≠ "_" then do
        Instr.checkKey b (n+1) f.type (← part f.type cs.toArray f.offset)
        pure (ForInStep.yield PUnit.unit)
      else pure (ForInStep.yield PUnit.unit)):Sem PUnit).run P w=.ok PUnit.unit w
  | [],_,_,[],_,_,_,_,_=>by simp only [List.forIn_nil,Sem.run_pure]
  | [],_,_,_ :: _,_,_,_,h,_=>by simp [fieldsOk] at h
  | _ :: _,_,_,[],_,_,_,h,_=>by simp [fieldsOk] at h
  | t :: r,off,j,f :: l,x,cs,hf,h,h1=>by
    simp only [fieldsOk,Bool.and_eq_true] at h
    obtain ⟨⟨⟨⟨g1,g2⟩,g3⟩,g4⟩,g5⟩:=h
    have g1:=Nat.eq_of_beq_eq_true g1
    subst g1
    simp only [List.all_cons,Bool.and_eq_true] at hf
    simp only [RepF] at h1
    have p1:=run_part (P:=P) (cs:=cs.toArray) (off:=f.offset) g4 g2 (by simpa [ovSub,cut] using h1.1)
    have h4:=run_checkFields (b:=b) (n:=n) (l:=l) (x:=x.2) (cs:=cs) hf.2 g5 (by rw [← List.drop_drop]; exact h1.2)
    rw [List.forIn_cons]
    simp only [Sem.run_bind]
    by_cases hn : f.name ≠ "_"
    · simp only [if_pos hn,Sem.run_bind,p1,Result.andThen_ok,run_checkFlat hf.1 g4,Sem.run_pure]
      exact h4
    · simp only [if_neg hn,Sem.run_pure,Result.andThen_ok]
      exact h4
theorem run_checkKey {κ:Ty} {T:TypeId} (hk:keyOk P κ T=true) {x:den κ} {v:Value} (hv:RepX A ρ w κ x v) (b:Bool):(Instr.checkKey b 10000 T v).run P w=.ok () w:=by
  unfold keyOk at hk
  simp only [Bool.and_eq_true] at hk
  obtain ⟨⟨⟨k1,k2⟩,k3⟩,k4⟩:=hk
  cases κ with
  | st fs =>
    obtain ⟨cs,g1,rfl⟩:=hv
    simp only [keyT] at k1
    simp only [descOk] at k2
    split at k2
    · rename_i l hu
      simp only [RepC] at g1
      simp only [mkV,isAg]
      rw [show (10000:Nat)=9998+1+1 from rfl,Instr.checkKey]
      simp only [Sem.run_bind,run_underlying hu w,Result.andThen_ok]
      rw [← Array.forIn_toList]
      have:=run_checkFields (P:=P) (b:=b) (n:=9998) (l:=l.toList) (cs:=cs) k1 k2 (by simpa using g1)
      rw [this]; rfl
    · cases k2
  | int k=>exact run_checkFlat (t:=.int k) rfl k2
  | bool=>exact run_checkFlat (t:=.bool) rfl k2
  | _=>simp [keyT,kflatT] at k1
def mapIx? (κ ν:Ty) (i:den κ):List (den κ×den ν)→Option Nat
  | []=>none
  | (k,_) :: r=>if eqT κ i k then some 0 else (mapIx? κ ν i r).map (· + 1)
theorem find_now {κ ν:Ty} {d:TypeDesc} {kv:Value} {n:den κ} (hs:∀ m v,RepX A ρ w κ m v→Instr.sameNow d kv v=some (eqT κ n m)) :
    (l:List (den κ×den ν))→(es:List MapEntry)→RepEnts A ρ w κ ν l es→(i0:Nat)→Instr.findNow d kv es i0=some ((mapIx? κ ν n l).bind fun j=>(es[j]?).map fun e=>(i0+j,e.val))
  | [],es,h,i0=>by
    simp only [RepEnts] at h
    subst h
    rfl
  | (m,y0) :: r,es,h,i0=>by
    simp only [RepEnts] at h
    obtain ⟨e,es',rfl,g1,_,g4⟩:=h
    have hsame:=hs m e.key g1
    have ih:=find_now hs r es' g4 (i0+1)
    simp only [Instr.findNow,hsame,mapIx?]
    cases hb:eqT κ n m with
    | true=>simp
    | false =>
      simp only [Bool.false_eq_true,if_false,ih]
      cases mapIx? κ ν n r with
      | none=>rfl
      | some j=>simp only [Option.bind_some,Option.map_some,List.getElem?_cons_succ]; rw [show i0+1+j=i0+(j+1) by omega]
theorem find_asking {κ ν:Ty} {T:TypeId} {kv:Value} {n:den κ} (hs:∀ m v,RepX A ρ w κ m v→(Op.equal T kv v).run P w=.ok (eqT κ n m) w) :
    (l:List (den κ×den ν))→(es:List MapEntry)→RepEnts A ρ w κ ν l es→(i0:Nat)→(Instr.findAsking T kv es i0).run P w=.ok ((mapIx? κ ν n l).bind fun j=>(es[j]?).map fun e=>(i0+j,e.val)) w
  | [],es,h,i0=>by
    simp only [RepEnts] at h
    subst h
    rfl
  | (m,y0) :: r,es,h,i0=>by
    simp only [RepEnts] at h
    obtain ⟨e,es',rfl,g1,_,g4⟩:=h
    have hsame:=hs m e.key g1
    have ih:=find_asking hs r es' g4 (i0+1)
    simp only [Instr.findAsking,Sem.run_bind,hsame,Result.andThen_ok,mapIx?]
    cases hb:eqT κ n m with
    | true=>simp
    | false =>
      simp only [Bool.false_eq_true,if_false,ih]
      cases mapIx? κ ν n r with
      | none=>rfl
      | some j=>simp only [Option.bind_some,Option.map_some,List.getElem?_cons_succ]; rw [show i0+1+j=i0+(j+1) by omega]
theorem run_findKey {κ ν:Ty} {T:TypeId} (hk:keyOk P κ T=true) {n:den κ} {kv:Value} (hv:RepX A ρ w κ n kv) (l:List (den κ×den ν)) (es:List MapEntry) (h:RepEnts A ρ w κ ν l es) :
    (Instr.findKey T kv es).run P w=.ok ((mapIx? κ ν n l).bind fun j=>(es[j]?).map fun e=>(j,e.val)) w:=by
  unfold keyOk at hk
  simp only [Bool.and_eq_true,Nat.ble_eq] at hk
  obtain ⟨⟨⟨k1,k2⟩,k3⟩,k4⟩:=hk
  have zero:((mapIx? κ ν n l).bind fun j=>(es[j]?).map fun e=>(0+j,e.val))=((mapIx? κ ν n l).bind fun j=>(es[j]?).map fun e=>(j,e.val)):=by simp only [Nat.zero_add]
  unfold Instr.findKey
  cases κ with
  | int k =>
    simp only [descOk] at k2
    split at k2
    · rename_i k' hu
      have:=find_now (d:=.int k') (kv:=kv) (n:=n) (fun m v hm=>by
        obtain ⟨cs,c1,rfl⟩:=hm
        obtain ⟨ds,c2,rfl⟩:=hv
        simp only [RepC] at c1 c2
        subst c1; subst c2
        simp [mkV,isAg,Instr.sameNow,eqT]) l es h 0
      rw [zero] at this
      simp only [Sem.run_bind,run_underlying hu w,Result.andThen_ok,this]; rfl
    · cases k2
  | bool =>
    simp only [descOk] at k2
    split at k2
    · rename_i hu
      have:=find_now (d:=.bool) (kv:=kv) (n:=n) (fun m v hm=>by
        obtain ⟨cs,c1,rfl⟩:=hm
        obtain ⟨ds,c2,rfl⟩:=hv
        simp only [RepC] at c1 c2
        subst c1; subst c2
        simp [mkV,isAg,Instr.sameNow,eqT]) l es h 0
      rw [zero] at this
      simp only [Sem.run_bind,run_underlying hu w,Result.andThen_ok,this]; rfl
    · cases k2
  | st fs =>
    have ask:=find_asking (P:=P) (T:=T) (kv:=kv) (n:=n) (fun m v hm=>by
      obtain ⟨cs,c1,rfl⟩:=hm
      obtain ⟨ds,c2,rfl⟩:=hv
      exact equalIn_rep (.st fs) 10000 T k2 k3 k4 c2 c1) l es h 0
    rw [zero] at ask
    simp only [descOk] at k2
    split at k2
    · rename_i fl hu
      cases es with
      | nil =>
        have:mapIx? (.st fs) ν n l=none:=by
          cases l with
          | nil=>rfl
          | cons e r=>simp [RepEnts] at h
        rw [this]
        simp only [Sem.run_bind,run_underlying hu w,Result.andThen_ok,Instr.findNow]; rfl
      | cons e r =>
        simp only [Sem.run_bind,run_underlying hu w,Result.andThen_ok,Instr.findNow,Instr.sameNow]
        exact ask
    · cases k2
  | _=>simp [keyT,kflatT] at k1
theorem mapIx?_none {κ ν:Ty} {n:den κ}:{l:List (den κ×den ν)}→mapIx? κ ν n l=none→mapFind κ ν n l=none∧(∀ x,mapPut κ ν n x l=l ++ [(n,x)])∧mapIx κ ν n l=l.length
  | [],_=>⟨rfl,fun _=>rfl,rfl⟩
  | (m,y) :: r,h=>by
    simp only [mapIx?] at h
    split at h
    · cases h
    · rename_i hb
      obtain ⟨i1,i2,i3⟩:=mapIx?_none (l:=r) (by simpa using h)
      simp only [mapFind,mapPut,mapIx,hb,if_false,Bool.false_eq_true]
      exact ⟨i1,fun x=>by rw [i2 x]; rfl,by rw [i3]; rfl⟩
theorem mapIx?_some {κ ν:Ty} {n:den κ}:{l:List (den κ×den ν)}→{j:Nat}→mapIx? κ ν n l=some j→∃ m y,l[j]?=some (m,y)∧eqT κ n m=true∧mapFind κ ν n l=some y∧mapIx κ ν n l=j
  | [],_,h=>by simp [mapIx?] at h
  | (m,y) :: r,j,h=>by
    simp only [mapIx?] at h
    split at h
    · rename_i hb
      cases h
      exact ⟨m,y,rfl,hb,by simp only [mapFind,hb,if_true],by simp only [mapIx,hb,if_true]⟩
    · rename_i hb
      simp only [Option.map_eq_some_iff] at h
      obtain ⟨i,hi,rfl⟩:=h
      obtain ⟨m',y',h1,h2,h3,h4⟩:=mapIx?_some (l:=r) hi
      exact ⟨m',y',by simpa using h1,h2,by simp only [mapFind,hb,if_false,Bool.false_eq_true,h3],by simp only [mapIx,hb,if_false,Bool.false_eq_true,h4]⟩
theorem ents_len {κ ν:Ty}:{l:List (den κ×den ν)}→{es:List MapEntry}→RepEnts A ρ w κ ν l es→es.length=l.length
  | [],_,h=>by simp only [RepEnts] at h; rw [h]; rfl
  | (m,y) :: r,es,h=>by
    simp only [RepEnts] at h
    obtain ⟨e,es',rfl,_,_,g4⟩:=h
    simp only [List.length_cons,ents_len g4]
theorem ents_push {κ ν:Ty} {n:den κ} {x:den ν} {e:MapEntry} (h1:RepX A ρ w κ n e.key) (h2:RepX A ρ w ν x e.val):{l:List (den κ×den ν)}→{es:List MapEntry}→RepEnts A ρ w κ ν l es→RepEnts A ρ w κ ν (l ++ [(n,x)]) (es ++ [e])
  | [],_,h=>by
    simp only [RepEnts] at h
    subst h
    simp only [List.nil_append,RepEnts]
    exact ⟨_,[],rfl,h1,h2,rfl⟩
  | (m,y) :: r,es,h=>by
    simp only [RepEnts] at h
    obtain ⟨e',es',rfl,g1,g2,g4⟩:=h
    simp only [List.cons_append,RepEnts]
    exact ⟨_,_,rfl,g1,g2,ents_push h1 h2 g4⟩
theorem ents_at {κ ν:Ty}:{l:List (den κ×den ν)}→{es:List MapEntry}→RepEnts A ρ w κ ν l es→{j:Nat}→{m:den κ}→{y:den ν}→l[j]?=some (m,y)→∃ e,es[j]?=some e∧RepX A ρ w κ m e.key∧RepX A ρ w ν y e.val
  | [],_,_,_,_,_,h=>by simp at h
  | (m0,y0) :: r,es,h,j,m,y,hj=>by
    simp only [RepEnts] at h
    obtain ⟨e',es',rfl,g1,g2,g4⟩:=h
    cases j with
    | zero =>
      simp only [List.getElem?_cons_zero,Option.some.injEq,Prod.mk.injEq] at hj
      obtain ⟨rfl,rfl⟩:=hj
      exact ⟨e',rfl,g1,g2⟩
    | succ j=>simpa using ents_at g4 (j:=j) (by simpa using hj)
theorem ents_set {κ ν:Ty} {x:den ν} {v:Value} (hv:RepX A ρ w ν x v):{l:List (den κ×den ν)}→{es:List MapEntry}→RepEnts A ρ w κ ν l es→(j:Nat)→RepEnts A ρ w κ ν (mapSet κ ν j x l) (es.modify j fun e=>{ e with val:=v })
  | [],_,h,j=>by
    simp only [RepEnts] at h
    subst h
    cases j <;> simp [mapSet,RepEnts]
  | (m0,y0) :: r,es,h,j=>by
    simp only [RepEnts] at h
    obtain ⟨e',es',rfl,g1,g2,g4⟩:=h
    cases j with
    | zero =>
      simp only [mapSet,List.modify_zero_cons,RepEnts]
      exact ⟨_,_,rfl,g1,hv,g4⟩
    | succ j =>
      simp only [mapSet,List.modify_succ_cons,RepEnts]
      exact ⟨_,_,rfl,g1,g2,ents_set hv g4 j⟩
theorem ents_put {κ ν:Ty} {n:den κ} {kv:Value} {x:den ν} {v:Value} (hk:RepX A ρ w κ n kv) (hv:RepX A ρ w ν x v):{l:List (den κ×den ν)}→{es:List MapEntry}→RepEnts A ρ w κ ν l es→{j:Nat}→mapIx? κ ν n l=some j→RepEnts A ρ w κ ν (mapPut κ ν n x l) (es.modify j fun e=>{ e with key:=kv,val:=v })
  | [],_,_,_,hj=>by simp [mapIx?] at hj
  | (m0,y0) :: r,es,h,j,hj=>by
    simp only [RepEnts] at h
    obtain ⟨e',es',rfl,g1,g2,g4⟩:=h
    simp only [mapIx?] at hj
    split at hj
    · rename_i hb
      cases hj
      simp only [mapPut,hb,if_true,List.modify_zero_cons,RepEnts]
      exact ⟨_,_,rfl,hk,hv,g4⟩
    · rename_i hb
      simp only [Option.map_eq_some_iff] at hj
      obtain ⟨i,hi,rfl⟩:=hj
      simp only [mapPut,hb,if_false,Bool.false_eq_true,List.modify_succ_cons,RepEnts]
      exact ⟨_,_,rfl,g1,g2,ents_put hk hv g4 hi⟩
theorem Born.push {es:List MapEntry} {c:Nat} (h:Born es c) {e:MapEntry} (he:e.born=c):Born (es ++ [e]) (c+1):=by
  obtain ⟨h1,h2⟩:=h
  refine ⟨by rw [List.length_append,h1]; rfl,fun j e' hj => ?_⟩
  by_cases hl:j<es.length
  · rw [List.getElem?_append_left hl] at hj; exact h2 j e' hj
  · rw [List.getElem?_append_right (by omega)] at hj
    have:j - es.length=0:=by
      by_cases h0:j - es.length=0
      · exact h0
      · rw [List.getElem?_eq_none (by simp; omega)] at hj; cases hj
    rw [this] at hj
    simp only [List.getElem?_cons_zero,Option.some.injEq] at hj
    rw [← hj,he,h1]; omega
theorem Born.modify {es:List MapEntry} {c:Nat} (h:Born es c) (i:Nat) {f:MapEntry→MapEntry} (hf:∀ e,(f e).born=e.born):Born (es.modify i f) c:=by
  obtain ⟨h1,h2⟩:=h
  refine ⟨by rw [List.length_modify]; exact h1,fun j e' hj => ?_⟩
  rw [List.getElem?_modify] at hj
  cases hx:es[j]? with
  | none=>rw [hx] at hj; cases hj
  | some e =>
    rw [hx] at hj
    simp only [Option.map_eq_map,Option.map_some,Option.some.injEq] at hj
    rw [← hj]
    split
    · rw [hf]; exact h2 j e hx
    · exact h2 j e hx
theorem born_find {es:List MapEntry} {c:Nat} (h:Born es c) {n:Int} (h0:0≤n) (hn:n<(es.length:Int)):es.findIdx? (fun e=>(e.born:Int) == n)=some n.toNat:=by
  rw [List.findIdx?_eq_some_iff_getElem]
  refine ⟨by omega,?_,fun j hj => ?_⟩
  · have:=h.2 n.toNat _ (List.getElem?_eq_getElem (by omega))
    rw [this,beq_iff_eq]; omega
  · have hlt:j<es.length:=by omega
    have:=h.2 j _ (List.getElem?_eq_getElem hlt)
    rw [this]
    simp only [Bool.not_eq_true,beq_eq_false_iff_ne,ne_eq]
    omega
theorem repV_map {g:Nat} {v:Value} {sp:Spot} (hv:RepV A ρ w (.ptr g []) v) (hr:ρ g=some sp) (hm:sp.mp=true):v=.map (some sp.b):=by
  simp only [RepV] at hv
  obtain ⟨s',h1,h2,h3⟩:=hv
  rw [hr] at h1
  cases h1
  rw [hm] at h3
  exact h3
def chkLookup (P:Program) (o:Oper) (κ ν:Ty) (m i:Opd):Bool:=match o.op with
  | .lookup T m' i' false=>isMapT P κ ν T && chkOpd m m' && chkOpd i i'
  | _=>false
theorem good_lookup (st:St B w0 A ρ own w h) (hs:SlotsOk A ρ w s a) {κ ν:Ty} {m i:Opd} (hc:chkLookup P o κ ν m i=true) {g:Nat} (hm:evO s m=.ptr g []) {n:den κ} (hi:evO s i=.dat κ n []) {l:List (den κ×den ν)} (hg:h g=.map κ ν l) :
    OpGood P o a w B w0 A ρ (.dat ν ((mapFind κ ν n l).getD (dft ν)) []) h:=by
  unfold chkLookup at hc
  split at hc
  case h_2=>cases hc
  rename_i T m' i' ho
  simp only [Bool.and_eq_true] at hc
  obtain ⟨⟨c1,c2⟩,c3⟩:=hc
  obtain ⟨key,elem,u1,u2,u3⟩:=isMapT_spec c1
  have k1:=opd_ok hs c2
  have k2:=opd_ok hs c3
  rw [hm] at k1
  rw [hi] at k2
  have k2:RepX A ρ w κ n (a.eval i'):=by simpa only [RepV,RepX] using k2
  have ob:=st.objs g
  rw [hg] at ob
  obtain ⟨sp,es,c,n1,n2,n3,n4,n5,n6,n7⟩:=ob
  have v1:=repV_map k1 n1 n2
  have f1:=run_findKey u2 k2 l es.toList n6
  have hobj:(getObj sp.b).run P w=.ok (.map es c) w:=by simp only [getObj,Sem.run,n5]
  have hz:=zeroOk_spec u3 w
  cases hf:mapIx? κ ν n l with
  | none =>
    obtain ⟨q1,_,_⟩:=mapIx?_none hf
    rw [hf] at f1
    rw [q1]
    refine OpGood.pure st (v':=mkV ν (zeroCells ν)) ?_ (by simp only [RepV]; exact ⟨_,RepC.zero A ρ w ν,rfl⟩)
    simp only [execOp,ho,v1,Instr.lookup,Sem.run_bind,run_underlying u1 w,Result.andThen_ok,hobj,Sem.run_pure,run_checkKey u2 k2,f1,Option.bind_none,hz]
    rfl
  | some j =>
    obtain ⟨m0,y,q1,q2,q3,q4⟩:=mapIx?_some hf
    obtain ⟨e,e1,e2,⟨cs,e3,e4⟩⟩:=ents_at n6 q1
    rw [hf,Option.bind_some,e1] at f1
    rw [q3]
    refine OpGood.pure st (v':=e.val) ?_ (by simp only [RepV]; exact ⟨cs,e3,e4⟩)
    simp only [execOp,ho,v1,Instr.lookup,Sem.run_bind,run_underlying u1 w,Result.andThen_ok,hobj,Sem.run_pure,run_checkKey u2 k2,f1,Option.map_some]
    rfl
theorem findNow_int {k:IntKind} {n:Int}:(es:List MapEntry)→(ks:List Int)→es.map (·.key)=ks.map (Value.int k)→(i0:Nat) →
    (∃ j e,ks[j]?=some n∧es[j]?=some e∧(∀ i,i<j→ks[i]?≠some n)∧Instr.findNow (.int k) (.int k n) es i0=some (some (i0+j,e.val)))∨(n ∉ ks∧Instr.findNow (.int k) (.int k n) es i0=some none)
  | [],[],_,i0=>.inr ⟨by simp,rfl⟩
  | [],_ :: _,h,_=>by simp at h
  | _ :: _,[],h,_=>by simp at h
  | e :: es,m :: ks,h,i0=>by
    simp only [List.map_cons,List.cons.injEq] at h
    have hs:Instr.sameNow (.int k) (.int k n) e.key=some (decide (n=m)):=by
      rw [h.1]
      by_cases hnm:n=m <;> simp [Instr.sameNow,hnm]
    simp only [Instr.findNow,hs]
    by_cases hn:n=m
    · left
      subst hn
      exact ⟨0,e,rfl,rfl,fun i hi=>absurd hi (Nat.not_lt_zero i),by simp⟩
    · rw [decide_eq_false hn]
      simp only [Bool.false_eq_true,if_false]
      rcases findNow_int es ks h.2 (i0+1) with ⟨j,e',h1,h2,h3,h4⟩ | ⟨h1,h2⟩
      · left
        refine ⟨j+1,e',h1,h2,fun i hi => ?_,by rw [h4]; congr 3; omega⟩
        cases i with
        | zero=>simp; exact fun e=>hn e.symm
        | succ i=>simpa using h3 i (by omega)
      · right
        exact ⟨by simp [hn,h1],h2⟩
def isMapF (P:Program) (t:TypeId):Bool:=match P.underlying t with
  | some (.map key elem)=>(match P.underlying key with | some (.int .i64)=>true | _=>false) && (match P.info? elem with | some i=>(match i.zero with | some .nilFunc=>true | _=>false) | none=>false)
  | _=>false
def chkLookv (P:Program) (o:Oper) (m i:Opd) (ok:Bool):Bool:=match o.op with
  | .lookup T m' i' ok'=>(ok == ok') && isMapF P T && chkOpd m m' && chkOpd i i'
  | _=>false
theorem repVs_at:{us:List SV}→{vs:List Value}→RepVs A ρ w us vs→{j:Nat}→{v:Value}→vs[j]?=some v→∃ u,us[j]?=some u∧RepV A ρ w u v
  | [],vs,h,j,v,hv=>by simp only [RepVs] at h; subst h; simp at hv
  | u :: r,vs,h,j,v,hv=>by
    simp only [RepVs] at h
    obtain ⟨v0,vs',rfl,h1,h2⟩:=h
    cases j with
    | zero=>simp only [List.getElem?_cons_zero,Option.some.injEq] at hv; subst hv; exact ⟨u,rfl,h1⟩
    | succ j=>exact repVs_at h2 (by simpa using hv)
theorem lookV_at {R:Type} {n:Int} {K:SV→Bool→Option R}:{ks:List Int}→{us:List SV}→{j:Nat}→{u:SV}→ks[j]?=some n→us[j]?=some u→(∀ i,i<j→ks[i]?≠some n)→lookV n ks us K=K u true
  | [],_,_,_,h,_,_=>by simp at h
  | _ :: _,[],_,_,_,h,_=>by simp at h
  | k :: ks,u0 :: us,j,u,h1,h2,h3=>by
    cases j with
    | zero =>
      simp only [List.getElem?_cons_zero,Option.some.injEq] at h1 h2
      subst h1; subst h2
      simp [lookV]
    | succ j =>
      have:=h3 0 (by omega)
      simp only [List.getElem?_cons_zero,ne_eq,Option.some.injEq] at this
      simp only [lookV]
      rw [decide_eq_false (fun e=>this e.symm),cond_false]
      exact lookV_at (by simpa using h1) (by simpa using h2) (fun i hi=>by have:=h3 (i+1) (by omega); simpa using this)
theorem lookV_not {R:Type} {n:Int} {K:SV→Bool→Option R}:{ks:List Int}→{us:List SV}→n ∉ ks→lookV n ks us K=K .nilfn false
  | [],_,_=>by unfold lookV; rfl
  | _ :: _,[],_=>by unfold lookV; rfl
  | k :: ks,u0 :: us,h=>by
    simp only [List.mem_cons,not_or] at h
    simp only [lookV]
    rw [decide_eq_false h.1,cond_false]
    exact lookV_not h.2
def keyI (e:MapEntry):Int:=match e.key with
  | .int _ n=>n
  | _=>0
theorem good_lookv (st:St B w0 A ρ own w h) (hs:SlotsOk A ρ w s a) {m i:Opd} {ok:Bool} (hc:chkLookv P o m i ok=true) {ks:List Int} {us:List SV} (hm:evO s m=.fmap ks us) {n:Int} (hi:evO s i=.dat (.int .i64) n []) {R:Type} {K:SV→Eff→Option R} {r:R}
    (hg:lookV n ks us (fun v b=>K (lkRes ok v b) [])=some r):∃ v e,K v e=some r∧OpGood P o a w B w0 A ρ v (appE h e):=by
  unfold chkLookv at hc
  split at hc
  case h_2=>cases hc
  rename_i T m' i' ok' ho
  simp only [Bool.and_eq_true,beq_iff_eq] at hc
  obtain ⟨⟨⟨rfl,c1⟩,c2⟩,c3⟩:=hc
  have k1:=opd_ok hs c2
  have k2:=opd_ok hs c3
  rw [hm] at k1
  rw [hi] at k2
  simp only [RepV] at k1
  obtain ⟨b,es,c,v1,g2,g3,gn,l,gp,g4,g5⟩:=k1
  have gk:∀ (j:Nat) (e:MapEntry),l[j]?=some e→∃ n:Int,ks[j]?=some n∧e.key=.int .i64 n:=fun j e he=>by
    have h1:(l.map (·.key))[j]?=some e.key:=by rw [List.getElem?_map,he]; rfl
    rw [g4,List.getElem?_map] at h1
    cases hk:ks[j]? with
    | none=>rw [hk] at h1; cases h1
    | some n=>rw [hk] at h1; exact ⟨n,rfl,(Option.some.inj h1).symm⟩
  have ge:es.toList.map (·.key)=(es.toList.map keyI).map (Value.int .i64):=by
    rw [List.map_map]
    refine List.map_congr_left (fun e he => ?_)
    obtain ⟨j,hj⟩:=List.getElem?_of_mem (gp.mem_iff.2 he)
    obtain ⟨n,_,h2⟩:=gk j e hj
    simp only [Function.comp_apply,keyI,h2]
  have v2:a.eval i'=.int .i64 n:=by
    simp only [RepV,RepC] at k2
    obtain ⟨cs,rfl,h2⟩:=k2
    exact h2
  unfold isMapF at c1
  split at c1
  case h_2=>cases c1
  rename_i key elem u1
  simp only [Bool.and_eq_true] at c1
  obtain ⟨c1,c4⟩:=c1
  split at c1
  case h_2=>cases c1
  rename_i u2
  split at c4
  case h_2=>cases c4
  rename_i inf u3
  split at c4
  case h_2=>cases c4
  rename_i u4
  have hobj:(getObj b).run P w=.ok (.map es c) w:=by simp only [getObj,Sem.run,g3]
  have hck:(Instr.checkKey es.isEmpty 10000 key (.int .i64 n)).run P w=.ok () w:=by
    rw [show (10000:Nat)=9999+1 from rfl,Instr.checkKey]
    simp only [Sem.run_bind,run_underlying u2 w,Result.andThen_ok]; rfl
  have hz:(zeroValue elem).run P w=.ok .nilFunc w:=by simp only [zeroValue,Sem.run_bind,run_typeInfo' u3,Result.andThen_ok,u4]; rfl
  have hB:∀ (t:Bool) (v:Value) (u:SV),RepV A ρ w u v→(∀ ok,(Instr.lookup T (.map (some b)) (.int .i64 n) ok).run P w=.ok (if ok then .tuple #[v,.bool t] else v) w)→OpGood P o a w B w0 A ρ (lkRes ok u t) h:=fun t v u hu hrun=>by
    refine OpGood.pure st (v':=if ok then .tuple #[v,.bool t] else v) ?_ ?_
    · simp only [execOp,ho,v1,v2,Sem.run_bind,hrun ok]; rfl
    · cases ok with
      | false=>exact hu
      | true =>
        simp only [lkRes,RepV,RepVs]
        exact ⟨[v,.bool t],rfl,v,[.bool t],rfl,hu,.bool t,[],rfl,⟨[.bool t],by simp only [RepC],rfl⟩,rfl⟩
  rcases findNow_int (k:=.i64) (n:=n) es.toList (es.toList.map keyI) ge 0 with ⟨j,e,f1,f2,f3,f4⟩ | ⟨f1,f2⟩
  · obtain ⟨j2,hj2⟩:=List.getElem?_of_mem (gp.mem_iff.2 (List.mem_of_getElem? f2))
    obtain ⟨u,q1,q2⟩:=repVs_at g5 (j:=j2) (v:=e.val) (by rw [List.getElem?_map,hj2]; rfl)
    obtain ⟨n',p1,p2⟩:=gk j2 e hj2
    have hn':n'=n:=by
      rw [List.getElem?_map,f2,Option.map_some,Option.some.injEq] at f1
      unfold keyI at f1
      rw [p2] at f1
      exact f1
    rw [hn'] at p1
    rw [lookV_at p1 q1 (fun i hi hh=>by
      obtain ⟨a1,a2⟩:=List.getElem?_eq_some_iff.1 hh
      obtain ⟨b1,b2⟩:=List.getElem?_eq_some_iff.1 p1
      exact (List.pairwise_iff_getElem.1 gn) i j2 a1 b1 hi (a2.trans b2.symm))] at hg
    refine ⟨_,_,hg,hB true e.val u q2 (fun ok => ?_)⟩
    simp only [Instr.lookup,Sem.run_bind,run_underlying u1 w,Result.andThen_ok,hobj,Sem.run_pure,hck,Instr.findKey,run_underlying u2 w,f4]
  · rw [lookV_not (fun hk=>f1 (by
      obtain ⟨j,hj⟩:=List.getElem?_of_mem hk
      have h1:(l.map (·.key))[j]?=some (.int .i64 n):=by rw [g4,List.getElem?_map,hj]; rfl
      rw [List.getElem?_map] at h1
      cases he:l[j]? with
      | none=>rw [he] at h1; cases h1
      | some e =>
        rw [he,Option.map_some,Option.some.injEq] at h1
        refine List.mem_map.2 ⟨e,gp.mem_iff.1 (List.mem_of_getElem? he),?_⟩
        unfold keyI
        rw [h1]))] at hg
    refine ⟨_,_,hg,hB false .nilFunc .nilfn (by simp only [RepV]) (fun ok => ?_)⟩
    simp only [Instr.lookup,Sem.run_bind,run_underlying u1 w,Result.andThen_ok,hobj,Sem.run_pure,hck,Instr.findKey,run_underlying u2 w,f2,hz]
def chkOpdO:Option Opd→Option Operand→Bool
  | none,none=>true
  | some x,some y=>chkOpd x y
  | _,_=>false
def chkSlx (P:Program) (o:Oper) (e:Ty) (x:Opd) (lo hi:Option Opd):Bool:=match o.op with
  | .slice T y l' h' none=>descOk P (.sl e) T && chkOpd x y && chkOpdO lo l' && chkOpdO hi h'
  | _=>false
theorem bnd_ok (hs:SlotsOk A ρ w s a) {x:Option Opd} {y:Option Operand} (hc:chkOpdO x y=true) {d n:Int} (hb:bndG s x d=some n):(y=none∧n=d)∨∃ y',y=some y'∧a.eval y'=.int .i64 n:=by
  cases x with
  | none =>
    cases y with
    | none=>left; simp only [bndG,Option.some.injEq] at hb; exact ⟨rfl,hb.symm⟩
    | some y=>cases hc
  | some x =>
    cases y with
    | none=>cases hc
    | some y =>
      right
      have k:=opd_ok hs hc
      simp only [bndG] at hb
      split at hb
      · rename_i m ov hx
        simp only [Option.some.injEq] at hb
        subst hb
        rw [hx] at k
        simp only [RepV,RepC] at k
        obtain ⟨cs,rfl,h2⟩:=k
        exact ⟨y,rfl,h2⟩
      · cases hb
def Lay (A:Nat→Prop) (w:World) (e:Ty) (ad:Option Addr) (n:Nat) (l:List (den e)):Prop :=
  n=List.length l∧(0<n→∃ b o ds,ad=some ⟨b,o,none⟩∧A b∧w.rangeAt b o ds∧ds.length=n * tsize e∧∀ i,i<n→RepC A (fun _=>none) w e (List.getD l i (dft e)) [] ((ds.drop (i * tsize e)).take (tsize e)))
theorem good_slx_core (st:St B w0 A ρ own w h) (hs:SlotsOk A ρ w s a) {e:Ty} {x:Opd} {lo hi:Option Opd} (hc:chkSlx P o e x lo hi=true) {ad:Option Addr} {n c:Nat} (hx:∀ T y l' h',o.op=.slice T y l' h' none→a.eval y=.slice ad n c) (hnc:n≤c)
    {l:List (den e)} (hl:n=List.length l) (hd:0<n→∃ b o ds,ad=some ⟨b,o,none⟩∧A b∧w.rangeAt b o ds∧ds.length=n * tsize e∧∀ i,i<n→RepC A ρ w e (List.getD l i (dft e)) [] ((ds.drop (i * tsize e)).take (tsize e)))
    {m k:Int} (hm:bndG s lo 0=some m) (hk:bndG s hi ((List.length l:Nat):Int)=some k) (h0:0≤m∧m≤k∧k≤((List.length l:Nat):Int)) :
    OpGood P o a w B w0 A ρ (.dat (.sl e) ((l.take k.toNat).drop m.toNat) []) h:=by
  unfold chkSlx at hc
  split at hc
  case h_2=>cases hc
  rename_i T y l' h' ho
  simp only [Bool.and_eq_true] at hc
  obtain ⟨⟨⟨c1,c2⟩,c3⟩,c4⟩:=hc
  obtain ⟨e',u1,u2,u3,u4⟩:=descOk_sl c1
  have hv:=hx T y l' h' ho
  obtain ⟨m0,rfl⟩:∃ m0:Nat,m=(m0:Int):=⟨m.toNat,by omega⟩
  obtain ⟨k0,rfl⟩:∃ k0:Nat,k=(k0:Int):=⟨k.toNat,by omega⟩
  simp only [Int.toNat_natCast]
  have b1:(Instr.sliceBounds true n c (l'.map a.eval) (h'.map a.eval) none).run P w=.ok (m0,k0,c) w:=by
    have e1:=bnd_ok hs c3 hm
    have e2:=bnd_ok hs c4 hk
    unfold Instr.sliceBounds
    have p1:(0:Int)≤(k0:Int)∧(k0:Int)≤(c:Int):=by omega
    have p2:(0:Int)≤(m0:Int)∧(m0:Int)≤(k0:Int):=by omega
    rcases e1 with ⟨rfl,e1⟩ | ⟨y1,rfl,e1⟩ <;> rcases e2 with ⟨rfl,e2⟩ | ⟨y2,rfl,e2⟩
    · have q1:m0=0:=by omega
      have q2:k0=n:=by omega
      subst q1; subst q2
      simp only [Option.map_none,Sem.run_bind,Sem.run_pure,Result.andThen_ok]
    · have q1:m0=0:=by omega
      subst q1
      simp only [Option.map_none,Option.map_some,Sem.run_bind,Sem.run_pure,Result.andThen_ok,e2,Instr.sliceBound,asIntOf,if_pos p1,Int.toNat_natCast]
    · have q2:k0=n:=by omega
      subst q2
      simp only [Option.map_none,Option.map_some,Sem.run_bind,Sem.run_pure,Result.andThen_ok,e1,Instr.sliceBound,asIntOf,if_pos p2,Int.toNat_natCast]
    · simp only [Option.map_none,Option.map_some,Sem.run_bind,Sem.run_pure,Result.andThen_ok,e1,e2,Instr.sliceBound,asIntOf,if_pos p1,if_pos p2,Int.toNat_natCast]
  refine OpGood.pure st (v':=.slice (if c=m0 then ad else ad.map (·.add (m0 * tsize e))) (k0 - m0) (c - m0)) ?_ ?_
  · simp only [execOp,ho,hv,Option.map_none,Instr.sliceAt,Sem.run_bind,run_underlying u1 w,Result.andThen_ok,Instr.slice,b1,run_sizeOf' u3,Sem.run_pure]
  · simp only [RepV,RepC]
    refine ⟨_,⟨_,k0 - m0,c - m0,rfl,by simp,fun _=>⟨by rw [List.length_drop,List.length_take]; omega,by omega,fun hp => ?_⟩⟩,rfl⟩
    obtain ⟨b,of,ds,rfl,q2,q3,q4,q5⟩:=hd (by omega)
    rw [if_neg (by omega)]
    refine ⟨b,of+m0 * tsize e,(ds.drop (m0 * tsize e)).take ((k0 - m0) * tsize e),by simp [Addr.add_mid],q2,fun j v hj => ?_,?_,fun i hi => ?_⟩
    · have hj2:j<(k0 - m0) * tsize e:=by
        have:=(List.getElem?_eq_some_iff.1 hj).1
        rw [List.length_take] at this
        omega
      rw [List.getElem?_take_of_lt hj2,List.getElem?_drop] at hj
      have:=q3 _ _ hj
      rw [← Nat.add_assoc] at this
      exact this
    · rw [List.length_take,List.length_drop,q4,← Nat.sub_mul]
      exact Nat.min_eq_left (Nat.mul_le_mul_right _ (by omega))
    · have h1:=q5 (m0+i) (by omega)
      have e1:List.getD ((l.take k0).drop m0) i (dft e)=List.getD l (m0+i) (dft e):=by
        rw [List.getD_eq_getElem?_getD,List.getD_eq_getElem?_getD,List.getElem?_drop,List.getElem?_take_of_lt (by omega)]
      have e2:(((ds.drop (m0 * tsize e)).take ((k0 - m0) * tsize e)).drop (i * tsize e)).take (tsize e)=(ds.drop ((m0+i) * tsize e)).take (tsize e):=by
        refine List.ext_getElem? fun j => ?_
        by_cases hj:j<tsize e
        · rw [List.getElem?_take_of_lt hj,List.getElem?_take_of_lt hj,List.getElem?_drop,List.getElem?_drop]
          have hlt:i * tsize e+j<(k0 - m0) * tsize e:=by
            calc i * tsize e+j<i * tsize e+tsize e:=by omega
              _=(i+1) * tsize e:=by rw [Nat.add_mul,Nat.one_mul]
              _≤(k0 - m0) * tsize e:=Nat.mul_le_mul_right _ (by omega)
          rw [List.getElem?_take_of_lt hlt,List.getElem?_drop]
          congr 1
          rw [Nat.add_mul]; omega
        · rw [List.getElem?_eq_none (by rw [List.length_take]; omega),List.getElem?_eq_none (by rw [List.length_take]; omega)]
      rw [e1,e2]
      exact h1
theorem good_slxd (st:St B w0 A ρ own w h) (hs:SlotsOk A ρ w s a) {e:Ty} {x:Opd} {lo hi:Option Opd} (hc:chkSlx P o e x lo hi=true) {l:List (den e)} (hx:evO s x=.dat (.sl e) l [])
    {m k:Int} (hm:bndG s lo 0=some m) (hk:bndG s hi ((List.length l:Nat):Int)=some k) (h0:0≤m∧m≤k∧k≤((List.length l:Nat):Int)) :
    OpGood P o a w B w0 A ρ (.dat (.sl e) ((l.take k.toNat).drop m.toNat) []) h:=by
  have hv:∀ z,chkOpd x z=true→∃ ad n c,a.eval z=.slice ad n c∧n=List.length l∧n≤c∧(0<n→∃ b o ds,ad=some ⟨b,o,none⟩∧A b∧w.rangeAt b o ds∧ds.length=n * tsize e∧∀ i,i<n→RepC A ρ w e (List.getD l i (dft e)) [] ((ds.drop (i * tsize e)).take (tsize e))):=fun z hz=>by
    have k1:=opd_ok hs hz
    rw [hx] at k1
    simp only [RepV,RepC] at k1
    obtain ⟨cs,⟨ad,n,c,rfl,_,h1⟩,h2⟩:=k1
    exact ⟨ad,n,c,h2,h1 (fun o ho=>by cases ho)⟩
  have hc':=hc
  unfold chkSlx at hc'
  split at hc'
  case h_2=>cases hc'
  rename_i T z l' h' ho
  simp only [Bool.and_eq_true] at hc'
  obtain ⟨ad,n,c,e1,e2,e3,e4⟩:=hv z hc'.1.1.2
  refine good_slx_core st hs hc (ad:=ad) (n:=n) (c:=c) (fun T' z' l2 h2 hz' => ?_) e3 e2 e4 hm hk h0
  rw [ho] at hz'
  cases hz'
  exact e1
theorem good_slx (st:St B w0 A ρ own w h) (hs:SlotsOk A ρ w s a) {e e0:Ty} {x:Opd} {lo hi:Option Opd} (hc:chkSlx P o e x lo hi=true) {y:den (.sl e0)} {g:Nat} (hx:evO s x=.dat (.sl e0) y [([],some g)]) {l:List (den e)} (hg:h g=.frz e l)
    {m k:Int} (hm:bndG s lo 0=some m) (hk:bndG s hi ((List.length l:Nat):Int)=some k) (h0:0≤m∧m≤k∧k≤((List.length l:Nat):Int)) :
    OpGood P o a w B w0 A ρ (.dat (.sl e) ((l.take k.toNat).drop m.toNat) []) h:=by
  have ob:=st.objs g
  rw [hg] at ob
  simp only [RepO,RepArr] at ob
  obtain ⟨sp,r1,r2,r3,r4,r5,r6,r7,r8,r9⟩:=ob
  have hv:∀ z,chkOpd x z=true→∃ ad,a.eval z=.slice ad sp.len sp.cap∧(0<sp.cap→ad=some ⟨sp.b,0,none⟩):=fun z hz=>by
    have k1:=opd_ok hs hz
    rw [hx] at k1
    simp only [RepV,RepC] at k1
    obtain ⟨cs,⟨ad,n,c,rfl,hh,_⟩,h2⟩:=k1
    obtain ⟨s',ad',h3,h4,h5,h6⟩:=hh g (by simp)
    rw [r1] at h3
    cases h3
    simp only [Value.slice.injEq] at h5
    obtain ⟨rfl,rfl,rfl⟩:=h5
    exact ⟨ad,h2,h6⟩
  have hc':=hc
  unfold chkSlx at hc'
  split at hc'
  case h_2=>cases hc'
  rename_i T z l' h' ho
  simp only [Bool.and_eq_true] at hc'
  obtain ⟨ad,e1,e2⟩:=hv z hc'.1.1.2
  refine good_slx_core st hs hc (ad:=ad) (n:=sp.len) (c:=sp.cap) (fun T' z' l2 h2 hz' => ?_) r8 r7.symm (fun hp => ?_) hm hk h0
  · rw [ho] at hz'
    cases hz'
    exact e1
  · obtain ⟨cs,q1,⟨q2,q3⟩,q4⟩:=r9 (by omega)
    rw [r3] at q1 q4
    refine ⟨sp.b,0,cs.take (sp.len * tsize e),e2 (by omega),q2,fun j v hj=>q3 j v ?_,?_,fun i hi => ?_⟩
    · have:=(List.getElem?_eq_some_iff.1 hj).1
      rw [List.length_take] at this
      rw [List.getElem?_take_of_lt (by omega)] at hj
      exact hj
    · rw [List.length_take,q1]
      exact Nat.min_eq_left (Nat.mul_le_mul_right _ r8)
    · have h1:=q4 i hi
      have e3:((cs.take (sp.len * tsize e)).drop (i * tsize e)).take (tsize e)=cut cs (i * tsize e) (tsize e):=by
        unfold cut
        refine List.ext_getElem? fun j => ?_
        by_cases hj:j<tsize e
        · rw [List.getElem?_take_of_lt hj,List.getElem?_take_of_lt hj,List.getElem?_drop,List.getElem?_drop]
          have hlt:i * tsize e+j<sp.len * tsize e:=by
            calc i * tsize e+j<i * tsize e+tsize e:=by omega
              _=(i+1) * tsize e:=by rw [Nat.add_mul,Nat.one_mul]
              _≤sp.len * tsize e:=Nat.mul_le_mul_right _ (by omega)
          rw [List.getElem?_take_of_lt hlt]
        · rw [List.getElem?_eq_none (by rw [List.length_take]; omega),List.getElem?_eq_none (by rw [List.length_take]; omega)]
      rw [e3]; exact h1
theorem map_write (st:St B w0 A ρ own w h) {g:Nat} {κ ν:Ty} {l l':List (den κ×den ν)} (hg:h g=.map κ ν l) {sp:Spot} {es:Array MapEntry} {c:Nat} (n1:ρ g=some sp) (n2:sp.mp=true) (n3:own sp.b=some g) (n4:∀ p,sp.ok p↔p=[]) (n5:w.heap[sp.b]?=some (.map es c))
    {es':Array MapEntry} {c':Nat} (h1:RepEnts A ρ w κ ν l' es'.toList) (h2:Born es'.toList c') :
    St B w0 A ρ own { w with heap:=w.heap.setIfInBounds sp.b (.map es' c') } (appE h [(g,.map κ ν l')])∧Later A ρ w A ρ { w with heap:=w.heap.setIfInBounds sp.b (.map es' c') }:=by
  have hlt:sp.b<w.heap.size:=st.oldO _ _ n3
  have hw:∀ b,b≠sp.b→(w.heap.setIfInBounds sp.b (.map es' c'))[b]?=w.heap[b]?:=fun b hb=>Array.getElem?_setIfInBounds_ne (Ne.symm hb)
  obtain ⟨st2,l2⟩:=st.write (w':={ w with heap:=w.heap.setIfInBounds sp.b (.map es' c') }) (o':=.map κ ν l') n3 hw
    ⟨rfl,rfl,rfl,by simp,fun b hb=>hw b (fun e=>by have:=st.base _ _ n3; omega)⟩ (by simp)
    (fun hl=>⟨sp,es',c',n1,n2,n3,n4,by
      show (w.heap.setIfInBounds sp.b (.map es' c'))[sp.b]?=_
      simp [hlt],RepEnts.mono hl.hA hl.hρ hl.hw h1,h2⟩) (by simp)
  exact ⟨st2,l2⟩
def chkMapset (P:Program) (o:Oper) (κ ν:Ty) (m i v:Opd):Bool:=match o.op with
  | .mapUpdate T m' i' v'=>isMapT P κ ν T && chkOpd m m' && chkOpd i i' && chkOpd v v'
  | .insert T m' i' v'=>isMapT P κ ν T && chkOpd m m' && chkOpd i i' && chkOpd v v'
  | _=>false
theorem chkMapset_spec {κ ν:Ty} {m i v:Opd} (hc:chkMapset P o κ ν m i v=true):∃ T m' i' v',(∀ ev:Operand→Value,execOp ev o=execOp ev { o with op:=.mapUpdate T m' i' v' })∧isMapT P κ ν T=true∧chkOpd m m'=true∧chkOpd i i'=true∧chkOpd v v'=true:=by
  unfold chkMapset at hc
  split at hc
  · rename_i T m' i' v' ho
    simp only [Bool.and_eq_true] at hc
    exact ⟨T,m',i',v',fun ev=>by simp only [execOp,ho],hc.1.1.1,hc.1.1.2,hc.1.2,hc.2⟩
  · rename_i T m' i' v' ho
    simp only [Bool.and_eq_true] at hc
    exact ⟨T,m',i',v',fun ev=>by simp only [execOp,ho],hc.1.1.1,hc.1.1.2,hc.1.2,hc.2⟩
  · cases hc
theorem run_set {b:Nat} {es:Array MapEntry} {c:Nat} (h:w.heap[b]?=some (.map es c)) (ob:Go.Obj):(setObj b ob).run P w=.ok () { w with heap:=w.heap.setIfInBounds b ob }:=by simp only [setObj,Sem.run,h]
theorem good_mapset (st:St B w0 A ρ own w h) (hs:SlotsOk A ρ w s a) {κ ν:Ty} {m i v:Opd} (hc:chkMapset P o κ ν m i v=true) {g:Nat} (hm:evO s m=.ptr g []) {n:den κ} (hi:evO s i=.dat κ n []) {x:den ν} (hv:evO s v=.dat ν x [])
    {l:List (den κ×den ν)} (hg:h g=.map κ ν l):OpGood P o a w B w0 A ρ .junk (appE h [(g,.map κ ν (mapPut κ ν n x l))]):=by
  obtain ⟨T,m',i',v',ho,c1,c2,c3,c4⟩:=chkMapset_spec hc
  obtain ⟨key,elem,u1,u2,u3⟩:=isMapT_spec c1
  have k1:=opd_ok hs c2
  have k2:=opd_ok hs c3
  have k3:=opd_ok hs c4
  rw [hm] at k1
  rw [hi] at k2
  rw [hv] at k3
  have k2:RepX A ρ w κ n (a.eval i'):=by simpa only [RepV,RepX] using k2
  have k3:RepX A ρ w ν x (a.eval v'):=by simpa only [RepV,RepX] using k3
  have hkt:keyT κ=true:=by
    unfold keyOk at u2
    simp only [Bool.and_eq_true] at u2
    exact u2.1.1.1
  have ob:=st.objs g
  rw [hg] at ob
  obtain ⟨sp,es,c,n1,n2,n3,n4,n5,n6,n7⟩:=ob
  have v1:=repV_map k1 n1 n2
  have f1:=run_findKey u2 k2 l es.toList n6
  have hobj:(getObj sp.b).run P w=.ok (.map es c) w:=by simp only [getObj,Sem.run,n5]
  cases hf:mapIx? κ ν n l with
  | none =>
    obtain ⟨q1,q2,_⟩:=mapIx?_none hf
    rw [hf] at f1
    obtain ⟨st2,l2⟩:=map_write st hg n1 n2 n3 n4 n5 (es':=es.push { key:=a.eval i',val:=a.eval v',born:=c }) (c':=c+1) (l':=mapPut κ ν n x l)
      (by rw [q2,Array.toList_push]; exact ents_push k2 k3 n6) (by rw [Array.toList_push]; exact n7.push rfl)
    refine OpGood.skip ?_ st2 l2 (by simp only [RepV])
    rw [ho]
    simp only [execOp,v1,Instr.mapUpdate,Sem.run_bind,run_underlying u1 w,Result.andThen_ok,hobj,Sem.run_pure,run_checkKey u2 k2,f1,Option.bind_none,run_set n5]
  | some j =>
    obtain ⟨m0,y,q1,q2,q3,q4⟩:=mapIx?_some hf
    obtain ⟨e,e1,e2,_⟩:=ents_at n6 q1
    obtain ⟨s1,s2⟩:=key_same hkt k2 e2 q2
    rw [hf,Option.bind_some,e1,Option.map_some] at f1
    have hj:es[j]?=some e:=by rw [← Array.getElem?_toList]; exact e1
    have hk:(Instr.keyThatStays (a.eval i') (a.eval i')).run P w=.ok (a.eval i') w:=by
      simp only [Instr.keyThatStays,s2,if_true,Sem.run_pure]
    obtain ⟨st2,l2⟩:=map_write st hg n1 n2 n3 n4 n5 (es':=es.modify j fun e=>{ e with key:=a.eval i',val:=a.eval v' }) (c':=c) (l':=mapPut κ ν n x l)
      (by rw [Array.toList_modify]; exact ents_put k2 k3 n6 hf) (by rw [Array.toList_modify]; exact n7.modify j (fun _=>rfl))
    refine OpGood.skip ?_ st2 l2 (by simp only [RepV])
    rw [ho]
    simp only [execOp,v1,Instr.mapUpdate,Sem.run_bind,run_underlying u1 w,Result.andThen_ok,hobj,Sem.run_pure,run_checkKey u2 k2,f1,hj,Option.map_some,Option.getD_some,← s1,hk,run_set n5]
def chkMapent (P:Program) (o:Oper) (κ ν:Ty) (m i:Opd):Bool:=match o.op with
  | .mapEntry T m' i'=>isMapT P κ ν T && chkOpd m m' && chkOpd i i'
  | _=>false
theorem good_mapent (st:St B w0 A ρ own w h) (hs:SlotsOk A ρ w s a) {κ ν:Ty} {m i:Opd} (hc:chkMapent P o κ ν m i=true) {g:Nat} (hm:evO s m=.ptr g []) {n:den κ} (hi:evO s i=.dat κ n [])
    {l:List (den κ×den ν)} (hg:h g=.map κ ν l):OpGood P o a w B w0 A ρ (.tup [.dat ν ((mapFind κ ν n l).getD (dft ν)) [],.dat (.int .i64) ((mapIx κ ν n l:Nat):Int) []]) (appE h [(g,.map κ ν (mapEnt κ ν n l))]):=by
  unfold chkMapent at hc
  split at hc
  case h_2=>cases hc
  rename_i T m' i' ho
  simp only [Bool.and_eq_true] at hc
  obtain ⟨⟨c1,c2⟩,c3⟩:=hc
  obtain ⟨key,elem,u1,u2,u3⟩:=isMapT_spec c1
  have k1:=opd_ok hs c2
  have k2:=opd_ok hs c3
  rw [hm] at k1
  rw [hi] at k2
  have k2:RepX A ρ w κ n (a.eval i'):=by simpa only [RepV,RepX] using k2
  have hkt:keyT κ=true:=by
    unfold keyOk at u2
    simp only [Bool.and_eq_true] at u2
    exact u2.1.1.1
  have ob:=st.objs g
  rw [hg] at ob
  obtain ⟨sp,es,c,n1,n2,n3,n4,n5,n6,n7⟩:=ob
  have v1:=repV_map k1 n1 n2
  have f1:=run_findKey u2 k2 l es.toList n6
  have hobj:(getObj sp.b).run P w=.ok (.map es c) w:=by simp only [getObj,Sem.run,n5]
  have hz:=zeroOk_spec u3 w
  have tup:∀ (w':World) (x:den ν) (v:Value) (k:Nat),Later A ρ w A ρ w'→RepX A ρ w ν x v→RepV A ρ w' (.tup [.dat ν x [],.dat (.int .i64) ((k:Nat):Int) []]) (.tuple #[v,goInt (k:Int)]):=fun w' x v k hl hx=>by
    obtain ⟨cs,x1,x2⟩:=hx
    rw [RepV]
    refine ⟨[v,goInt (k:Int)],rfl,?_⟩
    rw [RepVs]
    refine ⟨_,_,rfl,by rw [RepV]; exact ⟨cs,hl.repC x1,x2⟩,?_⟩
    rw [RepVs]
    refine ⟨_,_,rfl,mk_int,?_⟩
    rw [RepVs]
  cases hf:mapIx? κ ν n l with
  | none =>
    obtain ⟨q1,q2,q3⟩:=mapIx?_none hf
    rw [hf] at f1
    have hc0:c=l.length:=by rw [n7.1,ents_len n6]
    have hd:RepX A ρ w ν (dft ν) (mkV ν (zeroCells ν)):=⟨_,RepC.zero A ρ w ν,rfl⟩
    obtain ⟨st2,l2⟩:=map_write st hg n1 n2 n3 n4 n5 (es':=es.push { key:=a.eval i',val:=mkV ν (zeroCells ν),born:=c }) (c':=c+1) (l':=mapEnt κ ν n l)
      (by unfold mapEnt; rw [q1,Array.toList_push]; exact ents_push k2 hd n6) (by rw [Array.toList_push]; exact n7.push rfl)
    rw [q1,q3,← hc0]
    refine OpGood.value ?_ st2 l2 (tup _ (dft ν) _ c l2 hd)
    simp only [execOp,ho,v1,Instr.mapEntry,Sem.run_bind,run_underlying u1 w,Result.andThen_ok,hobj,Sem.run_pure,run_checkKey u2 k2,f1,Option.bind_none,run_set n5,hz]
  | some j =>
    obtain ⟨m0,y,q1,q2,q3,q4⟩:=mapIx?_some hf
    obtain ⟨e,e1,e2,e3⟩:=ents_at n6 q1
    obtain ⟨s1,s2⟩:=key_same hkt k2 e2 q2
    rw [hf,Option.bind_some,e1,Option.map_some] at f1
    have hj:es[j]?=some e:=by rw [← Array.getElem?_toList]; exact e1
    have hk:(Instr.keyThatStays (a.eval i') (a.eval i')).run P w=.ok (a.eval i') w:=by
      simp only [Instr.keyThatStays,s2,if_true,Sem.run_pure]
    have same:es.modify j (fun e=>{ e with key:=a.eval i' })=es:=by
      refine Array.ext_getElem? fun k => ?_
      rw [Array.getElem?_modify]
      split
      · rename_i hkj
        subst hkj
        rw [hj,Option.map_some,s1]
      · rfl
    obtain ⟨st2,l2⟩:=map_write st hg n1 n2 n3 n4 n5 (es':=es) (c':=c) (l':=mapEnt κ ν n l) (by unfold mapEnt; rw [q3]; exact n6) n7
    have hb:=n7.2 j e e1
    rw [q3,q4]
    refine OpGood.value (v':=.tuple #[e.val,goInt (j:Int)]) ?_ st2 l2 (tup _ y _ j l2 e3)
    simp only [execOp,ho,v1,Instr.mapEntry,Sem.run_bind,run_underlying u1 w,Result.andThen_ok,hobj,Sem.run_pure,run_checkKey u2 k2,f1,hj,Option.map_some,Option.getD_some,← s1,hk,same,run_set n5,hb]
def chkMapst (P:Program) (o:Oper) (κ ν:Ty) (m e v:Opd):Bool:=match o.op with
  | .entryStore _ m' e' v'=>chkOpd m m' && chkOpd e e' && chkOpd v v'
  | _=>false
theorem good_mapst (st:St B w0 A ρ own w h) (hs:SlotsOk A ρ w s a) {κ ν:Ty} {m e v:Opd} (hc:chkMapst P o κ ν m e v=true) {g:Nat} (hm:evO s m=.ptr g []) {n:Int} {ov:Ov} (hi:evO s e=.dat (.int .i64) n ov) {x:den ν} (hv:evO s v=.dat ν x [])
    {l:List (den κ×den ν)} (h0:0≤n) (hn:n<((List.length l:Nat):Int)) (hg:h g=.map κ ν l):OpGood P o a w B w0 A ρ .junk (appE h [(g,.map κ ν (mapSet κ ν (Int.toNat n) x l))]):=by
  unfold chkMapst at hc
  split at hc
  case h_2=>cases hc
  rename_i T m' e' v' ho
  simp only [Bool.and_eq_true] at hc
  obtain ⟨⟨c2,c3⟩,c4⟩:=hc
  have k1:=opd_ok hs c2
  have k2:=opd_ok hs c3
  have k3:=opd_ok hs c4
  rw [hm] at k1
  rw [hi] at k2
  rw [hv] at k3
  have k2:=repV_int k2
  have k3:RepX A ρ w ν x (a.eval v'):=by simpa only [RepV,RepX] using k3
  have ob:=st.objs g
  rw [hg] at ob
  obtain ⟨sp,es,c,n1,n2,n3,n4,n5,n6,n7⟩:=ob
  have v1:=repV_map k1 n1 n2
  have hobj:(getObj sp.b).run P w=.ok (.map es c) w:=by simp only [getObj,Sem.run,n5]
  have hfi:=born_find n7 h0 (by rw [ents_len n6]; exact hn)
  have hfa:es.findIdx? (fun e=>(e.born:Int) == n)=some n.toNat:=by
    obtain ⟨l0⟩:=es
    simpa using hfi
  obtain ⟨st2,l2⟩:=map_write st hg n1 n2 n3 n4 n5 (es':=es.modify n.toNat fun e=>{ e with val:=a.eval v' }) (c':=c) (l':=mapSet κ ν n.toNat x l)
    (by rw [Array.toList_modify]; exact ents_set k3 n6 _) (by rw [Array.toList_modify]; exact n7.modify _ (fun _=>rfl))
  refine OpGood.skip ?_ st2 l2 (by simp only [RepV])
  simp only [execOp,ho,v1,k2,Instr.entryStore,asInt,asIntOf,Sem.run_bind,Result.andThen_ok,hobj,Sem.run_pure,hfa,run_set n5]
end
end Go.Proofs.YtjobjooccgledaaDoor.Ghost
namespace Go.Proofs.YtjobjooccgledaaDoor.Ghost
open Go
def chkGop (P:Program) (o:Oper):GOp→Bool
  | .move x=>chkMove o x
  | .mknil _ e=>chkMknil o e
  | .pick c a b=>chkPick o c a b
  | .newbox _ τ nils=>chkNewbox P o τ nils
  | .newboxv _ z=>chkNewboxv P o z
  | .box _ x=>chkBox o x
  | .load t a=>chkLoad P o t a
  | .store t a v=>chkStore P o t a v
  | .bin op x y=>chkBin o op x y
  | .eqs τ neg x y=>chkEqs P o τ neg x y
  | .not x=>chkNot o x
  | .neg x=>chkNeg o x
  | .conv k x=>chkConv P o k x
  | .fieldAddr t j a=>chkFieldAddr P o t j a
  | .field τ j a=>chkField P o τ j a
  | .index t x i=>chkIndex P o t x i
  | .len x=>chkBi o (fun | .len=>true | _=>false) [x] && isSlT P o
  | .lens x=>chkBi o (fun | .len=>true | _=>false) [x] && isStT P o
  | .slicearr n e x=>chkSlicearr P o n e x
  | .max xs=>chkBi o (fun | .max=>true | _=>false) xs
  | .min xs=>chkBi o (fun | .min=>true | _=>false) xs
  | .build τ parts nils=>chkBuild P o τ parts nils
  | .buildv sizes parts=>chkBuildv P o sizes parts
  | .slice _ e parts=>chkSlice P o e parts
  | .slicev n parts=>chkSlicev P o n parts
  | .make _ e n=>chkMake P o e n
  | .append _ e x y=>chkAppend P o e x y
  | .extract x i=>chkExtract o x i
  | .func f caps=>chkFunc o f caps
  | .mkmap _ κ ν=>chkMkmap P o κ ν
  | .lookup κ ν m i=>chkLookup P o κ ν m i
  | .lookv m i ok=>chkLookv P o m i ok
  | .slx e x lo hi=>chkSlx P o e x lo hi
  | .mapset κ ν m i v=>chkMapset P o κ ν m i v
  | .mapent κ ν m i=>chkMapent P o κ ν m i
  | .mapst κ ν m e v=>chkMapst P o κ ν m e v
  | .call _ _ _ _ _=>false
  | .fail=>true
section
variable {P:Program} {o:Oper} {a:Act} {w:World} {B:Nat} {w0:Start} {A:Nat→Prop} {ρ:Refs} {own:Nat→Option Nat} {h:Nat→Obj} {s:Nat→SV}
theorem castT_ty {a b:Ty} {x:den a} {y:den b} (h:castT a b x=some y):a=b:=by have:=castT_spec h; cases this; rfl
theorem gop_good (st:St B w0 A ρ own w h) (hs:SlotsOk A ρ w s a) {cf:Calls} {g:GOp} (hc:chkGop P o g=true) {R:Type} {K:SV→Eff→Option R} {r:R} (hg:gop cf s h g K=some r) :
    ∃ v e,K v e=some r∧OpGood P o a w B w0 A ρ v (appE h e):=by
  cases g with
  | move x=>exact ⟨_,_,hg,good_move st hs hc⟩
  | mknil k e =>
    simp only [gop] at hg
    split at hg
    · rename_i hk; exact ⟨_,_,hg,good_mknil st hc hk⟩
    · cases hg
  | pick c x y =>
    simp only [gop] at hg
    split at hg
    · rename_i t ov ht
      split at hg
      · rename_i u ov1 u' ov2 h1 h2
        refine ⟨_,_,hg,good_pick st hs hc ht fun q q' g1 g2 => ?_⟩
        rw [h1] at g1; rw [h2] at g2
        rw [repV_bool g1,repV_bool g2]
        cases t
        · exact mk_bool
        · exact mk_bool
      · rename_i u ov1 h1 h2
        cases t with
        | false=>cases hg
        | true =>
          refine ⟨_,_,hg,good_pick st hs hc ht fun q q' g1 g2 => ?_⟩
          rw [h1] at g1
          rw [repV_bool g1]
          exact mk_bool
      · rename_i u ov1 h1 h2
        cases t with
        | true=>cases hg
        | false =>
          refine ⟨_,_,hg,good_pick st hs hc ht fun q q' g1 g2 => ?_⟩
          rw [h2] at g2
          rw [repV_bool g2]
          exact mk_bool
      · cases hg
    · cases hg
  | newbox k τ nils =>
    simp only [gop] at hg
    split at hg
    · rename_i ov es h1 h2 h3; exact ⟨_,_,hg,good_newbox st hc h1 h2 h3⟩
    · cases hg
  | newboxv k z =>
    simp only [gop] at hg
    split at hg
    · rename_i h1 h2; exact ⟨_,_,hg,good_newboxv st hc h1 h2⟩
    · cases hg
  | box k x =>
    simp only [gop] at hg
    split at hg
    · rename_i hk
      split at hg
      · rename_i τ y ov hx; exact ⟨_,_,hg,good_box st hs hc hk hx⟩
      · rename_i f caps hx
        have:=good_boxv (P:=P) st hs hc hk (by rw [hx]; simp)
        rw [hx] at this
        exact ⟨_,_,hg,this⟩
      · cases hg
    · cases hg
  | load t x =>
    simp only [gop] at hg
    obtain ⟨v,h1,h2⟩:=good_load st hs hc hg
    exact ⟨v,[],h1,h2⟩
  | store t x y =>
    simp only [gop] at hg
    split at hg
    · rename_i hk; exact good_store st hs hc hk hg
    · cases hg
  | bin op x y =>
    simp only [gop] at hg
    obtain ⟨v,h1,h2⟩:=good_bin st hs hc hg
    exact ⟨v,[],h1,h2⟩
  | eqs τ neg x y =>
    simp only [gop,eqsG] at hg
    split at hg
    · rename_i σ m ρ' n hx hy
      split at hg
      · rename_i m' n' h1 h2 _
        have e1:=castT_ty h1
        have e2:=castT_ty h2
        subst e1; subst e2
        rw [castT_self] at h1 h2
        cases h1; cases h2
        simp only [chkGop] at hc
        have hgood:=good_eqs st hs hc hx hy
        cases neg
        · exact ⟨_,[],hg,hgood⟩
        · exact ⟨_,[],hg,hgood⟩
      · cases hg
    · cases hg
  | not x =>
    simp only [gop] at hg
    split at hg
    · rename_i b ov hx; exact ⟨_,_,hg,good_not st hs hc hx⟩
    · cases hg
  | neg x =>
    simp only [gop] at hg
    split at hg
    · rename_i k n ov hx; exact ⟨_,_,hg,good_neg st hs hc hx⟩
    · cases hg
  | conv k x =>
    simp only [gop] at hg
    split at hg
    · rename_i k' n ov hx; exact ⟨_,_,hg,good_conv st hs hc hx⟩
    · cases hg
  | fieldAddr t j x =>
    simp only [gop] at hg
    obtain ⟨v,h1,h2⟩:=good_fieldAddr st hs hc hg
    exact ⟨v,[],h1,h2⟩
  | field τ j x =>
    simp only [gop] at hg
    split at hg
    · rename_i σ y ov hx
      split at hg
      · rename_i pl _
        have:=pl.down
        subst this
        unfold subD at hg
        split at hg
        · rename_i d hd; exact ⟨_,_,hg,good_field st hs hc hx hd⟩
        · cases hg
      · cases hg
    · cases hg
  | index t x i =>
    simp only [gop] at hg
    obtain ⟨v,h1,h2⟩:=good_index st hs hc hg
    exact ⟨v,[],h1,h2⟩
  | len x =>
    simp only [gop] at hg
    simp only [chkGop,Bool.and_eq_true] at hc
    obtain ⟨v,h1,h2⟩:=good_len st hs hc.1 hc.2 hg
    exact ⟨v,[],h1,h2⟩
  | lens x =>
    simp only [gop] at hg
    simp only [chkGop,Bool.and_eq_true] at hc
    split at hg
    · rename_i y ov hx
      exact ⟨_,_,hg,good_lens st hs hc.1 hc.2 hx⟩
    · cases hg
  | slicearr n e x =>
    simp only [gop] at hg
    split at hg
    · rename_i k hx
      unfold globSl at hg
      split at hg
      · rename_i N e' l hh
        split at hg
        · rename_i pl _ hN
          subst pl
          have hN:=Nat.eq_of_beq_eq_true hN
          subst hN
          exact ⟨_,_,hg,good_sliceglo st hs hc hx hh⟩
        · cases hg
      · cases hg
    · rename_i g hx
      split at hg
      · rename_i N e' l hh
        split at hg
        · rename_i pl _ hN
          have:=pl.down
          subst this
          have hN:=Nat.eq_of_beq_eq_true hN
          subst hN
          exact ⟨_,_,hg,good_slicearr st hs hc hx hh⟩
        · cases hg
      · cases hg
    · cases hg
  | max xs =>
    simp only [gop] at hg
    split at hg
    · rename_i k n l hx; exact ⟨_,_,hg,good_max st hs hc hx⟩
    · cases hg
  | min xs =>
    simp only [gop] at hg
    split at hg
    · rename_i k n l hx; exact ⟨_,_,hg,good_min st hs hc hx⟩
    · cases hg
  | build τ parts nils =>
    simp only [gop] at hg
    split at hg
    · rename_i ov es hn
      obtain ⟨v,h1,h2⟩:=good_build st hs hc hn hg
      exact ⟨v,es,h1,h2⟩
    · cases hg
  | buildv sizes parts =>
    simp only [gop] at hg
    split at hg
    · rename_i hz; exact ⟨_,_,hg,good_buildv st hs hc hz⟩
    · cases hg
  | slice k e parts =>
    simp only [gop] at hg
    split at hg
    · rename_i l hk hl; exact ⟨_,_,hg,good_slice st hs hc hk hl⟩
    · cases hg
  | slicev n parts =>
    simp only [gop] at hg
    split at hg
    · rename_i hz; exact ⟨_,_,hg,good_slicev st hs hc hz⟩
    · cases hg
  | make k e n =>
    simp only [gop] at hg
    split at hg
    · rename_i kd m ov hk hn
      split at hg
      · rename_i hm; exact ⟨_,_,hg,good_make st hs hc hk hn hm.1 hm.2⟩
      · cases hg
    · cases hg
  | append k e x y =>
    simp only [gop] at hg
    split at hg
    · rename_i e0 l0 g σ l' ov' hx hy hk
      split at hg
      · rename_i e1 l hh
        split at hg
        · rename_i pl1 pl2 l'' h1 h2 hres
          have e1':=pl1.down
          have e2':=pl2.down
          subst e1'; subst e2'
          split at hg
          · rename_i m hm
            split at hg
            · rename_i hle; exact ⟨_,_,hg,good_append st hs hc hk hx hh hy hres hm hle⟩
            · cases hg
          · cases hg
        · cases hg
      · cases hg
    · cases hg
  | extract x i =>
    simp only [gop] at hg
    split at hg
    · rename_i us hx
      split at hg
      · rename_i u hu; exact ⟨_,_,hg,good_extract st hs hc hx hu⟩
      · cases hg
    · cases hg
  | func f caps=>exact ⟨_,_,hg,good_func st hs hc⟩
  | mkmap k κ ν =>
    simp only [gop] at hg
    split at hg
    · rename_i hk; exact ⟨_,_,hg,good_mkmap st hc hk⟩
    · cases hg
  | lookv m i ok =>
    simp only [gop] at hg
    split at hg
    · rename_i ks us n hm hi
      exact good_lookv st hs hc hm hi hg
    · cases hg
  | slx e x lo hi =>
    simp only [gop] at hg
    split at hg
    · rename_i e0 y g hx
      split at hg
      · rename_i e1 l hh
        split at hg
        · rename_i pl m k _ hm hk
          have e2:=pl.down
          subst e2
          split at hg
          · rename_i h0
            exact ⟨_,_,hg,good_slx st hs hc hx hh hm hk h0⟩
          · cases hg
        · cases hg
      · cases hg
    · rename_i e1 l hx
      split at hg
      · rename_i pl m k _ hm hk
        have e2:=pl.down
        subst e2
        split at hg
        · rename_i h0
          exact ⟨_,_,hg,good_slxd st hs hc hx hm hk h0⟩
        · cases hg
      · cases hg
    · cases hg
  | lookup κ ν m i =>
    simp only [gop] at hg
    split at hg
    · rename_i g σ y hm hi
      split at hg
      · rename_i κ' ν' l hh
        split at hg
        · rename_i n pl1 pl2 h1 h2 h3
          have e1:=castT_ty h1
          have e2:=pl1.down
          have e3:=pl2.down
          subst e1; subst e2; subst e3
          rw [castT_self] at h1
          cases h1
          exact ⟨_,_,hg,good_lookup st hs hc hm hi hh⟩
        · cases hg
      · cases hg
    · cases hg
  | mapset κ ν m i v =>
    simp only [gop] at hg
    split at hg
    · rename_i g σ y ρ' z hm hi hv
      split at hg
      · rename_i κ' ν' l hh
        split at hg
        · rename_i n x pl1 pl2 h1 h2 h3 h4
          have e1:=castT_ty h1
          have e0:=castT_ty h2
          have e2:=pl1.down
          have e3:=pl2.down
          subst e1; subst e0; subst e2; subst e3
          rw [castT_self] at h1 h2
          cases h1; cases h2
          exact ⟨_,_,hg,good_mapset st hs hc hm hi hv hh⟩
        · cases hg
      · cases hg
    · cases hg
  | mapent κ ν m i =>
    simp only [gop] at hg
    split at hg
    · rename_i g σ y hm hi
      split at hg
      · rename_i κ' ν' l hh
        split at hg
        · rename_i n pl1 pl2 h1 h2 h3
          have e1:=castT_ty h1
          have e2:=pl1.down
          have e3:=pl2.down
          subst e1; subst e2; subst e3
          rw [castT_self] at h1
          cases h1
          exact ⟨_,_,hg,good_mapent st hs hc hm hi hh⟩
        · cases hg
      · cases hg
    · cases hg
  | mapst κ ν m e v =>
    simp only [gop] at hg
    split at hg
    · rename_i g n ov ρ' z hm hi hv
      split at hg
      · rename_i κ' ν' l hh
        split at hg
        · rename_i x pl1 pl2 h2 h3 h4
          have e0:=castT_ty h2
          have e2:=pl1.down
          have e3:=pl2.down
          subst e0; subst e2; subst e3
          rw [castT_self] at h2
          cases h2
          split at hg
          · rename_i hn
            exact ⟨_,_,hg,good_mapst st hs hc hm hi hv hn.1 hn.2 hh⟩
          · cases hg
        · cases hg
      · cases hg
    · cases hg
  | call f args res keep opt=>simp [chkGop] at hc
  | fail=>simp [gop] at hg
end
end Go.Proofs.YtjobjooccgledaaDoor.Ghost
namespace Go.Proofs.YtjobjooccgledaaDoor.Ghost
open Go
section
variable {P:Program} {w:World} {B:Nat} {w0:Start} {A Aw:Nat→Prop} {ρ ρ':Refs} {own:Nat→Option Nat} {h:Nat→Obj}
theorem RepC.noRef {τ:Ty} {x:den τ} {cs:List Value} (hr:RepC A ρ w τ x [] cs):RepC A ρ' w τ x [] cs:=by
  have:=RepC.names (A:=A) (ρ:=ρ) (ρ':=ρ') (w:=w) (p:=fun _=>false) (f:=id) (fun g s hf=>by cases hf) τ (ov:=[]) rfl hr
  simpa only [mapOv] using this
theorem RepC.lift (hA:∀ b,A b→Aw b) {τ:Ty} {x:den τ} {cs:List Value} (hr:RepC A ρ w τ x [] cs):RepC Aw ρ' w τ x [] cs :=
  RepC.noRef (RepC.mono hA (fun _ _ h=>h) (fun _ _=>rfl) τ hr)
theorem resolve_repW (hA:∀ b,A b→Aw b) (hO:∀ g,RepO A ρ own w g (h g)) {τ:Ty}:(ov:Ov)→(hids:∀ g,g∈ovIds ov→∀ b,own b=some g→Aw b)→{x y:den τ}→{cs:List Value}→RepC Aw ρ w τ x ov cs→Ghost.resolve h τ x ov=some y→RepC Aw ρ w τ y [] cs
  | [],_,x,y,cs,hr,he=>by simp only [Ghost.resolve,Option.some.injEq] at he; subst he; exact hr
  | (q,none) :: r,_,x,y,cs,hr,he=>by simp [Ghost.resolve] at he
  | (q,some g) :: r,hids,x,y,cs,hr,he=>by
    have ob:=hO g
    have hr':∀ g,g∈ovIds r→∀ b,own b=some g→Aw b:=fun g' hg'=>hids g' (by simp [ovIds,hg'])
    simp only [Ghost.resolve] at he
    split at he
    · rename_i e l hg
      rw [hg] at ob
      split at he
      · rename_i x1 hx1
        exact resolve_repW hA hO r hr' (RepC.res1 (RepArr.plain hA (fun s cs hm=>⟨hids g (by simp [ovIds]) _ hm.1,hm.2.1⟩) ob) τ q hr hx1 (fun ee=>by simp)) he
      · cases he
    · rename_i e l hg
      rw [hg] at ob
      split at he
      · rename_i x1 hx1
        exact resolve_repW hA hO r hr' (RepC.res1 (RepArr.plain hA (fun s cs hm=>⟨hA _ hm.1,hm.2⟩) ob) τ q hr hx1 (fun ee=>by simp)) he
      · cases he
    · cases he
theorem selfOf_spec {g:Nat} {p:Path} {v:SV} {f:FuncId} {caps:List SV} (h:selfOf g p v=some (f,caps)):p=[]∧v=.clo f (.ptr g [] :: caps):=by
  unfold selfOf at h
  split at h
  · split at h
    · rename_i hb
      simp only [Option.some.injEq,Prod.mk.injEq] at h
      rw [Nat.eq_of_beq_eq_true hb,h.1,h.2]
      exact ⟨rfl,rfl⟩
    · cases h
  · cases h
theorem lend_ne:(n:Nat)→(v:SV)→{u:SV}→{ids:List Nat}→lend h n v=some (u,ids)→v≠.junk∧u≠.junk
  | 0,_,_,_,he=>by simp [lend] at he
  | n+1,v,u,ids,he=>by
    cases v with
    | dat τ x ov=>simp only [lend] at he; split at he <;> first | (cases he; done) | (simp only [Option.some.injEq,Prod.mk.injEq] at he; rw [← he.1]; simp)
    | ptr g p =>
      simp only [lend] at he
      split at he
      · split at he
        · split at he <;> first | (cases he; done) | (simp only [Option.some.injEq,Prod.mk.injEq] at he; rw [← he.1]; simp)
        · cases he
      · split at he
        · split at he <;> first | (cases he; done) | (simp only [Option.some.injEq,Prod.mk.injEq] at he; rw [← he.1]; simp)
        · cases he
      · split at he
        · split at he <;> first | (cases he; done) | (simp only [Option.some.injEq,Prod.mk.injEq] at he; rw [← he.1]; simp)
        · split at he
          · split at he <;> first | (cases he; done) | (simp only [Option.some.injEq,Prod.mk.injEq] at he; rw [← he.1]; simp)
          · cases he
      · split at he
        · split at he <;> first | (cases he; done) | (simp only [Option.some.injEq,Prod.mk.injEq] at he; rw [← he.1]; simp)
        · split at he
          · split at he <;> first | (cases he; done) | (simp only [Option.some.injEq,Prod.mk.injEq] at he; rw [← he.1]; simp)
          · cases he
      · cases he
    | ref τ x=>simp [lend] at he; rw [← he.1]; simp
    | selfc f caps=>simp only [lend] at he; split at he <;> first | (cases he; done) | (simp only [Option.some.injEq,Prod.mk.injEq] at he; rw [← he.1]; simp)
    | refv v=>simp only [lend] at he; split at he <;> first | (cases he; done) | (simp only [Option.some.injEq,Prod.mk.injEq] at he; rw [← he.1]; simp)
    | elp g i p=>simp [lend] at he
    | glo k=>simp [lend] at he
    | clo f caps=>simp only [lend] at he; split at he <;> first | (cases he; done) | (simp only [Option.some.injEq,Prod.mk.injEq] at he; rw [← he.1]; simp)
    | tup vs=>simp [lend] at he
    | fmap ks vs=>simp [lend] at he
    | slv vs=>simp only [lend] at he; split at he <;> first | (cases he; done) | (simp only [Option.some.injEq,Prod.mk.injEq] at he; rw [← he.1]; simp)
    | agv vs=>simp only [lend] at he; split at he <;> first | (cases he; done) | (simp only [Option.some.injEq,Prod.mk.injEq] at he; rw [← he.1]; simp)
    | nilfn=>simp [lend] at he; rw [← he.1]; simp
    | und=>simp [lend] at he
    | junk=>simp [lend] at he
mutual
theorem lend_rep (hA:∀ b,A b→Aw b) (hO:∀ g,RepO A ρ own w g (h g)):(n:Nat)→(v:SV)→{u:SV}→{ids:List Nat}→{val:Value}→lend h n v=some (u,ids)→(∀ g,g∈ids→∀ b,own b=some g→Aw b)→RepV A ρ w v val→RepV Aw ρ' w u val
  | 0,_,_,_,_,he,_,_=>by simp [lend] at he
  | n+1,v,u,ids,val,he,hi,hv=>by
    cases v with
    | dat τ x ov =>
      simp only [lend] at he
      split at he
      · rename_i y hy
        simp only [Option.some.injEq,Prod.mk.injEq] at he
        obtain ⟨rfl,rfl⟩:=he
        simp only [RepV] at hv ⊢
        obtain ⟨cs,h1,h2⟩:=hv
        exact ⟨cs,RepC.noRef (resolve_repW hA hO ov hi (RepC.wide hA h1) hy),h2⟩
      · cases he
    | ptr g p =>
      have ob:=hO g
      have box:∀ (τ:Ty) (x y:den τ) (ov:Ov) (d:Dyn) (M:Spot→List Value→Prop),(∀ s cs,M s cs→Aw s.b∧w.rangeAt s.b 0 cs)→RepBox A ρ w g τ x ov M→(∀ g,g∈ovIds ov→∀ b,own b=some g→Aw b) →
          Ghost.resolve h τ x ov=some y→getP p τ y=some d→RepV Aw ρ' w (.ref d.τ d.x) val:=fun τ x y ov d M hM hb hid hy hd=>by
        obtain ⟨sp,cs,n1,n2,n3,n4,n5,n6⟩:=hb
        obtain ⟨q1,q2⟩:=repV_ptr hv n1 n2
        rw [n4] at q1
        obtain ⟨m1,m2⟩:=hM _ _ n5
        have hr:=resolve_repW hA hO ov hid (RepC.wide hA n6) hy
        have hp:=RepC.getP τ p hr q1 hd
        simp only [RepV]
        refine ⟨sp.b,sp.off p,_,q2,m1,by rw [n3]; exact zero_rangeAt m2 _,RepC.noRef (RepC.ov d.τ (fun e => ?_) hp)⟩
        obtain ⟨q,oo⟩:=e
        rw [mem_ovSub]; simp
      have boxv:∀ (v1 x u1:SV) (ids1:List Nat) (M:Spot→List Value→Prop),(∀ s cs,M s cs→Aw s.b∧w.rangeAt s.b 0 cs)→RepBoxV A ρ w g v1 M→getV v1 p=some x→lend h n x=some (u1,ids1)→(∀ g,g∈ids1→∀ b,own b=some g→Aw b) →
          RepV Aw ρ' w (.refv u1) val:=fun v1 x u1 ids1 M hM hb hx hl hid=>by
        obtain ⟨sp,v',n1,n2,n3,n4,_,n5,n6⟩:=hb
        obtain ⟨q1,q2⟩:=repV_ptr hv n1 n2
        obtain ⟨m1,m2⟩:=hM _ _ n5
        obtain ⟨v2,w1,w2⟩:=RepV.getV v1 n6 hx
        simp only [RepV]
        refine ⟨sp.b,sp.off p,v2,q2,m1,?_,lend_rep hA hO n x hl hid w1⟩
        rw [w2,n3]
        exact zero_rangeAt m2 _
      have boxs:∀ (v1:SV) (f:FuncId) (caps us:List SV) (ids1:List Nat) (M:Spot→List Value→Prop),(∀ s cs,M s cs→Aw s.b∧w.rangeAt s.b 0 cs)→RepBoxV A ρ w g v1 M→selfOf g p v1=some (f,caps)→lendL h n caps=some (us,ids1)→(∀ g,g∈ids1→∀ b,own b=some g→Aw b) →
          RepV Aw ρ' w (.selfc f us) val:=fun v1 f caps us ids1 M hM hb hx hl hid=>by
        obtain ⟨e1,e2⟩:=selfOf_spec hx
        subst e1; subst e2
        obtain ⟨sp,v',n1,n2,n3,n4,_,n5,n6⟩:=hb
        obtain ⟨q1,q2⟩:=repV_ptr hv n1 n2
        obtain ⟨m1,m2⟩:=hM _ _ n5
        obtain ⟨v2,w1,w2⟩:=RepV.getV _ n6 (p:=[]) (x:=.clo f (.ptr g [] :: caps)) rfl
        rw [RepV] at w1
        obtain ⟨vs,h1,h2⟩:=w1
        rw [RepVs] at h2
        obtain ⟨vp,vs',rfl,h3,h4⟩:=h2
        obtain ⟨_,q4⟩:=repV_ptr h3 n1 n2
        simp only [RepV]
        refine ⟨sp.b,sp.off [],q2,m1,vs',?_,(lendL_rep hA hO n caps hl hid h4).1⟩
        have:=zero_rangeAt m2 (k:=offV (.clo f (.ptr g [] :: caps)) []) v2.cells.size
        rw [← w2,h1,q4,← q2] at this
        rw [n3]
        exact this
      simp only [lend] at he
      split at he
      · rename_i τ x ov hg
        rw [hg] at ob
        split at he
        · rename_i y hy
          split at he
          · rename_i d hd
            simp only [Option.some.injEq,Prod.mk.injEq] at he
            obtain ⟨rfl,rfl⟩:=he
            exact box τ x y ov d _ (fun s cs hm=>⟨hi g (by simp) _ hm.1,hm.2.1⟩) ob (fun g' hg'=>hi g' (by simp [hg'])) hy hd
          · cases he
        · cases he
      · rename_i τ x ov hg
        rw [hg] at ob
        split at he
        · rename_i y hy
          split at he
          · rename_i d hd
            simp only [Option.some.injEq,Prod.mk.injEq] at he
            obtain ⟨rfl,rfl⟩:=he
            exact box τ x y ov d _ (fun s cs hm=>⟨hA _ hm.1,hm.2⟩) ob (fun g' hg'=>hi g' (by simp [hg'])) hy hd
          · cases he
        · cases he
      · rename_i v1 hg
        rw [hg] at ob
        split at he
        · rename_i f caps hx
          split at he
          · rename_i us ids1 hl
            simp only [Option.some.injEq,Prod.mk.injEq] at he
            obtain ⟨rfl,rfl⟩:=he
            exact boxs v1 f caps us ids1 _ (fun s cs hm=>⟨hi g (by simp) _ hm.1,hm.2.1⟩) ob hx hl (fun g' hg'=>hi g' (by simp [hg']))
          · cases he
        · split at he
          · rename_i x hx
            split at he
            · rename_i u1 ids1 hl
              simp only [Option.some.injEq,Prod.mk.injEq] at he
              obtain ⟨rfl,rfl⟩:=he
              exact boxv v1 x u1 ids1 _ (fun s cs hm=>⟨hi g (by simp) _ hm.1,hm.2.1⟩) ob hx hl (fun g' hg'=>hi g' (by simp [hg']))
            · cases he
          · cases he
      · rename_i v1 hg
        rw [hg] at ob
        split at he
        · rename_i f caps hx
          split at he
          · rename_i us ids1 hl
            simp only [Option.some.injEq,Prod.mk.injEq] at he
            obtain ⟨rfl,rfl⟩:=he
            exact boxs v1 f caps us ids1 _ (fun s cs hm=>⟨hA _ hm.1,hm.2⟩) ob hx hl (fun g' hg'=>hi g' (by simp [hg']))
          · cases he
        · split at he
          · rename_i x hx
            split at he
            · rename_i u1 ids1 hl
              simp only [Option.some.injEq,Prod.mk.injEq] at he
              obtain ⟨rfl,rfl⟩:=he
              exact boxv v1 x u1 ids1 _ (fun s cs hm=>⟨hA _ hm.1,hm.2⟩) ob hx hl (fun g' hg'=>hi g' (by simp [hg']))
            · cases he
          · cases he
      · cases he
    | ref τ x =>
      simp only [lend,Option.some.injEq,Prod.mk.injEq] at he
      obtain ⟨rfl,rfl⟩:=he
      simp only [RepV] at hv ⊢
      obtain ⟨b,k,cs,h1,h2,h3,h4⟩:=hv
      exact ⟨b,k,cs,h1,hA b h2,h3,RepC.lift hA h4⟩
    | refv v1 =>
      simp only [lend] at he
      split at he
      · rename_i u1 ids1 hl
        simp only [Option.some.injEq,Prod.mk.injEq] at he
        obtain ⟨rfl,rfl⟩:=he
        simp only [RepV] at hv ⊢
        obtain ⟨b,k,v',h1,h2,h3,h4⟩:=hv
        exact ⟨b,k,v',h1,hA b h2,h3,lend_rep hA hO n v1 hl hi h4⟩
      · cases he
    | selfc f caps =>
      simp only [lend] at he
      split at he
      · rename_i us ids1 hl
        simp only [Option.some.injEq,Prod.mk.injEq] at he
        obtain ⟨rfl,rfl⟩:=he
        simp only [RepV] at hv ⊢
        obtain ⟨b,k,h1,h2,vs,h3,h4⟩:=hv
        exact ⟨b,k,h1,hA b h2,vs,h3,(lendL_rep hA hO n caps hl hi h4).1⟩
      · cases he
    | elp g i p=>simp [lend] at he
    | glo k=>simp [lend] at he
    | clo f caps =>
      simp only [lend] at he
      split at he
      · rename_i us ids1 hl
        simp only [Option.some.injEq,Prod.mk.injEq] at he
        obtain ⟨rfl,rfl⟩:=he
        simp only [RepV] at hv ⊢
        obtain ⟨vs,h1,h2⟩:=hv
        exact ⟨vs,h1,(lendL_rep hA hO n caps hl hi h2).1⟩
      · cases he
    | tup vs=>simp [lend] at he
    | fmap ks vs=>simp [lend] at he
    | slv vs0 =>
      simp only [lend] at he
      split at he
      · rename_i us ids1 hl
        simp only [Option.some.injEq,Prod.mk.injEq] at he
        obtain ⟨rfl,rfl⟩:=he
        simp only [RepV] at hv ⊢
        obtain ⟨ad,m,c,h1,h2,vs,h3,h4,⟨z,h5⟩,h6⟩:=hv
        obtain ⟨k1,k2,k3,k4⟩:=lendL_rep hA hO n vs0 hl hi h3
        refine ⟨ad,m,c,h1,by rw [k2]; exact h2,vs,k1,k3 h4,⟨z,k4 z h5⟩,fun hp => ?_⟩
        obtain ⟨b,k,q1,q2,q3⟩:=h6 hp
        exact ⟨b,k,q1,hA b q2,q3⟩
      · cases he
    | agv vs0 =>
      simp only [lend] at he
      split at he
      · rename_i us ids1 hl
        simp only [Option.some.injEq,Prod.mk.injEq] at he
        obtain ⟨rfl,rfl⟩:=he
        simp only [RepV] at hv ⊢
        obtain ⟨vs,h1,h2,h3⟩:=hv
        obtain ⟨k1,k2,k3,k4⟩:=lendL_rep hA hO n vs0 hl hi h2
        exact ⟨vs,h1,k1,k3 h3⟩
      · cases he
    | nilfn =>
      simp only [lend,Option.some.injEq,Prod.mk.injEq] at he
      obtain ⟨rfl,rfl⟩:=he
      simpa only [RepV] using hv
    | und=>simp [lend] at he
    | junk=>simp [lend] at he
theorem lendL_rep (hA:∀ b,A b→Aw b) (hO:∀ g,RepO A ρ own w g (h g)):(n:Nat)→(vs:List SV)→{us:List SV}→{ids:List Nat}→{vals:List Value}→lendL h n vs=some (us,ids)→(∀ g,g∈ids→∀ b,own b=some g→Aw b)→RepVs A ρ w vs vals →
    RepVs Aw ρ' w us vals∧us.length=vs.length∧(szOk vs vals→szOk us vals)∧(∀ z,(∀ v,v∈vs→svSize v=z)→∀ u,u∈us→svSize u=z)
  | 0,_,_,_,_,he,_,_=>by simp [lendL] at he
  | n+1,[],us,ids,vals,he,_,hv=>by
    simp only [lendL,Option.some.injEq,Prod.mk.injEq] at he
    obtain ⟨rfl,rfl⟩:=he
    exact ⟨by simpa only [RepVs] using hv,rfl,fun _=>by cases vals <;> simp [szOk],fun _ _ u hu=>by cases hu⟩
  | n+1,v :: r,us,ids,vals,he,hi,hv=>by
    simp only [lendL] at he
    split at he
    · rename_i u ids1 hl
      split at he
      · rename_i us1 ids2 hl2
        simp only [Option.some.injEq,Prod.mk.injEq] at he
        obtain ⟨rfl,rfl⟩:=he
        simp only [RepVs] at hv
        obtain ⟨val,vals',rfl,h1,h2⟩:=hv
        have k0:=lend_rep hA hO n v hl (fun g hg=>hi g (by simp [hg])) h1
        obtain ⟨k1,k2,k3,k4⟩:=lendL_rep hA hO n r hl2 (fun g hg=>hi g (by simp [hg])) h2
        obtain ⟨ne1,ne2⟩:=lend_ne n v hl
        have hsz:svSize u=svSize v:=by rw [← RepV.size ne2 k0,RepV.size ne1 h1]
        refine ⟨by simp only [RepVs]; exact ⟨val,vals',rfl,k0,k1⟩,by simp [k2],fun hz => ?_,fun z hz u' hu' => ?_⟩
        · simp only [szOk] at hz ⊢
          exact ⟨by rw [hsz]; exact hz.1,hz.2.1,k3 hz.2.2⟩
        · rcases List.mem_cons.1 hu' with rfl | hu'
          · rw [hsz]; exact hz v (by simp)
          · exact k4 z (fun v hv=>hz v (by simp [hv])) u' hu'
      · cases he
    · cases he
end
end
end Go.Proofs.YtjobjooccgledaaDoor.Ghost
namespace Go.Proofs.YtjobjooccgledaaDoor.Ghost
open Go
mutual
theorem RepC.setOwn {A:Nat→Prop} {ρ:Refs} {w:World} {e:Ty} {l:List (den e)}:(τ:Ty)→(q:Path)→{x x1:den τ}→{ov:Ov}→{cs:List Value} →
    RepC A ρ w τ x ov cs→(∃ g,(q,some g)∈ov)→Ghost.setP τ q x ⟨.sl e,l⟩=some x1→RepC A ρ w τ x1 ov cs
  | τ,[],x,x1,ov,cs,h,⟨g,hg⟩,hs=>by
    have hc:castT (.sl e) τ l=some x1:=by cases τ <;> simpa only [Ghost.setP] using hs
    have:=castT_spec hc
    cases this
    simp only [RepC] at h ⊢
    obtain ⟨a,n,c,h1,h2,h3⟩:=h
    exact ⟨a,n,c,h1,h2,fun hn=>absurd hg (hn _)⟩
  | .st fs,i :: q,x,x1,ov,cs,h,⟨g,hg⟩,hs=>by
    simp only [RepC] at h ⊢
    simp only [Ghost.setP] at hs
    exact RepF.setOwn fs 0 i q h ⟨g,by rw [Nat.zero_add]; exact hg⟩ hs
  | .arr n t,i :: q,x,x1,ov,cs,h,⟨g,hg⟩,hs=>by
    simp only [RepC] at h ⊢
    simp only [Ghost.setP] at hs
    cases hy:Ghost.setP t q (List.getD x i (dft t)) ⟨.sl e,l⟩ with
    | none=>rw [hy] at hs; cases hs
    | some y =>
      rw [hy] at hs
      simp only [Option.some.injEq] at hs
      subst hs
      refine ⟨by simpa using h.1,h.2.1,fun k hkn => ?_⟩
      by_cases hki:k=i
      · subst hki
        have:List.getD (List.set x k y) k (dft t)=y:=by
          have hl:k<List.length x:=by omega
          rw [List.getD_eq_getElem?_getD,List.getElem?_set_self hl]; rfl
        rw [this]
        exact RepC.setOwn t q (h.2.2 k hkn) ⟨g,by rw [mem_ovSub]; exact hg⟩ hy
      · have:List.getD (List.set x i y) k (dft t)=List.getD x k (dft t):=by
          rw [List.getD_eq_getElem?_getD,List.getElem?_set_ne (Ne.symm hki),← List.getD_eq_getElem?_getD]
        rw [this]
        exact h.2.2 k hkn
  | .bool,_ :: _,_,_,_,_,_,_,hs=>by simp [Ghost.setP] at hs
  | .int _,_ :: _,_,_,_,_,_,_,hs=>by simp [Ghost.setP] at hs
  | .str,_ :: _,_,_,_,_,_,_,hs=>by simp [Ghost.setP] at hs
  | .sl _,_ :: _,_,_,_,_,_,_,hs=>by simp [Ghost.setP] at hs
theorem RepF.setOwn {A:Nat→Prop} {ρ:Refs} {w:World} {e:Ty} {l:List (den e)}:(fs:List Ty)→(j i:Nat)→(q:Path)→{x x1:denL fs}→{ov:Ov}→{cs:List Value} →
    RepF A ρ w fs j x ov cs→(∃ g,((j+i) :: q,some g)∈ov)→setF fs i q x ⟨.sl e,l⟩=some x1→RepF A ρ w fs j x1 ov cs
  | [],_,_,_,_,_,_,_,_,_,hs=>by simp [setF] at hs
  | t :: r,j,0,q,x,x1,ov,cs,h,⟨g,hg⟩,hs=>by
    simp only [RepF] at h ⊢
    simp only [setF] at hs
    cases hy:Ghost.setP t q x.1 ⟨.sl e,l⟩ with
    | none=>rw [hy] at hs; cases hs
    | some y =>
      rw [hy] at hs
      simp only [Option.some.injEq] at hs
      subst hs
      exact ⟨RepC.setOwn t q h.1 ⟨g,by rw [mem_ovSub]; exact hg⟩ hy,h.2⟩
  | t :: r,j,n+1,q,x,x1,ov,cs,h,⟨g,hg⟩,hs=>by
    simp only [RepF] at h ⊢
    simp only [setF] at hs
    cases hy:setF r n q x.2 ⟨.sl e,l⟩ with
    | none=>rw [hy] at hs; cases hs
    | some y =>
      rw [hy] at hs
      simp only [Option.some.injEq] at hs
      subst hs
      exact ⟨h.1,RepF.setOwn r (j+1) n q h.2 ⟨g,by rw [show j+1+n=j+(n+1) by omega]; exact hg⟩ hy⟩
end
abbrev Keys:=List ((Nat×Path)×Nat)
def ovAt:Keys→Nat→Ov
  | [],_=>[]
  | ((j,p),g) :: r,i=>if j=i then (p,some g) :: ovAt r i else ovAt r i
def headOv (o:Keys) (i:Nat):SV→SV
  | .dat τ x _=>.dat τ x (ovAt o i)
  | v=>v
def withOv (o:Keys):Nat→List SV→List SV
  | _,[]=>[]
  | i,v :: r=>headOv o i v :: withOv o (i+1) r
def isDat:SV→Bool
  | .dat _ _ _=>true
  | _=>false
theorem withOv_cons (o:Keys) (i:Nat) (v:SV) (r:List SV):withOv o i (v :: r)=headOv o i v :: withOv o (i+1) r:=rfl
theorem headOv_ne {o:Keys} {i:Nat} {u:SV} (hu:isDat u=false):headOv o i u=u:=by
  cases u with
  | dat τ x ov=>cases hu
  | _=>rfl
theorem mem_ovAt {o:Keys} {i:Nat} {p:Path} {og:Option Nat}:(p,og)∈ovAt o i↔∃ g,og=some g∧((i,p),g)∈o:=by
  induction o with
  | nil=>simp [ovAt]
  | cons q r ih =>
    obtain ⟨⟨j,p'⟩,g'⟩:=q
    simp only [ovAt]
    by_cases hj:j=i
    · subst hj
      rw [if_pos rfl]
      simp only [List.mem_cons,Prod.mk.injEq,ih,true_and]
      constructor
      · rintro (⟨rfl,rfl⟩ | ⟨g,h1,h2⟩)
        · exact ⟨g',rfl,.inl ⟨rfl,rfl⟩⟩
        · exact ⟨g,h1,.inr h2⟩
      · rintro ⟨g,rfl,⟨rfl,rfl⟩ | h2⟩
        · exact .inl ⟨rfl,rfl⟩
        · exact .inr ⟨g,rfl,h2⟩
    · rw [if_neg hj,ih]
      simp only [List.mem_cons,Prod.mk.injEq]
      constructor
      · rintro ⟨g,h1,h2⟩; exact ⟨g,h1,.inr h2⟩
      · rintro ⟨g,h1,⟨⟨rfl,_⟩,_⟩ | h2⟩
        · exact absurd rfl hj
        · exact ⟨g,h1,h2⟩
section
variable {A:Nat→Prop} {ρ ρ':Refs} {w:World}
theorem RepVs.res {o:Keys} {i:Nat} {p:Path} {g:Nat}:(us:List SV)→(i0:Nat)→{vals:List Value} →
    (∀ τ x ov,us[i - i0]?=some (.dat τ x ov)→i0≤i→∃ e,∃ l:List (den e),getP p τ x=some ⟨.sl e,l⟩∧∀ v,HeadO ρ g v→Plain A ρ w e l v) →
    RepVs A ρ w (withOv (((i,p),g) :: o) i0 us) vals→RepVs A ρ w (withOv o i0 us) vals
  | [],_,_,_,hr=>hr
  | u :: r,i0,vals,hp,hr=>by
    rw [withOv_cons] at hr ⊢
    simp only [RepVs] at hr ⊢
    obtain ⟨v,vs',rfl,h1,h2⟩:=hr
    refine ⟨v,vs',rfl,?_,RepVs.res r (i0+1) (fun τ x ov hx hi=>hp τ x ov (by rw [show i - i0=(i - (i0+1))+1 by omega]; simpa using hx) (by omega)) h2⟩
    cases u with
    | dat τ x ov =>
      simp only [headOv,ovAt] at h1 ⊢
      by_cases hi:i=i0
      · subst hi
        rw [if_pos rfl] at h1
        obtain ⟨e,l,g1,g2⟩:=hp τ x ov (by simp) (Nat.le_refl _)
        simp only [RepV] at h1 ⊢
        obtain ⟨cs,k1,k2⟩:=h1
        exact ⟨cs,RepC.res1 g2 τ p k1 (set_get τ p x _ g1) (fun ee=>by simp),k2⟩
      · rw [if_neg hi] at h1
        exact h1
    | _=>exact h1
theorem RepVs.renamed {o:Keys} {f:Nat→Nat} (hf:∀ q s,q∈o→ρ q.2=some s→ρ' (f q.2)=some s):(us:List SV)→(i:Nat)→{vals:List Value}→(∀ u,u∈us→isDat u=false→(∀ p,allI p u=true)∧(∀ f,mapI f u=u)) →
    RepVs A ρ w (withOv o i us) vals→RepVs A ρ' w (withOv (o.map fun q=>(q.1,f q.2)) i us) vals
  | [],_,_,_,hr=>by simpa only [withOv,RepVs] using hr
  | u :: r,i,vals,hp,hr=>by
    rw [withOv_cons] at hr ⊢
    simp only [RepVs] at hr ⊢
    obtain ⟨v,vs',rfl,h1,h2⟩:=hr
    refine ⟨v,vs',rfl,?_,RepVs.renamed hf r (i+1) (fun u hu=>hp u (by simp [hu])) h2⟩
    have hmap:∀ o:Keys,mapOv f (ovAt o i)=ovAt (o.map fun q=>(q.1,f q.2)) i:=fun o=>by
      induction o with
      | nil=>rfl
      | cons q r ih =>
        obtain ⟨⟨j,p⟩,g⟩:=q
        simp only [ovAt,List.map_cons]
        split
        · simp only [mapOv,ih]
        · exact ih
    have hall:ovAll (fun g=>o.any fun q=>q.2 == g) (ovAt o i)=true:=by
      have:∀ ov:Ov,(∀ p g,(p,some g)∈ov→(o.any fun q=>q.2 == g)=true)→ovAll (fun g=>o.any fun q=>q.2 == g) ov=true:=fun ov=>by
        induction ov with
        | nil=>intro _; rfl
        | cons e r ih =>
          obtain ⟨p,og⟩:=e
          intro hh
          cases og with
          | none=>simp only [ovAll]; exact ih fun p g hm=>hh p g (by simp [hm])
          | some g=>simp only [ovAll,Bool.and_eq_true]; exact ⟨hh p g (by simp),ih fun p g hm=>hh p g (by simp [hm])⟩
      refine this _ fun p g hm => ?_
      obtain ⟨g',e,hm'⟩:=mem_ovAt.1 hm
      cases e
      exact List.any_eq_true.2 ⟨_,hm',by simp⟩
    have hf':∀ g s,(o.any fun q=>q.2 == g)=true→ρ g=some s→ρ' (f g)=some s:=fun g s hg hs=>by
      obtain ⟨q,hq,he⟩:=List.any_eq_true.1 hg
      have:q.2=g:=by simpa using he
      subst this
      exact hf q s hq hs
    cases hu:isDat u with
    | true =>
      cases u with
      | dat τ x ov =>
        have:=RepV.names hf' (.dat τ x (ovAt o i)) (by simp only [allI]; exact hall) h1
        simpa only [mapI,hmap,headOv] using this
      | _=>cases hu
    | false =>
      rw [headOv_ne hu] at h1 ⊢
      obtain ⟨q1,q2⟩:=hp u (List.mem_cons_self ..) hu
      have:=RepV.names hf' u (q1 _) h1
      rwa [q2] at this
end
end Go.Proofs.YtjobjooccgledaaDoor.Ghost
namespace Go.Proofs.YtjobjooccgledaaDoor.Ghost
open Go
section
variable {A:Nat→Prop} {ρ ρ':Refs} {w:World}
theorem RepVs.set {o:Keys} {τ:Ty} {x x':den τ} {ov ov':Ov}:(us:List SV)→(i0 i:Nat)→{vals:List Value}→us[i]?=some (.dat τ x ov) →
    (∀ cs,RepC A ρ w τ x (ovAt o (i0+i)) cs→RepC A ρ w τ x' (ovAt o (i0+i)) cs)→RepVs A ρ w (withOv o i0 us) vals→RepVs A ρ w (withOv o i0 (us.set i (.dat τ x' ov'))) vals
  | [],_,_,_,h,_,_=>by simp at h
  | u :: r,i0,0,vals,h,hx,hr=>by
    simp at h
    subst h
    rw [withOv_cons] at hr
    simp only [List.set_cons_zero,withOv_cons,RepVs] at hr ⊢
    obtain ⟨v,vs',rfl,h1,h2⟩:=hr
    refine ⟨v,vs',rfl,?_,h2⟩
    simp only [headOv,RepV] at h1 ⊢
    obtain ⟨cs,k1,k2⟩:=h1
    exact ⟨cs,hx cs k1,k2⟩
  | u :: r,i0,i+1,vals,h,hx,hr=>by
    rw [withOv_cons] at hr
    simp only [List.set_cons_succ,withOv_cons,RepVs] at hr ⊢
    obtain ⟨v,vs',rfl,h1,h2⟩:=hr
    exact ⟨v,vs',rfl,h1,RepVs.set r (i0+1) i (by simpa using h) (by rw [show i0+1+i=i0+(i+1) by omega]; exact hx) h2⟩
def Kept (keep1:Keys) (us us':List SV):Prop:=us'.length=us.length∧∀ i:Nat,(∀ τ x ov,us[i]?=some (.dat τ x ov)→∃ x',us'[i]?=some (.dat τ x' (ov ++ ovAt keep1 i)))∧(∀ u,us[i]?=some u→isDat u=false→us'[i]?=some u)
theorem keepG_spec {keep:Keys}:(keep1:Keys)→(us:List SV)→{us':List SV}→{es:Eff}→{vals:List Value}→keepG us keep1=some (us',es)→(∀ q,q∈keep1→q∈keep)→RepVs A ρ w (withOv keep 0 us) vals →
    RepVs A ρ w (withOv keep 0 us') vals∧Kept keep1 us us'
  | [],us,us',es,vals,hg,_,hr=>by
    simp only [keepG,Option.some.injEq,Prod.mk.injEq] at hg
    obtain ⟨rfl,rfl⟩:=hg
    exact ⟨hr,rfl,fun i=>⟨fun τ x ov h=>⟨x,by simpa [ovAt] using h⟩,fun u h _=>h⟩⟩
  | ((i,p),k) :: r,us,us',es,vals,hg,hk,hr=>by
    simp only [keepG] at hg
    split at hg
    · rename_i τ x ov hu
      split at hg
      · rename_i e l hp
        split at hg
        · rename_i x' hx'
          split at hg
          · rename_i us1 es1 h1
            simp only [Option.some.injEq,Prod.mk.injEq] at hg
            obtain ⟨rfl,rfl⟩:=hg
            have hr':=RepVs.set (x':=x') (ov':=ov ++ [(p,some k)]) us 0 i hu (fun cs hc=>RepC.setOwn τ p hc ⟨k,by rw [Nat.zero_add]; exact mem_ovAt.2 ⟨k,rfl,hk _ (by simp)⟩⟩ hx') hr
            obtain ⟨g1,g2,g3⟩:=keepG_spec r _ h1 (fun q hq=>hk q (by simp [hq])) hr'
            have hlt:i<us.length:=(List.getElem?_eq_some_iff.1 hu).1
            refine ⟨g1,by rw [g2]; simp,fun j=>⟨fun τ' y ov1 hj => ?_,fun u hj hd => ?_⟩⟩
            · by_cases hij:i=j
              · subst hij
                rw [hu] at hj
                cases hj
                obtain ⟨y',hy'⟩:=(g3 i).1 τ x' (ov ++ [(p,some k)]) (List.getElem?_set_self hlt)
                refine ⟨y',?_⟩
                rw [hy']
                simp [ovAt]
              · obtain ⟨y',hy'⟩:=(g3 j).1 τ' y ov1 (by rw [List.getElem?_set_ne hij]; exact hj)
                refine ⟨y',?_⟩
                rw [hy']
                simp [ovAt,hij]
            · have hij:i≠j:=fun e=>by
                subst e
                rw [hu] at hj
                cases hj
                cases hd
              exact (g3 j).2 u (by rw [List.getElem?_set_ne hij]; exact hj) hd
          · cases hg
        · cases hg
      · cases hg
    · cases hg
theorem Kept.rep {keep:Keys}:(us us':List SV)→(i0:Nat)→{vals:List Value}→us'.length=us.length →
    (∀ i:Nat,(∀ τ x ov,us[i]?=some (.dat τ x ov)→ov=[]∧∃ x',us'[i]?=some (.dat τ x' (ovAt keep (i0+i))))∧(∀ u,us[i]?=some u→isDat u=false→us'[i]?=some u)) →
    RepVs A ρ w (withOv keep i0 us') vals→RepVs A ρ w us' vals
  | [],[],_,_,_,_,hr=>hr
  | u :: r,u' :: r',i0,vals,hl,hk,hr=>by
    rw [withOv_cons] at hr
    simp only [RepVs] at hr ⊢
    obtain ⟨v,vs',rfl,h1,h2⟩:=hr
    refine ⟨v,vs',rfl,?_,Kept.rep r r' (i0+1) (by simpa using hl) (fun i => ?_) h2⟩
    · cases hd:isDat u with
      | true =>
        cases u with
        | dat τ x ov =>
          obtain ⟨_,x',hx'⟩:=(hk 0).1 τ x ov rfl
          simp at hx'
          subst hx'
          exact h1
        | _=>cases hd
      | false =>
        have:=(hk 0).2 u rfl hd
        simp at this
        subst this
        rwa [headOv_ne hd] at h1
    · have:=hk (i+1)
      simp only [List.getElem?_cons_succ] at this
      rw [show i0+(i+1)=i0+1+i by omega] at this
      exact this
  | [],_ :: _,_,_,hl,_,_=>by simp at hl
  | _ :: _,[],_,_,hl,_,_=>by simp at hl
end
end Go.Proofs.YtjobjooccgledaaDoor.Ghost
namespace Go.Proofs.YtjobjooccgledaaDoor.Ghost
open Go
section
variable {P:Program} {w:World} {B:Nat} {w0:Start} {A:Nat→Prop} {ρ:Refs} {own:Nat→Option Nat} {h:Nat→Obj}
def frzO:Obj→Obj
  | .arr e l=>.frz e l
  | .box τ x ov=>.fbox τ x ov
  | .boxv v=>.fboxv v
  | o=>o
theorem appE_append:(e e':Eff)→(h:Nat→Obj)→appE h (e ++ e')=appE (appE h e) e'
  | [],_,_=>rfl
  | (g,o) :: r,e',h=>by simp only [List.cons_append,appE]; exact appE_append r e' _
def frzH (h:Nat→Obj) (ids:List Nat):Nat→Obj:=fun i=>if i∈ids then frzO (h i) else h i
theorem appE_frz:(ids:List Nat)→(h0 h:Nat→Obj)→{es:Eff}→(∀ i,h i=h0 i∨h i=frzO (h0 i))→freezeE h0 ids=some es→appE h es=fun i=>if i∈ids then frzO (h0 i) else h i
  | [],h0,h,es,_,hf=>by
    simp only [freezeE,Option.some.injEq] at hf
    subst hf
    funext i; simp [appE]
  | g :: r,h0,h,es,hh,hf=>by
    have step:∀ (es1:Eff) (o':Obj),freezeE h0 r=some es1→o'=frzO (h0 g)→appE h ((g,o') :: es1)=fun i=>if i∈g :: r then frzO (h0 i) else h i:=fun es1 o' h1 h2=>by
      have:=appE_frz r h0 (fun i=>if i=g then o' else h i) (es:=es1) (fun i=>by
        by_cases hi:i=g
        · subst hi; rw [if_pos rfl]; exact .inr h2
        · rw [if_neg hi]; exact hh i) h1
      simp only [appE,this]
      funext i
      by_cases hr:i∈r
      · simp [hr]
      · by_cases hi:i=g
        · subst hi; simp [hr,h2]
        · simp [hr,hi]
    have same:∀ es1:Eff,freezeE h0 r=some es1→frzO (h0 g)=h0 g→appE h es1=fun i=>if i∈g :: r then frzO (h0 i) else h i:=fun es1 h1 h2=>by
      rw [appE_frz r h0 h hh h1]
      funext i
      by_cases hr:i∈r
      · simp [hr]
      · by_cases hi:i=g
        · subst hi
          have:h i=frzO (h0 i):=by
            rcases hh i with h3 | h3
            · rw [h3,h2]
            · exact h3
          simp [hr,this]
        · simp [hr,hi]
    simp only [freezeE] at hf
    split at hf
    · rename_i e l hg
      split at hf
      · rename_i es1 h1
        simp only [Option.some.injEq] at hf
        subst hf
        exact step es1 _ h1 (by rw [hg]; rfl)
      · cases hf
    · rename_i e l hg; exact same es hf (by rw [hg]; rfl)
    · rename_i τ x ov hg
      split at hf
      · rename_i es1 h1
        simp only [Option.some.injEq] at hf
        subst hf
        exact step es1 _ h1 (by rw [hg]; rfl)
      · cases hf
    · rename_i v hg
      split at hf
      · rename_i es1 h1
        simp only [Option.some.injEq] at hf
        subst hf
        exact step es1 _ h1 (by rw [hg]; rfl)
      · cases hf
    · rename_i hg; exact same es hf (by rw [hg]; rfl)
    · rename_i hg; exact same es hf (by rw [hg]; rfl)
    · cases hf
theorem freezeE_kind:(ids:List Nat)→{es:Eff}→freezeE h ids=some es→∀ g,g∈ids→h g≠.none
  | [],_,_,g,hg=>by cases hg
  | g :: r,es,hf,i,hi=>by
    have key:∀ es1,freezeE h r=some es1→h g≠.none→h i≠.none:=fun es1 h1 h2=>by
      rcases List.mem_cons.1 hi with rfl | hi
      · exact h2
      · exact freezeE_kind r h1 i hi
    simp only [freezeE] at hf
    split at hf
    · rename_i hg; split at hf
      · rename_i es1 h1; exact key es1 h1 (by rw [hg]; simp)
      · cases hf
    · rename_i hg; exact key es hf (by rw [hg]; simp)
    · rename_i hg; split at hf
      · rename_i es1 h1; exact key es1 h1 (by rw [hg]; simp)
      · cases hf
    · rename_i hg; split at hf
      · rename_i es1 h1; exact key es1 h1 (by rw [hg]; simp)
      · cases hf
    · rename_i hg; exact key es hf (by rw [hg]; simp)
    · rename_i hg; exact key es hf (by rw [hg]; simp)
    · cases hf
def idsA (A:Nat→Prop) (own:Nat→Option Nat) (ids:List Nat):Nat→Prop:=fun b=>A b∨∃ g,g∈ids∧own b=some g
def idsO (own:Nat→Option Nat) (ids:List Nat):Nat→Option Nat:=fun b=>match own b with
  | some g=>if g∈ids then none else some g
  | none=>none
theorem idsO_some {ids:List Nat} {b g:Nat}:idsO own ids b=some g↔own b=some g∧g ∉ ids:=by
  unfold idsO
  cases own b with
  | none=>simp
  | some g' =>
    simp only []
    split
    · rename_i hg
      simp only [reduceCtorEq,Option.some.injEq,false_iff,not_and,Decidable.not_not]
      rintro rfl; exact hg
    · rename_i hg
      simp only [Option.some.injEq]
      constructor
      · rintro rfl; exact ⟨rfl,hg⟩
      · exact fun h=>h.1
theorem St.freezeL (st:St B w0 A ρ own w h) {ids:List Nat} {es:Eff} (hf:freezeE h ids=some es) :
    St B w0 (idsA A own ids) ρ (idsO own ids) w (appE h es)∧Later A ρ w (idsA A own ids) ρ w:=by
  have hl:Later A ρ w (idsA A own ids) ρ w:=⟨fun b hb=>.inl hb,fun _ _ h=>h,fun _ _=>rfl⟩
  rw [appE_frz ids h h (fun _=>.inl rfl) hf]
  refine ⟨st.turn (fun i=>i∈ids) hl (fun _ _ _ _=>rfl) (fun b g' h1 h2=>idsO_some.2 ⟨h1,h2⟩) (fun _ _ h1=>h1) (fun i hi=>if_neg hi) (fun i hi => ?_) (fun i hi => ?_) (fun b g' h1 hA => ?_)
    (fun b hA => ?_) (fun b g' h1=>st.oldO _ _ (idsO_some.1 h1).1) (fun b g' h1=>st.base _ _ (idsO_some.1 h1).1) (RowKit.Below.refl B w) (fun b h1=>h1.imp id (fun ⟨g,_,e⟩=>st.base _ _ e)),hl⟩
  · show RepO _ _ _ _ _ (if i∈ids then frzO (h i) else h i)
    rw [if_pos hi]
    have ob:=st.objs i
    have hS:∀ s cs,Own own w i s cs→Stays (idsA A own ids) w s cs:=fun s cs hm=>⟨.inr ⟨i,hi,hm.1⟩,hm.2.1⟩
    have hk:=freezeE_kind ids hf i hi
    cases ho:h i with
    | box τ x ov =>
      rw [ho] at ob
      obtain ⟨sp,cs,n1,n2,n3,n4,n5,n6⟩:=ob
      exact ⟨sp,cs,n1,n2,n3,n4,hS _ _ n5,hl.repC n6⟩
    | boxv u =>
      rw [ho] at ob
      obtain ⟨sp,v,n1,n2,n3,n4,n5,n6,n7⟩:=ob
      exact ⟨sp,v,n1,n2,n3,n4,n5,hS _ _ n6,hl.repV n7⟩
    | arr e l =>
      rw [ho] at ob
      obtain ⟨sp,n1,n2,n3,n4,n5,n6,n7,n8,n9⟩:=ob
      refine ⟨sp,n1,n2,n3,n4,n5,n6,n7,n8,fun hc => ?_⟩
      obtain ⟨cs,m1,m2,m3⟩:=n9 hc
      exact ⟨cs,m1,hS _ _ m2,fun i hi=>hl.repC (m3 i hi)⟩
    | fbox τ x ov =>
      rw [ho] at ob
      obtain ⟨sp,cs,n1,n2,n3,n4,⟨m1,m2⟩,n6⟩:=ob
      exact ⟨sp,cs,n1,n2,n3,n4,⟨.inl m1,m2⟩,hl.repC n6⟩
    | fboxv u =>
      rw [ho] at ob
      obtain ⟨sp,v,n1,n2,n3,n4,n5,⟨m1,m2⟩,n7⟩:=ob
      exact ⟨sp,v,n1,n2,n3,n4,n5,⟨.inl m1,m2⟩,hl.repV n7⟩
    | frz e l =>
      rw [ho] at ob
      obtain ⟨sp,n1,n2,n3,n4,n5,n6,n7,n8,n9⟩:=ob
      refine ⟨sp,n1,n2,n3,n4,n5,n6,n7,n8,fun hc => ?_⟩
      obtain ⟨cs,m1,⟨q1,q2⟩,m3⟩:=n9 hc
      exact ⟨cs,m1,⟨.inl q1,q2⟩,fun i hi=>hl.repC (m3 i hi)⟩
    | map κ ν l =>
      exfalso
      have:∀ (ids:List Nat) (es:Eff),freezeE h ids=some es→i∈ids→False:=by
        intro ids
        induction ids with
        | nil=>intro _ _ hm; cases hm
        | cons g r ih =>
          intro es hf hm
          simp only [freezeE] at hf
          rcases List.mem_cons.1 hm with rfl | hm
          · rw [ho] at hf; cases hf
          · split at hf
            · split at hf
              · rename_i es1 h1; exact ih es1 h1 hm
              · cases hf
            · exact ih es hf hm
            · split at hf
              · rename_i es1 h1; exact ih es1 h1 hm
              · cases hf
            · split at hf
              · rename_i es1 h1; exact ih es1 h1 hm
              · cases hf
            · exact ih es hf hm
            · exact ih es hf hm
            · cases hf
      exact this ids es hf hi
    | hid=>trivial
    | dead=>trivial
    | none=>exact absurd ho hk
  · show (if i∈ids then frzO (h i) else h i)≠.none
    rw [if_pos hi]
    have hk:=freezeE_kind ids hf i hi
    cases ho:h i <;> simp_all [frzO]
  · obtain ⟨h1,h2⟩:=idsO_some.1 h1
    rcases hA with hA | ⟨g,hg,hA⟩
    · exact st.apart _ _ h1 hA
    · rw [h1] at hA; cases hA; exact h2 hg
  · rcases hA with hA | ⟨g,hg,hA⟩
    · exact st.old b hA
    · exact st.oldO _ _ hA
end
end Go.Proofs.YtjobjooccgledaaDoor.Ghost
namespace Go.Proofs.YtjobjooccgledaaDoor.Ghost
open Go
theorem pathEq_iff:{p q:Path}→(pathEq p q=true↔p=q)
  | [],[]=>by simp [pathEq]
  | [],_ :: _=>by simp [pathEq]
  | _ :: _,[]=>by simp [pathEq]
  | i :: p,j :: q=>by
    simp only [pathEq,Bool.and_eq_true,pathEq_iff (p:=p) (q:=q),List.cons.injEq,Nat.beq_eq]
theorem keyEq_iff {a b:Nat×Path}:(Nat.beq a.1 b.1 && pathEq a.2 b.2)=true↔a=b:=by
  rw [Bool.and_eq_true,pathEq_iff,Nat.beq_eq,Prod.ext_iff]
def bundleV:List Value→Value
  | [v]=>v
  | vs=>.tuple vs.toArray
structure FreshRep (A:Nat→Prop) (w w':World) (us:List SV) (fr:Fresh) (vals:List Value) (A':Nat→Prop) (ρ':Refs) (own':Nat→Option Nat) (o:Keys):Prop where
  keys:o.map (·.1)=fr
  ids:(o.map (·.2)).Nodup
  kn:(o.map (·.1)).Nodup
  rep:RepVs A' ρ' w' (withOv o 0 us) vals
  arr:∀ q,q∈o→∃ τ x e,∃ l:List (den e),us[q.1.1]?=some (.dat τ x [])∧getP q.1.2 τ x=some ⟨.sl e,l⟩∧RepArr A' ρ' w' q.2 e l (Own own' w' q.2)
  own:∀ b g,own' b=some g→¬ A' b∧w.heap.size≤b∧b<w'.heap.size
  imm:∀ b,A' b→(A b∨w.heap.size≤b)∧b<w'.heap.size
def ResOk (A:Nat→Prop) (w w':World) (us:List SV) (fr:Fresh) (vals:List Value):Prop :=
  RowKit.Below w.heap.size w w'∧∃ A' ρ' own' o,FreshRep A w w' us fr vals A' ρ' own' o
def callable (P:Program) (f:FuncId):Bool:=match P.funcs[f]? with
  | some fn => fn.name != "runtime.NumGoroutine" && fn.body.isSome
  | none=>false
def CallOk (P:Program) (cf:Calls):Prop:=∀ (f:FuncId) (args:List SV) (res:List Sh) (r:dShL res×Fresh),cf f args res=some r→callable P f=true ∧
  ∀ (w:World) (A:Nat→Prop) (vs:List Value),(∀ b,A b→b<w.heap.size)→GlobOk A w→RepVs A (fun _=>none) w args vs →
    Go.Calls P f vs.toArray w (fun e w'=>∃ vals,e=.returned (bundleV vals)∧ResOk A w w' (injL res r.1) r.2 vals)
section
variable {P:Program} {o:Oper} {a:Act} {w w':World} {B:Nat} {w0:Start} {A:Nat→Prop} {ρ:Refs} {own:Nat→Option Nat} {h:Nat→Obj} {s:Nat→SV}
theorem RepVs.ovc {ρ:Refs} {o o2:Keys} (ho:∀ e,e∈o↔e∈o2):(us:List SV)→(i:Nat)→{vals:List Value}→RepVs A ρ w (withOv o i us) vals→RepVs A ρ w (withOv o2 i us) vals
  | [],_,_,hr=>hr
  | u :: r,i,vals,hr=>by
    rw [withOv_cons] at hr ⊢
    simp only [RepVs] at hr ⊢
    obtain ⟨v,vs',rfl,h1,h2⟩:=hr
    refine ⟨v,vs',rfl,?_,RepVs.ovc ho r (i+1) h2⟩
    cases hd:isDat u with
    | true =>
      cases u with
      | dat τ x ov =>
        simp only [headOv,RepV] at h1 ⊢
        obtain ⟨cs,k1,k2⟩:=h1
        refine ⟨cs,RepC.ov τ (fun ⟨p,og⟩ => ?_) k1,k2⟩
        rw [mem_ovAt,mem_ovAt]
        constructor
        · rintro ⟨g,h1,h2⟩; exact ⟨g,h1,(ho _).1 h2⟩
        · rintro ⟨g,h1,h2⟩; exact ⟨g,h1,(ho _).2 h2⟩
      | _=>cases hd
    | false =>
      rw [headOv_ne hd] at h1 ⊢
      exact h1
theorem RepVs.resAll {A2:Nat→Prop} {ρ':Refs} {us:List SV} {vals:List Value}:(un o:Keys)→(∀ q,q∈un→∃ τ x e,∃ l:List (den e),us[q.1.1]?=some (.dat τ x [])∧getP q.1.2 τ x=some ⟨.sl e,l⟩∧∀ v,HeadO ρ' q.2 v→Plain A2 ρ' w e l v) →
    RepVs A2 ρ' w (withOv (un ++ o) 0 us) vals→RepVs A2 ρ' w (withOv o 0 us) vals
  | [],_,_,hr=>hr
  | ((i,p),g) :: r,o,hp,hr=>by
    refine RepVs.resAll r o (fun q hq=>hp q (by simp [hq])) (RepVs.res us 0 (fun τ x ov hx _ => ?_) hr)
    obtain ⟨τ',x',e,l,h1,h2,h3⟩:=hp ((i,p),g) (by simp)
    rw [Nat.sub_zero] at hx
    rw [hx] at h1
    cases h1
    exact ⟨e,l,h2,h3⟩
theorem nodup_inj {α β:Type} {f:α→β}:{l:List α}→(l.map f).Nodup→∀ {a b:α},a∈l→b∈l→f a=f b→a=b
  | [],_,_,_,h,_,_=>by cases h
  | x :: r,hn,a,b,ha,hb,he=>by
    simp only [List.map_cons,List.nodup_cons,List.mem_map,not_exists,not_and] at hn
    rcases List.mem_cons.1 ha with e1 | ha1
    · rcases List.mem_cons.1 hb with e2 | hb1
      · rw [e1,e2]
      · subst e1; exact absurd he.symm (hn.1 b hb1)
    · rcases List.mem_cons.1 hb with e2 | hb1
      · subst e2; exact absurd he (hn.1 a ha1)
      · exact nodup_inj hn.2 ha1 hb1 he
open Classical in
noncomputable def idOf (o keep:Keys) (k:Nat):Option Nat:=if h:∃ g,∃ key,(key,k)∈keep∧(key,g)∈o then some h.choose else none
open Classical in
noncomputable def nameOf (o keep:Keys) (g:Nat):Option Nat:=if h:∃ k,∃ key,(key,k)∈keep∧(key,g)∈o then some h.choose else none
theorem idOf_eq {o keep:Keys} (h1:(keep.map (·.2)).Nodup) (h2:(o.map (·.1)).Nodup) {key:Nat×Path} {k g:Nat} (hk:(key,k)∈keep) (hg:(key,g)∈o):idOf o keep k=some g:=by
  have h:∃ g,∃ key,(key,k)∈keep∧(key,g)∈o:=⟨g,key,hk,hg⟩
  unfold idOf
  rw [dif_pos h]
  obtain ⟨key',a1,a2⟩:=h.choose_spec
  have e1:=nodup_inj h1 hk a1 rfl
  cases e1
  have e2:=nodup_inj h2 hg a2 rfl
  rw [Option.some.injEq]
  exact (Prod.mk.inj e2).2.symm
theorem idOf_none {o keep:Keys} {k:Nat} (h:∀ key,(key,k) ∉ keep):idOf o keep k=none:=by
  unfold idOf
  rw [dif_neg]
  rintro ⟨g,key,h1,_⟩
  exact h key h1
theorem nameOf_eq {o keep:Keys} (h1:(o.map (·.2)).Nodup) (h2:(keep.map (·.1)).Nodup) {key:Nat×Path} {k g:Nat} (hk:(key,k)∈keep) (hg:(key,g)∈o):nameOf o keep g=some k:=by
  have h:∃ k,∃ key,(key,k)∈keep∧(key,g)∈o:=⟨k,key,hk,hg⟩
  unfold nameOf
  rw [dif_pos h]
  obtain ⟨key',a1,a2⟩:=h.choose_spec
  have e1:=nodup_inj h1 hg a2 rfl
  cases e1
  have e2:=nodup_inj h2 hk a1 rfl
  rw [Option.some.injEq]
  exact (Prod.mk.inj e2).2.symm
theorem nameOf_spec {o keep:Keys} {g k:Nat} (h:nameOf o keep g=some k):∃ key,(key,k)∈keep∧(key,g)∈o:=by
  unfold nameOf at h
  split at h
  · rename_i hx
    rw [Option.some.injEq] at h
    have:=hx.choose_spec
    rw [h] at this
    exact this
  · cases h
theorem nameOf_none {o keep:Keys} {g:Nat} (h:nameOf o keep g=none):∀ key k,(key,k)∈keep→(key,g) ∉ o:=fun key k hk hg=>by
  unfold nameOf at h
  rw [dif_pos ⟨k,key,hk,hg⟩] at h
  cases h
noncomputable def calledR (ρ ρ':Refs) (o keep:Keys):Refs:=fun j=>match idOf o keep j with
  | some g=>ρ' g
  | none=>ρ j
noncomputable def calledO (own own':Nat→Option Nat) (z:Nat) (o keep:Keys):Nat→Option Nat:=fun b=>if b<z then own b else match own' b with
  | some g=>nameOf o keep g
  | none=>none
def calledA (A:Nat→Prop) (z z':Nat) (own2:Nat→Option Nat):Nat→Prop:=fun b=>if b<z then A b else b<z'∧own2 b=none
end
end Go.Proofs.YtjobjooccgledaaDoor.Ghost
namespace Go.Proofs.YtjobjooccgledaaDoor.Ghost
open Go
section
variable {P:Program} {o:Oper} {a:Act} {w w':World} {B:Nat} {w0:Start} {A A1 A':Nat→Prop} {ρ ρ':Refs} {own own1 own':Nat→Option Nat} {h h1 h2:Nat→Obj} {s:Nat→SV} {us:List SV} {frs:Fresh} {vals:List Value} {ks keep:Keys}
theorem FreshRep.sub (fr:FreshRep A1 w w' us frs vals A' ρ' own' ks):∀ b,A' b→calledA A1 w.heap.size w'.heap.size (calledO own1 own' w.heap.size ks keep) b:=fun b hb=>by
  obtain ⟨k1,k2⟩:=fr.imm b hb
  unfold calledA
  by_cases hlt:b<w.heap.size
  · rw [if_pos hlt]
    rcases k1 with k1 | k1
    · exact k1
    · omega
  · rw [if_neg hlt]
    refine ⟨k2,?_⟩
    unfold calledO
    rw [if_neg hlt]
    cases ho:own' b with
    | none=>rfl
    | some g=>exact absurd hb (fr.own b g ho).1
theorem St.called (st:St B w0 A1 ρ own1 w h1) (hb:RowKit.Below w.heap.size w w') (fr:FreshRep A1 w w' us frs vals A' ρ' own' ks) (hk1:(keep.map (·.2)).Nodup) (hk2:(keep.map (·.1)).Nodup)
    (hin:∀ q,q∈keep→∃ g,(q.1,g)∈ks) (hfree:∀ q,q∈keep→h1 q.2=.none) (hh:∀ i,(∀ key,(key,i) ∉ keep)→h2 i=h1 i)
    (hobj:∀ q,q∈keep→∃ τ x e,∃ l:List (den e),us[q.1.1]?=some (.dat τ x [])∧getP q.1.2 τ x=some ⟨.sl e,l⟩∧h2 q.2=.arr e l) :
    St B w0 (calledA A1 w.heap.size w'.heap.size (calledO own1 own' w.heap.size ks keep)) (calledR ρ ρ' ks keep) (calledO own1 own' w.heap.size ks keep) w' h2 ∧
      Later A1 ρ w (calledA A1 w.heap.size w'.heap.size (calledO own1 own' w.heap.size ks keep)) (calledR ρ ρ' ks keep) w':=by
  have hBw:B≤w.heap.size:=Nat.le_trans st.hB st.below.size
  have hkn:∀ g s,ρ g=some s→∀ key,(key,g) ∉ keep:=fun g s hs key hm=>by
    have:=st.free (hfree _ hm)
    simp only [] at this
    rw [this] at hs; cases hs
  have hl:Later A1 ρ w (calledA A1 w.heap.size w'.heap.size (calledO own1 own' w.heap.size ks keep)) (calledR ρ ρ' ks keep) w':=by
    refine ⟨fun b hA => ?_,fun g s hs => ?_,fun b hA=>hb.block b (st.old b hA)⟩
    · unfold calledA; rw [if_pos (st.old b hA)]; exact hA
    · unfold calledR; rw [idOf_none (hkn g s hs)]; exact hs
  refine ⟨st.turn (fun i=>∃ key,(key,i)∈keep) hl (fun b g h3 _=>hb.block b (st.oldO b g h3)) (fun b g h3 _ => ?_) (fun g hg h3 => ?_) (fun i hi=>hh i (fun key hm=>hi ⟨key,hm⟩)) (fun k hk => ?_) (fun k hk => ?_)
    (fun b g h3 hA => ?_) (fun b hA => ?_) (fun b g h3 => ?_) (fun b g h3 => ?_) (hb.mono hBw) (fun b h3 => ?_),hl⟩
  · unfold calledO; rw [if_pos (st.oldO b g h3)]; exact h3
  · unfold calledR; rw [idOf_none (fun key hm=>hg ⟨key,hm⟩)]; exact h3
  · obtain ⟨key,hm⟩:=hk
    obtain ⟨τ,x,e,l,g1,g2,g3⟩:=hobj _ hm
    obtain ⟨g,hg⟩:=hin _ hm
    obtain ⟨τ',x',e',l',f1,f2,f3⟩:=fr.arr _ hg
    simp only [] at g1 f1 g2 f2 g3 f3
    rw [g1] at f1
    cases f1
    rw [g2] at f2
    cases f2
    rw [g3]
    obtain ⟨sp,n1,n2,n3,n4,n5,n6,n7,n8,n9⟩:=f3
    refine ⟨sp,?_,n2,n3,n4,n5,n6,n7,n8,fun hc => ?_⟩
    · unfold calledR; rw [idOf_eq hk1 fr.kn hm hg]; exact n1
    · obtain ⟨cs,m1,⟨o1,o2,o3⟩,m3⟩:=n9 hc
      refine ⟨cs,m1,⟨?_,o2,o3⟩,fun i hi=>RepC.lift fr.sub (m3 i hi)⟩
      have:=fr.own _ _ o1
      unfold calledO
      rw [if_neg (by omega),o1]
      exact nameOf_eq fr.ids hk2 hm hg
  · obtain ⟨key,hm⟩:=hk
    obtain ⟨τ,x,e,l,g1,g2,g3⟩:=hobj _ hm
    simp only [] at g3
    rw [g3]; simp
  · unfold calledA at hA
    by_cases hlt:b<w.heap.size
    · rw [if_pos hlt] at hA
      unfold calledO at h3
      rw [if_pos hlt] at h3
      exact st.apart _ _ h3 hA
    · rw [if_neg hlt] at hA
      rw [hA.2] at h3; cases h3
  · unfold calledA at hA
    by_cases hlt:b<w.heap.size
    · exact Nat.lt_of_lt_of_le hlt hb.size
    · rw [if_neg hlt] at hA; exact hA.1
  · unfold calledO at h3
    by_cases hlt:b<w.heap.size
    · exact Nat.lt_of_lt_of_le hlt hb.size
    · rw [if_neg hlt] at h3
      cases ho:own' b with
      | none=>simp [ho] at h3
      | some g'=>exact (fr.own b g' ho).2.2
  · unfold calledO at h3
    by_cases hlt:b<w.heap.size
    · rw [if_pos hlt] at h3; exact st.base _ _ h3
    · omega
  · unfold calledA at h3
    by_cases hlt:b<w.heap.size
    · rw [if_pos hlt] at h3; exact .inl h3
    · exact .inr (by omega)
theorem FreshRep.kept (fr:FreshRep A1 w w' us frs vals A' ρ' own' ks) (hk1:(keep.map (·.2)).Nodup) (hk2:(keep.map (·.1)).Nodup) (hin:∀ q,q∈keep→∃ g,(q.1,g)∈ks)
    (hpure:∀ u,u∈us→isDat u=false→(∀ p,allI p u=true)∧(∀ f,mapI f u=u)) :
    RepVs (calledA A1 w.heap.size w'.heap.size (calledO own1 own' w.heap.size ks keep)) (calledR ρ ρ' ks keep) w' (withOv keep 0 us) vals:=by
  classical
  have hsub:=fr.sub (own1:=own1) (keep:=keep)
  have h1:=RepVs.mono hsub (fun _ _ h=>h) (fun _ _=>rfl) _ fr.rep
  let kq:(Nat×Path)×Nat→Bool:=fun q=>(nameOf ks keep q.2).isSome
  have h2:=RepVs.ovc (o2:=ks.filter (fun q => !(kq q)) ++ ks.filter kq) (fun e=>by
    simp only [List.mem_append,List.mem_filter]
    cases kq e <;> simp) us 0 h1
  have h3:=RepVs.resAll (ks.filter (fun q => !(kq q))) (ks.filter kq) (fun q hq=>by
    obtain ⟨hm,hn⟩:=List.mem_filter.1 hq
    obtain ⟨τ,x,e,l,f1,f2,f3⟩:=fr.arr q hm
    refine ⟨τ,x,e,l,f1,f2,RepArr.plain hsub (fun s cs hO=>⟨?_,hO.2.1⟩) f3⟩
    have ho:=fr.own _ _ hO.1
    unfold calledA
    rw [if_neg (by omega)]
    refine ⟨ho.2.2,?_⟩
    unfold calledO
    rw [if_neg (by omega),hO.1]
    have:(nameOf ks keep q.2).isSome=false:=by simpa [kq] using hn
    simpa using this) h2
  have h4:=RepVs.renamed (ρ':=calledR ρ ρ' ks keep) (f:=fun g=>(nameOf ks keep g).getD 0) (o:=ks.filter kq) (fun q s hq hs=>by
    obtain ⟨hm,hn⟩:=List.mem_filter.1 hq
    obtain ⟨k,hk⟩:=Option.isSome_iff_exists.1 hn
    simp only [hk,Option.getD_some]
    obtain ⟨key,a1,a2⟩:=nameOf_spec hk
    unfold calledR
    rw [idOf_eq hk1 fr.kn a1 a2]
    exact hs) us 0 hpure h3
  refine RepVs.ovc (fun e => ?_) us 0 h4
  simp only [List.mem_map,List.mem_filter]
  constructor
  · rintro ⟨q,⟨hm,hn⟩,rfl⟩
    obtain ⟨k,hk⟩:=Option.isSome_iff_exists.1 hn
    obtain ⟨key,a1,a2⟩:=nameOf_spec hk
    have:=nodup_inj fr.ids hm a2 rfl
    have hkey:q.1=key:=congrArg Prod.fst this
    simp only [hk,Option.getD_some,hkey]
    exact a1
  · intro he
    obtain ⟨g,hg⟩:=hin e he
    have:=nameOf_eq fr.ids hk2 (k:=e.2) (key:=e.1) he hg
    exact ⟨(e.1,g),⟨hg,by simp [kq,this]⟩,by simp [this]⟩
end
end Go.Proofs.YtjobjooccgledaaDoor.Ghost
namespace Go.Proofs.YtjobjooccgledaaDoor.Ghost
open Go
mutual
theorem RepC.noSl {A A2:Nat→Prop} {ρ ρ2:Refs} {w w2:World}:(τ:Ty)→{x:den τ}→{ov ov2:Ov}→{cs:List Value}→noSl τ=true→RepC A ρ w τ x ov cs→RepC A2 ρ2 w2 τ x ov2 cs
  | .bool,_,_,_,_,_,h=>by simpa only [RepC] using h
  | .int _,_,_,_,_,_,h=>by simpa only [RepC] using h
  | .str,_,_,_,_,_,h=>by simpa only [RepC] using h
  | .sl _,_,_,_,_,hn,_=>by simp [Ghost.noSl] at hn
  | .arr n e,_,_,_,_,hn,h=>by
    simp only [Ghost.noSl] at hn
    simp only [RepC] at h ⊢
    exact ⟨h.1,h.2.1,fun i hi=>RepC.noSl e hn (h.2.2 i hi)⟩
  | .st fs,_,_,_,_,hn,h=>by
    simp only [Ghost.noSl] at hn
    simp only [RepC] at h ⊢
    exact RepF.noSl fs hn h
theorem RepF.noSl {A A2:Nat→Prop} {ρ ρ2:Refs} {w w2:World}:(fs:List Ty)→{j:Nat}→{x:denL fs}→{ov ov2:Ov}→{cs:List Value}→noSlL fs=true→RepF A ρ w fs j x ov cs→RepF A2 ρ2 w2 fs j x ov2 cs
  | [],_,_,_,_,_,_,h=>by simpa only [RepF] using h
  | t :: r,_,_,_,_,_,hn,h=>by
    simp only [noSlL,Bool.and_eq_true] at hn
    simp only [RepF] at h ⊢
    exact ⟨RepC.noSl t hn.1 h.1,RepF.noSl r hn.2 h.2⟩
end
theorem tame_rep {A A2:Nat→Prop} {ρ ρ2:Refs} {w w2:World} {o:Keys}:(res:List Sh)→(x:dShL res)→(i:Nat)→{vals:List Value}→tame res=true→RepVs A ρ w (withOv o i (injL res x)) vals→RepVs A2 ρ2 w2 (injL res x) vals
  | [],_,_,_,_,h=>by simpa only [injL,withOv,RepVs] using h
  | .d τ :: r,x,i,vals,ht,h=>by
    simp only [tame,Bool.and_eq_true] at ht
    simp only [injL,inj,withOv_cons,headOv,RepVs] at h ⊢
    obtain ⟨v,vs',rfl,h1,h2⟩:=h
    refine ⟨v,vs',rfl,?_,tame_rep r x.2 (i+1) ht.2 h2⟩
    simp only [RepV] at h1 ⊢
    obtain ⟨cs,k1,k2⟩:=h1
    exact ⟨cs,RepC.noSl τ ht.1 k1,k2⟩
  | .ref _ :: _,_,_,_,ht,_=>by simp [tame] at ht
  | .refv _ :: _,_,_,_,ht,_=>by simp [tame] at ht
  | .selfc _ _ :: _,_,_,_,ht,_=>by simp [tame] at ht
  | .clo _ _ :: _,_,_,_,ht,_=>by simp [tame] at ht
  | .nilfn :: _,_,_,_,ht,_=>by simp [tame] at ht
  | .agv _ :: _,_,_,_,ht,_=>by simp [tame] at ht
  | .slv _ :: _,_,_,_,ht,_=>by simp [tame] at ht
  | .fmap _ _ :: _,_,_,_,ht,_=>by simp [tame] at ht
mutual
theorem inj_pure:(s:Sh)→(x:dSh s)→(∀ p,allI p (inj s x)=true)∧(∀ f,mapI f (inj s x)=inj s x)
  | .d τ,x=>⟨fun _=>rfl,fun _=>rfl⟩
  | .ref τ,x=>⟨fun _=>rfl,fun _=>rfl⟩
  | .refv s,x=>by
    obtain ⟨h1,h2⟩:=inj_pure s x
    exact ⟨fun p=>by simp only [inj,allI]; exact h1 p,fun f=>by simp only [inj,mapI,h2 f]⟩
  | .selfc f l,x=>by
    obtain ⟨h1,h2⟩:=injL_pure l x
    exact ⟨fun p=>by simp only [inj,allI]; exact h1 p,fun f=>by simp only [inj,mapI,h2 f]⟩
  | .clo f l,x=>by
    obtain ⟨h1,h2⟩:=injL_pure l x
    exact ⟨fun p=>by simp only [inj,allI]; exact h1 p,fun f=>by simp only [inj,mapI,h2 f]⟩
  | .nilfn,x=>⟨fun _=>rfl,fun _=>rfl⟩
  | .agv l,x=>by
    obtain ⟨h1,h2⟩:=injL_pure l x
    exact ⟨fun p=>by simp only [inj,allI]; exact h1 p,fun f=>by simp only [inj,mapI,h2 f]⟩
  | .fmap ks l,x=>by
    obtain ⟨h1,h2⟩:=injL_pure l x
    exact ⟨fun p=>by simp only [inj,allI]; exact h1 p,fun f=>by simp only [inj,mapI,h2 f]⟩
  | .slv l,x=>by
    obtain ⟨h1,h2⟩:=injL_pure l x
    exact ⟨fun p=>by simp only [inj,allI]; exact h1 p,fun f=>by simp only [inj,mapI,h2 f]⟩
theorem injL_pure:(l:List Sh)→(x:dShL l)→(∀ p,allIL p (injL l x)=true)∧(∀ f,mapIL f (injL l x)=injL l x)
  | [],_=>⟨fun _=>rfl,fun _=>rfl⟩
  | s :: r,x=>by
    obtain ⟨h1,h2⟩:=inj_pure s x.1
    obtain ⟨h3,h4⟩:=injL_pure r x.2
    exact ⟨fun p=>by simp only [injL,allIL,h1 p,h3 p,Bool.and_self],fun f=>by simp only [injL,mapIL,h2 f,h4 f]⟩
end
theorem injL_mem:(l:List Sh)→(x:dShL l)→∀ u,u∈injL l x→∃ s,∃ y:dSh s,u=inj s y
  | [],_,u,hu=>by simp [injL] at hu
  | s :: r,x,u,hu=>by
    simp only [injL,List.mem_cons] at hu
    rcases hu with rfl | hu
    · exact ⟨s,x.1,rfl⟩
    · exact injL_mem r x.2 u hu
theorem inj_dat {s:Sh} {x:dSh s} {τ:Ty} {y:den τ} {ov:Ov} (h:inj s x=.dat τ y ov):ov=[]:=by
  cases s <;> simp only [inj] at h <;> cases h
  rfl
end Go.Proofs.YtjobjooccgledaaDoor.Ghost
namespace Go.Proofs.YtjobjooccgledaaDoor.Ghost
open Go
section
variable {P:Program} {o:Oper} {a:Act} {w:World} {B:Nat} {w0:Start} {A:Nat→Prop} {ρ:Refs} {own:Nat→Option Nat} {h:Nat→Obj} {s:Nat→SV}
def chkCall (o:Oper) (f:Opd) (args:List Opd):Bool:=match o.op with
  | .call c=>(match c.callee with | .value g=>chkOpd f g | _=>false) && chkOpds args c.args.toList
  | _=>false
theorem chkCall_spec {f:Opd} {args:List Opd} (hc:chkCall o f args=true):∃ c g,o.op=.call c∧c.callee=.value g∧chkOpd f g=true∧chkOpds args c.args.toList=true:=by
  unfold chkCall at hc
  split at hc
  · rename_i c ho
    simp only [Bool.and_eq_true] at hc
    cases hb:c.callee with
    | builtin b'=>simp [hb] at hc
    | value g=>simp only [hb] at hc; exact ⟨c,g,ho,hb,hc.1,hc.2⟩
    | invoke f m=>simp [hb] at hc
  · cases hc
theorem run_call {c:Call} {g:Operand} {fid:FuncId} {caps:Array Value} (ho:o.op=.call c) (hb:c.callee=.value g) (hg:a.eval g=.func (.func fid) #[] caps) (hcl:callable P fid=true) :
    (execOp a.eval o).run P w=.ok (.enter fid (c.args.map a.eval ++ caps)) w:=by
  unfold callable at hcl
  cases hf:P.funcs[fid]? with
  | none=>simp [hf] at hcl
  | some fn =>
    simp only [hf,Bool.and_eq_true,bne_iff_ne,ne_eq] at hcl
    have hn:fn.body.isNone=false:=by
      cases hbd:fn.body with
      | none=>simp [hbd] at hcl
      | some b=>rfl
    simp [execOp,ho,Go.resolve,hb,hg,Deferred.ofValue,invoke,callFunc,hf,hcl.1]
    intro hbd
    simp [hbd] at hn
theorem RepVs.append {us us':List SV}:{vs vs':List Value}→RepVs A ρ w us vs→RepVs A ρ w us' vs'→RepVs A ρ w (us ++ us') (vs ++ vs'):=by
  induction us with
  | nil=>intro vs vs' h1 h2; simp only [RepVs] at h1; subst h1; exact h2
  | cons u r ih =>
    intro vs vs' h1 h2
    simp only [RepVs] at h1
    obtain ⟨v,vs1,rfl,g1,g2⟩:=h1
    simp only [List.cons_append,RepVs]
    exact ⟨v,vs1 ++ vs',rfl,g1,ih g2 h2⟩
theorem rep_bundle {us:List SV} {vs:List Value} (hr:RepVs A ρ w us vs):RepV A ρ w (bundle us) (bundleV vs):=by
  match us,vs,hr with
  | [],vs,hr =>
    simp only [RepVs] at hr
    subst hr
    simp only [bundle,bundleV,RepV]
    exact ⟨[],rfl,by simp only [RepVs]⟩
  | [u],vs,hr =>
    simp only [RepVs] at hr
    obtain ⟨v,vs',rfl,h1,rfl⟩:=hr
    exact h1
  | u :: u' :: r,vs,hr =>
    have hr':=hr
    simp only [RepVs] at hr'
    obtain ⟨v,vs',rfl,h1,v',vs'',rfl,h2,h3⟩:=hr'
    simp only [bundle,bundleV,RepV]
    exact ⟨_,rfl,hr⟩
theorem keepG_eff:(keep:Keys)→{us us':List SV}→{es:Eff}→keepG us keep=some (us',es)→(∀ q,q∈es→∃ key,(key,q.1)∈keep)∧es.map (·.1)=keep.map (·.2)
  | [],us,us',es,hg=>by
    simp only [keepG,Option.some.injEq,Prod.mk.injEq] at hg
    obtain ⟨rfl,rfl⟩:=hg
    simp
  | ((i,p),k) :: r,us,us',es,hg=>by
    simp only [keepG] at hg
    split at hg
    · split at hg
      · split at hg
        · split at hg
          · rename_i us1 es1 h1
            simp only [Option.some.injEq,Prod.mk.injEq] at hg
            obtain ⟨rfl,rfl⟩:=hg
            obtain ⟨k1,k2⟩:=keepG_eff r h1
            refine ⟨fun q hq => ?_,by simp [k2]⟩
            rcases List.mem_cons.1 hq with rfl | hq
            · exact ⟨(i,p),by simp⟩
            · obtain ⟨key,hk⟩:=k1 q hq
              exact ⟨key,by simp [hk]⟩
          · cases hg
        · cases hg
      · cases hg
    · cases hg
theorem appE_notin:(es:Eff)→{h:Nat→Obj}→{i:Nat}→(∀ q,q∈es→q.1≠i)→appE h es i=h i
  | [],_,_,_=>rfl
  | (g,o) :: r,h,i,hn=>by
    simp only [appE]
    rw [appE_notin r (fun q hq=>hn q (by simp [hq]))]
    exact if_neg (fun e=>hn (g,o) (by simp) e.symm)
theorem freshHas_iff {fr:Fresh} {k:Nat×Path}:freshHas fr k=true↔k∈fr:=by
  simp only [freshHas,List.any_eq_true]
  constructor
  · rintro ⟨f,h1,h2⟩
    have:=keyEq_iff.1 h2
    subst this; exact h1
  · intro hk; exact ⟨k,hk,keyEq_iff.2 rfl⟩
theorem keepAll_spec {fr:Fresh}:(keep:Keys)→keepAll fr keep=true→(∀ q,q∈keep→q.1∈fr)∧(keep.map (·.1)).Nodup
  | [],_=>by simp
  | (k,g) :: r,hk=>by
    simp only [keepAll,Bool.and_eq_true,Bool.not_eq_true'] at hk
    obtain ⟨⟨h1,h2⟩,h3⟩:=hk
    obtain ⟨k1,k2⟩:=keepAll_spec r h3
    refine ⟨fun q hq => ?_,?_⟩
    · rcases List.mem_cons.1 hq with rfl | hq
      · exact freshHas_iff.1 h1
      · exact k1 q hq
    · simp only [List.map_cons,List.nodup_cons,List.mem_map,not_exists,not_and]
      refine ⟨fun q hq e => ?_,k2⟩
      have:=List.any_eq_false.1 h2 q hq
      rw [e] at this
      exact this (keyEq_iff.2 rfl)
theorem keepFree_spec:(keep:Keys)→keepFree h keep=true→(∀ q,q∈keep→h q.2=.none)∧(keep.map (·.2)).Nodup
  | [],_=>by simp
  | (key,k) :: r,hk=>by
    simp only [keepFree,Bool.and_eq_true,Bool.not_eq_true'] at hk
    obtain ⟨⟨h1,h2⟩,h3⟩:=hk
    obtain ⟨k1,k2⟩:=keepFree_spec r h2
    refine ⟨fun q hq => ?_,?_⟩
    · rcases List.mem_cons.1 hq with rfl | hq
      · split at h1
        · assumption
        · cases h1
      · exact k1 q hq
    · simp only [List.map_cons,List.nodup_cons,List.mem_map,not_exists,not_and]
      refine ⟨fun q hq e => ?_,k2⟩
      have:=List.any_eq_false.1 h3 q hq
      rw [e] at this
      simp at this
end
end Go.Proofs.YtjobjooccgledaaDoor.Ghost
namespace Go.Proofs.YtjobjooccgledaaDoor.Ghost
open Go
theorem getF_setF_ne:(fs:List Ty)→(i j:Nat)→(p:Path)→(x x':denL fs)→(d:Dyn)→setF fs i p x d=some x'→j≠i→getF fs j x'=getF fs j x
  | [],_,_,_,_,_,_,h,_=>by simp [setF] at h
  | t :: r,0,0,_,_,_,_,_,hne=>absurd rfl hne
  | t :: r,0,j+1,p,x,x',d,h,_=>by
    simp only [setF] at h
    split at h
    · simp only [Option.some.injEq] at h; subst h; rfl
    · cases h
  | t :: r,i+1,0,p,x,x',d,h,_=>by
    simp only [setF] at h
    split at h
    · simp only [Option.some.injEq] at h; subst h; rfl
    · cases h
  | t :: r,i+1,j+1,p,x,x',d,h,hne=>by
    simp only [setF] at h
    split at h
    · rename_i y hy
      simp only [Option.some.injEq] at h
      subst h
      exact getF_setF_ne r i j p x.2 y d hy (by omega)
    · cases h
mutual
theorem getP_setP_ne {e' e:Ty} {l':List (den e')} {l:List (den e)}:(τ:Ty)→(p q:Path)→(x x':den τ)→setP τ p x ⟨.sl e',l'⟩=some x'→getP q τ x'=some ⟨.sl e,l⟩→q≠p→getP q τ x=some ⟨.sl e,l⟩
  | τ,[],[],_,_,_,_,hne=>absurd rfl hne
  | τ,[],j :: q,x,x',hs,hg,_=>by
    have hc:castT (.sl e') τ l'=some x':=by cases τ <;> simpa only [setP] using hs
    have:=castT_ty hc
    subst this
    simp [getP] at hg
  | τ,i :: p,[],x,x',hs,hg,_=>by
    have:(⟨.sl e,l⟩:Dyn)=⟨τ,x'⟩:=by cases τ <;> first | (simp [getP] at hg; done) | simpa [getP,eq_comm] using hg
    cases this
    simp [setP] at hs
  | .st fs,i :: p,j :: q,x,x',hs,hg,hne=>by
    simp only [setP] at hs
    simp only [getP] at hg ⊢
    by_cases hij:j=i
    · subst hij
      exact getF_setF_same fs j p q x x' hs hg (fun e=>hne (by rw [e]))
    · rw [getF_setF_ne fs i j p x x' _ hs hij] at hg
      exact hg
  | .arr n t,i :: p,j :: q,x,x',hs,hg,hne=>by
    simp only [setP] at hs
    simp only [getP] at hg ⊢
    split at hs
    · rename_i y hy
      simp only [Option.some.injEq] at hs
      subst hs
      by_cases hij:i=j
      · subst hij
        by_cases hl:i<List.length x
        · have:List.getD (List.set x i y) i (dft t)=y:=by
            rw [List.getD_eq_getElem?_getD,List.getElem?_set_self hl]; rfl
          rw [this] at hg
          exact getP_setP_ne t p q _ y hy hg (fun e=>hne (by rw [e]))
        · have:List.getD (List.set x i y) i (dft t)=List.getD x i (dft t):=by
            rw [List.getD_eq_getElem?_getD,List.getD_eq_getElem?_getD,List.getElem?_eq_none (by simpa using hl),List.getElem?_eq_none (by simpa using hl)]
          rw [this] at hg
          exact hg
      · have:List.getD (List.set x i y) j (dft t)=List.getD x j (dft t):=by
          rw [List.getD_eq_getElem?_getD,List.getElem?_set_ne hij,← List.getD_eq_getElem?_getD]
        rw [this] at hg
        exact hg
    · cases hs
  | .bool,_ :: _,_ :: _,_,_,hs,_,_=>by simp [setP] at hs
  | .int _,_ :: _,_ :: _,_,_,hs,_,_=>by simp [setP] at hs
  | .str,_ :: _,_ :: _,_,_,hs,_,_=>by simp [setP] at hs
  | .sl _,_ :: _,_ :: _,_,_,hs,_,_=>by simp [setP] at hs
theorem getF_setF_same {e' e:Ty} {l':List (den e')} {l:List (den e)}:(fs:List Ty)→(i:Nat)→(p q:Path)→(x x':denL fs)→setF fs i p x ⟨.sl e',l'⟩=some x' →
    (match getF fs i x' with | some d=>getP q d.τ d.x | none=>none)=some ⟨.sl e,l⟩→q≠p→(match getF fs i x with | some d=>getP q d.τ d.x | none=>none)=some ⟨.sl e,l⟩
  | [],_,_,_,_,_,hs,_,_=>by simp [setF] at hs
  | t :: r,0,p,q,x,x',hs,hg,hne=>by
    simp only [setF] at hs
    split at hs
    · rename_i y hy
      simp only [Option.some.injEq] at hs
      subst hs
      simp only [getF] at hg ⊢
      exact getP_setP_ne t p q x.1 y hy hg hne
    · cases hs
  | t :: r,i+1,p,q,x,x',hs,hg,hne=>by
    simp only [setF] at hs
    split at hs
    · rename_i y hy
      simp only [Option.some.injEq] at hs
      subst hs
      simp only [getF] at hg ⊢
      exact getF_setF_same r i p q x.2 y hy hg hne
    · cases hs
end
theorem keepG_objs:(keep:Keys)→{us us':List SV}→{es:Eff}→keepG us keep=some (us',es)→(keep.map (·.1)).Nodup →
    ∀ q,q∈keep→∃ τ x ov e,∃ l:List (den e),us[q.1.1]?=some (.dat τ x ov)∧getP q.1.2 τ x=some ⟨.sl e,l⟩∧(q.2,Obj.arr e l)∈es
  | [],_,_,_,_,_,q,hq=>by cases hq
  | ((i,p),k) :: r,us,us',es,hg,hn,q,hq=>by
    simp only [List.map_cons,List.nodup_cons,List.mem_map,not_exists,not_and] at hn
    simp only [keepG] at hg
    split at hg
    · rename_i τ x ov hu
      split at hg
      · rename_i e l hp
        split at hg
        · rename_i x' hx'
          split at hg
          · rename_i us1 es1 h1
            simp only [Option.some.injEq,Prod.mk.injEq] at hg
            obtain ⟨rfl,rfl⟩:=hg
            rcases List.mem_cons.1 hq with rfl | hq
            · exact ⟨τ,x,ov,e,l,hu,hp,by simp⟩
            · obtain ⟨τ2,x2,ov2,e2,l2,g1,g2,g3⟩:=keepG_objs r h1 hn.2 q hq
              by_cases hij:i=q.1.1
              · have hlt:i<us.length:=(List.getElem?_eq_some_iff.1 hu).1
                rw [← hij,List.getElem?_set_self hlt] at g1
                cases g1
                have hne:q.1.2≠p:=fun e=>hn.1 q hq (by rw [Prod.ext_iff]; exact ⟨hij.symm,e⟩)
                exact ⟨τ,x,ov,e2,l2,by rw [← hij]; exact hu,getP_setP_ne τ p q.1.2 x x' hx' g2 hne,by simp [g3]⟩
              · rw [List.getElem?_set_ne hij] at g1
                exact ⟨τ2,x2,ov2,e2,l2,g1,g2,by simp [g3]⟩
          · cases hg
        · cases hg
      · cases hg
    · cases hg
theorem appE_mem:(es:Eff)→{h:Nat→Obj}→{k:Nat}→{o:Obj}→(es.map (·.1)).Nodup→(k,o)∈es→appE h es k=o
  | [],_,_,_,_,hm=>by cases hm
  | (g,o') :: r,h,k,o,hn,hm=>by
    simp only [List.map_cons,List.nodup_cons,List.mem_map,not_exists,not_and] at hn
    simp only [appE]
    rcases List.mem_cons.1 hm with e | hm
    · cases e
      rw [appE_notin r (fun q hq=>hn.1 q hq)]
      exact if_pos rfl
    · exact appE_mem r hn.2 hm
end Go.Proofs.YtjobjooccgledaaDoor.Ghost
namespace Go.Proofs.YtjobjooccgledaaDoor.Ghost
open Go
theorem withOv_inj:(res:List Sh)→(x:dShL res)→(i:Nat)→withOv [] i (injL res x)=injL res x
  | [],_,_=>rfl
  | s :: r,x,i=>by
    simp only [injL,withOv_cons,withOv_inj r x.2 (i+1)]
    congr 1
    cases s <;> rfl
section
variable {P:Program} {o:Oper} {a:Act} {w:World} {B:Nat} {w0:Start} {A:Nat→Prop} {ρ:Refs} {own:Nat→Option Nat} {h:Nat→Obj} {s:Nat→SV}
theorem called_full (st:St B w0 A ρ own w h) {ids:List Nat} {es es':Eff} {keep:Keys} {res:List Sh} {r:dShL res×Fresh} {us':List SV} {vals:List Value} {w':World}
    (hf:freezeE h ids=some es) (hk1:keepAll r.2 keep=true) (hk2:keepFree h keep=true) (hkg:keepG (injL res r.1) keep=some (us',es')) (hr:ResOk (idsA A own ids) w w' (injL res r.1) r.2 vals) :
    ∃ A2 ρ2 own2,St B w0 A2 ρ2 own2 w' (appE h (es ++ es'))∧Later A ρ w A2 ρ2 w'∧RepVs A2 ρ2 w' us' vals:=by
  obtain ⟨hb,A',ρ',own',ks,fr⟩:=hr
  obtain ⟨st1,l1⟩:=St.freezeL st hf
  obtain ⟨q1,q2⟩:=keepAll_spec keep hk1
  obtain ⟨q3,q4⟩:=keepFree_spec keep hk2
  obtain ⟨q5,q6⟩:=keepG_eff keep hkg
  have hin:∀ q,q∈keep→∃ g,(q.1,g)∈ks:=fun q hq=>by
    have:=q1 q hq
    rw [← fr.keys,List.mem_map] at this
    obtain ⟨e,e1,e2⟩:=this
    exact ⟨e.2,by rw [← e2]; exact e1⟩
  have hobj:∀ q,q∈keep→∃ τ x e,∃ l:List (den e),(injL res r.1)[q.1.1]?=some (.dat τ x [])∧getP q.1.2 τ x=some ⟨.sl e,l⟩∧appE (appE h es) es' q.2=.arr e l:=fun q hq=>by
    obtain ⟨τ,x,ov,e,l,g1,g2,g3⟩:=keepG_objs keep hkg q2 q hq
    obtain ⟨s,y,hy⟩:=injL_mem res r.1 _ (List.mem_of_getElem? g1)
    have:=inj_dat hy.symm
    subst this
    exact ⟨τ,x,e,l,g1,g2,appE_mem es' (by rw [q6]; exact q4) g3⟩
  obtain ⟨st2,l2⟩:=St.called (h2:=appE (appE h es) es') (keep:=keep) st1 hb fr q4 q2 hin (fun q hq=>by
      rw [appE_frz ids h h (fun _=>.inl rfl) hf]
      have:=q3 q hq
      simp only [this,frzO,ite_self]) (fun i hi=>appE_notin es' (fun q hq e=>by
        obtain ⟨key,hkey⟩:=q5 q hq
        rw [e] at hkey
        exact hi key hkey)) hobj
  have hv1:=FreshRep.kept (own1:=idsO own ids) (ρ:=ρ) fr q4 q2 hin (fun u hu _=>by
    obtain ⟨s,y,rfl⟩:=injL_mem res r.1 u hu
    exact inj_pure s y)
  obtain ⟨hv2,hl,hkp⟩:=keepG_spec keep _ hkg (fun q hq=>hq) hv1
  have hv3:=Kept.rep (keep:=keep) (injL res r.1) us' 0 hl (fun i=>⟨fun τ x ov hi=>by
    obtain ⟨s,y,hy⟩:=injL_mem res r.1 _ (List.mem_of_getElem? hi)
    have:=inj_dat hy.symm
    subst this
    refine ⟨rfl,?_⟩
    obtain ⟨x',hx'⟩:=(hkp i).1 τ x [] hi
    exact ⟨x',by rw [hx']; simp⟩,(hkp i).2⟩) hv2
  rw [appE_append]
  exact ⟨_,_,_,st2,l1.trans l2,hv3⟩
theorem called_tame (st:St B w0 A ρ own w h) {A1:Nat→Prop} {res:List Sh} {r:dShL res×Fresh} {vals:List Value} {w':World} (ht:tame res=true) (hr:ResOk A1 w w' (injL res r.1) r.2 vals) :
    ∃ A2 ρ2 own2,St B w0 A2 ρ2 own2 w' h∧Later A ρ w A2 ρ2 w'∧RepVs A2 ρ2 w' (injL res r.1) vals:=by
  obtain ⟨hb,A',ρ',own',ks,fr⟩:=hr
  have fr2:FreshRep A w w' (injL res r.1) [] vals (fun _=>False) (fun _=>none) (fun _=>none) [] :=
    ⟨rfl,by simp,by simp,(by rw [withOv_inj]; exact tame_rep res r.1 0 ht fr.rep),(fun q hq=>by cases hq),(fun b g hg=>by cases hg),(fun b hb=>hb.elim)⟩
  obtain ⟨st2,l2⟩:=St.called (h2:=h) (keep:=[]) st hb fr2 (by simp) (by simp) (fun q hq=>by cases hq) (fun q hq=>by cases hq) (fun i _=>rfl) (fun q hq=>by cases hq)
  exact ⟨_,_,_,st2,l2,tame_rep res r.1 0 ht fr.rep⟩
theorem good_call (st:St B w0 A ρ own w h) (hs:SlotsOk A ρ w s a) {cf:Calls} (hcf:CallOk P cf) {f:Opd} {args:List Opd} {res:List Sh} {keep:Keys} (hc:chkCall o f args=true) {R:Type} {K:SV→Eff→Option R} {r:R}
    {opt:Bool} (hg:callG cf h (evO s f) (args.map (evO s)) res keep opt K=some r):∃ v e,K v e=some r∧OpGood P o a w B w0 A ρ v (appE h e):=by
  obtain ⟨c,g,ho,hcal,hfo,hao⟩:=chkCall_spec hc
  have k1:=opd_ok hs hfo
  have k2:=opds_ok hs hao
  unfold callG at hg
  split at hg
  case h_2=>cases hg
  case h_3=>cases hg
  rename_i fid caps hclo
  rw [hclo] at k1
  simp only [RepV] at k1
  obtain ⟨capv,hgv,k3⟩:=k1
  have k4:=RepVs.append k2 k3
  split at hg
  case h_2=>cases hg
  rename_i as ids hlend
  cases hcr:cf fid as res with
  | none=>rw [hcr] at hg; simp at hg
  | some x =>
    rw [hcr] at hg
    simp only [Option.bind_some] at hg
    obtain ⟨hcl,hcalls⟩:=hcf fid as res x hcr
    have hargs:=(lendL_rep (Aw:=idsA A own ids) (ρ':=fun _=>none) (fun b hb=>.inl hb) st.objs 60 _ hlend (fun g hg b hb=>.inr ⟨g,hg,hb⟩) k4).1
    have hrun:=hcalls w (idsA A own ids) _ (fun b hb=>by
      rcases hb with hb | ⟨g',_,hb⟩
      · exact st.old b hb
      · exact st.oldO b g' hb) (st.glob.mono (fun b hb=>.inl hb) (fun _ _=>rfl)) hargs
    have hex:=run_call (P:=P) (w:=w) ho hcal hgv hcl
    have good:∀ (us':List SV) (h':Nat→Obj),(∀ w' vals,ResOk (idsA A own ids) w w' (injL res x.1) x.2 vals→∃ A2 ρ2 own2,St B w0 A2 ρ2 own2 w' h'∧Later A ρ w A2 ρ2 w'∧RepVs A2 ρ2 w' us' vals) →
        OpGood P o a w B w0 A ρ (bundle us') h':=fun us' h' hh next Q K=>by
      unfold Oper.wp
      rw [hex,Oper.upon_enter]
      have:c.args.map a.eval ++ capv.toArray=(c.args.toList.map a.eval ++ capv).toArray:=by
        rw [← List.toArray_appendList]
        simp
      rw [this]
      refine Calls.mono hrun (fun e w' he => ?_)
      obtain ⟨vals,rfl,hres⟩:=he
      obtain ⟨A2,ρ2,own2,st2,l2,hv⟩:=hh w' vals hres
      exact K _ _ _ _ _ st2 l2 (rep_bundle hv)
    have fin:∀ keep:Keys,keepAll x.2 keep=true→keepFree h keep=true→callK h ids res x.1 keep K=some r→∃ v e,K v e=some r∧OpGood P o a w B w0 A ρ v (appE h e):=fun keep hka hkf hg=>by
      unfold callK at hg
      have full:∀ es:Eff,freezeE h ids=some es→(match keepG (injL res x.1) keep with
          | some (vs,es')=>K (bundle vs) (es ++ es')
          | none=>none)=some r→∃ v e,K v e=some r∧OpGood P o a w B w0 A ρ v (appE h e):=fun es hes hk=>by
        split at hk
        · rename_i us' es' hkg
          exact ⟨_,_,hk,good us' _ (fun w' vals hres=>called_full st hes hka hkf hkg hres)⟩
        · cases hk
      cases ht:tame res with
      | false =>
        rw [ht] at hg
        simp only [] at hg
        split at hg
        · rename_i es hes
          exact full es hes hg
        · cases hg
      | true =>
        rw [ht] at hg
        cases keep with
        | nil =>
          simp only [keepG,List.nil_append] at hg
          exact ⟨_,_,hg,good _ _ (fun w' vals hres=>called_tame st ht hres)⟩
        | cons q rest =>
          simp only [] at hg
          split at hg
          · rename_i es hes
            exact full es hes hg
          · cases hg
    cases hka:keepAll x.2 keep with
    | true =>
      rw [hka,cond_true] at hg
      cases hkf:keepFree h keep with
      | true=>rw [hkf,cond_true] at hg; exact fin keep hka hkf hg
      | false=>rw [hkf,cond_false] at hg; cases hg
    | false =>
      rw [hka,cond_false] at hg
      cases opt with
      | true=>exact fin [] rfl rfl hg
      | false=>cases hg
end
end Go.Proofs.YtjobjooccgledaaDoor.Ghost
namespace Go.Proofs.YtjobjooccgledaaDoor.Ghost
open Go
def Msk (h1 h2:Nat→Obj):Prop:=∀ g,h1 g=h2 g∨h1 g=.hid
section
variable {h1 h2:Nat→Obj}
theorem resolve_msk (hm:Msk h1 h2) {τ:Ty}:(ov:Ov)→{x y:den τ}→Ghost.resolve h1 τ x ov=some y→Ghost.resolve h2 τ x ov=some y
  | [],_,_,he=>he
  | (_,none) :: _,_,_,he=>by simp [Ghost.resolve] at he
  | (q,some g) :: r,x,y,he=>by
    simp only [Ghost.resolve] at he ⊢
    rcases hm g with e | e
    · rw [e] at he
      split at he
      · rename_i e' l hg
        try simp only [hg]
        split at he
        · rename_i x1 hx1
          try simp only [hx1]
          exact resolve_msk hm r he
        · cases he
      · rename_i e' l hg
        try simp only [hg]
        split at he
        · rename_i x1 hx1
          try simp only [hx1]
          exact resolve_msk hm r he
        · cases he
      · cases he
    · rw [e] at he; cases he
mutual
theorem lend_msk (hm:Msk h1 h2):(n:Nat)→(v:SV)→{u:SV×List Nat}→lend h1 n v=some u→lend h2 n v=some u
  | 0,_,_,he=>by simp [lend] at he
  | n+1,v,u,he=>by
    cases v with
    | dat τ x ov =>
      simp only [lend] at he ⊢
      split at he
      · rename_i y hy; rw [resolve_msk hm ov hy]; exact he
      · cases he
    | ptr g p =>
      simp only [lend] at he ⊢
      rcases hm g with e | e
      · rw [e] at he
        split at he
        · rename_i τ x ov hg
          try simp only [hg]
          split at he
          · rename_i y hy; rw [resolve_msk hm ov hy]; exact he
          · cases he
        · rename_i τ x ov hg
          try simp only [hg]
          split at he
          · rename_i y hy; rw [resolve_msk hm ov hy]; exact he
          · cases he
        · rename_i v1 hg
          try simp only [hg]
          split at he
          · rename_i f caps hx
            try simp only [hx]
            split at he
            · rename_i us ids1 hl
              rw [lendL_msk hm n caps hl]; exact he
            · cases he
          · rename_i hs
            try simp only [hs]
            split at he
            · rename_i x hx
              try simp only [hx]
              split at he
              · rename_i u1 ids1 hl
                rw [lend_msk hm n x hl]; exact he
              · cases he
            · cases he
        · rename_i v1 hg
          try simp only [hg]
          split at he
          · rename_i f caps hx
            try simp only [hx]
            split at he
            · rename_i us ids1 hl
              rw [lendL_msk hm n caps hl]; exact he
            · cases he
          · rename_i hs
            try simp only [hs]
            split at he
            · rename_i x hx
              try simp only [hx]
              split at he
              · rename_i u1 ids1 hl
                rw [lend_msk hm n x hl]; exact he
              · cases he
            · cases he
        · cases he
      · rw [e] at he; cases he
    | ref τ x=>exact he
    | selfc f caps =>
      simp only [lend] at he ⊢
      split at he
      · rename_i us ids1 hl; rw [lendL_msk hm n caps hl]; exact he
      · cases he
    | refv v1 =>
      simp only [lend] at he ⊢
      split at he
      · rename_i u1 ids1 hl; rw [lend_msk hm n v1 hl]; exact he
      · cases he
    | elp g i p=>simp [lend] at he
    | glo k=>simp [lend] at he
    | clo f caps =>
      simp only [lend] at he ⊢
      split at he
      · rename_i us ids1 hl; rw [lendL_msk hm n caps hl]; exact he
      · cases he
    | tup vs=>simp [lend] at he
    | fmap ks vs=>simp [lend] at he
    | slv vs0 =>
      simp only [lend] at he ⊢
      split at he
      · rename_i us ids1 hl; rw [lendL_msk hm n vs0 hl]; exact he
      · cases he
    | agv vs0 =>
      simp only [lend] at he ⊢
      split at he
      · rename_i us ids1 hl; rw [lendL_msk hm n vs0 hl]; exact he
      · cases he
    | nilfn=>exact he
    | und=>simp [lend] at he
    | junk=>simp [lend] at he
theorem lendL_msk (hm:Msk h1 h2):(n:Nat)→(vs:List SV)→{u:List SV×List Nat}→lendL h1 n vs=some u→lendL h2 n vs=some u
  | 0,_,_,he=>by simp [lendL] at he
  | n+1,[],_,he=>he
  | n+1,v :: r,u,he=>by
    simp only [lendL] at he ⊢
    split at he
    · rename_i u1 ids1 hl
      rw [lend_msk hm n v hl]
      split at he
      · rename_i us ids2 hl2
        rw [lendL_msk hm n r hl2]
        exact he
      · cases he
    · cases he
end
end
section
variable {h1 h2:Nat→Obj} (hm:Msk h1 h2) {R:Type}
include hm
theorem freezeE_msk:(ids:List Nat)→{es:Eff}→freezeE h1 ids=some es→freezeE h2 ids=some es
  | [],_,he=>he
  | g :: r,es,he=>by
    simp only [freezeE] at he ⊢
    rcases hm g with e | e
    · rw [e] at he
      have key:∀ {es':Eff} {o:Obj},(match freezeE h1 r with | some es=>some ((g,o) :: es) | none=>none)=some es'→(match freezeE h2 r with | some es=>some ((g,o) :: es) | none=>none)=some es':=fun {es' o} hh=>by
        split at hh
        · rename_i es1 h3; rw [freezeE_msk r h3]; exact hh
        · cases hh
      split at he
      · exact key he
      · exact freezeE_msk r he
      · exact key he
      · exact key he
      · exact freezeE_msk r he
      · exact freezeE_msk r he
      · cases he
    · rw [e] at he; cases he
theorem none_msk {k:Nat} (hk:h1 k=.none):h2 k=.none:=by
  rcases hm k with e | e
  · rw [← e]; exact hk
  · rw [hk] at e; cases e
theorem keepFree_msk:(keep:Keys)→keepFree h1 keep=true→keepFree h2 keep=true
  | [],he=>he
  | (key,k) :: r,he=>by
    simp only [keepFree,Bool.and_eq_true] at he ⊢
    obtain ⟨⟨k1,k2⟩,k3⟩:=he
    refine ⟨⟨?_,keepFree_msk r k2⟩,k3⟩
    split at k1
    · rename_i hk; rw [none_msk hm hk]
    · cases k1
theorem nilsG_msk {τ:Ty} {x:den τ}:(l:List (Path×Nat))→{u:Ov×Eff}→nilsG τ x h1 l=some u→nilsG τ x h2 l=some u
  | [],_,he=>he
  | (p,k) :: r,u,he=>by
    simp only [nilsG] at he ⊢
    split at he
    · rename_i e' l' ov es hk hp ha hn
      simp only [none_msk hm hk,hp,ha,nilsG_msk r hn]
      exact he
    · cases he
theorem loadG_msk {a:SV} {K:SV→Option R} {r:R} (he:loadG h1 a K=some r):loadG h2 a K=some r:=by
  unfold loadG at he ⊢
  cases a with
  | ptr g p=>rcases hm g with e | e <;> simp only [e] at he ⊢ <;> first | exact he | cases he
  | elp g i p=>rcases hm g with e | e <;> simp only [e] at he ⊢ <;> first | exact he | cases he
  | _=>exact he
theorem storeG_msk {a v:SV} {K:Eff→Option R} {r:R} (he:storeG h1 a v K=some r):storeG h2 a v K=some r:=by
  unfold storeG at he ⊢
  cases a with
  | ptr g p=>rcases hm g with e | e <;> simp only [e] at he ⊢ <;> first | exact he | cases he
  | elp g i p=>rcases hm g with e | e <;> simp only [e] at he ⊢ <;> first | exact he | cases he
  | _=>exact he
theorem fieldAG_msk {t:FT} {j:Nat} {a:SV} {K:SV→Option R} {r:R} (he:fieldAG h1 t j a K=some r):fieldAG h2 t j a K=some r:=by
  unfold fieldAG at he ⊢
  cases t with
  | d σ =>
    cases σ with
    | st fs =>
      cases a with
      | ptr g p =>
        simp only [] at he ⊢
        cases hb:Nat.blt j fs.length with
        | false=>simp [hb] at he
        | true=>rcases hm g with e | e <;> simp only [hb,cond_true,e] at he ⊢ <;> first | exact he | cases he
      | elp g i p =>
        simp only [] at he ⊢
        cases hb:Nat.blt j fs.length with
        | false=>simp [hb] at he
        | true=>rcases hm g with e | e <;> simp only [hb,cond_true,e] at he ⊢ <;> first | exact he | cases he
      | _=>exact he
    | _=>exact he
  | v sizes =>
    cases a with
    | ptr g p=>rcases hm g with e | e <;> simp only [e] at he ⊢ <;> first | exact he | cases he
    | refv u=>cases u <;> exact he
    | _=>exact he
theorem lenG_msk {x:SV} {K:SV→Option R} {r:R} (he:lenG h1 x K=some r):lenG h2 x K=some r:=by
  unfold lenG at he ⊢
  split at he
  · exact he
  · rename_i g
    rcases hm g with e | e <;> simp only [e] at he ⊢ <;> first | exact he | cases he
  · exact he
  · cases he
theorem indexG_msk {t:IT} {x i:SV} {K:SV→Option R} {r:R} (he:indexG t h1 x i K=some r):indexG t h2 x i K=some r:=by
  unfold indexG at he ⊢
  split at he
  · rename_i n _
    cases t with
    | sl σ =>
      simp only [] at he ⊢
      split at he
      · exact he
      · rename_i g
        rcases hm g with e | e <;> simp only [e] at he ⊢ <;> first | exact he | cases he
      · cases he
    | arr M σ =>
      simp only [] at he ⊢
      split at he
      · exact he
      · rename_i g p
        rcases hm g with e | e <;> simp only [e] at he ⊢ <;> first | exact he | cases he
      · cases he
    | slv sz=>exact he
  · cases he
theorem callK_msk {ids:List Nat} {res:List Sh} {x:dShL res} {keep:Keys} {K:SV→Eff→Option R} {r:R} (he:callK h1 ids res x keep K=some r):callK h2 ids res x keep K=some r:=by
  unfold callK at he ⊢
  cases ht:tame res with
  | false =>
    simp only [ht] at he ⊢
    split at he
    · rename_i es hes; rw [freezeE_msk hm ids hes]; exact he
    · cases he
  | true =>
    cases keep with
    | nil=>simp only [ht] at he ⊢; exact he
    | cons q rest =>
      simp only [ht] at he ⊢
      split at he
      · rename_i es hes; rw [freezeE_msk hm ids hes]; exact he
      · cases he
theorem callG_msk {cf:Calls} {f:SV} {args:List SV} {res:List Sh} {keep:Keys} {opt:Bool} {K:SV→Eff→Option R} {r:R} (he:callG cf h1 f args res keep opt K=some r):callG cf h2 f args res keep opt K=some r:=by
  unfold callG at he ⊢
  split at he
  · rename_i fid caps
    split at he
    · rename_i as ids hl
      simp only [lendL_msk hm 60 _ hl]
      cases hcr:cf fid as res with
      | none=>rw [hcr] at he; simp at he
      | some x =>
        rw [hcr] at he
        simp only [Option.bind_some] at he ⊢
        cases hka:keepAll x.2 keep with
        | true =>
          simp only [hka,cond_true] at he ⊢
          cases hkf:keepFree h1 keep with
          | false=>simp [hkf] at he
          | true =>
            simp only [hkf,keepFree_msk hm keep hkf,cond_true] at he ⊢
            exact callK_msk hm he
        | false =>
          simp only [hka,cond_false] at he ⊢
          cases opt with
          | true=>exact callK_msk hm he
          | false=>cases he
    · cases he
  · cases he
  · cases he
theorem gop_msk {cf:Calls} {s:Nat→SV} {g:GOp} {K:SV→Eff→Option R} {r:R} (he:gop cf s h1 g K=some r):gop cf s h2 g K=some r:=by
  cases g with
  | mknil k e =>
    simp only [gop] at he ⊢
    split at he
    · rename_i hk; rw [none_msk hm hk]; exact he
    · cases he
  | newbox k τ nils =>
    simp only [gop] at he ⊢
    split at he
    · rename_i hk hn ha; simp only [none_msk hm hk,nilsG_msk hm nils hn,ha]; exact he
    · cases he
  | newboxv k z =>
    simp only [gop] at he ⊢
    split at he
    · rename_i hk hz; simp only [none_msk hm hk,hz]; exact he
    · cases he
  | box k x =>
    simp only [gop] at he ⊢
    split at he
    · rename_i hk; rw [none_msk hm hk]; exact he
    · cases he
  | load t a=>simp only [gop,loadT] at he ⊢; exact loadG_msk hm he
  | store t a v =>
    simp only [gop] at he ⊢
    split at he
    · exact storeG_msk hm he
    · cases he
  | fieldAddr t j a=>simp only [gop] at he ⊢; exact fieldAG_msk hm he
  | index t x i=>simp only [gop] at he ⊢; exact indexG_msk hm he
  | len x=>simp only [gop] at he ⊢; exact lenG_msk hm he
  | build τ parts nils =>
    simp only [gop] at he ⊢
    split at he
    · rename_i hn; simp only [nilsG_msk hm nils hn]; exact he
    · cases he
  | slice k e parts =>
    simp only [gop] at he ⊢
    split at he
    · rename_i hk hp; simp only [none_msk hm hk,hp]; exact he
    · cases he
  | make k e n =>
    simp only [gop] at he ⊢
    split at he
    · rename_i hk hp; simp only [none_msk hm hk,hp]; exact he
    · cases he
  | append k e x y =>
    simp only [gop] at he ⊢
    split at he
    · rename_i e0 x0 g σ l' ov' hx hy hk
      simp only [hx,hy,none_msk hm hk]
      rcases hm g with e | e
      · rw [e] at he
        split at he
        · rename_i e1 l hg
          try simp only [hg]
          split at he
          · rename_i h3 h4 h5
            simp only [h3,h4,resolve_msk hm ov' h5]
            exact he
          · cases he
        · cases he
      · rw [e] at he; cases he
    · cases he
  | mkmap k κ ν =>
    simp only [gop] at he ⊢
    split at he
    · rename_i hk; rw [none_msk hm hk]; exact he
    · cases he
  | lookup κ ν m i =>
    simp only [gop] at he ⊢
    split at he
    · rename_i g σ y hx hy
      rcases hm g with e | e
      · rw [e] at he; exact he
      · rw [e] at he; cases he
    · cases he
  | mapset κ ν m i v =>
    simp only [gop] at he ⊢
    split at he
    · rename_i g σ y ρ z hx hy hz
      rcases hm g with e | e
      · rw [e] at he; exact he
      · rw [e] at he; cases he
    · cases he
  | mapent κ ν m i =>
    simp only [gop] at he ⊢
    split at he
    · rename_i g σ y hx hy
      rcases hm g with e | e
      · rw [e] at he; exact he
      · rw [e] at he; cases he
    · cases he
  | mapst κ ν m e v =>
    simp only [gop] at he ⊢
    split at he
    · rename_i g n ov ρ z hx hy hz
      rcases hm g with e | e
      · rw [e] at he; exact he
      · rw [e] at he; cases he
    · cases he
  | call f args res keep opt=>simp only [gop] at he ⊢; exact callG_msk hm he
  | slx e x lo hi =>
    simp only [gop] at he ⊢
    split at he
    · rename_i e0 y g hx
      rcases hm g with e | e
      · rw [e] at he; exact he
      · rw [e] at he; cases he
    · exact he
    · cases he
  | slicearr M σ x =>
    simp only [gop] at he ⊢
    split at he
    · exact he
    · rename_i g hx
      rcases hm g with e | e
      · rw [e] at he; exact he
      · rw [e] at he; cases he
    · cases he
  | _=>exact he
end
theorem mask_msk (ids:List Nat) (h:Nat→Obj):Msk (mask ids h) h:=fun g=>by
  unfold mask
  cases ids.any (Nat.beq g) with
  | true=>exact .inl rfl
  | false=>exact .inr rfl
end Go.Proofs.YtjobjooccgledaaDoor.Ghost
