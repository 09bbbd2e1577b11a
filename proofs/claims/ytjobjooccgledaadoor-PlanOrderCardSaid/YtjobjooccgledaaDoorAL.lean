/- plan.All: changes are done, one by one, to a copy. Conditions: its code, and that of the three kinds of changes, is the program's. -/
import Derived.Test.YtjobjooccgledaaDoorGSa
import Derived.Test.YtjobjooccgledaaDoorGK
import Derived.StillTailTactics
import Derived.Sort.Grow
import Derived.Test.YtjobjooccgledaaDoorS
namespace Go.Proofs.YtjobjooccgledaaDoor.Ghost
open Go Go.RowKit
section
variable {P:Program} {ops:Array Oper} {w w':World} {o:Oper} {a:Act}
theorem wpStill_value {Q:Act→Prop} {rest:List Oper} {v:Value} (hg:o.guard=none) (he:(execOp a.eval o).run P w=.ok (.value v) w) (hK:wpStill P ops w Q rest (a.put o.dst v)):wpStill P ops w Q (o :: rest) a :=
  wpStill_step fun K h=>by
    simp only [Region.wanted,hg,if_true,Oper.still,he,Oper.stillUpon_value]
    exact h _ hK
theorem wpList_skip1 {Q:Exit→Act→World→Prop} (hg:o.guard=none) (he:(execOp a.eval o).run P w=.ok .skip w') (hK:Q .normal (a.put o.dst undef) w'):wpList P ops Q [o] a w:=by
  simp only [wpList,Region.wanted,hg,if_true]
  refine .inl ?_
  unfold Oper.wp
  rw [he]
  exact hK
theorem exec_store {T:TypeId} {x y:Operand} {p v:Value} (ho:o.op=.store T x y) (hx:a.eval x=p) (hy:a.eval y=v) (hs:(Instr.storeAt T p v).run P w=.ok () w'):(execOp a.eval o).run P w=.ok .skip w':=by
  simp only [execOp,ho,hx,hy,Sem.run_bind,hs,Result.andThen_ok,Sem.run_pure]
theorem exec_index {T:TypeId} {x y:Operand} {p v r:Value} (ho:o.op=.indexAddr T x y) (hx:a.eval x=p) (hy:a.eval y=v) (hs:(Instr.indexAt T p v).run P w=.ok r w):(execOp a.eval o).run P w=.ok (.value r) w:=by
  simp only [execOp,ho,hx,hy,Sem.run_bind,hs,Result.andThen_ok,Sem.run_pure]
theorem exec_load {T:TypeId} {x:Operand} {p r:Value} (ho:o.op=.load T x) (hx:a.eval x=p) (hs:(Instr.loadAt T p).run P w=.ok r w):(execOp a.eval o).run P w=.ok (.value r) w:=by
  simp only [execOp,ho,hx,Sem.run_bind,hs,Result.andThen_ok,Sem.run_pure]
theorem cell_congr {b o:Nat} (h:w'.heap[b]?=w.heap[b]?):w'.cell? ⟨b,o,none⟩=w.cell? ⟨b,o,none⟩:=by
  unfold World.cell?; simp only [h]
theorem range1 {b o:Nat} {v:Value} (h:w.cell? ⟨b,o,none⟩=some v):w.rangeAt b o [v]:=fun j u hv=>by
  cases j with
  | zero=>simp at hv; subst hv; exact h
  | succ j=>simp at hv
end
def wrV (x:den tWrite):Value:=.agg #[.int .i64 x.1,.int .i64 x.2.1,.int .i64 x.2.2.1,.int .i64 x.2.2.2.1.1,.int .i64 x.2.2.2.1.2.1]
def EffFact (P:Program) (f c z:Nat) (vals:den tWrite→List Value):Prop:=callable P f=true ∧
  ∀ (b ba len cap:Nat) (x:den tWrite) (W:World),b<W.heap.size→ba<W.heap.size→W.cell? ⟨b,c,none⟩=some (.slice (some ⟨ba,0,none⟩) len cap)→0≤x.2.1→x.2.1<(len:Int)→W.there ba (x.2.1.toNat * z) z →
    Go.Calls P f #[.agg #[.pointer (some ⟨b,0,none⟩)],wrV x] W fun e w'=>e=.returned (.tuple #[])∧∃ w1,Below W.heap.size W w1∧w'=w1.setCells ba (x.2.1.toNat * z) (vals x)
set_option maxRecDepth 100000 in
set_option maxHeartbeats 1000000 in
theorem eff_room:EffFact Tryd.prog 45 8 1 (fun x=>[.int .i64 x.2.2.1]):=⟨by kernel_rfl,fun b ba len cap x W hb hba hc h0 h1 ht=>by
  show Go.Calls _ _ #[_,.agg #[.int .i64 x.1,.int .i64 x.2.1,.int .i64 x.2.2.1,.int .i64 x.2.2.2.1.1,.int .i64 x.2.2.2.1.2.1]] _ _
  go_enter Tryd.func45,Tryd.ntmps45
  go_wp2
  refine wp_region_still_tail 10 mixed (by kernel_rfl) ?_
  simp only [List.take_succ_cons,List.take_zero,List.drop_succ_cons,List.drop_zero]
  have hb1:∀ b o,b<W.heap.size→b<(W.alloc o).heap.size:=fun b o hb=>Nat.lt_of_lt_of_le hb (by show _≤(W.heap.push _).size; simp)
  obtain ⟨W1,hW1⟩:∃ W1,W1=(((W.alloc (Obj.cells #[Value.pointer (some { block:=b,off:=0 })] 70)).alloc (Obj.cells #[Value.int IntKind.i64 x.1,Value.int IntKind.i64 x.2.1,Value.int IntKind.i64 x.2.2.1,Value.int IntKind.i64 x.2.2.2.1.1,Value.int IntKind.i64 x.2.2.2.1.2.1] 39)).drew):=⟨_,rfl⟩
  have hbel:Below W.heap.size W W1:=by subst hW1; exact (((Below.refl _ W).alloc (Nat.le_refl _) _).alloc (Nat.le_of_lt (by show _<(W.heap.push _).size; simp)) _).drew
  have hc':W1.cell? ⟨b,8,none⟩=some (.slice (some ⟨ba,0,none⟩) len cap):=(cell_congr (hbel.block b hb)).trans hc
  have ht':W1.there ba (0+x.2.1.toNat * 1) 1:=by rw [Nat.zero_add]; exact there_congr (hbel.block ba hba) ht
  have hl:=run_loadAt' (P:=Tryd.prog) (T:=23) (d:=.slice 3) (g:=false) rfl rfl (by kernel_rfl) (range1 hc') (fun _=>⟨_,rfl⟩)
  have hx:=run_indexAt_sl (P:=Tryd.prog) (T:=23) (e:=3) (sz:=1) (b:=ba) (k:=0) (len:=len) (cap:=cap) (kd:=.i64) (n:=x.2.1) (w:=W1) rfl (by kernel_rfl) h0 h1
  have hs:=run_storeAt' (P:=Tryd.prog) (T:=3) (v:=.int .i64 x.2.2.1) (by kernel_rfl) ht' (fun c hc=>by simp [Value.cells] at hc; rcases hc with rfl | rfl <;> rfl)
  change wpStill _ _ (World.drew _) (fun a'=>wpList _ _ _ _ a' (World.drew _)) _ _
  still_step
  still_step
  still_step
  still_step
  subst hW1
  refine wpStill_value rfl (exec_load rfl rfl hl) ?_
  still_step
  still_step
  still_step
  still_step
  refine wpStill_value rfl (exec_index rfl rfl rfl hx) ?_
  refine wpStill_nil ?_
  refine wpList_skip1 rfl (exec_store rfl rfl rfl hs) ?_
  exact ⟨rfl,_,run_results (vs:=[]) rfl (fun j hj=>absurd hj (by show ¬ j<0; omega)),rfl,_,hbel,by rw [Nat.zero_add]; rfl⟩⟩
set_option maxRecDepth 100000 in
set_option maxHeartbeats 1000000 in
theorem eff_coins:EffFact Tryd.prog 43 9 1 (fun x=>[.int .i64 x.2.2.1]):=⟨by kernel_rfl,fun b ba len cap x W hb hba hc h0 h1 ht=>by
  show Go.Calls _ _ #[_,.agg #[.int .i64 x.1,.int .i64 x.2.1,.int .i64 x.2.2.1,.int .i64 x.2.2.2.1.1,.int .i64 x.2.2.2.1.2.1]] _ _
  go_enter Tryd.func43,Tryd.ntmps43
  go_wp2
  refine wp_region_still_tail 10 mixed (by kernel_rfl) ?_
  simp only [List.take_succ_cons,List.take_zero,List.drop_succ_cons,List.drop_zero]
  have hb1:∀ b o,b<W.heap.size→b<(W.alloc o).heap.size:=fun b o hb=>Nat.lt_of_lt_of_le hb (by show _≤(W.heap.push _).size; simp)
  obtain ⟨W1,hW1⟩:∃ W1,W1=(((W.alloc (Obj.cells #[Value.pointer (some { block:=b,off:=0 })] 70)).alloc (Obj.cells #[Value.int IntKind.i64 x.1,Value.int IntKind.i64 x.2.1,Value.int IntKind.i64 x.2.2.1,Value.int IntKind.i64 x.2.2.2.1.1,Value.int IntKind.i64 x.2.2.2.1.2.1] 39)).drew):=⟨_,rfl⟩
  have hbel:Below W.heap.size W W1:=by subst hW1; exact (((Below.refl _ W).alloc (Nat.le_refl _) _).alloc (Nat.le_of_lt (by show _<(W.heap.push _).size; simp)) _).drew
  have hc':W1.cell? ⟨b,9,none⟩=some (.slice (some ⟨ba,0,none⟩) len cap):=(cell_congr (hbel.block b hb)).trans hc
  have ht':W1.there ba (0+x.2.1.toNat * 1) 1:=by rw [Nat.zero_add]; exact there_congr (hbel.block ba hba) ht
  have hl:=run_loadAt' (P:=Tryd.prog) (T:=23) (d:=.slice 3) (g:=false) rfl rfl (by kernel_rfl) (range1 hc') (fun _=>⟨_,rfl⟩)
  have hx:=run_indexAt_sl (P:=Tryd.prog) (T:=23) (e:=3) (sz:=1) (b:=ba) (k:=0) (len:=len) (cap:=cap) (kd:=.i64) (n:=x.2.1) (w:=W1) rfl (by kernel_rfl) h0 h1
  have hs:=run_storeAt' (P:=Tryd.prog) (T:=3) (v:=.int .i64 x.2.2.1) (by kernel_rfl) ht' (fun c hc=>by simp [Value.cells] at hc; rcases hc with rfl | rfl <;> rfl)
  change wpStill _ _ (World.drew _) (fun a'=>wpList _ _ _ _ a' (World.drew _)) _ _
  still_step
  still_step
  still_step
  still_step
  subst hW1
  refine wpStill_value rfl (exec_load rfl rfl hl) ?_
  still_step
  still_step
  still_step
  still_step
  refine wpStill_value rfl (exec_index rfl rfl rfl hx) ?_
  refine wpStill_nil ?_
  refine wpList_skip1 rfl (exec_store rfl rfl rfl hs) ?_
  exact ⟨rfl,_,run_results (vs:=[]) rfl (fun j hj=>absurd hj (by show ¬ j<0; omega)),rfl,_,hbel,by rw [Nat.zero_add]; rfl⟩⟩
set_option maxRecDepth 100000 in
set_option maxHeartbeats 1000000 in
theorem eff_place:EffFact Tryd.prog 46 10 2 (fun x=>[.int .i64 x.2.2.2.1.1,.int .i64 x.2.2.2.1.2.1]):=⟨by kernel_rfl,fun b ba len cap x W hb hba hc h0 h1 ht=>by
  show Go.Calls _ _ #[_,.agg #[.int .i64 x.1,.int .i64 x.2.1,.int .i64 x.2.2.1,.int .i64 x.2.2.2.1.1,.int .i64 x.2.2.2.1.2.1]] _ _
  go_enter Tryd.func46,Tryd.ntmps46
  go_wp2
  refine wp_region_still_tail 10 mixed (by kernel_rfl) ?_
  simp only [List.take_succ_cons,List.take_zero,List.drop_succ_cons,List.drop_zero]
  have hb1:∀ b o,b<W.heap.size→b<(W.alloc o).heap.size:=fun b o hb=>Nat.lt_of_lt_of_le hb (by show _≤(W.heap.push _).size; simp)
  obtain ⟨W1,hW1⟩:∃ W1,W1=(((W.alloc (Obj.cells #[Value.pointer (some { block:=b,off:=0 })] 70)).alloc (Obj.cells #[Value.int IntKind.i64 x.1,Value.int IntKind.i64 x.2.1,Value.int IntKind.i64 x.2.2.1,Value.int IntKind.i64 x.2.2.2.1.1,Value.int IntKind.i64 x.2.2.2.1.2.1] 39)).drew):=⟨_,rfl⟩
  have hbel:Below W.heap.size W W1:=by subst hW1; exact (((Below.refl _ W).alloc (Nat.le_refl _) _).alloc (Nat.le_of_lt (by show _<(W.heap.push _).size; simp)) _).drew
  have hc':W1.cell? ⟨b,10,none⟩=some (.slice (some ⟨ba,0,none⟩) len cap):=(cell_congr (hbel.block b hb)).trans hc
  have ht':W1.there ba (0+x.2.1.toNat * 2) 2:=by rw [Nat.zero_add]; exact there_congr (hbel.block ba hba) ht
  have hl:=run_loadAt' (P:=Tryd.prog) (T:=27) (d:=.slice 37) (g:=false) rfl rfl (by kernel_rfl) (range1 hc') (fun _=>⟨_,rfl⟩)
  have hx:=run_indexAt_sl (P:=Tryd.prog) (T:=27) (e:=37) (sz:=2) (b:=ba) (k:=0) (len:=len) (cap:=cap) (kd:=.i64) (n:=x.2.1) (w:=W1) rfl (by kernel_rfl) h0 h1
  have hs:=run_storeAt' (P:=Tryd.prog) (T:=37) (v:=.agg #[.int .i64 x.2.2.2.1.1,.int .i64 x.2.2.2.1.2.1]) (by kernel_rfl) ht' (fun c hc=>by simp [Value.cells] at hc; rcases hc with rfl | rfl <;> rfl)
  change wpStill _ _ (World.drew _) (fun a'=>wpList _ _ _ _ a' (World.drew _)) _ _
  still_step
  still_step
  still_step
  still_step
  subst hW1
  refine wpStill_value rfl (exec_load rfl rfl hl) ?_
  still_step
  still_step
  still_step
  still_step
  refine wpStill_value rfl (exec_index rfl rfl rfl hx) ?_
  refine wpStill_nil ?_
  refine wpList_skip1 rfl (exec_store rfl rfl rfl hs) ?_
  exact ⟨rfl,_,run_results (vs:=[]) rfl (fun j hj=>absurd hj (by show ¬ j<0; omega)),rfl,_,hbel,by rw [Nat.zero_add]; rfl⟩⟩
section
variable {P:Program} {o:Oper} {a:Act} {w w':World} {B:Nat} {w0:Start} {A:Nat→Prop} {ρ:Refs} {own:Nat→Option Nat} {h:Nat→Obj}
theorem St.more (st:St B w0 A ρ own w h) (hb:Below w.heap.size w w'):St B w0 A ρ own w' h∧Later A ρ w A ρ w':=by
  have hl:Later A ρ w A ρ w':=⟨fun _ h=>h,fun _ _ h=>h,fun b hA=>hb.block b (st.old b hA)⟩
  exact ⟨st.turn (fun _=>False) hl (fun b g h1 _=>hb.block b (st.oldO b g h1)) (fun _ _ h1 _=>h1) (fun _ _ h1=>h1) (fun _ _=>rfl) (fun _ h=>h.elim) (fun _ h=>h.elim) st.apart
    (fun b h=>Nat.lt_of_lt_of_le (st.old b h) hb.size) (fun b g h=>Nat.lt_of_lt_of_le (st.oldO b g h) hb.size) st.base (hb.mono (Nat.le_trans st.hB st.below.size)) (fun _ h=>.inl h),hl⟩
theorem St.arrSet {T:TypeId} {e:Ty} (hT:ltOk P (.d e) T=true) (st:St B w0 A ρ own w h) {g i:Nat} {l:List (den e)} (hg:h g=.arr e l) (hi:i<l.length) {y:den e} {ds:List Value} (hy:RepC A ρ w e y [] ds) {sp:Spot} (hρ:ρ g=some sp) :
    ∃ A' ρ' own',St B w0 A' ρ' own' (w.setCells sp.b (i * tsize e) ds) (appE h [(g,.arr e (l.set i y))])∧Later A ρ w A' ρ' (w.setCells sp.b (i * tsize e) ds):=by
  have ob:=st.objs g
  rw [hg] at ob
  obtain ⟨sp',n1,n2,n3,n4,n5,n6,n7,n8,n9⟩:=ob
  rw [hρ] at n1
  cases n1
  obtain ⟨cs,m1,m2,m3⟩:=n9 (by omega)
  let o : Oper := { dst := none, op := .store T (.tmp 0) (.tmp 1), type := 0, pos := "", after := #[], guard := none }
  let a:Act:={ tmps := #[.pointer (some ⟨sp.b,i * tsize e,none⟩),mkV e ds],defers:=[] }
  have h0:offP e []=0:=by cases e <;> rfl
  have sl:SlotsOk A ρ w (fun k=>match k with | 0=>.elp g i [] | 1=>.dat e y [] | _=>.junk) a:=fun k=>by
    match k with
    | 0=>simp only [RepV]; exact ⟨sp,hρ,n2,by omega,by rw [n6]; cases e <;> trivial,by rw [n3,n5,h0]; rfl⟩
    | 1=>simp only [RepV]; exact ⟨ds,hy,rfl⟩
    | k+2=>simp only [RepV]
  have hsp:setP e [] (List.getD l i (dft e)) ⟨e,y⟩=some y:=by cases e <;> exact castT_self y
  obtain ⟨v,e',hk,hgood⟩:=good_store (P:=P) (o:=o) st sl (t:=.d e) (x:=.t 0) (y:=.t 1) (by unfold chkStore; simp only [o,hT,chkOpd,Nat.beq_refl,Bool.and_self]) (by simp only [evO,okL,tyEq_self])
    (K:=fun v e=>some (v,e)) (r:=(.junk,[(g,.arr e (l.set i y))])) (by simp only [evO,storeG,hg,hsp])
  simp only [Option.some.injEq,Prod.mk.injEq] at hk
  obtain ⟨rfl,rfl⟩:=hk
  have:=hgood (fun a' w'=>∃ A' ρ' own',St B w0 A' ρ' own' w' (appE h [(g,.arr e (l.set i y))])∧Later A ρ w A' ρ' w') (fun _ _ _=>False) (fun v' w' A' ρ' own' st' hl _=>⟨A',ρ',own',st',hl⟩)
  have hc:(mkV e ds).cells.toList=ds:=mkV_cells hy
  have hz:(mkV e ds).cells.size=tsize e:=by rw [← Array.length_toList,hc]; exact RepC.length e hy
  have hle:(i+1) * tsize e≤sp.cap * tsize e:=Nat.mul_le_mul_right _ (by omega)
  rw [Nat.add_mul,Nat.one_mul] at hle
  rw [n3] at m1
  have hrun:=run_storeAt' (P:=P) (w:=w) (T:=T) (v:=mkV e ds) (b:=sp.b) (k:=i * tsize e) (by rw [hz]; exact (ltOk_spec hT).2) (fun j hj=>by have:=m2.2.2 (i * tsize e+j) (by rw [hz] at hj; omega); rwa [Nat.zero_add] at this)
    (okL_one (t:=.d e) (u:=.dat e y []) (A:=A) (ρ:=ρ) (w:=w) (by simp only [okL,tyEq_self]) (by simp only [RepV]; exact ⟨ds,hy,rfl⟩))
  rw [hc] at hrun
  unfold Oper.wp at this
  rw [exec_store (o:=o) (a:=a) rfl rfl rfl hrun] at this
  exact this
theorem worldCell {xw:den tWorld} {ov:Ov} {cs:List Value} (hc:RepC A ρ w tWorld xw ov cs) {g:Nat} :
    (([1],some g)∈ov→∃ v,cs[8]?=some v∧HeadO ρ g v)∧(([2],some g)∈ov→∃ v,cs[9]?=some v∧HeadO ρ g v)∧(([3],some g)∈ov→∃ v,cs[10]?=some v∧HeadO ρ g v):=by
  have at0:∀ (l:List Value) (v:Value) (k:Nat),(l.drop k).take 1=[v]→l[k]?=some v:=fun l v k h=>by
    have:=congrArg (·[0]?) h
    simpa [List.getElem?_take,List.getElem?_drop] using this
  simp only [RepC,RepF,List.drop_drop] at hc
  obtain ⟨_,⟨_,_,_,c1,d1,_⟩,⟨_,_,_,c2,d2,_⟩,⟨_,_,_,c3,d3,_⟩,_⟩:=hc
  refine ⟨fun h=>⟨_,at0 _ _ _ c1,d1 g ?_⟩,fun h=>⟨_,at0 _ _ _ c2,d2 g ?_⟩,fun h=>⟨_,at0 _ _ _ c3,d3 g ?_⟩⟩ <;> (rw [mem_ovSub]; exact h)
theorem toNat_lt' {i:Int} {n:Nat} (h0:0≤i) (h1:i<(n:Int)):i.toNat<n:=by omega
theorem eff_op {f c g j:Nat} {T:TypeId} {e:Ty} {val:den tWrite→den e} {vals:den tWrite→List Value} (hT:ltOk P (.d e) T=true) (hf:EffFact P f c (tsize e) vals) (hval:∀ A ρ w x,RepC A ρ w e (val x) [] (vals x))
    (hcj:∀ (cs:List Value) (x:den tWorld) (ov:Ov),RepC A ρ w tWorld x ov cs→([j],some g)∈ov→∃ v,cs[c]?=some v∧HeadO ρ g v) {cl:Call} {cf c1 c2:Operand} (ho:o.op=.call cl) (hcal:cl.callee=.value cf) (hca:cl.args = #[c1,c2])
    (st:St B w0 A ρ own w h) {k2:Nat} {xw:den tWorld} {ov:Ov} (h2:h k2=.box tWorld xw ov) (hov:([j],some g)∈ov) {l:List (den e)} (hg:h g=.arr e l) {x:den tWrite} (hx0:0≤x.2.1) (hx1:x.2.1<((List.length l:Nat):Int))
    (r1:RepV A ρ w (.clo f []) (a.eval cf)) (r2:RepV A ρ w (.agv [.ptr k2 []]) (a.eval c1)) (r3:RepV A ρ w (.dat tWrite x []) (a.eval c2)) :
    OpGood P o a w B w0 A ρ .junk (appE h [(g,.arr e (l.set x.2.1.toNat (val x)))]):=fun next Q K=>by
  obtain ⟨hcl,hcall⟩:=hf
  have ob:=st.objs k2
  rw [h2] at ob
  obtain ⟨s2,cs,n1,n2,n3,n4,⟨m1,m2,m3⟩,n6⟩:=ob
  obtain ⟨v,hv,s,ad,q1,q2,rfl,q4⟩:=hcj cs xw ov n6 hov
  have ob:=st.objs g
  rw [hg] at ob
  obtain ⟨s',p1,p2,p3,p4,p5,p6,p7,p8,p9⟩:=ob
  rw [q1] at p1
  cases p1
  have hlt:Int.toNat x.2.1<l.length:=toNat_lt' hx0 hx1
  have had:=q4 (by omega)
  subst had
  obtain ⟨cs',t1,⟨t2,t3,t4⟩,_⟩:=p9 (by omega)
  have hle:(x.2.1.toNat+1) * tsize e≤s.cap * tsize e:=Nat.mul_le_mul_right _ (by omega)
  rw [Nat.add_mul,Nat.one_mul] at hle
  rw [p3] at t1
  simp only [RepV,RepVs] at r1 r2 r3
  obtain ⟨vs1,e1,rfl⟩:=r1
  obtain ⟨vs2,e2,⟨u,us,rfl,⟨su,hu1,hu2,hu3⟩,rfl⟩,_⟩:=r2
  rw [n1] at hu1
  cases hu1
  rw [n2,n3] at hu3
  obtain ⟨ds,r3,e3⟩:=r3
  have e3':a.eval c2=wrV x:=by
    rw [e3]
    have z1:ds=[.int .i64 x.1,.int .i64 x.2.1,.int .i64 x.2.2.1,.int .i64 x.2.2.2.1.1,.int .i64 x.2.2.2.1.2.1]:=by
      have hz:ds.length=5:=RepC.length tWrite r3
      match ds,hz,r3 with
      | [b1,b2,b3,b4,b5],_,r3 =>
        simp [RepC,RepF,tsize,tsizeL] at r3
        obtain ⟨y1,y2,y3,y4,y5⟩:=r3
        rw [y1,y2,y3,y4,y5]
    rw [z1]; rfl
  have e2':a.eval c1=.agg #[.pointer (some ⟨s2.b,0,none⟩)]:=by rw [e2,hu3]; rfl
  unfold Oper.wp
  rw [run_call (P:=P) (w:=w) ho hcal e1 hcl,Oper.upon_enter]
  have ha:cl.args.map a.eval ++ ([]:List Value).toArray = #[.agg #[.pointer (some ⟨s2.b,0,none⟩)],wrV x]:=by rw [hca]; simp [e2',e3']
  rw [ha]
  have hcell:w.cell? ⟨s2.b,c,none⟩=some (.slice (some ⟨s.b,0,none⟩) s.len s.cap):=by have:=m2 c _ hv; rwa [Nat.zero_add] at this
  refine Calls.mono (hcall s2.b s.b s.len s.cap x w (st.oldO _ _ m1) (st.oldO _ _ t2) hcell hx0 (by rw [← p7]; exact hx1) (fun k hk=>by have:=t4 (x.2.1.toNat * tsize e+k) (by omega); rwa [Nat.zero_add] at this)) (fun en w' he => ?_)
  obtain ⟨rfl,w1,hbl,rfl⟩:=he
  obtain ⟨st1,l1⟩:=st.more hbl
  obtain ⟨A',ρ',own',st2,l2⟩:=St.arrSet hT st1 hg hlt (hval A ρ w1 x) q1
  exact K _ _ A' ρ' own' st2 (l1.trans l2) (by simp only [RepV])
end
def lnR0:List Ln:=[⟨some 2,.box 0 (.t 0),none,[],[]⟩,⟨some 4,.newbox 1 tWorld [],none,[],[]⟩]
def lnR1:List Ln:=[⟨some 10,.load (.d tWorld) (.t 2),none,[],[]⟩,⟨some 11,.call (.f 25) [.t 10] [.d tWorld] [((0,[1]),3),((0,[2]),4),((0,[3]),5)] false,none,[],[]⟩,⟨some 5,.newbox 2 tWorld [],none,[],[]⟩,⟨none,.store (.d tWorld) (.t 5) (.t 11),none,[],[]⟩]
def lnR2:List Ln:=[⟨some 12,.move (.t 1),none,[],[]⟩,⟨some 13,.len (.t 12),none,[],[]⟩,⟨some 14,.move (.c (.int .i64) (0:Int)),none,[],[]⟩]
def lnR3:List Ln:=[⟨some 15,.bin .lss (.t 14) (.t 13),none,[],[]⟩]
def lnR4:List Ln:=[⟨some 16,.index (.sl tWrite) (.t 12) (.t 14),none,[],[]⟩,⟨some 17,.load (.d tWrite) (.t 16),none,[],[]⟩,⟨some 7,.newbox 6 tWrite [],none,[],[]⟩,⟨none,.store (.d tWrite) (.t 7) (.t 17),none,[],[]⟩]
def lnR5:List Ln:=[⟨some 19,.load (.v false 1) (.g 0),none,[],[]⟩,⟨some 20,.fieldAddr (.d tWrite) 0 (.t 7),none,[],[]⟩,⟨some 21,.load (.d (.int .i64)) (.t 20),none,[],[]⟩,⟨some 22,.lookv (.t 19) (.t 21) true,none,[],[]⟩,⟨some 18,.move (.t 22),none,[],[]⟩,
  ⟨some 23,.extract (.t 18) 0,none,[],[]⟩,⟨some 24,.extract (.t 18) 1,none,[],[]⟩,⟨some 8,.move (.t 23),none,[],[]⟩,⟨some 9,.move (.t 24),none,[],[]⟩]
def lnR6:List Ln:=[⟨some 25,.move (.t 9),none,[],[]⟩]
def lnR7:List Ln:=[⟨some 26,.move (.t 8),none,[],[]⟩,⟨some 27,.buildv [1] [.t 5],none,[],[]⟩,⟨some 28,.load (.d tWrite) (.t 7),none,[],[]⟩]
def lnR8:List Ln:=[⟨some 30,.bin .add (.t 14) (.c (.int .i64) (1:Int)),none,[],[]⟩,⟨some 14,.move (.t 30),none,[],[]⟩]
def cdR9:Cd:=.seq (.reg false [⟨some 31,.load (.d tWorld) (.t 5),none,[],[]⟩,⟨none,.store (.d tWorld) (.t 4) (.t 31),none,[],[]⟩]) .ret
def alOv:Ov:=[([1],some 3),([2],some 4),([3],some 5)]
def alH (w:den tWorld) (a1 a2:List Int) (a3:List (den tPlace)):Heap:=[.box tWorld w [],.box tWorld (dft tWorld) [],.box tWorld (w.1,[],[],[],()) alOv,.arr (.int .i64) a1,.arr (.int .i64) a2,.arr tPlace a3]
def alS (w:den tWorld) (l:List (den tWrite)) (i:Nat):Slots:=[(0,.dat tWorld w []),(1,.dat (.sl tWrite) l []),(2,.ptr 0 []),(4,.ptr 1 []),(5,.ptr 2 []),(12,.dat (.sl tWrite) l []),(13,.dat (.int .i64) ((List.length l:Nat):Int) []),(14,.dat (.int .i64) (i:Int) [])]
abbrev putSH:Kt (Slots×Heap):=fun _ s h=>some (s,h)
abbrev noK:Kt (Slots×Heap):=fun _ _ _=>none
section
variable {cf:Calls}
theorem alR1_run (w:den tWorld) (l:List (den tWrite)):run cf 0 (.reg false lnR1) putSH noK [(0,.dat tWorld w []),(1,.dat (.sl tWrite) l []),(2,.ptr 0 []),(4,.ptr 1 [])] [.box tWorld w [],.box tWorld (dft tWorld) []] =
    Option.bind (cf 25 [.dat tWorld w []] [.d tWorld]) fun r=>bif keepAll r.2 [((0,[1]),3),((0,[2]),4),((0,[3]),5)] then
      some ([(0,.dat tWorld w []),(1,.dat (.sl tWrite) l []),(2,.ptr 0 []),(4,.ptr 1 []),(10,.dat tWorld w []),(11,.dat tWorld (r.1.1.1,[],[],[],()) alOv),(5,.ptr 2 [])],[.box tWorld w [],.box tWorld (dft tWorld) [],.box tWorld (r.1.1.1,[],[],[],()) alOv,.arr (.int .i64) r.1.1.2.1,.arr (.int .i64) r.1.1.2.2.1,.arr tPlace r.1.1.2.2.2.1]) else none:=by kernel_rfl
theorem alR2_run (w:den tWorld) (l:List (den tWrite)) (h:Heap):run cf 0 (.reg false lnR2) putSH noK [(0,.dat tWorld w []),(1,.dat (.sl tWrite) l []),(2,.ptr 0 []),(4,.ptr 1 []),(5,.ptr 2 [])] h=some (alS w l 0,h):=by kernel_rfl
theorem alR3_run (w:den tWorld) (l:List (den tWrite)) (i:Nat) (h:Heap):run cf 0 (.reg false lnR3) putSH noK (alS w l i) h=some (alS w l i ++ [(15,.dat .bool (decide ((i:Int)<((List.length l:Nat):Int))) [])],h):=by kernel_rfl
theorem alR4_run (w:den tWorld) (l:List (den tWrite)) (i:Nat) (a1 a2:List Int) (a3:List (den tPlace)):run cf 0 (.reg false lnR4) putSH noK (alS w l i) (alH w a1 a2 a3) =
    if (0:Int)≤(i:Int)∧(i:Int)<((List.length l:Nat):Int) then some (alS w l i ++ [(16,.ref tWrite (List.getD l (Int.toNat (i:Int)) (dft tWrite))),(17,.dat tWrite (List.getD l (Int.toNat (i:Int)) (dft tWrite)) []),(7,.ptr 6 [])],alH w a1 a2 a3 ++ [.box tWrite (List.getD l (Int.toNat (i:Int)) (dft tWrite)) []]) else none:=by kernel_rfl
def alF:SV:=.fmap [0,1,2] [.clo 45 [],.clo 43 [],.clo 46 []]
def alS5 (w:den tWorld) (l:List (den tWrite)) (i:Nat) (x:den tWrite) (v:SV) (b:Bool):Slots:=alS w l i ++ [(7,.ptr 6 []),(19,alF),(20,.ptr 6 [0]),(21,.dat (.int .i64) x.1 []),(22,.tup [v,.dat .bool b []]),(18,.tup [v,.dat .bool b []]),(23,v),(24,.dat .bool b []),(8,v),(9,.dat .bool b [])]
theorem alR5_run (w:den tWorld) (l:List (den tWrite)) (i:Nat) (x:den tWrite) (a1 a2:List Int) (a3:List (den tPlace)):run cf 0 (.reg false lnR5) putSH noK (alS w l i ++ [(7,.ptr 6 [])]) (alH w a1 a2 a3 ++ [.box tWrite x []]) =
    bif decide (x.1=(0:Int)) then some (alS5 w l i x (.clo 45 []) true,alH w a1 a2 a3 ++ [.box tWrite x []])
    else bif decide (x.1=(1:Int)) then some (alS5 w l i x (.clo 43 []) true,alH w a1 a2 a3 ++ [.box tWrite x []])
    else bif decide (x.1=(2:Int)) then some (alS5 w l i x (.clo 46 []) true,alH w a1 a2 a3 ++ [.box tWrite x []])
    else some (alS5 w l i x .nilfn false,alH w a1 a2 a3 ++ [.box tWrite x []]):=by kernel_rfl
def alS6 (w:den tWorld) (l:List (den tWrite)) (i:Nat) (v:SV) (b:Bool):Slots:=alS w l i ++ [(7,.ptr 6 []),(8,v),(9,.dat .bool b [])]
theorem alR6_run (w:den tWorld) (l:List (den tWrite)) (i:Nat) (v:SV) (b:Bool) (h:Heap):run cf 0 (.reg false lnR6) putSH noK (alS6 w l i v b) h=some (alS6 w l i v b ++ [(25,.dat .bool b [])],h):=by kernel_rfl
theorem alR7_ran (w:den tWorld) (l:List (den tWrite)) (i:Nat) (f:Nat) (x:den tWrite) (a1 a2:List Int) (a3:List (den tPlace)):runLns cf false lnR7 (alS6 w l i (.clo f []) true) (alH w a1 a2 a3 ++ [.box tWrite x []]) (fun s h=>some (s,h)) =
    some (alS6 w l i (.clo f []) true ++ [(26,.clo f []),(27,.agv [.ptr 2 []]),(28,.dat tWrite x [])],alH w a1 a2 a3 ++ [.box tWrite x []]):=by kernel_rfl
theorem alR8_run (w:den tWorld) (l:List (den tWrite)) (i:Nat) (h:Heap):run cf 0 (.reg false lnR8) putSH noK (alS w l i) h=some (putS (alS w l i) 14 (.dat (.int .i64) (IntKind.wrap .i64 ((i:Int)+1)) []) ++ [(30,.dat (.int .i64) (IntKind.wrap .i64 ((i:Int)+1)) [])],h):=by kernel_rfl
def alFn:Fn:=⟨2,[.cell 4 (.d tWorld)],cdR9⟩
theorem alR9_run (w:den tWorld) (l:List (den tWrite)) (i:Nat) (a1 a2:List Int) (a3:List (den tPlace)):run cf 0 cdR9 (fun _ _ _=>none) (retK alFn [.d tWorld]) (alS w l i) (alH w a1 a2 a3) =
    some (((w.1,a1,a2,a3,()),()),[(0,[1]),(0,[2]),(0,[3])]):=by kernel_rfl
end
theorem copy_run {w:den tWorld} (h1:List.length (w.2.1:List Int)≤1048576) (h2:List.length (w.2.2.1:List Int)≤1048576) (h3:List.length (w.2.2.2.1:List (den tPlace))≤1048576) :
    gcall prog sp0 2 25 [.dat tWorld w []] [.d tWorld]=some ((w,()),[(0,[1]),(0,[2]),(0,[3])]):=by
  have e:gcall prog sp0 2 25 [.dat tWorld w []] [.d tWorld]=Option.bind (sp0 26 [.dat (.sl (.int .i64)) w.2.1 []] [.d (.sl (.int .i64))]) fun r1=>bif keepAll r1.2 [((0,[]),2)] then
      Option.bind (sp0 26 [.dat (.sl (.int .i64)) w.2.2.1 []] [.d (.sl (.int .i64))]) fun r2=>bif keepAll r2.2 [((0,[]),3)] then
      Option.bind (sp0 27 [.dat (.sl tPlace) w.2.2.2.1 []] [.d (.sl tPlace)]) fun r3=>bif keepAll r3.2 [((0,[]),4)] then
      some (((w.1,(r1.1.1:List Int),(r2.1.1:List Int),(r3.1.1:List (den tPlace)),()),()),[(0,[1]),(0,[2]),(0,[3])]) else none else none else none:=by kernel_rfl
  have c1:∀ l:List Int,l.length≤1048576→sp0 26 [.dat (.sl (.int .i64)) l []] [.d (.sl (.int .i64))]=some ((l,()),[(0,[])]):=fun l hl=>by
    have e:sp0 26 [.dat (.sl (.int .i64)) l []] [.d (.sl (.int .i64))]=cloneSp (.int .i64) [.dat (.sl (.int .i64)) l []] [.d (.sl (.int .i64))]:=by kernel_rfl
    rw [e]
    simp only [cloneSp,castT_self,if_pos hl,prjL,prj]
  have c2:∀ l:List (den tPlace),l.length≤1048576→sp0 27 [.dat (.sl tPlace) l []] [.d (.sl tPlace)]=some ((l,()),[(0,[])]):=fun l hl=>by
    have e:sp0 27 [.dat (.sl tPlace) l []] [.d (.sl tPlace)]=cloneSp tPlace [.dat (.sl tPlace) l []] [.d (.sl tPlace)]:=by kernel_rfl
    rw [e]
    simp only [cloneSp,castT_self,if_pos hl,prjL,prj]
  rw [e,c1 _ h1,c1 _ h2,c2 _ h3]
  rfl
structure AlCode (P:Program) (N:Nat) (R3 R4 R5 R6 R8:Code) (ops:Array Oper) (o0 o1 o2 o3:Oper) (cl:Call):Prop where
  c3:chkCd P N (.reg false lnR3) R3=true
  c4:chkCd P N (.reg false lnR4) R4=true
  c5:chkCd P N (.reg false lnR5) R5=true
  c6:chkCd P N (.reg false lnR6) R6=true
  c8:chkCd P N (.reg false lnR8) R8=true
  hops:ops = #[o0,o1,o2,o3]
  k0:chkLn P N ops ⟨some 26,.move (.t 8),none,[],[]⟩ o0=true
  k1:chkLn P N ops ⟨some 27,.buildv [1] [.t 5],none,[],[]⟩ o1=true
  k2:chkLn P N ops ⟨some 28,.load (.d tWrite) (.t 7),none,[],[]⟩ o2=true
  g3:o3.guard=none
  d3:o3.dst=some 29
  hN:29<N
  op3:o3.op=.call cl
  cc:cl.callee=.value (.tmp 26)
  ca:cl.args = #[.tmp 27,.tmp 28]
theorem drop_cons {α:Type} {l:List α} {i:Nat} (d:α) (h:i<l.length):l.drop i=l.getD i d :: l.drop (i+1):=by
  rw [List.drop_eq_getElem_cons h,List.getD_eq_getElem?_getD,List.getElem?_eq_getElem h]; rfl
theorem setI_spec {α:Type} {l l':List α} {i:Int} {x:α} (h:setI l i x=some l'):0≤i∧i<((List.length l:Nat):Int)∧l'=List.set l i.toNat x:=by
  unfold setI at h
  split at h
  · rename_i hh; simp only [Option.some.injEq] at h; exact ⟨hh.1,hh.2,h.symm⟩
  · cases h
section
variable {N B:Nat} {w0:Start} {Q:Exit→Act→World→Prop} {cf:Calls} {R3 R4 R5 R6 R8:Code} {ops:Array Oper} {o0 o1 o2 o3:Oper} {cl:Call} {w:den tWorld} {l:List (den tWrite)}
theorem al_trunc {i:Nat} {a1 a2:List Int} {a3:List (den tPlace)} {x:den tWrite} {s:Slots} {k:List Nat} {a:Act} {W:World} (hs:Is N B w0 (getS s) (getO (alH w a1 a2 a3 ++ [.box tWrite x []])) a W) (hk:killS k s=alS w l i) :
    Is N B w0 (getS (alS w l i)) (getO (alH w a1 a2 a3)) a W:=by
  have h1:=is_kill (k:=k) hs
  rw [hk] at h1
  exact is_trunc (n:=6) h1 rfl rfl
theorem al_do (hcf:CallOk Tryd.prog cf) (hm:Tryd.prog.follows .mixedOrders=true) (hc:AlCode Tryd.prog N R3 R4 R5 R6 R8 ops o0 o1 o2 o3 cl) {rid i:Nat} {f:Nat} {x:den tWrite} {a1 a2:List Int} {a3:List (den tPlace)} {h':Nat→Obj} {b1 b2:List Int} {b3:List (den tPlace)}
    (hh:h'=getO (alH w b1 b2 b3 ++ [.box tWrite x []])) {a:Act} {W:World} (hs:Is N B w0 (getS (alS6 w l i (.clo f []) true)) (getO (alH w a1 a2 a3 ++ [.box tWrite x []])) a W)
    (heff:∀ (A:Nat→Prop) (ρ:Refs) (own:Nat→Option Nat) (a:Act) (W:World),St B w0 A ρ own W (getO (alH w a1 a2 a3 ++ [.box tWrite x []]))→RepV A ρ W (.clo f []) (a.eval (.tmp 26))→RepV A ρ W (.agv [.ptr 2 []]) (a.eval (.tmp 27))→RepV A ρ W (.dat tWrite x []) (a.eval (.tmp 28))→OpGood Tryd.prog o3 a W B w0 A ρ .junk h')
    (hQ:∀ a W,Is N B w0 (getS (alS w l i)) (getO (alH w b1 b2 b3)) a W→Q .normal a W):Code.wp Tryd.prog (.region rid ops false) Q a W:=by
  have hops:=hc.hops
  have e0:ops[0]?=some o0:=by rw [hops]; rfl
  have e1:ops[1]?=some o1:=by rw [hops]; rfl
  have e2:ops[2]?=some o2:=by rw [hops]; rfl
  have e3:ops[3]?=some o3:=by rw [hops]; rfl
  have hsz:ops.size=4:=by rw [hops]; rfl
  refine wp_region ?_
  rw [hsz,List.range_eq_range']
  show wpOps Tryd.prog ops Q [0,1,2,3] a W
  rw [wpOps_cons]
  refine step_is (draw:=false) e0 hs hcf hc.k0 (v:=.clo f []) (e:=[]) ⟨(fun h=>by cases h),rfl⟩ (fun a4 W4 hs1 => ?_)
  rw [← getS_putO] at hs1
  rw [wpOps_cons]
  refine step_is (draw:=false) e1 hs1 hcf hc.k1 (v:=.agv [.ptr 2 []]) (e:=[]) ⟨(fun h=>by cases h),rfl⟩ (fun a5 W5 hs2 => ?_)
  rw [← getS_putO] at hs2
  rw [wpOps_cons]
  refine step_is (draw:=false) e2 hs2 hcf hc.k2 (v:=.dat tWrite x []) (e:=[]) ⟨(fun h=>by cases h),rfl⟩ (fun a6 W6 hs3 => ?_)
  rw [← getS_putO] at hs3
  rw [wpOps_cons]
  unfold wpOp
  simp only [e3,Region.wanted,hc.g3,if_true]
  refine .inl ?_
  have hs3':Is N B w0 (getS (alS6 w l i (.clo f []) true ++ [(26,.clo f []),(27,.agv [.ptr 2 []]),(28,.dat tWrite x [])])) (getO (alH w a1 a2 a3 ++ [.box tWrite x []])) a6 W6:=hs3
  obtain ⟨A,ρ,own,st,sl,sz,df⟩:=hs3'
  refine heff A ρ own a6 W6 st (sl 26) (sl 27) (sl 28) _ _ (fun v' W7 A' ρ' own' st' hl hv => ?_)
  rw [hc.d3]
  refine hQ _ _ (al_trunc (k:=[7,8,9,26,27,28,29]) (s:=alS6 w l i (.clo f []) true ++ [(26,.clo f []),(27,.agv [.ptr 2 []]),(28,.dat tWrite x []),(29,.junk)]) (x:=x) ⟨A',ρ',own',by rw [← hh]; exact st',?_,by rw [size_put]; exact sz,by rw [defers_put]; exact df⟩ rfl)
  have:=SlotsOk.put sl hl (d:=some 29) (v:=.junk) (v':=v') (fun i hi=>by cases hi; rw [sz]; exact hc.hN) hv
  rw [← getS_putO] at this
  exact this
theorem al_loop (hcf:CallOk Tryd.prog cf) (hm:Tryd.prog.follows .mixedOrders=true) (hc:AlCode Tryd.prog N R3 R4 R5 R6 R8 ops o0 o1 o2 o3 cl) {rid:Nat} {wE:den tWorld} (hlen:l.length≤1048576)
    (hQ:∀ a W a1 a2 a3,wE=(w.1,a1,a2,a3,())→Is N B w0 (getS (alS w l l.length)) (getO (alH w a1 a2 a3)) a W→Q (.exit 0) a W):(m i:Nat)→(a1 a2:List Int)→(a3:List (den tPlace))→i+m=l.length→allW (w.1,a1,a2,a3,()) (l.drop i)=some wE→∀ (a:Act) (W:World),
    Is N B w0 (getS (alS w l i)) (getO (alH w a1 a2 a3)) a W→Code.rounds Tryd.prog (.seq R3 (.seq (.cond (.tmp 15) .skip (.exit 0)) (.seq (.block 1 (.seq R4 (.seq R5 (.seq R6 (.cond (.tmp 25) (.region rid ops false) .skip))))) R8))) Q (m+1) a W:=by
  intro m
  induction m with
  | zero =>
    intro i a1 a2 a3 him hall a W hs
    have hi:i=l.length:=by omega
    subst hi
    rw [rounds_succ]
    refine wp_seq (code_ok (R:=Slots×Heap) (lp:=0) hcf hm (.reg false lnR3) R3 hc.c3 (Kn:=putSH) (K:=noK) (fun s h a W hk hs => ?_) (fun _ _ s h a w' hk _=>by cases hk) hs (alR3_run ..))
    simp only [Option.some.injEq,Prod.mk.injEq] at hk
    obtain ⟨rfl,rfl⟩:=hk
    have hb:a.eval (.tmp 15)=.bool false:=by
      obtain ⟨A,ρ,own,st,sl,sz,df⟩:=hs
      have:=repV_bool (show RepV A ρ W (.dat .bool _ []) _ from sl 15)
      rw [this,decide_eq_false (Int.lt_irrefl _)]
    refine wp_seq (wp_cond_false hb (wp_exit ?_))
    refine hQ a W a1 a2 a3 ?_ (is_kill (k:=[15]) hs)
    rw [List.drop_length] at hall
    exact (Option.some.inj hall).symm
  | succ m ih =>
    intro i a1 a2 a3 him hall a W hs
    have hi:i<l.length:=by omega
    rw [rounds_succ]
    refine wp_seq (code_ok (R:=Slots×Heap) (lp:=0) hcf hm (.reg false lnR3) R3 hc.c3 (Kn:=putSH) (K:=noK) (fun s h a W hk hs => ?_) (fun _ _ s h a w' hk _=>by cases hk) hs (alR3_run ..))
    simp only [Option.some.injEq,Prod.mk.injEq] at hk
    obtain ⟨rfl,rfl⟩:=hk
    have hb:a.eval (.tmp 15)=.bool true:=by
      obtain ⟨A,ρ,own,st,sl,sz,df⟩:=hs
      have:=repV_bool (show RepV A ρ W (.dat .bool _ []) _ from sl 15)
      rw [this,decide_eq_true (by omega)]
    have hs:Is N B w0 (getS (alS w l i)) (getO (alH w a1 a2 a3)) a W:=is_kill (k:=[15]) hs
    refine wp_seq (wp_cond_true hb (wp_skip ?_))
    generalize hx:(List.getD l (Int.toNat (i:Int)) (dft tWrite))=x
    have hd:l.drop i=x :: l.drop (i+1):=by rw [← hx]; exact drop_cons _ hi
    rw [hd] at hall
    have tail:∀ (b1 b2:List Int) (b3:List (den tPlace)),allW (w.1,b1,b2,b3,()) (l.drop (i+1))=some wE→∀ a W,Is N B w0 (getS (alS w l i)) (getO (alH w b1 b2 b3)) a W→Code.wp Tryd.prog R8 (Exit.then (Code.rounds Tryd.prog (.seq R3 (.seq (.cond (.tmp 15) .skip (.exit 0)) (.seq (.block 1 (.seq R4 (.seq R5 (.seq R6 (.cond (.tmp 25) (.region rid ops false) .skip))))) R8))) Q (m+1)) Q) a W:=fun b1 b2 b3 hall a W hs=>by
      refine code_ok (R:=Slots×Heap) (lp:=0) hcf hm (.reg false lnR8) R8 hc.c8 (Kn:=putSH) (K:=noK) (fun s h a W hk hs => ?_) (fun _ _ s h a w' hk _=>by cases hk) hs (alR8_run ..)
      simp only [Option.some.injEq,Prod.mk.injEq] at hk
      obtain ⟨rfl,rfl⟩:=hk
      rw [wrap_succ (by omega)] at hs
      exact ih (i+1) b1 b2 b3 (by omega) hall a W (is_kill (k:=[30]) hs)
    have hr4:=alR4_run (cf:=cf) w l i a1 a2 a3
    rw [if_pos ⟨by omega,by omega⟩,hx] at hr4
    show Code.wp Tryd.prog _ _ a W
    refine wp_seq (wp_block (wp_seq (code_ok (R:=Slots×Heap) (lp:=0) hcf hm (.reg false lnR4) R4 hc.c4 (Kn:=putSH) (K:=noK) (fun s h a W hk hs => ?_) (fun _ _ s h a w' hk _=>by cases hk) hs hr4)))
    simp only [Option.some.injEq,Prod.mk.injEq] at hk
    obtain ⟨rfl,rfl⟩:=hk
    have hs:Is N B w0 (getS (alS w l i ++ [(7,.ptr 6 [])])) (getO (alH w a1 a2 a3 ++ [.box tWrite x []])) a W:=is_kill (k:=[16,17]) hs
    have hr5:=alR5_run (cf:=cf) w l i x a1 a2 a3
    have mid:∀ (v:SV) (b:Bool),run cf 0 (.reg false lnR5) putSH noK (alS w l i ++ [(7,.ptr 6 [])]) (alH w a1 a2 a3 ++ [.box tWrite x []])=some (alS5 w l i x v b,alH w a1 a2 a3 ++ [.box tWrite x []]) →
        (b=true→∀ a W,Is N B w0 (getS (alS6 w l i v true)) (getO (alH w a1 a2 a3 ++ [.box tWrite x []])) a W→Code.wp Tryd.prog (.region rid ops false) (Exit.inBlock 1 (Exit.then (Code.wp Tryd.prog R8 (Exit.then (Code.rounds Tryd.prog (.seq R3 (.seq (.cond (.tmp 15) .skip (.exit 0)) (.seq (.block 1 (.seq R4 (.seq R5 (.seq R6 (.cond (.tmp 25) (.region rid ops false) .skip))))) R8))) Q (m+1)) Q)) (Exit.then (Code.rounds Tryd.prog (.seq R3 (.seq (.cond (.tmp 15) .skip (.exit 0)) (.seq (.block 1 (.seq R4 (.seq R5 (.seq R6 (.cond (.tmp 25) (.region rid ops false) .skip))))) R8))) Q (m+1)) Q))) a W) →
        (b=false→allW (w.1,a1,a2,a3,()) (l.drop (i+1))=some wE) →
        Code.wp Tryd.prog (.seq R5 (.seq R6 (.cond (.tmp 25) (.region rid ops false) .skip))) (Exit.inBlock 1 (Exit.then (Code.wp Tryd.prog R8 (Exit.then (Code.rounds Tryd.prog (.seq R3 (.seq (.cond (.tmp 15) .skip (.exit 0)) (.seq (.block 1 (.seq R4 (.seq R5 (.seq R6 (.cond (.tmp 25) (.region rid ops false) .skip))))) R8))) Q (m+1)) Q)) (Exit.then (Code.rounds Tryd.prog (.seq R3 (.seq (.cond (.tmp 15) .skip (.exit 0)) (.seq (.block 1 (.seq R4 (.seq R5 (.seq R6 (.cond (.tmp 25) (.region rid ops false) .skip))))) R8))) Q (m+1)) Q))) a W:=fun v b hr h1 h2=>by
      refine wp_seq (code_ok (R:=Slots×Heap) (lp:=0) hcf hm (.reg false lnR5) R5 hc.c5 (Kn:=putSH) (K:=noK) (fun s h a W hk hs => ?_) (fun _ _ s h a w' hk _=>by cases hk) hs hr)
      simp only [Option.some.injEq,Prod.mk.injEq] at hk
      obtain ⟨rfl,rfl⟩:=hk
      have hs:Is N B w0 (getS (alS6 w l i v b)) (getO (alH w a1 a2 a3 ++ [.box tWrite x []])) a W:=is_kill (k:=[19,20,21,22,18,23,24]) hs
      refine wp_seq (code_ok (R:=Slots×Heap) (lp:=0) hcf hm (.reg false lnR6) R6 hc.c6 (Kn:=putSH) (K:=noK) (fun s h a W hk hs => ?_) (fun _ _ s h a w' hk _=>by cases hk) hs (alR6_run ..))
      simp only [Option.some.injEq,Prod.mk.injEq] at hk
      obtain ⟨rfl,rfl⟩:=hk
      have hb:a.eval (.tmp 25)=.bool b:=by
        obtain ⟨A,ρ,own,st,sl,sz,df⟩:=hs
        exact repV_bool (show RepV A ρ W (.dat .bool _ []) _ from sl 25)
      have hs:Is N B w0 (getS (alS6 w l i v b)) (getO (alH w a1 a2 a3 ++ [.box tWrite x []])) a W:=is_kill (k:=[25]) hs
      cases b with
      | true=>exact wp_cond_true hb (h1 rfl a W hs)
      | false=>exact wp_cond_false hb (wp_skip (tail a1 a2 a3 (h2 rfl) a W (al_trunc (k:=[7,8,9]) hs rfl)))
    have hall':(match wrW (w.1,a1,a2,a3,()) x with | some w'=>allW w' (l.drop (i+1)) | none=>none)=some wE:=hall
    unfold wrW at hall'
    show Code.wp Tryd.prog _ _ a W
    by_cases q0:x.1=(0:Int)
    · rw [decide_eq_true q0] at hr5 hall'
      simp only [cond_true] at hr5 hall'
      split at hall'
      case h_2=>cases hall'
      rename_i w' hw'
      split at hw'
      case h_2=>cases hw'
      rename_i b1 hb1
      simp only [Option.some.injEq] at hw'
      subst hw'
      obtain ⟨s1,s2,rfl⟩:=setI_spec hb1
      refine mid _ _ hr5 (fun _ a W hs=>al_do hcf hm hc (h':=appE (getO (alH w a1 a2 a3 ++ [.box tWrite x []])) [(3,.arr (.int .i64) (List.set a1 (Int.toNat x.2.1) x.2.2.1))]) (b1:=List.set a1 (Int.toNat x.2.1) x.2.2.1) (b2:=a2) (b3:=a3) (by rw [← getO_applyE]; rfl) hs (fun A ρ own a W st r1 r2 r3 => ?_) (fun a W hs=>tail _ _ _ hall' a W hs)) (fun h=>by cases h)
      exact eff_op (T:=3) (e:=.int .i64) (val:=fun x=>x.2.2.1) (j:=1) (g:=3) (c:=8) (by kernel_rfl) eff_room (fun _ _ _ _=>by simp only [RepC]) (fun cs xw ov h1 h2=>(worldCell h1).1 h2) hc.op3 hc.cc hc.ca st (k2:=2) (xw:=(w.1,[],[],[],())) (ov:=alOv) rfl (by simp [alOv]) (l:=a1) rfl s1 s2 r1 r2 r3
    · rw [decide_eq_false q0] at hr5 hall'
      simp only [cond_false] at hr5 hall'
      by_cases q1:x.1=(1:Int)
      · rw [decide_eq_true q1] at hr5 hall'
        simp only [cond_true] at hr5 hall'
        split at hall'
        case h_2=>cases hall'
        rename_i w' hw'
        split at hw'
        case h_2=>cases hw'
        rename_i b2 hb2
        simp only [Option.some.injEq] at hw'
        subst hw'
        obtain ⟨s1,s2,rfl⟩:=setI_spec hb2
        refine mid _ _ hr5 (fun _ a W hs=>al_do hcf hm hc (h':=appE (getO (alH w a1 a2 a3 ++ [.box tWrite x []])) [(4,.arr (.int .i64) (List.set a2 (Int.toNat x.2.1) x.2.2.1))]) (b1:=a1) (b2:=List.set a2 (Int.toNat x.2.1) x.2.2.1) (b3:=a3) (by rw [← getO_applyE]; rfl) hs (fun A ρ own a W st r1 r2 r3 => ?_) (fun a W hs=>tail _ _ _ hall' a W hs)) (fun h=>by cases h)
        exact eff_op (T:=3) (e:=.int .i64) (val:=fun x=>x.2.2.1) (j:=2) (g:=4) (c:=9) (by kernel_rfl) eff_coins (fun _ _ _ _=>by simp only [RepC]) (fun cs xw ov h1 h2=>(worldCell h1).2.1 h2) hc.op3 hc.cc hc.ca st (k2:=2) (xw:=(w.1,[],[],[],())) (ov:=alOv) rfl (by simp [alOv]) (l:=a2) rfl s1 s2 r1 r2 r3
      · rw [decide_eq_false q1] at hr5 hall'
        simp only [cond_false] at hr5 hall'
        by_cases q2:x.1=(2:Int)
        · rw [decide_eq_true q2] at hr5 hall'
          simp only [cond_true] at hr5 hall'
          split at hall'
          case h_2=>cases hall'
          rename_i w' hw'
          split at hw'
          case h_2=>cases hw'
          rename_i b3 hb3
          simp only [Option.some.injEq] at hw'
          subst hw'
          obtain ⟨s1,s2,rfl⟩:=setI_spec hb3
          refine mid _ _ hr5 (fun _ a W hs=>al_do hcf hm hc (h':=appE (getO (alH w a1 a2 a3 ++ [.box tWrite x []])) [(5,.arr tPlace (List.set a3 (Int.toNat x.2.1) x.2.2.2.1))]) (b1:=a1) (b2:=a2) (b3:=List.set a3 (Int.toNat x.2.1) x.2.2.2.1) (by rw [← getO_applyE]; rfl) hs (fun A ρ own a W st r1 r2 r3 => ?_) (fun a W hs=>tail _ _ _ hall' a W hs)) (fun h=>by cases h)
          exact eff_op (T:=37) (e:=tPlace) (val:=fun x=>x.2.2.2.1) (j:=3) (g:=5) (c:=10) (by kernel_rfl) eff_place (fun _ _ _ _=>by simp [RepC,RepF,tsize]) (fun cs xw ov h1 h2=>(worldCell h1).2.2 h2) hc.op3 hc.cc hc.ca st (k2:=2) (xw:=(w.1,[],[],[],())) (ov:=alOv) rfl (by simp [alOv]) (l:=a3) rfl s1 s2 r1 r2 r3
        · rw [decide_eq_false q2] at hr5 hall'
          simp only [cond_false] at hr5 hall'
          exact mid _ _ hr5 (fun h=>by cases h) (fun _=>hall')
end
theorem all_calls {w:den tWorld} {l:List (den tWrite)} {wE:den tWorld} (h1:List.length (w.2.1:List Int)≤1048576) (h2:List.length (w.2.2.1:List Int)≤1048576) (h3:List.length (w.2.2.2.1:List (den tPlace))≤1048576) (h4:List.length l≤1048576) (hall:allW w l=some wE)
    {W:World} {A:Nat→Prop} {vs:List Value} (hA:∀ b,A b→b<W.heap.size) (hgl:GlobOk A W) (hr:RepVs A (fun _=>none) W [.dat tWorld w [],.dat (.sl tWrite) l []] vs) :
    Go.Calls Tryd.prog 15 vs.toArray W (fun en w'=>∃ vals,en=.returned (bundleV vals)∧ResOk A W w' [.dat tWorld wE []] [(0,[1]),(0,[2]),(0,[3])] vals):=by
  have hcf:CallOk Tryd.prog (gcall prog sp0 2):=gcall_sound mixed sp0_ok prog_ok 2
  refine calls_of_wp Tryd.func15 rfl ?_
  have h0:=entry_ok (n:=2) (k:=Tryd.f15.ntmps) hA hgl hr rfl
  let fin:dShL [Sh.d tWorld]×Fresh:=((wE,()),[(0,[1]),(0,[2]),(0,[3])])
  have hret:=retK_ok (P:=Tryd.prog) (N:=2+(Tryd.f15.ntmps - 2)) (w:=W) (A:=A) (fn:=Tryd.f15) (g:=alFn) (res:=[.d tWorld]) (r:=fin) (by kernel_rfl)
  refine wp_seq (code_ok (R:=Slots×Heap) (r:=([(0,.dat tWorld w []),(1,.dat (.sl tWrite) l []),(2,.ptr 0 []),(4,.ptr 1 [])],[.box tWorld w [],.box tWorld (dft tWorld) []])) (lp:=0) hcf mixed (.reg false lnR0) _ (by kernel_rfl) (Kn:=putSH) (K:=noK) (fun s h a W1 hk hs => ?_) (fun _ _ s h a w' hk _=>by cases hk) h0 rfl)
  simp only [Option.some.injEq,Prod.mk.injEq] at hk
  obtain ⟨rfl,rfl⟩:=hk
  have hr1:=alR1_run (cf:=gcall prog sp0 2) w l
  rw [copy_run h1 h2 h3] at hr1
  refine wp_seq (code_ok (R:=Slots×Heap) (lp:=0) hcf mixed (.reg false lnR1) _ (by kernel_rfl) (Kn:=putSH) (K:=noK) (fun s h a W2 hk hs => ?_) (fun _ _ s h a w' hk _=>by cases hk) hs hr1)
  simp only [Option.some.injEq,Prod.mk.injEq] at hk
  obtain ⟨rfl,rfl⟩:=hk
  have hs:Is (2+(Tryd.f15.ntmps - 2)) W.heap.size ⟨W,A⟩ (getS [(0,.dat tWorld w []),(1,.dat (.sl tWrite) l []),(2,.ptr 0 []),(4,.ptr 1 []),(5,.ptr 2 [])]) (getO (alH w w.2.1 w.2.2.1 w.2.2.2.1)) a W2:=is_kill (k:=[10,11]) hs
  refine wp_seq (wp_seq (code_ok (R:=Slots×Heap) (lp:=0) hcf mixed (.reg false lnR2) _ (by kernel_rfl) (Kn:=putSH) (K:=noK) (fun s h a W3 hk hs => ?_) (fun _ _ s h a w' hk _=>by cases hk) hs (alR2_run ..)))
  simp only [Option.some.injEq,Prod.mk.injEq] at hk
  obtain ⟨rfl,rfl⟩:=hk
  refine wp_block (wp_loop_rounds (l.length+1) ?_)
  refine al_loop hcf mixed (N:=2+(Tryd.f15.ntmps - 2)) (o0:=_) (o1:=_) (o2:=_) (o3:=_) (cl:=_) ⟨by kernel_rfl,by kernel_rfl,by kernel_rfl,by kernel_rfl,by kernel_rfl,rfl,by kernel_rfl,by kernel_rfl,by kernel_rfl,rfl,rfl,by decide,rfl,rfl,rfl⟩ h4 (wE:=wE) (fun a W4 a1 a2 a3 he hs => ?_) l.length 0 w.2.1 w.2.2.1 w.2.2.2.1 (by omega) hall a W3 hs
  subst he
  refine code_ok (R:=dShL [Sh.d tWorld]×Fresh) (r:=fin) (lp:=0) hcf mixed cdR9 _ (by kernel_rfl) (Kn:=fun _ _ _=>none) (K:=retK alFn [.d tWorld]) (fun s h a w' hk _=>by cases hk) (fun ex hex => ?_) hs (alR9_run ..)
  cases ex with
  | norm=>exact absurd rfl hex
  | exit i=>exact retK_exits i
  | ret=>exact hret .ret (by simp)
theorem allSp_ok {args:List SV} {res:List Sh} {r:dShL res×Fresh} (h:allSp args res=some r):callable Tryd.prog 15=true ∧
    ∀ (w:World) (A:Nat→Prop) (vs:List Value),(∀ b,A b→b<w.heap.size)→GlobOk A w→RepVs A (fun _=>none) w args vs →
      Go.Calls Tryd.prog 15 vs.toArray w (fun e w'=>∃ vals,e=.returned (bundleV vals)∧ResOk A w w' (injL res r.1) r.2 vals):=by
  unfold allSp at h
  split at h
  case h_2=>cases h
  rename_i τ x σ y
  split at h
  case h_2=>cases h
  rename_i w l hw hl
  have:=castT_spec hw
  cases this
  have:=castT_spec hl
  cases this
  split at h
  case isFalse=>cases h
  rename_i hb
  split at h
  case h_2=>cases h
  rename_i wE hE
  split at h
  case h_2=>cases h
  rename_i y hy
  simp only [Option.some.injEq] at h
  subst h
  have hinj:=prjL_inj res _ hy
  refine ⟨by kernel_rfl,fun W A vs hA hgl hr => ?_⟩
  rw [← hinj]
  exact all_calls hb.1 hb.2.1 hb.2.2.1 hb.2.2.2 hE hA hgl hr
end Go.Proofs.YtjobjooccgledaaDoor.Ghost
