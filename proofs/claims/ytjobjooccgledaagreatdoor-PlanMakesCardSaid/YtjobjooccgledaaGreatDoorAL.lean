/- plan.All: changes are done, one by one, to a copy. Conditions: its code, and that of the three kinds of changes, is the program's. -/
import Derived.Test.YtjobjooccgledaaGreatDoorGSa
import Derived.Test.YtjobjooccgledaaGreatDoorGK
import Derived.StillTailTactics
import Derived.Sort.Grow
import Derived.Test.YtjobjooccgledaaGreatDoorS
namespace Go.Proofs.YtjobjooccgledaaGreatDoor.Ghost
open Go Go.RowKit
section
variable {P:Program} {ops:Array Oper} {w w':World} {o:Oper} {a:Act}
theorem Ho {Q:Act→Prop} {rest:List Oper} {v:Value} (hg:o.guard=none) (he:(execOp a.eval o).run P w=.ok (.value v) w) (hK:wpStill P ops w Q rest (a.put o.dst v)):wpStill P ops w Q (o :: rest) a :=
  wpStill_step fun K h=>by
    simp only [Region.wanted,hg,if_true,Oper.still,he,Oper.stillUpon_value]
    exact h _ hK
theorem O1 {Q:Exit→Act→World→Prop} (hg:o.guard=none) (he:(execOp a.eval o).run P w=.ok .skip w') (hK:Q .normal (a.put o.dst undef) w'):wpList P ops Q [o] a w:=by
  simp only [wpList,Region.wanted,hg,if_true]
  refine .inl ?_
  unfold Oper.wp
  rw [he]
  exact hK
theorem Od {T:TypeId} {x y:Operand} {p v:Value} (ho:o.op=.store T x y) (hx:a.eval x=p) (hy:a.eval y=v) (hs:(Instr.storeAt T p v).run P w=.ok () w'):(execOp a.eval o).run P w=.ok .skip w':=by
  simp only [execOp,ho,hx,hy,Sem.run_bind,hs,Result.andThen_ok,Sem.run_pure]
theorem Lw {T:TypeId} {x y:Operand} {p v r:Value} (ho:o.op=.indexAddr T x y) (hx:a.eval x=p) (hy:a.eval y=v) (hs:(Instr.indexAt T p v).run P w=.ok r w):(execOp a.eval o).run P w=.ok (.value r) w:=by
  simp only [execOp,ho,hx,hy,Sem.run_bind,hs,Result.andThen_ok,Sem.run_pure]
theorem F6 {T:TypeId} {x:Operand} {p r:Value} (ho:o.op=.load T x) (hx:a.eval x=p) (hs:(Instr.loadAt T p).run P w=.ok r w):(execOp a.eval o).run P w=.ok (.value r) w:=by
  simp only [execOp,ho,hx,Sem.run_bind,hs,Result.andThen_ok,Sem.run_pure]
theorem Lp {b o:Nat} (h:w'.heap[b]?=w.heap[b]?):w'.cell? ⟨b,o,none⟩=w.cell? ⟨b,o,none⟩:=by
  unfold World.cell?; simp only [h]
theorem AHf {b o:Nat} {v:Value} (h:w.cell? ⟨b,o,none⟩=some v):w.rangeAt b o [v]:=fun j u hv=>by
  cases j with
  | zero=>simp at hv; subst hv; exact h
  | succ j=>simp at hv
end
def wrV (x:den Zi):Value:=.agg #[.int .i64 x.1,.int .i64 x.2.1,.int .i64 x.2.2.1,.int .i64 x.2.2.2.1.1,.int .i64 x.2.2.2.1.2.1]
def D1 (P:Program) (f c z:Nat) (vals:den Zi→List Value):Prop:=Y2 P f=true ∧
  ∀ (b ba len cap:Nat) (x:den Zi) (W:World),b<W.heap.size→ba<W.heap.size→W.cell? ⟨b,c,none⟩=some (.slice (some ⟨ba,0,none⟩) len cap)→0≤x.2.1→x.2.1<(len:Int)→W.there ba (x.2.1.toNat * z) z →
    Go.Calls P f #[.agg #[.pointer (some ⟨b,0,none⟩)],wrV x] W fun e w'=>e=.returned (.tuple #[])∧∃ w1,Below W.heap.size W w1∧w'=w1.setCells ba (x.2.1.toNat * z) (vals x)
set_option maxRecDepth 100000 in
set_option maxHeartbeats 1000000 in
theorem AMv:D1 Tryz.prog 131 8 1 (fun x=>[.int .i64 x.2.2.1]):=⟨by kernel_rfl,fun b ba len cap x W hb hba hc h0 h1 ht=>by
  show Go.Calls _ _ #[_,.agg #[.int .i64 x.1,.int .i64 x.2.1,.int .i64 x.2.2.1,.int .i64 x.2.2.2.1.1,.int .i64 x.2.2.2.1.2.1]] _ _
  go_enter Tryz.func131,Tryz.ntmps131
  go_wp2
  refine wp_region_still_tail 10 mixed (by kernel_rfl) ?_
  simp only [List.take_succ_cons,List.take_zero,List.drop_succ_cons,List.drop_zero]
  have hb1:∀ b o,b<W.heap.size→b<(W.alloc o).heap.size:=fun b o hb=>Nat.lt_of_lt_of_le hb (by show _≤(W.heap.push _).size; simp)
  obtain ⟨W1,hW1⟩:∃ W1,W1=(((W.alloc (Obj.cells #[Value.pointer (some { block:=b,off:=0 })] 77)).alloc (Obj.cells #[Value.int IntKind.i64 x.1,Value.int IntKind.i64 x.2.1,Value.int IntKind.i64 x.2.2.1,Value.int IntKind.i64 x.2.2.2.1.1,Value.int IntKind.i64 x.2.2.2.1.2.1] 50)).drew):=⟨_,rfl⟩
  have hbel:Below W.heap.size W W1:=by subst hW1; exact (((Below.refl _ W).alloc (Nat.le_refl _) _).alloc (Nat.le_of_lt (by show _<(W.heap.push _).size; simp)) _).drew
  have hc':W1.cell? ⟨b,8,none⟩=some (.slice (some ⟨ba,0,none⟩) len cap):=(Lp (hbel.block b hb)).trans hc
  have ht':W1.there ba (0+x.2.1.toNat * 1) 1:=by rw [Nat.zero_add]; exact K4 (hbel.block ba hba) ht
  have hl:=Ro (P:=Tryz.prog) (T:=23) (d:=.slice 3) (g:=false) rfl rfl (by kernel_rfl) (AHf hc') (fun _=>⟨_,rfl⟩)
  have hx:=Kz (P:=Tryz.prog) (T:=23) (e:=3) (sz:=1) (b:=ba) (k:=0) (len:=len) (cap:=cap) (kd:=.i64) (n:=x.2.1) (w:=W1) rfl (by kernel_rfl) h0 h1
  have hs:=Ul (P:=Tryz.prog) (T:=3) (v:=.int .i64 x.2.2.1) (by kernel_rfl) ht' (fun c hc=>by simp [Value.cells] at hc; rcases hc with rfl | rfl <;> rfl)
  change wpStill _ _ (World.drew _) (fun a'=>wpList _ _ _ _ a' (World.drew _)) _ _
  still_step
  still_step
  still_step
  still_step
  subst hW1
  refine Ho rfl (F6 rfl rfl hl) ?_
  still_step
  still_step
  still_step
  still_step
  refine Ho rfl (Lw rfl rfl rfl hx) ?_
  refine wpStill_nil ?_
  refine O1 rfl (Od rfl rfl rfl hs) ?_
  exact ⟨rfl,_,G6 (vs:=[]) rfl (fun j hj=>absurd hj (by show ¬ j<0; omega)),rfl,_,hbel,by rw [Nat.zero_add]; rfl⟩⟩
set_option maxRecDepth 100000 in
set_option maxHeartbeats 1000000 in
theorem AJj:D1 Tryz.prog 129 9 1 (fun x=>[.int .i64 x.2.2.1]):=⟨by kernel_rfl,fun b ba len cap x W hb hba hc h0 h1 ht=>by
  show Go.Calls _ _ #[_,.agg #[.int .i64 x.1,.int .i64 x.2.1,.int .i64 x.2.2.1,.int .i64 x.2.2.2.1.1,.int .i64 x.2.2.2.1.2.1]] _ _
  go_enter Tryz.func129,Tryz.ntmps129
  go_wp2
  refine wp_region_still_tail 10 mixed (by kernel_rfl) ?_
  simp only [List.take_succ_cons,List.take_zero,List.drop_succ_cons,List.drop_zero]
  have hb1:∀ b o,b<W.heap.size→b<(W.alloc o).heap.size:=fun b o hb=>Nat.lt_of_lt_of_le hb (by show _≤(W.heap.push _).size; simp)
  obtain ⟨W1,hW1⟩:∃ W1,W1=(((W.alloc (Obj.cells #[Value.pointer (some { block:=b,off:=0 })] 77)).alloc (Obj.cells #[Value.int IntKind.i64 x.1,Value.int IntKind.i64 x.2.1,Value.int IntKind.i64 x.2.2.1,Value.int IntKind.i64 x.2.2.2.1.1,Value.int IntKind.i64 x.2.2.2.1.2.1] 50)).drew):=⟨_,rfl⟩
  have hbel:Below W.heap.size W W1:=by subst hW1; exact (((Below.refl _ W).alloc (Nat.le_refl _) _).alloc (Nat.le_of_lt (by show _<(W.heap.push _).size; simp)) _).drew
  have hc':W1.cell? ⟨b,9,none⟩=some (.slice (some ⟨ba,0,none⟩) len cap):=(Lp (hbel.block b hb)).trans hc
  have ht':W1.there ba (0+x.2.1.toNat * 1) 1:=by rw [Nat.zero_add]; exact K4 (hbel.block ba hba) ht
  have hl:=Ro (P:=Tryz.prog) (T:=23) (d:=.slice 3) (g:=false) rfl rfl (by kernel_rfl) (AHf hc') (fun _=>⟨_,rfl⟩)
  have hx:=Kz (P:=Tryz.prog) (T:=23) (e:=3) (sz:=1) (b:=ba) (k:=0) (len:=len) (cap:=cap) (kd:=.i64) (n:=x.2.1) (w:=W1) rfl (by kernel_rfl) h0 h1
  have hs:=Ul (P:=Tryz.prog) (T:=3) (v:=.int .i64 x.2.2.1) (by kernel_rfl) ht' (fun c hc=>by simp [Value.cells] at hc; rcases hc with rfl | rfl <;> rfl)
  change wpStill _ _ (World.drew _) (fun a'=>wpList _ _ _ _ a' (World.drew _)) _ _
  still_step
  still_step
  still_step
  still_step
  subst hW1
  refine Ho rfl (F6 rfl rfl hl) ?_
  still_step
  still_step
  still_step
  still_step
  refine Ho rfl (Lw rfl rfl rfl hx) ?_
  refine wpStill_nil ?_
  refine O1 rfl (Od rfl rfl rfl hs) ?_
  exact ⟨rfl,_,G6 (vs:=[]) rfl (fun j hj=>absurd hj (by show ¬ j<0; omega)),rfl,_,hbel,by rw [Nat.zero_add]; rfl⟩⟩
set_option maxRecDepth 100000 in
set_option maxHeartbeats 1000000 in
theorem AJk:D1 Tryz.prog 132 10 2 (fun x=>[.int .i64 x.2.2.2.1.1,.int .i64 x.2.2.2.1.2.1]):=⟨by kernel_rfl,fun b ba len cap x W hb hba hc h0 h1 ht=>by
  show Go.Calls _ _ #[_,.agg #[.int .i64 x.1,.int .i64 x.2.1,.int .i64 x.2.2.1,.int .i64 x.2.2.2.1.1,.int .i64 x.2.2.2.1.2.1]] _ _
  go_enter Tryz.func132,Tryz.ntmps132
  go_wp2
  refine wp_region_still_tail 10 mixed (by kernel_rfl) ?_
  simp only [List.take_succ_cons,List.take_zero,List.drop_succ_cons,List.drop_zero]
  have hb1:∀ b o,b<W.heap.size→b<(W.alloc o).heap.size:=fun b o hb=>Nat.lt_of_lt_of_le hb (by show _≤(W.heap.push _).size; simp)
  obtain ⟨W1,hW1⟩:∃ W1,W1=(((W.alloc (Obj.cells #[Value.pointer (some { block:=b,off:=0 })] 77)).alloc (Obj.cells #[Value.int IntKind.i64 x.1,Value.int IntKind.i64 x.2.1,Value.int IntKind.i64 x.2.2.1,Value.int IntKind.i64 x.2.2.2.1.1,Value.int IntKind.i64 x.2.2.2.1.2.1] 50)).drew):=⟨_,rfl⟩
  have hbel:Below W.heap.size W W1:=by subst hW1; exact (((Below.refl _ W).alloc (Nat.le_refl _) _).alloc (Nat.le_of_lt (by show _<(W.heap.push _).size; simp)) _).drew
  have hc':W1.cell? ⟨b,10,none⟩=some (.slice (some ⟨ba,0,none⟩) len cap):=(Lp (hbel.block b hb)).trans hc
  have ht':W1.there ba (0+x.2.1.toNat * 2) 2:=by rw [Nat.zero_add]; exact K4 (hbel.block ba hba) ht
  have hl:=Ro (P:=Tryz.prog) (T:=27) (d:=.slice 48) (g:=false) rfl rfl (by kernel_rfl) (AHf hc') (fun _=>⟨_,rfl⟩)
  have hx:=Kz (P:=Tryz.prog) (T:=27) (e:=48) (sz:=2) (b:=ba) (k:=0) (len:=len) (cap:=cap) (kd:=.i64) (n:=x.2.1) (w:=W1) rfl (by kernel_rfl) h0 h1
  have hs:=Ul (P:=Tryz.prog) (T:=48) (v:=.agg #[.int .i64 x.2.2.2.1.1,.int .i64 x.2.2.2.1.2.1]) (by kernel_rfl) ht' (fun c hc=>by simp [Value.cells] at hc; rcases hc with rfl | rfl <;> rfl)
  change wpStill _ _ (World.drew _) (fun a'=>wpList _ _ _ _ a' (World.drew _)) _ _
  still_step
  still_step
  still_step
  still_step
  subst hW1
  refine Ho rfl (F6 rfl rfl hl) ?_
  still_step
  still_step
  still_step
  still_step
  refine Ho rfl (Lw rfl rfl rfl hx) ?_
  refine wpStill_nil ?_
  refine O1 rfl (Od rfl rfl rfl hs) ?_
  exact ⟨rfl,_,G6 (vs:=[]) rfl (fun j hj=>absurd hj (by show ¬ j<0; omega)),rfl,_,hbel,by rw [Nat.zero_add]; rfl⟩⟩
section
variable {P:Program} {o:Oper} {a:Act} {w w':World} {B:Nat} {w0:Y6} {A:Nat→Prop} {ρ:Xf} {own:Nat→Option Nat} {h:Nat→Obj}
theorem St.more (st:St B w0 A ρ own w h) (hb:Below w.heap.size w w'):St B w0 A ρ own w' h∧X9 A ρ w A ρ w':=by
  have hl:X9 A ρ w A ρ w':=⟨fun _ h=>h,fun _ _ h=>h,fun b hA=>hb.block b (st.old b hA)⟩
  exact ⟨st.turn (fun _=>False) hl (fun b g h1 _=>hb.block b (st.oldO b g h1)) (fun _ _ h1 _=>h1) (fun _ _ h1=>h1) (fun _ _=>rfl) (fun _ h=>h.elim) (fun _ h=>h.elim) st.apart
    (fun b h=>Nat.lt_of_lt_of_le (st.old b h) hb.size) (fun b g h=>Nat.lt_of_lt_of_le (st.oldO b g h) hb.size) st.base (hb.mono (Nat.le_trans st.hB st.below.size)) (fun _ h=>.inl h),hl⟩
theorem St.arrSet {T:TypeId} {e:Ty} (hT:AC1 P (.d e) T=true) (st:St B w0 A ρ own w h) {g i:Nat} {l:List (den e)} (hg:h g=.arr e l) (hi:i<l.length) {y:den e} {ds:List Value} (hy:Zm A ρ w e y [] ds) {sp:K1} (hρ:ρ g=some sp) :
    ∃ A' ρ' own',St B w0 A' ρ' own' (w.setCells sp.b (i * Zj e) ds) (X7 h [(g,.arr e (l.set i y))])∧X9 A ρ w A' ρ' (w.setCells sp.b (i * Zj e) ds):=by
  have ob:=st.objs g
  rw [hg] at ob
  obtain ⟨sp',n1,n2,n3,n4,n5,n6,n7,n8,n9⟩:=ob
  rw [hρ] at n1
  cases n1
  obtain ⟨cs,m1,m2,m3⟩:=n9 (by omega)
  let o : Oper := { dst := none, op := .store T (.tmp 0) (.tmp 1), type := 0, pos := "", after := #[], guard := none }
  let a:Act:={ tmps := #[.pointer (some ⟨sp.b,i * Zj e,none⟩),mkV e ds],defers:=[] }
  have h0:Jd e []=0:=by cases e <;> rfl
  have sl:Xh A ρ w (fun k=>match k with | 0=>.elp g i [] | 1=>.dat e y [] | _=>.junk) a:=fun k=>by
    match k with
    | 0=>simp only [Zl]; exact ⟨sp,hρ,n2,by omega,by rw [n6]; cases e <;> trivial,by rw [n3,n5,h0]; rfl⟩
    | 1=>simp only [Zl]; exact ⟨ds,hy,rfl⟩
    | k+2=>simp only [Zl]
  have hsp:setP e [] (List.getD l i (dft e)) ⟨e,y⟩=some y:=by cases e <;> exact J0 y
  obtain ⟨v,e',hk,hgood⟩:=Bm (P:=P) (o:=o) st sl (t:=.d e) (x:=.t 0) (y:=.t 1) (by unfold Ij; simp only [o,hT,Xp,Nat.beq_refl,Bool.and_self]) (by simp only [evO,okL,M1])
    (K:=fun v e=>some (v,e)) (r:=(.junk,[(g,.arr e (l.set i y))])) (by simp only [evO,R9,hg,hsp])
  simp only [Option.some.injEq,Prod.mk.injEq] at hk
  obtain ⟨rfl,rfl⟩:=hk
  have:=hgood (fun a' w'=>∃ A' ρ' own',St B w0 A' ρ' own' w' (X7 h [(g,.arr e (l.set i y))])∧X9 A ρ w A' ρ' w') (fun _ _ _=>False) (fun v' w' A' ρ' own' st' hl _=>⟨A',ρ',own',st',hl⟩)
  have hc:(mkV e ds).cells.toList=ds:=Ji hy
  have hz:(mkV e ds).cells.size=Zj e:=by rw [← Array.length_toList,hc]; exact Zm.length e hy
  have hle:(i+1) * Zj e≤sp.cap * Zj e:=Nat.mul_le_mul_right _ (by omega)
  rw [Nat.add_mul,Nat.one_mul] at hle
  rw [n3] at m1
  have hrun:=Ul (P:=P) (w:=w) (T:=T) (v:=mkV e ds) (b:=sp.b) (k:=i * Zj e) (by rw [hz]; exact (Ea hT).2) (fun j hj=>by have:=m2.2.2 (i * Zj e+j) (by rw [hz] at hj; omega); rwa [Nat.zero_add] at this)
    (AIl (t:=.d e) (u:=.dat e y []) (A:=A) (ρ:=ρ) (w:=w) (by simp only [okL,M1]) (by simp only [Zl]; exact ⟨ds,hy,rfl⟩))
  rw [hc] at hrun
  unfold Oper.wp at this
  rw [Od (o:=o) (a:=a) rfl rfl rfl hrun] at this
  exact this
theorem Ez {xw:den Za} {ov:Ov} {cs:List Value} (hc:Zm A ρ w Za xw ov cs) {g:Nat} :
    (([1],some g)∈ov→∃ v,cs[8]?=some v∧Uc ρ g v)∧(([2],some g)∈ov→∃ v,cs[9]?=some v∧Uc ρ g v)∧(([3],some g)∈ov→∃ v,cs[10]?=some v∧Uc ρ g v):=by
  have at0:∀ (l:List Value) (v:Value) (k:Nat),(l.drop k).take 1=[v]→l[k]?=some v:=fun l v k h=>by
    have:=congrArg (·[0]?) h
    simpa [List.getElem?_take,List.getElem?_drop] using this
  simp only [Zm,Xs,List.drop_drop] at hc
  obtain ⟨_,⟨_,_,_,c1,d1,_⟩,⟨_,_,_,c2,d2,_⟩,⟨_,_,_,c3,d3,_⟩,_⟩:=hc
  refine ⟨fun h=>⟨_,at0 _ _ _ c1,d1 g ?_⟩,fun h=>⟨_,at0 _ _ _ c2,d2 g ?_⟩,fun h=>⟨_,at0 _ _ _ c3,d3 g ?_⟩⟩ <;> (rw [Qa]; exact h)
theorem AKp {i:Int} {n:Nat} (h0:0≤i) (h1:i<(n:Int)):i.toNat<n:=by omega
theorem AGt {f c g j:Nat} {T:TypeId} {e:Ty} {val:den Zi→den e} {vals:den Zi→List Value} (hT:AC1 P (.d e) T=true) (hf:D1 P f c (Zj e) vals) (hval:∀ A ρ w x,Zm A ρ w e (val x) [] (vals x))
    (hcj:∀ (cs:List Value) (x:den Za) (ov:Ov),Zm A ρ w Za x ov cs→([j],some g)∈ov→∃ v,cs[c]?=some v∧Uc ρ g v) {cl:Call} {cf c1 c2:Operand} (ho:o.op=.call cl) (hcal:cl.callee=.value cf) (hca:cl.args = #[c1,c2])
    (st:St B w0 A ρ own w h) {k2:Nat} {xw:den Za} {ov:Ov} (h2:h k2=.box Za xw ov) (hov:([j],some g)∈ov) {l:List (den e)} (hg:h g=.arr e l) {x:den Zi} (hx0:0≤x.2.1) (hx1:x.2.1<((List.length l:Nat):Int))
    (r1:Zl A ρ w (.clo f []) (a.eval cf)) (r2:Zl A ρ w (.agv [.ptr k2 []]) (a.eval c1)) (r3:Zl A ρ w (.dat Zi x []) (a.eval c2)) :
    Zw P o a w B w0 A ρ .junk (X7 h [(g,.arr e (l.set x.2.1.toNat (val x)))]):=fun next Q K=>by
  obtain ⟨hcl,hcall⟩:=hf
  have ob:=st.objs k2
  rw [h2] at ob
  obtain ⟨s2,cs,n1,n2,n3,n4,⟨m1,m2,m3⟩,n6⟩:=ob
  obtain ⟨v,hv,s,ad,q1,q2,rfl,q4⟩:=hcj cs xw ov n6 hov
  have ob:=st.objs g
  rw [hg] at ob
  obtain ⟨s',p1,p2,p3,p4,p5,p6,p7,p8,p9⟩:=ob
  rw [q1] at p1
  cases p1
  have hlt:Int.toNat x.2.1<l.length:=AKp hx0 hx1
  have had:=q4 (by omega)
  subst had
  obtain ⟨cs',t1,⟨t2,t3,t4⟩,_⟩:=p9 (by omega)
  have hle:(x.2.1.toNat+1) * Zj e≤s.cap * Zj e:=Nat.mul_le_mul_right _ (by omega)
  rw [Nat.add_mul,Nat.one_mul] at hle
  rw [p3] at t1
  simp only [Zl,Zs] at r1 r2 r3
  obtain ⟨vs1,e1,rfl⟩:=r1
  obtain ⟨vs2,e2,⟨u,us,rfl,⟨su,hu1,hu2,hu3⟩,rfl⟩,_⟩:=r2
  rw [n1] at hu1
  cases hu1
  rw [n2,n3] at hu3
  obtain ⟨ds,r3,e3⟩:=r3
  have e3':a.eval c2=wrV x:=by
    rw [e3]
    have z1:ds=[.int .i64 x.1,.int .i64 x.2.1,.int .i64 x.2.2.1,.int .i64 x.2.2.2.1.1,.int .i64 x.2.2.2.1.2.1]:=by
      have hz:ds.length=5:=Zm.length Zi r3
      match ds,hz,r3 with
      | [b1,b2,b3,b4,b5],_,r3 =>
        simp [Zm,Xs,Zj,Gi] at r3
        obtain ⟨y1,y2,y3,y4,y5⟩:=r3
        rw [y1,y2,y3,y4,y5]
    rw [z1]; rfl
  have e2':a.eval c1=.agg #[.pointer (some ⟨s2.b,0,none⟩)]:=by rw [e2,hu3]; rfl
  unfold Oper.wp
  rw [Ag (P:=P) (w:=w) ho hcal e1 hcl,Oper.upon_enter]
  have ha:cl.args.map a.eval ++ ([]:List Value).toArray = #[.agg #[.pointer (some ⟨s2.b,0,none⟩)],wrV x]:=by rw [hca]; simp [e2',e3']
  rw [ha]
  have hcell:w.cell? ⟨s2.b,c,none⟩=some (.slice (some ⟨s.b,0,none⟩) s.len s.cap):=by have:=m2 c _ hv; rwa [Nat.zero_add] at this
  refine Calls.mono (hcall s2.b s.b s.len s.cap x w (st.oldO _ _ m1) (st.oldO _ _ t2) hcell hx0 (by rw [← p7]; exact hx1) (fun k hk=>by have:=t4 (x.2.1.toNat * Zj e+k) (by omega); rwa [Nat.zero_add] at this)) (fun en w' he => ?_)
  obtain ⟨rfl,w1,hbl,rfl⟩:=he
  obtain ⟨st1,l1⟩:=st.more hbl
  obtain ⟨A',ρ',own',st2,l2⟩:=St.arrSet hT st1 hg hlt (hval A ρ w1 x) q1
  exact K _ _ A' ρ' own' st2 (l1.trans l2) (by simp only [Zl])
end
def BZd:List Ln:=[⟨some 2,.box 0 (.t 0),none,[],[]⟩,⟨some 4,.newbox 1 Za [],none,[],[]⟩]
def BXh:List Ln:=[⟨some 10,.load (.d Za) (.t 2),none,[],[]⟩,⟨some 11,.call (.f 30) [.t 10] [.d Za] [((0,[1]),3),((0,[2]),4),((0,[3]),5)] false,none,[],[]⟩,⟨some 5,.newbox 2 Za [],none,[],[]⟩,⟨none,.store (.d Za) (.t 5) (.t 11),none,[],[]⟩]
def BXi:List Ln:=[⟨some 12,.move (.t 1),none,[],[]⟩,⟨some 13,.len (.t 12),none,[],[]⟩,⟨some 14,.move (.c (.int .i64) (0:Int)),none,[],[]⟩]
def AQ1:List Ln:=[⟨some 15,.bin .lss (.t 14) (.t 13),none,[],[]⟩]
def BHl:List Ln:=[⟨some 16,.index (.sl Zi) (.t 12) (.t 14),none,[],[]⟩,⟨some 17,.load (.d Zi) (.t 16),none,[],[]⟩,⟨some 7,.newbox 6 Zi [],none,[],[]⟩,⟨none,.store (.d Zi) (.t 7) (.t 17),none,[],[]⟩]
def AQ2:List Ln:=[⟨some 19,.load (.v false 1) (.g 0),none,[],[]⟩,⟨some 20,.fieldAddr (.d Zi) 0 (.t 7),none,[],[]⟩,⟨some 21,.load (.d (.int .i64)) (.t 20),none,[],[]⟩,⟨some 22,.lookv (.t 19) (.t 21) true,none,[],[]⟩,⟨some 18,.move (.t 22),none,[],[]⟩,
  ⟨some 23,.extract (.t 18) 0,none,[],[]⟩,⟨some 24,.extract (.t 18) 1,none,[],[]⟩,⟨some 8,.move (.t 23),none,[],[]⟩,⟨some 9,.move (.t 24),none,[],[]⟩]
def BHm:List Ln:=[⟨some 25,.move (.t 9),none,[],[]⟩]
def BHn:List Ln:=[⟨some 30,.bin .add (.t 14) (.c (.int .i64) (1:Int)),none,[],[]⟩,⟨some 14,.move (.t 30),none,[],[]⟩]
def BG7:Cd:=.seq (.reg false [⟨some 31,.load (.d Za) (.t 5),none,[],[]⟩,⟨none,.store (.d Za) (.t 4) (.t 31),none,[],[]⟩]) .ret
def AB4:Ov:=[([1],some 3),([2],some 4),([3],some 5)]
def alH (w:den Za) (a1 a2:List Int) (a3:List (den Zb)):Yj:=[.box Za w [],.box Za (dft Za) [],.box Za (w.1,[],[],[],()) AB4,.arr (.int .i64) a1,.arr (.int .i64) a2,.arr Zb a3]
def alS (w:den Za) (l:List (den Zi)) (i:Nat):Xk:=[(0,.dat Za w []),(1,.dat (.sl Zi) l []),(2,.ptr 0 []),(4,.ptr 1 []),(5,.ptr 2 []),(12,.dat (.sl Zi) l []),(13,.dat (.int .i64) ((List.length l:Nat):Int) []),(14,.dat (.int .i64) (i:Int) [])]
abbrev Wg:Kt (Xk×Yj):=fun _ s h=>some (s,h)
abbrev noK:Kt (Xk×Yj):=fun _ _ _=>none
section
variable {cf:Calls}
theorem AK0 (w:den Za) (l:List (den Zi)):run cf 0 (.reg false BXh) Wg noK [(0,.dat Za w []),(1,.dat (.sl Zi) l []),(2,.ptr 0 []),(4,.ptr 1 [])] [.box Za w [],.box Za (dft Za) []] =
    Option.bind (cf 30 [.dat Za w []] [.d Za]) fun r=>bif Zq r.2 [((0,[1]),3),((0,[2]),4),((0,[3]),5)] then
      some ([(0,.dat Za w []),(1,.dat (.sl Zi) l []),(2,.ptr 0 []),(4,.ptr 1 []),(10,.dat Za w []),(11,.dat Za (r.1.1.1,[],[],[],()) AB4),(5,.ptr 2 [])],[.box Za w [],.box Za (dft Za) [],.box Za (r.1.1.1,[],[],[],()) AB4,.arr (.int .i64) r.1.1.2.1,.arr (.int .i64) r.1.1.2.2.1,.arr Zb r.1.1.2.2.2.1]) else none:=by kernel_rfl
theorem AK1 (w:den Za) (l:List (den Zi)) (h:Yj):run cf 0 (.reg false BXi) Wg noK [(0,.dat Za w []),(1,.dat (.sl Zi) l []),(2,.ptr 0 []),(4,.ptr 1 []),(5,.ptr 2 [])] h=some (alS w l 0,h):=by kernel_rfl
theorem ADs (w:den Za) (l:List (den Zi)) (i:Nat) (h:Yj):run cf 0 (.reg false AQ1) Wg noK (alS w l i) h=some (alS w l i ++ [(15,.dat .bool (decide ((i:Int)<((List.length l:Nat):Int))) [])],h):=by kernel_rfl
theorem AK2 (w:den Za) (l:List (den Zi)) (i:Nat) (a1 a2:List Int) (a3:List (den Zb)):run cf 0 (.reg false BHl) Wg noK (alS w l i) (alH w a1 a2 a3) =
    if (0:Int)≤(i:Int)∧(i:Int)<((List.length l:Nat):Int) then some (alS w l i ++ [(16,.ref Zi (List.getD l (Int.toNat (i:Int)) (dft Zi))),(17,.dat Zi (List.getD l (Int.toNat (i:Int)) (dft Zi)) []),(7,.ptr 6 [])],alH w a1 a2 a3 ++ [.box Zi (List.getD l (Int.toNat (i:Int)) (dft Zi)) []]) else none:=by kernel_rfl
def alF:SV:=.fmap [0,1,2] [.clo 131 [],.clo 129 [],.clo 132 []]
def AK7 (w:den Za) (l:List (den Zi)) (i:Nat) (x:den Zi) (v:SV) (b:Bool):Xk:=alS w l i ++ [(7,.ptr 6 []),(19,alF),(20,.ptr 6 [0]),(21,.dat (.int .i64) x.1 []),(22,.tup [v,.dat .bool b []]),(18,.tup [v,.dat .bool b []]),(23,v),(24,.dat .bool b []),(8,v),(9,.dat .bool b [])]
theorem AK3 (w:den Za) (l:List (den Zi)) (i:Nat) (x:den Zi) (a1 a2:List Int) (a3:List (den Zb)):run cf 0 (.reg false AQ2) Wg noK (alS w l i ++ [(7,.ptr 6 [])]) (alH w a1 a2 a3 ++ [.box Zi x []]) =
    bif decide (x.1=(0:Int)) then some (AK7 w l i x (.clo 131 []) true,alH w a1 a2 a3 ++ [.box Zi x []])
    else bif decide (x.1=(1:Int)) then some (AK7 w l i x (.clo 129 []) true,alH w a1 a2 a3 ++ [.box Zi x []])
    else bif decide (x.1=(2:Int)) then some (AK7 w l i x (.clo 132 []) true,alH w a1 a2 a3 ++ [.box Zi x []])
    else some (AK7 w l i x .nilfn false,alH w a1 a2 a3 ++ [.box Zi x []]):=by kernel_rfl
def ADt (w:den Za) (l:List (den Zi)) (i:Nat) (v:SV) (b:Bool):Xk:=alS w l i ++ [(7,.ptr 6 []),(8,v),(9,.dat .bool b [])]
theorem AK4 (w:den Za) (l:List (den Zi)) (i:Nat) (v:SV) (b:Bool) (h:Yj):run cf 0 (.reg false BHm) Wg noK (ADt w l i v b) h=some (ADt w l i v b ++ [(25,.dat .bool b [])],h):=by kernel_rfl
theorem AK5 (w:den Za) (l:List (den Zi)) (i:Nat) (h:Yj):run cf 0 (.reg false BHn) Wg noK (alS w l i) h=some (M5 (alS w l i) 14 (.dat (.int .i64) (IntKind.wrap .i64 ((i:Int)+1)) []) ++ [(30,.dat (.int .i64) (IntKind.wrap .i64 ((i:Int)+1)) [])],h):=by kernel_rfl
def ASj:Fn:=⟨2,[.cell 4 (.d Za)],BG7⟩
theorem AK6 (w:den Za) (l:List (den Zi)) (i:Nat) (a1 a2:List Int) (a3:List (den Zb)):run cf 0 BG7 (fun _ _ _=>none) (Xa ASj [.d Za]) (alS w l i) (alH w a1 a2 a3) =
    some (((w.1,a1,a2,a3,()),()),[(0,[1]),(0,[2]),(0,[3])]):=by kernel_rfl
end
theorem AMo {w:den Za} (h1:List.length (w.2.1:List Int)≤1048576) (h2:List.length (w.2.2.1:List Int)≤1048576) (h3:List.length (w.2.2.2.1:List (den Zb))≤1048576) :
    Vy prog sp0 2 30 [.dat Za w []] [.d Za]=some ((w,()),[(0,[1]),(0,[2]),(0,[3])]):=by
  have e:Vy prog sp0 2 30 [.dat Za w []] [.d Za]=Option.bind (sp0 57 [.dat (.sl (.int .i64)) w.2.1 []] [.d (.sl (.int .i64))]) fun r1=>bif Zq r1.2 [((0,[]),2)] then
      Option.bind (sp0 57 [.dat (.sl (.int .i64)) w.2.2.1 []] [.d (.sl (.int .i64))]) fun r2=>bif Zq r2.2 [((0,[]),3)] then
      Option.bind (sp0 58 [.dat (.sl Zb) w.2.2.2.1 []] [.d (.sl Zb)]) fun r3=>bif Zq r3.2 [((0,[]),4)] then
      some (((w.1,(r1.1.1:List Int),(r2.1.1:List Int),(r3.1.1:List (den Zb)),()),()),[(0,[1]),(0,[2]),(0,[3])]) else none else none else none:=by kernel_rfl
  have c1:∀ l:List Int,l.length≤1048576→sp0 57 [.dat (.sl (.int .i64)) l []] [.d (.sl (.int .i64))]=some ((l,()),[(0,[])]):=fun l hl=>by
    have e:sp0 57 [.dat (.sl (.int .i64)) l []] [.d (.sl (.int .i64))]=U0 (.int .i64) [.dat (.sl (.int .i64)) l []] [.d (.sl (.int .i64))]:=by kernel_rfl
    rw [e]
    simp only [U0,J0,if_pos hl,Tz,prj]
  have c2:∀ l:List (den Zb),l.length≤1048576→sp0 58 [.dat (.sl Zb) l []] [.d (.sl Zb)]=some ((l,()),[(0,[])]):=fun l hl=>by
    have e:sp0 58 [.dat (.sl Zb) l []] [.d (.sl Zb)]=U0 Zb [.dat (.sl Zb) l []] [.d (.sl Zb)]:=by kernel_rfl
    rw [e]
    simp only [U0,J0,if_pos hl,Tz,prj]
  rw [e,c1 _ h1,c1 _ h2,c2 _ h3]
  rfl
structure AKv (P:Program) (N:Nat) (R3 R4 R5 R6 R8:Code) (ops:Array Oper) (o0 o1 o2 o3:Oper) (cl:Call):Prop where
  c3:Ju P N (.reg false AQ1) R3=true
  c4:Ju P N (.reg false BHl) R4=true
  c5:Ju P N (.reg false AQ2) R5=true
  c6:Ju P N (.reg false BHm) R6=true
  c8:Ju P N (.reg false BHn) R8=true
  hops:ops = #[o0,o1,o2,o3]
  k0:Kw P N ops ⟨some 26,.move (.t 8),none,[],[]⟩ o0=true
  k1:Kw P N ops ⟨some 27,.buildv [1] [.t 5],none,[],[]⟩ o1=true
  k2:Kw P N ops ⟨some 28,.load (.d Zi) (.t 7),none,[],[]⟩ o2=true
  g3:o3.guard=none
  d3:o3.dst=some 29
  hN:29<N
  op3:o3.op=.call cl
  cc:cl.callee=.value (.tmp 26)
  ca:cl.args = #[.tmp 27,.tmp 28]
theorem AJh {α:Type} {l:List α} {i:Nat} (d:α) (h:i<l.length):l.drop i=l.getD i d :: l.drop (i+1):=by
  rw [List.drop_eq_getElem_cons h,List.getD_eq_getElem?_getD,List.getElem?_eq_getElem h]; rfl
theorem Es {α:Type} {l l':List α} {i:Int} {x:α} (h:AHl l i x=some l'):0≤i∧i<((List.length l:Nat):Int)∧l'=List.set l i.toNat x:=by
  unfold AHl at h
  split at h
  · rename_i hh; simp only [Option.some.injEq] at h; exact ⟨hh.1,hh.2,h.symm⟩
  · cases h
section
variable {N B:Nat} {w0:Y6} {Q:Exit→Act→World→Prop} {cf:Calls} {R3 R4 R5 R6 R8:Code} {ops:Array Oper} {o0 o1 o2 o3:Oper} {cl:Call} {w:den Za} {l:List (den Zi)}
theorem ADu {i:Nat} {a1 a2:List Int} {a3:List (den Zb)} {x:den Zi} {s:Xk} {k:List Nat} {a:Act} {W:World} (hs:Is N B w0 (Xu s) (Xn (alH w a1 a2 a3 ++ [.box Zi x []])) a W) (hk:Le k s=alS w l i) :
    Is N B w0 (Xu (alS w l i)) (Xn (alH w a1 a2 a3)) a W:=by
  have h1:=Wy (k:=k) hs
  rw [hk] at h1
  exact AE9 (n:=6) h1 rfl rfl
theorem AK8 (hcf:Vw Tryz.prog cf) (hm:Tryz.prog.follows .mixedOrders=true) (hc:AKv Tryz.prog N R3 R4 R5 R6 R8 ops o0 o1 o2 o3 cl) {rid i:Nat} {f:Nat} {x:den Zi} {a1 a2:List Int} {a3:List (den Zb)} {h':Nat→Obj} {b1 b2:List Int} {b3:List (den Zb)}
    (hh:h'=Xn (alH w b1 b2 b3 ++ [.box Zi x []])) {a:Act} {W:World} (hs:Is N B w0 (Xu (ADt w l i (.clo f []) true)) (Xn (alH w a1 a2 a3 ++ [.box Zi x []])) a W)
    (heff:∀ (A:Nat→Prop) (ρ:Xf) (own:Nat→Option Nat) (a:Act) (W:World),St B w0 A ρ own W (Xn (alH w a1 a2 a3 ++ [.box Zi x []]))→Zl A ρ W (.clo f []) (a.eval (.tmp 26))→Zl A ρ W (.agv [.ptr 2 []]) (a.eval (.tmp 27))→Zl A ρ W (.dat Zi x []) (a.eval (.tmp 28))→Zw Tryz.prog o3 a W B w0 A ρ .junk h')
    (hQ:∀ a W,Is N B w0 (Xu (alS w l i)) (Xn (alH w b1 b2 b3)) a W→Q .normal a W):Code.wp Tryz.prog (.region rid ops false) Q a W:=by
  have hops:=hc.hops
  have e0:ops[0]?=some o0:=by rw [hops]; rfl
  have e1:ops[1]?=some o1:=by rw [hops]; rfl
  have e2:ops[2]?=some o2:=by rw [hops]; rfl
  have e3:ops[3]?=some o3:=by rw [hops]; rfl
  have hsz:ops.size=4:=by rw [hops]; rfl
  refine wp_region ?_
  rw [hsz,List.range_eq_range']
  show wpOps Tryz.prog ops Q [0,1,2,3] a W
  rw [wpOps_cons]
  refine Rp (draw:=false) e0 hs hcf hc.k0 (v:=.clo f []) (e:=[]) ⟨(fun h=>by cases h),rfl⟩ (fun a4 W4 hs1 => ?_)
  rw [← Tc] at hs1
  rw [wpOps_cons]
  refine Rp (draw:=false) e1 hs1 hcf hc.k1 (v:=.agv [.ptr 2 []]) (e:=[]) ⟨(fun h=>by cases h),rfl⟩ (fun a5 W5 hs2 => ?_)
  rw [← Tc] at hs2
  rw [wpOps_cons]
  refine Rp (draw:=false) e2 hs2 hcf hc.k2 (v:=.dat Zi x []) (e:=[]) ⟨(fun h=>by cases h),rfl⟩ (fun a6 W6 hs3 => ?_)
  rw [← Tc] at hs3
  rw [wpOps_cons]
  unfold wpOp
  simp only [e3,Region.wanted,hc.g3,if_true]
  refine .inl ?_
  have hs3':Is N B w0 (Xu (ADt w l i (.clo f []) true ++ [(26,.clo f []),(27,.agv [.ptr 2 []]),(28,.dat Zi x [])])) (Xn (alH w a1 a2 a3 ++ [.box Zi x []])) a6 W6:=hs3
  obtain ⟨A,ρ,own,st,sl,sz,df⟩:=hs3'
  refine heff A ρ own a6 W6 st (sl 26) (sl 27) (sl 28) _ _ (fun v' W7 A' ρ' own' st' hl hv => ?_)
  rw [hc.d3]
  refine hQ _ _ (ADu (k:=[7,8,9,26,27,28,29]) (s:=ADt w l i (.clo f []) true ++ [(26,.clo f []),(27,.agv [.ptr 2 []]),(28,.dat Zi x []),(29,.junk)]) (x:=x) ⟨A',ρ',own',by rw [← hh]; exact st',?_,by rw [Kl]; exact sz,by rw [Q3]; exact df⟩ rfl)
  have:=Xh.put sl hl (d:=some 29) (v:=.junk) (v':=v') (fun i hi=>by cases hi; rw [sz]; exact hc.hN) hv
  rw [← Tc] at this
  exact this
theorem AOl (hcf:Vw Tryz.prog cf) (hm:Tryz.prog.follows .mixedOrders=true) (hc:AKv Tryz.prog N R3 R4 R5 R6 R8 ops o0 o1 o2 o3 cl) {rid:Nat} {wE:den Za} (hlen:l.length≤1048576)
    (hQ:∀ a W a1 a2 a3,wE=(w.1,a1,a2,a3,())→Is N B w0 (Xu (alS w l l.length)) (Xn (alH w a1 a2 a3)) a W→Q (.exit 0) a W):(m i:Nat)→(a1 a2:List Int)→(a3:List (den Zb))→i+m=l.length→T5 (w.1,a1,a2,a3,()) (l.drop i)=some wE→∀ (a:Act) (W:World),
    Is N B w0 (Xu (alS w l i)) (Xn (alH w a1 a2 a3)) a W→Code.rounds Tryz.prog (.seq R3 (.seq (.cond (.tmp 15) .skip (.exit 0)) (.seq (.block 1 (.seq R4 (.seq R5 (.seq R6 (.cond (.tmp 25) (.region rid ops false) .skip))))) R8))) Q (m+1) a W:=by
  intro m
  induction m with
  | zero =>
    intro i a1 a2 a3 him hall a W hs
    have hi:i=l.length:=by omega
    subst hi
    rw [rounds_succ]
    refine wp_seq (Y8 (R:=Xk×Yj) (lp:=0) hcf hm (.reg false AQ1) R3 hc.c3 (Kn:=Wg) (K:=noK) (fun s h a W hk hs => ?_) (fun _ _ s h a w' hk _=>by cases hk) hs (ADs ..))
    simp only [Option.some.injEq,Prod.mk.injEq] at hk
    obtain ⟨rfl,rfl⟩:=hk
    have hb:a.eval (.tmp 15)=.bool false:=by
      obtain ⟨A,ρ,own,st,sl,sz,df⟩:=hs
      have:=Jj (show Zl A ρ W (.dat .bool _ []) _ from sl 15)
      rw [this,decide_eq_false (Int.lt_irrefl _)]
    refine wp_seq (wp_cond_false hb (wp_exit ?_))
    refine hQ a W a1 a2 a3 ?_ (Wy (k:=[15]) hs)
    rw [List.drop_length] at hall
    exact (Option.some.inj hall).symm
  | succ m ih =>
    intro i a1 a2 a3 him hall a W hs
    have hi:i<l.length:=by omega
    rw [rounds_succ]
    refine wp_seq (Y8 (R:=Xk×Yj) (lp:=0) hcf hm (.reg false AQ1) R3 hc.c3 (Kn:=Wg) (K:=noK) (fun s h a W hk hs => ?_) (fun _ _ s h a w' hk _=>by cases hk) hs (ADs ..))
    simp only [Option.some.injEq,Prod.mk.injEq] at hk
    obtain ⟨rfl,rfl⟩:=hk
    have hb:a.eval (.tmp 15)=.bool true:=by
      obtain ⟨A,ρ,own,st,sl,sz,df⟩:=hs
      have:=Jj (show Zl A ρ W (.dat .bool _ []) _ from sl 15)
      rw [this,decide_eq_true (by omega)]
    have hs:Is N B w0 (Xu (alS w l i)) (Xn (alH w a1 a2 a3)) a W:=Wy (k:=[15]) hs
    refine wp_seq (wp_cond_true hb (wp_skip ?_))
    generalize hx:(List.getD l (Int.toNat (i:Int)) (dft Zi))=x
    have hd:l.drop i=x :: l.drop (i+1):=by rw [← hx]; exact AJh _ hi
    rw [hd] at hall
    have tail:∀ (b1 b2:List Int) (b3:List (den Zb)),T5 (w.1,b1,b2,b3,()) (l.drop (i+1))=some wE→∀ a W,Is N B w0 (Xu (alS w l i)) (Xn (alH w b1 b2 b3)) a W→Code.wp Tryz.prog R8 (Exit.then (Code.rounds Tryz.prog (.seq R3 (.seq (.cond (.tmp 15) .skip (.exit 0)) (.seq (.block 1 (.seq R4 (.seq R5 (.seq R6 (.cond (.tmp 25) (.region rid ops false) .skip))))) R8))) Q (m+1)) Q) a W:=fun b1 b2 b3 hall a W hs=>by
      refine Y8 (R:=Xk×Yj) (lp:=0) hcf hm (.reg false BHn) R8 hc.c8 (Kn:=Wg) (K:=noK) (fun s h a W hk hs => ?_) (fun _ _ s h a w' hk _=>by cases hk) hs (AK5 ..)
      simp only [Option.some.injEq,Prod.mk.injEq] at hk
      obtain ⟨rfl,rfl⟩:=hk
      rw [Xm (by omega)] at hs
      exact ih (i+1) b1 b2 b3 (by omega) hall a W (Wy (k:=[30]) hs)
    have hr4:=AK2 (cf:=cf) w l i a1 a2 a3
    rw [if_pos ⟨by omega,by omega⟩,hx] at hr4
    show Code.wp Tryz.prog _ _ a W
    refine wp_seq (wp_block (wp_seq (Y8 (R:=Xk×Yj) (lp:=0) hcf hm (.reg false BHl) R4 hc.c4 (Kn:=Wg) (K:=noK) (fun s h a W hk hs => ?_) (fun _ _ s h a w' hk _=>by cases hk) hs hr4)))
    simp only [Option.some.injEq,Prod.mk.injEq] at hk
    obtain ⟨rfl,rfl⟩:=hk
    have hs:Is N B w0 (Xu (alS w l i ++ [(7,.ptr 6 [])])) (Xn (alH w a1 a2 a3 ++ [.box Zi x []])) a W:=Wy (k:=[16,17]) hs
    have hr5:=AK3 (cf:=cf) w l i x a1 a2 a3
    have mid:∀ (v:SV) (b:Bool),run cf 0 (.reg false AQ2) Wg noK (alS w l i ++ [(7,.ptr 6 [])]) (alH w a1 a2 a3 ++ [.box Zi x []])=some (AK7 w l i x v b,alH w a1 a2 a3 ++ [.box Zi x []]) →
        (b=true→∀ a W,Is N B w0 (Xu (ADt w l i v true)) (Xn (alH w a1 a2 a3 ++ [.box Zi x []])) a W→Code.wp Tryz.prog (.region rid ops false) (Exit.inBlock 1 (Exit.then (Code.wp Tryz.prog R8 (Exit.then (Code.rounds Tryz.prog (.seq R3 (.seq (.cond (.tmp 15) .skip (.exit 0)) (.seq (.block 1 (.seq R4 (.seq R5 (.seq R6 (.cond (.tmp 25) (.region rid ops false) .skip))))) R8))) Q (m+1)) Q)) (Exit.then (Code.rounds Tryz.prog (.seq R3 (.seq (.cond (.tmp 15) .skip (.exit 0)) (.seq (.block 1 (.seq R4 (.seq R5 (.seq R6 (.cond (.tmp 25) (.region rid ops false) .skip))))) R8))) Q (m+1)) Q))) a W) →
        (b=false→T5 (w.1,a1,a2,a3,()) (l.drop (i+1))=some wE) →
        Code.wp Tryz.prog (.seq R5 (.seq R6 (.cond (.tmp 25) (.region rid ops false) .skip))) (Exit.inBlock 1 (Exit.then (Code.wp Tryz.prog R8 (Exit.then (Code.rounds Tryz.prog (.seq R3 (.seq (.cond (.tmp 15) .skip (.exit 0)) (.seq (.block 1 (.seq R4 (.seq R5 (.seq R6 (.cond (.tmp 25) (.region rid ops false) .skip))))) R8))) Q (m+1)) Q)) (Exit.then (Code.rounds Tryz.prog (.seq R3 (.seq (.cond (.tmp 15) .skip (.exit 0)) (.seq (.block 1 (.seq R4 (.seq R5 (.seq R6 (.cond (.tmp 25) (.region rid ops false) .skip))))) R8))) Q (m+1)) Q))) a W:=fun v b hr h1 h2=>by
      refine wp_seq (Y8 (R:=Xk×Yj) (lp:=0) hcf hm (.reg false AQ2) R5 hc.c5 (Kn:=Wg) (K:=noK) (fun s h a W hk hs => ?_) (fun _ _ s h a w' hk _=>by cases hk) hs hr)
      simp only [Option.some.injEq,Prod.mk.injEq] at hk
      obtain ⟨rfl,rfl⟩:=hk
      have hs:Is N B w0 (Xu (ADt w l i v b)) (Xn (alH w a1 a2 a3 ++ [.box Zi x []])) a W:=Wy (k:=[19,20,21,22,18,23,24]) hs
      refine wp_seq (Y8 (R:=Xk×Yj) (lp:=0) hcf hm (.reg false BHm) R6 hc.c6 (Kn:=Wg) (K:=noK) (fun s h a W hk hs => ?_) (fun _ _ s h a w' hk _=>by cases hk) hs (AK4 ..))
      simp only [Option.some.injEq,Prod.mk.injEq] at hk
      obtain ⟨rfl,rfl⟩:=hk
      have hb:a.eval (.tmp 25)=.bool b:=by
        obtain ⟨A,ρ,own,st,sl,sz,df⟩:=hs
        exact Jj (show Zl A ρ W (.dat .bool _ []) _ from sl 25)
      have hs:Is N B w0 (Xu (ADt w l i v b)) (Xn (alH w a1 a2 a3 ++ [.box Zi x []])) a W:=Wy (k:=[25]) hs
      cases b with
      | true=>exact wp_cond_true hb (h1 rfl a W hs)
      | false=>exact wp_cond_false hb (wp_skip (tail a1 a2 a3 (h2 rfl) a W (ADu (k:=[7,8,9]) hs rfl)))
    have hall':(match wrW (w.1,a1,a2,a3,()) x with | some w'=>T5 w' (l.drop (i+1)) | none=>none)=some wE:=hall
    unfold wrW at hall'
    show Code.wp Tryz.prog _ _ a W
    by_cases q0:x.1=(0:Int)
    · rw [decide_eq_true q0] at hr5 hall'
      simp only [cond_true] at hr5 hall'
      split at hall'
      case h_2=>cases hall'
      rename_i w' hw'
      split at hw'
      case h_2=>cases hw'
      rename_i b1 hb1
      simp only [Option.some.injEq] at hw'
      subst hw'
      obtain ⟨s1,s2,rfl⟩:=Es hb1
      refine mid _ _ hr5 (fun _ a W hs=>AK8 hcf hm hc (h':=X7 (Xn (alH w a1 a2 a3 ++ [.box Zi x []])) [(3,.arr (.int .i64) (List.set a1 (Int.toNat x.2.1) x.2.2.1))]) (b1:=List.set a1 (Int.toNat x.2.1) x.2.2.1) (b2:=a2) (b3:=a3) (by rw [← Gz]; rfl) hs (fun A ρ own a W st r1 r2 r3 => ?_) (fun a W hs=>tail _ _ _ hall' a W hs)) (fun h=>by cases h)
      exact AGt (T:=3) (e:=.int .i64) (val:=fun x=>x.2.2.1) (j:=1) (g:=3) (c:=8) (by kernel_rfl) AMv (fun _ _ _ _=>by simp only [Zm]) (fun cs xw ov h1 h2=>(Ez h1).1 h2) hc.op3 hc.cc hc.ca st (k2:=2) (xw:=(w.1,[],[],[],())) (ov:=AB4) rfl (by simp [AB4]) (l:=a1) rfl s1 s2 r1 r2 r3
    · rw [decide_eq_false q0] at hr5 hall'
      simp only [cond_false] at hr5 hall'
      by_cases q1:x.1=(1:Int)
      · rw [decide_eq_true q1] at hr5 hall'
        simp only [cond_true] at hr5 hall'
        split at hall'
        case h_2=>cases hall'
        rename_i w' hw'
        split at hw'
        case h_2=>cases hw'
        rename_i b2 hb2
        simp only [Option.some.injEq] at hw'
        subst hw'
        obtain ⟨s1,s2,rfl⟩:=Es hb2
        refine mid _ _ hr5 (fun _ a W hs=>AK8 hcf hm hc (h':=X7 (Xn (alH w a1 a2 a3 ++ [.box Zi x []])) [(4,.arr (.int .i64) (List.set a2 (Int.toNat x.2.1) x.2.2.1))]) (b1:=a1) (b2:=List.set a2 (Int.toNat x.2.1) x.2.2.1) (b3:=a3) (by rw [← Gz]; rfl) hs (fun A ρ own a W st r1 r2 r3 => ?_) (fun a W hs=>tail _ _ _ hall' a W hs)) (fun h=>by cases h)
        exact AGt (T:=3) (e:=.int .i64) (val:=fun x=>x.2.2.1) (j:=2) (g:=4) (c:=9) (by kernel_rfl) AJj (fun _ _ _ _=>by simp only [Zm]) (fun cs xw ov h1 h2=>(Ez h1).2.1 h2) hc.op3 hc.cc hc.ca st (k2:=2) (xw:=(w.1,[],[],[],())) (ov:=AB4) rfl (by simp [AB4]) (l:=a2) rfl s1 s2 r1 r2 r3
      · rw [decide_eq_false q1] at hr5 hall'
        simp only [cond_false] at hr5 hall'
        by_cases q2:x.1=(2:Int)
        · rw [decide_eq_true q2] at hr5 hall'
          simp only [cond_true] at hr5 hall'
          split at hall'
          case h_2=>cases hall'
          rename_i w' hw'
          split at hw'
          case h_2=>cases hw'
          rename_i b3 hb3
          simp only [Option.some.injEq] at hw'
          subst hw'
          obtain ⟨s1,s2,rfl⟩:=Es hb3
          refine mid _ _ hr5 (fun _ a W hs=>AK8 hcf hm hc (h':=X7 (Xn (alH w a1 a2 a3 ++ [.box Zi x []])) [(5,.arr Zb (List.set a3 (Int.toNat x.2.1) x.2.2.2.1))]) (b1:=a1) (b2:=a2) (b3:=List.set a3 (Int.toNat x.2.1) x.2.2.2.1) (by rw [← Gz]; rfl) hs (fun A ρ own a W st r1 r2 r3 => ?_) (fun a W hs=>tail _ _ _ hall' a W hs)) (fun h=>by cases h)
          exact AGt (T:=48) (e:=Zb) (val:=fun x=>x.2.2.2.1) (j:=3) (g:=5) (c:=10) (by kernel_rfl) AJk (fun _ _ _ _=>by simp [Zm,Xs,Zj]) (fun cs xw ov h1 h2=>(Ez h1).2.2 h2) hc.op3 hc.cc hc.ca st (k2:=2) (xw:=(w.1,[],[],[],())) (ov:=AB4) rfl (by simp [AB4]) (l:=a3) rfl s1 s2 r1 r2 r3
        · rw [decide_eq_false q2] at hr5 hall'
          simp only [cond_false] at hr5 hall'
          exact mid _ _ hr5 (fun h=>by cases h) (fun _=>hall')
end
theorem AI4 {w:den Za} {l:List (den Zi)} {wE:den Za} (h1:List.length (w.2.1:List Int)≤1048576) (h2:List.length (w.2.2.1:List Int)≤1048576) (h3:List.length (w.2.2.2.1:List (den Zb))≤1048576) (h4:List.length l≤1048576) (hall:T5 w l=some wE)
    {W:World} {A:Nat→Prop} {vs:List Value} (hA:∀ b,A b→b<W.heap.size) (hgl:Yq A W) (hr:Zs A (fun _=>none) W [.dat Za w [],.dat (.sl Zi) l []] vs) :
    Go.Calls Tryz.prog 12 vs.toArray W (fun en w'=>∃ vals,en=.returned (Je vals)∧Ht A W w' [.dat Za wE []] [(0,[1]),(0,[2]),(0,[3])] vals):=by
  have hcf:Vw Tryz.prog (Vy prog sp0 2):=Wb mixed BHv Cf 2
  refine calls_of_wp Tryz.func12 rfl ?_
  have h0:=C9 (n:=2) (k:=Tryz.f12.ntmps) hA hgl hr rfl
  let fin:Xc [Sh.d Za]×Zz:=((wE,()),[(0,[1]),(0,[2]),(0,[3])])
  have hret:=ADa (P:=Tryz.prog) (N:=2+(Tryz.f12.ntmps - 2)) (w:=W) (A:=A) (fn:=Tryz.f12) (g:=ASj) (res:=[.d Za]) (r:=fin) (by kernel_rfl)
  refine wp_seq (Y8 (R:=Xk×Yj) (r:=([(0,.dat Za w []),(1,.dat (.sl Zi) l []),(2,.ptr 0 []),(4,.ptr 1 [])],[.box Za w [],.box Za (dft Za) []])) (lp:=0) hcf mixed (.reg false BZd) _ (by kernel_rfl) (Kn:=Wg) (K:=noK) (fun s h a W1 hk hs => ?_) (fun _ _ s h a w' hk _=>by cases hk) h0 rfl)
  simp only [Option.some.injEq,Prod.mk.injEq] at hk
  obtain ⟨rfl,rfl⟩:=hk
  have hr1:=AK0 (cf:=Vy prog sp0 2) w l
  rw [AMo h1 h2 h3] at hr1
  refine wp_seq (Y8 (R:=Xk×Yj) (lp:=0) hcf mixed (.reg false BXh) _ (by kernel_rfl) (Kn:=Wg) (K:=noK) (fun s h a W2 hk hs => ?_) (fun _ _ s h a w' hk _=>by cases hk) hs hr1)
  simp only [Option.some.injEq,Prod.mk.injEq] at hk
  obtain ⟨rfl,rfl⟩:=hk
  have hs:Is (2+(Tryz.f12.ntmps - 2)) W.heap.size ⟨W,A⟩ (Xu [(0,.dat Za w []),(1,.dat (.sl Zi) l []),(2,.ptr 0 []),(4,.ptr 1 []),(5,.ptr 2 [])]) (Xn (alH w w.2.1 w.2.2.1 w.2.2.2.1)) a W2:=Wy (k:=[10,11]) hs
  refine wp_seq (wp_seq (Y8 (R:=Xk×Yj) (lp:=0) hcf mixed (.reg false BXi) _ (by kernel_rfl) (Kn:=Wg) (K:=noK) (fun s h a W3 hk hs => ?_) (fun _ _ s h a w' hk _=>by cases hk) hs (AK1 ..)))
  simp only [Option.some.injEq,Prod.mk.injEq] at hk
  obtain ⟨rfl,rfl⟩:=hk
  refine wp_block (wp_loop_rounds (l.length+1) ?_)
  refine AOl hcf mixed (N:=2+(Tryz.f12.ntmps - 2)) (o0:=_) (o1:=_) (o2:=_) (o3:=_) (cl:=_) ⟨by kernel_rfl,by kernel_rfl,by kernel_rfl,by kernel_rfl,by kernel_rfl,rfl,by kernel_rfl,by kernel_rfl,by kernel_rfl,rfl,rfl,by decide,rfl,rfl,rfl⟩ h4 (wE:=wE) (fun a W4 a1 a2 a3 he hs => ?_) l.length 0 w.2.1 w.2.2.1 w.2.2.2.1 (by omega) hall a W3 hs
  subst he
  refine Y8 (R:=Xc [Sh.d Za]×Zz) (r:=fin) (lp:=0) hcf mixed BG7 _ (by kernel_rfl) (Kn:=fun _ _ _=>none) (K:=Xa ASj [.d Za]) (fun s h a w' hk _=>by cases hk) (fun ex hex => ?_) hs (AK6 ..)
  cases ex with
  | norm=>exact absurd rfl hex
  | exit i=>exact Ow i
  | ret=>exact hret .ret (by simp)
theorem ALa {args:List SV} {res:List Sh} {r:Xc res×Zz} (h:AK9 args res=some r):Y2 Tryz.prog 12=true ∧
    ∀ (w:World) (A:Nat→Prop) (vs:List Value),(∀ b,A b→b<w.heap.size)→Yq A w→Zs A (fun _=>none) w args vs →
      Go.Calls Tryz.prog 12 vs.toArray w (fun e w'=>∃ vals,e=.returned (Je vals)∧Ht A w w' (V5 res r.1) r.2 vals):=by
  unfold AK9 at h
  split at h
  case h_2=>cases h
  rename_i τ x σ y
  split at h
  case h_2=>cases h
  rename_i w l hw hl
  have:=X8 hw
  cases this
  have:=X8 hl
  cases this
  split at h
  case isFalse=>cases h
  rename_i hb
  split at h
  case h_2=>cases h
  rename_i wE hE
  split at h
  case h_2=>cases h
  rename_i y hy
  simp only [Option.some.injEq] at h
  subst h
  have hinj:=Kk res _ hy
  refine ⟨by kernel_rfl,fun W A vs hA hgl hr => ?_⟩
  rw [← hinj]
  exact AI4 hb.1 hb.2.1 hb.2.2.1 hb.2.2.2 hE hA hgl hr
end Go.Proofs.YtjobjooccgledaaGreatDoor.Ghost
