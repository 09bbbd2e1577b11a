/- atom.deeds: a map of functions, in memory of its own. Conditions: its code is the program's. -/
import Derived.Test.YtjobjooccgledaaGreatDoorGSp
import Derived.Test.YtjobjooccgledaaGreatDoorA4
import Derived.Test.YtjobjooccgledaaGreatDoorGK
import Derived.KernelRfl
namespace Go.Proofs.YtjobjooccgledaaGreatDoor.Ghost
open Go
section
variable {P:Program} {N:Nat}
theorem St.anewM {r:Nat} {wS:World} {A1 A:Nat→Prop} {ρ:Xf} {own:Nat→Option Nat} {w w2:World} {h:Nat→Obj} (st:St (r+1) ⟨wS,A1⟩ A ρ own w h) (hA:∀ b,A1 b→b<r) (hz:w2.heap.size=w.heap.size) (hw:∀ b,b≠r→w2.heap[b]?=w.heap[b]?) :
    St (r+1) ⟨w2,A1⟩ A ρ own w2 h∧X9 A ρ w A ρ w2:=by
  have hne:∀ b,A b→b≠r:=fun b hb=>(st.imm b hb).elim (fun h=>Nat.ne_of_lt (hA b h)) (fun h=>by omega)
  have hno:∀ b g,own b=some g→b≠r:=fun b g hb=>by have:=st.base b g hb; omega
  refine ⟨{ objs:=fun g=>Vn.mono (fun _ h=>h) (fun _ _ h=>h) (fun b hb=>hw b (hb.elim (hne b) (hno b g))) (fun _ h=>h) (fun h=>h) (st.objs g),apart:=st.apart,old:=fun b hb=>by rw [hz]; exact st.old b hb,oldO:=fun b g hb=>by rw [hz]; exact st.oldO b g hb,base:=st.base,below:=RowKit.Below.refl _ _,hB := ?_,imm:=st.imm,names:=st.names,glob:=Yq.mono (fun _ h=>h) (fun b hb=>hw b (hne b hb)) st.glob },⟨fun _ h=>h,fun _ _ h=>h,fun b hb=>hw b (hne b hb)⟩⟩
  have h1:=st.below.size
  have h2:=st.hB
  show r+1≤w2.heap.size
  rw [hz]
  exact Nat.le_trans h2 h1
abbrev AQj (p:Int×FuncId×FuncId):SV:=.clo p.2.1 [.refv (.clo p.2.2 [])]
def DS (N r:Nat) (W0:World) (A1:Nat→Prop) (l:List (Int×FuncId×FuncId)) (a:Act) (w:World):Prop :=
  ∃ (wS:World) (A:Nat→Prop) (ρ:Xf) (own:Nat→Option Nat) (es:Array MapEntry) (c:Nat),St (r+1) ⟨wS,A1⟩ A ρ own w (Xn [])∧RowKit.Below W0.heap.size W0 wS∧w.heap[r]?=some (.map es c)∧es.toList.map (·.key)=l.map (fun p=>Value.int .i64 p.1)∧(l.map (·.1)).Nodup∧Zs A ρ w (l.map AQj) (es.toList.map (·.val)) ∧
    a.eval (.tmp 1)=.map (some r)∧a.tmps.size=N∧a.defers=[]
def AMi (P:Program) (k:Int) (t:Nat) (o:Oper):Bool:=(match o.op with
  | .insert T (.tmp 1) (.const (.int .i64 k')) (.tmp t')=>(k == k') && Nat.beq t t' && ACy P T
  | _=>false) && o.guard.isNone && o.dst.isNone
theorem Ac {A:Nat→Prop} {ρ:Xf} {w:World} {u:SV} {v:Value} (hv:Zl A ρ w u v):{us:List SV}→{vs:List Value}→Zs A ρ w us vs→Zs A ρ w (us ++ [u]) (vs ++ [v])
  | [],vs,h=>by simp only [Zs] at h; subst h; simp only [List.nil_append,Zs]; exact ⟨v,[],rfl,hv,rfl⟩
  | x :: r,vs,h=>by
    simp only [Zs] at h
    obtain ⟨v0,vs',rfl,h1,h2⟩:=h
    simp only [List.cons_append,Zs]
    exact ⟨v0,vs' ++ [v],rfl,h1,Ac hv h2⟩
theorem Hl {W0:World} {r:Nat} {A1:Nat→Prop} {cf:Calls} (hcf:Vw P cf) (hA:∀ b,A1 b→b<r) (hn0:W0.heap.size≤r) {ops:Array Oper} {Q:Exit→Act→World→Prop} {i:Nat} {rest:List Nat} {o1 o2:Oper} (h1:ops[i]?=some o1) (h2:ops[i+1]?=some o2) {t:Nat} {p:Int×FuncId×FuncId} {f:FuncId}
    (hc1:Kw P N ops ⟨some t,.call (.f f) [.f p.2.2] [.clo p.2.1 [.refv (.clo p.2.2 [])]] [] false,none,[],[]⟩ o1=true) (hg:cf f [.clo p.2.2 []] [.clo p.2.1 [.refv (.clo p.2.2 [])]]=some ((((),()),()),[]))
    (hc2:AMi P p.1 t o2=true) (ht:¬ t=1) {l:List (Int×FuncId×FuncId)} (hk:p.1 ∉ l.map (·.1)) {a:Act} {w:World} (hds:DS N r W0 A1 l a w) (hK:∀ a' w',DS N r W0 A1 (l ++ [p]) a' w'→wpOps P ops Q rest a' w'):wpOps P ops Q (i :: (i+1) :: rest) a w:=by
  obtain ⟨wS,A,ρ,own,es,c,st,hbl,hr,hks,hnd,hvs,h1m,hsz,hdf⟩:=hds
  have hd1:some t=o1.dst∧t<N:=by
    unfold Kw at hc1
    simp only [Bool.and_eq_true] at hc1
    obtain ⟨q1,q2⟩:=Oc hc1.1.2
    exact ⟨q1,q2 t rfl⟩
  rw [wpOps_cons]
  refine AIx (s:=fun _=>.junk) (draw:=false) (v:=AQj p) (e:=[]) h1 st (fun _=>by simp only [Zl]) hcf hc1 ⟨(fun h=>by cases h),?_⟩ (fun v' w1 A' ρ' own' st' hl hv => ?_)
  · show Pg cf (Xn []) (.clo f []) [.clo p.2.2 []] [.clo p.2.1 [.refv (.clo p.2.2 [])]] [] false prE=_
    show Option.bind (cf f [.clo p.2.2 []] [.clo p.2.1 [.refv (.clo p.2.2 [])]]) _=_
    rw [hg]
    rfl
  · rw [← hd1.1,wpOps_cons]
    have st':St (r+1) ⟨wS,A1⟩ A' ρ' own' w1 (Xn []):=st'
    have hr1:w1.heap[r]?=some (.map es c):=by rw [st'.below.block r (Nat.lt_succ_self r),← st.below.block r (Nat.lt_succ_self r)]; exact hr
    have hrl:r<w1.heap.size:=(Array.getElem?_eq_some_iff.1 hr1).1
    have e1:(a.put (some t) v').eval (.tmp 1)=.map (some r):=by rw [Act.eval_put (fun d hd e=>by cases hd; cases e; exact ht rfl)]; exact h1m
    have e2:(a.put (some t) v').eval (.tmp t)=v':=by
      have:t<a.tmps.size:=by rw [hsz]; exact hd1.2
      simp [Act.put,Act.eval,Array.getD_eq_getD_getElem?,this]
    have hsz1:(a.put (some t) v').tmps.size=N:=by rw [Kl]; exact hsz
    have hdf1:(a.put (some t) v').defers=[]:=by rw [Q3]; exact hdf
    generalize a.put (some t) v'=a1 at e1 e2 hsz1 hdf1
    unfold AMi at hc2
    simp only [Bool.and_eq_true] at hc2
    obtain ⟨⟨hc2,hgd⟩,hdd⟩:=hc2
    split at hc2
    case h_2=>cases hc2
    rename_i T k' t' ho
    simp only [Bool.and_eq_true,beq_iff_eq] at hc2
    obtain ⟨⟨rfl,ht'⟩,hT⟩:=hc2
    have ht':=Nat.eq_of_beq_eq_true ht'
    subst ht'
    unfold ACy at hT
    split at hT
    case h_2=>cases hT
    rename_i key elem u1
    simp only [Bool.and_eq_true] at hT
    obtain ⟨hT,_⟩:=hT
    split at hT
    case h_2=>cases hT
    rename_i u2
    have hgd:o2.guard=none:=by simpa using hgd
    have hdd:o2.dst=none:=by simpa using hdd
    unfold wpOp
    simp only [h2,Region.wanted,hgd,if_true]
    refine .inl ?_
    unfold Oper.wp
    have hobj:(getObj r).run P w1=.ok (.map es c) w1:=by simp only [getObj,Sem.run,hr1]
    have hck:(Instr.checkKey false 10000 key (.int .i64 p.1)).run P w1=.ok () w1:=by
      rw [show (10000:Nat)=9999+1 from rfl,Instr.checkKey]
      simp only [Sem.run_bind,run_underlying u2 w1,Result.andThen_ok]; rfl
    have hks':es.toList.map (·.key)=(l.map (·.1)).map (Value.int .i64):=by rw [hks,List.map_map]; rfl
    have hfn:Instr.findNow (.int .i64) (.int .i64 p.1) es.toList 0=some none:=by
      rcases Nt (k:=.i64) (n:=p.1) es.toList (l.map (·.1)) hks' 0 with ⟨j,e,f1,_,_,_⟩ | ⟨_,f2⟩
      · exact absurd (List.mem_of_getElem? f1) hk
      · exact f2
    have hrun:(execOp a1.eval o2).run P w1=.ok .skip { w1 with heap:=w1.heap.setIfInBounds r (.map (es.push { key:=.int .i64 p.1,val:=v',born:=c }) (c+1)) }:=by
      have e3:a1.eval (.const (.int .i64 p.1))=.int .i64 p.1:=rfl
      simp only [execOp,ho,e1,e2,e3,Instr.mapUpdate,Sem.run_bind,run_underlying u1 w1,Result.andThen_ok,hobj,Sem.run_pure,hck,Instr.findKey,run_underlying u2 w1,hfn,M0 hr1]
    rw [hrun,Oper.upon_skip,hdd]
    generalize hw2:({ w1 with heap:=w1.heap.setIfInBounds r (.map (es.push { key:=.int .i64 p.1,val:=v',born:=c }) (c+1)) }:World)=w2
    have hz2:w2.heap.size=w1.heap.size:=by subst hw2; simp
    have hsame:∀ b,b≠r→w2.heap[b]?=w1.heap[b]?:=fun b hb=>by subst hw2; exact Array.getElem?_setIfInBounds_ne (Ne.symm hb)
    obtain ⟨st2,l2⟩:=st'.anewM hA hz2 hsame
    refine hK _ _ ⟨w2,A',ρ',own',es.push { key:=.int .i64 p.1,val:=v',born:=c },c+1,st2,?_,by subst hw2; simp [hrl],?_,(by rw [List.map_append,List.nodup_append]; exact ⟨hnd,by simp,fun a ha b hb e=>hk (by simp at hb; rw [← hb,← e]; exact ha)⟩),?_,e1,hsz1,hdf1⟩
    · refine (hbl.trans (st'.below.mono (by omega))).trans ⟨?_,?_,?_,by omega,fun k hk=>hsame k (by omega)⟩ <;> (subst hw2; rfl)
    · rw [Array.toList_push,List.map_append,hks,List.map_append]; rfl
    · rw [Array.toList_push,List.map_append,List.map_append]
      exact Ac (l2.repV hv) (Zs.mono l2.hA l2.hρ l2.hw _ (Zs.mono hl.hA hl.hρ hl.hw _ hvs))
theorem Rr {ops:Array Oper} {Q:Exit→Act→World→Prop} {i:Nat} {rest:List Nat} {o:Oper} {a:Act} {w w':World} {v:Value} (hi:ops[i]?=some o) (hg:o.guard=none) (he:(execOp a.eval o).run P w=.ok (.value v) w') (hK:wpOps P ops Q rest (a.put o.dst v) w'):wpOps P ops Q (i :: rest) a w:=by
  rw [wpOps_cons]
  unfold wpOp
  simp only [hi,Region.wanted,hg,if_true]
  refine .inl ?_
  unfold Oper.wp
  rw [he]
  exact hK
theorem BHd {w:World} {A:Nat→Prop} (hA:∀ b,A b→b<w.heap.size) (hgl:Yq A w) {a:Act} (h1:a.eval (.tmp 1)=.map (some w.heap.size)) (hsz:a.tmps.size=N) (hdf:a.defers=[]):DS N w.heap.size w A [] a (w.alloc (.map #[] 0)):=by
  have hold:∀ b,b<w.heap.size→(w.alloc (.map #[] 0)).heap[b]?=w.heap[b]?:=fun b hb=>RowKit.Below.heap_alloc w _ b hb
  refine ⟨w.alloc (.map #[] 0),A,fun _=>none,fun _=>none,#[],0,{ objs:=fun g=>rfl,apart:=(fun b g h=>by cases h),old:=fun b hb=>Nat.lt_trans (hA b hb) (by show w.heap.size<(w.heap.push _).size; simp),oldO:=(fun b g h=>by cases h),base:=(fun b g h=>by cases h),below:=RowKit.Below.refl _ _,hB:=(by show w.heap.size+1≤(w.heap.push _).size; simp),imm:=fun b h=>.inl h,names:=(fun g ⟨s,h⟩=>by cases h),glob:=hgl.mono (fun _ h=>h) (fun b hb=>hold b (hA b hb)) },(RowKit.Below.refl _ w).alloc (Nat.le_refl _) _,?_,rfl,List.nodup_nil,?_,h1,hsz,hdf⟩
  · show (w.heap.push _)[w.heap.size]?=_
    simp
  · show Zs A (fun _=>none) _ [] []
    simp only [Zs]
theorem BHc {w w1:World} {A:Nat→Prop} {l:List (Int×FuncId×FuncId)} {a:Act} (hA:∀ b,A b→b<w.heap.size) (h:DS N w.heap.size w A l a w1):Ht A w w1 [.fmap (l.map (·.1)) (l.map AQj)] [] [.map (some w.heap.size)]:=by
  obtain ⟨wS,A2,ρ,own,es,c,st,hbl,hr,hks,hnd,hvs,h1m,hsz,hdf⟩:=h
  have hrl:w.heap.size<w1.heap.size:=(Array.getElem?_eq_some_iff.1 hr).1
  refine ⟨hbl.trans (st.below.mono (Nat.le_succ _)),fun b=>A2 b∨b=w.heap.size,ρ,fun _=>none,[],rfl,List.nodup_nil,List.nodup_nil,?_,(fun q hq=>by cases hq),(fun b g h=>by cases h),fun b hb => ?_⟩
  · show Zs _ ρ w1 [.fmap _ _] _
    simp only [Zs]
    refine ⟨_,[],rfl,?_,rfl⟩
    simp only [Zl]
    refine ⟨w.heap.size,es,c,rfl,.inr rfl,hr,hnd,es.toList,List.Perm.refl _,by rw [hks,List.map_map]; rfl,Zs.mono (fun _ h=>.inl h) (fun _ _ h=>h) (fun _ _=>rfl) _ hvs⟩
  · rcases hb with hb | rfl
    · refine ⟨(st.imm b hb).elim (fun h=>.inl h) (fun h=>.inr (by omega)),st.old b hb⟩
    · exact ⟨.inr (Nat.le_refl _),hrl⟩
end
theorem BHq:Tryz.prog.follows .mixedOrders=true:=by kernel_rfl
theorem AEc {w:World} {A:Nat→Prop} (hA:∀ b,A b→b<w.heap.size) (hgl:Yq A w):Go.Calls Tryz.prog 27 #[] w (fun e w'=>∃ vals,e=.returned (Je vals)∧Ht A w w' [.fmap (ACl.map (·.1)) (ACl.map AQj)] [] vals):=by
  have hcf:Vw Tryz.prog (Vy prog Yl 3):=Wb BHq X1 Cf 3
  refine calls_of_wp Tryz.func27 rfl ?_
  refine wp_seq (wp_region ?_)
  refine Rr (i:=0) rfl rfl (v:=.map none) (w':=w) rfl ?_
  refine wp_seq (wp_region ?_)
  refine Rr (i:=0) rfl rfl (v:=.map (some w.heap.size)) (w':=w.alloc (.map #[] 0)) rfl ?_
  generalize hga:Act.put (Act.put { tmps:=_,defers:=_ } _ _) _ _=ga
  have hds:DS 13 w.heap.size w A [] ga (w.alloc (.map #[] 0)):=BHd hA hgl (by subst hga; rfl) (by subst hga; rfl) (by subst hga; rfl)
  refine Hl (cf:=Vy prog Yl 3) hcf hA (Nat.le_refl _) (i:=1) rfl rfl (t:=2) (p:=(1,(64,38))) (f:=37) (by kernel_rfl) (by kernel_rfl) (by kernel_rfl) (by decide) (by decide) hds (fun a1 w1 hds => ?_)
  refine Hl (cf:=Vy prog Yl 3) hcf hA (Nat.le_refl _) (i:=3) rfl rfl (t:=3) (p:=(2,(64,40))) (f:=37) (by kernel_rfl) (by kernel_rfl) (by kernel_rfl) (by decide) (by decide) hds (fun a1 w1 hds => ?_)
  refine Hl (cf:=Vy prog Yl 3) hcf hA (Nat.le_refl _) (i:=5) rfl rfl (t:=4) (p:=(3,(69,43))) (f:=42) (by kernel_rfl) (by kernel_rfl) (by kernel_rfl) (by decide) (by decide) hds (fun a1 w1 hds => ?_)
  refine Hl (cf:=Vy prog Yl 3) hcf hA (Nat.le_refl _) (i:=7) rfl rfl (t:=5) (p:=(4,(69,45))) (f:=42) (by kernel_rfl) (by kernel_rfl) (by kernel_rfl) (by decide) (by decide) hds (fun a1 w1 hds => ?_)
  refine Hl (cf:=Vy prog Yl 3) hcf hA (Nat.le_refl _) (i:=9) rfl rfl (t:=6) (p:=(5,(69,47))) (f:=42) (by kernel_rfl) (by kernel_rfl) (by kernel_rfl) (by decide) (by decide) hds (fun a1 w1 hds => ?_)
  refine Hl (cf:=Vy prog Yl 3) hcf hA (Nat.le_refl _) (i:=11) rfl rfl (t:=7) (p:=(6,(69,49))) (f:=42) (by kernel_rfl) (by kernel_rfl) (by kernel_rfl) (by decide) (by decide) hds (fun a1 w1 hds => ?_)
  refine Hl (cf:=Vy prog Yl 3) hcf hA (Nat.le_refl _) (i:=13) rfl rfl (t:=8) (p:=(7,(69,51))) (f:=42) (by kernel_rfl) (by kernel_rfl) (by kernel_rfl) (by decide) (by decide) hds (fun a1 w1 hds => ?_)
  refine Hl (cf:=Vy prog Yl 3) hcf hA (Nat.le_refl _) (i:=15) rfl rfl (t:=9) (p:=(8,(69,53))) (f:=42) (by kernel_rfl) (by kernel_rfl) (by kernel_rfl) (by decide) (by decide) hds (fun a1 w1 hds => ?_)
  refine Hl (cf:=Vy prog Yl 3) hcf hA (Nat.le_refl _) (i:=17) rfl rfl (t:=10) (p:=(9,(100,55))) (f:=54) (by kernel_rfl) (by kernel_rfl) (by kernel_rfl) (by decide) (by decide) hds (fun a1 w1 hds => ?_)
  refine Hl (cf:=Vy prog Yl 3) hcf hA (Nat.le_refl _) (i:=19) rfl rfl (t:=11) (p:=(10,(100,56))) (f:=54) (by kernel_rfl) (by kernel_rfl) (by kernel_rfl) (by decide) (by decide) hds (fun a1 w1 hds => ?_)
  obtain ⟨wS,A2,ρ,own,es,c,st,hbl,hr,hks,hnd,hvs,h1m,hsz,hdf⟩:=id hds
  refine Rr (i:=21) rfl rfl (v:=.map (some w.heap.size)) (w':=w1) ?_ ?_
  · show Result.ok (Next.value (a1.eval (.tmp 1))) w1=_
    rw [h1m]
  refine Rr (i:=22) rfl rfl (v:=.map (some w.heap.size)) (w':=w1) ?_ ?_
  · show Result.ok (Next.value ((a1.put (some 12) (.map (some w.heap.size))).eval (.tmp 12))) w1=_
    have:12<a1.tmps.size:=by rw [hsz]; decide
    simp [Act.put,Act.eval,Array.getD_eq_getD_getElem?,this]
  refine wp_ret ⟨by show ((a1.put (some 12) _).put (some 0) _).defers=[]; rw [Q3,Q3]; exact hdf,.map (some w.heap.size),?_,[.map (some w.heap.size)],rfl,BHc hA hds⟩
  rw [results_tmp (t:=0) rfl]
  have:0<(a1.put (some 12) (.map (some w.heap.size))).tmps.size:=by rw [Kl,hsz]; decide
  show Result.ok (((a1.put (some 12) (.map (some w.heap.size))).put (some 0) (.map (some w.heap.size))).tmps.getD 0 undef) w1=_
  generalize a1.put (some 12) (.map (some w.heap.size))=a2 at this
  simp [Act.put,Array.getD_eq_getD_getElem?,this]
end Go.Proofs.YtjobjooccgledaaGreatDoor.Ghost
