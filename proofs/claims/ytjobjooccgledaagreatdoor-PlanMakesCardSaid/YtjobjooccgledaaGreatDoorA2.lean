/- Operations do what the ghost's do. Conditions: none. -/
import Derived.Test.YtjobjooccgledaaGreatDoorA1
import Derived.Laws.MakeOwn
import Derived.Great.BuildSlice
import Derived.Laws.Append
set_option linter.unusedVariables false
set_option linter.unusedSimpArgs false
set_option linter.unusedSectionVars false
set_option linter.unnecessarySimpa false
namespace Go.Proofs.YtjobjooccgledaaGreatDoor.Ghost
open Go
section
variable {P:Program} {o:Oper} {a:Act} {w:World} {B:Nat} {w0:Y6} {A:Nat→Prop} {ρ:Xf} {own:Nat→Option Nat} {h:Nat→Obj} {s:Nat→SV}
def AC1 (P:Program):LT→TypeId→Bool
  | .d τ,t=>Xx P τ t && Jr P t (Zj τ)
  | .v agg n,t=>(match P.underlying t with | some d=>d.isRow == agg | none=>false) && Jr P t n
def ltN:LT→Nat
  | .d τ=>Zj τ
  | .v _ n=>n
def ltA:LT→Bool
  | .d τ=>Ua τ
  | .v g _=>g
theorem Ea {t:LT} {T:TypeId} (hc:AC1 P t T=true):(∃ d,P.underlying T=some d∧d.isRow=ltA t)∧Jr P T (ltN t)=true:=by
  cases t with
  | d τ =>
    simp only [AC1,Bool.and_eq_true] at hc
    exact ⟨E9 hc.1,hc.2⟩
  | v g n =>
    simp only [AC1,Bool.and_eq_true] at hc
    refine ⟨?_,hc.2⟩
    split at hc
    · rename_i d hd; exact ⟨d,hd,by simpa [ltA] using hc.1⟩
    · simp at hc
def mkA (g:Bool) (cs:List Value):Value:=match g with
  | true=>.agg cs.toArray
  | false=>cs.headD undef
theorem Ro {T:TypeId} {d:TypeDesc} {g:Bool} {cs:List Value} {b k:Nat} (hu:P.underlying T=some d) (hd:d.isRow=g) (hz:Jr P T cs.length=true) (hr:w.rangeAt b k cs)
    (h1:g=false→∃ v,cs=[v]):(Instr.loadAt T (.pointer (some ⟨b,k,none⟩))).run P w=.ok (mkA g cs) w:=by
  cases g with
  | true=>exact run_loadAt_mid w b k T cs d hr hu hd (AHm hz)
  | false =>
    obtain ⟨v,rfl⟩:=h1 rfl
    have hv:=hr 0 v rfl
    simp only [Nat.add_zero] at hv
    simp [Instr.loadAt,Instr.sureAddr,loadVar,Ah hu w,hd,load,Sem.run,hv,mkA]
theorem AIm {t:LT} {u:SV} {v:Value} (hk:okL t u=true) (hv:Zl A ρ w u v) :
    mkA (ltA t) v.cells.toList=v∧v.cells.toList.length=ltN t∧(ltA t=false→∃ c,v.cells.toList=[c]):=by
  cases t with
  | d τ =>
    cases u with
    | dat σ x ov =>
      simp only [okL] at hk
      split at hk
      · rename_i pl _
        have:=pl.down
        subst this
        simp only [Zl] at hv
        obtain ⟨cs,h1,rfl⟩:=hv
        rw [Ji h1]
        exact ⟨rfl,Zm.length σ h1,fun ha=>AAn h1 ha⟩
      · cases hk
    | _=>simp [okL] at hk
  | v g n =>
    cases g with
    | true =>
      cases u with
      | agv us =>
        simp only [okL] at hk
        have:=Nat.eq_of_beq_eq_true hk
        simp only [Zl] at hv
        obtain ⟨vs,rfl,h2,h3⟩:=hv
        refine ⟨by simp [ltA,mkA,Value.cells],?_,by simp [ltA]⟩
        simp only [Value.cells,ltN,U4 us vs h2 h3]
        exact this
      | _=>simp [okL] at hk
    | false =>
      cases u with
      | clo f caps =>
        simp only [okL] at hk
        have:=Nat.eq_of_beq_eq_true hk
        simp only [Zl] at hv
        obtain ⟨vs,rfl,_⟩:=hv
        exact ⟨rfl,by simp [Value.cells,ltN,this],fun _=>⟨_,rfl⟩⟩
      | nilfn =>
        simp only [okL] at hk
        have:=Nat.eq_of_beq_eq_true hk
        simp only [Zl] at hv
        subst hv
        exact ⟨rfl,by simp [Value.cells,ltN,this],fun _=>⟨_,rfl⟩⟩
      | fmap ks us =>
        simp only [okL] at hk
        have:=Nat.eq_of_beq_eq_true hk
        simp only [Zl] at hv
        obtain ⟨b,es,c,rfl,_⟩:=hv
        exact ⟨rfl,by simp [Value.cells,ltN,this],fun _=>⟨_,rfl⟩⟩
      | _=>simp [okL] at hk
def ACf (P:Program) (o:Oper) (t:LT) (x:Opd):Bool:=match o.op with
  | .load T y=>AC1 P t T && Xp x y
  | _=>false
theorem Ge {b k:Nat} {cs:List Value} (hr:w.rangeAt b 0 cs) (n:Nat):w.rangeAt b k (cut cs k n):=by
  have:=K3 hr k n
  rwa [Nat.zero_add] at this
section
variable (st:St B w0 A ρ own w h) (hs:Xh A ρ w s a)
include st hs
omit hs in
theorem AFf {t:LT} {T:TypeId} {z0:SV} {zv:Value} (hT:AC1 P t T=true) (k1:Zl A ρ w z0 zv) {R:Type} {K:SV→Option R} {r:R} (hg:Fa t h z0 K=some r) :
    ∃ v v',K v=some r∧Zl A ρ w v v'∧(∃ b k,zv=.pointer (some ⟨b,k,none⟩))∧(Instr.loadAt T zv).run P w=.ok v' w:=by
  obtain ⟨⟨d,hu,hd⟩,hz⟩:=Ea hT
  have fin:∀ (b k:Nat) (u:SV) (u':Value),zv=.pointer (some ⟨b,k,none⟩)→Zl A ρ w u u'→w.rangeAt b k u'.cells.toList →
      (match okL t u with | true=>K u | false=>none)=some r→∃ v v',K v=some r∧Zl A ρ w v v'∧(∃ b k,zv=.pointer (some ⟨b,k,none⟩))∧(Instr.loadAt T zv).run P w=.ok v' w:=fun b k u u' h1 h2 h3 h4=>by
    cases hk:okL t u with
    | false=>rw [hk] at h4; cases h4
    | true =>
      rw [hk] at h4
      obtain ⟨e1,e2,e3⟩:=AIm hk h2
      refine ⟨u,u',h4,h2,⟨b,k,h1⟩,?_⟩
      have:=Ro (P:=P) hu hd (by rw [e2]; exact hz) h3 e3
      rw [e1] at this
      rw [h1]
      exact this
  have box:∀ (g:Nat) (p:Z8) (τ:Ty) (z:den τ) (ov:Ov) (M:K1→List Value→Prop),(∀ s cs,M s cs→w.rangeAt s.b 0 cs)→z0=.ptr g p→Tk A ρ w g τ z ov M →
      Et τ z ov p (fun v=>match okL t v with | true=>K v | false=>none)=some r→∃ v v',K v=some r∧Zl A ρ w v v'∧(∃ b k,zv=.pointer (some ⟨b,k,none⟩))∧(Instr.loadAt T zv).run P w=.ok v' w:=fun g p τ z ov M hM hx' hb hf=>by
    obtain ⟨sp,cs,n1,n2,n3,n4,n5,n6⟩:=hb
    rw [hx'] at k1
    obtain ⟨q1,q2⟩:=Hj k1 n1 n2
    rw [n4] at q1
    unfold Et at hf
    split at hf
    · rename_i d hd'
      have hp:=Zm.getP τ p n6 q1 hd'
      refine fin _ _ _ (mkV d.τ (cut cs (Jd τ p) (Zj d.τ))) q2 (by simp only [Zl]; exact ⟨_,hp,rfl⟩) ?_ hf
      rw [Ji hp,n3]
      exact Ge (hM _ _ n5) _
    · cases hf
  have boxv:∀ (g:Nat) (p:Z8) (u:SV) (M:K1→List Value→Prop),(∀ s cs,M s cs→w.rangeAt s.b 0 cs)→z0=.ptr g p→Uy A ρ w g u M →
      (match getV u p with | some u=>(fun v=>match okL t v with | true=>K v | false=>none) u | none=>none)=some r→∃ v v',K v=some r∧Zl A ρ w v v'∧(∃ b k,zv=.pointer (some ⟨b,k,none⟩))∧(Instr.loadAt T zv).run P w=.ok v' w:=fun g p u M hM hx' hb hf=>by
    obtain ⟨sp,v,n1,n2,n3,n4,_,n5,n6⟩:=hb
    rw [hx'] at k1
    obtain ⟨q1,q2⟩:=Hj k1 n1 n2
    split at hf
    · rename_i u' hu'
      obtain ⟨v',w1,w2⟩:=Zl.getV u n6 hu'
      refine fin _ _ _ v' q2 w1 ?_ hf
      rw [w2,n3]
      exact Ge (hM _ _ n5) _
    · cases hf
  have arr:∀ (g i:Nat) (p:Z8) (e:Ty) (l:List (den e)) (M:K1→List Value→Prop),(∀ s cs,M s cs→w.rangeAt s.b 0 cs)→z0=.elp g i p→V4 A ρ w g e l M →
      Et e (List.getD l i (dft e)) [] p (fun v=>match okL t v with | true=>K v | false=>none)=some r→∃ v v',K v=some r∧Zl A ρ w v v'∧(∃ b k,zv=.pointer (some ⟨b,k,none⟩))∧(Instr.loadAt T zv).run P w=.ok v' w:=fun g i p e l M hM hx' hb hf=>by
    obtain ⟨sp,n1,n2,n3,n4,n5,n6,n7,n8,n9⟩:=hb
    rw [hx'] at k1
    obtain ⟨q0,q1,q2⟩:=Ab k1 n1
    rw [n6] at q1
    obtain ⟨cs,m1,m2,m3⟩:=n9 (by omega)
    unfold Et at hf
    split at hf
    · rename_i d hd'
      have h3:=m3 i q0
      have hp:=Zm.getP e p h3 q1 hd'
      have hle:=Oo e p _ d q1 hd'
      rw [← n3] at hle
      rw [P9 _ _ _ _ _ hle] at hp
      refine fin _ _ _ (mkV d.τ (cut cs (i * sp.es+Jd e p) (Zj d.τ))) q2 (by simp only [Zl]; exact ⟨_,hp,rfl⟩) ?_ hf
      rw [Ji hp,n5]
      exact Ge (hM _ _ m2) _
    · cases hf
  have hO:∀ (g:Nat) (s:K1) (cs:List Value),Own own w g s cs→w.rangeAt s.b 0 cs:=fun _ _ _ hm=>hm.2.1
  have hS:∀ (s:K1) (cs:List Value),ADq A w s cs→w.rangeAt s.b 0 cs:=fun _ _ hm=>hm.2
  obtain ⟨z1,hz1⟩:∃ z1,z1=z0:=⟨z0,rfl⟩
  rw [← hz1] at hg
  unfold Fa I9 at hg
  split at hg
  · rename_i τ z
    have hx':=hz1.symm
    rw [hx'] at k1
    simp only [Zl] at k1
    obtain ⟨b,k,cs,q1,q2,q3,q4⟩:=k1
    exact fin b k _ (mkV τ cs) q1 (by simp only [Zl]; exact ⟨cs,q4,rfl⟩) (by rw [Ji q4]; exact q3) hg
  · rename_i u
    have hx':=hz1.symm
    rw [hx'] at k1
    simp only [Zl] at k1
    obtain ⟨b,k,v,q1,q2,q3,q4⟩:=k1
    exact fin b k _ v q1 q4 q3 hg
  · rename_i f us
    have hx':=hz1.symm
    have k0:=k1
    rw [hx'] at k0 k1
    rw [Zl] at k1
    obtain ⟨b,k,q1,q2,vs,q3,q4⟩:=k1
    exact fin b k _ (.func (.func f) #[] (zv :: vs).toArray) q1 (by rw [Zl]; exact ⟨_,rfl,by rw [Zs]; exact ⟨_,_,rfl,k0,q4⟩⟩) q3 hg
  · rename_i k
    have hx':=hz1.symm
    rw [hx'] at k1
    simp only [Zl] at k1
    split at hg
    · rename_i d hd
      obtain ⟨_,cs,g1,g2⟩:=st.glob.1 k d hd
      have g1:=Zm.mono (ρ':=ρ) (fun _ h=>h) (fun _ _ h=>by cases h) (fun _ _=>rfl) d.τ g1
      exact fin k 0 _ (mkV d.τ cs) k1 (by simp only [Zl]; exact ⟨cs,g1,rfl⟩) (by rw [Ji g1]; exact g2) hg
    · split at hg
      · rename_i q hq
        obtain ⟨_,v,g1,g2⟩:=st.glob.2 k q hq
        have hv:=Zl.mono (ρ':=ρ) (fun _ h=>h) (fun _ _ h=>by cases h) (fun _ _=>rfl) _ g1
        refine fin k 0 _ v k1 hv ?_ hg
        simp only [Zl] at g1
        obtain ⟨b,es,c,rfl,_⟩:=g1
        exact g2
      · cases hg
  · rename_i g p
    have hx':=hz1.symm
    have ob:=st.objs g
    split at hg
    · rename_i τ z ov hh; rw [hh] at ob; exact box g p τ z ov _ (hO g) hx' ob hg
    · rename_i τ z ov hh; rw [hh] at ob; exact box g p τ z ov _ hS hx' ob hg
    · rename_i u hh; rw [hh] at ob; exact boxv g p u _ (hO g) hx' ob hg
    · rename_i u hh; rw [hh] at ob; exact boxv g p u _ hS hx' ob hg
    · cases hg
  · rename_i g i p
    have hx':=hz1.symm
    have ob:=st.objs g
    split at hg
    · rename_i e l hh; rw [hh] at ob; exact arr g i p e l _ (hO g) hx' ob hg
    · rename_i e l hh; rw [hh] at ob; exact arr g i p e l _ hS hx' ob hg
    · cases hg
  · cases hg
theorem AJy {t:LT} {x:Opd} (hc:ACf P o t x=true) {R:Type} {K:SV→Option R} {r:R} (hg:Fa t h (evO s x) K=some r) :
    ∃ v,K v=some r∧Zw P o a w B w0 A ρ v h:=by
  unfold ACf at hc
  split at hc
  case h_2=>cases hc
  rename_i T y ho
  simp only [Bool.and_eq_true] at hc
  obtain ⟨hT,hx⟩:=hc
  obtain ⟨v,v',h1,h2,_,h3⟩:=AFf st hT (X4 hs hx) hg
  refine ⟨v,h1,Zw.pure st (v':=v') ?_ h2⟩
  simp only [execOp,ho,Sem.run_bind,h3,Result.andThen_ok,Sem.run_pure]
end
theorem Um (b:Nat):(vs:List Value)→(o:Nat)→(w:World)→(b':Nat)→b'≠b→(w.setCells b o vs).heap[b']?=w.heap[b']?
  | [],_,_,_,_=>rfl
  | v :: r,o,w,b',hb=>by
    rw [World.setCells,Um b r _ _ b' hb]
    exact RowKit.Below.heap_setCell w ⟨b,o,none⟩ v b' hb
theorem T2 {B:Nat} (b:Nat) (hb:B≤b):(vs:List Value)→(o:Nat)→(w:World)→RowKit.Below B w (w.setCells b o vs)
  | [],_,w=>RowKit.Below.refl B w
  | v :: r,o,w=>by
    rw [World.setCells]
    exact ((RowKit.Below.refl B w).setCell (p:=⟨b,o,none⟩) hb v).trans (T2 b hb r _ _)
theorem U6 (b:Nat):(vs:List Value)→(o:Nat)→(w:World)→(w.setCells b o vs).heap.size=w.heap.size
  | [],_,_=>rfl
  | v :: r,o,w=>by
    rw [World.setCells,U6 b r]; simp [World.setCell]
theorem N7 {b k:Nat} {cs ds:List Value} (hr:w.rangeAt b 0 cs) (hl:k+ds.length≤cs.length):(w.setCells b k ds).rangeAt b 0 (Vq cs k ds):=fun j v hv=>by
  rw [Qy hl] at hv
  have hsome:∀ i,i<cs.length→(w.cell? ⟨b,i,none⟩).isSome=true:=fun i hi=>by
    have:=hr i cs[i] (List.getElem?_eq_getElem hi)
    rw [Nat.zero_add] at this
    rw [this]; rfl
  rw [Nat.zero_add]
  by_cases h1:j<k
  · rw [if_pos h1] at hv
    rw [World.cell?_setCells_out b ds k w _ (fun _ _=>.inl h1)]
    have:=hr j v hv
    rwa [Nat.zero_add] at this
  · rw [if_neg h1] at hv
    by_cases h2:j<k+ds.length
    · rw [if_pos h2] at hv
      have:=World.cell?_setCells_in b ds k w (fun i hi=>hsome _ (by omega)) (j - k) (by omega)
      rw [show k+(j - k)=j by omega] at this
      rw [this,← hv,List.getElem?_eq_getElem (by omega)]
    · rw [if_neg h2] at hv
      rw [World.cell?_setCells_out b ds k w _ (fun _ _=>.inr (by simpa using h2))]
      have:=hr j v hv
      rwa [Nat.zero_add] at this
theorem Ul {T:TypeId} {v:Value} {b k:Nat} (hz:Jr P T v.cells.size=true) (ht:w.there b k v.cells.size) (h1:∀ c∈v.cells.toList,c.oneCell'=true) :
    (Instr.storeAt T (.pointer (some ⟨b,k,none⟩)) v).run P w=.ok () (w.setCells b k v.cells.toList):=by
  have:=run_storeCells_cells (P:=P) b k v.cells.toList 0 w (fun j hj=>by simpa using (ht j (by simpa using hj)).1) (fun j hj=>by simpa using (ht j (by simpa using hj)).2) h1
  rw [Nat.add_zero] at this
  simp [Instr.storeAt,Instr.sureAddr,storeVar,J7 hz,this]
end
end Go.Proofs.YtjobjooccgledaaGreatDoor.Ghost
namespace Go.Proofs.YtjobjooccgledaaGreatDoor.Ghost
open Go
mutual
theorem Dq:(u v:SV)→Fh u v=true→Jb u=Jb v∧(∀ p,Wp u p=Wp v p)∧(∀ p,okV u p↔okV v p)
  | .agv us,.agv vs,h=>by
    simp only [Fh] at h
    obtain ⟨h1,h2,h3⟩:=Fj us vs h
    refine ⟨by simp only [Jb]; exact h1,fun p => ?_,fun p => ?_⟩
    · cases p with
      | nil=>rfl
      | cons i p=>simp only [Wp]; exact h2 i p
    · cases p with
      | nil=>simp [okV,getV]
      | cons i p=>simp only [okV,getV]; exact h3 i p
  | .dat τ x [],.dat σ y [],h=>by
    simp only [Fh] at h
    split at h
    · rename_i pl _
      have:=pl.down
      subst this
      refine ⟨rfl,fun p=>by cases p <;> rfl,fun p => ?_⟩
      cases p <;> simp [okV,getV]
    · cases h
  | .nilfn,.nilfn,_=>⟨rfl,fun p=>by cases p <;> rfl,fun p=>by cases p <;> simp [okV,getV]⟩
  | .nilfn,.clo _ _,_=>⟨rfl,fun p=>by cases p <;> rfl,fun p=>by cases p <;> simp [okV,getV]⟩
  | .clo _ _,.nilfn,_=>⟨rfl,fun p=>by cases p <;> rfl,fun p=>by cases p <;> simp [okV,getV]⟩
  | .clo _ _,.clo _ _,_=>⟨rfl,fun p=>by cases p <;> rfl,fun p=>by cases p <;> simp [okV,getV]⟩
theorem Fj:(us vs:List SV)→Fi us vs=true→Hc us=Hc vs∧(∀ i p,G2 us i p=G2 vs i p)∧(∀ i p,(∃ x,getV.getVL us i p=some x)↔∃ x,getV.getVL vs i p=some x)
  | [],[],_=>⟨rfl,fun _ _=>rfl,fun _ _=>Iff.rfl⟩
  | u :: r,v :: s,h=>by
    simp only [Fi,Bool.and_eq_true] at h
    obtain ⟨h1,h2,h3⟩:=Dq u v h.1
    obtain ⟨k1,k2,k3⟩:=Fj r s h.2
    refine ⟨by simp only [Hc,h1,k1],fun i p => ?_,fun i p => ?_⟩
    · cases i with
      | zero=>simp only [G2]; exact h2 p
      | succ i=>simp only [G2,h1,k2 i p]
    · cases i with
      | zero=>simp only [getV.getVL]; exact h3 p
      | succ i=>simp only [getV.getVL]; exact k3 i p
end
section
variable {P:Program} {o:Oper} {a:Act} {w:World} {B:Nat} {w0:Y6} {A:Nat→Prop} {ρ:Xf} {own:Nat→Option Nat} {h:Nat→Obj} {s:Nat→SV}
def Ij (P:Program) (o:Oper) (t:LT) (x y:Opd):Bool:=match o.op with
  | .store T x' y'=>AC1 P t T && Xp x x' && Xp y y'
  | _=>false
theorem AIl {t:LT} {u:SV} {v:Value} (hk:okL t u=true) (hv:Zl A ρ w u v):∀ c∈v.cells.toList,c.oneCell'=true:=by
  cases u with
  | dat τ x ov=>exact Zl.one (n:=Zj τ) (by simp [Hy,Jb]) hv
  | agv us=>exact Zl.one (n:=Hc us) (by simp [Hy,Jb]) hv
  | clo f cs=>exact Zl.one (n:=1) (by simp [Hy,Jb]) hv
  | nilfn=>exact Zl.one (n:=1) (by simp [Hy,Jb]) hv
  | fmap ks us=>exact Zl.one (n:=1) (by simp [Hy,Jb]) hv
  | _=>cases t with
    | d τ=>simp [okL] at hk
    | v g n=>cases g <;> simp [okL] at hk
theorem St.write (st:St B w0 A ρ own w h) {g:Nat} {sp:K1} {w':World} {o':Obj} (hown:own sp.b=some g) (hw:∀ b,b≠sp.b→w'.heap[b]?=w.heap[b]?)
    (hb:RowKit.Below B w w') (hz:w'.heap.size=w.heap.size) (ho:X9 A ρ w A ρ w'→Vn A ρ own w' g o') (hn:o'≠.none) :
    St B w0 A ρ own w' (fun i=>if i=g then o' else h i)∧X9 A ρ w A ρ w':=by
  have hl:X9 A ρ w A ρ w':=⟨fun _ h=>h,fun _ _ h=>h,fun b hA=>hw b fun e=>st.apart _ _ hown (e ▸ hA)⟩
  refine ⟨st.turn (fun i=>i=g) hl (fun b g' h1 h2=>hw b fun e => ?_) (fun _ _ h1 _=>h1) (fun _ _ h1=>h1) (fun i hi=>if_neg hi) (fun i hi => ?_) (fun i hi => ?_)
    st.apart (fun b hb=>by rw [hz]; exact st.old b hb) (fun b g hb=>by rw [hz]; exact st.oldO b g hb) st.base hb (fun _ h1=>.inl h1),hl⟩
  · rw [e,hown] at h1
    cases h1
    exact h2 rfl
  · subst hi; rw [if_pos rfl]; exact ho hl
  · subst hi; rw [if_pos rfl]; exact hn
variable (st:St B w0 A ρ own w h) (hs:Xh A ρ w s a)
include st hs
theorem Bm {t:LT} {x y:Opd} (hc:Ij P o t x y=true) (hk:okL t (evO s y)=true) {R:Type} {K:SV→Eff→Option R} {r:R}
    (hg:R9 h (evO s x) (evO s y) (fun e=>K .junk e)=some r):∃ v e,K v e=some r∧Zw P o a w B w0 A ρ v (X7 h e):=by
  unfold Ij at hc
  split at hc
  case h_2=>cases hc
  rename_i T x' y' ho
  simp only [Bool.and_eq_true] at hc
  obtain ⟨⟨hT,hx⟩,hy⟩:=hc
  have k1:=X4 hs hx
  have k2:=X4 hs hy
  obtain ⟨_,hz⟩:=Ea hT
  obtain ⟨_,e2,_⟩:=AIm hk k2
  have h1:=AIl hk k2
  have fin:∀ (g:Nat) (sp:K1) (cs:List Value) (k:Nat) (o':Obj),Own own w g sp cs→a.eval x'=.pointer (some ⟨sp.b,k,none⟩)→k+(a.eval y').cells.toList.length≤cs.length→o'≠.none →
      (∀ w',X9 A ρ w A ρ w'→Own own w' g sp (Vq cs k (a.eval y').cells.toList)→Vn A ρ own w' g o')→Zw P o a w B w0 A ρ .junk (X7 h [(g,o')]):=fun g sp cs k o' ⟨n1,n2,n3⟩ q2 hle hn ho'=>by
    have hrun:=Ul (P:=P) (w:=w) (T:=T) (v:=a.eval y') (b:=sp.b) (k:=k) (by rw [← Array.length_toList,e2]; exact hz)
      (fun j hj=>by have:=n3 (k+j) (by simp at hle; omega); rwa [Nat.zero_add] at this) h1
    have hw:=st.write (w':=w.setCells sp.b k (a.eval y').cells.toList) (o':=o') n1 (fun b hb=>Um sp.b _ k w b hb) (T2 sp.b (st.base _ _ n1) _ k w) (U6 sp.b _ k w)
      (fun hl=>ho' _ hl ⟨n1,N7 n2 hle,by rw [J5 hle]; exact World.there_setCells n3 sp.b k _⟩) hn
    refine Zw.skip (w':=w.setCells sp.b k (a.eval y').cells.toList) ?_ hw.1 hw.2 (by simp only [Zl])
    simp only [execOp,ho,q2,Sem.run_bind,hrun,Result.andThen_ok,Sem.run_pure]
  unfold R9 at hg
  split at hg
  · rename_i g p hx'
    rw [hx'] at k1
    have ob:=st.objs g
    split at hg
    · rename_i τ z ov hh
      rw [hh] at ob
      obtain ⟨sp,cs,n1,n2,n3,n4,n5,n6⟩:=ob
      obtain ⟨q1,q2⟩:=Hj k1 n1 n2
      rw [n4] at q1
      split at hg
      · rename_i σ q ov' hy'
        rw [hy'] at k2
        simp only [Zl] at k2
        obtain ⟨ds,w1,w2⟩:=k2
        have w3:(a.eval y').cells.toList=ds:=by rw [w2,Ji w1]
        split at hg
        · rename_i z' hz'
          have hle:=Uw τ p z z' ⟨σ,q⟩ q1 hz'
          refine ⟨_,_,hg,fin g sp cs (sp.off p) _ n5 q2 ?_ (by simp) fun w' hl hO => ?_⟩
          · rw [w3,Zm.length σ w1,Zm.length τ n6,n3]; exact hle
          · rw [w3,n3] at hO
            exact ⟨sp,_,n1,n2,n3,n4,hO,Zm.setP τ p (hl.repC n6) q1 hz' (hl.repC w1) (U7.merge p ov ov')⟩
        · cases hg
      · cases hg
    · rename_i u hh
      rw [hh] at ob
      obtain ⟨sp,v,n1,n2,n3,n4,n5,n6,n7⟩:=ob
      obtain ⟨q1,q2⟩:=Hj k1 n1 n2
      split at hg
      · rename_i hlay
        obtain ⟨l1,l2,l3⟩:=Dq u (evO s y) hlay
        have hj:evO s y≠.junk:=fun e=>by
          rw [e] at hk
          cases t with
          | d τ=>simp [okL] at hk
          | v g n=>cases g <;> simp [okL] at hk
        have e3:(a.eval y').cells.toList.length=v.cells.toList.length:=by
          rw [Array.length_toList,Array.length_toList,Zl.size hj k2,Zl.size n5 n7,l1]
        have h0:sp.off []=0:=by rw [n3]; cases u <;> rfl
        rw [h0] at q2
        have n5':=n5
        refine ⟨_,_,hg,fin g sp v.cells.toList 0 _ n6 q2 (by omega) (by simp) fun w' hl hO => ?_⟩
        have:Vq v.cells.toList 0 (a.eval y').cells.toList=(a.eval y').cells.toList:=by
          unfold Vq
          rw [List.drop_eq_nil_of_le (by omega)]; simp
        rw [this] at hO
        exact ⟨sp,_,n1,n2,by rw [n3]; exact funext l2,by rw [n4]; exact funext fun p=>propext (l3 p),hj,hO,hl.repV k2⟩
      · cases hg
    · cases hg
  · rename_i g i p hx'
    rw [hx'] at k1
    have ob:=st.objs g
    split at hg
    · rename_i e l hh
      rw [hh] at ob
      obtain ⟨sp,n1,n2,n3,n4,n5,n6,n7,n8,n9⟩:=ob
      obtain ⟨q0,q1,q2⟩:=Ab k1 n1
      rw [n6] at q1
      obtain ⟨cs,m1,m2,m3⟩:=n9 (by omega)
      split at hg
      · rename_i σ q hy'
        rw [hy'] at k2
        simp only [Zl] at k2
        obtain ⟨ds,w1,w2⟩:=k2
        have w3:(a.eval y').cells.toList=ds:=by rw [w2,Ji w1]
        split at hg
        · rename_i z' hz'
          have hle:Jd e p+Zj σ≤Zj e:=Uw e p _ z' ⟨σ,q⟩ q1 hz'
          have hds:=Zm.length σ w1
          have h4:(i+1) * Zj e≤sp.cap * Zj e:=Nat.mul_le_mul_right _ (by omega)
          rw [Nat.add_mul,Nat.one_mul] at h4
          rw [n3] at m1 m3 q2
          have hle':i * Zj e+sp.off p+ds.length≤cs.length:=by rw [n5,hds]; omega
          refine ⟨_,_,hg,fin g sp cs (i * Zj e+sp.off p) _ m2 q2 (by rw [w3]; exact hle') (by simp) fun w' hl hO => ?_⟩
          rw [w3] at hO
          refine ⟨sp,n1,n2,n3,n4,n5,n6,by simpa using n7,n8,fun _=>⟨_,by rw [n3,J5 hle']; exact m1,hO,fun j hj => ?_⟩⟩
          rw [n3]
          have h4':(j+1) * Zj e≤sp.cap * Zj e:=Nat.mul_le_mul_right _ (by omega)
          rw [Nat.add_mul,Nat.one_mul] at h4'
          by_cases hji:j=i
          · subst hji
            have h5:=Zm.setP e p (hl.repC (m3 j hj)) q1 hz' (hl.repC w1) (U7.merge p [] [])
            rw [U1 (by omega) (by rw [n5,hds]; exact hle),n5]
            have:List.getD (List.set l j z') j (dft e)=z':=by
              rw [List.getD_eq_getElem?_getD,List.getElem?_set_self (by omega)]; rfl
            rw [this]
            exact Zm.ov e (fun ee=>by rw [N3,Mu,Tw]; simp) h5
          · have:List.getD (List.set l i z') j (dft e)=List.getD l j (dft e):=by
              rw [List.getD_eq_getElem?_getD,List.getElem?_set_ne (Ne.symm hji),← List.getD_eq_getElem?_getD]
            rw [this,Hv hle' ?_]
            · exact hl.repC (m3 j hj)
            · rw [n5,hds]
              rcases Nat.lt_or_gt_of_ne hji with hlt | hgt
              · left
                have:(j+1) * Zj e≤i * Zj e:=Nat.mul_le_mul_right _ hlt
                rw [Nat.add_mul,Nat.one_mul] at this
                omega
              · right
                have:(i+1) * Zj e≤j * Zj e:=Nat.mul_le_mul_right _ hgt
                rw [Nat.add_mul,Nat.one_mul] at this
                omega
        · cases hg
      · cases hg
    · cases hg
  · cases hg
end
end Go.Proofs.YtjobjooccgledaaGreatDoor.Ghost
namespace Go.Proofs.YtjobjooccgledaaGreatDoor.Ghost
open Go
theorem J0 {a:Ty} (x:den a):Jc a a x=some x:=by
  have hr:Kp a a≠none:=by
    have key:(∀ a:Ty,Kp a a≠none):=by
      intro a
      exact (Ty.rec (motive_1:=fun a=>Kp a a≠none) (motive_2:=fun l=>As l l≠none)
        (by simp [Kp]) (fun k=>by simp [Kp]) (by simp [Kp])
        (fun e ih=>by
          simp only [Kp]
          cases h:Kp e e with
          | none=>exact absurd h ih
          | some p=>simp)
        (fun n e ih=>by
          simp only [Kp]
          cases h:Kp e e with
          | none=>exact absurd h ih
          | some p=>simp)
        (fun fs ih=>by
          simp only [Kp]
          cases h:As fs fs with
          | none=>exact absurd h ih
          | some p=>simp)
        (by simp [As])
        (fun t r ih ih'=>by
          simp only [As]
          cases h:Kp t t with
          | none=>exact absurd h ih
          | some p =>
            cases h':As r r with
            | none=>exact absurd h' ih'
            | some p'=>simp) a)
    exact key a
  unfold Jc
  cases h:Kp a a with
  | none=>exact absurd h hr
  | some p=>rfl
mutual
theorem ADe:(τ:Ty)→(p:Z8)→(x:den τ)→(d:Dyn)→getP p τ x=some d→setP τ p x d=some x
  | τ,[],x,d,h=>by
    have:d=⟨τ,x⟩:=by cases τ <;> simpa [getP,eq_comm] using h
    subst this
    have:setP τ [] x ⟨τ,x⟩=Jc τ τ x:=by cases τ <;> rfl
    rw [this,J0]
  | .st fs,i :: p,x,d,h=>by
    simp only [getP] at h
    simp only [setP]
    exact AF7 fs i p x d h
  | .arr n e,i :: p,x,d,h=>by
    simp only [getP] at h
    have:=ADe e p _ d h
    simp only [setP,this]
    congr 1
    refine List.ext_getElem? fun k => ?_
    by_cases hk:i=k
    · subst hk
      by_cases hl:i<List.length x
      · rw [List.getElem?_set_self hl,List.getD_eq_getElem?_getD,List.getElem?_eq_getElem hl]; rfl
      · rw [List.getElem?_eq_none (by simpa using hl),List.getElem?_eq_none (by simpa using hl)]
    · rw [List.getElem?_set_ne hk]
  | .bool,_ :: _,_,_,h=>by simp [getP] at h
  | .int _,_ :: _,_,_,h=>by simp [getP] at h
  | .str,_ :: _,_,_,h=>by simp [getP] at h
  | .sl _,_ :: _,_,_,h=>by simp [getP] at h
theorem AF7:(fs:List Ty)→(i:Nat)→(p:Z8)→(x:K7 fs)→(d:Dyn) →
    (match Gs fs i x with | some d=>getP p d.τ d.x | none=>none)=some d→Ko fs i p x d=some x
  | [],_,_,_,_,h=>by simp [Gs] at h
  | t :: r,0,p,x,d,h=>by
    simp only [Gs] at h
    simp only [Ko,ADe t p x.1 d h]
  | t :: r,n+1,p,x,d,h=>by
    simp only [Gs] at h
    simp only [Ko,AF7 r n p x.2 d h]
end
def Nb (p:Z8) (g:Nat) (ov ov':Ov):Prop:=∀ e,e∈ov'↔e=(p,some g)∨e∈ov
theorem Nb.same {i g:Nat} {p:Z8} {ov ov':Ov} (h:Nb (i :: p) g ov ov'):Nb p g (Jv [i] ov) (Jv [i] ov'):=fun ⟨q,o⟩=>by
  rw [Qa,Qa,h]; simp
theorem Nb.other {i j g:Nat} {p:Z8} {ov ov':Ov} (h:Nb (i :: p) g ov ov') (hij:j≠i):∀ e,e∈Jv [j] ov↔e∈Jv [j] ov':=fun ⟨q,o⟩=>by
  rw [Qa,Qa,h]; simp [hij]
mutual
theorem Zm.addOwn {A:Nat→Prop} {ρ:Xf} {w:World} {g:Nat} {e:Ty} {l:List (den e)}:(τ:Ty)→(p:Z8)→{x:den τ}→{ov ov':Ov}→{cs:List Value} →
    Zm A ρ w τ x ov cs→okP τ p→Ghost.getP p τ x=some ⟨.sl e,l⟩→(∃ v,cut cs (Jd τ p) 1=[v]∧Uc ρ g v)→Nb p g ov ov'→Zm A ρ w τ x ov' cs
  | τ,[],x,ov,ov',cs,h,_,hg,hv,ha=>by
    have:(⟨.sl e,l⟩:Dyn)=⟨τ,x⟩:=by cases τ <;> first | (simp [Ghost.getP] at hg; done) | simpa [Ghost.getP,eq_comm] using hg
    cases this
    simp only [Zm] at h ⊢
    obtain ⟨ad,n,c,rfl,h2,h3⟩:=h
    obtain ⟨v,k1,k2⟩:=hv
    simp only [Jd,cut,List.drop_zero,List.take_succ_cons,List.take_zero,List.cons.injEq,and_true] at k1
    subst k1
    refine ⟨ad,n,c,rfl,fun g' hg' => ?_,fun hn=>absurd ((ha _).2 (.inl rfl)) (hn (some g))⟩
    rcases (ha _).1 hg' with h' | h'
    · simp only [Prod.mk.injEq,Option.some.injEq,true_and] at h'
      subst h'; exact k2
    · exact h2 g' h'
  | .st fs,i :: p,x,ov,ov',cs,h,hk,hg,hv,ha=>by
    simp only [Zm] at h ⊢
    simp only [okP] at hk
    simp only [Ghost.getP] at hg
    simp only [Jd] at hv
    exact Xs.addOwn fs 0 i p h hk hg hv (by rw [Nat.zero_add]; exact ha)
  | .arr n t,i :: p,x,ov,ov',cs,h,hk,hg,hv,ha=>by
    simp only [Zm] at h ⊢
    simp only [okP] at hk
    simp only [Ghost.getP] at hg
    simp only [Jd] at hv
    refine ⟨h.1,h.2.1,fun k hkn => ?_⟩
    by_cases hki:k=i
    · subst hki
      have hle:Jd t p+1≤Zj t:=Oo t p _ ⟨.sl e,l⟩ hk.2 hg
      refine Zm.addOwn t p (h.2.2 k hkn) hk.2 hg ?_ ha.same
      change ∃ v,cut (cut cs (k * Zj t) (Zj t)) (Jd t p) 1=[v]∧Uc ρ g v
      rw [P9 _ _ _ _ _ hle]
      exact hv
    · exact Zm.ov t (ha.other hki) (h.2.2 k hkn)
  | .bool,_ :: _,_,_,_,_,_,hk,_,_,_=>by simp [okP] at hk
  | .int _,_ :: _,_,_,_,_,_,hk,_,_,_=>by simp [okP] at hk
  | .str,_ :: _,_,_,_,_,_,hk,_,_,_=>by simp [okP] at hk
  | .sl _,_ :: _,_,_,_,_,_,hk,_,_,_=>by simp [okP] at hk
theorem Xs.addOwn {A:Nat→Prop} {ρ:Xf} {w:World} {g:Nat} {e:Ty} {l:List (den e)}:(fs:List Ty)→(j i:Nat)→(p:Z8)→{x:K7 fs}→{ov ov':Ov}→{cs:List Value} →
    Xs A ρ w fs j x ov cs→okF fs i p→(match Gs fs i x with | some d=>Ghost.getP p d.τ d.x | none=>none)=some ⟨.sl e,l⟩→(∃ v,cut cs (Gv fs i p) 1=[v]∧Uc ρ g v) →
    Nb ((j+i) :: p) g ov ov'→Xs A ρ w fs j x ov' cs
  | [],_,_,_,_,_,_,_,_,hk,_,_,_=>by simp [okF] at hk
  | t :: r,j,0,p,x,ov,ov',cs,h,hk,hg,hv,ha=>by
    simp only [Xs] at h ⊢
    simp only [okF] at hk
    simp only [Gs] at hg
    simp only [Gv] at hv
    have hle:Jd t p+1≤Zj t:=Oo t p _ ⟨.sl e,l⟩ hk hg
    refine ⟨Zm.addOwn t p h.1 hk hg ?_ ha.same,Xs.addSkip r (j+1) (i:=j) (by omega) h.2 ha⟩
    rw [← Np,P9 _ _ _ _ _ hle,Nat.zero_add]
    exact hv
  | t :: r,j,n+1,p,x,ov,ov',cs,h,hk,hg,hv,ha=>by
    simp only [Xs] at h ⊢
    simp only [okF] at hk
    simp only [Gs] at hg
    simp only [Gv] at hv
    refine ⟨Zm.ov t (ha.other (by omega)) h.1,Xs.addOwn r (j+1) n p h.2 hk hg ?_ (by rw [show j+1+n=j+(n+1) by omega]; exact ha)⟩
    unfold cut at hv ⊢
    rw [List.drop_drop]
    exact hv
theorem Xs.addSkip {A:Nat→Prop} {ρ:Xf} {w:World} {g:Nat}:(fs:List Ty)→(j:Nat)→{i:Nat}→{p:Z8}→{x:K7 fs}→{ov ov':Ov}→{cs:List Value}→i<j →
    Xs A ρ w fs j x ov cs→Nb (i :: p) g ov ov'→Xs A ρ w fs j x ov' cs
  | [],_,_,_,_,_,_,_,_,h,_=>by simpa only [Xs] using h
  | t :: r,j,i,p,x,ov,ov',cs,hij,h,ha=>by
    simp only [Xs] at h ⊢
    exact ⟨Zm.ov t (ha.other (by omega)) h.1,Xs.addSkip r (j+1) (by omega) h.2 ha⟩
end
def L3:Ty→Z8→Bool
  | _,[]=>true
  | .st fs,i :: p=>okFB fs i p
  | .arr n e,i :: p=>Nat.blt i n && L3 e p
  | _,_=>false
where okFB:List Ty→Nat→Z8→Bool
  | [],_,_=>false
  | t :: _,0,p=>L3 t p
  | _ :: r,n+1,p=>okFB r n p
mutual
theorem Ce:(τ:Ty)→(p:Z8)→L3 τ p=true→okP τ p
  | τ,[],_=>by cases τ <;> trivial
  | .st fs,i :: p,h=>by simp only [L3] at h; simp only [okP]; exact AIk fs i p h
  | .arr n e,i :: p,h=>by
    simp only [L3,Bool.and_eq_true] at h
    simp only [okP]
    exact ⟨by simpa [Nat.blt_eq] using h.1,Ce e p h.2⟩
  | .bool,_ :: _,h=>by simp [L3] at h
  | .int _,_ :: _,h=>by simp [L3] at h
  | .str,_ :: _,h=>by simp [L3] at h
  | .sl _,_ :: _,h=>by simp [L3] at h
theorem AIk:(fs:List Ty)→(i:Nat)→(p:Z8)→L3.okFB fs i p=true→okF fs i p
  | [],_,_,h=>by simp [L3.okFB] at h
  | t :: r,0,p,h=>by simp only [L3.okFB] at h; simp only [okF]; exact Ce t p h
  | t :: r,n+1,p,h=>by simp only [L3.okFB] at h; simp only [okF]; exact AIk r n p h
end
section
variable {P:Program} {o:Oper} {a:Act} {w:World} {B:Nat} {w0:Y6} {A:Nat→Prop} {ρ:Xf} {own:Nat→Option Nat} {h:Nat→Obj} {s:Nat→SV}
def H8 (e:Ty):K1:=⟨0,0,0,Zj e,false,Jd e,okP e⟩
def Gc (ρ:Xf) (k:Nat) (sp:K1):Xf:=fun g=>if g=k then some sp else ρ g
def T8 (h:Nat→Obj) (k:Nat) (o:Obj):Nat→Obj:=fun g=>if g=k then o else h g
theorem ADk {k:Nat} {sp:K1} (hk:ρ k=none):∀ g s,ρ g=some s→Gc ρ k sp g=some s:=fun g s hg=>by
  unfold Gc
  rw [if_neg (fun e=>by subst e; rw [hk] at hg; cases hg)]; exact hg
theorem St.free (st:St B w0 A ρ own w h) {k:Nat} (hk:h k=.none):ρ k=none:=by
  have:=st.objs k
  rw [hk] at this; exact this
theorem St.nil (st:St B w0 A ρ own w h) {k:Nat} {e:Ty} (hk:h k=.none) (he:0<Zj e) :
    St B w0 A (Gc ρ k (H8 e)) own w (T8 h k (.arr e []))∧X9 A ρ w A (Gc ρ k (H8 e)) w:=by
  have hf:=st.free hk
  have hl:X9 A ρ w A (Gc ρ k (H8 e)) w:=⟨fun _ h=>h,ADk hf,fun _ _=>rfl⟩
  refine ⟨st.turn (fun i=>i=k) hl (fun _ _ _ _=>rfl) (fun _ _ h1 _=>h1) (fun g hg h1=>by unfold Gc; rw [if_neg hg]; exact h1) (fun i hi=>if_neg hi) (fun i hi => ?_) (fun i hi => ?_)
    st.apart st.old st.oldO st.base (RowKit.Below.refl B w) (fun _ h1=>.inl h1),hl⟩
  · subst hi
    unfold T8
    rw [if_pos rfl]
    exact ⟨H8 e,by unfold Gc; rw [if_pos rfl],rfl,rfl,he,rfl,rfl,rfl,Nat.le_refl _,fun hc=>by simp [H8] at hc⟩
  · subst hi; unfold T8; rw [if_pos rfl]; simp
theorem Iz {k:Nat} {e:Ty} {ad:Option Addr}:Uc (Gc ρ k (H8 e)) k (.slice ad 0 0) :=
  ⟨H8 e,ad,by unfold Gc; rw [if_pos rfl],rfl,rfl,fun hc=>by simp [H8] at hc⟩
def AC6 (τ:Ty) (nils:List (Z8×Nat)):Bool:=nils.all fun q=>L3 τ q.1 && (match getP q.1 τ (dft τ) with | some ⟨.sl e,_⟩=>Nat.blt 0 (Zj e) | _=>false)
theorem AEs {τ:Ty} {p:Z8} {e:Ty} {l:List (den e)} (hr:Zm A ρ w τ (dft τ) [] (zeroCells τ)) (hk:okP τ p) (hg:getP p τ (dft τ)=some ⟨.sl e,l⟩)
    (hz:∀ c∈zeroCells τ,∀ ad n m,c=.slice ad n m→n=0∧m=0) :
    ∃ ad,cut (zeroCells τ) (Jd τ p) 1=[.slice ad 0 0]:=by
  have:=Zm.getP τ p hr hk hg
  have h1:Zj (Dyn.τ ⟨.sl e,l⟩)=1:=rfl
  rw [h1] at this
  simp only [Zm] at this
  obtain ⟨ad,n,c,h2,_⟩:=this
  have hm:Value.slice ad n c∈zeroCells τ:=by
    have:Value.slice ad n c∈cut (zeroCells τ) (Jd τ p) 1:=by rw [h2]; simp
    unfold cut at this
    exact List.mem_of_mem_drop (List.mem_of_mem_take this)
  obtain ⟨rfl,rfl⟩:=hz _ hm ad n c rfl
  exact ⟨ad,h2⟩
mutual
theorem Pb:(τ:Ty)→∀ c∈zeroCells τ,∀ ad n m,c=.slice ad n m→n=0∧m=0
  | .bool=>by simp [zeroCells]
  | .int k=>by simp [zeroCells]
  | .str=>by simp [zeroCells]
  | .sl e=>by
    intro c hc ad n m he
    simp only [zeroCells,List.mem_singleton] at hc
    rw [hc] at he
    cases he
    exact ⟨rfl,rfl⟩
  | .arr n e=>by
    intro c hc
    have hm:∀ k,c∈Dw k (zeroCells e)→c∈zeroCells e:=by
      intro k
      induction k with
      | zero=>simp [Dw]
      | succ k ih=>simp only [Dw,List.mem_append]; rintro (h | h); exact h; exact ih h
    simp only [zeroCells] at hc
    exact Pb e c (hm n hc)
  | .st fs=>by simp only [zeroCells]; exact Mc fs
theorem Mc:(fs:List Ty)→∀ c∈H1 fs,∀ ad n m,c=.slice ad n m→n=0∧m=0
  | []=>by simp [H1]
  | t :: r=>by
    intro c hc
    simp only [H1,List.mem_append] at hc
    rcases hc with hc | hc
    · exact Pb t c hc
    · exact Mc r c hc
end
theorem ADz (k:Nat) (o:Obj) (e:Eff):X7 h ((k,o) :: e)=X7 (T8 h k o) e:=rfl
theorem St.nils {τ:Ty}:(nils:List (Z8×Nat))→{h:Nat→Obj}→{ρ:Xf}→{ov0:Ov}→{hh:Nat→Obj}→{ov:Ov}→{es:Eff}→(st:St B w0 A ρ own w h)→AC6 τ nils=true→Rk τ (dft τ) hh nils=some (ov,es) →
    (∀ q,q∈nils→hh q.2=.none→h q.2=.none)→Zm A ρ w τ (dft τ) ov0 (zeroCells τ) →
    ∃ ρ',St B w0 A ρ' own w (X7 h es)∧X9 A ρ w A ρ' w∧Zm A ρ' w τ (dft τ) (ov ++ ov0) (zeroCells τ)∧(∀ g,(∀ q,q∈nils→q.2≠g)→X7 h es g=h g∧ρ' g=ρ g)
  | [],h,ρ,ov0,hh,ov,es,st,_,hg,_,hr=>by
    simp only [Rk,Option.some.injEq,Prod.mk.injEq] at hg
    obtain ⟨rfl,rfl⟩:=hg
    exact ⟨ρ,st,X9.refl ..,hr,fun _ _=>⟨rfl,rfl⟩⟩
  | (p,k) :: r,h,ρ,ov0,hh,ov,es,st,ho,hg,hf,hr=>by
    simp only [AC6,List.all_cons,Bool.and_eq_true] at ho
    obtain ⟨⟨o1,o2⟩,o3⟩:=ho
    simp only [Rk] at hg
    split at hg
    · rename_i e l ov' es' h1 h2 h3 h4
      simp only [Option.some.injEq,Prod.mk.injEq] at hg
      obtain ⟨rfl,rfl⟩:=hg
      rw [h2] at o2
      simp only [Nat.blt_eq] at o2
      have hk:=hf (p,k) (by simp) h1
      obtain ⟨st',hl⟩:=st.nil (e:=e) hk o2
      have okp:=Ce τ p o1
      obtain ⟨ad,hcut⟩:=AEs (Zm.zero A ρ w τ) okp h2 (Pb τ)
      have hr'':Zm A (Gc ρ k (H8 e)) w τ (dft τ) ((p,some k) :: ov0) (zeroCells τ):=Zm.addOwn τ p (hl.repC hr) okp h2 ⟨_,hcut,Iz⟩ (fun e=>by simp)
      have hne:∀ q,q∈r→q.2≠k:=fun q hq e'=>by
        have:=List.any_eq_false.1 h3 q hq
        simp [e'] at this
      obtain ⟨ρ',m1,m2,m3,m4⟩:=St.nils r (h:=T8 h k (.arr e [])) (hh:=hh) st' o3 h4 (fun q hq hn=>by
        unfold T8
        rw [if_neg (hne q hq)]
        exact hf q (by simp [hq]) hn) hr''
      refine ⟨ρ',m1,hl.trans m2,Zm.ov τ (fun ee=>by simp [or_left_comm]) m3,fun g hg => ?_⟩
      have hgk:g≠k:=fun e'=>hg (p,k) (by simp) e'.symm
      obtain ⟨n1,n2⟩:=m4 g (fun q hq=>hg q (by simp [hq]))
      refine ⟨by rw [ADz,n1]; unfold T8; rw [if_neg hgk],by rw [n2]; unfold Gc; rw [if_neg hgk]⟩
    · cases hg
end
end Go.Proofs.YtjobjooccgledaaGreatDoor.Ghost
namespace Go.Proofs.YtjobjooccgledaaGreatDoor.Ghost
open Go
section
variable {P:Program} {o:Oper} {a:Act} {w:World} {B:Nat} {w0:Y6} {A:Nat→Prop} {ρ:Xf} {own:Nat→Option Nat} {h:Nat→Obj} {s:Nat→SV}
def Py (own:Nat→Option Nat) (b k:Nat):Nat→Option Nat:=fun i=>if i=b then some k else own i
theorem G4 (c:Array Value) (t:TypeId):(w.alloc (.cells c t)).rangeAt w.heap.size 0 c.toList:=fun j v hv=>by
  rw [Nat.zero_add,World.cell?_alloc_at c t _ j rfl,← Array.getElem?_toList]; exact hv
theorem Pw (c:Array Value) (t:TypeId):(w.alloc (.cells c t)).there w.heap.size 0 c.size:=fun j hj=>by
  rw [Nat.zero_add]
  refine ⟨by rw [World.cell?_alloc_at c t _ j rfl,Array.getElem?_eq_getElem hj]; rfl,?_⟩
  unfold World.frozen?
  have:(w.alloc (.cells c t)).heap[w.heap.size]?=some (.cells c t):=by
    show (w.heap.push _)[w.heap.size]?=_
    exact Array.getElem?_push_size
  simp only [this]
  simp
theorem St.alloc (st:St B w0 A ρ own w h) {k:Nat} {sp:K1} {ob:Go.Obj} {o':Obj} (hk:h k=.none) (hb:sp.b=w.heap.size)
    (ho:X9 A ρ w A (Gc ρ k sp) (w.alloc ob)→Vn A (Gc ρ k sp) (Py own w.heap.size k) (w.alloc ob) k o') (hn:o'≠.none) :
    St B w0 A (Gc ρ k sp) (Py own w.heap.size k) (w.alloc ob) (T8 h k o')∧X9 A ρ w A (Gc ρ k sp) (w.alloc ob):=by
  have hf:=st.free hk
  have hz:(w.alloc ob).heap.size=w.heap.size+1:=Array.size_push ..
  have hBw:B≤w.heap.size:=Nat.le_trans st.hB st.below.size
  have hl:X9 A ρ w A (Gc ρ k sp) (w.alloc ob):=⟨fun _ h=>h,ADk hf,fun b hA=>RowKit.Below.heap_alloc w ob b (st.old b hA)⟩
  refine ⟨st.turn (fun i=>i=k) hl (fun b g h1 _=>RowKit.Below.heap_alloc w ob b (st.oldO b g h1)) (fun b g h1 _ => ?_) (fun g hg h1=>by unfold Gc; rw [if_neg hg]; exact h1) (fun i hi=>if_neg hi) (fun i hi => ?_) (fun i hi => ?_)
    (fun b g h1 hA => ?_) (fun b hA=>by rw [hz]; have:=st.old b hA; omega) (fun b g h1 => ?_) (fun b g h1 => ?_) ((RowKit.Below.refl B w).alloc hBw ob) (fun _ h1=>.inl h1),hl⟩
  · unfold Py
    rw [if_neg (by have:=st.oldO b g h1; omega)]; exact h1
  · subst hi; unfold T8; rw [if_pos rfl]; exact ho hl
  · subst hi; unfold T8; rw [if_pos rfl]; exact hn
  · unfold Py at h1
    split at h1
    · rename_i e; have:=st.old b hA; omega
    · exact st.apart b g h1 hA
  · unfold Py at h1
    split at h1
    · omega
    · have:=st.oldO b g h1; omega
  · unfold Py at h1
    split at h1
    · omega
    · exact st.base b g h1
theorem Gd {k:Nat} {sp:K1}:Gc ρ k sp k=some sp:=by unfold Gc; rw [if_pos rfl]
theorem O0 {b k:Nat}:Py own b k b=some k:=by unfold Py; rw [if_pos rfl]
theorem AAi {k:Nat} {ob:Obj}:(es:Eff)→{h:Nat→Obj}→(∀ q,q∈es→q.1≠k)→X7 (T8 h k ob) es=T8 (X7 h es) k ob
  | [],_,_=>rfl
  | (g,o) :: r,h,hk=>by
    have hg:g≠k:=hk (g,o) (by simp)
    have:(fun i=>if i=g then o else T8 h k ob i)=T8 (fun i=>if i=g then o else h i) k ob:=by
      funext i
      unfold T8
      by_cases h1:i=g
      · subst h1; simp [hg]
      · by_cases h2:i=k
        · subst h2; simp [Ne.symm hg]
        · simp [h1,h2]
    simp only [X7,this]
    exact AAi r fun q hq=>hk q (by simp [hq])
theorem Ef {τ:Ty} {x:den τ} {hh:Nat→Obj}:(nils:List (Z8×Nat))→{ov:Ov}→{es:Eff}→Rk τ x hh nils=some (ov,es)→(∀ q,q∈es→∃ p,p∈nils∧p.2=q.1)∧(∀ q,q∈nils→hh q.2=.none)
  | [],_,_,h=>by simp only [Rk,Option.some.injEq,Prod.mk.injEq] at h; obtain ⟨_,rfl⟩:=h; simp
  | (p,k) :: r,_,_,h=>by
    simp only [Rk] at h
    split at h
    · rename_i e l ov' es' h1 h2 h3 h4
      simp only [Option.some.injEq,Prod.mk.injEq] at h
      obtain ⟨_,rfl⟩:=h
      obtain ⟨k1,k2⟩:=Ef r h4
      refine ⟨fun q hq => ?_,fun q hq => ?_⟩
      · rcases List.mem_cons.1 hq with rfl | hq
        · exact ⟨(p,k),by simp,rfl⟩
        · obtain ⟨p',m1,m2⟩:=k1 q hq
          exact ⟨p',by simp [m1],m2⟩
      · rcases List.mem_cons.1 hq with rfl | hq
        · exact h1
        · exact k2 q hq
    · cases h
theorem Ai {T:TypeId} {cs:Array Value}:(newRow T cs).run P w=.ok ⟨w.heap.size,0,none⟩ (w.alloc (.cells cs T)):=rfl
theorem Af {T:TypeId} {z:Value} (hz:(zeroValue T).run P w=.ok z w):(Instr.alloc T true (.tuple #[])).run P w=.ok (.pointer (some ⟨w.heap.size,0,none⟩)) (w.alloc (.cells z.cells T)):=by
  simp only [Instr.alloc,Sem.run_bind,hz,Result.andThen_ok,newVar,Ai,Sem.run_pure]
def Fx (P:Program) (o:Oper) (τ:Ty) (nils:List (Z8×Nat)):Bool:=match o.op with
  | .alloc T=>L8 P τ T && AC6 τ nils
  | _=>false
def Mh (b:Nat) (τ:Ty):K1:=⟨b,0,0,0,false,Jd τ,okP τ⟩
theorem AEz (st:St B w0 A ρ own w h) {k:Nat} {τ:Ty} {nils:List (Z8×Nat)} (hc:Fx P o τ nils=true) (hk:h k=.none) {ov:Ov} {es:Eff} (hg:Rk τ (dft τ) h nils=some (ov,es))
    (hn:nils.any (fun q=>Nat.beq q.2 k)=false):Zw P o a w B w0 A ρ (.ptr k []) (X7 h ((k,.box τ (dft τ) ov) :: es)):=by
  unfold Fx at hc
  split at hc
  case h_2=>cases hc
  rename_i T ho
  simp only [Bool.and_eq_true] at hc
  have hne:∀ q,q∈nils→q.2≠k:=fun q hq e=>by
    have:=List.any_eq_false.1 hn q hq
    simp [e] at this
  obtain ⟨i1,i2⟩:=Ef nils hg
  obtain ⟨ρ1,st1,l1,r1,u1⟩:=st.nils nils hc.2 hg (fun q hq _=>i2 q hq) (Zm.zero A ρ w τ)
  rw [List.append_nil] at r1
  obtain ⟨e1,_⟩:=u1 k hne
  have hk1:X7 h es k=.none:=by rw [e1]; exact hk
  have hz:=Wl hc.1 w
  have hcells:(mkV τ (zeroCells τ)).cells.toList=zeroCells τ:=Ji r1
  obtain ⟨st2,l2⟩:=st1.alloc (k:=k) (sp:=Mh w.heap.size τ) (ob:=.cells (mkV τ (zeroCells τ)).cells T) (o':=.box τ (dft τ) ov) hk1 rfl (fun hl=>by
    refine ⟨Mh w.heap.size τ,zeroCells τ,Gd,rfl,rfl,rfl,⟨O0,?_,?_⟩,hl.repC r1⟩
    · have:=G4 (w:=w) (mkV τ (zeroCells τ)).cells T
      rwa [hcells] at this
    · have:=Pw (w:=w) (mkV τ (zeroCells τ)).cells T
      rwa [show (mkV τ (zeroCells τ)).cells.size=(zeroCells τ).length by rw [← Array.length_toList,hcells]] at this) (by simp)
  have:X7 h ((k,.box τ (dft τ) ov) :: es)=T8 (X7 h es) k (.box τ (dft τ) ov):=by
    rw [ADz]
    exact AAi es fun q hq=>by
      obtain ⟨p,m1,m2⟩:=i1 q hq
      rw [← m2]; exact hne p m1
  rw [this]
  refine Zw.value ?_ st2 (l1.trans l2) (v':=.pointer (some ⟨w.heap.size,0,none⟩)) ?_
  · simp only [execOp,ho,Sem.run_bind,Af hz,Result.andThen_ok,Sem.run_pure]
  · simp only [Zl]
    refine ⟨_,Gd,by cases τ <;> trivial,?_⟩
    have:Jd τ []=0:=by cases τ <;> rfl
    simp only [Mh,this]
def Cp (o:Oper) (x:Opd):Bool:=match o.op with
  | .box _ y=>Xp x y
  | _=>false
theorem AIp {T:TypeId} {v:Value}:(Instr.box T v).run P w=.ok (.pointer (some ⟨w.heap.size,0,none⟩)) (w.alloc (.cells v.cells T)):=by
  simp only [Instr.box,Sem.run_bind,newVar,Ai,Result.andThen_ok,Sem.run_pure]
theorem AM5 (st:St B w0 A ρ own w h) (hs:Xh A ρ w s a) {k:Nat} {x:Opd} (hc:Cp o x=true) (hk:h k=.none) {τ:Ty} {y:den τ} {ov:Ov} (hx:evO s x=.dat τ y ov) :
    Zw P o a w B w0 A ρ (.ptr k []) (X7 h [(k,.box τ y ov)]):=by
  unfold Cp at hc
  split at hc
  case h_2=>cases hc
  rename_i T z ho
  have k1:=X4 hs hc
  rw [hx] at k1
  simp only [Zl] at k1
  obtain ⟨cs,k1,k2⟩:=k1
  have hcells:(a.eval z).cells.toList=cs:=by rw [k2]; exact Ji k1
  obtain ⟨st2,l2⟩:=st.alloc (k:=k) (sp:=Mh w.heap.size τ) (ob:=.cells (a.eval z).cells T) (o':=.box τ y ov) hk rfl (fun hl=>by
    refine ⟨Mh w.heap.size τ,cs,Gd,rfl,rfl,rfl,⟨O0,?_,?_⟩,hl.repC k1⟩
    · have:=G4 (w:=w) (a.eval z).cells T
      rwa [hcells] at this
    · have:=Pw (w:=w) (a.eval z).cells T
      rwa [show (a.eval z).cells.size=cs.length by rw [← Array.length_toList,hcells]] at this) (by simp)
  refine Zw.value ?_ st2 l2 (v':=.pointer (some ⟨w.heap.size,0,none⟩)) ?_
  · simp only [execOp,ho,Sem.run_bind,AIp,Result.andThen_ok,Sem.run_pure]
  · simp only [Zl]
    refine ⟨_,Gd,by cases τ <;> trivial,?_⟩
    have:Jd τ []=0:=by cases τ <;> rfl
    simp only [Mh,this]
def Pe (b:Nat) (u:SV):K1:=⟨b,0,0,0,false,Wp u,okV u⟩
theorem St.allocV (st:St B w0 A ρ own w h) {k:Nat} {u:SV} {v:Value} {T:TypeId} (hk:h k=.none) (hv:Zl A ρ w u v) (hj:u≠.junk) :
    St B w0 A (Gc ρ k (Pe w.heap.size u)) (Py own w.heap.size k) (w.alloc (.cells v.cells T)) (T8 h k (.boxv u))∧X9 A ρ w A (Gc ρ k (Pe w.heap.size u)) (w.alloc (.cells v.cells T)) :=
  st.alloc (k:=k) (sp:=Pe w.heap.size u) (ob:=.cells v.cells T) (o':=.boxv u) hk rfl (fun hl=>by
    refine ⟨Pe w.heap.size u,v,Gd,rfl,rfl,rfl,hj,⟨O0,G4 v.cells T,?_⟩,hl.repV hv⟩
    rw [Array.length_toList]
    exact Pw v.cells T) (by simp)
theorem BXm {k b:Nat} {u:SV} {w':World}:Zl A (Gc ρ k (Pe b u)) w' (.ptr k []) (.pointer (some ⟨b,0,none⟩)):=by
  simp only [Zl]
  refine ⟨_,Gd,⟨u,by cases u <;> simp [getV]⟩,?_⟩
  have:Wp u []=0:=by cases u <;> rfl
  simp only [Pe,this]
theorem AJs (st:St B w0 A ρ own w h) (hs:Xh A ρ w s a) {k:Nat} {x:Opd} (hc:Cp o x=true) (hk:h k=.none) (hx:evO s x≠.junk) :
    Zw P o a w B w0 A ρ (.ptr k []) (X7 h [(k,.boxv (evO s x))]):=by
  unfold Cp at hc
  split at hc
  case h_2=>cases hc
  rename_i T z ho
  obtain ⟨st2,l2⟩:=st.allocV (T:=T) hk (X4 hs hc) hx
  refine Zw.value ?_ st2 l2 (v':=.pointer (some ⟨w.heap.size,0,none⟩)) BXm
  simp only [execOp,ho,Sem.run_bind,AIp,Result.andThen_ok,Sem.run_pure]
mutual
def A6:SV→Value
  | .dat τ _ _=>mkV τ (zeroCells τ)
  | .agv vs=>.agg (Yr (L9 vs)).toArray
  | _=>.nilFunc
def L9:List SV→List Value
  | []=>[]
  | v :: r=>A6 v :: L9 r
end
def ADm (P:Program) (z:SV) (t:TypeId):Bool:=match P.info? t with
  | some i=>(match i.zero,z with
    | some (.agg cs),.agv vs=>E0 cs.toList (Yr (L9 vs))
    | some .nilFunc,.nilfn=>true
    | _,_=>false)
  | none=>false
theorem ADn {z:SV} {t:TypeId} (hz:ADm P z t=true) (w:World):(zeroValue t).run P w=.ok (A6 z) w:=by
  unfold ADm at hz
  cases hi:P.info? t with
  | none=>simp [hi] at hz
  | some i =>
    simp only [hi] at hz
    simp only [zeroValue,Sem.run_bind,Gl hi,Result.andThen_ok]
    split at hz
    · rename_i cs vs h1
      have:=M2 hz
      rw [h1]
      simp only [A6,Sem.run_pure,← this]
    · rename_i h1
      rw [h1]
      simp only [A6,Sem.run_pure]
    · cases hz
mutual
theorem ABz:(z:SV)→Ay z=true→Zl A ρ w z (A6 z)∧Hy (Jb z) z=true
  | .nilfn,_=>by simp [Zl,A6,Hy,Jb]
  | .agv vs,hz=>by
    simp only [Ay] at hz
    obtain ⟨h1,h2⟩:=Az vs hz
    refine ⟨?_,by simp [Hy]⟩
    simp only [Zl,A6]
    exact ⟨_,rfl,h1,h2⟩
  | .dat (.int k) x [],hz=>by
    simp only [Ay,decide_eq_true_eq] at hz
    subst hz
    exact ⟨Gg,by simp [Hy]⟩
  | .dat .bool x [],hz=>by
    have:x=false:=by simpa [Ay] using hz
    subst this
    exact ⟨Hq,by simp [Hy]⟩
theorem Az:(vs:List SV)→ADl vs=true→Zs A ρ w vs (L9 vs)∧Ws vs (L9 vs)
  | [],_=>by simp [Zs,L9,Ws]
  | v :: r,hz=>by
    simp only [ADl,Bool.and_eq_true] at hz
    obtain ⟨h1,h1'⟩:=ABz v hz.1
    obtain ⟨h2,h3⟩:=Az r hz.2
    simp only [Zs,L9,Ws]
    refine ⟨⟨_,_,rfl,h1,h2⟩,Zl.size (fun e=>by rw [e] at h1'; simp [Hy] at h1') h1,Zl.one h1' h1,h3⟩
end
def Ls (P:Program) (o:Oper) (z:SV):Bool:=match o.op with
  | .alloc T=>ADm P z T
  | _=>false
theorem ACu (st:St B w0 A ρ own w h) {k:Nat} {z:SV} (hc:Ls P o z=true) (hk:h k=.none) (hz:Ay z=true):Zw P o a w B w0 A ρ (.ptr k []) (X7 h [(k,.boxv z)]):=by
  unfold Ls at hc
  split at hc
  case h_2=>cases hc
  rename_i T ho
  obtain ⟨h1,h2⟩:=ABz (A:=A) (ρ:=ρ) (w:=w) z hz
  obtain ⟨st2,l2⟩:=st.allocV (T:=T) hk h1 (fun e=>by rw [e] at h2; simp [Hy] at h2)
  refine Zw.value ?_ st2 l2 (v':=.pointer (some ⟨w.heap.size,0,none⟩)) BXm
  simp only [execOp,ho,Sem.run_bind,Af (ADn hc w),Result.andThen_ok,Sem.run_pure]
def Cy (o:Oper) (e:Ty):Bool:=Nat.blt 0 (Zj e) && (match o.op with
  | .move (.const (.slice none 0 0))=>true
  | .assign (.const (.slice none 0 0))=>true
  | _=>false)
theorem AG3 (st:St B w0 A ρ own w h) {k:Nat} {e:Ty} (hc:Cy o e=true) (hk:h k=.none):Zw P o a w B w0 A ρ (.dat (.sl e) [] [([],some k)]) (X7 h [(k,.arr e [])]):=by
  unfold Cy at hc
  simp only [Bool.and_eq_true,Nat.blt_eq] at hc
  obtain ⟨st2,l2⟩:=st.nil hk hc.1
  have hv:Zl A (Gc ρ k (H8 e)) w (.dat (.sl e) [] [([],some k)]) (.slice none 0 0):=by
    simp only [Zl,Zm]
    refine ⟨[.slice none 0 0],⟨none,0,0,rfl,fun g hg => ?_,fun hn=>absurd (by simp) (hn (some k))⟩,rfl⟩
    simp only [List.mem_singleton,Prod.mk.injEq,Option.some.injEq,true_and] at hg
    subst hg
    exact Iz
  have hc2:=hc.2
  split at hc2
  · rename_i ho
    exact Zw.value (by simp only [execOp,ho]; rfl) st2 l2 hv
  · rename_i ho
    exact Zw.value (by simp only [execOp,ho]; rfl) st2 l2 hv
  · cases hc2
end
end Go.Proofs.YtjobjooccgledaaGreatDoor.Ghost
namespace Go.Proofs.YtjobjooccgledaaGreatDoor.Ghost
open Go
section
variable {P:Program} {o:Oper} {a:Act} {w:World} {B:Nat} {w0:Y6} {A:Nat→Prop} {ρ:Xf} {own:Nat→Option Nat} {h:Nat→Obj} {s:Nat→SV}
def AHx (P:Program) (t:TypeId):Bool:=match P.info? t with
  | some i=>Nat.ble i.bytes 65536 && Nat.blt 0 i.bytes
  | none=>false
def F4 (P:Program) (e:Ty) (t:TypeId):Bool:=Xx P (.sl e) t && (match P.underlying t with | some (.slice e')=>L8 P e e' && AHx P e' | _=>false)
theorem Ns {e:Ty} {t:TypeId} (hc:F4 P e t=true):∃ e' i z,P.underlying t=some (.slice e')∧Xx P e e'=true∧P.info? e'=some i∧i.size=Zj e∧0<Zj e∧i.zero=some z ∧
    z.cells.toList=zeroCells e∧i.bytes≤65536∧0<i.bytes:=by
  simp only [F4,Bool.and_eq_true] at hc
  obtain ⟨e',h1,h2,h3,h4⟩:=F1 hc.1
  have hc2:=hc.2
  rw [h1] at hc2
  simp only [Bool.and_eq_true] at hc2
  obtain ⟨i,h5,h6⟩:=G8 h3
  obtain ⟨hz,hb⟩:=hc2
  have hz':=Wl (w:=default) hz
  unfold AHx at hb
  rw [h5] at hb
  simp only [Bool.and_eq_true,Nat.ble_eq,Nat.blt_eq] at hb
  simp only [zeroValue,Sem.run_bind,Gl h5,Result.andThen_ok] at hz'
  cases hzz:i.zero with
  | none=>rw [hzz] at hz'; simp [unsupported] at hz'
  | some z =>
    rw [hzz] at hz'
    simp only [Sem.run_pure,Result.ok.injEq,and_true] at hz'
    refine ⟨e',i,z,h1,h2,h5,h6,h4,hzz,?_,hb⟩
    rw [hz']
    exact Ji (Zm.zero (fun _=>False) (fun _=>none) default e)
def Ib (b n c:Nat) (e:Ty):K1:=⟨b,n,c,Zj e,false,Jd e,okP e⟩
theorem Mq {k b n c:Nat} {e:Ty}:Uc (Gc ρ k (Ib b n c e)) k (.slice (some ⟨b,0,none⟩) n c):=⟨_,_,Gd,rfl,rfl,fun _=>rfl⟩
theorem Rn {ρ:Xf} {k:Nat} {e:Ty} {l:List (den e)} {v:Value} {ad:Option Addr} {n c:Nat} (hv:v=.slice ad n c) (hh:Uc ρ k v):Zl A ρ w (.dat (.sl e) l [([],some k)]) v:=by
  subst hv
  simp only [Zl,Zm]
  refine ⟨_,⟨ad,n,c,rfl,fun g hg => ?_,fun hn=>absurd (by simp) (hn (some k))⟩,rfl⟩
  simp only [List.mem_singleton,Prod.mk.injEq,Option.some.injEq,true_and] at hg
  subst hg
  exact hh
theorem St.array (st:St B w0 A ρ own w h) {k:Nat} {e:Ty} {l:List (den e)} {cs:Array Value} {T:TypeId} {c:Nat} (hk:h k=.none) (he:0<Zj e) (hc:List.length l≤c) (hz:cs.size=c * Zj e)
    (hr:∀ i,i<List.length l→Zm A ρ w e (List.getD l i (dft e)) [] (cut cs.toList (i * Zj e) (Zj e))) :
    St B w0 A (Gc ρ k (Ib w.heap.size (List.length l) c e)) (Py own w.heap.size k) (w.alloc (.cells cs T)) (T8 h k (.arr e l)) ∧
      X9 A ρ w A (Gc ρ k (Ib w.heap.size (List.length l) c e)) (w.alloc (.cells cs T)) :=
  st.alloc hk rfl (fun hl=>⟨_,Gd,rfl,rfl,he,rfl,rfl,rfl,hc,fun _=>⟨cs.toList,by rw [Array.length_toList]; exact hz,
    ⟨O0,G4 cs T,by rw [Array.length_toList]; exact Pw cs T⟩,fun i hi=>hl.repC (hr i hi)⟩⟩) (by simp)
theorem AMp (z:Array Value) (es n i:Nat) (hz:z.size=es) (hi:i<n):cut (madeCells z (n * es)).toList (i * es) es=z.toList:=by
  subst hz
  refine List.ext_getElem? fun j => ?_
  rw [Qx]
  by_cases hj:j<z.size
  · rw [if_pos hj]
    have h1:(i+1) * z.size≤n * z.size:=Nat.mul_le_mul_right _ hi
    rw [Nat.add_mul,Nat.one_mul] at h1
    have hlt:i * z.size+j<(madeCells z (n * z.size)).size:=by rw [size_madeCells]; omega
    rw [Array.getElem?_toList,Array.getElem?_eq_getElem hlt,Array.getElem?_toList,Array.getElem?_eq_getElem hj]
    simp only [madeCells,Array.getElem_map,Array.getElem_range]
    congr 1
    have:(i * z.size+j) % z.size=j:=by
      rw [Nat.add_comm,Nat.mul_comm,Nat.add_mul_mod_self_left,Nat.mod_eq_of_lt hj]
    rw [this]
    exact getElem!_pos z j hj
  · rw [if_neg hj,List.getElem?_eq_none (by simpa using hj)]
def ACg (P:Program) (o:Oper) (e:Ty) (n:Opd):Bool:=match o.op with
  | .makeSlice T x y=>F4 P e T && Xp n x && Xp n y
  | _=>false
theorem AJz (st:St B w0 A ρ own w h) (hs:Xh A ρ w s a) {k:Nat} {e:Ty} {n:Opd} (hc:ACg P o e n=true) (hk:h k=.none) {kd:IntKind} {m:Int} {ov:Ov} (hn:evO s n=.dat (.int kd) m ov)
    (h0:0≤m) (h1:m≤1048576):Zw P o a w B w0 A ρ (.dat (.sl e) [] [([],some k)]) (X7 h [(k,.arr e (List.replicate m.toNat (dft e)))]):=by
  unfold ACg at hc
  split at hc
  case h_2=>cases hc
  rename_i T x y ho
  simp only [Bool.and_eq_true] at hc
  obtain ⟨⟨hT,hx⟩,hy⟩:=hc
  have k1:=X4 hs hx
  have k2:=X4 hs hy
  rw [hn] at k1 k2
  have k1:=Hx k1
  have k2:=Hx k2
  obtain ⟨e',i,z,q1,q2,q3,q4,q5,q6,q7,q8,q9⟩:=Ns hT
  have hb:(i.bytes:Int) * m≤281474976710656:=by
    have:(i.bytes:Int) * m≤65536 * 1048576:=Int.mul_le_mul (by omega) h1 h0 (by omega)
    omega
  have hrun:=run_make (P:=P) w T e' i z q1 q3 q6 kd kd m m h0 (Int.le_refl _) hb (by omega)
  rw [q4] at hrun
  have hzs:z.cells.size=Zj e:=by
    rw [← Array.length_toList,q7]; exact Zm.length e (Zm.zero A ρ w e)
  obtain ⟨st2,l2⟩:=st.array (k:=k) (l:=List.replicate m.toNat (dft e)) (cs:=madeCells z.cells (m.toNat * Zj e)) (T:=e') (c:=m.toNat) hk q5 (by simp) (size_madeCells _ _) (fun j hj=>by
    rw [List.length_replicate] at hj
    rw [AMp z.cells (Zj e) m.toNat j hzs hj,q7,Nu hj]
    exact Zm.zero A ρ w e)
  rw [List.length_replicate] at st2 l2
  refine Zw.value ?_ st2 l2 (Rn rfl Mq)
  simp only [execOp,ho,k1,k2,Sem.run_bind,hrun,Result.andThen_ok,Sem.run_pure]
def Ph:List Opd→Nat→List (Nat×Operand)→Bool
  | [],_,[]=>true
  | x :: r,i,(j,y) :: t=>Nat.beq i j && Xp x y && Ph r (i+1) t
  | _,_,_=>false
theorem Uz:(xs:List Opd)→(i:Nat)→(ps:List (Nat×Operand))→Ph xs i ps=true→∃ ys,ps=(ys.zipIdx i).map (fun x=>(x.2,x.1))∧Jt xs ys=true
  | [],_,[],_=>⟨[],rfl,rfl⟩
  | x :: r,i,(j,y) :: t,h=>by
    simp only [Ph,Bool.and_eq_true] at h
    have:=Nat.eq_of_beq_eq_true h.1.1
    subst this
    obtain ⟨ys,h1,h2⟩:=Uz r (i+1) t h.2
    exact ⟨y :: ys,by simp [h1],by simp only [Jt,h.1.2,h2,Bool.and_self]⟩
theorem AD4 (vs:List Value):Yr vs=vs.flatMap fun v=>v.cells.toList:=by
  induction vs with
  | nil=>rfl
  | cons v r ih=>simp [Yr,ih]
theorem Gt {z:Nat}:(vs:List Value)→(∀ v,v∈vs→v.cells.size=z)→(Yr vs).length=vs.length * z
  | [],_=>by simp [Yr]
  | v :: r,hv=>by
    simp only [Yr,List.length_append,Array.length_toList,hv v (by simp),Gt r (fun u hu=>hv u (by simp [hu])),List.length_cons,Nat.add_mul,Nat.one_mul]
    omega
theorem Lu {z:Nat}:(vs:List Value)→(∀ v,v∈vs→v.cells.size=z)→(i:Nat)→(v:Value)→vs[i]?=some v→cut (Yr vs) (i * z) z=v.cells.toList
  | [],_,_,_,h=>by simp at h
  | u :: r,hv,0,v,h=>by
    simp at h
    subst h
    have:=hv u (by simp)
    simp only [Yr,Nat.zero_mul,cut,List.drop_zero]
    rw [List.take_append_of_le_length (by simp [this]),List.take_of_length_le (by simp [this])]
  | u :: r,hv,i+1,v,h=>by
    have h1:=hv u (by simp)
    have:=Lu r (fun u hu=>hv u (by simp [hu])) i v (by simpa using h)
    rw [← this]
    unfold cut
    rw [show (i+1) * z=u.cells.toList.length+i * z by rw [Nat.add_mul,Array.length_toList,h1]; omega]
    simp only [Yr]
    rw [← List.drop_drop,List.drop_append_of_le_length (by simp),List.drop_length,List.nil_append]
theorem O3 {T e:TypeId} {n:Nat} {i:TypeInfo} {z:Value} {ps:Array (Nat×Value)} {vs:List Value} (hu:P.underlying T=some (.slice e)) (hi:P.info? e=some i) (hz:i.zero=some z)
    (hs:0<i.size) (hn:vs.length=n) (hp:0<n) (hsm:n * i.size≤2 ^ 24) (hps:ps.toList=(vs.zipIdx 0).map fun x=>(x.2,x.1)) (hv:∀ v,v∈vs→v.cells.size=i.size) :
    (Instr.buildSlice T n ps).run P w=.ok (.slice (some ⟨w.heap.size,0,none⟩) n n) (w.alloc (.cells (Yr vs).toArray e)):=by
  have hpos:0<n * i.size:=Nat.mul_pos hp hs
  refine run_buildSlice w T e n ps _ i z hu hi hz (by omega) (by omega) ?_
  rw [hps,Go.Great.fill_whole hs vs _ hv (by simp [hn]),AD4]
theorem Dy {T e:TypeId} {i:TypeInfo} (hu:P.underlying T=some (.slice e)) (hi:P.info? e=some i) :
    (Instr.buildSlice T 0 #[]).run P w=.ok (.slice (some ⟨w.heap.size,0,none⟩) 0 0) (w.alloc (.cells #[] e)):=by
  simp [Instr.buildSlice,run_underlying hu,sizeOf,typeInfo,hi,newRow,Instr.fill]
  congr 2
  exact Array.eq_empty_of_size_eq_zero (by simp)
def AC0 (n sz:Nat):Bool:=Nat.ble (n * sz) 16777216
def Cz (P:Program) (o:Oper) (e:Ty) (xs:List Opd):Bool:=match o.op with
  | .buildSlice T n ps=>F4 P e T && Nat.beq n xs.length && AC0 n (Zj e) && Ph xs 0 ps.toList
  | _=>false
theorem Dn {e:Ty}:(xs:List Opd)→{l:List (den e)}→{vs:List Value}→Wq e s xs=some l→Zs A ρ w (xs.map (evO s)) vs →
    List.length l=vs.length∧(∀ v,v∈vs→v.cells.size=Zj e)∧∀ i v,vs[i]?=some v→Zm A ρ w e (List.getD l i (dft e)) [] v.cells.toList
  | [],l,vs,hg,hr=>by
    simp only [Wq,Option.some.injEq] at hg
    simp only [List.map_nil,Zs] at hr
    subst hg; subst hr
    simp
  | x :: r,l,vs,hg,hr=>by
    simp only [Wq] at hg
    simp only [List.map_cons,Zs] at hr
    obtain ⟨v,vs',rfl,h1,h2⟩:=hr
    split at hg
    · rename_i σ y hx
      split at hg
      · rename_i z hz
        split at hg
        · rename_i zs hzs
          simp only [Option.some.injEq] at hg
          subst hg
          have hc:=X8 hz
          cases hc
          rw [hx] at h1
          simp only [Zl] at h1
          obtain ⟨cs,h3,h4⟩:=h1
          have h5:v.cells.toList=cs:=by rw [h4]; exact Ji h3
          obtain ⟨k1,k2,k3⟩:=Dn r hzs h2
          refine ⟨by simp [k1],fun u hu => ?_,fun i u hu => ?_⟩
          · rcases List.mem_cons.1 hu with rfl | hu
            · rw [← Array.length_toList,h5]; exact Zm.length _ h3
            · exact k2 u hu
          · cases i with
            | zero=>simp at hu; subst hu; rw [h5]; simpa using h3
            | succ i=>simpa using k3 i u (by simpa using hu)
        · cases hg
      · cases hg
    · cases hg
theorem Nm:{xs:List Opd}→{ys:List Operand}→Jt xs ys=true→xs.length=ys.length
  | [],[],_=>rfl
  | x :: r,y :: t,h=>by
    simp only [Jt,Bool.and_eq_true] at h
    simp [Nm h.2]
theorem L4 {ps:Array (Nat×Operand)} {ys:List Operand} (hp:ps.toList=(ys.zipIdx 0).map fun x=>(x.2,x.1)) :
    (ps.map fun (i,x)=>(i,a.eval x)).toList=((ys.map a.eval).zipIdx 0).map fun x=>(x.2,x.1):=by
  rw [Array.toList_map,hp]
  have:∀ (ys:List Operand) (i:Nat),List.map (fun x:Nat×Operand=>(x.1,a.eval x.2)) ((ys.zipIdx i).map fun x=>(x.2,x.1))=((ys.map a.eval).zipIdx i).map fun x=>(x.2,x.1):=by
    intro ys
    induction ys with
    | nil=>simp
    | cons y r ih=>intro i; simp [ih]
  exact this ys 0
theorem AG4 (st:St B w0 A ρ own w h) (hs:Xh A ρ w s a) {k:Nat} {e:Ty} {xs:List Opd} (hc:Cz P o e xs=true) (hk:h k=.none) {l:List (den e)} (hg:Wq e s xs=some l) :
    Zw P o a w B w0 A ρ (.dat (.sl e) [] [([],some k)]) (X7 h [(k,.arr e l)]):=by
  unfold Cz at hc
  split at hc
  case h_2=>cases hc
  rename_i T n ps ho
  simp only [Bool.and_eq_true,AC0,Nat.ble_eq] at hc
  obtain ⟨⟨⟨hT,hn⟩,hn1⟩,hps⟩:=hc
  have hn:=Nat.eq_of_beq_eq_true hn
  obtain ⟨ys,h1,h2⟩:=Uz xs 0 _ hps
  have k1:=Rl hs h2
  obtain ⟨m1,m2,m3⟩:=Dn xs hg k1
  obtain ⟨e',i,z,q1,q2,q3,q4,q5,q6,q7,q8,q9⟩:=Ns hT
  have hlen:(ys.map a.eval).length=n:=by rw [List.length_map,← Nm h2]; exact hn.symm
  rcases Nat.eq_zero_or_pos n with hz | hn0
  · subst hz
    have hx:xs=[]:=List.length_eq_zero_iff.1 hn.symm
    subst hx
    have hp0:ps = #[]:=by
      cases hpl:ps.toList with
      | nil=>simpa using hpl
      | cons p r=>rw [hpl] at hps; cases hps
    subst hp0
    simp only [Wq,Option.some.injEq] at hg
    subst hg
    obtain ⟨st2,l2⟩:=st.array (k:=k) (l:=([]:List (den e))) (cs := #[]) (T:=e') (c:=0) hk q5 (Nat.le_refl 0) (by simp) (fun i hi=>by simp at hi)
    refine Zw.value ?_ st2 l2 (Rn rfl Mq)
    have:=Dy (P:=P) (w:=w) q1 q3
    simp only [execOp,ho,Sem.run_bind,Array.map_empty,this,Result.andThen_ok,Sem.run_pure]
    rfl
  have hrun:=O3 (P:=P) (w:=w) (n:=n) (vs:=ys.map a.eval) q1 q3 q6 (by omega) hlen hn0 (by rw [q4]; exact hn1) (L4 h1) (fun v hv=>by rw [q4]; exact m2 v hv)
  obtain ⟨st2,l2⟩:=st.array (k:=k) (l:=l) (cs:=(Yr (ys.map a.eval)).toArray) (T:=e') (c:=n) hk q5 (by omega) (by rw [List.size_toArray,Gt _ m2,hlen]) (fun j hj=>by
    have hjv:j<(ys.map a.eval).length:=by omega
    rw [Lu (ys.map a.eval) m2 j _ (List.getElem?_eq_getElem hjv)]
    exact m3 j _ (List.getElem?_eq_getElem hjv))
  rw [m1,hlen] at st2 l2
  refine Zw.value ?_ st2 l2 (Rn rfl Mq)
  simp only [execOp,ho,Sem.run_bind,hrun,Result.andThen_ok,Sem.run_pure]
end
end Go.Proofs.YtjobjooccgledaaGreatDoor.Ghost
namespace Go.Proofs.YtjobjooccgledaaGreatDoor.Ghost
open Go
def ADo (A:Nat→Prop) (ρ:Xf) (w:World) (e:Ty) (l:List (den e)) (v:Value):Prop :=
  ∃ a n c,v=.slice a n c∧n=List.length l∧n≤c∧(0<n→∃ b o ds,a=some ⟨b,o,none⟩∧A b∧w.rangeAt b o ds∧ds.length=n * Zj e ∧
        ∀ i,i<n→Zm A ρ w e (List.getD l i (dft e)) [] ((ds.drop (i * Zj e)).take (Zj e)))
mutual
theorem Zm.res1 {A:Nat→Prop} {ρ:Xf} {w:World} {g:Nat} {e:Ty} {l:List (den e)} (hp:∀ v,Uc ρ g v→ADo A ρ w e l v):(τ:Ty)→(q:Z8)→{x x1:den τ}→{ov ov':Ov}→{cs:List Value} →
    Zm A ρ w τ x ov cs→Ghost.setP τ q x ⟨.sl e,l⟩=some x1→Nb q g ov' ov→Zm A ρ w τ x1 ov' cs
  | τ,[],x,x1,ov,ov',cs,h,hs,ha=>by
    have hc:Jc (.sl e) τ l=some x1:=by cases τ <;> simpa only [Ghost.setP] using hs
    have:=X8 hc
    cases this
    simp only [Zm] at h ⊢
    obtain ⟨a,n,c,rfl,h2,h3⟩:=h
    refine ⟨a,n,c,rfl,fun g' hg'=>h2 g' ((ha _).2 (.inr hg')),fun _ => ?_⟩
    obtain ⟨a',n',c',k1,k2⟩:=hp _ (h2 g ((ha _).2 (.inl rfl)))
    cases k1
    exact k2
  | .st fs,i :: q,x,x1,ov,ov',cs,h,hs,ha=>by
    simp only [Zm] at h ⊢
    simp only [Ghost.setP] at hs
    exact Xs.res1 hp fs 0 i q h hs (by rw [Nat.zero_add]; exact ha)
  | .arr n t,i :: q,x,x1,ov,ov',cs,h,hs,ha=>by
    simp only [Zm] at h ⊢
    simp only [Ghost.setP] at hs
    cases hy:Ghost.setP t q (List.getD x i (dft t)) ⟨.sl e,l⟩ with
    | none=>rw [hy] at hs; cases hs
    | some y =>
      rw [hy] at hs
      simp only [Option.some.injEq] at hs
      subst hs
      refine ⟨by simpa using h.1,h.2.1,fun k hkn => ?_⟩
      by_cases hki:k=i
      · subst hki
        have:List.getD (List.set x k y) k (dft t)=y:=by
          have hl:k<List.length x:=by omega
          rw [List.getD_eq_getElem?_getD,List.getElem?_set_self hl]; rfl
        rw [this]
        exact Zm.res1 hp t q (h.2.2 k hkn) hy ha.same
      · have:List.getD (List.set x i y) k (dft t)=List.getD x k (dft t):=by
          rw [List.getD_eq_getElem?_getD,List.getElem?_set_ne (Ne.symm hki),← List.getD_eq_getElem?_getD]
        rw [this]
        exact Zm.ov t (fun ee=>(ha.other hki ee).symm) (h.2.2 k hkn)
  | .bool,_ :: _,_,_,_,_,_,_,hs,_=>by simp [Ghost.setP] at hs
  | .int _,_ :: _,_,_,_,_,_,_,hs,_=>by simp [Ghost.setP] at hs
  | .str,_ :: _,_,_,_,_,_,_,hs,_=>by simp [Ghost.setP] at hs
  | .sl _,_ :: _,_,_,_,_,_,_,hs,_=>by simp [Ghost.setP] at hs
theorem Xs.res1 {A:Nat→Prop} {ρ:Xf} {w:World} {g:Nat} {e:Ty} {l:List (den e)} (hp:∀ v,Uc ρ g v→ADo A ρ w e l v):(fs:List Ty)→(j i:Nat)→(q:Z8)→{x x1:K7 fs}→{ov ov':Ov}→{cs:List Value} →
    Xs A ρ w fs j x ov cs→Ko fs i q x ⟨.sl e,l⟩=some x1→Nb ((j+i) :: q) g ov' ov→Xs A ρ w fs j x1 ov' cs
  | [],_,_,_,_,_,_,_,_,_,hs,_=>by simp [Ko] at hs
  | t :: r,j,0,q,x,x1,ov,ov',cs,h,hs,ha=>by
    simp only [Xs] at h ⊢
    simp only [Ko] at hs
    cases hy:Ghost.setP t q x.1 ⟨.sl e,l⟩ with
    | none=>rw [hy] at hs; cases hs
    | some y =>
      rw [hy] at hs
      simp only [Option.some.injEq] at hs
      subst hs
      exact ⟨Zm.res1 hp t q h.1 hy ha.same,Xs.resSkip r (j+1) (i:=j) (by omega) h.2 ha⟩
  | t :: r,j,n+1,q,x,x1,ov,ov',cs,h,hs,ha=>by
    simp only [Xs] at h ⊢
    simp only [Ko] at hs
    cases hy:Ko r n q x.2 ⟨.sl e,l⟩ with
    | none=>rw [hy] at hs; cases hs
    | some y =>
      rw [hy] at hs
      simp only [Option.some.injEq] at hs
      subst hs
      exact ⟨Zm.ov t (fun ee=>(ha.other (by omega) ee).symm) h.1,Xs.res1 hp r (j+1) n q h.2 hy (by rw [show j+1+n=j+(n+1) by omega]; exact ha)⟩
theorem Xs.resSkip {A:Nat→Prop} {ρ:Xf} {w:World} {g:Nat}:(fs:List Ty)→(j:Nat)→{i:Nat}→{p:Z8}→{x:K7 fs}→{ov ov':Ov}→{cs:List Value}→i<j →
    Xs A ρ w fs j x ov cs→Nb (i :: p) g ov' ov→Xs A ρ w fs j x ov' cs
  | [],_,_,_,_,_,_,_,_,h,_=>by simpa only [Xs] using h
  | t :: r,j,i,p,x,ov,ov',cs,hij,h,ha=>by
    simp only [Xs] at h ⊢
    exact ⟨Zm.ov t (fun ee=>(ha.other (by omega) ee).symm) h.1,Xs.resSkip r (j+1) (by omega) h.2 ha⟩
end
section
variable {P:Program} {o:Oper} {a:Act} {w:World} {B:Nat} {w0:Y6} {A:Nat→Prop} {ρ:Xf} {own:Nat→Option Nat} {h:Nat→Obj} {s:Nat→SV}
theorem Zm.wide {A':Nat→Prop} (hA:∀ b,A b→A' b) {τ:Ty} {x:den τ} {ov:Ov} {cs:List Value} (hr:Zm A ρ w τ x ov cs):Zm A' ρ w τ x ov cs :=
  Zm.mono hA (fun _ _ h=>h) (fun _ _=>rfl) τ hr
theorem V4.plain {A':Nat→Prop} {g:Nat} {e:Ty} {l:List (den e)} {M:K1→List Value→Prop} (hA:∀ b,A b→A' b) (hM:∀ s cs,M s cs→A' s.b∧w.rangeAt s.b 0 cs) (hr:V4 A ρ w g e l M) :
    ∀ v,Uc ρ g v→ADo A' ρ w e l v:=fun v hv=>by
  obtain ⟨sp,n1,n2,n3,n4,n5,n6,n7,n8,n9⟩:=hr
  obtain ⟨sp',ad,k1,_,rfl,k2⟩:=hv
  rw [n1] at k1
  cases k1
  refine ⟨ad,_,_,rfl,n7.symm,n8,fun hp => ?_⟩
  obtain ⟨cs,m1,m2,m3⟩:=n9 (by omega)
  obtain ⟨w1,w2⟩:=hM _ _ m2
  have hle:sp.len * Zj e≤sp.cap * Zj e:=Nat.mul_le_mul_right _ n8
  rw [n3] at m1 m3
  refine ⟨sp.b,0,cut cs 0 (sp.len * Zj e),k2 (by omega),w1,?_,Ol (by omega),fun i hi => ?_⟩
  · have:=K3 w2 0 (sp.len * Zj e)
    exact this
  · have h4:(i+1) * Zj e≤sp.len * Zj e:=Nat.mul_le_mul_right _ hi
    rw [Nat.add_mul,Nat.one_mul] at h4
    have:=Zm.wide hA (m3 i hi)
    change Zm A' ρ w e _ _ (cut (cut cs 0 (sp.len * Zj e)) (i * Zj e) (Zj e))
    rw [P9 _ _ _ _ _ h4,Nat.zero_add]
    exact this
def AAg (w:World) (z:Nat) (v:Value) (n:Nat) (ds:List Value):Prop :=
  ∃ ad c,v=.slice ad n c∧ds.length=n * z∧(0<n→∃ b o,ad=some ⟨b,o,none⟩∧w.rangeAt b o ds)
theorem Mz {z n:Nat} {v:Value} {ds:List Value} (hs:AAg w z v n ds) {w':World} (hw:∀ x,w'.cell? x=w.cell? x):(Builtin.firstCells z n v).run P w'=.ok ds.toArray w':=by
  obtain ⟨ad,c,rfl,h1,h2⟩:=hs
  rcases Nat.eq_zero_or_pos n with h0 | h0
  · subst h0
    rw [Nat.zero_mul] at h1
    have:ds=[]:=List.eq_nil_of_length_eq_zero h1
    subst this
    cases ad with
    | none=>rfl
    | some ad=>simp [Builtin.firstCells,loadCells,loadCellsFrom]
  · obtain ⟨b,k,rfl,h3⟩:=h2 h0
    have:=run_loadCells_list (P:=P) w' ⟨b,k,none⟩ ds (fun j v hv=>by rw [hw,Addr.add_mid]; exact h3 j v hv)
    simp only [Builtin.firstCells,← h1]
    exact this
theorem Eo {t t' ty e e2:TypeId} {i:TypeInfo} {ts:Array TypeId} (h0:ts[0]?=some t) (h1:ts[1]?=some t') (hn:P.underlying t'=some (.slice e2)) (ht:P.underlying t=some (.slice e)) (hi:P.info? e=some i)
    {b sLen sCap m:Nat} {x:Value} {ds:List Value} (hx:AAg w i.size x m ds) (hroom:sLen+m≤sCap) (hb:w.there b (sLen * i.size) ds.length) (h2:∀ u∈ds,u.oneCell'=true) :
    (Builtin.append_ ts ty #[.slice (some ⟨b,0,none⟩) sLen sCap,x]).run P w=.ok (.slice (some ⟨b,0,none⟩) (sLen+m) sCap) (w.setCells b (sLen * i.size) ds):=by
  have hf:=Mz (P:=P) hx (w':=w) (fun _=>rfl)
  obtain ⟨xa,xc,rfl,hx1,hx2⟩:=hx
  have hst:=run_storeCells_cells (P:=P) b (sLen * i.size) ds 0 w (fun j hj=>(hb j hj).1) (fun j hj=>(hb j hj).2) h2
  rw [Nat.add_zero] at hst
  have hadd:(⟨b,0,none⟩:Addr).add (sLen * i.size)=⟨b,sLen * i.size,none⟩:=by rw [Addr.add_mid,Nat.zero_add]
  simp [Builtin.append_,h0,h1,run_underlying ht,run_underlying hn,sizeOf,typeInfo,hi,Builtin.lenOf,hroom,hf,hadd,hst]
theorem Dx {t t' ty e e2:TypeId} {i:TypeInfo} {ts:Array TypeId} (h0:ts[0]?=some t) (h1:ts[1]?=some t') (hn:P.underlying t'=some (.slice e2)) (ht:P.underlying t=some (.slice e)) (hi:P.info? e=some i)
    {ad:Option Addr} {x:Value} (hx:AAg w i.size x 0 []) :
    (Builtin.append_ ts ty #[.slice ad 0 0,x]).run P w=.ok (.slice ad 0 0) w:=by
  have hf:=Mz (P:=P) hx (w':=w) (fun _=>rfl)
  obtain ⟨xa,xc,rfl,hx1,hx2⟩:=hx
  cases ad <;> simp [Builtin.append_,h0,h1,run_underlying ht,run_underlying hn,sizeOf,typeInfo,hi,Builtin.lenOf,hf,storeCells]
theorem En {t t' ty e e2:TypeId} {i:TypeInfo} {z:Value} {ts:Array TypeId} (h0:ts[0]?=some t) (h1:ts[1]?=some t') (hn:P.underlying t'=some (.slice e2)) (ht:P.underlying t=some (.slice e)) (hi:P.info? e=some i) (hz:i.zero=some z)
    {ad:Option Addr} {sLen sCap m:Nat} {x:Value} {os ds:List Value} (ho:AAg w i.size (.slice ad sLen sCap) sLen os) (hx:AAg w i.size x m ds) (hroom:sCap<sLen+m) (hle:sLen+m≤1048576) (hby:i.bytes≤65536) :
    (Builtin.append_ ts ty #[.slice ad sLen sCap,x]).run P w=.ok (.slice (some ⟨w.heap.size,0,none⟩) (sLen+m) (grownCap w (sLen+m) sCap e))
      (w.drew.alloc (.cells (os.toArray ++ ds.toArray ++ Builtin.zeroCells z.cells (grownCap w (sLen+m) sCap e - (sLen+m))) e)):=by
  have hfx:=Mz (P:=P) hx (w':=w.drew) (fun x=>by simp)
  have hfo:=Mz (P:=P) ho (w':=w.drew) (fun x=>by simp)
  obtain ⟨xa,xc,rfl,hx1,hx2⟩:=hx
  have hn':¬ (sLen+m≤sCap):=by omega
  have h63':¬ (9223372036854775807<((sLen:Int)+(m:Int))):=by omega
  have hb:(sLen+m) * i.bytes≤140737488355328:=by
    have:(sLen+m) * i.bytes≤1048576 * 65536:=Nat.mul_le_mul hle hby
    omega
  have h48:=growslice_fits hroom hb
  have h48':¬ (281474976710656<Builtin.nextslicecap (sLen+m) sCap * i.bytes):=by omega
  simp [Builtin.append_,h0,h1,run_underlying ht,run_underlying hn,sizeOf,typeInfo,zeroValue,hi,hz,Builtin.lenOf,hn',h63',h48',Question.forced,hfx,hfo,newRow,grownCap]
  congr 2
  apply Array.ext'
  simp [List.append_assoc]
end
end Go.Proofs.YtjobjooccgledaaGreatDoor.Ghost
namespace Go.Proofs.YtjobjooccgledaaGreatDoor.Ghost
open Go
section
variable {P:Program} {o:Oper} {a:Act} {w:World} {B:Nat} {w0:Y6} {A:Nat→Prop} {ρ:Xf} {own:Nat→Option Nat} {h:Nat→Obj} {s:Nat→SV}
theorem ALe (h:Nat→Obj) (g k:Nat) (o o':Obj):X7 h [(g,o),(k,o')]=fun i=>if i=k then o' else if i=g then o else h i:=rfl
theorem St.turn2 (st:St B w0 A ρ own w h) {k g:Nat} {sp:K1} {own':Nat→Option Nat} {w':World} {o':Obj} (hk:h k=.none) (hkg:k≠g)
    (hA:∀ b,A b→w'.heap[b]?=w.heap[b]?) (hw:∀ b g',own b=some g'→g'≠g→w'.heap[b]?=w.heap[b]?) (ho:∀ b g',own b=some g'→g'≠g→own' b=some g')
    (hO:X9 A ρ w A (Gc ρ k sp) w'→Vn A (Gc ρ k sp) own' w' k o') (hn:o'≠.none)
    (hap:∀ b g,own' b=some g→¬ A b) (hz:w.heap.size≤w'.heap.size) (holdO:∀ b g,own' b=some g→b<w'.heap.size) (hbase:∀ b g,own' b=some g→B≤b) (hb:RowKit.Below B w w') :
    St B w0 A (Gc ρ k sp) own' w' (X7 h [(g,.dead),(k,o')])∧X9 A ρ w A (Gc ρ k sp) w':=by
  have hf:=st.free hk
  have hl:X9 A ρ w A (Gc ρ k sp) w':=⟨fun _ h=>h,ADk hf,hA⟩
  rw [ALe]
  refine ⟨st.turn (fun i=>i=k∨i=g) hl (fun b g' h1 h2=>hw b g' h1 (fun e=>h2 (.inr e))) (fun b g' h1 h2=>ho b g' h1 (fun e=>h2 (.inr e))) (fun g' hg h1 => ?_) (fun i hi => ?_) (fun i hi => ?_) (fun i hi => ?_)
    hap (fun b hb=>Nat.lt_of_lt_of_le (st.old b hb) hz) holdO hbase hb (fun _ h1=>.inl h1),hl⟩
  · unfold Gc; rw [if_neg (fun e=>hg (.inl e))]; exact h1
  · show (if i=k then o' else if i=g then .dead else h i)=h i
    rw [if_neg (fun e=>hi (.inl e)),if_neg (fun e=>hi (.inr e))]
  · show Vn A (Gc ρ k sp) own' w' i (if i=k then o' else if i=g then .dead else h i)
    by_cases h1:i=k
    · subst h1; rw [if_pos rfl]; exact hO hl
    · rcases hi with hi | hi
      · exact absurd hi h1
      · rw [if_neg h1,if_pos hi]; trivial
  · show (if i=k then o' else if i=g then .dead else h i)≠.none
    by_cases h1:i=k
    · subst h1; rw [if_pos rfl]; exact hn
    · rcases hi with hi | hi
      · exact absurd hi h1
      · rw [if_neg h1,if_pos hi]; simp
def BHj (P:Program) (t:TypeId):Bool:=match P.underlying t with
  | some (.slice _)=>true
  | _=>false
def Ft (P:Program) (o:Oper) (e:Ty) (x y:Opd):Bool:=Nk o (fun | .append=>true | _=>false) [x,y] && (match o.op with
  | .call c=>(match c.argTypes.toList with | t :: t' :: _=>F4 P e t && BHj P t' | _=>false)
  | _=>false)
theorem Zm.arr_of {A:Nat→Prop} {e:Ty} {l:List (den e)} {ds:List Value} (hz:ds.length=List.length l * Zj e) (hr:∀ i,i<List.length l→Zm A ρ w e (List.getD l i (dft e)) [] ((ds.drop (i * Zj e)).take (Zj e))) :
    Zm A ρ w (.arr (List.length l) e) l [] ds:=by
  unfold Zm
  exact ⟨rfl,hz,hr⟩
def Ll (A:Nat→Prop) (ρ:Xf) (w:World) (e:Ty) (v:Value) (l:List (den e)):Prop :=
  ∃ ds,AAg w (Zj e) v (List.length l) ds∧ds.length=List.length l * Zj e∧∀ j,j<List.length l→Zm A ρ w e (List.getD l j (dft e)) [] (cut ds (j * Zj e) (Zj e))
theorem Ll.arr {g:Nat} {e:Ty} {l:List (den e)} {M:K1→List Value→Prop} (hM:∀ s cs,M s cs→w.rangeAt s.b 0 cs) (hr:V4 A ρ w g e l M) {v:Value} (hv:Uc ρ g v):Ll A ρ w e v l:=by
  obtain ⟨sp,n1,n2,n3,n4,n5,n6,n7,n8,n9⟩:=hr
  obtain ⟨sp',ad,k1,_,rfl,k2⟩:=hv
  rw [n1] at k1
  cases k1
  rcases Nat.eq_zero_or_pos sp.cap with h0 | h0
  · have hl:List.length l=0:=by omega
    exact ⟨[],⟨ad,_,by rw [n7],by simp [hl],fun hp=>by omega⟩,by simp [hl],fun j hj=>by omega⟩
  · obtain ⟨cs,m1,m2,m3⟩:=n9 h0
    have hle:sp.len * Zj e≤sp.cap * Zj e:=Nat.mul_le_mul_right _ n8
    rw [n3] at m1 m3
    refine ⟨cut cs 0 (sp.len * Zj e),⟨ad,_,by rw [n7],by rw [n7]; exact Ol (by omega),fun hp=>⟨sp.b,0,k2 h0,K3 (hM _ _ m2) 0 _⟩⟩,by rw [n7]; exact Ol (by omega),fun j hj => ?_⟩
    rw [n7] at hj
    have h4:(j+1) * Zj e≤sp.len * Zj e:=Nat.mul_le_mul_right _ hj
    rw [Nat.add_mul,Nat.one_mul] at h4
    rw [P9 _ _ _ _ _ h4,Nat.zero_add]
    exact m3 j hj
theorem Ll.resolve (hO:∀ g,Vn A ρ own w g (h g)) {e:Ty} {v:Value}:(ov:Ov)→{x m:List (den e)}→(∀ g,([],some g)∈ov→Uc ρ g v)→(ov=[]→Ll A ρ w e v x)→Ghost.resolve h (.sl e) x ov=some m→Ll A ρ w e v m
  | [],x,m,_,hx,he=>by simp only [Ghost.resolve,Option.some.injEq] at he; subst he; exact hx rfl
  | (q,none) :: r,x,m,_,_,he=>by simp [Ghost.resolve] at he
  | (q,some g) :: r,x,m,hh,_,he=>by
    have ob:=hO g
    have key:∀ (e1:Ty) (l:List (den e1)) (x1:List (den e)),setP (.sl e) q x ⟨.sl e1,l⟩=some x1→(∀ v,Uc ρ g v→Ll A ρ w e1 v l)→Ghost.resolve h (.sl e) x1 r=some m→Ll A ρ w e v m:=fun e1 l x1 h1 h2 h3=>by
      cases q with
      | nil =>
        have hc:Jc (.sl e1) (.sl e) l=some x1:=by simpa only [setP] using h1
        have:=X8 hc
        cases this
        exact Ll.resolve hO r (fun g' hg'=>hh g' (by simp [hg'])) (fun _=>h2 v (hh g (by simp))) h3
      | cons i q=>simp [setP] at h1
    simp only [Ghost.resolve] at he
    split at he
    · rename_i e1 l hg
      rw [hg] at ob
      split at he
      · rename_i x1 hx1
        exact key e1 l x1 hx1 (fun v hv=>Ll.arr (fun s cs hm=>hm.2.1) ob hv) he
      · cases he
    · rename_i e1 l hg
      rw [hg] at ob
      split at he
      · rename_i x1 hx1
        exact key e1 l x1 hx1 (fun v hv=>Ll.arr (fun s cs hm=>hm.2) ob hv) he
      · cases he
    · cases he
theorem Ll.one {e:Ty} {v:Value} {l:List (den e)} {ds:List Value} (h1:ds.length=List.length l * Zj e) (h2:∀ j,j<List.length l→Zm A ρ w e (List.getD l j (dft e)) [] (cut ds (j * Zj e) (Zj e))) :
    ∀ c∈ds,c.oneCell'=true:=Zm.one _ (Zm.arr_of (ρ:=ρ) h1 h2)
theorem AEr {α:Type} {l m:List α} {d:α} {i:Nat}:(l ++ m).getD i d=if i<l.length then l.getD i d else m.getD (i - l.length) d:=by
  simp only [List.getD_eq_getElem?_getD]
  split
  · rw [List.getElem?_append_left (by assumption)]
  · rw [List.getElem?_append_right (by omega)]
theorem C1 {cs ds:List Value} {k j n:Nat} (hk:k+ds.length≤cs.length) (hj:j+n≤ds.length):cut (Vq cs k ds) (k+j) n=cut ds j n:=by
  refine List.ext_getElem? fun i => ?_
  rw [Qx,Qx,Qy hk]
  by_cases hi:i<n
  · rw [if_pos hi,if_pos hi,if_neg (by omega),if_pos (by omega)]
    congr 1; omega
  · rw [if_neg hi,if_neg hi]
theorem AEa {as bs:List Value} {k n:Nat} (hk:k+n≤as.length):cut (as ++ bs) k n=cut as k n:=by
  unfold cut
  rw [List.drop_append_of_le_length (by omega),List.take_append_of_le_length (by simp; omega)]
theorem AJc {as bs:List Value} {k n:Nat}:cut (as ++ bs) (as.length+k) n=cut bs k n:=by
  unfold cut
  rw [← List.drop_drop,List.drop_append_of_le_length (by omega),List.drop_length,List.nil_append]
theorem grownCap_ge (w:World) (n c:Nat) (t:TypeId):n≤grownCap w n c t:=by
  simp only [grownCap,Question.cut]; omega
theorem AEu (st:St B w0 A ρ own w h) (hs:Xh A ρ w s a) {k:Nat} {e:Ty} {x y:Opd} (hc:Ft P o e x y=true) (hk:h k=.none) {l0 l:List (den e)} {g:Nat} (hx:evO s x=.dat (.sl e) l0 [([],some g)])
    (hg:h g=.arr e l) {σ:Ty} {m0 m1:den σ} {ov:Ov} (hy:evO s y=.dat σ m0 ov) (hres:Ghost.resolve h σ m0 ov=some m1) {m:List (den e)} (hm:Jc σ (.sl e) m1=some m) (hle:List.length l+List.length m≤1048576) :
    Zw P o a w B w0 A ρ (.dat (.sl e) [] [([],some k)]) (X7 h [(g,.dead),(k,.arr e (l ++ m))]):=by
  have hkg:k≠g:=fun e=>by subst e; rw [hk] at hg; cases hg
  simp only [Ft,Bool.and_eq_true] at hc
  obtain ⟨hc1,hc2⟩:=hc
  obtain ⟨c,b,ho,hb,hbb,hxy⟩:=To hc1
  cases b <;> simp at hbb
  simp only [ho] at hc2
  have hxy':∃ x' y',c.args.toList=[x',y']∧Xp x x'=true∧Xp y y'=true:=by
    match hl:c.args.toList,hxy with
    | [x',y'],hxy=>simp [Jt] at hxy; exact ⟨x',y',rfl,hxy.1,hxy.2⟩
    | [],hxy=>simp [Jt] at hxy
    | [_],hxy=>simp [Jt] at hxy
    | _ :: _ :: _ :: _,hxy=>simp [Jt] at hxy
  obtain ⟨x',y',hargs,hxx,hyy⟩:=hxy'
  have hargs:c.args = #[x',y']:=by rw [← Array.toArray_toList (xs:=c.args),hargs]
  have htys:∃ t t' tr,c.argTypes.toList=t :: t' :: tr∧F4 P e t=true∧BHj P t'=true:=by
    match hl:c.argTypes.toList,hc2 with
    | t :: t' :: tr,hc2=>simp only [Bool.and_eq_true] at hc2; exact ⟨t,t',tr,rfl,hc2.1,hc2.2⟩
    | [],hc2=>simp at hc2
    | [_],hc2=>simp at hc2
  obtain ⟨t,t',tr,htl,hT,hT'⟩:=htys
  have ht0:c.argTypes[0]?=some t:=by rw [← Array.getElem?_toList,htl]; rfl
  have ht1:c.argTypes[1]?=some t':=by rw [← Array.getElem?_toList,htl]; rfl
  have hsl:∃ e2,P.underlying t'=some (.slice e2):=by
    unfold BHj at hT'
    split at hT'
    · rename_i e2 he2; exact ⟨e2,he2⟩
    · cases hT'
  obtain ⟨e2,hu2⟩:=hsl
  obtain ⟨e',i,z,q1,q2,q3,q4,q5,q6,q7,q8,q9⟩:=Ns hT
  have k1:=X4 hs hxx
  have k2:=X4 hs hyy
  rw [hx] at k1
  rw [hy] at k2
  simp only [Zl] at k1
  obtain ⟨csx,k1,hvx⟩:=k1
  simp only [Zm] at k1
  obtain ⟨ad,n0,c0,rfl,k1,_⟩:=k1
  obtain ⟨sp,ad',hr,hmp,heq,hcap⟩:=k1 g (by simp)
  cases heq
  have ob:=st.objs g
  rw [hg] at ob
  obtain ⟨sp',hr',_,n3,n4,n5,n6,n7,n8,n9⟩:=ob
  rw [hr] at hr'
  cases hr'
  have hvx:a.eval x'=.slice ad sp.len sp.cap:=hvx
  simp only [Zl] at k2
  obtain ⟨csy,k2,hvy⟩:=k2
  have hσ:σ=.sl e:=by have:=X8 hm; cases this; rfl
  subst hσ
  rw [J0] at hm
  cases hm
  simp only [Zm] at k2
  obtain ⟨ady,ny,cy,rfl,y1,y2⟩:=k2
  have hvy:a.eval y'=.slice ady ny cy:=hvy
  have hly:Ll A ρ w e (a.eval y') m:=by
    rw [hvy]
    refine Ll.resolve st.objs ov y1 (fun hov => ?_) hres
    subst hov
    obtain ⟨hny,k4⟩:=y2 (by simp)
    subst hny
    rcases Nat.eq_zero_or_pos (List.length m0) with h0 | h0
    · exact ⟨[],⟨ady,cy,rfl,by simp [h0],fun hp=>by omega⟩,by simp [h0],fun j hj=>by omega⟩
    · obtain ⟨b,k,ds,rfl,w1,w2,w3,w4⟩:=k4.2 h0
      exact ⟨ds,⟨_,cy,rfl,w3,fun _=>⟨b,k,rfl,w2⟩⟩,w3,w4⟩
  obtain ⟨ds,hds,hdl,hdm⟩:=hly
  have hone:=Ll.one (v:=a.eval y') hdl hdm
  have hexec:∀ {v w'},(Builtin.append_ c.argTypes o.type #[.slice ad sp.len sp.cap,a.eval y']).run P w=.ok v w'→(execOp a.eval o).run P w=.ok (.value v) w':=fun hrun=>by
    rw [Wh ho hb,hargs]
    simp only [builtin,List.map_toArray,List.map_cons,List.map_nil,hvx,Sem.run_bind,hrun,Result.andThen_ok,Sem.run_pure]
  have hvl:List.length (l ++ m)=sp.len+List.length m:=by rw [List.length_append,n7]
  have elems:∀ (A':Nat→Prop) (ρ':Xf) (w':World) (cs:List Value),(∀ j,j<sp.len→Zm A' ρ' w' e (List.getD l j (dft e)) [] (cut cs (j * Zj e) (Zj e))) →
      (∀ j,j<List.length m→Zm A' ρ' w' e (List.getD m j (dft e)) [] (cut cs ((sp.len+j) * Zj e) (Zj e))) →
      ∀ j,j<sp.len+List.length m→Zm A' ρ' w' e (List.getD (l ++ m) j (dft e)) [] (cut cs (j * Zj e) (Zj e)):=fun A' ρ' w' cs h1 h2 j hj=>by
    rw [AEr,n7]
    by_cases hlt:j<sp.len
    · rw [if_pos hlt]; exact h1 j hlt
    · rw [if_neg hlt]
      have:=h2 (j - sp.len) (by omega)
      rwa [show sp.len+(j - sp.len)=j by omega] at this
  by_cases hroom:sp.len+List.length m≤sp.cap
  · rcases Nat.eq_zero_or_pos sp.cap with h0 | h0
    · have hl0:sp.len=0:=by omega
      have hm0:List.length m=0:=by omega
      have hd0:ds=[]:=List.eq_nil_of_length_eq_zero (by rw [hdl,hm0,Nat.zero_mul])
      subst hd0
      rw [hm0] at hds
      have hrun:=Dx (P:=P) (w:=w) (ty:=o.type) (ad:=ad) ht0 ht1 hu2 q1 q3 (by rw [q4]; exact hds)
      rw [h0,hl0] at hexec
      obtain ⟨st2,l2⟩:=st.turn2 (k:=k) (g:=g) (sp:=H8 e) (own':=own) (w':=w) (o':=.arr e (l ++ m)) hk hkg (fun _ _=>rfl) (fun _ _ _ _=>rfl) (fun _ _ h1 _=>h1)
        (fun hl=>⟨H8 e,Gd,rfl,rfl,q5,rfl,rfl,by rw [hvl,hl0,hm0]; rfl,Nat.le_refl _,fun hc=>by simp [H8] at hc⟩) (by simp)
        st.apart (Nat.le_refl _) st.oldO st.base (RowKit.Below.refl B w)
      exact Zw.value (hexec hrun) st2 l2 (Rn rfl Iz)
    · have had:=hcap h0
      subst had
      obtain ⟨cs,m1,⟨o1,o2,o3⟩,m3⟩:=n9 h0
      rw [n3] at m1 m3
      have hfit:(sp.len+List.length m) * Zj e≤sp.cap * Zj e:=Nat.mul_le_mul_right _ hroom
      rw [Nat.add_mul] at hfit
      have hfit':sp.len * Zj e+ds.length≤cs.length:=by rw [hdl,m1]; exact hfit
      have hrun:=Eo (P:=P) (w:=w) (ty:=o.type) (b:=sp.b) (sLen:=sp.len) (sCap:=sp.cap) (ds:=ds) ht0 ht1 hu2 q1 q3 (by rw [q4]; exact hds) hroom
        (fun j hj=>by have:=o3 (i.size * 0+(sp.len * i.size+j)) (by rw [q4]; omega); simpa using this) hone
      rw [q4] at hrun
      obtain ⟨st2,l2⟩:=st.turn2 (k:=k) (g:=g) (sp:=Ib sp.b (sp.len+List.length m) sp.cap e) (own':=Py own sp.b k) (w':=w.setCells sp.b (sp.len * Zj e) ds) (o':=.arr e (l ++ m)) hk hkg
        (fun b hA=>Um sp.b ds _ w b (fun e=>st.apart _ _ o1 (e ▸ hA))) (fun b g' h1 h2=>Um sp.b ds _ w b (fun e=>by subst e; rw [o1] at h1; cases h1; exact h2 rfl))
        (fun b g' h1 h2=>by unfold Py; rw [if_neg (fun e=>by subst e; rw [o1] at h1; cases h1; exact h2 rfl)]; exact h1)
        (fun hl=>⟨_,Gd,rfl,rfl,q5,rfl,rfl,hvl,hroom,fun _=>⟨Vq cs (sp.len * Zj e) ds,by rw [J5 hfit']; exact m1,
          ⟨O0,N7 o2 hfit',by rw [J5 hfit']; exact World.there_setCells o3 sp.b _ ds⟩,
          elems _ _ _ _ (fun j hj=>by
            have h4:(j+1) * Zj e≤sp.len * Zj e:=Nat.mul_le_mul_right _ hj
            rw [Nat.add_mul,Nat.one_mul] at h4
            rw [Hv hfit' (.inl h4)]
            exact hl.repC (m3 j hj)) (fun j hj=>by
            have h4:(j+1) * Zj e≤List.length m * Zj e:=Nat.mul_le_mul_right _ hj
            rw [Nat.add_mul,Nat.one_mul] at h4
            rw [Nat.add_mul,C1 hfit' (by omega)]
            exact hl.repC (hdm j hj))⟩⟩) (by simp)
        (fun b g' h1 hA=>by
          unfold Py at h1
          split at h1
          · rename_i e; subst e; exact st.apart _ _ o1 hA
          · exact st.apart _ _ h1 hA) (by rw [U6]; exact Nat.le_refl _) (fun b g' h1=>by
          rw [U6]
          unfold Py at h1
          split at h1
          · rename_i e; subst e; exact st.oldO _ _ o1
          · exact st.oldO _ _ h1) (fun b g' h1=>by
          unfold Py at h1
          split at h1
          · rename_i e; subst e; exact st.base _ _ o1
          · exact st.base _ _ h1) (T2 sp.b (st.base _ _ o1) ds _ w)
      exact Zw.value (hexec hrun) st2 l2 (Rn rfl Mq)
  · obtain ⟨os,hos,hol,hom⟩:=Ll.arr (fun s cs (hm:Own own w g s cs)=>hm.2.1) ⟨sp,hr,hmp,n3,n4,n5,n6,n7,n8,n9⟩ ⟨sp,ad,hr,hmp,rfl,hcap⟩
    rw [n7] at hos hol hom
    have hrun:=En (P:=P) (w:=w) (ty:=o.type) (ad:=ad) (sLen:=sp.len) (sCap:=sp.cap) (os:=os) (ds:=ds) ht0 ht1 hu2 q1 q3 q6 (by rw [q4]; exact hos) (by rw [q4]; exact hds) (by omega) (by omega) q8
    have hzs:z.cells.size=Zj e:=by
      rw [← Array.length_toList,q7]; exact Zm.length e (Zm.zero A ρ w e)
    generalize hcells:(os.toArray ++ ds.toArray ++ Builtin.zeroCells z.cells (grownCap w (sp.len+List.length m) sp.cap e' - (sp.len+List.length m)))=cells at hrun
    have hge:=grownCap_ge w (sp.len+List.length m) sp.cap e'
    generalize grownCap w (sp.len+List.length m) sp.cap e'=cap at hrun hcells hge
    have hsize:cells.size=cap * Zj e:=by
      rw [← hcells]
      simp only [Array.size_append,List.size_toArray,Builtin.zeroCells,Array.size_map,Array.size_range,hzs,hol,hdl]
      have:cap * Zj e=(sp.len+List.length m+(cap - (sp.len+List.length m))) * Zj e:=by congr 1; omega
      rw [this,Nat.add_mul,Nat.add_mul]
    have hlist:cells.toList=os ++ (ds ++ (Builtin.zeroCells z.cells (cap - (sp.len+List.length m))).toList):=by
      rw [← hcells]; simp
    have hdz:w.drew.heap.size=w.heap.size:=rfl
    have hBw:B≤w.heap.size:=Nat.le_trans st.hB st.below.size
    have hps:(w.drew.alloc (.cells cells e')).heap.size=w.heap.size+1:=Array.size_push ..
    obtain ⟨st2,l2⟩:=st.turn2 (k:=k) (g:=g) (sp:=Ib w.heap.size (sp.len+List.length m) cap e) (own':=Py own w.heap.size k) (w':=w.drew.alloc (.cells cells e')) (o':=.arr e (l ++ m)) hk hkg
      (fun b hA=>RowKit.Below.heap_alloc w.drew _ b (st.old b hA)) (fun b g' h1 _=>RowKit.Below.heap_alloc w.drew _ b (st.oldO b g' h1))
      (fun b g' h1 _=>by unfold Py; rw [if_neg (by have:=st.oldO b g' h1; omega)]; exact h1)
      (fun hl=>⟨_,Gd,rfl,rfl,q5,rfl,rfl,hvl,hge,fun _=>⟨cells.toList,by rw [Array.length_toList]; exact hsize,
        ⟨O0,G4 (w:=w.drew) cells e',by rw [Array.length_toList]; exact Pw (w:=w.drew) cells e'⟩,
        elems _ _ _ _ (fun j hj=>by
          have h4:(j+1) * Zj e≤sp.len * Zj e:=Nat.mul_le_mul_right _ hj
          rw [Nat.add_mul,Nat.one_mul] at h4
          rw [hlist,AEa (by omega)]
          exact hl.repC (hom j hj)) (fun j hj=>by
          have h4:(j+1) * Zj e≤List.length m * Zj e:=Nat.mul_le_mul_right _ hj
          rw [Nat.add_mul,Nat.one_mul] at h4
          rw [hlist,Nat.add_mul,← hol,AJc,AEa (by omega)]
          exact hl.repC (hdm j hj))⟩⟩) (by simp)
      (fun b g' h1 hA=>by
        unfold Py at h1
        split at h1
        · rename_i e; have:=st.old b hA; omega
        · exact st.apart _ _ h1 hA) (by rw [hps]; omega) (fun b g' h1=>by
        rw [hps]
        unfold Py at h1
        split at h1
        · omega
        · have:=st.oldO _ _ h1; omega) (fun b g' h1=>by
        unfold Py at h1
        split at h1
        · omega
        · exact st.base _ _ h1) ((RowKit.Below.refl B w).drew.alloc hBw _)
    exact Zw.value (hexec hrun) st2 l2 (Rn rfl Mq)
end
end Go.Proofs.YtjobjooccgledaaGreatDoor.Ghost
namespace Go.Proofs.YtjobjooccgledaaGreatDoor.Ghost
open Go
section
variable {P:Program} {o:Oper} {a:Act} {w:World} {B:Nat} {w0:Y6} {A:Nat→Prop} {ρ:Xf} {own:Nat→Option Nat} {h:Nat→Obj} {s:Nat→SV}
def ADr (A:Nat→Prop) (b:Nat):Nat→Prop:=fun i=>A i∨i=b
def AKk (own:Nat→Option Nat) (b:Nat):Nat→Option Nat:=fun i=>if i=b then none else own i
theorem St.freeze (st:St B w0 A ρ own w h) {g:Nat} {sp:K1} {o':Obj} (ho:own sp.b=some g) (hO:X9 A ρ w (ADr A sp.b) ρ w→Vn (ADr A sp.b) ρ (AKk own sp.b) w g o') (hn:o'≠.none) :
    St B w0 (ADr A sp.b) ρ (AKk own sp.b) w (T8 h g o')∧X9 A ρ w (ADr A sp.b) ρ w:=by
  have hl:X9 A ρ w (ADr A sp.b) ρ w:=⟨fun b hb=>.inl hb,fun _ _ h=>h,fun _ _=>rfl⟩
  refine ⟨st.turn (fun i=>i=g) hl (fun _ _ _ _=>rfl) (fun b g' h1 h2 => ?_) (fun _ _ h1=>h1) (fun i hi=>if_neg hi) (fun i hi => ?_) (fun i hi => ?_) (fun b g' h1 hA => ?_)
    (fun b hA => ?_) (fun b g' h1 => ?_) (fun b g' h1 => ?_) (RowKit.Below.refl B w) (fun b h1=>h1.imp id (fun e=>by rw [e]; exact st.base _ _ ho)),hl⟩
  · unfold AKk
    rw [if_neg (fun e=>by subst e; rw [ho] at h1; cases h1; exact h2 rfl)]; exact h1
  · subst hi; unfold T8; rw [if_pos rfl]; exact hO hl
  · subst hi; unfold T8; rw [if_pos rfl]; exact hn
  · unfold AKk at h1
    split at h1
    · cases h1
    · rcases hA with hA | hA
      · exact st.apart _ _ h1 hA
      · contradiction
  · rcases hA with hA | hA
    · exact st.old b hA
    · subst hA; exact st.oldO _ _ ho
  · unfold AKk at h1
    split at h1
    · cases h1
    · exact st.oldO _ _ h1
  · unfold AKk at h1
    split at h1
    · cases h1
    · exact st.base _ _ h1
theorem St.allocA (st:St B w0 A ρ own w h) (ob:Go.Obj):St B w0 (ADr A w.heap.size) ρ own (w.alloc ob) h∧X9 A ρ w (ADr A w.heap.size) ρ (w.alloc ob):=by
  have hz:(w.alloc ob).heap.size=w.heap.size+1:=Array.size_push ..
  have hBw:B≤w.heap.size:=Nat.le_trans st.hB st.below.size
  have hl:X9 A ρ w (ADr A w.heap.size) ρ (w.alloc ob):=⟨fun b hb=>.inl hb,fun _ _ h=>h,fun b hA=>RowKit.Below.heap_alloc w ob b (st.old b hA)⟩
  refine ⟨st.turn (fun _=>False) hl (fun b g h1 _=>RowKit.Below.heap_alloc w ob b (st.oldO b g h1)) (fun _ _ h1 _=>h1) (fun _ _ h1=>h1) (fun _ _=>rfl) (fun _ hf=>hf.elim) (fun _ hf=>hf.elim) (fun b g h1 hA => ?_)
    (fun b hA => ?_) (fun b g h1 => ?_) st.base ((RowKit.Below.refl B w).alloc hBw ob) (fun b h1=>h1.imp id (fun e=>by rw [e]; exact hBw)),hl⟩
  · rcases hA with hA | hA
    · exact st.apart _ _ h1 hA
    · have:=st.oldO b g h1; omega
  · rw [hz]
    rcases hA with hA | hA
    · have:=st.old b hA; omega
    · omega
  · have:=st.oldO b g h1; omega
def U9 (P:Program) (o:Oper) (n:Nat) (e:Ty) (x:Opd):Bool:=match o.op with
  | .slice T y none none none=>Xx P (.arr n e) T && Xp x y
  | _=>false
theorem A9 (st:St B w0 A ρ own w h) (hs:Xh A ρ w s a) {n:Nat} {e:Ty} {x:Opd} (hc:U9 P o n e x=true) {g:Nat} (hx:evO s x=.ptr g []) {l:List (den e)} (hg:h g=.box (.arr n e) l []) :
    Zw P o a w B w0 A ρ (.dat (.sl e) l []) (X7 h [(g,.dead)]):=by
  unfold U9 at hc
  split at hc
  case h_2=>cases hc
  rename_i T y ho
  simp only [Bool.and_eq_true] at hc
  obtain ⟨e',u1,u2,u3,u4⟩:=Tp hc.1
  have k1:=X4 hs hc.2
  rw [hx] at k1
  have ob:=st.objs g
  rw [hg] at ob
  obtain ⟨sp,cs,n1,n2,n3,n4,⟨o1,o2,o3⟩,n6⟩:=ob
  obtain ⟨q1,q2⟩:=Hj k1 n1 n2
  have h0:sp.off []=0:=by rw [n3]; rfl
  rw [h0] at q2
  obtain ⟨st2,l2⟩:=st.freeze (g:=g) (sp:=sp) (o':=.dead) o1 (fun _=>trivial) (by simp)
  simp only [Zm] at n6
  obtain ⟨m1,m2,m3⟩:=n6
  refine Zw.value (v':=.slice (some ⟨sp.b,0,none⟩) n n) ?_ st2 l2 ?_
  · simp only [execOp,ho,q2,Option.map_none,Instr.sliceAt,Sem.run_bind,run_underlying u1 w,Result.andThen_ok,Instr.sureAddr,Sem.run_pure,Instr.sliceBounds,J7 u3,Addr.add_mid]
    simp
  · simp only [Zl,Zm]
    refine ⟨_,⟨some ⟨sp.b,0,none⟩,n,n,rfl,by simp,fun _=>⟨m1.symm,Nat.le_refl _,fun _=>⟨sp.b,0,cs,rfl,.inr rfl,o2,m2,fun i hi => ?_⟩⟩⟩,rfl⟩
    exact l2.repC (m3 i hi)
theorem AAa (st:St B w0 A ρ own w h) (hs:Xh A ρ w s a) {n:Nat} {e:Ty} {x:Opd} (hc:U9 P o n e x=true) {k:Nat} (hx:evO s x=.glo k) {l:List (den e)} (hg:AEt k=some ⟨.arr n e,l⟩) :
    Zw P o a w B w0 A ρ (.dat (.sl e) l []) h:=by
  unfold U9 at hc
  split at hc
  case h_2=>cases hc
  rename_i T y ho
  simp only [Bool.and_eq_true] at hc
  obtain ⟨e',u1,u2,u3,u4⟩:=Tp hc.1
  have k1:=X4 hs hc.2
  rw [hx] at k1
  simp only [Zl] at k1
  obtain ⟨hA,cs,n6,o2⟩:=st.glob.1 k _ hg
  simp only [Zm] at n6
  obtain ⟨m1,m2,m3⟩:=n6
  refine Zw.pure st (v':=.slice (some ⟨k,0,none⟩) n n) ?_ ?_
  · simp only [execOp,ho,k1,Option.map_none,Instr.sliceAt,Sem.run_bind,run_underlying u1 w,Result.andThen_ok,Instr.sureAddr,Sem.run_pure,Instr.sliceBounds,J7 u3,Addr.add_mid]
    simp
  · simp only [Zl,Zm]
    refine ⟨_,⟨some ⟨k,0,none⟩,n,n,rfl,by simp,fun _=>⟨m1.symm,Nat.le_refl _,fun _=>⟨k,0,cs,rfl,hA,o2,m2,fun i hi => ?_⟩⟩⟩,rfl⟩
    exact Zm.mono (fun _ h=>h) (fun _ _ h=>by cases h) (fun _ _=>rfl) e (m3 i hi)
def Fy (P:Program) (o:Oper) (z:Nat) (xs:List Opd):Bool:=match o.op with
  | .buildSlice T n ps=>(match P.underlying T with | some (.slice e)=>Jr P e z && (match P.info? e with | some i=>i.zero.isSome | none=>false) | _=>false) && Nat.blt 0 z && Nat.beq n xs.length && Nat.blt 0 n && AC0 n z && Ph xs 0 ps.toList
  | _=>false
theorem Dr {z:Nat}:(us:List SV)→{vs:List Value}→Am z us=true→Zs A ρ w us vs→Ws us vs∧(∀ u,u∈us→Jb u=z)∧(∀ v,v∈vs→v.cells.size=z)
  | [],_,_,h=>by simp only [Zs] at h; subst h; simp [Ws]
  | u :: r,vs,hs,h=>by
    simp only [Am,Bool.and_eq_true] at hs
    simp only [Zs] at h
    obtain ⟨v,vs',rfl,h1,h2⟩:=h
    obtain ⟨k1,k2,k3⟩:=Dr r hs.2 h2
    have hz:Jb u=z:=by
      cases u <;> simp [Hy] at hs <;> exact hs.1
    have hj:u≠.junk:=fun e=>by rw [e] at hs; simp [Hy] at hs
    have hv:=Zl.size hj h1
    refine ⟨⟨hv,Zl.one hs.1 h1,k1⟩,fun u' hu => ?_,fun v' hv' => ?_⟩
    · rcases List.mem_cons.1 hu with rfl | hu
      · exact hz
      · exact k2 u' hu
    · rcases List.mem_cons.1 hv' with rfl | hv'
      · rw [hv,hz]
      · exact k3 v' hv'
theorem AE0 (st:St B w0 A ρ own w h) (hs:Xh A ρ w s a) {z:Nat} {xs:List Opd} (hc:Fy P o z xs=true) (hz:Am z (xs.map (evO s))=true):Zw P o a w B w0 A ρ (.slv (xs.map (evO s))) h:=by
  unfold Fy at hc
  split at hc
  case h_2=>cases hc
  rename_i T n ps ho
  simp only [Bool.and_eq_true,AC0,Nat.blt_eq,Nat.ble_eq] at hc
  obtain ⟨⟨⟨⟨⟨hT,hz0⟩,hn⟩,hn0⟩,hn1⟩,hps⟩:=hc
  have hn:=Nat.eq_of_beq_eq_true hn
  cases hu:P.underlying T with
  | none=>simp [hu] at hT
  | some dd =>
    cases dd with
    | slice e =>
      simp only [hu,Bool.and_eq_true] at hT
      obtain ⟨i,hi,hsz⟩:=G8 hT.1
      have hzz:=hT.2
      rw [hi] at hzz
      obtain ⟨zv,hzv⟩:=Option.isSome_iff_exists.1 hzz
      obtain ⟨ys,h1,h2⟩:=Uz xs 0 _ hps
      have k1:=Rl hs h2
      obtain ⟨m1,m2,m3⟩:=Dr _ hz k1
      have hlen:(ys.map a.eval).length=n:=by rw [List.length_map,← Nm h2]; exact hn.symm
      have hrun:=O3 (P:=P) (w:=w) (n:=n) (vs:=ys.map a.eval) hu hi hzv (by omega) hlen hn0 (by rw [hsz]; exact hn1) (L4 h1) (fun v hv=>by rw [hsz]; exact m3 v hv)
      obtain ⟨st2,l2⟩:=st.allocA (.cells (Yr (ys.map a.eval)).toArray e)
      refine Zw.value (v':=.slice (some ⟨w.heap.size,0,none⟩) n n) ?_ st2 l2 ?_
      · simp only [execOp,ho,Sem.run_bind,hrun,Result.andThen_ok,Sem.run_pure]
      · simp only [Zl]
        refine ⟨_,n,n,rfl,by rw [List.length_map]; exact hn,ys.map a.eval,Zs.mono l2.hA l2.hρ l2.hw _ k1,m1,⟨z,m2⟩,fun _=>⟨w.heap.size,0,rfl,.inr rfl,?_⟩⟩
        exact G4 (w:=w) (Yr (ys.map a.eval)).toArray e
    | _=>simp [hu] at hT
theorem AAv {place:Nat→Option (Nat×Nat)} {cells:Array Value} {i off z:Nat} {v:Value} {rest:List (Nat×Value)} (hp:place i=some (off,z)) (hv:v.cells.size=z) (hz:off+z≤cells.size) :
    ∃ cells',Instr.fill place cells ((i,v) :: rest)=Instr.fill place cells' rest∧cells'.toList=Vq cells.toList off v.cells.toList:=by
  obtain ⟨k1,k2⟩:=Go.Great.foldl_set off v.cells.toList 0 cells
  refine ⟨_,by
    simp only [Instr.fill,hp]
    rw [if_neg (by simp [hv]; omega)],?_⟩
  refine List.ext_getElem? fun k => ?_
  rw [Qy (by simp; omega)]
  have:=k2 k
  rw [← Array.foldl_toList,Array.toList_zipIdx]
  rw [Array.getElem?_toList]
  refine this.trans ?_
  simp only [Nat.add_zero,Array.length_toList]
  by_cases h1:k<off
  · rw [if_neg (by omega),if_pos h1,Array.getElem?_toList]
  · rw [if_neg h1]
    by_cases h2:k<off+v.cells.size
    · rw [if_pos (by omega),if_pos h2]
    · rw [if_neg (by omega),if_neg h2,Array.getElem?_toList]
theorem U7.app (p:Z8) (ov ov':Ov):U7 p ov ov' (Oq p ov ++ Dk p ov'):=fun e=>by
  rw [List.mem_append,Mu,Tw]
  constructor
  · rintro (h | ⟨q,h1,h2⟩)
    · exact .inl h
    · exact .inr ⟨q,Ux.2 h1,h2⟩
  · rintro (h | ⟨q,h1,h2⟩)
    · exact .inl h
    · exact .inr ⟨q,Ux.1 h1,h2⟩
def W8:List (Nat×Opd)→List (Nat×Operand)→Bool
  | [],[]=>true
  | (j,x) :: r,(i,y) :: t=>Nat.beq i j && Xp x y && W8 r t
  | _,_=>false
theorem Nh {τ:Ty} {R:Type} {K:SV→Option R} {r:R} {place:Nat→Option (Nat×Nat)} (hs:Xh A ρ w s a):(parts:List (Nat×Opd))→{ps:List (Nat×Operand)}→{x:den τ}→{ov:Ov}→{cells:Array Value} →
    W8 parts ps=true→(∀ j x,(j,x)∈parts→okP τ [j])→(∀ j σ (x x':den τ) (y:den σ),okP τ [j]→setP τ [j] x ⟨σ,y⟩=some x'→place j=some (Jd τ [j],Zj σ))→Zm A ρ w τ x ov cells.toList →
    Tm τ s x ov parts K=some r→∃ v ov' cells',K (.dat τ v ov')=some r∧Instr.fill place cells (ps.map fun (i,x)=>(i,a.eval x))=some cells'∧Zm A ρ w τ v ov' cells'.toList
  | [],[],x,ov,cells,_,_,_,hr,hg=>⟨x,ov,cells,hg,rfl,hr⟩
  | (j,q) :: rest,(i,y) :: t,x,ov,cells,hc,hok,hpl,hr,hg=>by
    simp only [W8,Bool.and_eq_true] at hc
    obtain ⟨⟨hi,hxy⟩,hct⟩:=hc
    have hi:=Nat.eq_of_beq_eq_true hi
    subst hi
    have k1:=X4 hs hxy
    simp only [Tm] at hg
    split at hg
    · rename_i σ z ov' hq
      rw [hq] at k1
      simp only [Zl] at k1
      obtain ⟨ds,k1,k2⟩:=k1
      have hcs:(a.eval y).cells.toList=ds:=by rw [k2]; exact Ji k1
      have hlen:(a.eval y).cells.size=Zj σ:=by rw [← Array.length_toList,hcs]; exact Zm.length σ k1
      split at hg
      · rename_i x1 hx1
        have hk:=hok i q (by simp)
        have hsz:Jd τ [i]+Zj σ≤Zj τ:=Uw τ [i] x x1 ⟨σ,z⟩ hk hx1
        have hcl:=Zm.length τ hr
        obtain ⟨cells1,f1,f2⟩:=AAv (rest:=t.map fun (i,x)=>(i,a.eval x)) (hpl i σ x x1 z hk hx1) hlen (by rw [← Array.length_toList,hcl]; exact hsz)
        have hr1:=Zm.setP τ [i] hr hk hx1 k1 (U7.app [i] ov ov')
        rw [← hcs,← f2] at hr1
        obtain ⟨v,ov2,cells2,g1,g2,g3⟩:=Nh hs rest hct (fun j x hm=>hok j x (by simp [hm])) hpl hr1 hg
        exact ⟨v,ov2,cells2,g1,by rw [List.map_cons,f1,g2],g3⟩
      · cases hg
    · cases hg
  | [],_ :: _,_,_,_,hc,_,_,_,_=>by simp [W8] at hc
  | _ :: _,[],_,_,_,hc,_,_,_,_=>by simp [W8] at hc
end
end Go.Proofs.YtjobjooccgledaaGreatDoor.Ghost
namespace Go.Proofs.YtjobjooccgledaaGreatDoor.Ghost
open Go
section
variable {P:Program} {o:Oper} {a:Act} {w:World} {B:Nat} {w0:Y6} {A:Nat→Prop} {ρ:Xf} {own:Nat→Option Nat} {h:Nat→Obj} {s:Nat→SV}
def Rm:List Ty→Nat→List (Nat×Nat)
  | [],_=>[]
  | t :: r,o=>(o,Zj t) :: Rm r (o+Zj t)
theorem Aj:(fs:List Ty)→(o:Nat)→(l:List Field)→Q5 P fs o l=true→(l.mapM fun f=>do pure (f.offset,← sizeOf f.type):Sem (List (Nat×Nat))).run P w=.ok (Rm fs o) w
  | [],_,[],_=>rfl
  | [],_,_ :: _,h=>by simp [Q5] at h
  | _ :: _,_,[],h=>by simp [Q5] at h
  | t :: r,o,f :: s,h=>by
    simp only [Q5,Bool.and_eq_true] at h
    obtain ⟨⟨⟨⟨h1,h2⟩,h3⟩,h4⟩,h5⟩:=h
    have h1:=Nat.eq_of_beq_eq_true h1
    simp only [List.mapM_cons,Sem.run_bind,J7 h2,Result.andThen_ok,Sem.run_pure,Aj r _ s h5,Rm,h1]
theorem Do:(fs:List Ty)→(o j:Nat)→(t:Ty)→fs[j]?=some t→(Rm fs o)[j]?=some (o+Gv fs j [],Zj t)
  | [],_,_,_,h=>by simp at h
  | u :: r,o,0,t,h=>by
    simp at h
    subst h
    have h0:Jd u []=0:=by cases u <;> rfl
    simp [Rm,Gv,h0]
  | u :: r,o,j+1,t,h=>by
    have:=Do r (o+Zj u) j t (by simpa using h)
    simp only [Rm,List.getElem?_cons_succ,this,Gv,Nat.add_assoc]
theorem ABw:(fs:List Ty)→(j:Nat)→(x x':K7 fs)→(d:Dyn)→Ko fs j [] x d=some x'→fs[j]?=some d.τ
  | [],_,_,_,_,h=>by simp [Ko] at h
  | t :: r,0,x,x',d,h=>by
    simp only [Ko] at h
    cases hs:setP t [] x.1 d with
    | none=>rw [hs] at h; cases h
    | some y =>
      have hc:Jc d.τ t d.x=some y:=by cases t <;> simpa only [setP] using hs
      have:=X8 hc
      obtain ⟨σ,z⟩:=d
      cases this
      rfl
  | t :: r,n+1,x,x',d,h=>by
    simp only [Ko] at h
    cases hs:Ko r n [] x.2 d with
    | none=>rw [hs] at h; cases h
    | some y=>simpa using ABw r n x.2 y d hs
def Cq (P:Program) (o:Oper) (τ:Ty) (parts:List (Nat×Opd)) (nils:List (Z8×Nat)):Bool:=match o.op with
  | .build T ps=>Xx P τ T && L8 P τ T && AC6 τ nils && Ua τ && W8 parts ps.toList && parts.all (fun q=>L3 τ [q.1])
  | _=>false
theorem AGx (st:St B w0 A ρ own w h) (hs:Xh A ρ w s a) {τ:Ty} {parts:List (Nat×Opd)} {nils:List (Z8×Nat)} (hc:Cq P o τ parts nils=true) {ov:Ov} {es:Eff} (hn:Rk τ (dft τ) h nils=some (ov,es))
    {R:Type} {K:SV→Option R} {r:R} (hg:Tm τ s (dft τ) ov parts K=some r):∃ v,K v=some r∧Zw P o a w B w0 A ρ v (X7 h es):=by
  unfold Cq at hc
  split at hc
  case h_2=>cases hc
  rename_i T ps ho
  simp only [Bool.and_eq_true] at hc
  obtain ⟨⟨⟨⟨⟨c1,c2⟩,c3⟩,c4⟩,c5⟩,c6⟩:=hc
  obtain ⟨i1,i2⟩:=Ef nils hn
  obtain ⟨ρ1,st1,l1,r1,u1⟩:=st.nils nils c3 hn (fun q hq _=>i2 q hq) (Zm.zero A ρ w τ)
  rw [List.append_nil] at r1
  have hs1:Xh A ρ1 w s a:=fun i=>l1.repV (hs i)
  have hz:=Wl c2 w
  have hcells:(mkV τ (zeroCells τ)).cells.toList=zeroCells τ:=Ji r1
  rw [← hcells] at r1
  have hok:∀ j x,(j,x)∈parts→okP τ [j]:=fun j x hm=>Ce τ [j] (by
    have:=List.all_eq_true.1 c6 (j,x) hm
    exact this)
  have hpsl:(ps.map fun (i,x)=>(i,a.eval x)).toList=ps.toList.map fun (i,x)=>(i,a.eval x):=by simp
  cases τ with
  | st fs =>
    simp only [Xx] at c1
    cases hu:P.underlying T with
    | none=>simp [hu] at c1
    | some dd =>
      cases dd with
      | struct l =>
        simp only [hu] at c1
        have hm:(l.mapM fun f=>do pure (f.offset,← sizeOf f.type):Sem (Array (Nat×Nat))).run P w=.ok (Rm fs 0).toArray w:=by
          rw [Array.mapM_eq_mapM_toList,Sem.run_map,Aj fs 0 l.toList c1]; rfl
        obtain ⟨v,ov',cells',g1,g2,g3⟩:=Nh (place:=((Rm fs 0).toArray[·]?)) hs1 parts c5 hok (fun j σ x x' y hk hset=>by
          simp only [setP] at hset
          have:=Do fs 0 j σ (ABw fs j x x' ⟨σ,y⟩ hset)
          rw [Nat.zero_add] at this
          rw [List.getElem?_toArray,this]; rfl) r1 hg
        refine ⟨_,g1,Zw.value (v':=.agg cells') ?_ st1 l1 (by simp only [Zl,mkV,Ua]; exact ⟨_,g3,by simp⟩)⟩
        simp only [execOp,ho,Instr.build,Sem.run_bind,hz,Result.andThen_ok,run_underlying hu w,hm,hpsl,g2,Sem.run_pure]
      | _=>simp [hu] at c1
  | arr n e =>
    obtain ⟨e',d1,d2,d3,d4⟩:=Tp c1
    obtain ⟨v,ov',cells',g1,g2,g3⟩:=Nh (place:=fun i=>some (i * Zj e,Zj e)) hs1 parts c5 hok (fun j σ x x' y hk hset=>by
      have:σ=e:=by
        simp only [setP] at hset
        have he:setP e [] (List.getD x j (dft e)) ⟨σ,y⟩=Jc σ e y:=by cases e <;> rfl
        cases hy:Jc σ e y with
        | none=>simp [hy,he] at hset
        | some q =>
          have:=X8 hy
          cases this; rfl
      subst this
      have h0:Jd σ []=0:=by cases σ <;> rfl
      simp [Jd,h0]) r1 hg
    refine ⟨_,g1,Zw.value (v':=.agg cells') ?_ st1 l1 (by simp only [Zl,mkV,Ua]; exact ⟨_,g3,by simp⟩)⟩
    simp only [execOp,ho,Instr.build,Sem.run_bind,hz,Result.andThen_ok,run_underlying d1 w,J7 d3,hpsl,g2,Sem.run_pure]
  | _=>simp [Ua] at c4
def D0:List Nat→Nat
  | []=>0
  | n :: r=>n+D0 r
theorem Ds:(sizes:List Nat)→(us:List SV)→{vs:List Value}→T3 sizes us=true→Zs A ρ w us vs→Ws us vs∧vs.length=sizes.length∧∀ (k n:Nat) (v:Value),sizes[k]?=some n→vs[k]?=some v→v.cells.size=n
  | [],[],_,_,h=>by simp only [Zs] at h; subst h; simp [Ws]
  | z :: q,u :: r,vs,hs,h=>by
    simp only [T3,Bool.and_eq_true] at hs
    simp only [Zs] at h
    obtain ⟨v,vs',rfl,h1,h2⟩:=h
    obtain ⟨k1,k2,k3⟩:=Ds q r hs.2 h2
    have hz:Jb u=z:=by
      cases u <;> simp [Hy] at hs <;> exact hs.1
    have hj:u≠.junk:=fun e=>by rw [e] at hs; simp [Hy] at hs
    have hv:=Zl.size hj h1
    refine ⟨⟨hv,Zl.one hs.1 h1,k1⟩,by simp [k2],fun k n v' hk hv' => ?_⟩
    cases k with
    | zero=>simp at hk hv'; subst hk; subst hv'; rw [hv,hz]
    | succ k=>exact k3 k n v' (by simpa using hk) (by simpa using hv')
  | [],_ :: _,_,hs,_=>by simp [T3] at hs
  | _ :: _,[],_,hs,_=>by simp [T3] at hs
theorem AEo {place:Nat→Option (Nat×Nat)}:(vs:List Value)→(sizes:List Nat)→(j off:Nat)→(cells:Array Value)→vs.length=sizes.length→(∀ k n,sizes[k]?=some n→place (j+k)=some (off+Wj sizes k,n)) →
    (∀ (k n:Nat) (v:Value),sizes[k]?=some n→vs[k]?=some v→v.cells.size=n)→off+D0 sizes≤cells.size →
    ∃ cells',Instr.fill place cells ((vs.zipIdx j).map fun x=>(x.2,x.1))=some cells'∧cells'.toList=Vq cells.toList off (Yr vs)
  | [],[],_,_,cells,_,_,_,_=>⟨cells,rfl,by simp [Yr,Vq]⟩
  | v :: r,n :: q,j,off,cells,hl,hp,hv,hz=>by
    have h1:=hv 0 n v rfl rfl
    simp only [D0] at hz
    obtain ⟨c1,f1,f2⟩:=AAv (place:=place) (cells:=cells) (rest:=(r.zipIdx (j+1)).map fun x=>(x.2,x.1)) (v:=v) (by have:=hp 0 n rfl; simpa [Wj] using this) h1 (by omega)
    have hlen:c1.size=cells.size:=by rw [← Array.length_toList,f2,J5 (by simp; omega),Array.length_toList]
    obtain ⟨c2,g1,g2⟩:=AEo (place:=place) r q (j+1) (off+n) c1 (by simpa using hl) (fun k m hk=>by
      have:=hp (k+1) m (by simpa using hk)
      rw [show j+(k+1)=j+1+k by omega] at this
      rw [this]; simp only [Wj]; congr 2; omega) (fun k m u hk hu=>hv (k+1) m u (by simpa using hk) (by simpa using hu)) (by rw [hlen]; omega)
    refine ⟨c2,by simp only [List.zipIdx_cons,List.map_cons]; rw [f1,g1],?_⟩
    have hlr:(Yr r).length=D0 q:=by
      have:∀ (r:List Value) (q:List Nat),r.length=q.length→(∀ (k n:Nat) (v:Value),q[k]?=some n→r[k]?=some v→v.cells.size=n)→(Yr r).length=D0 q:=by
        intro r
        induction r with
        | nil=>intro q h _; cases q <;> simp_all [Yr,D0]
        | cons v r ih =>
          intro q h h'
          cases q with
          | nil=>simp at h
          | cons n q =>
            simp only [Yr,D0,List.length_append,Array.length_toList,h' 0 n v rfl rfl]
            rw [ih q (by simpa using h) (fun k m u hk hu=>h' (k+1) m u (by simpa using hk) (by simpa using hu))]
      exact this r q (by simpa using hl) (fun k m u hk hu=>hv (k+1) m u (by simpa using hk) (by simpa using hu))
    rw [g2,f2]
    refine List.ext_getElem? fun k => ?_
    simp only [Yr]
    rw [Qy (by rw [J5 (by simp; omega)]; simp; omega),Qy (by simp; omega),Qy (by simp; omega)]
    simp only [List.length_append,Array.length_toList,h1,hlr]
    by_cases a1:k<off
    · rw [if_pos (by omega),if_pos a1,if_pos a1]
    · by_cases a2:k<off+n
      · rw [if_pos a2,if_neg a1,if_pos a2,if_neg a1,if_pos (by omega),List.getElem?_append_left (by simp; omega)]
      · by_cases a3:k<off+n+D0 q
        · rw [if_neg a2,if_pos a3,if_neg a1,if_pos (by omega),List.getElem?_append_right (by simp; omega)]
          congr 1; simp; omega
        · rw [if_neg a2,if_neg a3,if_neg a1,if_neg a2,if_neg a1,if_neg (by omega)]
  | [],_ :: _,_,_,_,hl,_,_,_=>by simp at hl
  | _ :: _,[],_,_,_,hl,_,_,_=>by simp at hl
theorem ABv:(sizes:List Nat)→(o:Nat)→(l:List Field)→Hz P sizes o l=true→∃ pl,(l.mapM fun f=>do pure (f.offset,← sizeOf f.type):Sem (List (Nat×Nat))).run P w=.ok pl w∧∀ k n,sizes[k]?=some n→pl[k]?=some (o+Wj sizes k,n)
  | [],_,[],_=>⟨[],rfl,by simp⟩
  | [],_,_ :: _,h=>by simp [Hz] at h
  | _ :: _,_,[],h=>by simp [Hz] at h
  | n :: r,o,f :: s,h=>by
    simp only [Hz,Bool.and_eq_true] at h
    obtain ⟨⟨⟨h1,h2⟩,h3⟩,h5⟩:=h
    have h1:=Nat.eq_of_beq_eq_true h1
    obtain ⟨pl,g1,g2⟩:=ABv r (o+n) s h5
    refine ⟨(o,n) :: pl,by simp only [List.mapM_cons,Sem.run_bind,J7 h2,Result.andThen_ok,Sem.run_pure,g1,h1],fun k m hk => ?_⟩
    cases k with
    | zero=>simp at hk; subst hk; simp [Wj]
    | succ k =>
      have:=g2 k m (by simpa using hk)
      simp only [List.getElem?_cons_succ,this,Wj,Nat.add_assoc]
def Fu (P:Program) (o:Oper) (sizes:List Nat) (parts:List Opd):Bool:=match o.op with
  | .build T ps=>(match P.underlying T with | some (.struct l)=>Hz P sizes 0 l.toList | _=>false) && (match P.info? T with | some i=>(match i.zero with | some (.agg cs)=>Nat.beq cs.size (D0 sizes) | _=>false) | none=>false) && Ph parts 0 ps.toList
  | _=>false
theorem AEv (st:St B w0 A ρ own w h) (hs:Xh A ρ w s a) {sizes:List Nat} {parts:List Opd} (hc:Fu P o sizes parts=true) (hz:T3 sizes (parts.map (evO s))=true):Zw P o a w B w0 A ρ (.agv (parts.map (evO s))) h:=by
  unfold Fu at hc
  split at hc
  case h_2=>cases hc
  rename_i T ps ho
  simp only [Bool.and_eq_true] at hc
  obtain ⟨⟨c1,c2⟩,c3⟩:=hc
  obtain ⟨ys,h1,h2⟩:=Uz parts 0 _ c3
  have k1:=Rl hs h2
  obtain ⟨m1,m2,m3⟩:=Ds _ _ hz k1
  cases hu:P.underlying T with
  | none=>simp [hu] at c1
  | some dd =>
    cases dd with
    | struct l =>
      simp only [hu] at c1
      obtain ⟨pl,p1,p2⟩:=ABv (w:=w) sizes 0 l.toList c1
      have hm:(l.mapM fun f=>do pure (f.offset,← sizeOf f.type):Sem (Array (Nat×Nat))).run P w=.ok pl.toArray w:=by
        rw [Array.mapM_eq_mapM_toList,Sem.run_map,p1]; rfl
      cases hi:P.info? T with
      | none=>simp [hi] at c2
      | some i =>
        simp only [hi] at c2
        cases hzz:i.zero with
        | none=>simp [hzz] at c2
        | some zv =>
          cases zv with
          | agg cs =>
            simp only [hzz] at c2
            have hsz:=Nat.eq_of_beq_eq_true c2
            obtain ⟨cells',g1,g2⟩:=AEo (place:=(pl.toArray[·]?)) (ys.map a.eval) sizes 0 0 cs m2 (fun k n hk=>by
              rw [Nat.zero_add,List.getElem?_toArray]; exact p2 k n hk) m3 (by omega)
            have hall:cells'.toList=Yr (ys.map a.eval):=by
              rw [g2]
              have hl:=U4 _ _ k1 m1
              have hsum:∀ (q:List Nat) (us:List SV),T3 q us=true→Hc us=D0 q:=by
                intro q
                induction q with
                | nil=>intro us h; cases us <;> simp_all [T3,Hc,D0]
                | cons n q ih =>
                  intro us h
                  cases us with
                  | nil=>simp [T3] at h
                  | cons u r =>
                    simp only [T3,Bool.and_eq_true] at h
                    have hz:Jb u=n:=by
                      cases u <;> simp [Hy] at h <;> exact h.1
                    simp only [Hc,D0,hz,ih r h.2]
              unfold Vq
              rw [List.drop_eq_nil_of_le (by rw [hl,hsum _ _ hz,Array.length_toList]; omega)]; simp
            refine Zw.pure st (v':=.agg cells') ?_ (by
              simp only [Zl]
              exact ⟨_,by rw [← hall],k1,m1⟩)
            simp only [execOp,ho,Instr.build,zeroValue,Sem.run_bind,Gl hi,hzz,Result.andThen_ok,run_underlying hu w,hm,Sem.run_pure,Value.cells,L4 h1,g1]
          | _=>simp [hzz] at c2
    | _=>simp [hu] at c1
theorem Ly:(xs:List Opd)→{k:IntKind}→{ns:List Int}→{vs:List Value}→Wt s xs=some (k,ns)→Zs A ρ w (xs.map (evO s)) vs→vs=ns.map (Value.int k)
  | [],_,_,_,h,_=>by simp [Wt] at h
  | [x],k,ns,vs,h,hr=>by
    simp only [Wt] at h
    simp only [List.map_cons,List.map_nil,Zs] at hr
    obtain ⟨v,vs',rfl,h1,rfl⟩:=hr
    split at h
    · rename_i k' n ov hx
      simp only [Option.some.injEq,Prod.mk.injEq] at h
      obtain ⟨rfl,rfl⟩:=h
      rw [hx] at h1
      rw [Hx h1]; rfl
    · cases h
  | x :: y :: r,k,ns,vs,h,hr=>by
    simp only [Wt] at h
    rw [List.map_cons,Zs] at hr
    obtain ⟨v,vs',rfl,h1,h2⟩:=hr
    split at h
    · rename_i k' n ov hx
      split at h
      · rename_i k2 l hl
        split at h
        · rename_i hk
          subst hk
          simp only [Option.some.injEq,Prod.mk.injEq] at h
          obtain ⟨rfl,rfl⟩:=h
          rw [hx] at h1
          rw [Hx h1,Ly (y :: r) (by simpa only [Wt] using hl) h2]; rfl
        · cases h
      · cases h
    · cases h
theorem AIq {k:IntKind}:(l:List Int)→(n:Int)→((l.map (Value.int k)).foldlM Builtin.max2 (Value.int k n)).run P w=.ok (.int k (l.foldl (fun a b=>if a<b then b else a) n)) w
  | [],n=>rfl
  | m :: r,n=>by
    simp only [List.map_cons,List.foldlM_cons,Builtin.max2,Sem.run_bind,Sem.run_pure,Result.andThen_ok,List.foldl_cons]
    exact AIq r _
theorem AIr {k:IntKind}:(l:List Int)→(n:Int)→((l.map (Value.int k)).foldlM Builtin.min2 (Value.int k n)).run P w=.ok (.int k (l.foldl (fun a b=>if b<a then b else a) n)) w
  | [],n=>rfl
  | m :: r,n=>by
    simp only [List.map_cons,List.foldlM_cons,Builtin.min2,Sem.run_bind,Sem.run_pure,Result.andThen_ok,List.foldl_cons]
    exact AIr r _
theorem AM8 (st:St B w0 A ρ own w h) (hs:Xh A ρ w s a) {xs:List Opd} (hc:Nk o (fun | .max=>true | _=>false) xs=true) {k:IntKind} {n:Int} {l:List Int} (hx:Wt s xs=some (k,n :: l)) :
    Zw P o a w B w0 A ρ (.dat (.int k) (l.foldl (fun a b=>if a<b then b else a) n) []) h:=by
  obtain ⟨c,b,ho,hb,hbb,hxs⟩:=To hc
  cases b <;> simp at hbb
  have k1:=Ly xs hx (Rl hs hxs)
  refine Zw.pure st (v':=.int k (l.foldl (fun a b=>if a<b then b else a) n)) ?_ Gg
  rw [Wh ho hb]
  have hl:(c.args.map a.eval).toList=Value.int k n :: l.map (Value.int k):=by rw [Array.toList_map,k1]; rfl
  simp only [builtin,Builtin.max_,hl,Sem.run_bind,AIq,Result.andThen_ok,Sem.run_pure]
theorem AM9 (st:St B w0 A ρ own w h) (hs:Xh A ρ w s a) {xs:List Opd} (hc:Nk o (fun | .min=>true | _=>false) xs=true) {k:IntKind} {n:Int} {l:List Int} (hx:Wt s xs=some (k,n :: l)) :
    Zw P o a w B w0 A ρ (.dat (.int k) (l.foldl (fun a b=>if b<a then b else a) n) []) h:=by
  obtain ⟨c,b,ho,hb,hbb,hxs⟩:=To hc
  cases b <;> simp at hbb
  have k1:=Ly xs hx (Rl hs hxs)
  refine Zw.pure st (v':=.int k (l.foldl (fun a b=>if b<a then b else a) n)) ?_ Gg
  rw [Wh ho hb]
  have hl:(c.args.map a.eval).toList=Value.int k n :: l.map (Value.int k):=by rw [Array.toList_map,k1]; rfl
  simp only [builtin,Builtin.min_,hl,Sem.run_bind,AIr,Result.andThen_ok,Sem.run_pure]
end
end Go.Proofs.YtjobjooccgledaaGreatDoor.Ghost
