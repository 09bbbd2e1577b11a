/- Ranges over a function: the places above an item. Conditions: none. -/
import Derived.Test.YtjobjooccgledaaGreatDoorA4
import Derived.RangeFuncSeq
import Derived.RangeFuncIn
import Derived.RangeFuncLeaves
import Derived.RangeFuncRecord
import Derived.LoopNIn
import Derived.Test.YtjobjooccgledaaGreatDoorGF
import Derived.KernelRfl
import Derived.Test.YtjobjooccgledaaGreatDoorGK
set_option linter.unusedVariables false
set_option linter.unusedSimpArgs false
set_option linter.unusedSectionVars false
set_option linter.unnecessarySimpa false
namespace Go.Proofs.YtjobjooccgledaaGreatDoor.Ghost
open Go
def Wr (ro:Option Nat):Fence:={ Fence.wide with round:=ro }
section
variable {P:Program} {B N n:Nat} {w0:Y6} {ops:Array Oper} {Q:Exit→Act→World→Prop} {cf:Calls} {ro:Option Nat}
def K2 (o:Oper):Bool:=match o.op with | .defer _=>false | _=>true
theorem B0 {o:Oper} (h:K2 o=true):∀ c,o.op≠.defer c:=fun c e=>by unfold K2 at h; rw [e] at h; cases h
theorem AQ6 {o:Oper} {a:Act} {w:World} {next:Act→World→Prop} (hnd:K2 o=true) (h:o.wp P a w next Q):o.wpIn (Wr ro) n P a w next Q:=by
  refine ⟨fun _ _=>trivial,?_⟩
  rw [Oper.semAt_eq _ _ _ (B0 hnd)]
  unfold Oper.wp at h
  cases hr:(execOp a.eval o).run P w with
  | ok v w' =>
    rw [hr] at h
    cases v with
    | value v=>exact h
    | skip=>exact h
    | defer d=>exact h
    | enter f args=>exact ⟨fun hh=>(by cases hh),(callsIn_wide (n:=n - 1)).2 h⟩
    | row r args=>exact ⟨fun hh=>(by cases hh),fun c cs _=>let ⟨v,w'',r,s⟩:=h c cs; ⟨v,w'',r,stepsIn_wide.2 s⟩⟩
    | _=>exact h.elim
  | halt c w' =>
    rw [hr] at h
    cases c with
    | panic v=>exact h
    | _=>exact h.elim
theorem AQ8 {i:Nat} {o:Oper} {rest:List Nat} {a:Act} {w:World} (hi:ops[i]?=some o) (hw:Region.wanted o (yielded ops a.tmps)=false) (h:wpOpsIn (Wr ro) n P ops Q rest (a.put o.dst undef) w):wpOpsIn (Wr ro) n P ops Q (i :: rest) a w:=by
  simp only [wpOpsIn,hi,hw]
  exact ⟨fun _ _=>trivial,h⟩
theorem C5 {i:Nat} {o:Oper} {rest:List Nat} {a:Act} {w:World} (hi:ops[i]?=some o) (hnd:K2 o=true) (hw:Region.wanted o (yielded ops a.tmps)=true) (h:o.wp P a w (wpOpsIn (Wr ro) n P ops Q rest) Q):wpOpsIn (Wr ro) n P ops Q (i :: rest) a w:=by
  simp only [wpOpsIn,hi,hw,if_true]
  exact AQ6 hnd h
theorem AIw {i:Nat} {o:Oper} {l:Ln} {rest:List Nat} {a:Act} {w:World} {h:Nat→Obj} {s:Nat→SV} {A:Nat→Prop} {ρ:Xf} {own:Nat→Option Nat} (hi:ops[i]?=some o) (hnd:K2 o=true) (st:St B w0 A ρ own w h) (hs:Xh A ρ w s a)
    (hcf:Vw P cf) (hc:Kw P N ops l o=true) {v:SV} {e:Eff} (h1:Va cf false l s h v e)
    (hK:∀ v' w' A' ρ' own',St B w0 A' ρ' own' w' (X7 h e)→X9 A ρ w A' ρ' w'→Zl A' ρ' w' v v'→wpOpsIn (Wr ro) n P ops Q rest (a.put o.dst v') w'):wpOpsIn (Wr ro) n P ops Q (i :: rest) a w:=by
  unfold Kw at hc
  simp only [Bool.and_eq_true] at hc
  obtain ⟨⟨c1,c2⟩,c3⟩:=hc
  have hexec:Dv cf false l s h v e→Region.wanted o (yielded ops a.tmps)=true→wpOpsIn (Wr ro) n P ops Q (i :: rest) a w:=fun hx hw=>C5 hi hnd hw (AA4 st hs hcf c1 hx.2 _ Q hK)
  have hskip:v=.und→e=[]→Region.wanted o (yielded ops a.tmps)=false→wpOpsIn (Wr ro) n P ops Q (i :: rest) a w:=fun e1 e2 hw=>by
    subst e1 e2
    exact AQ8 hi hw (hK undef w A ρ own st (X9.refl ..) (by simp only [Zl]))
  unfold Va at h1
  cases hg:l.g with
  | none =>
    rw [hg] at c3 h1
    cases hog:o.guard with
    | none=>exact hexec h1 (by simp [Region.wanted,hog])
    | some p=>rw [hog] at c3; cases c3
  | some p =>
    obtain ⟨j,want⟩:=p
    rw [hg] at c3 h1
    cases hog:o.guard with
    | none=>rw [hog] at c3; cases c3
    | some p' =>
      obtain ⟨gi,want'⟩:=p'
      rw [hog] at c3
      obtain ⟨e1,e2⟩:=Iy c3
      subst e1
      simp only [] at h1
      rcases h1 with ⟨b,hb,h1⟩ | ⟨hb,h1,h2⟩
      · have k1:=hs j
        rw [hb] at k1
        have k2:=AAt (Jj k1)
        rcases h1 with ⟨rfl,h1⟩ | ⟨hne,h1,h2⟩
        · exact hexec h1 (by simp [Region.wanted,hog,e2,k2])
        · exact hskip h1 h2 (by simp [Region.wanted,hog,e2,k2,hne])
      · have k1:=hs j
        rw [hb] at k1
        refine hskip h1 h2 ?_
        rcases AEj (AFx k1) with k2 | k2
        · simp [Region.wanted,hog,e2,k2]
        · simp [Region.wanted,hog,e2,k2,undef]
def AQ5 (t:Nat) (ls:List Ln):Bool:=ls.all fun l=>match l.d with | some d => !(Nat.beq d t) | none=>true
theorem Vu {a:Act} {d:Option Nat} {v:Value} {t:Nat} (h:d≠some t):(a.put d v).tmps.getD t undef=a.tmps.getD t undef:=by
  have:=Act.eval_put (a:=a) (dst:=d) (v:=v) (x:=.tmp t) (fun e he h1=>by cases h1; exact h he)
  exact this
theorem T0 {a:Act} {d:Nat} {v:Value} (h:d<a.tmps.size):(a.put (some d) v).tmps.getD d undef=v:=by
  simp [Act.put,Array.getD_eq_getD_getElem?,h]
theorem Em (hcf:Vw P cf):(ls:List Ln)→(k:Nat)→{s:Nat→SV}→{h:Nat→Obj}→{q:List (SV×Eff)}→{a:Act}→{w:World}→{A:Nat→Prop}→{ρ:Xf}→{own:Nat→Option Nat}→(rest:List Nat) →
    (∀ m l,ls[m]?=some l→∃ o,ops[k+m]?=some o∧Kw P N ops l o=true∧K2 o=true)→Ran cf false ls s h q→St B w0 A ρ own w h→Xh A ρ w s a→a.tmps.size=N →
    (∀ a' w' A' ρ' own',St B w0 A' ρ' own' w' (C6 q h)→Xh A' ρ' w' (C7 ls q s) a'→a'.tmps.size=N→X9 A ρ w A' ρ' w'→a'.defers=a.defers→(∀ t,AQ5 t ls=true→a'.tmps.getD t undef=a.tmps.getD t undef)→wpOpsIn (Wr ro) n P ops Q rest a' w') →
    wpOpsIn (Wr ro) n P ops Q (List.range' k ls.length ++ rest) a w
  | [],k,s,h,q,a,w,A,ρ,own,rest,hc,hr,st,sl,sz,hQ=>by
    have:q=[]:=hr
    subst this
    exact hQ a w A ρ own st sl sz (X9.refl ..) rfl (fun _ _=>rfl)
  | l :: r,k,s,h,q,a,w,A,ρ,own,rest,hc,hr,st,sl,sz,hQ=>by
    obtain ⟨v,e,q',rfl,h1,h2⟩:=hr
    obtain ⟨o,ho,hco,hnd⟩:=hc 0 l rfl
    simp only [List.length_cons,List.range'_succ,List.cons_append]
    have hd:l.d=o.dst∧∀ i,l.d=some i→i<N:=by
      unfold Kw at hco
      simp only [Bool.and_eq_true] at hco
      exact Oc hco.1.2
    refine AIw ho hnd st sl hcf hco h1 (fun v' w' A' ρ' own' st' hl hv => ?_)
    rw [← hd.1]
    refine Em hcf r (k+1) rest (fun m l hm => ?_) h2 st' (Xh.put sl hl (fun i hi=>by rw [sz]; exact hd.2 i hi) hv) (by rw [Kl]; exact sz) (fun a2 w2 A2 ρ2 own2 g1 g2 g3 g4 g5 g6 => ?_)
    · obtain ⟨o',k1,k2⟩:=hc (m+1) l (by simpa using hm)
      exact ⟨o',by rw [Nat.add_right_comm]; exact k1,k2⟩
    · refine hQ a2 w2 A2 ρ2 own2 g1 g2 g3 (hl.trans g4) (g5.trans Q3) (fun t ht => ?_)
      unfold AQ5 at ht
      simp only [List.all_cons,Bool.and_eq_true] at ht
      rw [g6 t ht.2]
      refine Vu (fun e => ?_)
      have:=ht.1
      rw [e] at this
      simp at this
def V3 (P:Program) (N:Nat) (ls:List Ln) (ops:Array Oper):Bool:=Nl P N ops ls ops.toList && ops.toList.all K2
theorem AHg {ls:List Ln} (h:V3 P N ls ops=true):ls.length=ops.size∧∀ (m:Nat) (l:Ln),ls[m]?=some l→∃ o,ops[m]?=some o∧Kw P N ops l o=true∧K2 o=true:=by
  unfold V3 at h
  simp only [Bool.and_eq_true] at h
  obtain ⟨c1,c2⟩:=Rc ls ops.toList h.1
  refine ⟨by simpa using c1,fun m l hm => ?_⟩
  obtain ⟨o,k1,k2⟩:=c2 m l hm
  exact ⟨o,by simpa using k1,k2,List.all_eq_true.1 h.2 o (List.mem_of_getElem? k1)⟩
def put2 (s:Xk) (h:Yj):Option (Xk×Yj):=some (s,h)
theorem Gh (hcf:Vw P cf) {id:Nat} {ls:List Ln} (hc:V3 P N ls ops=true) {s s':Xk} {h h':Yj} (hr:Yz cf false ls s h put2=some (s',h')) {a:Act} {w:World} {A:Nat→Prop} {ρ:Xf} {own:Nat→Option Nat}
    (st:St B w0 A ρ own w (Xn h)) (sl:Xh A ρ w (Xu s) a) (sz:a.tmps.size=N)
    (hQ:∀ a' w' A' ρ' own',St B w0 A' ρ' own' w' (Xn h')→Xh A' ρ' w' (Xu s') a'→a'.tmps.size=N→X9 A ρ w A' ρ' w'→a'.defers=a.defers→(∀ t,AQ5 t ls=true→a'.tmps.getD t undef=a.tmps.getD t undef)→Q .normal a' w') :
    (Code.region id ops false).wpIn (Wr ro) n P Q a w:=by
  obtain ⟨c1,c2⟩:=AHg hc
  obtain ⟨q,s1,h1,q1,q2,q3,q4⟩:=Ox ls hr
  simp only [put2,Option.some.injEq,Prod.mk.injEq] at q2
  obtain ⟨rfl,rfl⟩:=q2
  refine wpIn_region ?_
  have:=Em (n:=n) (ro:=ro) (Q:=Q) hcf ls 0 [] (fun m x hx=>by rw [Nat.zero_add]; exact c2 m x hx) q1 st sl sz (fun a' w' A' ρ' own' g1 g2 g3 g4 g5 g6=>by
    rw [← q3] at g2
    rw [← q4] at g1
    exact hQ a' w' A' ρ' own' g1 g2 g3 g4 g5 g6)
  rw [c1,List.append_nil] at this
  rw [List.range_eq_range']
  exact this
mutual
def Dc:Ty→Bool
  | .bool=>true
  | .int _=>true
  | .str=>true
  | .arr _ e=>Dc e
  | .st fs=>ACq fs
  | _=>false
def ACq:List Ty→Bool
  | []=>true
  | t :: r=>Dc t && ACq r
end
mutual
theorem Zm.flat {A A':Nat→Prop} {ρ ρ':Xf} {w w':World}:(τ:Ty)→Dc τ=true→{x:den τ}→{ov ov':Ov}→{cs:List Value}→Zm A ρ w τ x ov cs→Zm A' ρ' w' τ x ov' cs
  | .bool,_,_,_,_,_,h=>by simpa only [Zm] using h
  | .int _,_,_,_,_,_,h=>by simpa only [Zm] using h
  | .st fs,hf,_,_,_,_,h=>by
    simp only [Zm] at h ⊢
    exact Xs.flat fs (by simpa only [Dc] using hf) h
  | .str,_,_,_,_,_,h=>by simpa only [Zm] using h
  | .sl _,hf,_,_,_,_,_=>by simp [Dc] at hf
  | .arr n e,hf,_,_,_,_,h=>by
    simp only [Zm] at h ⊢
    exact ⟨h.1,h.2.1,fun i hi=>Zm.flat e (by simpa only [Dc] using hf) (h.2.2 i hi)⟩
theorem Xs.flat {A A':Nat→Prop} {ρ ρ':Xf} {w w':World}:(fs:List Ty)→ACq fs=true→{j:Nat}→{x:K7 fs}→{ov ov':Ov}→{cs:List Value}→Xs A ρ w fs j x ov cs→Xs A' ρ' w' fs j x ov' cs
  | [],_,_,_,_,_,_,h=>by simpa only [Xs] using h
  | t :: r,hf,_,_,_,_,_,h=>by
    simp only [ACq,Bool.and_eq_true] at hf
    simp only [Xs] at h ⊢
    exact ⟨Zm.flat t hf.1 h.1,Xs.flat r hf.2 h.2⟩
end
def O2:Obj→Bool
  | .box τ _ ov=>Dc τ || (match τ,ov with | .sl _,[([],some _)]=>true | _,_=>false)
  | .arr e _=>Dc e
  | .hid=>true
  | .dead=>true
  | .none=>true
  | _=>false
theorem Vn.flat {A A':Nat→Prop} {ρ:Xf} {own:Nat→Option Nat} {w w':World} {g:Nat} (hw:∀ b,own b=some g→w'.heap[b]?=w.heap[b]?):(o:Obj)→O2 o=true→Vn A ρ own w g o→Vn A' ρ own w' g o
  | .box τ x ov,hf,h=>by
    simp only [Vn,Tk] at h ⊢
    obtain ⟨s,cs,h1,h2,h3,h4,⟨m1,m2,m3⟩,h5⟩:=h
    refine ⟨s,cs,h1,h2,h3,h4,⟨m1,Ya (hw _ m1) m2,K4 (hw _ m1) m3⟩,?_⟩
    simp only [O2,Bool.or_eq_true] at hf
    rcases hf with hf | hf
    · exact Zm.flat τ hf h5
    · split at hf
      · simp only [Zm] at h5 ⊢
        obtain ⟨a,n,c,k1,k2,_⟩:=h5
        exact ⟨a,n,c,k1,k2,fun hn=>(hn (some _) (List.mem_singleton.2 rfl)).elim⟩
      · cases hf
  | .arr e l,hf,h=>by
    simp only [Vn,V4] at h ⊢
    obtain ⟨s,h1,h2,h3,h4,h5,h6,h7,h8,h9⟩:=h
    refine ⟨s,h1,h2,h3,h4,h5,h6,h7,h8,fun hc => ?_⟩
    obtain ⟨cs,k1,⟨m1,m2,m3⟩,k2⟩:=h9 hc
    exact ⟨cs,k1,⟨m1,Ya (hw _ m1) m2,K4 (hw _ m1) m3⟩,fun i hi=>Zm.flat e (by simpa only [O2] using hf) (k2 i hi)⟩
  | .hid,_,_=>trivial
  | .dead,_,_=>trivial
  | .none,_,h=>h
  | .boxv _,hf,_=>by simp [O2] at hf
  | .fbox _ _ _,hf,_=>by simp [O2] at hf
  | .fboxv _,hf,_=>by simp [O2] at hf
  | .frz _ _,hf,_=>by simp [O2] at hf
  | .map _ _ _,hf,_=>by simp [O2] at hf
theorem St.rebase {A A':Nat→Prop} {ρ:Xf} {own:Nat→Option Nat} {w w':World} {h:Nat→Obj} {w0':Y6} (st:St B w0 A ρ own w h) (hf:∀ g,O2 (h g)=true) (hown:∀ b g,own b=some g→w'.heap[b]?=w.heap[b]?)
    (hsz:w.heap.size≤w'.heap.size) (hap:∀ b g,own b=some g→¬ A' b) (hold:∀ b,A' b→b<w'.heap.size) (hbelow:RowKit.Below B w0'.w w') (hB:B≤w0'.w.heap.size) (himm:∀ b,A' b→w0'.A b∨B≤b) (hgl:Yq A' w'):St B w0' A' ρ own w' h where
  objs g:=Vn.flat (fun b hb=>hown b g hb) _ (hf g) (st.objs g)
  apart:=hap
  old:=hold
  oldO b g hb:=Nat.lt_of_lt_of_le (st.oldO b g hb) hsz
  base:=st.base
  below:=hbelow
  hB:=hB
  imm:=himm
  names:=st.names
  glob:=hgl
def nO (own:Nat→Option Nat) (w:World):Nat→Prop:=fun b=>b<w.heap.size∧own b=none
theorem St.rebase_nO {A:Nat→Prop} {ρ:Xf} {own:Nat→Option Nat} {w w':World} {h:Nat→Obj} (st:St B w0 A ρ own w h) (hf:∀ g,O2 (h g)=true) (hown:∀ b g,own b=some g→w'.heap[b]?=w.heap[b]?) (hsz:w.heap.size≤w'.heap.size) (hB:B≤w.heap.size) (hgl:Yq (nO own w') w'):St B ⟨w',nO own w'⟩ (nO own w') ρ own w' h :=
  st.rebase hf hown hsz (fun b g h1 h2=>by rw [h2.2] at h1; cases h1) (fun b h1=>h1.1) (RowKit.Below.refl B w') (Nat.le_trans hB hsz) (fun b h1=>.inl h1) hgl
theorem St.none_of {A:Nat→Prop} {ρ:Xf} {own:Nat→Option Nat} {w:World} {h:Nat→Obj} (st:St B w0 A ρ own w h) {b:Nat} (hb:A b):own b=none:=by
  cases ho:own b with
  | none=>rfl
  | some g=>exact absurd hb (st.apart b g ho)
theorem St.none_lt {A:Nat→Prop} {ρ:Xf} {own:Nat→Option Nat} {w:World} {h:Nat→Obj} (st:St B w0 A ρ own w h) {b:Nat} (hb:b<B):own b=none:=by
  cases ho:own b with
  | none=>rfl
  | some g=>have:=st.base b g ho; omega
theorem St.glob_nO {A:Nat→Prop} {ρ:Xf} {own:Nat→Option Nat} {w:World} {h:Nat→Obj} (st:St B w0 A ρ own w h):Yq (nO own w) w:=st.glob.mono (fun b hb=>⟨st.old b hb,st.none_of hb⟩) (fun _ _=>rfl)
theorem Yq.along {B:Nat} {G A':Nat→Prop} {w w':World} (hg:Yq G w) (hG:∀ b,G b→b<B) (hb:RowKit.Below B w w') (hA:∀ b,G b→A' b):Yq A' w':=hg.mono hA (fun b h=>hb.block b (hG b h))
theorem Jf {h:Yj} (hf:h.all O2=true):∀ g,O2 (Xn h g)=true:=by
  induction h with
  | nil=>intro g; rfl
  | cons o r ih =>
    intro g
    simp only [List.all_cons,Bool.and_eq_true] at hf
    cases g with
    | zero=>exact hf.1
    | succ g=>exact ih hf.2 g
theorem Q7 {A:Nat→Prop} {ρ:Xf} {w:World} {a:Act}:(s:Xk)→(∀ j v,(j,v)∈s→Zl A ρ w v (a.tmps.getD j undef))→Xh A ρ w (Xu s) a
  | [],_,i=>by simp only [Xu,Zl]
  | (k,v) :: r,h,i=>by
    simp only [Xu]
    cases hb:Nat.beq k i with
    | true =>
      have:=Nat.eq_of_beq_eq_true hb
      subst this
      exact h k v (by simp)
    | false=>exact Q7 r (fun j v hv=>h j v (by simp [hv])) i
theorem Hb {A A':Nat→Prop} {ρ:Xf} {w w':World} {g:Nat} {p:Z8} {v:Value} (h:Zl A ρ w (.ptr g p) v):Zl A' ρ w' (.ptr g p) v:=by simpa only [Zl] using h
end
end Go.Proofs.YtjobjooccgledaaGreatDoor.Ghost
namespace Go.Proofs.YtjobjooccgledaaGreatDoor.Ghost
open Go
def upL (l:List (den Zb)):Nat→den Zb→Option (List (den Zb))
  | 0,_=>none
  | f+1,p=>bif decide ((p.1:Int)=2) then (if (0:Int)≤p.2.1∧(p.2.1:Int)<(List.length l:Int) then (match upL l f (List.getD l (Int.toNat p.2.1) (dft Zb)) with | some r=>some (p :: r) | none=>none) else none) else some [p]
def J2 (x:den Zb):Value:=mkV Zb [.int .i64 x.1,.int .i64 x.2.1]
theorem AKg {A:Nat→Prop} {ρ:Xf} {w:World} {x:den Zb} {ov:Ov} {v:Value} (h:Zl A ρ w (.dat Zb x ov) v):v=J2 x:=by
  simp only [Zl,Zm,Xs] at h
  obtain ⟨cs,⟨h1,h2,h3⟩,rfl⟩:=h
  have e:cs=[.int .i64 x.1,.int .i64 x.2.1]:=by
    match cs with
    | []=>simp at h1
    | c :: r =>
      simp [Zj] at h1 h2 h3
      subst h1
      match r with
      | []=>simp at h2
      | c :: r=>simp at h2 h3; subst h2 h3; rfl
  rw [e]; rfl
def u0:List Ln:=[⟨some 5,.fieldAddr (.d Za) 3 (.t 1),none,[],[]⟩,⟨some 6,.load (.d (.sl Zb)) (.t 5),none,[],[]⟩,⟨some 7,.load (.d (.int .i64)) (.t 2),none,[],[]⟩,⟨some 8,.index (.sl Zb) (.t 6) (.t 7),none,[],[]⟩,⟨some 9,.load (.d Zb) (.t 8),none,[],[]⟩,⟨some 4,.newbox 0 Zb [],none,[],[]⟩,⟨none,.store (.d Zb) (.t 4) (.t 9),none,[],[]⟩]
def u1a:Ln:=⟨some 11,.load (.d Zb) (.t 4),none,[],[]⟩
def u1b:List Ln:=[⟨some 13,.move (.t 12),none,[],[]⟩,⟨some 14,.fieldAddr (.d Zb) 0 (.t 4),some (13,true),[],[]⟩,⟨some 15,.load (.d (.int .i64)) (.t 14),some (13,true),[],[]⟩,⟨some 16,.bin .eql (.t 15) (.c (.int .i64) (2:Int)),some (13,true),[],[]⟩,⟨some 17,.pick (.t 13) (.t 16) (.c .bool false),none,[],[]⟩]
def u2:List Ln:=[⟨some 18,.fieldAddr (.d Za) 3 (.t 1),none,[],[]⟩,⟨some 19,.load (.d (.sl Zb)) (.t 18),none,[],[]⟩,⟨some 20,.fieldAddr (.d Zb) 1 (.t 4),none,[],[]⟩,⟨some 21,.load (.d (.int .i64)) (.t 20),none,[],[]⟩,⟨some 22,.index (.sl Zb) (.t 19) (.t 21),none,[],[]⟩,⟨some 23,.load (.d Zb) (.t 22),none,[],[]⟩,⟨none,.store (.d Zb) (.t 4) (.t 23),none,[],[]⟩]
def u3:List Ln:=[⟨some 24,.load (.d Zb) (.t 4),none,[],[]⟩]
def u4:List Ln:=[⟨some 4,.newbox 1 Zb [],none,[],[]⟩,⟨none,.store (.d Zb) (.t 4) (.t 24),none,[],[]⟩]
theorem BHx (w:den Za) (i:Int):Yz Yl false u0 [(1,.ref Za w),(2,.ref (.int .i64) i)] [] put2 =
    if (0:Int)≤i∧i<(((List.length (w.2.2.2.1:List (den Zb))):Nat):Int) then some ([(1,.ref Za w),(2,.ref (.int .i64) i),(5,.ref (.sl Zb) w.2.2.2.1),(6,.dat (.sl Zb) w.2.2.2.1 []),(7,.dat (.int .i64) i []),(8,.ref Zb (List.getD (w.2.2.2.1:List (den Zb)) (Int.toNat i) (dft Zb))),(9,.dat Zb (List.getD (w.2.2.2.1:List (den Zb)) (Int.toNat i) (dft Zb)) []),(4,.ptr 0 [])],[.box Zb (List.getD (w.2.2.2.1:List (den Zb)) (Int.toNat i) (dft Zb)) []]) else none:=by kernel_rfl
theorem ARb (p:den Zb) (r:Bool):∃ s,Yz Yl false u1b [(4,.ptr 0 []),(12,.dat .bool r [])] [.box Zb p []] put2=some (s,[.box Zb p []])∧Xu s 17=.dat .bool (r && decide ((p.1:Int)=2)) []∧Xu s 4=.ptr 0 []:=by
  cases r
  · exact ⟨[(4,.ptr 0 []),(12,.dat .bool false []),(13,.dat .bool false []),(14,.und),(15,.und),(16,.und),(17,.dat .bool false [])],by kernel_rfl,rfl,rfl⟩
  · exact ⟨[(4,.ptr 0 []),(12,.dat .bool true []),(13,.dat .bool true []),(14,.ptr 0 [0]),(15,.dat (.int .i64) p.1 []),(16,.dat .bool (decide ((p.1:Int)=2)) []),(17,.dat .bool (decide ((p.1:Int)=2)) [])],by kernel_rfl,rfl,rfl⟩
theorem BHy (w:den Za) (p:den Zb):Yz Yl false u2 [(1,.ref Za w),(4,.ptr 0 [])] [.box Zb p []] put2 =
    if (0:Int)≤p.2.1∧(p.2.1:Int)<(((List.length (w.2.2.2.1:List (den Zb))):Nat):Int) then some ([(1,.ref Za w),(4,.ptr 0 []),(18,.ref (.sl Zb) w.2.2.2.1),(19,.dat (.sl Zb) w.2.2.2.1 []),(20,.ptr 0 [1]),(21,.dat (.int .i64) p.2.1 []),(22,.ref Zb (List.getD (w.2.2.2.1:List (den Zb)) (Int.toNat p.2.1) (dft Zb))),(23,.dat Zb (List.getD (w.2.2.2.1:List (den Zb)) (Int.toNat p.2.1) (dft Zb)) [])],[.box Zb (List.getD (w.2.2.2.1:List (den Zb)) (Int.toNat p.2.1) (dft Zb)) []]) else none:=by kernel_rfl
theorem BHz (p:den Zb):Yz Yl false u3 [(4,.ptr 0 [])] [.box Zb p []] put2=some ([(4,.ptr 0 []),(24,.dat Zb p [])],[.box Zb p []]):=by kernel_rfl
theorem BH0 (p:den Zb):Yz Yl false u4 [(4,.ptr 0 []),(24,.dat Zb p [])] [.box Zb p []] put2=some ([(4,.ptr 1 []),(24,.dat Zb p [])],[.box Zb p [],.box Zb p []]):=by kernel_rfl
def I2 (o:Oper):Bool:=(match o.op with | .move (.tmp 0)=>true | _=>false) && (match o.dst with | some d=>Nat.beq d 10 | none=>false) && o.guard.isNone
def I3 (o:Oper):Bool:=(match o.op with | .call ⟨.value (.tmp 10),args,_⟩=>(match args.toList with | [.tmp 11]=>true | _=>false) | _=>false) && (match o.dst with | some d=>Nat.beq d 12 | none=>false) && o.guard.isNone
def upN:Nat:=25
def AKr (P:Program) (fn:Func):Bool:=Nat.beq fn.ntmps upN && fn.results.isEmpty && (match fn.body with
  | some (.seq (.region _ ops0 false) (.block b (.loop (.seq (.seq (.region _ ops1 false) (.cond (.tmp 17) .skip (.exit e))) (.seq (.block _ (.region _ ops2 false)) (.seq (.region _ ops3 false) (.region _ ops4 false))))))) =>
    Nat.beq b e && V3 P upN u0 ops0 && V3 P upN u2 ops2 && V3 P upN u3 ops3 && V3 P upN u4 ops4 && (match ops1.toList with
      | [o0,o1,o2,o3,o4,o5,o6,o7]=>I2 o0 && Kw P upN ops1 u1a o1 && K2 o1 && I3 o2 && Nl P upN ops1 u1b [o3,o4,o5,o6,o7] && [o3,o4,o5,o6,o7].all K2
      | _=>false)
  | _=>false)
end Go.Proofs.YtjobjooccgledaaGreatDoor.Ghost
namespace Go.Proofs.YtjobjooccgledaaGreatDoor.Ghost
open Go
theorem BHo {P:Program} {B N n:Nat} {w0:Y6} {ops:Array Oper} {Q:Exit→Act→World→Prop} {cf:Calls} {ro:Option Nat} (hcf:Vw P cf) {ls:List Ln} {k:Nat} {rest:List Nat}
    (hc:∀ (m:Nat) (l:Ln),ls[m]?=some l→∃ o,ops[k+m]?=some o∧Kw P N ops l o=true∧K2 o=true) {s s':Xk} {h h':Yj} (hr:Yz cf false ls s h put2=some (s',h')) {a:Act} {w:World} {A:Nat→Prop} {ρ:Xf} {own:Nat→Option Nat}
    (st:St B w0 A ρ own w (Xn h)) (sl:Xh A ρ w (Xu s) a) (sz:a.tmps.size=N)
    (hQ:∀ a' w' A' ρ' own',St B w0 A' ρ' own' w' (Xn h')→Xh A' ρ' w' (Xu s') a'→a'.tmps.size=N→X9 A ρ w A' ρ' w'→a'.defers=a.defers→(∀ t,AQ5 t ls=true→a'.tmps.getD t undef=a.tmps.getD t undef)→wpOpsIn (Wr ro) n P ops Q rest a' w') :
    wpOpsIn (Wr ro) n P ops Q (List.range' k ls.length ++ rest) a w:=by
  obtain ⟨q,s1,h1,q1,q2,q3,q4⟩:=Ox ls hr
  simp only [put2,Option.some.injEq,Prod.mk.injEq] at q2
  obtain ⟨rfl,rfl⟩:=q2
  exact Em hcf ls k rest hc q1 st sl sz (fun a' w' A' ρ' own' g1 g2 g3 g4 g5 g6=>by
    rw [← q3] at g2
    rw [← q4] at g1
    exact hQ a' w' A' ρ' own' g1 g2 g3 g4 g5 g6)
structure AOj (fp:Nat→Prop) (W W':World):Prop where
  size:W.heap.size≤W'.heap.size
  block:∀ b,b<W.heap.size→¬ fp b→W'.heap[b]?=W.heap[b]?
structure Fr (P:Program) (l B:Nat) (A0:Nat→Prop) (J:List (den Zb)→(Nat→Prop)→World→Prop) (Jx:List (den Zb)→(Nat→Prop)→World→Prop):Prop where
  stab:∀ pre fp W W',J pre fp W→RowKit.Below B W W'→(∀ b,fp b→W'.heap[b]?=W.heap[b]?)→J pre fp W'
  stabx:∀ pre fp W W',Jx pre fp W→RowKit.Below B W W'→(∀ b,fp b→W'.heap[b]?=W.heap[b]?)→Jx pre fp W'
  lt:∀ pre fp W,J pre fp W→∀ b,fp b→b<W.heap.size∧¬ A0 b
  ltx:∀ pre fp W,Jx pre fp W→∀ b,fp b→b<W.heap.size∧¬ A0 b
  glob:∀ pre fp W,J pre fp W→Yq A0 W
  globx:∀ pre fp W,Jx pre fp W→Yq A0 W
  yield:∀ m pre fp W x,J pre fp W→pre.length<100→YieldAt Fence.wide m P l #[J2 x] W (fun e W'=>∃ fp',AOj fp W W'∧(∀ b,fp' b→fp b∨W.heap.size≤b) ∧
    ((e=.returned (.bool true)∧J (pre ++ [x]) fp' W')∨(e=.returned (.bool false)∧Jx (pre ++ [x]) fp' W')))
section
variable {P:Program} {l B:Nat} {A0:Nat→Prop} {J Jx:List (den Zb)→(Nat→Prop)→World→Prop}
structure It (l B:Nat) (A0:Nat→Prop) (J:List (den Zb)→(Nat→Prop)→World→Prop) (w:den Za) (pre:List (den Zb)) (fp:Nat→Prop) (p:den Zb) (a:Act) (W:World):Prop where
  ex:∃ ρ own,St B ⟨W,nO own W⟩ (nO own W) ρ own W (Xn [.box Zb p []])∧Zl (nO own W) ρ W (.ptr 0 []) (a.tmps.getD 4 undef)∧(∀ b,fp b→own b=none)
  r1:Zl A0 (fun _=>none) W (.ref Za w) (a.tmps.getD 1 undef)
  y:a.tmps.getD 0 undef=.func (.yield l) #[] #[]
  sz:a.tmps.size=upN
  df:a.defers=[]
  j:J pre fp W
  hA:∀ b,A0 b→b<B
theorem AKu {o:Oper} {a:Act} {w:World} {l:Nat} {x:Value} {r:Next} (hc:I3 o=true) (h10:a.tmps.getD 10 undef=.func (.yield l) #[] #[]) (h11:a.tmps.getD 11 undef=x) (hy:(Instr.yield l #[x]).run P w=.ok r w) :
    (execOp a.eval o).run P w=.ok r w∧o.dst=some 12∧o.guard=none∧K2 o=true:=by
  unfold I3 at hc
  simp only [Bool.and_eq_true] at hc
  obtain ⟨⟨h1,h2⟩,h3⟩:=hc
  split at h1
  · rename_i args ty ho
    split at h1
    · rename_i ha
      have ha':args = #[.tmp 11]:=by
        apply Array.ext'
        exact ha
      refine ⟨?_,?_,by simpa using h3,by unfold K2; rw [ho]⟩
      · have e10:a.eval (.tmp 10)=.func (.yield l) #[] #[]:=h10
        have e11:a.eval (.tmp 11)=x:=h11
        simp only [execOp,ho,ha',Sem.run_bind,Go.resolve,Deferred.ofValue,e10,Sem.run_pure,Result.andThen_ok,invoke,List.map_toArray,List.map_cons,List.map_nil,e11]
        exact hy
      · split at h2
        · rename_i d hd; rw [hd,Nat.eq_of_beq_eq_true h2]
        · cases h2
    · cases h1
  · cases h1
theorem AJ8 {o:Oper} {a:Act} {w:World} (hc:I2 o=true):(execOp a.eval o).run P w=.ok (.value (a.tmps.getD 0 undef)) w∧o.dst=some 10∧o.guard=none∧K2 o=true:=by
  unfold I2 at hc
  simp only [Bool.and_eq_true] at hc
  obtain ⟨⟨h1,h2⟩,h3⟩:=hc
  split at h1
  · rename_i ho
    refine ⟨by simp only [execOp,ho]; rfl,?_,by simpa using h3,by unfold K2; rw [ho]⟩
    split at h2
    · rename_i d hd; rw [hd,Nat.eq_of_beq_eq_true h2]
    · cases h2
  · cases h1
theorem AOe (R:Fr P l B A0 J Jx) {o0 o1 o2 o3 o4 o5 o6 o7:Oper} {ops:Array Oper} (ho:ops.toList=[o0,o1,o2,o3,o4,o5,o6,o7]) (c0:I2 o0=true) (c1:Kw P upN ops u1a o1=true) (n1:K2 o1=true) (c2:I3 o2=true)
    (c3:Nl P upN ops u1b [o3,o4,o5,o6,o7]=true) (n3:[o3,o4,o5,o6,o7].all K2=true) {id n:Nat} {Q:Exit→Act→World→Prop} {w:den Za} {pre:List (den Zb)} {fp:Nat→Prop} {p:den Zb} {a:Act} {W:World} (it:It l B A0 J w pre fp p a W) (hl:pre.length<100)
    (hT:∀ a' fp' W',It l B A0 J w (pre ++ [p]) fp' p a' W'→a'.eval (.tmp 17)=.bool (decide ((p.1:Int)=2))→Q .normal a' W')
    (hF:∀ a' fp' W',a'.defers=[]→Jx (pre ++ [p]) fp' W'→a'.eval (.tmp 17)=.bool false→Q .normal a' W'):(Code.region id ops false).wpIn (Wr none) n P Q a W:=by
  obtain rfl:ops = #[o0,o1,o2,o3,o4,o5,o6,o7]:=Array.ext' ho
  refine wpIn_region ?_
  show wpOpsIn (Wr none) n P _ Q [0,1,2,3,4,5,6,7] a W
  obtain ⟨⟨ρ,own,st,s4,hfp⟩,r1,y,sz,df,j,hA⟩:=it
  obtain ⟨k1,k2,k3,k4⟩:=AJ8 (P:=P) (a:=a) (w:=W) c0
  refine C5 (i:=0) (o:=o0) rfl k4 (by simp [Region.wanted,k3]) ?_
  unfold Oper.wp
  rw [k1,Oper.upon_value,k2,y]
  have e10:(a.put (some 10) (.func (.yield l) #[] #[])).tmps.getD 10 undef=.func (.yield l) #[] #[]:=T0 (by rw [sz]; decide)
  have e4:(a.put (some 10) (.func (.yield l) #[] #[])).tmps.getD 4 undef=a.tmps.getD 4 undef:=Vu (by decide)
  have e1:(a.put (some 10) (.func (.yield l) #[] #[])).tmps.getD 1 undef=a.tmps.getD 1 undef:=Vu (by decide)
  have e0:(a.put (some 10) (.func (.yield l) #[] #[])).tmps.getD 0 undef=a.tmps.getD 0 undef:=Vu (by decide)
  have esz:(a.put (some 10) (.func (.yield l) #[] #[])).tmps.size=upN:=by rw [Kl]; exact sz
  have edf:(a.put (some 10) (.func (.yield l) #[] #[])).defers=[]:=by rw [Q3]; exact df
  rw [← e1] at r1; rw [← e0] at y; rw [← e4] at s4
  generalize a.put (some 10) (.func (.yield l) #[] #[])=b at *
  refine AIw (i:=1) (o:=o1) (l:=u1a) (s:=Xu [(4,.ptr 0 [])]) rfl n1 st (Q7 _ (fun j v hv => ?_)) X1 c1 (v:=.dat Zb p []) (e:=[]) ⟨(fun h=>by cases h),by kernel_rfl⟩ (fun v' W1 A1 ρ1 own1 st1 l1 hv1 => ?_)
  · simp only [List.mem_singleton,Prod.mk.injEq] at hv
    obtain ⟨rfl,rfl⟩:=hv
    exact s4
  have hd1:o1.dst=some 11:=by
    unfold Kw at c1
    simp only [Bool.and_eq_true] at c1
    exact ((Oc c1.1.2).1).symm
  rw [hd1]
  have hpl:=AKg hv1
  subst hpl
  have f11:(b.put (some 11) (J2 p)).tmps.getD 11 undef=J2 p:=T0 (by rw [esz]; decide)
  have f10:(b.put (some 11) (J2 p)).tmps.getD 10 undef=.func (.yield l) #[] #[]:=(Vu (by decide)).trans e10
  have f4:(b.put (some 11) (J2 p)).tmps.getD 4 undef=b.tmps.getD 4 undef:=Vu (by decide)
  have f1:(b.put (some 11) (J2 p)).tmps.getD 1 undef=b.tmps.getD 1 undef:=Vu (by decide)
  have f0:(b.put (some 11) (J2 p)).tmps.getD 0 undef=b.tmps.getD 0 undef:=Vu (by decide)
  have fsz:(b.put (some 11) (J2 p)).tmps.size=upN:=by rw [Kl]; exact esz
  have fdf:(b.put (some 11) (J2 p)).defers=[]:=by rw [Q3]; exact edf
  have s4':Zl A1 ρ1 W1 (.ptr 0 []) (b.tmps.getD 4 undef):=l1.repV s4
  have keep1:∀ b,b<W.heap.size→own b=none→W1.heap[b]?=W.heap[b]?:=fun b h1 h2=>l1.hw b ⟨h1,h2⟩
  have hW1:W.heap.size≤W1.heap.size:=st1.below.size
  have hlt:=R.lt _ _ _ j
  have j1:J pre fp W1:=R.stab _ _ _ _ j st1.below (fun b hb=>keep1 b (hlt b hb).1 (hfp b hb))
  have hBW:B≤W.heap.size:=st.hB
  have hA0:∀ b,A0 b→b<W.heap.size∧own b=none:=fun b hb=>⟨Nat.lt_of_lt_of_le (hA b hb) hBW,by
    cases ho:own b with
    | none=>rfl
    | some g=>have:=st.base b g ho; have:=hA b hb; omega⟩
  have r1':Zl A0 (fun _=>none) W1 (.ref Za w) (b.tmps.getD 1 undef):=Zl.mono (fun _ h=>h) (fun _ _ h=>h) (fun b hb=>keep1 b (hA0 b hb).1 (hA0 b hb).2) _ r1
  have own1fp:∀ b,fp b→own1 b=none:=fun b hb=>by
    cases ho:own1 b with
    | none=>rfl
    | some g=>exact absurd (l1.hA b ⟨(hlt b hb).1,hfp b hb⟩) (st1.apart b g ho)
  rw [← f4] at s4'; rw [← f1] at r1'; rw [← f0] at y
  clear f4 f1 f0 e4 e1 e0 s4 r1 e10
  generalize b.put (some 11) (J2 p)=c at *
  obtain ⟨fn,tmps,assign,body,hy,hR⟩:=R.yield (n - 1) pre fp W1 p j1 hl
  obtain ⟨m1,m2,m3,m4⟩:=AKu (P:=P) (a:=c) (w:=W1) c2 f10 f11 hy
  simp only [wpOpsIn]
  have hw2:Region.wanted o2 (yielded #[o0,o1,o2,o3,o4,o5,o6,o7] c.tmps)=true:=by simp [Region.wanted,m3]
  have hi2:(#[o0,o1,o2,o3,o4,o5,o6,o7]:Array Oper)[2]?=some o2:=rfl
  simp only [hi2,hw2,if_true]
  refine ⟨fun _ _=>trivial,?_⟩
  rw [Oper.semAt_eq _ _ _ (B0 m4),m1,Oper.uponIn_round]
  refine ⟨fun h=>(by cases h),RoundIn.mono hR ?_⟩
  rintro e W2 ⟨fp2,kp,hfp2,hor⟩
  have key:∀ r:Bool,e=.returned (.bool r)→(∀ b,fp2 b→b<W2.heap.size∧¬ A0 b)→Yq A0 W2→(∀ a' W3,a'.eval (.tmp 17)=.bool (r && decide ((p.1:Int)=2))→a'.tmps.getD 0 undef=.func (.yield l) #[] #[]→a'.tmps.size=upN→a'.defers=[] →
      Zl A0 (fun _=>none) W3 (.ref Za w) (a'.tmps.getD 1 undef)→RowKit.Below B W2 W3→(∀ b,fp2 b→W3.heap[b]?=W2.heap[b]?) →
      (∃ ρ own,St B ⟨W3,nO own W3⟩ (nO own W3) ρ own W3 (Xn [.box Zb p []])∧Zl (nO own W3) ρ W3 (.ptr 0 []) (a'.tmps.getD 4 undef)∧(∀ b,fp2 b→own b=none))→Q .normal a' W3) →
      match e with
      | .returned v=>wpOpsIn (Wr none) n P #[o0,o1,o2,o3,o4,o5,o6,o7] Q [3,4,5,6,7] (c.put o2.dst v) W2
      | .panicked Kv=>Q (.panic Kv) c W2
      | .outgrown=>LetsOut Q:=by
    intro r he hlt2 hg2 hK
    subst he
    rw [m2]
    show wpOpsIn (Wr none) n P _ Q [3,4,5,6,7] (c.put (some 12) (.bool r)) W2
    have hown:∀ b g,own1 b=some g→W2.heap[b]?=W1.heap[b]?:=fun b g hb=>kp.block b (st1.oldO b g hb) (fun hf=>by rw [own1fp b hf] at hb; cases hb)
    have st2:=st1.rebase_nO (w':=W2) (Jf rfl) hown kp.size (Nat.le_trans hBW hW1) (hg2.mono (fun b hb=>⟨Nat.lt_of_lt_of_le (Nat.lt_of_lt_of_le (hA0 b hb).1 hW1) kp.size,st1.none_of (l1.hA b (hA0 b hb))⟩) (fun _ _=>rfl))
    have g12:(c.put (some 12) (.bool r)).tmps.getD 12 undef=.bool r:=T0 (by rw [fsz]; decide)
    have g4:(c.put (some 12) (.bool r)).tmps.getD 4 undef=c.tmps.getD 4 undef:=Vu (by decide)
    have g1:(c.put (some 12) (.bool r)).tmps.getD 1 undef=c.tmps.getD 1 undef:=Vu (by decide)
    have g0:(c.put (some 12) (.bool r)).tmps.getD 0 undef=c.tmps.getD 0 undef:=Vu (by decide)
    obtain ⟨s',hrun,h17,h4⟩:=ARb p r
    obtain ⟨q1,q2⟩:=Rc u1b _ c3
    have own2fp:∀ b,fp2 b→own1 b=none:=fun b hb=>by
      rcases hfp2 b hb with h | h
      · exact own1fp b h
      · cases ho:own1 b with
        | none=>rfl
        | some g=>have:=st1.oldO b g ho; omega
    refine BHo (N:=upN) (ls:=u1b) (k:=3) (rest:=[]) X1 (fun m x hm => ?_) hrun st2 (Q7 _ (fun j v hv => ?_)) (by rw [Kl]; exact fsz) (fun a' W3 A3 ρ3 own3 st3 sl3 sz3 l3 df3 tr3 => ?_)
    · obtain ⟨o,q3,q4⟩:=q2 m x hm
      refine ⟨o,?_,q4,List.all_eq_true.1 n3 o (List.mem_of_getElem? q3)⟩
      rw [← q3]
      show (#[o0,o1,o2,o3,o4,o5,o6,o7]:Array Oper)[3+m]?=[o3,o4,o5,o6,o7][m]?
      rw [← Array.getElem?_toList]
      rw [Nat.add_comm]
      rfl
    · simp only [List.mem_cons,Prod.mk.injEq,List.not_mem_nil,or_false] at hv
      rcases hv with ⟨rfl,rfl⟩ | ⟨rfl,rfl⟩
      · rw [g4]; exact Hb s4'
      · rw [g12]; simp only [Zl,Zm]; exact ⟨_,rfl,rfl⟩
    · have hk3:∀ b,b<W2.heap.size→own1 b=none→W3.heap[b]?=W2.heap[b]?:=fun b h1 h2=>l3.hw b ⟨h1,h2⟩
      have own3fp:∀ b,fp2 b→own3 b=none:=fun b hb=>by
        cases ho:own3 b with
        | none=>rfl
        | some g=>exact absurd (l3.hA b ⟨(hlt2 b hb).1,own2fp b hb⟩) (st3.apart b g ho)
      have t0:=(tr3 0 rfl).trans g0
      have t1:=(tr3 1 rfl).trans g1
      have s17:=sl3 17
      rw [h17] at s17
      have s4'':=sl3 4
      rw [h4] at s4''
      show Q .normal a' W3
      refine hK a' W3 (Jj s17) (t0.trans y) sz3 (df3.trans (Q3.trans fdf)) ?_ st3.below (fun b hb=>hk3 b (hlt2 b hb).1 (own2fp b hb)) ⟨ρ3,own3,st3.rebase_nO (Jf rfl) (fun _ _ _=>rfl) (Nat.le_refl _) (Nat.le_trans (Nat.le_trans hBW hW1) (Nat.le_trans kp.size st3.below.size)) st3.glob_nO,Hb s4'',own3fp⟩
      rw [t1]
      refine Zl.mono (fun _ h=>h) (fun _ _ h=>h) (fun b hb => ?_) _ r1'
      have hb2:b<W1.heap.size:=Nat.lt_of_lt_of_le (hA0 b hb).1 hW1
      have hnf:¬ fp b:=fun hf=>(hlt b hf).2 hb
      have ho1:own1 b=none:=by
        cases ho:own1 b with
        | none=>rfl
        | some g=>exact absurd (l1.hA b (hA0 b hb)) (st1.apart b g ho)
      exact (hk3 b (Nat.lt_of_lt_of_le hb2 kp.size) ho1).trans (kp.block b hb2 hnf)
  rcases hor with ⟨rfl,j2⟩ | ⟨rfl,j2⟩
  · refine key true rfl (R.lt _ _ _ j2) (R.glob _ _ _ j2) (fun a' W3 h17 h0 hsz hdf h1 hbel hf hex => ?_)
    rw [Bool.true_and] at h17
    exact hT a' fp2 W3 ⟨hex,h1,h0,hsz,hdf,R.stab _ _ _ _ j2 hbel hf,hA⟩ h17
  · refine key false rfl (R.ltx _ _ _ j2) (R.globx _ _ _ j2) (fun a' W3 h17 h0 hsz hdf h1 hbel hf hex => ?_)
    rw [Bool.false_and] at h17
    exact hF a' fp2 W3 hdf (R.stabx _ _ _ _ j2 hbel hf) h17
end
end Go.Proofs.YtjobjooccgledaaGreatDoor.Ghost
namespace Go.Proofs.YtjobjooccgledaaGreatDoor.Ghost
open Go
section
variable {P:Program} {l B:Nat} {A0:Nat→Prop} {J Jx:List (den Zb)→(Nat→Prop)→World→Prop}
theorem AOd {l:List (den Zb)} {f:Nat} {p:den Zb} {xs:List (den Zb)} (h:upL l f p=some xs):∃ k,f=k+1∧((¬ (p.1:Int)=2∧xs=[p])∨((p.1:Int)=2∧((0:Int)≤p.2.1∧(p.2.1:Int)<(List.length l:Int))∧∃ r,upL l k (List.getD l (Int.toNat p.2.1) (dft Zb))=some r∧xs=p :: r)):=by
  cases f with
  | zero=>cases h
  | succ k =>
    refine ⟨k,rfl,?_⟩
    simp only [upL] at h
    by_cases hp:(p.1:Int)=2
    · rw [decide_eq_true hp,cond_true] at h
      split at h
      · rename_i hb
        split at h
        · rename_i r hr
          simp only [Option.some.injEq] at h
          exact .inr ⟨hp,hb,r,hr,h.symm⟩
        · cases h
      · cases h
    · rw [decide_eq_false hp,cond_false] at h
      simp only [Option.some.injEq] at h
      exact .inl ⟨hp,h.symm⟩
theorem ARc (R:Fr P l B A0 J Jx) {ops2 ops3 ops4:Array Oper} (c2:V3 P upN u2 ops2=true) (c3:V3 P upN u3 ops3=true) (c4:V3 P upN u4 ops4=true) {b1 i2 i3 i4 n:Nat} {K:Act→World→Prop} {Q:Exit→Act→World→Prop} {w:den Za} {pre:List (den Zb)} {fp:Nat→Prop} {p:den Zb} {a:Act} {W:World} (it:It l B A0 J w pre fp p a W)
    (hb:(0:Int)≤p.2.1∧(p.2.1:Int)<(List.length (w.2.2.2.1:List (den Zb)):Int))
    (hK:∀ a' W',It l B A0 J w pre fp (List.getD (w.2.2.2.1:List (den Zb)) (Int.toNat p.2.1) (dft Zb)) a' W'→K a' W'):(Code.seq (.block b1 (.region i2 ops2 false)) (.seq (.region i3 ops3 false) (.region i4 ops4 false))).wpIn (Wr none) n P (Exit.then K Q) a W:=by
  obtain ⟨⟨ρ,own,st,s4,hfp⟩,r1,y,sz,df,j,hA⟩:=it
  have hBW:B≤W.heap.size:=st.hB
  have hA0:∀ b,A0 b→nO own W b:=fun b hb=>⟨Nat.lt_of_lt_of_le (hA b hb) hBW,by
    cases ho:own b with
    | none=>rfl
    | some g=>have:=st.base b g ho; have:=hA b hb; omega⟩
  have hlt:=R.lt _ _ _ j
  refine wpIn_seq (wpIn_block (Gh X1 c2 ((BHy w p).trans (if_pos hb)) st (Q7 _ (fun j v hv => ?_)) sz (fun a2 W2 A2 ρ2 own2 st2 sl2 sz2 l2 df2 tr2 => ?_)))
  · simp only [List.mem_cons,Prod.mk.injEq,List.not_mem_nil,or_false] at hv
    rcases hv with ⟨rfl,rfl⟩ | ⟨rfl,rfl⟩
    · have free:ρ 1=none∨True:=.inr trivial
      exact Zl.mono hA0 (fun _ _ h=>by cases h) (fun _ _=>rfl) _ r1
    · exact s4
  · show (Code.seq (.region i3 ops3 false) (.region i4 ops4 false)).wpIn (Wr none) n P (Exit.then K Q) a2 W2
    have s4':=sl2 4
    refine wpIn_seq (Gh X1 c3 (BHz _) st2 (Q7 _ (fun j v hv => ?_)) sz2 (fun a3 W3 A3 ρ3 own3 st3 sl3 sz3 l3 df3 tr3 => ?_))
    · simp only [List.mem_singleton,Prod.mk.injEq] at hv
      obtain ⟨rfl,rfl⟩:=hv
      exact s4'
    · show (Code.region i4 ops4 false).wpIn (Wr none) n P (Exit.then K Q) a3 W3
      refine Gh X1 c4 (BH0 _) st3 sl3 sz3 (fun a4 W4 A4 ρ4 own4 st4 sl4 sz4 l4 df4 tr4 => ?_)
      show K a4 W4
      have L:=(l2.trans l3).trans l4
      have t0:a4.tmps.getD 0 undef=a.tmps.getD 0 undef:=(tr4 0 rfl).trans ((tr3 0 rfl).trans (tr2 0 rfl))
      have t1:a4.tmps.getD 1 undef=a.tmps.getD 1 undef:=(tr4 1 rfl).trans ((tr3 1 rfl).trans (tr2 1 rfl))
      have hown4:∀ b,fp b→own4 b=none:=fun b hb=>by
        cases ho:own4 b with
        | none=>rfl
        | some g=>exact absurd (L.hA b ⟨(hlt b hb).1,hfp b hb⟩) (st4.apart b g ho)
      refine hK a4 W4 ⟨?_,?_,t0.trans y,sz4,df4.trans (df3.trans (df2.trans df)),R.stab _ _ _ _ j st4.below (fun b hb=>L.hw b ⟨(hlt b hb).1,hfp b hb⟩),hA⟩
      · let own':Nat→Option Nat:=fun b=>match own4 b with | some 1=>some 0 | _=>none
        let ρ':Xf:=fun g=>match g with | 0=>ρ4 1 | _=>none
        have ho':∀ b g',own' b=some g'→∃ g,own4 b=some g:=fun b g' h=>by
          cases ho:own4 b with
          | none=>simp only [own',ho] at h; cases h
          | some g=>exact ⟨g,rfl⟩
        have st5:St B ⟨W,nO own W⟩ A4 ρ' own' W4 (Xn [.box Zb (List.getD (w.2.2.2.1:List (den Zb)) (Int.toNat p.2.1) (dft Zb)) []]):=by
          refine St.rename (p:=fun g=>Nat.beq g 1) (f:=fun _=>0) st4 (fun g s h1 h2 => ?_) (fun g' => ?_) ho'
          · have:=Nat.eq_of_beq_eq_true h1
            subst this
            exact h2
          · cases g' with
            | zero=>exact .inr ⟨1,rfl,rfl,rfl,fun b hb=>by show own' b=some 0; simp only [own',hb]⟩
            | succ g'=>exact .inl ⟨rfl,rfl⟩
        refine ⟨ρ',own',st5.rebase_nO (Jf rfl) (fun _ _ _=>rfl) (Nat.le_refl _) (Nat.le_trans hBW st4.below.size) st5.glob_nO,?_,fun b hb => ?_⟩
        · have:=sl4 4
          have this:Zl A4 ρ4 W4 (.ptr 1 []) (a4.tmps.getD 4 undef):=this
          simp only [Zl] at this ⊢
          exact this
        · show own' b=none
          simp only [own',hown4 b hb]
      · rw [t1]
        exact Zl.mono (fun _ h=>h) (fun _ _ h=>h) (fun b hb=>L.hw b (hA0 b hb)) _ r1
def AOc (b1 i1 i2 i3 i4 e:Nat) (ops1 ops2 ops3 ops4:Array Oper):Code:=.seq (.seq (.region i1 ops1 false) (.cond (.tmp 17) .skip (.exit e))) (.seq (.block b1 (.region i2 ops2 false)) (.seq (.region i3 ops3 false) (.region i4 ops4 false)))
theorem AIh (R:Fr P l B A0 J Jx) {o0 o1 o2 o3 o4 o5 o6 o7:Oper} {ops1 ops2 ops3 ops4:Array Oper} (c2:V3 P upN u2 ops2=true) (c3:V3 P upN u3 ops3=true) (c4:V3 P upN u4 ops4=true) (ho:ops1.toList=[o0,o1,o2,o3,o4,o5,o6,o7]) (d0:I2 o0=true) (d1:Kw P upN ops1 u1a o1=true) (n1:K2 o1=true) (d2:I3 o2=true)
    (d3:Nl P upN ops1 u1b [o3,o4,o5,o6,o7]=true) (n3:[o3,o4,o5,o6,o7].all K2=true) {b1 i1 i2 i3 i4 e n:Nat} {Q:Exit→Act→World→Prop} {w:den Za}:(f:Nat)→{pre:List (den Zb)}→{fp:Nat→Prop}→{p:den Zb}→{a:Act}→{W:World}→{xs:List (den Zb)}→upL w.2.2.2.1 f p=some xs→pre.length+f≤100→It l B A0 J w pre fp p a W →
    (∀ a' W' fp',a'.defers=[]→(J (pre ++ xs) fp' W'∨∃ ys,ys <+: pre ++ xs∧Jx ys fp' W')→Q (.exit e) a' W')→Code.roundsIn (Wr none) n P (AOc b1 i1 i2 i3 i4 e ops1 ops2 ops3 ops4) Q f a W
  | 0,pre,fp,p,a,W,xs,hu,_,_,_=>by cases hu
  | f+1,pre,fp,p,a,W,xs,hu,hl,it,hQ=>by
    obtain ⟨k,hk,hor⟩:=AOd hu
    cases hk
    rw [roundsIn_succ]
    have hpre:(pre ++ [p]) <+: pre ++ xs:=by
      rcases hor with ⟨_,rfl⟩ | ⟨_,_,r,_,rfl⟩
      · exact List.prefix_refl _
      · exact ⟨r,by simp⟩
    refine wpIn_seq (wpIn_seq (AOe R ho d0 d1 n1 d2 d3 n3 it (by omega) (fun a' fp' W' it' h17 => ?_) (fun a' fp' W' hd hx h17 => ?_)))
    · show (Code.cond (.tmp 17) .skip (.exit e)).wpIn (Wr none) n P _ a' W'
      rcases hor with ⟨hne,rfl⟩ | ⟨heq,hb,r,hr,rfl⟩
      · rw [decide_eq_false hne] at h17
        refine wpIn_cond_false h17 (wpIn_exit ?_)
        exact hQ a' W' fp' it'.df (.inl it'.j)
      · rw [decide_eq_true heq] at h17
        refine wpIn_cond_true h17 (wpIn_skip ?_)
        refine ARc R c2 c3 c4 it' hb (fun a2 W2 it2 => ?_)
        refine AIh R c2 c3 c4 ho d0 d1 n1 d2 d3 n3 f hr (by simp; omega) it2 (fun a3 W3 fp3 h1 h2=>hQ a3 W3 fp3 h1 ?_)
        simpa using h2
    · exact wpIn_cond_false h17 (wpIn_exit (hQ a' W' fp' hd (.inr ⟨_,hpre,hx⟩)))
theorem H2 {xs:Array Value} {k j:Nat} {v:Value} (h:xs[j]?=some v):(xs ++ Array.replicate k undef).getD j undef=v:=by
  have hj:j<xs.size:=(Array.getElem?_eq_some_iff.1 h).1
  rw [Array.getD_eq_getD_getElem?,Array.getElem?_append_left hj,h]; rfl
theorem AGf (R:Fr P l B A0 J Jx) {f:FuncId} {fn:Func} (hf:P.funcs[f]?=some fn) (hc:AKr P fn=true) {w:den Za} {i:Int} {v1 v2:Value} {W:World} {xs:List (den Zb)} {fp:Nat→Prop} {k n:Nat} (h1:Zl A0 (fun _=>none) W (.ref Za w) v1) (h2:Zl A0 (fun _=>none) W (.ref (.int .i64) i) v2)
    (hB:B=W.heap.size) (hA:∀ b,A0 b→b<B) (hgl:Yq A0 W) (hJ:J [] fp W) (hi:(0:Int)≤i∧i<(List.length (w.2.2.2.1:List (den Zb)):Int)) (hu:upL w.2.2.2.1 k (List.getD (w.2.2.2.1:List (den Zb)) (Int.toNat i) (dft Zb))=some xs) (hk:k≤100) :
    CallsIn Fence.wide n P f #[.func (.yield l) #[] #[],v1,v2] W (fun e W'=>(∃ v,e=.returned v)∧∃ fp',J xs fp' W'∨∃ ys,ys <+: xs∧Jx ys fp' W'):=by
  unfold AKr at hc
  simp only [Bool.and_eq_true] at hc
  obtain ⟨⟨c0,c1⟩,c2⟩:=hc
  split at c2
  case h_2=>cases c2
  rename_i i0 ops0 b i1 ops1 e b1 i2 ops2 i3 ops3 i4 ops4 hbd
  simp only [Bool.and_eq_true] at c2
  obtain ⟨⟨⟨⟨⟨d0,d1⟩,d2⟩,d3⟩,d4⟩,d5⟩:=c2
  split at d5
  case h_2=>cases d5
  rename_i o0 o1 o2 o3 o4 o5 o6 o7 ho
  simp only [Bool.and_eq_true] at d5
  obtain ⟨⟨⟨⟨⟨e0,e1⟩,e2⟩,e3⟩,e4⟩,e5⟩:=d5
  obtain rfl:=Nat.eq_of_beq_eq_true d0
  have hnt:=Nat.eq_of_beq_eq_true c0
  refine callsIn_of_wp hf hbd trivial ?_
  have sz:(#[.func (.yield l) #[] #[],v1,v2] ++ Array.replicate (fn.ntmps - (#[.func (.yield l) #[] #[],v1,v2]:Array Value).size) undef:Array Value).size=upN:=by rw [hnt,Array.size_append,Array.size_replicate]; rfl
  have t0:=H2 (xs := #[.func (.yield l) #[] #[],v1,v2]) (k:=fn.ntmps - (#[.func (.yield l) #[] #[],v1,v2]:Array Value).size) (j:=0) (v:=.func (.yield l) #[] #[]) rfl
  have t1:=H2 (xs := #[.func (.yield l) #[] #[],v1,v2]) (k:=fn.ntmps - (#[.func (.yield l) #[] #[],v1,v2]:Array Value).size) (j:=1) (v:=v1) rfl
  have t2:=H2 (xs := #[.func (.yield l) #[] #[],v1,v2]) (k:=fn.ntmps - (#[.func (.yield l) #[] #[],v1,v2]:Array Value).size) (j:=2) (v:=v2) rfl
  generalize (#[.func (.yield l) #[] #[],v1,v2] ++ Array.replicate (fn.ntmps - (#[.func (.yield l) #[] #[],v1,v2]:Array Value).size) undef:Array Value)=tm at *
  have hA':∀ b,A0 b→nO (fun _=>none) W b:=fun b hb=>⟨by rw [← hB]; exact hA b hb,rfl⟩
  have st:St B ⟨W,nO (fun _=>none) W⟩ (nO (fun _=>none) W) (fun _=>none) (fun _=>none) W (Xn []) :=
    { objs:=fun g=>rfl,apart:=(fun b g h=>by cases h),old:=fun b h=>h.1,oldO:=(fun b g h=>by cases h),base:=(fun b g h=>by cases h),below:=RowKit.Below.refl B W,hB:=Nat.le_of_eq hB,imm:=fun b h=>.inl h,names:=(fun g ⟨s,h⟩=>by cases h),glob:=hgl.mono hA' (fun _ _=>rfl) }
  have hlt:=R.lt _ _ _ hJ
  refine wpIn_seq (Gh (ro:=none) X1 d1 ((BHx w i).trans (if_pos hi)) st (Q7 _ (fun j v hv => ?_)) sz (fun a1 W1 A1 ρ1 own1 st1 sl1 sz1 l1 df1 tr1 => ?_))
  · simp only [List.mem_cons,Prod.mk.injEq,List.not_mem_nil,or_false] at hv
    rcases hv with ⟨rfl,rfl⟩ | ⟨rfl,rfl⟩
    · rw [t1]; exact Zl.mono hA' (fun _ _ h=>h) (fun _ _=>rfl) _ h1
    · rw [t2]; exact Zl.mono hA' (fun _ _ h=>h) (fun _ _=>rfl) _ h2
  · have own1fp:∀ b,fp b→own1 b=none:=fun b hb=>by
      cases ho:own1 b with
      | none=>rfl
      | some g=>exact absurd (l1.hA b ⟨(hlt b hb).1,rfl⟩) (st1.apart b g ho)
    have s4:=sl1 4
    have it:It l B A0 J w [] fp (List.getD (w.2.2.2.1:List (den Zb)) (Int.toNat i) (dft Zb)) a1 W1:=by
      refine ⟨⟨ρ1,own1,st1.rebase_nO (Jf rfl) (fun _ _ _=>rfl) (Nat.le_refl _) (by rw [hB]; exact st1.below.size) st1.glob_nO,Hb s4,own1fp⟩,?_,(tr1 0 rfl).trans t0,sz1,df1,R.stab _ _ _ _ hJ st1.below (fun b hb=>l1.hw b ⟨(hlt b hb).1,rfl⟩),hA⟩
      rw [tr1 1 rfl,t1]
      exact Zl.mono (fun _ h=>h) (fun _ _ h=>h) (fun b hb=>l1.hw b (hA' b hb)) _ h1
    show (Code.block b (.loop (AOc b1 i1 i2 i3 i4 b ops1 ops2 ops3 ops4))).wpIn (Wr none) n P _ a1 W1
    refine wpIn_block (wpIn_loop_rounds k (AIh R d2 d3 d4 ho e0 e1 e2 e3 e4 e5 k hu (by simpa using hk) it (fun a' W' fp' hd hj => ?_)))
    show (if b=b then _ else _)
    rw [if_pos rfl]
    have hres:fn.results.size=0:=by simpa using c1
    refine ⟨hd,_,G6 (vs:=[]) (by simp [hres]) (fun j hj=>by omega),⟨_,rfl⟩,fp',?_⟩
    simpa using hj
end
end Go.Proofs.YtjobjooccgledaaGreatDoor.Ghost
namespace Go.Proofs.YtjobjooccgledaaGreatDoor.Ghost
open Go
abbrev slB (k:Nat):Obj:=.box (.sl Zb) [] [([],some k)]
abbrev slV (k:Nat):SV:=.dat (.sl Zb) [] [([],some k)]
def a0L:List Ln:=[⟨some 2,.box 0 (.t 0),none,[],[]⟩,⟨some 4,.mknil 2 Zb,none,[],[]⟩]
def a2L:List Ln:=[⟨some 5,.newbox 2 Zb [],none,[],[]⟩,⟨none,.store (.d Zb) (.t 5) (.t 7),none,[],[]⟩]
def a3L:List Ln:=[⟨some 8,.load (.d (.sl Zb)) (.t 2),none,[],[]⟩,⟨some 9,.load (.d Zb) (.t 5),none,[],[]⟩,⟨some 10,.slice 3 Zb [.t 9],none,[],[]⟩,⟨some 11,.append 4 Zb (.t 8) (.t 10),none,[],[]⟩,⟨none,.store (.d (.sl Zb)) (.t 2) (.t 11),none,[],[]⟩]
def a4L:List Ln:=[⟨some 12,.load (.d (.sl Zb)) (.t 2),none,[],[]⟩,⟨some 4,.move (.t 12),none,[],[]⟩]
theorem ASf:Yz Yl false a0L [(0,slV 1)] [.none,.arr Zb []] put2=some ([(0,slV 1),(2,.ptr 0 []),(4,slV 2)],[slB 1,.arr Zb [],.arr Zb []]):=by kernel_rfl
theorem ASg (x:den Zb) (l:List (den Zb)):Yz Yl false a2L [(2,.ptr 0 []),(7,.dat Zb x [])] [slB 1,.arr Zb l] put2=some ([(2,.ptr 0 []),(7,.dat Zb x []),(5,.ptr 2 [])],[slB 1,.arr Zb l,.box Zb x []]):=by kernel_rfl
theorem ASh (x:den Zb) (l:List (den Zb)):Yz Yl false a3L [(2,.ptr 0 []),(5,.ptr 2 [])] [slB 1,.arr Zb l,.box Zb x []] put2 =
    if List.length l+1≤1048576 then some ([(2,.ptr 0 []),(5,.ptr 2 []),(8,slV 1),(9,.dat Zb x []),(10,slV 3),(11,slV 4)],[slB 4,.dead,.box Zb x [],.arr Zb [x],.arr Zb (l ++ [x])]) else none:=by kernel_rfl
theorem ASi (l:List (den Zb)):Yz Yl false a4L [(2,.ptr 0 [])] [slB 1,.arr Zb l] put2=some ([(2,.ptr 0 []),(12,slV 1),(4,slV 1)],[slB 1,.arr Zb l]):=by kernel_rfl
def Bp (s d:Nat) (o:Oper):Bool:=(match o.op with | .move (.tmp t)=>Nat.beq t s | .assign (.tmp t)=>Nat.beq t s | _=>false) && (match o.dst with | some t=>Nat.beq t d | none=>false) && o.guard.isNone
theorem Lz {P:Program} {s d:Nat} {o:Oper} {a:Act} {w:World} (hc:Bp s d o=true):(execOp a.eval o).run P w=.ok (.value (a.tmps.getD s undef)) w∧o.dst=some d∧o.guard=none∧K2 o=true:=by
  unfold Bp at hc
  simp only [Bool.and_eq_true] at hc
  obtain ⟨⟨h1,h2⟩,h3⟩:=hc
  have hd:o.dst=some d:=by
    split at h2
    · rename_i t ht; rw [ht,Nat.eq_of_beq_eq_true h2]
    · cases h2
  split at h1
  · rename_i t ho
    obtain rfl:=Nat.eq_of_beq_eq_true h1
    exact ⟨by simp only [execOp,ho]; rfl,hd,by simpa using h3,by unfold K2; rw [ho]⟩
  · rename_i t ho
    obtain rfl:=Nat.eq_of_beq_eq_true h1
    exact ⟨by simp only [execOp,ho]; rfl,hd,by simpa using h3,by unfold K2; rw [ho]⟩
  · cases h1
theorem BHt {A A':Nat→Prop} {ρ:Xf} {w w':World} {e:Ty} {x:List (den e)} {k:Nat} {v:Value} (h:Zl A ρ w (.dat (.sl e) x [([],some k)]) v):Zl A' ρ w' (.dat (.sl e) x [([],some k)]) v:=by
  simp only [Zl,Zm] at h ⊢
  obtain ⟨cs,⟨a,n,c,h1,h2,_⟩,h4⟩:=h
  exact ⟨cs,⟨a,n,c,h1,h2,fun hn=>(hn (some _) (List.mem_singleton.2 rfl)).elim⟩,h4⟩
section
variable {P:Program}
def Vr (fn:FuncId) (tm:Array Value) (ps:Array Tmp) (assign body:Code) (D:Nat) (s:LoopState):Loop:={ state:=s,pending:=none,fn,tmps:=tm,params:=ps,assign,body,defers:=D }
structure BXp (B:Nat) (w0:World) (A0:Nat→Prop) (l D:Nat) (fn:FuncId) (tm:Array Value) (assign body:Code) (pre:List (den Zb)) (fp:Nat→Prop) (W:World) (ρ:Xf) (own:Nat→Option Nat):Prop where
  st:St B ⟨w0,A0⟩ A0 ρ own W (Xn [slB 1,.arr Zb pre])
  s2:Zl A0 ρ W (.ptr 0 []) (tm.getD 2 undef)
  fp:∀ b,fp b↔(∃ g,own b=some g)∨b=l∨b=D
  ol:own l=none
  oD:own D=none
  hl:W.heap[l]?=some (.loop (Vr fn tm #[7] assign body D .ready))
  hD:W.heap[D]?=some (.deferred (some []))
def ApJ (B:Nat) (w0:World) (A0:Nat→Prop) (l D:Nat) (fn:FuncId) (tm:Array Value) (assign body:Code) (pre:List (den Zb)) (fp:Nat→Prop) (W:World):Prop:=∃ ρ own,BXp B w0 A0 l D fn tm assign body pre fp W ρ own
theorem Vb {W:World} {b:Nat} {o:Go.Obj} (h:W.heap[b]?=some o):b<W.heap.size:=(Array.getElem?_eq_some_iff.1 h).1
theorem Ku {B l:Nat} {W:World} {o:Go.Obj} (h:B≤l):RowKit.Below B W (W.putObj l o):=⟨rfl,rfl,rfl,by simp,fun k hk=>World.putObj_heap_other (by omega)⟩
theorem AOp {B:Nat} {w0:World} {A0:Nat→Prop} {l D:Nat} {fn:FuncId} {tm:Array Value} {assign body:Code} {pre:List (den Zb)} {fp:Nat→Prop} {W W':World} (hA0:∀ b,A0 b→b<B) (hg0:Yq A0 w0) (hB:B≤w0.heap.size) {B':Nat} (hBB:B≤B') (h:ApJ B w0 A0 l D fn tm assign body pre fp W) (hb:RowKit.Below B' W W') (hf:∀ b,fp b→W'.heap[b]?=W.heap[b]?) :
    ApJ B w0 A0 l D fn tm assign body pre fp W':=by
  obtain ⟨ρ,own,h⟩:=h
  refine ⟨ρ,own,?_,Hb h.s2,h.fp,h.ol,h.oD,(hf l ((h.fp l).2 (.inr (.inl rfl)))).trans h.hl,(hf D ((h.fp D).2 (.inr (.inr rfl)))).trans h.hD⟩
  have hbel:=h.st.below.trans (hb.mono hBB)
  exact h.st.rebase (Jf rfl) (fun b g hbg=>hf b ((h.fp b).2 (.inl ⟨g,hbg⟩))) hb.size h.st.apart (fun b hb'=>Nat.lt_of_lt_of_le (hA0 b hb') (Nat.le_trans hB hbel.size)) hbel hB (fun b hb'=>.inl hb') (hg0.along hA0 hbel (fun _ h=>h))
theorem BIc {W:World} {l D:Nat} {fn:FuncId} {tm:Array Value} {t:Tmp} {assign body:Code} {v:Value} (h:W.heap[l]?=some (.loop (Vr fn tm #[t] assign body D .ready))):(Instr.yield l #[v]).run P W=.ok (.round l fn (tm.setIfInBounds t v) assign body) W:=by
  have:=run_yield (P:=P) (args := #[v]) h rfl
  simpa [Vr] using this
theorem ALd {B:Nat} {w0:World} {A0:Nat→Prop} {l D:Nat} {fn:FuncId} {tm:Array Value} {ops2 ops3:Array Oper} {i2 i3 b1:Nat} (c2:V3 P 13 a2L ops2=true) (c3:V3 P 13 a3L ops3=true) (hA0:∀ b,A0 b→b<B) (hg0:Yq A0 w0) (hB:B≤w0.heap.size) (hBl:B≤l) (hlD:l≠D) (htm:tm.size=13)
    {m:Nat} {pre:List (den Zb)} {fp:Nat→Prop} {W:World} {x:den Zb} (h:ApJ B w0 A0 l D fn tm (.region i2 ops2 false) (.block b1 (.region i3 ops3 false)) pre fp W) (hpre:pre.length<100) :
    YieldAt Fence.wide m P l #[J2 x] W (fun e W'=>∃ fp',AOj fp W W'∧(∀ b,fp' b→fp b∨W.heap.size≤b) ∧
      ((e=.returned (.bool true)∧ApJ B w0 A0 l D fn tm (.region i2 ops2 false) (.block b1 (.region i3 ops3 false)) (pre ++ [x]) fp' W')∨(e=.returned (.bool false)∧False))):=by
  obtain ⟨ρ,own,h⟩:=h
  refine ⟨_,_,_,_,BIc (P:=P) h.hl,roundIn_of_wpIn trivial ?_⟩
  show (Code.region i2 ops2 false).wpIn (Wr (some l)) m P _ { tmps:=tm.setIfInBounds 7 (J2 x),defers:=[] } W
  have hBW:B≤W.heap.size:=Nat.le_trans hB h.st.below.size
  have st1:=h.st.rebase_nO (w':=W) (Jf rfl) (fun _ _ _=>rfl) (Nat.le_refl _) hBW h.st.glob_nO
  have hll:l<W.heap.size:=Vb h.hl
  have hDl:D<W.heap.size:=Vb h.hD
  have g2:(tm.setIfInBounds 7 (J2 x)).getD 2 undef=tm.getD 2 undef:=by
    rw [Array.getD_eq_getD_getElem?,Array.getD_eq_getD_getElem?,Array.getElem?_setIfInBounds_ne (by decide)]
  have g7:(tm.setIfInBounds 7 (J2 x)).getD 7 undef=J2 x:=by
    rw [Array.getD_eq_getD_getElem?,Array.getElem?_setIfInBounds_self_of_lt (by rw [htm]; decide)]; rfl
  refine Gh X1 c2 (ASg x pre) st1 (Q7 _ (fun j v hv => ?_)) (by simpa using htm) (fun a1 W1 A1 ρ1 own1 st2 sl1 sz1 l1 df1 tr1 => ?_)
  · simp only [List.mem_cons,Prod.mk.injEq,List.not_mem_nil,or_false] at hv
    rcases hv with ⟨rfl,rfl⟩ | ⟨rfl,rfl⟩
    · show Zl _ _ _ _ ((tm.setIfInBounds 7 (J2 x)).getD 2 undef)
      rw [g2]; exact Hb h.s2
    · show Zl _ _ _ _ ((tm.setIfInBounds 7 (J2 x)).getD 7 undef)
      rw [g7]; simp only [Zl,Zm,Xs]; exact ⟨[.int .i64 x.1,.int .i64 x.2.1],⟨rfl,rfl,rfl⟩,rfl⟩
  · have k1:∀ b,b<W.heap.size→own b=none→W1.heap[b]?=W.heap[b]?∧own1 b=none:=fun b hb ho=>⟨l1.hw b ⟨hb,ho⟩,by
      cases hq:own1 b with
      | none=>rfl
      | some g=>exact absurd (l1.hA b ⟨hb,ho⟩) (st2.apart b g hq)⟩
    have hl1:W1.heap[l]?=some (.loop (Vr fn tm #[7] (.region i2 ops2 false) (.block b1 (.region i3 ops3 false)) D .ready)):=(k1 l hll h.ol).1.trans h.hl
    have hbr:=run_beginRound (P:=P) hl1 rfl
    refine ⟨_,hbr,?_⟩
    have hown2:∀ b g,own1 b=some g→(W1.putObj l (.loop (Vr fn tm #[7] (.region i2 ops2 false) (.block b1 (.region i3 ops3 false)) D .busy))).heap[b]?=W1.heap[b]?:=fun b g hb=>World.putObj_heap_other (fun e=>by subst e; rw [(k1 b hll h.ol).2] at hb; cases hb)
    have hs1:W.heap.size≤W1.heap.size:=st2.below.size
    have hl1':l<W1.heap.size:=Vb hl1
    have st3:=st2.rebase_nO (Jf rfl) hown2 (by simp) (Nat.le_trans hBW hs1) (hg0.along hA0 ((h.st.below.trans st2.below).trans (Ku hBl)) (fun b hb=>⟨by have:=hA0 b hb; simp; omega,st2.none_lt (hA0 b hb)⟩))
    have hbel1:RowKit.Below B W1 (W1.putObj l (.loop (Vr fn tm #[7] (.region i2 ops2 false) (.block b1 (.region i3 ops3 false)) D .busy))):=Ku hBl
    have hl2:(W1.putObj l (.loop (Vr fn tm #[7] (.region i2 ops2 false) (.block b1 (.region i3 ops3 false)) D .busy))).heap[l]?=some (.loop (Vr fn tm #[7] (.region i2 ops2 false) (.block b1 (.region i3 ops3 false)) D .busy)):=World.putObj_heap_same hl1'
    have hoth2:∀ b,b≠l→(W1.putObj l (.loop (Vr fn tm #[7] (.region i2 ops2 false) (.block b1 (.region i3 ops3 false)) D .busy))).heap[b]?=W1.heap[b]?:=fun b hb=>World.putObj_heap_other hb
    have hsz2:(W1.putObj l (.loop (Vr fn tm #[7] (.region i2 ops2 false) (.block b1 (.region i3 ops3 false)) D .busy))).heap.size=W1.heap.size:=by simp
    show (Code.block b1 (.region i3 ops3 false)).wpIn (Wr (some l)) m P _ a1 (W1.putObj l (.loop (Vr fn tm #[7] (.region i2 ops2 false) (.block b1 (.region i3 ops3 false)) D .busy)))
    generalize W1.putObj l (.loop (Vr fn tm #[7] (.region i2 ops2 false) (.block b1 (.region i3 ops3 false)) D .busy))=W2 at *
    refine wpIn_block (Gh X1 c3 ((ASh x pre).trans (if_pos (by omega))) st3 (Q7 _ (fun j v hv => ?_)) sz1 (fun a3 W3 A3 ρ3 own3 st4 sl3 sz3 l3 df3 tr3 => ?_))
    · simp only [List.mem_cons,Prod.mk.injEq,List.not_mem_nil,or_false] at hv
      rcases hv with ⟨rfl,rfl⟩ | ⟨rfl,rfl⟩
      · exact Hb (sl1 2)
      · exact Hb (sl1 5)
    · have k3:∀ b,b<W1.heap.size→own1 b=none→W3.heap[b]?=W2.heap[b]?∧own3 b=none:=fun b hb ho=>⟨l3.hw b ⟨by rw [hsz2]; exact hb,ho⟩,by
        cases hq:own3 b with
        | none=>rfl
        | some g=>exact absurd (l3.hA b ⟨by rw [hsz2]; exact hb,ho⟩) (st4.apart b g hq)⟩
      have hol1:own1 l=none:=(k1 l hll h.ol).2
      have hl3:W3.heap[l]?=some (.loop (Vr fn tm #[7] (.region i2 ops2 false) (.block b1 (.region i3 ops3 false)) D .busy)):=(k3 l hl1' hol1).1.trans hl2
      have hs3:W2.heap.size≤W3.heap.size:=st4.below.size
      have ho3:∀ b,b<W.heap.size→own b=none→own3 b=none:=fun b hb ho=>(k3 b (by omega) (k1 b hb ho).2).2
      refine ⟨_,_,run_endRound none hl3,fun b=>(∃ g,(match own3 b with | some 0=>some 0 | some 4=>some 1 | _=>none:Option Nat)=some g)∨b=l∨b=D,⟨?_,fun b hb hnf => ?_⟩,fun b hb => ?_,.inl ⟨rfl,?_⟩⟩
      · simp; omega
      · have hnl:b≠l:=fun e=>hnf ((h.fp b).2 (.inr (.inl e)))
        have hob:own b=none:=by
          cases ho:own b with
          | none=>rfl
          | some g=>exact absurd ((h.fp b).2 (.inl ⟨g,ho⟩)) hnf
        rw [World.putObj_heap_other hnl,(k3 b (by omega) (k1 b hb hob).2).1,hoth2 b hnl,(k1 b hb hob).1]
      · by_cases hbs:b<W.heap.size
        · rcases hb with ⟨g,hb⟩ | hb
          · refine .inl ((h.fp b).2 ?_)
            cases ho:own b with
            | some g=>exact .inl ⟨g,rfl⟩
            | none=>rw [ho3 b hbs ho] at hb; cases hb
          · exact .inl ((h.fp b).2 (.inr hb))
        · exact .inr (by omega)
      · let own':Nat→Option Nat:=fun b=>match own3 b with | some 0=>some 0 | some 4=>some 1 | _=>none
        let ρ':Xf:=fun g=>match g with | 0=>ρ3 0 | 1=>ρ3 4 | _=>none
        have ho':∀ b g',own' b=some g'→∃ g,own3 b=some g:=fun b g' h=>by
          cases ho:own3 b with
          | none=>simp only [own',ho] at h; cases h
          | some g=>exact ⟨g,rfl⟩
        have st5:St B ⟨W2,nO own1 W2⟩ A3 ρ' own' W3 (Xn [slB 1,.arr Zb (pre ++ [x])]):=by
          refine St.rename (p:=fun g=>Nat.beq g 0 || Nat.beq g 4) (f:=fun g=>match g with | 0=>0 | _=>1) st4 (fun g s h1 h2 => ?_) (fun g' => ?_) ho'
          · simp only [Bool.or_eq_true] at h1
            rcases h1 with h1 | h1
            · have:=Nat.eq_of_beq_eq_true h1; subst this; exact h2
            · have:=Nat.eq_of_beq_eq_true h1; subst this; exact h2
          · match g' with
            | 0=>exact .inr ⟨0,rfl,rfl,rfl,fun b hb=>by show own' b=some 0; simp only [own',hb]⟩
            | 1=>exact .inr ⟨4,rfl,rfl,rfl,fun b hb=>by show own' b=some 1; simp only [own',hb]⟩
            | g'+2=>exact .inl ⟨rfl,rfl⟩
        have hlo:own' l=none:=by simp only [own',ho3 l hll h.ol]
        have hDo:own' D=none:=by simp only [own',ho3 D hDl h.oD]
        have hbel:RowKit.Below B w0 (W3.putObj l (.loop { Vr fn tm #[7] (.region i2 ops2 false) (.block b1 (.region i3 ops3 false)) D .busy with state:=if (none:Option Code).isNone then .ready else .done,pending:=none })) :=
          (((h.st.below.trans st2.below).trans hbel1).trans st4.below).trans (Ku hBl)
        refine ⟨ρ',own',st5.rebase (Jf rfl) (fun b g hb=>World.putObj_heap_other (fun e=>by subst e; rw [hlo] at hb; cases hb)) (by simp) (fun b g hb hA => ?_) (fun b hb => ?_) hbel hB (fun b hb=>.inl hb) (hg0.along hA0 hbel (fun _ h=>h)),?_,fun b=>Iff.rfl,hlo,hDo,World.putObj_heap_same (by omega),?_⟩
        · obtain ⟨g3,hg3⟩:=ho' b g hb
          have:=st4.base b g3 hg3
          have:=hA0 b hA
          omega
        · exact Nat.lt_of_lt_of_le (hA0 b hb) (Nat.le_trans hB hbel.size)
        · have hs2:=h.s2
          simp only [Zl] at hs2 ⊢
          obtain ⟨s,q1,q2⟩:=hs2
          exact ⟨s,l3.hρ _ _ (l1.hρ _ _ q1),q2⟩
        · rw [World.putObj_heap_other (Ne.symm hlD),(k3 D (by omega) (k1 D hDl h.oD).2).1,hoth2 D (Ne.symm hlD),(k1 D hDl h.oD).1]
          exact h.hD
end
end Go.Proofs.YtjobjooccgledaaGreatDoor.Ghost
namespace Go.Proofs.YtjobjooccgledaaGreatDoor.Ghost
open Go
section
variable {P:Program}
theorem AJo {A:Nat→Prop} {w w':World} {u:SV} {fr:Zz} {vals:List Value} {A':Nat→Prop} {ρ':Xf} {own':Nat→Option Nat} {o:Vm} (h:Ub A w w' [u] fr vals A' ρ' own' o):∃ v,vals=[v]:=by
  have:=h.rep
  simp only [J9,Zs] at this
  obtain ⟨v,vs',rfl,_,rfl⟩:=this
  exact ⟨v,rfl⟩
def AOn (P:Program) (fn:Func):Bool:=Nat.beq fn.ntmps 13 && Rs P [.tmp 4] fn.results.toList && (match fn.body with
  | some (.seq (.region _ ops0 false) (.seq (.seq (.region _ ops1 false) (.block _ (.rangeFunc (.tmp 6) ps (.region _ ops2 false) (.block _ (.region _ ops3 false))))) (.seq (.region _ ops4 false) .ret))) =>
    V3 P 13 a0L ops0 && V3 P 13 a2L ops2 && V3 P 13 a3L ops3 && V3 P 13 a4L ops4 && (match ops1.toList with | [o]=>Bp 1 6 o | _=>false) && (match ps.toList with | [t]=>Nat.beq t 7 | _=>false)
  | _=>false)
theorem ALc {fA fU:FuncId} {fnA fnU:Func} (hfA:P.funcs[fA]?=some fnA) (hcA:AOn P fnA=true) (hfU:P.funcs[fU]?=some fnU) (hcU:AKr P fnU=true) (he:∀ args w,(callFunc fU args).run P w=.ok (.enter fU args) w)
    {w:den Za} {i:Int} {v1 v2:Value} {W:World} {A:Nat→Prop} {xs:List (den Zb)} {k:Nat} (hA:∀ b,A b→b<W.heap.size) (hgl:Yq A W) (h1:Zl A (fun _=>none) W (.ref Za w) v1) (h2:Zl A (fun _=>none) W (.ref (.int .i64) i) v2)
    (hi:(0:Int)≤i∧i<(List.length (w.2.2.2.1:List (den Zb)):Int)) (hu:upL w.2.2.2.1 k (List.getD (w.2.2.2.1:List (den Zb)) (Int.toNat i) (dft Zb))=some xs) (hk:k≤100) :
    Go.Calls P fA #[.slice none 0 0,.func (.func fU) #[] #[v1,v2]] W (fun e W'=>∃ vals,e=.returned (Je vals)∧Ht A W W' [.dat (.sl Zb) xs []] [(0,[])] vals):=by
  unfold AOn at hcA
  simp only [Bool.and_eq_true] at hcA
  obtain ⟨⟨c0,cr⟩,c2⟩:=hcA
  split at c2
  case h_2=>cases c2
  rename_i i0 ops0 i1 ops1 b0 ps i2 ops2 b1 i3 ops3 i4 ops4 hbd
  simp only [Bool.and_eq_true] at c2
  obtain ⟨⟨⟨⟨⟨d0,d2⟩,d3⟩,d4⟩,d1⟩,dp⟩:=c2
  split at d1
  case h_2=>cases d1
  rename_i o1 ho1
  split at dp
  case h_2=>cases dp
  rename_i t7 hps
  have hps:ps = #[7]:=by rw [Nat.eq_of_beq_eq_true dp] at hps; exact Array.ext' hps
  subst hps
  obtain rfl:ops1 = #[o1]:=Array.ext' ho1
  have hnt:=Nat.eq_of_beq_eq_true c0
  refine (callsIn_wide (n:=0)).1 (callsIn_of_wp_marks hfA hbd trivial ?_)
  have sz:(#[.slice none 0 0,.func (.func fU) #[] #[v1,v2]] ++ Array.replicate (fnA.ntmps - (#[.slice none 0 0,.func (.func fU) #[] #[v1,v2]]:Array Value).size) undef:Array Value).size=13:=by rw [hnt,Array.size_append,Array.size_replicate]; rfl
  have t0:=H2 (xs := #[.slice none 0 0,.func (.func fU) #[] #[v1,v2]]) (k:=fnA.ntmps - (#[.slice none 0 0,.func (.func fU) #[] #[v1,v2]]:Array Value).size) (j:=0) (v:=.slice none 0 0) rfl
  have t1:=H2 (xs := #[.slice none 0 0,.func (.func fU) #[] #[v1,v2]]) (k:=fnA.ntmps - (#[.slice none 0 0,.func (.func fU) #[] #[v1,v2]]:Array Value).size) (j:=1) (v:=.func (.func fU) #[] #[v1,v2]) rfl
  generalize (#[.slice none 0 0,.func (.func fU) #[] #[v1,v2]] ++ Array.replicate (fnA.ntmps - (#[.slice none 0 0,.func (.func fU) #[] #[v1,v2]]:Array Value).size) undef:Array Value)=tm at *
  have st:St W.heap.size ⟨W,A⟩ A (fun _=>none) (fun _=>none) W (Xn []) :=
    { objs:=fun g=>rfl,apart:=(fun b g h=>by cases h),old:=hA,oldO:=(fun b g h=>by cases h),base:=(fun b g h=>by cases h),below:=RowKit.Below.refl _ W,hB:=Nat.le_refl _,imm:=fun b h=>.inl h,names:=(fun g ⟨s,h⟩=>by cases h),glob:=hgl }
  obtain ⟨st1,l1⟩:=st.nil (k:=1) (e:=Zb) rfl (by decide)
  have hh:T8 (Xn []) 1 (.arr Zb [])=Xn [.none,.arr Zb []]:=by
    funext g
    match g with
    | 0=>rfl
    | 1=>rfl
    | g+2=>rfl
  rw [hh] at st1
  refine wpIn_seq (Gh (ro:=none) X1 d0 ASf st1 (Q7 _ (fun j v hv => ?_)) sz (fun a1 W1 A1 ρ1 own1 st2 sl1 sz1 l2 df1 tr1 => ?_))
  · simp only [List.mem_singleton,Prod.mk.injEq] at hv
    obtain ⟨rfl,rfl⟩:=hv
    show Zl _ _ _ _ (tm.getD 0 undef)
    rw [t0]
    simp only [Zl,Zm]
    refine ⟨[.slice none 0 0],⟨none,0,0,rfl,fun g hg => ?_,fun hn=>(hn (some 1) (List.mem_singleton.2 rfl)).elim⟩,rfl⟩
    simp only [List.mem_singleton,Prod.mk.injEq,Option.some.injEq,true_and] at hg
    subst hg
    exact Iz
  · show (Code.seq (.seq (.region i1 #[o1] false) (.block b0 (.rangeFunc (.tmp 6) #[7] (.region i2 ops2 false) (.block b1 (.region i3 ops3 false))))) (.seq (.region i4 ops4 false) .ret)).wpIn (Wr none) 0 P _ a1 W1
    have u1:a1.tmps.getD 1 undef=.func (.func fU) #[] #[v1,v2]:=(tr1 1 rfl).trans t1
    obtain ⟨m1,m2,m3,m4⟩:=Lz (P:=P) (a:=a1) (w:=W1) d1
    refine wpIn_seq (wpIn_seq (wpIn_region ?_))
    show wpOpsIn (Wr none) 0 P #[o1] _ [0] a1 W1
    refine C5 (i:=0) (o:=o1) rfl m4 (by simp [Region.wanted,m3]) ?_
    unfold Oper.wp
    rw [m1,Oper.upon_value,m2,u1]
    have e6:(a1.put (some 6) (.func (.func fU) #[] #[v1,v2])).tmps.getD 6 undef=.func (.func fU) #[] #[v1,v2]:=T0 (by rw [sz1]; decide)
    have e2:(a1.put (some 6) (.func (.func fU) #[] #[v1,v2])).tmps.getD 2 undef=a1.tmps.getD 2 undef:=Vu (by decide)
    have esz:(a1.put (some 6) (.func (.func fU) #[] #[v1,v2])).tmps.size=13:=by rw [Kl]; exact sz1
    have edf:(a1.put (some 6) (.func (.func fU) #[] #[v1,v2])).defers=[]:=by rw [Q3]; exact df1
    have s2:=sl1 2
    have s2:Zl A1 ρ1 W1 (.ptr 0 []) (a1.tmps.getD 2 undef):=s2
    rw [← e2] at s2
    clear e2
    generalize a1.put (some 6) (.func (.func fU) #[] #[v1,v2])=a2 at *
    show (Code.block b0 (.rangeFunc (.tmp 6) #[7] (.region i2 ops2 false) (.block b1 (.region i3 ops3 false)))).wpIn (Wr none) 0 P _ a2 W1
    refine wpIn_block (wpIn_rangeFunc (fun fn hfn => ?_))
    have hloop:=run_enterLoop_outer (P:=P) (w:=W1) fn a2.tmps #[7] (.region i2 ops2 false) (.block b1 (.region i3 ops3 false))
    have hbel2:RowKit.Below W.heap.size W1 ((W1.alloc (.deferred (some []))).alloc (.loop (Vr fn a2.tmps #[7] (.region i2 ops2 false) (.block b1 (.region i3 ops3 false)) W1.heap.size .ready))) :=
      ((RowKit.Below.refl _ W1).alloc st2.below.size _).alloc (by have hs:W.heap.size≤W1.heap.size:=st2.below.size; simp; omega) _
    have hl2:((W1.alloc (.deferred (some []))).alloc (.loop (Vr fn a2.tmps #[7] (.region i2 ops2 false) (.block b1 (.region i3 ops3 false)) W1.heap.size .ready))).heap[W1.heap.size+1]?=some (.loop (Vr fn a2.tmps #[7] (.region i2 ops2 false) (.block b1 (.region i3 ops3 false)) W1.heap.size .ready)):=by
      have:=World.alloc_heap_new (W1.alloc (.deferred (some []))) (.loop (Vr fn a2.tmps #[7] (.region i2 ops2 false) (.block b1 (.region i3 ops3 false)) W1.heap.size .ready))
      rwa [World.size_alloc] at this
    have hD2:((W1.alloc (.deferred (some []))).alloc (.loop (Vr fn a2.tmps #[7] (.region i2 ops2 false) (.block b1 (.region i3 ops3 false)) W1.heap.size .ready))).heap[W1.heap.size]?=some (.deferred (some [])) :=
      (RowKit.Below.heap_alloc _ _ _ (by simp)).trans (World.alloc_heap_new W1 _)
    have hold2:∀ b,b<W1.heap.size→((W1.alloc (.deferred (some []))).alloc (.loop (Vr fn a2.tmps #[7] (.region i2 ops2 false) (.block b1 (.region i3 ops3 false)) W1.heap.size .ready))).heap[b]?=W1.heap[b]?:=fun b hb =>
      (RowKit.Below.heap_alloc _ _ _ (by simp; omega)).trans (RowKit.Below.heap_alloc _ _ _ hb)
    have hsz2:((W1.alloc (.deferred (some []))).alloc (.loop (Vr fn a2.tmps #[7] (.region i2 ops2 false) (.block b1 (.region i3 ops3 false)) W1.heap.size .ready))).heap.size=W1.heap.size+2:=by simp
    refine ⟨W1.heap.size+1,[{ target:=.collected W1.heap.size,args := #[] }],((W1.alloc (.deferred (some []))).alloc (.loop (Vr fn a2.tmps #[7] (.region i2 ops2 false) (.block b1 (.region i3 ops3 false)) W1.heap.size .ready))),{ target:=.fn (.func fU) #[v1,v2],args := #[.func (.yield (W1.heap.size+1)) #[] #[]] },((W1.alloc (.deferred (some []))).alloc (.loop (Vr fn a2.tmps #[7] (.region i2 ops2 false) (.block b1 (.region i3 ops3 false)) W1.heap.size .ready))),fU,#[.func (.yield (W1.heap.size+1)) #[] #[],v1,v2],((W1.alloc (.deferred (some []))).alloc (.loop (Vr fn a2.tmps #[7] (.region i2 ops2 false) (.block b1 (.region i3 ops3 false)) W1.heap.size .ready))),hloop,?_,fun _ _=>trivial,?_,fun h=>(by cases h),?_⟩
    · have e6:a2.eval (.tmp 6)=.func (.func fU) #[] #[v1,v2]:=e6
      show (Go.resolve a2.eval { callee:=.value (.tmp 6),args := #[.const (.func (.yield (W1.heap.size+1)) #[] #[])],argTypes := #[] } 0).run P _=_
      have ec:a2.eval (.const (.func (.yield (W1.heap.size+1)) #[] #[]))=.func (.yield (W1.heap.size+1)) #[] #[]:=rfl
      simp [Go.resolve,Deferred.ofValue,e6,ec,Sem.run_pure]
    · show (callFunc fU (#[.func (.yield (W1.heap.size+1)) #[] #[]] ++ #[v1,v2])).run P _=_
      rw [he]; rfl
    · show CallsIn Fence.wide _ P fU #[.func (.yield (W1.heap.size+1)) #[] #[],v1,v2] ((W1.alloc (.deferred (some []))).alloc (.loop (Vr fn a2.tmps #[7] (.region i2 ops2 false) (.block b1 (.region i3 ops3 false)) W1.heap.size .ready))) _
      generalize (W1.alloc (.deferred (some []))).alloc (.loop (Vr fn a2.tmps #[7] (.region i2 ops2 false) (.block b1 (.region i3 ops3 false)) W1.heap.size .ready))=W2 at *
      have L:=l1.trans l2
      let own':Nat→Option Nat:=fun b=>match own1 b with | some 0=>some 0 | some 1=>some 1 | _=>none
      let ρ':Xf:=fun g=>match g with | 0=>ρ1 0 | 1=>ρ1 1 | _=>none
      have ho':∀ b g',own' b=some g'→∃ g,own1 b=some g:=fun b g' h=>by
        cases ho:own1 b with
        | none=>simp only [own',ho] at h; cases h
        | some g=>exact ⟨g,rfl⟩
      have st3:St W.heap.size ⟨W,A⟩ A1 ρ' own' W1 (Xn [slB 1,.arr Zb []]):=by
        refine St.rename (p:=fun g=>Nat.beq g 0 || Nat.beq g 1) (f:=fun g=>match g with | 0=>0 | _=>1) st2 (fun g s h1 h2 => ?_) (fun g' => ?_) ho'
        · simp only [Bool.or_eq_true] at h1
          rcases h1 with h1 | h1
          · have:=Nat.eq_of_beq_eq_true h1; subst this; exact h2
          · have:=Nat.eq_of_beq_eq_true h1; subst this; exact h2
        · match g' with
          | 0=>exact .inr ⟨0,rfl,rfl,rfl,fun b hb=>by show own' b=some 0; simp only [own',hb]⟩
          | 1=>exact .inr ⟨1,rfl,rfl,rfl,fun b hb=>by show own' b=some 1; simp only [own',hb]⟩
          | g'+2=>exact .inl ⟨rfl,rfl⟩
      have hlt':∀ b g,own' b=some g→b<W1.heap.size:=fun b g hb=>st3.oldO b g hb
      have hbW:RowKit.Below W.heap.size W W2:=st2.below.trans hbel2
      have st4:St W.heap.size ⟨W,A⟩ A ρ' own' W2 (Xn [slB 1,.arr Zb []]):=st3.rebase (Jf rfl) (fun b g hb=>hold2 b (hlt' b g hb)) (by omega) (fun b g hb hA'=>by have:=st3.base b g hb; have:=hA b hA'; omega) (fun b hb=>Nat.lt_of_lt_of_le (hA b hb) hbW.size) hbW (Nat.le_refl _) (fun b hb=>.inl hb) (hgl.along hA hbW (fun _ h=>h))
      have none_of:∀ b,W1.heap.size≤b→own' b=none:=fun b hb=>by
        cases ho:own' b with
        | none=>rfl
        | some g=>have:=hlt' b g ho; omega
      have hAW:∀ b,A b→W2.heap[b]?=W.heap[b]?:=fun b hb=>hbW.block b (hA b hb)
      have R:Fr P (W1.heap.size+1) W2.heap.size A (ApJ W.heap.size W A (W1.heap.size+1) W1.heap.size fn a2.tmps (.region i2 ops2 false) (.block b1 (.region i3 ops3 false))) (fun _ _ _=>False):=by
        refine ⟨fun pre fp W W' h hb hf=>AOp hA hgl (Nat.le_refl _) hbW.size h hb hf,fun _ _ _ _ h=>h.elim,fun pre fp W' h b hb => ?_,fun _ _ _ h=>h.elim,fun pre fp W' h=>(by obtain ⟨ρ,own,h⟩:=h; exact h.st.glob),fun _ _ _ h=>h.elim,fun m pre fp W' x h hp => ?_⟩
        · obtain ⟨ρ,own,h⟩:=h
          have hs:W.heap.size≤W1.heap.size:=st2.below.size
          rcases (h.fp b).1 hb with ⟨g,hg⟩ | rfl | rfl
          · exact ⟨h.st.oldO b g hg,h.st.apart b g hg⟩
          · exact ⟨Vb h.hl,fun hA'=>by have:=hA _ hA'; omega⟩
          · exact ⟨Vb h.hD,fun hA'=>by have:=hA _ hA'; omega⟩
        · have hs:W.heap.size≤W1.heap.size:=st2.below.size
          exact ALd d2 d3 hA hgl (Nat.le_refl _) (by omega) (by omega) esz h hp
      have j0:ApJ W.heap.size W A (W1.heap.size+1) W1.heap.size fn a2.tmps (.region i2 ops2 false) (.block b1 (.region i3 ops3 false)) [] (fun b=>(∃ g,own' b=some g)∨b=W1.heap.size+1∨b=W1.heap.size) W2:=by
        refine ⟨ρ',own',st4,?_,fun b=>Iff.rfl,none_of _ (by omega),none_of _ (Nat.le_refl _),hl2,hD2⟩
        simp only [Zl] at s2 ⊢
        exact s2
      refine (AGf R hfU hcU (Zl.mono (fun _ h=>h) (fun _ _ h=>h) hAW _ h1) (Zl.mono (fun _ h=>h) (fun _ _ h=>h) hAW _ h2) rfl (fun b hb=>Nat.lt_of_lt_of_le (hA b hb) hbW.size) (hgl.mono (fun _ h=>h) hAW) j0 hi hu hk).mono ?_
      rintro e W3 ⟨⟨v,rfl⟩,fp3,hj | ⟨ys,_,hj⟩⟩
      case inr=>exact hj.elim
      obtain ⟨ρ3,own3,hj⟩:=hj
      refine ⟨none,_,run_endLoop (P:=P) hj.hl (by simp [Vr]),?_⟩
      show (Code.seq (.region i4 ops4 false) .ret).wpIn (Wr none) 0 P _ { tmps:=a2.tmps,defers:=[{ target:=.collected W1.heap.size,args := #[] }] ++ a2.defers } (W3.putObj (W1.heap.size+1) (.loop { Vr fn a2.tmps #[7] (.region i2 ops2 false) (.block b1 (.region i3 ops3 false)) W1.heap.size .ready with state:=.exhausted }))
      have hW1:W.heap.size≤W1.heap.size:=st2.below.size
      have hW3:W.heap.size≤W3.heap.size:=hj.st.below.size
      have hl3:=Vb hj.hl
      have hD3:=Vb hj.hD
      have hbl:RowKit.Below W.heap.size W3 (W3.putObj (W1.heap.size+1) (.loop { Vr fn a2.tmps #[7] (.region i2 ops2 false) (.block b1 (.region i3 ops3 false)) W1.heap.size .ready with state:=.exhausted })):=Ku (by omega)
      have hown4:∀ b,b≠W1.heap.size+1→(W3.putObj (W1.heap.size+1) (.loop { Vr fn a2.tmps #[7] (.region i2 ops2 false) (.block b1 (.region i3 ops3 false)) W1.heap.size .ready with state:=.exhausted })).heap[b]?=W3.heap[b]?:=fun b hb=>World.putObj_heap_other hb
      have hs4:(W3.putObj (W1.heap.size+1) (.loop { Vr fn a2.tmps #[7] (.region i2 ops2 false) (.block b1 (.region i3 ops3 false)) W1.heap.size .ready with state:=.exhausted })).heap.size=W3.heap.size:=by simp
      generalize W3.putObj (W1.heap.size+1) (.loop { Vr fn a2.tmps #[7] (.region i2 ops2 false) (.block b1 (.region i3 ops3 false)) W1.heap.size .ready with state:=.exhausted })=W4 at *
      have st5:=hj.st.rebase_nO (w':=W4) (Jf rfl) (fun b g hb=>hown4 b (fun e=>by subst e; rw [hj.ol] at hb; cases hb)) (by omega) hW3 (hgl.along hA (hj.st.below.trans hbl) (fun b hb=>⟨Nat.lt_of_lt_of_le (hA b hb) (by omega),hj.st.none_lt (hA b hb)⟩))
      refine wpIn_seq (Gh X1 d4 (ASi xs) st5 (Q7 _ (fun j v hv => ?_)) esz (fun a5 W5 A5 ρ5 own5 st6 sl5 sz5 l5 df5 tr5 => ?_))
      · simp only [List.mem_singleton,Prod.mk.injEq] at hv
        obtain ⟨rfl,rfl⟩:=hv
        exact Hb hj.s2
      · show Code.ret.wpIn (Wr none) 0 P _ a5 W5
        refine wpIn_ret ?_
        have df5:a5.defers=[{ target:=.collected W1.heap.size,args := #[] }]:=by rw [df5,edf]; rfl
        show LeavesInM _ _ P fnA a5.tmps _ a5.defers .returning W5
        rw [df5]
        have oD5:own5 W1.heap.size=none:=by
          cases ho:own5 W1.heap.size with
          | none=>rfl
          | some g=>exact absurd (l5.hA _ ⟨by rw [hs4]; exact hD3,hj.oD⟩) (st6.apart _ g ho)
        have hD5:W5.heap[W1.heap.size]?=some (.deferred (some [])):=(l5.hw _ ⟨by rw [hs4]; exact hD3,hj.oD⟩).trans ((hown4 _ (by omega)).trans hj.hD)
        refine ⟨by simp,.inl ⟨_,_,rfl,run_takeDeferred hD5,?_⟩⟩
        have hbel6:RowKit.Below W.heap.size W (W5.putObj W1.heap.size (.deferred none)):=((hj.st.below.trans hbl).trans st6.below).trans (Ku hW1)
        have st7:St W.heap.size ⟨W,A⟩ A ρ5 own5 (W5.putObj W1.heap.size (.deferred none)) (Xn [slB 1,.arr Zb xs]) :=
          st6.rebase (Jf rfl) (fun b g hb=>World.putObj_heap_other (fun e=>by subst e; rw [oD5] at hb; cases hb)) (by simp) (fun b g hb hA'=>by have:=st6.base b g hb; have:=hA b hA'; omega) (fun b hb=>Nat.lt_of_lt_of_le (hA b hb) hbel6.size) hbel6 (Nat.le_refl _) (fun b hb=>.inl hb) (hgl.along hA hbel6 (fun _ h=>h))
        have s4:=sl5 4
        have s4:Zl A5 ρ5 W5 (slV 1) (a5.tmps.getD 4 undef):=s4
        obtain ⟨vals,q1,q2⟩:=ret_ok (P:=P) (w0:=⟨W,A⟩) (a:=a5) (s:=Xu [(4,slV 1)]) (rs:=[.tmp 4]) (vs:=[.dat (.sl Zb) xs []]) (os:=[((0,[]),1)]) (ls:=[]) st7 (Q7 _ (fun j v hv=>by
          simp only [List.mem_singleton,Prod.mk.injEq] at hv
          obtain ⟨rfl,rfl⟩:=hv
          exact BHt s4)) cr (by kernel_rfl)
        exact ⟨_,q1,vals,rfl,q2⟩
def AIf (fA:FuncId) (o:Oper):Bool:=(match o.op with | .call ⟨.value (.func f),args,_⟩=>Nat.beq f fA && (match args.toList with | [.const (.slice none 0 0),.tmp 3]=>true | _=>false) | _=>false) && (match o.dst with | some d=>Nat.beq d 4 | none=>false) && o.guard.isNone
def ANh (d:Nat) (o:Oper):Bool:=(match o.op with | .assign (.const (.slice none 0 0))=>true | _=>false) && (match o.dst with | some t=>Nat.beq t d | none=>false) && o.guard.isNone
def AMk (P:Program) (fA:FuncId) (fn:Func):Bool:=Nat.beq fn.ntmps 5 && (match fn.results.toList with | [.tmp 2]=>true | _=>false) && (match fn.body with
  | some (.seq (.region _ ops0 false) (.seq (.region _ ops1 false) .ret))=>(match ops0.toList with | [o]=>ANh 2 o | _=>false) && (match ops1.toList with | [o0,o1,o2]=>Bp 0 3 o0 && AIf fA o1 && Bp 4 2 o2 | _=>false)
  | _=>false)
theorem AJb {fC fA fU:FuncId} {fnC fnA fnU:Func} (hfC:P.funcs[fC]?=some fnC) (hcC:AMk P fA fnC=true) (hfA:P.funcs[fA]?=some fnA) (hcA:AOn P fnA=true) (hfU:P.funcs[fU]?=some fnU) (hcU:AKr P fnU=true) (heA:∀ args w,(callFunc fA args).run P w=.ok (.enter fA args) w) (he:∀ args w,(callFunc fU args).run P w=.ok (.enter fU args) w)
    {w:den Za} {i:Int} {v1 v2:Value} {W:World} {A:Nat→Prop} {xs:List (den Zb)} {k:Nat} (hA:∀ b,A b→b<W.heap.size) (hgl:Yq A W) (h1:Zl A (fun _=>none) W (.ref Za w) v1) (h2:Zl A (fun _=>none) W (.ref (.int .i64) i) v2)
    (hi:(0:Int)≤i∧i<(List.length (w.2.2.2.1:List (den Zb)):Int)) (hu:upL w.2.2.2.1 k (List.getD (w.2.2.2.1:List (den Zb)) (Int.toNat i) (dft Zb))=some xs) (hk:k≤100) :
    Go.Calls P fC #[.func (.func fU) #[] #[v1,v2]] W (fun e W'=>∃ vals,e=.returned (Je vals)∧Ht A W W' [.dat (.sl Zb) xs []] [(0,[])] vals):=by
  have hap:=ALc hfA hcA hfU hcU he hA hgl h1 h2 hi hu hk
  unfold AMk at hcC
  simp only [Bool.and_eq_true] at hcC
  obtain ⟨⟨c0,cr⟩,c2⟩:=hcC
  split at cr
  case h_2=>cases cr
  rename_i hres
  split at c2
  case h_2=>cases c2
  rename_i i0 ops0 i1 ops1 hbd
  simp only [Bool.and_eq_true] at c2
  obtain ⟨c2,c3⟩:=c2
  split at c2
  case h_2=>cases c2
  rename_i p0 hp0
  split at c3
  case h_2=>cases c3
  rename_i o0 o1 o2 ho
  obtain rfl:ops0 = #[p0]:=Array.ext' hp0
  obtain rfl:ops1 = #[o0,o1,o2]:=Array.ext' ho
  simp only [Bool.and_eq_true] at c3
  obtain ⟨⟨d0,d1⟩,d2⟩:=c3
  have hnt:=Nat.eq_of_beq_eq_true c0
  refine (callsIn_wide (n:=0)).1 (callsIn_of_wp hfC hbd trivial ?_)
  have sz:(#[.func (.func fU) #[] #[v1,v2]] ++ Array.replicate (fnC.ntmps - (#[.func (.func fU) #[] #[v1,v2]]:Array Value).size) undef:Array Value).size=5:=by rw [hnt,Array.size_append,Array.size_replicate]; rfl
  have t0:=H2 (xs := #[.func (.func fU) #[] #[v1,v2]]) (k:=fnC.ntmps - (#[.func (.func fU) #[] #[v1,v2]]:Array Value).size) (j:=0) (v:=.func (.func fU) #[] #[v1,v2]) rfl
  generalize (#[.func (.func fU) #[] #[v1,v2]] ++ Array.replicate (fnC.ntmps - (#[.func (.func fU) #[] #[v1,v2]]:Array Value).size) undef:Array Value)=tm at *
  have hnil:∀ (a:Act) (w:World),(execOp a.eval p0).run P w=.ok (.value (.slice none 0 0)) w∧p0.dst=some 2∧p0.guard=none∧K2 p0=true:=fun a w=>by
    unfold ANh at c2
    simp only [Bool.and_eq_true] at c2
    obtain ⟨⟨k1,k2⟩,k3⟩:=c2
    split at k1
    · rename_i hop
      refine ⟨by simp only [execOp,hop]; rfl,?_,by simpa using k3,by unfold K2; rw [hop]⟩
      split at k2
      · rename_i t ht; rw [ht,Nat.eq_of_beq_eq_true k2]
      · cases k2
    · cases k1
  obtain ⟨n1,n2,n3,n4⟩:=hnil { tmps:=tm,defers:=[] } W
  show Code.wpIn (Wr none) 0 P _ _ _ W
  refine wpIn_seq (wpIn_region ?_)
  show wpOpsIn (Wr none) 0 P #[p0] _ [0] { tmps:=tm,defers:=[] } W
  refine C5 (i:=0) (o:=p0) rfl n4 (by simp [Region.wanted,n3]) ?_
  unfold Oper.wp
  rw [n1,Oper.upon_value,n2]
  have t0':(({ tmps:=tm,defers:=[] }:Act).put (some 2) (.slice none 0 0)).tmps.getD 0 undef=.func (.func fU) #[] #[v1,v2]:=(Vu (by decide)).trans t0
  have sz':(({ tmps:=tm,defers:=[] }:Act).put (some 2) (.slice none 0 0)).tmps.size=5:=by rw [Kl]; exact sz
  have df':(({ tmps:=tm,defers:=[] }:Act).put (some 2) (.slice none 0 0)).defers=[]:=rfl
  generalize ({ tmps:=tm,defers:=[] }:Act).put (some 2) (.slice none 0 0)=a at *
  show (Code.seq (.region i1 #[o0,o1,o2] false) .ret).wpIn (Wr none) 0 P _ a W
  refine wpIn_seq (wpIn_region ?_)
  show wpOpsIn (Wr none) 0 P #[o0,o1,o2] _ [0,1,2] a W
  obtain ⟨m1,m2,m3,m4⟩:=Lz (P:=P) (a:=a) (w:=W) d0
  refine C5 (i:=0) (o:=o0) rfl m4 (by simp [Region.wanted,m3]) ?_
  unfold Oper.wp
  rw [m1,Oper.upon_value,m2,t0']
  have e3:(a.put (some 3) (.func (.func fU) #[] #[v1,v2])).tmps.getD 3 undef=.func (.func fU) #[] #[v1,v2]:=T0 (by rw [sz']; decide)
  have esz:(a.put (some 3) (.func (.func fU) #[] #[v1,v2])).tmps.size=5:=by rw [Kl]; exact sz'
  have edf:(a.put (some 3) (.func (.func fU) #[] #[v1,v2])).defers=[]:=by rw [Q3]; exact df'
  generalize a.put (some 3) (.func (.func fU) #[] #[v1,v2])=a3 at *
  have hcall:(execOp a3.eval o1).run P W=.ok (.enter fA #[.slice none 0 0,.func (.func fU) #[] #[v1,v2]]) W∧o1.dst=some 4∧o1.guard=none∧K2 o1=true:=by
    unfold AIf at d1
    simp only [Bool.and_eq_true] at d1
    obtain ⟨⟨k1,k2⟩,k3⟩:=d1
    split at k1
    · rename_i f args ty hop
      simp only [Bool.and_eq_true] at k1
      obtain ⟨k1,k4⟩:=k1
      obtain rfl:=Nat.eq_of_beq_eq_true k1
      split at k4
      · rename_i ha
        obtain rfl:args = #[.const (.slice none 0 0),.tmp 3]:=Array.ext' ha
        have e3:a3.eval (.tmp 3)=.func (.func fU) #[] #[v1,v2]:=e3
        have ef:a3.eval (.func f)=.func (.func f) #[] #[]:=rfl
        have ec:a3.eval (.const (.slice none 0 0))=.slice none 0 0:=rfl
        refine ⟨?_,?_,by simpa using k3,by unfold K2; rw [hop]⟩
        · simp only [execOp,hop,Sem.run_bind,Go.resolve,Deferred.ofValue,ef,Sem.run_pure,Result.andThen_ok,invoke,List.map_toArray,List.map_cons,List.map_nil,e3,ec]
          rw [heA]; rfl
        · split at k2
          · rename_i t ht; rw [ht,Nat.eq_of_beq_eq_true k2]
          · cases k2
      · cases k4
    · cases k1
  obtain ⟨q1,q2,q3,q4⟩:=hcall
  refine C5 (i:=1) (o:=o1) rfl q4 (by simp [Region.wanted,q3]) ?_
  unfold Oper.wp
  rw [q1,Oper.upon_enter,q2]
  refine hap.mono ?_
  rintro e W' ⟨vals,rfl,hr⟩
  have hv:∃ v,vals=[v]:=by
    obtain ⟨_,A',ρ',own',o,hf⟩:=hr
    exact AJo hf
  obtain ⟨v,rfl⟩:=hv
  show wpOpsIn (Wr none) 0 P #[o0,o1,o2] _ [2] (a3.put (some 4) v) W'
  obtain ⟨p1,p2,p3,p4⟩:=Lz (P:=P) (a:=a3.put (some 4) v) (w:=W') d2
  refine C5 (i:=2) (o:=o2) rfl p4 (by simp [Region.wanted,p3]) ?_
  unfold Oper.wp
  rw [p1,Oper.upon_value,p2]
  have e4:(a3.put (some 4) v).tmps.getD 4 undef=v:=T0 (by rw [esz]; decide)
  have e2:((a3.put (some 4) v).put (some 2) v).tmps.getD 2 undef=v:=T0 (by rw [Kl,esz]; decide)
  rw [e4]
  show Code.ret.wpIn (Wr none) 0 P _ ((a3.put (some 4) v).put (some 2) v) W'
  refine wpIn_ret ⟨by rw [Q3,Q3]; exact edf,_,G6 (vs:=[v]) ?_ (fun j hj => ?_),[v],rfl,hr⟩
  · rw [← Array.length_toList,hres]; rfl
  · have hr':fnC.results = #[.tmp 2]:=Array.ext' hres
    have hj0:j=0:=by rw [hr'] at hj; simp at hj; exact hj
    subst hj0
    refine ⟨v,rfl,?_⟩
    simp only [hr']
    show (pure (((a3.put (some 4) v).put (some 2) v).tmps.getD 2 undef):Sem Value).run P W'=_
    rw [e2]; rfl
end
end Go.Proofs.YtjobjooccgledaaGreatDoor.Ghost
namespace Go.Proofs.YtjobjooccgledaaGreatDoor.Ghost
open Go
abbrev Qd (b:Int):den Zb:=((2:Int),b,())
def w0L:List Ln:=[⟨some 3,.box 0 (.t 0),none,[],[]⟩,⟨some 5,.box 1 (.t 2),none,[],[]⟩,⟨some 6,.newbox 2 .bool [],none,[],[]⟩]
def w1L:List Ln:=[⟨some 8,.move (.t 1),none,[],[]⟩,⟨some 9,.load (.d (.int .i64)) (.t 5),none,[],[]⟩,⟨some 10,.bin .eql (.t 8) (.t 9),none,[],[]⟩]
def w2L:List Ln:=[⟨none,.store (.d .bool) (.t 6) (.c .bool true),none,[],[]⟩]
def w3L:List Ln:=[⟨some 11,.load (.d Za) (.t 3),none,[],[]⟩,⟨some 12,.move (.t 1),none,[],[]⟩,⟨some 13,.call (.f 107) [.t 11,.t 12] [.clo 112 [.ref Za,.ref (.int .i64)]] [] false,none,[],[]⟩]
def w4L:List Ln:=[⟨some 7,.newbox 2 Zb [],none,[],[]⟩,⟨none,.store (.d Zb) (.t 7) (.t 14),none,[],[]⟩]
def w5L:List Ln:=[⟨some 15,.load (.d Zb) (.t 7),none,[],[]⟩,⟨some 16,.load (.d (.int .i64)) (.t 5),none,[],[]⟩,⟨some 17,.build Zb [(0,.c (.int .i64) (2:Int)),(1,.t 16)] [],none,[],[]⟩,⟨some 18,.eqs Zb false (.t 15) (.t 17),none,[],[]⟩]
def w6L:List Ln:=[⟨none,.store (.d .bool) (.t 6) (.c .bool true),none,[],[]⟩]
def w7L:List Ln:=[⟨none,.store (.d .bool) (.t 6) (.c .bool false),none,[],[]⟩]
theorem BH1 (w:den Za) (i b:Int):Yz (Vy prog Yl 2) false w0L [(0,.dat Za w []),(1,.dat (.int .i64) i []),(2,.dat (.int .i64) b [])] [] put2=some ([(0,.dat Za w []),(1,.dat (.int .i64) i []),(2,.dat (.int .i64) b []),(3,.ptr 0 []),(5,.ptr 1 []),(6,.ptr 2 [])],[.box Za w [],.box (.int .i64) b [],.box .bool false []]):=by kernel_rfl
theorem BH2 (w:den Za) (i b:Int):Yz (Vy prog Yl 2) false w1L [(1,.dat (.int .i64) i []),(3,.ptr 0 []),(5,.ptr 1 []),(6,.ptr 2 [])] [.box Za w [],.box (.int .i64) b [],.box .bool false []] put2=some ([(1,.dat (.int .i64) i []),(3,.ptr 0 []),(5,.ptr 1 []),(6,.ptr 2 []),(8,.dat (.int .i64) i []),(9,.dat (.int .i64) b []),(10,.dat .bool (decide (i=b)) [])],[.box Za w [],.box (.int .i64) b [],.box .bool false []]):=by kernel_rfl
theorem BH3 (w:den Za) (b:Int):Yz (Vy prog Yl 2) false w2L [(6,.ptr 2 [])] [.box Za w [],.box (.int .i64) b [],.box .bool false []] put2=some ([(6,.ptr 2 [])],[.box Za w [],.box (.int .i64) b [],.box .bool true []]):=by kernel_rfl
theorem BH4 (w:den Za) (i b:Int):Yz (Vy prog Yl 2) false w3L [(1,.dat (.int .i64) i []),(3,.ptr 0 []),(5,.ptr 1 []),(6,.ptr 2 [])] [.box Za w [],.box (.int .i64) b [],.box .bool false []] put2=some ([(1,.dat (.int .i64) i []),(3,.ptr 0 []),(5,.ptr 1 []),(6,.ptr 2 []),(11,.dat Za w []),(12,.dat (.int .i64) i []),(13,.clo 112 [.ref Za w,.ref (.int .i64) i])],[.box Za w [],.box (.int .i64) b [],.box .bool false []]):=by kernel_rfl
theorem BH5 (x:den Zb) (b:Int) (r:Bool):Yz Yl false w4L [(5,.ptr 0 []),(6,.ptr 1 []),(14,.dat Zb x [])] [.box (.int .i64) b [],.box .bool r []] put2=some ([(5,.ptr 0 []),(6,.ptr 1 []),(14,.dat Zb x []),(7,.ptr 2 [])],[.box (.int .i64) b [],.box .bool r [],.box Zb x []]):=by kernel_rfl
theorem BH6 (x:den Zb) (b:Int) (r:Bool):Yz Yl false w5L [(5,.ptr 0 []),(6,.ptr 1 []),(7,.ptr 2 [])] [.box (.int .i64) b [],.box .bool r [],.box Zb x []] put2=some ([(5,.ptr 0 []),(6,.ptr 1 []),(7,.ptr 2 []),(15,.dat Zb x []),(16,.dat (.int .i64) b []),(17,.dat Zb (Qd b) []),(18,.dat .bool (eqT Zb x (Qd b)) [])],[.box (.int .i64) b [],.box .bool r [],.box Zb x []]):=by kernel_rfl
theorem BH7 (x:den Zb) (b:Int) (r:Bool):Yz Yl false w6L [(6,.ptr 1 [])] [.box (.int .i64) b [],.box .bool r [],.box Zb x []] put2=some ([(6,.ptr 1 [])],[.box (.int .i64) b [],.box .bool true [],.box Zb x []]):=by kernel_rfl
theorem BH8 (b:Int) (r:Bool):Yz Yl false w7L [(6,.ptr 1 [])] [.box (.int .i64) b [],.box .bool r []] put2=some ([(6,.ptr 1 [])],[.box (.int .i64) b [],.box .bool false []]):=by kernel_rfl
section
variable {P:Program}
def Hi (fn:FuncId) (tm:Array Value) (ps:Array Tmp) (assign body:Code) (D:Nat) (s:LoopState) (p:Option Code):Loop:={ state:=s,pending:=p,fn,tmps:=tm,params:=ps,assign,body,defers:=D }
theorem BId {W:World} {l D:Nat} {fn:FuncId} {tm:Array Value} {t:Tmp} {assign body:Code} {v:Value} (h:W.heap[l]?=some (.loop (Hi fn tm #[t] assign body D .ready none))):(Instr.yield l #[v]).run P W=.ok (.round l fn (tm.setIfInBounds t v) assign body) W:=by
  have:=run_yield (P:=P) (args := #[v]) h rfl
  simpa [Hi] using this
structure BXr (B:Nat) (w0:World) (A0:Nat→Prop) (l D:Nat) (fn:FuncId) (tm:Array Value) (assign body:Code) (b:Int) (r:Bool) (s:LoopState) (p:Option Code) (fp:Nat→Prop) (W:World) (ρ:Xf) (own:Nat→Option Nat):Prop where
  st:St B ⟨w0,A0⟩ A0 ρ own W (Xn [.box (.int .i64) b [],.box .bool r []])
  s5:Zl A0 ρ W (.ptr 0 []) (tm.getD 5 undef)
  s6:Zl A0 ρ W (.ptr 1 []) (tm.getD 6 undef)
  fp:∀ b,fp b↔(∃ g,own b=some g)∨b=l∨b=D
  ol:own l=none
  oD:own D=none
  hl:W.heap[l]?=some (.loop (Hi fn tm #[14] assign body D s p))
  hD:W.heap[D]?=some (.deferred (some []))
def WiJ (B:Nat) (w0:World) (A0:Nat→Prop) (l D:Nat) (fn:FuncId) (tm:Array Value) (assign body:Code) (b:Int) (r:Bool) (s:LoopState) (p:Option Code) (fp:Nat→Prop) (W:World):Prop:=∃ ρ own,BXr B w0 A0 l D fn tm assign body b r s p fp W ρ own
theorem AI0 {B:Nat} {w0:World} {A0:Nat→Prop} {l D:Nat} {fn:FuncId} {tm:Array Value} {assign body:Code} {b:Int} {r:Bool} {s:LoopState} {p:Option Code} {fp:Nat→Prop} {W W':World} (hB:B≤w0.heap.size) {B':Nat} (hBB:B≤B') {G:Nat→Prop} (hG:∀ b,G b→b<B∧A0 b) (hg0:Yq G w0) (h:WiJ B w0 A0 l D fn tm assign body b r s p fp W) (hb:RowKit.Below B' W W') (hf:∀ b,fp b→W'.heap[b]?=W.heap[b]?) :
    WiJ B w0 A0 l D fn tm assign body b r s p fp W':=by
  obtain ⟨ρ,own,h⟩:=h
  refine ⟨ρ,own,?_,Hb h.s5,Hb h.s6,h.fp,h.ol,h.oD,(hf l ((h.fp l).2 (.inr (.inl rfl)))).trans h.hl,(hf D ((h.fp D).2 (.inr (.inr rfl)))).trans h.hD⟩
  have hbel:=h.st.below.trans (hb.mono hBB)
  exact h.st.rebase (Jf rfl) (fun b g hbg=>hf b ((h.fp b).2 (.inl ⟨g,hbg⟩))) hb.size h.st.apart (fun b hb'=>Nat.lt_of_lt_of_le (h.st.old b hb') hb.size) hbel hB (fun b hb'=>.inl hb') (hg0.along (fun b h=>(hG b h).1) hbel (fun b h=>(hG b h).2))
def B5 (own:Nat→Option Nat):Nat→Option Nat:=fun b=>match own b with | some 0=>some 0 | some 1=>some 1 | _=>none
def BHs (ρ:Xf):Xf:=fun g=>match g with | 0=>ρ 0 | 1=>ρ 1 | _=>none
theorem ABk {own:Nat→Option Nat} {b g:Nat} (h:B5 own b=some g):∃ g',own b=some g':=by
  cases ho:own b with
  | none=>simp only [B5,ho] at h; cases h
  | some g'=>exact ⟨g',rfl⟩
theorem Ek {own:Nat→Option Nat} {b:Nat} (h:own b=none):B5 own b=none:=by simp only [B5,h]
theorem ARh {B:Nat} {w1:Y6} {A:Nat→Prop} {ρ:Xf} {own:Nat→Option Nat} {W:World} {b:Int} {r:Bool} {x:den Zb} (st:St B w1 A ρ own W (Xn [.box (.int .i64) b [],.box .bool r [],.box Zb x []])):St B w1 A (BHs ρ) (B5 own) W (Xn [.box (.int .i64) b [],.box .bool r []]):=by
  refine St.rename (p:=fun g=>Nat.beq g 0 || Nat.beq g 1) (f:=fun g=>match g with | 0=>0 | _=>1) st (fun g s h1 h2 => ?_) (fun g' => ?_) (fun b g' h=>ABk h)
  · simp only [Bool.or_eq_true] at h1
    rcases h1 with h1 | h1
    · have:=Nat.eq_of_beq_eq_true h1; subst this; exact h2
    · have:=Nat.eq_of_beq_eq_true h1; subst this; exact h2
  · match g' with
    | 0=>exact .inr ⟨0,rfl,rfl,rfl,fun b hb=>by simp only [B5,hb]⟩
    | 1=>exact .inr ⟨1,rfl,rfl,rfl,fun b hb=>by simp only [B5,hb]⟩
    | g'+2=>exact .inl ⟨rfl,rfl⟩
theorem AOg {B:Nat} {w0:World} {A0:Nat→Prop} {l D:Nat} {fn:FuncId} {tm:Array Value} {ops4 ops5 ops6:Array Oper} {i4 i5 i6 b1:Nat} (c4:V3 P 19 w4L ops4=true) (c5:V3 P 19 w5L ops5=true) (c6:V3 P 19 w6L ops6=true) (hB:B≤w0.heap.size) {G:Nat→Prop} (hG:∀ b,G b→b<B∧A0 b) (hg0:Yq G w0) (hBl:B≤l) (hlD:l≠D) (htm:tm.size=19)
    {assign body:Code} (has:assign=.region i4 ops4 false) (hbo:body=.block b1 (.seq (.region i5 ops5 false) (.cond (.tmp 18) (.seq (.region i6 ops6 false) .ret) .skip))) {b:Int} {m:Nat} {fp:Nat→Prop} {W:World} {x:den Zb} (h:WiJ B w0 A0 l D fn tm assign body b false .ready none fp W) :
    YieldAt Fence.wide m P l #[J2 x] W (fun e W'=>∃ fp',AOj fp W W'∧(∀ b,fp' b→fp b∨W.heap.size≤b) ∧
      ((e=.returned (.bool true)∧eqT Zb x (Qd b)=false∧WiJ B w0 A0 l D fn tm assign body b false .ready none fp' W')∨(e=.returned (.bool false)∧eqT Zb x (Qd b)=true∧WiJ B w0 A0 l D fn tm assign body b true .done (some .ret) fp' W'))):=by
  obtain ⟨ρ,own,h⟩:=h
  refine ⟨_,_,_,_,BId (P:=P) h.hl,roundIn_of_wpIn trivial ?_⟩
  show assign.wpIn (Wr (some l)) m P _ { tmps:=tm.setIfInBounds 14 (J2 x),defers:=[] } W
  have hBW:B≤W.heap.size:=Nat.le_trans hB h.st.below.size
  have st1:=h.st.rebase_nO (w':=W) (Jf rfl) (fun _ _ _=>rfl) (Nat.le_refl _) hBW h.st.glob_nO
  have hll:l<W.heap.size:=Vb h.hl
  have hDl:D<W.heap.size:=Vb h.hD
  have g5:(tm.setIfInBounds 14 (J2 x)).getD 5 undef=tm.getD 5 undef:=by
    rw [Array.getD_eq_getD_getElem?,Array.getD_eq_getD_getElem?,Array.getElem?_setIfInBounds_ne (by decide)]
  have g6:(tm.setIfInBounds 14 (J2 x)).getD 6 undef=tm.getD 6 undef:=by
    rw [Array.getD_eq_getD_getElem?,Array.getD_eq_getD_getElem?,Array.getElem?_setIfInBounds_ne (by decide)]
  have g14:(tm.setIfInBounds 14 (J2 x)).getD 14 undef=J2 x:=by
    rw [Array.getD_eq_getD_getElem?,Array.getElem?_setIfInBounds_self_of_lt (by rw [htm]; decide)]; rfl
  have eas:∀ Q a W,(Code.region i4 ops4 false).wpIn (Wr (some l)) m P Q a W→assign.wpIn (Wr (some l)) m P Q a W:=fun Q a W h=>by rw [has]; exact h
  have ebo:∀ Q a W,(Code.block b1 (.seq (.region i5 ops5 false) (.cond (.tmp 18) (.seq (.region i6 ops6 false) .ret) .skip))).wpIn (Wr (some l)) m P Q a W→body.wpIn (Wr (some l)) m P Q a W:=fun Q a W h=>by rw [hbo]; exact h
  refine eas _ _ _ (Gh X1 c4 (BH5 x b false) st1 (Q7 _ (fun j v hv => ?_)) (by simpa using htm) (fun a1 W1 A1 ρ1 own1 st2 sl1 sz1 l1 df1 tr1 => ?_))
  · simp only [List.mem_cons,Prod.mk.injEq,List.not_mem_nil,or_false] at hv
    rcases hv with ⟨rfl,rfl⟩ | ⟨rfl,rfl⟩ | ⟨rfl,rfl⟩
    · show Zl _ _ _ _ ((tm.setIfInBounds 14 (J2 x)).getD 5 undef)
      rw [g5]; exact Hb h.s5
    · show Zl _ _ _ _ ((tm.setIfInBounds 14 (J2 x)).getD 6 undef)
      rw [g6]; exact Hb h.s6
    · show Zl _ _ _ _ ((tm.setIfInBounds 14 (J2 x)).getD 14 undef)
      rw [g14]; simp only [Zl,Zm,Xs]; exact ⟨[.int .i64 x.1,.int .i64 x.2.1],⟨rfl,rfl,rfl⟩,rfl⟩
  · have k1:∀ b,b<W.heap.size→own b=none→W1.heap[b]?=W.heap[b]?∧own1 b=none:=fun b hb ho=>⟨l1.hw b ⟨hb,ho⟩,by
      cases hq:own1 b with
      | none=>rfl
      | some g=>exact absurd (l1.hA b ⟨hb,ho⟩) (st2.apart b g hq)⟩
    have hl1:W1.heap[l]?=some (.loop (Hi fn tm #[14] assign body D .ready none)):=(k1 l hll h.ol).1.trans h.hl
    have hbr:=run_beginRound (P:=P) hl1 rfl
    refine ⟨_,hbr,?_⟩
    have hown2:∀ b g,own1 b=some g→(W1.putObj l (.loop (Hi fn tm #[14] assign body D .busy none))).heap[b]?=W1.heap[b]?:=fun b g hb=>World.putObj_heap_other (fun e=>by subst e; rw [(k1 b hll h.ol).2] at hb; cases hb)
    have hs1:W.heap.size≤W1.heap.size:=st2.below.size
    have hl1':l<W1.heap.size:=Vb hl1
    have st3:=st2.rebase_nO (Jf rfl) hown2 (by simp) (Nat.le_trans hBW hs1) (hg0.along (fun b h=>(hG b h).1) ((h.st.below.trans st2.below).trans (Ku hBl)) (fun b hb=>⟨by have:=(hG b hb).1; simp; omega,st2.none_lt (hG b hb).1⟩))
    have hbel1:RowKit.Below B W1 (W1.putObj l (.loop (Hi fn tm #[14] assign body D .busy none))):=Ku hBl
    have hl2:(W1.putObj l (.loop (Hi fn tm #[14] assign body D .busy none))).heap[l]?=some (.loop (Hi fn tm #[14] assign body D .busy none)):=World.putObj_heap_same hl1'
    have hoth2:∀ b,b≠l→(W1.putObj l (.loop (Hi fn tm #[14] assign body D .busy none))).heap[b]?=W1.heap[b]?:=fun b hb=>World.putObj_heap_other hb
    have hsz2:(W1.putObj l (.loop (Hi fn tm #[14] assign body D .busy none))).heap.size=W1.heap.size:=by simp
    show body.wpIn (Wr (some l)) m P _ a1 (W1.putObj l (.loop (Hi fn tm #[14] assign body D .busy none)))
    generalize W1.putObj l (.loop (Hi fn tm #[14] assign body D .busy none))=W2 at *
    have hol1:own1 l=none:=(k1 l hll h.ol).2
    have fin:∀ (r:Bool) (s:LoopState) (p:Option Code) (W3:World) (A3:Nat→Prop) (ρ3:Xf) (own3:Nat→Option Nat),St B ⟨W2,nO own1 W2⟩ A3 ρ3 own3 W3 (Xn [.box (.int .i64) b [],.box .bool r [],.box Zb x []])→X9 (nO own1 W2) ρ1 W2 A3 ρ3 W3 →
        W3.heap[l]?=some (.loop (Hi fn tm #[14] assign body D .busy none))∧∃ fp',AOj fp W (W3.putObj l (.loop (Hi fn tm #[14] assign body D s p)))∧(∀ b,fp' b→fp b∨W.heap.size≤b)∧WiJ B w0 A0 l D fn tm assign body b r s p fp' (W3.putObj l (.loop (Hi fn tm #[14] assign body D s p))):=fun r s p W3 A3 ρ3 own3 st4 l3=>by
      have k3:∀ b,b<W1.heap.size→own1 b=none→W3.heap[b]?=W2.heap[b]?∧own3 b=none:=fun b hb ho=>⟨l3.hw b ⟨by rw [hsz2]; exact hb,ho⟩,by
        cases hq:own3 b with
        | none=>rfl
        | some g=>exact absurd (l3.hA b ⟨by rw [hsz2]; exact hb,ho⟩) (st4.apart b g hq)⟩
      have hs3:W2.heap.size≤W3.heap.size:=st4.below.size
      have ho3:∀ b,b<W.heap.size→own b=none→own3 b=none:=fun b hb ho=>(k3 b (by omega) (k1 b hb ho).2).2
      refine ⟨(k3 l hl1' hol1).1.trans hl2,fun b=>(∃ g,B5 own3 b=some g)∨b=l∨b=D,⟨by simp; omega,fun b hb hnf => ?_⟩,fun b hb => ?_,?_⟩
      · have hnl:b≠l:=fun e=>hnf ((h.fp b).2 (.inr (.inl e)))
        have hob:own b=none:=by
          cases ho:own b with
          | none=>rfl
          | some g=>exact absurd ((h.fp b).2 (.inl ⟨g,ho⟩)) hnf
        rw [World.putObj_heap_other hnl,(k3 b (by omega) (k1 b hb hob).2).1,hoth2 b hnl,(k1 b hb hob).1]
      · by_cases hbs:b<W.heap.size
        · rcases hb with ⟨g,hb⟩ | hb
          · refine .inl ((h.fp b).2 ?_)
            cases ho:own b with
            | some g=>exact .inl ⟨g,rfl⟩
            | none=>rw [Ek (ho3 b hbs ho)] at hb; cases hb
          · exact .inl ((h.fp b).2 (.inr hb))
        · exact .inr (by omega)
      · have hlo:B5 own3 l=none:=Ek (ho3 l hll h.ol)
        have hDo:B5 own3 D=none:=Ek (ho3 D hDl h.oD)
        have hbel:RowKit.Below B w0 (W3.putObj l (.loop (Hi fn tm #[14] assign body D s p))):=(((h.st.below.trans st2.below).trans hbel1).trans st4.below).trans (Ku hBl)
        have ptr:∀ g v,g=0∨g=1→Zl A0 ρ W (.ptr g []) v→Zl A0 (BHs ρ3) (W3.putObj l (.loop (Hi fn tm #[14] assign body D s p))) (.ptr g []) v:=fun g v hg hv=>by
          simp only [Zl] at hv ⊢
          obtain ⟨s,q1,q2⟩:=hv
          refine ⟨s,?_,q2⟩
          have:=l3.hρ _ _ (l1.hρ _ _ q1)
          rcases hg with rfl | rfl <;> exact this
        refine ⟨BHs ρ3,B5 own3,(ARh st4).rebase (Jf rfl) (fun b g hb=>World.putObj_heap_other (fun e=>by subst e; rw [hlo] at hb; cases hb)) (by simp) (fun b g hb hA => ?_) (fun b hb => ?_) hbel hB (fun b hb=>.inl hb) (hg0.along (fun b h=>(hG b h).1) hbel (fun b h=>(hG b h).2)),ptr 0 _ (.inl rfl) h.s5,ptr 1 _ (.inr rfl) h.s6,fun b=>Iff.rfl,hlo,hDo,World.putObj_heap_same (by omega),?_⟩
        · obtain ⟨g3,hg3⟩:=ABk hb
          have hob:own b=none:=by
            cases ho:own b with
            | none=>rfl
            | some g=>exact absurd hA (h.st.apart b g ho)
          rw [ho3 b (h.st.old b hA) hob] at hg3
          cases hg3
        · have:=h.st.old b hb
          simp; omega
        · rw [World.putObj_heap_other (Ne.symm hlD),(k3 D (by omega) (k1 D hDl h.oD).2).1,hoth2 D (Ne.symm hlD),(k1 D hDl h.oD).1]
          exact h.hD
    refine ebo _ _ _ (wpIn_block (wpIn_seq (Gh X1 c5 (BH6 x b false) st3 (Q7 _ (fun j v hv => ?_)) sz1 (fun a3 W3 A3 ρ3 own3 st4 sl3 sz3 l3 df3 tr3 => ?_))))
    · simp only [List.mem_cons,Prod.mk.injEq,List.not_mem_nil,or_false] at hv
      rcases hv with ⟨rfl,rfl⟩ | ⟨rfl,rfl⟩ | ⟨rfl,rfl⟩
      · exact Hb (sl1 5)
      · exact Hb (sl1 6)
      · exact Hb (sl1 7)
    · have s18:Zl A3 ρ3 W3 (.dat .bool (eqT Zb x (Qd b)) []) (a3.eval (.tmp 18)):=sl3 18
      have e18:=Jj s18
      show (Code.cond (.tmp 18) (.seq (.region i6 ops6 false) .ret) .skip).wpIn (Wr (some l)) m P _ a3 W3
      cases hq:eqT Zb x (Qd b) with
      | false =>
        rw [hq] at e18
        refine wpIn_cond_false e18 (wpIn_skip ?_)
        obtain ⟨f1,fp',f2,f3,f4⟩:=fin false .ready none W3 A3 ρ3 own3 st4 l3
        exact ⟨_,_,run_endRound none f1,fp',f2,f3,.inl ⟨rfl,rfl,f4⟩⟩
      | true =>
        rw [hq] at e18
        refine wpIn_cond_true e18 (wpIn_seq (Gh X1 c6 (BH7 x b false) st4 (Q7 _ (fun j v hv => ?_)) sz3 (fun a4 W4 A4 ρ4 own4 st5 sl4 sz4 l4 df4 tr4 => ?_)))
        · simp only [List.mem_singleton,Prod.mk.injEq] at hv
          obtain ⟨rfl,rfl⟩:=hv
          exact Hb (sl3 6)
        · show Code.ret.wpIn (Wr (some l)) m P _ a4 W4
          refine wpIn_ret ?_
          obtain ⟨f1,fp',f2,f3,f4⟩:=fin true .done (some .ret) W4 A4 ρ4 own4 st5 (l3.trans l4)
          exact ⟨_,_,run_endRound (some .ret) f1,fp',f2,f3,.inr ⟨rfl,rfl,f4⟩⟩
end
end Go.Proofs.YtjobjooccgledaaGreatDoor.Ghost
namespace Go.Proofs.YtjobjooccgledaaGreatDoor.Ghost
open Go
theorem BHr:Tryz.prog.follows .mixedOrders=true:=by kernel_rfl
theorem ADj:Vw Tryz.prog (Vy prog Yl 2):=Wb BHr X1 Cf 2
def BIa (P:Program) (fn:Func):Bool:=Nat.beq fn.ntmps 19 && Rs P [.cell 6 (.d .bool)] fn.results.toList && (match fn.body with
  | some (.seq (.region _ ops0 false) (.seq (.seq (.region _ ops1 false) (.cond (.tmp 10) (.seq (.region _ ops2 false) .ret) .skip)) (.seq (.seq (.region _ ops3 false) (.block _ (.rangeFunc (.tmp 13) ps (.region _ ops4 false) (.block _ (.seq (.region _ ops5 false) (.cond (.tmp 18) (.seq (.region _ ops6 false) .ret) .skip)))))) (.seq (.region _ ops7 false) .ret)))) =>
    V3 P 19 w0L ops0 && V3 P 19 w1L ops1 && V3 P 19 w2L ops2 && V3 P 19 w3L ops3 && V3 P 19 w4L ops4 && V3 P 19 w5L ops5 && V3 P 19 w6L ops6 && V3 P 19 w7L ops7 && (match ps.toList with | [t]=>Nat.beq t 14 | _=>false)
  | _=>false)
def B6 (own:Nat→Option Nat):Nat→Option Nat:=fun b=>match own b with | some 1=>some 0 | some 2=>some 1 | _=>none
def AN1 (ρ:Xf):Xf:=fun g=>match g with | 0=>ρ 1 | 1=>ρ 2 | _=>none
theorem AKc {own:Nat→Option Nat} {b g:Nat} (h:B6 own b=some g):∃ g',own b=some g':=by
  cases ho:own b with
  | none=>simp only [B6,ho] at h; cases h
  | some g'=>exact ⟨g',rfl⟩
theorem ARg {B:Nat} {w1:Y6} {A:Nat→Prop} {ρ:Xf} {own:Nat→Option Nat} {W:World} {w:den Za} {b:Int} {r:Bool} (st:St B w1 A ρ own W (Xn [.box Za w [],.box (.int .i64) b [],.box .bool r []])):St B w1 A (AN1 ρ) (B6 own) W (Xn [.box (.int .i64) b [],.box .bool r []]):=by
  refine St.rename (p:=fun g=>Nat.beq g 1 || Nat.beq g 2) (f:=fun g=>match g with | 1=>0 | _=>1) st (fun g s h1 h2 => ?_) (fun g' => ?_) (fun b g' h=>AKc h)
  · simp only [Bool.or_eq_true] at h1
    rcases h1 with h1 | h1
    · have:=Nat.eq_of_beq_eq_true h1; subst this; exact h2
    · have:=Nat.eq_of_beq_eq_true h1; subst this; exact h2
  · match g' with
    | 0=>exact .inr ⟨1,rfl,rfl,rfl,fun b hb=>by simp only [B6,hb]⟩
    | 1=>exact .inr ⟨2,rfl,rfl,rfl,fun b hb=>by simp only [B6,hb]⟩
    | g'+2=>exact .inl ⟨rfl,rfl⟩
theorem AAd {P:Program} {a:Act} {fU l:Nat} {us:Array Value} {t:Tmp} {W:World} (e:a.eval (.tmp t)=.func (.func fU) #[] us):(Go.resolve a.eval (rangeCall (.tmp t) l) 0).run P W=.ok { target:=.fn (.func fU) us,args := #[.func (.yield l) #[] #[]] } W:=by
  have ec:a.eval (.const (.func (.yield l) #[] #[]))=.func (.yield l) #[] #[]:=rfl
  simp [rangeCall,Go.resolve,Deferred.ofValue,e,ec,Sem.run_pure]
theorem AEe {P:Program} {fU l:Nat} {u1 u2:Value} {W:World} (he:∀ args w,(callFunc fU args).run P w=.ok (.enter fU args) w):(invoke (.fn (.func fU) #[u1,u2]) #[.func (.yield l) #[] #[]]).run P W=.ok (.enter fU #[.func (.yield l) #[] #[],u1,u2]) W:=by
  show (callFunc fU (#[.func (.yield l) #[] #[]] ++ #[u1,u2])).run P _=_
  rw [he]; rfl
theorem AOf {fW:FuncId} {fnW fnU:Func} (hfW:Tryz.prog.funcs[fW]?=some fnW) (hcW:BIa Tryz.prog fnW=true) (hfU:Tryz.prog.funcs[112]?=some fnU) (hcU:AKr Tryz.prog fnU=true) (he:∀ args w,(callFunc 112 args).run Tryz.prog w=.ok (.enter 112 args) w)
    {w:den Za} {i b:Int} {W:World} {A:Nat→Prop} {vs:List Value} {r:Bool} (hA:∀ b,A b→b<W.heap.size) (hgl:Yq A W) (hr:Zs A (fun _=>none) W [.dat Za w [],.dat (.int .i64) i [],.dat (.int .i64) b []] vs)
    (hres:(i=b∧r=true)∨(¬ i=b∧((0:Int)≤i∧i<(List.length (w.2.2.2.1:List (den Zb)):Int))∧∃ xs k,k≤100∧upL w.2.2.2.1 k (List.getD (w.2.2.2.1:List (den Zb)) (Int.toNat i) (dft Zb))=some xs∧r=xs.any (fun x=>eqT Zb x (Qd b)))) :
    Go.Calls Tryz.prog fW vs.toArray W (fun e W'=>∃ vals,e=.returned (Je vals)∧Ht A W W' [.dat .bool r []] [] vals):=by
  unfold BIa at hcW
  simp only [Bool.and_eq_true] at hcW
  obtain ⟨⟨c0,cr⟩,c2⟩:=hcW
  split at c2
  case h_2=>cases c2
  rename_i i0 ops0 i1 ops1 i2 ops2 i3 ops3 b0 ps i4 ops4 b1 i5 ops5 i6 ops6 i7 ops7 hbd
  simp only [Bool.and_eq_true] at c2
  obtain ⟨⟨⟨⟨⟨⟨⟨⟨d0,d1⟩,d2⟩,d3⟩,d4⟩,d5⟩,d6⟩,d7⟩,dp⟩:=c2
  split at dp
  case h_2=>cases dp
  rename_i t14 hps
  have hps:ps = #[14]:=by rw [Nat.eq_of_beq_eq_true dp] at hps; exact Array.ext' hps
  subst hps
  have hnt:=Nat.eq_of_beq_eq_true c0
  simp only [Zs] at hr
  obtain ⟨v1,_,rfl,h1,v2,_,rfl,h2,v3,_,rfl,h3,rfl⟩:=hr
  refine (callsIn_wide (n:=0)).1 (callsIn_of_wp_marks hfW hbd trivial ?_)
  have sz:(#[v1,v2,v3] ++ Array.replicate (fnW.ntmps - (#[v1,v2,v3]:Array Value).size) undef:Array Value).size=19:=by rw [hnt,Array.size_append,Array.size_replicate]; rfl
  have t0:=H2 (xs := #[v1,v2,v3]) (k:=fnW.ntmps - (#[v1,v2,v3]:Array Value).size) (j:=0) (v:=v1) rfl
  have t1:=H2 (xs := #[v1,v2,v3]) (k:=fnW.ntmps - (#[v1,v2,v3]:Array Value).size) (j:=1) (v:=v2) rfl
  have t2:=H2 (xs := #[v1,v2,v3]) (k:=fnW.ntmps - (#[v1,v2,v3]:Array Value).size) (j:=2) (v:=v3) rfl
  show Code.wpIn Fence.wide 0 Tryz.prog _ _ { tmps := #[v1,v2,v3] ++ Array.replicate (fnW.ntmps - (#[v1,v2,v3]:Array Value).size) undef,defers:=[] } W
  generalize (#[v1,v2,v3] ++ Array.replicate (fnW.ntmps - (#[v1,v2,v3]:Array Value).size) undef:Array Value)=tm at *
  have st:St W.heap.size ⟨W,A⟩ A (fun _=>none) (fun _=>none) W (Xn []) :=
    { objs:=fun g=>rfl,apart:=(fun b g h=>by cases h),old:=hA,oldO:=(fun b g h=>by cases h),base:=(fun b g h=>by cases h),below:=RowKit.Below.refl _ W,hB:=Nat.le_refl _,imm:=fun b h=>.inl h,names:=(fun g ⟨s,h⟩=>by cases h),glob:=hgl }
  refine wpIn_seq (Gh (ro:=none) ADj d0 (BH1 w i b) st (Q7 _ (fun j v hv => ?_)) sz (fun a1 W1 A1 ρ1 own1 st1 sl1 sz1 l1 df1 tr1 => ?_))
  · simp only [List.mem_cons,Prod.mk.injEq,List.not_mem_nil,or_false] at hv
    rcases hv with ⟨rfl,rfl⟩ | ⟨rfl,rfl⟩ | ⟨rfl,rfl⟩
    · show Zl _ _ _ _ (tm.getD 0 undef); rw [t0]; exact h1
    · show Zl _ _ _ _ (tm.getD 1 undef); rw [t1]; exact h2
    · show Zl _ _ _ _ (tm.getD 2 undef); rw [t2]; exact h3
  · show (Code.seq (.seq (.region i1 ops1 false) (.cond (.tmp 10) (.seq (.region i2 ops2 false) .ret) .skip)) _).wpIn (Wr none) 0 Tryz.prog _ a1 W1
    refine wpIn_seq (wpIn_seq (Gh ADj d1 (BH2 w i b) st1 (Q7 _ (fun j v hv => ?_)) sz1 (fun a2 W2 A2 ρ2 own2 st2 sl2 sz2 l2 df2 tr2 => ?_)))
    · simp only [List.mem_cons,Prod.mk.injEq,List.not_mem_nil,or_false] at hv
      rcases hv with ⟨rfl,rfl⟩ | ⟨rfl,rfl⟩ | ⟨rfl,rfl⟩ | ⟨rfl,rfl⟩
      · exact sl1 1
      · exact sl1 3
      · exact sl1 5
      · exact sl1 6
    · have e10:=Jj (show Zl A2 ρ2 W2 (.dat .bool (decide (i=b)) []) (a2.eval (.tmp 10)) from sl2 10)
      show (Code.cond (.tmp 10) (.seq (.region i2 ops2 false) .ret) .skip).wpIn (Wr none) 0 Tryz.prog _ a2 W2
      rcases hres with ⟨hib,rfl⟩ | ⟨hib,hi,xs,k,hk,hu,rfl⟩
      · rw [decide_eq_true hib] at e10
        refine wpIn_cond_true e10 (wpIn_seq (Gh ADj d2 (BH3 w b) st2 (Q7 _ (fun j v hv => ?_)) sz2 (fun a3 W3 A3 ρ3 own3 st3 sl3 sz3 l3 df3 tr3 => ?_)))
        · simp only [List.mem_singleton,Prod.mk.injEq] at hv
          obtain ⟨rfl,rfl⟩:=hv
          exact sl2 6
        · show Code.ret.wpIn (Wr none) 0 Tryz.prog _ a3 W3
          refine wpIn_ret ?_
          show LeavesInM _ _ Tryz.prog fnW a3.tmps _ a3.defers .returning W3
          rw [df3,df2,df1]
          obtain ⟨vals,q1,q2⟩:=ret_ok (P:=Tryz.prog) (w0:=⟨W,A⟩) (rs:=[.cell 6 (.d .bool)]) (vs:=[.dat .bool true []]) (os:=[]) (ls:=[]) st3 sl3 cr (by kernel_rfl)
          exact ⟨_,q1,vals,rfl,q2⟩
      · rw [decide_eq_false hib] at e10
        refine wpIn_cond_false e10 (wpIn_skip ?_)
        show (Code.seq (.seq (.region i3 ops3 false) _) (.seq (.region i7 ops7 false) .ret)).wpIn (Wr none) 0 Tryz.prog _ a2 W2
        refine wpIn_seq (wpIn_seq (Gh ADj d3 (BH4 w i b) st2 (Q7 _ (fun j v hv => ?_)) sz2 (fun a3 W3 A3 ρ3 own3 st3 sl3 sz3 l3 df3 tr3 => ?_)))
        · simp only [List.mem_cons,Prod.mk.injEq,List.not_mem_nil,or_false] at hv
          rcases hv with ⟨rfl,rfl⟩ | ⟨rfl,rfl⟩ | ⟨rfl,rfl⟩ | ⟨rfl,rfl⟩
          · exact sl2 1
          · exact sl2 3
          · exact sl2 5
          · exact sl2 6
        · have e13:Zl A3 ρ3 W3 (.clo 112 [.ref Za w,.ref (.int .i64) i]) (a3.eval (.tmp 13)):=sl3 13
          simp only [Zl,Zs] at e13
          obtain ⟨_,e13,u1,_,rfl,r1,u2,_,rfl,r2,rfl⟩:=e13
          have r1:Zl A3 ρ3 W3 (.ref Za w) u1:=by simpa only [Zl] using r1
          have r2:Zl A3 ρ3 W3 (.ref (.int .i64) i) u2:=by simpa only [Zl] using r2
          have s5:Zl A3 ρ3 W3 (.ptr 1 []) (a3.tmps.getD 5 undef):=sl3 5
          have s6:Zl A3 ρ3 W3 (.ptr 2 []) (a3.tmps.getD 6 undef):=sl3 6
          have edf:a3.defers=[]:=df3.trans (df2.trans df1)
          have fin:∀ (r:Bool) (a5:Act) (W5:World) (A5:Nat→Prop) (ρ5:Xf) (own5:Nat→Option Nat) (w5:Y6),St W.heap.size w5 A5 ρ5 own5 W5 (Xn [.box (.int .i64) b [],.box .bool r []])→Zl A5 ρ5 W5 (.ptr 1 []) (a5.tmps.getD 6 undef)→RowKit.Below W.heap.size W W5→own5 W3.heap.size=none→W5.heap[W3.heap.size]?=some (.deferred (some [])) →
              a5.defers=[{ target:=.collected W3.heap.size,args := #[] }]→LeavesInM Fence.wide 0 Tryz.prog fnW a5.tmps (fun e W'=>∃ vals,e=.returned (Je vals)∧Ht A W W' [.dat .bool r []] [] vals) a5.defers .returning W5:=fun r a5 W5 A5 ρ5 own5 w5 st5 s6 hbel oD hD hdf=>by
            rw [hdf]
            refine ⟨by simp,.inl ⟨_,_,rfl,run_takeDeferred hD,?_⟩⟩
            have hW3:W.heap.size≤W3.heap.size:=st3.below.size
            have hbel6:RowKit.Below W.heap.size W (W5.putObj W3.heap.size (.deferred none)):=hbel.trans (Ku hW3)
            have st7:St W.heap.size ⟨W,A⟩ A ρ5 own5 (W5.putObj W3.heap.size (.deferred none)) (Xn [.box (.int .i64) b [],.box .bool r []]) :=
              st5.rebase (Jf rfl) (fun b g hb=>World.putObj_heap_other (fun e=>by subst e; rw [oD] at hb; cases hb)) (by simp) (fun b g hb hA'=>by have:=st5.base b g hb; have:=hA b hA'; omega) (fun b hb=>Nat.lt_of_lt_of_le (hA b hb) hbel6.size) hbel6 (Nat.le_refl _) (fun b hb=>.inl hb) (hgl.along hA hbel6 (fun _ h=>h))
            obtain ⟨vals,q1,q2⟩:=ret_ok (P:=Tryz.prog) (w0:=⟨W,A⟩) (a:=a5) (s:=Xu [(6,.ptr 1 [])]) (rs:=[.cell 6 (.d .bool)]) (vs:=[.dat .bool r []]) (os:=[]) (ls:=[]) st7 (Q7 _ (fun j v hv=>by
              simp only [List.mem_singleton,Prod.mk.injEq] at hv
              obtain ⟨rfl,rfl⟩:=hv
              exact Hb s6)) cr (by kernel_rfl)
            exact ⟨_,q1,vals,rfl,q2⟩
          have hW3:W.heap.size≤W3.heap.size:=st3.below.size
          show (Code.block b0 (.rangeFunc (.tmp 13) #[14] (.region i4 ops4 false) (.block b1 (.seq (.region i5 ops5 false) (.cond (.tmp 18) (.seq (.region i6 ops6 false) .ret) .skip))))).wpIn (Wr none) 0 Tryz.prog _ a3 W3
          refine wpIn_block (wpIn_rangeFunc (fun fn hfn => ?_))
          obtain ⟨assign,has⟩:∃ c,c=Code.region i4 ops4 false:=⟨_,rfl⟩
          obtain ⟨body,hbo⟩:∃ c,c=Code.block b1 (.seq (.region i5 ops5 false) (.cond (.tmp 18) (.seq (.region i6 ops6 false) .ret) .skip)):=⟨_,rfl⟩
          rw [← has,← hbo]
          have hloop:=run_enterLoop_outer (P:=Tryz.prog) (w:=W3) fn a3.tmps #[14] assign body
          have hbel2:RowKit.Below W.heap.size W3 ((W3.alloc (.deferred (some []))).alloc (.loop (Hi fn a3.tmps #[14] assign body W3.heap.size .ready none))) :=
            ((RowKit.Below.refl _ W3).alloc hW3 _).alloc (by simp; omega) _
          have hl2:((W3.alloc (.deferred (some []))).alloc (.loop (Hi fn a3.tmps #[14] assign body W3.heap.size .ready none))).heap[W3.heap.size+1]?=some (.loop (Hi fn a3.tmps #[14] assign body W3.heap.size .ready none)):=by
            have:=World.alloc_heap_new (W3.alloc (.deferred (some []))) (.loop (Hi fn a3.tmps #[14] assign body W3.heap.size .ready none))
            rwa [World.size_alloc] at this
          have hD2:((W3.alloc (.deferred (some []))).alloc (.loop (Hi fn a3.tmps #[14] assign body W3.heap.size .ready none))).heap[W3.heap.size]?=some (.deferred (some [])) :=
            (RowKit.Below.heap_alloc _ _ _ (by simp)).trans (World.alloc_heap_new W3 _)
          have hold2:∀ b,b<W3.heap.size→((W3.alloc (.deferred (some []))).alloc (.loop (Hi fn a3.tmps #[14] assign body W3.heap.size .ready none))).heap[b]?=W3.heap[b]?:=fun b hb =>
            (RowKit.Below.heap_alloc _ _ _ (by simp; omega)).trans (RowKit.Below.heap_alloc _ _ _ hb)
          have hsz2:((W3.alloc (.deferred (some []))).alloc (.loop (Hi fn a3.tmps #[14] assign body W3.heap.size .ready none))).heap.size=W3.heap.size+2:=by simp
          refine ⟨W3.heap.size+1,[{ target:=.collected W3.heap.size,args := #[] }],((W3.alloc (.deferred (some []))).alloc (.loop (Hi fn a3.tmps #[14] assign body W3.heap.size .ready none))),{ target:=.fn (.func 112) #[u1,u2],args := #[.func (.yield (W3.heap.size+1)) #[] #[]] },((W3.alloc (.deferred (some []))).alloc (.loop (Hi fn a3.tmps #[14] assign body W3.heap.size .ready none))),112,#[.func (.yield (W3.heap.size+1)) #[] #[],u1,u2],((W3.alloc (.deferred (some []))).alloc (.loop (Hi fn a3.tmps #[14] assign body W3.heap.size .ready none))),hloop,?_,fun _ _=>trivial,?_,fun h=>(by cases h),?_⟩
          · exact AAd e13
          · exact AEe he
          · show CallsIn Fence.wide _ Tryz.prog 112 #[.func (.yield (W3.heap.size+1)) #[] #[],u1,u2] ((W3.alloc (.deferred (some []))).alloc (.loop (Hi fn a3.tmps #[14] assign body W3.heap.size .ready none))) _
            generalize (W3.alloc (.deferred (some []))).alloc (.loop (Hi fn a3.tmps #[14] assign body W3.heap.size .ready none))=W4 at *
            have st4:=ARg st3
            have hlt':∀ b g,B6 own3 b=some g→b<W3.heap.size:=fun b g hb=>st4.oldO b g hb
            have none_of:∀ b,W3.heap.size≤b→B6 own3 b=none:=fun b hb=>by
              cases ho:B6 own3 b with
              | none=>rfl
              | some g=>have:=hlt' b g ho; omega
            have hB4:W.heap.size≤W4.heap.size:=by omega
            have st5:St W.heap.size ⟨W4,A3⟩ A3 (AN1 ρ3) (B6 own3) W4 (Xn [.box (.int .i64) b [],.box .bool false []]):=st4.rebase (Jf rfl) (fun b g hb=>hold2 b (hlt' b g hb)) (by omega) st4.apart (fun b hb=>Nat.lt_of_lt_of_le (st3.old b hb) (by omega)) (RowKit.Below.refl _ _) hB4 (fun b hb=>.inl hb) (st3.glob.mono (fun _ h=>h) (fun b hb=>hold2 b (st3.old b hb)))
            have hG:∀ b,A b→b<W.heap.size∧A3 b:=fun b hb=>⟨hA b hb,l3.hA b (l2.hA b (l1.hA b hb))⟩
            have hg4:Yq A W4:=hgl.along hA (st3.below.trans hbel2) (fun _ h=>h)
            let J:List (den Zb)→(Nat→Prop)→World→Prop:=fun pre fp W'=>WiJ W.heap.size W4 A3 (W3.heap.size+1) W3.heap.size fn a3.tmps assign body b false .ready none fp W'∧∀ x∈pre,eqT Zb x (Qd b)=false
            let Jx:List (den Zb)→(Nat→Prop)→World→Prop:=fun pre fp W'=>WiJ W.heap.size W4 A3 (W3.heap.size+1) W3.heap.size fn a3.tmps assign body b true .done (some .ret) fp W'∧∃ x∈pre,eqT Zb x (Qd b)=true
            have lt:∀ {r:Bool} {s:LoopState} {p:Option Code} {fp:Nat→Prop} {W':World},WiJ W.heap.size W4 A3 (W3.heap.size+1) W3.heap.size fn a3.tmps assign body b r s p fp W'→∀ b,fp b→b<W'.heap.size∧¬ A3 b:=fun ⟨ρ,own,h⟩ b hb=>by
              rcases (h.fp b).1 hb with ⟨g,hg⟩ | rfl | rfl
              · exact ⟨h.st.oldO b g hg,h.st.apart b g hg⟩
              · exact ⟨Vb h.hl,fun hA'=>by have:=st3.old _ hA'; omega⟩
              · exact ⟨Vb h.hD,fun hA'=>by have:=st3.old _ hA'; omega⟩
            have R:Fr Tryz.prog (W3.heap.size+1) W4.heap.size A3 J Jx:=by
              refine ⟨fun pre fp W' W'' h hb hf=>⟨AI0 hB4 hB4 hG hg4 h.1 hb hf,h.2⟩,fun pre fp W' W'' h hb hf=>⟨AI0 hB4 hB4 hG hg4 h.1 hb hf,h.2⟩,fun pre fp W' h=>lt h.1,fun pre fp W' h=>lt h.1,fun pre fp W' h=>(by obtain ⟨⟨ρ,own,h⟩,_⟩:=h; exact h.st.glob),fun pre fp W' h=>(by obtain ⟨⟨ρ,own,h⟩,_⟩:=h; exact h.st.glob),fun m pre fp W' x h hp => ?_⟩
              obtain ⟨f',t',as',bo',y1,y2⟩:=AOg (m:=m) (x:=x) d4 d5 d6 hB4 hG hg4 (by omega) (by omega) sz3 has hbo h.1
              refine ⟨f',t',as',bo',y1,y2.mono ?_⟩
              rintro e W'' ⟨fp',k1,k2,⟨rfl,k3,k4⟩ | ⟨rfl,k3,k4⟩⟩
              · refine ⟨fp',k1,k2,.inl ⟨rfl,k4,fun y hy => ?_⟩⟩
                rcases List.mem_append.1 hy with hy | hy
                · exact h.2 y hy
                · rw [List.mem_singleton.1 hy]; exact k3
              · exact ⟨fp',k1,k2,.inr ⟨rfl,k4,x,List.mem_append.2 (.inr (List.mem_singleton.2 rfl)),k3⟩⟩
            have ptr:∀ g g' v,(∀ ρ:Xf,AN1 ρ g'=ρ g)→Zl A3 ρ3 W3 (.ptr g []) v→Zl A3 (AN1 ρ3) W4 (.ptr g' []) v:=fun g g' v hg hv=>by
              simp only [Zl] at hv ⊢
              rw [hg]; exact hv
            have j0:J [] (fun b=>(∃ g,B6 own3 b=some g)∨b=W3.heap.size+1∨b=W3.heap.size) W4 :=
              ⟨⟨AN1 ρ3,B6 own3,st5,ptr 1 0 _ (fun _=>rfl) s5,ptr 2 1 _ (fun _=>rfl) s6,fun b=>Iff.rfl,none_of _ (by omega),none_of _ (Nat.le_refl _),hl2,hD2⟩,fun x hx=>by cases hx⟩
            have hAW:∀ b,A3 b→W4.heap[b]?=W3.heap[b]?:=fun b hb=>hold2 b (st3.old b hb)
            have nr:∀ {u:SV} {v:Value},(u=.ref Za w∨u=.ref (.int .i64) i)→Zl A3 ρ3 W3 u v→Zl A3 (fun _=>none) W4 u v:=fun {u v} hu h=>by
              rcases hu with rfl | rfl
              · simp only [Zl] at h ⊢
                obtain ⟨b',o',cs,q1,q2,q3,q4⟩:=h
                exact ⟨b',o',cs,q1,q2,Ya (hAW b' q2) q3,Zm.noRef (Zm.mono (fun _ h=>h) (fun _ _ h=>h) hAW _ q4)⟩
              · simp only [Zl] at h ⊢
                obtain ⟨b',o',cs,q1,q2,q3,q4⟩:=h
                exact ⟨b',o',cs,q1,q2,Ya (hAW b' q2) q3,Zm.noRef (Zm.mono (fun _ h=>h) (fun _ _ h=>h) hAW _ q4)⟩
            refine (AGf R hfU hcU (nr (.inl rfl) r1) (nr (.inr rfl) r2) rfl (fun b hb=>Nat.lt_of_lt_of_le (st3.old b hb) (by omega)) (st3.glob.mono (fun _ h=>h) hAW) j0 hi hu hk).mono ?_
            rintro e W5 ⟨⟨v,rfl⟩,fp5,hj | ⟨ys,hys,hj⟩⟩
            · obtain ⟨⟨ρ5,own5,hj⟩,hall⟩:=hj
              have hr:xs.any (fun x=>eqT Zb x (Qd b))=false:=by
                rw [List.any_eq_false]
                exact fun x hx=>by rw [hall x hx]; simp
              rw [hr]
              refine ⟨none,_,run_endLoop (P:=Tryz.prog) hj.hl (by simp [Hi]),?_⟩
              show (Code.seq (.region i7 ops7 false) .ret).wpIn (Wr none) 0 Tryz.prog _ { tmps:=a3.tmps,defers:=[{ target:=.collected W3.heap.size,args := #[] }] ++ a3.defers } (W5.putObj (W3.heap.size+1) (.loop { Hi fn a3.tmps #[14] assign body W3.heap.size .ready none with state:=.exhausted }))
              have hl5:=Vb hj.hl
              have hD5:=Vb hj.hD
              have hs5:W4.heap.size≤W5.heap.size:=hj.st.below.size
              have hbl:RowKit.Below W.heap.size W5 (W5.putObj (W3.heap.size+1) (.loop { Hi fn a3.tmps #[14] assign body W3.heap.size .ready none with state:=.exhausted })):=Ku (by omega)
              have hown4:∀ b,b≠W3.heap.size+1→(W5.putObj (W3.heap.size+1) (.loop { Hi fn a3.tmps #[14] assign body W3.heap.size .ready none with state:=.exhausted })).heap[b]?=W5.heap[b]?:=fun b hb=>World.putObj_heap_other hb
              have hs6:(W5.putObj (W3.heap.size+1) (.loop { Hi fn a3.tmps #[14] assign body W3.heap.size .ready none with state:=.exhausted })).heap.size=W5.heap.size:=by simp
              generalize W5.putObj (W3.heap.size+1) (.loop { Hi fn a3.tmps #[14] assign body W3.heap.size .ready none with state:=.exhausted })=W6 at *
              have st6:=hj.st.rebase_nO (w':=W6) (Jf rfl) (fun b g hb=>hown4 b (fun e=>by subst e; rw [hj.ol] at hb; cases hb)) (by omega) (by omega) (hgl.along hA (((st3.below.trans hbel2).trans hj.st.below).trans hbl) (fun b hb=>⟨Nat.lt_of_lt_of_le (hA b hb) (by omega),hj.st.none_lt (hA b hb)⟩))
              refine wpIn_seq (Gh X1 d7 (BH8 b false) st6 (Q7 _ (fun j v hv => ?_)) sz3 (fun a7 W7 A7 ρ7 own7 st7 sl7 sz7 l7 df7 tr7 => ?_))
              · simp only [List.mem_singleton,Prod.mk.injEq] at hv
                obtain ⟨rfl,rfl⟩:=hv
                exact Hb hj.s6
              · show Code.ret.wpIn (Wr none) 0 Tryz.prog _ a7 W7
                refine wpIn_ret ?_
                have oD7:own7 W3.heap.size=none:=by
                  cases ho:own7 W3.heap.size with
                  | none=>rfl
                  | some g=>exact absurd (l7.hA _ ⟨by rw [hs6]; exact hD5,hj.oD⟩) (st7.apart _ g ho)
                have hD7:W7.heap[W3.heap.size]?=some (.deferred (some [])):=(l7.hw _ ⟨by rw [hs6]; exact hD5,hj.oD⟩).trans ((hown4 _ (by omega)).trans hj.hD)
                exact fin false a7 W7 A7 ρ7 own7 _ st7 (sl7 6) ((((st3.below.trans hbel2).trans hj.st.below).trans hbl).trans st7.below) oD7 hD7 (by rw [df7,edf]; rfl)
            · obtain ⟨⟨ρ5,own5,hj⟩,x,hx,hxe⟩:=hj
              have hr:xs.any (fun x=>eqT Zb x (Qd b))=true:=List.any_eq_true.2 ⟨x,hys.subset hx,hxe⟩
              rw [hr]
              refine ⟨some .ret,_,run_endLoop (P:=Tryz.prog) hj.hl (by simp [Hi]),?_⟩
              show Code.ret.wpIn (Wr none) 0 Tryz.prog _ { tmps:=a3.tmps,defers:=[{ target:=.collected W3.heap.size,args := #[] }] ++ a3.defers } (W5.putObj (W3.heap.size+1) (.loop { Hi fn a3.tmps #[14] assign body W3.heap.size .done (some .ret) with state:=.exhausted }))
              have hs5:W4.heap.size≤W5.heap.size:=hj.st.below.size
              refine wpIn_ret (fin true _ _ A3 ρ5 own5 ⟨W5.putObj (W3.heap.size+1) (.loop { Hi fn a3.tmps #[14] assign body W3.heap.size .done (some .ret) with state:=.exhausted }),A3⟩ ?_ (Hb hj.s6) (((st3.below.trans hbel2).trans hj.st.below).trans (Ku (by omega))) hj.oD ((World.putObj_heap_other (by omega)).trans hj.hD) (by rw [edf]; rfl))
              exact hj.st.rebase (Jf rfl) (fun b g hb=>World.putObj_heap_other (fun e=>by subst e; rw [hj.ol] at hb; cases hb)) (by simp) hj.st.apart (fun b hb=>by have:=hj.st.old b hb; simpa using this) (RowKit.Below.refl _ _) (by simp; omega) (fun b hb=>.inl hb) (hj.st.glob.mono (fun _ h=>h) (fun b hb=>World.putObj_heap_other (by have:=st3.old b hb; omega)))
end Go.Proofs.YtjobjooccgledaaGreatDoor.Ghost
