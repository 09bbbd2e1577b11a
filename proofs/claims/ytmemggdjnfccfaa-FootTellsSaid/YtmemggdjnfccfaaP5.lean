/- What functions come to, and that the statements are answered with 'true'. Conditions: none. -/
import Derived.Test.YtmemggdjnfccfaaS
import Derived.Test.YtmemggdjnfccfaaGE
import Derived.Test.YtmemggdjnfccfaaP1
import Derived.Test.YtmemggdjnfccfaaP2
import Derived.Test.YtmemggdjnfccfaaP3
import Derived.Test.YtmemggdjnfccfaaP4
set_option linter.unusedVariables false
set_option linter.unusedSimpArgs false
set_option linter.unusedSectionVars false
set_option linter.unnecessarySimpa false
namespace Go.Proofs.Ytmemggdjnfccfaa.Ghost
open Go
def moved (w:den tWorld) (i:Nat) (x:Int):den tWorld:=(w.1,List.set (w.2.1:List Int) i x,w.2.2.1,w.2.2.2.1,())
def wExit (w:den tWorld) (i d:Nat):Int:=exitAt w.1 (Int.toNat (List.getD (w.2.1:List Int) i (0:Int))) d
def goR (w:den tWorld) (i d:Nat):den tWorld×Int×Int×Unit:=if 0≤wExit w i d then (moved w i (wExit w i d),wExit w i d,0,()) else (w,0,4,())
structure Stands (w:den tWorld) (i d:Nat):Prop where
  ip:i<List.length (w.2.1:List Int)
  r0:0≤List.getD (w.2.1:List Int) i (0:Int)
  r1:List.getD (w.2.1:List Int) i (0:Int)<(List.length (w.1.1:List (List Int)):Int)
  dp:d<4
section
variable {w:den tWorld}
theorem RightP.stands (h:RightP w) {i d:Nat} (hi:i<List.length (w.2.1:List Int)) (hd:d<4):Stands w i d:=⟨hi,(h.at_ i hi).1.1,(h.at_ i hi).1.2,hd⟩
theorem RightP.exit (h:RightP w) {i d:Nat} (hi:i<List.length (w.2.1:List Int)) (hd:d<4):wExit w i d = -1∨(0≤wExit w i d∧wExit w i d<(List.length (w.1.1:List (List Int)):Int)):=by
  have h1:=h.at_ i hi
  unfold wExit
  exact h.may.exits _ ((Int.toNat_lt h1.1.1).2 h1.1.2) d hd
theorem right_moved (h:RightP w) {i:Nat} (hi:i<List.length (w.2.1:List Int)) {x:Int} (hx:0≤x∧x<(List.length (w.1.1:List (List Int)):Int)):RightP (moved w i x) where
  may:=h.may
  a1:=by show List.length (List.set (w.2.1:List Int) i x)=_; rw [List.length_set]; exact h.a1
  c1:=h.c1
  w1:=h.w1
  at_ j hj:=by
    have hj':j<List.length (w.2.1:List Int):=by
      have e:List.length (List.set (w.2.1:List Int) i x)=List.length (w.2.1:List Int):=List.length_set
      rw [← e]; exact hj
    refine ⟨?_,(h.at_ j hj').2⟩
    show 0≤List.getD (List.set (w.2.1:List Int) i x) j (0:Int)∧List.getD (List.set (w.2.1:List Int) i x) j (0:Int)<_
    rw [getD_set _ _ _ _ _ hi]
    split
    · exact hx
    · exact (h.at_ j hj').1
  good:=h.good
  deep:=h.deep
theorem sm_moved (h:Sm w) (i:Nat) (x:Int):Sm (moved w i x) :=
  ⟨h.e,h.b,h.p,h.c,h.i,by show List.length (List.set (w.2.1:List Int) i x)≤_; rw [List.length_set]; exact h.a,h.wc,h.wh,h.rows⟩
theorem Ok.moved (h:Ok w) {i:Nat} (hi:i<List.length (w.2.1:List Int)) {d:Nat} (hd:d<4) (hx:0≤wExit w i d):Ok (Ghost.moved w i (wExit w i d)) :=
  ⟨sm_moved h.sm i _,right_moved h.right hi ⟨hx,by rcases h.right.exit hi hd with e | e <;> omega⟩⟩
end
theorem moved_at (w:den tWorld) (i j:Nat) (x:Int) (h:i<List.length (w.2.1:List Int)):List.getD ((moved w i x).2.1:List Int) j (0:Int)=if j=i then x else List.getD (w.2.1:List Int) j (0:Int):=by
  show List.getD (List.set (w.2.1:List Int) i x) j (0:Int)=_
  exact getD_set _ _ _ _ _ h
theorem moved_len (w:den tWorld) (i:Nat) (x:Int):List.length ((moved w i x).2.1:List Int)=List.length (w.2.1:List Int):=by
  show List.length (List.set (w.2.1:List Int) i x)=_
  exact List.length_set
end Go.Proofs.Ytmemggdjnfccfaa.Ghost
namespace Go.Proofs.Ytmemggdjnfccfaa.Ghost
open Go
def inL (l:List Pl) (p:Pl):Nat→List Int
  | 0=>[]
  | n+1=>inL l p n ++ (if List.getD l n (dft tPlace)=p then [(n:Int)] else [])
theorem inL_len (l:List Pl) (p:Pl):(n:Nat)→(inL l p n).length=manyPl l p n
  | 0=>rfl
  | n+1=>by
    simp only [inL,manyPl,List.length_append,inL_len l p n]
    split <;> rfl
end Go.Proofs.Ytmemggdjnfccfaa.Ghost
namespace Go.Proofs.Ytmemggdjnfccfaa.Ghost
open Go
def roomI (w:den tWorld) (p:Pl):Int:=capI w.1 p - (manyPl w.2.2.2.1 p (List.length (w.2.2.2.1:List (den tPlace))):Int)
theorem capI_list (d:den tDesc) (p:Pl) (hp:(0:Int)≤p.1∧(p.1:Int)<3):List.getD ([(d.2.2.2.2.2.1:Int),(d.2.2.2.2.2.2.1:Int),(d.2.2.2.2.2.2.2.1:Int)]:List Int) (Int.toNat (p.1:Int)) (0:Int)=capI d p:=by
  have key:∀ k:Int,0≤k→k<3→k=0∨k=1∨k=2:=fun k h0 h1=>by omega
  unfold capI
  rcases key p.1 hp.1 hp.2 with h | h | h <;> rw [h] <;> rfl
theorem capI_range {d:den tDesc} (h:MayP d) (p:Pl):0≤capI d p∧capI d p<65:=by
  unfold capI
  split
  · exact h.room
  · split
    · exact h.player
    · exact h.box
theorem many_pos {l:List Pl} {p:Pl}:{n:Nat}→0<manyPl l p n→∃ i,i<n∧List.getD l i (dft tPlace)=p
  | 0,h=>by simp [manyPl] at h
  | n+1,h=>by
    simp only [manyPl] at h
    by_cases he:List.getD l n (dft tPlace)=p
    · exact ⟨n,by omega,he⟩
    · rw [if_neg he] at h
      obtain ⟨i,h1,h2⟩:=many_pos (l:=l) (p:=p) (n:=n) (by omega)
      exact ⟨i,by omega,h2⟩
theorem RightP.room {w:den tWorld} (h:RightP w) (p:Pl):0≤roomI w p∧roomI w p<65:=by
  have hc:=capI_range h.may p
  unfold roomI
  by_cases h0:0<manyPl w.2.2.2.1 p (List.length (w.2.2.2.1:List (den tPlace)))
  · obtain ⟨i,hi,he⟩:=many_pos h0
    have:=(h.deep i hi).2
    rw [he] at this
    omega
  · omega
end Go.Proofs.Ytmemggdjnfccfaa.Ghost
namespace Go.Proofs.Ytmemggdjnfccfaa.Ghost
open Go
theorem refRoom_spec (w:den tWorld) (ok:Ok w) (p:Pl) (hp:(0:Int)≤p.1∧(p.1:Int)<3):Comes (fun n _ _ _=>innkeepref07_Room n w p) (fun r=>r.1.1=roomI w p):=by
  have hw:=ok.sm.wh
  refine Comes.succ (fun n _ _ _=>innkeepref07_Room.eq n w p) (Comes.call (cap_spec w p hp) (fun v hv=>Comes.call (many_spec w (by omega) p) (fun u hu=>Comes.ret ?_)))
  have hr:=ok.right.room p
  subst hv hu
  show IntKind.wrap .i64 (capI w.1 p - (manyPl w.2.2.2.1 p (List.length (w.2.2.2.1:List (den tPlace))):Int))=roomI w p
  unfold roomI at hr ⊢
  rw [wrap_id (by omega) (by omega)]
end Go.Proofs.Ytmemggdjnfccfaa.Ghost
namespace Go.Proofs.Ytmemggdjnfccfaa.Ghost
open Go
def put (w:den tWorld) (i:Nat) (p:Pl):den tWorld:=(w.1,w.2.1,w.2.2.1,List.set (w.2.2.2.1:List (den tPlace)) i p,())
theorem put_len (w:den tWorld) (i:Nat) (p:Pl):List.length ((put w i p).2.2.2.1:List (den tPlace))=List.length (w.2.2.2.1:List (den tPlace)):=by
  show List.length (List.set (w.2.2.2.1:List (den tPlace)) i p)=_
  exact List.length_set
theorem put_at (w:den tWorld) (i j:Nat) (p:Pl) (h:i<List.length (w.2.2.2.1:List (den tPlace))):List.getD ((put w i p).2.2.2.1:List (den tPlace)) j (dft tPlace)=if j=i then p else List.getD (w.2.2.2.1:List (den tPlace)) j (dft tPlace):=by
  show List.getD (List.set (w.2.2.2.1:List (den tPlace)) i p) j (dft tPlace)=_
  exact getD_set _ _ _ _ _ h
theorem sm_put {w:den tWorld} (h:Sm w) (i:Nat) (p:Pl):Sm (put w i p) :=
  ⟨h.e,h.b,h.p,h.c,h.i,h.a,h.wc,by rw [put_len]; exact h.wh,h.rows⟩
end Go.Proofs.Ytmemggdjnfccfaa.Ghost
namespace Go.Proofs.Ytmemggdjnfccfaa.Ghost
open Go
theorem manyPl_set (l:List Pl) (k:Nat) (q p:Pl) (hk:k<l.length):(n:Nat)→manyPl (l.set k q) p n+(if k<n∧List.getD l k (dft tPlace)=p then 1 else 0)=manyPl l p n+(if k<n∧q=p then 1 else 0)
  | 0=>by simp [manyPl]
  | n+1=>by
    have ih:=manyPl_set l k q p hk n
    simp only [manyPl]
    rw [getD_set l k n q (dft tPlace) hk]
    by_cases hn:n=k
    · subst hn
      simp only [Nat.lt_irrefl,false_and,if_false,if_true,Nat.lt_succ_self,true_and,Nat.add_zero] at ih ⊢
      omega
    · rw [if_neg hn]
      have e:k<n+1↔k<n:=⟨fun h=>by omega,fun h=>by omega⟩
      simp only [e]
      omega
theorem depI_set {l:List Pl} {k:Nat} {q:Pl} (hk:k<l.length) (hq:¬ q.1=(2:Int)) (hl:¬ (List.getD l k (dft tPlace)).1=(2:Int)):(f c:Nat)→(p:Pl)→depI (l.set k q) f c p=depI l f c p
  | 0,c,p=>rfl
  | f+1,c,p=>by
    simp only [depI]
    by_cases hp:p.1=(2:Int)
    · rw [if_pos hp,if_pos hp]
      by_cases h50:50<c+1
      · rw [if_pos h50,if_pos h50]
      · rw [if_neg h50,if_neg h50,getD_set l k _ q (dft tPlace) hk]
        by_cases hi:Int.toNat p.2.1=k
        · rw [if_pos hi,hi,depI_set hk hq hl]
          cases f with
          | zero=>simp only [depI]; rw [if_neg hq,if_neg hl]
          | succ f=>simp only [depI]; rw [if_neg hq,if_neg hl]
        · rw [if_neg hi]
          exact depI_set hk hq hl f (c+1) _
    · rw [if_neg hp,if_neg hp]
theorem depI_zero {l:List Pl} {q:Pl} (hq:¬ q.1=(2:Int)):depI l 51 0 q=0:=by
  simp only [depI]
  rw [if_neg hq]
theorem Ok.put {w:den tWorld} (ok:Ok w) {k:Nat} (hk:k<List.length (w.2.2.2.1:List (den tPlace))) {q:Pl} (hq:¬ q.1=(2:Int)) (hl:¬ (List.getD (w.2.2.2.1:List (den tPlace)) k (dft tPlace)).1=(2:Int)) (hg:GoodPl w.1 q) (hr:1≤roomI w q):Ok (Ghost.put w k q):=by
  have h:=ok.right
  have hset:∀ p:Pl,manyPl (List.set (w.2.2.2.1:List (den tPlace)) k q) p (List.length (w.2.2.2.1:List (den tPlace)))≤manyPl w.2.2.2.1 p (List.length (w.2.2.2.1:List (den tPlace)))+(if q=p then 1 else 0):=fun p=>by
    have:=manyPl_set w.2.2.2.1 k q p hk (List.length (w.2.2.2.1:List (den tPlace)))
    simp only [hk,true_and] at this
    omega
  refine ⟨sm_put ok.sm k q,h.may,h.a1,h.c1,by rw [put_len]; exact h.w1,h.at_,fun i hi => ?_,fun i hi => ?_⟩
  · rw [put_len] at hi
    rw [put_at w k i q hk]
    split
    · exact hg
    · exact h.good i hi
  · have hlen:=put_len w k q
    rw [hlen] at hi ⊢
    rw [put_at w k i q hk]
    show depI (List.set (w.2.2.2.1:List (den tPlace)) k q) 51 0 _≤4∧(manyPl (List.set (w.2.2.2.1:List (den tPlace)) k q) _ _:Int)≤capI w.1 _
    rw [depI_set hk hq hl]
    have many:∀ p:Pl,(manyPl (List.set (w.2.2.2.1:List (den tPlace)) k q) p (List.length (w.2.2.2.1:List (den tPlace))):Int)≤capI w.1 p:=fun p=>by
      have h1:=hset p
      by_cases hqp:q=p
      · rw [if_pos hqp] at h1
        subst hqp
        unfold roomI at hr
        omega
      · rw [if_neg hqp] at h1
        have h2:=(h.room p).1
        unfold roomI at h2
        omega
    split
    · exact ⟨by rw [depI_zero hq]; omega,many q⟩
    · exact ⟨(h.deep i hi).1,many _⟩
theorem put_put (w:den tWorld) (k:Nat) (p q:Pl) (hp:List.getD (w.2.2.2.1:List (den tPlace)) k (dft tPlace)=p):put (put w k q) k p=w:=by
  refine Prod.ext rfl (Prod.ext rfl (Prod.ext rfl (Prod.ext ?_ rfl)))
  show List.set (List.set (w.2.2.2.1:List (den tPlace)) k q) k p=w.2.2.2.1
  rw [List.set_set]
  refine ext_getD (dft tPlace) List.length_set (fun j hj => ?_)
  have hj:j<List.length (w.2.2.2.1:List (den tPlace)):=by simpa using hj
  by_cases hk:k<List.length (w.2.2.2.1:List (den tPlace))
  · rw [getD_set _ _ _ _ _ hk]
    split
    · rename_i e; rw [e]; exact hp.symm
    · rfl
  · rw [List.set_eq_of_length_le (by omega)]
def Ends (l:List Pl):Nat→Pl→Prop
  | 0,p=>¬ p.1=(2:Int)
  | k+1,p=>p.1=(2:Int)→Ends l k (List.getD l (Int.toNat p.2.1) (dft tPlace))
theorem ends_of {l:List Pl}:(f c:Nat)→(p:Pl)→depI l f c p≤4→Ends l f p
  | 0,c,p,h=>by
    simp only [depI] at h
    intro hp
    rw [if_pos hp] at h
    omega
  | f+1,c,p,h=>by
    simp only [depI] at h
    intro hp
    rw [if_pos hp] at h
    by_cases h50:50<c+1
    · rw [if_pos h50] at h; omega
    · rw [if_neg h50] at h
      exact ends_of f (c+1) _ h
def rootP (l:List Pl):Nat→Pl→Pl
  | 0,p=>p
  | k+1,p=>if p.1=(2:Int) then rootP l k (List.getD l (Int.toNat p.2.1) (dft tPlace)) else p
theorem rootP_top {l:List Pl} {p:Pl} (h:¬ p.1=(2:Int)) (k:Nat):rootP l k p=p:=by
  cases k with
  | zero=>rfl
  | succ k=>simp only [rootP]; rw [if_neg h]
theorem RightP.inPl {w:den tWorld} (h:RightP w):∀ i,i<List.length (w.2.2.2.1:List (den tPlace))→Ghost.inPl w.2.2.2.1 (List.getD w.2.2.2.1 i (dft tPlace)):=fun i hi=>(h.good i hi).inPl h.w1
theorem RightP.ends {w:den tWorld} (h:RightP w) {i:Nat} (hi:i<List.length (w.2.2.2.1:List (den tPlace))):Ends w.2.2.2.1 51 (List.getD w.2.2.2.1 i (dft tPlace)):=ends_of 51 0 _ (h.deep i hi).1
def withinP (l:List Pl):Nat→Int→Int→Prop
  | 0,j,b=>j=b
  | k+1,j,b=>j=b∨((List.getD l (Int.toNat j) (dft tPlace)).1=(2:Int)∧withinP l k (List.getD l (Int.toNat j) (dft tPlace)).2.1 b)
theorem withinP_eq {l:List Pl} {j b:Int} (h:j=b) (k:Nat):withinP l k j b:=by
  cases k with
  | zero=>exact h
  | succ k=>exact .inl h
theorem rootP_moved {l:List Pl} {b:Nat} (hb:b<l.length) {q:Pl} (hq:¬ q.1=(2:Int)):(k:Nat)→(j:Nat)→withinP l k (j:Int) (b:Int)→(∀ i,i<l.length→inPl l (List.getD l i (dft tPlace)))→j<l.length→rootP (l.set b q) k (List.getD (l.set b q) j (dft tPlace))=q
  | k,j,hw,hin,hj=>by
    rw [getD_set l b j q (dft tPlace) hb]
    by_cases hjb:j=b
    · rw [if_pos hjb]; exact rootP_top hq k
    · rw [if_neg hjb]
      cases k with
      | zero=>exact absurd (Int.ofNat.inj hw) hjb
      | succ k =>
        simp only [withinP,Int.toNat_natCast] at hw
        rcases hw with hw | ⟨h2,hw⟩
        · exact absurd (Int.ofNat.inj hw) hjb
        · have hi:=hin j hj h2
          simp only [rootP]
          rw [if_pos h2]
          rw [← Int.toNat_of_nonneg hi.1] at hw
          exact rootP_moved hb hq k _ hw hin ((Int.toNat_lt hi.1).2 hi.2)
end Go.Proofs.Ytmemggdjnfccfaa.Ghost
namespace Go.Proofs.Ytmemggdjnfccfaa.Ghost
open Go
theorem refRoot_spec (w:den tWorld) (h:RightP w):(k:Nat)→(i:Nat)→i<List.length (w.2.2.2.1:List (den tPlace))→Ends w.2.2.2.1 k (List.getD w.2.2.2.1 i (dft tPlace)) →
    Comes (fun n _ _ _=>innkeepref07_Root n w (i:Int)) (fun r=>r.1.1=rootP w.2.2.2.1 k (List.getD w.2.2.2.1 i (dft tPlace)))
  | k,i,hi,he=>by
    refine Comes.succ (fun n _ _ _=>innkeepref07_Root.eq n w i) (Comes.ite ⟨Int.natCast_nonneg i,Int.ofNat_lt.2 hi⟩ ?_)
    rw [Int.toNat_natCast]
    refine Comes.bifN (fun h2 => ?_) (fun h2=>Comes.ret ?_)
    · have h2:(List.getD w.2.2.2.1 i (dft tPlace)).1=(2:Int):=of_decide_eq_true h2
      have hin:=h.inPl i hi h2
      cases k with
      | zero=>exact absurd h2 he
      | succ k =>
        have e1:=Int.toNat_of_nonneg hin.1
        rw [← e1]
        refine Comes.call (refRoot_spec w h k _ ((Int.toNat_lt hin.1).2 hin.2) (he h2)) (fun v hv=>Comes.ret ?_)
        show v.1.1=_
        rw [hv]
        simp only [rootP]
        rw [if_pos h2]
    · have h2:¬ (List.getD w.2.2.2.1 i (dft tPlace)).1=(2:Int):=of_decide_eq_false h2
      rw [rootP_top h2]
end Go.Proofs.Ytmemggdjnfccfaa.Ghost
namespace Go.Proofs.Ytmemggdjnfccfaa.Ghost
open Go
def chain (l:List Pl):Nat→Pl→List Pl
  | 0,p=>[p]
  | k+1,p=>if p.1=(2:Int) then p :: chain l k (List.getD l (Int.toNat p.2.1) (dft tPlace)) else [p]
def depN (l:List Pl):Nat→Pl→Nat
  | 0,_=>0
  | k+1,p=>if p.1=(2:Int) then depN l k (List.getD l (Int.toNat p.2.1) (dft tPlace))+1 else 0
theorem depN_le (l:List Pl):(k:Nat)→(p:Pl)→depN l k p≤k
  | 0,_=>Nat.le_refl 0
  | k+1,p=>by
    simp only [depN]
    have:=depN_le l k (List.getD l (Int.toNat p.2.1) (dft tPlace))
    split <;> omega
theorem chain_len (l:List Pl):(k:Nat)→(p:Pl)→(chain l k p).length=depN l k p+1
  | 0,_=>rfl
  | k+1,p=>by
    simp only [chain,depN]
    split
    · simp only [List.length_cons,chain_len l k]
    · rfl
theorem chain_last (l:List Pl):(k:Nat)→(p:Pl)→List.getD (chain l k p) (depN l k p) (dft tPlace)=rootP l k p
  | 0,_=>rfl
  | k+1,p=>by
    simp only [chain,depN,rootP]
    split
    · rw [List.getD_cons_succ]; exact chain_last l k _
    · rfl
theorem upL_chain {l:List Pl} (hin:∀ i,i<l.length→inPl l (List.getD l i (dft tPlace))):(k f:Nat)→(p:Pl)→inPl l p→Ends l k p→k<f→upL l f p=some (chain l k p)
  | 0,f+1,p,hp,he,_=>by
    have he:¬ p.1=(2:Int):=he
    simp only [upL,chain]
    rw [decide_eq_false he]; rfl
  | k+1,f+1,p,hp,he,hf=>by
    simp only [upL,chain]
    by_cases h2:p.1=(2:Int)
    · have hb:=hp h2
      rw [decide_eq_true h2,cond_true,if_pos hb,if_pos h2]
      have hlt:Int.toNat p.2.1<l.length:=(Int.toNat_lt hb.1).2 hb.2
      rw [upL_chain hin k f _ (hin _ hlt) (he h2) (by omega)]
    · rw [decide_eq_false h2,cond_false,if_neg h2]
theorem collect_spec (w:den tWorld) (h:RightP w) {i:Nat} (hi:i<List.length (w.2.2.2.1:List (den tPlace))):Comes (fun n _ _ _=>slices_Collect_api_Place n w (i:Int)) (fun r=>r=((chain w.2.2.2.1 51 (List.getD w.2.2.2.1 i (dft tPlace)),()),[(0,[])])):=by
  refine Comes.succ (G:=fun _ _ _ _=>some ((chain w.2.2.2.1 51 (List.getD w.2.2.2.1 i (dft tPlace)),()),[(0,[])])) (fun n _ _ _ => ?_) (Comes.ret rfl)
  show (if (0:Int)≤(i:Int)∧((i:Int):Int)<(List.length (w.2.2.2.1:List (den tPlace)):Int) then (match upL w.2.2.2.1 60 (List.getD (w.2.2.2.1:List (den tPlace)) (Int.toNat (i:Int)) (dft tPlace)) with
      | some xs=>some ((xs,()),[(0,[])])
      | none=>none) else none)=_
  rw [if_pos ⟨Int.natCast_nonneg i,Int.ofNat_lt.2 hi⟩,Int.toNat_natCast,upL_chain h.inPl 51 60 _ (h.inPl i hi) (h.ends hi) (by omega)]
theorem up_spec (w:den tWorld) (i:Int):Comes (fun n _ _ _=>tree_up n w i) (fun r=>r=(((w,i,()),()),[])):=Comes.succ (fun n _ _ _=>tree_up.eq n w i) (Comes.ret rfl)
abbrev plOf (w:den tWorld) (i:Nat):Pl:=List.getD (w.2.2.2.1:List Pl) i (dft tPlace)
abbrev rootOf (w:den tWorld) (i:Nat):Pl:=rootP w.2.2.2.1 51 (plOf w i)
abbrev depOf (w:den tWorld) (i:Nat):Nat:=depN w.2.2.2.1 51 (plOf w i)
theorem treeRoot_spec (w:den tWorld) (h:RightP w) {i:Nat} (hi:i<List.length (w.2.2.2.1:List (den tPlace))):Comes (fun n _ _ _=>tree_Root n w (i:Int)) (fun r=>r.1.1=rootOf w i):=by
  refine Comes.succ (fun n _ _ _=>tree_Root.eq n w i) (Comes.call (up_spec w i) (fun v hv => ?_))
  subst hv
  refine Comes.call (collect_spec w h hi) (fun u hu => ?_)
  subst hu
  have hl:(chain w.2.2.2.1 51 (plOf w i)).length=depOf w i+1:=chain_len w.2.2.2.1 51 (plOf w i)
  have hd:depOf w i≤51:=depN_le w.2.2.2.1 51 (plOf w i)
  have e:IntKind.wrap .i64 ((List.length (chain w.2.2.2.1 51 (plOf w i)):Int) - 1)=(depOf w i:Int):=by rw [hl,wrap_id (by omega) (by omega)]; omega
  show Comes (fun _ _ _ _=>if (0:Int)≤IntKind.wrap .i64 ((List.length (chain w.2.2.2.1 51 (plOf w i)):Int) - 1)∧IntKind.wrap .i64 ((List.length (chain w.2.2.2.1 51 (plOf w i)):Int) - 1)<(List.length (chain w.2.2.2.1 51 (plOf w i)):Int) then some ((List.getD (chain w.2.2.2.1 51 (plOf w i)) (Int.toNat (IntKind.wrap .i64 ((List.length (chain w.2.2.2.1 51 (plOf w i)):Int) - 1))) (dft tPlace),()),[]) else none) _
  rw [e,hl]
  refine Comes.ite ⟨Int.natCast_nonneg _,by omega⟩ (Comes.ret ?_)
  rw [Int.toNat_natCast]
  exact chain_last _ _ _
end Go.Proofs.Ytmemggdjnfccfaa.Ghost
namespace Go.Proofs.Ytmemggdjnfccfaa.Ghost
open Go
abbrev Sn:=den tSeen
def undL (w:den tWorld) (p:Pl):Nat→List Sn
  | 0=>[]
  | n+1=>undL w p n ++ (if rootOf w n=p then [((n:Int),plOf w n,())] else [])
theorem undL_len (w:den tWorld) (p:Pl):(n:Nat)→(undL w p n).length≤n
  | 0=>Nat.le_refl 0
  | n+1=>by
    simp only [undL,List.length_append]
    have:=undL_len w p n
    split
    · simp only [List.length_singleton]; omega
    · simp only [List.length_nil]; omega
abbrev undOf (w:den tWorld) (p:Pl):List Sn:=undL w p (List.length (w.2.2.2.1:List (den tPlace)))
theorem refUnder_l0 (w:den tWorld) (ok:Ok w) (p:Pl) (t0:den tWorld) (t1:Pl) (t4:List Sn):(r i:Nat)→i+r=List.length (w.2.2.2.1:List (den tPlace)) →
    Comes (fun n m _ _=>innkeepref07_Under.l0 n m t0 t1 t4 (i:Int) w p (undL w p i)) (fun r=>r=((undOf w p,()),[(0,[])]))
  | 0,i,hi=>by
    refine Comes.succ1 (fun n m _ _=>innkeepref07_Under.l0_eq n m t0 t1 t4 i w p _) (Comes.bifF (decide_eq_false (by omega)) (Comes.ret ?_))
    rw [show i=List.length (w.2.2.2.1:List (den tPlace)) by omega]
  | r+1,i,hi=>by
    have hlen:=ok.sm.wh
    have hle:=undL_len w p i
    have hil:i<List.length (w.2.2.2.1:List (den tPlace)):=by omega
    have next:=refUnder_l0 w ok p t0 t1 t4 r (i+1) (by omega)
    rw [← wrap_succ (by omega)] at next
    refine Comes.succ1 (fun n m _ _=>innkeepref07_Under.l0_eq n m t0 t1 t4 i w p _) (Comes.bifT (decide_eq_true (by omega)) (Comes.call (refRoot_spec w ok.right 51 i hil (ok.right.ends hil)) (fun v hv => ?_)))
    rw [hv,Int.toNat_natCast]
    refine Comes.bif (fun h2=>Comes.ite (by omega) (Comes.ite (by omega) ?_)) (fun h2 => ?_)
    · have e:undL w p (i+1)=undL w p i ++ [((i:Int),plOf w i,())]:=by
        simp only [undL]; rw [if_pos ((eqPl _ _).1 h2)]
      rw [e] at next
      exact next
    · have e:undL w p (i+1)=undL w p i:=by
        simp only [undL]; rw [if_neg (fun he=>by rw [(eqPl _ _).2 he] at h2; cases h2),List.append_nil]
      rw [e] at next
      exact next
theorem refUnder_spec (w:den tWorld) (ok:Ok w) (p:Pl):Comes (fun n _ _ _=>innkeepref07_Under n w p) (fun r=>r=((undOf w p,()),[(0,[])])) :=
  Comes.succ (fun n _ _ _=>innkeepref07_Under.eq n w p) (refUnder_l0 w ok p w p [] _ 0 (Nat.zero_add _)).enter
end Go.Proofs.Ytmemggdjnfccfaa.Ghost
namespace Go.Proofs.Ytmemggdjnfccfaa.Ghost
open Go
theorem eqSn (x y:Sn):eqT tSeen x y=true↔x=y:=by
  obtain ⟨a,b,u⟩:=x
  obtain ⟨c,d,v⟩:=y
  cases u; cases v
  have h:=eqPl b d
  simp only [eqT,eqTL] at h ⊢
  simp only [Bool.and_eq_true,Bool.and_true,decide_eq_true_eq,Prod.mk.injEq,and_true,beq_iff_eq] at h ⊢
  rw [h]
end Go.Proofs.Ytmemggdjnfccfaa.Ghost
namespace Go.Proofs.Ytmemggdjnfccfaa.Ghost
open Go
def preL (w:den tWorld) (room:Int):Nat→List Int
  | 0=>[]
  | n+1=>preL w room n ++ (if List.getD (w.2.1:List Int) n (0:Int)=room then [(n:Int)] else [])
theorem preL_len (w:den tWorld) (room:Int):(n:Nat)→(preL w room n).length≤n
  | 0=>Nat.le_refl 0
  | n+1=>by
    simp only [preL,List.length_append]
    have:=preL_len w room n
    split
    · simp only [List.length_singleton]; omega
    · simp only [List.length_nil]; omega
abbrev preOf (w:den tWorld) (room:Int):List Int:=preL w room (List.length (w.2.1:List Int))
theorem refPresent_l0 (w:den tWorld) (hs:Sm w) (room:Int) (t0:den tWorld) (t4:List Int):(r i:Nat)→i+r=List.length (w.2.1:List Int) →
    Comes (fun n m _ _=>innkeepref12_Present.l0 n m t0 room t4 (i:Int) w (preL w room i)) (fun r=>r=((preOf w room,()),[(0,[])]))
  | 0,i,hi=>by
    refine Comes.succ1 (fun n m _ _=>innkeepref12_Present.l0_eq n m t0 room t4 i w _) (Comes.bifF (decide_eq_false (by omega)) (Comes.ret ?_))
    rw [show i=List.length (w.2.1:List Int) by omega]
  | r+1,i,hi=>by
    have hlen:=hs.a
    have hle:=preL_len w room i
    have next:=refPresent_l0 w hs room t0 t4 r (i+1) (by omega)
    rw [← wrap_succ (by omega)] at next
    refine Comes.succ1 (fun n m _ _=>innkeepref12_Present.l0_eq n m t0 room t4 i w _) (Comes.bifT (decide_eq_true (by omega)) (Comes.ite (by omega) ?_))
    rw [Int.toNat_natCast]
    refine Comes.bif (fun h2=>Comes.ite (by omega) ?_) (fun h2 => ?_)
    · have e:preL w room (i+1)=preL w room i ++ [(i:Int)]:=by
        simp only [preL]; rw [if_pos (of_decide_eq_true h2)]
      rw [e] at next
      exact next
    · have e:preL w room (i+1)=preL w room i:=by
        simp only [preL]; rw [if_neg (of_decide_eq_false h2),List.append_nil]
      rw [e] at next
      exact next
theorem refPresent_spec (w:den tWorld) (hs:Sm w) (room:Int):Comes (fun n _ _ _=>innkeepref12_Present n w room) (fun r=>r=((preOf w room,()),[(0,[])])) :=
  Comes.succ (fun n _ _ _=>innkeepref12_Present.eq n w room) (refPresent_l0 w hs room w [] _ 0 (Nat.zero_add _)).enter
abbrev atOf (w:den tWorld) (i:Nat):Int:=List.getD (w.2.1:List Int) i (0:Int)
abbrev coinOf (w:den tWorld) (i:Nat):Int:=List.getD (w.2.2.1:List Int) i (0:Int)
abbrev flPl (r:Int):Pl:=((0:Int),r,())
abbrev mePl (i:Nat):Pl:=((1:Int),(i:Int),())
def lookR (w:den tWorld) (i:Nat):den tReply:=((0:Int),(9:Int),atOf w i,preOf w (atOf w i),undOf w (flPl (atOf w i)),(0:Int),())
def ownR (w:den tWorld) (i:Nat):den tReply:=((0:Int),(10:Int),(0:Int),([]:List Int),undOf w (mePl i),coinOf w i,())
theorem refLook_spec (w:den tWorld) (ok:Ok w) {i:Nat} (hi:i<List.length (w.2.1:List Int)):Comes (fun n _ _ _=>innkeepref12_Look n w (i:Int)) (fun r=>r.1.1=lookR w i):=by
  refine Comes.succ (fun n _ _ _=>innkeepref12_Look.eq n w i) (Comes.ite (by omega) (Comes.ite (by omega) ?_))
  rw [Int.toNat_natCast]
  refine Comes.call (refPresent_spec w ok.sm _) (fun v hv => ?_)
  subst hv
  refine Comes.ite (by omega) (Comes.call (refUnder_spec w ok _) (fun u hu => ?_))
  subst hu
  exact Comes.ret rfl
theorem refOwn_spec (w:den tWorld) (ok:Ok w) {i:Nat} (hi:i<List.length (w.2.1:List Int)):Comes (fun n _ _ _=>innkeepref12_Own n w (i:Int)) (fun r=>r.1.1=ownR w i):=by
  have h1:=ok.right.a1
  have h2:=ok.right.c1
  refine Comes.succ (fun n _ _ _=>innkeepref12_Own.eq n w i) (Comes.ite (by omega) (Comes.call (refUnder_spec w ok _) (fun u hu => ?_)))
  subst hu
  rw [Int.toNat_natCast]
  exact Comes.ret rfl
theorem lookR_sm {w:den tWorld} (hs:Sm w) (i:Nat):List.length ((lookR w i).2.2.2.1:List Int)≤1048576∧List.length ((lookR w i).2.2.2.2.1:List Sn)≤1048576:=by
  have h1:=hs.a
  have h2:=hs.wh
  have h3:=preL_len w (atOf w i) (List.length (w.2.1:List Int))
  have h4:=undL_len w (flPl (atOf w i)) (List.length (w.2.2.2.1:List (den tPlace)))
  exact ⟨Nat.le_trans h3 h1,Nat.le_trans h4 h2⟩
theorem ownR_sm {w:den tWorld} (hs:Sm w) (i:Nat):List.length ((ownR w i).2.2.2.1:List Int)≤1048576∧List.length ((ownR w i).2.2.2.2.1:List Sn)≤1048576:=by
  have h2:=hs.wh
  have h4:=undL_len w (mePl i) (List.length (w.2.2.2.1:List (den tPlace)))
  exact ⟨Nat.zero_le _,Nat.le_trans h4 h2⟩
theorem RightP.exits {w:den tWorld} (h:RightP w):0<List.length (w.1.1:List (List Int)):=Int.ofNat_lt.1 (Int.lt_of_le_of_lt (h.at_ 0 h.pos).1.1 (h.at_ 0 h.pos).1.2)
end Go.Proofs.Ytmemggdjnfccfaa.Ghost
