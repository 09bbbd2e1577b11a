/- What functions come to, and that the statements are answered with 'true'. Conditions: none. -/
import Derived.Test.YtmemggdjnfccfaaS
import Derived.Test.YtmemggdjnfccfaaGE
import Derived.Test.YtmemggdjnfccfaaP1
import Derived.Test.YtmemggdjnfccfaaP2
import Derived.Test.YtmemggdjnfccfaaP3
import Derived.Test.YtmemggdjnfccfaaP4
import Derived.Test.YtmemggdjnfccfaaP5
import Derived.Test.YtmemggdjnfccfaaP6
import Derived.Test.YtmemggdjnfccfaaP7
import Derived.Test.YtmemggdjnfccfaaP8
import Derived.Test.YtmemggdjnfccfaaP9
set_option linter.unusedVariables false
set_option linter.unusedSimpArgs false
set_option linter.unusedSectionVars false
set_option linter.unnecessarySimpa false
namespace Go.Proofs.Ytmemggdjnfccfaa.Ghost
open Go
end Go.Proofs.Ytmemggdjnfccfaa.Ghost
namespace Go.Proofs.Ytmemggdjnfccfaa.Ghost
open Go
def inQ (w:den tWorld) (q:Int):Prop:=0≤q∧q<(List.length (w.2.1:List Int):Int)
theorem inQ_nat {w:den tWorld} {q:Int} (h:inQ w q):∃ n:Nat,q=(n:Int)∧n<List.length (w.2.1:List Int):=⟨q.toNat,by have:=h.1; omega,by have:=h.1; have:=h.2; omega⟩
open Classical in
noncomputable def giveErr (w:den tWorld) (p:Nat) (k q:Int):Int:=if inR w k∧inQ w q then
  (if q=(p:Int) then 12 else if atOf w q.toNat=atOf w p∧plOf w k.toNat=mePl p then (if roomI w (mePl q.toNat)<1 then 9 else 0) else 5) else 3
noncomputable def giveR (w:den tWorld) (p:Nat) (k q:Int):den tWorld×Int×Unit:=if giveErr w p k q=0 then (put w k.toNat (mePl q.toNat),0,()) else (w,giveErr w p k q,())
theorem giveErr_in {w:den tWorld} {p:Nat} {k q:Int} (h:¬ giveErr w p k q=3):inR w k∧inQ w q:=by
  by_cases hn:inR w k∧inQ w q
  · exact hn
  · exact absurd (by unfold giveErr; rw [if_neg hn]) h
theorem refGive_spec {w:den tWorld} (ok:Ok w) {p:Nat} (hp:p<List.length (w.2.1:List Int)) (k q:Int):Comes (fun nf _ _ _=>innkeepref11_Give nf (w) ((p:Int)) (k) (q)) (fun r=>r.1=giveR w p k q):=by
  refine Comes.succ (fun nf _ _ _=>innkeepref11_Give.eq nf _ _ _ _) ?_
  by_cases h1:k<0
  · have:¬ inR w k:=fun h=>by have:=h.1; omega
    simp [h1,giveR,giveErr,this]
  by_cases h2:(List.length (w.2.2.2.1:List (den tPlace)):Int)≤k
  · have:¬ inR w k:=fun h=>by have:=h.2; omega
    simp [h1,h2,giveR,giveErr,this]
  by_cases h3:q<0
  · have:¬ inQ w q:=fun h=>by have:=h.1; omega
    simp [h1,h2,h3,giveR,giveErr,this]
  by_cases h4:(List.length (w.2.1:List Int):Int)≤q
  · have:¬ inQ w q:=fun h=>by have:=h.2; omega
    simp [h1,h2,h3,h4,giveR,giveErr,this]
  have hk:inR w k:=⟨by omega,by omega⟩
  have hq:inQ w q:=⟨by omega,by omega⟩
  obtain ⟨k,rfl,hkn⟩:=inR_nat hk
  obtain ⟨q,rfl,hqn⟩:=inQ_nat hq
  have hr:=ok.right.room (mePl q)
  have s1:((p:Int)=(q:Int))=((q:Int)=(p:Int)):=propext eq_comm
  have s2:(List.getD (w.2.1:List Int) p (0:Int)=List.getD (w.2.1:List Int) q (0:Int))=(List.getD (w.2.1:List Int) q (0:Int)=List.getD (w.2.1:List Int) p (0:Int)):=propext eq_comm
  simp only [h1,h2,h3,h4,decide_false,cond_false]
  simp [-List.getD_eq_getElem?_getD,-List.length_eq_zero_iff,keepAll,freshHas,pathEq,eqPl_dec,wrap1,wrap0,nbeq,hkn,hqn,hp,hk,hq,comes_call (refRoom_spec w ok (mePl q) (kind_mePl q)),(refRoom_spec w ok (mePl q) (kind_mePl q)).prop,comes_call (refTo_spec w ok.sm hkn (mePl q)),(refTo_spec w ok.sm hkn (mePl q)).prop,giveR,giveErr,s1,s2]
  by_cases c1:(q:Int)=(p:Int) <;> by_cases c2:atOf w q=atOf w p <;> by_cases c3:plOf w k=mePl p <;> by_cases c4:roomI w (mePl q)=0 <;> simp [-List.getD_eq_getElem?_getD,-List.length_eq_zero_iff,keepAll,freshHas,pathEq,eqPl_dec,wrap1,wrap0,nbeq,c1,c2,c3,c4,show (roomI w (mePl q)<1)=(roomI w (mePl q)=0) from propext ⟨fun h=>by omega,fun h=>by omega⟩]
end Go.Proofs.Ytmemggdjnfccfaa.Ghost
namespace Go.Proofs.Ytmemggdjnfccfaa.Ghost
open Go
abbrev iAt (l:List Int) (j:Nat):Int:=List.getD l j 0
def Bad (w:den tWorld) (l:List Int):Prop:=∃ j,j<l.length∧¬ inR w (iAt l j)
def Away (w:den tWorld) (l:List Int) (p:Int):Prop:=∃ j,j<l.length∧¬ plOf w (iAt l j).toNat=((1:Int),p,())
def Dup (l:List Int):Prop:=∃ i j,i<j∧j<l.length∧iAt l i=iAt l j
theorem mapFind_put (k k':Int) (v:Bool):(m:List (Int×Bool))→mapFind (.int .i64) .bool k' (mapPut (.int .i64) .bool k v m)=if k'=k then some v else mapFind (.int .i64) .bool k' m
  | []=>by
    simp only [mapPut,mapFind,eqT]
    by_cases h:k'=k <;> simp [h]
  | (a,b) :: r=>by
    have ih:=mapFind_put k k' v r
    simp only [mapPut,mapFind,eqT]
    by_cases h1:k=a
    · subst h1
      simp only [beq_self_eq_true,if_true,mapFind,eqT]
      by_cases h:k'=k <;> simp [h]
    · have h1':(k == a)=false:=by simpa using h1
      simp only [h1',Bool.false_eq_true,if_false,mapFind,eqT,ih]
      by_cases h2:k'=a
      · subst h2
        have:¬ k'=k:=fun e=>h1 e.symm
        simp [this]
      · have h2':(k' == a)=false:=by simpa using h2
        simp [h2']
end Go.Proofs.Ytmemggdjnfccfaa.Ghost
namespace Go.Proofs.Ytmemggdjnfccfaa.Ghost
open Go
def coinP (x:Int):Prop:=0≤x∧x≤1073741824
open Classical in
noncomputable def swapErr (a b pay fee:Int):Int:=if a<pay∨b<fee then 10 else if coinP (a - pay+fee)∧coinP (b - fee+pay) then 0 else 11
noncomputable def swapR (a b pay fee:Int):Int×Int×Int×Unit:=if swapErr a b pay fee=0 then (a - pay+fee,b - fee+pay,0,()) else (a,b,swapErr a b pay fee,())
theorem refSwap_spec {a b pay fee:Int} (ha:coinP a) (hb:coinP b) (hp:coinP pay) (hf:coinP fee):Comes (fun nf _ _ _=>innkeepref01_Swap nf (a) (b) (pay) (fee)) (fun r=>r.1=swapR a b pay fee):=by
  obtain ⟨a1,a2⟩:=ha; obtain ⟨b1,b2⟩:=hb; obtain ⟨p1,p2⟩:=hp; obtain ⟨f1,f2⟩:=hf
  have e1:IntKind.wrap .i64 (a+fee)=a+fee:=wrap_id (by omega) (by omega)
  have e2:IntKind.wrap .i64 (b+pay)=b+pay:=wrap_id (by omega) (by omega)
  have e3:IntKind.wrap .i64 (a+fee - pay)=a - pay+fee:=by rw [wrap_id (by omega) (by omega)]; omega
  have e4:IntKind.wrap .i64 (b+pay - fee)=b - fee+pay:=by rw [wrap_id (by omega) (by omega)]; omega
  have is1:∀ x,Comes (fun nf _ _ _=>innkeepref01_Is nf (x)) (fun r=>r=((dec (coinP x),()),[])):=fun x=>by
    refine Comes.succ (fun nf _ _ _=>innkeepref01_Is.eq nf _) ?_
    by_cases h:0≤x <;> simp [h,coinP,decide_dec]
  refine Comes.succ (fun nf _ _ _=>innkeepref01_Swap.eq nf _ _ _ _) ?_
  simp [-List.getD_eq_getElem?_getD,-List.length_eq_zero_iff,keepAll,freshHas,pathEq,eqPl_dec,wrap1,wrap0,nbeq,show ¬ pay<0 by omega,show ¬ fee<0 by omega,e1,e2,e3,e4,comes_call (is1 _),(is1 _).prop,swapR,swapErr]
  by_cases c1:a<pay <;> by_cases c2:b<fee <;> by_cases c3:coinP (a - pay+fee) <;> by_cases c4:coinP (b - fee+pay) <;> simp [c1,c2,c3,c4]
theorem swapR_err (a b pay fee:Int):(swapR a b pay fee).2.2.1=swapErr a b pay fee:=by
  unfold swapR
  split
  · rename_i h; exact h.symm
  · rfl
def setAll (l:List Pl) (xs:List Int) (p:Pl):Nat→List Pl
  | 0=>l
  | i+1=>List.set (setAll l xs p i) (iAt xs i).toNat p
theorem setAll_len (l:List Pl) (xs:List Int) (p:Pl):(i:Nat)→(setAll l xs p i).length=l.length
  | 0=>rfl
  | i+1=>by simp only [setAll,List.length_set,setAll_len l xs p i]
abbrev meI (q:Int):Pl:=((1:Int),q,())
def trades (w:den tWorld) (p:Nat) (q:Int) (gs ws:List Int):List Pl:=setAll (setAll w.2.2.2.1 gs (meI q) gs.length) ws (mePl p) ws.length
def tradeW (w:den tWorld) (p:Nat) (q:Int) (gs ws:List Int) (a b:Int):den tWorld:=(w.1,w.2.1,List.set (List.set (w.2.2.1:List Int) p a) q.toNat b,trades w p q gs ws,())
open Classical in
noncomputable def tradeErr (w:den tWorld) (p:Nat) (q:Int) (gs:List Int) (pay:Int) (ws:List Int) (fee:Int):Int :=
  if ¬ inQ w q then 3 else if Bad w (gs ++ ws) then 3 else if q=(p:Int) then 12 else if ¬ atOf w q.toNat=atOf w p then 5 else if Dup (gs ++ ws) then 13 else if Away w gs p then 5 else if Away w ws q then 5
  else if roomI w (mePl p)<(ws.length:Int) - (gs.length:Int) then 9 else if roomI w (meI q)<(gs.length:Int) - (ws.length:Int) then 9 else swapErr (coinOf w p) (coinOf w q.toNat) pay fee
noncomputable def tradeR (w:den tWorld) (p:Nat) (q:Int) (gs:List Int) (pay:Int) (ws:List Int) (fee:Int):den tWorld×Int×Unit :=
  if tradeErr w p q gs pay ws fee=0 then (tradeW w p q gs ws (coinOf w p - pay+fee) (coinOf w q.toNat - fee+pay),0,()) else (w,tradeErr w p q gs pay ws fee,())
theorem bad_not {w:den tWorld} {l:List Int} (h:¬ Bad w l):∀ j,j<l.length→inR w (iAt l j):=fun j hj=>Classical.byContradiction (fun hn=>h ⟨j,hj,hn⟩)
theorem iAt_left {a b:List Int} {j:Nat} (h:j<a.length):iAt (a ++ b) j=iAt a j:=by
  unfold iAt; rw [List.getD_eq_getElem?_getD,List.getD_eq_getElem?_getD,List.getElem?_append_left h]
theorem iAt_right {a b:List Int} (j:Nat):iAt (a ++ b) (a.length+j)=iAt b j:=by
  unfold iAt; rw [List.getD_eq_getElem?_getD,List.getD_eq_getElem?_getD,List.getElem?_append_right (by omega),Nat.add_sub_cancel_left]
theorem bad_app {w:den tWorld} {a b:List Int} (h:¬ Bad w (a ++ b)):¬ Bad w a∧¬ Bad w b :=
  ⟨fun ⟨j,h1,h2⟩=>h ⟨j,by rw [List.length_append]; omega,by rw [iAt_left h1]; exact h2⟩,fun ⟨j,h1,h2⟩=>h ⟨a.length+j,by rw [List.length_append]; omega,by rw [iAt_right]; exact h2⟩⟩
theorem coin_fit {w:den tWorld} (h:RightP w) {i:Nat} (hi:i<List.length (w.2.1:List Int)):coinP (coinOf w i):=(h.at_ i hi).2
end Go.Proofs.Ytmemggdjnfccfaa.Ghost
namespace Go.Proofs.Ytmemggdjnfccfaa.Ghost
open Go
def mixAll (l:List Pl) (gs ws:List Int) (p q:Pl) (i:Nat):List Pl:=setAll (setAll l gs q (min i gs.length)) ws p (i - gs.length)
theorem mixAll_len (l:List Pl) (gs ws:List Int) (p q:Pl) (i:Nat):(mixAll l gs ws p q i).length=l.length:=by unfold mixAll; rw [setAll_len,setAll_len]
theorem mixAll_left {l:List Pl} {gs ws:List Int} {p q:Pl} {i:Nat} (h:i<gs.length):mixAll l gs ws p q (i+1)=List.set (mixAll l gs ws p q i) (iAt (gs ++ ws) i).toNat q:=by
  unfold mixAll
  rw [show i+1 - gs.length=0 by omega,show i - gs.length=0 by omega,show min (i+1) gs.length=i+1 by omega,show min i gs.length=i by omega,iAt_left h]
  rfl
theorem mixAll_right {l:List Pl} {gs ws:List Int} {p q:Pl} {i:Nat} (h:¬ i<gs.length):mixAll l gs ws p q (i+1)=List.set (mixAll l gs ws p q i) (iAt (gs ++ ws) i).toNat p:=by
  obtain ⟨j,rfl⟩:∃ j,i=gs.length+j:=⟨i - gs.length,by omega⟩
  unfold mixAll
  rw [show gs.length+j+1 - gs.length=j+1 by omega,show gs.length+j - gs.length=j by omega,show min (gs.length+j+1) gs.length=gs.length by omega,show min (gs.length+j) gs.length=gs.length by omega,iAt_right]
  rfl
def AwayAll (w:den tWorld) (gs ws:List Int) (p q:Int) (i:Nat):Prop:=∃ j,i≤j∧j<(gs ++ ws).length∧¬ plOf w (iAt (gs ++ ws) j).toNat=((1:Int),(if j<gs.length then p else q),())
theorem awayAll_iff (w:den tWorld) (gs ws:List Int) (p q:Int):AwayAll w gs ws p q 0↔Away w gs p∨Away w ws q:=by
  constructor
  · rintro ⟨j,_,h1,h2⟩
    by_cases h:j<gs.length
    · rw [if_pos h,iAt_left h] at h2
      exact .inl ⟨j,h,h2⟩
    · obtain ⟨k,rfl⟩:∃ k,j=gs.length+k:=⟨j - gs.length,by omega⟩
      rw [if_neg h,iAt_right] at h2
      rw [List.length_append] at h1
      exact .inr ⟨k,by omega,h2⟩
  · rintro (⟨j,h1,h2⟩ | ⟨k,h1,h2⟩)
    · exact ⟨j,Nat.zero_le _,by rw [List.length_append]; omega,by rw [if_pos h1,iAt_left h1]; exact h2⟩
    · exact ⟨gs.length+k,Nat.zero_le _,by rw [List.length_append]; omega,by rw [if_neg (by omega),iAt_right]; exact h2⟩
section
variable {w:den tWorld} (ok:Ok w) {p q:Nat} (hp:p<List.length (w.2.1:List Int)) (hq:q<List.length (w.2.1:List Int)) (c:Cm) (hg:(cGives c).length≤100) (hw:(cWants c).length≤100) (hpay:coinP (cPay c)) (hfee:coinP (cFee c)) (hbad:¬ Bad w (cGives c ++ cWants c))
include ok hp hq hg hw hpay hfee hbad
abbrev tradeW' (w:den tWorld) (p q:Nat) (c:Cm):den tWorld:=tradeW w p q (cGives c) (cWants c) (coinOf w p - cPay c+cFee c) (coinOf w q - cFee c+cPay c)
open Classical in
noncomputable def lastR (w:den tWorld) (p q:Nat) (c:Cm) (rp rq:Int):den tWorld×Int×Unit :=
  if rp<0 then (w,9,()) else if rq<0 then (w,9,()) else if swapErr (coinOf w p) (coinOf w q) (cPay c) (cFee c)=0 then (tradeW' w p q c,0,()) else (w,swapErr (coinOf w p) (coinOf w q) (cPay c) (cFee c),())
theorem rtrade_l3 (rp rq:Int) (hrp:∀ x:den tWorld,x=(w.1,w.2.1,w.2.2.1,trades w p q (cGives c) (cWants c),())→Comes (fun nf _ _ _=>innkeepref07_Room nf (x) (mePl p)) (fun r=>r.1.1=rp)) (hrq:∀ x:den tWorld,x=(w.1,w.2.1,w.2.2.1,trades w p q (cGives c) (cWants c),())→Comes (fun nf _ _ _=>innkeepref07_Room nf (x) (mePl q)) (fun r=>r.1.1=rq)) (t0:(den tWorld)) (t2:(den tCmd)) (t7:Int) (t10:Int) (t11:Int) (o2:(den tWorld)) :
    ∀ i,i≤(cGives c ++ cWants c).length→Comes (fun nf fm0 _ _=>innkeepref11_Trade.l3 nf fm0 t0 ((p:Int)) t2 t7 ((q:Int)) t10 t11 ((i:Int)) (w) (c) o2 (cGives c ++ cWants c) ((w.1,w.2.1,([]:List Int),([]:List (den tPlace)),())) (mixAll w.2.2.2.1 (cGives c) (cWants c) (mePl p) (mePl q) i) (w.2.2.1)) (fun r=>(AwayAll w (cGives c) (cWants c) p q i→r.1=(w,5,()))∧(¬ AwayAll w (cGives c) (cWants c) p q i→r.1=lastR w p q c rp rq)):=by
  have hlen:(cGives c ++ cWants c).length≤1048576:=by rw [List.length_append]; omega
  have hc1:=ok.right.c1
  have ha1:=ok.right.a1
  have hpc:p<List.length (w.2.2.1:List Int):=by omega
  have hqc:q<List.length (w.2.2.1:List Int):=by omega
  refine upto ?_ (fun i hi next => ?_)
  · have hn:¬ AwayAll w (cGives c) (cWants c) p q (cGives c ++ cWants c).length:=fun ⟨j,h1,h2,_⟩=>by omega
    have hm:mixAll w.2.2.2.1 (cGives c) (cWants c) (mePl p) (mePl q) (cGives c ++ cWants c).length=trades w p q (cGives c) (cWants c):=by
      unfold mixAll trades
      rw [List.length_append,show min ((cGives c).length+(cWants c).length) (cGives c).length=(cGives c).length by omega,Nat.add_sub_cancel_left]
    refine Comes.succ1 (fun nf fm0 _ _=>innkeepref11_Trade.l3_eq nf fm0 _ _ _ _ _ _ _ _ _ _ _ _ _ _ _) ?_
    simp [-List.length_append,-List.getD_eq_getElem?_getD,-List.length_eq_zero_iff,keepAll,freshHas,pathEq,eqPl_dec,wrap1,wrap0,nbeq,hm,comes_call (hrp _ rfl),(hrp _ rfl).prop,comes_call (hrq _ rfl),(hrq _ rfl).prop,comes_call (refSwap_spec (coin_fit ok.right hp) (coin_fit ok.right hq) hpay hfee),(refSwap_spec (coin_fit ok.right hp) (coin_fit ok.right hq) hpay hfee).prop,hn,swapR_err,hpc,hqc]
    by_cases c1:rp<0 <;> by_cases c2:rq<0 <;> by_cases c3:swapErr (coinOf w p) (coinOf w q) (cPay c) (cFee c)=0 <;> simp [-List.getD_eq_getElem?_getD,-List.length_eq_zero_iff,keepAll,freshHas,pathEq,eqPl_dec,wrap1,wrap0,nbeq,c1,c2,c3,lastR,swapR,tradeW',tradeW]
    all_goals (try (intros; omega))
  · have hin:=bad_not hbad i hi
    obtain ⟨k,ek,hk⟩:=inR_nat hin
    have hml:=mixAll_len w.2.2.2.1 (cGives c) (cWants c) (mePl p) (mePl q) i
    have hmk:k<(mixAll w.2.2.2.1 (cGives c) (cWants c) (mePl p) (mePl q) i).length:=by rw [hml]; exact hk
    rw [← wrap_succ (by omega)] at next
    refine Comes.succ1 (fun nf fm0 _ _=>innkeepref11_Trade.l3_eq nf fm0 _ _ _ _ _ _ _ _ _ _ _ _ _ _ _) ?_
    by_cases hl:i<(cGives c).length
    · rw [mixAll_left hl,ek,Int.toNat_natCast] at next
      by_cases hpl:plOf w k=mePl p
      · have next:=next.mono (Q':=fun r=>(AwayAll w (cGives c) (cWants c) p q i→r.1=(w,5,()))∧(¬ AwayAll w (cGives c) (cWants c) p q i→r.1=lastR w p q c rp rq)) (fun v hv=>by
          have e:AwayAll w (cGives c) (cWants c) p q i↔AwayAll w (cGives c) (cWants c) p q (i+1):=⟨fun ⟨j,a,b,d⟩=>⟨j,by
            by_cases e2:j=i
            · subst e2; rw [if_pos hl,ek,Int.toNat_natCast] at d; exact absurd hpl d
            · omega,b,d⟩,fun ⟨j,a,b,d⟩=>⟨j,by omega,b,d⟩⟩
          rw [e]; exact hv)
        simp [-List.length_append,-List.getD_eq_getElem?_getD,-List.length_eq_zero_iff,keepAll,freshHas,pathEq,eqPl_dec,wrap1,wrap0,nbeq,hi,ek,hk,hmk,hpl,show ¬ (cGives c).length≤i by omega]
        exact next
      · have h5:AwayAll w (cGives c) (cWants c) p q i:=⟨i,Nat.le_refl i,hi,by rw [if_pos hl,ek,Int.toNat_natCast]; exact hpl⟩
        simp [-List.length_append,-List.getD_eq_getElem?_getD,-List.length_eq_zero_iff,keepAll,freshHas,pathEq,eqPl_dec,wrap1,wrap0,nbeq,hi,ek,hk,hmk,hpl,show ¬ (cGives c).length≤i by omega,h5]
    · rw [mixAll_right hl,ek,Int.toNat_natCast] at next
      by_cases hpl:plOf w k=mePl q
      · have next:=next.mono (Q':=fun r=>(AwayAll w (cGives c) (cWants c) p q i→r.1=(w,5,()))∧(¬ AwayAll w (cGives c) (cWants c) p q i→r.1=lastR w p q c rp rq)) (fun v hv=>by
          have e:AwayAll w (cGives c) (cWants c) p q i↔AwayAll w (cGives c) (cWants c) p q (i+1):=⟨fun ⟨j,a,b,d⟩=>⟨j,by
            by_cases e2:j=i
            · subst e2; rw [if_neg hl,ek,Int.toNat_natCast] at d; exact absurd hpl d
            · omega,b,d⟩,fun ⟨j,a,b,d⟩=>⟨j,by omega,b,d⟩⟩
          rw [e]; exact hv)
        simp [-List.length_append,-List.getD_eq_getElem?_getD,-List.length_eq_zero_iff,keepAll,freshHas,pathEq,eqPl_dec,wrap1,wrap0,nbeq,hi,ek,hk,hmk,hpl,show (cGives c).length≤i by omega]
        exact next
      · have h5:AwayAll w (cGives c) (cWants c) p q i:=⟨i,Nat.le_refl i,hi,by rw [if_neg hl,ek,Int.toNat_natCast]; exact hpl⟩
        simp [-List.length_append,-List.getD_eq_getElem?_getD,-List.length_eq_zero_iff,keepAll,freshHas,pathEq,eqPl_dec,wrap1,wrap0,nbeq,hi,ek,hk,hmk,hpl,show (cGives c).length≤i by omega,h5]
end
end Go.Proofs.Ytmemggdjnfccfaa.Ghost
namespace Go.Proofs.Ytmemggdjnfccfaa.Ghost
open Go
open Classical in
theorem setAll_get {l:List Pl} {xs:List Int} {p:Pl}:{n:Nat}→(∀ j,j<n→0≤iAt xs j∧iAt xs j<(l.length:Int))→(k:Nat)→List.getD (setAll l xs p n) k (dft tPlace)=if ∃ i,i<n∧iAt xs i=(k:Int) then p else List.getD l k (dft tPlace)
  | 0,_,k=>by rw [if_neg (fun ⟨i,h,_⟩=>by omega)]; rfl
  | n+1,hin,k=>by
    have ih:=setAll_get (l:=l) (xs:=xs) (p:=p) (n:=n) (fun j hj=>hin j (by omega)) k
    have h:=hin n (by omega)
    simp only [setAll]
    rw [getD_set _ _ _ _ _ (by rw [setAll_len]; omega)]
    by_cases e:k=(iAt xs n).toNat
    · rw [if_pos e,if_pos ⟨n,by omega,by omega⟩]
    · rw [if_neg e,ih]
      by_cases h2:∃ i,i<n∧iAt xs i=(k:Int)
      · obtain ⟨i,a,b⟩:=h2
        rw [if_pos ⟨i,a,b⟩,if_pos ⟨i,by omega,b⟩]
      · rw [if_neg h2,if_neg (fun ⟨i,a,b⟩=>h2 ⟨i,by
          by_cases e2:i=n
          · subst e2; omega
          · omega,b⟩)]
structure Lot (l:List Pl) (xs:List Int) (src:Pl):Prop where
  inn:∀ j,j<xs.length→0≤iAt xs j∧iAt xs j<(l.length:Int)
  at_:∀ j,j<xs.length→List.getD l (iAt xs j).toNat (dft tPlace)=src
  one:∀ i j,i<j→j<xs.length→¬ iAt xs i=iAt xs j
theorem Lot.get {l:List Pl} {xs:List Int} {src p:Pl} (h:Lot l xs src) {n:Nat} (hn:n<xs.length):List.getD (setAll l xs p n) (iAt xs n).toNat (dft tPlace)=src:=by
  have hi:=h.inn n hn
  rw [setAll_get (fun j hj=>h.inn j (by omega)),if_neg (fun ⟨i,a,b⟩=>h.one i n a hn (by omega))]
  exact h.at_ n hn
theorem Lot.many {l:List Pl} {xs:List Int} {src p:Pl} (h:Lot l xs src) (t:Pl):{n:Nat}→n≤xs.length→manyPl (setAll l xs p n) t l.length+(if src=t then n else 0)=manyPl l t l.length+(if p=t then n else 0)
  | 0,_=>by simp [setAll]
  | n+1,hn=>by
    have ih:=Lot.many h (p:=p) t (n:=n) (by omega)
    have hi:=h.inn n (by omega)
    have hk:(iAt xs n).toNat<(setAll l xs p n).length:=by rw [setAll_len]; omega
    have:=manyPl_set (setAll l xs p n) (iAt xs n).toNat p t hk l.length
    rw [h.get (by omega)] at this
    have hk':(iAt xs n).toNat<l.length:=by omega
    simp only [hk',true_and] at this
    simp only [setAll]
    by_cases c1:src=t <;> by_cases c2:p=t <;> simp only [c1,c2,if_true,if_false] at this ih ⊢ <;> omega
theorem refRoom_any (x:den tWorld) (hl:List.length (x.2.2.2.1:List (den tPlace))≤1048576) (hm:MayP x.1) (p:Pl) (hp:(0:Int)≤p.1∧(p.1:Int)<3):Comes (fun nf _ _ _=>innkeepref07_Room nf (x) (p)) (fun r=>r.1.1=roomI x p):=by
  have hc:=capI_range hm p
  have hle:=manyPl_le x.2.2.2.1 p (List.length (x.2.2.2.1:List (den tPlace)))
  refine Comes.succ (fun nf _ _ _=>innkeepref07_Room.eq nf _ _) ?_
  simp [-List.getD_eq_getElem?_getD,-List.length_eq_zero_iff,keepAll,freshHas,pathEq,eqPl_dec,wrap1,wrap0,nbeq,comes_call (cap_spec x p hp),(cap_spec x p hp).prop,comes_call (many_spec x (by omega) p),(many_spec x (by omega) p).prop]
  unfold roomI
  rw [wrap_id (by omega) (by omega)]
structure Lots (w:den tWorld) (p q:Nat) (gs ws:List Int):Prop where
  pq:¬ p=q
  lg:Lot w.2.2.2.1 gs (mePl p)
  lw:Lot (setAll w.2.2.2.1 gs (mePl q) gs.length) ws (mePl q)
  lw0:Lot w.2.2.2.1 ws (mePl q)
  gw:∀ i j,i<gs.length→j<ws.length→¬ iAt gs i=iAt ws j
theorem me_inj {p q:Nat} (h:mePl p=mePl q):p=q:=Int.ofNat.inj (congrArg (fun x:Pl=>(x.2.1:Int)) h)
theorem lots_of {w:den tWorld} {p q:Nat} {gs ws:List Int} (hpq:¬ p=q) (hb:¬ Bad w (gs ++ ws)) (hd:¬ Dup (gs ++ ws)) (hg:¬ Away w gs p) (hw:¬ Away w ws q):Lots w p q gs ws:=by
  obtain ⟨bg,bw⟩:=bad_app hb
  have hgw:∀ i j,i<gs.length→j<ws.length→¬ iAt gs i=iAt ws j:=fun i j hi hj e=>hd ⟨i,gs.length+j,by omega,by rw [List.length_append]; omega,by rw [iAt_left hi,iAt_right]; exact e⟩
  have ag:∀ j,j<gs.length→List.getD (w.2.2.2.1:List Pl) (iAt gs j).toNat (dft tPlace)=mePl p:=fun j hj=>Classical.byContradiction (fun h=>hg ⟨j,hj,h⟩)
  have aw:∀ j,j<ws.length→List.getD (w.2.2.2.1:List Pl) (iAt ws j).toNat (dft tPlace)=mePl q:=fun j hj=>Classical.byContradiction (fun h=>hw ⟨j,hj,h⟩)
  have ng:∀ i j,i<j→j<gs.length→¬ iAt gs i=iAt gs j:=fun i j hi hj e=>hd ⟨i,j,hi,by rw [List.length_append]; omega,by rw [iAt_left (by omega),iAt_left hj]; exact e⟩
  have nw:∀ i j,i<j→j<ws.length→¬ iAt ws i=iAt ws j:=fun i j hi hj e=>hd ⟨gs.length+i,gs.length+j,by omega,by rw [List.length_append]; omega,by rw [iAt_right,iAt_right]; exact e⟩
  refine ⟨hpq,⟨bad_not bg,ag,ng⟩,⟨fun j hj=>by rw [setAll_len]; exact bad_not bw j hj,fun j hj => ?_,nw⟩,⟨bad_not bw,aw,nw⟩,hgw⟩
  have hj':=bad_not bw j hj
  rw [setAll_get (bad_not bg)]
  split
  · rfl
  · exact aw j hj
theorem Lots.room {w:den tWorld} {p q:Nat} {gs ws:List Int} (h:Lots w p q gs ws) (x:den tWorld) (hx1:x.1=w.1) (hx:x.2.2.2.1=trades w p q gs ws) (t:Pl):roomI x t=roomI w t+(if mePl p=t then (gs.length:Int) - (ws.length:Int) else 0)+(if mePl q=t then (ws.length:Int) - (gs.length:Int) else 0):=by
  have h1:manyPl (setAll w.2.2.2.1 gs (mePl q) gs.length) t (List.length (w.2.2.2.1:List (den tPlace)))+(if mePl p=t then gs.length else 0)=manyPl w.2.2.2.1 t (List.length (w.2.2.2.1:List (den tPlace)))+(if mePl q=t then gs.length else 0):=h.lg.many (p:=mePl q) t (Nat.le_refl _)
  have h2:=h.lw.many (p:=mePl p) t (Nat.le_refl _)
  rw [setAll_len] at h2
  have h2:manyPl (trades w p q gs ws) t (List.length (w.2.2.2.1:List (den tPlace)))+(if mePl q=t then ws.length else 0)=manyPl (setAll w.2.2.2.1 gs (mePl q) gs.length) t (List.length (w.2.2.2.1:List (den tPlace)))+(if mePl p=t then ws.length else 0):=h2
  have hl:List.length (x.2.2.2.1:List (den tPlace))=List.length (w.2.2.2.1:List (den tPlace)):=by rw [hx]; unfold trades; rw [setAll_len,setAll_len]
  unfold roomI
  rw [hl,hx1,hx]
  by_cases c1:mePl p=t
  · have c2:¬ mePl q=t:=fun e=>h.pq (me_inj (c1.trans e.symm))
    rw [if_pos c1,if_neg c2] at h1 h2 ⊢
    omega
  · by_cases c2:mePl q=t
    · rw [if_neg c1,if_pos c2] at h1 h2 ⊢
      omega
    · rw [if_neg c1,if_neg c2] at h1 h2 ⊢
      omega
def DupFrom (l:List Int) (i:Nat):Prop:=∃ a b,a<b∧i≤b∧b<l.length∧iAt l a=iAt l b
theorem dupFrom_zero {l:List Int}:DupFrom l 0↔Dup l:=⟨fun ⟨a,b,h1,_,h2,h3⟩=>⟨a,b,h1,h2,h3⟩,fun ⟨a,b,h1,h2,h3⟩=>⟨a,b,h1,Nat.zero_le _,h2,h3⟩⟩
def DupAt (l:List Int) (i k:Nat):Prop:=∃ a,k≤a∧a<i∧iAt l a=iAt l i
section
variable {w:den tWorld} (ok:Ok w) {p q:Nat} (hp:p<List.length (w.2.1:List Int)) (hq:q<List.length (w.2.1:List Int)) (c:Cm) (hg:(cGives c).length≤100) (hw:(cWants c).length≤100) (hpay:coinP (cPay c)) (hfee:coinP (cFee c)) (hbad:¬ Bad w (cGives c ++ cWants c))
include ok hp hq hg hw hpay hfee hbad
open Classical in
noncomputable def l1R (w:den tWorld) (p q:Nat) (c:Cm) (i:Nat):den tWorld×Int×Unit :=
  if DupFrom (cGives c ++ cWants c) i then (w,13,()) else if Away w (cGives c) p then (w,5,()) else if Away w (cWants c) q then (w,5,())
    else lastR w p q c (roomI (w.1,w.2.1,w.2.2.1,trades w p q (cGives c) (cWants c),()) (mePl p)) (roomI (w.1,w.2.1,w.2.2.1,trades w p q (cGives c) (cWants c),()) (mePl q))
theorem rtrade_l2 (i:Nat) (hi:i<(cGives c ++ cWants c).length) (t0:(den tWorld)) (t2:(den tCmd)) (t7:Int) (t10:Int) (o2:(den tWorld)) (nx:Comes (fun nf fm0 _ _=>innkeepref11_Trade.l1 nf fm0 t0 ((p:Int)) t2 t7 ((q:Int)) t10 (((i+1:Nat):Int)) (w) (c) o2 (cGives c ++ cWants c)) (fun r=>r.1=l1R w p q c (i+1))) :
    ∀ k,k≤i→Comes (fun nf fm0 fm1 _=>innkeepref11_Trade.l2 nf fm0 fm1 t0 ((p:Int)) t2 t7 ((q:Int)) t10 ((i:Int)) ((k:Int)) (w) (c) o2 (cGives c ++ cWants c)) (fun r=>(DupAt (cGives c ++ cWants c) i (k)→r.1=(w,13,()))∧(¬ DupAt (cGives c ++ cWants c) i (k)→r.1=l1R w p q c (i+1))):=by
  have hlen:(cGives c ++ cWants c).length≤1048576:=by rw [List.length_append]; omega
  rw [← wrap_succ (by omega)] at nx
  refine upto ?_ (fun k hk next => ?_)
  · have nx:=nx.mono (Q':=fun r=>(DupAt (cGives c ++ cWants c) i (i)→r.1=(w,13,()))∧(¬ DupAt (cGives c ++ cWants c) i (i)→r.1=l1R w p q c (i+1))) (fun v hv=>⟨fun ⟨a,h1,h2,_⟩=>by omega,fun _=>hv⟩)
    refine Comes.succ2 (fun nf fm0 fm1 _=>innkeepref11_Trade.l2_eq nf fm0 fm1 _ _ _ _ _ _ _ _ _ _ _ _) ?_
    simp [-List.length_append,-List.getD_eq_getElem?_getD,-List.length_eq_zero_iff,keepAll,freshHas,pathEq,eqPl_dec,wrap1,wrap0,nbeq]
    exact nx
  · rw [← wrap_succ (by omega)] at next
    have hki:k<(cGives c ++ cWants c).length:=by omega
    refine Comes.succ2 (fun nf fm0 fm1 _=>innkeepref11_Trade.l2_eq nf fm0 fm1 _ _ _ _ _ _ _ _ _ _ _ _) ?_
    by_cases e:iAt (cGives c ++ cWants c) i=iAt (cGives c ++ cWants c) k
    · have h5:DupAt (cGives c ++ cWants c) i (k):=⟨k,Nat.le_refl k,hk,e.symm⟩
      simp only [iAt] at e
      simp [-List.length_append,-List.getD_eq_getElem?_getD,-List.length_eq_zero_iff,keepAll,freshHas,pathEq,eqPl_dec,wrap1,wrap0,nbeq,hk,hi,hki,e,h5]
    · have next:=next.mono (Q':=fun r=>(DupAt (cGives c ++ cWants c) i (k)→r.1=(w,13,()))∧(¬ DupAt (cGives c ++ cWants c) i (k)→r.1=l1R w p q c (i+1))) (fun v hv=>by
        have e2:DupAt (cGives c ++ cWants c) i (k)↔DupAt (cGives c ++ cWants c) i (k+1):=⟨fun ⟨a,h1,h2,h3⟩=>⟨a,by
          by_cases e3:a=k
          · subst e3; exact absurd h3.symm e
          · omega,h2,h3⟩,fun ⟨a,h1,h2,h3⟩=>⟨a,by omega,h2,h3⟩⟩
        rw [e2]; exact hv)
      simp only [iAt] at e
      simp [-List.length_append,-List.getD_eq_getElem?_getD,-List.length_eq_zero_iff,keepAll,freshHas,pathEq,eqPl_dec,wrap1,wrap0,nbeq,hk,hi,hki,e]
      exact next
theorem rtrade_l1 (t0:(den tWorld)) (t2:(den tCmd)) (t7:Int) (t10:Int) (o2:(den tWorld)) :
    ∀ i,i≤(cGives c ++ cWants c).length→Comes (fun nf fm0 _ _=>innkeepref11_Trade.l1 nf fm0 t0 ((p:Int)) t2 t7 ((q:Int)) t10 ((i:Int)) (w) (c) o2 (cGives c ++ cWants c)) (fun r=>r.1=l1R w p q c i):=by
  have hlen:(cGives c ++ cWants c).length≤1048576:=by rw [List.length_append]; omega
  refine upto ?_ (fun i hi next => ?_)
  · refine Comes.succ1 (fun nf fm0 _ _=>innkeepref11_Trade.l1_eq nf fm0 _ _ _ _ _ _ _ _ _ _ _) ?_
    have hlt:List.length (trades w p q (cGives c) (cWants c))≤1048576:=by unfold trades; rw [setAll_len,setAll_len]; exact ok.sm.wh
    have h3:=fun (t0:den tWorld) (t2:den tCmd) (t7 t10 t11:Int) (o2:den tWorld)=>(rtrade_l3 ok hp hq c hg hw hpay hfee hbad _ _ (fun x hx=>by rw [hx]; exact refRoom_any (w.1,w.2.1,w.2.2.1,trades w p q (cGives c) (cWants c),()) hlt ok.right.may _ (kind_mePl p)) (fun x hx=>by rw [hx]; exact refRoom_any (w.1,w.2.1,w.2.2.1,trades w p q (cGives c) (cWants c),()) hlt ok.right.may _ (kind_mePl q)) t0 t2 t7 t10 t11 o2 0 (Nat.zero_le _)).enter
    have h0:mixAll w.2.2.2.1 (cGives c) (cWants c) (mePl p) (mePl q) 0=w.2.2.2.1:=by unfold mixAll; rw [Nat.zero_min,Nat.zero_sub]; rfl
    simp only [h0] at h3
    have hq2:∀ v:innkeepref11_Trade.R,((AwayAll w (cGives c) (cWants c) p q 0→v.1=(w,5,()))∧(¬ AwayAll w (cGives c) (cWants c) p q 0→v.1=lastR w p q c (roomI (w.1,w.2.1,w.2.2.1,trades w p q (cGives c) (cWants c),()) (mePl p)) (roomI (w.1,w.2.1,w.2.2.1,trades w p q (cGives c) (cWants c),()) (mePl q))))→v.1=l1R w p q c (cGives c ++ cWants c).length:=fun v hv=>by
      unfold l1R
      rw [if_neg (fun ⟨a,b,_,h1,h2,_⟩=>by omega)]
      rw [awayAll_iff] at hv
      by_cases a1:Away w (cGives c) p
      · rw [if_pos a1]; exact hv.1 (.inl a1)
      · rw [if_neg a1]
        by_cases a2:Away w (cWants c) q
        · rw [if_pos a2]; exact hv.1 (.inr a2)
        · rw [if_neg a2]; exact hv.2 (fun h=>h.elim a1 a2)
    simp [-List.length_append,-List.getD_eq_getElem?_getD,-List.length_eq_zero_iff,keepAll,freshHas,pathEq,eqPl_dec,wrap1,wrap0,nbeq,comes_call (copied_spec w ok.sm),(copied_spec w ok.sm).prop]
    exact (h3 _ _ _ _ _ _).mono hq2
  · refine Comes.succ1 (fun nf fm0 _ _=>innkeepref11_Trade.l1_eq nf fm0 _ _ _ _ _ _ _ _ _ _ _) ?_
    simp [-List.length_append,-List.getD_eq_getElem?_getD,-List.length_eq_zero_iff,keepAll,freshHas,pathEq,eqPl_dec,wrap1,wrap0,nbeq,hi]
    refine (rtrade_l2 ok hp hq c hg hw hpay hfee hbad i hi _ _ _ _ _ next 0 (Nat.zero_le _)).enter1.mono (fun v hv => ?_)
    by_cases e:DupAt (cGives c ++ cWants c) i (0)
    · rw [hv.1 e]
      obtain ⟨a,_,h1,h2⟩:=e
      unfold l1R
      rw [if_pos ⟨a,i,h1,Nat.le_refl i,hi,h2⟩]
    · rw [hv.2 e]
      unfold l1R
      have e2:DupFrom (cGives c ++ cWants c) (i+1)↔DupFrom (cGives c ++ cWants c) i :=
        ⟨fun ⟨a,b,h1,h2,h3,h4⟩=>⟨a,b,h1,by omega,h3,h4⟩,fun ⟨a,b,h1,h2,h3,h4⟩=>⟨a,b,h1,by
          by_cases e3:b=i
          · subst e3; exact absurd ⟨a,Nat.zero_le _,h1,h4⟩ e
          · omega,h3,h4⟩⟩
      by_cases h:DupFrom (cGives c ++ cWants c) i
      · rw [if_pos h,if_pos (e2.2 h)]
      · rw [if_neg h,if_neg (fun h'=>h (e2.1 h'))]
open Classical in
noncomputable def l0R (w:den tWorld) (p q:Nat) (c:Cm):den tWorld×Int×Unit:=if (q:Int)=(p:Int) then (w,12,()) else if ¬ atOf w q=atOf w p then (w,5,()) else l1R w p q c 0
theorem refTrade_l0 (t0:(den tWorld)) (t2:(den tCmd)) (t7:Int) (o2:(den tWorld)) :
    ∀ i,i≤(cGives c ++ cWants c).length→Comes (fun nf fm0 _ _=>innkeepref11_Trade.l0 nf fm0 t0 ((p:Int)) t2 t7 ((q:Int)) ((i:Int)) (w) (c) o2 (cGives c ++ cWants c)) (fun r=>r.1=l0R w p q c):=by
  have hlen:(cGives c ++ cWants c).length≤1048576:=by rw [List.length_append]; omega
  have s1:((p:Int)=(q:Int))=((q:Int)=(p:Int)):=propext eq_comm
  have s2:(List.getD (w.2.1:List Int) p (0:Int)=List.getD (w.2.1:List Int) q (0:Int))=(atOf w q=atOf w p):=propext eq_comm
  refine upto ?_ (fun i hi next => ?_)
  · have h1:=fun (t0:den tWorld) (t2:den tCmd) (t7 t10:Int) (o2:den tWorld)=>(rtrade_l1 ok hp hq c hg hw hpay hfee hbad t0 t2 t7 t10 o2 0 (Nat.zero_le _)).enter
    refine Comes.succ1 (fun nf fm0 _ _=>innkeepref11_Trade.l0_eq nf fm0 _ _ _ _ _ _ _ _ _ _) ?_
    by_cases c1:(q:Int)=(p:Int)
    · simp [-List.length_append,-List.getD_eq_getElem?_getD,-List.length_eq_zero_iff,keepAll,freshHas,pathEq,eqPl_dec,wrap1,wrap0,nbeq,s1,c1,l0R]
    · by_cases c2:atOf w q=atOf w p
      · simp [-List.length_append,-List.getD_eq_getElem?_getD,-List.length_eq_zero_iff,keepAll,freshHas,pathEq,eqPl_dec,wrap1,wrap0,nbeq,s1,s2,c1,c2,hp,hq,l0R]
        exact h1 _ _ _ _ _
      · simp [-List.length_append,-List.getD_eq_getElem?_getD,-List.length_eq_zero_iff,keepAll,freshHas,pathEq,eqPl_dec,wrap1,wrap0,nbeq,s1,s2,c1,c2,hp,hq,l0R]
  · have hin:=bad_not hbad i hi
    have h1:=hin.1; have h2:=hin.2
    rw [← wrap_succ (by omega)] at next
    refine Comes.succ1 (fun nf fm0 _ _=>innkeepref11_Trade.l0_eq nf fm0 _ _ _ _ _ _ _ _ _ _) ?_
    simp [-List.length_append,-List.getD_eq_getElem?_getD,-List.length_eq_zero_iff,keepAll,freshHas,pathEq,eqPl_dec,wrap1,wrap0,nbeq,hi,show ¬ List.getD (cGives c ++ cWants c) i 0<0 from Int.not_lt.2 h1,show ¬ (List.length (w.2.2.2.1:List (den tPlace)):Int)≤List.getD (cGives c ++ cWants c) i 0 from Int.not_le.2 h2,next]
theorem l0R_eq:l0R w p q c=tradeR w p q (cGives c) (cPay c) (cWants c) (cFee c):=by
  have hiq:inQ w (q:Int):=⟨Int.natCast_nonneg q,Int.ofNat_lt.2 hq⟩
  by_cases c1:(q:Int)=(p:Int)
  · simp only [l0R,tradeR,tradeErr,c1,if_true,show inQ w (p:Int) from c1 ▸ hiq,hbad,not_true_eq_false,if_false]
    rfl
  by_cases c2:atOf w q=atOf w p
  rotate_left
  · simp only [l0R,tradeR,tradeErr,c1,c2,hiq,hbad,not_true_eq_false,not_false_eq_true,if_true,if_false,Int.toNat_natCast]
    rfl
  by_cases c3:Dup (cGives c ++ cWants c)
  · have c3':=dupFrom_zero.2 c3
    simp only [l0R,l1R,tradeR,tradeErr,c1,c2,c3,c3',hiq,hbad,not_true_eq_false,not_false_eq_true,if_true,if_false,Int.toNat_natCast]
    rfl
  have c3':¬ DupFrom (cGives c ++ cWants c) 0:=fun h=>c3 (dupFrom_zero.1 h)
  by_cases c4:Away w (cGives c) p
  · simp only [l0R,l1R,tradeR,tradeErr,c1,c2,c3,c3',c4,hiq,hbad,not_true_eq_false,not_false_eq_true,if_true,if_false,Int.toNat_natCast]
    rfl
  by_cases c5:Away w (cWants c) q
  · simp only [l0R,l1R,tradeR,tradeErr,c1,c2,c3,c3',c4,c5,hiq,hbad,not_true_eq_false,not_false_eq_true,if_true,if_false,Int.toNat_natCast]
    rfl
  have lots:=lots_of (p:=p) (q:=q) (fun e=>c1 (by rw [e])) hbad c3 c4 c5
  have r1:=lots.room (w.1,w.2.1,w.2.2.1,trades w p q (cGives c) (cWants c),()) rfl rfl (mePl p)
  have r2:=lots.room (w.1,w.2.1,w.2.2.1,trades w p q (cGives c) (cWants c),()) rfl rfl (mePl q)
  rw [if_pos rfl,if_neg (fun e=>lots.pq (me_inj e).symm)] at r1
  rw [if_pos rfl,if_neg (fun e=>lots.pq (me_inj e))] at r2
  have c6:(roomI w (mePl p)+((cGives c).length - (cWants c).length:Int)+0<0)=(roomI w (mePl p)<((cWants c).length:Int) - ((cGives c).length:Int)):=propext ⟨fun h=>by omega,fun h=>by omega⟩
  have c7:(roomI w (mePl q)+0+((cWants c).length - (cGives c).length:Int)<0)=(roomI w (meI q)<((cGives c).length:Int) - ((cWants c).length:Int)):=propext ⟨fun h=>by show roomI w (mePl q)<_; omega,fun h=>by have h:roomI w (mePl q)<((cGives c).length:Int) - ((cWants c).length:Int):=h; omega⟩
  simp only [l0R,l1R,tradeR,tradeErr,c1,c2,c3,c3',c4,c5,hiq,hbad,not_true_eq_false,not_false_eq_true,if_true,if_false,Int.toNat_natCast,lastR,r1,r2,c6,c7]
  by_cases d1:roomI w (mePl p)<((cWants c).length:Int) - ((cGives c).length:Int)
  · simp only [d1,if_true]; rfl
  simp only [d1,if_false]
  by_cases d2:roomI w (meI q)<((cGives c).length:Int) - ((cWants c).length:Int)
  · simp only [d2,if_true]; rfl
  simp only [d2,if_false]
end
theorem rtrade_l0b {w:den tWorld} (hwl:List.length (w.2.2.2.1:List (den tPlace))≤1048576) (l:List Int) (hlen:l.length≤1048576) (t0:(den tWorld)) (t1:Int) (t2:(den tCmd)) (t7:Int) (t8:Int) (o1:(den tCmd)) (o2:(den tWorld)) :
    ∀ i,i≤l.length→(∃ j,i≤j∧j<l.length∧¬ inR w (iAt l j))→Comes (fun nf fm0 _ _=>innkeepref11_Trade.l0 nf fm0 t0 t1 t2 t7 t8 ((i:Int)) (w) o1 o2 (l)) (fun r=>r.1=(w,3,())):=by
  refine upto (fun h => ?_) (fun i hi next h => ?_)
  · obtain ⟨j,h1,h2,_⟩:=h; omega
  · refine Comes.succ1 (fun nf fm0 _ _=>innkeepref11_Trade.l0_eq nf fm0 _ _ _ _ _ _ _ _ _ _) ?_
    by_cases h1:List.getD l i 0<0
    · simp [-List.getD_eq_getElem?_getD,-List.length_eq_zero_iff,keepAll,freshHas,pathEq,eqPl_dec,wrap1,wrap0,nbeq,hi,h1]
    by_cases h2:(List.length (w.2.2.2.1:List (den tPlace)):Int)≤List.getD l i 0
    · simp [-List.getD_eq_getElem?_getD,-List.length_eq_zero_iff,keepAll,freshHas,pathEq,eqPl_dec,wrap1,wrap0,nbeq,hi,h1,h2]
    have next:=next (by
      obtain ⟨j,g1,g2,g3⟩:=h
      refine ⟨j,?_,g2,g3⟩
      by_cases e:j=i
      · subst e; exact absurd ⟨Int.not_lt.1 h1,Int.not_le.1 h2⟩ g3
      · omega)
    rw [← wrap_succ (by omega)] at next
    simp [-List.getD_eq_getElem?_getD,-List.length_eq_zero_iff,keepAll,freshHas,pathEq,eqPl_dec,wrap1,wrap0,nbeq,hi,h1,h2,next]
theorem refTrade_spec {w:den tWorld} (ok:Ok w) {p:Nat} (hp:p<List.length (w.2.1:List Int)) (c:Cm) (hg:(cGives c).length≤100) (hw:(cWants c).length≤100) (hpay:coinP (cPay c)) (hfee:coinP (cFee c)) :
    Comes (fun nf _ _ _=>innkeepref11_Trade nf (w) ((p:Int)) (c)) (fun r=>r.1=tradeR w p (cWho c) (cGives c) (cPay c) (cWants c) (cFee c)):=by
  have hlen:(cGives c ++ cWants c).length≤1048576:=by rw [List.length_append]; omega
  have g1:(cGives c).length≤1048576:=by omega
  have g2:(cGives c).length+(cWants c).length≤1048576:=by omega
  refine Comes.succ (fun nf _ _ _=>innkeepref11_Trade.eq nf _ _ _) ?_
  simp only [List.nil_append]
  by_cases c1:inQ w (cWho c)
  · obtain ⟨q,eq,hq⟩:=inQ_nat c1
    by_cases c2:Bad w (cGives c ++ cWants c)
    · have e:tradeR w p (cWho c) (cGives c) (cPay c) (cWants c) (cFee c)=(w,3,()):=by simp [tradeR,tradeErr,c1,c2]
      rw [e]
      simp only [eq]
      simp [-List.length_append,-List.getD_eq_getElem?_getD,-List.length_eq_zero_iff,keepAll,freshHas,pathEq,eqPl_dec,wrap1,wrap0,nbeq,hq]
      refine ⟨g1,g2,(rtrade_l0b ok.sm.wh (cGives c ++ cWants c) hlen _ _ _ _ _ _ _ 0 (Nat.zero_le _) ?_).enter⟩
      obtain ⟨j,a,b⟩:=c2
      exact ⟨j,Nat.zero_le _,a,b⟩
    · have h0:=fun (t0:den tWorld) (t2:den tCmd) (t7:Int) (o2:den tWorld)=>(refTrade_l0 ok hp hq c hg hw hpay hfee c2 t0 t2 t7 o2 0 (Nat.zero_le _)).enter
      rw [l0R_eq ok hp hq c hg hw hpay hfee c2] at h0
      simp only [eq]
      simp [-List.length_append,-List.getD_eq_getElem?_getD,-List.length_eq_zero_iff,keepAll,freshHas,pathEq,eqPl_dec,wrap1,wrap0,nbeq,hq]
      exact ⟨g1,g2,fun h=>absurd h (Int.not_lt.2 (Int.natCast_nonneg q)),fun h=>by omega,h0 _ _ _ _⟩
  · have e:tradeR w p (cWho c) (cGives c) (cPay c) (cWants c) (cFee c)=(w,3,()):=by simp [tradeR,tradeErr,c1]
    rw [e]
    by_cases h1:cWho c<0
    · simp [-List.length_append,-List.getD_eq_getElem?_getD,-List.length_eq_zero_iff,keepAll,freshHas,pathEq,eqPl_dec,wrap1,wrap0,nbeq,h1]
      exact ⟨g1,g2⟩
    · have h2:(List.length (w.2.1:List Int):Int)≤cWho c:=Int.not_lt.1 (fun h=>c1 ⟨Int.not_lt.1 h1,h⟩)
      simp [-List.length_append,-List.getD_eq_getElem?_getD,-List.length_eq_zero_iff,keepAll,freshHas,pathEq,eqPl_dec,wrap1,wrap0,nbeq,h1,h2]
      exact ⟨g1,g2⟩
end Go.Proofs.Ytmemggdjnfccfaa.Ghost
namespace Go.Proofs.Ytmemggdjnfccfaa.Ghost
open Go
structure TradeOk (w:den tWorld) (p q:Nat) (gs:List Int) (pay:Int) (ws:List Int) (fee:Int):Prop where
  hq:q<List.length (w.2.1:List Int)
  bad:¬ Bad w (gs ++ ws)
  at_:atOf w q=atOf w p
  dup:¬ Dup (gs ++ ws)
  ag:¬ Away w gs p
  aw:¬ Away w ws q
  lots:Lots w p q gs ws
  rp:(ws.length:Int) - (gs.length:Int)≤roomI w (mePl p)
  rq:(gs.length:Int) - (ws.length:Int)≤roomI w (mePl q)
  sw:swapErr (coinOf w p) (coinOf w q) pay fee=0
theorem tradeErr_zero {w:den tWorld} {p:Nat} {q:Int} {gs ws:List Int} {pay fee:Int} (h10:∀ a b,swapErr a b pay fee=0∨0<swapErr a b pay fee):tradeErr w p q gs pay ws fee=0↔∃ n:Nat,q=(n:Int)∧TradeOk w p n gs pay ws fee:=by
  constructor
  · intro h
    unfold tradeErr at h
    by_cases c1:inQ w q
    rotate_left
    · rw [if_pos c1] at h; cases h
    rw [if_neg (fun h=>h c1)] at h
    obtain ⟨n,rfl,hn⟩:=inQ_nat c1
    by_cases c2:Bad w (gs ++ ws)
    · rw [if_pos c2] at h; cases h
    rw [if_neg c2] at h
    by_cases c3:(n:Int)=(p:Int)
    · rw [if_pos c3] at h; cases h
    rw [if_neg c3,Int.toNat_natCast] at h
    by_cases c4:atOf w n=atOf w p
    rotate_left
    · rw [if_pos c4] at h; cases h
    rw [if_neg (fun h=>h c4)] at h
    by_cases c5:Dup (gs ++ ws)
    · rw [if_pos c5] at h; cases h
    rw [if_neg c5] at h
    by_cases c6:Away w gs p
    · rw [if_pos c6] at h; cases h
    rw [if_neg c6] at h
    by_cases c7:Away w ws n
    · rw [if_pos c7] at h; cases h
    rw [if_neg c7] at h
    by_cases c8:roomI w (mePl p)<(ws.length:Int) - (gs.length:Int)
    · rw [if_pos c8] at h; cases h
    rw [if_neg c8] at h
    by_cases c9:roomI w (meI (n:Int))<(gs.length:Int) - (ws.length:Int)
    · rw [if_pos c9] at h; cases h
    rw [if_neg c9] at h
    exact ⟨n,rfl,hn,c2,c4,c5,c6,c7,lots_of (fun e=>c3 (by rw [e])) c2 c5 c6 c7,Int.not_lt.1 c8,Int.not_lt.1 c9,h⟩
  · rintro ⟨n,rfl,h⟩
    unfold tradeErr
    rw [if_neg (fun g=>g ⟨Int.natCast_nonneg n,Int.ofNat_lt.2 h.hq⟩),if_neg h.bad,if_neg (fun e:(n:Int)=(p:Int)=>h.lots.pq (Int.ofNat.inj e).symm),Int.toNat_natCast,if_neg (fun g=>g h.at_),if_neg h.dup,if_neg h.ag,if_neg h.aw,if_neg (Int.not_lt.2 h.rp),if_neg (Int.not_lt.2 (show _≤roomI w (meI (n:Int)) from h.rq))]
    exact h.sw
theorem swapErr_nn (pay fee a b:Int):swapErr a b pay fee=0∨0<swapErr a b pay fee:=by
  unfold swapErr
  split
  · exact .inr (by decide)
  · split
    · exact .inl rfl
    · exact .inr (by decide)
theorem swapErr_zero {a b pay fee:Int} (h:swapErr a b pay fee=0):pay≤a∧fee≤b∧coinP (a - pay+fee)∧coinP (b - fee+pay):=by
  unfold swapErr at h
  split at h
  · cases h
  · rename_i c1
    split at h
    · rename_i c2
      refine ⟨?_,?_,c2.1,c2.2⟩
      · exact Int.not_lt.1 (fun h=>c1 (.inl h))
      · exact Int.not_lt.1 (fun h=>c1 (.inr h))
    · cases h
theorem me_nb (i:Nat):¬ (mePl i).1=(2:Int):=fun e=>by
  have:(1:Int)=2:=e
  cases this
theorem Lot.depI {l:List Pl} {xs:List Int} {src p:Pl} (h:Lot l xs src) (hs:¬ src.1=(2:Int)) (hp:¬ p.1=(2:Int)) (f c:Nat) (x:Pl):{n:Nat}→n≤xs.length→depI (setAll l xs p n) f c x=depI l f c x
  | 0,_=>rfl
  | n+1,hn=>by
    have hi:=h.inn n (by omega)
    simp only [setAll]
    rw [depI_set (by rw [setAll_len]; omega) hp (by rw [h.get (by omega)]; exact hs)]
    exact Lot.depI h hs hp f c x (by omega)
theorem Lots.at_ {w:den tWorld} {p q:Nat} {gs ws:List Int} (h:Lots w p q gs ws) (j:Nat):List.getD (trades w p q gs ws) j (dft tPlace)=List.getD (w.2.2.2.1:List Pl) j (dft tPlace)∧(∀ i,i<(gs ++ ws).length→¬ iAt (gs ++ ws) i=(j:Int))∨List.getD (trades w p q gs ws) j (dft tPlace)=mePl p∧List.getD (w.2.2.2.1:List Pl) j (dft tPlace)=mePl q∧(∃ i,i<ws.length∧iAt ws i=(j:Int)) ∨
    List.getD (trades w p q gs ws) j (dft tPlace)=mePl q∧List.getD (w.2.2.2.1:List Pl) j (dft tPlace)=mePl p∧(∃ i,i<gs.length∧iAt gs i=(j:Int)):=by
  unfold trades
  rw [setAll_get h.lw.inn]
  by_cases c1:∃ i,i<ws.length∧iAt ws i=(j:Int)
  · rw [if_pos c1]
    obtain ⟨i,h1,h2⟩:=c1
    refine .inr (.inl ⟨rfl,?_,i,h1,h2⟩)
    have:=h.lw0.at_ i h1
    rw [h2,Int.toNat_natCast] at this
    exact this
  · rw [if_neg c1,setAll_get h.lg.inn]
    by_cases c2:∃ i,i<gs.length∧iAt gs i=(j:Int)
    · rw [if_pos c2]
      obtain ⟨i,h1,h2⟩:=c2
      refine .inr (.inr ⟨rfl,?_,i,h1,h2⟩)
      have:=h.lg.at_ i h1
      rw [h2,Int.toNat_natCast] at this
      exact this
    · rw [if_neg c2]
      refine .inl ⟨rfl,fun i hi e => ?_⟩
      by_cases hl:i<gs.length
      · rw [iAt_left hl] at e; exact c2 ⟨i,hl,e⟩
      · obtain ⟨k,rfl⟩:∃ k,i=gs.length+k:=⟨i - gs.length,by omega⟩
        rw [iAt_right] at e
        rw [List.length_append] at hi
        exact c1 ⟨k,by omega,e⟩
theorem coins_at (l:List Int) {p q:Nat} (hp:p<l.length) (hq:q<l.length) (a b:Int) (j:Nat):List.getD (List.set (List.set l p a) q b) j 0=if j=q then b else if j=p then a else List.getD l j 0:=by
  rw [getD_set _ _ _ _ _ (by rw [List.length_set]; exact hq),getD_set _ _ _ _ _ hp]
section
variable {w:den tWorld} {p q:Nat} {gs ws:List Int} {pay fee:Int} (ok:Ok w) (hp:p<List.length (w.2.1:List Int)) (h:TradeOk w p q gs pay ws fee)
include ok hp h
abbrev tdW (w:den tWorld) (p q:Nat) (gs:List Int) (pay:Int) (ws:List Int) (fee:Int):den tWorld:=tradeW w p q gs ws (coinOf w p - pay+fee) (coinOf w q - fee+pay)
theorem trades_len:List.length (trades w p q gs ws)=List.length (w.2.2.2.1:List (den tPlace)):=by unfold trades; rw [setAll_len,setAll_len]
theorem tdW_coins (j:Nat):coinOf (tdW w p q gs pay ws fee) j=if j=q then coinOf w q - fee+pay else if j=p then coinOf w p - pay+fee else coinOf w j:=by
  have hc1:=ok.right.c1
  have ha1:=ok.right.a1
  have hqq:=h.hq
  show List.getD (List.set (List.set (w.2.2.1:List Int) p _) (Int.toNat (q:Int)) _) j 0=_
  rw [Int.toNat_natCast,coins_at _ (by omega) (by omega)]
theorem tdW_room (t:Pl):roomI (tdW w p q gs pay ws fee) t=roomI w t+(if mePl p=t then (gs.length:Int) - (ws.length:Int) else 0)+(if mePl q=t then (ws.length:Int) - (gs.length:Int) else 0):=h.lots.room (tdW w p q gs pay ws fee) rfl rfl t
theorem tdW_ok:Ok (tdW w p q gs pay ws fee):=by
  have hr:=ok.right
  have hs:=ok.sm
  have hc1:=ok.right.c1
  have ha1:=ok.right.a1
  have hqq:=h.hq
  have hlen:=trades_len ok hp h
  have hcl:List.length ((tdW w p q gs pay ws fee).2.2.1:List Int)=List.length (w.2.2.1:List Int):=by
    show List.length (List.set (List.set (w.2.2.1:List Int) p _) _ _)=_
    rw [List.length_set,List.length_set]
  obtain ⟨_,_,s1,s2⟩:=swapErr_zero h.sw
  refine ⟨⟨hs.e,hs.b,hs.p,hs.c,hs.i,hs.a,by rw [hcl]; exact hs.wc,by show List.length (trades w p q gs ws)≤_; rw [hlen]; exact hs.wh,hs.rows⟩,hr.may,hr.a1,by rw [hcl]; exact hr.c1,by show List.length (trades w p q gs ws)=_; rw [hlen]; exact hr.w1,fun i hi=>⟨(hr.at_ i hi).1,?_⟩,fun i hi => ?_,fun i hi => ?_⟩
  · have hc:=tdW_coins ok hp h i
    have:coinP (coinOf (tdW w p q gs pay ws fee) i):=by
      rw [hc]
      split
      · exact s2
      · split
        · exact s1
        · exact (hr.at_ i hi).2
    exact this
  · have hi:i<List.length (w.2.2.2.1:List (den tPlace)):=by rw [← hlen]; exact hi
    have gm:∀ r,r<List.length (w.2.1:List Int)→GoodPl w.1 (mePl r):=fun r hr'=>.inr (.inl ⟨rfl,Int.natCast_nonneg r,by show (r:Int)<_; rw [← hr.a1]; exact Int.ofNat_lt.2 hr'⟩)
    show GoodPl w.1 (List.getD (trades w p q gs ws) i (dft tPlace))
    rcases h.lots.at_ i with ⟨e,_⟩ | ⟨e,_⟩ | ⟨e,_⟩
    · rw [e]; exact hr.good i hi
    · rw [e]; exact gm p hp
    · rw [e]; exact gm q hqq
  · have hi:i<List.length (w.2.2.2.1:List (den tPlace)):=by rw [← hlen]; exact hi
    have hd:∀ x,depI (trades w p q gs ws) 51 0 x=depI w.2.2.2.1 51 0 x:=fun x=>by
      unfold trades
      rw [h.lots.lw.depI (me_nb q) (me_nb p) 51 0 x (Nat.le_refl _),h.lots.lg.depI (me_nb p) (me_nb q) 51 0 x (Nat.le_refl _)]
    have hroom:∀ t,0≤roomI (tdW w p q gs pay ws fee) t:=fun t=>by
      rw [tdW_room ok hp h t]
      have h0:=(hr.room t).1
      by_cases c1:mePl p=t
      · have c2:¬ mePl q=t:=fun e=>h.lots.pq (me_inj (c1.trans e.symm))
        rw [if_pos c1,if_neg c2]
        have:=h.rp
        rw [c1] at this
        omega
      · by_cases c2:mePl q=t
        · rw [if_neg c1,if_pos c2]
          have:=h.rq
          rw [c2] at this
          omega
        · rw [if_neg c1,if_neg c2]; omega
    refine ⟨?_,?_⟩
    · show depI (trades w p q gs ws) 51 0 (List.getD (trades w p q gs ws) i (dft tPlace))≤4
      rw [hd]
      rcases h.lots.at_ i with ⟨e,_⟩ | ⟨e,_⟩ | ⟨e,_⟩
      · rw [e]; exact (hr.deep i hi).1
      · rw [e,depI_zero (me_nb p)]; omega
      · rw [e,depI_zero (me_nb q)]; omega
    · have:=hroom (List.getD ((tdW w p q gs pay ws fee).2.2.2.1:List (den tPlace)) i (dft tPlace))
      unfold roomI at this
      show (manyPl _ _ _:Int)≤capI w.1 _
      have e:(tdW w p q gs pay ws fee).1=w.1:=rfl
      rw [e] at this
      omega
theorem td_back:TradeOk (tdW w p q gs pay ws fee) q p gs pay ws fee∧tdW (tdW w p q gs pay ws fee) q p gs pay ws fee=w:=by
  have hlen:=trades_len ok hp h
  have hqq:=h.hq
  have hin:∀ k,inR (tdW w p q gs pay ws fee) k↔inR w k:=fun k=>by
    unfold inR
    rw [show List.length ((tdW w p q gs pay ws fee).2.2.2.1:List (den tPlace))=List.length (w.2.2.2.1:List (den tPlace)) from hlen]
  have hbad:¬ Bad (tdW w p q gs pay ws fee) (gs ++ ws):=fun ⟨j,h1,h2⟩=>h.bad ⟨j,h1,fun h3=>h2 ((hin _).2 h3)⟩
  have g1:∀ j,j<gs.length→List.getD (trades w p q gs ws) (iAt gs j).toNat (dft tPlace)=mePl q:=fun j hj=>by
    have hi:=h.lots.lg.inn j hj
    rcases h.lots.at_ (iAt gs j).toNat with ⟨_,e⟩ | ⟨_,_,i,h1,h2⟩ | ⟨e,_⟩
    · exact absurd (by rw [iAt_left hj]; omega) (e j (by rw [List.length_append]; omega))
    · exact absurd (by omega) (h.lots.gw j i hj h1)
    · exact e
  have g2:∀ j,j<ws.length→List.getD (trades w p q gs ws) (iAt ws j).toNat (dft tPlace)=mePl p:=fun j hj=>by
    have hi:=h.lots.lw0.inn j hj
    rcases h.lots.at_ (iAt ws j).toNat with ⟨_,e⟩ | ⟨e,_⟩ | ⟨_,_,i,h1,h2⟩
    · exact absurd (by rw [iAt_right]; omega) (e (gs.length+j) (by rw [List.length_append]; omega))
    · exact e
    · exact absurd (by omega) (h.lots.gw i j h1 hj)
  have ag:¬ Away (tdW w p q gs pay ws fee) gs q:=fun ⟨j,h1,h2⟩=>h2 (g1 j h1)
  have aw:¬ Away (tdW w p q gs pay ws fee) ws p:=fun ⟨j,h1,h2⟩=>h2 (g2 j h1)
  have hqp:¬ q=p:=fun e=>h.lots.pq e.symm
  have lots:=lots_of hqp hbad h.dup ag aw
  obtain ⟨s1,s2,s3,s4⟩:=swapErr_zero h.sw
  have cp:=tdW_coins ok hp h p
  have cq:=tdW_coins ok hp h q
  rw [if_neg h.lots.pq,if_pos rfl] at cp
  rw [if_pos rfl] at cq
  have fp:=coin_fit ok.right hp
  have fq:=coin_fit ok.right hqq
  have rp:=tdW_room ok hp h (mePl p)
  have rq:=tdW_room ok hp h (mePl q)
  rw [if_pos rfl,if_neg (fun e=>hqp (me_inj e))] at rp
  rw [if_pos rfl,if_neg (fun e=>h.lots.pq (me_inj e))] at rq
  have np:=(ok.right.room (mePl p)).1
  have nq:=(ok.right.room (mePl q)).1
  refine ⟨⟨hp,hbad,h.at_.symm,h.dup,ag,aw,lots,by rw [rq]; omega,by rw [rp]; omega,?_⟩,?_⟩
  · rw [cp,cq]
    unfold swapErr
    have b1:coinP (coinOf w q - fee+pay - pay+fee):=by rw [show coinOf w q - fee+pay - pay+fee=coinOf w q by omega]; exact fq
    have b2:coinP (coinOf w p - pay+fee - fee+pay):=by rw [show coinOf w p - pay+fee - fee+pay=coinOf w p by omega]; exact fp
    rw [if_neg (by omega),if_pos ⟨b1,b2⟩]
  · refine Prod.ext rfl (Prod.ext rfl (Prod.ext ?_ (Prod.ext ?_ rfl)))
    · have hc1:=ok.right.c1
      have ha1:=ok.right.a1
      show List.set (List.set (List.set (List.set (w.2.2.1:List Int) p _) (Int.toNat (q:Int)) _) q _) (Int.toNat (p:Int)) _=w.2.2.1
      rw [Int.toNat_natCast,Int.toNat_natCast,cp,cq]
      refine ext_getD (0:Int) (by simp only [List.length_set]) (fun j hj => ?_)
      rw [coins_at _ (by simp only [List.length_set]; omega) (by simp only [List.length_set]; omega),coins_at _ (by omega) (by omega)]
      split
      · rename_i e; subst e; show coinOf w j - pay+fee - fee+pay=coinOf w j; omega
      · split
        · rename_i e; subst e; show coinOf w j - fee+pay - pay+fee=coinOf w j; omega
        · rfl
    · refine ext_getD (dft tPlace) ?_ (fun j hj => ?_)
      · show List.length (trades (tdW w p q gs pay ws fee) q p gs ws)=_
        unfold trades
        rw [setAll_len,setAll_len]; exact hlen
      · show List.getD (trades (tdW w p q gs pay ws fee) q p gs ws) j (dft tPlace)=_
        rcases lots.at_ j with ⟨e,e2⟩ | ⟨e,_,i,h1,h2⟩ | ⟨e,_,i,h1,h2⟩
        · rw [e]
          rcases h.lots.at_ j with ⟨e3,_⟩ | ⟨_,_,i,h1,h2⟩ | ⟨_,_,i,h1,h2⟩
          · exact e3
          · exact absurd (by rw [iAt_right]; exact h2) (e2 (gs.length+i) (by rw [List.length_append]; omega))
          · exact absurd (by rw [iAt_left h1]; exact h2) (e2 i (by rw [List.length_append]; omega))
        · rw [e]
          have:=h.lots.lw0.at_ i h1
          rw [h2,Int.toNat_natCast] at this
          exact this.symm
        · rw [e]
          have:=h.lots.lg.at_ i h1
          rw [h2,Int.toNat_natCast] at this
          exact this.symm
end
end Go.Proofs.Ytmemggdjnfccfaa.Ghost
