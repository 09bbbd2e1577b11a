/- What functions come to, and that the statements are answered with 'true'. Conditions: none. -/
import Derived.Test.YtmemggdjnfccfaaGreatDoorS
import Derived.Test.YtmemggdjnfccfaaGreatDoorGE
import Derived.Test.YtmemggdjnfccfaaGreatDoorP1
import Derived.Test.YtmemggdjnfccfaaGreatDoorP2
import Derived.Test.YtmemggdjnfccfaaGreatDoorP3
import Derived.Test.YtmemggdjnfccfaaGreatDoorP4
import Derived.Test.YtmemggdjnfccfaaGreatDoorP5
import Derived.Test.YtmemggdjnfccfaaGreatDoorP6
import Derived.Test.YtmemggdjnfccfaaGreatDoorP7
import Derived.Test.YtmemggdjnfccfaaGreatDoorP8
import Derived.Test.YtmemggdjnfccfaaGreatDoorP9
import Derived.Test.YtmemggdjnfccfaaGreatDoorP10
set_option linter.unusedVariables false
set_option linter.unusedSimpArgs false
set_option linter.unusedSectionVars false
set_option linter.unnecessarySimpa false
namespace Go.Proofs.YtmemggdjnfccfaaGreatDoor.Ghost
open Go
theorem BKb (a b:List Int) (ha:a.length≤1048576) (hl:a.length=b.length) (t4:Bool):∀ i,i≤a.length→Ze (fun nf fm0 _ _=>Zr.l0 nf fm0 (a) (b) t4 ((a.length:Int)) ((i:Int))) (fun r=>r=((dec (∀ j,i≤j→j<a.length→List.getD a j 0=List.getD b j 0),()),[])):=by
  refine upto ?_ (fun i hi next => ?_)
  · refine Ze.succ1 (fun nf fm0 _ _=>Zr.l0_eq nf fm0 _ _ _ _ _) ?_
    simp [-List.getD_eq_getElem?_getD,-List.length_eq_zero_iff,Zq,Zl,Zu,Zo,Z9,Z8,Xx]
    intro j h1 h2; omega
  · rw [← Xv (by omega)] at next
    have hi2:i<b.length:=by omega
    refine Ze.succ1 (fun nf fm0 _ _=>Zr.l0_eq nf fm0 _ _ _ _ _) ?_
    by_cases e:List.getD a i 0=List.getD b i 0
    · simp [-List.getD_eq_getElem?_getD,-List.length_eq_zero_iff,Zq,Zl,Zu,Zo,Z9,Z8,Xx,hi,hi2,e]
      refine next.mono (fun v hv => ?_)
      rw [hv]
      have:(∀ j,i+1≤j→j<a.length→List.getD a j 0=List.getD b j 0)=(∀ j,i≤j→j<a.length→List.getD a j 0=List.getD b j 0):=propext ⟨fun h j h1 h2=>by
        by_cases hj:j=i
        · subst hj; exact e
        · exact h j (by omega) h2,fun h j h1 h2=>h j (by omega) h2⟩
      rw [this]
    · simp [-List.getD_eq_getElem?_getD,-List.length_eq_zero_iff,Zq,Zl,Zu,Zo,Z9,Z8,Xx,hi,hi2,e]
      exact ⟨i,Nat.le_refl i,hi,e⟩
theorem AEw (a b:List Int) (ha:a.length≤1048576):Ze (fun nf _ _ _=>Zr nf (a) (b)) (fun r=>r=((dec (a=b),()),[])):=by
  by_cases hl:a.length=b.length
  · have l0:=(BKb a b ha hl false 0 (Nat.zero_le _)).enter
    have:(∀ j,0≤j→j<a.length→List.getD a j 0=List.getD b j 0)=(a=b):=propext ⟨fun h=>AM2 0 hl (fun j hj=>h j (Nat.zero_le j) hj),fun h j _ _=>by rw [h]⟩
    rw [this] at l0
    refine Ze.succ (fun nf _ _ _=>Zr.eq nf _ _) ?_
    simp [-List.getD_eq_getElem?_getD,-List.length_eq_zero_iff,Zq,Zl,Zu,Zo,Z9,Z8,Xx,hl]
    rw [hl] at l0
    exact l0
  · have e:¬ a=b:=fun e=>hl (by rw [e])
    refine Ze.succ (fun nf _ _ _=>Zr.eq nf _ _) ?_
    simp [-List.getD_eq_getElem?_getD,-List.length_eq_zero_iff,Zq,Zl,Zu,Zo,Z9,Z8,Xx,hl,e,show ¬ (a.length:Int)=(b.length:Int) by omega]
end Go.Proofs.YtmemggdjnfccfaaGreatDoor.Ghost
namespace Go.Proofs.YtmemggdjnfccfaaGreatDoor.Ghost
open Go
theorem Dl (x y:den Uw):eqT Uw x y=dec (x=y):=by
  obtain ⟨a1,a2,a3,a4,a5,a6,a7,⟨⟩⟩:=x
  obtain ⟨b1,b2,b3,b4,b5,b6,b7,⟨⟩⟩:=y
  rw [Bool.eq_iff_iff,Jj]
  simp [eqT,AC9]
theorem AG2 (a b:Cm) (h1:(Xj a).length≤1048576) (h2:(Xl a).length≤1048576):Ze (fun nf _ _ _=>Hp nf (a) (b)) (fun r=>r=((dec (a=b),()),[])):=by
  have of_:∀ c:Cm,Ze (fun nf _ _ _=>U1 nf (c)) (fun r=>r=(((Z4 c,H5 c,X5 c,Hx c,Jz c,G6 c,G5 c,()),()),[])):=fun c=>by
    refine Ze.succ (fun nf _ _ _=>U1.eq nf _) ?_
    simp
  have e:(a=b)=(((Z4 a,H5 a,X5 a,Hx a,Jz a,G6 a,G5 a,()):den Uw)=(Z4 b,H5 b,X5 b,Hx b,Jz b,G6 b,G5 b,())∧Xj a=Xj b∧Xl a=Xl b):=by
    obtain ⟨a1,a2,a3,a4,a5,a6,a7,a8,a9,⟨⟩⟩:=a
    obtain ⟨b1,b2,b3,b4,b5,b6,b7,b8,b9,⟨⟩⟩:=b
    refine propext ?_
    simp
    grind
  obtain ⟨b4,e4,s4⟩:∃ x,(x=true)=(Xj a=Xj b)∧Ze (fun nf _ _ _=>Zr nf (Xj a) (Xj b)) (fun r=>r=((x,()),[])):=⟨_,propext Jj,AEw _ _ h1⟩
  obtain ⟨b5,e5,s5⟩:∃ x,(x=true)=(Xl a=Xl b)∧Ze (fun nf _ _ _=>Zr nf (Xl a) (Xl b)) (fun r=>r=((x,()),[])):=⟨_,propext Jj,AEw _ _ h2⟩
  rw [e,← e4,← e5]
  refine Ze.succ (fun nf _ _ _=>Hp.eq nf _ _) ?_
  by_cases h:((Z4 a,H5 a,X5 a,Hx a,Jz a,G6 a,G5 a,()):den Uw)=(Z4 b,H5 b,X5 b,Hx b,Jz b,G6 b,G5 b,())
  · simp only [Zd (of_ a),(of_ a).prop,Zd (of_ b),(of_ b).prop,Dl,Jj.2 h,cond_true]
    simp only [Zd s4,s4.prop]
    cases b4
    · simp only [cond_false,V9]; simp [h]
    · simp only [cond_true,Zd s5,s5.prop,V9]
      cases b5 <;> simp [h]
  · simp only [Zd (of_ a),(of_ a).prop,Zd (of_ b),(of_ b).prop,Dl,Kq.2 h,cond_false,V9]
    rw [Kq.2 (fun hh=>h hh.1)]
def Up (n:Int):Prop:=0≤n∧n≤1073741824
theorem Mm (a:Int):Ze (fun nf _ _ _=>Kx nf (a)) (fun r=>r=((dec (Up a),()),[])):=by
  refine Ze.succ (fun nf _ _ _=>Kx.eq nf _) ?_
  by_cases h:0≤a <;> simp [h,Up,G7]
theorem BYb (l:List Int) (hl:l.length≤1048576) (t4:Int):∀ i,i≤l.length→Ze (fun nf fm0 _ _=>Zw.l0 nf fm0 (l) t4 ((l.length:Int)) ((i:Int))) (fun r=>0≤r.1.1↔∃ j,i≤j∧j<l.length∧¬ Up (List.getD l j 0)):=by
  have cl:∀ x,Ze (fun nf _ _ _=>Ko nf (x)) (fun r=>r=((dec (¬ Up x),()),[])):=fun x=>by
    refine Ze.succ (fun nf _ _ _=>Ko.eq nf _) ?_
    simp [Zd (Mm x),(Mm x).prop]
  refine upto ?_ (fun i hi next => ?_)
  · refine Ze.succ1 (fun nf fm0 _ _=>Zw.l0_eq nf fm0 _ _ _ _) ?_
    simp [-List.getD_eq_getElem?_getD,-List.length_eq_zero_iff,Zq,Zl,Zu,Zo,Z9,Z8,Xx]
    omega
  · rw [← Xv (by omega)] at next
    refine Ze.succ1 (fun nf fm0 _ _=>Zw.l0_eq nf fm0 _ _ _ _) ?_
    simp [-List.getD_eq_getElem?_getD,-List.length_eq_zero_iff,Zq,Zl,Zu,Zo,Z9,Z8,Xx,hi,Zd (cl (List.getD l i 0)),(cl (List.getD l i 0)).prop]
    refine ⟨fun h=>⟨i,Nat.le_refl i,hi,h⟩,fun h=>next.mono (fun v hv => ?_)⟩
    rw [hv]
    refine ⟨fun ⟨j,a,b,e⟩=>⟨j,by omega,b,e⟩,fun ⟨j,a,b,e⟩=>⟨j,?_,b,e⟩⟩
    by_cases hj:j=i
    · subst hj; exact absurd h e
    · omega
def Nc (l:List Int):Prop:=(∀ j,j<l.length→Up (List.getD l j 0))∧l.length≤16
theorem Mq (l:List Int) (hl:l.length≤1048576):Ze (fun nf _ _ _=>Gh nf (l)) (fun r=>r=((dec (Nc l),()),[])):=by
  have h1:Ze (fun nf _ _ _=>Zw nf (l)) (fun r=>0≤r.1.1↔∃ j,0≤j∧j<l.length∧¬ Up (List.getD l j 0)):=by
    refine Ze.succ (fun nf _ _ _=>Zw.eq nf _) ?_
    exact (BYb l hl _ 0 (Nat.zero_le _)).enter
  have h2:Ze (fun nf _ _ _=>X3 nf (l)) (fun r=>r=((dec (∃ j,0≤j∧j<l.length∧¬ Up (List.getD l j 0)),()),[])):=by
    refine Ze.succ (fun nf _ _ _=>X3.eq nf _) ?_
    simp only [Zd h1,V9,G7,h1.prop]
  refine Ze.succ (fun nf _ _ _=>Gh.eq nf _) ?_
  by_cases hn:(l.length:Int)≤16
  · have:l.length≤16:=by omega
    simp [Zd (h2),(h2).prop,hn,Nc,this]
  · have:¬ l.length≤16:=by omega
    simp [hn,Nc,this]
end Go.Proofs.YtmemggdjnfccfaaGreatDoor.Ghost
namespace Go.Proofs.YtmemggdjnfccfaaGreatDoor.Ghost
open Go
def W8 (l:List ByteArray) (k:Int):ByteArray:=if 0≤k∧k<(l.length:Int) then List.getD l (Int.toNat k) (dft .str) else (⟨#[]⟩:ByteArray)
theorem Ob (l:List ByteArray) (k:Int):Ze (fun nf _ _ _=>K8 nf (l) (k)) (fun r=>r=((W8 l k,()),[])):=by
  refine Ze.succ (fun nf _ _ _=>K8.eq nf _ _) ?_
  by_cases h1:k<0
  · simp [-List.getD_eq_getElem?_getD,-List.length_eq_zero_iff,Zq,Zl,Zu,Zo,Z9,Z8,Xx,h1,W8,show ¬ 0≤k by omega]
  · by_cases h2:(l.length:Int)≤k
    · simp [-List.getD_eq_getElem?_getD,-List.length_eq_zero_iff,Zq,Zl,Zu,Zo,Z9,Z8,Xx,h1,h2,W8,show ¬ k<(l.length:Int) by omega]
    · simp [-List.getD_eq_getElem?_getD,-List.length_eq_zero_iff,Zq,Zl,Zu,Zo,Z9,Z8,Xx,h1,h2,W8,show 0≤k by omega,show k<(l.length:Int) by omega]
theorem P9 (k:Int):Ze (fun nf _ _ _=>Ho nf (k)) (fun r=>r=((W8 I3 k,()),[])):=by
  refine Ze.succ (fun nf _ _ _=>Ho.eq nf _) ?_
  simp only [Zd (Ob I3 k),(Ob I3 k).prop,V9]
theorem AA3 (k:Int):Ze (fun nf _ _ _=>G3 nf (k)) (fun r=>r=((W8 I4 k,()),[])):=by
  refine Ze.succ (fun nf _ _ _=>G3.eq nf _) ?_
  simp only [Zd (Ob I4 k),(Ob I4 k).prop,V9]
theorem Dr (k:Int) (h:1≤k∧k≤10):k=1∨k=2∨k=3∨k=4∨k=5∨k=6∨k=7∨k=8∨k=9∨k=10:=by omega
theorem AH9 (k:Int) (h:0≤k∧k≤3):k=0∨k=1∨k=2∨k=3:=by omega
theorem Aj (k:Int):eqT .str (W8 I3 k) (⟨#[]⟩:ByteArray)=dec (¬ (1≤k∧k≤10)):=by
  by_cases h:1≤k∧k≤10
  · rw [Kq.2 (fun hn=>hn h)]
    rcases Dr k h with rfl | rfl | rfl | rfl | rfl | rfl | rfl | rfl | rfl | rfl <;> kernel_rfl
  · rw [Jj.2 h]
    by_cases h0:k=0
    · subst h0; kernel_rfl
    · have:W8 I3 k=(⟨#[]⟩:ByteArray):=by
        unfold W8
        rw [if_neg (by rw [show List.length (I3:List ByteArray)=11 from rfl]; omega)]
      rw [this]; rfl
theorem AK5 (k:Int):eqT .str (W8 I4 k) (⟨#[]⟩:ByteArray)=dec (¬ (0≤k∧k≤3)):=by
  by_cases h:0≤k∧k≤3
  · rw [Kq.2 (fun hn=>hn h)]
    rcases AH9 k h with rfl | rfl | rfl | rfl <;> kernel_rfl
  · rw [Jj.2 h]
    have:W8 I4 k=(⟨#[]⟩:ByteArray):=by
      unfold W8
      rw [if_neg (by rw [show List.length (I4:List ByteArray)=4 from rfl]; omega)]
    rw [this]; rfl
theorem G0:Nc []:=⟨fun j hj=>by simp at hj,by simp⟩
theorem Wc (n:Int) (h:Prop):G8 n h=((h→Up n)∧(¬ h→n=0)):=rfl
theorem Wf (l:List Int) (h:Prop):Fq l h=((h→Nc l)∧(¬ h→l=[])):=rfl
theorem Hv:Up 0:=⟨by decide,by decide⟩
theorem AJn (c:Cm) (h1:(Xj c).length≤1048576) (h2:(Xl c).length≤1048576):Ze (fun nf _ _ _=>Hg nf (c)) (fun r=>r=((dec (Pm c),()),[])):=by
  have hmay:Pm c↔1≤Z4 c∧Z4 c≤10∧0≤H5 c∧H5 c≤3∧(¬ H5 c=0→Z4 c≤2)∧G8 (X5 c) (3≤Z4 c∧Z4 c≤7)∧G8 (Hx c) (Z4 c=5∨Z4 c=6)∧G8 (Jz c) (Z4 c=2∨Z4 c=7∨Z4 c=8)∧G8 (G6 c) (Z4 c=8)∧G8 (G5 c) (Z4 c=8)∧Fq (Xj c) (Z4 c=8)∧Fq (Xl c) (Z4 c=8) :=
    ⟨fun h=>⟨h.k1,h.k2,h.d1,h.d2,h.d3,h.item,h.box,h.who,h.pay,h.fee,h.gives,h.wants⟩,fun ⟨a,b,c,d,e,f,g,h,i,j,k,l⟩=>⟨a,b,c,d,e,f,g,h,i,j,k,l⟩⟩
  rw [show Pm c=_ from propext hmay]
  have key:∀ (kd dir item box who pay fee:Int) (gives wants:List Int),gives.length≤1048576→wants.length≤1048576→Ze (fun nf _ _ _=>Hg nf ((kd,dir,item,box,who,gives,pay,wants,fee,()))) (fun r=>r=((dec (1≤kd∧kd≤10∧0≤dir∧dir≤3∧(¬ dir=0→kd≤2)∧G8 item (3≤kd∧kd≤7)∧G8 box (kd=5∨kd=6)∧G8 who (kd=2∨kd=7∨kd=8)∧G8 pay (kd=8)∧G8 fee (kd=8)∧Fq gives (kd=8)∧Fq wants (kd=8)),()),[])):=by
    intro kd dir item box who pay fee gives wants h1 h2
    by_cases hk:1≤kd∧kd≤10
    · have spec:∀ b:Cm,Ze (fun nf _ _ _=>Qo nf ((kd,dir,item,box,who,gives,pay,wants,fee,()))) (fun r=>r=((b,()),[]))→Ze (fun nf _ _ _=>Hg nf ((kd,dir,item,box,who,gives,pay,wants,fee,()))) (fun r=>r=((dec (((kd,dir,item,box,who,gives,pay,wants,fee,()):Cm)=b∧(0≤dir∧dir≤3)∧Up item∧Up box∧Up who∧Up pay∧Up fee∧Nc gives∧Nc wants),()),[])):=fun b hb=>by
        have hs:=AG2 (kd,dir,item,box,who,gives,pay,wants,fee,()) b h1 h2
        refine Ze.succ (fun nf _ _ _=>Hg.eq nf _) ?_
        simp only [Zd (P9 kd),(P9 kd).prop,Aj,Kq.2 (fun hn:¬ (1≤kd∧kd≤10)=>hn hk),Bool.not_false,cond_true,Zd hb,hb.prop,Zd hs,hs.prop]
        by_cases g1:((kd,dir,item,box,who,gives,pay,wants,fee,()):Cm)=b <;> by_cases g2:0≤dir∧dir≤3 <;> by_cases g3:Up item <;> by_cases g4:Up box <;> by_cases g5:Up who <;> by_cases g6:Up pay <;> by_cases g7:Up fee <;> by_cases g8:Nc gives <;>
          simp only [g1,g2,g3,g4,g5,g6,g7,g8,AMv,AJr,cond_true,cond_false,V9,Zd (AA3 dir),(AA3 dir).prop,AK5,not_true_eq_false,not_false_eq_true,Bool.not_true,Bool.not_false,Zd (Mm _),(Mm _).prop,Zd (Mq gives h1),(Mq gives h1).prop,Zd (Mq wants h2),(Mq wants h2).prop,true_and,false_and,and_true,and_false]
      rcases Dr kd hk with rfl | rfl | rfl | rfl | rfl | rfl | rfl | rfl | rfl | rfl
      · have s:=spec (1,dir,0,0,0,[],0,[],0,()) (by
          refine Ze.succ (fun nf _ _ _=>Qo.eq nf _) ?_
          simp)
        refine s.mono (fun v hv => ?_)
        rw [hv]
        refine Prod.ext (Prod.ext ?_ rfl) rfl
        simp only [R8]
        simp only [Wc,Wf]
        have f0:∀ n,n=0→Up n:=fun n e=>e ▸ Hv
        have r0:∀ l,l=[]→Nc l:=fun l e=>e ▸ G0
        have f1:=f0 item; have f2:=f0 box; have f3:=f0 who; have f4:=f0 pay; have f5:=f0 fee; have r1:=r0 gives; have r2:=r0 wants
        clear spec s hv f0 r0 hmay
        simp
        grind
      · have s:=spec (2,dir,0,0,who,[],0,[],0,()) (by
          refine Ze.succ (fun nf _ _ _=>Qo.eq nf _) ?_
          simp)
        refine s.mono (fun v hv => ?_)
        rw [hv]
        refine Prod.ext (Prod.ext ?_ rfl) rfl
        simp only [R8]
        simp only [Wc,Wf]
        have f0:∀ n,n=0→Up n:=fun n e=>e ▸ Hv
        have r0:∀ l,l=[]→Nc l:=fun l e=>e ▸ G0
        have f1:=f0 item; have f2:=f0 box; have f3:=f0 who; have f4:=f0 pay; have f5:=f0 fee; have r1:=r0 gives; have r2:=r0 wants
        clear spec s hv f0 r0 hmay
        simp
        grind
      · have s:=spec (3,0,item,0,0,[],0,[],0,()) (by
          refine Ze.succ (fun nf _ _ _=>Qo.eq nf _) ?_
          simp)
        refine s.mono (fun v hv => ?_)
        rw [hv]
        refine Prod.ext (Prod.ext ?_ rfl) rfl
        simp only [R8]
        simp only [Wc,Wf]
        have f0:∀ n,n=0→Up n:=fun n e=>e ▸ Hv
        have r0:∀ l,l=[]→Nc l:=fun l e=>e ▸ G0
        have f1:=f0 item; have f2:=f0 box; have f3:=f0 who; have f4:=f0 pay; have f5:=f0 fee; have r1:=r0 gives; have r2:=r0 wants
        clear spec s hv f0 r0 hmay
        simp
        grind
      · have s:=spec (4,0,item,0,0,[],0,[],0,()) (by
          refine Ze.succ (fun nf _ _ _=>Qo.eq nf _) ?_
          simp)
        refine s.mono (fun v hv => ?_)
        rw [hv]
        refine Prod.ext (Prod.ext ?_ rfl) rfl
        simp only [R8]
        simp only [Wc,Wf]
        have f0:∀ n,n=0→Up n:=fun n e=>e ▸ Hv
        have r0:∀ l,l=[]→Nc l:=fun l e=>e ▸ G0
        have f1:=f0 item; have f2:=f0 box; have f3:=f0 who; have f4:=f0 pay; have f5:=f0 fee; have r1:=r0 gives; have r2:=r0 wants
        clear spec s hv f0 r0 hmay
        simp
        grind
      · have s:=spec (5,0,item,box,0,[],0,[],0,()) (by
          refine Ze.succ (fun nf _ _ _=>Qo.eq nf _) ?_
          simp)
        refine s.mono (fun v hv => ?_)
        rw [hv]
        refine Prod.ext (Prod.ext ?_ rfl) rfl
        simp only [R8]
        simp only [Wc,Wf]
        have f0:∀ n,n=0→Up n:=fun n e=>e ▸ Hv
        have r0:∀ l,l=[]→Nc l:=fun l e=>e ▸ G0
        have f1:=f0 item; have f2:=f0 box; have f3:=f0 who; have f4:=f0 pay; have f5:=f0 fee; have r1:=r0 gives; have r2:=r0 wants
        clear spec s hv f0 r0 hmay
        simp
        grind
      · have s:=spec (6,0,item,box,0,[],0,[],0,()) (by
          refine Ze.succ (fun nf _ _ _=>Qo.eq nf _) ?_
          simp)
        refine s.mono (fun v hv => ?_)
        rw [hv]
        refine Prod.ext (Prod.ext ?_ rfl) rfl
        simp only [R8]
        simp only [Wc,Wf]
        have f0:∀ n,n=0→Up n:=fun n e=>e ▸ Hv
        have r0:∀ l,l=[]→Nc l:=fun l e=>e ▸ G0
        have f1:=f0 item; have f2:=f0 box; have f3:=f0 who; have f4:=f0 pay; have f5:=f0 fee; have r1:=r0 gives; have r2:=r0 wants
        clear spec s hv f0 r0 hmay
        simp
        grind
      · have s:=spec (7,0,item,0,who,[],0,[],0,()) (by
          refine Ze.succ (fun nf _ _ _=>Qo.eq nf _) ?_
          simp)
        refine s.mono (fun v hv => ?_)
        rw [hv]
        refine Prod.ext (Prod.ext ?_ rfl) rfl
        simp only [R8]
        simp only [Wc,Wf]
        have f0:∀ n,n=0→Up n:=fun n e=>e ▸ Hv
        have r0:∀ l,l=[]→Nc l:=fun l e=>e ▸ G0
        have f1:=f0 item; have f2:=f0 box; have f3:=f0 who; have f4:=f0 pay; have f5:=f0 fee; have r1:=r0 gives; have r2:=r0 wants
        clear spec s hv f0 r0 hmay
        simp
        grind
      · have s:=spec (8,0,0,0,who,gives,pay,wants,fee,()) (by
          refine Ze.succ (fun nf _ _ _=>Qo.eq nf _) ?_
          simp)
        refine s.mono (fun v hv => ?_)
        rw [hv]
        refine Prod.ext (Prod.ext ?_ rfl) rfl
        simp only [R8]
        simp only [Wc,Wf]
        have f0:∀ n,n=0→Up n:=fun n e=>e ▸ Hv
        have r0:∀ l,l=[]→Nc l:=fun l e=>e ▸ G0
        have f1:=f0 item; have f2:=f0 box; have f3:=f0 who; have f4:=f0 pay; have f5:=f0 fee; have r1:=r0 gives; have r2:=r0 wants
        clear spec s hv f0 r0 hmay
        simp
        grind
      · have s:=spec (9,0,0,0,0,[],0,[],0,()) (by
          refine Ze.succ (fun nf _ _ _=>Qo.eq nf _) ?_
          simp)
        refine s.mono (fun v hv => ?_)
        rw [hv]
        refine Prod.ext (Prod.ext ?_ rfl) rfl
        simp only [R8]
        simp only [Wc,Wf]
        have f0:∀ n,n=0→Up n:=fun n e=>e ▸ Hv
        have r0:∀ l,l=[]→Nc l:=fun l e=>e ▸ G0
        have f1:=f0 item; have f2:=f0 box; have f3:=f0 who; have f4:=f0 pay; have f5:=f0 fee; have r1:=r0 gives; have r2:=r0 wants
        clear spec s hv f0 r0 hmay
        simp
        grind
      · have s:=spec (10,0,0,0,0,[],0,[],0,()) (by
          refine Ze.succ (fun nf _ _ _=>Qo.eq nf _) ?_
          simp)
        refine s.mono (fun v hv => ?_)
        rw [hv]
        refine Prod.ext (Prod.ext ?_ rfl) rfl
        simp only [R8]
        simp only [Wc,Wf]
        have f0:∀ n,n=0→Up n:=fun n e=>e ▸ Hv
        have r0:∀ l,l=[]→Nc l:=fun l e=>e ▸ G0
        have f1:=f0 item; have f2:=f0 box; have f3:=f0 who; have f4:=f0 pay; have f5:=f0 fee; have r1:=r0 gives; have r2:=r0 wants
        clear spec s hv f0 r0 hmay
        simp
        grind
    · refine Ze.succ (fun nf _ _ _=>Hg.eq nf _) ?_
      simp only [Zd (P9 kd),(P9 kd).prop,Aj,Jj.2 hk,Bool.not_true,cond_false,V9]
      rw [Kq.2 (fun h=>hk ⟨h.1,h.2.1⟩)]
  exact key _ _ _ _ _ _ _ _ _ h1 h2
end Go.Proofs.YtmemggdjnfccfaaGreatDoor.Ghost
