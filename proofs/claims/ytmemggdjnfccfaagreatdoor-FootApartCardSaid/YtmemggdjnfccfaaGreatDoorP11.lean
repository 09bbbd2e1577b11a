/- What functions come to, and that the statements are answered with 'true'. Conditions: none. -/
import Derived.Test.YtmemggdjnfccfaaGreatDoorS
import Derived.Test.YtmemggdjnfccfaaGreatDoorGE
import Derived.Test.YtmemggdjnfccfaaGreatDoorP1
import Derived.Test.YtmemggdjnfccfaaGreatDoorP2
import Derived.Test.YtmemggdjnfccfaaGreatDoorP3
import Derived.Test.YtmemggdjnfccfaaGreatDoorP4
import Derived.Test.YtmemggdjnfccfaaGreatDoorP5
import Derived.Test.YtmemggdjnfccfaaGreatDoorP6
import Derived.Test.YtmemggdjnfccfaaGreatDoorP7
import Derived.Test.YtmemggdjnfccfaaGreatDoorP8
import Derived.Test.YtmemggdjnfccfaaGreatDoorP9
import Derived.Test.YtmemggdjnfccfaaGreatDoorP10
set_option linter.unusedVariables false
set_option linter.unusedSimpArgs false
set_option linter.unusedSectionVars false
set_option linter.unnecessarySimpa false
namespace Go.Proofs.YtmemggdjnfccfaaGreatDoor.Ghost
open Go
theorem BLz (a b:List Int) (ha:a.length≤1048576) (hl:a.length=b.length) (t4:Bool):∀ i,i≤a.length→Zd (fun nf fm0 _ _=>Zq.l0 nf fm0 (a) (b) t4 ((a.length:Int)) ((i:Int))) (fun r=>r=((dec (∀ j,i≤j→j<a.length→List.getD a j 0=List.getD b j 0),()),[])):=by
  refine upto ?_ (fun i hi next => ?_)
  · refine Zd.succ1 (fun nf fm0 _ _=>Zq.l0_eq nf fm0 _ _ _ _ _) ?_
    simp [-List.getD_eq_getElem?_getD,-List.length_eq_zero_iff,Zp,Zm,Zy,Zo,Xj,Xi,Yb]
    intro j h1 h2; omega
  · rw [← Xv (by omega)] at next
    have hi2:i<b.length:=by omega
    refine Zd.succ1 (fun nf fm0 _ _=>Zq.l0_eq nf fm0 _ _ _ _ _) ?_
    by_cases e:List.getD a i 0=List.getD b i 0
    · simp [-List.getD_eq_getElem?_getD,-List.length_eq_zero_iff,Zp,Zm,Zy,Zo,Xj,Xi,Yb,hi,hi2,e]
      refine next.mono (fun v hv => ?_)
      rw [hv]
      have:(∀ j,i+1≤j→j<a.length→List.getD a j 0=List.getD b j 0)=(∀ j,i≤j→j<a.length→List.getD a j 0=List.getD b j 0):=propext ⟨fun h j h1 h2=>by
        by_cases hj:j=i
        · subst hj; exact e
        · exact h j (by omega) h2,fun h j h1 h2=>h j (by omega) h2⟩
      rw [this]
    · simp [-List.getD_eq_getElem?_getD,-List.length_eq_zero_iff,Zp,Zm,Zy,Zo,Xj,Xi,Yb,hi,hi2,e]
      exact ⟨i,Nat.le_refl i,hi,e⟩
theorem AFd (a b:List Int) (ha:a.length≤1048576):Zd (fun nf _ _ _=>Zq nf (a) (b)) (fun r=>r=((dec (a=b),()),[])):=by
  by_cases hl:a.length=b.length
  · have l0:=(BLz a b ha hl false 0 (Nat.zero_le _)).enter
    have:(∀ j,0≤j→j<a.length→List.getD a j 0=List.getD b j 0)=(a=b):=propext ⟨fun h=>G7 0 hl (fun j hj=>h j (Nat.zero_le j) hj),fun h j _ _=>by rw [h]⟩
    rw [this] at l0
    refine Zd.succ (fun nf _ _ _=>Zq.eq nf _ _) ?_
    simp [-List.getD_eq_getElem?_getD,-List.length_eq_zero_iff,Zp,Zm,Zy,Zo,Xj,Xi,Yb,hl]
    rw [hl] at l0
    exact l0
  · have e:¬ a=b:=fun e=>hl (by rw [e])
    refine Zd.succ (fun nf _ _ _=>Zq.eq nf _ _) ?_
    simp [-List.getD_eq_getElem?_getD,-List.length_eq_zero_iff,Zp,Zm,Zy,Zo,Xj,Xi,Yb,hl,e,show ¬ (a.length:Int)=(b.length:Int) by omega]
end Go.Proofs.YtmemggdjnfccfaaGreatDoor.Ghost
namespace Go.Proofs.YtmemggdjnfccfaaGreatDoor.Ghost
open Go
theorem D4 (x y:den U4):eqT U4 x y=dec (x=y):=by
  obtain ⟨a1,a2,a3,a4,a5,a6,a7,⟨⟩⟩:=x
  obtain ⟨b1,b2,b3,b4,b5,b6,b7,⟨⟩⟩:=y
  rw [Bool.eq_iff_iff,Jl]
  simp [eqT,Ad]
theorem AHo (a b:Cm) (h1:(Xb a).length≤1048576) (h2:(Xg a).length≤1048576):Zd (fun nf _ _ _=>Hx nf (a) (b)) (fun r=>r=((dec (a=b),()),[])):=by
  have of_:∀ c:Cm,Zd (fun nf _ _ _=>U8 nf (c)) (fun r=>r=(((Z2 c,Hg c,X4 c,H6 c,Y6 c,K9 c,K8 c,()),()),[])):=fun c=>by
    refine Zd.succ (fun nf _ _ _=>U8.eq nf _) ?_
    simp
  have e:(a=b)=(((Z2 a,Hg a,X4 a,H6 a,Y6 a,K9 a,K8 a,()):den U4)=(Z2 b,Hg b,X4 b,H6 b,Y6 b,K9 b,K8 b,())∧Xb a=Xb b∧Xg a=Xg b):=by
    obtain ⟨a1,a2,a3,a4,a5,a6,a7,a8,a9,⟨⟩⟩:=a
    obtain ⟨b1,b2,b3,b4,b5,b6,b7,b8,b9,⟨⟩⟩:=b
    refine propext ?_
    simp
    grind
  obtain ⟨b4,e4,s4⟩:∃ x,(x=true)=(Xb a=Xb b)∧Zd (fun nf _ _ _=>Zq nf (Xb a) (Xb b)) (fun r=>r=((x,()),[])):=⟨_,propext Jl,AFd _ _ h1⟩
  obtain ⟨b5,e5,s5⟩:∃ x,(x=true)=(Xg a=Xg b)∧Zd (fun nf _ _ _=>Zq nf (Xg a) (Xg b)) (fun r=>r=((x,()),[])):=⟨_,propext Jl,AFd _ _ h2⟩
  rw [e,← e4,← e5]
  refine Zd.succ (fun nf _ _ _=>Hx.eq nf _ _) ?_
  by_cases h:((Z2 a,Hg a,X4 a,H6 a,Y6 a,K9 a,K8 a,()):den U4)=(Z2 b,Hg b,X4 b,H6 b,Y6 b,K9 b,K8 b,())
  · simp only [Ze (of_ a),(of_ a).prop,Ze (of_ b),(of_ b).prop,D4,Jl.2 h,cond_true]
    simp only [Ze s4,s4.prop]
    cases b4
    · simp only [cond_false,Gu]; simp [h]
    · simp only [cond_true,Ze s5,s5.prop,Gu]
      cases b5 <;> simp [h]
  · simp only [Ze (of_ a),(of_ a).prop,Ze (of_ b),(of_ b).prop,D4,Ks.2 h,cond_false,Gu]
    rw [Ks.2 (fun hh=>h hh.1)]
def Uw (n:Int):Prop:=0≤n∧n≤1073741824
theorem M7 (a:Int):Zd (fun nf _ _ _=>K0 nf (a)) (fun r=>r=((dec (Uw a),()),[])):=by
  refine Zd.succ (fun nf _ _ _=>K0.eq nf _) ?_
  by_cases h:0≤a <;> simp [h,Uw,Ud]
theorem CAf (l:List Int) (hl:l.length≤1048576) (t4:Int):∀ i,i≤l.length→Zd (fun nf fm0 _ _=>Zu.l0 nf fm0 (l) t4 ((l.length:Int)) ((i:Int))) (fun r=>0≤r.1.1↔∃ j,i≤j∧j<l.length∧¬ Uw (List.getD l j 0)):=by
  have cl:∀ x,Zd (fun nf _ _ _=>Kq nf (x)) (fun r=>r=((dec (¬ Uw x),()),[])):=fun x=>by
    refine Zd.succ (fun nf _ _ _=>Kq.eq nf _) ?_
    simp [Ze (M7 x),(M7 x).prop]
  refine upto ?_ (fun i hi next => ?_)
  · refine Zd.succ1 (fun nf fm0 _ _=>Zu.l0_eq nf fm0 _ _ _ _) ?_
    simp [-List.getD_eq_getElem?_getD,-List.length_eq_zero_iff,Zp,Zm,Zy,Zo,Xj,Xi,Yb]
    omega
  · rw [← Xv (by omega)] at next
    refine Zd.succ1 (fun nf fm0 _ _=>Zu.l0_eq nf fm0 _ _ _ _) ?_
    simp [-List.getD_eq_getElem?_getD,-List.length_eq_zero_iff,Zp,Zm,Zy,Zo,Xj,Xi,Yb,hi,Ze (cl (List.getD l i 0)),(cl (List.getD l i 0)).prop]
    refine ⟨fun h=>⟨i,Nat.le_refl i,hi,h⟩,fun h=>next.mono (fun v hv => ?_)⟩
    rw [hv]
    refine ⟨fun ⟨j,a,b,e⟩=>⟨j,by omega,b,e⟩,fun ⟨j,a,b,e⟩=>⟨j,?_,b,e⟩⟩
    by_cases hj:j=i
    · subst hj; exact absurd h e
    · omega
def Nw (l:List Int):Prop:=(∀ j,j<l.length→Uw (List.getD l j 0))∧l.length≤16
theorem Lb (l:List Int) (hl:l.length≤1048576):Zd (fun nf _ _ _=>Gs nf (l)) (fun r=>r=((dec (Nw l),()),[])):=by
  have h1:Zd (fun nf _ _ _=>Zu nf (l)) (fun r=>0≤r.1.1↔∃ j,0≤j∧j<l.length∧¬ Uw (List.getD l j 0)):=by
    refine Zd.succ (fun nf _ _ _=>Zu.eq nf _) ?_
    exact (CAf l hl _ 0 (Nat.zero_le _)).enter
  have h2:Zd (fun nf _ _ _=>X8 nf (l)) (fun r=>r=((dec (∃ j,0≤j∧j<l.length∧¬ Uw (List.getD l j 0)),()),[])):=by
    refine Zd.succ (fun nf _ _ _=>X8.eq nf _) ?_
    simp only [Ze h1,Gu,Ud,h1.prop]
  refine Zd.succ (fun nf _ _ _=>Gs.eq nf _) ?_
  by_cases hn:(l.length:Int)≤16
  · have:l.length≤16:=by omega
    simp [Ze (h2),(h2).prop,hn,Nw,this]
  · have:¬ l.length≤16:=by omega
    simp [hn,Nw,this]
end Go.Proofs.YtmemggdjnfccfaaGreatDoor.Ghost
namespace Go.Proofs.YtmemggdjnfccfaaGreatDoor.Ghost
open Go
def Tg (l:List ByteArray) (k:Int):ByteArray:=if 0≤k∧k<(l.length:Int) then List.getD l (Int.toNat k) (dft .str) else (⟨#[]⟩:ByteArray)
theorem Or (l:List ByteArray) (k:Int):Zd (fun nf _ _ _=>Hd nf (l) (k)) (fun r=>r=((Tg l k,()),[])):=by
  refine Zd.succ (fun nf _ _ _=>Hd.eq nf _ _) ?_
  by_cases h1:k<0
  · simp [-List.getD_eq_getElem?_getD,-List.length_eq_zero_iff,Zp,Zm,Zy,Zo,Xj,Xi,Yb,h1,Tg,show ¬ 0≤k by omega]
  · by_cases h2:(l.length:Int)≤k
    · simp [-List.getD_eq_getElem?_getD,-List.length_eq_zero_iff,Zp,Zm,Zy,Zo,Xj,Xi,Yb,h1,h2,Tg,show ¬ k<(l.length:Int) by omega]
    · simp [-List.getD_eq_getElem?_getD,-List.length_eq_zero_iff,Zp,Zm,Zy,Zo,Xj,Xi,Yb,h1,h2,Tg,show 0≤k by omega,show k<(l.length:Int) by omega]
theorem Oo (k:Int):Zd (fun nf _ _ _=>Hw nf (k)) (fun r=>r=((Tg Fh k,()),[])):=by
  refine Zd.succ (fun nf _ _ _=>Hw.eq nf _) ?_
  simp only [Ze (Or Fh k),(Or Fh k).prop,Gu]
theorem ABm (k:Int):Zd (fun nf _ _ _=>Uc nf (k)) (fun r=>r=((Tg Fi k,()),[])):=by
  refine Zd.succ (fun nf _ _ _=>Uc.eq nf _) ?_
  simp only [Ze (Or Fi k),(Or Fi k).prop,Gu]
theorem Ca (k:Int) (h:1≤k∧k≤10):k=1∨k=2∨k=3∨k=4∨k=5∨k=6∨k=7∨k=8∨k=9∨k=10:=by omega
theorem AIw (k:Int) (h:0≤k∧k≤3):k=0∨k=1∨k=2∨k=3:=by omega
theorem AAd (k:Int):eqT .str (Tg Fh k) (⟨#[]⟩:ByteArray)=dec (¬ (1≤k∧k≤10)):=by
  by_cases h:1≤k∧k≤10
  · rw [Ks.2 (fun hn=>hn h)]
    rcases Ca k h with rfl | rfl | rfl | rfl | rfl | rfl | rfl | rfl | rfl | rfl <;> kernel_rfl
  · rw [Jl.2 h]
    by_cases h0:k=0
    · subst h0; kernel_rfl
    · have:Tg Fh k=(⟨#[]⟩:ByteArray):=by
        unfold Tg
        rw [if_neg (by rw [show List.length (Fh:List ByteArray)=11 from rfl]; omega)]
      rw [this]; rfl
theorem ALu (k:Int):eqT .str (Tg Fi k) (⟨#[]⟩:ByteArray)=dec (¬ (0≤k∧k≤3)):=by
  by_cases h:0≤k∧k≤3
  · rw [Ks.2 (fun hn=>hn h)]
    rcases AIw k h with rfl | rfl | rfl | rfl <;> kernel_rfl
  · rw [Jl.2 h]
    have:Tg Fi k=(⟨#[]⟩:ByteArray):=by
      unfold Tg
      rw [if_neg (by rw [show List.length (Fi:List ByteArray)=4 from rfl]; omega)]
    rw [this]; rfl
theorem Ua:Nw []:=⟨fun j hj=>by simp at hj,by simp⟩
theorem Wl (n:Int) (h:Prop):Ue n h=((h→Uw n)∧(¬ h→n=0)):=rfl
theorem Wo (l:List Int) (h:Prop):F5 l h=((h→Nw l)∧(¬ h→l=[])):=rfl
theorem H4:Uw 0:=⟨by decide,by decide⟩
theorem AKb (c:Cm) (h1:(Xb c).length≤1048576) (h2:(Xg c).length≤1048576):Zd (fun nf _ _ _=>Hn nf (c)) (fun r=>r=((dec (Ws c),()),[])):=by
  have hmay:Ws c↔1≤Z2 c∧Z2 c≤10∧0≤Hg c∧Hg c≤3∧(¬ Hg c=0→Z2 c≤2)∧Ue (X4 c) (3≤Z2 c∧Z2 c≤7)∧Ue (H6 c) (Z2 c=5∨Z2 c=6)∧Ue (Y6 c) (Z2 c=2∨Z2 c=7∨Z2 c=8)∧Ue (K9 c) (Z2 c=8)∧Ue (K8 c) (Z2 c=8)∧F5 (Xb c) (Z2 c=8)∧F5 (Xg c) (Z2 c=8) :=
    ⟨fun h=>⟨h.k1,h.k2,h.d1,h.d2,h.d3,h.item,h.box,h.who,h.pay,h.fee,h.gives,h.wants⟩,fun ⟨a,b,c,d,e,f,g,h,i,j,k,l⟩=>⟨a,b,c,d,e,f,g,h,i,j,k,l⟩⟩
  rw [show Ws c=_ from propext hmay]
  have key:∀ (kd dir item box who pay fee:Int) (gives wants:List Int),gives.length≤1048576→wants.length≤1048576→Zd (fun nf _ _ _=>Hn nf ((kd,dir,item,box,who,gives,pay,wants,fee,()))) (fun r=>r=((dec (1≤kd∧kd≤10∧0≤dir∧dir≤3∧(¬ dir=0→kd≤2)∧Ue item (3≤kd∧kd≤7)∧Ue box (kd=5∨kd=6)∧Ue who (kd=2∨kd=7∨kd=8)∧Ue pay (kd=8)∧Ue fee (kd=8)∧F5 gives (kd=8)∧F5 wants (kd=8)),()),[])):=by
    intro kd dir item box who pay fee gives wants h1 h2
    by_cases hk:1≤kd∧kd≤10
    · have spec:∀ b:Cm,Zd (fun nf _ _ _=>Qw nf ((kd,dir,item,box,who,gives,pay,wants,fee,()))) (fun r=>r=((b,()),[]))→Zd (fun nf _ _ _=>Hn nf ((kd,dir,item,box,who,gives,pay,wants,fee,()))) (fun r=>r=((dec (((kd,dir,item,box,who,gives,pay,wants,fee,()):Cm)=b∧(0≤dir∧dir≤3)∧Uw item∧Uw box∧Uw who∧Uw pay∧Uw fee∧Nw gives∧Nw wants),()),[])):=fun b hb=>by
        have hs:=AHo (kd,dir,item,box,who,gives,pay,wants,fee,()) b h1 h2
        refine Zd.succ (fun nf _ _ _=>Hn.eq nf _) ?_
        simp only [Ze (Oo kd),(Oo kd).prop,AAd,Ks.2 (fun hn:¬ (1≤kd∧kd≤10)=>hn hk),Bool.not_false,cond_true,Ze hb,hb.prop,Ze hs,hs.prop]
        by_cases g1:((kd,dir,item,box,who,gives,pay,wants,fee,()):Cm)=b <;> by_cases g2:0≤dir∧dir≤3 <;> by_cases g3:Uw item <;> by_cases g4:Uw box <;> by_cases g5:Uw who <;> by_cases g6:Uw pay <;> by_cases g7:Uw fee <;> by_cases g8:Nw gives <;>
          simp only [g1,g2,g3,g4,g5,g6,g7,g8,ANl,AKe,cond_true,cond_false,Gu,Ze (ABm dir),(ABm dir).prop,ALu,not_true_eq_false,not_false_eq_true,Bool.not_true,Bool.not_false,Ze (M7 _),(M7 _).prop,Ze (Lb gives h1),(Lb gives h1).prop,Ze (Lb wants h2),(Lb wants h2).prop,true_and,false_and,and_true,and_false]
      rcases Ca kd hk with rfl | rfl | rfl | rfl | rfl | rfl | rfl | rfl | rfl | rfl
      · have s:=spec (1,dir,0,0,0,[],0,[],0,()) (by
          refine Zd.succ (fun nf _ _ _=>Qw.eq nf _) ?_
          simp)
        refine s.mono (fun v hv => ?_)
        rw [hv]
        refine Prod.ext (Prod.ext ?_ rfl) rfl
        simp only [Pn]
        simp only [Wl,Wo]
        have f0:∀ n,n=0→Uw n:=fun n e=>e ▸ H4
        have r0:∀ l,l=[]→Nw l:=fun l e=>e ▸ Ua
        have f1:=f0 item; have f2:=f0 box; have f3:=f0 who; have f4:=f0 pay; have f5:=f0 fee; have r1:=r0 gives; have r2:=r0 wants
        clear spec s hv f0 r0 hmay
        simp
        grind
      · have s:=spec (2,dir,0,0,who,[],0,[],0,()) (by
          refine Zd.succ (fun nf _ _ _=>Qw.eq nf _) ?_
          simp)
        refine s.mono (fun v hv => ?_)
        rw [hv]
        refine Prod.ext (Prod.ext ?_ rfl) rfl
        simp only [Pn]
        simp only [Wl,Wo]
        have f0:∀ n,n=0→Uw n:=fun n e=>e ▸ H4
        have r0:∀ l,l=[]→Nw l:=fun l e=>e ▸ Ua
        have f1:=f0 item; have f2:=f0 box; have f3:=f0 who; have f4:=f0 pay; have f5:=f0 fee; have r1:=r0 gives; have r2:=r0 wants
        clear spec s hv f0 r0 hmay
        simp
        grind
      · have s:=spec (3,0,item,0,0,[],0,[],0,()) (by
          refine Zd.succ (fun nf _ _ _=>Qw.eq nf _) ?_
          simp)
        refine s.mono (fun v hv => ?_)
        rw [hv]
        refine Prod.ext (Prod.ext ?_ rfl) rfl
        simp only [Pn]
        simp only [Wl,Wo]
        have f0:∀ n,n=0→Uw n:=fun n e=>e ▸ H4
        have r0:∀ l,l=[]→Nw l:=fun l e=>e ▸ Ua
        have f1:=f0 item; have f2:=f0 box; have f3:=f0 who; have f4:=f0 pay; have f5:=f0 fee; have r1:=r0 gives; have r2:=r0 wants
        clear spec s hv f0 r0 hmay
        simp
        grind
      · have s:=spec (4,0,item,0,0,[],0,[],0,()) (by
          refine Zd.succ (fun nf _ _ _=>Qw.eq nf _) ?_
          simp)
        refine s.mono (fun v hv => ?_)
        rw [hv]
        refine Prod.ext (Prod.ext ?_ rfl) rfl
        simp only [Pn]
        simp only [Wl,Wo]
        have f0:∀ n,n=0→Uw n:=fun n e=>e ▸ H4
        have r0:∀ l,l=[]→Nw l:=fun l e=>e ▸ Ua
        have f1:=f0 item; have f2:=f0 box; have f3:=f0 who; have f4:=f0 pay; have f5:=f0 fee; have r1:=r0 gives; have r2:=r0 wants
        clear spec s hv f0 r0 hmay
        simp
        grind
      · have s:=spec (5,0,item,box,0,[],0,[],0,()) (by
          refine Zd.succ (fun nf _ _ _=>Qw.eq nf _) ?_
          simp)
        refine s.mono (fun v hv => ?_)
        rw [hv]
        refine Prod.ext (Prod.ext ?_ rfl) rfl
        simp only [Pn]
        simp only [Wl,Wo]
        have f0:∀ n,n=0→Uw n:=fun n e=>e ▸ H4
        have r0:∀ l,l=[]→Nw l:=fun l e=>e ▸ Ua
        have f1:=f0 item; have f2:=f0 box; have f3:=f0 who; have f4:=f0 pay; have f5:=f0 fee; have r1:=r0 gives; have r2:=r0 wants
        clear spec s hv f0 r0 hmay
        simp
        grind
      · have s:=spec (6,0,item,box,0,[],0,[],0,()) (by
          refine Zd.succ (fun nf _ _ _=>Qw.eq nf _) ?_
          simp)
        refine s.mono (fun v hv => ?_)
        rw [hv]
        refine Prod.ext (Prod.ext ?_ rfl) rfl
        simp only [Pn]
        simp only [Wl,Wo]
        have f0:∀ n,n=0→Uw n:=fun n e=>e ▸ H4
        have r0:∀ l,l=[]→Nw l:=fun l e=>e ▸ Ua
        have f1:=f0 item; have f2:=f0 box; have f3:=f0 who; have f4:=f0 pay; have f5:=f0 fee; have r1:=r0 gives; have r2:=r0 wants
        clear spec s hv f0 r0 hmay
        simp
        grind
      · have s:=spec (7,0,item,0,who,[],0,[],0,()) (by
          refine Zd.succ (fun nf _ _ _=>Qw.eq nf _) ?_
          simp)
        refine s.mono (fun v hv => ?_)
        rw [hv]
        refine Prod.ext (Prod.ext ?_ rfl) rfl
        simp only [Pn]
        simp only [Wl,Wo]
        have f0:∀ n,n=0→Uw n:=fun n e=>e ▸ H4
        have r0:∀ l,l=[]→Nw l:=fun l e=>e ▸ Ua
        have f1:=f0 item; have f2:=f0 box; have f3:=f0 who; have f4:=f0 pay; have f5:=f0 fee; have r1:=r0 gives; have r2:=r0 wants
        clear spec s hv f0 r0 hmay
        simp
        grind
      · have s:=spec (8,0,0,0,who,gives,pay,wants,fee,()) (by
          refine Zd.succ (fun nf _ _ _=>Qw.eq nf _) ?_
          simp)
        refine s.mono (fun v hv => ?_)
        rw [hv]
        refine Prod.ext (Prod.ext ?_ rfl) rfl
        simp only [Pn]
        simp only [Wl,Wo]
        have f0:∀ n,n=0→Uw n:=fun n e=>e ▸ H4
        have r0:∀ l,l=[]→Nw l:=fun l e=>e ▸ Ua
        have f1:=f0 item; have f2:=f0 box; have f3:=f0 who; have f4:=f0 pay; have f5:=f0 fee; have r1:=r0 gives; have r2:=r0 wants
        clear spec s hv f0 r0 hmay
        simp
        grind
      · have s:=spec (9,0,0,0,0,[],0,[],0,()) (by
          refine Zd.succ (fun nf _ _ _=>Qw.eq nf _) ?_
          simp)
        refine s.mono (fun v hv => ?_)
        rw [hv]
        refine Prod.ext (Prod.ext ?_ rfl) rfl
        simp only [Pn]
        simp only [Wl,Wo]
        have f0:∀ n,n=0→Uw n:=fun n e=>e ▸ H4
        have r0:∀ l,l=[]→Nw l:=fun l e=>e ▸ Ua
        have f1:=f0 item; have f2:=f0 box; have f3:=f0 who; have f4:=f0 pay; have f5:=f0 fee; have r1:=r0 gives; have r2:=r0 wants
        clear spec s hv f0 r0 hmay
        simp
        grind
      · have s:=spec (10,0,0,0,0,[],0,[],0,()) (by
          refine Zd.succ (fun nf _ _ _=>Qw.eq nf _) ?_
          simp)
        refine s.mono (fun v hv => ?_)
        rw [hv]
        refine Prod.ext (Prod.ext ?_ rfl) rfl
        simp only [Pn]
        simp only [Wl,Wo]
        have f0:∀ n,n=0→Uw n:=fun n e=>e ▸ H4
        have r0:∀ l,l=[]→Nw l:=fun l e=>e ▸ Ua
        have f1:=f0 item; have f2:=f0 box; have f3:=f0 who; have f4:=f0 pay; have f5:=f0 fee; have r1:=r0 gives; have r2:=r0 wants
        clear spec s hv f0 r0 hmay
        simp
        grind
    · refine Zd.succ (fun nf _ _ _=>Hn.eq nf _) ?_
      simp only [Ze (Oo kd),(Oo kd).prop,AAd,Jl.2 hk,Bool.not_true,cond_false,Gu]
      rw [Ks.2 (fun h=>hk ⟨h.1,h.2.1⟩)]
  exact key _ _ _ _ _ _ _ _ _ h1 h2
end Go.Proofs.YtmemggdjnfccfaaGreatDoor.Ghost
