/- What functions come to, and that the statements are answered with 'true'. Conditions: none. -/
import Derived.Test.YtjobjooccgledaaGreatDoorS
import Derived.Test.YtjobjooccgledaaGreatDoorGE
import Derived.Test.YtjobjooccgledaaGreatDoorP1
import Derived.Test.YtjobjooccgledaaGreatDoorP2
import Derived.Test.YtjobjooccgledaaGreatDoorP3
import Derived.Test.YtjobjooccgledaaGreatDoorP4
import Derived.Test.YtjobjooccgledaaGreatDoorP5
import Derived.Test.YtjobjooccgledaaGreatDoorP6
import Derived.Test.YtjobjooccgledaaGreatDoorP7
import Derived.Test.YtjobjooccgledaaGreatDoorP8
set_option linter.unusedVariables false
set_option linter.unusedSimpArgs false
set_option linter.unusedSectionVars false
set_option linter.unnecessarySimpa false
namespace Go.Proofs.YtjobjooccgledaaGreatDoor.Ghost
open Go
theorem BHe (a b:List Int) (ha:a.length≤1048576) (hl:a.length=b.length) (t4:Bool):∀ i,i≤a.length→Zd (fun nf fm0 _ _=>Zo.l0 nf fm0 (a) (b) t4 ((a.length:Int)) ((i:Int))) (fun r=>r=((dec (∀ j,i≤j→j<a.length→List.getD a j 0=List.getD b j 0),()),[])):=by
  refine upto ?_ (fun i hi next => ?_)
  · refine Zd.succ1 (fun nf fm0 _ _=>Zo.l0_eq nf fm0 _ _ _ _ _) ?_
    simp [-List.getD_eq_getElem?_getD,-List.length_eq_zero_iff,Zq,Zp,Z5,Zr,Xj,Xi,X5]
    intro j h1 h2; omega
  · rw [← Xm (by omega)] at next
    have hi2:i<b.length:=by omega
    refine Zd.succ1 (fun nf fm0 _ _=>Zo.l0_eq nf fm0 _ _ _ _ _) ?_
    by_cases e:List.getD a i 0=List.getD b i 0
    · simp [-List.getD_eq_getElem?_getD,-List.length_eq_zero_iff,Zq,Zp,Z5,Zr,Xj,Xi,X5,hi,hi2,e]
      refine next.mono (fun v hv => ?_)
      rw [hv]
      have:(∀ j,i+1≤j→j<a.length→List.getD a j 0=List.getD b j 0)=(∀ j,i≤j→j<a.length→List.getD a j 0=List.getD b j 0):=propext ⟨fun h j h1 h2=>by
        by_cases hj:j=i
        · subst hj; exact e
        · exact h j (by omega) h2,fun h j h1 h2=>h j (by omega) h2⟩
      rw [this]
    · simp [-List.getD_eq_getElem?_getD,-List.length_eq_zero_iff,Zq,Zp,Z5,Zr,Xj,Xi,X5,hi,hi2,e]
      exact ⟨i,Nat.le_refl i,hi,e⟩
theorem AEh (a b:List Int) (ha:a.length≤1048576):Zd (fun nf _ _ _=>Zo nf (a) (b)) (fun r=>r=((dec (a=b),()),[])):=by
  by_cases hl:a.length=b.length
  · have l0:=(BHe a b ha hl false 0 (Nat.zero_le _)).enter
    have:(∀ j,0≤j→j<a.length→List.getD a j 0=List.getD b j 0)=(a=b):=propext ⟨fun h=>Ue 0 hl (fun j hj=>h j (Nat.zero_le j) hj),fun h j _ _=>by rw [h]⟩
    rw [this] at l0
    refine Zd.succ (fun nf _ _ _=>Zo.eq nf _ _) ?_
    simp [-List.getD_eq_getElem?_getD,-List.length_eq_zero_iff,Zq,Zp,Z5,Zr,Xj,Xi,X5,hl]
    rw [hl] at l0
    exact l0
  · have e:¬ a=b:=fun e=>hl (by rw [e])
    refine Zd.succ (fun nf _ _ _=>Zo.eq nf _ _) ?_
    simp [-List.getD_eq_getElem?_getD,-List.length_eq_zero_iff,Zq,Zp,Z5,Zr,Xj,Xi,X5,hl,e,show ¬ (a.length:Int)=(b.length:Int) by omega]
end Go.Proofs.YtjobjooccgledaaGreatDoor.Ghost
namespace Go.Proofs.YtjobjooccgledaaGreatDoor.Ghost
open Go
theorem Da (x y:den Un):eqT Un x y=dec (x=y):=by
  obtain ⟨a1,a2,a3,a4,a5,a6,a7,⟨⟩⟩:=x
  obtain ⟨b1,b2,b3,b4,b5,b6,b7,⟨⟩⟩:=y
  rw [Bool.eq_iff_iff,Q4]
  simp [eqT,ACo]
theorem AGq (a b:Cm) (h1:(Xl a).length≤1048576) (h2:(Xr a).length≤1048576):Zd (fun nf _ _ _=>Hf nf (a) (b)) (fun r=>r=((dec (a=b),()),[])):=by
  have of_:∀ c:Cm,Zd (fun nf _ _ _=>Ut nf (c)) (fun r=>r=(((Xo c,Pf c,Yt c,G9 c,Gf c,Us c,Ur c,()),()),[])):=fun c=>by
    refine Zd.succ (fun nf _ _ _=>Ut.eq nf _) ?_
    simp
  have e:(a=b)=(((Xo a,Pf a,Yt a,G9 a,Gf a,Us a,Ur a,()):den Un)=(Xo b,Pf b,Yt b,G9 b,Gf b,Us b,Ur b,())∧Xl a=Xl b∧Xr a=Xr b):=by
    obtain ⟨a1,a2,a3,a4,a5,a6,a7,a8,a9,⟨⟩⟩:=a
    obtain ⟨b1,b2,b3,b4,b5,b6,b7,b8,b9,⟨⟩⟩:=b
    refine propext ?_
    simp
    grind
  obtain ⟨b4,e4,s4⟩:∃ x,(x=true)=(Xl a=Xl b)∧Zd (fun nf _ _ _=>Zo nf (Xl a) (Xl b)) (fun r=>r=((x,()),[])):=⟨_,propext Q4,AEh _ _ h1⟩
  obtain ⟨b5,e5,s5⟩:∃ x,(x=true)=(Xr a=Xr b)∧Zd (fun nf _ _ _=>Zo nf (Xr a) (Xr b)) (fun r=>r=((x,()),[])):=⟨_,propext Q4,AEh _ _ h2⟩
  rw [e,← e4,← e5]
  refine Zd.succ (fun nf _ _ _=>Hf.eq nf _ _) ?_
  by_cases h:((Xo a,Pf a,Yt a,G9 a,Gf a,Us a,Ur a,()):den Un)=(Xo b,Pf b,Yt b,G9 b,Gf b,Us b,Ur b,())
  · simp only [Ze (of_ a),(of_ a).prop,Ze (of_ b),(of_ b).prop,Da,Q4.2 h,cond_true]
    simp only [Ze s4,s4.prop]
    cases b4
    · simp only [cond_false,Gw]; simp [h]
    · simp only [cond_true,Ze s5,s5.prop,Gw]
      cases b5 <;> simp [h]
  · simp only [Ze (of_ a),(of_ a).prop,Ze (of_ b),(of_ b).prop,Da,Kc.2 h,cond_false,Gw]
    rw [Kc.2 (fun hh=>h hh.1)]
def Uf (n:Int):Prop:=0≤n∧n≤1073741824
theorem Mi (a:Int):Zd (fun nf _ _ _=>Ki nf (a)) (fun r=>r=((dec (Uf a),()),[])):=by
  refine Zd.succ (fun nf _ _ _=>Ki.eq nf _) ?_
  by_cases h:0≤a <;> simp [h,Uf,Gq]
theorem BXg (l:List Int) (hl:l.length≤1048576) (t4:Int):∀ i,i≤l.length→Zd (fun nf fm0 _ _=>Zv.l0 nf fm0 (l) t4 ((l.length:Int)) ((i:Int))) (fun r=>0≤r.1.1↔∃ j,i≤j∧j<l.length∧¬ Uf (List.getD l j 0)):=by
  have cl:∀ x,Zd (fun nf _ _ _=>Ka nf (x)) (fun r=>r=((dec (¬ Uf x),()),[])):=fun x=>by
    refine Zd.succ (fun nf _ _ _=>Ka.eq nf _) ?_
    simp [Ze (Mi x),(Mi x).prop]
  refine upto ?_ (fun i hi next => ?_)
  · refine Zd.succ1 (fun nf fm0 _ _=>Zv.l0_eq nf fm0 _ _ _ _) ?_
    simp [-List.getD_eq_getElem?_getD,-List.length_eq_zero_iff,Zq,Zp,Z5,Zr,Xj,Xi,X5]
    omega
  · rw [← Xm (by omega)] at next
    refine Zd.succ1 (fun nf fm0 _ _=>Zv.l0_eq nf fm0 _ _ _ _) ?_
    simp [-List.getD_eq_getElem?_getD,-List.length_eq_zero_iff,Zq,Zp,Z5,Zr,Xj,Xi,X5,hi,Ze (cl (List.getD l i 0)),(cl (List.getD l i 0)).prop]
    refine ⟨fun h=>⟨i,Nat.le_refl i,hi,h⟩,fun h=>next.mono (fun v hv => ?_)⟩
    rw [hv]
    refine ⟨fun ⟨j,a,b,e⟩=>⟨j,by omega,b,e⟩,fun ⟨j,a,b,e⟩=>⟨j,?_,b,e⟩⟩
    by_cases hj:j=i
    · subst hj; exact absurd h e
    · omega
def Na (l:List Int):Prop:=(∀ j,j<l.length→Uf (List.getD l j 0))∧l.length≤16
theorem Mm (l:List Int) (hl:l.length≤1048576):Zd (fun nf _ _ _=>H4 nf (l)) (fun r=>r=((dec (Na l),()),[])):=by
  have h1:Zd (fun nf _ _ _=>Zv nf (l)) (fun r=>0≤r.1.1↔∃ j,0≤j∧j<l.length∧¬ Uf (List.getD l j 0)):=by
    refine Zd.succ (fun nf _ _ _=>Zv.eq nf _) ?_
    exact (BXg l hl _ 0 (Nat.zero_le _)).enter
  have h2:Zd (fun nf _ _ _=>X0 nf (l)) (fun r=>r=((dec (∃ j,0≤j∧j<l.length∧¬ Uf (List.getD l j 0)),()),[])):=by
    refine Zd.succ (fun nf _ _ _=>X0.eq nf _) ?_
    simp only [Ze h1,Gw,Gq,h1.prop]
  refine Zd.succ (fun nf _ _ _=>H4.eq nf _) ?_
  by_cases hn:(l.length:Int)≤16
  · have:l.length≤16:=by omega
    simp [Ze (h2),(h2).prop,hn,Na,this]
  · have:¬ l.length≤16:=by omega
    simp [hn,Na,this]
end Go.Proofs.YtjobjooccgledaaGreatDoor.Ghost
namespace Go.Proofs.YtjobjooccgledaaGreatDoor.Ghost
open Go
def Wo (l:List ByteArray) (k:Int):ByteArray:=if 0≤k∧k<(l.length:Int) then List.getD l (Int.toNat k) (dft .str) else (⟨#[]⟩:ByteArray)
theorem P8 (l:List ByteArray) (k:Int):Zd (fun nf _ _ _=>Kx nf (l) (k)) (fun r=>r=((Wo l k,()),[])):=by
  refine Zd.succ (fun nf _ _ _=>Kx.eq nf _ _) ?_
  by_cases h1:k<0
  · simp [-List.getD_eq_getElem?_getD,-List.length_eq_zero_iff,Zq,Zp,Z5,Zr,Xj,Xi,X5,h1,Wo,show ¬ 0≤k by omega]
  · by_cases h2:(l.length:Int)≤k
    · simp [-List.getD_eq_getElem?_getD,-List.length_eq_zero_iff,Zq,Zp,Z5,Zr,Xj,Xi,X5,h1,h2,Wo,show ¬ k<(l.length:Int) by omega]
    · simp [-List.getD_eq_getElem?_getD,-List.length_eq_zero_iff,Zq,Zp,Z5,Zr,Xj,Xi,X5,h1,h2,Wo,show 0≤k by omega,show k<(l.length:Int) by omega]
theorem P5 (k:Int):Zd (fun nf _ _ _=>He nf (k)) (fun r=>r=((Wo Iw k,()),[])):=by
  refine Zd.succ (fun nf _ _ _=>He.eq nf _) ?_
  simp only [Ze (P8 Iw k),(P8 Iw k).prop,Gw]
theorem AAl (k:Int):Zd (fun nf _ _ _=>Gm nf (k)) (fun r=>r=((Wo Ix k,()),[])):=by
  refine Zd.succ (fun nf _ _ _=>Gm.eq nf _) ?_
  simp only [Ze (P8 Ix k),(P8 Ix k).prop,Gw]
theorem Dh (k:Int) (h:1≤k∧k≤10):k=1∨k=2∨k=3∨k=4∨k=5∨k=6∨k=7∨k=8∨k=9∨k=10:=by omega
theorem AHu (k:Int) (h:0≤k∧k≤3):k=0∨k=1∨k=2∨k=3:=by omega
theorem Bz (k:Int):eqT .str (Wo Iw k) (⟨#[]⟩:ByteArray)=dec (¬ (1≤k∧k≤10)):=by
  by_cases h:1≤k∧k≤10
  · rw [Kc.2 (fun hn=>hn h)]
    rcases Dh k h with rfl | rfl | rfl | rfl | rfl | rfl | rfl | rfl | rfl | rfl <;> kernel_rfl
  · rw [Q4.2 h]
    by_cases h0:k=0
    · subst h0; kernel_rfl
    · have:Wo Iw k=(⟨#[]⟩:ByteArray):=by
        unfold Wo
        rw [if_neg (by rw [show List.length (Iw:List ByteArray)=11 from rfl]; omega)]
      rw [this]; rfl
theorem AKs (k:Int):eqT .str (Wo Ix k) (⟨#[]⟩:ByteArray)=dec (¬ (0≤k∧k≤3)):=by
  by_cases h:0≤k∧k≤3
  · rw [Kc.2 (fun hn=>hn h)]
    rcases AHu k h with rfl | rfl | rfl | rfl <;> kernel_rfl
  · rw [Q4.2 h]
    have:Wo Ix k=(⟨#[]⟩:ByteArray):=by
      unfold Wo
      rw [if_neg (by rw [show List.length (Ix:List ByteArray)=4 from rfl]; omega)]
    rw [this]; rfl
theorem Gk:Na []:=⟨fun j hj=>by simp at hj,by simp⟩
theorem U2 (n:Int) (h:Prop):Gr n h=((h→Uf n)∧(¬ h→n=0)):=rfl
theorem U5 (l:List Int) (h:Prop):Fg l h=((h→Na l)∧(¬ h→l=[])):=rfl
theorem Hm:Uf 0:=⟨by decide,by decide⟩
theorem AJa (c:Cm) (h1:(Xl c).length≤1048576) (h2:(Xr c).length≤1048576):Zd (fun nf _ _ _=>K6 nf (c)) (fun r=>r=((dec (M3 c),()),[])):=by
  have hmay:M3 c↔1≤Xo c∧Xo c≤10∧0≤Pf c∧Pf c≤3∧(¬ Pf c=0→Xo c≤2)∧Gr (Yt c) (3≤Xo c∧Xo c≤7)∧Gr (G9 c) (Xo c=5∨Xo c=6)∧Gr (Gf c) (Xo c=2∨Xo c=7∨Xo c=8)∧Gr (Us c) (Xo c=8)∧Gr (Ur c) (Xo c=8)∧Fg (Xl c) (Xo c=8)∧Fg (Xr c) (Xo c=8) :=
    ⟨fun h=>⟨h.k1,h.k2,h.d1,h.d2,h.d3,h.item,h.box,h.who,h.pay,h.fee,h.gives,h.wants⟩,fun ⟨a,b,c,d,e,f,g,h,i,j,k,l⟩=>⟨a,b,c,d,e,f,g,h,i,j,k,l⟩⟩
  rw [show M3 c=_ from propext hmay]
  have key:∀ (kd dir item box who pay fee:Int) (gives wants:List Int),gives.length≤1048576→wants.length≤1048576→Zd (fun nf _ _ _=>K6 nf ((kd,dir,item,box,who,gives,pay,wants,fee,()))) (fun r=>r=((dec (1≤kd∧kd≤10∧0≤dir∧dir≤3∧(¬ dir=0→kd≤2)∧Gr item (3≤kd∧kd≤7)∧Gr box (kd=5∨kd=6)∧Gr who (kd=2∨kd=7∨kd=8)∧Gr pay (kd=8)∧Gr fee (kd=8)∧Fg gives (kd=8)∧Fg wants (kd=8)),()),[])):=by
    intro kd dir item box who pay fee gives wants h1 h2
    by_cases hk:1≤kd∧kd≤10
    · have spec:∀ b:Cm,Zd (fun nf _ _ _=>Qg nf ((kd,dir,item,box,who,gives,pay,wants,fee,()))) (fun r=>r=((b,()),[]))→Zd (fun nf _ _ _=>K6 nf ((kd,dir,item,box,who,gives,pay,wants,fee,()))) (fun r=>r=((dec (((kd,dir,item,box,who,gives,pay,wants,fee,()):Cm)=b∧(0≤dir∧dir≤3)∧Uf item∧Uf box∧Uf who∧Uf pay∧Uf fee∧Na gives∧Na wants),()),[])):=fun b hb=>by
        have hs:=AGq (kd,dir,item,box,who,gives,pay,wants,fee,()) b h1 h2
        refine Zd.succ (fun nf _ _ _=>K6.eq nf _) ?_
        simp only [Ze (P5 kd),(P5 kd).prop,Bz,Kc.2 (fun hn:¬ (1≤kd∧kd≤10)=>hn hk),Bool.not_false,cond_true,Ze hb,hb.prop,Ze hs,hs.prop]
        by_cases g1:((kd,dir,item,box,who,gives,pay,wants,fee,()):Cm)=b <;> by_cases g2:0≤dir∧dir≤3 <;> by_cases g3:Uf item <;> by_cases g4:Uf box <;> by_cases g5:Uf who <;> by_cases g6:Uf pay <;> by_cases g7:Uf fee <;> by_cases g8:Na gives <;>
          simp only [g1,g2,g3,g4,g5,g6,g7,g8,AMq,AJd,cond_true,cond_false,Gw,Ze (AAl dir),(AAl dir).prop,AKs,not_true_eq_false,not_false_eq_true,Bool.not_true,Bool.not_false,Ze (Mi _),(Mi _).prop,Ze (Mm gives h1),(Mm gives h1).prop,Ze (Mm wants h2),(Mm wants h2).prop,true_and,false_and,and_true,and_false]
      rcases Dh kd hk with rfl | rfl | rfl | rfl | rfl | rfl | rfl | rfl | rfl | rfl
      · have s:=spec (1,dir,0,0,0,[],0,[],0,()) (by
          refine Zd.succ (fun nf _ _ _=>Qg.eq nf _) ?_
          simp)
        refine s.mono (fun v hv => ?_)
        rw [hv]
        refine Prod.ext (Prod.ext ?_ rfl) rfl
        simp only [Rt]
        simp only [U2,U5]
        have f0:∀ n,n=0→Uf n:=fun n e=>e ▸ Hm
        have r0:∀ l,l=[]→Na l:=fun l e=>e ▸ Gk
        have f1:=f0 item; have f2:=f0 box; have f3:=f0 who; have f4:=f0 pay; have f5:=f0 fee; have r1:=r0 gives; have r2:=r0 wants
        clear spec s hv f0 r0 hmay
        simp
        grind
      · have s:=spec (2,dir,0,0,who,[],0,[],0,()) (by
          refine Zd.succ (fun nf _ _ _=>Qg.eq nf _) ?_
          simp)
        refine s.mono (fun v hv => ?_)
        rw [hv]
        refine Prod.ext (Prod.ext ?_ rfl) rfl
        simp only [Rt]
        simp only [U2,U5]
        have f0:∀ n,n=0→Uf n:=fun n e=>e ▸ Hm
        have r0:∀ l,l=[]→Na l:=fun l e=>e ▸ Gk
        have f1:=f0 item; have f2:=f0 box; have f3:=f0 who; have f4:=f0 pay; have f5:=f0 fee; have r1:=r0 gives; have r2:=r0 wants
        clear spec s hv f0 r0 hmay
        simp
        grind
      · have s:=spec (3,0,item,0,0,[],0,[],0,()) (by
          refine Zd.succ (fun nf _ _ _=>Qg.eq nf _) ?_
          simp)
        refine s.mono (fun v hv => ?_)
        rw [hv]
        refine Prod.ext (Prod.ext ?_ rfl) rfl
        simp only [Rt]
        simp only [U2,U5]
        have f0:∀ n,n=0→Uf n:=fun n e=>e ▸ Hm
        have r0:∀ l,l=[]→Na l:=fun l e=>e ▸ Gk
        have f1:=f0 item; have f2:=f0 box; have f3:=f0 who; have f4:=f0 pay; have f5:=f0 fee; have r1:=r0 gives; have r2:=r0 wants
        clear spec s hv f0 r0 hmay
        simp
        grind
      · have s:=spec (4,0,item,0,0,[],0,[],0,()) (by
          refine Zd.succ (fun nf _ _ _=>Qg.eq nf _) ?_
          simp)
        refine s.mono (fun v hv => ?_)
        rw [hv]
        refine Prod.ext (Prod.ext ?_ rfl) rfl
        simp only [Rt]
        simp only [U2,U5]
        have f0:∀ n,n=0→Uf n:=fun n e=>e ▸ Hm
        have r0:∀ l,l=[]→Na l:=fun l e=>e ▸ Gk
        have f1:=f0 item; have f2:=f0 box; have f3:=f0 who; have f4:=f0 pay; have f5:=f0 fee; have r1:=r0 gives; have r2:=r0 wants
        clear spec s hv f0 r0 hmay
        simp
        grind
      · have s:=spec (5,0,item,box,0,[],0,[],0,()) (by
          refine Zd.succ (fun nf _ _ _=>Qg.eq nf _) ?_
          simp)
        refine s.mono (fun v hv => ?_)
        rw [hv]
        refine Prod.ext (Prod.ext ?_ rfl) rfl
        simp only [Rt]
        simp only [U2,U5]
        have f0:∀ n,n=0→Uf n:=fun n e=>e ▸ Hm
        have r0:∀ l,l=[]→Na l:=fun l e=>e ▸ Gk
        have f1:=f0 item; have f2:=f0 box; have f3:=f0 who; have f4:=f0 pay; have f5:=f0 fee; have r1:=r0 gives; have r2:=r0 wants
        clear spec s hv f0 r0 hmay
        simp
        grind
      · have s:=spec (6,0,item,box,0,[],0,[],0,()) (by
          refine Zd.succ (fun nf _ _ _=>Qg.eq nf _) ?_
          simp)
        refine s.mono (fun v hv => ?_)
        rw [hv]
        refine Prod.ext (Prod.ext ?_ rfl) rfl
        simp only [Rt]
        simp only [U2,U5]
        have f0:∀ n,n=0→Uf n:=fun n e=>e ▸ Hm
        have r0:∀ l,l=[]→Na l:=fun l e=>e ▸ Gk
        have f1:=f0 item; have f2:=f0 box; have f3:=f0 who; have f4:=f0 pay; have f5:=f0 fee; have r1:=r0 gives; have r2:=r0 wants
        clear spec s hv f0 r0 hmay
        simp
        grind
      · have s:=spec (7,0,item,0,who,[],0,[],0,()) (by
          refine Zd.succ (fun nf _ _ _=>Qg.eq nf _) ?_
          simp)
        refine s.mono (fun v hv => ?_)
        rw [hv]
        refine Prod.ext (Prod.ext ?_ rfl) rfl
        simp only [Rt]
        simp only [U2,U5]
        have f0:∀ n,n=0→Uf n:=fun n e=>e ▸ Hm
        have r0:∀ l,l=[]→Na l:=fun l e=>e ▸ Gk
        have f1:=f0 item; have f2:=f0 box; have f3:=f0 who; have f4:=f0 pay; have f5:=f0 fee; have r1:=r0 gives; have r2:=r0 wants
        clear spec s hv f0 r0 hmay
        simp
        grind
      · have s:=spec (8,0,0,0,who,gives,pay,wants,fee,()) (by
          refine Zd.succ (fun nf _ _ _=>Qg.eq nf _) ?_
          simp)
        refine s.mono (fun v hv => ?_)
        rw [hv]
        refine Prod.ext (Prod.ext ?_ rfl) rfl
        simp only [Rt]
        simp only [U2,U5]
        have f0:∀ n,n=0→Uf n:=fun n e=>e ▸ Hm
        have r0:∀ l,l=[]→Na l:=fun l e=>e ▸ Gk
        have f1:=f0 item; have f2:=f0 box; have f3:=f0 who; have f4:=f0 pay; have f5:=f0 fee; have r1:=r0 gives; have r2:=r0 wants
        clear spec s hv f0 r0 hmay
        simp
        grind
      · have s:=spec (9,0,0,0,0,[],0,[],0,()) (by
          refine Zd.succ (fun nf _ _ _=>Qg.eq nf _) ?_
          simp)
        refine s.mono (fun v hv => ?_)
        rw [hv]
        refine Prod.ext (Prod.ext ?_ rfl) rfl
        simp only [Rt]
        simp only [U2,U5]
        have f0:∀ n,n=0→Uf n:=fun n e=>e ▸ Hm
        have r0:∀ l,l=[]→Na l:=fun l e=>e ▸ Gk
        have f1:=f0 item; have f2:=f0 box; have f3:=f0 who; have f4:=f0 pay; have f5:=f0 fee; have r1:=r0 gives; have r2:=r0 wants
        clear spec s hv f0 r0 hmay
        simp
        grind
      · have s:=spec (10,0,0,0,0,[],0,[],0,()) (by
          refine Zd.succ (fun nf _ _ _=>Qg.eq nf _) ?_
          simp)
        refine s.mono (fun v hv => ?_)
        rw [hv]
        refine Prod.ext (Prod.ext ?_ rfl) rfl
        simp only [Rt]
        simp only [U2,U5]
        have f0:∀ n,n=0→Uf n:=fun n e=>e ▸ Hm
        have r0:∀ l,l=[]→Na l:=fun l e=>e ▸ Gk
        have f1:=f0 item; have f2:=f0 box; have f3:=f0 who; have f4:=f0 pay; have f5:=f0 fee; have r1:=r0 gives; have r2:=r0 wants
        clear spec s hv f0 r0 hmay
        simp
        grind
    · refine Zd.succ (fun nf _ _ _=>K6.eq nf _) ?_
      simp only [Ze (P5 kd),(P5 kd).prop,Bz,Q4.2 hk,Bool.not_true,cond_false,Gw]
      rw [Kc.2 (fun h=>hk ⟨h.1,h.2.1⟩)]
  exact key _ _ _ _ _ _ _ _ _ h1 h2
end Go.Proofs.YtjobjooccgledaaGreatDoor.Ghost
