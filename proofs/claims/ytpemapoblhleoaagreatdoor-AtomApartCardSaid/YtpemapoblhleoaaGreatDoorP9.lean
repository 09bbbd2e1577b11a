/- What functions come to, and that the statements are answered with 'true'. Conditions: none. -/
import Derived.Test.YtpemapoblhleoaaGreatDoorS
import Derived.Test.YtpemapoblhleoaaGreatDoorGE
import Derived.Test.YtpemapoblhleoaaGreatDoorP1
import Derived.Test.YtpemapoblhleoaaGreatDoorP2
import Derived.Test.YtpemapoblhleoaaGreatDoorP3
import Derived.Test.YtpemapoblhleoaaGreatDoorP4
import Derived.Test.YtpemapoblhleoaaGreatDoorP5
import Derived.Test.YtpemapoblhleoaaGreatDoorP6
import Derived.Test.YtpemapoblhleoaaGreatDoorP7
import Derived.Test.YtpemapoblhleoaaGreatDoorP8
set_option linter.unusedVariables false
set_option linter.unusedSimpArgs false
set_option linter.unusedSectionVars false
set_option linter.unnecessarySimpa false
namespace Go.Proofs.YtpemapoblhleoaaGreatDoor.Ghost
open Go
theorem BG8 (a b:List Int) (ha:a.length≤1048576) (hl:a.length=b.length) (t4:Bool):∀ i,i≤a.length→Zd (fun nf fm0 _ _=>Zl.l0 nf fm0 (a) (b) t4 ((a.length:Int)) ((i:Int))) (fun r=>r=((dec (∀ j,i≤j→j<a.length→List.getD a j 0=List.getD b j 0),()),[])):=by
  refine upto ?_ (fun i hi next => ?_)
  · refine Zd.succ1 (fun nf fm0 _ _=>Zl.l0_eq nf fm0 _ _ _ _ _) ?_
    simp [-List.getD_eq_getElem?_getD,-List.length_eq_zero_iff,Zv,Zt,Z4,Zw,Xt,Xs,Yq]
    intro j h1 h2; omega
  · rw [← Xr (by omega)] at next
    have hi2:i<b.length:=by omega
    refine Zd.succ1 (fun nf fm0 _ _=>Zl.l0_eq nf fm0 _ _ _ _ _) ?_
    by_cases e:List.getD a i 0=List.getD b i 0
    · simp [-List.getD_eq_getElem?_getD,-List.length_eq_zero_iff,Zv,Zt,Z4,Zw,Xt,Xs,Yq,hi,hi2,e]
      refine next.mono (fun v hv => ?_)
      rw [hv]
      have:(∀ j,i+1≤j→j<a.length→List.getD a j 0=List.getD b j 0)=(∀ j,i≤j→j<a.length→List.getD a j 0=List.getD b j 0):=propext ⟨fun h j h1 h2=>by
        by_cases hj:j=i
        · subst hj; exact e
        · exact h j (by omega) h2,fun h j h1 h2=>h j (by omega) h2⟩
      rw [this]
    · simp [-List.getD_eq_getElem?_getD,-List.length_eq_zero_iff,Zv,Zt,Z4,Zw,Xt,Xs,Yq,hi,hi2,e]
      exact ⟨i,Nat.le_refl i,hi,e⟩
theorem ADe (a b:List Int) (ha:a.length≤1048576):Zd (fun nf _ _ _=>Zl nf (a) (b)) (fun r=>r=((dec (a=b),()),[])):=by
  by_cases hl:a.length=b.length
  · have l0:=(BG8 a b ha hl false 0 (Nat.zero_le _)).enter
    have:(∀ j,0≤j→j<a.length→List.getD a j 0=List.getD b j 0)=(a=b):=propext ⟨fun h=>Rw 0 hl (fun j hj=>h j (Nat.zero_le j) hj),fun h j _ _=>by rw [h]⟩
    rw [this] at l0
    refine Zd.succ (fun nf _ _ _=>Zl.eq nf _ _) ?_
    simp [-List.getD_eq_getElem?_getD,-List.length_eq_zero_iff,Zv,Zt,Z4,Zw,Xt,Xs,Yq,hl]
    rw [hl] at l0
    exact l0
  · have e:¬ a=b:=fun e=>hl (by rw [e])
    refine Zd.succ (fun nf _ _ _=>Zl.eq nf _ _) ?_
    simp [-List.getD_eq_getElem?_getD,-List.length_eq_zero_iff,Zv,Zt,Z4,Zw,Xt,Xs,Yq,hl,e,show ¬ (a.length:Int)=(b.length:Int) by omega]
end Go.Proofs.YtpemapoblhleoaaGreatDoor.Ghost
namespace Go.Proofs.YtpemapoblhleoaaGreatDoor.Ghost
open Go
theorem Ej (x y:den Ua):eqT Ua x y=dec (x=y):=by
  obtain ⟨a1,a2,a3,a4,a5,a6,a7,⟨⟩⟩:=x
  obtain ⟨b1,b2,b3,b4,b5,b6,b7,⟨⟩⟩:=y
  rw [Bool.eq_iff_iff,Q3]
  simp [eqT,ABs]
theorem AFg (a b:Cm) (h1:(Xf a).length≤1048576) (h2:(Xk a).length≤1048576):Zd (fun nf _ _ _=>K8 nf (a) (b)) (fun r=>r=((dec (a=b),()),[])):=by
  have of_:∀ c:Cm,Zd (fun nf _ _ _=>Uf nf (c)) (fun r=>r=(((Z9 c,Ot c,X0 c,Hm c,Gb c,Uv c,Uu c,()),()),[])):=fun c=>by
    refine Zd.succ (fun nf _ _ _=>Uf.eq nf _) ?_
    simp
  have e:(a=b)=(((Z9 a,Ot a,X0 a,Hm a,Gb a,Uv a,Uu a,()):den Ua)=(Z9 b,Ot b,X0 b,Hm b,Gb b,Uv b,Uu b,())∧Xf a=Xf b∧Xk a=Xk b):=by
    obtain ⟨a1,a2,a3,a4,a5,a6,a7,a8,a9,⟨⟩⟩:=a
    obtain ⟨b1,b2,b3,b4,b5,b6,b7,b8,b9,⟨⟩⟩:=b
    refine propext ?_
    simp
    grind
  obtain ⟨b4,e4,s4⟩:∃ x,(x=true)=(Xf a=Xf b)∧Zd (fun nf _ _ _=>Zl nf (Xf a) (Xf b)) (fun r=>r=((x,()),[])):=⟨_,propext Q3,ADe _ _ h1⟩
  obtain ⟨b5,e5,s5⟩:∃ x,(x=true)=(Xk a=Xk b)∧Zd (fun nf _ _ _=>Zl nf (Xk a) (Xk b)) (fun r=>r=((x,()),[])):=⟨_,propext Q3,ADe _ _ h2⟩
  rw [e,← e4,← e5]
  refine Zd.succ (fun nf _ _ _=>K8.eq nf _ _) ?_
  by_cases h:((Z9 a,Ot a,X0 a,Hm a,Gb a,Uv a,Uu a,()):den Ua)=(Z9 b,Ot b,X0 b,Hm b,Gb b,Uv b,Uu b,())
  · simp only [Ze (of_ a),(of_ a).prop,Ze (of_ b),(of_ b).prop,Ej,Q3.2 h,cond_true]
    simp only [Ze s4,s4.prop]
    cases b4
    · simp only [cond_false,Gq]; simp [h]
    · simp only [cond_true,Ze s5,s5.prop,Gq]
      cases b5 <;> simp [h]
  · simp only [Ze (of_ a),(of_ a).prop,Ze (of_ b),(of_ b).prop,Ej,V4.2 h,cond_false,Gq]
    rw [V4.2 (fun hh=>h hh.1)]
def G4 (n:Int):Prop:=0≤n∧n≤1073741824
theorem Nu (a:Int):Zd (fun nf _ _ _=>Ka nf (a)) (fun r=>r=((dec (G4 a),()),[])):=by
  refine Zd.succ (fun nf _ _ _=>Ka.eq nf _) ?_
  by_cases h:0≤a <;> simp [h,G4,Ta]
theorem BSh (l:List Int) (hl:l.length≤1048576) (t4:Int):∀ i,i≤l.length→Zd (fun nf fm0 _ _=>Zp.l0 nf fm0 (l) t4 ((l.length:Int)) ((i:Int))) (fun r=>0≤r.1.1↔∃ j,i≤j∧j<l.length∧¬ G4 (List.getD l j 0)):=by
  have cl:∀ x,Zd (fun nf _ _ _=>V2 nf (x)) (fun r=>r=((dec (¬ G4 x),()),[])):=fun x=>by
    refine Zd.succ (fun nf _ _ _=>V2.eq nf _) ?_
    simp [Ze (Nu x),(Nu x).prop]
  refine upto ?_ (fun i hi next => ?_)
  · refine Zd.succ1 (fun nf fm0 _ _=>Zp.l0_eq nf fm0 _ _ _ _) ?_
    simp [-List.getD_eq_getElem?_getD,-List.length_eq_zero_iff,Zv,Zt,Z4,Zw,Xt,Xs,Yq]
    omega
  · rw [← Xr (by omega)] at next
    refine Zd.succ1 (fun nf fm0 _ _=>Zp.l0_eq nf fm0 _ _ _ _) ?_
    simp [-List.getD_eq_getElem?_getD,-List.length_eq_zero_iff,Zv,Zt,Z4,Zw,Xt,Xs,Yq,hi,Ze (cl (List.getD l i 0)),(cl (List.getD l i 0)).prop]
    refine ⟨fun h=>⟨i,Nat.le_refl i,hi,h⟩,fun h=>next.mono (fun v hv => ?_)⟩
    rw [hv]
    refine ⟨fun ⟨j,a,b,e⟩=>⟨j,by omega,b,e⟩,fun ⟨j,a,b,e⟩=>⟨j,?_,b,e⟩⟩
    by_cases hj:j=i
    · subst hj; exact absurd h e
    · omega
def Oi (l:List Int):Prop:=(∀ j,j<l.length→G4 (List.getD l j 0))∧l.length≤16
theorem Ny (l:List Int) (hl:l.length≤1048576):Zd (fun nf _ _ _=>Hx nf (l)) (fun r=>r=((dec (Oi l),()),[])):=by
  have h1:Zd (fun nf _ _ _=>Zp nf (l)) (fun r=>0≤r.1.1↔∃ j,0≤j∧j<l.length∧¬ G4 (List.getD l j 0)):=by
    refine Zd.succ (fun nf _ _ _=>Zp.eq nf _) ?_
    exact (BSh l hl _ 0 (Nat.zero_le _)).enter
  have h2:Zd (fun nf _ _ _=>Xv nf (l)) (fun r=>r=((dec (∃ j,0≤j∧j<l.length∧¬ G4 (List.getD l j 0)),()),[])):=by
    refine Zd.succ (fun nf _ _ _=>Xv.eq nf _) ?_
    simp only [Ze h1,Gq,Ta,h1.prop]
  refine Zd.succ (fun nf _ _ _=>Hx.eq nf _) ?_
  by_cases hn:(l.length:Int)≤16
  · have:l.length≤16:=by omega
    simp [Ze (h2),(h2).prop,hn,Oi,this]
  · have:¬ l.length≤16:=by omega
    simp [hn,Oi,this]
end Go.Proofs.YtpemapoblhleoaaGreatDoor.Ghost
namespace Go.Proofs.YtpemapoblhleoaaGreatDoor.Ghost
open Go
def U9 (l:List ByteArray) (k:Int):ByteArray:=if 0≤k∧k<(l.length:Int) then List.getD l (Int.toNat k) (dft .str) else (⟨#[]⟩:ByteArray)
theorem Pm (l:List ByteArray) (k:Int):Zd (fun nf _ _ _=>Kl nf (l) (k)) (fun r=>r=((U9 l k,()),[])):=by
  refine Zd.succ (fun nf _ _ _=>Kl.eq nf _ _) ?_
  by_cases h1:k<0
  · simp [-List.getD_eq_getElem?_getD,-List.length_eq_zero_iff,Zv,Zt,Z4,Zw,Xt,Xs,Yq,h1,U9,show ¬ 0≤k by omega]
  · by_cases h2:(l.length:Int)≤k
    · simp [-List.getD_eq_getElem?_getD,-List.length_eq_zero_iff,Zv,Zt,Z4,Zw,Xt,Xs,Yq,h1,h2,U9,show ¬ k<(l.length:Int) by omega]
    · simp [-List.getD_eq_getElem?_getD,-List.length_eq_zero_iff,Zv,Zt,Z4,Zw,Xt,Xs,Yq,h1,h2,U9,show 0≤k by omega,show k<(l.length:Int) by omega]
theorem Pj (k:Int):Zd (fun nf _ _ _=>K7 nf (k)) (fun r=>r=((U9 L2 k,()),[])):=by
  refine Zd.succ (fun nf _ _ _=>K7.eq nf _) ?_
  simp only [Ze (Pm L2 k),(Pm L2 k).prop,Gq]
theorem An (k:Int):Zd (fun nf _ _ _=>Gh nf (k)) (fun r=>r=((U9 L3 k,()),[])):=by
  refine Zd.succ (fun nf _ _ _=>Gh.eq nf _) ?_
  simp only [Ze (Pm L3 k),(Pm L3 k).prop,Gq]
theorem Ep (k:Int) (h:1≤k∧k≤10):k=1∨k=2∨k=3∨k=4∨k=5∨k=6∨k=7∨k=8∨k=9∨k=10:=by omega
theorem AGj (k:Int) (h:0≤k∧k≤3):k=0∨k=1∨k=2∨k=3:=by omega
theorem Ba (k:Int):eqT .str (U9 L2 k) (⟨#[]⟩:ByteArray)=dec (¬ (1≤k∧k≤10)):=by
  by_cases h:1≤k∧k≤10
  · rw [V4.2 (fun hn=>hn h)]
    rcases Ep k h with rfl | rfl | rfl | rfl | rfl | rfl | rfl | rfl | rfl | rfl <;> kernel_rfl
  · rw [Q3.2 h]
    by_cases h0:k=0
    · subst h0; kernel_rfl
    · have:U9 L2 k=(⟨#[]⟩:ByteArray):=by
        unfold U9
        rw [if_neg (by rw [show List.length (L2:List ByteArray)=11 from rfl]; omega)]
      rw [this]; rfl
theorem AI7 (k:Int):eqT .str (U9 L3 k) (⟨#[]⟩:ByteArray)=dec (¬ (0≤k∧k≤3)):=by
  by_cases h:0≤k∧k≤3
  · rw [V4.2 (fun hn=>hn h)]
    rcases AGj k h with rfl | rfl | rfl | rfl <;> kernel_rfl
  · rw [Q3.2 h]
    have:U9 L3 k=(⟨#[]⟩:ByteArray):=by
      unfold U9
      rw [if_neg (by rw [show List.length (L3:List ByteArray)=4 from rfl]; omega)]
    rw [this]; rfl
theorem Gf:Oi []:=⟨fun j hj=>by simp at hj,by simp⟩
theorem Uo (n:Int) (h:Prop):Mf n h=((h→G4 n)∧(¬ h→n=0)):=rfl
theorem Ur (l:List Int) (h:Prop):AGa l h=((h→Oi l)∧(¬ h→l=[])):=rfl
theorem Hf:G4 0:=⟨by decide,by decide⟩
theorem AHv (c:Cm) (h1:(Xf c).length≤1048576) (h2:(Xk c).length≤1048576):Zd (fun nf _ _ _=>K0 nf (c)) (fun r=>r=((dec (Pe c),()),[])):=by
  have hmay:Pe c↔1≤Z9 c∧Z9 c≤10∧0≤Ot c∧Ot c≤3∧(¬ Ot c=0→Z9 c≤2)∧Mf (X0 c) (3≤Z9 c∧Z9 c≤7)∧Mf (Hm c) (Z9 c=5∨Z9 c=6)∧Mf (Gb c) (Z9 c=2∨Z9 c=7∨Z9 c=8)∧Mf (Uv c) (Z9 c=8)∧Mf (Uu c) (Z9 c=8)∧AGa (Xf c) (Z9 c=8)∧AGa (Xk c) (Z9 c=8) :=
    ⟨fun h=>⟨h.k1,h.k2,h.d1,h.d2,h.d3,h.item,h.box,h.who,h.pay,h.fee,h.gives,h.wants⟩,fun ⟨a,b,c,d,e,f,g,h,i,j,k,l⟩=>⟨a,b,c,d,e,f,g,h,i,j,k,l⟩⟩
  rw [show Pe c=_ from propext hmay]
  have key:∀ (kd dir item box who pay fee:Int) (gives wants:List Int),gives.length≤1048576→wants.length≤1048576→Zd (fun nf _ _ _=>K0 nf ((kd,dir,item,box,who,gives,pay,wants,fee,()))) (fun r=>r=((dec (1≤kd∧kd≤10∧0≤dir∧dir≤3∧(¬ dir=0→kd≤2)∧Mf item (3≤kd∧kd≤7)∧Mf box (kd=5∨kd=6)∧Mf who (kd=2∨kd=7∨kd=8)∧Mf pay (kd=8)∧Mf fee (kd=8)∧AGa gives (kd=8)∧AGa wants (kd=8)),()),[])):=by
    intro kd dir item box who pay fee gives wants h1 h2
    by_cases hk:1≤kd∧kd≤10
    · have spec:∀ b:Cm,Zd (fun nf _ _ _=>Qb nf ((kd,dir,item,box,who,gives,pay,wants,fee,()))) (fun r=>r=((b,()),[]))→Zd (fun nf _ _ _=>K0 nf ((kd,dir,item,box,who,gives,pay,wants,fee,()))) (fun r=>r=((dec (((kd,dir,item,box,who,gives,pay,wants,fee,()):Cm)=b∧(0≤dir∧dir≤3)∧G4 item∧G4 box∧G4 who∧G4 pay∧G4 fee∧Oi gives∧Oi wants),()),[])):=fun b hb=>by
        have hs:=AFg (kd,dir,item,box,who,gives,pay,wants,fee,()) b h1 h2
        refine Zd.succ (fun nf _ _ _=>K0.eq nf _) ?_
        simp only [Ze (Pj kd),(Pj kd).prop,Ba,V4.2 (fun hn:¬ (1≤kd∧kd≤10)=>hn hk),Bool.not_false,cond_true,Ze hb,hb.prop,Ze hs,hs.prop]
        by_cases g1:((kd,dir,item,box,who,gives,pay,wants,fee,()):Cm)=b <;> by_cases g2:0≤dir∧dir≤3 <;> by_cases g3:G4 item <;> by_cases g4:G4 box <;> by_cases g5:G4 who <;> by_cases g6:G4 pay <;> by_cases g7:G4 fee <;> by_cases g8:Oi gives <;>
          simp only [g1,g2,g3,g4,g5,g6,g7,g8,AKy,AHy,cond_true,cond_false,Gq,Ze (An dir),(An dir).prop,AI7,not_true_eq_false,not_false_eq_true,Bool.not_true,Bool.not_false,Ze (Nu _),(Nu _).prop,Ze (Ny gives h1),(Ny gives h1).prop,Ze (Ny wants h2),(Ny wants h2).prop,true_and,false_and,and_true,and_false]
      rcases Ep kd hk with rfl | rfl | rfl | rfl | rfl | rfl | rfl | rfl | rfl | rfl
      · have s:=spec (1,dir,0,0,0,[],0,[],0,()) (by
          refine Zd.succ (fun nf _ _ _=>Qb.eq nf _) ?_
          simp)
        refine s.mono (fun v hv => ?_)
        rw [hv]
        refine Prod.ext (Prod.ext ?_ rfl) rfl
        simp only [Rf]
        simp only [Uo,Ur]
        have f0:∀ n,n=0→G4 n:=fun n e=>e ▸ Hf
        have r0:∀ l,l=[]→Oi l:=fun l e=>e ▸ Gf
        have f1:=f0 item; have f2:=f0 box; have f3:=f0 who; have f4:=f0 pay; have f5:=f0 fee; have r1:=r0 gives; have r2:=r0 wants
        clear spec s hv f0 r0 hmay
        simp
        grind
      · have s:=spec (2,dir,0,0,who,[],0,[],0,()) (by
          refine Zd.succ (fun nf _ _ _=>Qb.eq nf _) ?_
          simp)
        refine s.mono (fun v hv => ?_)
        rw [hv]
        refine Prod.ext (Prod.ext ?_ rfl) rfl
        simp only [Rf]
        simp only [Uo,Ur]
        have f0:∀ n,n=0→G4 n:=fun n e=>e ▸ Hf
        have r0:∀ l,l=[]→Oi l:=fun l e=>e ▸ Gf
        have f1:=f0 item; have f2:=f0 box; have f3:=f0 who; have f4:=f0 pay; have f5:=f0 fee; have r1:=r0 gives; have r2:=r0 wants
        clear spec s hv f0 r0 hmay
        simp
        grind
      · have s:=spec (3,0,item,0,0,[],0,[],0,()) (by
          refine Zd.succ (fun nf _ _ _=>Qb.eq nf _) ?_
          simp)
        refine s.mono (fun v hv => ?_)
        rw [hv]
        refine Prod.ext (Prod.ext ?_ rfl) rfl
        simp only [Rf]
        simp only [Uo,Ur]
        have f0:∀ n,n=0→G4 n:=fun n e=>e ▸ Hf
        have r0:∀ l,l=[]→Oi l:=fun l e=>e ▸ Gf
        have f1:=f0 item; have f2:=f0 box; have f3:=f0 who; have f4:=f0 pay; have f5:=f0 fee; have r1:=r0 gives; have r2:=r0 wants
        clear spec s hv f0 r0 hmay
        simp
        grind
      · have s:=spec (4,0,item,0,0,[],0,[],0,()) (by
          refine Zd.succ (fun nf _ _ _=>Qb.eq nf _) ?_
          simp)
        refine s.mono (fun v hv => ?_)
        rw [hv]
        refine Prod.ext (Prod.ext ?_ rfl) rfl
        simp only [Rf]
        simp only [Uo,Ur]
        have f0:∀ n,n=0→G4 n:=fun n e=>e ▸ Hf
        have r0:∀ l,l=[]→Oi l:=fun l e=>e ▸ Gf
        have f1:=f0 item; have f2:=f0 box; have f3:=f0 who; have f4:=f0 pay; have f5:=f0 fee; have r1:=r0 gives; have r2:=r0 wants
        clear spec s hv f0 r0 hmay
        simp
        grind
      · have s:=spec (5,0,item,box,0,[],0,[],0,()) (by
          refine Zd.succ (fun nf _ _ _=>Qb.eq nf _) ?_
          simp)
        refine s.mono (fun v hv => ?_)
        rw [hv]
        refine Prod.ext (Prod.ext ?_ rfl) rfl
        simp only [Rf]
        simp only [Uo,Ur]
        have f0:∀ n,n=0→G4 n:=fun n e=>e ▸ Hf
        have r0:∀ l,l=[]→Oi l:=fun l e=>e ▸ Gf
        have f1:=f0 item; have f2:=f0 box; have f3:=f0 who; have f4:=f0 pay; have f5:=f0 fee; have r1:=r0 gives; have r2:=r0 wants
        clear spec s hv f0 r0 hmay
        simp
        grind
      · have s:=spec (6,0,item,box,0,[],0,[],0,()) (by
          refine Zd.succ (fun nf _ _ _=>Qb.eq nf _) ?_
          simp)
        refine s.mono (fun v hv => ?_)
        rw [hv]
        refine Prod.ext (Prod.ext ?_ rfl) rfl
        simp only [Rf]
        simp only [Uo,Ur]
        have f0:∀ n,n=0→G4 n:=fun n e=>e ▸ Hf
        have r0:∀ l,l=[]→Oi l:=fun l e=>e ▸ Gf
        have f1:=f0 item; have f2:=f0 box; have f3:=f0 who; have f4:=f0 pay; have f5:=f0 fee; have r1:=r0 gives; have r2:=r0 wants
        clear spec s hv f0 r0 hmay
        simp
        grind
      · have s:=spec (7,0,item,0,who,[],0,[],0,()) (by
          refine Zd.succ (fun nf _ _ _=>Qb.eq nf _) ?_
          simp)
        refine s.mono (fun v hv => ?_)
        rw [hv]
        refine Prod.ext (Prod.ext ?_ rfl) rfl
        simp only [Rf]
        simp only [Uo,Ur]
        have f0:∀ n,n=0→G4 n:=fun n e=>e ▸ Hf
        have r0:∀ l,l=[]→Oi l:=fun l e=>e ▸ Gf
        have f1:=f0 item; have f2:=f0 box; have f3:=f0 who; have f4:=f0 pay; have f5:=f0 fee; have r1:=r0 gives; have r2:=r0 wants
        clear spec s hv f0 r0 hmay
        simp
        grind
      · have s:=spec (8,0,0,0,who,gives,pay,wants,fee,()) (by
          refine Zd.succ (fun nf _ _ _=>Qb.eq nf _) ?_
          simp)
        refine s.mono (fun v hv => ?_)
        rw [hv]
        refine Prod.ext (Prod.ext ?_ rfl) rfl
        simp only [Rf]
        simp only [Uo,Ur]
        have f0:∀ n,n=0→G4 n:=fun n e=>e ▸ Hf
        have r0:∀ l,l=[]→Oi l:=fun l e=>e ▸ Gf
        have f1:=f0 item; have f2:=f0 box; have f3:=f0 who; have f4:=f0 pay; have f5:=f0 fee; have r1:=r0 gives; have r2:=r0 wants
        clear spec s hv f0 r0 hmay
        simp
        grind
      · have s:=spec (9,0,0,0,0,[],0,[],0,()) (by
          refine Zd.succ (fun nf _ _ _=>Qb.eq nf _) ?_
          simp)
        refine s.mono (fun v hv => ?_)
        rw [hv]
        refine Prod.ext (Prod.ext ?_ rfl) rfl
        simp only [Rf]
        simp only [Uo,Ur]
        have f0:∀ n,n=0→G4 n:=fun n e=>e ▸ Hf
        have r0:∀ l,l=[]→Oi l:=fun l e=>e ▸ Gf
        have f1:=f0 item; have f2:=f0 box; have f3:=f0 who; have f4:=f0 pay; have f5:=f0 fee; have r1:=r0 gives; have r2:=r0 wants
        clear spec s hv f0 r0 hmay
        simp
        grind
      · have s:=spec (10,0,0,0,0,[],0,[],0,()) (by
          refine Zd.succ (fun nf _ _ _=>Qb.eq nf _) ?_
          simp)
        refine s.mono (fun v hv => ?_)
        rw [hv]
        refine Prod.ext (Prod.ext ?_ rfl) rfl
        simp only [Rf]
        simp only [Uo,Ur]
        have f0:∀ n,n=0→G4 n:=fun n e=>e ▸ Hf
        have r0:∀ l,l=[]→Oi l:=fun l e=>e ▸ Gf
        have f1:=f0 item; have f2:=f0 box; have f3:=f0 who; have f4:=f0 pay; have f5:=f0 fee; have r1:=r0 gives; have r2:=r0 wants
        clear spec s hv f0 r0 hmay
        simp
        grind
    · refine Zd.succ (fun nf _ _ _=>K0.eq nf _) ?_
      simp only [Ze (Pj kd),(Pj kd).prop,Ba,Q3.2 hk,Bool.not_true,cond_false,Gq]
      rw [V4.2 (fun h=>hk ⟨h.1,h.2.1⟩)]
  exact key _ _ _ _ _ _ _ _ _ h1 h2
end Go.Proofs.YtpemapoblhleoaaGreatDoor.Ghost
