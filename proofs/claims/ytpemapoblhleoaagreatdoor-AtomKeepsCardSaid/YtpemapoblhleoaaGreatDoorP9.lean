/- What functions come to, and that the statements are answered with 'true'. Conditions: none. -/
import Derived.Test.YtpemapoblhleoaaGreatDoorS
import Derived.Test.YtpemapoblhleoaaGreatDoorGE
import Derived.Test.YtpemapoblhleoaaGreatDoorP1
import Derived.Test.YtpemapoblhleoaaGreatDoorP2
import Derived.Test.YtpemapoblhleoaaGreatDoorP3
import Derived.Test.YtpemapoblhleoaaGreatDoorP4
import Derived.Test.YtpemapoblhleoaaGreatDoorP5
import Derived.Test.YtpemapoblhleoaaGreatDoorP6
import Derived.Test.YtpemapoblhleoaaGreatDoorP7
import Derived.Test.YtpemapoblhleoaaGreatDoorP8
set_option linter.unusedVariables false
set_option linter.unusedSimpArgs false
set_option linter.unusedSectionVars false
set_option linter.unnecessarySimpa false
namespace Go.Proofs.YtpemapoblhleoaaGreatDoor.Ghost
open Go
theorem BJd (a b:List Int) (ha:a.length≤1048576) (hl:a.length=b.length) (t4:Bool):∀ i,i≤a.length→Zd (fun nf fm0 _ _=>Zo.l0 nf fm0 (a) (b) t4 ((a.length:Int)) ((i:Int))) (fun r=>r=((dec (∀ j,i≤j→j<a.length→List.getD a j 0=List.getD b j 0),()),[])):=by
  refine upto ?_ (fun i hi next => ?_)
  · refine Zd.succ1 (fun nf fm0 _ _=>Zo.l0_eq nf fm0 _ _ _ _ _) ?_
    simp [-List.getD_eq_getElem?_getD,-List.length_eq_zero_iff,Zr,Zp,Z4,Zy,Xk,Xj,Yt]
    intro j h1 h2; omega
  · rw [← Xm (by omega)] at next
    have hi2:i<b.length:=by omega
    refine Zd.succ1 (fun nf fm0 _ _=>Zo.l0_eq nf fm0 _ _ _ _ _) ?_
    by_cases e:List.getD a i 0=List.getD b i 0
    · simp [-List.getD_eq_getElem?_getD,-List.length_eq_zero_iff,Zr,Zp,Z4,Zy,Xk,Xj,Yt,hi,hi2,e]
      refine next.mono (fun v hv => ?_)
      rw [hv]
      have:(∀ j,i+1≤j→j<a.length→List.getD a j 0=List.getD b j 0)=(∀ j,i≤j→j<a.length→List.getD a j 0=List.getD b j 0):=propext ⟨fun h j h1 h2=>by
        by_cases hj:j=i
        · subst hj; exact e
        · exact h j (by omega) h2,fun h j h1 h2=>h j (by omega) h2⟩
      rw [this]
    · simp [-List.getD_eq_getElem?_getD,-List.length_eq_zero_iff,Zr,Zp,Z4,Zy,Xk,Xj,Yt,hi,hi2,e]
      exact ⟨i,Nat.le_refl i,hi,e⟩
theorem ADa (a b:List Int) (ha:a.length≤1048576):Zd (fun nf _ _ _=>Zo nf (a) (b)) (fun r=>r=((dec (a=b),()),[])):=by
  by_cases hl:a.length=b.length
  · have l0:=(BJd a b ha hl false 0 (Nat.zero_le _)).enter
    have:(∀ j,0≤j→j<a.length→List.getD a j 0=List.getD b j 0)=(a=b):=propext ⟨fun h=>Rz 0 hl (fun j hj=>h j (Nat.zero_le j) hj),fun h j _ _=>by rw [h]⟩
    rw [this] at l0
    refine Zd.succ (fun nf _ _ _=>Zo.eq nf _ _) ?_
    simp [-List.getD_eq_getElem?_getD,-List.length_eq_zero_iff,Zr,Zp,Z4,Zy,Xk,Xj,Yt,hl]
    rw [hl] at l0
    exact l0
  · have e:¬ a=b:=fun e=>hl (by rw [e])
    refine Zd.succ (fun nf _ _ _=>Zo.eq nf _ _) ?_
    simp [-List.getD_eq_getElem?_getD,-List.length_eq_zero_iff,Zr,Zp,Z4,Zy,Xk,Xj,Yt,hl,e,show ¬ (a.length:Int)=(b.length:Int) by omega]
end Go.Proofs.YtpemapoblhleoaaGreatDoor.Ghost
namespace Go.Proofs.YtpemapoblhleoaaGreatDoor.Ghost
open Go
theorem Ed (x y:den Ud):eqT Ud x y=dec (x=y):=by
  obtain ⟨a1,a2,a3,a4,a5,a6,a7,⟨⟩⟩:=x
  obtain ⟨b1,b2,b3,b4,b5,b6,b7,⟨⟩⟩:=y
  rw [Bool.eq_iff_iff,Q7]
  simp [eqT,ABk]
theorem AFn (a b:Cm) (h1:(Xi a).length≤1048576) (h2:(Xp a).length≤1048576):Zd (fun nf _ _ _=>K9 nf (a) (b)) (fun r=>r=((dec (a=b),()),[])):=by
  have of_:∀ c:Cm,Zd (fun nf _ _ _=>Ui nf (c)) (fun r=>r=(((Xg c,Oi c,Yo c,Gk c,Hp c,Uh c,Ug c,()),()),[])):=fun c=>by
    refine Zd.succ (fun nf _ _ _=>Ui.eq nf _) ?_
    simp
  have e:(a=b)=(((Xg a,Oi a,Yo a,Gk a,Hp a,Uh a,Ug a,()):den Ud)=(Xg b,Oi b,Yo b,Gk b,Hp b,Uh b,Ug b,())∧Xi a=Xi b∧Xp a=Xp b):=by
    obtain ⟨a1,a2,a3,a4,a5,a6,a7,a8,a9,⟨⟩⟩:=a
    obtain ⟨b1,b2,b3,b4,b5,b6,b7,b8,b9,⟨⟩⟩:=b
    refine propext ?_
    simp
    grind
  obtain ⟨b4,e4,s4⟩:∃ x,(x=true)=(Xi a=Xi b)∧Zd (fun nf _ _ _=>Zo nf (Xi a) (Xi b)) (fun r=>r=((x,()),[])):=⟨_,propext Q7,ADa _ _ h1⟩
  obtain ⟨b5,e5,s5⟩:∃ x,(x=true)=(Xp a=Xp b)∧Zd (fun nf _ _ _=>Zo nf (Xp a) (Xp b)) (fun r=>r=((x,()),[])):=⟨_,propext Q7,ADa _ _ h2⟩
  rw [e,← e4,← e5]
  refine Zd.succ (fun nf _ _ _=>K9.eq nf _ _) ?_
  by_cases h:((Xg a,Oi a,Yo a,Gk a,Hp a,Uh a,Ug a,()):den Ud)=(Xg b,Oi b,Yo b,Gk b,Hp b,Uh b,Ug b,())
  · simp only [Ze (of_ a),(of_ a).prop,Ze (of_ b),(of_ b).prop,Ed,Q7.2 h,cond_true]
    simp only [Ze s4,s4.prop]
    cases b4
    · simp only [cond_false,Gs]; simp [h]
    · simp only [cond_true,Ze s5,s5.prop,Gs]
      cases b5 <;> simp [h]
  · simp only [Ze (of_ a),(of_ a).prop,Ze (of_ b),(of_ b).prop,Ed,V7.2 h,cond_false,Gs]
    rw [V7.2 (fun hh=>h hh.1)]
def G6 (n:Int):Prop:=0≤n∧n≤1073741824
theorem Nw (a:Int):Zd (fun nf _ _ _=>Kd nf (a)) (fun r=>r=((dec (G6 a),()),[])):=by
  refine Zd.succ (fun nf _ _ _=>Kd.eq nf _) ?_
  by_cases h:0≤a <;> simp [h,G6,Te]
theorem BVp (l:List Int) (hl:l.length≤1048576) (t4:Int):∀ i,i≤l.length→Zd (fun nf fm0 _ _=>Zt.l0 nf fm0 (l) t4 ((l.length:Int)) ((i:Int))) (fun r=>0≤r.1.1↔∃ j,i≤j∧j<l.length∧¬ G6 (List.getD l j 0)):=by
  have cl:∀ x,Zd (fun nf _ _ _=>V5 nf (x)) (fun r=>r=((dec (¬ G6 x),()),[])):=fun x=>by
    refine Zd.succ (fun nf _ _ _=>V5.eq nf _) ?_
    simp [Ze (Nw x),(Nw x).prop]
  refine upto ?_ (fun i hi next => ?_)
  · refine Zd.succ1 (fun nf fm0 _ _=>Zt.l0_eq nf fm0 _ _ _ _) ?_
    simp [-List.getD_eq_getElem?_getD,-List.length_eq_zero_iff,Zr,Zp,Z4,Zy,Xk,Xj,Yt]
    omega
  · rw [← Xm (by omega)] at next
    refine Zd.succ1 (fun nf fm0 _ _=>Zt.l0_eq nf fm0 _ _ _ _) ?_
    simp [-List.getD_eq_getElem?_getD,-List.length_eq_zero_iff,Zr,Zp,Z4,Zy,Xk,Xj,Yt,hi,Ze (cl (List.getD l i 0)),(cl (List.getD l i 0)).prop]
    refine ⟨fun h=>⟨i,Nat.le_refl i,hi,h⟩,fun h=>next.mono (fun v hv => ?_)⟩
    rw [hv]
    refine ⟨fun ⟨j,a,b,e⟩=>⟨j,by omega,b,e⟩,fun ⟨j,a,b,e⟩=>⟨j,?_,b,e⟩⟩
    by_cases hj:j=i
    · subst hj; exact absurd h e
    · omega
def Oj (l:List Int):Prop:=(∀ j,j<l.length→G6 (List.getD l j 0))∧l.length≤16
theorem N0 (l:List Int) (hl:l.length≤1048576):Zd (fun nf _ _ _=>Hz nf (l)) (fun r=>r=((dec (Oj l),()),[])):=by
  have h1:Zd (fun nf _ _ _=>Zt nf (l)) (fun r=>0≤r.1.1↔∃ j,0≤j∧j<l.length∧¬ G6 (List.getD l j 0)):=by
    refine Zd.succ (fun nf _ _ _=>Zt.eq nf _) ?_
    exact (BVp l hl _ 0 (Nat.zero_le _)).enter
  have h2:Zd (fun nf _ _ _=>Xy nf (l)) (fun r=>r=((dec (∃ j,0≤j∧j<l.length∧¬ G6 (List.getD l j 0)),()),[])):=by
    refine Zd.succ (fun nf _ _ _=>Xy.eq nf _) ?_
    simp only [Ze h1,Gs,Te,h1.prop]
  refine Zd.succ (fun nf _ _ _=>Hz.eq nf _) ?_
  by_cases hn:(l.length:Int)≤16
  · have:l.length≤16:=by omega
    simp [Ze (h2),(h2).prop,hn,Oj,this]
  · have:¬ l.length≤16:=by omega
    simp [hn,Oj,this]
end Go.Proofs.YtpemapoblhleoaaGreatDoor.Ghost
namespace Go.Proofs.YtpemapoblhleoaaGreatDoor.Ghost
open Go
def Wa (l:List ByteArray) (k:Int):ByteArray:=if 0≤k∧k<(l.length:Int) then List.getD l (Int.toNat k) (dft .str) else (⟨#[]⟩:ByteArray)
theorem Pr (l:List ByteArray) (k:Int):Zd (fun nf _ _ _=>Kp nf (l) (k)) (fun r=>r=((Wa l k,()),[])):=by
  refine Zd.succ (fun nf _ _ _=>Kp.eq nf _ _) ?_
  by_cases h1:k<0
  · simp [-List.getD_eq_getElem?_getD,-List.length_eq_zero_iff,Zr,Zp,Z4,Zy,Xk,Xj,Yt,h1,Wa,show ¬ 0≤k by omega]
  · by_cases h2:(l.length:Int)≤k
    · simp [-List.getD_eq_getElem?_getD,-List.length_eq_zero_iff,Zr,Zp,Z4,Zy,Xk,Xj,Yt,h1,h2,Wa,show ¬ k<(l.length:Int) by omega]
    · simp [-List.getD_eq_getElem?_getD,-List.length_eq_zero_iff,Zr,Zp,Z4,Zy,Xk,Xj,Yt,h1,h2,Wa,show 0≤k by omega,show k<(l.length:Int) by omega]
theorem Pp (k:Int):Zd (fun nf _ _ _=>K8 nf (k)) (fun r=>r=((Wa Ly k,()),[])):=by
  refine Zd.succ (fun nf _ _ _=>K8.eq nf _) ?_
  simp only [Ze (Pr Ly k),(Pr Ly k).prop,Gs]
theorem Ad (k:Int):Zd (fun nf _ _ _=>Gj nf (k)) (fun r=>r=((Wa Lz k,()),[])):=by
  refine Zd.succ (fun nf _ _ _=>Gj.eq nf _) ?_
  simp only [Ze (Pr Lz k),(Pr Lz k).prop,Gs]
theorem Ej (k:Int) (h:1≤k∧k≤10):k=1∨k=2∨k=3∨k=4∨k=5∨k=6∨k=7∨k=8∨k=9∨k=10:=by omega
theorem AGp (k:Int) (h:0≤k∧k≤3):k=0∨k=1∨k=2∨k=3:=by omega
theorem Cy (k:Int):eqT .str (Wa Ly k) (⟨#[]⟩:ByteArray)=dec (¬ (1≤k∧k≤10)):=by
  by_cases h:1≤k∧k≤10
  · rw [V7.2 (fun hn=>hn h)]
    rcases Ej k h with rfl | rfl | rfl | rfl | rfl | rfl | rfl | rfl | rfl | rfl <;> kernel_rfl
  · rw [Q7.2 h]
    by_cases h0:k=0
    · subst h0; kernel_rfl
    · have:Wa Ly k=(⟨#[]⟩:ByteArray):=by
        unfold Wa
        rw [if_neg (by rw [show List.length (Ly:List ByteArray)=11 from rfl]; omega)]
      rw [this]; rfl
theorem AJl (k:Int):eqT .str (Wa Lz k) (⟨#[]⟩:ByteArray)=dec (¬ (0≤k∧k≤3)):=by
  by_cases h:0≤k∧k≤3
  · rw [V7.2 (fun hn=>hn h)]
    rcases AGp k h with rfl | rfl | rfl | rfl <;> kernel_rfl
  · rw [Q7.2 h]
    have:Wa Lz k=(⟨#[]⟩:ByteArray):=by
      unfold Wa
      rw [if_neg (by rw [show List.length (Lz:List ByteArray)=4 from rfl]; omega)]
    rw [this]; rfl
theorem Gg:Oj []:=⟨fun j hj=>by simp at hj,by simp⟩
theorem Uq (n:Int) (h:Prop):Mf n h=((h→G6 n)∧(¬ h→n=0)):=rfl
theorem Ut (l:List Int) (h:Prop):AGg l h=((h→Oj l)∧(¬ h→l=[])):=rfl
theorem Hi:G6 0:=⟨by decide,by decide⟩
theorem AH6 (c:Cm) (h1:(Xi c).length≤1048576) (h2:(Xp c).length≤1048576):Zd (fun nf _ _ _=>K0 nf (c)) (fun r=>r=((dec (Mv c),()),[])):=by
  have hmay:Mv c↔1≤Xg c∧Xg c≤10∧0≤Oi c∧Oi c≤3∧(¬ Oi c=0→Xg c≤2)∧Mf (Yo c) (3≤Xg c∧Xg c≤7)∧Mf (Gk c) (Xg c=5∨Xg c=6)∧Mf (Hp c) (Xg c=2∨Xg c=7∨Xg c=8)∧Mf (Uh c) (Xg c=8)∧Mf (Ug c) (Xg c=8)∧AGg (Xi c) (Xg c=8)∧AGg (Xp c) (Xg c=8) :=
    ⟨fun h=>⟨h.k1,h.k2,h.d1,h.d2,h.d3,h.item,h.box,h.who,h.pay,h.fee,h.gives,h.wants⟩,fun ⟨a,b,c,d,e,f,g,h,i,j,k,l⟩=>⟨a,b,c,d,e,f,g,h,i,j,k,l⟩⟩
  rw [show Mv c=_ from propext hmay]
  have key:∀ (kd dir item box who pay fee:Int) (gives wants:List Int),gives.length≤1048576→wants.length≤1048576→Zd (fun nf _ _ _=>K0 nf ((kd,dir,item,box,who,gives,pay,wants,fee,()))) (fun r=>r=((dec (1≤kd∧kd≤10∧0≤dir∧dir≤3∧(¬ dir=0→kd≤2)∧Mf item (3≤kd∧kd≤7)∧Mf box (kd=5∨kd=6)∧Mf who (kd=2∨kd=7∨kd=8)∧Mf pay (kd=8)∧Mf fee (kd=8)∧AGg gives (kd=8)∧AGg wants (kd=8)),()),[])):=by
    intro kd dir item box who pay fee gives wants h1 h2
    by_cases hk:1≤kd∧kd≤10
    · have spec:∀ b:Cm,Zd (fun nf _ _ _=>Qe nf ((kd,dir,item,box,who,gives,pay,wants,fee,()))) (fun r=>r=((b,()),[]))→Zd (fun nf _ _ _=>K0 nf ((kd,dir,item,box,who,gives,pay,wants,fee,()))) (fun r=>r=((dec (((kd,dir,item,box,who,gives,pay,wants,fee,()):Cm)=b∧(0≤dir∧dir≤3)∧G6 item∧G6 box∧G6 who∧G6 pay∧G6 fee∧Oj gives∧Oj wants),()),[])):=fun b hb=>by
        have hs:=AFn (kd,dir,item,box,who,gives,pay,wants,fee,()) b h1 h2
        refine Zd.succ (fun nf _ _ _=>K0.eq nf _) ?_
        simp only [Ze (Pp kd),(Pp kd).prop,Cy,V7.2 (fun hn:¬ (1≤kd∧kd≤10)=>hn hk),Bool.not_false,cond_true,Ze hb,hb.prop,Ze hs,hs.prop]
        by_cases g1:((kd,dir,item,box,who,gives,pay,wants,fee,()):Cm)=b <;> by_cases g2:0≤dir∧dir≤3 <;> by_cases g3:G6 item <;> by_cases g4:G6 box <;> by_cases g5:G6 who <;> by_cases g6:G6 pay <;> by_cases g7:G6 fee <;> by_cases g8:Oj gives <;>
          simp only [g1,g2,g3,g4,g5,g6,g7,g8,ALd,AH9,cond_true,cond_false,Gs,Ze (Ad dir),(Ad dir).prop,AJl,not_true_eq_false,not_false_eq_true,Bool.not_true,Bool.not_false,Ze (Nw _),(Nw _).prop,Ze (N0 gives h1),(N0 gives h1).prop,Ze (N0 wants h2),(N0 wants h2).prop,true_and,false_and,and_true,and_false]
      rcases Ej kd hk with rfl | rfl | rfl | rfl | rfl | rfl | rfl | rfl | rfl | rfl
      · have s:=spec (1,dir,0,0,0,[],0,[],0,()) (by
          refine Zd.succ (fun nf _ _ _=>Qe.eq nf _) ?_
          simp)
        refine s.mono (fun v hv => ?_)
        rw [hv]
        refine Prod.ext (Prod.ext ?_ rfl) rfl
        simp only [Ri]
        simp only [Uq,Ut]
        have f0:∀ n,n=0→G6 n:=fun n e=>e ▸ Hi
        have r0:∀ l,l=[]→Oj l:=fun l e=>e ▸ Gg
        have f1:=f0 item; have f2:=f0 box; have f3:=f0 who; have f4:=f0 pay; have f5:=f0 fee; have r1:=r0 gives; have r2:=r0 wants
        clear spec s hv f0 r0 hmay
        simp
        grind
      · have s:=spec (2,dir,0,0,who,[],0,[],0,()) (by
          refine Zd.succ (fun nf _ _ _=>Qe.eq nf _) ?_
          simp)
        refine s.mono (fun v hv => ?_)
        rw [hv]
        refine Prod.ext (Prod.ext ?_ rfl) rfl
        simp only [Ri]
        simp only [Uq,Ut]
        have f0:∀ n,n=0→G6 n:=fun n e=>e ▸ Hi
        have r0:∀ l,l=[]→Oj l:=fun l e=>e ▸ Gg
        have f1:=f0 item; have f2:=f0 box; have f3:=f0 who; have f4:=f0 pay; have f5:=f0 fee; have r1:=r0 gives; have r2:=r0 wants
        clear spec s hv f0 r0 hmay
        simp
        grind
      · have s:=spec (3,0,item,0,0,[],0,[],0,()) (by
          refine Zd.succ (fun nf _ _ _=>Qe.eq nf _) ?_
          simp)
        refine s.mono (fun v hv => ?_)
        rw [hv]
        refine Prod.ext (Prod.ext ?_ rfl) rfl
        simp only [Ri]
        simp only [Uq,Ut]
        have f0:∀ n,n=0→G6 n:=fun n e=>e ▸ Hi
        have r0:∀ l,l=[]→Oj l:=fun l e=>e ▸ Gg
        have f1:=f0 item; have f2:=f0 box; have f3:=f0 who; have f4:=f0 pay; have f5:=f0 fee; have r1:=r0 gives; have r2:=r0 wants
        clear spec s hv f0 r0 hmay
        simp
        grind
      · have s:=spec (4,0,item,0,0,[],0,[],0,()) (by
          refine Zd.succ (fun nf _ _ _=>Qe.eq nf _) ?_
          simp)
        refine s.mono (fun v hv => ?_)
        rw [hv]
        refine Prod.ext (Prod.ext ?_ rfl) rfl
        simp only [Ri]
        simp only [Uq,Ut]
        have f0:∀ n,n=0→G6 n:=fun n e=>e ▸ Hi
        have r0:∀ l,l=[]→Oj l:=fun l e=>e ▸ Gg
        have f1:=f0 item; have f2:=f0 box; have f3:=f0 who; have f4:=f0 pay; have f5:=f0 fee; have r1:=r0 gives; have r2:=r0 wants
        clear spec s hv f0 r0 hmay
        simp
        grind
      · have s:=spec (5,0,item,box,0,[],0,[],0,()) (by
          refine Zd.succ (fun nf _ _ _=>Qe.eq nf _) ?_
          simp)
        refine s.mono (fun v hv => ?_)
        rw [hv]
        refine Prod.ext (Prod.ext ?_ rfl) rfl
        simp only [Ri]
        simp only [Uq,Ut]
        have f0:∀ n,n=0→G6 n:=fun n e=>e ▸ Hi
        have r0:∀ l,l=[]→Oj l:=fun l e=>e ▸ Gg
        have f1:=f0 item; have f2:=f0 box; have f3:=f0 who; have f4:=f0 pay; have f5:=f0 fee; have r1:=r0 gives; have r2:=r0 wants
        clear spec s hv f0 r0 hmay
        simp
        grind
      · have s:=spec (6,0,item,box,0,[],0,[],0,()) (by
          refine Zd.succ (fun nf _ _ _=>Qe.eq nf _) ?_
          simp)
        refine s.mono (fun v hv => ?_)
        rw [hv]
        refine Prod.ext (Prod.ext ?_ rfl) rfl
        simp only [Ri]
        simp only [Uq,Ut]
        have f0:∀ n,n=0→G6 n:=fun n e=>e ▸ Hi
        have r0:∀ l,l=[]→Oj l:=fun l e=>e ▸ Gg
        have f1:=f0 item; have f2:=f0 box; have f3:=f0 who; have f4:=f0 pay; have f5:=f0 fee; have r1:=r0 gives; have r2:=r0 wants
        clear spec s hv f0 r0 hmay
        simp
        grind
      · have s:=spec (7,0,item,0,who,[],0,[],0,()) (by
          refine Zd.succ (fun nf _ _ _=>Qe.eq nf _) ?_
          simp)
        refine s.mono (fun v hv => ?_)
        rw [hv]
        refine Prod.ext (Prod.ext ?_ rfl) rfl
        simp only [Ri]
        simp only [Uq,Ut]
        have f0:∀ n,n=0→G6 n:=fun n e=>e ▸ Hi
        have r0:∀ l,l=[]→Oj l:=fun l e=>e ▸ Gg
        have f1:=f0 item; have f2:=f0 box; have f3:=f0 who; have f4:=f0 pay; have f5:=f0 fee; have r1:=r0 gives; have r2:=r0 wants
        clear spec s hv f0 r0 hmay
        simp
        grind
      · have s:=spec (8,0,0,0,who,gives,pay,wants,fee,()) (by
          refine Zd.succ (fun nf _ _ _=>Qe.eq nf _) ?_
          simp)
        refine s.mono (fun v hv => ?_)
        rw [hv]
        refine Prod.ext (Prod.ext ?_ rfl) rfl
        simp only [Ri]
        simp only [Uq,Ut]
        have f0:∀ n,n=0→G6 n:=fun n e=>e ▸ Hi
        have r0:∀ l,l=[]→Oj l:=fun l e=>e ▸ Gg
        have f1:=f0 item; have f2:=f0 box; have f3:=f0 who; have f4:=f0 pay; have f5:=f0 fee; have r1:=r0 gives; have r2:=r0 wants
        clear spec s hv f0 r0 hmay
        simp
        grind
      · have s:=spec (9,0,0,0,0,[],0,[],0,()) (by
          refine Zd.succ (fun nf _ _ _=>Qe.eq nf _) ?_
          simp)
        refine s.mono (fun v hv => ?_)
        rw [hv]
        refine Prod.ext (Prod.ext ?_ rfl) rfl
        simp only [Ri]
        simp only [Uq,Ut]
        have f0:∀ n,n=0→G6 n:=fun n e=>e ▸ Hi
        have r0:∀ l,l=[]→Oj l:=fun l e=>e ▸ Gg
        have f1:=f0 item; have f2:=f0 box; have f3:=f0 who; have f4:=f0 pay; have f5:=f0 fee; have r1:=r0 gives; have r2:=r0 wants
        clear spec s hv f0 r0 hmay
        simp
        grind
      · have s:=spec (10,0,0,0,0,[],0,[],0,()) (by
          refine Zd.succ (fun nf _ _ _=>Qe.eq nf _) ?_
          simp)
        refine s.mono (fun v hv => ?_)
        rw [hv]
        refine Prod.ext (Prod.ext ?_ rfl) rfl
        simp only [Ri]
        simp only [Uq,Ut]
        have f0:∀ n,n=0→G6 n:=fun n e=>e ▸ Hi
        have r0:∀ l,l=[]→Oj l:=fun l e=>e ▸ Gg
        have f1:=f0 item; have f2:=f0 box; have f3:=f0 who; have f4:=f0 pay; have f5:=f0 fee; have r1:=r0 gives; have r2:=r0 wants
        clear spec s hv f0 r0 hmay
        simp
        grind
    · refine Zd.succ (fun nf _ _ _=>K0.eq nf _) ?_
      simp only [Ze (Pp kd),(Pp kd).prop,Cy,Q7.2 hk,Bool.not_true,cond_false,Gs]
      rw [V7.2 (fun h=>hk ⟨h.1,h.2.1⟩)]
  exact key _ _ _ _ _ _ _ _ _ h1 h2
end Go.Proofs.YtpemapoblhleoaaGreatDoor.Ghost
