/- What functions come to, and that the statements are answered with 'true'. Conditions: none. -/
import Derived.Test.YtpemapoblhleoaaGreatDoorS
import Derived.Test.YtpemapoblhleoaaGreatDoorGE
import Derived.Test.YtpemapoblhleoaaGreatDoorP1
import Derived.Test.YtpemapoblhleoaaGreatDoorP2
import Derived.Test.YtpemapoblhleoaaGreatDoorP3
import Derived.Test.YtpemapoblhleoaaGreatDoorP4
import Derived.Test.YtpemapoblhleoaaGreatDoorP5
import Derived.Test.YtpemapoblhleoaaGreatDoorP6
import Derived.Test.YtpemapoblhleoaaGreatDoorP7
import Derived.Test.YtpemapoblhleoaaGreatDoorP8
set_option linter.unusedVariables false
set_option linter.unusedSimpArgs false
set_option linter.unusedSectionVars false
set_option linter.unnecessarySimpa false
namespace Go.Proofs.YtpemapoblhleoaaGreatDoor.Ghost
open Go
theorem BGz (a b:List Int) (ha:a.length≤1048576) (hl:a.length=b.length) (t4:Bool):∀ i,i≤a.length→Zd (fun nf fm0 _ _=>Zo.l0 nf fm0 (a) (b) t4 ((a.length:Int)) ((i:Int))) (fun r=>r=((dec (∀ j,i≤j→j<a.length→List.getD a j 0=List.getD b j 0),()),[])):=by
  refine upto ?_ (fun i hi next => ?_)
  · refine Zd.succ1 (fun nf fm0 _ _=>Zo.l0_eq nf fm0 _ _ _ _ _) ?_
    simp [-List.getD_eq_getElem?_getD,-List.length_eq_zero_iff,Zu,Zq,Z0,Zr,Xg,Xf,Ya]
    intro j h1 h2; omega
  · rw [← Xr (by omega)] at next
    have hi2:i<b.length:=by omega
    refine Zd.succ1 (fun nf fm0 _ _=>Zo.l0_eq nf fm0 _ _ _ _ _) ?_
    by_cases e:List.getD a i 0=List.getD b i 0
    · simp [-List.getD_eq_getElem?_getD,-List.length_eq_zero_iff,Zu,Zq,Z0,Zr,Xg,Xf,Ya,hi,hi2,e]
      refine next.mono (fun v hv => ?_)
      rw [hv]
      have:(∀ j,i+1≤j→j<a.length→List.getD a j 0=List.getD b j 0)=(∀ j,i≤j→j<a.length→List.getD a j 0=List.getD b j 0):=propext ⟨fun h j h1 h2=>by
        by_cases hj:j=i
        · subst hj; exact e
        · exact h j (by omega) h2,fun h j h1 h2=>h j (by omega) h2⟩
      rw [this]
    · simp [-List.getD_eq_getElem?_getD,-List.length_eq_zero_iff,Zu,Zq,Z0,Zr,Xg,Xf,Ya,hi,hi2,e]
      exact ⟨i,Nat.le_refl i,hi,e⟩
theorem ADo (a b:List Int) (ha:a.length≤1048576):Zd (fun nf _ _ _=>Zo nf (a) (b)) (fun r=>r=((dec (a=b),()),[])):=by
  by_cases hl:a.length=b.length
  · have l0:=(BGz a b ha hl false 0 (Nat.zero_le _)).enter
    have:(∀ j,0≤j→j<a.length→List.getD a j 0=List.getD b j 0)=(a=b):=propext ⟨fun h=>ALg 0 hl (fun j hj=>h j (Nat.zero_le j) hj),fun h j _ _=>by rw [h]⟩
    rw [this] at l0
    refine Zd.succ (fun nf _ _ _=>Zo.eq nf _ _) ?_
    simp [-List.getD_eq_getElem?_getD,-List.length_eq_zero_iff,Zu,Zq,Z0,Zr,Xg,Xf,Ya,hl]
    rw [hl] at l0
    exact l0
  · have e:¬ a=b:=fun e=>hl (by rw [e])
    refine Zd.succ (fun nf _ _ _=>Zo.eq nf _ _) ?_
    simp [-List.getD_eq_getElem?_getD,-List.length_eq_zero_iff,Zu,Zq,Z0,Zr,Xg,Xf,Ya,hl,e,show ¬ (a.length:Int)=(b.length:Int) by omega]
end Go.Proofs.YtpemapoblhleoaaGreatDoor.Ghost
namespace Go.Proofs.YtpemapoblhleoaaGreatDoor.Ghost
open Go
theorem Ei (x y:den G9):eqT G9 x y=dec (x=y):=by
  obtain ⟨a1,a2,a3,a4,a5,a6,a7,⟨⟩⟩:=x
  obtain ⟨b1,b2,b3,b4,b5,b6,b7,⟨⟩⟩:=y
  rw [Bool.eq_iff_iff,Q3]
  simp [eqT,ABy]
theorem AFy (a b:Cm) (h1:(Xc a).length≤1048576) (h2:(Xi a).length≤1048576):Zd (fun nf _ _ _=>Ha nf (a) (b)) (fun r=>r=((dec (a=b),()),[])):=by
  have of_:∀ c:Cm,Zd (fun nf _ _ _=>Ue nf (c)) (fun r=>r=(((Z6 c,Tm c,Xu c,Kk c,Hn c,Ud c,Uc c,()),()),[])):=fun c=>by
    refine Zd.succ (fun nf _ _ _=>Ue.eq nf _) ?_
    simp
  have e:(a=b)=(((Z6 a,Tm a,Xu a,Kk a,Hn a,Ud a,Uc a,()):den G9)=(Z6 b,Tm b,Xu b,Kk b,Hn b,Ud b,Uc b,())∧Xc a=Xc b∧Xi a=Xi b):=by
    obtain ⟨a1,a2,a3,a4,a5,a6,a7,a8,a9,⟨⟩⟩:=a
    obtain ⟨b1,b2,b3,b4,b5,b6,b7,b8,b9,⟨⟩⟩:=b
    refine propext ?_
    simp
    grind
  obtain ⟨b4,e4,s4⟩:∃ x,(x=true)=(Xc a=Xc b)∧Zd (fun nf _ _ _=>Zo nf (Xc a) (Xc b)) (fun r=>r=((x,()),[])):=⟨_,propext Q3,ADo _ _ h1⟩
  obtain ⟨b5,e5,s5⟩:∃ x,(x=true)=(Xi a=Xi b)∧Zd (fun nf _ _ _=>Zo nf (Xi a) (Xi b)) (fun r=>r=((x,()),[])):=⟨_,propext Q3,ADo _ _ h2⟩
  rw [e,← e4,← e5]
  refine Zd.succ (fun nf _ _ _=>Ha.eq nf _ _) ?_
  by_cases h:((Z6 a,Tm a,Xu a,Kk a,Hn a,Ud a,Uc a,()):den G9)=(Z6 b,Tm b,Xu b,Kk b,Hn b,Ud b,Uc b,())
  · simp only [Ze (of_ a),(of_ a).prop,Ze (of_ b),(of_ b).prop,Ei,Q3.2 h,cond_true]
    simp only [Ze s4,s4.prop]
    cases b4
    · simp only [cond_false,Gn]; simp [h]
    · simp only [cond_true,Ze s5,s5.prop,Gn]
      cases b5 <;> simp [h]
  · simp only [Ze (of_ a),(of_ a).prop,Ze (of_ b),(of_ b).prop,Ei,V4.2 h,cond_false,Gn]
    rw [V4.2 (fun hh=>h hh.1)]
def G3 (n:Int):Prop:=0≤n∧n≤1073741824
theorem Ns (a:Int):Zd (fun nf _ _ _=>Ka nf (a)) (fun r=>r=((dec (G3 a),()),[])):=by
  refine Zd.succ (fun nf _ _ _=>Ka.eq nf _) ?_
  by_cases h:0≤a <;> simp [h,G3,Gh]
theorem BT9 (l:List Int) (hl:l.length≤1048576) (t4:Int):∀ i,i≤l.length→Zd (fun nf fm0 _ _=>Zt.l0 nf fm0 (l) t4 ((l.length:Int)) ((i:Int))) (fun r=>0≤r.1.1↔∃ j,i≤j∧j<l.length∧¬ G3 (List.getD l j 0)):=by
  have cl:∀ x,Zd (fun nf _ _ _=>V2 nf (x)) (fun r=>r=((dec (¬ G3 x),()),[])):=fun x=>by
    refine Zd.succ (fun nf _ _ _=>V2.eq nf _) ?_
    simp [Ze (Ns x),(Ns x).prop]
  refine upto ?_ (fun i hi next => ?_)
  · refine Zd.succ1 (fun nf fm0 _ _=>Zt.l0_eq nf fm0 _ _ _ _) ?_
    simp [-List.getD_eq_getElem?_getD,-List.length_eq_zero_iff,Zu,Zq,Z0,Zr,Xg,Xf,Ya]
    omega
  · rw [← Xr (by omega)] at next
    refine Zd.succ1 (fun nf fm0 _ _=>Zt.l0_eq nf fm0 _ _ _ _) ?_
    simp [-List.getD_eq_getElem?_getD,-List.length_eq_zero_iff,Zu,Zq,Z0,Zr,Xg,Xf,Ya,hi,Ze (cl (List.getD l i 0)),(cl (List.getD l i 0)).prop]
    refine ⟨fun h=>⟨i,Nat.le_refl i,hi,h⟩,fun h=>next.mono (fun v hv => ?_)⟩
    rw [hv]
    refine ⟨fun ⟨j,a,b,e⟩=>⟨j,by omega,b,e⟩,fun ⟨j,a,b,e⟩=>⟨j,?_,b,e⟩⟩
    by_cases hj:j=i
    · subst hj; exact absurd h e
    · omega
def Od (l:List Int):Prop:=(∀ j,j<l.length→G3 (List.getD l j 0))∧l.length≤16
theorem Nw (l:List Int) (hl:l.length≤1048576):Zd (fun nf _ _ _=>Hy nf (l)) (fun r=>r=((dec (Od l),()),[])):=by
  have h1:Zd (fun nf _ _ _=>Zt nf (l)) (fun r=>0≤r.1.1↔∃ j,0≤j∧j<l.length∧¬ G3 (List.getD l j 0)):=by
    refine Zd.succ (fun nf _ _ _=>Zt.eq nf _) ?_
    exact (BT9 l hl _ 0 (Nat.zero_le _)).enter
  have h2:Zd (fun nf _ _ _=>Xt nf (l)) (fun r=>r=((dec (∃ j,0≤j∧j<l.length∧¬ G3 (List.getD l j 0)),()),[])):=by
    refine Zd.succ (fun nf _ _ _=>Xt.eq nf _) ?_
    simp only [Ze h1,Gn,Gh,h1.prop]
  refine Zd.succ (fun nf _ _ _=>Hy.eq nf _) ?_
  by_cases hn:(l.length:Int)≤16
  · have:l.length≤16:=by omega
    simp [Ze (h2),(h2).prop,hn,Od,this]
  · have:¬ l.length≤16:=by omega
    simp [hn,Od,this]
end Go.Proofs.YtpemapoblhleoaaGreatDoor.Ghost
namespace Go.Proofs.YtpemapoblhleoaaGreatDoor.Ghost
open Go
def U5 (l:List ByteArray) (k:Int):ByteArray:=if 0≤k∧k<(l.length:Int) then List.getD l (Int.toNat k) (dft .str) else (⟨#[]⟩:ByteArray)
theorem Pk (l:List ByteArray) (k:Int):Zd (fun nf _ _ _=>Kp nf (l) (k)) (fun r=>r=((U5 l k,()),[])):=by
  refine Zd.succ (fun nf _ _ _=>Kp.eq nf _ _) ?_
  by_cases h1:k<0
  · simp [-List.getD_eq_getElem?_getD,-List.length_eq_zero_iff,Zu,Zq,Z0,Zr,Xg,Xf,Ya,h1,U5,show ¬ 0≤k by omega]
  · by_cases h2:(l.length:Int)≤k
    · simp [-List.getD_eq_getElem?_getD,-List.length_eq_zero_iff,Zu,Zq,Z0,Zr,Xg,Xf,Ya,h1,h2,U5,show ¬ k<(l.length:Int) by omega]
    · simp [-List.getD_eq_getElem?_getD,-List.length_eq_zero_iff,Zu,Zq,Z0,Zr,Xg,Xf,Ya,h1,h2,U5,show 0≤k by omega,show k<(l.length:Int) by omega]
theorem Pi (k:Int):Zd (fun nf _ _ _=>K9 nf (k)) (fun r=>r=((U5 Ly k,()),[])):=by
  refine Zd.succ (fun nf _ _ _=>K9.eq nf _) ?_
  simp only [Ze (Pk Ly k),(Pk Ly k).prop,Gn]
theorem Ao (k:Int):Zd (fun nf _ _ _=>Gg nf (k)) (fun r=>r=((U5 Lz k,()),[])):=by
  refine Zd.succ (fun nf _ _ _=>Gg.eq nf _) ?_
  simp only [Ze (Pk Lz k),(Pk Lz k).prop,Gn]
theorem Eo (k:Int) (h:1≤k∧k≤10):k=1∨k=2∨k=3∨k=4∨k=5∨k=6∨k=7∨k=8∨k=9∨k=10:=by omega
theorem AGy (k:Int) (h:0≤k∧k≤3):k=0∨k=1∨k=2∨k=3:=by omega
theorem C4 (k:Int):eqT .str (U5 Ly k) (⟨#[]⟩:ByteArray)=dec (¬ (1≤k∧k≤10)):=by
  by_cases h:1≤k∧k≤10
  · rw [V4.2 (fun hn=>hn h)]
    rcases Eo k h with rfl | rfl | rfl | rfl | rfl | rfl | rfl | rfl | rfl | rfl <;> kernel_rfl
  · rw [Q3.2 h]
    by_cases h0:k=0
    · subst h0; kernel_rfl
    · have:U5 Ly k=(⟨#[]⟩:ByteArray):=by
        unfold U5
        rw [if_neg (by rw [show List.length (Ly:List ByteArray)=11 from rfl]; omega)]
      rw [this]; rfl
theorem AJm (k:Int):eqT .str (U5 Lz k) (⟨#[]⟩:ByteArray)=dec (¬ (0≤k∧k≤3)):=by
  by_cases h:0≤k∧k≤3
  · rw [V4.2 (fun hn=>hn h)]
    rcases AGy k h with rfl | rfl | rfl | rfl <;> kernel_rfl
  · rw [Q3.2 h]
    have:U5 Lz k=(⟨#[]⟩:ByteArray):=by
      unfold U5
      rw [if_neg (by rw [show List.length (Lz:List ByteArray)=4 from rfl]; omega)]
    rw [this]; rfl
theorem Ge:Od []:=⟨fun j hj=>by simp at hj,by simp⟩
theorem Um (n:Int) (h:Prop):Gc n h=((h→G3 n)∧(¬ h→n=0)):=rfl
theorem Up (l:List Int) (h:Prop):M8 l h=((h→Od l)∧(¬ h→l=[])):=rfl
theorem Hg:G3 0:=⟨by decide,by decide⟩
theorem AIb (c:Cm) (h1:(Xc c).length≤1048576) (h2:(Xi c).length≤1048576):Zd (fun nf _ _ _=>K1 nf (c)) (fun r=>r=((dec (Rp c),()),[])):=by
  have hmay:Rp c↔1≤Z6 c∧Z6 c≤10∧0≤Tm c∧Tm c≤3∧(¬ Tm c=0→Z6 c≤2)∧Gc (Xu c) (3≤Z6 c∧Z6 c≤7)∧Gc (Kk c) (Z6 c=5∨Z6 c=6)∧Gc (Hn c) (Z6 c=2∨Z6 c=7∨Z6 c=8)∧Gc (Ud c) (Z6 c=8)∧Gc (Uc c) (Z6 c=8)∧M8 (Xc c) (Z6 c=8)∧M8 (Xi c) (Z6 c=8) :=
    ⟨fun h=>⟨h.k1,h.k2,h.d1,h.d2,h.d3,h.item,h.box,h.who,h.pay,h.fee,h.gives,h.wants⟩,fun ⟨a,b,c,d,e,f,g,h,i,j,k,l⟩=>⟨a,b,c,d,e,f,g,h,i,j,k,l⟩⟩
  rw [show Rp c=_ from propext hmay]
  have key:∀ (kd dir item box who pay fee:Int) (gives wants:List Int),gives.length≤1048576→wants.length≤1048576→Zd (fun nf _ _ _=>K1 nf ((kd,dir,item,box,who,gives,pay,wants,fee,()))) (fun r=>r=((dec (1≤kd∧kd≤10∧0≤dir∧dir≤3∧(¬ dir=0→kd≤2)∧Gc item (3≤kd∧kd≤7)∧Gc box (kd=5∨kd=6)∧Gc who (kd=2∨kd=7∨kd=8)∧Gc pay (kd=8)∧Gc fee (kd=8)∧M8 gives (kd=8)∧M8 wants (kd=8)),()),[])):=by
    intro kd dir item box who pay fee gives wants h1 h2
    by_cases hk:1≤kd∧kd≤10
    · have spec:∀ b:Cm,Zd (fun nf _ _ _=>Y9 nf ((kd,dir,item,box,who,gives,pay,wants,fee,()))) (fun r=>r=((b,()),[]))→Zd (fun nf _ _ _=>K1 nf ((kd,dir,item,box,who,gives,pay,wants,fee,()))) (fun r=>r=((dec (((kd,dir,item,box,who,gives,pay,wants,fee,()):Cm)=b∧(0≤dir∧dir≤3)∧G3 item∧G3 box∧G3 who∧G3 pay∧G3 fee∧Od gives∧Od wants),()),[])):=fun b hb=>by
        have hs:=AFy (kd,dir,item,box,who,gives,pay,wants,fee,()) b h1 h2
        refine Zd.succ (fun nf _ _ _=>K1.eq nf _) ?_
        simp only [Ze (Pi kd),(Pi kd).prop,C4,V4.2 (fun hn:¬ (1≤kd∧kd≤10)=>hn hk),Bool.not_false,cond_true,Ze hb,hb.prop,Ze hs,hs.prop]
        by_cases g1:((kd,dir,item,box,who,gives,pay,wants,fee,()):Cm)=b <;> by_cases g2:0≤dir∧dir≤3 <;> by_cases g3:G3 item <;> by_cases g4:G3 box <;> by_cases g5:G3 who <;> by_cases g6:G3 pay <;> by_cases g7:G3 fee <;> by_cases g8:Od gives <;>
          simp only [g1,g2,g3,g4,g5,g6,g7,g8,AK8,AIe,cond_true,cond_false,Gn,Ze (Ao dir),(Ao dir).prop,AJm,not_true_eq_false,not_false_eq_true,Bool.not_true,Bool.not_false,Ze (Ns _),(Ns _).prop,Ze (Nw gives h1),(Nw gives h1).prop,Ze (Nw wants h2),(Nw wants h2).prop,true_and,false_and,and_true,and_false]
      rcases Eo kd hk with rfl | rfl | rfl | rfl | rfl | rfl | rfl | rfl | rfl | rfl
      · have s:=spec (1,dir,0,0,0,[],0,[],0,()) (by
          refine Zd.succ (fun nf _ _ _=>Y9.eq nf _) ?_
          simp)
        refine s.mono (fun v hv => ?_)
        rw [hv]
        refine Prod.ext (Prod.ext ?_ rfl) rfl
        simp only [Re]
        simp only [Um,Up]
        have f0:∀ n,n=0→G3 n:=fun n e=>e ▸ Hg
        have r0:∀ l,l=[]→Od l:=fun l e=>e ▸ Ge
        have f1:=f0 item; have f2:=f0 box; have f3:=f0 who; have f4:=f0 pay; have f5:=f0 fee; have r1:=r0 gives; have r2:=r0 wants
        clear spec s hv f0 r0 hmay
        simp
        grind
      · have s:=spec (2,dir,0,0,who,[],0,[],0,()) (by
          refine Zd.succ (fun nf _ _ _=>Y9.eq nf _) ?_
          simp)
        refine s.mono (fun v hv => ?_)
        rw [hv]
        refine Prod.ext (Prod.ext ?_ rfl) rfl
        simp only [Re]
        simp only [Um,Up]
        have f0:∀ n,n=0→G3 n:=fun n e=>e ▸ Hg
        have r0:∀ l,l=[]→Od l:=fun l e=>e ▸ Ge
        have f1:=f0 item; have f2:=f0 box; have f3:=f0 who; have f4:=f0 pay; have f5:=f0 fee; have r1:=r0 gives; have r2:=r0 wants
        clear spec s hv f0 r0 hmay
        simp
        grind
      · have s:=spec (3,0,item,0,0,[],0,[],0,()) (by
          refine Zd.succ (fun nf _ _ _=>Y9.eq nf _) ?_
          simp)
        refine s.mono (fun v hv => ?_)
        rw [hv]
        refine Prod.ext (Prod.ext ?_ rfl) rfl
        simp only [Re]
        simp only [Um,Up]
        have f0:∀ n,n=0→G3 n:=fun n e=>e ▸ Hg
        have r0:∀ l,l=[]→Od l:=fun l e=>e ▸ Ge
        have f1:=f0 item; have f2:=f0 box; have f3:=f0 who; have f4:=f0 pay; have f5:=f0 fee; have r1:=r0 gives; have r2:=r0 wants
        clear spec s hv f0 r0 hmay
        simp
        grind
      · have s:=spec (4,0,item,0,0,[],0,[],0,()) (by
          refine Zd.succ (fun nf _ _ _=>Y9.eq nf _) ?_
          simp)
        refine s.mono (fun v hv => ?_)
        rw [hv]
        refine Prod.ext (Prod.ext ?_ rfl) rfl
        simp only [Re]
        simp only [Um,Up]
        have f0:∀ n,n=0→G3 n:=fun n e=>e ▸ Hg
        have r0:∀ l,l=[]→Od l:=fun l e=>e ▸ Ge
        have f1:=f0 item; have f2:=f0 box; have f3:=f0 who; have f4:=f0 pay; have f5:=f0 fee; have r1:=r0 gives; have r2:=r0 wants
        clear spec s hv f0 r0 hmay
        simp
        grind
      · have s:=spec (5,0,item,box,0,[],0,[],0,()) (by
          refine Zd.succ (fun nf _ _ _=>Y9.eq nf _) ?_
          simp)
        refine s.mono (fun v hv => ?_)
        rw [hv]
        refine Prod.ext (Prod.ext ?_ rfl) rfl
        simp only [Re]
        simp only [Um,Up]
        have f0:∀ n,n=0→G3 n:=fun n e=>e ▸ Hg
        have r0:∀ l,l=[]→Od l:=fun l e=>e ▸ Ge
        have f1:=f0 item; have f2:=f0 box; have f3:=f0 who; have f4:=f0 pay; have f5:=f0 fee; have r1:=r0 gives; have r2:=r0 wants
        clear spec s hv f0 r0 hmay
        simp
        grind
      · have s:=spec (6,0,item,box,0,[],0,[],0,()) (by
          refine Zd.succ (fun nf _ _ _=>Y9.eq nf _) ?_
          simp)
        refine s.mono (fun v hv => ?_)
        rw [hv]
        refine Prod.ext (Prod.ext ?_ rfl) rfl
        simp only [Re]
        simp only [Um,Up]
        have f0:∀ n,n=0→G3 n:=fun n e=>e ▸ Hg
        have r0:∀ l,l=[]→Od l:=fun l e=>e ▸ Ge
        have f1:=f0 item; have f2:=f0 box; have f3:=f0 who; have f4:=f0 pay; have f5:=f0 fee; have r1:=r0 gives; have r2:=r0 wants
        clear spec s hv f0 r0 hmay
        simp
        grind
      · have s:=spec (7,0,item,0,who,[],0,[],0,()) (by
          refine Zd.succ (fun nf _ _ _=>Y9.eq nf _) ?_
          simp)
        refine s.mono (fun v hv => ?_)
        rw [hv]
        refine Prod.ext (Prod.ext ?_ rfl) rfl
        simp only [Re]
        simp only [Um,Up]
        have f0:∀ n,n=0→G3 n:=fun n e=>e ▸ Hg
        have r0:∀ l,l=[]→Od l:=fun l e=>e ▸ Ge
        have f1:=f0 item; have f2:=f0 box; have f3:=f0 who; have f4:=f0 pay; have f5:=f0 fee; have r1:=r0 gives; have r2:=r0 wants
        clear spec s hv f0 r0 hmay
        simp
        grind
      · have s:=spec (8,0,0,0,who,gives,pay,wants,fee,()) (by
          refine Zd.succ (fun nf _ _ _=>Y9.eq nf _) ?_
          simp)
        refine s.mono (fun v hv => ?_)
        rw [hv]
        refine Prod.ext (Prod.ext ?_ rfl) rfl
        simp only [Re]
        simp only [Um,Up]
        have f0:∀ n,n=0→G3 n:=fun n e=>e ▸ Hg
        have r0:∀ l,l=[]→Od l:=fun l e=>e ▸ Ge
        have f1:=f0 item; have f2:=f0 box; have f3:=f0 who; have f4:=f0 pay; have f5:=f0 fee; have r1:=r0 gives; have r2:=r0 wants
        clear spec s hv f0 r0 hmay
        simp
        grind
      · have s:=spec (9,0,0,0,0,[],0,[],0,()) (by
          refine Zd.succ (fun nf _ _ _=>Y9.eq nf _) ?_
          simp)
        refine s.mono (fun v hv => ?_)
        rw [hv]
        refine Prod.ext (Prod.ext ?_ rfl) rfl
        simp only [Re]
        simp only [Um,Up]
        have f0:∀ n,n=0→G3 n:=fun n e=>e ▸ Hg
        have r0:∀ l,l=[]→Od l:=fun l e=>e ▸ Ge
        have f1:=f0 item; have f2:=f0 box; have f3:=f0 who; have f4:=f0 pay; have f5:=f0 fee; have r1:=r0 gives; have r2:=r0 wants
        clear spec s hv f0 r0 hmay
        simp
        grind
      · have s:=spec (10,0,0,0,0,[],0,[],0,()) (by
          refine Zd.succ (fun nf _ _ _=>Y9.eq nf _) ?_
          simp)
        refine s.mono (fun v hv => ?_)
        rw [hv]
        refine Prod.ext (Prod.ext ?_ rfl) rfl
        simp only [Re]
        simp only [Um,Up]
        have f0:∀ n,n=0→G3 n:=fun n e=>e ▸ Hg
        have r0:∀ l,l=[]→Od l:=fun l e=>e ▸ Ge
        have f1:=f0 item; have f2:=f0 box; have f3:=f0 who; have f4:=f0 pay; have f5:=f0 fee; have r1:=r0 gives; have r2:=r0 wants
        clear spec s hv f0 r0 hmay
        simp
        grind
    · refine Zd.succ (fun nf _ _ _=>K1.eq nf _) ?_
      simp only [Ze (Pi kd),(Pi kd).prop,C4,Q3.2 hk,Bool.not_true,cond_false,Gn]
      rw [V4.2 (fun h=>hk ⟨h.1,h.2.1⟩)]
  exact key _ _ _ _ _ _ _ _ _ h1 h2
end Go.Proofs.YtpemapoblhleoaaGreatDoor.Ghost
