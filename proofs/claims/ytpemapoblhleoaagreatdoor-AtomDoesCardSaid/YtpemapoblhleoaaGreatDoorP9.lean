/- What functions come to, and that the statements are answered with 'true'. Conditions: none. -/
import Derived.Test.YtpemapoblhleoaaGreatDoorS
import Derived.Test.YtpemapoblhleoaaGreatDoorGE
import Derived.Test.YtpemapoblhleoaaGreatDoorP1
import Derived.Test.YtpemapoblhleoaaGreatDoorP2
import Derived.Test.YtpemapoblhleoaaGreatDoorP3
import Derived.Test.YtpemapoblhleoaaGreatDoorP4
import Derived.Test.YtpemapoblhleoaaGreatDoorP5
import Derived.Test.YtpemapoblhleoaaGreatDoorP6
import Derived.Test.YtpemapoblhleoaaGreatDoorP7
import Derived.Test.YtpemapoblhleoaaGreatDoorP8
set_option linter.unusedVariables false
set_option linter.unusedSimpArgs false
set_option linter.unusedSectionVars false
set_option linter.unnecessarySimpa false
namespace Go.Proofs.YtpemapoblhleoaaGreatDoor.Ghost
open Go
theorem AZk (a b:List Int) (ha:a.length≤1048576) (hl:a.length=b.length) (t4:Bool):∀ i,i≤a.length→Zd (fun nf fm0 _ _=>Zs.l0 nf fm0 (a) (b) t4 ((a.length:Int)) ((i:Int))) (fun r=>r=((dec (∀ j,i≤j→j<a.length→List.getD a j 0=List.getD b j 0),()),[])):=by
  refine upto ?_ (fun i hi next => ?_)
  · refine Zd.succ1 (fun nf fm0 _ _=>Zs.l0_eq nf fm0 _ _ _ _ _) ?_
    simp [-List.getD_eq_getElem?_getD,-List.length_eq_zero_iff,Zn,Zj,Zv,Zk,Xb,Xc,Xr]
    intro j h1 h2; omega
  · rw [← Xm (by omega)] at next
    have hi2:i<b.length:=by omega
    refine Zd.succ1 (fun nf fm0 _ _=>Zs.l0_eq nf fm0 _ _ _ _ _) ?_
    by_cases e:List.getD a i 0=List.getD b i 0
    · simp [-List.getD_eq_getElem?_getD,-List.length_eq_zero_iff,Zn,Zj,Zv,Zk,Xb,Xc,Xr,hi,hi2,e]
      refine next.mono (fun v hv => ?_)
      rw [hv]
      have:(∀ j,i+1≤j→j<a.length→List.getD a j 0=List.getD b j 0)=(∀ j,i≤j→j<a.length→List.getD a j 0=List.getD b j 0):=propext ⟨fun h j h1 h2=>by
        by_cases hj:j=i
        · subst hj; exact e
        · exact h j (by omega) h2,fun h j h1 h2=>h j (by omega) h2⟩
      rw [this]
    · simp [-List.getD_eq_getElem?_getD,-List.length_eq_zero_iff,Zn,Zj,Zv,Zk,Xb,Xc,Xr,hi,hi2,e]
      exact ⟨i,Nat.le_refl i,hi,e⟩
theorem AGh (a b:List Int) (ha:a.length≤1048576):Zd (fun nf _ _ _=>Zs nf (a) (b)) (fun r=>r=((dec (a=b),()),[])):=by
  by_cases hl:a.length=b.length
  · have l0:=(AZk a b ha hl false 0 (Nat.zero_le _)).enter
    have:(∀ j,0≤j→j<a.length→List.getD a j 0=List.getD b j 0)=(a=b):=propext ⟨fun h=>Pt 0 hl (fun j hj=>h j (Nat.zero_le j) hj),fun h j _ _=>by rw [h]⟩
    rw [this] at l0
    refine Zd.succ (fun nf _ _ _=>Zs.eq nf _ _) ?_
    simp [-List.getD_eq_getElem?_getD,-List.length_eq_zero_iff,Zn,Zj,Zv,Zk,Xb,Xc,Xr,hl]
    rw [hl] at l0
    exact l0
  · have e:¬ a=b:=fun e=>hl (by rw [e])
    refine Zd.succ (fun nf _ _ _=>Zs.eq nf _ _) ?_
    simp [-List.getD_eq_getElem?_getD,-List.length_eq_zero_iff,Zn,Zj,Zv,Zk,Xb,Xc,Xr,hl,e,show ¬ (a.length:Int)=(b.length:Int) by omega]
end Go.Proofs.YtpemapoblhleoaaGreatDoor.Ghost
namespace Go.Proofs.YtpemapoblhleoaaGreatDoor.Ghost
open Go
theorem D4 (x y:den U2):eqT U2 x y=dec (x=y):=by
  obtain ⟨a1,a2,a3,a4,a5,a6,a7,⟨⟩⟩:=x
  obtain ⟨b1,b2,b3,b4,b5,b6,b7,⟨⟩⟩:=y
  rw [Bool.eq_iff_iff,J1]
  simp [eqT,AD4]
theorem AHy (a b:Cm) (h1:(Zr a).length≤1048576) (h2:(Zu a).length≤1048576):Zd (fun nf _ _ _=>H3 nf (a) (b)) (fun r=>r=((dec (a=b),()),[])):=by
  have of_:∀ c:Cm,Zd (fun nf _ _ _=>Wc nf (c)) (fun r=>r=(((Xq c,Rq c,Yk c,Gh c,Kw c,Gs c,Gx c,()),()),[])):=fun c=>by
    refine Zd.succ (fun nf _ _ _=>Wc.eq nf _) ?_
    simp
  have e:(a=b)=(((Xq a,Rq a,Yk a,Gh a,Kw a,Gs a,Gx a,()):den U2)=(Xq b,Rq b,Yk b,Gh b,Kw b,Gs b,Gx b,())∧Zr a=Zr b∧Zu a=Zu b):=by
    obtain ⟨a1,a2,a3,a4,a5,a6,a7,a8,a9,⟨⟩⟩:=a
    obtain ⟨b1,b2,b3,b4,b5,b6,b7,b8,b9,⟨⟩⟩:=b
    refine propext ?_
    simp
    grind
  obtain ⟨b4,e4,s4⟩:∃ x,(x=true)=(Zr a=Zr b)∧Zd (fun nf _ _ _=>Zs nf (Zr a) (Zr b)) (fun r=>r=((x,()),[])):=⟨_,propext J1,AGh _ _ h1⟩
  obtain ⟨b5,e5,s5⟩:∃ x,(x=true)=(Zu a=Zu b)∧Zd (fun nf _ _ _=>Zs nf (Zu a) (Zu b)) (fun r=>r=((x,()),[])):=⟨_,propext J1,AGh _ _ h2⟩
  rw [e,← e4,← e5]
  refine Zd.succ (fun nf _ _ _=>H3.eq nf _ _) ?_
  by_cases h:((Xq a,Rq a,Yk a,Gh a,Kw a,Gs a,Gx a,()):den U2)=(Xq b,Rq b,Yk b,Gh b,Kw b,Gs b,Gx b,())
  · simp only [Zf (of_ a),(of_ a).prop,Zf (of_ b),(of_ b).prop,D4,J1.2 h,cond_true]
    simp only [Zf s4,s4.prop]
    cases b4
    · simp only [cond_false,Um]; simp [h]
    · simp only [cond_true,Zf s5,s5.prop,Um]
      cases b5 <;> simp [h]
  · simp only [Zf (of_ a),(of_ a).prop,Zf (of_ b),(of_ b).prop,D4,K2.2 h,cond_false,Um]
    rw [K2.2 (fun hh=>h hh.1)]
def U0 (n:Int):Prop:=0≤n∧n≤1073741824
theorem Lc (a:Int):Zd (fun nf _ _ _=>Hb nf (a)) (fun r=>r=((dec (U0 a),()),[])):=by
  refine Zd.succ (fun nf _ _ _=>Hb.eq nf _) ?_
  by_cases h:0≤a <;> simp [h,U0,Hh]
theorem BY6 (l:List Int) (hl:l.length≤1048576) (t4:Int):∀ i,i≤l.length→Zd (fun nf fm0 _ _=>Zy.l0 nf fm0 (l) t4 ((l.length:Int)) ((i:Int))) (fun r=>0≤r.1.1↔∃ j,i≤j∧j<l.length∧¬ U0 (List.getD l j 0)):=by
  have cl:∀ x,Zd (fun nf _ _ _=>K6 nf (x)) (fun r=>r=((dec (¬ U0 x),()),[])):=fun x=>by
    refine Zd.succ (fun nf _ _ _=>K6.eq nf _) ?_
    simp [Zf (Lc x),(Lc x).prop]
  refine upto ?_ (fun i hi next => ?_)
  · refine Zd.succ1 (fun nf fm0 _ _=>Zy.l0_eq nf fm0 _ _ _ _) ?_
    simp [-List.getD_eq_getElem?_getD,-List.length_eq_zero_iff,Zn,Zj,Zv,Zk,Xb,Xc,Xr]
    omega
  · rw [← Xm (by omega)] at next
    refine Zd.succ1 (fun nf fm0 _ _=>Zy.l0_eq nf fm0 _ _ _ _) ?_
    simp [-List.getD_eq_getElem?_getD,-List.length_eq_zero_iff,Zn,Zj,Zv,Zk,Xb,Xc,Xr,hi,Zf (cl (List.getD l i 0)),(cl (List.getD l i 0)).prop]
    refine ⟨fun h=>⟨i,Nat.le_refl i,hi,h⟩,fun h=>next.mono (fun v hv => ?_)⟩
    rw [hv]
    refine ⟨fun ⟨j,a,b,e⟩=>⟨j,by omega,b,e⟩,fun ⟨j,a,b,e⟩=>⟨j,?_,b,e⟩⟩
    by_cases hj:j=i
    · subst hj; exact absurd h e
    · omega
def Nm (l:List Int):Prop:=(∀ j,j<l.length→U0 (List.getD l j 0))∧l.length≤16
theorem My (l:List Int) (hl:l.length≤1048576):Zd (fun nf _ _ _=>G5 nf (l)) (fun r=>r=((dec (Nm l),()),[])):=by
  have h1:Zd (fun nf _ _ _=>Zy nf (l)) (fun r=>0≤r.1.1↔∃ j,0≤j∧j<l.length∧¬ U0 (List.getD l j 0)):=by
    refine Zd.succ (fun nf _ _ _=>Zy.eq nf _) ?_
    exact (BY6 l hl _ 0 (Nat.zero_le _)).enter
  have h2:Zd (fun nf _ _ _=>X5 nf (l)) (fun r=>r=((dec (∃ j,0≤j∧j<l.length∧¬ U0 (List.getD l j 0)),()),[])):=by
    refine Zd.succ (fun nf _ _ _=>X5.eq nf _) ?_
    simp only [Zf h1,Um,Hh,h1.prop]
  refine Zd.succ (fun nf _ _ _=>G5.eq nf _) ?_
  by_cases hn:(l.length:Int)≤16
  · have:l.length≤16:=by omega
    simp [Zf (h2),(h2).prop,hn,Nm,this]
  · have:¬ l.length≤16:=by omega
    simp [hn,Nm,this]
end Go.Proofs.YtpemapoblhleoaaGreatDoor.Ghost
namespace Go.Proofs.YtpemapoblhleoaaGreatDoor.Ghost
open Go
def Ti (l:List ByteArray) (k:Int):ByteArray:=if 0≤k∧k<(l.length:Int) then List.getD l (Int.toNat k) (dft .str) else (⟨#[]⟩:ByteArray)
theorem Oq (l:List ByteArray) (k:Int):Zd (fun nf _ _ _=>Hr nf (l) (k)) (fun r=>r=((Ti l k,()),[])):=by
  refine Zd.succ (fun nf _ _ _=>Hr.eq nf _ _) ?_
  by_cases h1:k<0
  · simp [-List.getD_eq_getElem?_getD,-List.length_eq_zero_iff,Zn,Zj,Zv,Zk,Xb,Xc,Xr,h1,Ti,show ¬ 0≤k by omega]
  · by_cases h2:(l.length:Int)≤k
    · simp [-List.getD_eq_getElem?_getD,-List.length_eq_zero_iff,Zn,Zj,Zv,Zk,Xb,Xc,Xr,h1,h2,Ti,show ¬ k<(l.length:Int) by omega]
    · simp [-List.getD_eq_getElem?_getD,-List.length_eq_zero_iff,Zn,Zj,Zv,Zk,Xb,Xc,Xr,h1,h2,Ti,show 0≤k by omega,show k<(l.length:Int) by omega]
theorem Ot (k:Int):Zd (fun nf _ _ _=>H6 nf (k)) (fun r=>r=((Ti Fg k,()),[])):=by
  refine Zd.succ (fun nf _ _ _=>H6.eq nf _) ?_
  simp only [Zf (Oq Fg k),(Oq Fg k).prop,Um]
theorem ABo (k:Int):Zd (fun nf _ _ _=>Ud nf (k)) (fun r=>r=((Ti Ef k,()),[])):=by
  refine Zd.succ (fun nf _ _ _=>Ud.eq nf _) ?_
  simp only [Zf (Oq Ef k),(Oq Ef k).prop,Um]
theorem D5 (k:Int) (h:1≤k∧k≤10):k=1∨k=2∨k=3∨k=4∨k=5∨k=6∨k=7∨k=8∨k=9∨k=10:=by omega
theorem AG8 (k:Int) (h:0≤k∧k≤3):k=0∨k=1∨k=2∨k=3:=by omega
theorem Ah (k:Int):eqT .str (Ti Fg k) (⟨#[]⟩:ByteArray)=dec (¬ (1≤k∧k≤10)):=by
  by_cases h:1≤k∧k≤10
  · rw [K2.2 (fun hn=>hn h)]
    rcases D5 k h with rfl | rfl | rfl | rfl | rfl | rfl | rfl | rfl | rfl | rfl <;> kernel_rfl
  · rw [J1.2 h]
    by_cases h0:k=0
    · subst h0; kernel_rfl
    · have:Ti Fg k=(⟨#[]⟩:ByteArray):=by
        unfold Ti
        rw [if_neg (by rw [show List.length (Fg:List ByteArray)=11 from rfl]; omega)]
      rw [this]; rfl
theorem AKp (k:Int):eqT .str (Ti Ef k) (⟨#[]⟩:ByteArray)=dec (¬ (0≤k∧k≤3)):=by
  by_cases h:0≤k∧k≤3
  · rw [K2.2 (fun hn=>hn h)]
    rcases AG8 k h with rfl | rfl | rfl | rfl <;> kernel_rfl
  · rw [J1.2 h]
    have:Ti Ef k=(⟨#[]⟩:ByteArray):=by
      unfold Ti
      rw [if_neg (by rw [show List.length (Ef:List ByteArray)=4 from rfl]; omega)]
    rw [this]; rfl
theorem G9:Nm []:=⟨fun j hj=>by simp at hj,by simp⟩
theorem Wl (n:Int) (h:Prop):Uh n h=((h→U0 n)∧(¬ h→n=0)):=rfl
theorem Wn (l:List Int) (h:Prop):Fj l h=((h→Nm l)∧(¬ h→l=[])):=rfl
theorem Gb:U0 0:=⟨by decide,by decide⟩
theorem AJv (c:Cm) (h1:(Zr c).length≤1048576) (h2:(Zu c).length≤1048576):Zd (fun nf _ _ _=>H0 nf (c)) (fun r=>r=((dec (Me c),()),[])):=by
  have hmay:Me c↔1≤Xq c∧Xq c≤10∧0≤Rq c∧Rq c≤3∧(¬ Rq c=0→Xq c≤2)∧Uh (Yk c) (3≤Xq c∧Xq c≤7)∧Uh (Gh c) (Xq c=5∨Xq c=6)∧Uh (Kw c) (Xq c=2∨Xq c=7∨Xq c=8)∧Uh (Gs c) (Xq c=8)∧Uh (Gx c) (Xq c=8)∧Fj (Zr c) (Xq c=8)∧Fj (Zu c) (Xq c=8) :=
    ⟨fun h=>⟨h.k1,h.k2,h.d1,h.d2,h.d3,h.item,h.box,h.who,h.pay,h.fee,h.gives,h.wants⟩,fun ⟨a,b,c,d,e,f,g,h,i,j,k,l⟩=>⟨a,b,c,d,e,f,g,h,i,j,k,l⟩⟩
  rw [show Me c=_ from propext hmay]
  have key:∀ (kd dir item box who pay fee:Int) (gives wants:List Int),gives.length≤1048576→wants.length≤1048576→Zd (fun nf _ _ _=>H0 nf ((kd,dir,item,box,who,gives,pay,wants,fee,()))) (fun r=>r=((dec (1≤kd∧kd≤10∧0≤dir∧dir≤3∧(¬ dir=0→kd≤2)∧Uh item (3≤kd∧kd≤7)∧Uh box (kd=5∨kd=6)∧Uh who (kd=2∨kd=7∨kd=8)∧Uh pay (kd=8)∧Uh fee (kd=8)∧Fj gives (kd=8)∧Fj wants (kd=8)),()),[])):=by
    intro kd dir item box who pay fee gives wants h1 h2
    by_cases hk:1≤kd∧kd≤10
    · have spec:∀ b:Cm,Zd (fun nf _ _ _=>Q6 nf ((kd,dir,item,box,who,gives,pay,wants,fee,()))) (fun r=>r=((b,()),[]))→Zd (fun nf _ _ _=>H0 nf ((kd,dir,item,box,who,gives,pay,wants,fee,()))) (fun r=>r=((dec (((kd,dir,item,box,who,gives,pay,wants,fee,()):Cm)=b∧(0≤dir∧dir≤3)∧U0 item∧U0 box∧U0 who∧U0 pay∧U0 fee∧Nm gives∧Nm wants),()),[])):=fun b hb=>by
        have hs:=AHy (kd,dir,item,box,who,gives,pay,wants,fee,()) b h1 h2
        refine Zd.succ (fun nf _ _ _=>H0.eq nf _) ?_
        simp only [Zf (Ot kd),(Ot kd).prop,Ah,K2.2 (fun hn:¬ (1≤kd∧kd≤10)=>hn hk),Bool.not_false,cond_true,Zf hb,hb.prop,Zf hs,hs.prop]
        by_cases g1:((kd,dir,item,box,who,gives,pay,wants,fee,()):Cm)=b <;> by_cases g2:0≤dir∧dir≤3 <;> by_cases g3:U0 item <;> by_cases g4:U0 box <;> by_cases g5:U0 who <;> by_cases g6:U0 pay <;> by_cases g7:U0 fee <;> by_cases g8:Nm gives <;>
          simp only [g1,g2,g3,g4,g5,g6,g7,g8,ALb,AK1,cond_true,cond_false,Um,Zf (ABo dir),(ABo dir).prop,AKp,not_true_eq_false,not_false_eq_true,Bool.not_true,Bool.not_false,Zf (Lc _),(Lc _).prop,Zf (My gives h1),(My gives h1).prop,Zf (My wants h2),(My wants h2).prop,true_and,false_and,and_true,and_false]
      rcases D5 kd hk with rfl | rfl | rfl | rfl | rfl | rfl | rfl | rfl | rfl | rfl
      · have s:=spec (1,dir,0,0,0,[],0,[],0,()) (by
          refine Zd.succ (fun nf _ _ _=>Q6.eq nf _) ?_
          simp)
        refine s.mono (fun v hv => ?_)
        rw [hv]
        refine Prod.ext (Prod.ext ?_ rfl) rfl
        simp only [Po]
        simp only [Wl,Wn]
        have f0:∀ n,n=0→U0 n:=fun n e=>e ▸ Gb
        have r0:∀ l,l=[]→Nm l:=fun l e=>e ▸ G9
        have f1:=f0 item; have f2:=f0 box; have f3:=f0 who; have f4:=f0 pay; have f5:=f0 fee; have r1:=r0 gives; have r2:=r0 wants
        clear spec s hv f0 r0 hmay
        simp
        grind
      · have s:=spec (2,dir,0,0,who,[],0,[],0,()) (by
          refine Zd.succ (fun nf _ _ _=>Q6.eq nf _) ?_
          simp)
        refine s.mono (fun v hv => ?_)
        rw [hv]
        refine Prod.ext (Prod.ext ?_ rfl) rfl
        simp only [Po]
        simp only [Wl,Wn]
        have f0:∀ n,n=0→U0 n:=fun n e=>e ▸ Gb
        have r0:∀ l,l=[]→Nm l:=fun l e=>e ▸ G9
        have f1:=f0 item; have f2:=f0 box; have f3:=f0 who; have f4:=f0 pay; have f5:=f0 fee; have r1:=r0 gives; have r2:=r0 wants
        clear spec s hv f0 r0 hmay
        simp
        grind
      · have s:=spec (3,0,item,0,0,[],0,[],0,()) (by
          refine Zd.succ (fun nf _ _ _=>Q6.eq nf _) ?_
          simp)
        refine s.mono (fun v hv => ?_)
        rw [hv]
        refine Prod.ext (Prod.ext ?_ rfl) rfl
        simp only [Po]
        simp only [Wl,Wn]
        have f0:∀ n,n=0→U0 n:=fun n e=>e ▸ Gb
        have r0:∀ l,l=[]→Nm l:=fun l e=>e ▸ G9
        have f1:=f0 item; have f2:=f0 box; have f3:=f0 who; have f4:=f0 pay; have f5:=f0 fee; have r1:=r0 gives; have r2:=r0 wants
        clear spec s hv f0 r0 hmay
        simp
        grind
      · have s:=spec (4,0,item,0,0,[],0,[],0,()) (by
          refine Zd.succ (fun nf _ _ _=>Q6.eq nf _) ?_
          simp)
        refine s.mono (fun v hv => ?_)
        rw [hv]
        refine Prod.ext (Prod.ext ?_ rfl) rfl
        simp only [Po]
        simp only [Wl,Wn]
        have f0:∀ n,n=0→U0 n:=fun n e=>e ▸ Gb
        have r0:∀ l,l=[]→Nm l:=fun l e=>e ▸ G9
        have f1:=f0 item; have f2:=f0 box; have f3:=f0 who; have f4:=f0 pay; have f5:=f0 fee; have r1:=r0 gives; have r2:=r0 wants
        clear spec s hv f0 r0 hmay
        simp
        grind
      · have s:=spec (5,0,item,box,0,[],0,[],0,()) (by
          refine Zd.succ (fun nf _ _ _=>Q6.eq nf _) ?_
          simp)
        refine s.mono (fun v hv => ?_)
        rw [hv]
        refine Prod.ext (Prod.ext ?_ rfl) rfl
        simp only [Po]
        simp only [Wl,Wn]
        have f0:∀ n,n=0→U0 n:=fun n e=>e ▸ Gb
        have r0:∀ l,l=[]→Nm l:=fun l e=>e ▸ G9
        have f1:=f0 item; have f2:=f0 box; have f3:=f0 who; have f4:=f0 pay; have f5:=f0 fee; have r1:=r0 gives; have r2:=r0 wants
        clear spec s hv f0 r0 hmay
        simp
        grind
      · have s:=spec (6,0,item,box,0,[],0,[],0,()) (by
          refine Zd.succ (fun nf _ _ _=>Q6.eq nf _) ?_
          simp)
        refine s.mono (fun v hv => ?_)
        rw [hv]
        refine Prod.ext (Prod.ext ?_ rfl) rfl
        simp only [Po]
        simp only [Wl,Wn]
        have f0:∀ n,n=0→U0 n:=fun n e=>e ▸ Gb
        have r0:∀ l,l=[]→Nm l:=fun l e=>e ▸ G9
        have f1:=f0 item; have f2:=f0 box; have f3:=f0 who; have f4:=f0 pay; have f5:=f0 fee; have r1:=r0 gives; have r2:=r0 wants
        clear spec s hv f0 r0 hmay
        simp
        grind
      · have s:=spec (7,0,item,0,who,[],0,[],0,()) (by
          refine Zd.succ (fun nf _ _ _=>Q6.eq nf _) ?_
          simp)
        refine s.mono (fun v hv => ?_)
        rw [hv]
        refine Prod.ext (Prod.ext ?_ rfl) rfl
        simp only [Po]
        simp only [Wl,Wn]
        have f0:∀ n,n=0→U0 n:=fun n e=>e ▸ Gb
        have r0:∀ l,l=[]→Nm l:=fun l e=>e ▸ G9
        have f1:=f0 item; have f2:=f0 box; have f3:=f0 who; have f4:=f0 pay; have f5:=f0 fee; have r1:=r0 gives; have r2:=r0 wants
        clear spec s hv f0 r0 hmay
        simp
        grind
      · have s:=spec (8,0,0,0,who,gives,pay,wants,fee,()) (by
          refine Zd.succ (fun nf _ _ _=>Q6.eq nf _) ?_
          simp)
        refine s.mono (fun v hv => ?_)
        rw [hv]
        refine Prod.ext (Prod.ext ?_ rfl) rfl
        simp only [Po]
        simp only [Wl,Wn]
        have f0:∀ n,n=0→U0 n:=fun n e=>e ▸ Gb
        have r0:∀ l,l=[]→Nm l:=fun l e=>e ▸ G9
        have f1:=f0 item; have f2:=f0 box; have f3:=f0 who; have f4:=f0 pay; have f5:=f0 fee; have r1:=r0 gives; have r2:=r0 wants
        clear spec s hv f0 r0 hmay
        simp
        grind
      · have s:=spec (9,0,0,0,0,[],0,[],0,()) (by
          refine Zd.succ (fun nf _ _ _=>Q6.eq nf _) ?_
          simp)
        refine s.mono (fun v hv => ?_)
        rw [hv]
        refine Prod.ext (Prod.ext ?_ rfl) rfl
        simp only [Po]
        simp only [Wl,Wn]
        have f0:∀ n,n=0→U0 n:=fun n e=>e ▸ Gb
        have r0:∀ l,l=[]→Nm l:=fun l e=>e ▸ G9
        have f1:=f0 item; have f2:=f0 box; have f3:=f0 who; have f4:=f0 pay; have f5:=f0 fee; have r1:=r0 gives; have r2:=r0 wants
        clear spec s hv f0 r0 hmay
        simp
        grind
      · have s:=spec (10,0,0,0,0,[],0,[],0,()) (by
          refine Zd.succ (fun nf _ _ _=>Q6.eq nf _) ?_
          simp)
        refine s.mono (fun v hv => ?_)
        rw [hv]
        refine Prod.ext (Prod.ext ?_ rfl) rfl
        simp only [Po]
        simp only [Wl,Wn]
        have f0:∀ n,n=0→U0 n:=fun n e=>e ▸ Gb
        have r0:∀ l,l=[]→Nm l:=fun l e=>e ▸ G9
        have f1:=f0 item; have f2:=f0 box; have f3:=f0 who; have f4:=f0 pay; have f5:=f0 fee; have r1:=r0 gives; have r2:=r0 wants
        clear spec s hv f0 r0 hmay
        simp
        grind
    · refine Zd.succ (fun nf _ _ _=>H0.eq nf _) ?_
      simp only [Zf (Ot kd),(Ot kd).prop,Ah,J1.2 hk,Bool.not_true,cond_false,Um]
      rw [K2.2 (fun h=>hk ⟨h.1,h.2.1⟩)]
  exact key _ _ _ _ _ _ _ _ _ h1 h2
end Go.Proofs.YtpemapoblhleoaaGreatDoor.Ghost
