/- What functions come to, and that the statements are answered with 'true'. Conditions: none. -/
import Derived.Test.YtjobjooccgledaaGreatDoorS
import Derived.Test.YtjobjooccgledaaGreatDoorGE
import Derived.Test.YtjobjooccgledaaGreatDoorP1
import Derived.Test.YtjobjooccgledaaGreatDoorP2
import Derived.Test.YtjobjooccgledaaGreatDoorP3
import Derived.Test.YtjobjooccgledaaGreatDoorP4
import Derived.Test.YtjobjooccgledaaGreatDoorP5
import Derived.Test.YtjobjooccgledaaGreatDoorP6
import Derived.Test.YtjobjooccgledaaGreatDoorP7
import Derived.Test.YtjobjooccgledaaGreatDoorP8
import Derived.Test.YtjobjooccgledaaGreatDoorP9
import Derived.Test.YtjobjooccgledaaGreatDoorP10
import Derived.Test.YtjobjooccgledaaGreatDoorP11
import Derived.Test.YtjobjooccgledaaGreatDoorP12
import Derived.Test.YtjobjooccgledaaGreatDoorP13
set_option linter.unusedVariables false
set_option linter.unusedSimpArgs false
set_option linter.unusedSectionVars false
set_option linter.unnecessarySimpa false
namespace Go.Proofs.YtjobjooccgledaaGreatDoor.Ghost
open Go
theorem ARe {a b:Wd} (h1:a.1=b.1) (h2:a.2.1=b.2.1) (h3:a.2.2.1=b.2.2.1) (h4:a.2.2.2.1=b.2.2.2.1):a=b:=Prod.ext h1 (Prod.ext h2 (Prod.ext h3 (Prod.ext h4 rfl)))
theorem Qb {k:Int} {a b:List Int} {x:Wri}:{n:Nat}→(x∈Ob k a b n↔∃ i,i<n∧¬ a.getD i 0=b.getD i 0∧x=(k,(i:Int),b.getD i 0,(0,0,()),()))
  | 0=>⟨fun h=>(by cases h),fun ⟨i,h,_⟩=>absurd h (Nat.not_lt_zero i)⟩
  | n+1=>by
    rw [Ob,List.mem_append,Qb (n:=n)]
    constructor
    · rintro (⟨i,h1,h2⟩ | h)
      · exact ⟨i,by omega,h2⟩
      · split at h
        · cases h
        · rename_i hn
          rw [List.mem_singleton] at h
          exact ⟨n,by omega,hn,h⟩
    · rintro ⟨i,h1,h2,h3⟩
      by_cases e:i=n
      · subst e; rw [if_neg h2]; exact .inr (by rw [h3]; exact List.mem_singleton.2 rfl)
      · exact .inl ⟨i,by omega,h2,h3⟩
theorem Hw {a b:List Pl} {x:Wri}:{n:Nat}→(x∈Io a b n↔∃ i,i<n∧¬ a.getD i (dft Zb)=b.getD i (dft Zb)∧x=(2,(i:Int),0,b.getD i (dft Zb),()))
  | 0=>⟨fun h=>(by cases h),fun ⟨i,h,_⟩=>absurd h (Nat.not_lt_zero i)⟩
  | n+1=>by
    rw [Io,List.mem_append,Hw (n:=n)]
    constructor
    · rintro (⟨i,h1,h2⟩ | h)
      · exact ⟨i,by omega,h2⟩
      · split at h
        · cases h
        · rename_i hn
          rw [List.mem_singleton] at h
          exact ⟨n,by omega,hn,h⟩
    · rintro ⟨i,h1,h2,h3⟩
      by_cases e:i=n
      · subst e; rw [if_neg h2]; exact .inr (by rw [h3]; exact List.mem_singleton.2 rfl)
      · exact .inl ⟨i,by omega,h2,h3⟩
def Tow (v:Wd) (x:Wri):Prop:=∃ i:Nat,x.2.1=(i:Int)∧((x.1=(0:Int)∧i<List.length (v.2.1:List Int)∧x.2.2.1=List.getD (v.2.1:List Int) i 0)∨(x.1=(1:Int)∧i<List.length (v.2.2.1:List Int)∧x.2.2.1=List.getD (v.2.2.1:List Int) i 0)∨(x.1=(2:Int)∧i<List.length (v.2.2.2.1:List Pl)∧x.2.2.2.1=List.getD (v.2.2.2.1:List Pl) i (dft Zb)))
theorem Ma {w v:Wd} {x:Wri} (h:x∈Y3 w v):Tow v x:=by
  simp only [Y3,List.mem_append] at h
  rcases h with (h | h) | h
  · obtain ⟨i,h1,_,rfl⟩:=Qb.1 h; exact ⟨i,rfl,.inl ⟨rfl,h1,rfl⟩⟩
  · obtain ⟨i,h1,_,rfl⟩:=Qb.1 h; exact ⟨i,rfl,.inr (.inl ⟨rfl,h1,rfl⟩)⟩
  · obtain ⟨i,h1,_,rfl⟩:=Hw.1 h; exact ⟨i,rfl,.inr (.inr ⟨rfl,h1,rfl⟩)⟩
structure Eq3 (w v:Wd):Prop where
  a:List.length (w.2.1:List Int)=List.length (v.2.1:List Int)
  c:List.length (w.2.2.1:List Int)=List.length (v.2.2.1:List Int)
  h:List.length (w.2.2.2.1:List Pl)=List.length (v.2.2.2.1:List Pl)
theorem Eq3.of {w v u:Wd} (h:Eq3 w v) (k:Pz w u):Eq3 u v:=⟨k.a.trans h.a,k.c.trans h.c,k.h.trans h.h⟩
theorem ADh {w v:Wd} (q:Eq3 w v) {x:Wri} (h:Tow v x):AI3 w x:=by
  obtain ⟨i,h0,h⟩:=h
  refine ⟨by rw [h0]; omega,?_⟩
  rcases h with ⟨h1,h2,_⟩ | ⟨h1,h2,_⟩ | ⟨h1,h2,_⟩
  · exact .inl ⟨h1,by rw [h0,q.a]; exact Int.ofNat_lt.2 h2⟩
  · exact .inr (.inl ⟨h1,by rw [h0,q.c]; exact Int.ofNat_lt.2 h2⟩)
  · exact .inr (.inr ⟨h1,by rw [h0,q.h]; exact Int.ofNat_lt.2 h2⟩)
structure ASe (w v u:Wd) (l:List Wri):Prop where
  a:∀ i:Nat,((∃ x,x∈l∧x.1=(0:Int)∧x.2.1=(i:Int))∧List.getD (u.2.1:List Int) i 0=List.getD (v.2.1:List Int) i 0)∨(List.getD (u.2.1:List Int) i 0=List.getD (w.2.1:List Int) i 0∧∀ x,x∈l→¬ (x.1=(0:Int)∧x.2.1=(i:Int)))
  c:∀ i:Nat,((∃ x,x∈l∧x.1=(1:Int)∧x.2.1=(i:Int))∧List.getD (u.2.2.1:List Int) i 0=List.getD (v.2.2.1:List Int) i 0)∨(List.getD (u.2.2.1:List Int) i 0=List.getD (w.2.2.1:List Int) i 0∧∀ x,x∈l→¬ (x.1=(1:Int)∧x.2.1=(i:Int)))
  h:∀ i:Nat,((∃ x,x∈l∧x.1=(2:Int)∧x.2.1=(i:Int))∧List.getD (u.2.2.2.1:List Pl) i (dft Zb)=List.getD (v.2.2.2.1:List Pl) i (dft Zb))∨(List.getD (u.2.2.2.1:List Pl) i (dft Zb)=List.getD (w.2.2.2.1:List Pl) i (dft Zb)∧∀ x,x∈l→¬ (x.1=(2:Int)∧x.2.1=(i:Int)))
theorem AGa {w v w1:Wd} (q:Eq3 w v) {x:Wri} (h:Tow v x) (e:wrW w x=some w1) :
    (∀ i:Nat,(x.1=(0:Int)∧x.2.1=(i:Int)∧List.getD (w1.2.1:List Int) i 0=List.getD (v.2.1:List Int) i 0)∨(¬ (x.1=(0:Int)∧x.2.1=(i:Int))∧List.getD (w1.2.1:List Int) i 0=List.getD (w.2.1:List Int) i 0)) ∧
    (∀ i:Nat,(x.1=(1:Int)∧x.2.1=(i:Int)∧List.getD (w1.2.2.1:List Int) i 0=List.getD (v.2.2.1:List Int) i 0)∨(¬ (x.1=(1:Int)∧x.2.1=(i:Int))∧List.getD (w1.2.2.1:List Int) i 0=List.getD (w.2.2.1:List Int) i 0)) ∧
    (∀ i:Nat,(x.1=(2:Int)∧x.2.1=(i:Int)∧List.getD (w1.2.2.2.1:List Pl) i (dft Zb)=List.getD (v.2.2.2.1:List Pl) i (dft Zb))∨(¬ (x.1=(2:Int)∧x.2.1=(i:Int))∧List.getD (w1.2.2.2.1:List Pl) i (dft Zb)=List.getD (w.2.2.2.1:List Pl) i (dft Zb))):=by
  have no:∀ {a b:Int},x.1=a→a≠b→∀ i:Nat,¬ (x.1=b∧x.2.1=(i:Int)):=fun h1 h2 i h3=>h2 (h1.symm.trans h3.1)
  obtain ⟨j,h0,h⟩:=h
  have hj:(0:Int)≤x.2.1:=by rw [h0]; omega
  have hn:Int.toNat x.2.1=j:=by rw [h0]; rfl
  rcases h with ⟨h1,h2,h3⟩ | ⟨h1,h2,h3⟩ | ⟨h1,h2,h3⟩
  · rw [wr0 h1 hj (by rw [h0,q.a]; exact Int.ofNat_lt.2 h2),hn,h3] at e
    simp only [Option.some.injEq] at e
    subst e
    refine ⟨fun i => ?_,fun i=>.inr ⟨no h1 (by decide) i,rfl⟩,fun i=>.inr ⟨no h1 (by decide) i,rfl⟩⟩
    by_cases hi:j=i
    · subst hi; exact .inl ⟨h1,h0,by rw [Vz _ _ _ _ _ (by rw [q.a]; exact h2),if_pos rfl]⟩
    · exact .inr ⟨fun h=>hi (Int.ofNat_inj.1 (h0.symm.trans h.2)),by rw [Vz _ _ _ _ _ (by rw [q.a]; exact h2),if_neg (fun h=>hi h.symm)]⟩
  · rw [wr1 h1 hj (by rw [h0,q.c]; exact Int.ofNat_lt.2 h2),hn,h3] at e
    simp only [Option.some.injEq] at e
    subst e
    refine ⟨fun i=>.inr ⟨no h1 (by decide) i,rfl⟩,fun i => ?_,fun i=>.inr ⟨no h1 (by decide) i,rfl⟩⟩
    by_cases hi:j=i
    · subst hi; exact .inl ⟨h1,h0,by rw [Vz _ _ _ _ _ (by rw [q.c]; exact h2),if_pos rfl]⟩
    · exact .inr ⟨fun h=>hi (Int.ofNat_inj.1 (h0.symm.trans h.2)),by rw [Vz _ _ _ _ _ (by rw [q.c]; exact h2),if_neg (fun h=>hi h.symm)]⟩
  · rw [wr2 h1 hj (by rw [h0,q.h]; exact Int.ofNat_lt.2 h2),hn,h3] at e
    simp only [Option.some.injEq] at e
    subst e
    refine ⟨fun i=>.inr ⟨no h1 (by decide) i,rfl⟩,fun i=>.inr ⟨no h1 (by decide) i,rfl⟩,fun i => ?_⟩
    by_cases hi:j=i
    · subst hi; exact .inl ⟨h1,h0,by rw [Vz _ _ _ _ _ (by rw [q.h]; exact h2),if_pos rfl]⟩
    · exact .inr ⟨fun h=>hi (Int.ofNat_inj.1 (h0.symm.trans h.2)),by rw [Vz _ _ _ _ _ (by rw [q.h]; exact h2),if_neg (fun h=>hi h.symm)]⟩
theorem AHq:(l:List Wri)→{w v:Wd}→Eq3 w v→(∀ x,x∈l→Tow v x)→∃ u,T5 w l=some u∧Pz w u∧ASe w v u l
  | [],w,v,_,_=>⟨w,rfl,Pz.refl w,⟨fun i=>.inr ⟨rfl,fun x h=>by cases h⟩,fun i=>.inr ⟨rfl,fun x h=>by cases h⟩,fun i=>.inr ⟨rfl,fun x h=>by cases h⟩⟩⟩
  | x :: r,w,v,q,hl=>by
    have hx:=hl x (by simp)
    obtain ⟨w1,e1,k1⟩:=Bx (ADh q hx)
    obtain ⟨s1,s2,s3⟩:=AGa q hx e1
    obtain ⟨u,e2,k2,t⟩:=AHq r (q.of k1) (fun y hy=>hl y (by simp [hy]))
    refine ⟨u,by simp only [T5,e1]; exact e2,k1.trans k2,⟨fun i => ?_,fun i => ?_,fun i => ?_⟩⟩
    · rcases t.a i with ⟨⟨y,hy1,hy2⟩,h⟩ | ⟨h,h'⟩
      · exact .inl ⟨⟨y,by simp [hy1],hy2⟩,h⟩
      · rcases s1 i with ⟨p1,p2,p⟩ | ⟨p1,p2⟩
        · exact .inl ⟨⟨x,by simp,p1,p2⟩,h.trans p⟩
        · refine .inr ⟨h.trans p2,fun y hy => ?_⟩
          rcases List.mem_cons.1 hy with rfl | hy
          · exact p1
          · exact h' y hy
    · rcases t.c i with ⟨⟨y,hy1,hy2⟩,h⟩ | ⟨h,h'⟩
      · exact .inl ⟨⟨y,by simp [hy1],hy2⟩,h⟩
      · rcases s2 i with ⟨p1,p2,p⟩ | ⟨p1,p2⟩
        · exact .inl ⟨⟨x,by simp,p1,p2⟩,h.trans p⟩
        · refine .inr ⟨h.trans p2,fun y hy => ?_⟩
          rcases List.mem_cons.1 hy with rfl | hy
          · exact p1
          · exact h' y hy
    · rcases t.h i with ⟨⟨y,hy1,hy2⟩,h⟩ | ⟨h,h'⟩
      · exact .inl ⟨⟨y,by simp [hy1],hy2⟩,h⟩
      · rcases s3 i with ⟨p1,p2,p⟩ | ⟨p1,p2⟩
        · exact .inl ⟨⟨x,by simp,p1,p2⟩,h.trans p⟩
        · refine .inr ⟨h.trans p2,fun y hy => ?_⟩
          rcases List.mem_cons.1 hy with rfl | hy
          · exact p1
          · exact h' y hy
theorem BXj {w v:Wd} {l:List Wri} (q:Eq3 w v) (hd:w.1=v.1) (h1:∀ x,x∈l→Tow v x) (h2:∀ x,x∈Y3 w v→x∈l):T5 w l=some v:=by
  obtain ⟨u,e,k,t⟩:=AHq l q h1
  rw [e,Option.some.injEq]
  refine ARe (k.d.trans hd) (Ue (0:Int) (k.a.trans q.a) (fun i hi => ?_)) (Ue (0:Int) (k.c.trans q.c) (fun i hi => ?_)) (Ue (dft Zb) (k.h.trans q.h) (fun i hi => ?_))
  · rw [k.a,q.a] at hi
    rcases t.a i with ⟨_,h⟩ | ⟨h,h'⟩
    · exact h
    · by_cases c:List.getD (w.2.1:List Int) i 0=List.getD (v.2.1:List Int) i 0
      · exact h.trans c
      · exact absurd ⟨rfl,rfl⟩ (h' _ (h2 _ (List.mem_append.2 (.inl (List.mem_append.2 (.inl (Qb.2 ⟨i,hi,c,rfl⟩)))))))
  · rw [k.c,q.c] at hi
    rcases t.c i with ⟨_,h⟩ | ⟨h,h'⟩
    · exact h
    · by_cases c:List.getD (w.2.2.1:List Int) i 0=List.getD (v.2.2.1:List Int) i 0
      · exact h.trans c
      · exact absurd ⟨rfl,rfl⟩ (h' _ (h2 _ (List.mem_append.2 (.inl (List.mem_append.2 (.inr (Qb.2 ⟨i,hi,c,rfl⟩)))))))
  · rw [k.h,q.h] at hi
    rcases t.h i with ⟨_,h⟩ | ⟨h,h'⟩
    · exact h
    · by_cases c:List.getD (w.2.2.2.1:List Pl) i (dft Zb)=List.getD (v.2.2.2.1:List Pl) i (dft Zb)
      · exact h.trans c
      · exact absurd ⟨rfl,rfl⟩ (h' _ (h2 _ (List.mem_append.2 (.inr (Hw.2 ⟨i,hi,c,rfl⟩)))))
theorem AAy (w:Wd):Y3 w w=[]:=by
  refine List.eq_nil_iff_forall_not_mem.2 (fun x h => ?_)
  simp only [Y3,List.mem_append] at h
  rcases h with (h | h) | h
  · obtain ⟨i,_,h1,_⟩:=Qb.1 h; exact h1 rfl
  · obtain ⟨i,_,h1,_⟩:=Qb.1 h; exact h1 rfl
  · obtain ⟨i,_,h1,_⟩:=Hw.1 h; exact h1 rfl
section
variable {w v:Wd} (s:Sm w) (q:Eq3 w v) (p:Par w v) (p':Par v w) (hd:w.1=v.1) {t:Int} (ht:0≤t∧t<256)
include s q p p' hd ht
end
end Go.Proofs.YtjobjooccgledaaGreatDoor.Ghost
