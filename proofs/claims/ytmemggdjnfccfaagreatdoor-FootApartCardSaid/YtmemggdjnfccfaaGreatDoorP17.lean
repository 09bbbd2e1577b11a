/- What functions come to, and that the statements are answered with 'true'. Conditions: none. -/
import Derived.Test.YtmemggdjnfccfaaGreatDoorS
import Derived.Test.YtmemggdjnfccfaaGreatDoorGE
import Derived.Test.YtmemggdjnfccfaaGreatDoorP1
import Derived.Test.YtmemggdjnfccfaaGreatDoorP2
import Derived.Test.YtmemggdjnfccfaaGreatDoorP3
import Derived.Test.YtmemggdjnfccfaaGreatDoorP4
import Derived.Test.YtmemggdjnfccfaaGreatDoorP5
import Derived.Test.YtmemggdjnfccfaaGreatDoorP6
import Derived.Test.YtmemggdjnfccfaaGreatDoorP7
import Derived.Test.YtmemggdjnfccfaaGreatDoorP8
import Derived.Test.YtmemggdjnfccfaaGreatDoorP9
import Derived.Test.YtmemggdjnfccfaaGreatDoorP10
import Derived.Test.YtmemggdjnfccfaaGreatDoorP11
import Derived.Test.YtmemggdjnfccfaaGreatDoorP12
import Derived.Test.YtmemggdjnfccfaaGreatDoorP13
import Derived.Test.YtmemggdjnfccfaaGreatDoorP14
import Derived.Test.YtmemggdjnfccfaaGreatDoorP15
import Derived.Test.YtmemggdjnfccfaaGreatDoorP16
set_option linter.unusedVariables false
set_option linter.unusedSimpArgs false
set_option linter.unusedSectionVars false
set_option linter.unnecessarySimpa false
namespace Go.Proofs.YtmemggdjnfccfaaGreatDoor.Ghost
open Go
theorem AJj {w:den Zb} {p:Pl} {s:Sn}:{n:Nat}→(s∈P0 w p n↔∃ j,j<n∧s=((j:Int),Xs w j,())∧Xd w j=p)
  | 0=>⟨fun h=>by simp [P0] at h,fun ⟨j,h,_⟩=>by omega⟩
  | n+1=>by
    simp only [P0,List.mem_append]
    rw [AJj (n:=n)]
    constructor
    · rintro (⟨j,h1,h2⟩ | h)
      · exact ⟨j,by omega,h2⟩
      · by_cases hr:Xd w n=p
        · rw [if_pos hr] at h; exact ⟨n,by omega,List.mem_singleton.1 h,hr⟩
        · rw [if_neg hr] at h; cases h
    · rintro ⟨j,h1,h2,h3⟩
      by_cases hj:j<n
      · exact .inl ⟨j,hj,h2,h3⟩
      · have:j=n:=by omega
        subst this
        rw [if_pos h3]
        exact .inr (List.mem_singleton.2 h2)
end Go.Proofs.YtmemggdjnfccfaaGreatDoor.Ghost
namespace Go.Proofs.YtmemggdjnfccfaaGreatDoor.Ghost
open Go
theorem APe (w:den Zb) (p:Pl):(n:Nat)→(P0 w p n).Pairwise (fun a b:Sn=>(a.1:Int)<b.1)
  | 0=>.nil
  | n+1=>by
    simp only [P0]
    rw [List.pairwise_append]
    refine ⟨APe w p n,?_,fun a ha b hb => ?_⟩
    · split
      · exact List.pairwise_singleton _ _
      · exact .nil
    · obtain ⟨j,h1,rfl,_⟩:=AJj.1 ha
      by_cases hp:Xd w n=p
      · rw [if_pos hp] at hb
        rw [List.mem_singleton.1 hb]
        show (j:Int)<(n:Int)
        omega
      · rw [if_neg hp] at hb; cases hb
theorem BMl {w:den Zb} {p:Pl} {i j:Nat} (hij:i<j) (hj:j<(Pi w p).length):((List.getD (Pi w p) i (dft Ym)).1:Int)<(List.getD (Pi w p) j (dft Ym)).1:=by
  have hi:i<(Pi w p).length:=Nat.lt_trans hij hj
  have:=List.pairwise_iff_getElem.1 (APe w p (List.length (w.2.2.2.1:List (den Za)))) i j hi hj hij
  rw [List.getD_eq_getElem?_getD,List.getD_eq_getElem?_getD,List.getElem?_eq_getElem hj,List.getElem?_eq_getElem hi]
  exact this
def Tal (w:den Zb) (lo hi:Nat→Prop) (o:List Int):Prop:=o.length=List.length (w.2.2.2.1:List (den Za))∧∀ i,i<List.length (w.2.2.2.1:List (den Za))→(List.getD o i (0:Int)=0∧¬ lo i)∨(List.getD o i (0:Int)=1∧hi i)
theorem Tal.mono {w:den Zb} {lo hi lo' hi':Nat→Prop} {o:List Int} (h:Tal w lo hi o) (hl:∀ i,i<List.length (w.2.2.2.1:List (den Za))→lo' i→lo i) (hh:∀ i,i<List.length (w.2.2.2.1:List (den Za))→hi i→hi' i):Tal w lo' hi' o :=
  ⟨h.1,fun i hi=>(h.2 i hi).imp (fun e=>⟨e.1,fun e'=>e.2 (hl i hi e')⟩) (fun e=>⟨e.1,hh i hi e.2⟩)⟩
theorem Tal.zero (w:den Zb) {lo hi:Nat→Prop} (h:∀ i,¬ lo i):Tal w lo hi (List.replicate (List.length (w.2.2.2.1:List (den Za))) 0) :=
  ⟨List.length_replicate,fun i hi=>.inl ⟨by rw [List.getD_eq_getElem?_getD,List.getElem?_replicate,if_pos hi]; rfl,h i⟩⟩
def Bh (w:den Zb) (p:Pl) (proc:Nat→Prop) (j:Nat) (i:Nat):Prop:=proc i∨∃ j',j'<j∧j'<(Pi w p).length∧((List.getD (Pi w p) j' (dft Ym)).1:Int)=(i:Int)
theorem Tal.step {w:den Zb} {p:Pl} {lo hi:Nat→Prop} (hp:∀ i,hi i→¬ Xd w i=p) {j m:Nat} {o:List Int} (h:Tal w (Bh w p lo j) (Bh w p hi j) o) (hj:j<(Pi w p).length) (hm:((List.getD (Pi w p) j (dft Ym)).1:Int)=(m:Int)) (hml:m<List.length (w.2.2.2.1:List (den Za))) (hmr:Xd w m=p) :
    List.getD o m (0:Int)=0∧Tal w (Bh w p lo (j+1)) (Bh w p hi (j+1)) (List.set o m 1):=by
  have h0:List.getD o m (0:Int)=0:=by
    rcases h.2 m hml with ⟨e,_⟩ | ⟨_,e | ⟨j',h1,h2,h3⟩⟩
    · exact e
    · exact absurd hmr (hp m e)
    · have:=BMl (w:=w) (p:=p) h1 hj
      rw [h3,hm] at this
      exact absurd this (Int.lt_irrefl _)
  refine ⟨h0,by rw [List.length_set]; exact h.1,fun i hi => ?_⟩
  rw [Gh o m i 1 0 (by rw [h.1]; exact hml)]
  by_cases hi2:i=m
  · subst hi2; rw [if_pos rfl]; exact .inr ⟨rfl,.inr ⟨j,by omega,hj,hm⟩⟩
  · rw [if_neg hi2]
    refine (h.2 i hi).imp (fun e=>⟨e.1,fun e'=>e.2 (e'.imp id (fun ⟨j',h1,h2,h3⟩=>⟨j',?_,h2,h3⟩))⟩) (fun e=>⟨e.1,e.2.imp id (fun ⟨j',h1,h2⟩=>⟨j',by omega,h2⟩)⟩)
    by_cases hjj:j'=j
    · subst hjj; rw [hm] at h3; exact absurd (Int.ofNat.inj h3).symm hi2
    · omega
theorem Uu.good {w:den Zb} (h:Yf w) {i:Nat} {p:Pl} {d:Nat} (hg:Uu w.2.2.2.1 i p d):i<List.length (w.2.2.2.1:List (den Za))→K3 w.1 p:=by
  induction hg with
  | @top j h2=>exact fun hj=>h.good j hj
  | @box j b p d h2 hb _ ih=>exact fun hj=>ih (ADp h hj h2 hb).1
abbrev rk (w:den Zb) (i:Nat):Int:=(Xd w i).1
end Go.Proofs.YtmemggdjnfccfaaGreatDoor.Ghost
namespace Go.Proofs.YtmemggdjnfccfaaGreatDoor.Ghost
open Go
end Go.Proofs.YtmemggdjnfccfaaGreatDoor.Ghost
namespace Go.Proofs.YtmemggdjnfccfaaGreatDoor.Ghost
open Go
end Go.Proofs.YtmemggdjnfccfaaGreatDoor.Ghost
namespace Go.Proofs.YtmemggdjnfccfaaGreatDoor.Ghost
open Go
end Go.Proofs.YtmemggdjnfccfaaGreatDoor.Ghost
namespace Go.Proofs.YtmemggdjnfccfaaGreatDoor.Ghost
open Go
end Go.Proofs.YtmemggdjnfccfaaGreatDoor.Ghost
namespace Go.Proofs.YtmemggdjnfccfaaGreatDoor.Ghost
open Go
theorem ANo {w:den Zb} (hs:Sm w) (i:Nat) (c:Cm):List.length ((doR w i c).2.1.2.2.2.1:List Int)≤1048576∧List.length ((doR w i c).2.1.2.2.2.2.1:List Sn)≤1048576:=by
  have h1:=AOi hs i
  have h2:=ATa hs i
  unfold doR
  by_cases hm:Ws c
  · rw [if_pos hm]
    split
    · exact h1
    · split
      · exact h2
      · split <;> exact ⟨Nat.zero_le _,Nat.zero_le _⟩
  · rw [if_neg hm]; exact ⟨Nat.zero_le _,Nat.zero_le _⟩
end Go.Proofs.YtmemggdjnfccfaaGreatDoor.Ghost
namespace Go.Proofs.YtmemggdjnfccfaaGreatDoor.Ghost
open Go
abbrev lenW (w:den Zb):Nat:=List.length (w.2.2.2.1:List (den Za))
end Go.Proofs.YtmemggdjnfccfaaGreatDoor.Ghost
