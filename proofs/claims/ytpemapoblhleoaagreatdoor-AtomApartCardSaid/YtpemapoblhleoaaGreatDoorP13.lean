/- What functions come to, and that the statements are answered with 'true'. Conditions: none. -/
import Derived.Test.YtpemapoblhleoaaGreatDoorS
import Derived.Test.YtpemapoblhleoaaGreatDoorGE
import Derived.Test.YtpemapoblhleoaaGreatDoorP1
import Derived.Test.YtpemapoblhleoaaGreatDoorP2
import Derived.Test.YtpemapoblhleoaaGreatDoorP3
import Derived.Test.YtpemapoblhleoaaGreatDoorP4
import Derived.Test.YtpemapoblhleoaaGreatDoorP5
import Derived.Test.YtpemapoblhleoaaGreatDoorP6
import Derived.Test.YtpemapoblhleoaaGreatDoorP7
import Derived.Test.YtpemapoblhleoaaGreatDoorP8
import Derived.Test.YtpemapoblhleoaaGreatDoorP9
import Derived.Test.YtpemapoblhleoaaGreatDoorP10
import Derived.Test.YtpemapoblhleoaaGreatDoorP11
import Derived.Test.YtpemapoblhleoaaGreatDoorP12
set_option linter.unusedVariables false
set_option linter.unusedSimpArgs false
set_option linter.unusedSectionVars false
set_option linter.unnecessarySimpa false
namespace Go.Proofs.YtpemapoblhleoaaGreatDoor.Ghost
open Go
theorem AG6 {w:den Za} {p:Pl} {s:Sn}:{n:Nat}→(s∈Mg w p n↔∃ j,j<n∧s=((j:Int),Ym w j,())∧Ys w j=p)
  | 0=>⟨fun h=>by simp [Mg] at h,fun ⟨j,h,_⟩=>by omega⟩
  | n+1=>by
    simp only [Mg,List.mem_append]
    rw [AG6 (n:=n)]
    constructor
    · rintro (⟨j,h1,h2⟩ | h)
      · exact ⟨j,by omega,h2⟩
      · by_cases hr:Ys w n=p
        · rw [if_pos hr] at h; exact ⟨n,by omega,List.mem_singleton.1 h,hr⟩
        · rw [if_neg hr] at h; cases h
    · rintro ⟨j,h1,h2,h3⟩
      by_cases hj:j<n
      · exact .inl ⟨j,hj,h2,h3⟩
      · have:j=n:=by omega
        subst this
        rw [if_pos h3]
        exact .inr (List.mem_singleton.2 h2)
end Go.Proofs.YtpemapoblhleoaaGreatDoor.Ghost
namespace Go.Proofs.YtpemapoblhleoaaGreatDoor.Ghost
open Go
theorem AMn (w:den Za) (p:Pl):(n:Nat)→(Mg w p n).Pairwise (fun a b:Sn=>(a.1:Int)<b.1)
  | 0=>.nil
  | n+1=>by
    simp only [Mg]
    rw [List.pairwise_append]
    refine ⟨AMn w p n,?_,fun a ha b hb => ?_⟩
    · split
      · exact List.pairwise_singleton _ _
      · exact .nil
    · obtain ⟨j,h1,rfl,_⟩:=AG6.1 ha
      by_cases hp:Ys w n=p
      · rw [if_pos hp] at hb
        rw [List.mem_singleton.1 hb]
        show (j:Int)<(n:Int)
        omega
      · rw [if_neg hp] at hb; cases hb
theorem BHr {w:den Za} {p:Pl} {i j:Nat} (hij:i<j) (hj:j<(Oh w p).length):((List.getD (Oh w p) i (dft X7)).1:Int)<(List.getD (Oh w p) j (dft X7)).1:=by
  have hi:i<(Oh w p).length:=Nat.lt_trans hij hj
  have:=List.pairwise_iff_getElem.1 (AMn w p (List.length (w.2.2.2.1:List (den Zb)))) i j hi hj hij
  rw [List.getD_eq_getElem?_getD,List.getD_eq_getElem?_getD,List.getElem?_eq_getElem hj,List.getElem?_eq_getElem hi]
  exact this
def Tal (w:den Za) (lo hi:Nat→Prop) (o:List Int):Prop:=o.length=List.length (w.2.2.2.1:List (den Zb))∧∀ i,i<List.length (w.2.2.2.1:List (den Zb))→(List.getD o i (0:Int)=0∧¬ lo i)∨(List.getD o i (0:Int)=1∧hi i)
theorem Tal.mono {w:den Za} {lo hi lo' hi':Nat→Prop} {o:List Int} (h:Tal w lo hi o) (hl:∀ i,i<List.length (w.2.2.2.1:List (den Zb))→lo' i→lo i) (hh:∀ i,i<List.length (w.2.2.2.1:List (den Zb))→hi i→hi' i):Tal w lo' hi' o :=
  ⟨h.1,fun i hi=>(h.2 i hi).imp (fun e=>⟨e.1,fun e'=>e.2 (hl i hi e')⟩) (fun e=>⟨e.1,hh i hi e.2⟩)⟩
theorem Tal.zero (w:den Za) {lo hi:Nat→Prop} (h:∀ i,¬ lo i):Tal w lo hi (List.replicate (List.length (w.2.2.2.1:List (den Zb))) 0) :=
  ⟨List.length_replicate,fun i hi=>.inl ⟨by rw [List.getD_eq_getElem?_getD,List.getElem?_replicate,if_pos hi]; rfl,h i⟩⟩
def Dw (w:den Za) (p:Pl) (proc:Nat→Prop) (j:Nat) (i:Nat):Prop:=proc i∨∃ j',j'<j∧j'<(Oh w p).length∧((List.getD (Oh w p) j' (dft X7)).1:Int)=(i:Int)
theorem Tal.step {w:den Za} {p:Pl} {lo hi:Nat→Prop} (hp:∀ i,hi i→¬ Ys w i=p) {j m:Nat} {o:List Int} (h:Tal w (Dw w p lo j) (Dw w p hi j) o) (hj:j<(Oh w p).length) (hm:((List.getD (Oh w p) j (dft X7)).1:Int)=(m:Int)) (hml:m<List.length (w.2.2.2.1:List (den Zb))) (hmr:Ys w m=p) :
    List.getD o m (0:Int)=0∧Tal w (Dw w p lo (j+1)) (Dw w p hi (j+1)) (List.set o m 1):=by
  have h0:List.getD o m (0:Int)=0:=by
    rcases h.2 m hml with ⟨e,_⟩ | ⟨_,e | ⟨j',h1,h2,h3⟩⟩
    · exact e
    · exact absurd hmr (hp m e)
    · have:=BHr (w:=w) (p:=p) h1 hj
      rw [h3,hm] at this
      exact absurd this (Int.lt_irrefl _)
  refine ⟨h0,by rw [List.length_set]; exact h.1,fun i hi => ?_⟩
  rw [Gd o m i 1 0 (by rw [h.1]; exact hml)]
  by_cases hi2:i=m
  · subst hi2; rw [if_pos rfl]; exact .inr ⟨rfl,.inr ⟨j,by omega,hj,hm⟩⟩
  · rw [if_neg hi2]
    refine (h.2 i hi).imp (fun e=>⟨e.1,fun e'=>e.2 (e'.imp id (fun ⟨j',h1,h2,h3⟩=>⟨j',?_,h2,h3⟩))⟩) (fun e=>⟨e.1,e.2.imp id (fun ⟨j',h1,h2⟩=>⟨j',by omega,h2⟩)⟩)
    by_cases hjj:j'=j
    · subst hjj; rw [hm] at h3; exact absurd (Int.ofNat.inj h3).symm hi2
    · omega
theorem Ue.good {w:den Za} (h:X1 w) {i:Nat} {p:Pl} {d:Nat} (hg:Ue w.2.2.2.1 i p d):i<List.length (w.2.2.2.1:List (den Zb))→Kf w.1 p:=by
  induction hg with
  | @top j h2=>exact fun hj=>h.good j hj
  | @box j b p d h2 hb _ ih=>exact fun hj=>ih (ABq h hj h2 hb).1
end Go.Proofs.YtpemapoblhleoaaGreatDoor.Ghost
namespace Go.Proofs.YtpemapoblhleoaaGreatDoor.Ghost
open Go
end Go.Proofs.YtpemapoblhleoaaGreatDoor.Ghost
namespace Go.Proofs.YtpemapoblhleoaaGreatDoor.Ghost
open Go
end Go.Proofs.YtpemapoblhleoaaGreatDoor.Ghost
namespace Go.Proofs.YtpemapoblhleoaaGreatDoor.Ghost
open Go
end Go.Proofs.YtpemapoblhleoaaGreatDoor.Ghost
namespace Go.Proofs.YtpemapoblhleoaaGreatDoor.Ghost
open Go
end Go.Proofs.YtpemapoblhleoaaGreatDoor.Ghost
namespace Go.Proofs.YtpemapoblhleoaaGreatDoor.Ghost
open Go
end Go.Proofs.YtpemapoblhleoaaGreatDoor.Ghost
