/- What functions come to, and that the statements are answered with 'true'. Conditions: none. -/
import Derived.Test.YtmemggdjnfccfaaGreatDoorS
import Derived.Test.YtmemggdjnfccfaaGreatDoorGE
import Derived.Test.YtmemggdjnfccfaaGreatDoorP1
import Derived.Test.YtmemggdjnfccfaaGreatDoorP2
import Derived.Test.YtmemggdjnfccfaaGreatDoorP3
import Derived.Test.YtmemggdjnfccfaaGreatDoorP4
import Derived.Test.YtmemggdjnfccfaaGreatDoorP5
import Derived.Test.YtmemggdjnfccfaaGreatDoorP6
import Derived.Test.YtmemggdjnfccfaaGreatDoorP7
import Derived.Test.YtmemggdjnfccfaaGreatDoorP8
import Derived.Test.YtmemggdjnfccfaaGreatDoorP9
import Derived.Test.YtmemggdjnfccfaaGreatDoorP10
import Derived.Test.YtmemggdjnfccfaaGreatDoorP11
import Derived.Test.YtmemggdjnfccfaaGreatDoorP12
import Derived.Test.YtmemggdjnfccfaaGreatDoorP13
set_option linter.unusedVariables false
set_option linter.unusedSimpArgs false
set_option linter.unusedSectionVars false
set_option linter.unnecessarySimpa false
namespace Go.Proofs.YtmemggdjnfccfaaGreatDoor.Ghost
open Go
abbrev Ky:=den Za
def AIm (w:den Zb) (i:Nat) (c:Cm):List Ky:=[((0:Int),Qi w i,()),((1:Int),(i:Int),())]
def AIn (w:den Zb) (i:Nat) (c:Cm):List Ky:=if (Z4 c=1∨Z4 c=2)∧0≤Ke w i (H5 c).toNat then [((0:Int),Ke w i (H5 c).toNat,())] else []
def AIo (w:den Zb) (c:Cm):List Ky:=if (Z4 c=2∨Z4 c=7∨Z4 c=8)∧(Jz c<(List.length (w.2.1:List Int):Int)) then [((1:Int),Jz c,())] else []
def I0 (w:den Zb) (i:Nat) (c:Cm):List Ky:=AIm w i c ++ (AIn w i c ++ AIo w c)
theorem AJy (w:den Zb) (i:Nat) (c:Cm):(I0 w i c).length≤1048576:=by
  unfold I0 AIm AIn AIo
  repeat' split
  all_goals simp
theorem AF3 {w:den Zb} (h:X9 w) {i:Nat} (hi:i<List.length (w.2.1:List Int)) {c:Cm} (hc:Pm c):Ze (fun nf _ _ _=>G4 nf (w) ((i:Int)) (c)) (fun r=>r.1.1=J5 (I0 w i c)):=by
  have ha:0≤Qi w i∧Qi w i<(List.length (w.1.1:List (List Int)):Int):=(h.at_ i hi).1
  have hd:0≤H5 c∧H5 c<4:=⟨hc.d1,by have:=hc.d2; omega⟩
  have hex:=ABc w (Qi w i) (H5 c) ha hd
  have hw0:0≤Jz c:=by
    by_cases hk:Z4 c=2∨Z4 c=7∨Z4 c=8
    · exact (hc.who.1 hk).1
    · rw [hc.who.2 hk]; exact Int.le_refl 0
  have e1:Q8 w.1 (Int.toNat (Qi w i)) (Int.toNat (H5 c))=Ke w i (H5 c).toNat:=rfl
  rw [e1] at hex
  have hl:(0:Int)≤(i:Int)∧(i:Int)<(List.length (w.2.1:List Int):Int):=by omega
  have hnow:∀ l:List Ky,l.length≤4→Ze (fun nf _ _ _=>Zx nf (l)) (fun r=>r=((J5 l,()),[(0,[])])):=fun l hl=>AHl l (Nat.le_trans hl (by decide))
  have d2:=hnow [((0:Int),Qi w i,()),((1:Int),(i:Int),())] (by simp)
  have d3:=hnow [((0:Int),Qi w i,()),((1:Int),(i:Int),()),((0:Int),Ke w i (H5 c).toNat,())] (by simp)
  have d3':=hnow [((0:Int),Qi w i,()),((1:Int),(i:Int),()),((1:Int),Jz c,())] (by simp)
  have d4:=hnow [((0:Int),Qi w i,()),((1:Int),(i:Int),()),((0:Int),Ke w i (H5 c).toNat,()),((1:Int),Jz c,())] (by simp)
  have hk:Z4 c=1∨Z4 c=2∨Z4 c=7∨Z4 c=8∨(¬ Z4 c=1∧¬ Z4 c=2∧¬ Z4 c=7∧¬ Z4 c=8):=by omega
  unfold I0 AIm AIn AIo
  refine Ze.succ (fun nf _ _ _=>G4.eq nf _ _ _) ?_
  by_cases hx:0≤Ke w i (H5 c).toNat
  · rw [if_neg (by omega),decide_eq_true hx] at hex
    by_cases hq:Jz c<(List.length (w.2.1:List Int):Int)
    · rcases hk with k | k | k | k | ⟨k1,k2,k3,k4⟩
      · simp [-List.getD_eq_getElem?_getD,-List.length_eq_zero_iff,Zq,Zl,Zu,Zo,Z9,Z8,Xx,hl,hi,k,hx,hq,hw0,Zd (hex),(hex).prop,Zd (d2),(d2).prop,Zd (d3),(d3).prop,Zd (d3'),(d3').prop,Zd (d4),(d4).prop]
      · simp [-List.getD_eq_getElem?_getD,-List.length_eq_zero_iff,Zq,Zl,Zu,Zo,Z9,Z8,Xx,hl,hi,k,hx,hq,hw0,Zd (hex),(hex).prop,Zd (d2),(d2).prop,Zd (d3),(d3).prop,Zd (d3'),(d3').prop,Zd (d4),(d4).prop]
      · simp [-List.getD_eq_getElem?_getD,-List.length_eq_zero_iff,Zq,Zl,Zu,Zo,Z9,Z8,Xx,hl,hi,k,hx,hq,hw0,Zd (hex),(hex).prop,Zd (d2),(d2).prop,Zd (d3),(d3).prop,Zd (d3'),(d3').prop,Zd (d4),(d4).prop]
      · simp [-List.getD_eq_getElem?_getD,-List.length_eq_zero_iff,Zq,Zl,Zu,Zo,Z9,Z8,Xx,hl,hi,k,hx,hq,hw0,Zd (hex),(hex).prop,Zd (d2),(d2).prop,Zd (d3),(d3).prop,Zd (d3'),(d3').prop,Zd (d4),(d4).prop]
      · simp [-List.getD_eq_getElem?_getD,-List.length_eq_zero_iff,Zq,Zl,Zu,Zo,Z9,Z8,Xx,hl,hi,k1,k2,k3,k4,hx,hq,hw0,Zd (hex),(hex).prop,Zd (d2),(d2).prop,Zd (d3),(d3).prop,Zd (d3'),(d3').prop,Zd (d4),(d4).prop]
    · rcases hk with k | k | k | k | ⟨k1,k2,k3,k4⟩
      · simp [-List.getD_eq_getElem?_getD,-List.length_eq_zero_iff,Zq,Zl,Zu,Zo,Z9,Z8,Xx,hl,hi,k,hx,hq,hw0,Zd (hex),(hex).prop,Zd (d2),(d2).prop,Zd (d3),(d3).prop,Zd (d3'),(d3').prop,Zd (d4),(d4).prop]
      · simp [-List.getD_eq_getElem?_getD,-List.length_eq_zero_iff,Zq,Zl,Zu,Zo,Z9,Z8,Xx,hl,hi,k,hx,hq,hw0,Zd (hex),(hex).prop,Zd (d2),(d2).prop,Zd (d3),(d3).prop,Zd (d3'),(d3').prop,Zd (d4),(d4).prop]
      · simp [-List.getD_eq_getElem?_getD,-List.length_eq_zero_iff,Zq,Zl,Zu,Zo,Z9,Z8,Xx,hl,hi,k,hx,hq,hw0,Zd (hex),(hex).prop,Zd (d2),(d2).prop,Zd (d3),(d3).prop,Zd (d3'),(d3').prop,Zd (d4),(d4).prop]
      · simp [-List.getD_eq_getElem?_getD,-List.length_eq_zero_iff,Zq,Zl,Zu,Zo,Z9,Z8,Xx,hl,hi,k,hx,hq,hw0,Zd (hex),(hex).prop,Zd (d2),(d2).prop,Zd (d3),(d3).prop,Zd (d3'),(d3').prop,Zd (d4),(d4).prop]
      · simp [-List.getD_eq_getElem?_getD,-List.length_eq_zero_iff,Zq,Zl,Zu,Zo,Z9,Z8,Xx,hl,hi,k1,k2,k3,k4,hx,hq,hw0,Zd (hex),(hex).prop,Zd (d2),(d2).prop,Zd (d3),(d3).prop,Zd (d3'),(d3').prop,Zd (d4),(d4).prop]
  · rw [if_pos (by omega),decide_eq_false hx] at hex
    by_cases hq:Jz c<(List.length (w.2.1:List Int):Int)
    · rcases hk with k | k | k | k | ⟨k1,k2,k3,k4⟩
      · simp [-List.getD_eq_getElem?_getD,-List.length_eq_zero_iff,Zq,Zl,Zu,Zo,Z9,Z8,Xx,hl,hi,k,hx,hq,hw0,Zd (hex),(hex).prop,Zd (d2),(d2).prop,Zd (d3),(d3).prop,Zd (d3'),(d3').prop,Zd (d4),(d4).prop]
      · simp [-List.getD_eq_getElem?_getD,-List.length_eq_zero_iff,Zq,Zl,Zu,Zo,Z9,Z8,Xx,hl,hi,k,hx,hq,hw0,Zd (hex),(hex).prop,Zd (d2),(d2).prop,Zd (d3),(d3).prop,Zd (d3'),(d3').prop,Zd (d4),(d4).prop]
      · simp [-List.getD_eq_getElem?_getD,-List.length_eq_zero_iff,Zq,Zl,Zu,Zo,Z9,Z8,Xx,hl,hi,k,hx,hq,hw0,Zd (hex),(hex).prop,Zd (d2),(d2).prop,Zd (d3),(d3).prop,Zd (d3'),(d3').prop,Zd (d4),(d4).prop]
      · simp [-List.getD_eq_getElem?_getD,-List.length_eq_zero_iff,Zq,Zl,Zu,Zo,Z9,Z8,Xx,hl,hi,k,hx,hq,hw0,Zd (hex),(hex).prop,Zd (d2),(d2).prop,Zd (d3),(d3).prop,Zd (d3'),(d3').prop,Zd (d4),(d4).prop]
      · simp [-List.getD_eq_getElem?_getD,-List.length_eq_zero_iff,Zq,Zl,Zu,Zo,Z9,Z8,Xx,hl,hi,k1,k2,k3,k4,hx,hq,hw0,Zd (hex),(hex).prop,Zd (d2),(d2).prop,Zd (d3),(d3).prop,Zd (d3'),(d3').prop,Zd (d4),(d4).prop]
    · rcases hk with k | k | k | k | ⟨k1,k2,k3,k4⟩
      · simp [-List.getD_eq_getElem?_getD,-List.length_eq_zero_iff,Zq,Zl,Zu,Zo,Z9,Z8,Xx,hl,hi,k,hx,hq,hw0,Zd (hex),(hex).prop,Zd (d2),(d2).prop,Zd (d3),(d3).prop,Zd (d3'),(d3').prop,Zd (d4),(d4).prop]
      · simp [-List.getD_eq_getElem?_getD,-List.length_eq_zero_iff,Zq,Zl,Zu,Zo,Z9,Z8,Xx,hl,hi,k,hx,hq,hw0,Zd (hex),(hex).prop,Zd (d2),(d2).prop,Zd (d3),(d3).prop,Zd (d3'),(d3').prop,Zd (d4),(d4).prop]
      · simp [-List.getD_eq_getElem?_getD,-List.length_eq_zero_iff,Zq,Zl,Zu,Zo,Z9,Z8,Xx,hl,hi,k,hx,hq,hw0,Zd (hex),(hex).prop,Zd (d2),(d2).prop,Zd (d3),(d3).prop,Zd (d3'),(d3').prop,Zd (d4),(d4).prop]
      · simp [-List.getD_eq_getElem?_getD,-List.length_eq_zero_iff,Zq,Zl,Zu,Zo,Z9,Z8,Xx,hl,hi,k,hx,hq,hw0,Zd (hex),(hex).prop,Zd (d2),(d2).prop,Zd (d3),(d3).prop,Zd (d3'),(d3').prop,Zd (d4),(d4).prop]
      · simp [-List.getD_eq_getElem?_getD,-List.length_eq_zero_iff,Zq,Zl,Zu,Zo,Z9,Z8,Xx,hl,hi,k1,k2,k3,k4,hx,hq,hw0,Zd (hex),(hex).prop,Zd (d2),(d2).prop,Zd (d3),(d3).prop,Zd (d3'),(d3').prop,Zd (d4),(d4).prop]
end Go.Proofs.YtmemggdjnfccfaaGreatDoor.Ghost
