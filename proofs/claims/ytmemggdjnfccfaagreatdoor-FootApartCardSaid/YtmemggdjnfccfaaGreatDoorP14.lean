/- What functions come to, and that the statements are answered with 'true'. Conditions: none. -/
import Derived.Test.YtmemggdjnfccfaaGreatDoorS
import Derived.Test.YtmemggdjnfccfaaGreatDoorGE
import Derived.Test.YtmemggdjnfccfaaGreatDoorP1
import Derived.Test.YtmemggdjnfccfaaGreatDoorP2
import Derived.Test.YtmemggdjnfccfaaGreatDoorP3
import Derived.Test.YtmemggdjnfccfaaGreatDoorP4
import Derived.Test.YtmemggdjnfccfaaGreatDoorP5
import Derived.Test.YtmemggdjnfccfaaGreatDoorP6
import Derived.Test.YtmemggdjnfccfaaGreatDoorP7
import Derived.Test.YtmemggdjnfccfaaGreatDoorP8
import Derived.Test.YtmemggdjnfccfaaGreatDoorP9
import Derived.Test.YtmemggdjnfccfaaGreatDoorP10
import Derived.Test.YtmemggdjnfccfaaGreatDoorP11
import Derived.Test.YtmemggdjnfccfaaGreatDoorP12
import Derived.Test.YtmemggdjnfccfaaGreatDoorP13
set_option linter.unusedVariables false
set_option linter.unusedSimpArgs false
set_option linter.unusedSectionVars false
set_option linter.unnecessarySimpa false
namespace Go.Proofs.YtmemggdjnfccfaaGreatDoor.Ghost
open Go
abbrev Ky:=den Za
def AFm (w:den Zb) (i:Nat) (c:Cm):List Ky:=[((0:Int),Yc w i,()),((1:Int),(i:Int),())]
def AFn (w:den Zb) (i:Nat) (c:Cm):List Ky:=if (Z2 c=1∨Z2 c=2)∧0≤Y5 w i (Hg c).toNat then [((0:Int),Y5 w i (Hg c).toNat,())] else []
def AFo (w:den Zb) (c:Cm):List Ky:=if (Z2 c=2∨Z2 c=7∨Z2 c=8)∧(Y6 c<(List.length (w.2.1:List Int):Int)) then [((1:Int),Y6 c,())] else []
def Ka (w:den Zb) (i:Nat) (c:Cm):List Ky:=AFm w i c ++ (AFn w i c ++ AFo w c)
theorem ABy (w:den Zb) (i:Nat) (c:Cm):(Ka w i c).length≤1048576:=by
  unfold Ka AFm AFn AFo
  repeat' split
  all_goals simp
theorem W8 {w:den Zb} (h:Yf w) {i:Nat} (hi:i<List.length (w.2.1:List Int)) {c:Cm} (hc:Ws c):Zd (fun nf _ _ _=>Hp nf (w) ((i:Int)) (c)) (fun r=>r.1.1=Yz (Ka w i c)):=by
  have ha:0≤Yc w i∧Yc w i<(List.length (w.1.1:List (List Int)):Int):=(h.at_ i hi).1
  have hd:0≤Hg c∧Hg c<4:=⟨hc.d1,by have:=hc.d2; omega⟩
  have hex:=ABv w (Yc w i) (Hg c) ha hd
  have hw0:0≤Y6 c:=by
    by_cases hk:Z2 c=2∨Z2 c=7∨Z2 c=8
    · exact (hc.who.1 hk).1
    · rw [hc.who.2 hk]; exact Int.le_refl 0
  have e1:Ji w.1 (Int.toNat (Yc w i)) (Int.toNat (Hg c))=Y5 w i (Hg c).toNat:=rfl
  rw [e1] at hex
  have hl:(0:Int)≤(i:Int)∧(i:Int)<(List.length (w.2.1:List Int):Int):=by omega
  have hnow:∀ l:List Ky,l.length≤4→Zd (fun nf _ _ _=>Zv nf (l)) (fun r=>r=((Yz l,()),[(0,[])])):=fun l hl=>AH7 l (Nat.le_trans hl (by decide))
  have d2:=hnow [((0:Int),Yc w i,()),((1:Int),(i:Int),())] (by simp)
  have d3:=hnow [((0:Int),Yc w i,()),((1:Int),(i:Int),()),((0:Int),Y5 w i (Hg c).toNat,())] (by simp)
  have d3':=hnow [((0:Int),Yc w i,()),((1:Int),(i:Int),()),((1:Int),Y6 c,())] (by simp)
  have d4:=hnow [((0:Int),Yc w i,()),((1:Int),(i:Int),()),((0:Int),Y5 w i (Hg c).toNat,()),((1:Int),Y6 c,())] (by simp)
  have hk:Z2 c=1∨Z2 c=2∨Z2 c=7∨Z2 c=8∨(¬ Z2 c=1∧¬ Z2 c=2∧¬ Z2 c=7∧¬ Z2 c=8):=by omega
  unfold Ka AFm AFn AFo
  refine Zd.succ (fun nf _ _ _=>Hp.eq nf _ _ _) ?_
  by_cases hx:0≤Y5 w i (Hg c).toNat
  · rw [if_neg (by omega),decide_eq_true hx] at hex
    by_cases hq:Y6 c<(List.length (w.2.1:List Int):Int)
    · rcases hk with k | k | k | k | ⟨k1,k2,k3,k4⟩
      · simp [-List.getD_eq_getElem?_getD,-List.length_eq_zero_iff,Zp,Zm,Zy,Zo,Xj,Xi,Yb,hl,hi,k,hx,hq,hw0,Ze (hex),(hex).prop,Ze (d2),(d2).prop,Ze (d3),(d3).prop,Ze (d3'),(d3').prop,Ze (d4),(d4).prop]
      · simp [-List.getD_eq_getElem?_getD,-List.length_eq_zero_iff,Zp,Zm,Zy,Zo,Xj,Xi,Yb,hl,hi,k,hx,hq,hw0,Ze (hex),(hex).prop,Ze (d2),(d2).prop,Ze (d3),(d3).prop,Ze (d3'),(d3').prop,Ze (d4),(d4).prop]
      · simp [-List.getD_eq_getElem?_getD,-List.length_eq_zero_iff,Zp,Zm,Zy,Zo,Xj,Xi,Yb,hl,hi,k,hx,hq,hw0,Ze (hex),(hex).prop,Ze (d2),(d2).prop,Ze (d3),(d3).prop,Ze (d3'),(d3').prop,Ze (d4),(d4).prop]
      · simp [-List.getD_eq_getElem?_getD,-List.length_eq_zero_iff,Zp,Zm,Zy,Zo,Xj,Xi,Yb,hl,hi,k,hx,hq,hw0,Ze (hex),(hex).prop,Ze (d2),(d2).prop,Ze (d3),(d3).prop,Ze (d3'),(d3').prop,Ze (d4),(d4).prop]
      · simp [-List.getD_eq_getElem?_getD,-List.length_eq_zero_iff,Zp,Zm,Zy,Zo,Xj,Xi,Yb,hl,hi,k1,k2,k3,k4,hx,hq,hw0,Ze (hex),(hex).prop,Ze (d2),(d2).prop,Ze (d3),(d3).prop,Ze (d3'),(d3').prop,Ze (d4),(d4).prop]
    · rcases hk with k | k | k | k | ⟨k1,k2,k3,k4⟩
      · simp [-List.getD_eq_getElem?_getD,-List.length_eq_zero_iff,Zp,Zm,Zy,Zo,Xj,Xi,Yb,hl,hi,k,hx,hq,hw0,Ze (hex),(hex).prop,Ze (d2),(d2).prop,Ze (d3),(d3).prop,Ze (d3'),(d3').prop,Ze (d4),(d4).prop]
      · simp [-List.getD_eq_getElem?_getD,-List.length_eq_zero_iff,Zp,Zm,Zy,Zo,Xj,Xi,Yb,hl,hi,k,hx,hq,hw0,Ze (hex),(hex).prop,Ze (d2),(d2).prop,Ze (d3),(d3).prop,Ze (d3'),(d3').prop,Ze (d4),(d4).prop]
      · simp [-List.getD_eq_getElem?_getD,-List.length_eq_zero_iff,Zp,Zm,Zy,Zo,Xj,Xi,Yb,hl,hi,k,hx,hq,hw0,Ze (hex),(hex).prop,Ze (d2),(d2).prop,Ze (d3),(d3).prop,Ze (d3'),(d3').prop,Ze (d4),(d4).prop]
      · simp [-List.getD_eq_getElem?_getD,-List.length_eq_zero_iff,Zp,Zm,Zy,Zo,Xj,Xi,Yb,hl,hi,k,hx,hq,hw0,Ze (hex),(hex).prop,Ze (d2),(d2).prop,Ze (d3),(d3).prop,Ze (d3'),(d3').prop,Ze (d4),(d4).prop]
      · simp [-List.getD_eq_getElem?_getD,-List.length_eq_zero_iff,Zp,Zm,Zy,Zo,Xj,Xi,Yb,hl,hi,k1,k2,k3,k4,hx,hq,hw0,Ze (hex),(hex).prop,Ze (d2),(d2).prop,Ze (d3),(d3).prop,Ze (d3'),(d3').prop,Ze (d4),(d4).prop]
  · rw [if_pos (by omega),decide_eq_false hx] at hex
    by_cases hq:Y6 c<(List.length (w.2.1:List Int):Int)
    · rcases hk with k | k | k | k | ⟨k1,k2,k3,k4⟩
      · simp [-List.getD_eq_getElem?_getD,-List.length_eq_zero_iff,Zp,Zm,Zy,Zo,Xj,Xi,Yb,hl,hi,k,hx,hq,hw0,Ze (hex),(hex).prop,Ze (d2),(d2).prop,Ze (d3),(d3).prop,Ze (d3'),(d3').prop,Ze (d4),(d4).prop]
      · simp [-List.getD_eq_getElem?_getD,-List.length_eq_zero_iff,Zp,Zm,Zy,Zo,Xj,Xi,Yb,hl,hi,k,hx,hq,hw0,Ze (hex),(hex).prop,Ze (d2),(d2).prop,Ze (d3),(d3).prop,Ze (d3'),(d3').prop,Ze (d4),(d4).prop]
      · simp [-List.getD_eq_getElem?_getD,-List.length_eq_zero_iff,Zp,Zm,Zy,Zo,Xj,Xi,Yb,hl,hi,k,hx,hq,hw0,Ze (hex),(hex).prop,Ze (d2),(d2).prop,Ze (d3),(d3).prop,Ze (d3'),(d3').prop,Ze (d4),(d4).prop]
      · simp [-List.getD_eq_getElem?_getD,-List.length_eq_zero_iff,Zp,Zm,Zy,Zo,Xj,Xi,Yb,hl,hi,k,hx,hq,hw0,Ze (hex),(hex).prop,Ze (d2),(d2).prop,Ze (d3),(d3).prop,Ze (d3'),(d3').prop,Ze (d4),(d4).prop]
      · simp [-List.getD_eq_getElem?_getD,-List.length_eq_zero_iff,Zp,Zm,Zy,Zo,Xj,Xi,Yb,hl,hi,k1,k2,k3,k4,hx,hq,hw0,Ze (hex),(hex).prop,Ze (d2),(d2).prop,Ze (d3),(d3).prop,Ze (d3'),(d3').prop,Ze (d4),(d4).prop]
    · rcases hk with k | k | k | k | ⟨k1,k2,k3,k4⟩
      · simp [-List.getD_eq_getElem?_getD,-List.length_eq_zero_iff,Zp,Zm,Zy,Zo,Xj,Xi,Yb,hl,hi,k,hx,hq,hw0,Ze (hex),(hex).prop,Ze (d2),(d2).prop,Ze (d3),(d3).prop,Ze (d3'),(d3').prop,Ze (d4),(d4).prop]
      · simp [-List.getD_eq_getElem?_getD,-List.length_eq_zero_iff,Zp,Zm,Zy,Zo,Xj,Xi,Yb,hl,hi,k,hx,hq,hw0,Ze (hex),(hex).prop,Ze (d2),(d2).prop,Ze (d3),(d3).prop,Ze (d3'),(d3').prop,Ze (d4),(d4).prop]
      · simp [-List.getD_eq_getElem?_getD,-List.length_eq_zero_iff,Zp,Zm,Zy,Zo,Xj,Xi,Yb,hl,hi,k,hx,hq,hw0,Ze (hex),(hex).prop,Ze (d2),(d2).prop,Ze (d3),(d3).prop,Ze (d3'),(d3').prop,Ze (d4),(d4).prop]
      · simp [-List.getD_eq_getElem?_getD,-List.length_eq_zero_iff,Zp,Zm,Zy,Zo,Xj,Xi,Yb,hl,hi,k,hx,hq,hw0,Ze (hex),(hex).prop,Ze (d2),(d2).prop,Ze (d3),(d3).prop,Ze (d3'),(d3').prop,Ze (d4),(d4).prop]
      · simp [-List.getD_eq_getElem?_getD,-List.length_eq_zero_iff,Zp,Zm,Zy,Zo,Xj,Xi,Yb,hl,hi,k1,k2,k3,k4,hx,hq,hw0,Ze (hex),(hex).prop,Ze (d2),(d2).prop,Ze (d3),(d3).prop,Ze (d3'),(d3').prop,Ze (d4),(d4).prop]
end Go.Proofs.YtmemggdjnfccfaaGreatDoor.Ghost
