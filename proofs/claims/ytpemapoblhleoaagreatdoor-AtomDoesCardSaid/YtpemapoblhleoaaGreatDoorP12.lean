/- What functions come to, and that the statements are answered with 'true'. Conditions: none. -/
import Derived.Test.YtpemapoblhleoaaGreatDoorS
import Derived.Test.YtpemapoblhleoaaGreatDoorGE
import Derived.Test.YtpemapoblhleoaaGreatDoorP1
import Derived.Test.YtpemapoblhleoaaGreatDoorP2
import Derived.Test.YtpemapoblhleoaaGreatDoorP3
import Derived.Test.YtpemapoblhleoaaGreatDoorP4
import Derived.Test.YtpemapoblhleoaaGreatDoorP5
import Derived.Test.YtpemapoblhleoaaGreatDoorP6
import Derived.Test.YtpemapoblhleoaaGreatDoorP7
import Derived.Test.YtpemapoblhleoaaGreatDoorP8
import Derived.Test.YtpemapoblhleoaaGreatDoorP9
import Derived.Test.YtpemapoblhleoaaGreatDoorP10
import Derived.Test.YtpemapoblhleoaaGreatDoorP11
set_option linter.unusedVariables false
set_option linter.unusedSimpArgs false
set_option linter.unusedSectionVars false
set_option linter.unnecessarySimpa false
namespace Go.Proofs.YtpemapoblhleoaaGreatDoor.Ghost
open Go
theorem AIx:Zd (fun nf _ _ _=>Yi nf) (fun r=>r.1.1=true):=Zd.one 60 (r:=((true,()),[])) (by kernel_rfl) rfl
theorem ALe (w:den Za):Zd (fun nf _ _ _=>Yu nf (w)) (fun r=>r.1.1=true↔ASd w∧Ym w):=by
  refine Zd.succ (fun n _ _ _=>Yu.eq n w) (Zd.call (AL6 w) (fun v hv=>Zd.bif (fun hb=>Zd.call (AG4 w) (fun u hu=>Zd.ret ?_)) (fun hb=>Zd.ret ?_)))
  · exact ⟨fun e=>⟨hv.1 hb,hu.1 e⟩,fun e=>hu.2 e.2⟩
  · exact ⟨(fun e=>by cases e),fun e=>by rw [hv.2 e.1] at hb; cases hb⟩
theorem BRu {w:den Za} (hs:Sm w) (i:Nat) (c:Cm):List.length ((doR w i c).2.1.2.2.2.1:List Int)≤1048576∧List.length ((doR w i c).2.1.2.2.2.2.1:List Sn)≤1048576:=by
  have h1:=ALu hs i
  have h2:=AOr hs i
  unfold doR
  by_cases hm:Me c
  · rw [if_pos hm]
    split
    · exact h1
    · split
      · exact h2
      · split <;> exact ⟨Nat.zero_le _,Nat.zero_le _⟩
  · rw [if_neg hm]; exact ⟨Nat.zero_le _,Nat.zero_le _⟩
theorem AAy (w:den Za) (p:Int) (c:Cm) (hw:wfD Za w) (hp:wfD (.int .u8) p) (_:wfD Zx c):Zd (fun nf _ _ _=>X8 nf (w) (p) (c)) (fun r=>r.1.1=true):=by
  refine Zd.succ (fun nf _ _ _=>X8.eq nf _ _ _) ?_
  simp [-List.getD_eq_getElem?_getD,-List.length_eq_zero_iff,Zn,Zj,Zv,Zk,Xb,Xc,Xr,Zf (AIx),(AIx).prop,Zf ((ALe w).fit),((ALe w).fit).bprop,Zf (ABx c),(ABx c).bprop]
  intro fit few
  have ok:=BXs hw fit.few fit.right
  have hpos:=ok.right.pos
  obtain ⟨i,hi,ei⟩:=ANz hp hpos
  rw [ei]
  have dk:=(AUa ok hi c).1
  have ds:=BRu ok.sm i c
  simp [-List.getD_eq_getElem?_getD,-List.length_eq_zero_iff,Zn,Zj,Zv,Zk,Xb,Xc,Xr,Zf (D7 ok hi few),(D7 ok hi few).prop,Zf (Br ok hi few),(Br ok hi few).prop,Zf (Bc (doR w i c).2.1 (doR w i c).2.1 ds.1 ds.2),(Bc (doR w i c).2.1 (doR w i c).2.1 ds.1 ds.2).bprop,Zf (ABy (doR w i c).1 (doR w i c).1 dk.sm dk.sm),(ABy (doR w i c).1 (doR w i c).1 dk.sm dk.sm).bprop]
  omega
end Go.Proofs.YtpemapoblhleoaaGreatDoor.Ghost
