/- What functions come to, and that the statements are answered with 'true'. Conditions: none. -/
import Derived.Test.YtlnnpcgfhcaafaaS
import Derived.Test.YtlnnpcgfhcaafaaGE
import Derived.Test.YtlnnpcgfhcaafaaP1
import Derived.Test.YtlnnpcgfhcaafaaP2
import Derived.Test.YtlnnpcgfhcaafaaP3
import Derived.Test.YtlnnpcgfhcaafaaP4
import Derived.Test.YtlnnpcgfhcaafaaP5
import Derived.Test.YtlnnpcgfhcaafaaP6
set_option linter.unusedVariables false
set_option linter.unusedSimpArgs false
set_option linter.unusedSectionVars false
set_option linter.unnecessarySimpa false
namespace Go.Proofs.Ytlnnpcgfhcaafaa.Ghost
open Go
theorem tmoved_l0 {w : den tWorld} (ok : Ok w) {k : Nat} (hk : k < List.length (w.2.2.2.1 : List (den tPlace))) {q : Pl} (hq : ¬ q.1 = (2 : Int)) (ok' : Ok (put w k q)) (t0 : den tWorld) (t1 t2 : Int) (t6 : Bool) :
    ∀ i, i ≤ List.length (w.2.2.2.1 : List (den tPlace)) → Comes (fun nf fm0 _ _ => innkeeplaw07_TreeMoved.l0 nf fm0 t0 t1 t2 t6 ((k : Int)) ((i : Int)) (w) ((w.1, w.2.1, w.2.2.1, ([] : List (den tPlace)), ())) (q) ((List.set (w.2.2.2.1 : List (den tPlace)) k q))) (fun r => r.1.1 = true) := by
  have hx : ((w.1, w.2.1, w.2.2.1, List.set (w.2.2.2.1 : List (den tPlace)) k q, ()) : den tWorld) = put w k q := rfl
  have m := moved_top ok.right hk hq
  have hl := put_len w k q
  refine upto ?_ (fun i hi next => ?_)
  · refine Comes.succ1 (fun nf fm0 _ _ => innkeeplaw07_TreeMoved.l0_eq nf fm0 _ _ _ _ _ _ _ _ _ _) ?_
    simp [hx, comes_call (treeHeight_spec w ok hk), (treeHeight_spec w ok hk).prop, comes_call (treeHeight_spec (put w k q) ok' (show k < _ by rw [hl]; exact hk)), (treeHeight_spec (put w k q) ok' (show k < _ by rw [hl]; exact hk)).prop]
    rw [m.hgt ok.right ok'.right hl hk]
  · refine Comes.succ1 (fun nf fm0 _ _ => innkeeplaw07_TreeMoved.l0_eq nf fm0 _ _ _ _ _ _ _ _ _ _) ?_
    have hi' : i < List.length ((put w k q).2.2.2.1 : List (den tPlace)) := by rw [hl]; exact hi
    have hlen := ok.sm.wh
    rw [← wrap_succ (by omega)] at next
    have hw := m.wi i
    obtain ⟨e1, e2⟩ := m.eqs ok'.right hl hi
    obtain ⟨_, _⟩ := m.eqs ok'.right hl hk
    have hd := (dep_le ok.right hi).2
    have hd2 := (dep_le ok.right hk).2
    simp [hx, hi, comes_call (treeWithin_iff w ok.right hi k), (treeWithin_iff w ok.right hi k).bprop, comes_call (treeWithin_iff (put w k q) ok'.right hi' k), (treeWithin_iff (put w k q) ok'.right hi' k).bprop, comes_call (treeRoot_spec w ok.right hi), (treeRoot_spec w ok.right hi).prop, comes_call (treeRoot_spec (put w k q) ok'.right hi'), (treeRoot_spec (put w k q) ok'.right hi').prop, comes_call (treeDepth_spec w ok.right hi), (treeDepth_spec w ok.right hi).prop, comes_call (treeDepth_spec w ok.right hk), (treeDepth_spec w ok.right hk).prop, comes_call (treeDepth_spec (put w k q) ok'.right hi'), (treeDepth_spec (put w k q) ok'.right hi').prop, next, hw, eqPl, eqPl_f]
    by_cases h : WiW w i k
    · obtain ⟨a, b, c, d⟩ := e1 h
      simp only [h, a, b, d, not_true_eq_false, false_implies, true_and, and_true, true_implies, implies_true]
      rw [wrap_sub c (by omega)]; simp
    · obtain ⟨a, b⟩ := e2 h
      simp [h, a, b]
theorem treeMoved_true (w : den tWorld) (item room : Int) (hw : wfD tWorld w) (hi : wfD (.int .u8) item) (hr : wfD (.int .u8) room) : Comes (fun nf _ _ _ => innkeeplaw07_TreeMoved nf (w) (item) (room)) (fun r => r.1.1 = true) := by
  refine Comes.succ (fun nf _ _ _ => innkeeplaw07_TreeMoved.eq nf _ _ _) ?_
  simp [comes_call (awake7), (awake7).prop, comes_call ((fits7 w).fit), ((fits7 w).fit).bprop]
  intro fit hl
  have ok := ok_of hw fit.few fit.right
  have hn := List.length_pos_iff.2 hl
  obtain ⟨k, hk, ek⟩ := index_of hi hn
  obtain ⟨r, hr, er⟩ := index_of hr fit.right.exits_pos
  have hp := fit.right.exits_pos
  rw [ek, er]
  simp [comes_call (copied_spec w ok.sm), (copied_spec w ok.sm).prop, keepAll, freshHas, pathEq]
  refine ⟨hl, List.length_pos_iff.1 hp, hk, ?_⟩
  have hx : ((w.1, w.2.1, w.2.2.1, List.set (w.2.2.2.1 : List (den tPlace)) k (0, (r : Int), ()), ()) : den tWorld) = put w k (0, (r : Int), ()) := rfl
  rw [hx]
  simp [comes_call (right_spec (put w k (0, (r : Int), ()))), (right_spec (put w k (0, (r : Int), ()))).bprop]
  exact fun hright' => (tmoved_l0 ok hk (show ¬ (0 : Int) = 2 by decide) ⟨sm_put ok.sm _ _, hright'⟩ w item room false 0 (Nat.zero_le _)).enter
end Go.Proofs.Ytlnnpcgfhcaafaa.Ghost
