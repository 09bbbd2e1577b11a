/- What functions come to, and that the statements are answered with 'true'. Conditions: none. -/
import Derived.Test.YtkjcmjfdkmnikaaS
import Derived.Test.YtkjcmjfdkmnikaaGE
import Derived.Test.YtkjcmjfdkmnikaaP1
import Derived.Test.YtkjcmjfdkmnikaaP2
import Derived.Test.YtkjcmjfdkmnikaaP3
import Derived.Test.YtkjcmjfdkmnikaaP4
import Derived.Test.YtkjcmjfdkmnikaaP5
import Derived.Test.YtkjcmjfdkmnikaaP6
import Derived.Test.YtkjcmjfdkmnikaaP7
set_option linter.unusedVariables false
set_option linter.unusedSimpArgs false
set_option linter.unusedSectionVars false
set_option linter.unnecessarySimpa false
namespace Go.Proofs.Ytkjcmjfdkmnikaa.Ghost
open Go
theorem wrap_small {x : Int} (h0 : 0 ≤ x) (h1 : x ≤ 1073741824) : IntKind.wrap .i64 (x + 1) = x + 1 := wrap_id (by omega) (by omega)
theorem sm_at {w : den tWorld} (h : Sm w) (i : Nat) (x : Int) : Sm (w.1, (List.set (w.2.1 : List Int) i x : List Int), w.2.2.1, w.2.2.2.1, ()) := ⟨h.e, h.b, h.p, h.c, h.i, by show List.length (List.set (w.2.1 : List Int) i x) ≤ _; rw [List.length_set]; exact h.a, h.wc, h.wh, h.rows⟩
theorem sm_coin {w : den tWorld} (h : Sm w) (i : Nat) (x : Int) : Sm (w.1, w.2.1, (List.set (w.2.2.1 : List Int) i x : List Int), w.2.2.2.1, ()) := ⟨h.e, h.b, h.p, h.c, h.i, h.a, by show List.length (List.set (w.2.2.1 : List Int) i x) ≤ _; rw [List.length_set]; exact h.wc, h.wh, h.rows⟩
theorem sm_pl {w : den tWorld} (h : Sm w) (i : Nat) (x : Pl) : Sm (w.1, w.2.1, w.2.2.1, (List.set (w.2.2.2.1 : List Pl) i x : List Pl), ()) := ⟨h.e, h.b, h.p, h.c, h.i, h.a, h.wc, by show List.length (List.set (w.2.2.2.1 : List Pl) i x) ≤ _; rw [List.length_set]; exact h.wh, h.rows⟩
theorem set_ne {l : List Int} {i : Nat} (hi : i < l.length) : ¬ List.set l i (List.getD l i 0 + 1) = l := fun e => by
  have : List.getD (List.set l i (List.getD l i 0 + 1)) i 0 = List.getD l i 0 := by rw [e]
  rw [getD_set _ _ _ _ _ hi, if_pos rfl] at this
  omega
theorem descSame_true (w : den tWorld) (p : Int) (hw : wfD tWorld w) (hp : wfD (.int .u8) p) : Comes (fun nf _ _ _ => innkeeplaw06_DescSame nf (w) (p)) (fun r => r.1.1 = true) := by
  by_cases f : FewP w
  rotate_left
  · refine Comes.succ (fun nf _ _ _ => innkeeplaw06_DescSame.eq nf _ _) ?_
    simp only [comes_call (awake06), (awake06).prop, comes_call (fewL w), (fewL w).bprop, dec_false.2 f, Bool.not_true, Bool.not_false, cond_true, cond_false, comes_ret]
  by_cases rt : RightP w
  rotate_left
  · refine Comes.succ (fun nf _ _ _ => innkeeplaw06_DescSame.eq nf _ _) ?_
    simp only [comes_call (awake06), (awake06).prop, comes_call (fewL w), (fewL w).bprop, comes_call (right_spec w), (right_spec w).bprop, dec_true.2 f, dec_false.2 rt, Bool.not_true, Bool.not_false, cond_true, cond_false, comes_ret]
  have sw := sm_of hw f
  have hpos := rt.pos
  have ha1 := rt.a1
  have hc1 := rt.c1
  obtain ⟨i, hi, ei⟩ := index_of hp hpos
  have hic : i < List.length (w.2.2.1 : List Int) := by omega
  have b1 := (rt.at_ i hi).1
  have b2 := (rt.at_ i hi).2
  have he := sw.e
  have ew1 : IntKind.wrap .i64 (List.getD (w.2.1 : List Int) i 0 + 1) = List.getD (w.2.1 : List Int) i 0 + 1 := wrap_small b1.1 (Int.le_of_lt (Int.lt_of_lt_of_le b1.2 (by omega)))
  have ew2 : IntKind.wrap .i64 (List.getD (w.2.2.1 : List Int) i 0 + 1) = List.getD (w.2.2.1 : List Int) i 0 + 1 := wrap_small b2.1 b2.2
  have s0 := dsame_spec w w sw sw
  rw [dec_true.2 rfl] at s0
  have sx := sm_at sw i (List.getD (w.2.1 : List Int) i 0 + 1)
  have sy := sm_coin sw i (List.getD (w.2.2.1 : List Int) i 0 + 1)
  have n1 : ¬ w = (w.1, (List.set (w.2.1 : List Int) i (List.getD (w.2.1 : List Int) i 0 + 1) : List Int), w.2.2.1, w.2.2.2.1, ()) := fun e => set_ne hi (congrArg (fun z : den tWorld => (z.2.1 : List Int)) e).symm
  have n2 : ¬ w = (w.1, w.2.1, (List.set (w.2.2.1 : List Int) i (List.getD (w.2.2.1 : List Int) i 0 + 1) : List Int), w.2.2.2.1, ()) := fun e => set_ne hic (congrArg (fun z : den tWorld => (z.2.2.1 : List Int)) e).symm
  have n3 : ¬ ((w.1, (List.set (w.2.1 : List Int) i (List.getD (w.2.1 : List Int) i 0 + 1) : List Int), w.2.2.1, w.2.2.2.1, ()) : den tWorld) = (w.1, w.2.1, (List.set (w.2.2.1 : List Int) i (List.getD (w.2.2.1 : List Int) i 0 + 1) : List Int), w.2.2.2.1, ()) := fun e => set_ne hi (congrArg (fun z : den tWorld => (z.2.1 : List Int)) e)
  have s1 := dsame_spec w _ sw sx
  rw [dec_false.2 n1] at s1
  have s2 := dsame_spec _ w sx sw
  rw [dec_false.2 (fun e => n1 e.symm)] at s2
  have s3 := dsame_spec w _ sw sy
  rw [dec_false.2 n2] at s3
  have s4 := dsame_spec _ _ sx sy
  rw [dec_false.2 n3] at s4
  have awk := awake06.prop
  refine Comes.succ (fun nf _ _ _ => innkeeplaw06_DescSame.eq nf _ _) ?_
  simp only [comes_call (awake06), (awake06).prop, comes_call (fewL w), (fewL w).bprop, comes_call (right_spec w), (right_spec w).bprop, dec_true.2 f, dec_true.2 rt, Bool.not_true, Bool.not_false, cond_true, cond_false, comes_ret, comes_call (copy_spec w sw), (copy_spec w sw).prop, ei, Int.toNat_natCast, ew1, ew2]
  by_cases hk : 0 < List.length (w.2.2.2.1 : List Pl)
  · obtain ⟨k, hk', ek⟩ := index_of hp hk
    have g := rt.good k hk'
    have sz := sm_pl sw k ((List.getD w.2.2.2.1 k (dft tPlace)).1, (List.getD w.2.2.2.1 k (dft tPlace)).2.1 + 1, ())
    have hb : (List.getD w.2.2.2.1 k (dft tPlace)).2.1 < (1048576 : Int) ∧ (0 : Int) ≤ (List.getD w.2.2.2.1 k (dft tPlace)).2.1 := by
      have q1 := rt.may.r1; have q2 := rt.may.p1; have q3 := rt.may.i1
      rcases g with ⟨_, g1, g2⟩ | ⟨_, g1, g2⟩ | ⟨_, ⟨g1, g2⟩, _⟩
      · exact ⟨Int.lt_of_lt_of_le g2 (by omega), g1⟩
      · exact ⟨Int.lt_of_lt_of_le g2 (by omega), g1⟩
      · exact ⟨Int.lt_of_lt_of_le g2 (by omega), g1⟩
    have ew3 : IntKind.wrap .i64 ((List.getD w.2.2.2.1 k (dft tPlace)).2.1 + 1) = (List.getD w.2.2.2.1 k (dft tPlace)).2.1 + 1 := wrap_id (Int.le_trans (by decide) (Int.le_trans hb.2 (Int.le_add_one (Int.le_refl _)))) (Int.lt_of_lt_of_le (Int.add_lt_add_right hb.1 1) (by decide))
    have n5 : ¬ w = (w.1, w.2.1, w.2.2.1, (List.set (w.2.2.2.1 : List Pl) k ((List.getD w.2.2.2.1 k (dft tPlace)).1, (List.getD w.2.2.2.1 k (dft tPlace)).2.1 + 1, ()) : List Pl), ()) := fun e => by
      have e1 : (w.2.2.2.1 : List Pl) = List.set (w.2.2.2.1 : List Pl) k ((List.getD w.2.2.2.1 k (dft tPlace)).1, (List.getD w.2.2.2.1 k (dft tPlace)).2.1 + 1, ()) := congrArg (fun z : den tWorld => (z.2.2.2.1 : List Pl)) e
      have e2 : List.getD (w.2.2.2.1 : List Pl) k (dft tPlace) = List.getD (List.set (w.2.2.2.1 : List Pl) k ((List.getD w.2.2.2.1 k (dft tPlace)).1, (List.getD w.2.2.2.1 k (dft tPlace)).2.1 + 1, ())) k (dft tPlace) := by rw [← e1]
      rw [getD_set _ _ _ _ _ hk', if_pos rfl] at e2
      have e3 : ((List.getD w.2.2.2.1 k (dft tPlace)).2.1 : Int) = (List.getD w.2.2.2.1 k (dft tPlace)).2.1 + 1 := congrArg (fun z : Pl => (z.2.1 : Int)) e2
      exact absurd e3 (Int.ne_of_lt (Int.lt_succ _))
    have s5 := dsame_spec w _ sw sz
    rw [dec_false.2 n5] at s5
    have hne : ¬ List.length (w.2.2.2.1 : List Pl) = 0 := by omega
    simp [-List.getD_eq_getElem?_getD, -List.length_eq_zero_iff, keepAll, freshHas, pathEq, eqPl_dec, wrap1, wrap0, nbeq, comes_call (copy_spec w sw), (copy_spec w sw).prop, ei, ew1, ew2, hk, ek, ew3, hi, hic, hk', comes_call (s0), (s0).prop, comes_call (s1), (s1).prop, comes_call (s2), (s2).prop, comes_call (s3), (s3).prop, comes_call (s4), (s4).prop, comes_call (s5), (s5).prop, hne]
    exact Nat.ne_of_gt hpos
  · have hne : List.length (w.2.2.2.1 : List Pl) = 0 := by omega
    simp [-List.getD_eq_getElem?_getD, -List.length_eq_zero_iff, keepAll, freshHas, pathEq, eqPl_dec, wrap1, wrap0, nbeq, comes_call (copy_spec w sw), (copy_spec w sw).prop, ei, ew1, ew2, hk, hi, hic, comes_call (s0), (s0).prop, comes_call (s1), (s1).prop, comes_call (s2), (s2).prop, comes_call (s3), (s3).prop, comes_call (s4), (s4).prop, hne]
    exact Nat.ne_of_gt hpos
end Go.Proofs.Ytkjcmjfdkmnikaa.Ghost
