/- What functions come to, and that the statements are answered with 'true'. Conditions: none. -/
import Derived.Test.YtkjcmjfdkmnikaaS
import Derived.Test.YtkjcmjfdkmnikaaGE
import Derived.Test.YtkjcmjfdkmnikaaP1
import Derived.Test.YtkjcmjfdkmnikaaP2
import Derived.Test.YtkjcmjfdkmnikaaP3
import Derived.Test.YtkjcmjfdkmnikaaP4
import Derived.Test.YtkjcmjfdkmnikaaP5
import Derived.Test.YtkjcmjfdkmnikaaP6
import Derived.Test.YtkjcmjfdkmnikaaP7
import Derived.Test.YtkjcmjfdkmnikaaP8
set_option linter.unusedVariables false
set_option linter.unusedSimpArgs false
set_option linter.unusedSectionVars false
set_option linter.unnecessarySimpa false
namespace Go.Proofs.Ytkjcmjfdkmnikaa.Ghost
open Go
/-- a world with other caps -/
abbrev capW (w : den tWorld) (a b c : Int) : den tWorld := (((w.1.1 : List (List Int)), (w.1.2.1 : List Int), (w.1.2.2.1 : List Int), (w.1.2.2.2.1 : List Int), (w.1.2.2.2.2.1 : List Bool), a, b, c, ()), (w.2.1 : List Int), (w.2.2.1 : List Int), (w.2.2.2.1 : List (den tPlace)), ())
theorem capW_sm {w : den tWorld} (h : Sm w) (a b c : Int) : Sm (capW w a b c) := ⟨h.e, h.b, h.p, h.c, h.i, h.a, h.wc, h.wh, h.rows⟩
theorem capW_right {w : den tWorld} (h : RightP w) {a b c : Int} (ha : (w.1.2.2.2.2.2.1 : Int) ≤ a ∧ a < 65) (hb : (w.1.2.2.2.2.2.2.1 : Int) ≤ b ∧ b < 65) (hc : (w.1.2.2.2.2.2.2.2.1 : Int) ≤ c ∧ c < 65) : RightP (capW w a b c) := by
  have m := h.may
  refine ⟨⟨m.r1, m.p1, m.c1, m.i1, m.b1, ⟨Int.le_trans m.room.1 ha.1, ha.2⟩, ⟨Int.le_trans m.player.1 hb.1, hb.2⟩, ⟨Int.le_trans m.box.1 hc.1, hc.2⟩, m.exits, fun i hi => Int.le_trans (m.many i hi) ha.1, m.players, m.items⟩, h.a1, h.c1, h.w1, h.at_, h.good, fun i hi => ⟨(h.deep i hi).1, Int.le_trans (h.deep i hi).2 ?_⟩⟩
  show capI w.1 (List.getD w.2.2.2.1 i (dft tPlace)) ≤ capI (capW w a b c).1 (List.getD w.2.2.2.1 i (dft tPlace))
  unfold capI
  split
  · exact ha.1
  · split
    · exact hb.1
    · exact hc.1
/-- a world without items -/
abbrev bareW (w : den tWorld) (a b c : Int) : den tWorld := (((w.1.1 : List (List Int)), (w.1.2.1 : List Int), (w.1.2.2.1 : List Int), ([] : List Int), ([] : List Bool), a, b, c, ()), (w.2.1 : List Int), (w.2.2.1 : List Int), ([] : List (den tPlace)), ())
theorem bareW_sm {w : den tWorld} (h : Sm w) (a b c : Int) : Sm (bareW w a b c) := ⟨h.e, by show 0 ≤ _; omega, h.p, h.c, by show 0 ≤ _; omega, h.a, h.wc, by show 0 ≤ _; omega, h.rows⟩
theorem bareW_right {w : den tWorld} (h : RightP w) {a b c : Int} (ha : 0 ≤ a ∧ a < 65) (hb : 0 ≤ b ∧ b < 65) (hc : 0 ≤ c ∧ c < 65) : RightP (bareW w a b c) := by
  have m := h.may
  exact ⟨⟨m.r1, m.p1, m.c1, by show 0 ≤ _; omega, rfl, ha, hb, hc, m.exits, fun i hi => ha.1, m.players, fun i hi => absurd hi (Nat.not_lt_zero i)⟩, h.a1, h.c1, rfl, h.at_, fun i hi => absurd hi (Nat.not_lt_zero i), fun i hi => absurd hi (Nat.not_lt_zero i)⟩
theorem mod_fit {x : Int} (h : wfD (.int .u8) x) {k : Int} (hk : 0 < k) (hk2 : k ≤ 65) : 0 ≤ Int.tmod x k ∧ Int.tmod x k < k := by
  have := u8_range h
  rw [Int.tmod_eq_emod_of_nonneg this.1]
  exact ⟨Int.emod_nonneg _ (by omega), Int.emod_lt_of_pos _ hk⟩
theorem raised {r x : Int} (hr : 0 ≤ r ∧ r < 65) (hx : wfD (.int .u8) x) : r ≤ (if (IntKind.wrap .i64 (r + (IntKind.wrap .i64 ((Int.tmod x 64))))) < 64 then (IntKind.wrap .i64 (r + (IntKind.wrap .i64 ((Int.tmod x 64))))) else 64) ∧ (if (IntKind.wrap .i64 (r + (IntKind.wrap .i64 ((Int.tmod x 64))))) < 64 then (IntKind.wrap .i64 (r + (IntKind.wrap .i64 ((Int.tmod x 64))))) else 64) < 65 := by
  have := mod_fit hx (k := 64) (by decide) (by decide)
  rw [wrap_id (n := Int.tmod x 64) (by omega) (by omega), wrap_id (by omega) (by omega)]
  split <;> omega
theorem lowered {x : Int} (hx : wfD (.int .u8) x) : 0 ≤ IntKind.wrap .i64 (Int.tmod x 65) ∧ IntKind.wrap .i64 (Int.tmod x 65) < 65 := by
  have := mod_fit hx (k := 65) (by decide) (by decide)
  rw [wrap_id (by omega) (by omega)]
  exact this
theorem descCaps_true (w : den tWorld) (a b c : Int) (hw : wfD tWorld w) (ha : wfD (.int .u8) a) (hb : wfD (.int .u8) b) (hc : wfD (.int .u8) c) : Comes (fun nf _ _ _ => innkeeplaw06_DescCaps nf (w) (a) (b) (c)) (fun r => r.1.1 = true) := by
  by_cases f : FewP w
  rotate_left
  · refine Comes.succ (fun nf _ _ _ => innkeeplaw06_DescCaps.eq nf _ _ _ _) ?_
    simp only [comes_call (awake06), (awake06).prop, comes_call (fewL w), (fewL w).bprop, dec_false.2 f, Bool.not_true, Bool.not_false, cond_true, cond_false, comes_ret]
  by_cases rt : RightP w
  rotate_left
  · refine Comes.succ (fun nf _ _ _ => innkeeplaw06_DescCaps.eq nf _ _ _ _) ?_
    simp only [comes_call (awake06), (awake06).prop, comes_call (fewL w), (fewL w).bprop, comes_call (right_spec w), (right_spec w).bprop, dec_true.2 f, dec_false.2 rt, Bool.not_true, Bool.not_false, cond_true, cond_false, comes_ret]
  have sw := sm_of hw f
  have m := rt.may
  refine Comes.succ (fun nf _ _ _ => innkeeplaw06_DescCaps.eq nf _ _ _ _) ?_
  simp only [comes_call (awake06), (awake06).prop, comes_call (fewL w), (fewL w).bprop, comes_call (right_spec w), (right_spec w).bprop, dec_true.2 f, dec_true.2 rt, Bool.not_true, Bool.not_false, cond_true, cond_false, comes_ret, comes_call (copy_spec w sw), (copy_spec w sw).prop]
  refine Comes.call (dright_spec (capW w _ _ _) (capW_sm sw _ _ _)) (fun v hv => ?_)
  rw [dec_true.2 (capW_right rt (raised m.room ha) (raised m.player hb) (raised m.box hc))] at hv
  rw [hv]
  refine Comes.call (dright_spec (bareW w _ _ _) (bareW_sm sw _ _ _)) (fun v hv => ?_)
  rw [dec_true.2 (bareW_right rt (lowered ha) (lowered hb) (lowered hc))] at hv
  rw [hv]
  exact Comes.ret rfl
end Go.Proofs.Ytkjcmjfdkmnikaa.Ghost
