/- What functions come to, and that the statements are answered with 'true'. Conditions: none. -/
import Derived.Test.YtkoefhpkdghpnaaS
import Derived.Test.YtkoefhpkdghpnaaGE
import Derived.Test.YtkoefhpkdghpnaaP1
import Derived.Test.YtkoefhpkdghpnaaP2
import Derived.Test.YtkoefhpkdghpnaaP3
import Derived.Test.YtkoefhpkdghpnaaP4
import Derived.Test.YtkoefhpkdghpnaaP5
import Derived.Test.YtkoefhpkdghpnaaP6
import Derived.Test.YtkoefhpkdghpnaaP7
set_option linter.unusedVariables false
set_option linter.unusedSimpArgs false
set_option linter.unusedSectionVars false
set_option linter.unnecessarySimpa false
namespace Go.Proofs.Ytkoefhpkdghpnaa.Ghost
open Go
theorem smoves_l1 {w : den tWorld} {i : Nat} (hi : i < List.length (w.2.1 : List Int)) {to : Int} (ok' : Ok (moved w i to)) {l : List Int} (hl : l.length ≤ 1048576) (t0 : (den tWorld)) (t1 : Int) (t2 : Int) (t3 : Int) (t8 : Bool) (t10 : Int) (t12 : (List (den tSeen))) (t13 : (List (den tSeen))) (t14 : (List (den tSeen))) (t15 : (List (den tSeen))) (t18 : (List Int)) (t22 : Int) (o0 : (den tWorld)) (o1 : (den tWorld)) (o3 : (List (den tPlace))) :
    ∀ j, j ≤ l.length → ∀ b : Bool, (b = true ∨ ∃ j', j ≤ j' ∧ j' < l.length ∧ List.getD l j' 0 = (i : Int)) → Comes (fun nf fm0 _ _ => innkeeplaw12_SightMoves.l1 nf fm0 t0 t1 t2 t3 t8 ((i : Int)) t10 t12 t13 t14 t15 (to) t18 (l) (true) (b) t22 ((j : Int)) o0 o1 ((w.1, ([] : List Int), w.2.2.1, w.2.2.2.1, ())) o3 (List.set (w.2.1 : List Int) i to)) (fun r => r.1.1 = true) := by
  have hy : ((w.1, List.set (w.2.1 : List Int) i to, w.2.2.1, w.2.2.2.1, ()) : den tWorld) = moved w i to := rfl
  have hml := moved_len w i to
  have hat := moved_at w i i to hi
  refine upto (fun b hb => ?_) (fun j hj next b hb => ?_)
  · have hb : b = true := by
      rcases hb with h | ⟨j', h1, h2, _⟩
      · exact h
      · omega
    refine Comes.succ1 (fun nf fm0 _ _ => innkeeplaw12_SightMoves.l1_eq nf fm0 _ _ _ _ _ _ _ _ _ _ _ _ _ _ _ _ _ _ _ _ _ _ _) ?_
    simp [-List.getD_eq_getElem?_getD, -List.length_eq_zero_iff, keepAll, freshHas, pathEq, eqPl, eqPl_f, wrap1, wrap0, hb, hy, comes_call (look_spec (moved w i to) ok' (show i < _ by rw [hml]; exact hi)), (look_spec (moved w i to) ok' (show i < _ by rw [hml]; exact hi)).prop, lookR, hat]
  · refine Comes.succ1 (fun nf fm0 _ _ => innkeeplaw12_SightMoves.l1_eq nf fm0 _ _ _ _ _ _ _ _ _ _ _ _ _ _ _ _ _ _ _ _ _ _ _) ?_
    rw [← wrap_succ (by omega)] at next
    have n1 := next true (.inl rfl)
    cases b with
    | true => simp [-List.getD_eq_getElem?_getD, -List.length_eq_zero_iff, keepAll, freshHas, pathEq, eqPl, eqPl_f, wrap1, wrap0, hj, n1]
    | false =>
      have hb := hb.resolve_left (by decide)
      simp [-List.getD_eq_getElem?_getD, -List.length_eq_zero_iff, keepAll, freshHas, pathEq, eqPl, eqPl_f, wrap1, wrap0, hj]
      apply next
      by_cases h : List.getD l j 0 = (i : Int)
      · exact .inl (decide_eq_true h)
      · refine .inr ?_
        obtain ⟨j', h1, h2, h3⟩ := hb
        by_cases e : j' = j
        · subst e; exact absurd h3 h
        · exact ⟨j', by omega, h2, h3⟩
theorem smoves_l3 {w : den tWorld} {i : Nat} (hi : i < List.length (w.2.1 : List Int)) {to : Int} (ok' : Ok (moved w i to)) {l : List Int} (hl : l.length ≤ 1048576) (t0 : (den tWorld)) (t1 : Int) (t2 : Int) (t3 : Int) (t8 : Bool) (t10 : Int) (t18 : (List Int)) (t22 : Int) (o0 : (den tWorld)) :
    ∀ j, j ≤ l.length → ∀ b : Bool, (b = true ∨ ∃ j', j ≤ j' ∧ j' < l.length ∧ List.getD l j' 0 = (i : Int)) → Comes (fun nf fm0 _ _ => innkeeplaw12_SightMoves.l3 nf fm0 t0 t1 t2 t3 t8 ((i : Int)) t10 (to) t18 (l) (true) (b) t22 ((j : Int)) o0 ((w.1, ([] : List Int), w.2.2.1, w.2.2.2.1, ())) (List.set (w.2.1 : List Int) i to)) (fun r => r.1.1 = true) := by
  have hy : ((w.1, List.set (w.2.1 : List Int) i to, w.2.2.1, w.2.2.2.1, ()) : den tWorld) = moved w i to := rfl
  have hml := moved_len w i to
  have hat := moved_at w i i to hi
  refine upto (fun b hb => ?_) (fun j hj next b hb => ?_)
  · have hb : b = true := by
      rcases hb with h | ⟨j', h1, h2, _⟩
      · exact h
      · omega
    refine Comes.succ1 (fun nf fm0 _ _ => innkeeplaw12_SightMoves.l3_eq nf fm0 _ _ _ _ _ _ _ _ _ _ _ _ _ _ _ _ _) ?_
    simp [-List.getD_eq_getElem?_getD, -List.length_eq_zero_iff, keepAll, freshHas, pathEq, eqPl, eqPl_f, wrap1, wrap0, hb, hy, comes_call (look_spec (moved w i to) ok' (show i < _ by rw [hml]; exact hi)), (look_spec (moved w i to) ok' (show i < _ by rw [hml]; exact hi)).prop, lookR, hat]
  · refine Comes.succ1 (fun nf fm0 _ _ => innkeeplaw12_SightMoves.l3_eq nf fm0 _ _ _ _ _ _ _ _ _ _ _ _ _ _ _ _ _) ?_
    rw [← wrap_succ (by omega)] at next
    have n1 := next true (.inl rfl)
    cases b with
    | true => simp [-List.getD_eq_getElem?_getD, -List.length_eq_zero_iff, keepAll, freshHas, pathEq, eqPl, eqPl_f, wrap1, wrap0, hj, n1]
    | false =>
      have hb := hb.resolve_left (by decide)
      simp [-List.getD_eq_getElem?_getD, -List.length_eq_zero_iff, keepAll, freshHas, pathEq, eqPl, eqPl_f, wrap1, wrap0, hj]
      apply next
      by_cases h : List.getD l j 0 = (i : Int)
      · exact .inl (decide_eq_true h)
      · refine .inr ?_
        obtain ⟨j', h1, h2, h3⟩ := hb
        by_cases e : j' = j
        · subst e; exact absurd h3 h
        · exact ⟨j', by omega, h2, h3⟩
theorem smoves_l0 {w : den tWorld} {i : Nat} (hi : i < List.length (w.2.1 : List Int)) {to : Int} (ok' : Ok (moved w i to)) {l l' : List Int} (hl : l.length ≤ 1048576) (hl' : l'.length ≤ 1048576) (hto : ∀ j, j < l.length → List.getD l j 0 = (i : Int) → to = List.getD (w.2.1 : List Int) i (0 : Int)) (hin : ∃ j', j' < l'.length ∧ List.getD l' j' 0 = (i : Int)) (t0 : (den tWorld)) (t1 : Int) (t2 : Int) (t3 : Int) (t8 : Bool) (t10 : Int) (t12 : (List (den tSeen))) (t13 : (List (den tSeen))) (t14 : (List (den tSeen))) (t15 : (List (den tSeen))) (o1 : (den tWorld)) (o3 : (List (den tPlace))) :
    ∀ j, j ≤ l.length → Comes (fun nf fm0 _ _ => innkeeplaw12_SightMoves.l0 nf fm0 t0 t1 t2 t3 t8 ((i : Int)) t10 t12 t13 t14 t15 (to) (l) (l') (true) (false) ((j : Int)) (w) o1 ((w.1, ([] : List Int), w.2.2.1, w.2.2.2.1, ())) o3 (List.set (w.2.1 : List Int) i to)) (fun r => r.1.1 = true) := by
  refine upto ?_ (fun j hj next => ?_)
  · obtain ⟨j', h1, h2⟩ := hin
    have h := fun t22 => (smoves_l1 hi ok' hl' (t0) (t1) (t2) (t3) (t8) (t10) (t12) (t13) (t14) (t15) (l) (t22) (w) (o1) (o3) 0 (Nat.zero_le _) false (.inr ⟨j', Nat.zero_le _, h1, h2⟩)).enter
    refine Comes.succ1 (fun nf fm0 _ _ => innkeeplaw12_SightMoves.l0_eq nf fm0 _ _ _ _ _ _ _ _ _ _ _ _ _ _ _ _ _ _ _ _ _ _) ?_
    simp [-List.getD_eq_getElem?_getD, -List.length_eq_zero_iff, keepAll, freshHas, pathEq, eqPl, eqPl_f, wrap1, wrap0]
    exact h _
  · refine Comes.succ1 (fun nf fm0 _ _ => innkeeplaw12_SightMoves.l0_eq nf fm0 _ _ _ _ _ _ _ _ _ _ _ _ _ _ _ _ _ _ _ _ _ _) ?_
    rw [← wrap_succ (by omega)] at next
    have h := hto j hj
    by_cases e : List.getD l j 0 = (i : Int)
    · have h := h e
      simp [-List.getD_eq_getElem?_getD, -List.length_eq_zero_iff, keepAll, freshHas, pathEq, eqPl, eqPl_f, wrap1, wrap0, hj, next, e, hi, ← h]
    · simp [-List.getD_eq_getElem?_getD, -List.length_eq_zero_iff, keepAll, freshHas, pathEq, eqPl, eqPl_f, wrap1, wrap0, hj, next, e, hi]
theorem smoves_l2 {w : den tWorld} {i : Nat} (hi : i < List.length (w.2.1 : List Int)) {to : Int} (ok' : Ok (moved w i to)) {l l' : List Int} (hl : l.length ≤ 1048576) (hl' : l'.length ≤ 1048576) (hto : ∀ j, j < l.length → List.getD l j 0 = (i : Int) → to = List.getD (w.2.1 : List Int) i (0 : Int)) (hin : ∃ j', j' < l'.length ∧ List.getD l' j' 0 = (i : Int)) (t0 : (den tWorld)) (t1 : Int) (t2 : Int) (t3 : Int) (t8 : Bool) (t10 : Int) :
    ∀ j, j ≤ l.length → Comes (fun nf fm0 _ _ => innkeeplaw12_SightMoves.l2 nf fm0 t0 t1 t2 t3 t8 ((i : Int)) t10 (to) (l) (l') (true) (false) ((j : Int)) (w) ((w.1, ([] : List Int), w.2.2.1, w.2.2.2.1, ())) (List.set (w.2.1 : List Int) i to)) (fun r => r.1.1 = true) := by
  refine upto ?_ (fun j hj next => ?_)
  · obtain ⟨j', h1, h2⟩ := hin
    have h := fun t22 => (smoves_l3 hi ok' hl' (t0) (t1) (t2) (t3) (t8) (t10) (l) (t22) (w) 0 (Nat.zero_le _) false (.inr ⟨j', Nat.zero_le _, h1, h2⟩)).enter
    refine Comes.succ1 (fun nf fm0 _ _ => innkeeplaw12_SightMoves.l2_eq nf fm0 _ _ _ _ _ _ _ _ _ _ _ _ _ _ _ _) ?_
    simp [-List.getD_eq_getElem?_getD, -List.length_eq_zero_iff, keepAll, freshHas, pathEq, eqPl, eqPl_f, wrap1, wrap0]
    exact h _
  · refine Comes.succ1 (fun nf fm0 _ _ => innkeeplaw12_SightMoves.l2_eq nf fm0 _ _ _ _ _ _ _ _ _ _ _ _ _ _ _ _) ?_
    rw [← wrap_succ (by omega)] at next
    have h := hto j hj
    by_cases e : List.getD l j 0 = (i : Int)
    · have h := h e
      simp [-List.getD_eq_getElem?_getD, -List.length_eq_zero_iff, keepAll, freshHas, pathEq, eqPl, eqPl_f, wrap1, wrap0, hj, next, e, hi, ← h]
    · simp [-List.getD_eq_getElem?_getD, -List.length_eq_zero_iff, keepAll, freshHas, pathEq, eqPl, eqPl_f, wrap1, wrap0, hj, next, e, hi]
theorem pre_moved {w : den tWorld} {i : Nat} (hi : i < List.length (w.2.1 : List Int)) {to r : Int} {j : Nat} (hj : j < (preOf (moved w i to) r).length) (h : List.getD (preOf (moved w i to) r) j 0 = (i : Int)) : to = r := by
  obtain ⟨m, _, h1, h2⟩ := pre_get hj
  rw [h1] at h
  obtain rfl := Int.ofNat.inj h
  rw [moved_at w m m to hi, if_pos rfl] at h2
  exact h2
theorem pre_in {w : den tWorld} {i : Nat} (hi : i < List.length (w.2.1 : List Int)) (to : Int) : ∃ j, j < (preOf (moved w i to) to).length ∧ List.getD (preOf (moved w i to) to) j 0 = (i : Int) := by
  have hm : (i : Int) ∈ preOf (moved w i to) to := mem_pre.2 ⟨i, by rw [moved_len]; exact hi, rfl, by rw [moved_at w i i to hi, if_pos rfl]⟩
  obtain ⟨j, hj, he⟩ := List.mem_iff_getElem.1 hm
  exact ⟨j, hj, by rw [List.getD_eq_getElem?_getD, List.getElem?_eq_getElem hj, he]; rfl⟩
theorem pre_sm {w : den tWorld} (h : Sm w) (r : Int) : (preOf w r).length ≤ 1048576 := Nat.le_trans (preL_len w r _) h.a
theorem dir4_of {a : Int} (h : wfD (.int .u8) a) : ∃ d : Nat, d < 4 ∧ Int.tmod a 4 = (d : Int) := by
  obtain ⟨h0, h1⟩ := u8_range h
  rw [Int.tmod_eq_emod_of_nonneg h0]
  exact ⟨(a % 4).toNat, by omega, by omega⟩
theorem sightMoves_true (w : den tWorld) (p item dir : Int) (hw : wfD tWorld w) (hp : wfD (.int .u8) p) (hk : wfD (.int .u8) item) (hd : wfD (.int .u8) dir) : Comes (fun nf _ _ _ => innkeeplaw12_SightMoves nf (w) (p) (item) (dir)) (fun r => r.1.1 = true) := by
  refine Comes.succ (fun nf _ _ _ => innkeeplaw12_SightMoves.eq nf _ _ _ _) ?_
  simp [-List.getD_eq_getElem?_getD, -List.length_eq_zero_iff, keepAll, freshHas, pathEq, eqPl, eqPl_f, wrap1, wrap0, comes_call (awake12), (awake12).prop, comes_call ((fits12 w).fit), ((fits12 w).fit).bprop]
  intro fit hl
  have ok := ok_of hw fit.few fit.right
  have hn := hl
  have hn := Nat.pos_of_ne_zero hn
  obtain ⟨i, hi, ei⟩ := index_of hp ok.right.pos
  obtain ⟨k, hk, ek⟩ := index_of hk hn
  obtain ⟨d, hd, ed⟩ := dir4_of hd
  have hat := (ok.right.at_ i hi).1
  have hpos := ok.right.pos
  rw [ei, ek, ed]
  have hexit : List.getD (List.getD (w.1.1 : List (List Int)) (Int.toNat (List.getD (w.2.1 : List Int) i (0 : Int))) (dft (.arr 4 (.int .i64)))) d (0 : Int) = wExit w i d := rfl
  simp [-List.getD_eq_getElem?_getD, -List.length_eq_zero_iff, keepAll, freshHas, pathEq, eqPl, eqPl_f, wrap1, wrap0, hi, hk, hat, hd, hexit, comes_call (copied_spec w ok.sm), (copied_spec w ok.sm).prop, hl, hn, hpos]
  have tail : ¬ wExit w i d < 0 → Ok (moved w i (wExit w i d)) := fun h => ok.moved hi hd (by omega)
  have hy : ((w.1, List.set (w.2.1 : List Int) i (wExit w i d), w.2.2.1, w.2.2.2.1, ()) : den tWorld) = moved w i (wExit w i d) := rfl
  refine ⟨by omega, fun hfl => ?_, fun _ => ⟨by omega, ?_⟩⟩
  · have hx : ((w.1, w.2.1, w.2.2.1, List.set (w.2.2.2.1 : List (den tPlace)) k (1, (i : Int), ()), ()) : den tWorld) = put w k (mePl i) := rfl
    rw [hx]
    by_cases hright' : RightP (put w k (mePl i))
    · have ok' : Ok (put w k (mePl i)) := ⟨sm_put ok.sm _ _, hright'⟩
      have m := moved_top ok.right hk (show ¬ (mePl i).1 = (2 : Int) from show ¬ (1 : Int) = 2 by decide)
      have hroot : rootOf w k = flPl (atOf w i) := by
        have : plOf w k = flPl (atOf w i) := hfl
        show rootP w.2.2.2.1 51 (plOf w k) = _
        rw [this]
        exact rootP_top (show ¬ (0 : Int) = 2 by decide) 51
      have hum := und_moved m hright' (put_len w k _) hroot (fun e => by
        have : (1 : Int) = 0 := congrArg (fun q : Pl => (q.1 : Int)) e
        cases this) _ (Nat.le_refl _)
      rw [if_pos hk] at hum
      have hsum : (undOf w (flPl (atOf w i))).length + (undOf w (mePl i)).length = (undOf (put w k (mePl i)) (flPl (atOf w i))).length + (undOf (put w k (mePl i)) (mePl i)).length := by
        unfold undOf; rw [put_len]; exact hum.1
      have hlt : (undOf (put w k (mePl i)) (flPl (atOf w i))).length < (undOf w (flPl (atOf w i))).length := by
        unfold undOf; rw [put_len]; exact hum.2
      have hat' : atOf (put w k (mePl i)) i = atOf w i := rfl
      have hi' : i < List.length ((put w k (mePl i)).2.1 : List Int) := hi
      simp [-List.getD_eq_getElem?_getD, -List.length_eq_zero_iff, keepAll, freshHas, pathEq, eqPl, eqPl_f, wrap1, wrap0, comes_call (right_spec (put w k (mePl i))), (right_spec (put w k (mePl i))).bprop, hright', comes_call (look_spec w ok hi), (look_spec w ok hi).prop, comes_call (look_spec (put w k (mePl i)) ok' hi'), (look_spec (put w k (mePl i)) ok' hi').prop, comes_call (own_spec w ok hi), (own_spec w ok hi).prop, comes_call (own_spec (put w k (mePl i)) ok' hi'), (own_spec (put w k (mePl i)) ok' hi').prop, lookR, ownR, hat', comes_call (copied_spec w ok.sm), (copied_spec w ok.sm).prop, hi]
      rw [show (↑(undOf w (flPl (atOf w i))).length + ↑(undOf w (mePl i)).length : Int) = (↑(undOf (put w k (mePl i)) (flPl (atOf w i))).length + ↑(undOf (put w k (mePl i)) (mePl i)).length : Int) by omega]
      refine ⟨fun _ => ⟨hlt, fun _ => ⟨by omega, fun hto => ?_⟩⟩, rfl⟩
      have hto' : ¬ wExit w i d < 0 := Int.not_lt.2 hto
      have ok2 := tail hto'
      simp [-List.getD_eq_getElem?_getD, -List.length_eq_zero_iff, keepAll, freshHas, pathEq, eqPl, eqPl_f, wrap1, wrap0, hy, comes_call (present_spec (moved w i (wExit w i d)) ok2.sm (List.getD (w.2.1 : List Int) i (0 : Int))), (present_spec (moved w i (wExit w i d)) ok2.sm (List.getD (w.2.1 : List Int) i (0 : Int))).prop, comes_call (present_spec (moved w i (wExit w i d)) ok2.sm (wExit w i d)), (present_spec (moved w i (wExit w i d)) ok2.sm (wExit w i d)).prop]
      exact (smoves_l0 hi ok2 (pre_sm ok2.sm _) (pre_sm ok2.sm _) (fun j hj h => pre_moved hi hj h) (pre_in hi _) _ _ _ _ _ _ _ _ _ _ _ _ 0 (Nat.zero_le _)).enter
    · simp [comes_call (right_spec (put w k (mePl i))), (right_spec (put w k (mePl i))).bprop, hright']
  · intro hto
    have hto' : ¬ wExit w i d < 0 := Int.not_lt.2 hto
    have ok' := tail hto'
    simp [-List.getD_eq_getElem?_getD, -List.length_eq_zero_iff, keepAll, freshHas, pathEq, eqPl, eqPl_f, wrap1, wrap0, hy, comes_call (present_spec (moved w i (wExit w i d)) ok'.sm (List.getD (w.2.1 : List Int) i (0 : Int))), (present_spec (moved w i (wExit w i d)) ok'.sm (List.getD (w.2.1 : List Int) i (0 : Int))).prop, comes_call (present_spec (moved w i (wExit w i d)) ok'.sm (wExit w i d)), (present_spec (moved w i (wExit w i d)) ok'.sm (wExit w i d)).prop]
    exact (smoves_l2 hi ok' (pre_sm ok'.sm _) (pre_sm ok'.sm _) (fun j hj h => pre_moved hi hj h) (pre_in hi _) _ _ _ _ _ _ 0 (Nat.zero_le _)).enter
end Go.Proofs.Ytkoefhpkdghpnaa.Ghost
