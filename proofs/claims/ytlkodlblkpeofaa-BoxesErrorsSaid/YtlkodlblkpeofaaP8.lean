/- What functions come to, and that the statements are answered with 'true'. Conditions: none. -/
import Derived.Test.YtlkodlblkpeofaaS
import Derived.Test.YtlkodlblkpeofaaGE
import Derived.Test.YtlkodlblkpeofaaP1
import Derived.Test.YtlkodlblkpeofaaP2
import Derived.Test.YtlkodlblkpeofaaP3
import Derived.Test.YtlkodlblkpeofaaP4
import Derived.Test.YtlkodlblkpeofaaP5
import Derived.Test.YtlkodlblkpeofaaP6
import Derived.Test.YtlkodlblkpeofaaP7
set_option linter.unusedVariables false
set_option linter.unusedSimpArgs false
set_option linter.unusedSectionVars false
set_option linter.unnecessarySimpa false
namespace Go.Proofs.Ytlkodlblkpeofaa.Ghost
open Go
theorem awake10 : Comes (fun nf _ _ _ => innkeeplaw10_awake nf) (fun r => r.1.1 = true) := Comes.one 60 (r := ((true, ()), [])) (by kernel_rfl) rfl
theorem fits10 (w : den tWorld) : Comes (fun nf _ _ _ => innkeeplaw10_fits nf (w)) (fun r => r.1.1 = true ↔ FewP w ∧ RightP w) := by
  refine Comes.succ (fun n _ _ _ => innkeeplaw10_fits.eq n w) (Comes.call (few_spec w) (fun v hv => Comes.bif (fun hb => Comes.call (right_spec w) (fun u hu => Comes.ret ?_)) (fun hb => Comes.ret ?_)))
  · exact ⟨fun e => ⟨hv.1 hb, hu.1 e⟩, fun e => hu.2 e.2⟩
  · exact ⟨(fun e => by cases e), fun e => by rw [hv.2 e.1] at hb; cases hb⟩
theorem boxesDo_true (w : den tWorld) (p item box : Int) (hw : wfD tWorld w) (hp : wfD (.int .u8) p) (_ : wfD (.int .i64) item) (_ : wfD (.int .i64) box) : Comes (fun nf _ _ _ => innkeeplaw10_BoxesDo nf (w) (p) (item) (box)) (fun r => r.1.1 = true) := by
  refine Comes.succ (fun nf _ _ _ => innkeeplaw10_BoxesDo.eq nf _ _ _ _) ?_
  simp [-List.getD_eq_getElem?_getD, -List.length_eq_zero_iff, keepAll, freshHas, pathEq, eqPl_dec, wrap1, wrap0, comes_call (awake10), (awake10).prop, comes_call ((fits10 w).fit), ((fits10 w).fit).bprop]
  intro fit
  have ok := ok_of hw fit.few fit.right
  have hpos := ok.right.pos
  obtain ⟨i, hi, ei⟩ := index_of hp hpos
  rw [ei]
  simp [-List.getD_eq_getElem?_getD, -List.length_eq_zero_iff, keepAll, freshHas, pathEq, eqPl_dec, wrap1, wrap0, comes_call (put_spec ok hi item box), (put_spec ok hi item box).prop, comes_call (refPut_spec ok hi item box), (refPut_spec ok hi item box).prop, comes_call (take_spec ok hi item box), (take_spec ok hi item box).prop, comes_call (refTake_spec ok hi item box), (refTake_spec ok hi item box).prop, comes_call (same_spec (putR w i item box).1 (putR w i item box).1 (putR_sm ok.sm) (putR_sm ok.sm)), (same_spec (putR w i item box).1 (putR w i item box).1 (putR_sm ok.sm) (putR_sm ok.sm)).bprop, comes_call (same_spec (takeR w i item box).1 (takeR w i item box).1 (takeR_sm ok.sm) (takeR_sm ok.sm)), (same_spec (takeR w i item box).1 (takeR w i item box).1 (takeR_sm ok.sm) (takeR_sm ok.sm)).bprop]
  refine ⟨by omega, fun h0 h1 => ?_⟩
  obtain ⟨k, rfl⟩ : ∃ k : Nat, item = (k : Int) := ⟨item.toNat, by omega⟩
  have hk : k < List.length (w.2.2.2.1 : List (den tPlace)) := by omega
  simp [-List.getD_eq_getElem?_getD, -List.length_eq_zero_iff, keepAll, freshHas, pathEq, eqPl_dec, wrap1, wrap0, comes_call (near_spec w ok hi hk), (near_spec w ok hi hk).prop, comes_call (refNear_spec w ok hi hk), (refNear_spec w ok hi hk).prop]
theorem boxesErrors_true (w : den tWorld) (p item box : Int) (hw : wfD tWorld w) (hp : wfD (.int .u8) p) (hk : wfD (.int .u8) item) (hb : wfD (.int .u8) box) : Comes (fun nf _ _ _ => innkeeplaw10_BoxesErrors nf (w) (p) (item) (box)) (fun r => r.1.1 = true) := by
  refine Comes.succ (fun nf _ _ _ => innkeeplaw10_BoxesErrors.eq nf _ _ _ _) ?_
  simp [-List.getD_eq_getElem?_getD, -List.length_eq_zero_iff, keepAll, freshHas, pathEq, eqPl_dec, wrap1, wrap0, comes_call (awake10), (awake10).prop, comes_call ((fits10 w).fit), ((fits10 w).fit).bprop]
  intro fit hl
  have ok := ok_of hw fit.few fit.right
  have hpos := ok.right.pos
  have hn := Nat.pos_of_ne_zero hl
  obtain ⟨i, hi, ei⟩ := index_of hp hpos
  obtain ⟨k, hk, ek⟩ := index_of hk hn
  obtain ⟨b, hb, eb⟩ := index_of hb hn
  have hbx : b < List.length (w.1.2.2.2.2.1 : List Bool) := by rw [ok.right.may.b1, ← ok.right.w1]; exact hb
  rw [ei, ek, eb]
  have z1 := putErr_zero (i := i) hk hb
  have z2 := takeErr_zero (i := i) hk hb
  by_cases c1 : putErr w i k b = 0
  · have h1 := z1.1 c1
    have c2 : ¬ takeErr w i k b = 0 := fun h => h1.notTake (z2.1 h)
    have hkb : ¬ k = b := fun e => h1.wi (by subst e; exact .refl k)
    have ok' := h1.ok ok
    have r1 := roomI_put w h1.hk (boxPl (b : Int)) (mePl i)
    have r2 := roomI_put w h1.hk (boxPl (b : Int)) (boxPl (b : Int))
    rw [if_pos h1.me, if_neg (fun e => me_ne_box i b e.symm)] at r1
    rw [if_neg (fun e => me_ne_box i b (h1.me.symm.trans e)), if_pos rfl] at r2
    have q1 := ok.right.room (mePl i)
    have q2 := ok.right.room (boxPl (b : Int))
    simp [-List.getD_eq_getElem?_getD, -List.length_eq_zero_iff, keepAll, freshHas, pathEq, eqPl_dec, wrap1, wrap0, hl, hk, hb, hbx, comes_call (put_spec ok hi (k : Int) (b : Int)), (put_spec ok hi (k : Int) (b : Int)).prop, comes_call (take_spec ok hi (k : Int) (b : Int)), (take_spec ok hi (k : Int) (b : Int)).prop, c1, putErr_ok c1, takeErr_pos c2, h1.box, comes_call (refWithin_iff w ok.right hb k), (refWithin_iff w ok.right hb k).bprop, h1.wi, c2, hkb, comes_call (refRoom_spec w ok (mePl i) (kind_mePl i)), (refRoom_spec w ok (mePl i) (kind_mePl i)).prop, comes_call (refRoom_spec w ok (boxPl (b : Int)) (kind_box b)), (refRoom_spec w ok (boxPl (b : Int)) (kind_box b)).prop, comes_call (refRoom_spec (put w k (boxPl (b : Int))) ok' (mePl i) (kind_mePl i)), (refRoom_spec (put w k (boxPl (b : Int))) ok' (mePl i) (kind_mePl i)).prop, comes_call (refRoom_spec (put w k (boxPl (b : Int))) ok' (boxPl (b : Int)) (kind_box b)), (refRoom_spec (put w k (boxPl (b : Int))) ok' (boxPl (b : Int)) (kind_box b)).prop, r1, r2]
    rw [wrap_id (n := roomI w (mePl i) + 1) (by omega) (by omega), wrap_id (n := roomI w (boxPl (b : Int)) - 1) (by omega) (by omega)]
    exact ⟨by omega, by omega, fun _ => ⟨fun _ => rfl, rfl⟩⟩
  · by_cases c2 : takeErr w i k b = 0
    · have h2 := z2.1 c2
      have hkb : ¬ k = b := fun e => by
        subst e
        have := (dep_box ok.right hk (by rw [h2.at_]) (by rw [h2.at_])).2
        omega
      simp [-List.getD_eq_getElem?_getD, -List.length_eq_zero_iff, keepAll, freshHas, pathEq, eqPl_dec, wrap1, wrap0, hl, hk, hb, hbx, comes_call (put_spec ok hi (k : Int) (b : Int)), (put_spec ok hi (k : Int) (b : Int)).prop, comes_call (take_spec ok hi (k : Int) (b : Int)), (take_spec ok hi (k : Int) (b : Int)).prop, c1, c2, putErr_pos c1, takeErr_ok c2, h2.at_, hkb]
      omega
    · simp [-List.getD_eq_getElem?_getD, -List.length_eq_zero_iff, keepAll, freshHas, pathEq, eqPl_dec, wrap1, wrap0, hl, hk, hb, hbx, comes_call (put_spec ok hi (k : Int) (b : Int)), (put_spec ok hi (k : Int) (b : Int)).prop, comes_call (take_spec ok hi (k : Int) (b : Int)), (take_spec ok hi (k : Int) (b : Int)).prop, c1, c2, putErr_pos c1, takeErr_pos c2]
      omega
theorem boxesNear_true (w : den tWorld) (p item box : Int) (hw : wfD tWorld w) (hp : wfD (.int .u8) p) (hk : wfD (.int .u8) item) (hb : wfD (.int .u8) box) : Comes (fun nf _ _ _ => innkeeplaw10_BoxesNear nf (w) (p) (item) (box)) (fun r => r.1.1 = true) := by
  refine Comes.succ (fun nf _ _ _ => innkeeplaw10_BoxesNear.eq nf _ _ _ _) ?_
  simp [-List.getD_eq_getElem?_getD, -List.length_eq_zero_iff, keepAll, freshHas, pathEq, eqPl_dec, wrap1, wrap0, comes_call (awake10), (awake10).prop, comes_call ((fits10 w).fit), ((fits10 w).fit).bprop]
  intro fit hl
  have ok := ok_of hw fit.few fit.right
  have hpos := ok.right.pos
  have hn := Nat.pos_of_ne_zero hl
  obtain ⟨i, hi, ei⟩ := index_of hp hpos
  obtain ⟨k, hk, ek⟩ := index_of hk hn
  obtain ⟨b, hb, eb⟩ := index_of hb hn
  rw [ei, ek, eb]
  have z1 := putErr_zero (i := i) hk hb
  have z2 := takeErr_zero (i := i) hk hb
  have key : putErr w i k b = 0 ∨ takeErr w i k b = 0 → NearP w i k ∧ NearP w i b := by
    rintro (h | h)
    · have h := z1.1 h; exact ⟨near_of_me h.me, h.near⟩
    · have h := z2.1 h; exact ⟨(near_box ok.right hk (by rw [h.at_]) (by rw [h.at_])).2 h.near, h.near⟩
  have e1 := putR_err w i k b
  have e2 := takeR_err w i k b
  by_cases h2 : (plOf w k).1 = (2 : Int)
  · obtain ⟨b', eb', hb', _⟩ := root_box ok.right hk h2
    have hnb := near_box ok.right hk h2 eb' (i := i)
    simp [-List.getD_eq_getElem?_getD, -List.length_eq_zero_iff, keepAll, freshHas, pathEq, eqPl_dec, wrap1, wrap0, hl, hk, hb, comes_call (put_spec ok hi (k : Int) (b : Int)), (put_spec ok hi (k : Int) (b : Int)).prop, comes_call (take_spec ok hi (k : Int) (b : Int)), (take_spec ok hi (k : Int) (b : Int)).prop, e1, e2, comes_call (near_spec w ok hi hk), (near_spec w ok hi hk).prop, comes_call (near_spec w ok hi hb), (near_spec w ok hi hb).prop, h2, eb', comes_call (near_spec w ok hi hb'), (near_spec w ok hi hb').prop]
    refine ⟨by omega, ?_⟩
    grind
  · have hnt := near_top h2 (i := i)
    simp [-List.getD_eq_getElem?_getD, -List.length_eq_zero_iff, keepAll, freshHas, pathEq, eqPl_dec, wrap1, wrap0, hl, hk, hb, hi, comes_call (put_spec ok hi (k : Int) (b : Int)), (put_spec ok hi (k : Int) (b : Int)).prop, comes_call (take_spec ok hi (k : Int) (b : Int)), (take_spec ok hi (k : Int) (b : Int)).prop, e1, e2, comes_call (near_spec w ok hi hk), (near_spec w ok hi hk).prop, comes_call (near_spec w ok hi hb), (near_spec w ok hi hb).prop, h2]
    refine ⟨by omega, ?_⟩
    have hnt : NearP w i k ↔ List.getD (w.2.2.2.1 : List (den tPlace)) k (dft tPlace) = ((0 : Int), List.getD (w.2.1 : List Int) i (0 : Int), ()) ∨ List.getD (w.2.2.2.1 : List (den tPlace)) k (dft tPlace) = ((1 : Int), (i : Int), ()) := hnt
    generalize (List.getD (w.2.2.2.1 : List (den tPlace)) k (dft tPlace) = ((0 : Int), List.getD (w.2.1 : List Int) i (0 : Int), ())) = A at hnt ⊢
    generalize (List.getD (w.2.2.2.1 : List (den tPlace)) k (dft tPlace) = ((1 : Int), (i : Int), ())) = B at hnt ⊢
    grind
theorem bhold_l0 {w : den tWorld} (hs : Sm w) (t0 : (den tWorld)) (t1 : Int) (t2 : Int) (t3 : Int) (t8 : Bool) (t11 : Int) (o2 : (den tWorld)) : (r n : Nat) → (l : List Pl) → l.length ≤ 1048576 → n + r = l.length → Comes (fun nf fm0 _ _ => innkeeplaw10_BoxesHold.l0 nf fm0 t0 t1 t2 t3 t8 t11 ((n : Int)) (w) (w) o2 (l)) (fun r => r.1.1 = true)
  | 0, n, l, hl, hn => by
    refine Comes.succ1 (fun nf fm0 _ _ => innkeeplaw10_BoxesHold.l0_eq nf fm0 _ _ _ _ _ _ _ _ _ _ _) ?_
    simp [-List.getD_eq_getElem?_getD, -List.length_eq_zero_iff, keepAll, freshHas, pathEq, eqPl_dec, wrap1, wrap0, show ¬ n < l.length by omega, comes_call (same_spec w w hs hs), (same_spec w w hs hs).bprop]
  | r + 1, n, l, hl, hn => by
    refine Comes.succ1 (fun nf fm0 _ _ => innkeeplaw10_BoxesHold.l0_eq nf fm0 _ _ _ _ _ _ _ _ _ _ _) ?_
    have next := fun l' h1 h2 => bhold_l0 hs (t0) (t1) (t2) (t3) (t8) (t11) (o2) r (n + 1) l' h1 h2
    rw [← wrap_succ (by omega)] at next
    simp [-List.getD_eq_getElem?_getD, -List.length_eq_zero_iff, keepAll, freshHas, pathEq, eqPl_dec, wrap1, wrap0, show n < l.length by omega]
    exact next _ (by rw [List.length_set]; exact hl) (by rw [List.length_set]; omega)
theorem boxesHold_true (w : den tWorld) (p item box : Int) (hw : wfD tWorld w) (hp : wfD (.int .u8) p) (_ : wfD (.int .i64) item) (_ : wfD (.int .i64) box) : Comes (fun nf _ _ _ => innkeeplaw10_BoxesHold nf (w) (p) (item) (box)) (fun r => r.1.1 = true) := by
  refine Comes.succ (fun nf _ _ _ => innkeeplaw10_BoxesHold.eq nf _ _ _ _) ?_
  simp [-List.getD_eq_getElem?_getD, -List.length_eq_zero_iff, keepAll, freshHas, pathEq, eqPl_dec, wrap1, wrap0, comes_call (awake10), (awake10).prop, comes_call ((fits10 w).fit), ((fits10 w).fit).bprop]
  intro fit
  have ok := ok_of hw fit.few fit.right
  have hpos := ok.right.pos
  obtain ⟨i, hi, ei⟩ := index_of hp hpos
  rw [ei]
  have hwh := ok.sm.wh
  by_cases c1 : putErr w i item box = 0
  · have h := fun x => (bhold_l0 ok.sm w p item box false 0 (x, w.2.1, w.2.2.1, ([] : List Pl), ()) (List.length (w.2.2.2.1 : List (den tPlace))) 0)
    have hsm := putR_sm ok.sm (i := i) (k := item) (b := box)
    have hlen : List.length ((putR w i item box).1.2.2.2.1 : List (den tPlace)) = List.length (w.2.2.2.1 : List (den tPlace)) := by
      unfold putR; rw [if_pos c1]; exact put_len _ _ _
    have e2 : (putR w i item box).2.1 = (0 : Int) := by unfold putR; rw [if_pos c1]
    simp [-List.getD_eq_getElem?_getD, -List.length_eq_zero_iff, keepAll, freshHas, pathEq, eqPl_dec, wrap1, wrap0, comes_call (copied_spec w ok.sm), (copied_spec w ok.sm).prop, comes_call (put_spec ok hi item box), (put_spec ok hi item box).prop, comes_call (take_spec ok hi item box), (take_spec ok hi item box).prop, c1, e2]
    exact ⟨by omega, (bhold_l0 ok.sm w p item box false 0 _ _ 0 _ hsm.wh (Nat.zero_add _)).enter⟩
  · have e2 : ¬ (putR w i item box).2.1 = (0 : Int) := by unfold putR; rw [if_neg c1]; exact c1
    simp [-List.getD_eq_getElem?_getD, -List.length_eq_zero_iff, keepAll, freshHas, pathEq, eqPl_dec, wrap1, wrap0, comes_call (copied_spec w ok.sm), (copied_spec w ok.sm).prop, comes_call (put_spec ok hi item box), (put_spec ok hi item box).prop, comes_call (take_spec ok hi item box), (take_spec ok hi item box).prop, c1, e2, comes_call (same_spec w w ok.sm ok.sm), (same_spec w w ok.sm ok.sm).bprop]
    omega
theorem boxesKeep_true (w : den tWorld) (p item box : Int) (hw : wfD tWorld w) (hp : wfD (.int .u8) p) (hk : wfD (.int .u8) item) (hb : wfD (.int .u8) box) : Comes (fun nf _ _ _ => innkeeplaw10_BoxesKeep nf (w) (p) (item) (box)) (fun r => r.1.1 = true) := by
  refine Comes.succ (fun nf _ _ _ => innkeeplaw10_BoxesKeep.eq nf _ _ _ _) ?_
  simp [-List.getD_eq_getElem?_getD, -List.length_eq_zero_iff, keepAll, freshHas, pathEq, eqPl_dec, wrap1, wrap0, comes_call (awake10), (awake10).prop, comes_call ((fits10 w).fit), ((fits10 w).fit).bprop]
  intro fit hl
  have ok := ok_of hw fit.few fit.right
  have hpos := ok.right.pos
  have hn := Nat.pos_of_ne_zero hl
  obtain ⟨i, hi, ei⟩ := index_of hp hpos
  obtain ⟨k, hk, ek⟩ := index_of hk hn
  obtain ⟨b, hb, eb⟩ := index_of hb hn
  have hp0 : ¬ List.length (w.2.1 : List Int) = 0 := by omega
  rw [ei, ek, eb]
  have z1 := putErr_zero (i := i) hk hb
  have z2 := takeErr_zero (i := i) hk hb
  by_cases c1 : putErr w i k b = 0
  · have h1 := z1.1 c1
    have c2 : ¬ takeErr w i k b = 0 := fun h => h1.notTake (z2.1 h)
    have ok' := h1.ok ok
    have hlp := put_len w k (boxPl (b : Int))
    have hk' : k < List.length ((put w k (boxPl (b : Int))).2.2.2.1 : List (den tPlace)) := by rw [hlp]; exact hk
    have hb' : b < List.length ((put w k (boxPl (b : Int))).2.2.2.1 : List (den tPlace)) := by rw [hlp]; exact hb
    have hi' : i < List.length ((put w k (boxPl (b : Int))).2.1 : List Int) := hi
    have c3 : takeErr (put w k (boxPl (b : Int))) i k b = 0 := (takeErr_zero hk' hb').2 (h1.back ok)
    have hback : put (put w k (boxPl (b : Int))) k (mePl i) = w := put_put w k _ _ h1.me
    have hat : plOf (put w k (boxPl (b : Int))) k = boxPl b := by show List.getD _ k _ = _; rw [put_at w k k _ hk, if_pos rfl]
    have hwi : WiW (put w k (boxPl (b : Int))) k b := .step (b := b) (by show (plOf (put w k (boxPl (b : Int))) k).1 = _; rw [hat]) (by show (plOf (put w k (boxPl (b : Int))) k).2.1 = _; rw [hat]) (.refl b)
    have hroot : rootOf (put w k (boxPl (b : Int))) k = rootOf w b := (((h1.moved ok).eqs ok'.right hlp hk).1 (.refl k)).1
    simp [-List.getD_eq_getElem?_getD, -List.length_eq_zero_iff, keepAll, freshHas, pathEq, eqPl_dec, wrap1, wrap0, hl, hp0, comes_call (put_spec ok hi (k : Int) (b : Int)), (put_spec ok hi (k : Int) (b : Int)).prop, comes_call (take_spec ok hi (k : Int) (b : Int)), (take_spec ok hi (k : Int) (b : Int)).prop, c1, c2, putErr_ok c1, takeErr_pos c2, comes_call (same_spec w w ok.sm ok.sm), (same_spec w w ok.sm ok.sm).bprop, comes_call (take_spec ok' hi' (k : Int) (b : Int)), (take_spec ok' hi' (k : Int) (b : Int)).prop, takeErr_ok c3, hback, comes_call (right_spec (put w k (boxPl (b : Int)))), (right_spec (put w k (boxPl (b : Int)))).bprop, ok'.right, comes_call (others_put w ok.sm hk (boxPl (b : Int))), (others_put w ok.sm hk (boxPl (b : Int))).prop, comes_call (refWithin_iff (put w k (boxPl (b : Int))) ok'.right hk' b), (refWithin_iff (put w k (boxPl (b : Int))) ok'.right hk' b).bprop, hwi, comes_call (refRoot_spec (put w k (boxPl (b : Int))) ok'.right 51 k hk' (ok'.right.ends hk')), (refRoot_spec (put w k (boxPl (b : Int))) ok'.right 51 k hk' (ok'.right.ends hk')).prop, comes_call (refRoot_spec w ok.right 51 b hb (ok.right.ends hb)), (refRoot_spec w ok.right 51 b hb (ok.right.ends hb)).prop, hroot]
  · by_cases c2 : takeErr w i k b = 0
    · have h2 := z2.1 c2
      have ok' := h2.ok ok hi
      have hlp := put_len w k (mePl i)
      have hk' : k < List.length ((put w k (mePl i)).2.2.2.1 : List (den tPlace)) := by rw [hlp]; exact hk
      have hat : List.getD ((put w k (mePl i)).2.2.2.1 : List (den tPlace)) k (dft tPlace) = mePl i := by rw [put_at w k k _ hk, if_pos rfl]
      have hwi : WiW w k b := .step (b := b) (by show (plOf w k).1 = _; rw [h2.at_]) (by show (plOf w k).2.1 = _; rw [h2.at_]) (.refl b)
      simp [-List.getD_eq_getElem?_getD, -List.length_eq_zero_iff, keepAll, freshHas, pathEq, eqPl_dec, wrap1, wrap0, hl, hp0, hk', comes_call (put_spec ok hi (k : Int) (b : Int)), (put_spec ok hi (k : Int) (b : Int)).prop, comes_call (take_spec ok hi (k : Int) (b : Int)), (take_spec ok hi (k : Int) (b : Int)).prop, c1, c2, putErr_pos c1, takeErr_ok c2, comes_call (same_spec w w ok.sm ok.sm), (same_spec w w ok.sm ok.sm).bprop, comes_call (right_spec (put w k (mePl i))), (right_spec (put w k (mePl i))).bprop, ok'.right, comes_call (others_put w ok.sm hk (mePl i)), (others_put w ok.sm hk (mePl i)).prop, comes_call (refWithin_iff w ok.right hk b), (refWithin_iff w ok.right hk b).bprop, hwi, hat]
    · simp [-List.getD_eq_getElem?_getD, -List.length_eq_zero_iff, keepAll, freshHas, pathEq, eqPl_dec, wrap1, wrap0, hl, hp0, comes_call (put_spec ok hi (k : Int) (b : Int)), (put_spec ok hi (k : Int) (b : Int)).prop, comes_call (take_spec ok hi (k : Int) (b : Int)), (take_spec ok hi (k : Int) (b : Int)).prop, c1, c2, putErr_pos c1, takeErr_pos c2, comes_call (same_spec w w ok.sm ok.sm), (same_spec w w ok.sm ok.sm).bprop]
end Go.Proofs.Ytlkodlblkpeofaa.Ghost
