/- What functions come to, and that the statements are answered with 'true'. Conditions: none. -/
import Derived.Test.YtkjcmjfdkmnikaaS
import Derived.Test.YtkjcmjfdkmnikaaGE
import Derived.Test.YtkjcmjfdkmnikaaP1
import Derived.Test.YtkjcmjfdkmnikaaP2
import Derived.Test.YtkjcmjfdkmnikaaP3
import Derived.Test.YtkjcmjfdkmnikaaP4
import Derived.Test.YtkjcmjfdkmnikaaP5
import Derived.Test.YtkjcmjfdkmnikaaP6
import Derived.Test.YtkjcmjfdkmnikaaP7
import Derived.Test.YtkjcmjfdkmnikaaP8
import Derived.Test.YtkjcmjfdkmnikaaP9
import Derived.Test.YtkjcmjfdkmnikaaP10
set_option linter.unusedVariables false
set_option linter.unusedSimpArgs false
set_option linter.unusedSectionVars false
set_option linter.unnecessarySimpa false
namespace Go.Proofs.Ytkjcmjfdkmnikaa.Ghost
open Go
theorem newW_right {d : den tDesc} (m : MayP d) : RightP (newW d) := by
  have hlen : List.length ((newW d).2.2.2.1 : List Pl) = List.length (d.2.2.2.1 : List Int) := newPl_len _ _
  have at0 : ∀ i, i < List.length (d.2.2.2.1 : List Int) → List.getD ((newW d).2.2.2.1 : List Pl) i (dft tPlace) = ((0 : Int), (List.getD (d.2.2.2.1 : List Int) i 0 : Int), ()) := fun i hi => newPl_at _ _ i hi
  have many : ∀ (x : Int) (n : Nat), n ≤ List.length (d.2.2.2.1 : List Int) → manyPl (newW d).2.2.2.1 ((0 : Int), x, ()) n = manyI d.2.2.2.1 x n := fun x n => by
    induction n with
    | zero => intro _; rfl
    | succ n ih =>
      intro hn
      have ih := ih (by omega)
      simp only [manyPl, manyI, at0 n (by omega)]
      have e : ((((0 : Int), (List.getD (d.2.2.2.1 : List Int) n 0 : Int), ()) : Pl) = ((0 : Int), x, ())) = (List.getD (d.2.2.2.1 : List Int) n 0 = x) := propext ⟨fun h => congrArg (fun z : Pl => (z.2.1 : Int)) h, fun h => by rw [h]⟩
      simp only [e]
      rw [ih]
  refine ⟨m, rfl, m.c1, hlen, fun i hi => m.players i hi, fun i hi => ?_, fun i hi => ?_⟩
  · rw [hlen] at hi
    rw [at0 i hi]
    exact .inl ⟨rfl, m.items i hi⟩
  · rw [hlen] at hi ⊢
    rw [at0 i hi]
    have hx := m.items i hi
    refine ⟨?_, ?_⟩
    · have := (sh_iff (newW d).2.2.2.1 0 51 0 rfl (by decide) ((0 : Int), (List.getD (d.2.2.2.1 : List Int) i 0 : Int), ())).1 (fun e : (0 : Int) = 2 => by cases e)
      omega
    · rw [many _ _ (Nat.le_refl _)]
      obtain ⟨x, ex⟩ : ∃ x : Nat, List.getD (d.2.2.2.1 : List Int) i 0 = (x : Int) := ⟨(List.getD (d.2.2.2.1 : List Int) i 0).toNat, (Int.toNat_of_nonneg hx.1).symm⟩
      rw [ex] at hx ⊢
      exact m.many x (Int.ofNat_lt.1 hx.2)
theorem not_shallow {l : List Pl} {k : Nat} (h : List.getD l k (dft tPlace) = ((2 : Int), (k : Int), ())) : (n : Nat) → ¬ shP l n ((2 : Int), (k : Int), ())
  | 0 => fun hs => hs rfl
  | n + 1 => fun hs => by
    have := hs rfl
    rw [show Int.toNat (((2 : Int), (k : Int), ()) : Pl).2.1 = k from Int.toNat_natCast k, h] at this
    exact not_shallow h n this
section
variable (w : den tWorld) (sw : Sm w) (rt : RightP w) {p : Int} (hp : wfD (.int .u8) p)
include sw rt hp
theorem descRight_l0 (t0 : (den tWorld)) (t4 : Bool) (t6 : Int) : ∀ i, i ≤ List.length (w.1.2.2.2.1 : List Int) → Comes (fun nf fm0 _ _ => innkeeplaw06_DescRight.l0 nf fm0 t0 (p) t4 t6 ((i : Int)) (w) (newW w.1)) (fun r => r.1.1 = true) := by
  have hlen : List.length ((newW w.1).2.2.2.1 : List Pl) = List.length (w.1.2.2.2.1 : List Int) := newPl_len _ _
  have hi1 := sw.i
  refine upto ?_ (fun i hi next => ?_)
  · have hpos := rt.pos
    have ha1 := rt.a1
    have hc1 := rt.c1
    have hl1 : List.length (w.2.2.1 : List Int) = List.length (w.2.1 : List Int) := by rw [hc1, ha1]
    obtain ⟨i, hi, ei⟩ := index_of hp hpos
    have hic : i < List.length (w.2.2.1 : List Int) := by omega
    have sx := dright_spec _ (sm_at sw i (List.length (w.1.1 : List (List Int)) : Int))
    have nx : ¬ RightP (w.1, (List.set (w.2.1 : List Int) i (List.length (w.1.1 : List (List Int)) : Int) : List Int), w.2.2.1, w.2.2.2.1, ()) := fun h => by
      have h1 : List.getD (List.set (w.2.1 : List Int) i (List.length (w.1.1 : List (List Int)) : Int)) i 0 < (List.length (w.1.1 : List (List Int)) : Int) := (h.at_ i (by show i < List.length (List.set (w.2.1 : List Int) i _); rw [List.length_set]; exact hi)).1.2
      rw [getD_set _ _ _ _ _ hi, if_pos rfl] at h1
      exact Int.lt_irrefl _ h1
    rw [dec_false.2 nx] at sx
    have sy := dright_spec _ (sm_coin sw i (-1))
    have ny : ¬ RightP (w.1, w.2.1, (List.set (w.2.2.1 : List Int) i (-1) : List Int), w.2.2.2.1, ()) := fun h => by
      have h1 : (0 : Int) ≤ List.getD (List.set (w.2.2.1 : List Int) i (-1)) i 0 := (h.at_ i hi).2.1
      rw [getD_set _ _ _ _ _ hic, if_pos rfl] at h1
      omega
    rw [dec_false.2 ny] at sy
    refine Comes.succ1 (fun nf fm0 _ _ => innkeeplaw06_DescRight.l0_eq nf fm0 _ _ _ _ _ _ _) ?_
    by_cases hk : 0 < List.length (w.2.2.2.1 : List Pl)
    · obtain ⟨k, hk', ek⟩ := index_of hp hk
      have hne : ¬ List.length (w.2.2.2.1 : List Pl) = 0 := by omega
      have g := rt.good k hk'
      have hwh := sw.wh
      have sz := dright_spec _ (sm_pl sw k ((2 : Int), (k : Int), ()))
      have nz : ¬ RightP (w.1, w.2.1, w.2.2.1, (List.set (w.2.2.2.1 : List Pl) k ((2 : Int), (k : Int), ()) : List Pl), ()) := fun h => by
        have e1 : List.getD (List.set (w.2.2.2.1 : List Pl) k ((2 : Int), (k : Int), ())) k (dft tPlace) = ((2 : Int), (k : Int), ()) := by rw [getD_set _ _ _ _ _ hk', if_pos rfl]
        have hd : depI (List.set (w.2.2.2.1 : List Pl) k ((2 : Int), (k : Int), ())) 51 0 (List.getD (List.set (w.2.2.2.1 : List Pl) k ((2 : Int), (k : Int), ())) k (dft tPlace)) ≤ 4 := (h.deep k (by show k < List.length (List.set (w.2.2.2.1 : List Pl) k _); rw [List.length_set]; exact hk')).1
        rw [e1] at hd
        exact not_shallow e1 4 ((sh_iff _ 4 51 0 rfl (by decide) _).2 hd)
      rw [dec_false.2 nz] at sz
      have hm := manyPl_le w.2.2.2.1 (List.getD w.2.2.2.1 k (dft tPlace)) (List.length (w.2.2.2.1 : List Pl))
      have ms := many_spec w (by omega) (List.getD w.2.2.2.1 k (dft tPlace))
      have ew : IntKind.wrap .i64 ((manyPl w.2.2.2.1 (List.getD w.2.2.2.1 k (dft tPlace)) (List.length (w.2.2.2.1 : List Pl)) : Int) - 1) = (manyPl w.2.2.2.1 (List.getD w.2.2.2.1 k (dft tPlace)) (List.length (w.2.2.2.1 : List Pl)) : Int) - 1 := wrap_id (by omega) (by omega)
      have nu : ∀ a b c : Int, capI (capW w a b c).1 (List.getD w.2.2.2.1 k (dft tPlace)) = (manyPl w.2.2.2.1 (List.getD w.2.2.2.1 k (dft tPlace)) (List.length (w.2.2.2.1 : List Pl)) : Int) - 1 → Comes (fun nf _ _ _ => desc_Right nf ((((w.1.1 : List (List Int)), (w.1.2.1 : List Int), (w.1.2.2.1 : List Int), (w.1.2.2.2.1 : List Int), (w.1.2.2.2.2.1 : List Bool), a, b, c, ()), (w.2.1 : List Int), (w.2.2.1 : List Int), (w.2.2.2.1 : List (den tPlace)), ()))) (fun r => r = ((false, ()), [])) := fun a b c hcap => by
        have s := dright_spec (capW w a b c) (capW_sm sw a b c)
        have : ¬ RightP (capW w a b c) := fun h => by
          have h1 : (manyPl w.2.2.2.1 (List.getD w.2.2.2.1 k (dft tPlace)) (List.length (w.2.2.2.1 : List Pl)) : Int) ≤ capI (capW w a b c).1 (List.getD w.2.2.2.1 k (dft tPlace)) := (h.deep k hk').2
          rw [hcap] at h1
          omega
        rw [dec_false.2 this] at s
        exact s
      rcases g with ⟨e, _⟩ | ⟨e, _⟩ | ⟨e, _⟩
      · have su := nu ((manyPl w.2.2.2.1 (List.getD w.2.2.2.1 k (dft tPlace)) (List.length (w.2.2.2.1 : List Pl)) : Int) - 1) w.1.2.2.2.2.2.2.1 w.1.2.2.2.2.2.2.2.1 (by unfold capI; rw [if_pos e])
        simp [-List.getD_eq_getElem?_getD, -List.length_eq_zero_iff, keepAll, freshHas, pathEq, eqPl_dec, wrap1, wrap0, nbeq, hlen, comes_call (copy_spec w sw), (copy_spec w sw).prop, ei, hl1, hi, hic, comes_call (sx), (sx).prop, comes_call (sy), (sy).prop, hne, ek, hk', e, comes_call (ms), (ms).prop, comes_call (sz), (sz).prop, ew, comes_call (su), (su).prop]
        omega
      · have su := nu w.1.2.2.2.2.2.1 ((manyPl w.2.2.2.1 (List.getD w.2.2.2.1 k (dft tPlace)) (List.length (w.2.2.2.1 : List Pl)) : Int) - 1) w.1.2.2.2.2.2.2.2.1 (by unfold capI; rw [e, if_neg (by decide), if_pos rfl])
        simp [-List.getD_eq_getElem?_getD, -List.length_eq_zero_iff, keepAll, freshHas, pathEq, eqPl_dec, wrap1, wrap0, nbeq, hlen, comes_call (copy_spec w sw), (copy_spec w sw).prop, ei, hl1, hi, hic, comes_call (sx), (sx).prop, comes_call (sy), (sy).prop, hne, ek, hk', e, comes_call (ms), (ms).prop, comes_call (sz), (sz).prop, ew, comes_call (su), (su).prop]
        omega
      · have su := nu w.1.2.2.2.2.2.1 w.1.2.2.2.2.2.2.1 ((manyPl w.2.2.2.1 (List.getD w.2.2.2.1 k (dft tPlace)) (List.length (w.2.2.2.1 : List Pl)) : Int) - 1) (by unfold capI; rw [e, if_neg (by decide), if_neg (by decide)])
        simp [-List.getD_eq_getElem?_getD, -List.length_eq_zero_iff, keepAll, freshHas, pathEq, eqPl_dec, wrap1, wrap0, nbeq, hlen, comes_call (copy_spec w sw), (copy_spec w sw).prop, ei, hl1, hi, hic, comes_call (sx), (sx).prop, comes_call (sy), (sy).prop, hne, ek, hk', e, comes_call (ms), (ms).prop, comes_call (sz), (sz).prop, ew, comes_call (su), (su).prop]
        omega
    · have hne : List.length (w.2.2.2.1 : List Pl) = 0 := by omega
      simp [-List.getD_eq_getElem?_getD, -List.length_eq_zero_iff, keepAll, freshHas, pathEq, eqPl_dec, wrap1, wrap0, nbeq, hlen, comes_call (copy_spec w sw), (copy_spec w sw).prop, ei, hl1, hi, hic, comes_call (sx), (sx).prop, comes_call (sy), (sy).prop, hne]
      omega
  · have a0 : (List.getD ((newW w.1).2.2.2.1 : List Pl) i (dft tPlace)).1 = (0 : Int) := by
      rw [show List.getD ((newW w.1).2.2.2.1 : List Pl) i (dft tPlace) = ((0 : Int), (List.getD (w.1.2.2.2.1 : List Int) i 0 : Int), ()) from newPl_at _ _ i hi]
    rw [← wrap_succ (by omega)] at next
    refine Comes.succ1 (fun nf fm0 _ _ => innkeeplaw06_DescRight.l0_eq nf fm0 _ _ _ _ _ _ _) ?_
    simp [-List.getD_eq_getElem?_getD, -List.length_eq_zero_iff, keepAll, freshHas, pathEq, eqPl_dec, wrap1, wrap0, nbeq, hlen, hi, a0]
    exact next
end
theorem descRight_true (w : den tWorld) (p : Int) (hw : wfD tWorld w) (hp : wfD (.int .u8) p) : Comes (fun nf _ _ _ => innkeeplaw06_DescRight nf (w) (p)) (fun r => r.1.1 = true) := by
  by_cases f : FewP w
  rotate_left
  · refine Comes.succ (fun nf _ _ _ => innkeeplaw06_DescRight.eq nf _ _) ?_
    simp only [comes_call (awake06), (awake06).prop, comes_call (fewL w), (fewL w).bprop, dec_false.2 f, Bool.not_true, Bool.not_false, cond_true, cond_false, comes_ret]
  by_cases rt : RightP w
  rotate_left
  · refine Comes.succ (fun nf _ _ _ => innkeeplaw06_DescRight.eq nf _ _) ?_
    simp only [comes_call (awake06), (awake06).prop, comes_call (fewL w), (fewL w).bprop, comes_call (right_spec w), (right_spec w).bprop, dec_true.2 f, dec_false.2 rt, Bool.not_true, Bool.not_false, cond_true, cond_false, comes_ret]
  have sw := sm_of hw f
  have m := rt.may
  have hlen : List.length ((newW w.1).2.2.2.1 : List Pl) = List.length (w.2.2.2.1 : List Pl) := (newPl_len _ _).trans rt.w1.symm
  have l0 := fun (t0 t4 t6) => (descRight_l0 w sw rt hp t0 t4 t6 0 (Nat.zero_le _)).enter
  refine Comes.succ (fun nf _ _ _ => innkeeplaw06_DescRight.eq nf _ _) ?_
  simp only [comes_call (awake06), (awake06).prop, comes_call (fewL w), (fewL w).bprop, comes_call (right_spec w), (right_spec w).bprop, dec_true.2 f, dec_true.2 rt, Bool.not_true, Bool.not_false, cond_true, cond_false, comes_ret]
  simp [-List.getD_eq_getElem?_getD, -List.length_eq_zero_iff, keepAll, freshHas, pathEq, eqPl_dec, wrap1, wrap0, nbeq, comes_call (dnew_spec w.1 sw.d m), (dnew_spec w.1 sw.d m).prop, comes_call (dright_spec _ (newW_sm sw.d)), (dright_spec _ (newW_sm sw.d)).prop, newW_right m, hlen]
  exact l0 _ _ _
end Go.Proofs.Ytkjcmjfdkmnikaa.Ghost
