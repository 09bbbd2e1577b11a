/- What functions come to, and that the statements are answered with 'true'. Conditions: none. -/
import Derived.Test.YtlnnpcgfhcaafaaS
import Derived.Test.YtlnnpcgfhcaafaaGE
import Derived.Test.YtlnnpcgfhcaafaaP1
import Derived.Test.YtlnnpcgfhcaafaaP2
import Derived.Test.YtlnnpcgfhcaafaaP3
import Derived.Test.YtlnnpcgfhcaafaaP4
set_option linter.unusedVariables false
set_option linter.unusedSimpArgs false
set_option linter.unusedSectionVars false
set_option linter.unnecessarySimpa false
namespace Go.Proofs.Ytlnnpcgfhcaafaa.Ghost
open Go
theorem awake7 : Comes (fun n _ _ _ => innkeeplaw07_awake n) (fun r => r.1.1 = true) := Comes.one 60 (r := ((true, ()), [])) (by kernel_rfl) rfl
theorem fits7 (w : den tWorld) : Comes (fun n _ _ _ => innkeeplaw07_fits n w) (fun r => r.1.1 = true ↔ FewP w ∧ RightP w) := by
  refine Comes.succ (fun n _ _ _ => innkeeplaw07_fits.eq n w) (Comes.call (few_spec w) (fun v hv => Comes.bif (fun hb => Comes.call (right_spec w) (fun u hu => Comes.ret ?_)) (fun hb => Comes.ret ?_)))
  · exact ⟨fun e => ⟨hv.1 hb, hu.1 e⟩, fun e => hu.2 e.2⟩
  · exact ⟨(fun e => by cases e), fun e => by rw [hv.2 e.1] at hb; cases hb⟩
theorem isPl_spec (w : den tWorld) (p : Pl) : Comes (fun n _ _ _ => innkeepref07_Is n w p) (fun r => r.1.1 = true → (0 : Int) ≤ p.1 ∧ (p.1 : Int) < 3) := by
  have h0 : (p.1 : Int) = 0 → (0 : Int) ≤ p.1 ∧ (p.1 : Int) < 3 := fun e => by rw [e]; exact ⟨by decide, by decide⟩
  have h1 : (p.1 : Int) = 1 → (0 : Int) ≤ p.1 ∧ (p.1 : Int) < 3 := fun e => by rw [e]; exact ⟨by decide, by decide⟩
  have h2 : (p.1 : Int) = 2 → (0 : Int) ≤ p.1 ∧ (p.1 : Int) < 3 := fun e => by rw [e]; exact ⟨by decide, by decide⟩
  have no : Comes (fun _ _ _ _ => some (((false, ()), []) : innkeepref07_Is.R)) (fun r => r.1.1 = true → (0 : Int) ≤ p.1 ∧ (p.1 : Int) < 3) := Comes.ret (fun e => by cases e)
  have two : Comes (fun _ _ _ _ => bif decide ((p.1 : Int) = 2) then some (((decide ((p.2.1 : Int) < ((List.length (w.2.2.2.1 : (List (den tPlace)))) : Int))), ()), []) else some (((false, ()), []) : innkeepref07_Is.R)) (fun r => r.1.1 = true → (0 : Int) ≤ p.1 ∧ (p.1 : Int) < 3) := Comes.bif (fun e => Comes.ret (fun _ => h2 (of_decide_eq_true e))) (fun _ => no)
  have one : Comes (fun _ _ _ _ => bif decide ((p.1 : Int) = 1) then (bif decide ((p.2.1 : Int) < ((List.length (w.2.1 : (List Int))) : Int)) then some ((true, ()), []) else (bif decide ((p.1 : Int) = 2) then some (((decide ((p.2.1 : Int) < ((List.length (w.2.2.2.1 : (List (den tPlace)))) : Int))), ()), []) else some (((false, ()), []) : innkeepref07_Is.R))) else (bif decide ((p.1 : Int) = 2) then some (((decide ((p.2.1 : Int) < ((List.length (w.2.2.2.1 : (List (den tPlace)))) : Int))), ()), []) else some (((false, ()), []) : innkeepref07_Is.R))) (fun r => r.1.1 = true → (0 : Int) ≤ p.1 ∧ (p.1 : Int) < 3) :=
    Comes.bif (fun e => Comes.bif (fun _ => Comes.ret (fun _ => h1 (of_decide_eq_true e))) (fun _ => two)) (fun _ => two)
  exact Comes.succ (fun n _ _ _ => innkeepref07_Is.eq n w p) (Comes.bif (fun _ => Comes.bif (fun e => Comes.bif (fun _ => Comes.ret (fun _ => h0 (of_decide_eq_true e))) (fun _ => one)) (fun _ => one)) (fun _ => no))
theorem inL_le (l : List Pl) (p : Pl) (n : Nat) : (inL l p n).length ≤ n := by rw [inL_len]; exact manyPl_le l p n
theorem treeAsks_true (w : den tWorld) (item other : Int) (p : Pl) (hw : wfD tWorld w) (hi : wfD (.int .u8) item) (hk : wfD (.int .u8) other) (_hp : wfD tPlace p) : Comes (fun n _ _ _ => innkeeplaw07_TreeAsks n w item other p) (fun r => r.1.1 = true) := by
  refine Comes.succ (fun n _ _ _ => innkeeplaw07_TreeAsks.eq n w item other p) (Comes.call awake7 (fun v1 h1 => Comes.bifN (fun _ => Comes.call (fits7 w) (fun v3 h3 => Comes.bifN (fun hf => ?_) (fun _ => Comes.call awake7 (fun v4 h4 => Comes.ret h4)))) (fun hb => by rw [h1] at hb; cases hb)))
  obtain ⟨hfew, hright⟩ := h3.1 hf
  have ok := ok_of hw hfew hright
  have hwh := ok.sm.wh
  have tail : Comes (fun n _ _ _ => bif (decide (((List.length (w.2.2.2.1 : (List (den tPlace)))) : Int) = 0)) then
          some ((true, ()), [])
        else
          if ((List.length (w.2.2.2.1 : (List (den tPlace)))) : Int) = 0 then none else
          if ((List.length (w.2.2.2.1 : (List (den tPlace)))) : Int) = 0 then none else
          Option.bind (tree_Root n w (Int.tmod (IntKind.wrap .i64 (item)) ((List.length (w.2.2.2.1 : (List (den tPlace)))) : Int))) fun r30 =>
          Option.bind (innkeepref07_Root n w (Int.tmod (IntKind.wrap .i64 (item)) ((List.length (w.2.2.2.1 : (List (den tPlace)))) : Int))) fun r31 =>
          bif (eqT tPlace r30.1.1 r31.1.1) then
            Option.bind (tree_Depth n w (Int.tmod (IntKind.wrap .i64 (item)) ((List.length (w.2.2.2.1 : (List (den tPlace)))) : Int))) fun r32 =>
            Option.bind (innkeepref07_Depth n w (Int.tmod (IntKind.wrap .i64 (item)) ((List.length (w.2.2.2.1 : (List (den tPlace)))) : Int))) fun r33 =>
            bif (decide ((r32.1.1 : Int) = (r33.1.1 : Int))) then
              Option.bind (tree_Height n w (Int.tmod (IntKind.wrap .i64 (item)) ((List.length (w.2.2.2.1 : (List (den tPlace)))) : Int))) fun r34 =>
              Option.bind (innkeepref07_Height n w (Int.tmod (IntKind.wrap .i64 (item)) ((List.length (w.2.2.2.1 : (List (den tPlace)))) : Int))) fun r35 =>
              bif (decide ((r34.1.1 : Int) = (r35.1.1 : Int))) then
                Option.bind (tree_Within n w (Int.tmod (IntKind.wrap .i64 (item)) ((List.length (w.2.2.2.1 : (List (den tPlace)))) : Int)) (Int.tmod (IntKind.wrap .i64 (other)) ((List.length (w.2.2.2.1 : (List (den tPlace)))) : Int))) fun r36 =>
                Option.bind (innkeepref07_Within n w (Int.tmod (IntKind.wrap .i64 (item)) ((List.length (w.2.2.2.1 : (List (den tPlace)))) : Int)) (Int.tmod (IntKind.wrap .i64 (other)) ((List.length (w.2.2.2.1 : (List (den tPlace)))) : Int))) fun r37 =>
                some (((eqT .bool (r36.1.1 : Bool) (r37.1.1 : Bool)), ()), [])
              else
                some ((false, ()), [])
            else
              some ((false, ()), [])
          else
            some (((false, ()), []) : innkeeplaw07_TreeAsks.R)) (fun r => r.1.1 = true) := by
    refine Comes.bif (fun _ => Comes.ret rfl) (fun hl => ?_)
    have hl := of_decide_eq_false hl
    obtain ⟨i, hi, ei⟩ := index_of hi (show 0 < List.length (w.2.2.2.1 : List (den tPlace)) by omega)
    obtain ⟨k, hk, ek⟩ := index_of hk (show 0 < List.length (w.2.2.2.1 : List (den tPlace)) by omega)
    rw [ei, ek]
    refine Comes.iteN hl (Comes.iteN hl (Comes.call (treeRoot_spec w hright hi) (fun a ha => Comes.call (refRoot_spec w hright 51 i hi (hright.ends hi)) (fun b hb => ?_))))
    rw [ha, hb]
    refine Comes.bifT ((eqPl _ _).2 rfl) (Comes.call (treeDepth_spec w hright hi) (fun c hc => Comes.call (refDepth_spec w hright hi) (fun d hd => ?_)))
    rw [hc, hd]
    refine Comes.bifT (decide_eq_true rfl) (Comes.call (treeHeight_spec w ok hi) (fun e he => Comes.call (refHeight_spec w ok 5 i hi (by omega)) (fun f hf => ?_)))
    rw [he, hf]
    refine Comes.bifT (decide_eq_true rfl) (Comes.call (treeWithin_iff w hright hi k) (fun g hg => Comes.call (refWithin_iff w hright hi k) (fun h hh => Comes.ret ?_)))
    show eqT .bool g.1.1 h.1.1 = true
    have : g.1.1 = h.1.1 := by
      cases hx : g.1.1 with
      | true => exact (hh.2 (hg.1 hx)).symm
      | false =>
        cases hy : h.1.1 with
        | false => rfl
        | true => rw [hg.2 (hh.1 hy)] at hx; cases hx
    rw [this]
    cases h.1.1 <;> rfl
  refine Comes.call (isPl_spec w p) (fun v5 h5 => Comes.bif (fun hb => ?_) (fun _ => tail))
  have hpk := h5 hb
  refine Comes.call (treeIn_spec w ok.sm p) (fun v6 h6 => Comes.call (refIn_spec w ok.sm p) (fun v7 h7 => ?_))
  rw [h6, h7]
  refine Comes.call (ints_spec _ _ (Nat.le_trans (inL_le _ _ _) hwh)) (fun v8 h8 => Comes.nT (h8.2 rfl) (Comes.call (treeRoom_spec w ok p hpk) (fun v9 h9 => Comes.call (refRoom_spec w ok p hpk) (fun v10 h10 => ?_))))
  rw [h9, h10]
  refine Comes.nT (decide_eq_true rfl) (Comes.bifN (fun _ => tail) (fun _ => Comes.call (treeUnder_spec w ok p) (fun v11 h11 => Comes.call (refUnder_spec w ok p) (fun v12 h12 => ?_))))
  subst h11 h12
  exact Comes.call (seens_spec _ _ (Nat.le_trans (undL_len _ _ _) hwh)) (fun v13 h13 => Comes.nT (h13.2 rfl) tail)
/-! ### TreeKeeps -/
theorem tkeeps_l1 (w : den tWorld) (ok : Ok w) (p : Pl) (t0 : den tWorld) (t1 : Pl) (t4 : Bool) (t7 : Int) (l3 : List Sn) : (r i : Nat) → (l : List Int) → l.length ≤ 1048576 → i + r = l.length → Comes (fun n m _ _ => innkeeplaw07_TreeKeeps.l1 n m t0 t1 t4 t7 (i : Int) w p w l3 l) (fun r => r.1.1 = true)
  | 0, i, l, hl, hi => by
    refine Comes.succ1 (fun n m _ _ => innkeeplaw07_TreeKeeps.l1_eq n m t0 t1 t4 t7 i w p w l3 l) (Comes.bifF (decide_eq_false (by omega)) (Comes.call (same_spec _ _ ok.sm ok.sm) (fun v hv => Comes.bifT (hv.2 rfl) (Comes.call (treeUnder_spec w ok p) (fun v11 h11 => Comes.call (refUnder_spec w ok p) (fun v12 h12 => ?_))))))
    subst h11 h12
    exact Comes.call (seens_spec _ _ (Nat.le_trans (undL_len _ _ _) ok.sm.wh)) (fun v13 h13 => Comes.ret (h13.2 rfl))
  | r + 1, i, l, hl, hi => by
    refine Comes.succ1 (fun n m _ _ => innkeeplaw07_TreeKeeps.l1_eq n m t0 t1 t4 t7 i w p w l3 l) (Comes.bifT (decide_eq_true (by omega)) (Comes.ite (by omega) ?_))
    rw [wrap_succ (by omega)]
    exact tkeeps_l1 w ok p t0 t1 t4 t7 l3 r (i + 1) _ (by rw [List.length_set]; exact hl) (by rw [List.length_set]; omega)
theorem tkeeps_l0 (w : den tWorld) (ok : Ok w) (p : Pl) (t0 : den tWorld) (t1 : Pl) (t4 : Bool) : (r i : Nat) → (l : List Sn) → l.length ≤ 1048576 → i + r = l.length → Comes (fun n m _ _ => innkeeplaw07_TreeKeeps.l0 n m t0 t1 t4 (i : Int) w p w l) (fun r => r.1.1 = true)
  | 0, i, l, hl, hi => by
    refine Comes.succ1 (fun n m _ _ => innkeeplaw07_TreeKeeps.l0_eq n m t0 t1 t4 i w p w l) (Comes.bifF (decide_eq_false (by omega)) (Comes.call (treeIn_fresh w ok.sm p) (fun v hv => ?_)))
    subst hv
    exact Comes.bifT rfl (tkeeps_l1 w ok p t0 t1 t4 i l _ 0 _ (Nat.le_trans (inL_le _ _ _) ok.sm.wh) (Nat.zero_add _)).enter
  | r + 1, i, l, hl, hi => by
    refine Comes.succ1 (fun n m _ _ => innkeeplaw07_TreeKeeps.l0_eq n m t0 t1 t4 i w p w l) (Comes.bifT (decide_eq_true (by omega)) (Comes.ite (by omega) ?_))
    rw [wrap_succ (by omega)]
    exact tkeeps_l0 w ok p t0 t1 t4 r (i + 1) _ (by rw [List.length_set]; exact hl) (by rw [List.length_set]; omega)
theorem treeKeeps_true (w : den tWorld) (p : Pl) (hw : wfD tWorld w) (_hp : wfD tPlace p) : Comes (fun n _ _ _ => innkeeplaw07_TreeKeeps n w p) (fun r => r.1.1 = true) := by
  refine Comes.succ (fun n _ _ _ => innkeeplaw07_TreeKeeps.eq n w p) (Comes.call awake7 (fun v1 h1 => Comes.bifN (fun _ => Comes.call (fits7 w) (fun v3 h3 => Comes.bifN (fun hf => ?_) (fun _ => Comes.call awake7 (fun v4 h4 => Comes.ret h4)))) (fun hb => by rw [h1] at hb; cases hb)))
  obtain ⟨hfew, hright⟩ := h3.1 hf
  have ok := ok_of hw hfew hright
  refine Comes.call (isPl_spec w p) (fun v5 h5 => Comes.bifN (fun _ => Comes.bif (fun _ => Comes.call awake7 (fun v4 h4 => Comes.ret h4)) (fun _ => Comes.call (copied_spec w ok.sm) (fun v8 h8 => ?_))) (fun _ => Comes.call awake7 (fun v4 h4 => Comes.ret h4)))
  subst h8
  refine Comes.call (treeUnder_spec w ok p) (fun v9 h9 => ?_)
  subst h9
  exact Comes.bifT rfl (tkeeps_l0 w ok p w p false _ 0 _ (Nat.le_trans (undL_len _ _ _) ok.sm.wh) (Nat.zero_add _)).enter
/-! ### TreeWithin -/
theorem treeWithin_true (w : den tWorld) (a b c : Int) (hw : wfD tWorld w) (ha : wfD (.int .u8) a) (hb : wfD (.int .u8) b) (hc : wfD (.int .u8) c) : Comes (fun n _ _ _ => innkeeplaw07_TreeWithin n w a b c) (fun r => r.1.1 = true) := by
  refine Comes.succ (fun n _ _ _ => innkeeplaw07_TreeWithin.eq n w a b c) (Comes.call awake7 (fun v1 h1 => Comes.bifN (fun _ => Comes.call (fits7 w) (fun v3 h3 => Comes.bifN (fun hf => ?_) (fun _ => Comes.call awake7 (fun v4 h4 => Comes.ret h4)))) (fun hb => by rw [h1] at hb; cases hb)))
  obtain ⟨hfew, hright⟩ := h3.1 hf
  have ok := ok_of hw hfew hright
  refine Comes.bif (fun _ => Comes.call awake7 (fun v4 h4 => Comes.ret h4)) (fun hl => ?_)
  have hl := of_decide_eq_false hl
  have hpos : 0 < List.length (w.2.2.2.1 : List (den tPlace)) := by omega
  obtain ⟨i, hi, ei⟩ := index_of ha hpos
  obtain ⟨j, hj, ej⟩ := index_of hb hpos
  obtain ⟨k, hk, ek⟩ := index_of hc hpos
  rw [ei, ej, ek]
  have wij := treeWithin_iff w hright hi j
  have wji := treeWithin_iff w hright hj i
  have wjk := treeWithin_iff w hright hj k
  have wik := treeWithin_iff w hright hi k
  have tail : WiW w i j → Comes (fun n _ _ _ => Option.bind (tree_Root n w (i : Int)) fun r83 =>
                Option.bind (tree_Root n w (j : Int)) fun r84 =>
                bif (eqT tPlace r83.1.1 r84.1.1) then
                  Option.bind (tree_Depth n w (i : Int)) fun r85 =>
                  Option.bind (tree_Depth n w (j : Int)) fun r86 =>
                  bif (decide ((r86.1.1 : Int) ≤ (r85.1.1 : Int))) then
                    Option.bind (tree_Depth n w (i : Int)) fun r87 =>
                    Option.bind (tree_Depth n w (j : Int)) fun r88 =>
                    Option.bind (tree_Height n w (j : Int)) fun r89 =>
                    some (((decide ((r87.1.1 : Int) ≤ (IntKind.wrap .i64 ((r88.1.1 : Int) + (r89.1.1 : Int))))), ()), [])
                  else
                    some ((false, ()), [])
                else
                  some (((false, ()), []) : innkeeplaw07_TreeWithin.R)) (fun r => r.1.1 = true) := fun hw => by
    obtain ⟨_, f1, f2, _⟩ := hw.facts hright hi
    have f3 : depOf w i - depOf w j ≤ hgtOf w j := hgtL_ge (w := w) (i := j) hi hw
    have f4 : hgtOf w j ≤ 51 := hgt_le _
    have f5 : depOf w j ≤ 51 := depN_le w.2.2.2.1 51 (plOf w j)
    refine Comes.call (treeRoot_spec w hright hi) (fun a ha => Comes.call (treeRoot_spec w hright hj) (fun b hb => ?_))
    rw [ha, hb]
    refine Comes.bifT ((eqPl _ _).2 f1) (Comes.call (treeDepth_spec w hright hi) (fun c hc => Comes.call (treeDepth_spec w hright hj) (fun d hd => ?_)))
    rw [hc, hd]
    refine Comes.bifT (decide_eq_true (Int.ofNat_le.2 f2)) (Comes.call (treeDepth_spec w hright hi) (fun c hc => Comes.call (treeDepth_spec w hright hj) (fun d hd => Comes.call (treeHeight_spec w ok hj) (fun e he => Comes.ret ?_))))
    rw [hc, hd, he]
    refine decide_eq_true ?_
    show (depOf w i : Int) ≤ IntKind.wrap .i64 ((depOf w j : Int) + (hgtOf w j : Int))
    rw [wrap_id (by omega) (by omega)]
    omega
  -- the second half
  have last : Comes (fun n _ _ _ => Option.bind (tree_Within n w (i : Int) (j : Int)) fun r82 =>
              bif (!(r82.1.1 : Bool)) then
                some ((true, ()), [])
              else
                Option.bind (tree_Root n w (i : Int)) fun r83 =>
                Option.bind (tree_Root n w (j : Int)) fun r84 =>
                bif (eqT tPlace r83.1.1 r84.1.1) then
                  Option.bind (tree_Depth n w (i : Int)) fun r85 =>
                  Option.bind (tree_Depth n w (j : Int)) fun r86 =>
                  bif (decide ((r86.1.1 : Int) ≤ (r85.1.1 : Int))) then
                    Option.bind (tree_Depth n w (i : Int)) fun r87 =>
                    Option.bind (tree_Depth n w (j : Int)) fun r88 =>
                    Option.bind (tree_Height n w (j : Int)) fun r89 =>
                    some (((decide ((r87.1.1 : Int) ≤ (IntKind.wrap .i64 ((r88.1.1 : Int) + (r89.1.1 : Int))))), ()), [])
                  else
                    some ((false, ()), [])
                else
                  some (((false, ()), []) : innkeeplaw07_TreeWithin.R)) (fun r => r.1.1 = true) :=
    Comes.call wij (fun v hv => Comes.bifN (fun hb => tail (hv.1 hb)) (fun _ => Comes.ret rfl))
  have mid : ∀ {v : tree_Within.R}, (v.1.1 = true ↔ WiW w i j) → v.1.1 = true → Comes (fun n _ _ _ => Option.bind (tree_Within n w (j : Int) (k : Int)) fun r10 =>
                  bif (r10.1.1 : Bool) then
                    Option.bind (tree_Within n w (i : Int) (k : Int)) fun r11 =>
                    bif (!(r11.1.1 : Bool)) then
                      some ((false, ()), [])
                    else
                      Option.bind (tree_Within n w (i : Int) (j : Int)) fun r82 =>
              bif (!(r82.1.1 : Bool)) then
                some ((true, ()), [])
              else
                Option.bind (tree_Root n w (i : Int)) fun r83 =>
                Option.bind (tree_Root n w (j : Int)) fun r84 =>
                bif (eqT tPlace r83.1.1 r84.1.1) then
                  Option.bind (tree_Depth n w (i : Int)) fun r85 =>
                  Option.bind (tree_Depth n w (j : Int)) fun r86 =>
                  bif (decide ((r86.1.1 : Int) ≤ (r85.1.1 : Int))) then
                    Option.bind (tree_Depth n w (i : Int)) fun r87 =>
                    Option.bind (tree_Depth n w (j : Int)) fun r88 =>
                    Option.bind (tree_Height n w (j : Int)) fun r89 =>
                    some (((decide ((r87.1.1 : Int) ≤ (IntKind.wrap .i64 ((r88.1.1 : Int) + (r89.1.1 : Int))))), ()), [])
                  else
                    some ((false, ()), [])
                else
                  some (((false, ()), []) : innkeeplaw07_TreeWithin.R)
                  else
                    Option.bind (tree_Within n w (i : Int) (j : Int)) fun r82 =>
              bif (!(r82.1.1 : Bool)) then
                some ((true, ()), [])
              else
                Option.bind (tree_Root n w (i : Int)) fun r83 =>
                Option.bind (tree_Root n w (j : Int)) fun r84 =>
                bif (eqT tPlace r83.1.1 r84.1.1) then
                  Option.bind (tree_Depth n w (i : Int)) fun r85 =>
                  Option.bind (tree_Depth n w (j : Int)) fun r86 =>
                  bif (decide ((r86.1.1 : Int) ≤ (r85.1.1 : Int))) then
                    Option.bind (tree_Depth n w (i : Int)) fun r87 =>
                    Option.bind (tree_Depth n w (j : Int)) fun r88 =>
                    Option.bind (tree_Height n w (j : Int)) fun r89 =>
                    some (((decide ((r87.1.1 : Int) ≤ (IntKind.wrap .i64 ((r88.1.1 : Int) + (r89.1.1 : Int))))), ()), [])
                  else
                    some ((false, ()), [])
                else
                  some (((false, ()), []) : innkeeplaw07_TreeWithin.R)) (fun r => r.1.1 = true) := fun {v} hv hb =>
    Comes.call wjk (fun v2 h2 => Comes.bif (fun hb2 => Comes.call wik (fun v3 h3 => Comes.nT (h3.2 ((hv.1 hb).trans (h2.1 hb2))) last)) (fun _ => last))
  refine Comes.iteN hl (Comes.iteN hl (Comes.iteN hl (Comes.call (treeWithin_iff w hright hi i) (fun v6 h6 => Comes.nT (h6.2 (.refl i)) (Comes.call wij (fun v7 h7 => Comes.bif (fun b7 => Comes.call wji (fun v8 h8 => Comes.bif (fun b8 => ?_) (fun b8 => ?_))) (fun b7 => ?_)))))))
  · have hij : i = j := by
      have g1 := ((h7.1 b7).facts hright hi).2.2
      have g2 := ((h8.1 b8).facts hright hj).2.2
      by_cases e : i = j
      · exact e
      · have := g1.2 e
        have := g2.1
        omega
    refine Comes.nT (decide_eq_true (by rw [hij])) (Comes.call wij (fun v9 h9 => Comes.bif (fun b9 => mid h9 b9) (fun b9 => last)))
  · exact Comes.call wij (fun v9 h9 => Comes.bif (fun b9 => mid h9 b9) (fun b9 => last))
  · exact Comes.call wij (fun v9 h9 => Comes.bif (fun b9 => mid h9 b9) (fun b9 => last))
end Go.Proofs.Ytlnnpcgfhcaafaa.Ghost
