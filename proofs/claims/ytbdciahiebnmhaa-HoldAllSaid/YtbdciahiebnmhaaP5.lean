/- What functions come to, and that the statements are answered with 'true'. Conditions: none. -/
import Derived.Test.YtbdciahiebnmhaaP4
set_option linter.unusedVariables false
set_option linter.unusedSimpArgs false
set_option linter.unusedSectionVars false
set_option linter.unnecessarySimpa false
namespace Go.Proofs.Ytbdciahiebnmhaa.Ghost
open Go
theorem item_of {a : Int} (h : wfD (.int .u8) a) {n : Nat} (hn : 0 < n) : ∃ i : Nat, i < n ∧ Int.tmod (IntKind.wrap .i64 a) (n : Int) = (i : Int) := index_of h hn
theorem floor_ne_me (w : den tWorld) (i j : Nat) : ¬ floorOf w i = meOf j := fun e => by
  have : (0 : Int) = 1 := congrArg (fun p : Pl => (p.1 : Int)) e
  cases this
theorem floor_not_box (w : den tWorld) (i : Nat) : ¬ (floorOf w i).1 = (2 : Int) := fun e => by
  have : (0 : Int) = 2 := e
  cases this
theorem me_not_box (i : Nat) : ¬ (meOf i).1 = (2 : Int) := fun e => by
  have : (1 : Int) = 2 := e
  cases this
theorem RightP.good_floor {w : den tWorld} (h : RightP w) {i : Nat} (hi : i < List.length (w.2.1 : List Int)) : GoodPl w.1 (floorOf w i) := .inl ⟨rfl, (h.at_ i hi).1⟩
theorem RightP.good_me {w : den tWorld} (h : RightP w) {i : Nat} (hi : i < List.length (w.2.1 : List Int)) : GoodPl w.1 (meOf i) := by
  have := h.a1
  exact .inr (.inl ⟨rfl, Int.natCast_nonneg i, Int.ofNat_lt.2 (by omega)⟩)
theorem passErr_in {w : den tWorld} {k : Nat} (hk : k < List.length (w.2.2.2.1 : List (den tPlace))) (p q : Pl) : passErr w (k : Int) p q = if List.getD (w.2.2.2.1 : List (den tPlace)) k (dft tPlace) = p then (if roomI w q < 1 then 9 else 0) else 5 := by
  unfold passErr
  rw [if_neg (by omega), if_neg (by omega), Int.toNat_natCast]
/-! ### HoldOther -/
theorem other_l0 (w : den tWorld) (ok : Ok w) (k : Nat) (hk : k < List.length (w.2.2.2.1 : List (den tPlace))) (t0 : den tWorld) (t1 : Int) (t4 : Bool) : (r i : Nat) → i + r = List.length (w.2.1 : List Int) → (d : Nat) →
    (d = if (List.getD (w.2.2.2.1 : List (den tPlace)) k (dft tPlace)).1 = (1 : Int) ∧ (List.getD (w.2.2.2.1 : List (den tPlace)) k (dft tPlace)).2.1 < (i : Int) then 1 else 0) →
    Comes (fun n m _ _ => innkeeplaw09_HoldOther.l0 n m t0 t1 t4 (k : Int) (d : Int) (i : Int) w) (fun r => r.1.1 = true)
  | 0, i, hi, d, hd => by
    refine Comes.succ1 (fun n m _ _ => innkeeplaw09_HoldOther.l0_eq n m t0 t1 t4 k d i w) (Comes.bif (fun h => ?_) (fun h => ?_))
    · have := of_decide_eq_true h; omega
    · have hg := ok.right.good k hk
      have ha := ok.right.a1
      rw [Int.toNat_natCast]
      have e : (d = 1 ∧ (List.getD (w.2.2.2.1 : List (den tPlace)) k (dft tPlace)).1 = (1 : Int)) ∨ (d = 0 ∧ ¬ (List.getD (w.2.2.2.1 : List (den tPlace)) k (dft tPlace)).1 = (1 : Int)) := by
        rcases hg with ⟨a, _⟩ | ⟨a, b, c⟩ | ⟨a, _⟩
        · have hn : ¬ (List.getD (w.2.2.2.1 : List (den tPlace)) k (dft tPlace)).1 = (1 : Int) := fun e => by rw [a] at e; cases e
          exact .inr ⟨by rw [hd, if_neg (fun h => hn h.1)], hn⟩
        · have hlt : (List.getD (w.2.2.2.1 : List (den tPlace)) k (dft tPlace)).2.1 < (i : Int) := by
            have : (i : Int) = (List.length (w.1.2.1 : List Int) : Int) := by omega
            rw [this]; exact c
          exact .inl ⟨by rw [hd, if_pos ⟨a, hlt⟩], a⟩
        · have hn : ¬ (List.getD (w.2.2.2.1 : List (den tPlace)) k (dft tPlace)).1 = (1 : Int) := fun e => by rw [a] at e; cases e
          exact .inr ⟨by rw [hd, if_neg (fun h => hn h.1)], hn⟩
      rcases e with ⟨e1, e2⟩ | ⟨e1, e2⟩
      · subst e1
        refine Comes.bifT (by decide) (Comes.ite (by omega) (Comes.ret ?_))
        show eqT .bool (decide (((1 : Nat) : Int) = 1)) (decide ((List.getD (w.2.2.2.1 : List (den tPlace)) k (dft tPlace)).1 = (1 : Int))) = true
        rw [decide_eq_true e2]; rfl
      · subst e1
        refine Comes.bifT (by decide) (Comes.ite (by omega) (Comes.ret ?_))
        show eqT .bool (decide (((0 : Nat) : Int) = 1)) (decide ((List.getD (w.2.2.2.1 : List (den tPlace)) k (dft tPlace)).1 = (1 : Int))) = true
        rw [decide_eq_false e2]; rfl
  | r + 1, i, hi, d, hd => by
    have hs := ok.sm.a
    have hi' : i < List.length (w.2.1 : List Int) := by omega
    refine Comes.succ1 (fun n m _ _ => innkeeplaw09_HoldOther.l0_eq n m t0 t1 t4 k d i w) (Comes.bif (fun h => ?_) (fun h => ?_))
    · refine Comes.call (get_spec w ok hi' k) (fun v6 h6 => Comes.call (drop_spec w ok hi' k) (fun v7 h7 => ?_))
      have e6 : v6.1.2.1 = passErr w k (floorOf w i) (meOf i) := by
        rw [h6.1]; unfold getR passR; split
        · rename_i hz; rw [hz]
        · rfl
      have e7 : v7.1.2.1 = passErr w k (meOf i) (floorOf w i) := by
        rw [h7]; unfold dropR passR; split
        · rename_i hz; rw [hz]
        · rfl
      rw [Int.toNat_natCast, Int.toNat_natCast, e6, e7, passErr_in hk, passErr_in hk]
      have hf : ((0, (List.getD (w.2.1 : List Int) i (0 : Int)), ()) : Pl) = floorOf w i := rfl
      have hm : ((1, (i : Int), ()) : Pl) = meOf i := rfl
      rw [hf, hm]
      have next : (d' : Nat) → (d' = if (List.getD (w.2.2.2.1 : List (den tPlace)) k (dft tPlace)).1 = (1 : Int) ∧ (List.getD (w.2.2.2.1 : List (den tPlace)) k (dft tPlace)).2.1 < ((i + 1 : Nat) : Int) then 1 else 0) →
          Comes (fun n m _ _ => innkeeplaw09_HoldOther.l0 n m t0 t1 t4 (k : Int) (d' : Int) (IntKind.wrap .i64 ((i : Int) + 1)) w) (fun r => r.1.1 = true) := fun d' hd' => by
        rw [wrap_succ (by omega)]
        exact other_l0 w ok k hk t0 t1 t4 r (i + 1) (by omega) d' hd'
      have hmn : (List.getD (w.2.2.2.1 : List (den tPlace)) k (dft tPlace) = meOf i) ↔ ((List.getD (w.2.2.2.1 : List (den tPlace)) k (dft tPlace)).1 = (1 : Int) ∧ (List.getD (w.2.2.2.1 : List (den tPlace)) k (dft tPlace)).2.1 = (i : Int)) :=
        ⟨fun e => by rw [e]; exact ⟨rfl, rfl⟩, fun ⟨a, b⟩ => Prod.ext a (Prod.ext b rfl)⟩
      by_cases hme : List.getD (w.2.2.2.1 : List (den tPlace)) k (dft tPlace) = meOf i
      · have hnf : ¬ List.getD (w.2.2.2.1 : List (den tPlace)) k (dft tPlace) = floorOf w i := fun e => floor_ne_me w i i (e.symm.trans hme)
        have hx := hmn.1 hme
        have hd0 : d = 0 := by rw [hd, if_neg (fun h => by rw [hx.2] at h; exact absurd h.2 (Int.lt_irrefl _))]
        rw [if_neg hnf, if_pos hme]
        have h5 : ¬ (if roomI w (floorOf w i) < 1 then (9 : Int) else 0) = 5 := by split <;> decide
        subst hd0
        refine Comes.bifN (fun hb => absurd (of_decide_eq_true hb) h5) (fun _ => Comes.ite (by omega) (Comes.ite (by omega) (Comes.bifN (fun _ => Comes.ite (by omega) (Comes.bifN (fun _ => ?_) (fun hb => ?_))) (fun hb => ?_))))
        · rw [wrap_succ (i := 0) (by omega)]
          refine next 1 ?_
          rw [if_pos ⟨hx.1, by rw [hx.2]; exact Int.ofNat_lt.2 (Nat.lt_succ_self i)⟩]
        · rw [decide_eq_false h5, (eqPl _ _).2 hme] at hb; cases hb
        · have h9 : eqT tPlace (List.getD (w.2.2.2.1 : List (den tPlace)) k (dft tPlace)) (floorOf w i) = false := by
            cases hq : eqT tPlace (List.getD (w.2.2.2.1 : List (den tPlace)) k (dft tPlace)) (floorOf w i) with
            | false => rfl
            | true => exact absurd ((eqPl _ _).1 hq) hnf
          rw [h9] at hb; cases hb
      · have hq2 : eqT tPlace (List.getD (w.2.2.2.1 : List (den tPlace)) k (dft tPlace)) (meOf i) = false := by
          cases hq : eqT tPlace (List.getD (w.2.2.2.1 : List (den tPlace)) k (dft tPlace)) (meOf i) with
          | false => rfl
          | true => exact absurd ((eqPl _ _).1 hq) hme
        rw [if_neg hme]
        have hd' : d = if (List.getD (w.2.2.2.1 : List (den tPlace)) k (dft tPlace)).1 = (1 : Int) ∧ (List.getD (w.2.2.2.1 : List (den tPlace)) k (dft tPlace)).2.1 < ((i + 1 : Nat) : Int) then 1 else 0 := by
          rw [hd]
          by_cases h1 : (List.getD (w.2.2.2.1 : List (den tPlace)) k (dft tPlace)).1 = (1 : Int)
          · have hne : ¬ (List.getD (w.2.2.2.1 : List (den tPlace)) k (dft tPlace)).2.1 = (i : Int) := fun e => hme (hmn.2 ⟨h1, e⟩)
            have key : ∀ y : Int, ¬ y = (i : Int) → (y < (i : Int) ↔ y < ((i + 1 : Nat) : Int)) := fun y hy => by omega
            have := key _ hne
            by_cases h2 : (List.getD (w.2.2.2.1 : List (den tPlace)) k (dft tPlace)).2.1 < (i : Int)
            · rw [if_pos ⟨h1, h2⟩, if_pos ⟨h1, this.1 h2⟩]
            · rw [if_neg (fun h => h2 h.2), if_neg (fun h => h2 (this.2 h.2))]
          · rw [if_neg (fun h => h1 h.1), if_neg (fun h => h1 h.1)]
        refine Comes.bifN (fun _ => Comes.ite (by omega) (Comes.ite (by omega) (Comes.bifN (fun _ => Comes.ite (by omega) (Comes.bifN (fun _ => next d hd') (fun hb => ?_))) (fun hb => ?_)))) (fun hb => absurd rfl (of_decide_eq_false hb))
        · rw [hq2] at hb; cases hb
        · by_cases hfl : List.getD (w.2.2.2.1 : List (den tPlace)) k (dft tPlace) = floorOf w i
          · rw [if_pos hfl, (eqPl _ _).2 hfl] at hb
            have h5 : ¬ (if roomI w (meOf i) < 1 then (9 : Int) else 0) = 5 := by split <;> decide
            rw [decide_eq_false h5] at hb; cases hb
          · have h9 : eqT tPlace (List.getD (w.2.2.2.1 : List (den tPlace)) k (dft tPlace)) (floorOf w i) = false := by
              cases hq : eqT tPlace (List.getD (w.2.2.2.1 : List (den tPlace)) k (dft tPlace)) (floorOf w i) with
              | false => rfl
              | true => exact absurd ((eqPl _ _).1 hq) hfl
            rw [if_neg hfl, h9] at hb; cases hb
    · have := of_decide_eq_false h; omega
theorem holdOther_true (w : den tWorld) (item : Int) (hw : wfD tWorld w) (hi : wfD (.int .u8) item) : Comes (fun n _ _ _ => innkeeplaw09_HoldOther n w item) (fun r => r.1.1 = true) := by
  refine Comes.succ (fun n _ _ _ => innkeeplaw09_HoldOther.eq n w item) (Comes.call awake9 (fun v1 h1 => Comes.bifN (fun _ => Comes.call (fits9 w) (fun v3 h3 => Comes.bifN (fun hf => ?_) (fun _ => Comes.call awake9 (fun v4 h4 => Comes.ret h4)))) (fun hb => by rw [h1] at hb; cases hb)))
  obtain ⟨hfew, hright⟩ := h3.1 hf
  have ok := ok_of hw hfew hright
  refine Comes.bif (fun _ => Comes.call awake9 (fun v4 h4 => Comes.ret h4)) (fun hl => ?_)
  have hl := of_decide_eq_false hl
  obtain ⟨k, hk, ek⟩ := item_of hi (show 0 < List.length (w.2.2.2.1 : List (den tPlace)) by omega)
  rw [ek]
  refine Comes.iteN hl (other_l0 w ok k hk w item false _ 0 (Nat.zero_add _) 0 ?_).enter
  rw [if_neg]
  rintro ⟨h1, h2⟩
  rcases ok.right.good k hk with ⟨a, _⟩ | ⟨_, b, _⟩ | ⟨a, _⟩
  · rw [h1] at a; cases a
  · exact absurd h2 (Int.not_lt.2 b)
  · rw [h1] at a; cases a
/-! ### HoldKeeps -/
theorem keeps_l0 (w x : den tWorld) (hw : Sm w) (t0 : den tWorld) (t1 t2 : Int) (t6 : Bool) (t9 : Int) : (r i : Nat) → (l : List Pl) → l.length ≤ 1048576 → i + r = l.length → Comes (fun n m _ _ => innkeeplaw09_HoldKeeps.l0 n m t0 t1 t2 t6 t9 (i : Int) w w x l) (fun r => r.1.1 = true)
  | 0, i, l, hl, hi => by
    refine Comes.succ1 (fun n m _ _ => innkeeplaw09_HoldKeeps.l0_eq n m t0 t1 t2 t6 t9 i w w x l) (Comes.bif (fun h => ?_) (fun h => ?_))
    · have := of_decide_eq_true h; omega
    · exact Comes.call (same_spec _ _ hw hw) (fun v hv => Comes.ret (hv.2 rfl))
  | r + 1, i, l, hl, hi => by
    refine Comes.succ1 (fun n m _ _ => innkeeplaw09_HoldKeeps.l0_eq n m t0 t1 t2 t6 t9 i w w x l) (Comes.bif (fun h => Comes.ite (by omega) ?_) (fun h => ?_))
    · rw [wrap_succ (by omega)]
      exact keeps_l0 w x hw t0 t1 t2 t6 t9 r (i + 1) _ (by rw [List.length_set]; exact hl) (by rw [List.length_set]; omega)
    · have := of_decide_eq_false h; omega
theorem holdKeeps_true (w : den tWorld) (p item : Int) (hw : wfD tWorld w) (hp : wfD (.int .u8) p) (_hi : wfD (.int .i64) item) : Comes (fun n _ _ _ => innkeeplaw09_HoldKeeps n w p item) (fun r => r.1.1 = true) := by
  refine Comes.succ (fun n _ _ _ => innkeeplaw09_HoldKeeps.eq n w p item) (Comes.call awake9 (fun v1 h1 => Comes.bifN (fun _ => Comes.call (fits9 w) (fun v3 h3 => Comes.bifN (fun hf => ?_) (fun _ => Comes.call awake9 (fun v4 h4 => Comes.ret h4)))) (fun hb => by rw [h1] at hb; cases hb)))
  obtain ⟨hfew, hright⟩ := h3.1 hf
  have ok := ok_of hw hfew hright
  obtain ⟨i, hi, ei⟩ := index_of hp hright.pos
  have hpos := hright.pos
  rw [ei]
  refine Comes.call (copied_spec w ok.sm) (fun v5 h5 => ?_)
  subst h5
  refine Comes.iteN (by omega) (Comes.call (get_spec w ok hi item) (fun v6 h6 => ?_))
  obtain ⟨x6, f6⟩ := v6
  obtain ⟨h6, hf6⟩ := h6
  simp only at h6 hf6
  subst h6 hf6
  by_cases hz : passErr w item (floorOf w i) (meOf i) = 0
  · rw [if_pos hz]
    have eg : getR w i item = (put w (Int.toNat item) (meOf i), 0, ()) := if_pos hz
    rw [eg]
    refine Comes.bifT rfl (Comes.iteN (by omega) (Comes.call (drop_spec w ok hi item) (fun v7 h7 => Comes.bifT rfl ?_)))
    exact (keeps_l0 w _ ok.sm w p item false _ _ 0 _ (sm_put ok.sm _ _).wh (Nat.zero_add _)).enter
  · rw [if_neg hz]
    have eg : getR w i item = (w, passErr w item (floorOf w i) (meOf i), ()) := if_neg hz
    rw [eg]
    refine Comes.bifF rfl (Comes.iteN (by omega) (Comes.call (drop_spec w ok hi item) (fun v7 h7 => Comes.bifF (decide_eq_false hz) ?_)))
    exact Comes.call (same_spec _ _ ok.sm ok.sm) (fun v hv => Comes.ret (hv.2 rfl))
end Go.Proofs.Ytbdciahiebnmhaa.Ghost
