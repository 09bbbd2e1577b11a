/- What functions come to, and that the statements are answered with 'true'. Conditions: none. -/
import Derived.Test.YtlnnpcgfhcaafaaS
import Derived.Test.YtlnnpcgfhcaafaaGE
import Derived.Test.YtlnnpcgfhcaafaaP1
import Derived.Test.YtlnnpcgfhcaafaaP2
import Derived.Test.YtlnnpcgfhcaafaaP3
set_option linter.unusedVariables false
set_option linter.unusedSimpArgs false
set_option linter.unusedSectionVars false
set_option linter.unnecessarySimpa false
namespace Go.Proofs.Ytlnnpcgfhcaafaa.Ghost
open Go
theorem eqPl_f (x y : Pl) : eqT tPlace x y = false ↔ ¬ x = y := by rw [← eqPl, Bool.not_eq_true]
theorem wrap_sub {a b : Nat} (h : b ≤ a) (h1 : a < 4611686018427387904) : IntKind.wrap .i64 ((a : Int) - (b : Int)) = ((a - b : Nat) : Int) := by rw [wrap_id (by omega) (by omega)]; omega
theorem wrap_add {a b : Nat} (h1 : a < 2305843009213693952) (h2 : b < 2305843009213693952) : IntKind.wrap .i64 ((a : Int) + (b : Int)) = ((a + b : Nat) : Int) := by rw [wrap_id (by omega) (by omega)]; omega
theorem wrap_nat {a : Nat} (h : a < 9223372036854775808) : IntKind.wrap .i64 (a : Int) = (a : Int) := wrap_id (by omega) (by omega)
theorem wrap_one {a : Nat} (h : a < 9223372036854775807) : IntKind.wrap .i64 ((a : Int) + 1) = (a : Int) + 1 := wrap_id (by omega) (by omega)
theorem wrap1 : IntKind.wrap .i64 1 = 1 := by decide
theorem wrap0 : IntKind.wrap .i64 0 = 0 := by decide
/-- a right world with short lists -/
structure Fit (w : den tWorld) : Prop where
  few : FewP w
  right : RightP w
theorem Comes.fit {w : den tWorld} {F : Nat → Nat → Nat → Nat → Option (dShL [.d .bool] × Fresh)} (h : Comes F (fun r => r.1.1 = true ↔ FewP w ∧ RightP w)) : Comes F (fun r => r.1.1 = true ↔ Fit w) :=
  h.mono (fun _ hv => hv.trans ⟨fun e => ⟨e.1, e.2⟩, fun e => ⟨e.few, e.right⟩⟩)
theorem RightP.exits_pos {w : den tWorld} (h : RightP w) : 0 < List.length (w.1.1 : List (List Int)) := Int.ofNat_lt.1 (Int.lt_of_le_of_lt (h.at_ 0 h.pos).1.1 (h.at_ 0 h.pos).1.2)
end Go.Proofs.Ytlnnpcgfhcaafaa.Ghost
namespace Go.Proofs.Ytlnnpcgfhcaafaa.Ghost
open Go
theorem Comes.nT {R : Type} {Q : R → Prop} {c : Bool} {A B : Nat → Nat → Nat → Nat → Option R} (hc : c = true) (h : Comes B Q) : Comes (fun n m k j => bif (!c) then A n m k j else B n m k j) Q := Comes.bifN (fun _ => h) (fun e => by rw [hc] at e; cases e)
theorem Comes.nF {R : Type} {Q : R → Prop} {c : Bool} {A B : Nat → Nat → Nat → Nat → Option R} (hc : c = false) (h : Comes A Q) : Comes (fun n m k j => bif (!c) then A n m k j else B n m k j) Q := Comes.bifN (fun e => by rw [hc] at e; cases e) (fun _ => h)
theorem roomI_put (w : den tWorld) {k : Nat} (hk : k < List.length (w.2.2.2.1 : List (den tPlace))) (q p : Pl) : roomI (put w k q) p = roomI w p + (if List.getD (w.2.2.2.1 : List (den tPlace)) k (dft tPlace) = p then 1 else 0) - (if q = p then 1 else 0) := by
  unfold roomI
  rw [put_len]
  show capI w.1 p - (manyPl (List.set (w.2.2.2.1 : List (den tPlace)) k q) p _ : Int) = _
  have := manyPl_set w.2.2.2.1 k q p hk (List.length (w.2.2.2.1 : List (den tPlace)))
  simp only [hk, true_and] at this
  by_cases h1 : List.getD (w.2.2.2.1 : List (den tPlace)) k (dft tPlace) = p
  · rw [if_pos h1] at this ⊢
    by_cases h2 : q = p
    · rw [if_pos h2] at this ⊢; omega
    · rw [if_neg h2] at this ⊢; omega
  · rw [if_neg h1] at this ⊢
    by_cases h2 : q = p
    · rw [if_pos h2] at this ⊢; omega
    · rw [if_neg h2] at this ⊢; omega
end Go.Proofs.Ytlnnpcgfhcaafaa.Ghost
namespace Go.Proofs.Ytlnnpcgfhcaafaa.Ghost
open Go
theorem rootP_succ {l : List Pl} : (k : Nat) → (p : Pl) → Ends l k p → rootP l (k + 1) p = rootP l k p
  | 0, p, h => by
    have h : ¬ p.1 = (2 : Int) := h
    simp only [rootP]; rw [if_neg h]
  | k + 1, p, h => by
    show (if p.1 = (2 : Int) then rootP l (k + 1) (List.getD l (Int.toNat p.2.1) (dft tPlace)) else p) = (if p.1 = (2 : Int) then rootP l k (List.getD l (Int.toNat p.2.1) (dft tPlace)) else p)
    by_cases h2 : p.1 = (2 : Int)
    · rw [if_pos h2, if_pos h2, rootP_succ k _ (h h2)]
    · rw [if_neg h2, if_neg h2]
/-- what is in a box hangs from where the box does -/
theorem root_box {w : den tWorld} (h : RightP w) {j : Nat} (hj : j < List.length (w.2.2.2.1 : List (den tPlace))) (h2 : (plOf w j).1 = (2 : Int)) : ∃ b : Nat, (plOf w j).2.1 = (b : Int) ∧ b < List.length (w.2.2.2.1 : List (den tPlace)) ∧ rootOf w j = rootOf w b := by
  have hin := h.inPl j hj h2
  refine ⟨Int.toNat (plOf w j).2.1, (Int.toNat_of_nonneg hin.1).symm, (Int.toNat_lt hin.1).2 hin.2, ?_⟩
  have he : Ends w.2.2.2.1 50 (plOf w (Int.toNat (plOf w j).2.1)) := h.ends hj h2
  show rootP w.2.2.2.1 (50 + 1) (plOf w j) = rootP w.2.2.2.1 (50 + 1) (plOf w (Int.toNat (plOf w j).2.1))
  rw [rootP_succ 50 _ he]
  show (if (plOf w j).1 = (2 : Int) then _ else _) = _
  rw [if_pos h2]
end Go.Proofs.Ytlnnpcgfhcaafaa.Ghost
namespace Go.Proofs.Ytlnnpcgfhcaafaa.Ghost
open Go
theorem mem_und {w : den tWorld} {p : Pl} {s : Sn} : {n : Nat} → (s ∈ undL w p n ↔ ∃ j, j < n ∧ s = ((j : Int), plOf w j, ()) ∧ rootOf w j = p)
  | 0 => ⟨fun h => by simp [undL] at h, fun ⟨j, h, _⟩ => by omega⟩
  | n + 1 => by
    simp only [undL, List.mem_append]
    rw [mem_und (n := n)]
    constructor
    · rintro (⟨j, h1, h2⟩ | h)
      · exact ⟨j, by omega, h2⟩
      · by_cases hr : rootOf w n = p
        · rw [if_pos hr] at h; exact ⟨n, by omega, List.mem_singleton.1 h, hr⟩
        · rw [if_neg hr] at h; cases h
    · rintro ⟨j, h1, h2, h3⟩
      by_cases hj : j < n
      · exact .inl ⟨j, hj, h2, h3⟩
      · have : j = n := by omega
        subst this
        rw [if_pos h3]
        exact .inr (List.mem_singleton.2 h2)
theorem und_box {w : den tWorld} (h : RightP w) {p : Pl} {s : Sn} (hs : s ∈ undOf w p) (h2 : (s.2.1.1 : Int) = 2) : ∃ s', s' ∈ undOf w p ∧ (s'.1 : Int) = s.2.1.2.1 := by
  obtain ⟨j, hj, rfl, hr⟩ := mem_und.1 hs
  obtain ⟨b, e, hb, er⟩ := root_box h hj h2
  exact ⟨_, mem_und.2 ⟨b, hb, rfl, er.symm.trans hr⟩, e.symm⟩
end Go.Proofs.Ytlnnpcgfhcaafaa.Ghost
namespace Go.Proofs.Ytlnnpcgfhcaafaa.Ghost
open Go
inductive Wi (l : List Pl) : Nat → Nat → Prop
  | refl (i : Nat) : Wi l i i
  | step {i b j : Nat} (h2 : (List.getD l i (dft tPlace)).1 = (2 : Int)) (hb : (List.getD l i (dft tPlace)).2.1 = (b : Int)) (h : Wi l b j) : Wi l i j
theorem Wi.trans {l : List Pl} {i j k : Nat} (h : Wi l i j) (h' : Wi l j k) : Wi l i k := by
  induction h with
  | refl => exact h'
  | step h2 hb _ ih => exact .step h2 hb (ih h')
/-- the last box on the way -/
theorem Wi.last {l : List Pl} {i j : Nat} (h : Wi l i j) : i = j ∨ ∃ c, Wi l i c ∧ (List.getD l c (dft tPlace)).1 = (2 : Int) ∧ (List.getD l c (dft tPlace)).2.1 = (j : Int) := by
  induction h with
  | refl i => exact .inl rfl
  | @step i b j h2 hb h ih =>
    rcases ih with rfl | ⟨c, h3, h4, h5⟩
    · exact .inr ⟨i, .refl i, h2, hb⟩
    · exact .inr ⟨c, .step h2 hb h3, h4, h5⟩
theorem wi_of {l : List Pl} (hin : ∀ i, i < l.length → inPl l (List.getD l i (dft tPlace))) : (k : Nat) → (i j : Nat) → i < l.length → Ends l k (List.getD l i (dft tPlace)) → (withinP l k (i : Int) (j : Int) ↔ Wi l i j)
  | 0, i, j, hi, he => by
    have he : ¬ (List.getD l i (dft tPlace)).1 = (2 : Int) := he
    refine ⟨fun h => by rw [Int.ofNat.inj h]; exact .refl j, fun h => ?_⟩
    cases h with
    | refl => rfl
    | step h2 _ _ => exact absurd h2 he
  | k + 1, i, j, hi, he => by
    simp only [withinP, Int.toNat_natCast]
    constructor
    · rintro (h | ⟨h2, h⟩)
      · rw [Int.ofNat.inj h]; exact .refl j
      · have hb := hin i hi h2
        have e := (Int.toNat_of_nonneg hb.1).symm
        rw [e] at h
        exact .step h2 e ((wi_of hin k _ j ((Int.toNat_lt hb.1).2 hb.2) (he h2)).1 h)
    · intro h
      cases h with
      | refl => exact .inl rfl
      | @step _ b _ h2 hb h =>
        have hbn := hin i hi h2
        have he2 := he h2
        rw [hb] at hbn he2
        rw [Int.toNat_natCast] at he2
        refine .inr ⟨h2, ?_⟩
        rw [hb]
        exact (wi_of hin k b j (Int.ofNat_lt.1 hbn.2) he2).2 h
theorem Ends.succ {l : List Pl} : (k : Nat) → (p : Pl) → Ends l k p → Ends l (k + 1) p
  | 0, p, h => fun h2 => absurd h2 h
  | k + 1, p, h => fun h2 => Ends.succ k _ (h h2)
abbrev WiW (w : den tWorld) (i j : Nat) : Prop := Wi (w.2.2.2.1 : List Pl) i j
theorem refWithin_iff (w : den tWorld) (h : RightP w) {i : Nat} (hi : i < List.length (w.2.2.2.1 : List (den tPlace))) (j : Nat) : Comes (fun n _ _ _ => innkeepref07_Within n w (i : Int) (j : Int)) (fun r => r.1.1 = true ↔ WiW w i j) :=
  (refWithin_spec w h (j : Int) 51 i hi (h.ends hi)).mono (fun _ hv => hv.trans (wi_of h.inPl 51 i j hi (h.ends hi)))
/-! ### tree.Within -/
theorem chain_wi {l : List Pl} (hin : ∀ i, i < l.length → inPl l (List.getD l i (dft tPlace))) (j : Nat) : (k : Nat) → (i : Nat) → i < l.length → Ends l k (List.getD l i (dft tPlace)) → ((∃ x ∈ chain l k (List.getD l i (dft tPlace)), x = boxPl (j : Int)) ↔ (¬ i = j ∧ Wi l i j) ∨ ∃ b : Nat, (List.getD l i (dft tPlace)).1 = (2 : Int) ∧ (List.getD l i (dft tPlace)).2.1 = (b : Int) ∧ Wi l b j)
  | 0, i, hi, he => by
    have he : ¬ (List.getD l i (dft tPlace)).1 = (2 : Int) := he
    simp only [chain, List.mem_singleton]
    constructor
    · rintro ⟨x, rfl, hx⟩
      exact absurd (congrArg (fun p : Pl => (p.1 : Int)) hx) he
    · rintro (⟨h1, h2⟩ | ⟨b, h2, _⟩)
      · cases h2 with
        | refl => exact absurd rfl h1
        | step h2 _ _ => exact absurd h2 he
      · exact absurd h2 he
  | k + 1, i, hi, he => by
    simp only [chain]
    by_cases h2 : (List.getD l i (dft tPlace)).1 = (2 : Int)
    · rw [if_pos h2]
      have hb := hin i hi h2
      have e := (Int.toNat_of_nonneg hb.1).symm
      have hlt := (Int.toNat_lt hb.1).2 hb.2
      have ih := chain_wi hin j k _ hlt (he h2)
      constructor
      · rintro ⟨x, hx, rfl⟩
        refine .inr ⟨_, h2, e, ?_⟩
        rcases List.mem_cons.1 hx with hx | hx
        · have : (j : Int) = (List.getD l i (dft tPlace)).2.1 := congrArg (fun p : Pl => (p.2.1 : Int)) hx
          rw [← this, Int.toNat_natCast]; exact .refl j
        · rcases ih.1 ⟨_, hx, rfl⟩ with h | ⟨b', g1, g2, g3⟩
          · exact h.2
          · exact .step g1 g2 g3
      · intro h
        have key : ∀ b : Nat, (List.getD l i (dft tPlace)).2.1 = (b : Int) → Wi l b j → ∃ x ∈ List.getD l i (dft tPlace) :: chain l k (List.getD l (Int.toNat (List.getD l i (dft tPlace)).2.1) (dft tPlace)), x = boxPl (j : Int) := fun b hb' hw => by
          by_cases hbj : b = j
          · subst hbj
            exact ⟨_, List.mem_cons_self, Prod.ext h2 (Prod.ext hb' rfl)⟩
          · have eb : Int.toNat (List.getD l i (dft tPlace)).2.1 = b := by rw [hb', Int.toNat_natCast]
            rw [eb] at ih ⊢
            obtain ⟨x, hx, hxe⟩ := ih.2 (.inl ⟨hbj, hw⟩)
            exact ⟨x, List.mem_cons_of_mem _ hx, hxe⟩
        rcases h with ⟨h1, h3⟩ | ⟨b, _, g2, g3⟩
        · cases h3 with
          | refl => exact absurd rfl h1
          | @step _ b _ _ hb' hw => exact key b hb' hw
        · exact key b g2 g3
    · rw [if_neg h2]
      constructor
      · rintro ⟨x, hx, hxe⟩
        rw [List.mem_singleton.1 hx] at hxe
        exact absurd (congrArg (fun p : Pl => (p.1 : Int)) hxe) h2
      · rintro (⟨h1, h3⟩ | ⟨b, g1, _⟩)
        · cases h3 with
          | refl => exact absurd rfl h1
          | step g _ _ => exact absurd g h2
        · exact absurd g1 h2
theorem treeWithin_iff (w : den tWorld) (h : RightP w) {i : Nat} (hi : i < List.length (w.2.2.2.1 : List (den tPlace))) (j : Nat) : Comes (fun n _ _ _ => tree_Within n w (i : Int) (j : Int)) (fun r => r.1.1 = true ↔ WiW w i j) := by
  by_cases hij : i = j
  · subst hij
    refine Comes.succ (G := fun _ _ _ _ => some ((true, ()), [])) (fun n _ _ _ => ?_) (Comes.ret ⟨fun _ => .refl i, fun _ => rfl⟩)
    show (match (if (i : Int) = (i : Int) then some true else _ : Option Bool) with | some r => some ((r, ()), []) | none => none) = _
    rw [if_pos rfl]
  · have hne : ¬ (i : Int) = (j : Int) := fun e => hij (Int.ofNat.inj e)
    refine Comes.succ (G := fun _ _ _ _ => some (((chain w.2.2.2.1 51 (plOf w i)).any (fun x => eqT tPlace x (boxPl (j : Int))), ()), [])) (fun n _ _ _ => ?_) (Comes.ret ?_)
    · show (match (withinR w (i : Int) (j : Int)) with | some r => some ((r, ()), []) | none => none) = _
      unfold withinR
      rw [if_neg hne, if_pos ⟨Int.natCast_nonneg i, Int.ofNat_lt.2 hi⟩, Int.toNat_natCast, upL_chain h.inPl 51 60 _ (h.inPl i hi) (h.ends hi) (by omega)]
    · show (chain w.2.2.2.1 51 (plOf w i)).any (fun x => eqT tPlace x (boxPl (j : Int))) = true ↔ _
      rw [List.any_eq_true]
      have hc := chain_wi h.inPl j 51 i hi (h.ends hi)
      constructor
      · rintro ⟨x, hx, hxe⟩
        rcases hc.1 ⟨x, hx, (eqPl _ _).1 hxe⟩ with g | ⟨b, g1, g2, g3⟩
        · exact g.2
        · exact .step g1 g2 g3
      · intro hw
        obtain ⟨x, hx, hxe⟩ := hc.2 (.inl ⟨hij, hw⟩)
        exact ⟨x, hx, (eqPl _ _).2 hxe⟩
/-! ### Depths -/
theorem depN_succ {l : List Pl} : (k : Nat) → (p : Pl) → Ends l k p → depN l (k + 1) p = depN l k p
  | 0, p, h => by
    have h : ¬ p.1 = (2 : Int) := h
    simp only [depN]; rw [if_neg h]
  | k + 1, p, h => by
    show (if p.1 = (2 : Int) then depN l (k + 1) (List.getD l (Int.toNat p.2.1) (dft tPlace)) + 1 else 0) = (if p.1 = (2 : Int) then depN l k (List.getD l (Int.toNat p.2.1) (dft tPlace)) + 1 else 0)
    by_cases h2 : p.1 = (2 : Int)
    · rw [if_pos h2, if_pos h2, depN_succ k _ (h h2)]
    · rw [if_neg h2, if_neg h2]
theorem dep_top {w : den tWorld} {j : Nat} (h2 : ¬ (plOf w j).1 = (2 : Int)) : depOf w j = 0 := by
  show (if (plOf w j).1 = (2 : Int) then _ else 0) = 0
  rw [if_neg h2]
theorem dep_box {w : den tWorld} (h : RightP w) {j b : Nat} (hj : j < List.length (w.2.2.2.1 : List (den tPlace))) (h2 : (plOf w j).1 = (2 : Int)) (hb : (plOf w j).2.1 = (b : Int)) : b < List.length (w.2.2.2.1 : List (den tPlace)) ∧ depOf w j = depOf w b + 1 := by
  have hin := h.inPl j hj h2
  have e : Int.toNat (plOf w j).2.1 = b := by rw [hb, Int.toNat_natCast]
  refine ⟨by rw [← e]; exact (Int.toNat_lt hin.1).2 hin.2, ?_⟩
  have he : Ends w.2.2.2.1 50 (plOf w (Int.toNat (plOf w j).2.1)) := h.ends hj h2
  rw [e] at he
  show depN w.2.2.2.1 (50 + 1) (plOf w j) = depN w.2.2.2.1 (50 + 1) (plOf w b) + 1
  rw [depN_succ 50 _ he]
  show (if (plOf w j).1 = (2 : Int) then depN w.2.2.2.1 50 (plOf w (Int.toNat (plOf w j).2.1)) + 1 else 0) = _
  rw [if_pos h2, e]
theorem depI_N {l : List Pl} : (f c : Nat) → (p : Pl) → depI l f c p ≤ 4 → depI l f c p = c + depN l f p
  | 0, c, p, h => by
    simp only [depI, depN] at h ⊢
    by_cases h2 : p.1 = (2 : Int)
    · rw [if_pos h2] at h; omega
    · rw [if_neg h2]; rfl
  | f + 1, c, p, h => by
    simp only [depI, depN] at h ⊢
    by_cases h2 : p.1 = (2 : Int)
    · rw [if_pos h2] at h ⊢
      rw [if_pos h2]
      by_cases h50 : 50 < c + 1
      · rw [if_pos h50] at h; omega
      · rw [if_neg h50] at h ⊢
        rw [depI_N f (c + 1) _ h]; omega
    · rw [if_neg h2, if_neg h2]; rfl
theorem dep_le {w : den tWorld} (h : RightP w) {i : Nat} (hi : i < List.length (w.2.2.2.1 : List (den tPlace))) : depI w.2.2.2.1 51 0 (plOf w i) = depOf w i ∧ depOf w i ≤ 4 := by
  have h4 := (h.deep i hi).1
  have := depI_N 51 0 _ h4
  rw [Nat.zero_add] at this
  exact ⟨this, Nat.le_trans (Nat.le_of_eq this.symm) h4⟩
theorem treeDepth_spec (w : den tWorld) (h : RightP w) {i : Nat} (hi : i < List.length (w.2.2.2.1 : List (den tPlace))) : Comes (fun n _ _ _ => tree_Depth n w (i : Int)) (fun r => r.1.1 = (depOf w i : Int)) := by
  refine Comes.succ (fun n _ _ _ => tree_Depth.eq n w i) (Comes.call (up_spec w i) (fun v hv => ?_))
  subst hv
  refine Comes.call (collect_spec w h hi) (fun u hu => ?_)
  subst hu
  have hl : (chain w.2.2.2.1 51 (plOf w i)).length = depOf w i + 1 := chain_len w.2.2.2.1 51 (plOf w i)
  have hd : depOf w i ≤ 51 := depN_le w.2.2.2.1 51 (plOf w i)
  refine Comes.ret ?_
  show IntKind.wrap .i64 ((List.length (chain w.2.2.2.1 51 (plOf w i)) : Int) - 1) = (depOf w i : Int)
  rw [hl, wrap_id (by omega) (by omega)]; omega
theorem Wi.facts {w : den tWorld} (h : RightP w) {i j : Nat} (hw : WiW w i j) : i < List.length (w.2.2.2.1 : List (den tPlace)) → j < List.length (w.2.2.2.1 : List (den tPlace)) ∧ rootOf w i = rootOf w j ∧ depOf w j ≤ depOf w i ∧ (¬ i = j → depOf w j < depOf w i) := by
  induction hw with
  | refl i => exact fun hi => ⟨hi, rfl, Nat.le_refl _, fun e => absurd rfl e⟩
  | @step i b j h2 hb hw ih =>
    intro hi
    obtain ⟨hbl, hd⟩ := dep_box h hi h2 hb
    obtain ⟨b', e, _, er⟩ := root_box h hi h2
    obtain rfl : b = b' := Int.ofNat.inj (hb.symm.trans e)
    obtain ⟨i1, i2, i3, i4⟩ := ih hbl
    exact ⟨i1, er.trans i2, by omega, fun _ => by omega⟩
/-! ### Heights -/
open Classical in
noncomputable def hgtL (w : den tWorld) (i : Nat) : Nat → Nat
  | 0 => 0
  | n + 1 => Nat.max (hgtL w i n) (if WiW w n i then depOf w n - depOf w i else 0)
noncomputable abbrev hgtOf (w : den tWorld) (i : Nat) : Nat := hgtL w i (List.length (w.2.2.2.1 : List (den tPlace)))
theorem hgtL_ge {w : den tWorld} {i k : Nat} : {n : Nat} → k < n → WiW w k i → depOf w k - depOf w i ≤ hgtL w i n
  | 0, h, _ => by omega
  | n + 1, h, hw => by
    simp only [hgtL]
    by_cases hk : k < n
    · exact Nat.le_trans (hgtL_ge hk hw) (Nat.le_max_left _ _)
    · have : k = n := by omega
      subst this
      rw [if_pos hw]; exact Nat.le_max_right _ _
theorem hgtL_at {w : den tWorld} {i : Nat} : (n : Nat) → hgtL w i n = 0 ∨ ∃ k, k < n ∧ WiW w k i ∧ depOf w k - depOf w i = hgtL w i n
  | 0 => .inl rfl
  | n + 1 => by
    simp only [hgtL]
    by_cases hw : WiW w n i
    · rw [if_pos hw]
      rcases Nat.le_total (hgtL w i n) (depOf w n - depOf w i) with h | h
      · rw [show Nat.max _ _ = depOf w n - depOf w i from Nat.max_eq_right h]
        exact .inr ⟨n, by omega, hw, rfl⟩
      · rw [show Nat.max _ _ = hgtL w i n from Nat.max_eq_left h]
        rcases hgtL_at (w := w) (i := i) n with h1 | ⟨k, h1, h2, h3⟩
        · exact .inl h1
        · exact .inr ⟨k, by omega, h2, h3⟩
    · rw [if_neg hw, show Nat.max (hgtL w i n) 0 = hgtL w i n from Nat.max_eq_left (Nat.zero_le _)]
      rcases hgtL_at (w := w) (i := i) n with h1 | ⟨k, h1, h2, h3⟩
      · exact .inl h1
      · exact .inr ⟨k, by omega, h2, h3⟩
theorem hgt_le {w : den tWorld} {i : Nat} (n : Nat) : hgtL w i n ≤ 51 := by
  rcases hgtL_at (w := w) (i := i) n with h | ⟨k, _, _, h⟩
  · omega
  · have : depOf w k ≤ 51 := depN_le w.2.2.2.1 51 (plOf w k)
    omega
theorem max_if (a b : Nat) : (if (a : Int) < (b : Int) then (b : Int) else (a : Int)) = ((Nat.max a b : Nat) : Int) := by
  by_cases h : a < b
  · rw [if_pos (by omega), show Nat.max a b = b from Nat.max_eq_right (by omega)]
  · rw [if_neg (by omega), show Nat.max a b = a from Nat.max_eq_left (by omega)]
theorem treeHeight_l0 (w : den tWorld) (ok : Ok w) {i : Nat} (hi : i < List.length (w.2.2.2.1 : List (den tPlace))) (t0 : den tWorld) (t4 : Int) : (r n0 : Nat) → n0 + r = List.length (w.2.2.2.1 : List (den tPlace)) →
    Comes (fun n m _ _ => tree_Height.l0 n m t0 (i : Int) t4 (hgtL w i n0 : Int) (List.length (w.2.2.2.1 : List (den tPlace)) : Int) (n0 : Int) w) (fun r => r.1.1 = (hgtOf w i : Int))
  | 0, n0, hn => by
    refine Comes.succ1 (fun n m _ _ => tree_Height.l0_eq n m t0 i t4 _ _ n0 w) (Comes.bifF (decide_eq_false (by omega)) (Comes.ret ?_))
    rw [show n0 = List.length (w.2.2.2.1 : List (den tPlace)) by omega]
  | r + 1, n0, hn => by
    have hlen := ok.sm.wh
    have hl : n0 < List.length (w.2.2.2.1 : List (den tPlace)) := by omega
    have next := treeHeight_l0 w ok hi t0 t4 r (n0 + 1) (by omega)
    rw [← wrap_succ (by omega)] at next
    refine Comes.succ1 (fun n m _ _ => tree_Height.l0_eq n m t0 i t4 _ _ n0 w) (Comes.bifT (decide_eq_true (by omega)) (Comes.call (treeWithin_iff w ok.right hl i) (fun v hv => Comes.bif (fun hb => ?_) (fun hb => ?_))))
    · have hw := hv.1 hb
      refine Comes.call (treeDepth_spec w ok.right hl) (fun u hu => Comes.call (treeDepth_spec w ok.right hi) (fun u2 hu2 => ?_))
      rw [hu, hu2]
      obtain ⟨_, _, hd, _⟩ := hw.facts ok.right hl
      have h51 : depOf w n0 ≤ 51 := depN_le w.2.2.2.1 51 (plOf w n0)
      have e : IntKind.wrap .i64 ((depOf w n0 : Int) - (depOf w i : Int)) = ((depOf w n0 - depOf w i : Nat) : Int) := by rw [wrap_id (by omega) (by omega)]; omega
      rw [e, max_if]
      simp only [hgtL] at next
      rw [if_pos hw] at next
      exact next
    · have hw : ¬ WiW w n0 i := fun h => by rw [hv.2 h] at hb; cases hb
      simp only [hgtL] at next
      rw [if_neg hw, show Nat.max (hgtL w i n0) 0 = hgtL w i n0 from Nat.max_eq_left (Nat.zero_le _)] at next
      exact next
theorem treeHeight_spec (w : den tWorld) (ok : Ok w) {i : Nat} (hi : i < List.length (w.2.2.2.1 : List (den tPlace))) : Comes (fun n _ _ _ => tree_Height n w (i : Int)) (fun r => r.1.1 = (hgtOf w i : Int)) :=
  Comes.succ (fun n _ _ _ => tree_Height.eq n w i) (treeHeight_l0 w ok hi w 0 _ 0 (Nat.zero_add _)).enter
end Go.Proofs.Ytlnnpcgfhcaafaa.Ghost
namespace Go.Proofs.Ytlnnpcgfhcaafaa.Ghost
open Go
theorem refDepth_spec (w : den tWorld) (h : RightP w) {i : Nat} (hi : i < List.length (w.2.2.2.1 : List (den tPlace))) : Comes (fun n _ _ _ => innkeepref07_Depth n w (i : Int)) (fun r => r.1.1 = (depOf w i : Int)) := by
  refine Comes.succ (fun n _ _ _ => innkeepref07_Depth.eq n w i) (Comes.ite ⟨Int.natCast_nonneg i, Int.ofNat_lt.2 hi⟩ ?_)
  rw [Int.toNat_natCast]
  refine Comes.call (depth_spec w h.inPl _ (h.inPl i hi)) (fun v hv => Comes.ret ?_)
  rw [hv]
  show (depI w.2.2.2.1 51 0 (plOf w i) : Int) = _
  rw [(dep_le h hi).1]
noncomputable def kidL (w : den tWorld) (i : Nat) : Nat → Nat
  | 0 => 0
  | n + 1 => Nat.max (kidL w i n) (if plOf w n = boxPl (i : Int) then 1 + hgtOf w n else 0)
theorem kidL_ge {w : den tWorld} {i c : Nat} : {n : Nat} → c < n → plOf w c = boxPl (i : Int) → 1 + hgtOf w c ≤ kidL w i n
  | 0, h, _ => by omega
  | n + 1, h, hw => by
    simp only [kidL]
    by_cases hk : c < n
    · exact Nat.le_trans (kidL_ge hk hw) (Nat.le_max_left _ _)
    · have : c = n := by omega
      subst this
      rw [if_pos hw]; exact Nat.le_max_right _ _
theorem kidL_le {w : den tWorld} {i H : Nat} (hH : ∀ c, c < List.length (w.2.2.2.1 : List (den tPlace)) → plOf w c = boxPl (i : Int) → 1 + hgtOf w c ≤ H) : (n : Nat) → n ≤ List.length (w.2.2.2.1 : List (den tPlace)) → kidL w i n ≤ H
  | 0, _ => Nat.zero_le _
  | n + 1, hn => by
    simp only [kidL]
    refine Nat.max_le.2 ⟨kidL_le hH n (by omega), ?_⟩
    by_cases hw : plOf w n = boxPl (i : Int)
    · rw [if_pos hw]; exact hH n (by omega) hw
    · rw [if_neg hw]; exact Nat.zero_le _
theorem kid_hgt {w : den tWorld} (h : RightP w) {i : Nat} (hi : i < List.length (w.2.2.2.1 : List (den tPlace))) : kidL w i (List.length (w.2.2.2.1 : List (den tPlace))) = hgtOf w i := by
  refine Nat.le_antisymm (kidL_le (fun c hc hw => ?_) _ (Nat.le_refl _)) ?_
  · have h2 : (plOf w c).1 = (2 : Int) := by rw [hw]
    have hb : (plOf w c).2.1 = (i : Int) := by rw [hw]
    have wc : WiW w c i := .step h2 hb (.refl i)
    obtain ⟨_, hd⟩ := dep_box h hc h2 hb
    rcases hgtL_at (w := w) (i := c) (List.length (w.2.2.2.1 : List (den tPlace))) with h0 | ⟨k, k1, k2, k3⟩
    · have := hgtL_ge (w := w) hc wc
      show 1 + hgtL w c _ ≤ hgtL w i _
      omega
    · have := hgtL_ge (w := w) k1 (k2.trans wc)
      have := (k2.facts h k1).2.2.1
      show 1 + hgtL w c _ ≤ hgtL w i _
      omega
  · rcases hgtL_at (w := w) (i := i) (List.length (w.2.2.2.1 : List (den tPlace))) with h0 | ⟨k, k1, k2, k3⟩
    · show hgtL w i _ ≤ _
      omega
    · rcases Wi.last k2 with rfl | ⟨c, c1, c2, c3⟩
      · show hgtL w k _ ≤ _
        omega
      · have hc := (c1.facts h k1).1
        have hpl : plOf w c = boxPl (i : Int) := Prod.ext c2 (Prod.ext c3 rfl)
        obtain ⟨_, hd⟩ := dep_box h hc c2 c3
        have g1 := kidL_ge (w := w) (i := i) hc hpl
        have g2 := hgtL_ge (w := w) k1 c1
        have g1 : 1 + hgtL w c (List.length (w.2.2.2.1 : List (den tPlace))) ≤ kidL w i (List.length (w.2.2.2.1 : List (den tPlace))) := g1
        show hgtL w i _ ≤ _
        omega
theorem refHeight_l0 (w : den tWorld) (ok : Ok w) {i : Nat} (hi : i < List.length (w.2.2.2.1 : List (den tPlace))) (ih : ∀ c, c < List.length (w.2.2.2.1 : List (den tPlace)) → plOf w c = boxPl (i : Int) → Comes (fun n _ _ _ => innkeepref07_Height n w (c : Int)) (fun r => r.1.1 = (hgtOf w c : Int))) (t0 : den tWorld) (t4 : Int) : (r n0 : Nat) → n0 + r = List.length (w.2.2.2.1 : List (den tPlace)) →
    Comes (fun n m _ _ => innkeepref07_Height.l0 n m t0 (i : Int) t4 (kidL w i n0 : Int) (n0 : Int) w) (fun r => r.1.1 = (hgtOf w i : Int))
  | 0, n0, hn => by
    refine Comes.succ1 (fun n m _ _ => innkeepref07_Height.l0_eq n m t0 i t4 _ n0 w) (Comes.bifF (decide_eq_false (by omega)) (Comes.ret ?_))
    rw [show n0 = List.length (w.2.2.2.1 : List (den tPlace)) by omega, kid_hgt ok.right hi]
  | r + 1, n0, hn => by
    have hlen := ok.sm.wh
    have hl : n0 < List.length (w.2.2.2.1 : List (den tPlace)) := by omega
    have next := refHeight_l0 w ok hi ih t0 t4 r (n0 + 1) (by omega)
    rw [← wrap_succ (by omega)] at next
    refine Comes.succ1 (fun n m _ _ => innkeepref07_Height.l0_eq n m t0 i t4 _ n0 w) (Comes.bifT (decide_eq_true (by omega)) (Comes.ite (by omega) ?_))
    rw [Int.toNat_natCast]
    refine Comes.bif (fun hb => ?_) (fun hb => ?_)
    · have hw : plOf w n0 = boxPl (i : Int) := (eqPl _ _).1 hb
      refine Comes.call (ih n0 hl hw) (fun u hu => ?_)
      rw [hu]
      have h51 : hgtOf w n0 ≤ 51 := hgt_le _
      have e : IntKind.wrap .i64 (1 + (hgtOf w n0 : Int)) = ((1 + hgtOf w n0 : Nat) : Int) := by rw [wrap_id (by omega) (by omega)]; omega
      rw [e, max_if]
      simp only [kidL] at next
      rw [if_pos hw] at next
      exact next
    · have hw : ¬ plOf w n0 = boxPl (i : Int) := fun h => by rw [(eqPl _ _).2 h] at hb; cases hb
      simp only [kidL] at next
      rw [if_neg hw, show Nat.max (kidL w i n0) 0 = kidL w i n0 from Nat.max_eq_left (Nat.zero_le _)] at next
      exact next
theorem refHeight_spec (w : den tWorld) (ok : Ok w) : (d : Nat) → (i : Nat) → i < List.length (w.2.2.2.1 : List (den tPlace)) → 5 ≤ depOf w i + d → Comes (fun n _ _ _ => innkeepref07_Height n w (i : Int)) (fun r => r.1.1 = (hgtOf w i : Int))
  | 0, i, hi, hd => by
    have := (dep_le ok.right hi).2
    omega
  | d + 1, i, hi, hd => by
    refine Comes.succ (fun n _ _ _ => innkeepref07_Height.eq n w i) (refHeight_l0 w ok hi (fun c hc hw => ?_) w 0 _ 0 (Nat.zero_add _)).enter
    have h2 : (plOf w c).1 = (2 : Int) := by rw [hw]
    have hb : (plOf w c).2.1 = (i : Int) := by rw [hw]
    obtain ⟨_, he⟩ := dep_box ok.right hc h2 hb
    exact refHeight_spec w ok d c hc (by omega)
end Go.Proofs.Ytlnnpcgfhcaafaa.Ghost
