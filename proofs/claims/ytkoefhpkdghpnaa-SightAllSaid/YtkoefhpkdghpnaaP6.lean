/- What functions come to, and that the statements are answered with 'true'. Conditions: none. -/
import Derived.Test.YtkoefhpkdghpnaaS
import Derived.Test.YtkoefhpkdghpnaaGE
import Derived.Test.YtkoefhpkdghpnaaP1
import Derived.Test.YtkoefhpkdghpnaaP2
import Derived.Test.YtkoefhpkdghpnaaP3
import Derived.Test.YtkoefhpkdghpnaaP4
import Derived.Test.YtkoefhpkdghpnaaP5
set_option linter.unusedVariables false
set_option linter.unusedSimpArgs false
set_option linter.unusedSectionVars false
set_option linter.unnecessarySimpa false
namespace Go.Proofs.Ytkoefhpkdghpnaa.Ghost
open Go
abbrev boxPl (b : Int) : Pl := ((2 : Int), b, ())
end Go.Proofs.Ytkoefhpkdghpnaa.Ghost
namespace Go.Proofs.Ytkoefhpkdghpnaa.Ghost
open Go
theorem eqPl_f (x y : Pl) : eqT tPlace x y = false ↔ ¬ x = y := by rw [← eqPl, Bool.not_eq_true]
theorem eqPl_dec (x y : Pl) : eqT tPlace x y = dec (x = y) := by
  by_cases h : x = y
  · rw [(eqPl _ _).2 h, dec_true.2 h]
  · rw [(eqPl_f _ _).2 h, dec_false.2 h]
theorem wrap_sub {a b : Nat} (h : b ≤ a) (h1 : a < 4611686018427387904) : IntKind.wrap .i64 ((a : Int) - (b : Int)) = ((a - b : Nat) : Int) := by rw [wrap_id (by omega) (by omega)]; omega
theorem wrap_add {a b : Nat} (h1 : a < 2305843009213693952) (h2 : b < 2305843009213693952) : IntKind.wrap .i64 ((a : Int) + (b : Int)) = ((a + b : Nat) : Int) := by rw [wrap_id (by omega) (by omega)]; omega
theorem wrap_nat {a : Nat} (h : a < 9223372036854775808) : IntKind.wrap .i64 (a : Int) = (a : Int) := wrap_id (by omega) (by omega)
theorem wrap_one {a : Nat} (h : a < 9223372036854775807) : IntKind.wrap .i64 ((a : Int) + 1) = (a : Int) + 1 := wrap_id (by omega) (by omega)
theorem wrap1 : IntKind.wrap .i64 1 = 1 := by decide
theorem wrap0 : IntKind.wrap .i64 0 = 0 := by decide
/-- a right world with short lists -/
structure Fit (w : den tWorld) : Prop where
  few : FewP w
  right : RightP w
theorem Comes.fit {w : den tWorld} {F : Nat → Nat → Nat → Nat → Option (dShL [.d .bool] × Fresh)} (h : Comes F (fun r => r.1.1 = true ↔ FewP w ∧ RightP w)) : Comes F (fun r => r.1.1 = true ↔ Fit w) :=
  h.mono (fun _ hv => hv.trans ⟨fun e => ⟨e.1, e.2⟩, fun e => ⟨e.few, e.right⟩⟩)
theorem RightP.exits_pos {w : den tWorld} (h : RightP w) : 0 < List.length (w.1.1 : List (List Int)) := Int.ofNat_lt.1 (Int.lt_of_le_of_lt (h.at_ 0 h.pos).1.1 (h.at_ 0 h.pos).1.2)
end Go.Proofs.Ytkoefhpkdghpnaa.Ghost
namespace Go.Proofs.Ytkoefhpkdghpnaa.Ghost
open Go
inductive Wi (l : List Pl) : Nat → Nat → Prop
  | refl (i : Nat) : Wi l i i
  | step {i b j : Nat} (h2 : (List.getD l i (dft tPlace)).1 = (2 : Int)) (hb : (List.getD l i (dft tPlace)).2.1 = (b : Int)) (h : Wi l b j) : Wi l i j
theorem Wi.trans {l : List Pl} {i j k : Nat} (h : Wi l i j) (h' : Wi l j k) : Wi l i k := by
  induction h with
  | refl => exact h'
  | step h2 hb _ ih => exact .step h2 hb (ih h')
/-- the last box on the way -/
theorem Wi.last {l : List Pl} {i j : Nat} (h : Wi l i j) : i = j ∨ ∃ c, Wi l i c ∧ (List.getD l c (dft tPlace)).1 = (2 : Int) ∧ (List.getD l c (dft tPlace)).2.1 = (j : Int) := by
  induction h with
  | refl i => exact .inl rfl
  | @step i b j h2 hb h ih =>
    rcases ih with rfl | ⟨c, h3, h4, h5⟩
    · exact .inr ⟨i, .refl i, h2, hb⟩
    · exact .inr ⟨c, .step h2 hb h3, h4, h5⟩
theorem wi_of {l : List Pl} (hin : ∀ i, i < l.length → inPl l (List.getD l i (dft tPlace))) : (k : Nat) → (i j : Nat) → i < l.length → Ends l k (List.getD l i (dft tPlace)) → (withinP l k (i : Int) (j : Int) ↔ Wi l i j)
  | 0, i, j, hi, he => by
    have he : ¬ (List.getD l i (dft tPlace)).1 = (2 : Int) := he
    refine ⟨fun h => by rw [Int.ofNat.inj h]; exact .refl j, fun h => ?_⟩
    cases h with
    | refl => rfl
    | step h2 _ _ => exact absurd h2 he
  | k + 1, i, j, hi, he => by
    simp only [withinP, Int.toNat_natCast]
    constructor
    · rintro (h | ⟨h2, h⟩)
      · rw [Int.ofNat.inj h]; exact .refl j
      · have hb := hin i hi h2
        have e := (Int.toNat_of_nonneg hb.1).symm
        rw [e] at h
        exact .step h2 e ((wi_of hin k _ j ((Int.toNat_lt hb.1).2 hb.2) (he h2)).1 h)
    · intro h
      cases h with
      | refl => exact .inl rfl
      | @step _ b _ h2 hb h =>
        have hbn := hin i hi h2
        have he2 := he h2
        rw [hb] at hbn he2
        rw [Int.toNat_natCast] at he2
        refine .inr ⟨h2, ?_⟩
        rw [hb]
        exact (wi_of hin k b j (Int.ofNat_lt.1 hbn.2) he2).2 h
theorem Ends.succ {l : List Pl} : (k : Nat) → (p : Pl) → Ends l k p → Ends l (k + 1) p
  | 0, p, h => fun h2 => absurd h2 h
  | k + 1, p, h => fun h2 => Ends.succ k _ (h h2)
abbrev WiW (w : den tWorld) (i j : Nat) : Prop := Wi (w.2.2.2.1 : List Pl) i j
/-! ### tree.Within -/
theorem chain_wi {l : List Pl} (hin : ∀ i, i < l.length → inPl l (List.getD l i (dft tPlace))) (j : Nat) : (k : Nat) → (i : Nat) → i < l.length → Ends l k (List.getD l i (dft tPlace)) → ((∃ x ∈ chain l k (List.getD l i (dft tPlace)), x = boxPl (j : Int)) ↔ (¬ i = j ∧ Wi l i j) ∨ ∃ b : Nat, (List.getD l i (dft tPlace)).1 = (2 : Int) ∧ (List.getD l i (dft tPlace)).2.1 = (b : Int) ∧ Wi l b j)
  | 0, i, hi, he => by
    have he : ¬ (List.getD l i (dft tPlace)).1 = (2 : Int) := he
    simp only [chain, List.mem_singleton]
    constructor
    · rintro ⟨x, rfl, hx⟩
      exact absurd (congrArg (fun p : Pl => (p.1 : Int)) hx) he
    · rintro (⟨h1, h2⟩ | ⟨b, h2, _⟩)
      · cases h2 with
        | refl => exact absurd rfl h1
        | step h2 _ _ => exact absurd h2 he
      · exact absurd h2 he
  | k + 1, i, hi, he => by
    simp only [chain]
    by_cases h2 : (List.getD l i (dft tPlace)).1 = (2 : Int)
    · rw [if_pos h2]
      have hb := hin i hi h2
      have e := (Int.toNat_of_nonneg hb.1).symm
      have hlt := (Int.toNat_lt hb.1).2 hb.2
      have ih := chain_wi hin j k _ hlt (he h2)
      constructor
      · rintro ⟨x, hx, rfl⟩
        refine .inr ⟨_, h2, e, ?_⟩
        rcases List.mem_cons.1 hx with hx | hx
        · have : (j : Int) = (List.getD l i (dft tPlace)).2.1 := congrArg (fun p : Pl => (p.2.1 : Int)) hx
          rw [← this, Int.toNat_natCast]; exact .refl j
        · rcases ih.1 ⟨_, hx, rfl⟩ with h | ⟨b', g1, g2, g3⟩
          · exact h.2
          · exact .step g1 g2 g3
      · intro h
        have key : ∀ b : Nat, (List.getD l i (dft tPlace)).2.1 = (b : Int) → Wi l b j → ∃ x ∈ List.getD l i (dft tPlace) :: chain l k (List.getD l (Int.toNat (List.getD l i (dft tPlace)).2.1) (dft tPlace)), x = boxPl (j : Int) := fun b hb' hw => by
          by_cases hbj : b = j
          · subst hbj
            exact ⟨_, List.mem_cons_self, Prod.ext h2 (Prod.ext hb' rfl)⟩
          · have eb : Int.toNat (List.getD l i (dft tPlace)).2.1 = b := by rw [hb', Int.toNat_natCast]
            rw [eb] at ih ⊢
            obtain ⟨x, hx, hxe⟩ := ih.2 (.inl ⟨hbj, hw⟩)
            exact ⟨x, List.mem_cons_of_mem _ hx, hxe⟩
        rcases h with ⟨h1, h3⟩ | ⟨b, _, g2, g3⟩
        · cases h3 with
          | refl => exact absurd rfl h1
          | @step _ b _ _ hb' hw => exact key b hb' hw
        · exact key b g2 g3
    · rw [if_neg h2]
      constructor
      · rintro ⟨x, hx, hxe⟩
        rw [List.mem_singleton.1 hx] at hxe
        exact absurd (congrArg (fun p : Pl => (p.1 : Int)) hxe) h2
      · rintro (⟨h1, h3⟩ | ⟨b, g1, _⟩)
        · cases h3 with
          | refl => exact absurd rfl h1
          | step g _ _ => exact absurd g h2
        · exact absurd g1 h2
/-! ### Depths -/
theorem depN_succ {l : List Pl} : (k : Nat) → (p : Pl) → Ends l k p → depN l (k + 1) p = depN l k p
  | 0, p, h => by
    have h : ¬ p.1 = (2 : Int) := h
    simp only [depN]; rw [if_neg h]
  | k + 1, p, h => by
    show (if p.1 = (2 : Int) then depN l (k + 1) (List.getD l (Int.toNat p.2.1) (dft tPlace)) + 1 else 0) = (if p.1 = (2 : Int) then depN l k (List.getD l (Int.toNat p.2.1) (dft tPlace)) + 1 else 0)
    by_cases h2 : p.1 = (2 : Int)
    · rw [if_pos h2, if_pos h2, depN_succ k _ (h h2)]
    · rw [if_neg h2, if_neg h2]
theorem dep_top {w : den tWorld} {j : Nat} (h2 : ¬ (plOf w j).1 = (2 : Int)) : depOf w j = 0 := by
  show (if (plOf w j).1 = (2 : Int) then _ else 0) = 0
  rw [if_neg h2]
theorem dep_box {w : den tWorld} (h : RightP w) {j b : Nat} (hj : j < List.length (w.2.2.2.1 : List (den tPlace))) (h2 : (plOf w j).1 = (2 : Int)) (hb : (plOf w j).2.1 = (b : Int)) : b < List.length (w.2.2.2.1 : List (den tPlace)) ∧ depOf w j = depOf w b + 1 := by
  have hin := h.inPl j hj h2
  have e : Int.toNat (plOf w j).2.1 = b := by rw [hb, Int.toNat_natCast]
  refine ⟨by rw [← e]; exact (Int.toNat_lt hin.1).2 hin.2, ?_⟩
  have he : Ends w.2.2.2.1 50 (plOf w (Int.toNat (plOf w j).2.1)) := h.ends hj h2
  rw [e] at he
  show depN w.2.2.2.1 (50 + 1) (plOf w j) = depN w.2.2.2.1 (50 + 1) (plOf w b) + 1
  rw [depN_succ 50 _ he]
  show (if (plOf w j).1 = (2 : Int) then depN w.2.2.2.1 50 (plOf w (Int.toNat (plOf w j).2.1)) + 1 else 0) = _
  rw [if_pos h2, e]
theorem depI_N {l : List Pl} : (f c : Nat) → (p : Pl) → depI l f c p ≤ 4 → depI l f c p = c + depN l f p
  | 0, c, p, h => by
    simp only [depI, depN] at h ⊢
    by_cases h2 : p.1 = (2 : Int)
    · rw [if_pos h2] at h; omega
    · rw [if_neg h2]; rfl
  | f + 1, c, p, h => by
    simp only [depI, depN] at h ⊢
    by_cases h2 : p.1 = (2 : Int)
    · rw [if_pos h2] at h ⊢
      rw [if_pos h2]
      by_cases h50 : 50 < c + 1
      · rw [if_pos h50] at h; omega
      · rw [if_neg h50] at h ⊢
        rw [depI_N f (c + 1) _ h]; omega
    · rw [if_neg h2, if_neg h2]; rfl
theorem dep_le {w : den tWorld} (h : RightP w) {i : Nat} (hi : i < List.length (w.2.2.2.1 : List (den tPlace))) : depI w.2.2.2.1 51 0 (plOf w i) = depOf w i ∧ depOf w i ≤ 4 := by
  have h4 := (h.deep i hi).1
  have := depI_N 51 0 _ h4
  rw [Nat.zero_add] at this
  exact ⟨this, Nat.le_trans (Nat.le_of_eq this.symm) h4⟩
theorem Wi.facts {w : den tWorld} (h : RightP w) {i j : Nat} (hw : WiW w i j) : i < List.length (w.2.2.2.1 : List (den tPlace)) → j < List.length (w.2.2.2.1 : List (den tPlace)) ∧ rootOf w i = rootOf w j ∧ depOf w j ≤ depOf w i ∧ (¬ i = j → depOf w j < depOf w i) := by
  induction hw with
  | refl i => exact fun hi => ⟨hi, rfl, Nat.le_refl _, fun e => absurd rfl e⟩
  | @step i b j h2 hb hw ih =>
    intro hi
    obtain ⟨hbl, hd⟩ := dep_box h hi h2 hb
    obtain ⟨b', e, _, er⟩ := root_box h hi h2
    obtain rfl : b = b' := Int.ofNat.inj (hb.symm.trans e)
    obtain ⟨i1, i2, i3, i4⟩ := ih hbl
    exact ⟨i1, er.trans i2, by omega, fun _ => by omega⟩
/-! ### Heights -/
open Classical in
noncomputable def hgtL (w : den tWorld) (i : Nat) : Nat → Nat
  | 0 => 0
  | n + 1 => Nat.max (hgtL w i n) (if WiW w n i then depOf w n - depOf w i else 0)
noncomputable abbrev hgtOf (w : den tWorld) (i : Nat) : Nat := hgtL w i (List.length (w.2.2.2.1 : List (den tPlace)))
theorem hgtL_ge {w : den tWorld} {i k : Nat} : {n : Nat} → k < n → WiW w k i → depOf w k - depOf w i ≤ hgtL w i n
  | 0, h, _ => by omega
  | n + 1, h, hw => by
    simp only [hgtL]
    by_cases hk : k < n
    · exact Nat.le_trans (hgtL_ge hk hw) (Nat.le_max_left _ _)
    · have : k = n := by omega
      subst this
      rw [if_pos hw]; exact Nat.le_max_right _ _
theorem hgtL_at {w : den tWorld} {i : Nat} : (n : Nat) → hgtL w i n = 0 ∨ ∃ k, k < n ∧ WiW w k i ∧ depOf w k - depOf w i = hgtL w i n
  | 0 => .inl rfl
  | n + 1 => by
    simp only [hgtL]
    by_cases hw : WiW w n i
    · rw [if_pos hw]
      rcases Nat.le_total (hgtL w i n) (depOf w n - depOf w i) with h | h
      · rw [show Nat.max _ _ = depOf w n - depOf w i from Nat.max_eq_right h]
        exact .inr ⟨n, by omega, hw, rfl⟩
      · rw [show Nat.max _ _ = hgtL w i n from Nat.max_eq_left h]
        rcases hgtL_at (w := w) (i := i) n with h1 | ⟨k, h1, h2, h3⟩
        · exact .inl h1
        · exact .inr ⟨k, by omega, h2, h3⟩
    · rw [if_neg hw, show Nat.max (hgtL w i n) 0 = hgtL w i n from Nat.max_eq_left (Nat.zero_le _)]
      rcases hgtL_at (w := w) (i := i) n with h1 | ⟨k, h1, h2, h3⟩
      · exact .inl h1
      · exact .inr ⟨k, by omega, h2, h3⟩
theorem hgt_le {w : den tWorld} {i : Nat} (n : Nat) : hgtL w i n ≤ 51 := by
  rcases hgtL_at (w := w) (i := i) n with h | ⟨k, _, _, h⟩
  · omega
  · have : depOf w k ≤ 51 := depN_le w.2.2.2.1 51 (plOf w k)
    omega
theorem max_if (a b : Nat) : (if (a : Int) < (b : Int) then (b : Int) else (a : Int)) = ((Nat.max a b : Nat) : Int) := by
  by_cases h : a < b
  · rw [if_pos (by omega), show Nat.max a b = b from Nat.max_eq_right (by omega)]
  · rw [if_neg (by omega), show Nat.max a b = a from Nat.max_eq_left (by omega)]
end Go.Proofs.Ytkoefhpkdghpnaa.Ghost
namespace Go.Proofs.Ytkoefhpkdghpnaa.Ghost
open Go
abbrev pAt (l : List Pl) (j : Nat) : Pl := List.getD l j (dft tPlace)
inductive Hang (l : List Pl) : Nat → Pl → Nat → Prop
  | top {j : Nat} (h : ¬ (pAt l j).1 = (2 : Int)) : Hang l j (pAt l j) 0
  | box {j b : Nat} {p : Pl} {d : Nat} (h2 : (pAt l j).1 = (2 : Int)) (hb : (pAt l j).2.1 = (b : Int)) (h : Hang l b p d) : Hang l j p (d + 1)
theorem Hang.uniq {l : List Pl} {j : Nat} {p q : Pl} {d e : Nat} (h : Hang l j p d) (h' : Hang l j q e) : p = q ∧ d = e := by
  induction h generalizing q e with
  | top h =>
    cases h' with
    | top => exact ⟨rfl, rfl⟩
    | box h2 => exact absurd h2 h
  | box h2 hb _ ih =>
    cases h' with
    | top h => exact absurd h2 h
    | box _ hb' h' =>
      rw [hb] at hb'
      obtain rfl := Int.ofNat.inj hb'
      obtain ⟨e1, e2⟩ := ih h'
      exact ⟨e1, by rw [e2]⟩
theorem Hang.root {l : List Pl} {j : Nat} {p : Pl} {d : Nat} (h : Hang l j p d) : ¬ p.1 = (2 : Int) := by
  induction h with
  | top h => exact h
  | box _ _ _ ih => exact ih
/-- what is above in a world -/
theorem hang_of {w : den tWorld} (h : RightP w) : (d : Nat) → (i : Nat) → i < List.length (w.2.2.2.1 : List (den tPlace)) → depOf w i = d → Hang w.2.2.2.1 i (rootOf w i) (depOf w i)
  | d, i, hi, hd => by
    by_cases h2 : (plOf w i).1 = (2 : Int)
    · obtain ⟨b, e, hb, er⟩ := root_box h hi h2
      obtain ⟨_, ed⟩ := dep_box h hi h2 e
      cases d with
      | zero => omega
      | succ d =>
        rw [er, ed]
        exact .box h2 e (hang_of h d b hb (by omega))
    · have e1 : depOf w i = 0 := dep_top h2
      have e2 : rootOf w i = plOf w i := rootP_top h2 51
      rw [e1, e2]
      exact .top h2
theorem RightP.hang {w : den tWorld} (h : RightP w) {i : Nat} (hi : i < List.length (w.2.2.2.1 : List (den tPlace))) : Hang w.2.2.2.1 i (rootOf w i) (depOf w i) := hang_of h _ i hi rfl
theorem RightP.hang_eq {w : den tWorld} (h : RightP w) {i : Nat} (hi : i < List.length (w.2.2.2.1 : List (den tPlace))) {p : Pl} {d : Nat} (h' : Hang w.2.2.2.1 i p d) : rootOf w i = p ∧ depOf w i = d := (h.hang hi).uniq h'
theorem Hang.depI {l : List Pl} {j : Nat} {p : Pl} {d : Nat} (h : Hang l j p d) : ∀ f c, d ≤ f → c + d ≤ 50 → depI l f c (pAt l j) = c + d := by
  induction h with
  | @top j h =>
    intro f c _ _
    cases f with
    | zero => simp only [Ghost.depI]; rw [if_neg h]; rfl
    | succ f => simp only [Ghost.depI]; rw [if_neg h]; rfl
  | @box j b p d h2 hb _ ih =>
    intro f c hf hc
    cases f with
    | zero => omega
    | succ f =>
      simp only [Ghost.depI]
      have e : Int.toNat (pAt l j).2.1 = b := by rw [hb, Int.toNat_natCast]
      rw [if_pos h2, if_neg (by omega), e]
      rw [ih f (c + 1) (by omega) (by omega)]
      omega
/-! ### One item elsewhere -/
section
variable {l : List Pl} {k : Nat} {q : Pl} (hk : k < l.length)
include hk
theorem set_ne {j : Nat} (h : ¬ j = k) : pAt (l.set k q) j = pAt l j := by
  show List.getD _ _ _ = _
  rw [getD_set l k j q (dft tPlace) hk, if_neg h]
theorem set_eq : pAt (l.set k q) k = q := by
  show List.getD _ _ _ = _
  rw [getD_set l k k q (dft tPlace) hk, if_pos rfl]
theorem hang_out {j : Nat} {p : Pl} {d : Nat} (h : Hang l j p d) : ¬ Wi l j k → Hang (l.set k q) j p d := by
  induction h with
  | @top j h =>
    intro hn
    have e : pAt (l.set k q) j = pAt l j := set_ne hk (fun e => hn (by subst e; exact .refl j))
    rw [← e] at h ⊢
    exact .top h
  | @box j b p d h2 hb h ih =>
    intro hn
    have e : pAt (l.set k q) j = pAt l j := set_ne hk (fun e => hn (by subst e; exact .refl j))
    refine .box (by rw [e]; exact h2) (by rw [e]; exact hb) (ih (fun hw => hn (.step h2 hb hw)))
theorem hang_in {p' : Pl} {d' : Nat} (h' : Hang (l.set k q) k p' d') {pk : Pl} {dk : Nat} (hkk : Hang l k pk dk) {j : Nat} (hw : Wi l j k) : ∀ {p : Pl} {d : Nat}, Hang l j p d → p = pk ∧ ∃ n, d = dk + n ∧ Hang (l.set k q) j p' (d' + n) := by
  induction hw with
  | refl j =>
    intro p d h
    obtain ⟨rfl, rfl⟩ := h.uniq hkk
    exact ⟨rfl, 0, rfl, h'⟩
  | @step j b k h2 hb hw ih =>
    intro p d h
    by_cases hj : j = k
    · subst hj
      obtain ⟨rfl, rfl⟩ := h.uniq hkk
      exact ⟨rfl, 0, rfl, h'⟩
    · cases h with
      | top h => exact absurd h2 h
      | @box _ b' _ d _ hb' h =>
        obtain rfl : b = b' := by
          have : (pAt l j).2.1 = (b : Int) := hb
          rw [this] at hb'
          exact Int.ofNat.inj hb'
        obtain ⟨e, n, e1, h3⟩ := ih hk h' hkk h
        have e2 : pAt (l.set k q) j = pAt l j := set_ne hk hj
        exact ⟨e, n + 1, by omega, .box (by rw [e2]; exact h2) (by rw [e2]; exact hb) h3⟩
theorem wi_set {j : Nat} : Wi (l.set k q) j k ↔ Wi l j k := by
  constructor
  · intro h
    generalize hl : l.set k q = l' at h
    induction h with
    | refl j => exact .refl j
    | @step j b k h2 hb _ ih =>
      subst hl
      by_cases hj : j = k
      · subst hj; exact .refl j
      · have e2 : pAt (l.set k q) j = pAt l j := set_ne hk hj
        have h2 : (pAt (l.set k q) j).1 = (2 : Int) := h2
        have hb : (pAt (l.set k q) j).2.1 = (b : Int) := hb
        rw [e2] at h2 hb
        exact .step h2 hb (ih hk rfl)
  · intro h
    induction h with
    | refl j => exact .refl j
    | @step j b k h2 hb _ ih =>
      by_cases hj : j = k
      · subst hj; exact .refl j
      · have e2 : pAt (l.set k q) j = pAt l j := set_ne hk hj
        refine .step (b := b) ?_ ?_ (ih hk)
        · show (pAt (l.set k q) j).1 = (2 : Int); rw [e2]; exact h2
        · show (pAt (l.set k q) j).2.1 = (b : Int); rw [e2]; exact hb
end
/-- one item elsewhere: roots and depths of all -/
structure MovedTo (w w' : den tWorld) (k : Nat) (p' : Pl) (d' : Nat) : Prop where
  wi : ∀ j, WiW w' j k ↔ WiW w j k
  inn : ∀ j, j < List.length (w.2.2.2.1 : List (den tPlace)) → WiW w j k → Hang w'.2.2.2.1 j p' (d' + (depOf w j - depOf w k)) ∧ depOf w k ≤ depOf w j ∧ rootOf w j = rootOf w k
  out : ∀ j, j < List.length (w.2.2.2.1 : List (den tPlace)) → ¬ WiW w j k → Hang w'.2.2.2.1 j (rootOf w j) (depOf w j)
theorem moved_to {w : den tWorld} (h : RightP w) {k : Nat} (hk : k < List.length (w.2.2.2.1 : List (den tPlace))) {q p' : Pl} {d' : Nat} (h' : Hang (List.set (w.2.2.2.1 : List Pl) k q) k p' d') : MovedTo w (put w k q) k p' d' := by
  refine ⟨fun j => wi_set hk, fun j hj hw => ?_, fun j hj hn => hang_out hk (h.hang hj) hn⟩
  obtain ⟨e, n, e1, h3⟩ := hang_in hk h' (h.hang hk) hw (h.hang hj)
  have : depOf w j - depOf w k = n := by omega
  rw [this]
  exact ⟨h3, by omega, e⟩
theorem moved_top {w : den tWorld} (h : RightP w) {k : Nat} (hk : k < List.length (w.2.2.2.1 : List (den tPlace))) {q : Pl} (hq : ¬ q.1 = (2 : Int)) : MovedTo w (put w k q) k q 0 := by
  refine moved_to h hk ?_
  have e : pAt (List.set (w.2.2.2.1 : List Pl) k q) k = q := set_eq hk
  have := Hang.top (l := List.set (w.2.2.2.1 : List Pl) k q) (j := k) (by rw [e]; exact hq)
  rw [e] at this
  exact this
theorem moved_box {w : den tWorld} (h : RightP w) {k b : Nat} (hk : k < List.length (w.2.2.2.1 : List (den tPlace))) (hb : b < List.length (w.2.2.2.1 : List (den tPlace))) (hn : ¬ WiW w b k) : MovedTo w (put w k (boxPl (b : Int))) k (rootOf w b) (depOf w b + 1) := by
  refine moved_to h hk ?_
  have e : pAt (List.set (w.2.2.2.1 : List Pl) k (boxPl (b : Int))) k = boxPl (b : Int) := set_eq hk
  exact .box (by rw [e]) (by rw [e]) (hang_out hk (h.hang hb) hn)
theorem MovedTo.eqs {w w' : den tWorld} {k : Nat} {p' : Pl} {d' : Nat} (m : MovedTo w w' k p' d') (h' : RightP w') (hl : List.length (w'.2.2.2.1 : List (den tPlace)) = List.length (w.2.2.2.1 : List (den tPlace))) {j : Nat} (hj : j < List.length (w.2.2.2.1 : List (den tPlace))) :
    (WiW w j k → rootOf w' j = p' ∧ depOf w' j = d' + (depOf w j - depOf w k) ∧ depOf w k ≤ depOf w j ∧ rootOf w j = rootOf w k) ∧ (¬ WiW w j k → rootOf w' j = rootOf w j ∧ depOf w' j = depOf w j) := by
  constructor
  · intro hw
    obtain ⟨h1, h2, h3⟩ := m.inn j hj hw
    obtain ⟨e1, e2⟩ := h'.hang_eq (by rw [hl]; exact hj) h1
    exact ⟨e1, e2, h2, h3⟩
  · intro hn
    exact h'.hang_eq (by rw [hl]; exact hj) (m.out j hj hn)
/-- how high an item is stays, when it is put elsewhere -/
theorem MovedTo.hgt {w w' : den tWorld} {k : Nat} {p' : Pl} {d' : Nat} (m : MovedTo w w' k p' d') (h : RightP w) (h' : RightP w') (hl : List.length (w'.2.2.2.1 : List (den tPlace)) = List.length (w.2.2.2.1 : List (den tPlace))) (hk : k < List.length (w.2.2.2.1 : List (den tPlace))) : hgtOf w' k = hgtOf w k := by
  have key : ∀ n, n ≤ List.length (w.2.2.2.1 : List (den tPlace)) → hgtL w' k n = hgtL w k n := by
    intro n
    induction n with
    | zero => intro _; rfl
    | succ n ih =>
      intro hn
      simp only [hgtL]
      rw [ih (by omega)]
      by_cases hw : WiW w n k
      · rw [if_pos hw, if_pos ((m.wi n).2 hw)]
        obtain ⟨_, e, _, _⟩ := (m.eqs h' hl (show n < _ by omega)).1 hw
        obtain ⟨_, e', _, _⟩ := (m.eqs h' hl hk).1 (.refl k)
        rw [show depOf w' n - depOf w' k = depOf w n - depOf w k by omega]
      · rw [if_neg hw, if_neg (fun h => hw ((m.wi n).1 h))]
  show hgtL w' k _ = hgtL w k _
  rw [hl]
  exact key _ (Nat.le_refl _)
theorem dep_hgt {w : den tWorld} (h : RightP w) {i : Nat} (hi : i < List.length (w.2.2.2.1 : List (den tPlace))) : depOf w i + hgtOf w i ≤ 4 := by
  have h1 := (dep_le h hi).2
  rcases hgtL_at (w := w) (i := i) (List.length (w.2.2.2.1 : List (den tPlace))) with h0 | ⟨k, k1, k2, k3⟩
  · have h0 : hgtOf w i = 0 := h0
    omega
  · have h2 := (dep_le h k1).2
    have h3 := (k2.facts h k1).2.2.1
    have k3 : depOf w k - depOf w i = hgtOf w i := k3
    omega
end Go.Proofs.Ytkoefhpkdghpnaa.Ghost
namespace Go.Proofs.Ytkoefhpkdghpnaa.Ghost
open Go
theorem und_pw (w : den tWorld) (p : Pl) : (n : Nat) → (undL w p n).Pairwise (fun a b : Sn => (a.1 : Int) < b.1)
  | 0 => .nil
  | n + 1 => by
    simp only [undL]
    rw [List.pairwise_append]
    refine ⟨und_pw w p n, ?_, fun a ha b hb => ?_⟩
    · split
      · exact List.pairwise_singleton _ _
      · exact .nil
    · obtain ⟨j, h1, rfl, _⟩ := mem_und.1 ha
      by_cases hp : rootOf w n = p
      · rw [if_pos hp] at hb
        rw [List.mem_singleton.1 hb]
        show (j : Int) < (n : Int)
        omega
      · rw [if_neg hp] at hb; cases hb
/-- the j-th of what hangs from a place -/
theorem und_get {w : den tWorld} {p : Pl} {j : Nat} (hj : j < (undOf w p).length) : ∃ m, m < List.length (w.2.2.2.1 : List (den tPlace)) ∧ List.getD (undOf w p) j (dft tSeen) = ((m : Int), plOf w m, ()) ∧ rootOf w m = p :=
  mem_und.1 (getD_mem' (dft tSeen) hj)
theorem und_lt {w : den tWorld} {p : Pl} {i j : Nat} (hij : i < j) (hj : j < (undOf w p).length) : ((List.getD (undOf w p) i (dft tSeen)).1 : Int) < (List.getD (undOf w p) j (dft tSeen)).1 := by
  have hi : i < (undOf w p).length := Nat.lt_trans hij hj
  have := List.pairwise_iff_getElem.1 (und_pw w p (List.length (w.2.2.2.1 : List (den tPlace)))) i j hi hj hij
  rw [List.getD_eq_getElem?_getD, List.getD_eq_getElem?_getD, List.getElem?_eq_getElem hj, List.getElem?_eq_getElem hi]
  exact this
theorem undL_succ (w : den tWorld) (p : Pl) (n : Nat) : (undL w p (n + 1)).length = (undL w p n).length + (if rootOf w n = p then 1 else 0) := by
  simp only [undL, List.length_append]
  split <;> rfl
theorem und_moved {w w' : den tWorld} {k : Nat} {q : Pl} {d' : Nat} (m : MovedTo w w' k q d') (h' : RightP w') (hl : List.length (w'.2.2.2.1 : List (den tPlace)) = List.length (w.2.2.2.1 : List (den tPlace))) {p : Pl} (hp : rootOf w k = p) (hpq : ¬ q = p) :
    (n : Nat) → n ≤ List.length (w.2.2.2.1 : List (den tPlace)) → (undL w p n).length + (undL w q n).length = (undL w' p n).length + (undL w' q n).length ∧ (undL w' p n).length + (if k < n then 1 else 0) ≤ (undL w p n).length
  | 0, _ => by simp [undL]
  | n + 1, hn => by
    obtain ⟨ih1, ih2⟩ := und_moved m h' hl hp hpq n (by omega)
    obtain ⟨e1, e2⟩ := m.eqs h' hl (show n < _ by omega)
    rw [undL_succ, undL_succ, undL_succ, undL_succ]
    by_cases hw : WiW w n k
    · obtain ⟨a, _, _, b⟩ := e1 hw
      rw [a, b, hp, if_pos rfl, if_neg (fun e => hpq e.symm), if_neg hpq, if_pos rfl]
      constructor
      · omega
      · split at ih2 <;> split <;> omega
    · obtain ⟨a, _⟩ := e2 hw
      rw [a]
      have : ¬ n = k := fun e => hw (by subst e; exact .refl n)
      constructor
      · omega
      · split at ih2 <;> split <;> split <;> omega
/-! ### How often each item is told -/
/-- each item was told at most once: 'lo': those that were; 'hi': those that may have been -/
def Tal (w : den tWorld) (lo hi : Nat → Prop) (o : List Int) : Prop := o.length = List.length (w.2.2.2.1 : List (den tPlace)) ∧ ∀ i, i < List.length (w.2.2.2.1 : List (den tPlace)) → (List.getD o i (0 : Int) = 0 ∧ ¬ lo i) ∨ (List.getD o i (0 : Int) = 1 ∧ hi i)
theorem Tal.mono {w : den tWorld} {lo hi lo' hi' : Nat → Prop} {o : List Int} (h : Tal w lo hi o) (hl : ∀ i, i < List.length (w.2.2.2.1 : List (den tPlace)) → lo' i → lo i) (hh : ∀ i, i < List.length (w.2.2.2.1 : List (den tPlace)) → hi i → hi' i) : Tal w lo' hi' o :=
  ⟨h.1, fun i hi => (h.2 i hi).imp (fun e => ⟨e.1, fun e' => e.2 (hl i hi e')⟩) (fun e => ⟨e.1, hh i hi e.2⟩)⟩
theorem Tal.zero (w : den tWorld) {lo hi : Nat → Prop} (h : ∀ i, ¬ lo i) : Tal w lo hi (List.replicate (List.length (w.2.2.2.1 : List (den tPlace))) 0) :=
  ⟨List.length_replicate, fun i hi => .inl ⟨by rw [List.getD_eq_getElem?_getD, List.getElem?_replicate, if_pos hi]; rfl, h i⟩⟩
def before (w : den tWorld) (p : Pl) (proc : Nat → Prop) (j : Nat) (i : Nat) : Prop := proc i ∨ ∃ j', j' < j ∧ j' < (undOf w p).length ∧ ((List.getD (undOf w p) j' (dft tSeen)).1 : Int) = (i : Int)
theorem Tal.step {w : den tWorld} {p : Pl} {lo hi : Nat → Prop} (hp : ∀ i, hi i → ¬ rootOf w i = p) {j m : Nat} {o : List Int} (h : Tal w (before w p lo j) (before w p hi j) o) (hj : j < (undOf w p).length) (hm : ((List.getD (undOf w p) j (dft tSeen)).1 : Int) = (m : Int)) (hml : m < List.length (w.2.2.2.1 : List (den tPlace))) (hmr : rootOf w m = p) :
    List.getD o m (0 : Int) = 0 ∧ Tal w (before w p lo (j + 1)) (before w p hi (j + 1)) (List.set o m 1) := by
  have h0 : List.getD o m (0 : Int) = 0 := by
    rcases h.2 m hml with ⟨e, _⟩ | ⟨_, e | ⟨j', h1, h2, h3⟩⟩
    · exact e
    · exact absurd hmr (hp m e)
    · have := und_lt (w := w) (p := p) h1 hj
      rw [h3, hm] at this
      exact absurd this (Int.lt_irrefl _)
  refine ⟨h0, by rw [List.length_set]; exact h.1, fun i hi => ?_⟩
  rw [getD_set o m i 1 0 (by rw [h.1]; exact hml)]
  by_cases hi2 : i = m
  · subst hi2; rw [if_pos rfl]; exact .inr ⟨rfl, .inr ⟨j, by omega, hj, hm⟩⟩
  · rw [if_neg hi2]
    refine (h.2 i hi).imp (fun e => ⟨e.1, fun e' => e.2 (e'.imp id (fun ⟨j', h1, h2, h3⟩ => ⟨j', ?_, h2, h3⟩))⟩) (fun e => ⟨e.1, e.2.imp id (fun ⟨j', h1, h2⟩ => ⟨j', by omega, h2⟩)⟩)
    by_cases hjj : j' = j
    · subst hjj; rw [hm] at h3; exact absurd (Int.ofNat.inj h3).symm hi2
    · omega
/-- behind a whole list -/
theorem before_all {w : den tWorld} {p : Pl} {proc : Nat → Prop} {i : Nat} (hi : i < List.length (w.2.2.2.1 : List (den tPlace))) : before w p proc (undOf w p).length i ↔ proc i ∨ rootOf w i = p := by
  constructor
  · rintro (h | ⟨j', _, h2, h3⟩)
    · exact .inl h
    · obtain ⟨m, _, e, hr⟩ := und_get h2
      rw [e] at h3
      obtain rfl : m = i := Int.ofNat.inj h3
      exact .inr hr
  · rintro (h | h)
    · exact .inl h
    · have hm : ((i : Int), plOf w i, ()) ∈ undOf w p := mem_und.2 ⟨i, hi, rfl, h⟩
      obtain ⟨j, hj, he⟩ := List.mem_iff_getElem.1 hm
      refine .inr ⟨j, hj, hj, ?_⟩
      rw [List.getD_eq_getElem?_getD, List.getElem?_eq_getElem hj, he]
      rfl
theorem before_none {w : den tWorld} {p : Pl} {proc : Nat → Prop} {i : Nat} : before w p proc 0 i ↔ proc i := ⟨fun h => h.elim id (fun ⟨_, h, _⟩ => by omega), .inl⟩
/-- a root is a room or a player that there is -/
theorem Hang.good {w : den tWorld} (h : RightP w) {i : Nat} {p : Pl} {d : Nat} (hg : Hang w.2.2.2.1 i p d) : i < List.length (w.2.2.2.1 : List (den tPlace)) → GoodPl w.1 p := by
  induction hg with
  | @top j h2 => exact fun hj => h.good j hj
  | @box j b p d h2 hb _ ih => exact fun hj => ih (dep_box h hj h2 hb).1
abbrev rk (w : den tWorld) (i : Nat) : Int := (rootOf w i).1
abbrev ri (w : den tWorld) (i : Nat) : Int := (rootOf w i).2.1
theorem root_good {w : den tWorld} (h : RightP w) {i : Nat} (hi : i < List.length (w.2.2.2.1 : List (den tPlace))) : (rk w i = 0 ∧ 0 ≤ ri w i ∧ ri w i < (List.length (w.1.1 : List (List Int)) : Int)) ∨ (rk w i = 1 ∧ 0 ≤ ri w i ∧ ri w i < (List.length (w.2.1 : List Int) : Int)) := by
  have g := (h.hang hi).good h hi
  rcases g with g | g | g
  · exact .inl g
  · rw [h.a1]; exact .inr g
  · exact absurd g.1 (h.hang hi).root
theorem root_ext {w : den tWorld} {i : Nat} {k n : Int} (h1 : rk w i = k) (h2 : ri w i = n) : rootOf w i = (k, n, ()) := Prod.ext h1 (Prod.ext h2 rfl)
end Go.Proofs.Ytkoefhpkdghpnaa.Ghost
namespace Go.Proofs.Ytkoefhpkdghpnaa.Ghost
open Go
/-! ### Players of rooms -/
def lessL (l : List Int) (x : Int) : Nat → Nat
  | 0 => 0
  | n + 1 => lessL l x n + (if List.getD l n (0 : Int) < x then 1 else 0)
theorem less_step (a x : Int) : (if a < x + 1 then 1 else 0) = (if a < x then 1 else 0) + (if a = x then 1 else 0 : Nat) := by split <;> split <;> split <;> omega
theorem preL_succ (w : den tWorld) (x : Int) (n : Nat) : (preL w x (n + 1)).length = (preL w x n).length + (if List.getD (w.2.1 : List Int) n (0 : Int) = x then 1 else 0) := by
  simp only [preL, List.length_append]
  split <;> rfl
theorem lessL_succ (w : den tWorld) (x : Int) : (n : Nat) → lessL w.2.1 (x + 1) n = lessL w.2.1 x n + (preL w x n).length
  | 0 => rfl
  | n + 1 => by
    rw [preL_succ]
    simp only [lessL]
    rw [lessL_succ w x n, less_step]
    omega
theorem lessL_all {l : List Int} {x : Int} : (n : Nat) → (∀ i, i < n → List.getD l i (0 : Int) < x) → lessL l x n = n
  | 0, _ => rfl
  | n + 1, h => by simp only [lessL]; rw [lessL_all n (fun i hi => h i (by omega)), if_pos (h n (by omega))]
theorem lessL_none {l : List Int} {x : Int} : (n : Nat) → (∀ i, i < n → ¬ List.getD l i (0 : Int) < x) → lessL l x n = 0
  | 0, _ => rfl
  | n + 1, h => by simp only [lessL]; rw [lessL_none n (fun i hi => h i (by omega)), if_neg (h n (by omega))]
theorem lessL_le (l : List Int) (x : Int) : (n : Nat) → lessL l x n ≤ n
  | 0 => Nat.le_refl 0
  | n + 1 => by simp only [lessL]; have := lessL_le l x n; split <;> omega
theorem mem_pre {w : den tWorld} {x : Int} {y : Int} : {n : Nat} → (y ∈ preL w x n ↔ ∃ j : Nat, j < n ∧ y = (j : Int) ∧ List.getD (w.2.1 : List Int) j (0 : Int) = x)
  | 0 => ⟨fun h => by simp [preL] at h, fun ⟨j, h, _⟩ => by omega⟩
  | n + 1 => by
    simp only [preL, List.mem_append]
    rw [mem_pre (n := n)]
    constructor
    · rintro (⟨j, h1, h2⟩ | h)
      · exact ⟨j, by omega, h2⟩
      · by_cases hr : List.getD (w.2.1 : List Int) n (0 : Int) = x
        · rw [if_pos hr] at h; exact ⟨n, by omega, List.mem_singleton.1 h, hr⟩
        · rw [if_neg hr] at h; cases h
    · rintro ⟨j, h1, h2, h3⟩
      by_cases hj : j < n
      · exact .inl ⟨j, hj, h2, h3⟩
      · have : j = n := by omega
        subst this
        rw [if_pos h3]
        exact .inr (List.mem_singleton.2 h2)
theorem pre_get {w : den tWorld} {x : Int} {k : Nat} (hk : k < (preOf w x).length) : ∃ j : Nat, j < List.length (w.2.1 : List Int) ∧ List.getD (preOf w x) k (0 : Int) = (j : Int) ∧ List.getD (w.2.1 : List Int) j (0 : Int) = x :=
  mem_pre.1 (getD_mem' (0 : Int) hk)
end Go.Proofs.Ytkoefhpkdghpnaa.Ghost
namespace Go.Proofs.Ytkoefhpkdghpnaa.Ghost
open Go
def moved (w : den tWorld) (i : Nat) (x : Int) : den tWorld := (w.1, List.set (w.2.1 : List Int) i x, w.2.2.1, w.2.2.2.1, ())
def wExit (w : den tWorld) (i d : Nat) : Int := exitAt w.1 (Int.toNat (List.getD (w.2.1 : List Int) i (0 : Int))) d
def goR (w : den tWorld) (i d : Nat) : den tWorld × Int × Int × Unit := if 0 ≤ wExit w i d then (moved w i (wExit w i d), wExit w i d, 0, ()) else (w, 0, 4, ())
/-- a player that stands in a room, and a way -/
structure Stands (w : den tWorld) (i d : Nat) : Prop where
  ip : i < List.length (w.2.1 : List Int)
  r0 : 0 ≤ List.getD (w.2.1 : List Int) i (0 : Int)
  r1 : List.getD (w.2.1 : List Int) i (0 : Int) < (List.length (w.1.1 : List (List Int)) : Int)
  dp : d < 4
section
variable {w : den tWorld}
theorem RightP.stands (h : RightP w) {i d : Nat} (hi : i < List.length (w.2.1 : List Int)) (hd : d < 4) : Stands w i d := ⟨hi, (h.at_ i hi).1.1, (h.at_ i hi).1.2, hd⟩
theorem RightP.exit (h : RightP w) {i d : Nat} (hi : i < List.length (w.2.1 : List Int)) (hd : d < 4) : wExit w i d = -1 ∨ (0 ≤ wExit w i d ∧ wExit w i d < (List.length (w.1.1 : List (List Int)) : Int)) := by
  have h1 := h.at_ i hi
  unfold wExit
  exact h.may.exits _ ((Int.toNat_lt h1.1.1).2 h1.1.2) d hd
theorem right_moved (h : RightP w) {i : Nat} (hi : i < List.length (w.2.1 : List Int)) {x : Int} (hx : 0 ≤ x ∧ x < (List.length (w.1.1 : List (List Int)) : Int)) : RightP (moved w i x) where
  may := h.may
  a1 := by show List.length (List.set (w.2.1 : List Int) i x) = _; rw [List.length_set]; exact h.a1
  c1 := h.c1
  w1 := h.w1
  at_ j hj := by
    have hj' : j < List.length (w.2.1 : List Int) := by
      have e : List.length (List.set (w.2.1 : List Int) i x) = List.length (w.2.1 : List Int) := List.length_set
      rw [← e]; exact hj
    refine ⟨?_, (h.at_ j hj').2⟩
    show 0 ≤ List.getD (List.set (w.2.1 : List Int) i x) j (0 : Int) ∧ List.getD (List.set (w.2.1 : List Int) i x) j (0 : Int) < _
    rw [getD_set _ _ _ _ _ hi]
    split
    · exact hx
    · exact (h.at_ j hj').1
  good := h.good
  deep := h.deep
theorem sm_moved (h : Sm w) (i : Nat) (x : Int) : Sm (moved w i x) :=
  ⟨h.e, h.b, h.p, h.c, h.i, by show List.length (List.set (w.2.1 : List Int) i x) ≤ _; rw [List.length_set]; exact h.a, h.wc, h.wh, h.rows⟩
theorem Ok.moved (h : Ok w) {i : Nat} (hi : i < List.length (w.2.1 : List Int)) {d : Nat} (hd : d < 4) (hx : 0 ≤ wExit w i d) : Ok (Ghost.moved w i (wExit w i d)) :=
  ⟨sm_moved h.sm i _, right_moved h.right hi ⟨hx, by rcases h.right.exit hi hd with e | e <;> omega⟩⟩
end
theorem moved_at (w : den tWorld) (i j : Nat) (x : Int) (h : i < List.length (w.2.1 : List Int)) : List.getD ((moved w i x).2.1 : List Int) j (0 : Int) = if j = i then x else List.getD (w.2.1 : List Int) j (0 : Int) := by
  show List.getD (List.set (w.2.1 : List Int) i x) j (0 : Int) = _
  exact getD_set _ _ _ _ _ h
theorem moved_len (w : den tWorld) (i : Nat) (x : Int) : List.length ((moved w i x).2.1 : List Int) = List.length (w.2.1 : List Int) := by
  show List.length (List.set (w.2.1 : List Int) i x) = _
  exact List.length_set
end Go.Proofs.Ytkoefhpkdghpnaa.Ghost
