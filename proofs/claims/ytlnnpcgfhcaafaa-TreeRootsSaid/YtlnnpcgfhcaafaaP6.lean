/- What functions come to, and that the statements are answered with 'true'. Conditions: none. -/
import Derived.Test.YtlnnpcgfhcaafaaS
import Derived.Test.YtlnnpcgfhcaafaaGE
import Derived.Test.YtlnnpcgfhcaafaaP1
import Derived.Test.YtlnnpcgfhcaafaaP2
import Derived.Test.YtlnnpcgfhcaafaaP3
import Derived.Test.YtlnnpcgfhcaafaaP4
import Derived.Test.YtlnnpcgfhcaafaaP5
set_option linter.unusedVariables false
set_option linter.unusedSimpArgs false
set_option linter.unusedSectionVars false
set_option linter.unnecessarySimpa false
namespace Go.Proofs.Ytlnnpcgfhcaafaa.Ghost
open Go
abbrev pAt (l : List Pl) (j : Nat) : Pl := List.getD l j (dft tPlace)
inductive Hang (l : List Pl) : Nat → Pl → Nat → Prop
  | top {j : Nat} (h : ¬ (pAt l j).1 = (2 : Int)) : Hang l j (pAt l j) 0
  | box {j b : Nat} {p : Pl} {d : Nat} (h2 : (pAt l j).1 = (2 : Int)) (hb : (pAt l j).2.1 = (b : Int)) (h : Hang l b p d) : Hang l j p (d + 1)
theorem Hang.uniq {l : List Pl} {j : Nat} {p q : Pl} {d e : Nat} (h : Hang l j p d) (h' : Hang l j q e) : p = q ∧ d = e := by
  induction h generalizing q e with
  | top h =>
    cases h' with
    | top => exact ⟨rfl, rfl⟩
    | box h2 => exact absurd h2 h
  | box h2 hb _ ih =>
    cases h' with
    | top h => exact absurd h2 h
    | box _ hb' h' =>
      rw [hb] at hb'
      obtain rfl := Int.ofNat.inj hb'
      obtain ⟨e1, e2⟩ := ih h'
      exact ⟨e1, by rw [e2]⟩
theorem Hang.root {l : List Pl} {j : Nat} {p : Pl} {d : Nat} (h : Hang l j p d) : ¬ p.1 = (2 : Int) := by
  induction h with
  | top h => exact h
  | box _ _ _ ih => exact ih
/-- what is above in a world -/
theorem hang_of {w : den tWorld} (h : RightP w) : (d : Nat) → (i : Nat) → i < List.length (w.2.2.2.1 : List (den tPlace)) → depOf w i = d → Hang w.2.2.2.1 i (rootOf w i) (depOf w i)
  | d, i, hi, hd => by
    by_cases h2 : (plOf w i).1 = (2 : Int)
    · obtain ⟨b, e, hb, er⟩ := root_box h hi h2
      obtain ⟨_, ed⟩ := dep_box h hi h2 e
      cases d with
      | zero => omega
      | succ d =>
        rw [er, ed]
        exact .box h2 e (hang_of h d b hb (by omega))
    · have e1 : depOf w i = 0 := dep_top h2
      have e2 : rootOf w i = plOf w i := rootP_top h2 51
      rw [e1, e2]
      exact .top h2
theorem RightP.hang {w : den tWorld} (h : RightP w) {i : Nat} (hi : i < List.length (w.2.2.2.1 : List (den tPlace))) : Hang w.2.2.2.1 i (rootOf w i) (depOf w i) := hang_of h _ i hi rfl
theorem RightP.hang_eq {w : den tWorld} (h : RightP w) {i : Nat} (hi : i < List.length (w.2.2.2.1 : List (den tPlace))) {p : Pl} {d : Nat} (h' : Hang w.2.2.2.1 i p d) : rootOf w i = p ∧ depOf w i = d := (h.hang hi).uniq h'
theorem Hang.depI {l : List Pl} {j : Nat} {p : Pl} {d : Nat} (h : Hang l j p d) : ∀ f c, d ≤ f → c + d ≤ 50 → depI l f c (pAt l j) = c + d := by
  induction h with
  | @top j h =>
    intro f c _ _
    cases f with
    | zero => simp only [Ghost.depI]; rw [if_neg h]; rfl
    | succ f => simp only [Ghost.depI]; rw [if_neg h]; rfl
  | @box j b p d h2 hb _ ih =>
    intro f c hf hc
    cases f with
    | zero => omega
    | succ f =>
      simp only [Ghost.depI]
      have e : Int.toNat (pAt l j).2.1 = b := by rw [hb, Int.toNat_natCast]
      rw [if_pos h2, if_neg (by omega), e]
      rw [ih f (c + 1) (by omega) (by omega)]
      omega
/-! ### One item elsewhere -/
section
variable {l : List Pl} {k : Nat} {q : Pl} (hk : k < l.length)
include hk
theorem set_ne {j : Nat} (h : ¬ j = k) : pAt (l.set k q) j = pAt l j := by
  show List.getD _ _ _ = _
  rw [getD_set l k j q (dft tPlace) hk, if_neg h]
theorem set_eq : pAt (l.set k q) k = q := by
  show List.getD _ _ _ = _
  rw [getD_set l k k q (dft tPlace) hk, if_pos rfl]
theorem hang_out {j : Nat} {p : Pl} {d : Nat} (h : Hang l j p d) : ¬ Wi l j k → Hang (l.set k q) j p d := by
  induction h with
  | @top j h =>
    intro hn
    have e : pAt (l.set k q) j = pAt l j := set_ne hk (fun e => hn (by subst e; exact .refl j))
    rw [← e] at h ⊢
    exact .top h
  | @box j b p d h2 hb h ih =>
    intro hn
    have e : pAt (l.set k q) j = pAt l j := set_ne hk (fun e => hn (by subst e; exact .refl j))
    refine .box (by rw [e]; exact h2) (by rw [e]; exact hb) (ih (fun hw => hn (.step h2 hb hw)))
theorem hang_in {p' : Pl} {d' : Nat} (h' : Hang (l.set k q) k p' d') {pk : Pl} {dk : Nat} (hkk : Hang l k pk dk) {j : Nat} (hw : Wi l j k) : ∀ {p : Pl} {d : Nat}, Hang l j p d → p = pk ∧ ∃ n, d = dk + n ∧ Hang (l.set k q) j p' (d' + n) := by
  induction hw with
  | refl j =>
    intro p d h
    obtain ⟨rfl, rfl⟩ := h.uniq hkk
    exact ⟨rfl, 0, rfl, h'⟩
  | @step j b k h2 hb hw ih =>
    intro p d h
    by_cases hj : j = k
    · subst hj
      obtain ⟨rfl, rfl⟩ := h.uniq hkk
      exact ⟨rfl, 0, rfl, h'⟩
    · cases h with
      | top h => exact absurd h2 h
      | @box _ b' _ d _ hb' h =>
        obtain rfl : b = b' := by
          have : (pAt l j).2.1 = (b : Int) := hb
          rw [this] at hb'
          exact Int.ofNat.inj hb'
        obtain ⟨e, n, e1, h3⟩ := ih hk h' hkk h
        have e2 : pAt (l.set k q) j = pAt l j := set_ne hk hj
        exact ⟨e, n + 1, by omega, .box (by rw [e2]; exact h2) (by rw [e2]; exact hb) h3⟩
theorem wi_set {j : Nat} : Wi (l.set k q) j k ↔ Wi l j k := by
  constructor
  · intro h
    generalize hl : l.set k q = l' at h
    induction h with
    | refl j => exact .refl j
    | @step j b k h2 hb _ ih =>
      subst hl
      by_cases hj : j = k
      · subst hj; exact .refl j
      · have e2 : pAt (l.set k q) j = pAt l j := set_ne hk hj
        have h2 : (pAt (l.set k q) j).1 = (2 : Int) := h2
        have hb : (pAt (l.set k q) j).2.1 = (b : Int) := hb
        rw [e2] at h2 hb
        exact .step h2 hb (ih hk rfl)
  · intro h
    induction h with
    | refl j => exact .refl j
    | @step j b k h2 hb _ ih =>
      by_cases hj : j = k
      · subst hj; exact .refl j
      · have e2 : pAt (l.set k q) j = pAt l j := set_ne hk hj
        refine .step (b := b) ?_ ?_ (ih hk)
        · show (pAt (l.set k q) j).1 = (2 : Int); rw [e2]; exact h2
        · show (pAt (l.set k q) j).2.1 = (b : Int); rw [e2]; exact hb
end
/-- one item elsewhere: roots and depths of all -/
structure MovedTo (w w' : den tWorld) (k : Nat) (p' : Pl) (d' : Nat) : Prop where
  wi : ∀ j, WiW w' j k ↔ WiW w j k
  inn : ∀ j, j < List.length (w.2.2.2.1 : List (den tPlace)) → WiW w j k → Hang w'.2.2.2.1 j p' (d' + (depOf w j - depOf w k)) ∧ depOf w k ≤ depOf w j ∧ rootOf w j = rootOf w k
  out : ∀ j, j < List.length (w.2.2.2.1 : List (den tPlace)) → ¬ WiW w j k → Hang w'.2.2.2.1 j (rootOf w j) (depOf w j)
theorem moved_to {w : den tWorld} (h : RightP w) {k : Nat} (hk : k < List.length (w.2.2.2.1 : List (den tPlace))) {q p' : Pl} {d' : Nat} (h' : Hang (List.set (w.2.2.2.1 : List Pl) k q) k p' d') : MovedTo w (put w k q) k p' d' := by
  refine ⟨fun j => wi_set hk, fun j hj hw => ?_, fun j hj hn => hang_out hk (h.hang hj) hn⟩
  obtain ⟨e, n, e1, h3⟩ := hang_in hk h' (h.hang hk) hw (h.hang hj)
  have : depOf w j - depOf w k = n := by omega
  rw [this]
  exact ⟨h3, by omega, e⟩
theorem moved_top {w : den tWorld} (h : RightP w) {k : Nat} (hk : k < List.length (w.2.2.2.1 : List (den tPlace))) {q : Pl} (hq : ¬ q.1 = (2 : Int)) : MovedTo w (put w k q) k q 0 := by
  refine moved_to h hk ?_
  have e : pAt (List.set (w.2.2.2.1 : List Pl) k q) k = q := set_eq hk
  have := Hang.top (l := List.set (w.2.2.2.1 : List Pl) k q) (j := k) (by rw [e]; exact hq)
  rw [e] at this
  exact this
theorem moved_box {w : den tWorld} (h : RightP w) {k b : Nat} (hk : k < List.length (w.2.2.2.1 : List (den tPlace))) (hb : b < List.length (w.2.2.2.1 : List (den tPlace))) (hn : ¬ WiW w b k) : MovedTo w (put w k (boxPl (b : Int))) k (rootOf w b) (depOf w b + 1) := by
  refine moved_to h hk ?_
  have e : pAt (List.set (w.2.2.2.1 : List Pl) k (boxPl (b : Int))) k = boxPl (b : Int) := set_eq hk
  exact .box (by rw [e]) (by rw [e]) (hang_out hk (h.hang hb) hn)
theorem MovedTo.eqs {w w' : den tWorld} {k : Nat} {p' : Pl} {d' : Nat} (m : MovedTo w w' k p' d') (h' : RightP w') (hl : List.length (w'.2.2.2.1 : List (den tPlace)) = List.length (w.2.2.2.1 : List (den tPlace))) {j : Nat} (hj : j < List.length (w.2.2.2.1 : List (den tPlace))) :
    (WiW w j k → rootOf w' j = p' ∧ depOf w' j = d' + (depOf w j - depOf w k) ∧ depOf w k ≤ depOf w j ∧ rootOf w j = rootOf w k) ∧ (¬ WiW w j k → rootOf w' j = rootOf w j ∧ depOf w' j = depOf w j) := by
  constructor
  · intro hw
    obtain ⟨h1, h2, h3⟩ := m.inn j hj hw
    obtain ⟨e1, e2⟩ := h'.hang_eq (by rw [hl]; exact hj) h1
    exact ⟨e1, e2, h2, h3⟩
  · intro hn
    exact h'.hang_eq (by rw [hl]; exact hj) (m.out j hj hn)
/-- how high an item is stays, when it is put elsewhere -/
theorem MovedTo.hgt {w w' : den tWorld} {k : Nat} {p' : Pl} {d' : Nat} (m : MovedTo w w' k p' d') (h : RightP w) (h' : RightP w') (hl : List.length (w'.2.2.2.1 : List (den tPlace)) = List.length (w.2.2.2.1 : List (den tPlace))) (hk : k < List.length (w.2.2.2.1 : List (den tPlace))) : hgtOf w' k = hgtOf w k := by
  have key : ∀ n, n ≤ List.length (w.2.2.2.1 : List (den tPlace)) → hgtL w' k n = hgtL w k n := by
    intro n
    induction n with
    | zero => intro _; rfl
    | succ n ih =>
      intro hn
      simp only [hgtL]
      rw [ih (by omega)]
      by_cases hw : WiW w n k
      · rw [if_pos hw, if_pos ((m.wi n).2 hw)]
        obtain ⟨_, e, _, _⟩ := (m.eqs h' hl (show n < _ by omega)).1 hw
        obtain ⟨_, e', _, _⟩ := (m.eqs h' hl hk).1 (.refl k)
        rw [show depOf w' n - depOf w' k = depOf w n - depOf w k by omega]
      · rw [if_neg hw, if_neg (fun h => hw ((m.wi n).1 h))]
  show hgtL w' k _ = hgtL w k _
  rw [hl]
  exact key _ (Nat.le_refl _)
end Go.Proofs.Ytlnnpcgfhcaafaa.Ghost
