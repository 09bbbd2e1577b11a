/- What functions come to, and that the statements are answered with 'true'. Conditions: none. -/
import Derived.Test.YtobegmljkfphjaaS
import Derived.Test.YtobegmljkfphjaaGE
import Derived.Test.YtobegmljkfphjaaP1
import Derived.Test.YtobegmljkfphjaaP2
import Derived.Test.YtobegmljkfphjaaP3
set_option linter.unusedVariables false
set_option linter.unusedSimpArgs false
set_option linter.unusedSectionVars false
set_option linter.unnecessarySimpa false
namespace Go.Proofs.Ytobegmljkfphjaa.Ghost
open Go
/-- a key's place, of so many rooms and so many players -/
def plc (ex pl k1 k2 : Int) : Int := if k1 = 0 ∧ 0 ≤ k2 ∧ k2 < ex then k2 else if k1 = 1 ∧ 0 ≤ k2 ∧ k2 < pl then ex + k2 else -1
def atOk (ex pl p : Int) : Bool := decide (0 ≤ p ∧ p < ex + pl)
def atK (ex pl p : Int) : den tKey := if 0 ≤ p ∧ p < ex + pl then if p < ex then (0, p, ()) else (1, p - ex, ()) else (0, 0, ())
theorem find2 (k x y : Int) : (Option.getD (mapFind (.int .i64) (.int .i64) k (mapPut (.int .i64) (.int .i64) (1 : Int) y (mapPut (.int .i64) (.int .i64) (0 : Int) x []))) (0 : Int) : Int) = if k = 0 then x else if k = 1 then y else 0 := by
  rw [show mapPut (.int .i64) (.int .i64) (1 : Int) y (mapPut (.int .i64) (.int .i64) (0 : Int) x []) = [((0 : Int), x), ((1 : Int), y)] from rfl]
  by_cases h : k = 0
  · subst h; rfl
  · by_cases h1 : k = 1
    · subst h1; rfl
    · rw [if_neg h, if_neg h1]
      simp only [mapFind, eqT]
      simp [h, h1]
section
variable {d : den tDesc}
theorem many_spec (h1 : List.length d.1 ≤ 20) (h2 : List.length d.2.1 ≤ 20) : Comes (fun nf _ _ _ => keys_Many nf (d)) (fun r => r = ((((List.length d.1 : Nat) : Int) + ((List.length d.2.1 : Nat) : Int), ()), [])) := by
  refine Comes.succ (fun nf _ _ _ => keys_Many.eq nf _) ?_
  rw [wrap_id (by omega) (by omega)]
  simp
theorem kplace_spec (h1 : List.length d.1 ≤ 20) (h2 : List.length d.2.1 ≤ 20) (k : den tKey) : Comes (fun nf _ _ _ => keys_Place nf (d) (k)) (fun r => r = ((plc (List.length d.1 : Nat) (List.length d.2.1 : Nat) k.1 k.2.1, ()), [])) := by
  refine Comes.succ (fun nf _ _ _ => keys_Place.eq nf _ _) ?_
  have key : ∀ k1 k2 : Int, (bif decide (k2 < 0) then some (((-1 : Int), ()), ([] : Fresh)) else bif decide ((Option.getD (mapFind (.int .i64) (.int .i64) k1 (mapPut (.int .i64) (.int .i64) (1 : Int) ((List.length d.2.1 : Nat) : Int) (mapPut (.int .i64) (.int .i64) (0 : Int) ((List.length d.1 : Nat) : Int) []))) (0 : Int) : Int) ≤ k2) then some (((-1 : Int), ()), []) else some ((IntKind.wrap .i64 ((Option.getD (mapFind (.int .i64) (.int .i64) k1 (mapPut (.int .i64) (.int .i64) (1 : Int) ((List.length d.1 : Nat) : Int) (mapPut (.int .i64) (.int .i64) (0 : Int) (0 : Int) []))) (0 : Int) : Int) + k2), ()), [])) = some ((plc (List.length d.1 : Nat) (List.length d.2.1 : Nat) k1 k2, ()), []) := by
    intro k1 k2
    rw [find2, find2]
    have val : ∀ v : Int, (∀ (_ : k1 = 0 ∧ 0 ≤ k2 ∧ k2 < ((List.length d.1 : Nat) : Int)), v = k2) → (∀ (_ : k1 = 1 ∧ 0 ≤ k2 ∧ k2 < ((List.length d.2.1 : Nat) : Int)), v = ((List.length d.1 : Nat) : Int) + k2) → (¬ (k1 = 0 ∧ 0 ≤ k2 ∧ k2 < ((List.length d.1 : Nat) : Int)) → ¬ (k1 = 1 ∧ 0 ≤ k2 ∧ k2 < ((List.length d.2.1 : Nat) : Int)) → v = -1) → plc (List.length d.1 : Nat) (List.length d.2.1 : Nat) k1 k2 = v := by
      intro v a b c
      unfold plc
      split
      · rename_i h; exact (a h).symm
      · rename_i h
        split
        · rename_i h'; exact (b h').symm
        · rename_i h'; exact (c h h').symm
    by_cases a : k2 < 0
    · rw [val (-1) (by omega) (by omega) (by omega), decide_eq_true a]; rfl
    · rw [decide_eq_false a]
      by_cases b : k1 = 0
      · rw [if_pos b, if_pos b]
        by_cases c : ((List.length d.1 : Nat) : Int) ≤ k2
        · rw [val (-1) (by omega) (by omega) (by omega), decide_eq_true c]; rfl
        · rw [val k2 (by omega) (by omega) (by omega), decide_eq_false c, wrap_id (by omega) (by omega), Int.zero_add]; rfl
      · rw [if_neg b, if_neg b]
        by_cases b1 : k1 = 1
        · rw [if_pos b1, if_pos b1]
          by_cases c : ((List.length d.2.1 : Nat) : Int) ≤ k2
          · rw [val (-1) (by omega) (by omega) (by omega), decide_eq_true c]; rfl
          · rw [val (((List.length d.1 : Nat) : Int) + k2) (by omega) (by omega) (by omega), decide_eq_false c, wrap_id (by omega) (by omega)]; rfl
        · rw [if_neg b1, if_neg b1, val (-1) (by omega) (by omega) (by omega), decide_eq_true (show (0 : Int) ≤ k2 by omega)]; rfl
  have := key k.1 k.2.1
  refine ⟨_, rfl, 0, fun n m k' j _ _ _ _ => ?_⟩
  exact this
theorem rplace_spec (h1 : List.length d.1 ≤ 20) (h2 : List.length d.2.1 ≤ 20) (k : den tKey) : Comes (fun nf _ _ _ => innkeepref14_Place nf (d) (k)) (fun r => r = ((plc (List.length d.1 : Nat) (List.length d.2.1 : Nat) k.1 k.2.1, ()), [])) := by
  refine Comes.succ (fun nf _ _ _ => innkeepref14_Place.eq nf _ _) ?_
  obtain ⟨k1, k2, ⟨⟩⟩ := k
  have key : ∀ k1 k2 : Int, Comes (fun nf _ _ _ => innkeepref14_Place nf (d) ((k1, k2, ()))) (fun r => r = ((plc (List.length d.1 : Nat) (List.length d.2.1 : Nat) k1 k2, ()), [])) := by
    intro k1 k2
    refine Comes.succ (fun nf _ _ _ => innkeepref14_Place.eq nf _ _) ?_
    unfold plc
    by_cases a : k1 = 0
    · have a1 : ¬ k1 = 1 := by omega
      by_cases b : 0 ≤ k2
      · by_cases c : k2 < ((List.length d.1 : Nat) : Int)
        · simp only [a, b, c, decide_true, decide_false, cond_true, cond_false, comes_ret, and_self, if_true]
        · simp [a, b, c]
      · simp [a, b]
    · by_cases a1 : k1 = 1
      · by_cases b : 0 ≤ k2
        · by_cases c : k2 < ((List.length d.2.1 : Nat) : Int)
          · have w : IntKind.wrap .i64 (((List.length d.1 : Nat) : Int) + k2) = ((List.length d.1 : Nat) : Int) + k2 := wrap_id (by omega) (by omega)
            simp [a1, b, c, w]
          · simp [a1, b, c]
        · simp [a1, b]
      · simp [a, a1]
  have := key k1 k2
  obtain ⟨v, hv, N, hN⟩ := this
  refine ⟨v, hv, N, fun n m k j a b c e => ?_⟩
  exact (innkeepref14_Place.eq n d (k1, k2, ())).symm.trans (hN (n + 1) m k j (by omega) b c e)
theorem at_spec (h1 : List.length d.1 ≤ 20) (h2 : List.length d.2.1 ≤ 20) (p : Int) : Comes (fun nf _ _ _ => keys_At nf (d) (p)) (fun r => r = ((atK (List.length d.1 : Nat) (List.length d.2.1 : Nat) p, atOk (List.length d.1 : Nat) (List.length d.2.1 : Nat) p, ()), [])) := by
  refine Comes.succ (fun nf _ _ _ => keys_At.eq nf _ _) ?_
  unfold atK atOk
  by_cases a : p < 0
  · have : ¬ (0 ≤ p ∧ p < ((List.length d.1 : Nat) : Int) + ((List.length d.2.1 : Nat) : Int)) := by omega
    simp only [a, this, decide_true, decide_false, cond_true, comes_ret, if_false]
  · by_cases b : ((List.length d.1 : Nat) : Int) + ((List.length d.2.1 : Nat) : Int) ≤ p
    · have : ¬ (0 ≤ p ∧ p < ((List.length d.1 : Nat) : Int) + ((List.length d.2.1 : Nat) : Int)) := by omega
      simp only [a, decide_false, cond_false, comes_call (many_spec h1 h2), (many_spec h1 h2).prop, b, this, decide_true, decide_false, cond_true, cond_false, comes_ret, if_false]
    · have : (0 ≤ p ∧ p < ((List.length d.1 : Nat) : Int) + ((List.length d.2.1 : Nat) : Int)) := by omega
      have w : IntKind.wrap .i64 (p - ((List.length d.1 : Nat) : Int)) = p - ((List.length d.1 : Nat) : Int) := wrap_id (by omega) (by omega)
      by_cases c : p < ((List.length d.1 : Nat) : Int)
      · simp only [a, decide_false, cond_false, comes_call (many_spec h1 h2), (many_spec h1 h2).prop, b, c, this, w, decide_true, decide_false, cond_true, cond_false, comes_ret, if_true, and_self]
      · simp only [a, decide_false, cond_false, comes_call (many_spec h1 h2), (many_spec h1 h2).prop, b, c, this, w, decide_true, decide_false, cond_true, cond_false, comes_ret, if_true, if_false, and_self]
end
theorem plc_at {ex pl p : Int} (he : 0 ≤ ex) (hp : 0 ≤ pl) (h : 0 ≤ p ∧ p < ex + pl) : plc ex pl (atK ex pl p).1 (atK ex pl p).2.1 = p := by
  unfold atK
  rw [if_pos h]
  split
  · show plc ex pl 0 p = p
    unfold plc; rw [if_pos (by omega)]
  · show plc ex pl 1 (p - ex) = p
    unfold plc; rw [if_neg (by omega), if_pos (by omega)]; omega
theorem at_plc {ex pl : Int} (he : 0 ≤ ex) (hp : 0 ≤ pl) (k : den tKey) : (plc ex pl k.1 k.2.1 = -1 ∧ atOk ex pl (plc ex pl k.1 k.2.1) = false) ∨ (0 ≤ plc ex pl k.1 k.2.1 ∧ atOk ex pl (plc ex pl k.1 k.2.1) = true ∧ atK ex pl (plc ex pl k.1 k.2.1) = k) := by
  have key : ∀ k1 k2 : Int, (plc ex pl k1 k2 = -1 ∧ atOk ex pl (plc ex pl k1 k2) = false) ∨ (0 ≤ plc ex pl k1 k2 ∧ atOk ex pl (plc ex pl k1 k2) = true ∧ atK ex pl (plc ex pl k1 k2) = (k1, k2, ())) := by
    intro k1 k2
    unfold plc
    by_cases a : k1 = 0 ∧ 0 ≤ k2 ∧ k2 < ex
    · rw [if_pos a]
      refine .inr ⟨a.2.1, decide_eq_true (by omega), ?_⟩
      unfold atK; rw [if_pos (by omega), if_pos a.2.2, a.1]
    · rw [if_neg a]
      by_cases b : k1 = 1 ∧ 0 ≤ k2 ∧ k2 < pl
      · rw [if_pos b]
        refine .inr ⟨by omega, decide_eq_true (by omega), ?_⟩
        unfold atK; rw [if_pos (by omega), if_neg (by omega), b.1, show ex + k2 - ex = k2 by omega]
      · rw [if_neg b]
        exact .inl ⟨rfl, decide_eq_false (by omega)⟩
  exact key k.1 k.2.1
end Go.Proofs.Ytobegmljkfphjaa.Ghost
