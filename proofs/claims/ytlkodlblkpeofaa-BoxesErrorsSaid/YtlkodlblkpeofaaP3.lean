/- What functions come to, and that the statements are answered with 'true'. Conditions: none. -/
import Derived.Test.YtlkodlblkpeofaaS
import Derived.Test.YtlkodlblkpeofaaGE
import Derived.Test.YtlkodlblkpeofaaP1
import Derived.Test.YtlkodlblkpeofaaP2
set_option linter.unusedVariables false
set_option linter.unusedSimpArgs false
set_option linter.unusedSectionVars false
set_option linter.unnecessarySimpa false
namespace Go.Proofs.Ytlkodlblkpeofaa.Ghost
open Go
/-- the places above a place -/
def chain (l : List Pl) : Nat → Pl → List Pl
  | 0, p => [p]
  | k + 1, p => if p.1 = (2 : Int) then p :: chain l k (List.getD l (Int.toNat p.2.1) (dft tPlace)) else [p]
def depN (l : List Pl) : Nat → Pl → Nat
  | 0, _ => 0
  | k + 1, p => if p.1 = (2 : Int) then depN l k (List.getD l (Int.toNat p.2.1) (dft tPlace)) + 1 else 0
theorem depN_le (l : List Pl) : (k : Nat) → (p : Pl) → depN l k p ≤ k
  | 0, _ => Nat.le_refl 0
  | k + 1, p => by
    simp only [depN]
    have := depN_le l k (List.getD l (Int.toNat p.2.1) (dft tPlace))
    split <;> omega
theorem chain_len (l : List Pl) : (k : Nat) → (p : Pl) → (chain l k p).length = depN l k p + 1
  | 0, _ => rfl
  | k + 1, p => by
    simp only [chain, depN]
    split
    · simp only [List.length_cons, chain_len l k]
    · rfl
theorem chain_last (l : List Pl) : (k : Nat) → (p : Pl) → List.getD (chain l k p) (depN l k p) (dft tPlace) = rootP l k p
  | 0, _ => rfl
  | k + 1, p => by
    simp only [chain, depN, rootP]
    split
    · rw [List.getD_cons_succ]; exact chain_last l k _
    · rfl
theorem upL_chain {l : List Pl} (hin : ∀ i, i < l.length → inPl l (List.getD l i (dft tPlace))) : (k f : Nat) → (p : Pl) → inPl l p → Ends l k p → k < f → upL l f p = some (chain l k p)
  | 0, f + 1, p, hp, he, _ => by
    have he : ¬ p.1 = (2 : Int) := he
    simp only [upL, chain]
    rw [decide_eq_false he]; rfl
  | k + 1, f + 1, p, hp, he, hf => by
    simp only [upL, chain]
    by_cases h2 : p.1 = (2 : Int)
    · have hb := hp h2
      rw [decide_eq_true h2, cond_true, if_pos hb, if_pos h2]
      have hlt : Int.toNat p.2.1 < l.length := (Int.toNat_lt hb.1).2 hb.2
      rw [upL_chain hin k f _ (hin _ hlt) (he h2) (by omega)]
    · rw [decide_eq_false h2, cond_false, if_neg h2]
theorem collect_spec (w : den tWorld) (h : RightP w) {i : Nat} (hi : i < List.length (w.2.2.2.1 : List (den tPlace))) : Comes (fun n _ _ _ => slices_Collect_api_Place n w (i : Int)) (fun r => r = ((chain w.2.2.2.1 51 (List.getD w.2.2.2.1 i (dft tPlace)), ()), [(0, [])])) := by
  refine Comes.succ (G := fun _ _ _ _ => some ((chain w.2.2.2.1 51 (List.getD w.2.2.2.1 i (dft tPlace)), ()), [(0, [])])) (fun n _ _ _ => ?_) (Comes.ret rfl)
  show (if (0 : Int) ≤ (i : Int) ∧ ((i : Int) : Int) < (List.length (w.2.2.2.1 : List (den tPlace)) : Int) then (match upL w.2.2.2.1 60 (List.getD (w.2.2.2.1 : List (den tPlace)) (Int.toNat (i : Int)) (dft tPlace)) with
      | some xs => some ((xs, ()), [(0, [])])
      | none => none) else none) = _
  rw [if_pos ⟨Int.natCast_nonneg i, Int.ofNat_lt.2 hi⟩, Int.toNat_natCast, upL_chain h.inPl 51 60 _ (h.inPl i hi) (h.ends hi) (by omega)]
theorem up_spec (w : den tWorld) (i : Int) : Comes (fun n _ _ _ => tree_up n w i) (fun r => r = (((w, i, ()), ()), [])) := Comes.succ (fun n _ _ _ => tree_up.eq n w i) (Comes.ret rfl)
abbrev plOf (w : den tWorld) (i : Nat) : Pl := List.getD (w.2.2.2.1 : List Pl) i (dft tPlace)
abbrev rootOf (w : den tWorld) (i : Nat) : Pl := rootP w.2.2.2.1 51 (plOf w i)
abbrev depOf (w : den tWorld) (i : Nat) : Nat := depN w.2.2.2.1 51 (plOf w i)
theorem treeRoot_spec (w : den tWorld) (h : RightP w) {i : Nat} (hi : i < List.length (w.2.2.2.1 : List (den tPlace))) : Comes (fun n _ _ _ => tree_Root n w (i : Int)) (fun r => r.1.1 = rootOf w i) := by
  refine Comes.succ (fun n _ _ _ => tree_Root.eq n w i) (Comes.call (up_spec w i) (fun v hv => ?_))
  subst hv
  refine Comes.call (collect_spec w h hi) (fun u hu => ?_)
  subst hu
  have hl : (chain w.2.2.2.1 51 (plOf w i)).length = depOf w i + 1 := chain_len w.2.2.2.1 51 (plOf w i)
  have hd : depOf w i ≤ 51 := depN_le w.2.2.2.1 51 (plOf w i)
  have e : IntKind.wrap .i64 ((List.length (chain w.2.2.2.1 51 (plOf w i)) : Int) - 1) = (depOf w i : Int) := by rw [hl, wrap_id (by omega) (by omega)]; omega
  show Comes (fun _ _ _ _ => if (0 : Int) ≤ IntKind.wrap .i64 ((List.length (chain w.2.2.2.1 51 (plOf w i)) : Int) - 1) ∧ IntKind.wrap .i64 ((List.length (chain w.2.2.2.1 51 (plOf w i)) : Int) - 1) < (List.length (chain w.2.2.2.1 51 (plOf w i)) : Int) then some ((List.getD (chain w.2.2.2.1 51 (plOf w i)) (Int.toNat (IntKind.wrap .i64 ((List.length (chain w.2.2.2.1 51 (plOf w i)) : Int) - 1))) (dft tPlace), ()), []) else none) _
  rw [e, hl]
  refine Comes.ite ⟨Int.natCast_nonneg _, by omega⟩ (Comes.ret ?_)
  rw [Int.toNat_natCast]
  exact chain_last _ _ _
end Go.Proofs.Ytlkodlblkpeofaa.Ghost
