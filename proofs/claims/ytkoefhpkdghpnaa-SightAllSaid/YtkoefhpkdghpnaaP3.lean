/- What functions come to, and that the statements are answered with 'true'. Conditions: none. -/
import Derived.Test.YtkoefhpkdghpnaaS
import Derived.Test.YtkoefhpkdghpnaaGE
import Derived.Test.YtkoefhpkdghpnaaP1
import Derived.Test.YtkoefhpkdghpnaaP2
set_option linter.unusedVariables false
set_option linter.unusedSimpArgs false
set_option linter.unusedSectionVars false
set_option linter.unnecessarySimpa false
namespace Go.Proofs.Ytkoefhpkdghpnaa.Ghost
open Go
/-- the places above a place -/
def chain (l : List Pl) : Nat → Pl → List Pl
  | 0, p => [p]
  | k + 1, p => if p.1 = (2 : Int) then p :: chain l k (List.getD l (Int.toNat p.2.1) (dft tPlace)) else [p]
def depN (l : List Pl) : Nat → Pl → Nat
  | 0, _ => 0
  | k + 1, p => if p.1 = (2 : Int) then depN l k (List.getD l (Int.toNat p.2.1) (dft tPlace)) + 1 else 0
theorem depN_le (l : List Pl) : (k : Nat) → (p : Pl) → depN l k p ≤ k
  | 0, _ => Nat.le_refl 0
  | k + 1, p => by
    simp only [depN]
    have := depN_le l k (List.getD l (Int.toNat p.2.1) (dft tPlace))
    split <;> omega
theorem chain_len (l : List Pl) : (k : Nat) → (p : Pl) → (chain l k p).length = depN l k p + 1
  | 0, _ => rfl
  | k + 1, p => by
    simp only [chain, depN]
    split
    · simp only [List.length_cons, chain_len l k]
    · rfl
theorem chain_last (l : List Pl) : (k : Nat) → (p : Pl) → List.getD (chain l k p) (depN l k p) (dft tPlace) = rootP l k p
  | 0, _ => rfl
  | k + 1, p => by
    simp only [chain, depN, rootP]
    split
    · rw [List.getD_cons_succ]; exact chain_last l k _
    · rfl
theorem upL_chain {l : List Pl} (hin : ∀ i, i < l.length → inPl l (List.getD l i (dft tPlace))) : (k f : Nat) → (p : Pl) → inPl l p → Ends l k p → k < f → upL l f p = some (chain l k p)
  | 0, f + 1, p, hp, he, _ => by
    have he : ¬ p.1 = (2 : Int) := he
    simp only [upL, chain]
    rw [decide_eq_false he]; rfl
  | k + 1, f + 1, p, hp, he, hf => by
    simp only [upL, chain]
    by_cases h2 : p.1 = (2 : Int)
    · have hb := hp h2
      rw [decide_eq_true h2, cond_true, if_pos hb, if_pos h2]
      have hlt : Int.toNat p.2.1 < l.length := (Int.toNat_lt hb.1).2 hb.2
      rw [upL_chain hin k f _ (hin _ hlt) (he h2) (by omega)]
    · rw [decide_eq_false h2, cond_false, if_neg h2]
theorem collect_spec (w : den tWorld) (h : RightP w) {i : Nat} (hi : i < List.length (w.2.2.2.1 : List (den tPlace))) : Comes (fun n _ _ _ => slices_Collect_api_Place n w (i : Int)) (fun r => r = ((chain w.2.2.2.1 51 (List.getD w.2.2.2.1 i (dft tPlace)), ()), [(0, [])])) := by
  refine Comes.succ (G := fun _ _ _ _ => some ((chain w.2.2.2.1 51 (List.getD w.2.2.2.1 i (dft tPlace)), ()), [(0, [])])) (fun n _ _ _ => ?_) (Comes.ret rfl)
  show (if (0 : Int) ≤ (i : Int) ∧ ((i : Int) : Int) < (List.length (w.2.2.2.1 : List (den tPlace)) : Int) then (match upL w.2.2.2.1 60 (List.getD (w.2.2.2.1 : List (den tPlace)) (Int.toNat (i : Int)) (dft tPlace)) with
      | some xs => some ((xs, ()), [(0, [])])
      | none => none) else none) = _
  rw [if_pos ⟨Int.natCast_nonneg i, Int.ofNat_lt.2 hi⟩, Int.toNat_natCast, upL_chain h.inPl 51 60 _ (h.inPl i hi) (h.ends hi) (by omega)]
theorem up_spec (w : den tWorld) (i : Int) : Comes (fun n _ _ _ => tree_up n w i) (fun r => r = (((w, i, ()), ()), [])) := Comes.succ (fun n _ _ _ => tree_up.eq n w i) (Comes.ret rfl)
abbrev plOf (w : den tWorld) (i : Nat) : Pl := List.getD (w.2.2.2.1 : List Pl) i (dft tPlace)
abbrev rootOf (w : den tWorld) (i : Nat) : Pl := rootP w.2.2.2.1 51 (plOf w i)
abbrev depOf (w : den tWorld) (i : Nat) : Nat := depN w.2.2.2.1 51 (plOf w i)
theorem treeRoot_spec (w : den tWorld) (h : RightP w) {i : Nat} (hi : i < List.length (w.2.2.2.1 : List (den tPlace))) : Comes (fun n _ _ _ => tree_Root n w (i : Int)) (fun r => r.1.1 = rootOf w i) := by
  refine Comes.succ (fun n _ _ _ => tree_Root.eq n w i) (Comes.call (up_spec w i) (fun v hv => ?_))
  subst hv
  refine Comes.call (collect_spec w h hi) (fun u hu => ?_)
  subst hu
  have hl : (chain w.2.2.2.1 51 (plOf w i)).length = depOf w i + 1 := chain_len w.2.2.2.1 51 (plOf w i)
  have hd : depOf w i ≤ 51 := depN_le w.2.2.2.1 51 (plOf w i)
  have e : IntKind.wrap .i64 ((List.length (chain w.2.2.2.1 51 (plOf w i)) : Int) - 1) = (depOf w i : Int) := by rw [hl, wrap_id (by omega) (by omega)]; omega
  show Comes (fun _ _ _ _ => if (0 : Int) ≤ IntKind.wrap .i64 ((List.length (chain w.2.2.2.1 51 (plOf w i)) : Int) - 1) ∧ IntKind.wrap .i64 ((List.length (chain w.2.2.2.1 51 (plOf w i)) : Int) - 1) < (List.length (chain w.2.2.2.1 51 (plOf w i)) : Int) then some ((List.getD (chain w.2.2.2.1 51 (plOf w i)) (Int.toNat (IntKind.wrap .i64 ((List.length (chain w.2.2.2.1 51 (plOf w i)) : Int) - 1))) (dft tPlace), ()), []) else none) _
  rw [e, hl]
  refine Comes.ite ⟨Int.natCast_nonneg _, by omega⟩ (Comes.ret ?_)
  rw [Int.toNat_natCast]
  exact chain_last _ _ _
end Go.Proofs.Ytkoefhpkdghpnaa.Ghost
namespace Go.Proofs.Ytkoefhpkdghpnaa.Ghost
open Go
abbrev Sn := den tSeen
/-- the items ahead of the n-th that hang from a place -/
def undL (w : den tWorld) (p : Pl) : Nat → List Sn
  | 0 => []
  | n + 1 => undL w p n ++ (if rootOf w n = p then [((n : Int), plOf w n, ())] else [])
theorem undL_len (w : den tWorld) (p : Pl) : (n : Nat) → (undL w p n).length ≤ n
  | 0 => Nat.le_refl 0
  | n + 1 => by
    simp only [undL, List.length_append]
    have := undL_len w p n
    split
    · simp only [List.length_singleton]; omega
    · simp only [List.length_nil]; omega
abbrev undOf (w : den tWorld) (p : Pl) : List Sn := undL w p (List.length (w.2.2.2.1 : List (den tPlace)))
theorem treeUnder_l0 (w : den tWorld) (ok : Ok w) (p : Pl) (t0 : den tWorld) (t1 : Pl) (t4 : List Sn) : (r i : Nat) → i + r = List.length (w.2.2.2.1 : List (den tPlace)) →
    Comes (fun n m _ _ => tree_Under.l0 n m t0 t1 t4 w.2.2.2.1 (List.length (w.2.2.2.1 : List (den tPlace)) : Int) (i : Int) w p (undL w p i)) (fun r => r = ((undOf w p, ()), [(0, [])]))
  | 0, i, hi => by
    refine Comes.succ1 (fun n m _ _ => tree_Under.l0_eq n m t0 t1 t4 w.2.2.2.1 _ i w p _) (Comes.bifF (decide_eq_false (by omega)) (Comes.ret ?_))
    rw [show i = List.length (w.2.2.2.1 : List (den tPlace)) by omega]
  | r + 1, i, hi => by
    have hlen := ok.sm.wh
    have hle := undL_len w p i
    have hil : i < List.length (w.2.2.2.1 : List (den tPlace)) := by omega
    have next := treeUnder_l0 w ok p t0 t1 t4 r (i + 1) (by omega)
    rw [← wrap_succ (by omega)] at next
    refine Comes.succ1 (fun n m _ _ => tree_Under.l0_eq n m t0 t1 t4 w.2.2.2.1 _ i w p _) (Comes.bifT (decide_eq_true (by omega)) (Comes.ite (by omega) (Comes.call (treeRoot_spec w ok.right hil) (fun v hv => ?_))))
    rw [hv, Int.toNat_natCast]
    refine Comes.bif (fun h2 => Comes.ite (by omega) ?_) (fun h2 => ?_)
    · have e : undL w p (i + 1) = undL w p i ++ [((i : Int), plOf w i, ())] := by
        simp only [undL]; rw [if_pos ((eqPl _ _).1 h2)]
      rw [e] at next
      exact next
    · have e : undL w p (i + 1) = undL w p i := by
        simp only [undL]; rw [if_neg (fun he => by rw [(eqPl _ _).2 he] at h2; cases h2), List.append_nil]
      rw [e] at next
      exact next
theorem treeUnder_spec (w : den tWorld) (ok : Ok w) (p : Pl) : Comes (fun n _ _ _ => tree_Under n w p) (fun r => r = ((undOf w p, ()), [(0, [])])) :=
  Comes.succ (fun n _ _ _ => tree_Under.eq n w p) (treeUnder_l0 w ok p w p [] _ 0 (Nat.zero_add _)).enter
theorem refUnder_l0 (w : den tWorld) (ok : Ok w) (p : Pl) (t0 : den tWorld) (t1 : Pl) (t4 : List Sn) : (r i : Nat) → i + r = List.length (w.2.2.2.1 : List (den tPlace)) →
    Comes (fun n m _ _ => innkeepref07_Under.l0 n m t0 t1 t4 (i : Int) w p (undL w p i)) (fun r => r = ((undOf w p, ()), [(0, [])]))
  | 0, i, hi => by
    refine Comes.succ1 (fun n m _ _ => innkeepref07_Under.l0_eq n m t0 t1 t4 i w p _) (Comes.bifF (decide_eq_false (by omega)) (Comes.ret ?_))
    rw [show i = List.length (w.2.2.2.1 : List (den tPlace)) by omega]
  | r + 1, i, hi => by
    have hlen := ok.sm.wh
    have hle := undL_len w p i
    have hil : i < List.length (w.2.2.2.1 : List (den tPlace)) := by omega
    have next := refUnder_l0 w ok p t0 t1 t4 r (i + 1) (by omega)
    rw [← wrap_succ (by omega)] at next
    refine Comes.succ1 (fun n m _ _ => innkeepref07_Under.l0_eq n m t0 t1 t4 i w p _) (Comes.bifT (decide_eq_true (by omega)) (Comes.call (refRoot_spec w ok.right 51 i hil (ok.right.ends hil)) (fun v hv => ?_)))
    rw [hv, Int.toNat_natCast]
    refine Comes.bif (fun h2 => Comes.ite (by omega) (Comes.ite (by omega) ?_)) (fun h2 => ?_)
    · have e : undL w p (i + 1) = undL w p i ++ [((i : Int), plOf w i, ())] := by
        simp only [undL]; rw [if_pos ((eqPl _ _).1 h2)]
      rw [e] at next
      exact next
    · have e : undL w p (i + 1) = undL w p i := by
        simp only [undL]; rw [if_neg (fun he => by rw [(eqPl _ _).2 he] at h2; cases h2), List.append_nil]
      rw [e] at next
      exact next
theorem refUnder_spec (w : den tWorld) (ok : Ok w) (p : Pl) : Comes (fun n _ _ _ => innkeepref07_Under n w p) (fun r => r = ((undOf w p, ()), [(0, [])])) :=
  Comes.succ (fun n _ _ _ => innkeepref07_Under.eq n w p) (refUnder_l0 w ok p w p [] _ 0 (Nat.zero_add _)).enter
end Go.Proofs.Ytkoefhpkdghpnaa.Ghost
namespace Go.Proofs.Ytkoefhpkdghpnaa.Ghost
open Go
theorem eqSn (x y : Sn) : eqT tSeen x y = true ↔ x = y := by
  obtain ⟨a, b, u⟩ := x
  obtain ⟨c, d, v⟩ := y
  cases u; cases v
  have h := eqPl b d
  simp only [eqT, eqTL] at h ⊢
  simp only [Bool.and_eq_true, Bool.and_true, decide_eq_true_eq, Prod.mk.injEq, and_true, beq_iff_eq] at h ⊢
  rw [h]
theorem seens_l0 (a b : List Sn) (hl : a.length = b.length) (hs : a.length ≤ 1048576) (t4 : Bool) : (r i : Nat) → i + r = a.length → (∀ i', i' < i → a.getD i' (dft tSeen) = b.getD i' (dft tSeen)) →
    Comes (fun n m _ _ => innkeepref05_Seens.l0 n m a b t4 (i : Int)) (fun r => r.1.1 = true ↔ a = b)
  | 0, i, hi, hp => by
    refine Comes.succ1 (fun n m _ _ => innkeepref05_Seens.l0_eq n m a b t4 i) (Comes.bif (fun h => ?_) (fun h => Comes.ret ?_))
    · have := of_decide_eq_true h; omega
    · exact ⟨fun _ => ext_getD (dft tSeen) hl (fun i' hi' => hp i' (by omega)), fun _ => rfl⟩
  | r + 1, i, hi, hp => by
    refine Comes.succ1 (fun n m _ _ => innkeepref05_Seens.l0_eq n m a b t4 i) (Comes.bif (fun h => Comes.ite (by omega) (Comes.ite (by omega) (Comes.bifN (fun h2 => ?_) (fun h2 => Comes.ret ?_)))) (fun h => ?_))
    · have h2 := (eqSn _ _).1 h2
      rw [wrap_succ (by omega)]
      refine seens_l0 a b hl hs t4 r (i + 1) (by omega) (fun i' hi' => ?_)
      by_cases he : i' = i
      · subst he; simpa using h2
      · exact hp i' (by omega)
    · refine ⟨(fun e => by cases e), fun e => ?_⟩
      rw [e, (eqSn _ _).2 rfl] at h2
      cases h2
    · have := of_decide_eq_false h; omega
theorem seens_spec (a b : List Sn) (hs : a.length ≤ 1048576) : Comes (fun n _ _ _ => innkeepref05_Seens n a b) (fun r => r.1.1 = true ↔ a = b) := by
  refine Comes.succ (fun n _ _ _ => innkeepref05_Seens.eq n a b) (Comes.bifN (fun h => ?_) (fun h => Comes.ret ?_))
  · have h := of_decide_eq_true h
    exact (seens_l0 a b (by omega) hs false _ 0 (Nat.zero_add _) (fun i' hi' => by omega)).enter
  · have h := of_decide_eq_false h
    exact ⟨(fun e => by cases e), fun e => absurd (by rw [e]) h⟩
end Go.Proofs.Ytkoefhpkdghpnaa.Ghost
