/- What functions come to, and that the statements are answered with 'true'. Conditions: none. -/
import Derived.Test.YtbdciahiebnmhaaP1
set_option linter.unusedVariables false
set_option linter.unusedSimpArgs false
set_option linter.unusedSectionVars false
set_option linter.unnecessarySimpa false
namespace Go.Proofs.Ytbdciahiebnmhaa.Ghost
open Go
/-! ### What is in a place -/
def inL (l : List Pl) (p : Pl) : Nat → List Int
  | 0 => []
  | n + 1 => inL l p n ++ (if List.getD l n (dft tPlace) = p then [(n : Int)] else [])
theorem inL_len (l : List Pl) (p : Pl) : (n : Nat) → (inL l p n).length = manyPl l p n
  | 0 => rfl
  | n + 1 => by
    simp only [inL, manyPl, List.length_append, inL_len l p n]
    split <;> rfl
theorem treeIn_l0 (w : den tWorld) (hs : Sm w) (p : Pl) (t0 : den tWorld) (t1 : Pl) (t4 : List Int) : (r i : Nat) → i + r = List.length (w.2.2.2.1 : List (den tPlace)) →
    Comes (fun n m _ _ => tree_In.l0 n m t0 t1 t4 w.2.2.2.1 (List.length (w.2.2.2.1 : List (den tPlace)) : Int) (i : Int) w p (inL w.2.2.2.1 p i)) (fun r => r.1.1 = inL w.2.2.2.1 p (List.length (w.2.2.2.1 : List (den tPlace))))
  | 0, i, hi => by
    refine Comes.succ1 (fun n m _ _ => tree_In.l0_eq n m t0 t1 t4 w.2.2.2.1 _ i w p _) (Comes.bif (fun h => ?_) (fun h => Comes.ret ?_))
    · have := of_decide_eq_true h; omega
    · rw [show i = List.length (w.2.2.2.1 : List (den tPlace)) by omega]
  | r + 1, i, hi => by
    have hlen := hs.wh
    have hle := manyPl_le w.2.2.2.1 p i
    have hil := inL_len w.2.2.2.1 p i
    refine Comes.succ1 (fun n m _ _ => tree_In.l0_eq n m t0 t1 t4 w.2.2.2.1 _ i w p _) (Comes.bif (fun h => Comes.ite (by omega) (Comes.bif (fun h2 => Comes.ite (by omega) ?_) (fun h2 => ?_))) (fun h => ?_))
    · rw [wrap_succ (by omega)]
      have e : inL w.2.2.2.1 p (i + 1) = inL w.2.2.2.1 p i ++ [(i : Int)] := by
        simp only [inL]; rw [if_pos (by simpa using ((eqPl _ _).1 h2).symm)]
      rw [← e]
      exact treeIn_l0 w hs p t0 t1 t4 r (i + 1) (by omega)
    · rw [wrap_succ (by omega)]
      have e : inL w.2.2.2.1 p (i + 1) = inL w.2.2.2.1 p i := by
        simp only [inL]
        rw [if_neg (fun he => by rw [(eqPl _ _).2 (by simpa using he.symm)] at h2; cases h2), List.append_nil]
      have := treeIn_l0 w hs p t0 t1 t4 r (i + 1) (by omega)
      rw [e] at this
      exact this
    · have := of_decide_eq_false h; omega
theorem treeIn_spec (w : den tWorld) (hs : Sm w) (p : Pl) : Comes (fun n _ _ _ => tree_In n w p) (fun r => r.1.1 = inL w.2.2.2.1 p (List.length (w.2.2.2.1 : List (den tPlace)))) := by
  refine Comes.succ (fun n _ _ _ => tree_In.eq n w p) ?_
  exact (treeIn_l0 w hs p w p [] _ 0 (Nat.zero_add _)).enter
theorem refIn_l0 (w : den tWorld) (hs : Sm w) (p : Pl) (t0 : den tWorld) (t1 : Pl) (t4 : List Int) : (r i : Nat) → i + r = List.length (w.2.2.2.1 : List (den tPlace)) →
    Comes (fun n m _ _ => innkeepref07_In.l0 n m t0 t1 t4 (i : Int) w p (inL w.2.2.2.1 p i)) (fun r => r.1.1 = inL w.2.2.2.1 p (List.length (w.2.2.2.1 : List (den tPlace))))
  | 0, i, hi => by
    refine Comes.succ1 (fun n m _ _ => innkeepref07_In.l0_eq n m t0 t1 t4 i w p _) (Comes.bif (fun h => ?_) (fun h => Comes.ret ?_))
    · have := of_decide_eq_true h; omega
    · rw [show i = List.length (w.2.2.2.1 : List (den tPlace)) by omega]
  | r + 1, i, hi => by
    have hlen := hs.wh
    have hle := manyPl_le w.2.2.2.1 p i
    have hil := inL_len w.2.2.2.1 p i
    refine Comes.succ1 (fun n m _ _ => innkeepref07_In.l0_eq n m t0 t1 t4 i w p _) (Comes.bif (fun h => Comes.ite (by omega) (Comes.bif (fun h2 => Comes.ite (by omega) ?_) (fun h2 => ?_))) (fun h => ?_))
    · rw [wrap_succ (by omega)]
      have e : inL w.2.2.2.1 p (i + 1) = inL w.2.2.2.1 p i ++ [(i : Int)] := by
        simp only [inL]; rw [if_pos (by simpa using (eqPl _ _).1 h2)]
      rw [← e]
      exact refIn_l0 w hs p t0 t1 t4 r (i + 1) (by omega)
    · rw [wrap_succ (by omega)]
      have e : inL w.2.2.2.1 p (i + 1) = inL w.2.2.2.1 p i := by
        simp only [inL]
        rw [if_neg (fun he => by rw [(eqPl _ _).2 (by simpa using he)] at h2; cases h2), List.append_nil]
      have := refIn_l0 w hs p t0 t1 t4 r (i + 1) (by omega)
      rw [e] at this
      exact this
    · have := of_decide_eq_false h; omega
theorem refIn_spec (w : den tWorld) (hs : Sm w) (p : Pl) : Comes (fun n _ _ _ => innkeepref07_In n w p) (fun r => r.1.1 = inL w.2.2.2.1 p (List.length (w.2.2.2.1 : List (den tPlace)))) := by
  refine Comes.succ (fun n _ _ _ => innkeepref07_In.eq n w p) ?_
  exact (refIn_l0 w hs p w p [] _ 0 (Nat.zero_add _)).enter
/-! ### Room -/
def roomI (w : den tWorld) (p : Pl) : Int := capI w.1 p - (manyPl w.2.2.2.1 p (List.length (w.2.2.2.1 : List (den tPlace))) : Int)
theorem capI_list (d : den tDesc) (p : Pl) (hp : (0 : Int) ≤ p.1 ∧ (p.1 : Int) < 3) : List.getD ([(d.2.2.2.2.2.1 : Int), (d.2.2.2.2.2.2.1 : Int), (d.2.2.2.2.2.2.2.1 : Int)] : List Int) (Int.toNat (p.1 : Int)) (0 : Int) = capI d p := by
  have key : ∀ k : Int, 0 ≤ k → k < 3 → k = 0 ∨ k = 1 ∨ k = 2 := fun k h0 h1 => by omega
  unfold capI
  rcases key p.1 hp.1 hp.2 with h | h | h <;> rw [h] <;> rfl
theorem capI_range {d : den tDesc} (h : MayP d) (p : Pl) : 0 ≤ capI d p ∧ capI d p < 65 := by
  unfold capI
  split
  · exact h.room
  · split
    · exact h.player
    · exact h.box
theorem many_pos {l : List Pl} {p : Pl} : {n : Nat} → 0 < manyPl l p n → ∃ i, i < n ∧ List.getD l i (dft tPlace) = p
  | 0, h => by simp [manyPl] at h
  | n + 1, h => by
    simp only [manyPl] at h
    by_cases he : List.getD l n (dft tPlace) = p
    · exact ⟨n, by omega, he⟩
    · rw [if_neg he] at h
      obtain ⟨i, h1, h2⟩ := many_pos (l := l) (p := p) (n := n) (by omega)
      exact ⟨i, by omega, h2⟩
theorem RightP.room {w : den tWorld} (h : RightP w) (p : Pl) : 0 ≤ roomI w p ∧ roomI w p < 65 := by
  have hc := capI_range h.may p
  unfold roomI
  by_cases h0 : 0 < manyPl w.2.2.2.1 p (List.length (w.2.2.2.1 : List (den tPlace)))
  · obtain ⟨i, hi, he⟩ := many_pos h0
    have := (h.deep i hi).2
    rw [he] at this
    omega
  · omega
theorem treeRoom_spec (w : den tWorld) (ok : Ok w) (p : Pl) (hp : (0 : Int) ≤ p.1 ∧ (p.1 : Int) < 3) : Comes (fun n _ _ _ => tree_Room n w p) (fun r => r.1.1 = roomI w p) := by
  refine Comes.succ (fun n _ _ _ => tree_Room.eq n w p) (Comes.ite hp (Comes.call (treeIn_spec w ok.sm p) (fun v hv => Comes.ret ?_)))
  have hr := ok.right.room p
  show IntKind.wrap .i64 (List.getD ([(w.1.2.2.2.2.2.1 : Int), (w.1.2.2.2.2.2.2.1 : Int), (w.1.2.2.2.2.2.2.2.1 : Int)] : List Int) (Int.toNat (p.1 : Int)) (0 : Int) - (List.length (v.1.1 : List Int) : Int)) = roomI w p
  rw [hv, inL_len, capI_list w.1 p hp]
  unfold roomI at hr ⊢
  rw [wrap_id (by omega) (by omega)]
theorem refRoom_spec (w : den tWorld) (ok : Ok w) (p : Pl) (hp : (0 : Int) ≤ p.1 ∧ (p.1 : Int) < 3) : Comes (fun n _ _ _ => innkeepref07_Room n w p) (fun r => r.1.1 = roomI w p) := by
  have hw := ok.sm.wh
  refine Comes.succ (fun n _ _ _ => innkeepref07_Room.eq n w p) (Comes.call (cap_spec w p hp) (fun v hv => Comes.call (many_spec w (by omega) p) (fun u hu => Comes.ret ?_)))
  have hr := ok.right.room p
  subst hv hu
  show IntKind.wrap .i64 (capI w.1 p - (manyPl w.2.2.2.1 p (List.length (w.2.2.2.1 : List (den tPlace))) : Int)) = roomI w p
  unfold roomI at hr ⊢
  rw [wrap_id (by omega) (by omega)]
/-! ### To -/
def put (w : den tWorld) (i : Nat) (p : Pl) : den tWorld := (w.1, w.2.1, w.2.2.1, List.set (w.2.2.2.1 : List (den tPlace)) i p, ())
theorem put_len (w : den tWorld) (i : Nat) (p : Pl) : List.length ((put w i p).2.2.2.1 : List (den tPlace)) = List.length (w.2.2.2.1 : List (den tPlace)) := by
  show List.length (List.set (w.2.2.2.1 : List (den tPlace)) i p) = _
  exact List.length_set
theorem put_at (w : den tWorld) (i j : Nat) (p : Pl) (h : i < List.length (w.2.2.2.1 : List (den tPlace))) : List.getD ((put w i p).2.2.2.1 : List (den tPlace)) j (dft tPlace) = if j = i then p else List.getD (w.2.2.2.1 : List (den tPlace)) j (dft tPlace) := by
  show List.getD (List.set (w.2.2.2.1 : List (den tPlace)) i p) j (dft tPlace) = _
  exact getD_set _ _ _ _ _ h
theorem sm_put {w : den tWorld} (h : Sm w) (i : Nat) (p : Pl) : Sm (put w i p) :=
  ⟨h.e, h.b, h.p, h.c, h.i, h.a, h.wc, by rw [put_len]; exact h.wh, h.rows⟩
theorem to_spec (w : den tWorld) (hs : Sm w) {i : Nat} (hi : i < List.length (w.2.2.2.1 : List (den tPlace))) (p : Pl) : Comes (fun n _ _ _ => hold_To n w (i : Int) p) (fun r => r = ((put w i p, ()), [(0, [3])])) := by
  refine Comes.succ (fun n _ _ _ => hold_To.eq n w i p) (Comes.call (copy_spec w hs) (fun v hv => ?_))
  subst hv
  refine Comes.bifT rfl (Comes.ite ⟨Int.natCast_nonneg i, Int.ofNat_lt.2 hi⟩ (Comes.ret ?_))
  rw [Int.toNat_natCast]
  rfl
theorem refTo_spec (w : den tWorld) (hs : Sm w) {i : Nat} (hi : i < List.length (w.2.2.2.1 : List (den tPlace))) (p : Pl) : Comes (fun n _ _ _ => innkeepref09_To n w (i : Int) p) (fun r => r.1 = (put w i p, ())) := by
  refine Comes.succ (fun n _ _ _ => innkeepref09_To.eq n w i p) (Comes.call (copied_spec w hs) (fun v hv => ?_))
  subst hv
  refine Comes.bifT rfl (Comes.ite ⟨Int.natCast_nonneg i, Int.ofNat_lt.2 hi⟩ (Comes.ret ?_))
  rw [Int.toNat_natCast]
  rfl
/-! ### Passing -/
def passErr (w : den tWorld) (k : Int) (p q : Pl) : Int := if k < 0 then 3 else if (List.length (w.2.2.2.1 : List (den tPlace)) : Int) ≤ k then 3 else if List.getD (w.2.2.2.1 : List (den tPlace)) (Int.toNat k) (dft tPlace) = p then (if roomI w q < 1 then 9 else 0) else 5
def passR (w : den tWorld) (k : Int) (p q : Pl) : den tWorld × Int × Unit := if passErr w k p q = 0 then (put w (Int.toNat k) q, 0, ()) else (w, passErr w k p q, ())
theorem passErr_zero {w : den tWorld} {k : Int} {p q : Pl} (h : passErr w k p q = 0) : 0 ≤ k ∧ k < (List.length (w.2.2.2.1 : List (den tPlace)) : Int) ∧ List.getD (w.2.2.2.1 : List (den tPlace)) (Int.toNat k) (dft tPlace) = p ∧ 1 ≤ roomI w q := by
  unfold passErr at h
  split at h
  · cases h
  · split at h
    · cases h
    · split at h
      · split at h
        · cases h
        · rename_i a b c d; exact ⟨by omega, by omega, c, by omega⟩
      · cases h
theorem pass_spec (w : den tWorld) (ok : Ok w) (k : Int) (p q : Pl) (hq : (0 : Int) ≤ q.1 ∧ (q.1 : Int) < 3) : Comes (fun n _ _ _ => hold_pass n w k p q) (fun r => r.1 = passR w k p q ∧ r.2 = if passErr w k p q = 0 then [(0, [3])] else []) := by
  refine Comes.succ (fun n _ _ _ => hold_pass.eq n w k p q) ?_
  unfold passR
  refine Comes.bif (fun h1 => Comes.ret ?_) (fun h1 => Comes.bif (fun h2 => Comes.ret ?_) (fun h2 => ?_))
  · have e : passErr w k p q = 3 := by unfold passErr; rw [if_pos (of_decide_eq_true h1)]
    rw [e, if_neg (by decide)]; exact ⟨rfl, rfl⟩
  · have e : passErr w k p q = 3 := by unfold passErr; rw [if_neg (of_decide_eq_false h1), if_pos (of_decide_eq_true h2)]
    rw [e, if_neg (by decide)]; exact ⟨rfl, rfl⟩
  · have h1 := of_decide_eq_false h1
    have h2 := of_decide_eq_false h2
    refine Comes.ite (by omega) (Comes.bifN (fun h3 => Comes.call (treeRoom_spec w ok q hq) (fun v hv => Comes.bif (fun h4 => Comes.ret ?_) (fun h4 => ?_))) (fun h3 => Comes.ret ?_))
    · have h3 := (eqPl _ _).1 h3
      have h4 : roomI w q < 1 := by rw [← hv]; exact of_decide_eq_true h4
      have e : passErr w k p q = 9 := by unfold passErr; rw [if_neg h1, if_neg h2, if_pos h3, if_pos h4]
      rw [e, if_neg (by decide)]; exact ⟨rfl, rfl⟩
    · have h3 := (eqPl _ _).1 h3
      have h4 : ¬ roomI w q < 1 := by rw [← hv]; exact of_decide_eq_false h4
      have e : passErr w k p q = 0 := by unfold passErr; rw [if_neg h1, if_neg h2, if_pos h3, if_neg h4]
      rw [e, if_pos rfl]
      obtain ⟨i, rfl⟩ : ∃ i : Nat, k = (i : Int) := ⟨k.toNat, by omega⟩
      rw [Int.toNat_natCast]
      refine Comes.call (to_spec w ok.sm (by omega) q) (fun u hu => ?_)
      subst hu
      exact Comes.bifT rfl (Comes.ret ⟨rfl, rfl⟩)
    · have h3' : ¬ List.getD (w.2.2.2.1 : List (den tPlace)) (Int.toNat k) (dft tPlace) = p := fun he => by rw [(eqPl _ _).2 he] at h3; cases h3
      have e : passErr w k p q = 5 := by unfold passErr; rw [if_neg h1, if_neg h2, if_neg h3']
      rw [e, if_neg (by decide)]; exact ⟨rfl, rfl⟩
/-! ### Getting and dropping -/
def floorOf (w : den tWorld) (i : Nat) : Pl := ((0 : Int), List.getD (w.2.1 : List Int) i (0 : Int), ())
def meOf (i : Nat) : Pl := ((1 : Int), (i : Int), ())
def getR (w : den tWorld) (i : Nat) (k : Int) : den tWorld × Int × Unit := passR w k (floorOf w i) (meOf i)
def dropR (w : den tWorld) (i : Nat) (k : Int) : den tWorld × Int × Unit := passR w k (meOf i) (floorOf w i)
theorem kind_floor (w : den tWorld) (i : Nat) : (0 : Int) ≤ (floorOf w i).1 ∧ ((floorOf w i).1 : Int) < 3 := ⟨by show (0 : Int) ≤ 0; decide, by show (0 : Int) < 3; decide⟩
theorem kind_me (i : Nat) : (0 : Int) ≤ (meOf i).1 ∧ ((meOf i).1 : Int) < 3 := ⟨by show (0 : Int) ≤ 1; decide, by show (1 : Int) < 3; decide⟩
theorem places2_spec (w : den tWorld) {i : Nat} (hi : i < List.length (w.2.1 : List Int)) : Comes (fun n _ _ _ => hold_places n w (i : Int)) (fun r => r = ((floorOf w i, meOf i, ()), [])) := by
  refine Comes.succ (fun n _ _ _ => hold_places.eq n w i) (Comes.ite ⟨Int.natCast_nonneg i, Int.ofNat_lt.2 hi⟩ (Comes.ret ?_))
  rw [Int.toNat_natCast]
  rfl
theorem get_spec (w : den tWorld) (ok : Ok w) {i : Nat} (hi : i < List.length (w.2.1 : List Int)) (k : Int) : Comes (fun n _ _ _ => hold_Get n w (i : Int) k) (fun r => r.1 = getR w i k ∧ r.2 = if passErr w k (floorOf w i) (meOf i) = 0 then [(0, [3])] else []) := by
  refine Comes.succ (fun n _ _ _ => hold_Get.eq n w i k) (Comes.call (places2_spec w hi) (fun v hv => ?_))
  subst hv
  refine Comes.call (pass_spec w ok k (floorOf w i) (meOf i) (kind_me i)) (fun u hu => ?_)
  obtain ⟨u1, u2⟩ := u
  obtain ⟨h1, h2⟩ := hu
  simp only at h1 h2
  subst h1 h2
  by_cases hz : passErr w k (floorOf w i) (meOf i) = 0
  · rw [if_pos hz]
    exact Comes.bifT rfl (Comes.ret ⟨rfl, rfl⟩)
  · rw [if_neg hz]
    exact Comes.bifF rfl (Comes.ret ⟨rfl, rfl⟩)
theorem drop_spec (w : den tWorld) (ok : Ok w) {i : Nat} (hi : i < List.length (w.2.1 : List Int)) (k : Int) : Comes (fun n _ _ _ => hold_Drop n w (i : Int) k) (fun r => r.1 = dropR w i k) := by
  refine Comes.succ (fun n _ _ _ => hold_Drop.eq n w i k) (Comes.call (places2_spec w hi) (fun v hv => ?_))
  subst hv
  refine Comes.call (pass_spec w ok k (meOf i) (floorOf w i) (kind_floor w i)) (fun u hu => Comes.ret ?_)
  rw [hu.1]
  rfl
theorem refGet_spec (w : den tWorld) (ok : Ok w) {i : Nat} (hi : i < List.length (w.2.1 : List Int)) (k : Int) : Comes (fun n _ _ _ => innkeepref09_Get n w (i : Int) k) (fun r => r.1 = getR w i k) := by
  refine Comes.succ (fun n _ _ _ => innkeepref09_Get.eq n w i k) ?_
  unfold getR passR
  refine Comes.bif (fun h1 => Comes.ret ?_) (fun h1 => Comes.bif (fun h2 => Comes.ret ?_) (fun h2 => ?_))
  · have e : passErr w k (floorOf w i) (meOf i) = 3 := by unfold passErr; rw [if_pos (of_decide_eq_true h1)]
    rw [e, if_neg (by decide)]
  · have e : passErr w k (floorOf w i) (meOf i) = 3 := by unfold passErr; rw [if_neg (of_decide_eq_false h1), if_pos (of_decide_eq_true h2)]
    rw [e, if_neg (by decide)]
  · have h1 := of_decide_eq_false h1
    have h2 := of_decide_eq_false h2
    have ef : ((0, (List.getD (w.2.1 : List Int) (Int.toNat (i : Int)) (0 : Int)), ()) : Pl) = floorOf w i := by rw [Int.toNat_natCast]; rfl
    rw [ef]
    refine Comes.ite (by omega) (Comes.ite (by omega) (Comes.bifN (fun h3 => Comes.call (refRoom_spec w ok (meOf i) (kind_me i)) (fun v hv => Comes.bif (fun h4 => Comes.ret ?_) (fun h4 => ?_))) (fun h3 => Comes.ret ?_)))
    · have h3 := (eqPl _ _).1 h3
      have h4 : roomI w (meOf i) = 0 := by rw [← hv]; exact of_decide_eq_true h4
      have e : passErr w k (floorOf w i) (meOf i) = 9 := by unfold passErr; rw [if_neg h1, if_neg h2, if_pos h3, if_pos (by omega)]
      rw [e, if_neg (by decide)]
    · have h3 := (eqPl _ _).1 h3
      have h4 : ¬ roomI w (meOf i) = 0 := by rw [← hv]; exact of_decide_eq_false h4
      have hr := ok.right.room (meOf i)
      have e : passErr w k (floorOf w i) (meOf i) = 0 := by unfold passErr; rw [if_neg h1, if_neg h2, if_pos h3, if_neg (by omega)]
      rw [e, if_pos rfl]
      obtain ⟨j, rfl⟩ : ∃ j : Nat, k = (j : Int) := ⟨k.toNat, by omega⟩
      rw [Int.toNat_natCast]
      refine Comes.call (refTo_spec w ok.sm (by omega) (meOf i)) (fun u hu => Comes.ret ?_)
      rw [hu]
    · have h3' : ¬ List.getD (w.2.2.2.1 : List (den tPlace)) (Int.toNat k) (dft tPlace) = floorOf w i := fun he => by rw [(eqPl _ _).2 he] at h3; cases h3
      have e : passErr w k (floorOf w i) (meOf i) = 5 := by unfold passErr; rw [if_neg h1, if_neg h2, if_neg h3']
      rw [e, if_neg (by decide)]
theorem refDrop_spec (w : den tWorld) (ok : Ok w) {i : Nat} (hi : i < List.length (w.2.1 : List Int)) (k : Int) : Comes (fun n _ _ _ => innkeepref09_Drop n w (i : Int) k) (fun r => r.1 = dropR w i k) := by
  refine Comes.succ (fun n _ _ _ => innkeepref09_Drop.eq n w i k) ?_
  unfold dropR passR
  refine Comes.bif (fun h1 => Comes.ret ?_) (fun h1 => Comes.bif (fun h2 => Comes.ret ?_) (fun h2 => ?_))
  · have e : passErr w k (meOf i) (floorOf w i) = 3 := by unfold passErr; rw [if_pos (of_decide_eq_true h1)]
    rw [e, if_neg (by decide)]
  · have e : passErr w k (meOf i) (floorOf w i) = 3 := by unfold passErr; rw [if_neg (of_decide_eq_false h1), if_pos (of_decide_eq_true h2)]
    rw [e, if_neg (by decide)]
  · have h1 := of_decide_eq_false h1
    have h2 := of_decide_eq_false h2
    have ef : ((0, (List.getD (w.2.1 : List Int) (Int.toNat (i : Int)) (0 : Int)), ()) : Pl) = floorOf w i := by rw [Int.toNat_natCast]; rfl
    rw [ef]
    refine Comes.ite (by omega) (Comes.bifN (fun h3 => Comes.ite (by omega) (Comes.call (refRoom_spec w ok (floorOf w i) (kind_floor w i)) (fun v hv => Comes.bif (fun h4 => Comes.ret ?_) (fun h4 => Comes.ite (by omega) ?_)))) (fun h3 => Comes.ret ?_))
    · have h3 := (eqPl _ (meOf i)).1 h3
      have h4 : roomI w (floorOf w i) = 0 := by rw [← hv]; exact of_decide_eq_true h4
      have e : passErr w k (meOf i) (floorOf w i) = 9 := by unfold passErr; rw [if_neg h1, if_neg h2, if_pos h3, if_pos (by omega)]
      rw [e, if_neg (by decide)]
    · have h3 := (eqPl _ (meOf i)).1 h3
      have h4 : ¬ roomI w (floorOf w i) = 0 := by rw [← hv]; exact of_decide_eq_false h4
      have hr := ok.right.room (floorOf w i)
      have e : passErr w k (meOf i) (floorOf w i) = 0 := by unfold passErr; rw [if_neg h1, if_neg h2, if_pos h3, if_neg (by omega)]
      rw [e, if_pos rfl]
      obtain ⟨j, rfl⟩ : ∃ j : Nat, k = (j : Int) := ⟨k.toNat, by omega⟩
      rw [Int.toNat_natCast]
      refine Comes.call (refTo_spec w ok.sm (by omega) (floorOf w i)) (fun u hu => Comes.ret ?_)
      rw [hu]
    · have h3' : ¬ List.getD (w.2.2.2.1 : List (den tPlace)) (Int.toNat k) (dft tPlace) = meOf i := fun he => by have h4 := (eqPl _ (meOf i)).2 he; exact absurd (h4.symm.trans h3) (by decide)
      have e : passErr w k (meOf i) (floorOf w i) = 5 := by unfold passErr; rw [if_neg h1, if_neg h2, if_neg h3']
      rw [e, if_neg (by decide)]
/-! ### HoldDoes -/
theorem awake9 : Comes (fun n _ _ _ => innkeeplaw09_awake n) (fun r => r.1.1 = true) := Comes.one 60 (r := ((true, ()), [])) (by kernel_rfl) rfl
theorem fits9 (w : den tWorld) : Comes (fun n _ _ _ => innkeeplaw09_fits n w) (fun r => r.1.1 = true ↔ FewP w ∧ RightP w) := by
  refine Comes.succ (fun n _ _ _ => innkeeplaw09_fits.eq n w) (Comes.call (few_spec w) (fun v hv => Comes.bif (fun hb => Comes.call (right_spec w) (fun u hu => Comes.ret ?_)) (fun hb => Comes.ret ?_)))
  · exact ⟨fun e => ⟨hv.1 hb, hu.1 e⟩, fun e => hu.2 e.2⟩
  · exact ⟨(fun e => by cases e), fun e => by rw [hv.2 e.1] at hb; cases hb⟩
theorem passR_sm {w : den tWorld} (h : Sm w) {k : Int} {p q : Pl} : Sm (passR w k p q).1 := by
  unfold passR
  split
  · exact sm_put h _ _
  · exact h
theorem holdDoes_true (w : den tWorld) (p item : Int) (hw : wfD tWorld w) (hp : wfD (.int .u8) p) (_hi : wfD (.int .i64) item) : Comes (fun n _ _ _ => innkeeplaw09_HoldDoes n w p item) (fun r => r.1.1 = true) := by
  refine Comes.succ (fun n _ _ _ => innkeeplaw09_HoldDoes.eq n w p item) (Comes.call awake9 (fun v1 h1 => Comes.bifN (fun _ => Comes.call (fits9 w) (fun v3 h3 => Comes.bifN (fun hf => ?_) (fun _ => Comes.call awake9 (fun v4 h4 => Comes.ret h4)))) (fun hb => by rw [h1] at hb; cases hb)))
  obtain ⟨hfew, hright⟩ := h3.1 hf
  have ok := ok_of hw hfew hright
  obtain ⟨i, hi, ei⟩ := index_of hp hright.pos
  have hpos := hright.pos
  rw [ei]
  refine Comes.iteN (by omega) ?_
  refine Comes.call (get_spec w ok hi item) (fun v5 h5 => Comes.call (refGet_spec w ok hi item) (fun v6 h6 => Comes.call (drop_spec w ok hi item) (fun v7 h7 => Comes.call (refDrop_spec w ok hi item) (fun v8 h8 => ?_))))
  rw [h5.1, h6, h7, h8]
  refine Comes.call (same_spec _ _ (passR_sm ok.sm) (passR_sm ok.sm)) (fun v9 h9 => Comes.bifN (fun _ => Comes.bifN (fun _ => Comes.call (same_spec _ _ (passR_sm ok.sm) (passR_sm ok.sm)) (fun v10 h10 => Comes.bifN (fun _ => Comes.bifN (fun _ => ?_) (fun hb => absurd rfl (of_decide_eq_false hb))) (fun hb => by rw [h10.2 rfl] at hb; cases hb))) (fun hb => absurd rfl (of_decide_eq_false hb))) (fun hb => by rw [h9.2 rfl] at hb; cases hb))
  refine Comes.bif (fun _ => Comes.ret rfl) (fun a1 => Comes.bif (fun _ => Comes.ret rfl) (fun a2 => ?_))
  have a1 := of_decide_eq_false a1
  have a2 := of_decide_eq_false a2
  obtain ⟨k, rfl⟩ : ∃ k : Nat, item = (k : Int) := ⟨item.toNat, by omega⟩
  refine Comes.ite (by omega) (Comes.call (to_spec w ok.sm (by omega) _) (fun v11 h11 => Comes.ite (by omega) (Comes.call (refTo_spec w ok.sm (by omega) _) (fun v12 h12 => ?_))))
  rw [h11, h12]
  exact Comes.call (same_spec _ _ (sm_put ok.sm _ _) (sm_put ok.sm _ _)) (fun v13 h13 => Comes.ret (h13.2 rfl))
end Go.Proofs.Ytbdciahiebnmhaa.Ghost
