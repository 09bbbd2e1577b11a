/- What functions come to, and that the statements are answered with 'true'. Conditions: none. -/
import Derived.Test.YtdbogcinhmfmpaaS
import Derived.Test.YtdbogcinhmfmpaaGE
import Derived.Test.YtdbogcinhmfmpaaP1
set_option linter.unusedVariables false
set_option linter.unusedSimpArgs false
set_option linter.unusedSectionVars false
set_option linter.unnecessarySimpa false
namespace Go.Proofs.Ytdbogcinhmfmpaa.Ghost
open Go
/-! ### What is in a place -/
def inL (l : List Pl) (p : Pl) : Nat → List Int
  | 0 => []
  | n + 1 => inL l p n ++ (if List.getD l n (dft tPlace) = p then [(n : Int)] else [])
theorem inL_len (l : List Pl) (p : Pl) : (n : Nat) → (inL l p n).length = manyPl l p n
  | 0 => rfl
  | n + 1 => by
    simp only [inL, manyPl, List.length_append, inL_len l p n]
    split <;> rfl
theorem treeIn_l0 (w : den tWorld) (hs : Sm w) (p : Pl) (t0 : den tWorld) (t1 : Pl) (t4 : List Int) : (r i : Nat) → i + r = List.length (w.2.2.2.1 : List (den tPlace)) →
    Comes (fun n m _ _ => tree_In.l0 n m t0 t1 t4 w.2.2.2.1 (List.length (w.2.2.2.1 : List (den tPlace)) : Int) (i : Int) w p (inL w.2.2.2.1 p i)) (fun r => r = ((inL w.2.2.2.1 p (List.length (w.2.2.2.1 : List (den tPlace))), ()), [(0, [])]))
  | 0, i, hi => by
    refine Comes.succ1 (fun n m _ _ => tree_In.l0_eq n m t0 t1 t4 w.2.2.2.1 _ i w p _) (Comes.bif (fun h => ?_) (fun h => Comes.ret ?_))
    · have := of_decide_eq_true h; omega
    · rw [show i = List.length (w.2.2.2.1 : List (den tPlace)) by omega]
  | r + 1, i, hi => by
    have hlen := hs.wh
    have hle := manyPl_le w.2.2.2.1 p i
    have hil := inL_len w.2.2.2.1 p i
    refine Comes.succ1 (fun n m _ _ => tree_In.l0_eq n m t0 t1 t4 w.2.2.2.1 _ i w p _) (Comes.bif (fun h => Comes.ite (by omega) (Comes.bif (fun h2 => Comes.ite (by omega) ?_) (fun h2 => ?_))) (fun h => ?_))
    · rw [wrap_succ (by omega)]
      have e : inL w.2.2.2.1 p (i + 1) = inL w.2.2.2.1 p i ++ [(i : Int)] := by
        simp only [inL]; rw [if_pos (by simpa using ((eqPl _ _).1 h2).symm)]
      rw [← e]
      exact treeIn_l0 w hs p t0 t1 t4 r (i + 1) (by omega)
    · rw [wrap_succ (by omega)]
      have e : inL w.2.2.2.1 p (i + 1) = inL w.2.2.2.1 p i := by
        simp only [inL]
        rw [if_neg (fun he => by rw [(eqPl _ _).2 (by simpa using he.symm)] at h2; cases h2), List.append_nil]
      have := treeIn_l0 w hs p t0 t1 t4 r (i + 1) (by omega)
      rw [e] at this
      exact this
    · have := of_decide_eq_false h; omega
theorem treeIn_fresh (w : den tWorld) (hs : Sm w) (p : Pl) : Comes (fun n _ _ _ => tree_In n w p) (fun r => r = ((inL w.2.2.2.1 p (List.length (w.2.2.2.1 : List (den tPlace))), ()), [(0, [])])) := by
  refine Comes.succ (fun n _ _ _ => tree_In.eq n w p) ?_
  exact (treeIn_l0 w hs p w p [] _ 0 (Nat.zero_add _)).enter
theorem treeIn_spec (w : den tWorld) (hs : Sm w) (p : Pl) : Comes (fun n _ _ _ => tree_In n w p) (fun r => r.1.1 = inL w.2.2.2.1 p (List.length (w.2.2.2.1 : List (den tPlace)))) := (treeIn_fresh w hs p).mono (fun _ h => by rw [h])
end Go.Proofs.Ytdbogcinhmfmpaa.Ghost
namespace Go.Proofs.Ytdbogcinhmfmpaa.Ghost
open Go
/-! ### Room -/
def roomI (w : den tWorld) (p : Pl) : Int := capI w.1 p - (manyPl w.2.2.2.1 p (List.length (w.2.2.2.1 : List (den tPlace))) : Int)
theorem capI_list (d : den tDesc) (p : Pl) (hp : (0 : Int) ≤ p.1 ∧ (p.1 : Int) < 3) : List.getD ([(d.2.2.2.2.2.1 : Int), (d.2.2.2.2.2.2.1 : Int), (d.2.2.2.2.2.2.2.1 : Int)] : List Int) (Int.toNat (p.1 : Int)) (0 : Int) = capI d p := by
  have key : ∀ k : Int, 0 ≤ k → k < 3 → k = 0 ∨ k = 1 ∨ k = 2 := fun k h0 h1 => by omega
  unfold capI
  rcases key p.1 hp.1 hp.2 with h | h | h <;> rw [h] <;> rfl
theorem capI_range {d : den tDesc} (h : MayP d) (p : Pl) : 0 ≤ capI d p ∧ capI d p < 65 := by
  unfold capI
  split
  · exact h.room
  · split
    · exact h.player
    · exact h.box
theorem many_pos {l : List Pl} {p : Pl} : {n : Nat} → 0 < manyPl l p n → ∃ i, i < n ∧ List.getD l i (dft tPlace) = p
  | 0, h => by simp [manyPl] at h
  | n + 1, h => by
    simp only [manyPl] at h
    by_cases he : List.getD l n (dft tPlace) = p
    · exact ⟨n, by omega, he⟩
    · rw [if_neg he] at h
      obtain ⟨i, h1, h2⟩ := many_pos (l := l) (p := p) (n := n) (by omega)
      exact ⟨i, by omega, h2⟩
theorem RightP.room {w : den tWorld} (h : RightP w) (p : Pl) : 0 ≤ roomI w p ∧ roomI w p < 65 := by
  have hc := capI_range h.may p
  unfold roomI
  by_cases h0 : 0 < manyPl w.2.2.2.1 p (List.length (w.2.2.2.1 : List (den tPlace)))
  · obtain ⟨i, hi, he⟩ := many_pos h0
    have := (h.deep i hi).2
    rw [he] at this
    omega
  · omega
end Go.Proofs.Ytdbogcinhmfmpaa.Ghost
namespace Go.Proofs.Ytdbogcinhmfmpaa.Ghost
open Go
theorem treeRoom_spec (w : den tWorld) (ok : Ok w) (p : Pl) (hp : (0 : Int) ≤ p.1 ∧ (p.1 : Int) < 3) : Comes (fun n _ _ _ => tree_Room n w p) (fun r => r.1.1 = roomI w p) := by
  refine Comes.succ (fun n _ _ _ => tree_Room.eq n w p) (Comes.ite hp (Comes.call (treeIn_spec w ok.sm p) (fun v hv => Comes.ret ?_)))
  have hr := ok.right.room p
  show IntKind.wrap .i64 (List.getD ([(w.1.2.2.2.2.2.1 : Int), (w.1.2.2.2.2.2.2.1 : Int), (w.1.2.2.2.2.2.2.2.1 : Int)] : List Int) (Int.toNat (p.1 : Int)) (0 : Int) - (List.length (v.1.1 : List Int) : Int)) = roomI w p
  rw [hv, inL_len, capI_list w.1 p hp]
  unfold roomI at hr ⊢
  rw [wrap_id (by omega) (by omega)]
theorem refRoom_spec (w : den tWorld) (ok : Ok w) (p : Pl) (hp : (0 : Int) ≤ p.1 ∧ (p.1 : Int) < 3) : Comes (fun n _ _ _ => innkeepref07_Room n w p) (fun r => r.1.1 = roomI w p) := by
  have hw := ok.sm.wh
  refine Comes.succ (fun n _ _ _ => innkeepref07_Room.eq n w p) (Comes.call (cap_spec w p hp) (fun v hv => Comes.call (many_spec w (by omega) p) (fun u hu => Comes.ret ?_)))
  have hr := ok.right.room p
  subst hv hu
  show IntKind.wrap .i64 (capI w.1 p - (manyPl w.2.2.2.1 p (List.length (w.2.2.2.1 : List (den tPlace))) : Int)) = roomI w p
  unfold roomI at hr ⊢
  rw [wrap_id (by omega) (by omega)]
end Go.Proofs.Ytdbogcinhmfmpaa.Ghost
namespace Go.Proofs.Ytdbogcinhmfmpaa.Ghost
open Go
/-! ### To -/
def put (w : den tWorld) (i : Nat) (p : Pl) : den tWorld := (w.1, w.2.1, w.2.2.1, List.set (w.2.2.2.1 : List (den tPlace)) i p, ())
theorem put_len (w : den tWorld) (i : Nat) (p : Pl) : List.length ((put w i p).2.2.2.1 : List (den tPlace)) = List.length (w.2.2.2.1 : List (den tPlace)) := by
  show List.length (List.set (w.2.2.2.1 : List (den tPlace)) i p) = _
  exact List.length_set
theorem put_at (w : den tWorld) (i j : Nat) (p : Pl) (h : i < List.length (w.2.2.2.1 : List (den tPlace))) : List.getD ((put w i p).2.2.2.1 : List (den tPlace)) j (dft tPlace) = if j = i then p else List.getD (w.2.2.2.1 : List (den tPlace)) j (dft tPlace) := by
  show List.getD (List.set (w.2.2.2.1 : List (den tPlace)) i p) j (dft tPlace) = _
  exact getD_set _ _ _ _ _ h
theorem sm_put {w : den tWorld} (h : Sm w) (i : Nat) (p : Pl) : Sm (put w i p) :=
  ⟨h.e, h.b, h.p, h.c, h.i, h.a, h.wc, by rw [put_len]; exact h.wh, h.rows⟩
end Go.Proofs.Ytdbogcinhmfmpaa.Ghost
namespace Go.Proofs.Ytdbogcinhmfmpaa.Ghost
open Go
theorem to_spec (w : den tWorld) (hs : Sm w) {i : Nat} (hi : i < List.length (w.2.2.2.1 : List (den tPlace))) (p : Pl) : Comes (fun n _ _ _ => hold_To n w (i : Int) p) (fun r => r = ((put w i p, ()), [(0, [3])])) := by
  refine Comes.succ (fun n _ _ _ => hold_To.eq n w i p) (Comes.call (copy_spec w hs) (fun v hv => ?_))
  subst hv
  refine Comes.bifT rfl (Comes.ite ⟨Int.natCast_nonneg i, Int.ofNat_lt.2 hi⟩ (Comes.ret ?_))
  rw [Int.toNat_natCast]
  rfl
theorem refTo_spec (w : den tWorld) (hs : Sm w) {i : Nat} (hi : i < List.length (w.2.2.2.1 : List (den tPlace))) (p : Pl) : Comes (fun n _ _ _ => innkeepref09_To n w (i : Int) p) (fun r => r.1 = (put w i p, ())) := by
  refine Comes.succ (fun n _ _ _ => innkeepref09_To.eq n w i p) (Comes.call (copied_spec w hs) (fun v hv => ?_))
  subst hv
  refine Comes.bifT rfl (Comes.ite ⟨Int.natCast_nonneg i, Int.ofNat_lt.2 hi⟩ (Comes.ret ?_))
  rw [Int.toNat_natCast]
  rfl
end Go.Proofs.Ytdbogcinhmfmpaa.Ghost
namespace Go.Proofs.Ytdbogcinhmfmpaa.Ghost
open Go
theorem manyPl_set (l : List Pl) (k : Nat) (q p : Pl) (hk : k < l.length) : (n : Nat) → manyPl (l.set k q) p n + (if k < n ∧ List.getD l k (dft tPlace) = p then 1 else 0) = manyPl l p n + (if k < n ∧ q = p then 1 else 0)
  | 0 => by simp [manyPl]
  | n + 1 => by
    have ih := manyPl_set l k q p hk n
    simp only [manyPl]
    rw [getD_set l k n q (dft tPlace) hk]
    by_cases hn : n = k
    · subst hn
      simp only [Nat.lt_irrefl, false_and, if_false, if_true, Nat.lt_succ_self, true_and, Nat.add_zero] at ih ⊢
      omega
    · rw [if_neg hn]
      have e : k < n + 1 ↔ k < n := ⟨fun h => by omega, fun h => by omega⟩
      simp only [e]
      omega
theorem depI_set {l : List Pl} {k : Nat} {q : Pl} (hk : k < l.length) (hq : ¬ q.1 = (2 : Int)) (hl : ¬ (List.getD l k (dft tPlace)).1 = (2 : Int)) : (f c : Nat) → (p : Pl) → depI (l.set k q) f c p = depI l f c p
  | 0, c, p => rfl
  | f + 1, c, p => by
    simp only [depI]
    by_cases hp : p.1 = (2 : Int)
    · rw [if_pos hp, if_pos hp]
      by_cases h50 : 50 < c + 1
      · rw [if_pos h50, if_pos h50]
      · rw [if_neg h50, if_neg h50, getD_set l k _ q (dft tPlace) hk]
        by_cases hi : Int.toNat p.2.1 = k
        · rw [if_pos hi, hi, depI_set hk hq hl]
          cases f with
          | zero => simp only [depI]; rw [if_neg hq, if_neg hl]
          | succ f => simp only [depI]; rw [if_neg hq, if_neg hl]
        · rw [if_neg hi]
          exact depI_set hk hq hl f (c + 1) _
    · rw [if_neg hp, if_neg hp]
theorem depI_zero {l : List Pl} {q : Pl} (hq : ¬ q.1 = (2 : Int)) : depI l 51 0 q = 0 := by
  simp only [depI]
  rw [if_neg hq]
theorem Ok.put {w : den tWorld} (ok : Ok w) {k : Nat} (hk : k < List.length (w.2.2.2.1 : List (den tPlace))) {q : Pl} (hq : ¬ q.1 = (2 : Int)) (hl : ¬ (List.getD (w.2.2.2.1 : List (den tPlace)) k (dft tPlace)).1 = (2 : Int)) (hg : GoodPl w.1 q) (hr : 1 ≤ roomI w q) : Ok (Ghost.put w k q) := by
  have h := ok.right
  have hset : ∀ p : Pl, manyPl (List.set (w.2.2.2.1 : List (den tPlace)) k q) p (List.length (w.2.2.2.1 : List (den tPlace))) ≤ manyPl w.2.2.2.1 p (List.length (w.2.2.2.1 : List (den tPlace))) + (if q = p then 1 else 0) := fun p => by
    have := manyPl_set w.2.2.2.1 k q p hk (List.length (w.2.2.2.1 : List (den tPlace)))
    simp only [hk, true_and] at this
    omega
  refine ⟨sm_put ok.sm k q, h.may, h.a1, h.c1, by rw [put_len]; exact h.w1, h.at_, fun i hi => ?_, fun i hi => ?_⟩
  · rw [put_len] at hi
    rw [put_at w k i q hk]
    split
    · exact hg
    · exact h.good i hi
  · have hlen := put_len w k q
    rw [hlen] at hi ⊢
    rw [put_at w k i q hk]
    show depI (List.set (w.2.2.2.1 : List (den tPlace)) k q) 51 0 _ ≤ 4 ∧ (manyPl (List.set (w.2.2.2.1 : List (den tPlace)) k q) _ _ : Int) ≤ capI w.1 _
    rw [depI_set hk hq hl]
    have many : ∀ p : Pl, (manyPl (List.set (w.2.2.2.1 : List (den tPlace)) k q) p (List.length (w.2.2.2.1 : List (den tPlace))) : Int) ≤ capI w.1 p := fun p => by
      have h1 := hset p
      by_cases hqp : q = p
      · rw [if_pos hqp] at h1
        subst hqp
        unfold roomI at hr
        omega
      · rw [if_neg hqp] at h1
        have h2 := (h.room p).1
        unfold roomI at h2
        omega
    split
    · exact ⟨by rw [depI_zero hq]; omega, many q⟩
    · exact ⟨(h.deep i hi).1, many _⟩
theorem put_put (w : den tWorld) (k : Nat) (p q : Pl) (hp : List.getD (w.2.2.2.1 : List (den tPlace)) k (dft tPlace) = p) : put (put w k q) k p = w := by
  refine Prod.ext rfl (Prod.ext rfl (Prod.ext rfl (Prod.ext ?_ rfl)))
  show List.set (List.set (w.2.2.2.1 : List (den tPlace)) k q) k p = w.2.2.2.1
  rw [List.set_set]
  refine ext_getD (dft tPlace) List.length_set (fun j hj => ?_)
  have hj : j < List.length (w.2.2.2.1 : List (den tPlace)) := by simpa using hj
  by_cases hk : k < List.length (w.2.2.2.1 : List (den tPlace))
  · rw [getD_set _ _ _ _ _ hk]
    split
    · rename_i e; rw [e]; exact hp.symm
    · rfl
  · rw [List.set_eq_of_length_le (by omega)]
/-! ### Roots -/
def Ends (l : List Pl) : Nat → Pl → Prop
  | 0, p => ¬ p.1 = (2 : Int)
  | k + 1, p => p.1 = (2 : Int) → Ends l k (List.getD l (Int.toNat p.2.1) (dft tPlace))
theorem ends_of {l : List Pl} : (f c : Nat) → (p : Pl) → depI l f c p ≤ 4 → Ends l f p
  | 0, c, p, h => by
    simp only [depI] at h
    intro hp
    rw [if_pos hp] at h
    omega
  | f + 1, c, p, h => by
    simp only [depI] at h
    intro hp
    rw [if_pos hp] at h
    by_cases h50 : 50 < c + 1
    · rw [if_pos h50] at h; omega
    · rw [if_neg h50] at h
      exact ends_of f (c + 1) _ h
def rootP (l : List Pl) : Nat → Pl → Pl
  | 0, p => p
  | k + 1, p => if p.1 = (2 : Int) then rootP l k (List.getD l (Int.toNat p.2.1) (dft tPlace)) else p
theorem rootP_top {l : List Pl} {p : Pl} (h : ¬ p.1 = (2 : Int)) (k : Nat) : rootP l k p = p := by
  cases k with
  | zero => rfl
  | succ k => simp only [rootP]; rw [if_neg h]
theorem RightP.inPl {w : den tWorld} (h : RightP w) : ∀ i, i < List.length (w.2.2.2.1 : List (den tPlace)) → Ghost.inPl w.2.2.2.1 (List.getD w.2.2.2.1 i (dft tPlace)) := fun i hi => (h.good i hi).inPl h.w1
theorem RightP.ends {w : den tWorld} (h : RightP w) {i : Nat} (hi : i < List.length (w.2.2.2.1 : List (den tPlace))) : Ends w.2.2.2.1 51 (List.getD w.2.2.2.1 i (dft tPlace)) := ends_of 51 0 _ (h.deep i hi).1
def withinP (l : List Pl) : Nat → Int → Int → Prop
  | 0, j, b => j = b
  | k + 1, j, b => j = b ∨ ((List.getD l (Int.toNat j) (dft tPlace)).1 = (2 : Int) ∧ withinP l k (List.getD l (Int.toNat j) (dft tPlace)).2.1 b)
theorem withinP_eq {l : List Pl} {j b : Int} (h : j = b) (k : Nat) : withinP l k j b := by
  cases k with
  | zero => exact h
  | succ k => exact .inl h
theorem rootP_moved {l : List Pl} {b : Nat} (hb : b < l.length) {q : Pl} (hq : ¬ q.1 = (2 : Int)) : (k : Nat) → (j : Nat) → withinP l k (j : Int) (b : Int) → (∀ i, i < l.length → inPl l (List.getD l i (dft tPlace))) → j < l.length → rootP (l.set b q) k (List.getD (l.set b q) j (dft tPlace)) = q
  | k, j, hw, hin, hj => by
    rw [getD_set l b j q (dft tPlace) hb]
    by_cases hjb : j = b
    · rw [if_pos hjb]; exact rootP_top hq k
    · rw [if_neg hjb]
      cases k with
      | zero => exact absurd (Int.ofNat.inj hw) hjb
      | succ k =>
        simp only [withinP, Int.toNat_natCast] at hw
        rcases hw with hw | ⟨h2, hw⟩
        · exact absurd (Int.ofNat.inj hw) hjb
        · have hi := hin j hj h2
          simp only [rootP]
          rw [if_pos h2]
          rw [← Int.toNat_of_nonneg hi.1] at hw
          exact rootP_moved hb hq k _ hw hin ((Int.toNat_lt hi.1).2 hi.2)
end Go.Proofs.Ytdbogcinhmfmpaa.Ghost
