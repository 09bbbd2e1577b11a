/- What functions come to, and that the statements are answered with 'true'. Conditions: none. -/
import Derived.Test.YtbdciahiebnmhaaP5
set_option linter.unusedVariables false
set_option linter.unusedSimpArgs false
set_option linter.unusedSectionVars false
set_option linter.unnecessarySimpa false
namespace Go.Proofs.Ytbdciahiebnmhaa.Ghost
open Go
theorem Comes.nT {R : Type} {Q : R → Prop} {c : Bool} {A B : Nat → Nat → Nat → Nat → Option R} (hc : c = true) (h : Comes B Q) : Comes (fun n m k j => bif (!c) then A n m k j else B n m k j) Q := Comes.bifN (fun _ => h) (fun e => by rw [hc] at e; cases e)
theorem Comes.nF {R : Type} {Q : R → Prop} {c : Bool} {A B : Nat → Nat → Nat → Nat → Option R} (hc : c = false) (h : Comes A Q) : Comes (fun n m k j => bif (!c) then A n m k j else B n m k j) Q := Comes.bifN (fun e => by rw [hc] at e; cases e) (fun _ => h)
theorem passR_zero {w : den tWorld} {k : Int} {p q : Pl} (h : passErr w k p q = 0) : passR w k p q = (put w (Int.toNat k) q, 0, ()) := if_pos h
theorem passR_ne {w : den tWorld} {k : Int} {p q : Pl} (h : ¬ passErr w k p q = 0) : passR w k p q = (w, passErr w k p q, ()) := if_neg h
theorem roomI_put (w : den tWorld) {k : Nat} (hk : k < List.length (w.2.2.2.1 : List (den tPlace))) (q p : Pl) : roomI (put w k q) p = roomI w p + (if List.getD (w.2.2.2.1 : List (den tPlace)) k (dft tPlace) = p then 1 else 0) - (if q = p then 1 else 0) := by
  unfold roomI
  rw [put_len]
  show capI w.1 p - (manyPl (List.set (w.2.2.2.1 : List (den tPlace)) k q) p _ : Int) = _
  have := manyPl_set w.2.2.2.1 k q p hk (List.length (w.2.2.2.1 : List (den tPlace)))
  simp only [hk, true_and] at this
  by_cases h1 : List.getD (w.2.2.2.1 : List (den tPlace)) k (dft tPlace) = p
  · rw [if_pos h1] at this ⊢
    by_cases h2 : q = p
    · rw [if_pos h2] at this ⊢; omega
    · rw [if_neg h2] at this ⊢; omega
  · rw [if_neg h1] at this ⊢
    by_cases h2 : q = p
    · rw [if_pos h2] at this ⊢; omega
    · rw [if_neg h2] at this ⊢; omega
theorem pass_back {w : den tWorld} (ok : Ok w) {k : Nat} (hk : k < List.length (w.2.2.2.1 : List (den tPlace))) {p q : Pl} (hz : passErr w (k : Int) p q = 0) (hne : ¬ p = q) : passErr (put w k q) (k : Int) q p = 0 := by
  have h0 := (passErr_zero hz).2.2.1
  rw [Int.toNat_natCast] at h0
  rw [passErr_in (by rw [put_len]; exact hk), put_at w k k q hk, if_pos rfl, if_pos rfl]
  have := roomI_put w hk q p
  rw [if_pos h0, if_neg (fun e => hne e.symm)] at this
  have := (ok.right.room p).1
  rw [if_neg (by omega)]
/-! ### Others -/
theorem others_l0 (a b : den tWorld) (items : List Int) (hi : items.length ≤ 1048576) (hsa : Sm a) (hsb : Sm b) (h1 : a.1 = b.1) (h2 : (a.2.1 : List Int) = b.2.1) (h3 : (a.2.2.1 : List Int) = b.2.2.1) (hl : List.length (a.2.2.2.1 : List (den tPlace)) = List.length (b.2.2.2.1 : List (den tPlace)))
    (hin : ∀ i, i < items.length → (0 : Int) ≤ List.getD items i 0 ∧ List.getD items i 0 < (List.length (a.2.2.2.1 : List (den tPlace)) : Int)) (t0 : den tWorld) (t1 : den tWorld) (t6 : Bool) (c : den tWorld) (hc1 : c.1 = a.1) (hc2 : (c.2.1 : List Int) = a.2.1) (hc3 : (c.2.2.1 : List Int) = a.2.2.1) :
    (r i : Nat) → i + r = items.length → (x : List Pl) → x.length = List.length (a.2.2.2.1 : List (den tPlace)) → (∀ j, j < x.length → List.getD x j (dft tPlace) = List.getD b.2.2.2.1 j (dft tPlace) ∨ ∃ m, i ≤ m ∧ m < items.length ∧ List.getD items m 0 = (j : Int)) →
    Comes (fun n m _ _ => innkeepref09_Others.l0 n m t0 t1 items t6 (i : Int) a b c x) (fun r => r.1.1 = true)
  | 0, i, hir, x, hx, hj => by
    refine Comes.succ1 (fun n m _ _ => innkeepref09_Others.l0_eq n m t0 t1 items t6 i a b c x) (Comes.bifF (decide_eq_false (by omega)) ?_)
    have e : (c.1, (c.2.1 : List Int), (c.2.2.1 : List Int), x, ()) = b := by
      refine Prod.ext (hc1.trans h1) (Prod.ext (hc2.trans h2) (Prod.ext (hc3.trans h3) (Prod.ext ?_ rfl)))
      refine ext_getD (dft tPlace) (by rw [hx]; exact hl) (fun j hjx => ?_)
      rcases hj j hjx with h | ⟨m, h4, h5, _⟩
      · exact h
      · omega
    rw [e]
    exact Comes.call (same_spec _ _ hsb hsb) (fun v hv => Comes.ret (hv.2 rfl))
  | r + 1, i, hir, x, hx, hj => by
    obtain ⟨g0, g1⟩ := hin i (by omega)
    refine Comes.succ1 (fun n m _ _ => innkeepref09_Others.l0_eq n m t0 t1 items t6 i a b c x) (Comes.bifT (decide_eq_true (by omega)) (Comes.ite (by omega) ?_))
    rw [Int.toNat_natCast]
    refine Comes.bifF (decide_eq_false (by omega)) (Comes.ite (by omega) (Comes.bifF (decide_eq_false (by rw [hx]; omega)) (Comes.nT (decide_eq_true (by rw [hx, hl])) (Comes.ite (by omega) (Comes.ite (by omega) (Comes.ite (by rw [← hl]; exact ⟨g0, g1⟩) (Comes.ite (by rw [hx]; exact ⟨g0, g1⟩) ?_)))))))
    rw [wrap_succ (by omega)]
    obtain ⟨k, hk⟩ : ∃ k : Nat, List.getD items i 0 = (k : Int) := ⟨(List.getD items i 0).toNat, by omega⟩
    rw [hk, Int.toNat_natCast]
    refine others_l0 a b items hi hsa hsb h1 h2 h3 hl hin t0 t1 t6 c hc1 hc2 hc3 r (i + 1) (by omega) _ (by rw [List.length_set]; exact hx) (fun j hjx => ?_)
    rw [List.length_set] at hjx
    rw [getD_set _ _ _ _ _ (show k < x.length by rw [hk] at g1; omega)]
    by_cases hjk : j = k
    · rw [if_pos hjk, hjk]; exact .inl rfl
    · rw [if_neg hjk]
      rcases hj j hjx with h | ⟨m, h4, h5, h6⟩
      · exact .inl h
      · refine .inr ⟨m, ?_, h5, h6⟩
        by_cases hm : m = i
        · subst hm; rw [hk] at h6; exact absurd (Int.ofNat.inj h6).symm hjk
        · omega
theorem others_spec (a b : den tWorld) (items : List Int) (hi : items.length ≤ 1048576) (hsa : Sm a) (hsb : Sm b) (h1 : a.1 = b.1) (h2 : (a.2.1 : List Int) = b.2.1) (h3 : (a.2.2.1 : List Int) = b.2.2.1) (hl : List.length (a.2.2.2.1 : List (den tPlace)) = List.length (b.2.2.2.1 : List (den tPlace)))
    (hin : ∀ i, i < items.length → (0 : Int) ≤ List.getD items i 0 ∧ List.getD items i 0 < (List.length (a.2.2.2.1 : List (den tPlace)) : Int)) 
    (hj : ∀ j, j < List.length (a.2.2.2.1 : List (den tPlace)) → List.getD a.2.2.2.1 j (dft tPlace) = List.getD b.2.2.2.1 j (dft tPlace) ∨ ∃ m, m < items.length ∧ List.getD items m 0 = (j : Int)) :
    Comes (fun n _ _ _ => innkeepref09_Others n a b items) (fun r => r.1.1 = true) := by
  refine Comes.succ (fun n _ _ _ => innkeepref09_Others.eq n a b items) (Comes.call (copied_spec a hsa) (fun v hv => ?_))
  subst hv
  refine Comes.bifT rfl (others_l0 a b items hi hsa hsb h1 h2 h3 hl hin a b false (a.1, (a.2.1 : List Int), (a.2.2.1 : List Int), ([] : List Pl), ()) rfl rfl rfl _ 0 (Nat.zero_add _) _ rfl (fun j hjx => ?_)).enter
  rcases hj j hjx with h | ⟨m, h4, h5⟩
  · exact .inl h
  · exact .inr ⟨m, Nat.zero_le m, h4, h5⟩
theorem others_put (w : den tWorld) (hs : Sm w) {k : Nat} (hk : k < List.length (w.2.2.2.1 : List (den tPlace))) (q : Pl) : Comes (fun n _ _ _ => innkeepref09_Others n w (put w k q) [(k : Int)]) (fun r => r.1.1 = true) := by
  refine others_spec w (put w k q) [(k : Int)] (by simp) hs (sm_put hs _ _) rfl rfl rfl (put_len w k q).symm (fun i hi => ?_) (fun j hj => ?_)
  · obtain rfl : i = 0 := by simpa using hi
    exact ⟨Int.natCast_nonneg k, Int.ofNat_lt.2 hk⟩
  · rw [put_at w k j q hk]
    by_cases hjk : j = k
    · subst hjk; exact .inr ⟨0, by simp, rfl⟩
    · rw [if_neg hjk]; exact .inl rfl
/-! ### HoldMoves -/
theorem moves_l0 (w : den tWorld) (ok : Ok w) (i k : Nat) (hk : k < List.length (w.2.2.2.1 : List (den tPlace))) (hok : Ok (put w k (meOf i))) (t0 : den tWorld) (t1 t2 : Int) (t6 : Bool) (t10 t12 t14 : Int) (h12 : ¬ t12 = 0) (o2 o3 : den tWorld) (o4 : List Int) : (r j : Nat) → j + r = List.length (w.2.2.2.1 : List (den tPlace)) →
    Comes (fun n m _ _ => innkeeplaw09_HoldMoves.l0 n m t0 t1 t2 t6 (i : Int) (k : Int) t10 t12 t14 (j : Int) w (put w k (meOf i)) o2 o3 o4) (fun r => r.1.1 = true)
  | 0, j, hj => by
    refine Comes.succ1 (fun n m _ _ => innkeeplaw09_HoldMoves.l0_eq n m t0 t1 t2 t6 i k t10 t12 t14 j w _ o2 o3 o4) (Comes.bifF (decide_eq_false (by omega)) (Comes.bifF (decide_eq_false h12) (Comes.ret rfl)))
  | r + 1, j, hj => by
    have hw := ok.sm.wh
    have hjl : j < List.length (w.2.2.2.1 : List (den tPlace)) := by omega
    have next := moves_l0 w ok i k hk hok t0 t1 t2 t6 t10 t12 t14 h12 o2 o3 o4 r (j + 1) (by omega)
    rw [← wrap_succ (by omega)] at next
    refine Comes.succ1 (fun n m _ _ => innkeeplaw09_HoldMoves.l0_eq n m t0 t1 t2 t6 i k t10 t12 t14 j w _ o2 o3 o4) (Comes.bifT (decide_eq_true (by omega)) (Comes.call (refWithin_spec w ok.right k 51 j hjl (ok.right.ends hjl)) (fun v hv => Comes.bif (fun hb => ?_) (fun _ => next))))
    have hjl' : j < List.length ((put w k (meOf i)).2.2.2.1 : List (den tPlace)) := by rw [put_len]; exact hjl
    refine Comes.call (refRoot_spec (put w k (meOf i)) hok.right 51 j hjl' (hok.right.ends hjl')) (fun u hu => ?_)
    have := rootP_moved hk (me_not_box i) 51 j (hv.1 hb) ok.right.inPl hjl
    have hu : u.1.1 = meOf i := hu.trans this
    rw [hu]
    exact Comes.nT ((eqPl _ _).2 rfl) next
theorem holdMoves_true (w : den tWorld) (p item : Int) (hw : wfD tWorld w) (hp : wfD (.int .u8) p) (hi : wfD (.int .u8) item) : Comes (fun n _ _ _ => innkeeplaw09_HoldMoves n w p item) (fun r => r.1.1 = true) := by
  refine Comes.succ (fun n _ _ _ => innkeeplaw09_HoldMoves.eq n w p item) (Comes.call awake9 (fun v1 h1 => Comes.bifN (fun _ => Comes.call (fits9 w) (fun v3 h3 => Comes.bifN (fun hf => ?_) (fun _ => Comes.call awake9 (fun v4 h4 => Comes.ret h4)))) (fun hb => by rw [h1] at hb; cases hb)))
  obtain ⟨hfew, hright⟩ := h3.1 hf
  have ok := ok_of hw hfew hright
  refine Comes.bif (fun _ => Comes.call awake9 (fun v4 h4 => Comes.ret h4)) (fun hl => ?_)
  have hl := of_decide_eq_false hl
  have hpos := hright.pos
  obtain ⟨k, hk, ek⟩ := item_of hi (show 0 < List.length (w.2.2.2.1 : List (den tPlace)) by omega)
  obtain ⟨i, hi, ei⟩ := index_of hp hpos
  rw [ek, ei]
  refine Comes.iteN (by omega) (Comes.iteN hl ?_)
  refine Comes.call (get_spec w ok hi k) (fun v6 h6 => Comes.call (drop_spec w ok hi k) (fun v7 h7 => ?_))
  have h6 := h6.1
  have fm : ¬ floorOf w i = meOf i := floor_ne_me w i i
  have same := same_spec w w ok.sm ok.sm
  by_cases hg : passErr w (k : Int) (floorOf w i) (meOf i) = 0
  · have hat := (passErr_zero hg).2.2.1
    have hroom := (passErr_zero hg).2.2.2
    rw [Int.toNat_natCast] at hat
    have hd : passErr w (k : Int) (meOf i) (floorOf w i) = 5 := by rw [passErr_in hk, if_neg (fun e => fm (hat.symm.trans e))]
    have hok : Ok (put w k (meOf i)) := ok.put hk (me_not_box i) (by rw [hat]; exact floor_not_box w i) (hright.good_me hi) hroom
    have hb := pass_back ok hk hg fm
    rw [show v6.1 = (put w k (meOf i), 0, ()) from h6.trans (passR_zero hg), show v7.1 = (w, 5, ()) from h7.trans ((passR_ne (by rw [hd]; decide)).trans (by rw [hd]))]
    refine Comes.bifT rfl (Comes.bifF rfl (Comes.nT rfl (Comes.nF rfl (Comes.call same (fun v8 h8 => Comes.nT (h8.2 rfl) (Comes.bifT rfl (Comes.call (drop_spec (put w k (meOf i)) hok hi k) (fun v9 h9 => ?_))))))))
    have e9 : v9.1 = (w, 0, ()) := h9.trans ((passR_zero hb).trans (by rw [Int.toNat_natCast, put_put w k _ _ hat]))
    rw [e9]
    refine Comes.nT rfl (Comes.call same (fun v10 h10 => Comes.nT (h10.2 rfl) (Comes.call (right_spec _) (fun v11 h11 => Comes.nT (h11.2 hok.right) (Comes.call (others_put w ok.sm hk _) (fun v12 h12 => Comes.nT h12 ?_))))))
    exact (moves_l0 w ok i k hk hok w p item false 0 5 0 (by decide) _ _ _ _ 0 (Nat.zero_add _)).enter
  · by_cases hd : passErr w (k : Int) (meOf i) (floorOf w i) = 0
    · have hat := (passErr_zero hd).2.2.1
      have hroom := (passErr_zero hd).2.2.2
      rw [Int.toNat_natCast] at hat
      have hg5 : passErr w (k : Int) (floorOf w i) (meOf i) = 5 := by rw [passErr_in hk, if_neg (fun e => fm (e.symm.trans hat))]
      have hok : Ok (put w k (floorOf w i)) := ok.put hk (floor_not_box w i) (by rw [hat]; exact me_not_box i) (hright.good_floor hi) hroom
      have hb := pass_back ok hk hd (fun e => fm e.symm)
      rw [show v6.1 = (w, 5, ()) from h6.trans ((passR_ne (by rw [hg5]; decide)).trans (by rw [hg5])), show v7.1 = (put w k (floorOf w i), 0, ()) from h7.trans (passR_zero hd)]
      refine Comes.bifF rfl (Comes.nF rfl (Comes.call same (fun v8 h8 => Comes.nT (h8.2 rfl) (Comes.nT rfl (Comes.bifF rfl (Comes.bifT rfl (Comes.call (get_spec (put w k (floorOf w i)) hok hi k) (fun v9 h9 => ?_))))))))
      have e9 : v9.1 = (w, 0, ()) := h9.1.trans ((passR_zero hb).trans (by rw [Int.toNat_natCast, put_put w k _ _ hat]))
      rw [e9]
      have hkl : k < List.length ((put w k (floorOf w i)).2.2.2.1 : List (den tPlace)) := by rw [put_len]; exact hk
      refine Comes.bifT rfl (Comes.call same (fun v10 h10 => Comes.bifT (h10.2 rfl) (Comes.call (right_spec _) (fun v11 h11 => Comes.bifT (h11.2 hok.right) (Comes.call (refRoot_spec (put w k (floorOf w i)) hok.right 51 k hkl (hok.right.ends hkl)) (fun v12 h12 => Comes.ite (by omega) (Comes.ret ?_)))))))
      have e12 : v12.1.1 = floorOf w i := by
        rw [h12, put_at w k k _ hk, if_pos rfl]
        exact rootP_top (floor_not_box w i) 51
      rw [e12, Int.toNat_natCast]
      show eqT tPlace (floorOf w i) (floorOf w i) = true
      exact (eqPl _ _).2 rfl
    · rw [show v6.1 = (w, passErr w (k : Int) (floorOf w i) (meOf i), ()) from h6.trans (passR_ne hg), show v7.1 = (w, passErr w (k : Int) (meOf i) (floorOf w i), ()) from h7.trans (passR_ne hd)]
      refine Comes.bifF (decide_eq_false hg) (Comes.nF (decide_eq_false hg) (Comes.call same (fun v8 h8 => Comes.nT (h8.2 rfl) (Comes.nF (decide_eq_false hd) (Comes.call same (fun v9 h9 => Comes.nT (h9.2 rfl) (Comes.bifF (decide_eq_false hg) (Comes.bifF (decide_eq_false hd) (Comes.ret rfl)))))))))
/-! ### HoldAll -/
theorem inL_mem {l : List Pl} {p : Pl} : {n : Nat} → {x : Int} → x ∈ inL l p n → ∃ m : Nat, x = (m : Int) ∧ m < n ∧ List.getD l m (dft tPlace) = p
  | 0, x, h => by simp [inL] at h
  | n + 1, x, h => by
    simp only [inL, List.mem_append] at h
    rcases h with h | h
    · obtain ⟨m, h1, h2, h3⟩ := inL_mem h
      exact ⟨m, h1, by omega, h3⟩
    · by_cases hp : List.getD l n (dft tPlace) = p
      · rw [if_pos hp] at h
        exact ⟨n, by simpa using h, by omega, hp⟩
      · rw [if_neg hp] at h; simp at h
theorem inL_pw (l : List Pl) (p : Pl) : (n : Nat) → (inL l p n).Pairwise (· < ·)
  | 0 => .nil
  | n + 1 => by
    simp only [inL]
    rw [List.pairwise_append]
    refine ⟨inL_pw l p n, ?_, fun a ha b hb => ?_⟩
    · split
      · exact List.pairwise_singleton _ _
      · exact .nil
    · obtain ⟨m, rfl, h2, _⟩ := inL_mem ha
      by_cases hp : List.getD l n (dft tPlace) = p
      · rw [if_pos hp] at hb
        have : b = (n : Int) := by simpa using hb
        omega
      · rw [if_neg hp] at hb; simp at hb
theorem pw_getD {l : List Int} (h : l.Pairwise (· < ·)) {i j : Nat} (hij : i < j) (hj : j < l.length) : List.getD l i 0 < List.getD l j 0 := by
  have := List.pairwise_iff_getElem.1 h i j (by omega) hj hij
  rw [List.getD_eq_getElem?_getD, List.getD_eq_getElem?_getD, List.getElem?_eq_getElem hj, List.getElem?_eq_getElem (show i < l.length by omega)]
  exact this
theorem all_l0 (w : den tWorld) (i k : Nat) (hi : i < List.length (w.2.1 : List Int)) (hk : k < List.length (w.2.1 : List Int)) (room : Int) (hroom : 0 ≤ room ∧ room < 65) (l : List Int) (hll : l.length ≤ 1048576) (hpw : l.Pairwise (· < ·)) (t0 : den tWorld) (t1 t2 : Int) (t6 : Bool) : (r j : Nat) → j + r = l.length → (x : den tWorld) → Ok x → w.1 = x.1 → (w.2.1 : List Int) = x.2.1 → (got : Int) → got = (if (j : Int) < room then (j : Int) else room) → roomI x (meOf i) = room - got →
    (∀ j', j ≤ j' → j' < l.length → ∃ m : Nat, List.getD l j' 0 = (m : Int) ∧ m < List.length (x.2.2.2.1 : List (den tPlace)) ∧ List.getD x.2.2.2.1 m (dft tPlace) = floorOf w i) →
    Comes (fun n m _ _ => innkeeplaw09_HoldAll.l0 n m t0 t1 t2 t6 (i : Int) (k : Int) room l got (j : Int) w x) (fun r => r.1.1 = true)
  | 0, j, hj, x, ok, e1, e2, got, hgot, hrx, hfl => by
    refine Comes.succ1 (fun n m _ _ => innkeeplaw09_HoldAll.l0_eq n m t0 t1 t2 t6 i k room l got j w x) (Comes.bifF (decide_eq_false (by omega)) (Comes.bifT (decide_eq_true ?_) (Comes.call (right_spec x) (fun v hv => Comes.ret (hv.2 ok.right)))))
    rw [hgot, show j = l.length by omega]
  | r + 1, j, hj, x, ok, e1, e2, got, hgot, hrx, hfl => by
    obtain ⟨m, em, hm, hat⟩ := hfl j (Nat.le_refl j) (by omega)
    have hjl : j < l.length := by omega
    have fx : floorOf x i = floorOf w i := by unfold floorOf; rw [e2]
    have hix : i < List.length (x.2.1 : List Int) := by rw [← e2]; exact hi
    have hkx : k < List.length (x.2.1 : List Int) := by rw [← e2]; exact hk
    refine Comes.succ1 (fun n m _ _ => innkeeplaw09_HoldAll.l0_eq n m t0 t1 t2 t6 i k room l got j w x) (Comes.bifT (decide_eq_true (by omega)) (Comes.ite (by omega) ?_))
    rw [Int.toNat_natCast, em]
    refine Comes.call (get_spec x ok hix m) (fun v7 h7 => ?_)
    have h7 := h7.1
    have hpe : passErr x (m : Int) (floorOf x i) (meOf i) = if roomI x (meOf i) < 1 then 9 else 0 := by rw [passErr_in hm, if_pos (hat.trans fx.symm)]
    by_cases hr : roomI x (meOf i) < 1
    · rw [if_pos hr] at hpe
      have hgr : got = room := by split at hgot <;> omega
      have hjr : ¬ (j : Int) < room := by split at hgot <;> omega
      rw [show v7.1 = (x, 9, ()) from h7.trans ((passR_ne (by rw [hpe]; decide)).trans (by rw [hpe]))]
      have hd : decide (got < room) = false := decide_eq_false (by omega)
      rw [hd]
      refine Comes.nT rfl (Comes.nF rfl (Comes.nT rfl (Comes.bifF rfl ?_)))
      rw [wrap_succ (by omega)]
      exact all_l0 w i k hi hk room hroom l hll hpw t0 t1 t2 t6 r (j + 1) (by omega) x ok e1 e2 got (by rw [if_neg (by omega)]; exact hgr) hrx (fun j' h1 h2 => hfl j' (by omega) h2)
    · rw [if_neg hr] at hpe
      have hjr : (j : Int) < room := by split at hgot <;> omega
      rw [if_pos hjr] at hgot
      subst hgot
      rw [show v7.1 = (put x m (meOf i), 0, ()) from h7.trans (passR_zero hpe)]
      have hd : decide ((j : Int) < room) = true := decide_eq_true hjr
      rw [hd]
      have hok : Ok (put x m (meOf i)) := ok.put hm (me_not_box i) (by rw [hat]; exact floor_not_box w i) (ok.right.good_me hix) (by omega)
      refine Comes.nT rfl (Comes.nT rfl (Comes.bifT rfl (Comes.ite (by omega) (Comes.call (get_spec (put x m (meOf i)) hok hkx m) (fun v9 h9 => ?_)))))
      have h5 : passErr (put x m (meOf i)) (m : Int) (floorOf (put x m (meOf i)) k) (meOf k) = 5 := by
        rw [passErr_in (by rw [put_len]; exact hm), put_at x m m _ hm, if_pos rfl, if_neg (fun e => floor_ne_me _ _ _ e.symm)]
      rw [show v9.1 = (put x m (meOf i), 5, ()) from h9.1.trans ((passR_ne (by rw [h5]; decide)).trans (by rw [h5]))]
      refine Comes.nT rfl ?_
      rw [wrap_succ (by omega)]
      refine all_l0 w i k hi hk room hroom l hll hpw t0 t1 t2 t6 r (j + 1) (by omega) _ hok e1 e2 _ ?_ ?_ (fun j' h1 h2 => ?_)
      · split <;> omega
      · rw [roomI_put x hm, if_neg (by rw [hat]; exact floor_ne_me w i i), if_pos rfl]; omega
      · obtain ⟨m', em', hm', hat'⟩ := hfl j' (by omega) h2
        have hlt := pw_getD hpw (show j < j' by omega) h2
        rw [em, em'] at hlt
        exact ⟨m', em', by rw [put_len]; exact hm', by rw [put_at x m m' _ hm, if_neg (by omega)]; exact hat'⟩
theorem holdAll_true (w : den tWorld) (p q : Int) (hw : wfD tWorld w) (hp : wfD (.int .u8) p) (hq : wfD (.int .u8) q) : Comes (fun n _ _ _ => innkeeplaw09_HoldAll n w p q) (fun r => r.1.1 = true) := by
  refine Comes.succ (fun n _ _ _ => innkeeplaw09_HoldAll.eq n w p q) (Comes.call awake9 (fun v1 h1 => Comes.bifN (fun _ => Comes.call (fits9 w) (fun v3 h3 => Comes.bifN (fun hf => ?_) (fun _ => Comes.call awake9 (fun v4 h4 => Comes.ret h4)))) (fun hb => by rw [h1] at hb; cases hb)))
  obtain ⟨hfew, hright⟩ := h3.1 hf
  have ok := ok_of hw hfew hright
  have hpos := hright.pos
  obtain ⟨i, hi, ei⟩ := index_of hp hpos
  obtain ⟨k, hk, ek⟩ := index_of hq hpos
  have hlen := ok.sm.wh
  rw [ek, ei, Int.toNat_natCast]
  refine Comes.iteN (by omega) (Comes.iteN (by omega) (Comes.call (refRoom_spec w ok (meOf i) (kind_me i)) (fun v5 h5 => Comes.ite (by omega) (Comes.call (refIn_spec w ok.sm (floorOf w i)) (fun v6 h6 => ?_)))))
  rw [h5, h6]
  have hle := manyPl_le w.2.2.2.1 (floorOf w i) (List.length (w.2.2.2.1 : List (den tPlace)))
  have hr := hright.room (meOf i)
  refine (all_l0 w i k hi hk (roomI w (meOf i)) hr _ (by rw [inL_len]; omega) (inL_pw _ _ _) w p q false _ 0 (Nat.zero_add _) w ok rfl rfl 0 ?_ (by omega) (fun j' _ h2 => ?_)).enter
  · split <;> omega
  · exact inL_mem (getD_mem' _ h2) |>.elim fun m hm => ⟨m, hm.1, hm.2.1, hm.2.2⟩
end Go.Proofs.Ytbdciahiebnmhaa.Ghost
