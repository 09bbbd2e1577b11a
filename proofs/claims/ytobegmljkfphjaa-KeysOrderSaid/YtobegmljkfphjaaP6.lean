/- What functions come to, and that the statements are answered with 'true'. Conditions: none. -/
import Derived.Test.YtobegmljkfphjaaS
import Derived.Test.YtobegmljkfphjaaGE
import Derived.Test.YtobegmljkfphjaaP1
import Derived.Test.YtobegmljkfphjaaP2
import Derived.Test.YtobegmljkfphjaaP3
import Derived.Test.YtobegmljkfphjaaP4
import Derived.Test.YtobegmljkfphjaaP5
set_option linter.unusedVariables false
set_option linter.unusedSimpArgs false
set_option linter.unusedSectionVars false
set_option linter.unnecessarySimpa false
namespace Go.Proofs.Ytobegmljkfphjaa.Ghost
open Go
theorem u8_range {a : Int} (h : wfD (.int .u8) a) : 0 ≤ a ∧ a < 256 := by
  have h1 : IntKind.u8.min ≤ a ∧ a ≤ IntKind.u8.max := h
  have e1 : IntKind.u8.min = 0 := rfl
  have e2 : IntKind.u8.max = 255 := rfl
  omega
theorem asc_inj {s : List (den tKey)} (h : Asc s) {i j : Nat} (hi : i < s.length) (hj : j < s.length) (e : List.getD s i (dft tKey) = List.getD s j (dft tKey)) : i = j := by
  have gi : List.getD s i (dft tKey) = s[i] := by rw [List.getD_eq_getElem?_getD, List.getElem?_eq_getElem hi]; rfl
  have gj : List.getD s j (dft tKey) = s[j] := by rw [List.getD_eq_getElem?_getD, List.getElem?_eq_getElem hj]; rfl
  rw [gi, gj] at e
  rcases Nat.lt_trichotomy i j with k | k | k
  · have := List.pairwise_iff_getElem.1 h i j hi hj k
    rw [e] at this; exact absurd this (kLt_irrefl _)
  · exact k
  · have := List.pairwise_iff_getElem.1 h j i hj hi k
    rw [e] at this; exact absurd this (kLt_irrefl _)
theorem asc_getD {s : List (den tKey)} (h : Asc s) {i j : Nat} (hj : j < s.length) (k : i < j) : kLt (List.getD s i (dft tKey)) (List.getD s j (dft tKey)) = true := by
  have hi : i < s.length := by omega
  have gi : List.getD s i (dft tKey) = s[i] := by rw [List.getD_eq_getElem?_getD, List.getElem?_eq_getElem hi]; rfl
  have gj : List.getD s j (dft tKey) = s[j] := by rw [List.getD_eq_getElem?_getD, List.getElem?_eq_getElem hj]; rfl
  rw [gi, gj]
  exact List.pairwise_iff_getElem.1 h i j hi hj k
theorem mem_getK {s : List (den tKey)} {x : den tKey} : x ∈ s ↔ ∃ i, i < s.length ∧ List.getD s i (dft tKey) = x := by
  constructor
  · intro h
    obtain ⟨i, hi, e⟩ := List.getElem_of_mem h
    exact ⟨i, hi, by rw [List.getD_eq_getElem?_getD, List.getElem?_eq_getElem hi]; exact e⟩
  · rintro ⟨i, hi, rfl⟩
    rw [List.getD_eq_getElem?_getD, List.getElem?_eq_getElem hi]
    exact List.getElem_mem hi
/-- keys rise as their places do -/
theorem plc_mono {ex pl : Int} (he : 0 ≤ ex) {x y : den tKey} (h : kLt x y = true) (hx : 0 ≤ plc ex pl x.1 x.2.1) (hy : 0 ≤ plc ex pl y.1 y.2.1) : plc ex pl x.1 x.2.1 < plc ex pl y.1 y.2.1 := by
  have key : ∀ x1 x2 y1 y2 : Int, pLt x1 x2 y1 y2 → 0 ≤ plc ex pl x1 x2 → 0 ≤ plc ex pl y1 y2 → plc ex pl x1 x2 < plc ex pl y1 y2 := by
    intro x1 x2 y1 y2 h
    unfold pLt at h
    unfold plc
    split <;> split <;> (try split) <;> omega
  exact key _ _ _ _ ((kLt_iff x y).1 h) hx hy
theorem ord_l1 {l s : List (den tKey)} (hs : s.length ≤ 40) (ha : Asc s) {Q : innkeeplaw14_KeysOrder.R → Prop} {i q : Nat} (hi : i < l.length) (hq : q < s.length) (e : List.getD s q (dft tKey) = List.getD l i (dft tKey)) (t0 : den tDesc) (t2 : Int) (t6 : Bool) (o0 : den tDesc)
    (hend : Comes (fun nf fm0 _ _ => innkeeplaw14_KeysOrder.l0 nf fm0 t0 (l) t2 t6 (s) (IntKind.wrap .i64 ((i : Int) + 1)) o0) Q) : ∀ k, k ≤ s.length → Comes (fun nf fm0 fm1 _ => innkeeplaw14_KeysOrder.l1 nf fm0 fm1 t0 (l) t2 t6 (s) ((i : Int)) (if q < k then 1 else 0) ((k : Int)) o0) Q := by
  refine upto ?_ (fun k hk next => ?_)
  · refine Comes.succ2 (fun nf fm0 fm1 _ => innkeeplaw14_KeysOrder.l1_eq nf fm0 fm1 _ _ _ _ _ _ _ _ _) ?_
    rw [if_pos hq]
    simp [-List.getD_eq_getElem?_getD, -List.length_eq_zero_iff, keepAll, freshHas, pathEq, eqPl_dec, wrap1, wrap0, nbeq]
    exact hend
  · rw [← wrap_succ (by omega)] at next
    refine Comes.succ2 (fun nf fm0 fm1 _ => innkeeplaw14_KeysOrder.l1_eq nf fm0 fm1 _ _ _ _ _ _ _ _ _) ?_
    by_cases h : k = q
    · subst h
      rw [if_pos (Nat.lt_succ_self k)] at next
      rw [if_neg (Nat.lt_irrefl k)]
      simp [-List.getD_eq_getElem?_getD, -List.length_eq_zero_iff, keepAll, freshHas, pathEq, eqPl_dec, wrap1, wrap0, nbeq, hk, hi, eqKey_dec, e]
      exact next
    · have ne : ¬ List.getD s k (dft tKey) = List.getD l i (dft tKey) := fun e' => h (asc_inj ha hk hq (e'.trans e.symm))
      rw [show (if q < k + 1 then (1 : Int) else 0) = if q < k then 1 else 0 by by_cases g : q < k <;> simp [g] <;> omega] at next
      simp [-List.getD_eq_getElem?_getD, -List.length_eq_zero_iff, keepAll, freshHas, pathEq, eqPl_dec, wrap1, wrap0, nbeq, hk, hi, eqKey_dec, ne]
      exact next
theorem ord_l0 {l s : List (den tKey)} (hl : l.length ≤ 40) (hs : s.length ≤ 40) (ha : Asc s) (hm : ∀ x, x ∈ l → x ∈ s) {Q : innkeeplaw14_KeysOrder.R → Prop} (t0 : den tDesc) (t2 : Int) (t6 : Bool) (o0 : den tDesc)
    (hend : Comes (fun nf fm0 _ _ => innkeeplaw14_KeysOrder.l2 nf fm0 t0 (l) t2 t6 (s) ((l.length : Int)) (-1) (0) o0) Q) : ∀ i, i ≤ l.length → Comes (fun nf fm0 _ _ => innkeeplaw14_KeysOrder.l0 nf fm0 t0 (l) t2 t6 (s) ((i : Int)) o0) Q := by
  refine upto ?_ (fun i hi next => ?_)
  · refine Comes.succ1 (fun nf fm0 _ _ => innkeeplaw14_KeysOrder.l0_eq nf fm0 _ _ _ _ _ _ _) ?_
    simp [-List.getD_eq_getElem?_getD, -List.length_eq_zero_iff, keepAll, freshHas, pathEq, eqPl_dec, wrap1, wrap0, nbeq]
    exact hend.enter
  · rw [← wrap_succ (by omega)] at next
    obtain ⟨q, hq, e⟩ := mem_getK.1 (hm _ (mem_getK.2 ⟨i, hi, rfl⟩))
    have := ord_l1 hs ha hi hq e t0 t2 t6 o0 next 0 (Nat.zero_le _)
    rw [if_neg (Nat.not_lt_zero q)] at this
    refine Comes.succ1 (fun nf fm0 _ _ => innkeeplaw14_KeysOrder.l0_eq nf fm0 _ _ _ _ _ _ _) ?_
    simp [-List.getD_eq_getElem?_getD, -List.length_eq_zero_iff, keepAll, freshHas, pathEq, eqPl_dec, wrap1, wrap0, nbeq, hi]
    exact this.enter1
/-- the list, turned: so much of it -/
def turned (l : List (den tKey)) (t n : Nat) : List (den tKey) := (List.range n).map (fun i => List.getD l ((i + t) % l.length) (dft tKey))
theorem turned_succ (l : List (den tKey)) (t n : Nat) : turned l t (n + 1) = turned l t n ++ [List.getD l ((n + t) % l.length) (dft tKey)] := by
  unfold turned; rw [List.range_succ, List.map_append]; rfl
theorem mem_turned (l : List (den tKey)) (t : Nat) (x : den tKey) : x ∈ turned l t l.length ↔ x ∈ l := by
  unfold turned
  rw [List.mem_map]
  constructor
  · rintro ⟨i, hi, rfl⟩
    rw [List.mem_range] at hi
    exact mem_getK.2 ⟨_, Nat.mod_lt _ (by omega), rfl⟩
  · intro h
    obtain ⟨j, hj, e⟩ := mem_getK.1 h
    have hm := Nat.mod_lt t (show 0 < l.length by omega)
    refine ⟨(j + (l.length - t % l.length)) % l.length, List.mem_range.2 (Nat.mod_lt _ (by omega)), ?_⟩
    have : ((j + (l.length - t % l.length)) % l.length + t) % l.length = j := by
      have ht : t = l.length * (t / l.length) + t % l.length := (Nat.div_add_mod t l.length).symm
      rw [Nat.mod_add_mod]
      have : j + (l.length - t % l.length) + t = j + l.length * (t / l.length + 1) := by
        rw [Nat.mul_add, Nat.mul_one]; omega
      rw [this, Nat.add_mul_mod_self_left, Nat.mod_eq_of_lt hj]
    rw [this]; exact e
theorem ord_l4 {l s : List (den tKey)} (hl : l.length ≤ 40) (es : s = kSort l) {t : Nat} (ht : t < 256) (t0 : den tDesc) (t6 : Bool) (t8 t11 t12 : Int) (o0 : den tDesc) :
    ∀ i, i ≤ l.length → Comes (fun nf fm0 _ _ => innkeeplaw14_KeysOrder.l4 nf fm0 t0 (l) ((t : Int)) t6 (s) t8 t11 t12 ((i : Int)) o0 (turned l t i)) (fun r => r.1.1 = true) := by
  have hsl : s.length ≤ 1048576 := by rw [es]; have := kSort_length l; omega
  have e1 : kSort s = s := (kSort_uniq (by rw [es]; exact asc_kSort l) (fun x => Iff.rfl)).symm
  have tl : (turned l t l.length).length = l.length := by unfold turned; rw [List.length_map, List.length_range]
  have e2 : kSort (turned l t l.length) = s := by
    rw [es]
    exact (kSort_uniq (asc_kSort l) (fun x => mem_kSort.trans (mem_turned l t x).symm)).symm
  refine upto ?_ (fun i hi next => ?_)
  · refine Comes.succ1 (fun nf fm0 _ _ => innkeeplaw14_KeysOrder.l4_eq nf fm0 _ _ _ _ _ _ _ _ _ _ _) ?_
    have k1 := ksort_spec s hsl
    have k2 := ksort_spec (turned l t l.length) (by omega)
    rw [e1] at k1
    rw [e2] at k2
    have k3 := rsame_spec s s hsl
    simp [-List.getD_eq_getElem?_getD, -List.length_eq_zero_iff, keepAll, freshHas, pathEq, eqPl_dec, wrap1, wrap0, nbeq, comes_call (k1), (k1).prop, comes_call (k2), (k2).prop, comes_call (k3), (k3).prop]
  · rw [← wrap_succ (by omega), turned_succ] at next
    have w1 : IntKind.wrap .i64 (t : Int) = (t : Int) := wrap_id (by omega) (by omega)
    have w2 : IntKind.wrap .i64 ((i : Int) + (t : Int)) = ((i + t : Nat) : Int) := by rw [wrap_id (by omega) (by omega)]; omega
    have w3 : Int.tmod ((i + t : Nat) : Int) ((l.length : Nat) : Int) = (((i + t) % l.length : Nat) : Int) := rfl
    have hm := Nat.mod_lt (i + t) (show 0 < l.length by omega)
    have hn : ¬ l.length = 0 := by omega
    have tl2 : (turned l t i).length = i := by unfold turned; rw [List.length_map, List.length_range]
    refine Comes.succ1 (fun nf fm0 _ _ => innkeeplaw14_KeysOrder.l4_eq nf fm0 _ _ _ _ _ _ _ _ _ _ _) ?_
    rw [w1, w2, w3]
    simp only [decide_eq_true (show (i : Int) < (l.length : Int) by omega), cond_true, Int.toNat_natCast, if_neg (show ¬ ((l.length : Nat) : Int) = 0 by omega), if_pos (show (0 : Int) ≤ (((i + t) % l.length : Nat) : Int) ∧ (((i + t) % l.length : Nat) : Int) < ((l.length : Nat) : Int) by omega), tl2, if_pos (show i + 1 ≤ 1048576 by omega)]
    exact next
theorem ord_l3 {l s : List (den tKey)} (hl : l.length ≤ 40) (hs : s.length ≤ 40) (ha : Asc s) (hm : ∀ x, x ∈ s → x ∈ l) {o0 : den tDesc} (h1 : List.length o0.1 ≤ 20) (h2 : List.length o0.2.1 ≤ 20) {Q : innkeeplaw14_KeysOrder.R → Prop} {j : Nat} (hj : j < s.length) {last : Int}
    (hlast : last = -1 ∨ ∃ j', j' < j ∧ 0 ≤ plc (List.length o0.1 : Nat) (List.length o0.2.1 : Nat) (List.getD s j' (dft tKey)).1 (List.getD s j' (dft tKey)).2.1 ∧ last = plc (List.length o0.1 : Nat) (List.length o0.2.1 : Nat) (List.getD s j' (dft tKey)).1 (List.getD s j' (dft tKey)).2.1)
    (t0 : den tDesc) (t2 : Int) (t6 : Bool) (t8 : Int)
    (hend : ∀ last', (last' = -1 ∨ ∃ j', j' < j + 1 ∧ 0 ≤ plc (List.length o0.1 : Nat) (List.length o0.2.1 : Nat) (List.getD s j' (dft tKey)).1 (List.getD s j' (dft tKey)).2.1 ∧ last' = plc (List.length o0.1 : Nat) (List.length o0.2.1 : Nat) (List.getD s j' (dft tKey)).1 (List.getD s j' (dft tKey)).2.1) → Comes (fun nf fm0 _ _ => innkeeplaw14_KeysOrder.l2 nf fm0 t0 (l) t2 t6 (s) t8 (last') (IntKind.wrap .i64 ((j : Int) + 1)) o0) Q) :
    ∀ k, k ≤ l.length → Comes (fun nf fm0 fm1 _ => innkeeplaw14_KeysOrder.l3 nf fm0 fm1 t0 (l) t2 t6 (s) t8 (last) ((j : Int)) (dec (∃ k', k' < k ∧ List.getD l k' (dft tKey) = List.getD s j (dft tKey))) ((k : Int)) o0) Q := by
  refine upto ?_ (fun k hk next => ?_)
  · obtain ⟨q, hq, eq⟩ := mem_getK.1 (hm _ (mem_getK.2 ⟨j, hj, rfl⟩))
    rw [dec_true.2 ⟨q, hq, eq⟩]
    have s1 := kplace_spec h1 h2 (List.getD s j (dft tKey))
    generalize hv : plc (List.length o0.1 : Nat) (List.length o0.2.1 : Nat) (List.getD s j (dft tKey)).1 (List.getD s j (dft tKey)).2.1 = v at s1
    have hv1 : 0 ≤ v ∨ v = -1 := by
      rw [← hv]; unfold plc
      split
      · exact .inl (by omega)
      · split
        · exact .inl (by omega)
        · exact .inr rfl
    have hl1 : -1 ≤ last := by
      rcases hlast with e | ⟨j', _, g, e⟩
      · omega
      · rw [e]; exact Int.le_trans (by decide) g
    have rise : 0 ≤ v → last < v := by
      intro g
      rcases hlast with e | ⟨j', hj', g', e⟩
      · omega
      · rw [e, ← hv]
        exact plc_mono (by omega) (asc_getD ha hj hj') g' (by rw [hv]; exact g)
    have fin : Comes (fun nf fm0 _ _ => innkeeplaw14_KeysOrder.l2 nf fm0 t0 (l) t2 t6 (s) t8 (if last < v then v else last) (IntKind.wrap .i64 ((j : Int) + 1)) o0) Q := by
      refine hend _ ?_
      rcases hv1 with g | g
      · rw [if_pos (rise g)]
        exact .inr ⟨j, Nat.lt_succ_self j, by rw [hv]; exact g, hv.symm⟩
      · rw [if_neg (by omega)]
        rcases hlast with e | ⟨j', hj', g', e⟩
        · exact .inl e
        · exact .inr ⟨j', by omega, g', e⟩
    have less : 0 < j → kLt (List.getD s (j - 1) (dft tKey)) (List.getD s j (dft tKey)) = true := fun h => asc_getD ha hj (by omega)
    have w : 0 < j → IntKind.wrap .i64 ((j : Int) - 1) = ((j - 1 : Nat) : Int) := fun h => by rw [wrap_id (by omega) (by omega)]; omega
    have s2 := kless_spec (List.getD s (j - 1) (dft tKey)) (List.getD s j (dft tKey))
    refine Comes.succ2 (fun nf fm0 fm1 _ => innkeeplaw14_KeysOrder.l3_eq nf fm0 fm1 _ _ _ _ _ _ _ _ _ _ _) ?_
    simp only [decide_eq_false (show ¬ ((l.length : Nat) : Int) < ((l.length : Nat) : Int) by omega), cond_false, if_pos (show (0 : Int) ≤ (j : Int) ∧ (j : Int) < ((s.length : Nat) : Int) by omega), Int.toNat_natCast, comes_call (s1), (s1).prop, Bool.not_true]
    by_cases h0 : 0 < j
    · rw [w h0]
      simp only [decide_eq_true (show (0 : Int) < (j : Int) by omega), cond_true, if_pos (show (0 : Int) ≤ ((j - 1 : Nat) : Int) ∧ ((j - 1 : Nat) : Int) < ((s.length : Nat) : Int) by omega), Int.toNat_natCast, comes_call (s2), (s2).prop, less h0, Bool.not_true, cond_false]
      rcases hv1 with g | g
      · have r := rise g
        simp only [decide_eq_true g, decide_eq_false (show ¬ v ≤ last by omega), cond_true, cond_false]
        exact fin
      · simp only [decide_eq_false (show ¬ (0 : Int) ≤ v by omega), cond_false]
        exact fin
    · simp only [decide_eq_false (show ¬ (0 : Int) < (j : Int) by omega), cond_false]
      rcases hv1 with g | g
      · have r := rise g
        simp only [decide_eq_true g, decide_eq_false (show ¬ v ≤ last by omega), cond_true, cond_false]
        exact fin
      · simp only [decide_eq_false (show ¬ (0 : Int) ≤ v by omega), cond_false]
        exact fin
  · rw [← wrap_succ (by omega)] at next
    refine Comes.succ2 (fun nf fm0 fm1 _ => innkeeplaw14_KeysOrder.l3_eq nf fm0 fm1 _ _ _ _ _ _ _ _ _ _ _) ?_
    by_cases h : ∃ k', k' < k ∧ List.getD l k' (dft tKey) = List.getD s j (dft tKey)
    · have h' : ∃ k', k' < k + 1 ∧ List.getD l k' (dft tKey) = List.getD s j (dft tKey) := by
        obtain ⟨k', a, b⟩ := h; exact ⟨k', by omega, b⟩
      rw [dec_true.2 h'] at next
      rw [dec_true.2 h]
      simp only [decide_eq_true (show (k : Int) < ((l.length : Nat) : Int) by omega), cond_true]
      exact next
    · rw [dec_false.2 h]
      have e : dec (∃ k', k' < k + 1 ∧ List.getD l k' (dft tKey) = List.getD s j (dft tKey)) = dec (List.getD l k (dft tKey) = List.getD s j (dft tKey)) := by
        rw [dec_eq]
        constructor
        · rintro ⟨k', a, b⟩
          by_cases g : k' = k
          · subst g; exact b
          · exact absurd ⟨k', by omega, b⟩ h
        · intro b; exact ⟨k, Nat.lt_succ_self k, b⟩
      rw [e] at next
      simp only [decide_eq_true (show (k : Int) < ((l.length : Nat) : Int) by omega), cond_true, cond_false, if_pos (show (0 : Int) ≤ (k : Int) ∧ (k : Int) < ((l.length : Nat) : Int) by omega), if_pos (show (0 : Int) ≤ (j : Int) ∧ (j : Int) < ((s.length : Nat) : Int) by omega), Int.toNat_natCast, eqKey_dec]
      exact next
theorem ord_l2 {l s : List (den tKey)} (hl : l.length ≤ 40) (es : s = kSort l) {o0 : den tDesc} (h1 : List.length o0.1 ≤ 20) (h2 : List.length o0.2.1 ≤ 20) {t : Nat} (ht : t < 256) (t0 : den tDesc) (t6 : Bool) (t8 : Int) :
    ∀ j, j ≤ s.length → ∀ last, (last = -1 ∨ ∃ j', j' < j ∧ 0 ≤ plc (List.length o0.1 : Nat) (List.length o0.2.1 : Nat) (List.getD s j' (dft tKey)).1 (List.getD s j' (dft tKey)).2.1 ∧ last = plc (List.length o0.1 : Nat) (List.length o0.2.1 : Nat) (List.getD s j' (dft tKey)).1 (List.getD s j' (dft tKey)).2.1) →
    Comes (fun nf fm0 _ _ => innkeeplaw14_KeysOrder.l2 nf fm0 t0 (l) ((t : Int)) t6 (s) t8 (last) ((j : Int)) o0) (fun r => r.1.1 = true) := by
  have hs : s.length ≤ 40 := by rw [es]; have := kSort_length l; omega
  have ha : Asc s := by rw [es]; exact asc_kSort l
  have hm : ∀ x, x ∈ s → x ∈ l := fun x h => by rw [es] at h; exact mem_kSort.1 h
  refine upto ?_ (fun j hj next => ?_)
  · intro last hlast
    refine Comes.succ1 (fun nf fm0 _ _ => innkeeplaw14_KeysOrder.l2_eq nf fm0 _ _ _ _ _ _ _ _ _) ?_
    simp only [decide_eq_false (show ¬ ((s.length : Nat) : Int) < ((s.length : Nat) : Int) by omega), cond_false]
    exact (ord_l4 hl es ht t0 t6 t8 last (s.length : Int) o0 0 (Nat.zero_le _)).enter
  · intro last hlast
    rw [← wrap_succ (by omega)] at next
    have := ord_l3 hl hs ha hm h1 h2 hj hlast t0 (t : Int) t6 t8 next 0 (Nat.zero_le _)
    rw [dec_false.2 (fun ⟨k', a, _⟩ => absurd a (Nat.not_lt_zero k'))] at this
    refine Comes.succ1 (fun nf fm0 _ _ => innkeeplaw14_KeysOrder.l2_eq nf fm0 _ _ _ _ _ _ _ _ _) ?_
    simp only [decide_eq_true (show (j : Int) < ((s.length : Nat) : Int) by omega), cond_true]
    exact this.enter1
theorem keysOrder_true (d : den tDesc) (l : List (den tKey)) (b : Int) (_ : wfD tDesc d) (_ : wfD (.sl tKey) l) (hb : wfD (.int .u8) b) : Comes (fun nf _ _ _ => innkeeplaw14_KeysOrder nf (d) (l) (b)) (fun r => r.1.1 = true) := by
  have hr := u8_range hb
  obtain ⟨t, rfl⟩ : ∃ t : Nat, b = (t : Int) := ⟨b.toNat, by omega⟩
  obtain ⟨f, hf, few⟩ := few14 d
  refine Comes.succ (fun nf _ _ _ => innkeeplaw14_KeysOrder.eq nf _ _ _) ?_
  cases f
  · simp only [comes_call (awake14), (awake14).prop, comes_call (few), (few).prop, Bool.not_true, Bool.not_false, cond_true, cond_false, comes_ret]
  · obtain ⟨h1, h2⟩ := hf rfl
    by_cases h : (40 : Int) < ((l.length : Nat) : Int)
    · simp only [comes_call (awake14), (awake14).prop, comes_call (few), (few).prop, Bool.not_true, Bool.not_false, cond_true, cond_false, comes_ret, decide_eq_true h]
    · have k1 := ksort_spec l (by omega)
      have hl : l.length ≤ 40 := by omega
      have hs : (kSort l).length ≤ 40 := by have := kSort_length l; omega
      simp only [comes_call (awake14), (awake14).prop, comes_call (few), (few).prop, comes_call (k1), (k1).prop, Bool.not_true, cond_true, cond_false, decide_eq_false h]
      exact (ord_l0 hl hs (asc_kSort l) (fun x hx => mem_kSort.2 hx) d (t : Int) false d (ord_l2 hl rfl h1 h2 (by omega) d false (l.length : Int) 0 (Nat.zero_le _) (-1) (.inl rfl)) 0 (Nat.zero_le _)).enter
end Go.Proofs.Ytobegmljkfphjaa.Ghost
