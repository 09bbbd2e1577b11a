/- What functions come to, and that the statements are answered with 'true'. Conditions: none. -/
import Derived.Test.YtdbogcinhmfmpaaS
import Derived.Test.YtdbogcinhmfmpaaGE
import Derived.Test.YtdbogcinhmfmpaaP1
import Derived.Test.YtdbogcinhmfmpaaP2
import Derived.Test.YtdbogcinhmfmpaaP3
import Derived.Test.YtdbogcinhmfmpaaP4
import Derived.Test.YtdbogcinhmfmpaaP5
import Derived.Test.YtdbogcinhmfmpaaP6
import Derived.Test.YtdbogcinhmfmpaaP7
import Derived.Test.YtdbogcinhmfmpaaP8
import Derived.Test.YtdbogcinhmfmpaaP9
import Derived.Test.YtdbogcinhmfmpaaP10
set_option linter.unusedVariables false
set_option linter.unusedSimpArgs false
set_option linter.unusedSectionVars false
set_option linter.unnecessarySimpa false
namespace Go.Proofs.Ytdbogcinhmfmpaa.Ghost
open Go
theorem Comes.nT {R : Type} {Q : R → Prop} {c : Bool} {A B : Nat → Nat → Nat → Nat → Option R} (hc : c = true) (h : Comes B Q) : Comes (fun n m k j => bif (!c) then A n m k j else B n m k j) Q := Comes.bifN (fun _ => h) (fun e => by rw [hc] at e; cases e)
theorem Comes.nF {R : Type} {Q : R → Prop} {c : Bool} {A B : Nat → Nat → Nat → Nat → Option R} (hc : c = false) (h : Comes A Q) : Comes (fun n m k j => bif (!c) then A n m k j else B n m k j) Q := Comes.bifN (fun e => by rw [hc] at e; cases e) (fun _ => h)
theorem roomI_put (w : den tWorld) {k : Nat} (hk : k < List.length (w.2.2.2.1 : List (den tPlace))) (q p : Pl) : roomI (put w k q) p = roomI w p + (if List.getD (w.2.2.2.1 : List (den tPlace)) k (dft tPlace) = p then 1 else 0) - (if q = p then 1 else 0) := by
  unfold roomI
  rw [put_len]
  show capI w.1 p - (manyPl (List.set (w.2.2.2.1 : List (den tPlace)) k q) p _ : Int) = _
  have := manyPl_set w.2.2.2.1 k q p hk (List.length (w.2.2.2.1 : List (den tPlace)))
  simp only [hk, true_and] at this
  by_cases h1 : List.getD (w.2.2.2.1 : List (den tPlace)) k (dft tPlace) = p
  · rw [if_pos h1] at this ⊢
    by_cases h2 : q = p
    · rw [if_pos h2] at this ⊢; omega
    · rw [if_neg h2] at this ⊢; omega
  · rw [if_neg h1] at this ⊢
    by_cases h2 : q = p
    · rw [if_pos h2] at this ⊢; omega
    · rw [if_neg h2] at this ⊢; omega
end Go.Proofs.Ytdbogcinhmfmpaa.Ghost
namespace Go.Proofs.Ytdbogcinhmfmpaa.Ghost
open Go
/-! ### Others -/
theorem others_l0 (a b : den tWorld) (items : List Int) (hi : items.length ≤ 1048576) (hsa : Sm a) (hsb : Sm b) (h1 : a.1 = b.1) (h2 : (a.2.1 : List Int) = b.2.1) (h3 : (a.2.2.1 : List Int) = b.2.2.1) (hl : List.length (a.2.2.2.1 : List (den tPlace)) = List.length (b.2.2.2.1 : List (den tPlace)))
    (hin : ∀ i, i < items.length → (0 : Int) ≤ List.getD items i 0 ∧ List.getD items i 0 < (List.length (a.2.2.2.1 : List (den tPlace)) : Int)) (t0 : den tWorld) (t1 : den tWorld) (t6 : Bool) (c : den tWorld) (hc1 : c.1 = a.1) (hc2 : (c.2.1 : List Int) = a.2.1) (hc3 : (c.2.2.1 : List Int) = a.2.2.1) :
    (r i : Nat) → i + r = items.length → (x : List Pl) → x.length = List.length (a.2.2.2.1 : List (den tPlace)) → (∀ j, j < x.length → List.getD x j (dft tPlace) = List.getD b.2.2.2.1 j (dft tPlace) ∨ ∃ m, i ≤ m ∧ m < items.length ∧ List.getD items m 0 = (j : Int)) →
    Comes (fun n m _ _ => innkeepref09_Others.l0 n m t0 t1 items t6 (i : Int) a b c x) (fun r => r.1.1 = true)
  | 0, i, hir, x, hx, hj => by
    refine Comes.succ1 (fun n m _ _ => innkeepref09_Others.l0_eq n m t0 t1 items t6 i a b c x) (Comes.bifF (decide_eq_false (by omega)) ?_)
    have e : (c.1, (c.2.1 : List Int), (c.2.2.1 : List Int), x, ()) = b := by
      refine Prod.ext (hc1.trans h1) (Prod.ext (hc2.trans h2) (Prod.ext (hc3.trans h3) (Prod.ext ?_ rfl)))
      refine ext_getD (dft tPlace) (by rw [hx]; exact hl) (fun j hjx => ?_)
      rcases hj j hjx with h | ⟨m, h4, h5, _⟩
      · exact h
      · omega
    rw [e]
    exact Comes.call (same_spec _ _ hsb hsb) (fun v hv => Comes.ret (hv.2 rfl))
  | r + 1, i, hir, x, hx, hj => by
    obtain ⟨g0, g1⟩ := hin i (by omega)
    refine Comes.succ1 (fun n m _ _ => innkeepref09_Others.l0_eq n m t0 t1 items t6 i a b c x) (Comes.bifT (decide_eq_true (by omega)) (Comes.ite (by omega) ?_))
    rw [Int.toNat_natCast]
    refine Comes.bifF (decide_eq_false (by omega)) (Comes.ite (by omega) (Comes.bifF (decide_eq_false (by rw [hx]; omega)) (Comes.nT (decide_eq_true (by rw [hx, hl])) (Comes.ite (by omega) (Comes.ite (by omega) (Comes.ite (by rw [← hl]; exact ⟨g0, g1⟩) (Comes.ite (by rw [hx]; exact ⟨g0, g1⟩) ?_)))))))
    rw [wrap_succ (by omega)]
    obtain ⟨k, hk⟩ : ∃ k : Nat, List.getD items i 0 = (k : Int) := ⟨(List.getD items i 0).toNat, by omega⟩
    rw [hk, Int.toNat_natCast]
    refine others_l0 a b items hi hsa hsb h1 h2 h3 hl hin t0 t1 t6 c hc1 hc2 hc3 r (i + 1) (by omega) _ (by rw [List.length_set]; exact hx) (fun j hjx => ?_)
    rw [List.length_set] at hjx
    rw [getD_set _ _ _ _ _ (show k < x.length by rw [hk] at g1; omega)]
    by_cases hjk : j = k
    · rw [if_pos hjk, hjk]; exact .inl rfl
    · rw [if_neg hjk]
      rcases hj j hjx with h | ⟨m, h4, h5, h6⟩
      · exact .inl h
      · refine .inr ⟨m, ?_, h5, h6⟩
        by_cases hm : m = i
        · subst hm; rw [hk] at h6; exact absurd (Int.ofNat.inj h6).symm hjk
        · omega
theorem others_spec (a b : den tWorld) (items : List Int) (hi : items.length ≤ 1048576) (hsa : Sm a) (hsb : Sm b) (h1 : a.1 = b.1) (h2 : (a.2.1 : List Int) = b.2.1) (h3 : (a.2.2.1 : List Int) = b.2.2.1) (hl : List.length (a.2.2.2.1 : List (den tPlace)) = List.length (b.2.2.2.1 : List (den tPlace)))
    (hin : ∀ i, i < items.length → (0 : Int) ≤ List.getD items i 0 ∧ List.getD items i 0 < (List.length (a.2.2.2.1 : List (den tPlace)) : Int)) 
    (hj : ∀ j, j < List.length (a.2.2.2.1 : List (den tPlace)) → List.getD a.2.2.2.1 j (dft tPlace) = List.getD b.2.2.2.1 j (dft tPlace) ∨ ∃ m, m < items.length ∧ List.getD items m 0 = (j : Int)) :
    Comes (fun n _ _ _ => innkeepref09_Others n a b items) (fun r => r.1.1 = true) := by
  refine Comes.succ (fun n _ _ _ => innkeepref09_Others.eq n a b items) (Comes.call (copied_spec a hsa) (fun v hv => ?_))
  subst hv
  refine Comes.bifT rfl (others_l0 a b items hi hsa hsb h1 h2 h3 hl hin a b false (a.1, (a.2.1 : List Int), (a.2.2.1 : List Int), ([] : List Pl), ()) rfl rfl rfl _ 0 (Nat.zero_add _) _ rfl (fun j hjx => ?_)).enter
  rcases hj j hjx with h | ⟨m, h4, h5⟩
  · exact .inl h
  · exact .inr ⟨m, Nat.zero_le m, h4, h5⟩
theorem others_put (w : den tWorld) (hs : Sm w) {k : Nat} (hk : k < List.length (w.2.2.2.1 : List (den tPlace))) (q : Pl) : Comes (fun n _ _ _ => innkeepref09_Others n w (put w k q) [(k : Int)]) (fun r => r.1.1 = true) := by
  refine others_spec w (put w k q) [(k : Int)] (by simp) hs (sm_put hs _ _) rfl rfl rfl (put_len w k q).symm (fun i hi => ?_) (fun j hj => ?_)
  · obtain rfl : i = 0 := by simpa using hi
    exact ⟨Int.natCast_nonneg k, Int.ofNat_lt.2 hk⟩
  · rw [put_at w k j q hk]
    by_cases hjk : j = k
    · subst hjk; exact .inr ⟨0, by simp, rfl⟩
    · rw [if_neg hjk]; exact .inl rfl
end Go.Proofs.Ytdbogcinhmfmpaa.Ghost
namespace Go.Proofs.Ytdbogcinhmfmpaa.Ghost
open Go
theorem swap_none {a b : Int} (ha : coinP a) (hb : coinP b) : swapErr a b 0 0 = 0 := by
  have := ha.1; have := hb.1
  unfold swapErr
  rw [Int.sub_zero, Int.add_zero, Int.sub_zero, Int.add_zero, if_neg (by omega), if_pos ⟨ha, hb⟩]
theorem give_trade {w : den tWorld} (ok : Ok w) {i : Nat} (hi : i < List.length (w.2.1 : List Int)) (item q : Int) : tradeErr w i q [item] 0 [] 0 = giveErr w i item q ∧ (tradeR w i q [item] 0 [] 0).1 = (giveR w i item q).1 := by
  have e1 : tradeErr w i q [item] 0 [] 0 = giveErr w i item q := by
    unfold tradeErr giveErr
    by_cases c1 : inQ w q
    rotate_left
    · rw [if_pos c1, if_neg (fun h => c1 h.2)]
    rw [if_neg (fun h => h c1)]
    by_cases c2 : inR w item
    rotate_left
    · rw [if_pos ⟨0, by show 0 < 1; omega, c2⟩, if_neg (fun h => c2 h.1)]
    have n1 : ¬ Bad w ([item] ++ []) := fun ⟨j, h, g⟩ => by
      have h : j < 1 := h
      obtain rfl : j = 0 := by omega
      exact g c2
    rw [if_neg n1, if_pos (show inR w item ∧ inQ w q from ⟨c2, c1⟩)]
    by_cases c3 : q = (i : Int)
    · rw [if_pos c3, if_pos c3]
    rw [if_neg c3, if_neg c3]
    by_cases c4 : atOf w q.toNat = atOf w i
    rotate_left
    · rw [if_pos c4, if_neg (fun h => c4 h.1)]
    have n2 : ¬ Dup ([item] ++ []) := fun ⟨a, b, h1, h2, _⟩ => by
      have h2 : b < 1 := h2
      omega
    have n3 : ¬ Away w [] q := fun ⟨j, h, _⟩ => by simp at h
    rw [if_neg (fun h => h c4), if_neg n2]
    by_cases c5 : plOf w item.toNat = mePl i
    rotate_left
    · rw [if_pos ⟨0, by show 0 < 1; omega, c5⟩, if_neg (fun h => c5 h.2)]
    have n4 : ¬ Away w [item] i := fun ⟨j, h, g⟩ => by
      have h : j < 1 := h
      obtain rfl : j = 0 := by omega
      exact g c5
    have r1 := (ok.right.room (mePl i)).1
    have r1' : ¬ roomI w (mePl i) < ((([] : List Int).length : Int)) - ((([item] : List Int).length : Int)) := by show ¬ roomI w (mePl i) < (0 : Int) - 1; omega
    rw [if_neg n4, if_neg n3, if_neg r1', if_pos (show atOf w q.toNat = atOf w i ∧ plOf w item.toNat = mePl i from ⟨c4, c5⟩)]
    obtain ⟨k, rfl, hk⟩ := inQ_nat c1
    rw [Int.toNat_natCast, swap_none (coin_fit ok.right hi) (coin_fit ok.right hk)]
    rfl
  refine ⟨e1, ?_⟩
  unfold tradeR giveR
  rw [e1]
  by_cases h : giveErr w i item q = 0
  · obtain ⟨c2, c1⟩ := giveErr_in (w := w) (p := i) (k := item) (q := q) (by rw [h]; decide)
    obtain ⟨k, rfl, hk⟩ := inQ_nat c1
    have hc1 := ok.right.c1
    have ha1 := ok.right.a1
    rw [if_pos h, if_pos h, Int.toNat_natCast]
    refine Prod.ext rfl (Prod.ext rfl (Prod.ext ?_ rfl))
    show List.set (List.set (w.2.2.1 : List Int) i (coinOf w i - 0 + 0)) (Int.toNat (k : Int)) (coinOf w k - 0 + 0) = w.2.2.1
    rw [Int.toNat_natCast, Int.sub_zero, Int.add_zero, Int.sub_zero, Int.add_zero]
    refine ext_getD (0 : Int) (by simp only [List.length_set]) (fun j hj => ?_)
    rw [coins_at _ (by omega) (by omega)]
    split
    · rename_i e; rw [e]
    · split
      · rename_i e; rw [e]
      · rfl
  · rw [if_neg h, if_neg h]
structure GiveOk (w : den tWorld) (i q k : Nat) : Prop where
  hk : k < List.length (w.2.2.2.1 : List (den tPlace))
  hq : q < List.length (w.2.1 : List Int)
  ne : ¬ q = i
  at_ : atOf w q = atOf w i
  pl : plOf w k = mePl i
  room : 1 ≤ roomI w (mePl q)
theorem giveErr_zero {w : den tWorld} {i : Nat} {item q : Int} : giveErr w i item q = 0 ↔ ∃ k n : Nat, item = (k : Int) ∧ q = (n : Int) ∧ GiveOk w i n k := by
  constructor
  · intro h
    obtain ⟨c2, c1⟩ := giveErr_in (w := w) (p := i) (k := item) (q := q) (by rw [h]; decide)
    obtain ⟨n, rfl, hn⟩ := inQ_nat c1
    obtain ⟨k, rfl, hk⟩ := inR_nat c2
    unfold giveErr at h
    rw [if_pos ⟨c2, c1⟩, Int.toNat_natCast, Int.toNat_natCast] at h
    by_cases c3 : (n : Int) = (i : Int)
    · rw [if_pos c3] at h; cases h
    rw [if_neg c3] at h
    by_cases c4 : atOf w n = atOf w i ∧ plOf w k = mePl i
    rotate_left
    · rw [if_neg c4] at h; cases h
    rw [if_pos c4] at h
    by_cases c5 : roomI w (mePl n) < 1
    · rw [if_pos c5] at h; cases h
    exact ⟨k, n, rfl, rfl, hk, hn, fun e => c3 (by rw [e]), c4.1, c4.2, Int.not_lt.1 c5⟩
  · rintro ⟨k, n, rfl, rfl, h⟩
    unfold giveErr
    rw [if_pos ⟨⟨Int.natCast_nonneg k, Int.ofNat_lt.2 h.hk⟩, ⟨Int.natCast_nonneg n, Int.ofNat_lt.2 h.hq⟩⟩, if_neg (fun e : (n : Int) = (i : Int) => h.ne (Int.ofNat.inj e)), Int.toNat_natCast, Int.toNat_natCast, if_pos ⟨h.at_, h.pl⟩, if_neg (Int.not_lt.2 h.room)]
theorem gv_ok {w : den tWorld} (ok : Ok w) {i q k : Nat} (h : GiveOk w i q k) : Ok (put w k (mePl q)) := by
  refine ok.put h.hk (me_nb q) (by rw [show List.getD (w.2.2.2.1 : List (den tPlace)) k (dft tPlace) = mePl i from h.pl]; exact me_nb i) (.inr (.inl ⟨rfl, Int.natCast_nonneg q, ?_⟩)) h.room
  show (q : Int) < _
  rw [← ok.right.a1]; exact Int.ofNat_lt.2 h.hq
theorem gv_back {w : den tWorld} (ok : Ok w) {i q k : Nat} (hi : i < List.length (w.2.1 : List Int)) (h : GiveOk w i q k) : GiveOk (put w k (mePl q)) q i k ∧ put (put w k (mePl q)) k (mePl i) = w := by
  refine ⟨⟨by rw [put_len]; exact h.hk, hi, fun e => h.ne e.symm, h.at_.symm, ?_, ?_⟩, put_put w k _ _ h.pl⟩
  · show List.getD _ k _ = _
    rw [put_at w k k _ h.hk, if_pos rfl]
  · have := roomI_put w h.hk (mePl q) (mePl i)
    rw [if_pos (show List.getD (w.2.2.2.1 : List (den tPlace)) k (dft tPlace) = mePl i from h.pl), if_neg (fun e => h.ne (me_inj e))] at this
    have := (ok.right.room (mePl i)).1
    omega
theorem giftsGive_true (w : den tWorld) (p item q : Int) (hw : wfD tWorld w) (hp : wfD (.int .u8) p) (_ : wfD (.int .i64) item) (_ : wfD (.int .i64) q) : Comes (fun nf _ _ _ => innkeeplaw11_GiftsGive nf (w) (p) (item) (q)) (fun r => r.1.1 = true) := by
  refine Comes.succ (fun nf _ _ _ => innkeeplaw11_GiftsGive.eq nf _ _ _ _) ?_
  simp [-List.getD_eq_getElem?_getD, -List.length_eq_zero_iff, keepAll, freshHas, pathEq, eqPl_dec, wrap1, wrap0, nbeq, comes_call (awake11), (awake11).prop, comes_call ((fits11 w).fit), ((fits11 w).fit).bprop]
  intro fit h0 h1 h2 h3
  have ok := ok_of hw fit.few fit.right
  have hpos := ok.right.pos
  obtain ⟨i, hi, ei⟩ := index_of hp hpos
  rw [ei]
  have z : coinP 0 := ⟨by decide, by decide⟩
  have t0 : Comes (fun nf _ _ _ => gifts_Trade nf (w) ((i : Int)) ((8, 0, 0, 0, q, ([item] : List Int), 0, ([] : List Int), 0, ()))) (fun r => r = (tradeR w i q [item] 0 [] 0, if tradeErr w i q [item] 0 [] 0 = 0 then [(0, [2]), (0, [3])] else [])) := trade_spec ok hi (8, 0, 0, 0, q, ([item] : List Int), 0, ([] : List Int), 0, ()) (by simp [cGives]) (by simp [cWants]) z z
  obtain ⟨e1, e2⟩ := give_trade ok hi item q
  have e3 := tradeR_err w i q [item] [] 0 0
  have e4 := giveR_err w i item q
  by_cases c : giveErr w i item q = 0
  · obtain ⟨k, n, rfl, rfl, g⟩ := giveErr_zero.1 c
    have g1 : (giveR w i (k : Int) (n : Int)).1 = put w k (mePl n) := by
      unfold giveR
      rw [if_pos c, Int.toNat_natCast, Int.toNat_natCast]
    have ok2 := gv_ok ok g
    obtain ⟨gb, eb⟩ := gv_back ok hi g
    have cb := giveErr_zero.2 ⟨k, i, rfl, rfl, gb⟩
    have g2 : giveR (put w k (mePl n)) n (k : Int) (i : Int) = (w, 0, ()) := by
      unfold giveR
      rw [if_pos cb, Int.toNat_natCast, Int.toNat_natCast, eb]
    have gs := give_spec ok2 (p := n) g.hq (k : Int) (i : Int)
    rw [g2] at gs
    simp [-List.getD_eq_getElem?_getD, -List.length_eq_zero_iff, keepAll, freshHas, pathEq, eqPl_dec, wrap1, wrap0, nbeq, comes_call (give_spec ok hi (k : Int) (n : Int)), (give_spec ok hi (k : Int) (n : Int)).prop, comes_call (t0), (t0).prop, e1, e2, e3, e4, c, g1, comes_call (same_spec (put w k (mePl n)) (put w k (mePl n)) ok2.sm ok2.sm), (same_spec (put w k (mePl n)) (put w k (mePl n)) ok2.sm ok2.sm).bprop, comes_call (gs), (gs).prop, comes_call (same_spec w w ok.sm ok.sm), (same_spec w w ok.sm ok.sm).bprop, comes_call (right_spec (put w k (mePl n))), (right_spec (put w k (mePl n))).bprop, ok2.right, comes_call (others_put w ok.sm g.hk (mePl n)), (others_put w ok.sm g.hk (mePl n)).prop]
    exact Nat.ne_of_gt hpos
  · have g1 : (giveR w i item q).1 = w := by
      unfold giveR
      rw [if_neg c]
    simp [-List.getD_eq_getElem?_getD, -List.length_eq_zero_iff, keepAll, freshHas, pathEq, eqPl_dec, wrap1, wrap0, nbeq, comes_call (give_spec ok hi item q), (give_spec ok hi item q).prop, comes_call (t0), (t0).prop, e1, e2, e3, e4, c, g1, comes_call (same_spec w w ok.sm ok.sm), (same_spec w w ok.sm ok.sm).bprop]
    exact Nat.ne_of_gt hpos
end Go.Proofs.Ytdbogcinhmfmpaa.Ghost
