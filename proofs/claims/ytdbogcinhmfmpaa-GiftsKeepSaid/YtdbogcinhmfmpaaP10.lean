/- What functions come to, and that the statements are answered with 'true'. Conditions: none. -/
import Derived.Test.YtdbogcinhmfmpaaS
import Derived.Test.YtdbogcinhmfmpaaGE
import Derived.Test.YtdbogcinhmfmpaaP1
import Derived.Test.YtdbogcinhmfmpaaP2
import Derived.Test.YtdbogcinhmfmpaaP3
import Derived.Test.YtdbogcinhmfmpaaP4
import Derived.Test.YtdbogcinhmfmpaaP5
import Derived.Test.YtdbogcinhmfmpaaP6
import Derived.Test.YtdbogcinhmfmpaaP7
import Derived.Test.YtdbogcinhmfmpaaP8
import Derived.Test.YtdbogcinhmfmpaaP9
set_option linter.unusedVariables false
set_option linter.unusedSimpArgs false
set_option linter.unusedSectionVars false
set_option linter.unnecessarySimpa false
namespace Go.Proofs.Ytdbogcinhmfmpaa.Ghost
open Go
theorem awake11 : Comes (fun nf _ _ _ => innkeeplaw11_awake nf) (fun r => r.1.1 = true) := Comes.one 60 (r := ((true, ()), [])) (by kernel_rfl) rfl
theorem fits11 (w : den tWorld) : Comes (fun nf _ _ _ => innkeeplaw11_fits nf (w)) (fun r => r.1.1 = true ↔ FewP w ∧ RightP w) := by
  refine Comes.succ (fun n _ _ _ => innkeeplaw11_fits.eq n w) (Comes.call (few_spec w) (fun v hv => Comes.bif (fun hb => Comes.call (right_spec w) (fun u hu => Comes.ret ?_)) (fun hb => Comes.ret ?_)))
  · exact ⟨fun e => ⟨hv.1 hb, hu.1 e⟩, fun e => hu.2 e.2⟩
  · exact ⟨(fun e => by cases e), fun e => by rw [hv.2 e.1] at hb; cases hb⟩
def FewC (c : Cm) : Prop := (cGives c).length ≤ 40 ∧ (cWants c).length ≤ 40
theorem fewC_spec (c : Cm) : Comes (fun nf _ _ _ => innkeepref03_Few nf (c)) (fun r => r.1.1 = true ↔ FewC c) := by
  refine Comes.succ (fun nf _ _ _ => innkeepref03_Few.eq nf _) ?_
  by_cases h : ((cGives c).length : Int) ≤ 40
  · simp [-List.getD_eq_getElem?_getD, -List.length_eq_zero_iff, keepAll, freshHas, pathEq, eqPl_dec, wrap1, wrap0, nbeq, h, FewC]
    have : (cGives c).length ≤ 40 := by omega
    exact ⟨fun h' => ⟨this, Int.ofNat_le.1 h'⟩, fun h' => Int.ofNat_le.2 h'.2⟩
  · simp [-List.getD_eq_getElem?_getD, -List.length_eq_zero_iff, keepAll, freshHas, pathEq, eqPl_dec, wrap1, wrap0, nbeq, h, FewC]
    intro h'; omega
/-- a trade that may be -/
structure Tr (c : Cm) : Prop where
  g : (cGives c).length ≤ 100
  w : (cWants c).length ≤ 100
  pay : coinP (cPay c)
  fee : coinP (cFee c)
theorem tr_of {c : Cm} (hf : FewC c) (hm : MayC c) (hk : cKind c = 8) : Tr c :=
  ⟨by have := hf.1; omega, by have := hf.2; omega, hm.pay.1 hk, hm.fee.1 hk⟩
theorem tradeR_sm {w : den tWorld} (ok : Ok w) {p : Nat} (hp : p < List.length (w.2.1 : List Int)) {q : Int} {gs ws : List Int} {pay fee : Int} : Sm (tradeR w p q gs pay ws fee).1 := by
  unfold tradeR
  by_cases h : tradeErr w p q gs pay ws fee = 0
  · rw [if_pos h]
    obtain ⟨n, rfl, ht⟩ := (tradeErr_zero (swapErr_nn pay fee)).1 h
    exact (tdW_ok ok hp ht).sm
  · rw [if_neg h]; exact ok.sm
theorem giveR_sm {w : den tWorld} (h : Sm w) {p : Nat} {k q : Int} : Sm (giveR w p k q).1 := by
  unfold giveR
  split
  · exact sm_put h _ _
  · exact h
theorem tradeR_err (w : den tWorld) (p : Nat) (q : Int) (gs ws : List Int) (pay fee : Int) : (tradeR w p q gs pay ws fee).2.1 = tradeErr w p q gs pay ws fee := by
  unfold tradeR
  split
  · rename_i h; exact h.symm
  · rfl
theorem giveR_err (w : den tWorld) (p : Nat) (k q : Int) : (giveR w p k q).2.1 = giveErr w p k q := by
  unfold giveR
  split
  · rename_i h; exact h.symm
  · rfl
theorem giftsDo_true (w : den tWorld) (p item q : Int) (c : Cm) (hw : wfD tWorld w) (hp : wfD (.int .u8) p) (_ : wfD (.int .i64) item) (_ : wfD (.int .i64) q) (_ : wfD tCmd c) : Comes (fun nf _ _ _ => innkeeplaw11_GiftsDo nf (w) (p) (item) (q) (c)) (fun r => r.1.1 = true) := by
  refine Comes.succ (fun nf _ _ _ => innkeeplaw11_GiftsDo.eq nf _ _ _ _ _) ?_
  simp [-List.getD_eq_getElem?_getD, -List.length_eq_zero_iff, keepAll, freshHas, pathEq, eqPl_dec, wrap1, wrap0, nbeq, comes_call (awake11), (awake11).prop, comes_call ((fits11 w).fit), ((fits11 w).fit).bprop, comes_call (fewC_spec c), (fewC_spec c).bprop]
  intro fit few
  simp [-List.getD_eq_getElem?_getD, -List.length_eq_zero_iff, keepAll, freshHas, pathEq, eqPl_dec, wrap1, wrap0, nbeq, comes_call (awake11), (awake11).prop, comes_call (mayC_spec c (by have := few.1; omega) (by have := few.2; omega)), (mayC_spec c (by have := few.1; omega) (by have := few.2; omega)).bprop]
  intro may hk
  have tr := tr_of few may hk
  have ok := ok_of hw fit.few fit.right
  have hpos := ok.right.pos
  obtain ⟨i, hi, ei⟩ := index_of hp hpos
  rw [ei]
  simp [-List.getD_eq_getElem?_getD, -List.length_eq_zero_iff, keepAll, freshHas, pathEq, eqPl_dec, wrap1, wrap0, nbeq, comes_call (give_spec ok hi item q), (give_spec ok hi item q).prop, comes_call (refGive_spec ok hi item q), (refGive_spec ok hi item q).prop, comes_call (trade_spec ok hi c tr.g tr.w tr.pay tr.fee), (trade_spec ok hi c tr.g tr.w tr.pay tr.fee).prop, comes_call (refTrade_spec ok hi c tr.g tr.w tr.pay tr.fee), (refTrade_spec ok hi c tr.g tr.w tr.pay tr.fee).prop, comes_call (same_spec (giveR w i item q).1 (giveR w i item q).1 (giveR_sm ok.sm) (giveR_sm ok.sm)), (same_spec (giveR w i item q).1 (giveR w i item q).1 (giveR_sm ok.sm) (giveR_sm ok.sm)).bprop, comes_call (same_spec (tradeR w i (cWho c) (cGives c) (cPay c) (cWants c) (cFee c)).1 (tradeR w i (cWho c) (cGives c) (cPay c) (cWants c) (cFee c)).1 (tradeR_sm ok hi) (tradeR_sm ok hi)), (same_spec (tradeR w i (cWho c) (cGives c) (cPay c) (cWants c) (cFee c)).1 (tradeR w i (cWho c) (cGives c) (cPay c) (cWants c) (cFee c)).1 (tradeR_sm ok hi) (tradeR_sm ok hi)).bprop]
  omega
theorem tradeErr_none {w : den tWorld} (ok : Ok w) {i k : Nat} (hk : k < List.length (w.2.1 : List Int)) (pay : Int) : tradeErr w i k [] pay [] 0 = if (k : Int) = (i : Int) then 12 else if atOf w k = atOf w i then swapErr (coinOf w i) (coinOf w k) pay 0 else 5 := by
  have hiq : inQ w (k : Int) := ⟨Int.natCast_nonneg k, Int.ofNat_lt.2 hk⟩
  have n1 : ¬ Bad w (([] : List Int) ++ []) := fun ⟨j, h, _⟩ => by simp at h
  have n2 : ¬ Dup (([] : List Int) ++ []) := fun ⟨_, j, _, h, _⟩ => by simp at h
  have n3 : ∀ x, ¬ Away w [] x := fun x ⟨j, h, _⟩ => by simp at h
  have r1 := (ok.right.room (mePl i)).1
  have r2 := (ok.right.room (mePl k)).1
  have r1' : ¬ roomI w (mePl i) < ((([] : List Int).length : Int)) - ((([] : List Int).length : Int)) := by show ¬ roomI w (mePl i) < (0 : Int) - 0; omega
  have r2' : ¬ roomI w (meI (k : Int)) < ((([] : List Int).length : Int)) - ((([] : List Int).length : Int)) := by show ¬ roomI w (mePl k) < (0 : Int) - 0; omega
  unfold tradeErr
  rw [if_neg (fun h => h hiq), if_neg n1]
  by_cases c1 : (k : Int) = (i : Int)
  · rw [if_pos c1, if_pos c1]
  rw [if_neg c1, if_neg c1, Int.toNat_natCast]
  by_cases c2 : atOf w k = atOf w i
  · rw [if_neg (fun h => h c2), if_neg n2, if_neg (n3 _), if_neg (n3 _), if_neg r1', if_neg r2', if_pos c2]
  · rw [if_pos c2, if_neg c2]
theorem giftsNone_true (w : den tWorld) (p q pay : Int) (hw : wfD tWorld w) (hp : wfD (.int .u8) p) (hq : wfD (.int .u8) q) (hpay : wfD (.int .u32) pay) : Comes (fun nf _ _ _ => innkeeplaw11_GiftsNone nf (w) (p) (q) (pay)) (fun r => r.1.1 = true) := by
  refine Comes.succ (fun nf _ _ _ => innkeeplaw11_GiftsNone.eq nf _ _ _ _) ?_
  simp [-List.getD_eq_getElem?_getD, -List.length_eq_zero_iff, keepAll, freshHas, pathEq, eqPl_dec, wrap1, wrap0, nbeq, comes_call (awake11), (awake11).prop, comes_call ((fits11 w).fit), ((fits11 w).fit).bprop]
  intro fit hpl
  have ok := ok_of hw fit.few fit.right
  have hpos := ok.right.pos
  obtain ⟨i, hi, ei⟩ := index_of hp hpos
  obtain ⟨k, hk, ek⟩ := index_of hq hpos
  have hp0 : 0 ≤ pay := by
    have h1 : IntKind.u32.min ≤ pay ∧ pay ≤ IntKind.u32.max := hpay
    have e1 : IntKind.u32.min = 0 := rfl
    omega
  have ew : IntKind.wrap .i64 pay = pay := wrap_id (by omega) (by omega)
  have hpc : coinP pay := ⟨hp0, hpl⟩
  have z : coinP 0 := ⟨by decide, by decide⟩
  have hc1 := ok.right.c1
  have ha1 := ok.right.a1
  have hic : i < List.length (w.2.2.1 : List Int) := by omega
  have hkc : k < List.length (w.2.2.1 : List Int) := by omega
  have fi := coin_fit ok.right hi
  have fk := coin_fit ok.right hk
  have t0 : Comes (fun nf _ _ _ => gifts_Trade nf (w) ((i : Int)) ((8, 0, 0, 0, (k : Int), ([] : List Int), 0, ([] : List Int), 0, ()))) (fun r => r = (tradeR w i k [] 0 [] 0, if tradeErr w i k [] 0 [] 0 = 0 then [(0, [2]), (0, [3])] else [])) := trade_spec ok hi (8, 0, 0, 0, (k : Int), ([] : List Int), 0, ([] : List Int), 0, ()) (by simp [cGives]) (by simp [cWants]) z z
  have t1 : Comes (fun nf _ _ _ => gifts_Trade nf (w) ((i : Int)) ((8, 0, 0, 0, (k : Int), ([] : List Int), pay, ([] : List Int), 0, ()))) (fun r => r = (tradeR w i k [] pay [] 0, if tradeErr w i k [] pay [] 0 = 0 then [(0, [2]), (0, [3])] else [])) := trade_spec ok hi (8, 0, 0, 0, (k : Int), ([] : List Int), pay, ([] : List Int), 0, ()) (by simp [cGives]) (by simp [cWants]) hpc z
  have e0 := tradeErr_none ok (i := i) hk 0
  have e1 := tradeErr_none ok (i := i) hk pay
  have s0 : swapErr (coinOf w i) (coinOf w k) 0 0 = 0 := by
    unfold swapErr
    have b1 : coinP (coinOf w i - 0 + 0) := by rw [Int.sub_zero, Int.add_zero]; exact fi
    have b2 : coinP (coinOf w k - 0 + 0) := by rw [Int.sub_zero, Int.add_zero]; exact fk
    have := fi.1; have := fk.1
    rw [if_neg (by omega), if_pos ⟨b1, b2⟩]
  rw [s0] at e0
  have w0 : tradeW w i k [] [] (coinOf w i - 0 + 0) (coinOf w k - 0 + 0) = w := by
    refine Prod.ext rfl (Prod.ext rfl (Prod.ext ?_ rfl))
    show List.set (List.set (w.2.2.1 : List Int) i _) (Int.toNat (k : Int)) _ = w.2.2.1
    rw [Int.toNat_natCast, Int.sub_zero, Int.add_zero, Int.sub_zero, Int.add_zero]
    refine ext_getD (0 : Int) (by simp only [List.length_set]) (fun j hj => ?_)
    rw [coins_at _ hic hkc]
    split
    · rename_i e; rw [e]
    · split
      · rename_i e; rw [e]
      · rfl
  have tr0 : (tradeR w i k [] 0 [] 0).1 = w := by
    unfold tradeR
    split
    · rw [Int.toNat_natCast]; exact w0
    · rfl
  have te0 := tradeR_err w i k [] [] 0 0
  have te1 := tradeR_err w i k [] [] pay 0
  have hat : (List.getD (w.2.1 : List Int) i (0 : Int) = List.getD (w.2.1 : List Int) k (0 : Int)) = (atOf w k = atOf w i) := propext eq_comm
  have hik : ((i : Int) = (k : Int)) = ((k : Int) = (i : Int)) := propext eq_comm
  rw [ei, ek, ew]
  by_cases c1 : (k : Int) = (i : Int)
  · rw [if_pos c1] at e0
    simp [-List.getD_eq_getElem?_getD, -List.length_eq_zero_iff, keepAll, freshHas, pathEq, eqPl_dec, wrap1, wrap0, nbeq, hik, c1]
    rw [c1] at t0 te0 tr0 e0
    simp [-List.getD_eq_getElem?_getD, -List.length_eq_zero_iff, keepAll, freshHas, pathEq, eqPl_dec, wrap1, wrap0, nbeq, comes_call (t0), (t0).prop, te0, tr0, e0, comes_call (same_spec w w ok.sm ok.sm), (same_spec w w ok.sm ok.sm).bprop]
    omega
  · rw [if_neg c1] at e0 e1
    by_cases c2 : atOf w k = atOf w i
    · rw [if_pos c2] at e0 e1
      have w1 : tradeErr w i k [] pay [] 0 = 0 → (tradeR w i k [] pay [] 0).1 = (w.1, w.2.1, (List.set (List.set (w.2.2.1 : List Int) i (coinOf w i - pay)) k (coinOf w k + pay) : List Int), w.2.2.2.1, ()) := fun e => by
        unfold tradeR
        rw [if_pos e, Int.toNat_natCast, Int.add_zero, Int.sub_zero]
        unfold tradeW
        rw [Int.toNat_natCast]
        rfl
      have f1 : 0 ≤ coinOf w i ∧ coinOf w i ≤ 1073741824 := fi
      have f2 : 0 ≤ coinOf w k ∧ coinOf w k ≤ 1073741824 := fk
      have x1 : IntKind.wrap .i64 (List.getD (w.2.2.1 : List Int) i 0 - pay) = coinOf w i - pay := wrap_id (by show -9223372036854775808 ≤ coinOf w i - pay; omega) (by show coinOf w i - pay < _; omega)
      have x2 : IntKind.wrap .i64 (List.getD (w.2.2.1 : List Int) k 0 + pay) = coinOf w k + pay := wrap_id (by show -9223372036854775808 ≤ coinOf w k + pay; omega) (by show coinOf w k + pay < _; omega)
      have nki : ¬ i = k := fun e => c1 (by rw [e])
      by_cases s : swapErr (coinOf w i) (coinOf w k) pay 0 = 0
      · have w1 := w1 (e1.trans s)
        have y1 : List.getD (List.set (List.set (w.2.2.1 : List Int) i (coinOf w i - pay)) k (coinOf w k + pay)) i 0 = coinOf w i - pay := by rw [coins_at _ hic hkc, if_neg nki, if_pos rfl]
        have y2 : List.getD (List.set (List.set (w.2.2.1 : List Int) i (coinOf w i - pay)) k (coinOf w k + pay)) k 0 = coinOf w k + pay := by rw [coins_at _ hic hkc, if_pos rfl]
        simp [-List.getD_eq_getElem?_getD, -List.length_eq_zero_iff, keepAll, freshHas, pathEq, eqPl_dec, wrap1, wrap0, nbeq, hik, c1, comes_call (t0), (t0).prop, te0, tr0, e0, comes_call (same_spec w w ok.sm ok.sm), (same_spec w w ok.sm ok.sm).bprop, hat, c2, hi, hk, comes_call (t1), (t1).prop, te1, e1, s, w1, hic, hkc, x1, x2, y1, y2, comes_call (places_spec w.2.2.2.1 w.2.2.2.1 ok.sm.wh), (places_spec w.2.2.2.1 w.2.2.2.1 ok.sm.wh).bprop]
        omega
      · have s10 : swapErr (coinOf w i) (coinOf w k) pay 0 = 10 ∧ coinOf w i < pay ∨ swapErr (coinOf w i) (coinOf w k) pay 0 = 11 ∧ 1073741824 < coinOf w k + pay := by
          unfold swapErr at s ⊢
          by_cases g1 : coinOf w i < pay ∨ coinOf w k < 0
          · rw [if_pos g1]
            exact .inl ⟨rfl, by omega⟩
          · rw [if_neg g1] at s ⊢
            by_cases g2 : coinP (coinOf w i - pay + 0) ∧ coinP (coinOf w k - 0 + pay)
            · rw [if_pos g2] at s; exact absurd rfl s
            · rw [if_neg g2]
              refine .inr ⟨rfl, Int.not_le.1 (fun h => g2 ⟨⟨?_, ?_⟩, ?_, ?_⟩)⟩ <;> omega
        rcases s10 with ⟨s1, s2⟩ | ⟨s1, s2⟩
        · simp [-List.getD_eq_getElem?_getD, -List.length_eq_zero_iff, keepAll, freshHas, pathEq, eqPl_dec, wrap1, wrap0, nbeq, hik, c1, comes_call (t0), (t0).prop, te0, tr0, e0, comes_call (same_spec w w ok.sm ok.sm), (same_spec w w ok.sm ok.sm).bprop, hat, c2, hi, hk, comes_call (t1), (t1).prop, te1, e1, s1, hic, hkc, x1, x2]
          exact ⟨Nat.ne_of_gt hpos, s2⟩
        · simp [-List.getD_eq_getElem?_getD, -List.length_eq_zero_iff, keepAll, freshHas, pathEq, eqPl_dec, wrap1, wrap0, nbeq, hik, c1, comes_call (t0), (t0).prop, te0, tr0, e0, comes_call (same_spec w w ok.sm ok.sm), (same_spec w w ok.sm ok.sm).bprop, hat, c2, hi, hk, comes_call (t1), (t1).prop, te1, e1, s1, hic, hkc, x1, x2, s2]
          exact Nat.ne_of_gt hpos
    · rw [if_neg c2] at e0 e1
      simp [-List.getD_eq_getElem?_getD, -List.length_eq_zero_iff, keepAll, freshHas, pathEq, eqPl_dec, wrap1, wrap0, nbeq, hik, c1, comes_call (t0), (t0).prop, te0, tr0, e0, comes_call (same_spec w w ok.sm ok.sm), (same_spec w w ok.sm ok.sm).bprop, hat, c2, hi, hk]
      exact Nat.ne_of_gt hpos
end Go.Proofs.Ytdbogcinhmfmpaa.Ghost
