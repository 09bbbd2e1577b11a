/- What functions come to, and that the statements are answered with 'true'. Conditions: none. -/
import Derived.Test.YtdbogcinhmfmpaaS
import Derived.Test.YtdbogcinhmfmpaaGE
import Derived.Test.YtdbogcinhmfmpaaP1
import Derived.Test.YtdbogcinhmfmpaaP2
import Derived.Test.YtdbogcinhmfmpaaP3
import Derived.Test.YtdbogcinhmfmpaaP4
import Derived.Test.YtdbogcinhmfmpaaP5
import Derived.Test.YtdbogcinhmfmpaaP6
import Derived.Test.YtdbogcinhmfmpaaP7
import Derived.Test.YtdbogcinhmfmpaaP8
import Derived.Test.YtdbogcinhmfmpaaP9
import Derived.Test.YtdbogcinhmfmpaaP10
import Derived.Test.YtdbogcinhmfmpaaP11
set_option linter.unusedVariables false
set_option linter.unusedSimpArgs false
set_option linter.unusedSectionVars false
set_option linter.unnecessarySimpa false
namespace Go.Proofs.Ytdbogcinhmfmpaa.Ghost
open Go
def coinSum (l : List Int) : Nat → Int
  | 0 => 0
  | i + 1 => coinSum l i + List.getD l i 0
theorem coinSum_fit {l : List Int} (h : ∀ i, i < l.length → coinP (List.getD l i 0)) : (i : Nat) → i ≤ l.length → 0 ≤ coinSum l i ∧ coinSum l i ≤ 1073741824 * (i : Int)
  | 0, _ => ⟨Int.le_refl _, Int.le_refl _⟩
  | i + 1, hi => by
    have ih := coinSum_fit h i (by omega)
    have := h i (by omega)
    have h1 := this.1; have h2 := this.2
    simp only [coinSum]
    omega
theorem coinSum_set (l : List Int) {k : Nat} (hk : k < l.length) (v : Int) : (i : Nat) → coinSum (List.set l k v) i = coinSum l i + (if k < i then v - List.getD l k 0 else 0)
  | 0 => by rw [if_neg (by omega)]; rfl
  | i + 1 => by
    simp only [coinSum]
    rw [coinSum_set l hk v i, getD_set _ _ _ _ _ hk]
    by_cases e : i = k
    · subst e
      rw [if_pos rfl, if_neg (by omega), if_pos (by omega)]
      omega
    · rw [if_neg e]
      by_cases g : k < i
      · rw [if_pos g, if_pos (by omega)]; omega
      · rw [if_neg g, if_neg (by omega)]; omega
theorem sum_spec {w : den tWorld} (ok : Ok w) : Comes (fun nf _ _ _ => innkeepref11_Sum nf (w)) (fun r => r.1.1 = coinSum w.2.2.1 (List.length (w.2.2.1 : List Int))) := by
  have hc1 := ok.right.c1
  have ha1 := ok.right.a1
  have hs : List.length (w.2.2.1 : List Int) ≤ 1048576 := ok.sm.wc
  have fit : ∀ i, i < List.length (w.2.2.1 : List Int) → coinP (List.getD (w.2.2.1 : List Int) i 0) := fun i hi => coin_fit ok.right (by omega)
  have l0 : ∀ (t0 : (den tWorld)) (t2 : Int), ∀ i, i ≤ List.length (w.2.2.1 : List Int) → Comes (fun nf fm0 _ _ => innkeepref11_Sum.l0 nf fm0 t0 t2 (coinSum w.2.2.1 i) ((i : Int)) (w)) (fun r => r.1.1 = coinSum w.2.2.1 (List.length (w.2.2.1 : List Int))) := by
    intros
    rename_i i hi
    revert i
    refine upto ?_ (fun i hi next => ?_)
    · refine Comes.succ1 (fun nf fm0 _ _ => innkeepref11_Sum.l0_eq nf fm0 _ _ _ _ _) ?_
      simp [-List.getD_eq_getElem?_getD, -List.length_eq_zero_iff, keepAll, freshHas, pathEq, eqPl_dec, wrap1, wrap0, nbeq]
    · have h1 := coinSum_fit fit (i + 1) (by omega)
      have e : IntKind.wrap .i64 (coinSum w.2.2.1 i + List.getD (w.2.2.1 : List Int) i 0) = coinSum w.2.2.1 (i + 1) := wrap_id (by show -9223372036854775808 ≤ coinSum w.2.2.1 (i + 1); omega) (by show coinSum w.2.2.1 (i + 1) < _; omega)
      rw [← wrap_succ (by omega)] at next
      refine Comes.succ1 (fun nf fm0 _ _ => innkeepref11_Sum.l0_eq nf fm0 _ _ _ _ _) ?_
      simp [-List.getD_eq_getElem?_getD, -List.length_eq_zero_iff, keepAll, freshHas, pathEq, eqPl_dec, wrap1, wrap0, nbeq, hi, e]
      exact next
  refine Comes.succ (fun nf _ _ _ => innkeepref11_Sum.eq nf _) ?_
  exact (l0 _ _ 0 (Nat.zero_le _)).enter
theorem tdW_sum {w : den tWorld} (ok : Ok w) {p q : Nat} {gs ws : List Int} {pay fee : Int} (hp : p < List.length (w.2.1 : List Int)) (h : TradeOk w p q gs pay ws fee) : coinSum (tdW w p q gs pay ws fee).2.2.1 (List.length ((tdW w p q gs pay ws fee).2.2.1 : List Int)) = coinSum w.2.2.1 (List.length (w.2.2.1 : List Int)) := by
  have hc1 := ok.right.c1
  have ha1 := ok.right.a1
  have hqq := h.hq
  show coinSum (List.set (List.set (w.2.2.1 : List Int) p (coinOf w p - pay + fee)) (Int.toNat (q : Int)) (coinOf w q - fee + pay)) (List.length (List.set (List.set (w.2.2.1 : List Int) p (coinOf w p - pay + fee)) (Int.toNat (q : Int)) (coinOf w q - fee + pay))) = _
  rw [Int.toNat_natCast, List.length_set, List.length_set, coinSum_set _ (by rw [List.length_set]; omega), coinSum_set _ (by omega), if_pos (by omega), if_pos (by omega), getD_set _ _ _ _ _ (by omega), if_neg (fun e => h.lots.pq e.symm)]
  show _ + (coinOf w p - pay + fee - coinOf w p) + (coinOf w q - fee + pay - coinOf w q) = _
  omega
section
variable {w : den tWorld} (ok : Ok w) {p q : Nat} (hp : p < List.length (w.2.1 : List Int)) (c : Cm) (tr : Tr c) (hq : cWho c = (q : Int)) (h : TradeOk w p q (cGives c) (cPay c) (cWants c) (cFee c))
include ok hp tr hq h
theorem giftsKeep_l0 (t0 : (den tWorld)) (t1 : Int) (t2 : (den tCmd)) (t6 : Bool) (t9 : Int) (o5 : (List Int)) (o6 : (den tWorld)) (o8 : (List Int)) : ∀ i, i ≤ List.length (w.2.2.1 : List Int) → Comes (fun nf fm0 _ _ => innkeeplaw11_GiftsKeep.l0 nf fm0 t0 t1 t2 t6 ((p : Int)) t9 ((i : Int)) (w) (c) (tdW w p q (cGives c) (cPay c) (cWants c) (cFee c)) o5 o6 o8) (fun r => r.1.1 = true) := by
  have hc1 := ok.right.c1
  have ha1 := ok.right.a1
  have hqq := h.hq
  have hs : List.length (w.2.2.1 : List Int) ≤ 1048576 := ok.sm.wc
  have ok2 := tdW_ok ok hp h
  obtain ⟨back, eb⟩ := td_back ok hp h
  have hcl : List.length ((tdW w p q (cGives c) (cPay c) (cWants c) (cFee c)).2.2.1 : List Int) = List.length (w.2.2.1 : List Int) := by
    show List.length (List.set (List.set (w.2.2.1 : List Int) p _) _ _) = _
    rw [List.length_set, List.length_set]
  have f1 := coin_fit ok.right hp
  have f2 := coin_fit ok.right hqq
  have f3 := tr.pay
  have f4 := tr.fee
  have cc := tdW_coins ok hp h
  refine upto ?_ (fun i hi next => ?_)
  · have cb := (tradeErr_zero (w := tdW w p q (cGives c) (cPay c) (cWants c) (cFee c)) (p := q) (q := (p : Int)) (gs := cGives c) (ws := cWants c) (swapErr_nn (cPay c) (cFee c))).2 ⟨p, rfl, back⟩
    have gb : tradeR (tdW w p q (cGives c) (cPay c) (cWants c) (cFee c)) q (p : Int) (cGives c) (cPay c) (cWants c) (cFee c) = (w, 0, ()) := by
      unfold tradeR
      rw [if_pos cb]
      exact Prod.ext eb rfl
    have gs : Comes (fun nf _ _ _ => gifts_Trade nf (tdW w p q (cGives c) (cPay c) (cWants c) (cFee c)) ((q : Int)) ((8, 0, 0, 0, (p : Int), cGives c, cPay c, cWants c, cFee c, ()))) (fun r => r = ((w, 0, ()), [(0, [2]), (0, [3])])) := by
      have := trade_spec ok2 (p := q) hqq (8, 0, 0, 0, (p : Int), cGives c, cPay c, cWants c, cFee c, ()) tr.g tr.w tr.pay tr.fee
      refine this.mono (fun v hv => ?_)
      rw [hv]
      show (tradeR (tdW w p q (cGives c) (cPay c) (cWants c) (cFee c)) q (p : Int) (cGives c) (cPay c) (cWants c) (cFee c), if tradeErr (tdW w p q (cGives c) (cPay c) (cWants c) (cFee c)) q (p : Int) (cGives c) (cPay c) (cWants c) (cFee c) = 0 then [(0, [2]), (0, [3])] else []) = _
      rw [gb, if_pos cb]
    have x1 : List.getD ((tdW w p q (cGives c) (cPay c) (cWants c) (cFee c)).2.2.1 : List Int) p 0 = coinOf w p - cPay c + cFee c := by
      have := cc p
      rw [if_neg h.lots.pq, if_pos rfl] at this
      exact this
    have x2 : IntKind.wrap .i64 (List.getD (w.2.2.1 : List Int) p 0 - cPay c) = coinOf w p - cPay c := wrap_id (by show -9223372036854775808 ≤ coinOf w p - cPay c; have := f1.1; have := f3.2; omega) (by show coinOf w p - cPay c < _; have := f1.2; have := f3.1; omega)
    have x3 : IntKind.wrap .i64 (coinOf w p - cPay c + cFee c) = coinOf w p - cPay c + cFee c := wrap_id (by have := f1.1; have := f3.2; have := f4.1; omega) (by have := f1.2; have := f3.1; have := f4.2; omega)
    refine Comes.succ1 (fun nf fm0 _ _ => innkeeplaw11_GiftsKeep.l0_eq nf fm0 _ _ _ _ _ _ _ _ _ _ _ _ _) ?_
    simp only [show c.2.2.2.2.1 = (q : Int) from hq, show (c.2.2.2.2.2.1 : List Int) = cGives c from rfl, show (c.2.2.2.2.2.2.1 : Int) = cPay c from rfl, show (c.2.2.2.2.2.2.2.1 : List Int) = cWants c from rfl, show (c.2.2.2.2.2.2.2.2.1 : Int) = cFee c from rfl]
    simp [-List.getD_eq_getElem?_getD, -List.length_eq_zero_iff, keepAll, freshHas, pathEq, eqPl_dec, wrap1, wrap0, nbeq, comes_call (gs), (gs).prop, comes_call (same_spec w w ok.sm ok.sm), (same_spec w w ok.sm ok.sm).bprop, x1, x2, x3, hcl]
    omega
  · rw [← wrap_succ (by omega)] at next
    have x := cc i
    have hiq : ((i : Int) = c.2.2.2.2.1) = (i = q) := propext ⟨fun e => Int.ofNat.inj (e.trans hq), fun e => by rw [e]; exact hq.symm⟩
    refine Comes.succ1 (fun nf fm0 _ _ => innkeeplaw11_GiftsKeep.l0_eq nf fm0 _ _ _ _ _ _ _ _ _ _ _ _ _) ?_
    by_cases c1 : i = p
    · subst c1
      simp [-List.getD_eq_getElem?_getD, -List.length_eq_zero_iff, keepAll, freshHas, pathEq, eqPl_dec, wrap1, wrap0, nbeq, hi]
      exact next
    · by_cases c2 : i = q
      · subst c2
        simp [-List.getD_eq_getElem?_getD, -List.length_eq_zero_iff, keepAll, freshHas, pathEq, eqPl_dec, wrap1, wrap0, nbeq, hi, c1, hiq]
        exact next
      · rw [if_neg c2, if_neg c1] at x
        have x : List.getD ((tdW w p q (cGives c) (cPay c) (cWants c) (cFee c)).2.2.1 : List Int) i 0 = List.getD (w.2.2.1 : List Int) i 0 := x
        simp [-List.getD_eq_getElem?_getD, -List.length_eq_zero_iff, keepAll, freshHas, pathEq, eqPl_dec, wrap1, wrap0, nbeq, hi, c1, hiq, c2, hcl, x]
        exact next
theorem td_others : Comes (fun nf _ _ _ => innkeepref09_Others nf (w) (((tdW w p q (cGives c) (cPay c) (cWants c) (cFee c)).1, (tdW w p q (cGives c) (cPay c) (cWants c) (cFee c)).2.1, (w.2.2.1 : List Int), (tdW w p q (cGives c) (cPay c) (cWants c) (cFee c)).2.2.2.1, ())) (cGives c ++ cWants c)) (fun r => r.1.1 = true) := by
  have hlen := trades_len ok hp h
  have ok2 := tdW_ok ok hp h
  have s2 := ok2.sm
  have := tr.g; have := tr.w
  refine others_spec w _ _ (by rw [List.length_append]; omega) ok.sm ⟨s2.e, s2.b, s2.p, s2.c, s2.i, s2.a, ok.sm.wc, s2.wh, s2.rows⟩ rfl rfl rfl hlen.symm (fun i hi => bad_not h.bad i hi) (fun j hj => ?_)
  show List.getD w.2.2.2.1 j (dft tPlace) = List.getD (trades w p q (cGives c) (cWants c)) j (dft tPlace) ∨ _
  rcases h.lots.at_ j with ⟨e, _⟩ | ⟨_, _, i, h1, h2⟩ | ⟨_, _, i, h1, h2⟩
  · exact .inl e.symm
  · exact .inr ⟨(cGives c).length + i, by rw [List.length_append]; omega, by
      have : iAt (cGives c ++ cWants c) ((cGives c).length + i) = (j : Int) := by rw [iAt_right]; exact h2
      exact this⟩
  · exact .inr ⟨i, by rw [List.length_append]; omega, by
      have : iAt (cGives c ++ cWants c) i = (j : Int) := by rw [iAt_left h1]; exact h2
      exact this⟩
end
theorem giftsKeep_true (w : den tWorld) (p : Int) (c : Cm) (hw : wfD tWorld w) (hp : wfD (.int .u8) p) (_ : wfD tCmd c) : Comes (fun nf _ _ _ => innkeeplaw11_GiftsKeep nf (w) (p) (c)) (fun r => r.1.1 = true) := by
  refine Comes.succ (fun nf _ _ _ => innkeeplaw11_GiftsKeep.eq nf _ _ _) ?_
  simp [-List.length_append, -List.getD_eq_getElem?_getD, -List.length_eq_zero_iff, keepAll, freshHas, pathEq, eqPl_dec, wrap1, wrap0, nbeq, comes_call (awake11), (awake11).prop, comes_call ((fits11 w).fit), ((fits11 w).fit).bprop, comes_call (fewC_spec c), (fewC_spec c).bprop]
  intro fit few
  simp [-List.length_append, -List.getD_eq_getElem?_getD, -List.length_eq_zero_iff, keepAll, freshHas, pathEq, eqPl_dec, wrap1, wrap0, nbeq, comes_call (awake11), (awake11).prop, comes_call (mayC_spec c (by have := few.1; omega) (by have := few.2; omega)), (mayC_spec c (by have := few.1; omega) (by have := few.2; omega)).bprop]
  intro may hk
  have tr := tr_of few may hk
  have ok := ok_of hw fit.few fit.right
  have hpos := ok.right.pos
  obtain ⟨i, hi, ei⟩ := index_of hp hpos
  rw [ei]
  have te := tradeR_err w i (cWho c) (cGives c) (cWants c) (cPay c) (cFee c)
  by_cases e : tradeErr w i (cWho c) (cGives c) (cPay c) (cWants c) (cFee c) = 0
  · obtain ⟨q, eq, h⟩ := (tradeErr_zero (swapErr_nn (cPay c) (cFee c))).1 e
    have e1 : (tradeR w i (cWho c) (cGives c) (cPay c) (cWants c) (cFee c)).1 = tdW w i q (cGives c) (cPay c) (cWants c) (cFee c) := by
      unfold tradeR
      rw [if_pos e, eq, Int.toNat_natCast]
    have ok2 := tdW_ok ok hi h
    have g1 := tr.g; have g2 := tr.w
    have hwc : List.length (w.2.2.1 : List Int) ≤ 1048576 := ok.sm.wc
    have hsum := tdW_sum ok hi h
    have l0 := fun (t0 t6 t9 o5 o6 o8) => (giftsKeep_l0 ok hi c tr eq h t0 p c t6 t9 o5 o6 o8 0 (Nat.zero_le _)).enter
    simp [-List.length_append, -List.getD_eq_getElem?_getD, -List.length_eq_zero_iff, keepAll, freshHas, pathEq, eqPl_dec, wrap1, wrap0, nbeq, comes_call (trade_spec ok hi c tr.g tr.w tr.pay tr.fee), (trade_spec ok hi c tr.g tr.w tr.pay tr.fee).prop, te, e, e1, comes_call (sum_spec ok2), (sum_spec ok2).prop, comes_call (sum_spec ok), (sum_spec ok).prop, hsum, comes_call (right_spec _), (right_spec _).bprop, ok2.right, comes_call (copied_spec _ ok2.sm), (copied_spec _ ok2.sm).prop]
    have hq0 : 0 ≤ cWho c := by rw [eq]; exact Int.natCast_nonneg q
    have hq1 : cWho c < (List.length (w.2.1 : List Int) : Int) := by rw [eq]; exact Int.ofNat_lt.2 h.hq
    refine ⟨Nat.ne_of_gt hpos, hq0, fun _ => ⟨hq1, fun _ => ⟨Nat.le_trans g1 (by decide), Nat.le_trans (Nat.add_le_add g1 g2) (by decide), hwc, ?_⟩⟩⟩
    refine Comes.call (td_others ok hi c tr eq h) (fun v hv => ?_)
    rw [hv]
    exact l0 _ _ _ _ _ _
  · have e1 : (tradeR w i (cWho c) (cGives c) (cPay c) (cWants c) (cFee c)).1 = w := by
      unfold tradeR
      rw [if_neg e]
    simp [-List.length_append, -List.getD_eq_getElem?_getD, -List.length_eq_zero_iff, keepAll, freshHas, pathEq, eqPl_dec, wrap1, wrap0, nbeq, comes_call (trade_spec ok hi c tr.g tr.w tr.pay tr.fee), (trade_spec ok hi c tr.g tr.w tr.pay tr.fee).prop, te, e, e1, comes_call (same_spec w w ok.sm ok.sm), (same_spec w w ok.sm ok.sm).bprop]
    exact Nat.ne_of_gt hpos
end Go.Proofs.Ytdbogcinhmfmpaa.Ghost
