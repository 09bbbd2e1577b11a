/- What functions come to, and that the statements are answered with 'true'. Conditions: none. -/
import Derived.Test.YtdbogcinhmfmpaaS
import Derived.Test.YtdbogcinhmfmpaaGE
import Derived.Test.YtdbogcinhmfmpaaP1
import Derived.Test.YtdbogcinhmfmpaaP2
import Derived.Test.YtdbogcinhmfmpaaP3
import Derived.Test.YtdbogcinhmfmpaaP4
import Derived.Test.YtdbogcinhmfmpaaP5
import Derived.Test.YtdbogcinhmfmpaaP6
set_option linter.unusedVariables false
set_option linter.unusedSimpArgs false
set_option linter.unusedSectionVars false
set_option linter.unnecessarySimpa false
namespace Go.Proofs.Ytdbogcinhmfmpaa.Ghost
open Go
/-- the places behind the first i of what is traded -/
def mixAll (l : List Pl) (gs ws : List Int) (p q : Pl) (i : Nat) : List Pl := setAll (setAll l gs q (min i gs.length)) ws p (i - gs.length)
theorem mixAll_len (l : List Pl) (gs ws : List Int) (p q : Pl) (i : Nat) : (mixAll l gs ws p q i).length = l.length := by unfold mixAll; rw [setAll_len, setAll_len]
theorem mixAll_left {l : List Pl} {gs ws : List Int} {p q : Pl} {i : Nat} (h : i < gs.length) : mixAll l gs ws p q (i + 1) = List.set (mixAll l gs ws p q i) (iAt (gs ++ ws) i).toNat q := by
  unfold mixAll
  rw [show i + 1 - gs.length = 0 by omega, show i - gs.length = 0 by omega, show min (i + 1) gs.length = i + 1 by omega, show min i gs.length = i by omega, iAt_left h]
  rfl
theorem mixAll_right {l : List Pl} {gs ws : List Int} {p q : Pl} {i : Nat} (h : ¬ i < gs.length) : mixAll l gs ws p q (i + 1) = List.set (mixAll l gs ws p q i) (iAt (gs ++ ws) i).toNat p := by
  obtain ⟨j, rfl⟩ : ∃ j, i = gs.length + j := ⟨i - gs.length, by omega⟩
  unfold mixAll
  rw [show gs.length + j + 1 - gs.length = j + 1 by omega, show gs.length + j - gs.length = j by omega, show min (gs.length + j + 1) gs.length = gs.length by omega, show min (gs.length + j) gs.length = gs.length by omega, iAt_right]
  rfl
/-- all in one list that lie elsewhere -/
def AwayAll (w : den tWorld) (gs ws : List Int) (p q : Int) (i : Nat) : Prop := ∃ j, i ≤ j ∧ j < (gs ++ ws).length ∧ ¬ plOf w (iAt (gs ++ ws) j).toNat = ((1 : Int), (if j < gs.length then p else q), ())
theorem awayAll_iff (w : den tWorld) (gs ws : List Int) (p q : Int) : AwayAll w gs ws p q 0 ↔ Away w gs p ∨ Away w ws q := by
  constructor
  · rintro ⟨j, _, h1, h2⟩
    by_cases h : j < gs.length
    · rw [if_pos h, iAt_left h] at h2
      exact .inl ⟨j, h, h2⟩
    · obtain ⟨k, rfl⟩ : ∃ k, j = gs.length + k := ⟨j - gs.length, by omega⟩
      rw [if_neg h, iAt_right] at h2
      rw [List.length_append] at h1
      exact .inr ⟨k, by omega, h2⟩
  · rintro (⟨j, h1, h2⟩ | ⟨k, h1, h2⟩)
    · exact ⟨j, Nat.zero_le _, by rw [List.length_append]; omega, by rw [if_pos h1, iAt_left h1]; exact h2⟩
    · exact ⟨gs.length + k, Nat.zero_le _, by rw [List.length_append]; omega, by rw [if_neg (by omega), iAt_right]; exact h2⟩
section
variable {w : den tWorld} (ok : Ok w) {p q : Nat} (hp : p < List.length (w.2.1 : List Int)) (hq : q < List.length (w.2.1 : List Int)) (c : Cm) (hg : (cGives c).length ≤ 100) (hw : (cWants c).length ≤ 100) (hpay : coinP (cPay c)) (hfee : coinP (cFee c)) (hbad : ¬ Bad w (cGives c ++ cWants c))
include ok hp hq hg hw hpay hfee hbad
abbrev tradeW' (w : den tWorld) (p q : Nat) (c : Cm) : den tWorld := tradeW w p q (cGives c) (cWants c) (coinOf w p - cPay c + cFee c) (coinOf w q - cFee c + cPay c)
open Classical in
/-- what comes behind the last loop -/
noncomputable def lastR (w : den tWorld) (p q : Nat) (c : Cm) (rp rq : Int) : den tWorld × Int × Unit :=
  if rp < 0 then (w, 9, ()) else if rq < 0 then (w, 9, ()) else if swapErr (coinOf w p) (coinOf w q) (cPay c) (cFee c) = 0 then (tradeW' w p q c, 0, ()) else (w, swapErr (coinOf w p) (coinOf w q) (cPay c) (cFee c), ())
theorem rtrade_l3 (rp rq : Int) (hrp : ∀ x : den tWorld, x = (w.1, w.2.1, w.2.2.1, trades w p q (cGives c) (cWants c), ()) → Comes (fun nf _ _ _ => innkeepref07_Room nf (x) (mePl p)) (fun r => r.1.1 = rp)) (hrq : ∀ x : den tWorld, x = (w.1, w.2.1, w.2.2.1, trades w p q (cGives c) (cWants c), ()) → Comes (fun nf _ _ _ => innkeepref07_Room nf (x) (mePl q)) (fun r => r.1.1 = rq)) (t0 : (den tWorld)) (t2 : (den tCmd)) (t7 : Int) (t10 : Int) (t11 : Int) (o2 : (den tWorld)) :
    ∀ i, i ≤ (cGives c ++ cWants c).length → Comes (fun nf fm0 _ _ => innkeepref11_Trade.l3 nf fm0 t0 ((p : Int)) t2 t7 ((q : Int)) t10 t11 ((i : Int)) (w) (c) o2 (cGives c ++ cWants c) ((w.1, w.2.1, ([] : List Int), ([] : List (den tPlace)), ())) (mixAll w.2.2.2.1 (cGives c) (cWants c) (mePl p) (mePl q) i) (w.2.2.1)) (fun r => (AwayAll w (cGives c) (cWants c) p q i → r.1 = (w, 5, ())) ∧ (¬ AwayAll w (cGives c) (cWants c) p q i → r.1 = lastR w p q c rp rq)) := by
  have hlen : (cGives c ++ cWants c).length ≤ 1048576 := by rw [List.length_append]; omega
  have hc1 := ok.right.c1
  have ha1 := ok.right.a1
  have hpc : p < List.length (w.2.2.1 : List Int) := by omega
  have hqc : q < List.length (w.2.2.1 : List Int) := by omega
  refine upto ?_ (fun i hi next => ?_)
  · have hn : ¬ AwayAll w (cGives c) (cWants c) p q (cGives c ++ cWants c).length := fun ⟨j, h1, h2, _⟩ => by omega
    have hm : mixAll w.2.2.2.1 (cGives c) (cWants c) (mePl p) (mePl q) (cGives c ++ cWants c).length = trades w p q (cGives c) (cWants c) := by
      unfold mixAll trades
      rw [List.length_append, show min ((cGives c).length + (cWants c).length) (cGives c).length = (cGives c).length by omega, Nat.add_sub_cancel_left]
    refine Comes.succ1 (fun nf fm0 _ _ => innkeepref11_Trade.l3_eq nf fm0 _ _ _ _ _ _ _ _ _ _ _ _ _ _ _) ?_
    simp [-List.length_append, -List.getD_eq_getElem?_getD, -List.length_eq_zero_iff, keepAll, freshHas, pathEq, eqPl_dec, wrap1, wrap0, nbeq, hm, comes_call (hrp _ rfl), (hrp _ rfl).prop, comes_call (hrq _ rfl), (hrq _ rfl).prop, comes_call (refSwap_spec (coin_fit ok.right hp) (coin_fit ok.right hq) hpay hfee), (refSwap_spec (coin_fit ok.right hp) (coin_fit ok.right hq) hpay hfee).prop, hn, swapR_err, hpc, hqc]
    by_cases c1 : rp < 0 <;> by_cases c2 : rq < 0 <;> by_cases c3 : swapErr (coinOf w p) (coinOf w q) (cPay c) (cFee c) = 0 <;> simp [-List.getD_eq_getElem?_getD, -List.length_eq_zero_iff, keepAll, freshHas, pathEq, eqPl_dec, wrap1, wrap0, nbeq, c1, c2, c3, lastR, swapR, tradeW', tradeW]
    all_goals (try (intros; omega))
  · have hin := bad_not hbad i hi
    obtain ⟨k, ek, hk⟩ := inR_nat hin
    have hml := mixAll_len w.2.2.2.1 (cGives c) (cWants c) (mePl p) (mePl q) i
    have hmk : k < (mixAll w.2.2.2.1 (cGives c) (cWants c) (mePl p) (mePl q) i).length := by rw [hml]; exact hk
    rw [← wrap_succ (by omega)] at next
    refine Comes.succ1 (fun nf fm0 _ _ => innkeepref11_Trade.l3_eq nf fm0 _ _ _ _ _ _ _ _ _ _ _ _ _ _ _) ?_
    by_cases hl : i < (cGives c).length
    · rw [mixAll_left hl, ek, Int.toNat_natCast] at next
      by_cases hpl : plOf w k = mePl p
      · have next := next.mono (Q' := fun r => (AwayAll w (cGives c) (cWants c) p q i → r.1 = (w, 5, ())) ∧ (¬ AwayAll w (cGives c) (cWants c) p q i → r.1 = lastR w p q c rp rq)) (fun v hv => by
          have e : AwayAll w (cGives c) (cWants c) p q i ↔ AwayAll w (cGives c) (cWants c) p q (i + 1) := ⟨fun ⟨j, a, b, d⟩ => ⟨j, by
            by_cases e2 : j = i
            · subst e2; rw [if_pos hl, ek, Int.toNat_natCast] at d; exact absurd hpl d
            · omega, b, d⟩, fun ⟨j, a, b, d⟩ => ⟨j, by omega, b, d⟩⟩
          rw [e]; exact hv)
        simp [-List.length_append, -List.getD_eq_getElem?_getD, -List.length_eq_zero_iff, keepAll, freshHas, pathEq, eqPl_dec, wrap1, wrap0, nbeq, hi, ek, hk, hmk, hpl, show ¬ (cGives c).length ≤ i by omega]
        exact next
      · have h5 : AwayAll w (cGives c) (cWants c) p q i := ⟨i, Nat.le_refl i, hi, by rw [if_pos hl, ek, Int.toNat_natCast]; exact hpl⟩
        simp [-List.length_append, -List.getD_eq_getElem?_getD, -List.length_eq_zero_iff, keepAll, freshHas, pathEq, eqPl_dec, wrap1, wrap0, nbeq, hi, ek, hk, hmk, hpl, show ¬ (cGives c).length ≤ i by omega, h5]
    · rw [mixAll_right hl, ek, Int.toNat_natCast] at next
      by_cases hpl : plOf w k = mePl q
      · have next := next.mono (Q' := fun r => (AwayAll w (cGives c) (cWants c) p q i → r.1 = (w, 5, ())) ∧ (¬ AwayAll w (cGives c) (cWants c) p q i → r.1 = lastR w p q c rp rq)) (fun v hv => by
          have e : AwayAll w (cGives c) (cWants c) p q i ↔ AwayAll w (cGives c) (cWants c) p q (i + 1) := ⟨fun ⟨j, a, b, d⟩ => ⟨j, by
            by_cases e2 : j = i
            · subst e2; rw [if_neg hl, ek, Int.toNat_natCast] at d; exact absurd hpl d
            · omega, b, d⟩, fun ⟨j, a, b, d⟩ => ⟨j, by omega, b, d⟩⟩
          rw [e]; exact hv)
        simp [-List.length_append, -List.getD_eq_getElem?_getD, -List.length_eq_zero_iff, keepAll, freshHas, pathEq, eqPl_dec, wrap1, wrap0, nbeq, hi, ek, hk, hmk, hpl, show (cGives c).length ≤ i by omega]
        exact next
      · have h5 : AwayAll w (cGives c) (cWants c) p q i := ⟨i, Nat.le_refl i, hi, by rw [if_neg hl, ek, Int.toNat_natCast]; exact hpl⟩
        simp [-List.length_append, -List.getD_eq_getElem?_getD, -List.length_eq_zero_iff, keepAll, freshHas, pathEq, eqPl_dec, wrap1, wrap0, nbeq, hi, ek, hk, hmk, hpl, show (cGives c).length ≤ i by omega, h5]
end
end Go.Proofs.Ytdbogcinhmfmpaa.Ghost
