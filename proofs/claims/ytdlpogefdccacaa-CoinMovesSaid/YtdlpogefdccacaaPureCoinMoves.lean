/- CoinMoves: the program's payments and swaps are the reference's, of whatever purses and numbers. Conditions: none. -/
import Derived.Test.YtdlpogefdccacaaPCoinMovesx2
namespace Go.Proofs.Ytdlpogefdccacaa.Pure
open Go.RowKit Go.Proofs.Ytdlpogefdccacaa.PCoinMoves Go.Proofs.YtdlpogefdccacaaW.PrintWords Go.Proofs.YtdlpogefdccacaaW.PrintLast

def sw (a b p f : Int) : Int × Int × Int :=
  if p < 0 ∨ f < 0 then (a, b, 1) else if a < p ∨ b < f then (a, b, 10)
  else if a - p + f < 0 ∨ 1073741824 < a - p + f ∨ b - f + p < 0 ∨ 1073741824 < b - f + p then (a, b, 11)
  else (a - p + f, b - f + p, 0)

theorem is_eq (a : Int) : coin_Is.f a = some (decide (0 ≤ a ∧ a ≤ 1073741824)) := by
  unfold coin_Is.f; by_cases h : 0 ≤ a <;> simp [h]

theorem wr {x : Int} (h0 : -9000000000000000000 ≤ x) (h1 : x ≤ 9000000000000000000) : wrap64 x = x := by
  unfold wrap64; omega

theorem swap_eq (k : Nat) (a b p f : Int) (ha : 0 ≤ a) (ha' : a ≤ 1073741824) (hb : 0 ≤ b) (hb' : b ≤ 1073741824) :
    coin_Swap.f (k + 2) a b p f = some (sw a b p f) := by
  have key : ∀ c : Bool, c = decide (p < 0 ∨ f < 0) → coin_Swap.j0 (k + 2) a b p f c = some (sw a b p f) := by
    intro c hc
    have hc1 : c = true ↔ (p < 0 ∨ f < 0) := by rw [hc]; simp
    have key2 : ¬ (p < 0 ∨ f < 0) → ∀ d : Bool, d = decide (a < p ∨ b < f) → coin_Swap.j1 (k + 1) a b p f d = some (sw a b p f) := by
      intro hn d hd
      have hd1 : d = true ↔ (a < p ∨ b < f) := by rw [hd]; simp
      by_cases h2 : a < p ∨ b < f
      · obtain rfl : d = true := hd1.mpr h2
        simp only [coin_Swap.j1, sw, if_true]; rw [if_neg hn, if_pos h2]
      · have hdf : d = false := by cases hdd : d with
          | false => rfl
          | true => exact absurd (hd1.mp hdd) h2
        subst hdf
        have e1 : wrap64 (wrap64 (a - p) + f) = a - p + f := by rw [wr (x := a - p) (by omega) (by omega)]; exact wr (by omega) (by omega)
        have e2 : wrap64 (wrap64 (b - f) + p) = b - f + p := by rw [wr (x := b - f) (by omega) (by omega)]; exact wr (by omega) (by omega)
        simp only [coin_Swap.j1, sw, e1, e2, is_eq, Option.bind_some]
        rw [if_neg (show ¬ (false = true) by decide), if_neg hn, if_neg h2]
        by_cases h3 : 0 ≤ a - p + f ∧ a - p + f ≤ 1073741824
        · by_cases h4 : 0 ≤ b - f + p ∧ b - f + p ≤ 1073741824
          · rw [if_pos (by simpa using h3), if_pos (by simpa using h4), if_neg (by omega)]
          · rw [if_pos (by simpa using h3), if_neg (by simpa using h4), if_pos (by omega)]
        · rw [if_neg (by simpa using h3), if_pos (by omega)]
    by_cases h1 : p < 0 ∨ f < 0
    · obtain rfl : c = true := hc1.mpr h1
      simp only [coin_Swap.j0, sw, if_true]; rw [if_pos h1]
    · have hcf : c = false := by cases hcc : c with
        | false => rfl
        | true => exact absurd (hc1.mp hcc) h1
      subst hcf
      simp only [coin_Swap.j0]
      rw [if_neg (by decide)]
      by_cases h2 : p > a
      · rw [if_pos h2]; exact key2 h1 true (by symm; simp; omega)
      · rw [if_neg h2]; exact key2 h1 _ (by simp; omega)
  unfold coin_Swap.f
  by_cases hp : p < 0
  · rw [if_pos hp]; exact key true (by symm; simp [hp])
  · rw [if_neg hp]; exact key _ (by simp [hp])

theorem pay_eq (k : Nat) (a b p : Int) (ha : 0 ≤ a) (ha' : a ≤ 1073741824) (hb : 0 ≤ b) (hb' : b ≤ 1073741824) :
    coin_Pay.f (k + 2) a b p = some (sw a b p 0) := by
  unfold coin_Pay.f; rw [swap_eq k a b p 0 ha ha' hb hb']; rfl

theorem ris_eq (a : Int) : innkeepref01_Is.f a = some (decide (0 ≤ a ∧ a ≤ 1073741824)) := by
  unfold innkeepref01_Is.f; by_cases h : 0 ≤ a <;> simp [h]

theorem awake_eq : innkeeplaw01_awake.f 20 = some true := by kernel_rfl

theorem AW21 : innkeeplaw01_awake.f 21 = some true := by kernel_rfl

theorem rpay_eq (a b p : Int) (ha : 0 ≤ a) (ha' : a ≤ 1073741824) (hb : 0 ≤ b) (hb' : b ≤ 1073741824) : innkeepref01_Pay.f a b p = some (sw a b p 0) := by
  unfold innkeepref01_Pay.f sw
  by_cases h1 : p < 0
  · rw [if_pos h1, if_pos (show p < 0 ∨ (0 : Int) < 0 by omega)]
  · rw [if_neg h1, if_neg (show ¬ (p < 0 ∨ (0 : Int) < 0) by omega)]
    by_cases h2 : a < p
    · rw [if_pos h2, if_pos (show a < p ∨ b < 0 by omega)]
    · rw [if_neg h2, if_neg (show ¬ (a < p ∨ b < 0) by omega), wr (x := b + p) (by omega) (by omega), wr (x := a - p) (by omega) (by omega)]
      by_cases h3 : b + p > 1073741824
      · rw [if_pos h3, if_pos (show a - p + 0 < 0 ∨ 1073741824 < a - p + 0 ∨ b - 0 + p < 0 ∨ 1073741824 < b - 0 + p by omega)]
      · rw [if_neg h3, if_neg (show ¬ (a - p + 0 < 0 ∨ 1073741824 < a - p + 0 ∨ b - 0 + p < 0 ∨ 1073741824 < b - 0 + p) by omega)]; simp

theorem rswap_eq (k : Nat) (a b p f : Int) (ha : 0 ≤ a) (ha' : a ≤ 1073741824) (hb : 0 ≤ b) (hb' : b ≤ 1073741824) :
    innkeepref01_Swap.f (k + 2) a b p f = some (sw a b p f) := by
  have key : ∀ c : Bool, c = decide (p < 0 ∨ f < 0) → innkeepref01_Swap.j0 (k + 2) a b p f c = some (sw a b p f) := by
    intro c hc
    have hc1 : c = true ↔ (p < 0 ∨ f < 0) := by rw [hc]; simp
    have key2 : ¬ (p < 0 ∨ f < 0) → ∀ d : Bool, d = decide (a < p ∨ b < f) → innkeepref01_Swap.j1 (k + 1) a b p f d = some (sw a b p f) := by
      intro hn d hd
      have hd1 : d = true ↔ (a < p ∨ b < f) := by rw [hd]; simp
      by_cases h2 : a < p ∨ b < f
      · obtain rfl : d = true := hd1.mpr h2
        simp only [innkeepref01_Swap.j1, sw, if_true]; rw [if_neg hn, if_pos h2]
      · have hdf : d = false := by cases hdd : d with
          | false => rfl
          | true => exact absurd (hd1.mp hdd) h2
        subst hdf
        have e1 : wrap64 (wrap64 (a + f) - p) = a - p + f := by rw [wr (x := a + f) (by omega) (by omega), wr (by omega) (by omega)]; omega
        have e2 : wrap64 (wrap64 (b + p) - f) = b - f + p := by rw [wr (x := b + p) (by omega) (by omega), wr (by omega) (by omega)]; omega
        simp only [innkeepref01_Swap.j1, sw, e1, e2, ris_eq, Option.bind_some]
        rw [if_neg (show ¬ (false = true) by decide), if_neg hn, if_neg h2]
        by_cases h3 : 0 ≤ a - p + f ∧ a - p + f ≤ 1073741824
        · by_cases h4 : 0 ≤ b - f + p ∧ b - f + p ≤ 1073741824
          · rw [if_pos (by simpa using h3), if_pos (by simpa using h4), if_neg (by omega)]
          · rw [if_pos (by simpa using h3), if_neg (by simpa using h4), if_pos (by omega)]
        · rw [if_neg (by simpa using h3), if_pos (by omega)]
    by_cases h1 : p < 0 ∨ f < 0
    · obtain rfl : c = true := hc1.mpr h1
      simp only [innkeepref01_Swap.j0, sw, if_true]; rw [if_pos h1]
    · have hcf : c = false := by cases hcc : c with
        | false => rfl
        | true => exact absurd (hc1.mp hcc) h1
      subst hcf
      simp only [innkeepref01_Swap.j0]
      rw [if_neg (by decide)]
      by_cases h2 : a < p
      · rw [if_pos h2]; exact key2 h1 true (by symm; simp; omega)
      · rw [if_neg h2]; exact key2 h1 _ (by simp; omega)
  unfold innkeepref01_Swap.f
  by_cases hp : p < 0
  · rw [if_pos hp]; exact key true (by symm; simp [hp])
  · rw [if_neg hp]; exact key _ (by simp [hp])

theorem CoinMoves : innkeeplaw01_CoinMoves.Pure := by
  intro a b p f _ _ _ _
  refine ⟨21, ?_⟩
  unfold innkeeplaw01_CoinMoves.f
  rw [AW21]; simp only [Option.bind_some, if_true, is_eq, ris_eq]
  have e0 : (decide (0 ≤ a ∧ a ≤ 1073741824) != decide (0 ≤ a ∧ a ≤ 1073741824)) = false := by simp
  rw [e0]
  simp only [innkeeplaw01_CoinMoves.j0]
  rw [if_neg (by decide), ris_eq, ris_eq]
  simp only [Option.bind_some]
  by_cases ha : 0 ≤ a ∧ a ≤ 1073741824
  case neg => rw [if_neg (by simpa using ha)]; simp only [innkeeplaw01_CoinMoves.j1, if_true]
  rw [if_pos (by simpa using ha)]
  by_cases hb : 0 ≤ b ∧ b ≤ 1073741824
  case neg =>
    have : (!decide (0 ≤ b ∧ b ≤ 1073741824)) = true := by rw [Bool.not_eq_true', decide_eq_false_iff_not]; exact hb
    rw [this]; simp only [innkeeplaw01_CoinMoves.j1, if_true]
  have : (!decide (0 ≤ b ∧ b ≤ 1073741824)) = false := by simp; omega
  rw [this]; simp only [innkeeplaw01_CoinMoves.j1]; rw [if_neg (by decide)]
  obtain ⟨ha0, ha1⟩ := ha
  obtain ⟨hb0, hb1⟩ := hb
  rw [pay_eq 17 a b p ha0 ha1 hb0 hb1, rpay_eq a b p ha0 ha1 hb0 hb1, swap_eq 17 a b p f ha0 ha1 hb0 hb1, rswap_eq 17 a b p f ha0 ha1 hb0 hb1]
  simp

end Go.Proofs.Ytdlpogefdccacaa.Pure
