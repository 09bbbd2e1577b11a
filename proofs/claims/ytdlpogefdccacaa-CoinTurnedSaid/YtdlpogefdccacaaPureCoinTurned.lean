/- CoinTurned: a swap told from the other side is the same swap. Conditions: none. -/
import Derived.Test.YtdlpogefdccacaaPCoinTurnedx1
namespace Go.Proofs.Ytdlpogefdccacaa.Pure
open Go.RowKit Go.Proofs.Ytdlpogefdccacaa.PCoinTurned Go.Proofs.YtdlpogefdccacaaW.PrintWords Go.Proofs.YtdlpogefdccacaaW.PrintLast

def sw (a b p f : Int) : Int × Int × Int :=
  if p < 0 ∨ f < 0 then (a, b, 1) else if a < p ∨ b < f then (a, b, 10)
  else if a - p + f < 0 ∨ 1073741824 < a - p + f ∨ b - f + p < 0 ∨ 1073741824 < b - f + p then (a, b, 11)
  else (a - p + f, b - f + p, 0)

theorem is_eq (a : Int) : coin_Is.f a = some (decide (0 ≤ a ∧ a ≤ 1073741824)) := by
  unfold coin_Is.f; by_cases h : 0 ≤ a <;> simp [h]

theorem wr {x : Int} (h0 : -9000000000000000000 ≤ x) (h1 : x ≤ 9000000000000000000) : wrap64 x = x := by
  unfold wrap64; omega

theorem swap_eq (k : Nat) (a b p f : Int) (ha : 0 ≤ a) (ha' : a ≤ 1073741824) (hb : 0 ≤ b) (hb' : b ≤ 1073741824) :
    coin_Swap.f (k + 2) a b p f = some (sw a b p f) := by
  have key : ∀ c : Bool, c = decide (p < 0 ∨ f < 0) → coin_Swap.j0 (k + 2) a b p f c = some (sw a b p f) := by
    intro c hc
    have hc1 : c = true ↔ (p < 0 ∨ f < 0) := by rw [hc]; simp
    have key2 : ¬ (p < 0 ∨ f < 0) → ∀ d : Bool, d = decide (a < p ∨ b < f) → coin_Swap.j1 (k + 1) a b p f d = some (sw a b p f) := by
      intro hn d hd
      have hd1 : d = true ↔ (a < p ∨ b < f) := by rw [hd]; simp
      by_cases h2 : a < p ∨ b < f
      · obtain rfl : d = true := hd1.mpr h2
        simp only [coin_Swap.j1, sw, if_true]; rw [if_neg hn, if_pos h2]
      · have hdf : d = false := by cases hdd : d with
          | false => rfl
          | true => exact absurd (hd1.mp hdd) h2
        subst hdf
        have e1 : wrap64 (wrap64 (a - p) + f) = a - p + f := by rw [wr (x := a - p) (by omega) (by omega)]; exact wr (by omega) (by omega)
        have e2 : wrap64 (wrap64 (b - f) + p) = b - f + p := by rw [wr (x := b - f) (by omega) (by omega)]; exact wr (by omega) (by omega)
        simp only [coin_Swap.j1, sw, e1, e2, is_eq, Option.bind_some]
        rw [if_neg (show ¬ (false = true) by decide), if_neg hn, if_neg h2]
        by_cases h3 : 0 ≤ a - p + f ∧ a - p + f ≤ 1073741824
        · by_cases h4 : 0 ≤ b - f + p ∧ b - f + p ≤ 1073741824
          · rw [if_pos (by simpa using h3), if_pos (by simpa using h4), if_neg (by omega)]
          · rw [if_pos (by simpa using h3), if_neg (by simpa using h4), if_pos (by omega)]
        · rw [if_neg (by simpa using h3), if_pos (by omega)]
    by_cases h1 : p < 0 ∨ f < 0
    · obtain rfl : c = true := hc1.mpr h1
      simp only [coin_Swap.j0, sw, if_true]; rw [if_pos h1]
    · have hcf : c = false := by cases hcc : c with
        | false => rfl
        | true => exact absurd (hc1.mp hcc) h1
      subst hcf
      simp only [coin_Swap.j0]
      rw [if_neg (by decide)]
      by_cases h2 : p > a
      · rw [if_pos h2]; exact key2 h1 true (by symm; simp; omega)
      · rw [if_neg h2]; exact key2 h1 _ (by simp; omega)
  unfold coin_Swap.f
  by_cases hp : p < 0
  · rw [if_pos hp]; exact key true (by symm; simp [hp])
  · rw [if_neg hp]; exact key _ (by simp [hp])

theorem pay_eq (k : Nat) (a b p : Int) (ha : 0 ≤ a) (ha' : a ≤ 1073741824) (hb : 0 ≤ b) (hb' : b ≤ 1073741824) :
    coin_Pay.f (k + 2) a b p = some (sw a b p 0) := by
  unfold coin_Pay.f; rw [swap_eq k a b p 0 ha ha' hb hb']; rfl

theorem ris_eq (a : Int) : innkeepref01_Is.f a = some (decide (0 ≤ a ∧ a ≤ 1073741824)) := by
  unfold innkeepref01_Is.f; by_cases h : 0 ≤ a <;> simp [h]

theorem awake_eq : innkeeplaw01_awake.f 20 = some true := by kernel_rfl

theorem AW21 : innkeeplaw01_awake.f 21 = some true := by kernel_rfl

theorem CoinTurned : innkeeplaw01_CoinTurned.Pure := by
  intro a b p f _ _ _ _

  by_cases ha : 0 ≤ a ∧ a ≤ 1073741824
  case neg =>
    refine ⟨21, ?_⟩
    unfold innkeeplaw01_CoinTurned.f
    rw [AW21]; simp only [Option.bind_some, if_true, ris_eq]
    rw [if_neg (by simpa using ha)]
    simp only [innkeeplaw01_CoinTurned.j0, if_true]
    rw [awake_eq]; rfl
  by_cases hb : 0 ≤ b ∧ b ≤ 1073741824
  case neg =>
    refine ⟨21, ?_⟩
    unfold innkeeplaw01_CoinTurned.f
    rw [AW21]; simp only [Option.bind_some, if_true, ris_eq]
    rw [if_pos (by simpa using ha)]
    have : (!decide (0 ≤ b ∧ b ≤ 1073741824)) = true := by rw [Bool.not_eq_true', decide_eq_false_iff_not]; exact hb
    rw [this]
    simp only [innkeeplaw01_CoinTurned.j0, if_true]
    rw [awake_eq]; rfl
  obtain ⟨ha0, ha1⟩ := ha
  obtain ⟨hb0, hb1⟩ := hb
  refine ⟨21, ?_⟩
  unfold innkeeplaw01_CoinTurned.f
  rw [AW21]; simp only [Option.bind_some, if_true, ris_eq]
  rw [if_pos (by simp; omega)]
  have : (!decide (0 ≤ b ∧ b ≤ 1073741824)) = false := by simp; omega
  rw [this]
  simp only [innkeeplaw01_CoinTurned.j0]
  rw [if_neg (by decide)]

  rw [swap_eq 18 a b p f ha0 ha1 hb0 hb1, swap_eq 18 b a f p hb0 hb1 ha0 ha1]
  simp only [Option.bind_some]
  have : sw b a f p = ((sw a b p f).2.1, (sw a b p f).1, (sw a b p f).2.2) := by
    unfold sw
    by_cases h1 : p < 0 ∨ f < 0
    · rw [if_pos h1, if_pos (by omega)]
    · rw [if_neg h1, if_neg (by omega)]
      by_cases h2 : a < p ∨ b < f
      · rw [if_pos h2, if_pos (by omega)]
      · rw [if_neg h2, if_neg (by omega)]
        by_cases h3 : a - p + f < 0 ∨ 1073741824 < a - p + f ∨ b - f + p < 0 ∨ 1073741824 < b - f + p
        · rw [if_pos h3, if_pos (by omega)]
        · rw [if_neg h3, if_neg (by omega)]
  rw [this]
  simp

end Go.Proofs.Ytdlpogefdccacaa.Pure
