/- CoinKeeps: what is swapped keeps the sum, what is refused stays, and paid back it is as it was. Conditions: none. -/
import Derived.Test.YtdlpogefdccacaaPCoinKeepsx2
namespace Go.Proofs.Ytdlpogefdccacaa.Pure
open Go.RowKit Go.Proofs.Ytdlpogefdccacaa.PCoinKeeps Go.Proofs.YtdlpogefdccacaaW.PrintWords Go.Proofs.YtdlpogefdccacaaW.PrintLast

def sw (a b p f : Int) : Int × Int × Int :=
  if p < 0 ∨ f < 0 then (a, b, 1) else if a < p ∨ b < f then (a, b, 10)
  else if a - p + f < 0 ∨ 1073741824 < a - p + f ∨ b - f + p < 0 ∨ 1073741824 < b - f + p then (a, b, 11)
  else (a - p + f, b - f + p, 0)

theorem is_eq (a : Int) : coin_Is.f a = some (decide (0 ≤ a ∧ a ≤ 1073741824)) := by
  unfold coin_Is.f; by_cases h : 0 ≤ a <;> simp [h]

theorem wr {x : Int} (h0 : -9000000000000000000 ≤ x) (h1 : x ≤ 9000000000000000000) : wrap64 x = x := by
  unfold wrap64; omega

theorem swap_eq (k : Nat) (a b p f : Int) (ha : 0 ≤ a) (ha' : a ≤ 1073741824) (hb : 0 ≤ b) (hb' : b ≤ 1073741824) :
    coin_Swap.f (k + 2) a b p f = some (sw a b p f) := by
  have key : ∀ c : Bool, c = decide (p < 0 ∨ f < 0) → coin_Swap.j0 (k + 2) a b p f c = some (sw a b p f) := by
    intro c hc
    have hc1 : c = true ↔ (p < 0 ∨ f < 0) := by rw [hc]; simp
    have key2 : ¬ (p < 0 ∨ f < 0) → ∀ d : Bool, d = decide (a < p ∨ b < f) → coin_Swap.j1 (k + 1) a b p f d = some (sw a b p f) := by
      intro hn d hd
      have hd1 : d = true ↔ (a < p ∨ b < f) := by rw [hd]; simp
      by_cases h2 : a < p ∨ b < f
      · obtain rfl : d = true := hd1.mpr h2
        simp only [coin_Swap.j1, sw, if_true]; rw [if_neg hn, if_pos h2]
      · have hdf : d = false := by cases hdd : d with
          | false => rfl
          | true => exact absurd (hd1.mp hdd) h2
        subst hdf
        have e1 : wrap64 (wrap64 (a - p) + f) = a - p + f := by rw [wr (x := a - p) (by omega) (by omega)]; exact wr (by omega) (by omega)
        have e2 : wrap64 (wrap64 (b - f) + p) = b - f + p := by rw [wr (x := b - f) (by omega) (by omega)]; exact wr (by omega) (by omega)
        simp only [coin_Swap.j1, sw, e1, e2, is_eq, Option.bind_some]
        rw [if_neg (show ¬ (false = true) by decide), if_neg hn, if_neg h2]
        by_cases h3 : 0 ≤ a - p + f ∧ a - p + f ≤ 1073741824
        · by_cases h4 : 0 ≤ b - f + p ∧ b - f + p ≤ 1073741824
          · rw [if_pos (by simpa using h3), if_pos (by simpa using h4), if_neg (by omega)]
          · rw [if_pos (by simpa using h3), if_neg (by simpa using h4), if_pos (by omega)]
        · rw [if_neg (by simpa using h3), if_pos (by omega)]
    by_cases h1 : p < 0 ∨ f < 0
    · obtain rfl : c = true := hc1.mpr h1
      simp only [coin_Swap.j0, sw, if_true]; rw [if_pos h1]
    · have hcf : c = false := by cases hcc : c with
        | false => rfl
        | true => exact absurd (hc1.mp hcc) h1
      subst hcf
      simp only [coin_Swap.j0]
      rw [if_neg (by decide)]
      by_cases h2 : p > a
      · rw [if_pos h2]; exact key2 h1 true (by symm; simp; omega)
      · rw [if_neg h2]; exact key2 h1 _ (by simp; omega)
  unfold coin_Swap.f
  by_cases hp : p < 0
  · rw [if_pos hp]; exact key true (by symm; simp [hp])
  · rw [if_neg hp]; exact key _ (by simp [hp])

theorem pay_eq (k : Nat) (a b p : Int) (ha : 0 ≤ a) (ha' : a ≤ 1073741824) (hb : 0 ≤ b) (hb' : b ≤ 1073741824) :
    coin_Pay.f (k + 2) a b p = some (sw a b p 0) := by
  unfold coin_Pay.f; rw [swap_eq k a b p 0 ha ha' hb hb']; rfl

theorem ris_eq (a : Int) : innkeepref01_Is.f a = some (decide (0 ≤ a ∧ a ≤ 1073741824)) := by
  unfold innkeepref01_Is.f; by_cases h : 0 ≤ a <;> simp [h]

theorem awake_eq : innkeeplaw01_awake.f 20 = some true := by kernel_rfl

theorem AW21 : innkeeplaw01_awake.f 21 = some true := by kernel_rfl

theorem sw_good (a b p f : Int) (ha : 0 ≤ a) (ha' : a ≤ 1073741824) (hb : 0 ≤ b) (hb' : b ≤ 1073741824) :
    0 ≤ (sw a b p f).1 ∧ (sw a b p f).1 ≤ 1073741824 ∧ 0 ≤ (sw a b p f).2.1 ∧ (sw a b p f).2.1 ≤ 1073741824 ∧ (sw a b p f).1 + (sw a b p f).2.1 = a + b ∧
    ((sw a b p f).2.2 ≠ 0 → (sw a b p f).1 = a ∧ (sw a b p f).2.1 = b) ∧
    ((sw a b p f).2.2 = 0 → 0 ≤ p ∧ 0 ≤ f ∧ p ≤ a ∧ f ≤ b ∧ (sw a b p f).1 = a - p + f ∧ (sw a b p f).2.1 = b - f + p) := by
  unfold sw
  by_cases h1 : p < 0 ∨ f < 0
  · rw [if_pos h1]; refine ⟨ha, ha', hb, hb', rfl, fun _ => ⟨rfl, rfl⟩, fun h => absurd h (by simp)⟩
  · rw [if_neg h1]
    by_cases h2 : a < p ∨ b < f
    · rw [if_pos h2]; refine ⟨ha, ha', hb, hb', rfl, fun _ => ⟨rfl, rfl⟩, fun h => absurd h (by simp)⟩
    · rw [if_neg h2]
      by_cases h3 : a - p + f < 0 ∨ 1073741824 < a - p + f ∨ b - f + p < 0 ∨ 1073741824 < b - f + p
      · rw [if_pos h3]; refine ⟨ha, ha', hb, hb', rfl, fun _ => ⟨rfl, rfl⟩, fun h => absurd h (by simp)⟩
      · rw [if_neg h3]; refine ⟨by simp; omega, by simp; omega, by simp; omega, by simp; omega, by simp; omega, fun h => absurd rfl h, fun _ => ⟨by omega, by omega, by omega, by omega, rfl, rfl⟩⟩

theorem sw_ok (a b p f : Int) (h1 : 0 ≤ p) (h2 : 0 ≤ f) (h3 : p ≤ a) (h4 : f ≤ b) (h5 : 0 ≤ a - p + f) (h6 : a - p + f ≤ 1073741824) (h7 : 0 ≤ b - f + p) (h8 : b - f + p ≤ 1073741824) :
    sw a b p f = (a - p + f, b - f + p, 0) := by
  unfold sw; rw [if_neg (by omega), if_neg (by omega), if_neg (by omega)]

theorem CoinKeeps : innkeeplaw01_CoinKeeps.Pure := by
  intro a b p f _ _ _ _

  by_cases ha : 0 ≤ a ∧ a ≤ 1073741824
  case neg =>
    refine ⟨21, ?_⟩
    unfold innkeeplaw01_CoinKeeps.f
    rw [AW21]; simp only [Option.bind_some, if_true, ris_eq]
    rw [if_neg (by simpa using ha)]
    simp only [innkeeplaw01_CoinKeeps.j0, if_true]
    rw [awake_eq]; rfl
  by_cases hb : 0 ≤ b ∧ b ≤ 1073741824
  case neg =>
    refine ⟨21, ?_⟩
    unfold innkeeplaw01_CoinKeeps.f
    rw [AW21]; simp only [Option.bind_some, if_true, ris_eq]
    rw [if_pos (by simpa using ha)]
    have : (!decide (0 ≤ b ∧ b ≤ 1073741824)) = true := by rw [Bool.not_eq_true', decide_eq_false_iff_not]; exact hb
    rw [this]
    simp only [innkeeplaw01_CoinKeeps.j0, if_true]
    rw [awake_eq]; rfl
  obtain ⟨ha0, ha1⟩ := ha
  obtain ⟨hb0, hb1⟩ := hb
  refine ⟨21, ?_⟩
  unfold innkeeplaw01_CoinKeeps.f
  rw [AW21]; simp only [Option.bind_some, if_true, ris_eq]
  rw [if_pos (by simp; omega)]
  have : (!decide (0 ≤ b ∧ b ≤ 1073741824)) = false := by simp; omega
  rw [this]
  simp only [innkeeplaw01_CoinKeeps.j0]
  rw [if_neg (by decide)]

  rw [swap_eq 18 a b p f ha0 ha1 hb0 hb1]
  obtain ⟨g1, g2, g3, g4, g5, g6, g7⟩ := sw_good a b p f ha0 ha1 hb0 hb1
  simp only [Option.bind_some, is_eq]
  have w1 : wrap64 ((sw a b p f).1 + (sw a b p f).2.1) = wrap64 (a + b) := by rw [g5]
  rw [if_pos w1, if_pos (by simp; omega), if_pos (by simp; omega)]
  have key : innkeeplaw01_CoinKeeps.j1 20 a b p false = some true := by
    simp only [innkeeplaw01_CoinKeeps.j1]
    rw [if_neg (by decide), pay_eq 17 a b p ha0 ha1 hb0 hb1, swap_eq 17 a b p 0 ha0 ha1 hb0 hb1]
    simp only [Option.bind_some, if_true]
    have e : ((sw a b p 0).2.2 != (sw a b p 0).2.2) = false := by simp
    rw [e]
    simp only [innkeeplaw01_CoinKeeps.j2]
    rw [if_neg (by decide)]
    obtain ⟨q1, q2, q3, q4, q5, q6, q7⟩ := sw_good a b p 0 ha0 ha1 hb0 hb1
    by_cases h0 : (sw a b p 0).2.2 = 0
    · obtain ⟨r1, r2, r3, r4, r5, r6⟩ := q7 h0
      rw [if_pos h0, pay_eq 16 _ _ p q3 q4 q1 q2]
      have e2 : sw (sw a b p 0).2.1 (sw a b p 0).1 p 0 = (b, a, 0) := by
        rw [r5, r6, sw_ok _ _ _ _ r1 (by omega) (by omega) (by omega) (by omega) (by omega) (by omega) (by omega)]
        refine Prod.ext (by simp) (Prod.ext (by simp) rfl)
      rw [e2]; simp
    · rw [if_neg h0]
  by_cases h0 : (sw a b p f).2.2 = 0
  · rw [if_pos h0]; exact key
  · obtain ⟨e1, e2⟩ := g6 h0
    rw [if_neg h0, if_pos e1]
    have e3 : ((sw a b p f).2.1 != b) = false := by rw [e2]; simp
    rw [e3]; exact key

end Go.Proofs.Ytdlpogefdccacaa.Pure
