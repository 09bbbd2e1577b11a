/- CoinTwice: two payments one behind the other come to one of both together. Conditions: none. -/
import Derived.Test.YtdlpogefdccacaaPCoinTwicex2
namespace Go.Proofs.Ytdlpogefdccacaa.Pure
open Go.RowKit Go.Proofs.Ytdlpogefdccacaa.PCoinTwice Go.Proofs.YtdlpogefdccacaaW.PrintWords Go.Proofs.YtdlpogefdccacaaW.PrintLast

def sw (a b p f : Int) : Int × Int × Int :=
  if p < 0 ∨ f < 0 then (a, b, 1) else if a < p ∨ b < f then (a, b, 10)
  else if a - p + f < 0 ∨ 1073741824 < a - p + f ∨ b - f + p < 0 ∨ 1073741824 < b - f + p then (a, b, 11)
  else (a - p + f, b - f + p, 0)

theorem is_eq (a : Int) : coin_Is.f a = some (decide (0 ≤ a ∧ a ≤ 1073741824)) := by
  unfold coin_Is.f; by_cases h : 0 ≤ a <;> simp [h]

theorem wr {x : Int} (h0 : -9000000000000000000 ≤ x) (h1 : x ≤ 9000000000000000000) : wrap64 x = x := by
  unfold wrap64; omega

theorem swap_eq (k : Nat) (a b p f : Int) (ha : 0 ≤ a) (ha' : a ≤ 1073741824) (hb : 0 ≤ b) (hb' : b ≤ 1073741824) :
    coin_Swap.f (k + 2) a b p f = some (sw a b p f) := by
  have key : ∀ c : Bool, c = decide (p < 0 ∨ f < 0) → coin_Swap.j0 (k + 2) a b p f c = some (sw a b p f) := by
    intro c hc
    have hc1 : c = true ↔ (p < 0 ∨ f < 0) := by rw [hc]; simp
    have key2 : ¬ (p < 0 ∨ f < 0) → ∀ d : Bool, d = decide (a < p ∨ b < f) → coin_Swap.j1 (k + 1) a b p f d = some (sw a b p f) := by
      intro hn d hd
      have hd1 : d = true ↔ (a < p ∨ b < f) := by rw [hd]; simp
      by_cases h2 : a < p ∨ b < f
      · obtain rfl : d = true := hd1.mpr h2
        simp only [coin_Swap.j1, sw, if_true]; rw [if_neg hn, if_pos h2]
      · have hdf : d = false := by cases hdd : d with
          | false => rfl
          | true => exact absurd (hd1.mp hdd) h2
        subst hdf
        have e1 : wrap64 (wrap64 (a - p) + f) = a - p + f := by rw [wr (x := a - p) (by omega) (by omega)]; exact wr (by omega) (by omega)
        have e2 : wrap64 (wrap64 (b - f) + p) = b - f + p := by rw [wr (x := b - f) (by omega) (by omega)]; exact wr (by omega) (by omega)
        simp only [coin_Swap.j1, sw, e1, e2, is_eq, Option.bind_some]
        rw [if_neg (show ¬ (false = true) by decide), if_neg hn, if_neg h2]
        by_cases h3 : 0 ≤ a - p + f ∧ a - p + f ≤ 1073741824
        · by_cases h4 : 0 ≤ b - f + p ∧ b - f + p ≤ 1073741824
          · rw [if_pos (by simpa using h3), if_pos (by simpa using h4), if_neg (by omega)]
          · rw [if_pos (by simpa using h3), if_neg (by simpa using h4), if_pos (by omega)]
        · rw [if_neg (by simpa using h3), if_pos (by omega)]
    by_cases h1 : p < 0 ∨ f < 0
    · obtain rfl : c = true := hc1.mpr h1
      simp only [coin_Swap.j0, sw, if_true]; rw [if_pos h1]
    · have hcf : c = false := by cases hcc : c with
        | false => rfl
        | true => exact absurd (hc1.mp hcc) h1
      subst hcf
      simp only [coin_Swap.j0]
      rw [if_neg (by decide)]
      by_cases h2 : p > a
      · rw [if_pos h2]; exact key2 h1 true (by symm; simp; omega)
      · rw [if_neg h2]; exact key2 h1 _ (by simp; omega)
  unfold coin_Swap.f
  by_cases hp : p < 0
  · rw [if_pos hp]; exact key true (by symm; simp [hp])
  · rw [if_neg hp]; exact key _ (by simp [hp])

theorem pay_eq (k : Nat) (a b p : Int) (ha : 0 ≤ a) (ha' : a ≤ 1073741824) (hb : 0 ≤ b) (hb' : b ≤ 1073741824) :
    coin_Pay.f (k + 2) a b p = some (sw a b p 0) := by
  unfold coin_Pay.f; rw [swap_eq k a b p 0 ha ha' hb hb']; rfl

theorem ris_eq (a : Int) : innkeepref01_Is.f a = some (decide (0 ≤ a ∧ a ≤ 1073741824)) := by
  unfold innkeepref01_Is.f; by_cases h : 0 ≤ a <;> simp [h]

theorem awake_eq : innkeeplaw01_awake.f 20 = some true := by kernel_rfl

theorem AW21 : innkeeplaw01_awake.f 21 = some true := by kernel_rfl

theorem sw_good (a b p f : Int) (ha : 0 ≤ a) (ha' : a ≤ 1073741824) (hb : 0 ≤ b) (hb' : b ≤ 1073741824) :
    0 ≤ (sw a b p f).1 ∧ (sw a b p f).1 ≤ 1073741824 ∧ 0 ≤ (sw a b p f).2.1 ∧ (sw a b p f).2.1 ≤ 1073741824 ∧ (sw a b p f).1 + (sw a b p f).2.1 = a + b ∧
    ((sw a b p f).2.2 ≠ 0 → (sw a b p f).1 = a ∧ (sw a b p f).2.1 = b) ∧
    ((sw a b p f).2.2 = 0 → 0 ≤ p ∧ 0 ≤ f ∧ p ≤ a ∧ f ≤ b ∧ (sw a b p f).1 = a - p + f ∧ (sw a b p f).2.1 = b - f + p) := by
  unfold sw
  by_cases h1 : p < 0 ∨ f < 0
  · rw [if_pos h1]; refine ⟨ha, ha', hb, hb', rfl, fun _ => ⟨rfl, rfl⟩, fun h => absurd h (by simp)⟩
  · rw [if_neg h1]
    by_cases h2 : a < p ∨ b < f
    · rw [if_pos h2]; refine ⟨ha, ha', hb, hb', rfl, fun _ => ⟨rfl, rfl⟩, fun h => absurd h (by simp)⟩
    · rw [if_neg h2]
      by_cases h3 : a - p + f < 0 ∨ 1073741824 < a - p + f ∨ b - f + p < 0 ∨ 1073741824 < b - f + p
      · rw [if_pos h3]; refine ⟨ha, ha', hb, hb', rfl, fun _ => ⟨rfl, rfl⟩, fun h => absurd h (by simp)⟩
      · rw [if_neg h3]; refine ⟨by simp; omega, by simp; omega, by simp; omega, by simp; omega, by simp; omega, fun h => absurd rfl h, fun _ => ⟨by omega, by omega, by omega, by omega, rfl, rfl⟩⟩

theorem sw_ok (a b p f : Int) (h1 : 0 ≤ p) (h2 : 0 ≤ f) (h3 : p ≤ a) (h4 : f ≤ b) (h5 : 0 ≤ a - p + f) (h6 : a - p + f ≤ 1073741824) (h7 : 0 ≤ b - f + p) (h8 : b - f + p ≤ 1073741824) :
    sw a b p f = (a - p + f, b - f + p, 0) := by
  unfold sw; rw [if_neg (by omega), if_neg (by omega), if_neg (by omega)]

theorem wf_u32 {n : Int} (h : (Lit.int .u32 n).wf = true) : 0 ≤ n ∧ n ≤ 4294967295 := by
  simp [Lit.wf, IntKind.min, IntKind.max, IntKind.bits, IntKind.signed] at h; omega

theorem CoinTwice : innkeeplaw01_CoinTwice.Pure := by
  intro a b p f _ _ hp hf

  by_cases ha : 0 ≤ a ∧ a ≤ 1073741824
  case neg =>
    refine ⟨21, ?_⟩
    unfold innkeeplaw01_CoinTwice.f
    rw [AW21]; simp only [Option.bind_some, if_true, ris_eq]
    rw [if_neg (by simpa using ha)]
    simp only [innkeeplaw01_CoinTwice.j0, if_true]
    rw [awake_eq]; rfl
  by_cases hb : 0 ≤ b ∧ b ≤ 1073741824
  case neg =>
    refine ⟨21, ?_⟩
    unfold innkeeplaw01_CoinTwice.f
    rw [AW21]; simp only [Option.bind_some, if_true, ris_eq]
    rw [if_pos (by simpa using ha)]
    have : (!decide (0 ≤ b ∧ b ≤ 1073741824)) = true := by rw [Bool.not_eq_true', decide_eq_false_iff_not]; exact hb
    rw [this]
    simp only [innkeeplaw01_CoinTwice.j0, if_true]
    rw [awake_eq]; rfl
  obtain ⟨ha0, ha1⟩ := ha
  obtain ⟨hb0, hb1⟩ := hb
  refine ⟨21, ?_⟩
  unfold innkeeplaw01_CoinTwice.f
  rw [AW21]; simp only [Option.bind_some, if_true, ris_eq]
  rw [if_pos (by simp; omega)]
  have : (!decide (0 ≤ b ∧ b ≤ 1073741824)) = false := by simp; omega
  rw [this]
  simp only [innkeeplaw01_CoinTwice.j0]
  rw [if_neg (by decide)]

  obtain ⟨p0, p1⟩ := wf_u32 hp
  obtain ⟨f0, f1⟩ := wf_u32 hf
  rw [wr (x := p) (by omega) (by omega), wr (x := f) (by omega) (by omega), wr (x := p + f) (by omega) (by omega)]
  rw [pay_eq 18 a b p ha0 ha1 hb0 hb1, pay_eq 18 a b (p + f) ha0 ha1 hb0 hb1]
  obtain ⟨g1, g2, g3, g4, g5, g6, g7⟩ := sw_good a b p 0 ha0 ha1 hb0 hb1
  simp only [Option.bind_some]
  rw [pay_eq 18 _ _ f g1 g2 g3 g4]
  simp only [Option.bind_some]
  by_cases h0 : (sw a b p 0).2.2 = 0
  · rw [if_pos h0]
    obtain ⟨r1, r2, r3, r4, r5, r6⟩ := g7 h0
    rw [r5, r6]
    have e : sw (a - p + 0) (b - 0 + p) f 0 = if (sw a b (p + f) 0).2.2 = 0 then sw a b (p + f) 0 else (a - p + 0, b - 0 + p, (sw a b (p + f) 0).2.2) := by
      unfold sw
      rw [if_neg (show ¬ (f < 0 ∨ (0 : Int) < 0) by omega), if_neg (show ¬ (p + f < 0 ∨ (0 : Int) < 0) by omega)]
      by_cases h2 : a - p + 0 < f ∨ b - 0 + p < 0
      · rw [if_pos h2, if_pos (show a < p + f ∨ b < 0 by omega)]; simp
      · rw [if_neg h2, if_neg (show ¬ (a < p + f ∨ b < 0) by omega)]
        by_cases h3 : a - p + 0 - f + 0 < 0 ∨ 1073741824 < a - p + 0 - f + 0 ∨ b - 0 + p - 0 + f < 0 ∨ 1073741824 < b - 0 + p - 0 + f
        · rw [if_pos h3, if_pos (show a - (p + f) + 0 < 0 ∨ 1073741824 < a - (p + f) + 0 ∨ b - 0 + (p + f) < 0 ∨ 1073741824 < b - 0 + (p + f) by omega)]; simp
        · rw [if_neg h3, if_neg (show ¬ (a - (p + f) + 0 < 0 ∨ 1073741824 < a - (p + f) + 0 ∨ b - 0 + (p + f) < 0 ∨ 1073741824 < b - 0 + (p + f)) by omega)]
          simp; omega
    rw [e]
    by_cases h4 : (sw a b (p + f) 0).2.2 = 0
    · rw [if_pos h4, if_pos rfl, if_pos h4, if_pos rfl]; simp
    · rw [if_neg h4, if_pos rfl, if_neg h4]
  · rw [if_neg h0]
    obtain ⟨e1, e2⟩ := g6 h0
    rw [if_pos e1, e2]; simp

end Go.Proofs.Ytdlpogefdccacaa.Pure
