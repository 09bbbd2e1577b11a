/- What functions come to, and that the statements are answered with 'true'. Conditions: none. -/
import Derived.Test.YtdbogcinhmfmpaaS
import Derived.Test.YtdbogcinhmfmpaaGE
import Derived.Test.YtdbogcinhmfmpaaP1
import Derived.Test.YtdbogcinhmfmpaaP2
import Derived.Test.YtdbogcinhmfmpaaP3
import Derived.Test.YtdbogcinhmfmpaaP4
import Derived.Test.YtdbogcinhmfmpaaP5
import Derived.Test.YtdbogcinhmfmpaaP6
import Derived.Test.YtdbogcinhmfmpaaP7
import Derived.Test.YtdbogcinhmfmpaaP8
set_option linter.unusedVariables false
set_option linter.unusedSimpArgs false
set_option linter.unusedSectionVars false
set_option linter.unnecessarySimpa false
namespace Go.Proofs.Ytdbogcinhmfmpaa.Ghost
open Go
structure TradeOk (w : den tWorld) (p q : Nat) (gs : List Int) (pay : Int) (ws : List Int) (fee : Int) : Prop where
  hq : q < List.length (w.2.1 : List Int)
  bad : ¬ Bad w (gs ++ ws)
  at_ : atOf w q = atOf w p
  dup : ¬ Dup (gs ++ ws)
  ag : ¬ Away w gs p
  aw : ¬ Away w ws q
  lots : Lots w p q gs ws
  rp : (ws.length : Int) - (gs.length : Int) ≤ roomI w (mePl p)
  rq : (gs.length : Int) - (ws.length : Int) ≤ roomI w (mePl q)
  sw : swapErr (coinOf w p) (coinOf w q) pay fee = 0
theorem tradeErr_zero {w : den tWorld} {p : Nat} {q : Int} {gs ws : List Int} {pay fee : Int} (h10 : ∀ a b, swapErr a b pay fee = 0 ∨ 0 < swapErr a b pay fee) : tradeErr w p q gs pay ws fee = 0 ↔ ∃ n : Nat, q = (n : Int) ∧ TradeOk w p n gs pay ws fee := by
  constructor
  · intro h
    unfold tradeErr at h
    by_cases c1 : inQ w q
    rotate_left
    · rw [if_pos c1] at h; cases h
    rw [if_neg (fun h => h c1)] at h
    obtain ⟨n, rfl, hn⟩ := inQ_nat c1
    by_cases c2 : Bad w (gs ++ ws)
    · rw [if_pos c2] at h; cases h
    rw [if_neg c2] at h
    by_cases c3 : (n : Int) = (p : Int)
    · rw [if_pos c3] at h; cases h
    rw [if_neg c3, Int.toNat_natCast] at h
    by_cases c4 : atOf w n = atOf w p
    rotate_left
    · rw [if_pos c4] at h; cases h
    rw [if_neg (fun h => h c4)] at h
    by_cases c5 : Dup (gs ++ ws)
    · rw [if_pos c5] at h; cases h
    rw [if_neg c5] at h
    by_cases c6 : Away w gs p
    · rw [if_pos c6] at h; cases h
    rw [if_neg c6] at h
    by_cases c7 : Away w ws n
    · rw [if_pos c7] at h; cases h
    rw [if_neg c7] at h
    by_cases c8 : roomI w (mePl p) < (ws.length : Int) - (gs.length : Int)
    · rw [if_pos c8] at h; cases h
    rw [if_neg c8] at h
    by_cases c9 : roomI w (meI (n : Int)) < (gs.length : Int) - (ws.length : Int)
    · rw [if_pos c9] at h; cases h
    rw [if_neg c9] at h
    exact ⟨n, rfl, hn, c2, c4, c5, c6, c7, lots_of (fun e => c3 (by rw [e])) c2 c5 c6 c7, Int.not_lt.1 c8, Int.not_lt.1 c9, h⟩
  · rintro ⟨n, rfl, h⟩
    unfold tradeErr
    rw [if_neg (fun g => g ⟨Int.natCast_nonneg n, Int.ofNat_lt.2 h.hq⟩), if_neg h.bad, if_neg (fun e : (n : Int) = (p : Int) => h.lots.pq (Int.ofNat.inj e).symm), Int.toNat_natCast, if_neg (fun g => g h.at_), if_neg h.dup, if_neg h.ag, if_neg h.aw, if_neg (Int.not_lt.2 h.rp), if_neg (Int.not_lt.2 (show _ ≤ roomI w (meI (n : Int)) from h.rq))]
    exact h.sw
theorem swapErr_nn (pay fee a b : Int) : swapErr a b pay fee = 0 ∨ 0 < swapErr a b pay fee := by
  unfold swapErr
  split
  · exact .inr (by decide)
  · split
    · exact .inl rfl
    · exact .inr (by decide)
theorem swapErr_zero {a b pay fee : Int} (h : swapErr a b pay fee = 0) : pay ≤ a ∧ fee ≤ b ∧ coinP (a - pay + fee) ∧ coinP (b - fee + pay) := by
  unfold swapErr at h
  split at h
  · cases h
  · rename_i c1
    split at h
    · rename_i c2
      refine ⟨?_, ?_, c2.1, c2.2⟩
      · exact Int.not_lt.1 (fun h => c1 (.inl h))
      · exact Int.not_lt.1 (fun h => c1 (.inr h))
    · cases h
theorem me_nb (i : Nat) : ¬ (mePl i).1 = (2 : Int) := fun e => by
  have : (1 : Int) = 2 := e
  cases this
theorem Lot.depI {l : List Pl} {xs : List Int} {src p : Pl} (h : Lot l xs src) (hs : ¬ src.1 = (2 : Int)) (hp : ¬ p.1 = (2 : Int)) (f c : Nat) (x : Pl) : {n : Nat} → n ≤ xs.length → depI (setAll l xs p n) f c x = depI l f c x
  | 0, _ => rfl
  | n + 1, hn => by
    have hi := h.inn n (by omega)
    simp only [setAll]
    rw [depI_set (by rw [setAll_len]; omega) hp (by rw [h.get (by omega)]; exact hs)]
    exact Lot.depI h hs hp f c x (by omega)
/-- where an item is behind a trade -/
theorem Lots.at_ {w : den tWorld} {p q : Nat} {gs ws : List Int} (h : Lots w p q gs ws) (j : Nat) : List.getD (trades w p q gs ws) j (dft tPlace) = List.getD (w.2.2.2.1 : List Pl) j (dft tPlace) ∧ (∀ i, i < (gs ++ ws).length → ¬ iAt (gs ++ ws) i = (j : Int)) ∨ List.getD (trades w p q gs ws) j (dft tPlace) = mePl p ∧ List.getD (w.2.2.2.1 : List Pl) j (dft tPlace) = mePl q ∧ (∃ i, i < ws.length ∧ iAt ws i = (j : Int)) ∨
    List.getD (trades w p q gs ws) j (dft tPlace) = mePl q ∧ List.getD (w.2.2.2.1 : List Pl) j (dft tPlace) = mePl p ∧ (∃ i, i < gs.length ∧ iAt gs i = (j : Int)) := by
  unfold trades
  rw [setAll_get h.lw.inn]
  by_cases c1 : ∃ i, i < ws.length ∧ iAt ws i = (j : Int)
  · rw [if_pos c1]
    obtain ⟨i, h1, h2⟩ := c1
    refine .inr (.inl ⟨rfl, ?_, i, h1, h2⟩)
    have := h.lw0.at_ i h1
    rw [h2, Int.toNat_natCast] at this
    exact this
  · rw [if_neg c1, setAll_get h.lg.inn]
    by_cases c2 : ∃ i, i < gs.length ∧ iAt gs i = (j : Int)
    · rw [if_pos c2]
      obtain ⟨i, h1, h2⟩ := c2
      refine .inr (.inr ⟨rfl, ?_, i, h1, h2⟩)
      have := h.lg.at_ i h1
      rw [h2, Int.toNat_natCast] at this
      exact this
    · rw [if_neg c2]
      refine .inl ⟨rfl, fun i hi e => ?_⟩
      by_cases hl : i < gs.length
      · rw [iAt_left hl] at e; exact c2 ⟨i, hl, e⟩
      · obtain ⟨k, rfl⟩ : ∃ k, i = gs.length + k := ⟨i - gs.length, by omega⟩
        rw [iAt_right] at e
        rw [List.length_append] at hi
        exact c1 ⟨k, by omega, e⟩
theorem coins_at (l : List Int) {p q : Nat} (hp : p < l.length) (hq : q < l.length) (a b : Int) (j : Nat) : List.getD (List.set (List.set l p a) q b) j 0 = if j = q then b else if j = p then a else List.getD l j 0 := by
  rw [getD_set _ _ _ _ _ (by rw [List.length_set]; exact hq), getD_set _ _ _ _ _ hp]
section
variable {w : den tWorld} {p q : Nat} {gs ws : List Int} {pay fee : Int} (ok : Ok w) (hp : p < List.length (w.2.1 : List Int)) (h : TradeOk w p q gs pay ws fee)
include ok hp h
abbrev tdW (w : den tWorld) (p q : Nat) (gs : List Int) (pay : Int) (ws : List Int) (fee : Int) : den tWorld := tradeW w p q gs ws (coinOf w p - pay + fee) (coinOf w q - fee + pay)
theorem trades_len : List.length (trades w p q gs ws) = List.length (w.2.2.2.1 : List (den tPlace)) := by unfold trades; rw [setAll_len, setAll_len]
theorem tdW_coins (j : Nat) : coinOf (tdW w p q gs pay ws fee) j = if j = q then coinOf w q - fee + pay else if j = p then coinOf w p - pay + fee else coinOf w j := by
  have hc1 := ok.right.c1
  have ha1 := ok.right.a1
  have hqq := h.hq
  show List.getD (List.set (List.set (w.2.2.1 : List Int) p _) (Int.toNat (q : Int)) _) j 0 = _
  rw [Int.toNat_natCast, coins_at _ (by omega) (by omega)]
theorem tdW_room (t : Pl) : roomI (tdW w p q gs pay ws fee) t = roomI w t + (if mePl p = t then (gs.length : Int) - (ws.length : Int) else 0) + (if mePl q = t then (ws.length : Int) - (gs.length : Int) else 0) := h.lots.room (tdW w p q gs pay ws fee) rfl rfl t
theorem tdW_ok : Ok (tdW w p q gs pay ws fee) := by
  have hr := ok.right
  have hs := ok.sm
  have hc1 := ok.right.c1
  have ha1 := ok.right.a1
  have hqq := h.hq
  have hlen := trades_len ok hp h
  have hcl : List.length ((tdW w p q gs pay ws fee).2.2.1 : List Int) = List.length (w.2.2.1 : List Int) := by
    show List.length (List.set (List.set (w.2.2.1 : List Int) p _) _ _) = _
    rw [List.length_set, List.length_set]
  obtain ⟨_, _, s1, s2⟩ := swapErr_zero h.sw
  refine ⟨⟨hs.e, hs.b, hs.p, hs.c, hs.i, hs.a, by rw [hcl]; exact hs.wc, by show List.length (trades w p q gs ws) ≤ _; rw [hlen]; exact hs.wh, hs.rows⟩, hr.may, hr.a1, by rw [hcl]; exact hr.c1, by show List.length (trades w p q gs ws) = _; rw [hlen]; exact hr.w1, fun i hi => ⟨(hr.at_ i hi).1, ?_⟩, fun i hi => ?_, fun i hi => ?_⟩
  · have hc := tdW_coins ok hp h i
    have : coinP (coinOf (tdW w p q gs pay ws fee) i) := by
      rw [hc]
      split
      · exact s2
      · split
        · exact s1
        · exact (hr.at_ i hi).2
    exact this
  · have hi : i < List.length (w.2.2.2.1 : List (den tPlace)) := by rw [← hlen]; exact hi
    have gm : ∀ r, r < List.length (w.2.1 : List Int) → GoodPl w.1 (mePl r) := fun r hr' => .inr (.inl ⟨rfl, Int.natCast_nonneg r, by show (r : Int) < _; rw [← hr.a1]; exact Int.ofNat_lt.2 hr'⟩)
    show GoodPl w.1 (List.getD (trades w p q gs ws) i (dft tPlace))
    rcases h.lots.at_ i with ⟨e, _⟩ | ⟨e, _⟩ | ⟨e, _⟩
    · rw [e]; exact hr.good i hi
    · rw [e]; exact gm p hp
    · rw [e]; exact gm q hqq
  · have hi : i < List.length (w.2.2.2.1 : List (den tPlace)) := by rw [← hlen]; exact hi
    have hd : ∀ x, depI (trades w p q gs ws) 51 0 x = depI w.2.2.2.1 51 0 x := fun x => by
      unfold trades
      rw [h.lots.lw.depI (me_nb q) (me_nb p) 51 0 x (Nat.le_refl _), h.lots.lg.depI (me_nb p) (me_nb q) 51 0 x (Nat.le_refl _)]
    have hroom : ∀ t, 0 ≤ roomI (tdW w p q gs pay ws fee) t := fun t => by
      rw [tdW_room ok hp h t]
      have h0 := (hr.room t).1
      by_cases c1 : mePl p = t
      · have c2 : ¬ mePl q = t := fun e => h.lots.pq (me_inj (c1.trans e.symm))
        rw [if_pos c1, if_neg c2]
        have := h.rp
        rw [c1] at this
        omega
      · by_cases c2 : mePl q = t
        · rw [if_neg c1, if_pos c2]
          have := h.rq
          rw [c2] at this
          omega
        · rw [if_neg c1, if_neg c2]; omega
    refine ⟨?_, ?_⟩
    · show depI (trades w p q gs ws) 51 0 (List.getD (trades w p q gs ws) i (dft tPlace)) ≤ 4
      rw [hd]
      rcases h.lots.at_ i with ⟨e, _⟩ | ⟨e, _⟩ | ⟨e, _⟩
      · rw [e]; exact (hr.deep i hi).1
      · rw [e, depI_zero (me_nb p)]; omega
      · rw [e, depI_zero (me_nb q)]; omega
    · have := hroom (List.getD ((tdW w p q gs pay ws fee).2.2.2.1 : List (den tPlace)) i (dft tPlace))
      unfold roomI at this
      show (manyPl _ _ _ : Int) ≤ capI w.1 _
      have e : (tdW w p q gs pay ws fee).1 = w.1 := rfl
      rw [e] at this
      omega
theorem td_back : TradeOk (tdW w p q gs pay ws fee) q p gs pay ws fee ∧ tdW (tdW w p q gs pay ws fee) q p gs pay ws fee = w := by
  have hlen := trades_len ok hp h
  have hqq := h.hq
  have hin : ∀ k, inR (tdW w p q gs pay ws fee) k ↔ inR w k := fun k => by
    unfold inR
    rw [show List.length ((tdW w p q gs pay ws fee).2.2.2.1 : List (den tPlace)) = List.length (w.2.2.2.1 : List (den tPlace)) from hlen]
  have hbad : ¬ Bad (tdW w p q gs pay ws fee) (gs ++ ws) := fun ⟨j, h1, h2⟩ => h.bad ⟨j, h1, fun h3 => h2 ((hin _).2 h3)⟩
  have g1 : ∀ j, j < gs.length → List.getD (trades w p q gs ws) (iAt gs j).toNat (dft tPlace) = mePl q := fun j hj => by
    have hi := h.lots.lg.inn j hj
    rcases h.lots.at_ (iAt gs j).toNat with ⟨_, e⟩ | ⟨_, _, i, h1, h2⟩ | ⟨e, _⟩
    · exact absurd (by rw [iAt_left hj]; omega) (e j (by rw [List.length_append]; omega))
    · exact absurd (by omega) (h.lots.gw j i hj h1)
    · exact e
  have g2 : ∀ j, j < ws.length → List.getD (trades w p q gs ws) (iAt ws j).toNat (dft tPlace) = mePl p := fun j hj => by
    have hi := h.lots.lw0.inn j hj
    rcases h.lots.at_ (iAt ws j).toNat with ⟨_, e⟩ | ⟨e, _⟩ | ⟨_, _, i, h1, h2⟩
    · exact absurd (by rw [iAt_right]; omega) (e (gs.length + j) (by rw [List.length_append]; omega))
    · exact e
    · exact absurd (by omega) (h.lots.gw i j h1 hj)
  have ag : ¬ Away (tdW w p q gs pay ws fee) gs q := fun ⟨j, h1, h2⟩ => h2 (g1 j h1)
  have aw : ¬ Away (tdW w p q gs pay ws fee) ws p := fun ⟨j, h1, h2⟩ => h2 (g2 j h1)
  have hqp : ¬ q = p := fun e => h.lots.pq e.symm
  have lots := lots_of hqp hbad h.dup ag aw
  obtain ⟨s1, s2, s3, s4⟩ := swapErr_zero h.sw
  have cp := tdW_coins ok hp h p
  have cq := tdW_coins ok hp h q
  rw [if_neg h.lots.pq, if_pos rfl] at cp
  rw [if_pos rfl] at cq
  have fp := coin_fit ok.right hp
  have fq := coin_fit ok.right hqq
  have rp := tdW_room ok hp h (mePl p)
  have rq := tdW_room ok hp h (mePl q)
  rw [if_pos rfl, if_neg (fun e => hqp (me_inj e))] at rp
  rw [if_pos rfl, if_neg (fun e => h.lots.pq (me_inj e))] at rq
  have np := (ok.right.room (mePl p)).1
  have nq := (ok.right.room (mePl q)).1
  refine ⟨⟨hp, hbad, h.at_.symm, h.dup, ag, aw, lots, by rw [rq]; omega, by rw [rp]; omega, ?_⟩, ?_⟩
  · rw [cp, cq]
    unfold swapErr
    have b1 : coinP (coinOf w q - fee + pay - pay + fee) := by rw [show coinOf w q - fee + pay - pay + fee = coinOf w q by omega]; exact fq
    have b2 : coinP (coinOf w p - pay + fee - fee + pay) := by rw [show coinOf w p - pay + fee - fee + pay = coinOf w p by omega]; exact fp
    rw [if_neg (by omega), if_pos ⟨b1, b2⟩]
  · refine Prod.ext rfl (Prod.ext rfl (Prod.ext ?_ (Prod.ext ?_ rfl)))
    · have hc1 := ok.right.c1
      have ha1 := ok.right.a1
      show List.set (List.set (List.set (List.set (w.2.2.1 : List Int) p _) (Int.toNat (q : Int)) _) q _) (Int.toNat (p : Int)) _ = w.2.2.1
      rw [Int.toNat_natCast, Int.toNat_natCast, cp, cq]
      refine ext_getD (0 : Int) (by simp only [List.length_set]) (fun j hj => ?_)
      rw [coins_at _ (by simp only [List.length_set]; omega) (by simp only [List.length_set]; omega), coins_at _ (by omega) (by omega)]
      split
      · rename_i e; subst e; show coinOf w j - pay + fee - fee + pay = coinOf w j; omega
      · split
        · rename_i e; subst e; show coinOf w j - fee + pay - pay + fee = coinOf w j; omega
        · rfl
    · refine ext_getD (dft tPlace) ?_ (fun j hj => ?_)
      · show List.length (trades (tdW w p q gs pay ws fee) q p gs ws) = _
        unfold trades
        rw [setAll_len, setAll_len]; exact hlen
      · show List.getD (trades (tdW w p q gs pay ws fee) q p gs ws) j (dft tPlace) = _
        rcases lots.at_ j with ⟨e, e2⟩ | ⟨e, _, i, h1, h2⟩ | ⟨e, _, i, h1, h2⟩
        · rw [e]
          rcases h.lots.at_ j with ⟨e3, _⟩ | ⟨_, _, i, h1, h2⟩ | ⟨_, _, i, h1, h2⟩
          · exact e3
          · exact absurd (by rw [iAt_right]; exact h2) (e2 (gs.length + i) (by rw [List.length_append]; omega))
          · exact absurd (by rw [iAt_left h1]; exact h2) (e2 i (by rw [List.length_append]; omega))
        · rw [e]
          have := h.lots.lw0.at_ i h1
          rw [h2, Int.toNat_natCast] at this
          exact this.symm
        · rw [e]
          have := h.lots.lg.at_ i h1
          rw [h2, Int.toNat_natCast] at this
          exact this.symm
end
end Go.Proofs.Ytdbogcinhmfmpaa.Ghost
