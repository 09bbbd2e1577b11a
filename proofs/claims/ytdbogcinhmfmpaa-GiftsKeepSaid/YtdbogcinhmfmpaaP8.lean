/- What functions come to, and that the statements are answered with 'true'. Conditions: none. -/
import Derived.Test.YtdbogcinhmfmpaaS
import Derived.Test.YtdbogcinhmfmpaaGE
import Derived.Test.YtdbogcinhmfmpaaP1
import Derived.Test.YtdbogcinhmfmpaaP2
import Derived.Test.YtdbogcinhmfmpaaP3
import Derived.Test.YtdbogcinhmfmpaaP4
import Derived.Test.YtdbogcinhmfmpaaP5
import Derived.Test.YtdbogcinhmfmpaaP6
import Derived.Test.YtdbogcinhmfmpaaP7
set_option linter.unusedVariables false
set_option linter.unusedSimpArgs false
set_option linter.unusedSectionVars false
set_option linter.unnecessarySimpa false
namespace Go.Proofs.Ytdbogcinhmfmpaa.Ghost
open Go
open Classical in
theorem setAll_get {l : List Pl} {xs : List Int} {p : Pl} : {n : Nat} → (∀ j, j < n → 0 ≤ iAt xs j ∧ iAt xs j < (l.length : Int)) → (k : Nat) → List.getD (setAll l xs p n) k (dft tPlace) = if ∃ i, i < n ∧ iAt xs i = (k : Int) then p else List.getD l k (dft tPlace)
  | 0, _, k => by rw [if_neg (fun ⟨i, h, _⟩ => by omega)]; rfl
  | n + 1, hin, k => by
    have ih := setAll_get (l := l) (xs := xs) (p := p) (n := n) (fun j hj => hin j (by omega)) k
    have h := hin n (by omega)
    simp only [setAll]
    rw [getD_set _ _ _ _ _ (by rw [setAll_len]; omega)]
    by_cases e : k = (iAt xs n).toNat
    · rw [if_pos e, if_pos ⟨n, by omega, by omega⟩]
    · rw [if_neg e, ih]
      by_cases h2 : ∃ i, i < n ∧ iAt xs i = (k : Int)
      · obtain ⟨i, a, b⟩ := h2
        rw [if_pos ⟨i, a, b⟩, if_pos ⟨i, by omega, b⟩]
      · rw [if_neg h2, if_neg (fun ⟨i, a, b⟩ => h2 ⟨i, by
          by_cases e2 : i = n
          · subst e2; omega
          · omega, b⟩)]
/-- a list of items, each once, that are all in one place -/
structure Lot (l : List Pl) (xs : List Int) (src : Pl) : Prop where
  inn : ∀ j, j < xs.length → 0 ≤ iAt xs j ∧ iAt xs j < (l.length : Int)
  at_ : ∀ j, j < xs.length → List.getD l (iAt xs j).toNat (dft tPlace) = src
  one : ∀ i j, i < j → j < xs.length → ¬ iAt xs i = iAt xs j
theorem Lot.get {l : List Pl} {xs : List Int} {src p : Pl} (h : Lot l xs src) {n : Nat} (hn : n < xs.length) : List.getD (setAll l xs p n) (iAt xs n).toNat (dft tPlace) = src := by
  have hi := h.inn n hn
  rw [setAll_get (fun j hj => h.inn j (by omega)), if_neg (fun ⟨i, a, b⟩ => h.one i n a hn (by omega))]
  exact h.at_ n hn
theorem Lot.many {l : List Pl} {xs : List Int} {src p : Pl} (h : Lot l xs src) (t : Pl) : {n : Nat} → n ≤ xs.length → manyPl (setAll l xs p n) t l.length + (if src = t then n else 0) = manyPl l t l.length + (if p = t then n else 0)
  | 0, _ => by simp [setAll]
  | n + 1, hn => by
    have ih := Lot.many h (p := p) t (n := n) (by omega)
    have hi := h.inn n (by omega)
    have hk : (iAt xs n).toNat < (setAll l xs p n).length := by rw [setAll_len]; omega
    have := manyPl_set (setAll l xs p n) (iAt xs n).toNat p t hk l.length
    rw [h.get (by omega)] at this
    have hk' : (iAt xs n).toNat < l.length := by omega
    simp only [hk', true_and] at this
    simp only [setAll]
    by_cases c1 : src = t <;> by_cases c2 : p = t <;> simp only [c1, c2, if_true, if_false] at this ih ⊢ <;> omega
theorem refRoom_any (x : den tWorld) (hl : List.length (x.2.2.2.1 : List (den tPlace)) ≤ 1048576) (hm : MayP x.1) (p : Pl) (hp : (0 : Int) ≤ p.1 ∧ (p.1 : Int) < 3) : Comes (fun nf _ _ _ => innkeepref07_Room nf (x) (p)) (fun r => r.1.1 = roomI x p) := by
  have hc := capI_range hm p
  have hle := manyPl_le x.2.2.2.1 p (List.length (x.2.2.2.1 : List (den tPlace)))
  refine Comes.succ (fun nf _ _ _ => innkeepref07_Room.eq nf _ _) ?_
  simp [-List.getD_eq_getElem?_getD, -List.length_eq_zero_iff, keepAll, freshHas, pathEq, eqPl_dec, wrap1, wrap0, nbeq, comes_call (cap_spec x p hp), (cap_spec x p hp).prop, comes_call (many_spec x (by omega) p), (many_spec x (by omega) p).prop]
  unfold roomI
  rw [wrap_id (by omega) (by omega)]
/-- the parts of a trade that may be done -/
structure Lots (w : den tWorld) (p q : Nat) (gs ws : List Int) : Prop where
  pq : ¬ p = q
  lg : Lot w.2.2.2.1 gs (mePl p)
  lw : Lot (setAll w.2.2.2.1 gs (mePl q) gs.length) ws (mePl q)
  lw0 : Lot w.2.2.2.1 ws (mePl q)
  gw : ∀ i j, i < gs.length → j < ws.length → ¬ iAt gs i = iAt ws j
theorem me_inj {p q : Nat} (h : mePl p = mePl q) : p = q := Int.ofNat.inj (congrArg (fun x : Pl => (x.2.1 : Int)) h)
theorem lots_of {w : den tWorld} {p q : Nat} {gs ws : List Int} (hpq : ¬ p = q) (hb : ¬ Bad w (gs ++ ws)) (hd : ¬ Dup (gs ++ ws)) (hg : ¬ Away w gs p) (hw : ¬ Away w ws q) : Lots w p q gs ws := by
  obtain ⟨bg, bw⟩ := bad_app hb
  have hgw : ∀ i j, i < gs.length → j < ws.length → ¬ iAt gs i = iAt ws j := fun i j hi hj e => hd ⟨i, gs.length + j, by omega, by rw [List.length_append]; omega, by rw [iAt_left hi, iAt_right]; exact e⟩
  have ag : ∀ j, j < gs.length → List.getD (w.2.2.2.1 : List Pl) (iAt gs j).toNat (dft tPlace) = mePl p := fun j hj => Classical.byContradiction (fun h => hg ⟨j, hj, h⟩)
  have aw : ∀ j, j < ws.length → List.getD (w.2.2.2.1 : List Pl) (iAt ws j).toNat (dft tPlace) = mePl q := fun j hj => Classical.byContradiction (fun h => hw ⟨j, hj, h⟩)
  have ng : ∀ i j, i < j → j < gs.length → ¬ iAt gs i = iAt gs j := fun i j hi hj e => hd ⟨i, j, hi, by rw [List.length_append]; omega, by rw [iAt_left (by omega), iAt_left hj]; exact e⟩
  have nw : ∀ i j, i < j → j < ws.length → ¬ iAt ws i = iAt ws j := fun i j hi hj e => hd ⟨gs.length + i, gs.length + j, by omega, by rw [List.length_append]; omega, by rw [iAt_right, iAt_right]; exact e⟩
  refine ⟨hpq, ⟨bad_not bg, ag, ng⟩, ⟨fun j hj => by rw [setAll_len]; exact bad_not bw j hj, fun j hj => ?_, nw⟩, ⟨bad_not bw, aw, nw⟩, hgw⟩
  have hj' := bad_not bw j hj
  rw [setAll_get (bad_not bg)]
  split
  · rfl
  · exact aw j hj
theorem Lots.room {w : den tWorld} {p q : Nat} {gs ws : List Int} (h : Lots w p q gs ws) (x : den tWorld) (hx1 : x.1 = w.1) (hx : x.2.2.2.1 = trades w p q gs ws) (t : Pl) : roomI x t = roomI w t + (if mePl p = t then (gs.length : Int) - (ws.length : Int) else 0) + (if mePl q = t then (ws.length : Int) - (gs.length : Int) else 0) := by
  have h1 : manyPl (setAll w.2.2.2.1 gs (mePl q) gs.length) t (List.length (w.2.2.2.1 : List (den tPlace))) + (if mePl p = t then gs.length else 0) = manyPl w.2.2.2.1 t (List.length (w.2.2.2.1 : List (den tPlace))) + (if mePl q = t then gs.length else 0) := h.lg.many (p := mePl q) t (Nat.le_refl _)
  have h2 := h.lw.many (p := mePl p) t (Nat.le_refl _)
  rw [setAll_len] at h2
  have h2 : manyPl (trades w p q gs ws) t (List.length (w.2.2.2.1 : List (den tPlace))) + (if mePl q = t then ws.length else 0) = manyPl (setAll w.2.2.2.1 gs (mePl q) gs.length) t (List.length (w.2.2.2.1 : List (den tPlace))) + (if mePl p = t then ws.length else 0) := h2
  have hl : List.length (x.2.2.2.1 : List (den tPlace)) = List.length (w.2.2.2.1 : List (den tPlace)) := by rw [hx]; unfold trades; rw [setAll_len, setAll_len]
  unfold roomI
  rw [hl, hx1, hx]
  by_cases c1 : mePl p = t
  · have c2 : ¬ mePl q = t := fun e => h.pq (me_inj (c1.trans e.symm))
    rw [if_pos c1, if_neg c2] at h1 h2 ⊢
    omega
  · by_cases c2 : mePl q = t
    · rw [if_neg c1, if_pos c2] at h1 h2 ⊢
      omega
    · rw [if_neg c1, if_neg c2] at h1 h2 ⊢
      omega
def DupFrom (l : List Int) (i : Nat) : Prop := ∃ a b, a < b ∧ i ≤ b ∧ b < l.length ∧ iAt l a = iAt l b
theorem dupFrom_zero {l : List Int} : DupFrom l 0 ↔ Dup l := ⟨fun ⟨a, b, h1, _, h2, h3⟩ => ⟨a, b, h1, h2, h3⟩, fun ⟨a, b, h1, h2, h3⟩ => ⟨a, b, h1, Nat.zero_le _, h2, h3⟩⟩
def DupAt (l : List Int) (i k : Nat) : Prop := ∃ a, k ≤ a ∧ a < i ∧ iAt l a = iAt l i
section
variable {w : den tWorld} (ok : Ok w) {p q : Nat} (hp : p < List.length (w.2.1 : List Int)) (hq : q < List.length (w.2.1 : List Int)) (c : Cm) (hg : (cGives c).length ≤ 100) (hw : (cWants c).length ≤ 100) (hpay : coinP (cPay c)) (hfee : coinP (cFee c)) (hbad : ¬ Bad w (cGives c ++ cWants c))
include ok hp hq hg hw hpay hfee hbad
open Classical in
noncomputable def l1R (w : den tWorld) (p q : Nat) (c : Cm) (i : Nat) : den tWorld × Int × Unit :=
  if DupFrom (cGives c ++ cWants c) i then (w, 13, ()) else if Away w (cGives c) p then (w, 5, ()) else if Away w (cWants c) q then (w, 5, ())
    else lastR w p q c (roomI (w.1, w.2.1, w.2.2.1, trades w p q (cGives c) (cWants c), ()) (mePl p)) (roomI (w.1, w.2.1, w.2.2.1, trades w p q (cGives c) (cWants c), ()) (mePl q))
theorem rtrade_l2 (i : Nat) (hi : i < (cGives c ++ cWants c).length) (t0 : (den tWorld)) (t2 : (den tCmd)) (t7 : Int) (t10 : Int) (o2 : (den tWorld)) (nx : Comes (fun nf fm0 _ _ => innkeepref11_Trade.l1 nf fm0 t0 ((p : Int)) t2 t7 ((q : Int)) t10 (((i + 1 : Nat) : Int)) (w) (c) o2 (cGives c ++ cWants c)) (fun r => r.1 = l1R w p q c (i + 1))) :
    ∀ k, k ≤ i → Comes (fun nf fm0 fm1 _ => innkeepref11_Trade.l2 nf fm0 fm1 t0 ((p : Int)) t2 t7 ((q : Int)) t10 ((i : Int)) ((k : Int)) (w) (c) o2 (cGives c ++ cWants c)) (fun r => (DupAt (cGives c ++ cWants c) i (k) → r.1 = (w, 13, ())) ∧ (¬ DupAt (cGives c ++ cWants c) i (k) → r.1 = l1R w p q c (i + 1))) := by
  have hlen : (cGives c ++ cWants c).length ≤ 1048576 := by rw [List.length_append]; omega
  rw [← wrap_succ (by omega)] at nx
  refine upto ?_ (fun k hk next => ?_)
  · have nx := nx.mono (Q' := fun r => (DupAt (cGives c ++ cWants c) i (i) → r.1 = (w, 13, ())) ∧ (¬ DupAt (cGives c ++ cWants c) i (i) → r.1 = l1R w p q c (i + 1))) (fun v hv => ⟨fun ⟨a, h1, h2, _⟩ => by omega, fun _ => hv⟩)
    refine Comes.succ2 (fun nf fm0 fm1 _ => innkeepref11_Trade.l2_eq nf fm0 fm1 _ _ _ _ _ _ _ _ _ _ _ _) ?_
    simp [-List.length_append, -List.getD_eq_getElem?_getD, -List.length_eq_zero_iff, keepAll, freshHas, pathEq, eqPl_dec, wrap1, wrap0, nbeq]
    exact nx
  · rw [← wrap_succ (by omega)] at next
    have hki : k < (cGives c ++ cWants c).length := by omega
    refine Comes.succ2 (fun nf fm0 fm1 _ => innkeepref11_Trade.l2_eq nf fm0 fm1 _ _ _ _ _ _ _ _ _ _ _ _) ?_
    by_cases e : iAt (cGives c ++ cWants c) i = iAt (cGives c ++ cWants c) k
    · have h5 : DupAt (cGives c ++ cWants c) i (k) := ⟨k, Nat.le_refl k, hk, e.symm⟩
      simp only [iAt] at e
      simp [-List.length_append, -List.getD_eq_getElem?_getD, -List.length_eq_zero_iff, keepAll, freshHas, pathEq, eqPl_dec, wrap1, wrap0, nbeq, hk, hi, hki, e, h5]
    · have next := next.mono (Q' := fun r => (DupAt (cGives c ++ cWants c) i (k) → r.1 = (w, 13, ())) ∧ (¬ DupAt (cGives c ++ cWants c) i (k) → r.1 = l1R w p q c (i + 1))) (fun v hv => by
        have e2 : DupAt (cGives c ++ cWants c) i (k) ↔ DupAt (cGives c ++ cWants c) i (k + 1) := ⟨fun ⟨a, h1, h2, h3⟩ => ⟨a, by
          by_cases e3 : a = k
          · subst e3; exact absurd h3.symm e
          · omega, h2, h3⟩, fun ⟨a, h1, h2, h3⟩ => ⟨a, by omega, h2, h3⟩⟩
        rw [e2]; exact hv)
      simp only [iAt] at e
      simp [-List.length_append, -List.getD_eq_getElem?_getD, -List.length_eq_zero_iff, keepAll, freshHas, pathEq, eqPl_dec, wrap1, wrap0, nbeq, hk, hi, hki, e]
      exact next
theorem rtrade_l1 (t0 : (den tWorld)) (t2 : (den tCmd)) (t7 : Int) (t10 : Int) (o2 : (den tWorld)) :
    ∀ i, i ≤ (cGives c ++ cWants c).length → Comes (fun nf fm0 _ _ => innkeepref11_Trade.l1 nf fm0 t0 ((p : Int)) t2 t7 ((q : Int)) t10 ((i : Int)) (w) (c) o2 (cGives c ++ cWants c)) (fun r => r.1 = l1R w p q c i) := by
  have hlen : (cGives c ++ cWants c).length ≤ 1048576 := by rw [List.length_append]; omega
  refine upto ?_ (fun i hi next => ?_)
  · refine Comes.succ1 (fun nf fm0 _ _ => innkeepref11_Trade.l1_eq nf fm0 _ _ _ _ _ _ _ _ _ _ _) ?_
    have hlt : List.length (trades w p q (cGives c) (cWants c)) ≤ 1048576 := by unfold trades; rw [setAll_len, setAll_len]; exact ok.sm.wh
    have h3 := fun (t0 : den tWorld) (t2 : den tCmd) (t7 t10 t11 : Int) (o2 : den tWorld) => (rtrade_l3 ok hp hq c hg hw hpay hfee hbad _ _ (fun x hx => by rw [hx]; exact refRoom_any (w.1, w.2.1, w.2.2.1, trades w p q (cGives c) (cWants c), ()) hlt ok.right.may _ (kind_mePl p)) (fun x hx => by rw [hx]; exact refRoom_any (w.1, w.2.1, w.2.2.1, trades w p q (cGives c) (cWants c), ()) hlt ok.right.may _ (kind_mePl q)) t0 t2 t7 t10 t11 o2 0 (Nat.zero_le _)).enter
    have h0 : mixAll w.2.2.2.1 (cGives c) (cWants c) (mePl p) (mePl q) 0 = w.2.2.2.1 := by unfold mixAll; rw [Nat.zero_min, Nat.zero_sub]; rfl
    simp only [h0] at h3
    have hq2 : ∀ v : innkeepref11_Trade.R, ((AwayAll w (cGives c) (cWants c) p q 0 → v.1 = (w, 5, ())) ∧ (¬ AwayAll w (cGives c) (cWants c) p q 0 → v.1 = lastR w p q c (roomI (w.1, w.2.1, w.2.2.1, trades w p q (cGives c) (cWants c), ()) (mePl p)) (roomI (w.1, w.2.1, w.2.2.1, trades w p q (cGives c) (cWants c), ()) (mePl q)))) → v.1 = l1R w p q c (cGives c ++ cWants c).length := fun v hv => by
      unfold l1R
      rw [if_neg (fun ⟨a, b, _, h1, h2, _⟩ => by omega)]
      rw [awayAll_iff] at hv
      by_cases a1 : Away w (cGives c) p
      · rw [if_pos a1]; exact hv.1 (.inl a1)
      · rw [if_neg a1]
        by_cases a2 : Away w (cWants c) q
        · rw [if_pos a2]; exact hv.1 (.inr a2)
        · rw [if_neg a2]; exact hv.2 (fun h => h.elim a1 a2)
    simp [-List.length_append, -List.getD_eq_getElem?_getD, -List.length_eq_zero_iff, keepAll, freshHas, pathEq, eqPl_dec, wrap1, wrap0, nbeq, comes_call (copied_spec w ok.sm), (copied_spec w ok.sm).prop]
    exact (h3 _ _ _ _ _ _).mono hq2
  · refine Comes.succ1 (fun nf fm0 _ _ => innkeepref11_Trade.l1_eq nf fm0 _ _ _ _ _ _ _ _ _ _ _) ?_
    simp [-List.length_append, -List.getD_eq_getElem?_getD, -List.length_eq_zero_iff, keepAll, freshHas, pathEq, eqPl_dec, wrap1, wrap0, nbeq, hi]
    refine (rtrade_l2 ok hp hq c hg hw hpay hfee hbad i hi _ _ _ _ _ next 0 (Nat.zero_le _)).enter1.mono (fun v hv => ?_)
    by_cases e : DupAt (cGives c ++ cWants c) i (0)
    · rw [hv.1 e]
      obtain ⟨a, _, h1, h2⟩ := e
      unfold l1R
      rw [if_pos ⟨a, i, h1, Nat.le_refl i, hi, h2⟩]
    · rw [hv.2 e]
      unfold l1R
      have e2 : DupFrom (cGives c ++ cWants c) (i + 1) ↔ DupFrom (cGives c ++ cWants c) i :=
        ⟨fun ⟨a, b, h1, h2, h3, h4⟩ => ⟨a, b, h1, by omega, h3, h4⟩, fun ⟨a, b, h1, h2, h3, h4⟩ => ⟨a, b, h1, by
          by_cases e3 : b = i
          · subst e3; exact absurd ⟨a, Nat.zero_le _, h1, h4⟩ e
          · omega, h3, h4⟩⟩
      by_cases h : DupFrom (cGives c ++ cWants c) i
      · rw [if_pos h, if_pos (e2.2 h)]
      · rw [if_neg h, if_neg (fun h' => h (e2.1 h'))]
open Classical in
noncomputable def l0R (w : den tWorld) (p q : Nat) (c : Cm) : den tWorld × Int × Unit := if (q : Int) = (p : Int) then (w, 12, ()) else if ¬ atOf w q = atOf w p then (w, 5, ()) else l1R w p q c 0
theorem refTrade_l0 (t0 : (den tWorld)) (t2 : (den tCmd)) (t7 : Int) (o2 : (den tWorld)) :
    ∀ i, i ≤ (cGives c ++ cWants c).length → Comes (fun nf fm0 _ _ => innkeepref11_Trade.l0 nf fm0 t0 ((p : Int)) t2 t7 ((q : Int)) ((i : Int)) (w) (c) o2 (cGives c ++ cWants c)) (fun r => r.1 = l0R w p q c) := by
  have hlen : (cGives c ++ cWants c).length ≤ 1048576 := by rw [List.length_append]; omega
  have s1 : ((p : Int) = (q : Int)) = ((q : Int) = (p : Int)) := propext eq_comm
  have s2 : (List.getD (w.2.1 : List Int) p (0 : Int) = List.getD (w.2.1 : List Int) q (0 : Int)) = (atOf w q = atOf w p) := propext eq_comm
  refine upto ?_ (fun i hi next => ?_)
  · have h1 := fun (t0 : den tWorld) (t2 : den tCmd) (t7 t10 : Int) (o2 : den tWorld) => (rtrade_l1 ok hp hq c hg hw hpay hfee hbad t0 t2 t7 t10 o2 0 (Nat.zero_le _)).enter
    refine Comes.succ1 (fun nf fm0 _ _ => innkeepref11_Trade.l0_eq nf fm0 _ _ _ _ _ _ _ _ _ _) ?_
    by_cases c1 : (q : Int) = (p : Int)
    · simp [-List.length_append, -List.getD_eq_getElem?_getD, -List.length_eq_zero_iff, keepAll, freshHas, pathEq, eqPl_dec, wrap1, wrap0, nbeq, s1, c1, l0R]
    · by_cases c2 : atOf w q = atOf w p
      · simp [-List.length_append, -List.getD_eq_getElem?_getD, -List.length_eq_zero_iff, keepAll, freshHas, pathEq, eqPl_dec, wrap1, wrap0, nbeq, s1, s2, c1, c2, hp, hq, l0R]
        exact h1 _ _ _ _ _
      · simp [-List.length_append, -List.getD_eq_getElem?_getD, -List.length_eq_zero_iff, keepAll, freshHas, pathEq, eqPl_dec, wrap1, wrap0, nbeq, s1, s2, c1, c2, hp, hq, l0R]
  · have hin := bad_not hbad i hi
    have h1 := hin.1; have h2 := hin.2
    rw [← wrap_succ (by omega)] at next
    refine Comes.succ1 (fun nf fm0 _ _ => innkeepref11_Trade.l0_eq nf fm0 _ _ _ _ _ _ _ _ _ _) ?_
    simp [-List.length_append, -List.getD_eq_getElem?_getD, -List.length_eq_zero_iff, keepAll, freshHas, pathEq, eqPl_dec, wrap1, wrap0, nbeq, hi, show ¬ List.getD (cGives c ++ cWants c) i 0 < 0 from Int.not_lt.2 h1, show ¬ (List.length (w.2.2.2.1 : List (den tPlace)) : Int) ≤ List.getD (cGives c ++ cWants c) i 0 from Int.not_le.2 h2, next]
theorem l0R_eq : l0R w p q c = tradeR w p q (cGives c) (cPay c) (cWants c) (cFee c) := by
  have hiq : inQ w (q : Int) := ⟨Int.natCast_nonneg q, Int.ofNat_lt.2 hq⟩
  by_cases c1 : (q : Int) = (p : Int)
  · simp only [l0R, tradeR, tradeErr, c1, if_true, show inQ w (p : Int) from c1 ▸ hiq, hbad, not_true_eq_false, if_false]
    rfl
  by_cases c2 : atOf w q = atOf w p
  rotate_left
  · simp only [l0R, tradeR, tradeErr, c1, c2, hiq, hbad, not_true_eq_false, not_false_eq_true, if_true, if_false, Int.toNat_natCast]
    rfl
  by_cases c3 : Dup (cGives c ++ cWants c)
  · have c3' := dupFrom_zero.2 c3
    simp only [l0R, l1R, tradeR, tradeErr, c1, c2, c3, c3', hiq, hbad, not_true_eq_false, not_false_eq_true, if_true, if_false, Int.toNat_natCast]
    rfl
  have c3' : ¬ DupFrom (cGives c ++ cWants c) 0 := fun h => c3 (dupFrom_zero.1 h)
  by_cases c4 : Away w (cGives c) p
  · simp only [l0R, l1R, tradeR, tradeErr, c1, c2, c3, c3', c4, hiq, hbad, not_true_eq_false, not_false_eq_true, if_true, if_false, Int.toNat_natCast]
    rfl
  by_cases c5 : Away w (cWants c) q
  · simp only [l0R, l1R, tradeR, tradeErr, c1, c2, c3, c3', c4, c5, hiq, hbad, not_true_eq_false, not_false_eq_true, if_true, if_false, Int.toNat_natCast]
    rfl
  have lots := lots_of (p := p) (q := q) (fun e => c1 (by rw [e])) hbad c3 c4 c5
  have r1 := lots.room (w.1, w.2.1, w.2.2.1, trades w p q (cGives c) (cWants c), ()) rfl rfl (mePl p)
  have r2 := lots.room (w.1, w.2.1, w.2.2.1, trades w p q (cGives c) (cWants c), ()) rfl rfl (mePl q)
  rw [if_pos rfl, if_neg (fun e => lots.pq (me_inj e).symm)] at r1
  rw [if_pos rfl, if_neg (fun e => lots.pq (me_inj e))] at r2
  have c6 : (roomI w (mePl p) + ((cGives c).length - (cWants c).length : Int) + 0 < 0) = (roomI w (mePl p) < ((cWants c).length : Int) - ((cGives c).length : Int)) := propext ⟨fun h => by omega, fun h => by omega⟩
  have c7 : (roomI w (mePl q) + 0 + ((cWants c).length - (cGives c).length : Int) < 0) = (roomI w (meI q) < ((cGives c).length : Int) - ((cWants c).length : Int)) := propext ⟨fun h => by show roomI w (mePl q) < _; omega, fun h => by have h : roomI w (mePl q) < ((cGives c).length : Int) - ((cWants c).length : Int) := h; omega⟩
  simp only [l0R, l1R, tradeR, tradeErr, c1, c2, c3, c3', c4, c5, hiq, hbad, not_true_eq_false, not_false_eq_true, if_true, if_false, Int.toNat_natCast, lastR, r1, r2, c6, c7]
  by_cases d1 : roomI w (mePl p) < ((cWants c).length : Int) - ((cGives c).length : Int)
  · simp only [d1, if_true]; rfl
  simp only [d1, if_false]
  by_cases d2 : roomI w (meI q) < ((cGives c).length : Int) - ((cWants c).length : Int)
  · simp only [d2, if_true]; rfl
  simp only [d2, if_false]
end
theorem rtrade_l0b {w : den tWorld} (hwl : List.length (w.2.2.2.1 : List (den tPlace)) ≤ 1048576) (l : List Int) (hlen : l.length ≤ 1048576) (t0 : (den tWorld)) (t1 : Int) (t2 : (den tCmd)) (t7 : Int) (t8 : Int) (o1 : (den tCmd)) (o2 : (den tWorld)) :
    ∀ i, i ≤ l.length → (∃ j, i ≤ j ∧ j < l.length ∧ ¬ inR w (iAt l j)) → Comes (fun nf fm0 _ _ => innkeepref11_Trade.l0 nf fm0 t0 t1 t2 t7 t8 ((i : Int)) (w) o1 o2 (l)) (fun r => r.1 = (w, 3, ())) := by
  refine upto (fun h => ?_) (fun i hi next h => ?_)
  · obtain ⟨j, h1, h2, _⟩ := h; omega
  · refine Comes.succ1 (fun nf fm0 _ _ => innkeepref11_Trade.l0_eq nf fm0 _ _ _ _ _ _ _ _ _ _) ?_
    by_cases h1 : List.getD l i 0 < 0
    · simp [-List.getD_eq_getElem?_getD, -List.length_eq_zero_iff, keepAll, freshHas, pathEq, eqPl_dec, wrap1, wrap0, nbeq, hi, h1]
    by_cases h2 : (List.length (w.2.2.2.1 : List (den tPlace)) : Int) ≤ List.getD l i 0
    · simp [-List.getD_eq_getElem?_getD, -List.length_eq_zero_iff, keepAll, freshHas, pathEq, eqPl_dec, wrap1, wrap0, nbeq, hi, h1, h2]
    have next := next (by
      obtain ⟨j, g1, g2, g3⟩ := h
      refine ⟨j, ?_, g2, g3⟩
      by_cases e : j = i
      · subst e; exact absurd ⟨Int.not_lt.1 h1, Int.not_le.1 h2⟩ g3
      · omega)
    rw [← wrap_succ (by omega)] at next
    simp [-List.getD_eq_getElem?_getD, -List.length_eq_zero_iff, keepAll, freshHas, pathEq, eqPl_dec, wrap1, wrap0, nbeq, hi, h1, h2, next]
theorem refTrade_spec {w : den tWorld} (ok : Ok w) {p : Nat} (hp : p < List.length (w.2.1 : List Int)) (c : Cm) (hg : (cGives c).length ≤ 100) (hw : (cWants c).length ≤ 100) (hpay : coinP (cPay c)) (hfee : coinP (cFee c)) :
    Comes (fun nf _ _ _ => innkeepref11_Trade nf (w) ((p : Int)) (c)) (fun r => r.1 = tradeR w p (cWho c) (cGives c) (cPay c) (cWants c) (cFee c)) := by
  have hlen : (cGives c ++ cWants c).length ≤ 1048576 := by rw [List.length_append]; omega
  have g1 : (cGives c).length ≤ 1048576 := by omega
  have g2 : (cGives c).length + (cWants c).length ≤ 1048576 := by omega
  refine Comes.succ (fun nf _ _ _ => innkeepref11_Trade.eq nf _ _ _) ?_
  simp only [List.nil_append]
  by_cases c1 : inQ w (cWho c)
  · obtain ⟨q, eq, hq⟩ := inQ_nat c1
    by_cases c2 : Bad w (cGives c ++ cWants c)
    · have e : tradeR w p (cWho c) (cGives c) (cPay c) (cWants c) (cFee c) = (w, 3, ()) := by simp [tradeR, tradeErr, c1, c2]
      rw [e]
      simp only [eq]
      simp [-List.length_append, -List.getD_eq_getElem?_getD, -List.length_eq_zero_iff, keepAll, freshHas, pathEq, eqPl_dec, wrap1, wrap0, nbeq, hq]
      refine ⟨g1, g2, (rtrade_l0b ok.sm.wh (cGives c ++ cWants c) hlen _ _ _ _ _ _ _ 0 (Nat.zero_le _) ?_).enter⟩
      obtain ⟨j, a, b⟩ := c2
      exact ⟨j, Nat.zero_le _, a, b⟩
    · have h0 := fun (t0 : den tWorld) (t2 : den tCmd) (t7 : Int) (o2 : den tWorld) => (refTrade_l0 ok hp hq c hg hw hpay hfee c2 t0 t2 t7 o2 0 (Nat.zero_le _)).enter
      rw [l0R_eq ok hp hq c hg hw hpay hfee c2] at h0
      simp only [eq]
      simp [-List.length_append, -List.getD_eq_getElem?_getD, -List.length_eq_zero_iff, keepAll, freshHas, pathEq, eqPl_dec, wrap1, wrap0, nbeq, hq]
      exact ⟨g1, g2, fun h => absurd h (Int.not_lt.2 (Int.natCast_nonneg q)), fun h => by omega, h0 _ _ _ _⟩
  · have e : tradeR w p (cWho c) (cGives c) (cPay c) (cWants c) (cFee c) = (w, 3, ()) := by simp [tradeR, tradeErr, c1]
    rw [e]
    by_cases h1 : cWho c < 0
    · simp [-List.length_append, -List.getD_eq_getElem?_getD, -List.length_eq_zero_iff, keepAll, freshHas, pathEq, eqPl_dec, wrap1, wrap0, nbeq, h1]
      exact ⟨g1, g2⟩
    · have h2 : (List.length (w.2.1 : List Int) : Int) ≤ cWho c := Int.not_lt.1 (fun h => c1 ⟨Int.not_lt.1 h1, h⟩)
      simp [-List.length_append, -List.getD_eq_getElem?_getD, -List.length_eq_zero_iff, keepAll, freshHas, pathEq, eqPl_dec, wrap1, wrap0, nbeq, h1, h2]
      exact ⟨g1, g2⟩
end Go.Proofs.Ytdbogcinhmfmpaa.Ghost
