/- What functions come to, and that the statements are answered with 'true'. Conditions: none. -/
import Derived.Test.YtdbogcinhmfmpaaS
import Derived.Test.YtdbogcinhmfmpaaGE
import Derived.Test.YtdbogcinhmfmpaaP1
import Derived.Test.YtdbogcinhmfmpaaP2
import Derived.Test.YtdbogcinhmfmpaaP3
import Derived.Test.YtdbogcinhmfmpaaP4
import Derived.Test.YtdbogcinhmfmpaaP5
set_option linter.unusedVariables false
set_option linter.unusedSimpArgs false
set_option linter.unusedSectionVars false
set_option linter.unnecessarySimpa false
namespace Go.Proofs.Ytdbogcinhmfmpaa.Ghost
open Go
def coinP (x : Int) : Prop := 0 ≤ x ∧ x ≤ 1073741824
open Classical in
noncomputable def swapErr (a b pay fee : Int) : Int := if a < pay ∨ b < fee then 10 else if coinP (a - pay + fee) ∧ coinP (b - fee + pay) then 0 else 11
noncomputable def swapR (a b pay fee : Int) : Int × Int × Int × Unit := if swapErr a b pay fee = 0 then (a - pay + fee, b - fee + pay, 0, ()) else (a, b, swapErr a b pay fee, ())
theorem coinIs_spec (a : Int) : Comes (fun nf _ _ _ => coin_Is nf (a)) (fun r => r = ((dec (coinP a), ()), [])) := by
  refine Comes.succ (fun nf _ _ _ => coin_Is.eq nf _) ?_
  by_cases h : 0 ≤ a <;> simp [h, coinP, decide_dec]
theorem swap_spec {a b pay fee : Int} (ha : coinP a) (hb : coinP b) (hp : coinP pay) (hf : coinP fee) : Comes (fun nf _ _ _ => coin_Swap nf (a) (b) (pay) (fee)) (fun r => r.1 = swapR a b pay fee) := by
  obtain ⟨a1, a2⟩ := ha; obtain ⟨b1, b2⟩ := hb; obtain ⟨p1, p2⟩ := hp; obtain ⟨f1, f2⟩ := hf
  have e1 : IntKind.wrap .i64 (a - pay) = a - pay := wrap_id (by omega) (by omega)
  have e2 : IntKind.wrap .i64 (b - fee) = b - fee := wrap_id (by omega) (by omega)
  have e3 : IntKind.wrap .i64 (a - pay + fee) = a - pay + fee := wrap_id (by omega) (by omega)
  have e4 : IntKind.wrap .i64 (b - fee + pay) = b - fee + pay := wrap_id (by omega) (by omega)
  refine Comes.succ (fun nf _ _ _ => coin_Swap.eq nf _ _ _ _) ?_
  simp [-List.getD_eq_getElem?_getD, -List.length_eq_zero_iff, keepAll, freshHas, pathEq, eqPl_dec, wrap1, wrap0, nbeq, show ¬ pay < 0 by omega, show ¬ fee < 0 by omega, e1, e2, e3, e4, comes_call (coinIs_spec _), (coinIs_spec _).prop, swapR, swapErr]
  by_cases c1 : a < pay <;> by_cases c2 : b < fee <;> by_cases c3 : coinP (a - pay + fee) <;> by_cases c4 : coinP (b - fee + pay) <;> simp [c1, c2, c3, c4]
theorem refSwap_spec {a b pay fee : Int} (ha : coinP a) (hb : coinP b) (hp : coinP pay) (hf : coinP fee) : Comes (fun nf _ _ _ => innkeepref01_Swap nf (a) (b) (pay) (fee)) (fun r => r.1 = swapR a b pay fee) := by
  obtain ⟨a1, a2⟩ := ha; obtain ⟨b1, b2⟩ := hb; obtain ⟨p1, p2⟩ := hp; obtain ⟨f1, f2⟩ := hf
  have e1 : IntKind.wrap .i64 (a + fee) = a + fee := wrap_id (by omega) (by omega)
  have e2 : IntKind.wrap .i64 (b + pay) = b + pay := wrap_id (by omega) (by omega)
  have e3 : IntKind.wrap .i64 (a + fee - pay) = a - pay + fee := by rw [wrap_id (by omega) (by omega)]; omega
  have e4 : IntKind.wrap .i64 (b + pay - fee) = b - fee + pay := by rw [wrap_id (by omega) (by omega)]; omega
  have is1 : ∀ x, Comes (fun nf _ _ _ => innkeepref01_Is nf (x)) (fun r => r = ((dec (coinP x), ()), [])) := fun x => by
    refine Comes.succ (fun nf _ _ _ => innkeepref01_Is.eq nf _) ?_
    by_cases h : 0 ≤ x <;> simp [h, coinP, decide_dec]
  refine Comes.succ (fun nf _ _ _ => innkeepref01_Swap.eq nf _ _ _ _) ?_
  simp [-List.getD_eq_getElem?_getD, -List.length_eq_zero_iff, keepAll, freshHas, pathEq, eqPl_dec, wrap1, wrap0, nbeq, show ¬ pay < 0 by omega, show ¬ fee < 0 by omega, e1, e2, e3, e4, comes_call (is1 _), (is1 _).prop, swapR, swapErr]
  by_cases c1 : a < pay <;> by_cases c2 : b < fee <;> by_cases c3 : coinP (a - pay + fee) <;> by_cases c4 : coinP (b - fee + pay) <;> simp [c1, c2, c3, c4]
theorem swapR_err (a b pay fee : Int) : (swapR a b pay fee).2.2.1 = swapErr a b pay fee := by
  unfold swapR
  split
  · rename_i h; exact h.symm
  · rfl
/-! ### The traded world -/
def setAll (l : List Pl) (xs : List Int) (p : Pl) : Nat → List Pl
  | 0 => l
  | i + 1 => List.set (setAll l xs p i) (iAt xs i).toNat p
theorem setAll_len (l : List Pl) (xs : List Int) (p : Pl) : (i : Nat) → (setAll l xs p i).length = l.length
  | 0 => rfl
  | i + 1 => by simp only [setAll, List.length_set, setAll_len l xs p i]
abbrev meI (q : Int) : Pl := ((1 : Int), q, ())
def trades (w : den tWorld) (p : Nat) (q : Int) (gs ws : List Int) : List Pl := setAll (setAll w.2.2.2.1 gs (meI q) gs.length) ws (mePl p) ws.length
def tradeW (w : den tWorld) (p : Nat) (q : Int) (gs ws : List Int) (a b : Int) : den tWorld := (w.1, w.2.1, List.set (List.set (w.2.2.1 : List Int) p a) q.toNat b, trades w p q gs ws, ())
open Classical in
noncomputable def tradeErr (w : den tWorld) (p : Nat) (q : Int) (gs : List Int) (pay : Int) (ws : List Int) (fee : Int) : Int :=
  if ¬ inQ w q then 3 else if Bad w (gs ++ ws) then 3 else if q = (p : Int) then 12 else if ¬ atOf w q.toNat = atOf w p then 5 else if Dup (gs ++ ws) then 13 else if Away w gs p then 5 else if Away w ws q then 5
  else if roomI w (mePl p) < (ws.length : Int) - (gs.length : Int) then 9 else if roomI w (meI q) < (gs.length : Int) - (ws.length : Int) then 9 else swapErr (coinOf w p) (coinOf w q.toNat) pay fee
noncomputable def tradeR (w : den tWorld) (p : Nat) (q : Int) (gs : List Int) (pay : Int) (ws : List Int) (fee : Int) : den tWorld × Int × Unit :=
  if tradeErr w p q gs pay ws fee = 0 then (tradeW w p q gs ws (coinOf w p - pay + fee) (coinOf w q.toNat - fee + pay), 0, ()) else (w, tradeErr w p q gs pay ws fee, ())
theorem trade_l1 {N : Nat} (p : Nat) (ws : List Int) (hws : ws.length ≤ 1048576) (base : List Pl) (hb : base.length = N) (hin : ∀ j, j < ws.length → 0 ≤ iAt ws j ∧ iAt ws j < (N : Int)) (t0 : (den tWorld)) (t2 : (den tCmd)) (t7 : Int) (t8 : Int) (t9 : (List Int)) (t11 : Int) (t12 : Int) (t13 : Int) (t14 : Int) (t135 : (List Int)) (t136 : Int) (t137 : Int) (o0 : (den tWorld)) (o1 : (den tCmd)) (o2 : (den tWorld)) (o3 : (List (List Int))) (o4 : (den tWorld)) (o5 : (List Int)) :
    ∀ i, i ≤ ws.length → Comes (fun nf fm0 _ _ => gifts_Trade.l1 nf fm0 t0 ((p : Int)) t2 t7 t8 t9 t11 t12 t13 t14 t135 t136 t137 (ws) ((ws.length : Int)) ((i : Int)) o0 o1 o2 o3 o4 o5 (setAll base ws (mePl p) i)) (fun r => r = (((o4.1, o4.2.1, o5, setAll base ws (mePl p) ws.length, ()), 0, ()), [(0, [2]), (0, [3])])) := by
  refine upto ?_ (fun i hi next => ?_)
  · refine Comes.succ1 (fun nf fm0 _ _ => gifts_Trade.l1_eq nf fm0 _ _ _ _ _ _ _ _ _ _ _ _ _ _ _ _ _ _ _ _ _ _ _) ?_
    simp [-List.getD_eq_getElem?_getD, -List.length_eq_zero_iff, keepAll, freshHas, pathEq, eqPl_dec, wrap1, wrap0, nbeq]
  · refine Comes.succ1 (fun nf fm0 _ _ => gifts_Trade.l1_eq nf fm0 _ _ _ _ _ _ _ _ _ _ _ _ _ _ _ _ _ _ _ _ _ _ _) ?_
    rw [← wrap_succ (by omega)] at next
    have hl := setAll_len base ws (mePl p) i
    have h := hin i hi
    simp [-List.getD_eq_getElem?_getD, -List.length_eq_zero_iff, keepAll, freshHas, pathEq, eqPl_dec, wrap1, wrap0, nbeq, hi, comes_call (gwith_spec _), (gwith_spec _).prop, hl, hb, h]
    exact next
theorem trade_l0 {N : Nat} (p : Nat) (q : Int) (c : Cm) (hws : (cWants c).length ≤ 1048576) (hgs : (cGives c).length ≤ 1048576) (base : List Pl) (hb : base.length = N) (hin : ∀ j, j < (cWants c).length → 0 ≤ iAt (cWants c) j ∧ iAt (cWants c) j < (N : Int)) (hin' : ∀ j, j < (cGives c).length → 0 ≤ iAt (cGives c) j ∧ iAt (cGives c) j < (N : Int)) (t0 : (den tWorld)) (t2 : (den tCmd)) (t7 : Int) (t9 : (List Int)) (t11 : Int) (t12 : Int) (t13 : Int) (t14 : Int) (o0 : (den tWorld)) (o2 : (den tWorld)) (o3 : (List (List Int))) (o4 : (den tWorld)) (o5 : (List Int)) :
    ∀ i, i ≤ (cGives c).length → Comes (fun nf fm0 _ _ => gifts_Trade.l0 nf fm0 t0 ((p : Int)) t2 t7 (q) t9 t11 t12 t13 t14 (cGives c) (((cGives c).length : Int)) ((i : Int)) o0 (c) o2 o3 o4 o5 (setAll base (cGives c) (meI q) i)) (fun r => r = (((o4.1, o4.2.1, o5, setAll (setAll base (cGives c) (meI q) (cGives c).length) (cWants c) (mePl p) (cWants c).length, ()), 0, ()), [(0, [2]), (0, [3])])) := by
  refine upto ?_ (fun i hi next => ?_)
  · refine Comes.succ1 (fun nf fm0 _ _ => gifts_Trade.l0_eq nf fm0 _ _ _ _ _ _ _ _ _ _ _ _ _ _ _ _ _ _ _ _) ?_
    simp [-List.getD_eq_getElem?_getD, -List.length_eq_zero_iff, keepAll, freshHas, pathEq, eqPl_dec, wrap1, wrap0, nbeq]
    exact (trade_l1 p (cWants c) hws _ (by rw [setAll_len]; exact hb) hin _ _ _ _ _ _ _ _ _ _ _ _ _ _ _ _ _ _ 0 (Nat.zero_le _)).enter
  · refine Comes.succ1 (fun nf fm0 _ _ => gifts_Trade.l0_eq nf fm0 _ _ _ _ _ _ _ _ _ _ _ _ _ _ _ _ _ _ _ _) ?_
    rw [← wrap_succ (by omega)] at next
    have hl := setAll_len base (cGives c) (meI q) i
    have h := hin' i hi
    simp [-List.getD_eq_getElem?_getD, -List.length_eq_zero_iff, keepAll, freshHas, pathEq, eqPl_dec, wrap1, wrap0, nbeq, hi, comes_call (gwith_spec _), (gwith_spec _).prop, hl, hb, h]
    exact next
theorem bad_not {w : den tWorld} {l : List Int} (h : ¬ Bad w l) : ∀ j, j < l.length → inR w (iAt l j) := fun j hj => Classical.byContradiction (fun hn => h ⟨j, hj, hn⟩)
theorem iAt_left {a b : List Int} {j : Nat} (h : j < a.length) : iAt (a ++ b) j = iAt a j := by
  unfold iAt; rw [List.getD_eq_getElem?_getD, List.getD_eq_getElem?_getD, List.getElem?_append_left h]
theorem iAt_right {a b : List Int} (j : Nat) : iAt (a ++ b) (a.length + j) = iAt b j := by
  unfold iAt; rw [List.getD_eq_getElem?_getD, List.getD_eq_getElem?_getD, List.getElem?_append_right (by omega), Nat.add_sub_cancel_left]
theorem bad_app {w : den tWorld} {a b : List Int} (h : ¬ Bad w (a ++ b)) : ¬ Bad w a ∧ ¬ Bad w b :=
  ⟨fun ⟨j, h1, h2⟩ => h ⟨j, by rw [List.length_append]; omega, by rw [iAt_left h1]; exact h2⟩, fun ⟨j, h1, h2⟩ => h ⟨a.length + j, by rw [List.length_append]; omega, by rw [iAt_right]; exact h2⟩⟩
theorem coin_fit {w : den tWorld} (h : RightP w) {i : Nat} (hi : i < List.length (w.2.1 : List Int)) : coinP (coinOf w i) := (h.at_ i hi).2
theorem concat_spec (a b : List Int) (ha : a.length ≤ 524288) (hb : b.length ≤ 524288) : Comes (fun nf _ _ _ => slices_Concat_sint_int nf [a, b]) (fun r => r = ((a ++ b, ()), [(0, [])])) :=
  Comes.succ (G := fun _ _ _ _ => some ((a ++ b, ()), [(0, [])])) (fun n _ _ _ => by
    show (if List.length a ≤ 524288 ∧ List.length b ≤ 524288 then _ else none) = _
    rw [if_pos ⟨ha, hb⟩]) (Comes.ret rfl)
theorem trade_spec {w : den tWorld} (ok : Ok w) {p : Nat} (hp : p < List.length (w.2.1 : List Int)) (c : Cm) (hg : (cGives c).length ≤ 100) (hw : (cWants c).length ≤ 100) (hpay : coinP (cPay c)) (hfee : coinP (cFee c)) :
    Comes (fun nf _ _ _ => gifts_Trade nf (w) ((p : Int)) (c)) (fun r => r = (tradeR w p (cWho c) (cGives c) (cPay c) (cWants c) (cFee c), if tradeErr w p (cWho c) (cGives c) (cPay c) (cWants c) (cFee c) = 0 then [(0, [2]), (0, [3])] else [])) := by
  have hlen : (cGives c ++ cWants c).length ≤ 1048576 := by rw [List.length_append]; omega
  refine Comes.succ (fun nf _ _ _ => gifts_Trade.eq nf _ _ _) ?_
  by_cases c1 : inQ w (cWho c)
  · by_cases c2 : Bad w (cGives c ++ cWants c)
    · simp [-List.getD_eq_getElem?_getD, -List.length_eq_zero_iff, keepAll, freshHas, pathEq, eqPl_dec, wrap1, wrap0, nbeq, comes_call (concat_spec (cGives c) (cWants c) (by omega) (by omega)), (concat_spec (cGives c) (cWants c) (by omega) (by omega)).prop, comes_call (gplayer_spec w _), (gplayer_spec w _).prop, comes_call (bad_spec w (cGives c ++ cWants c) hlen), (bad_spec w (cGives c ++ cWants c) hlen).bprop, c1, c2, tradeR, tradeErr]
    · obtain ⟨q, eq, hq⟩ := inQ_nat c1
      have hin := bad_not c2
      obtain ⟨bg, bw⟩ := bad_app c2
      have hc1 := ok.right.c1
      have ha1 := ok.right.a1
      have hpc : p < List.length (w.2.2.1 : List Int) := by omega
      have hqc : q < List.length (w.2.2.1 : List Int) := by omega
      have e1 : IntKind.wrap .i64 (((cWants c).length : Int) - ((cGives c).length : Int)) = ((cWants c).length : Int) - ((cGives c).length : Int) := wrap_id (by omega) (by omega)
      have e2 : IntKind.wrap .i64 (-(((cWants c).length : Int) - ((cGives c).length : Int))) = ((cGives c).length : Int) - ((cWants c).length : Int) := by rw [wrap_id (by omega) (by omega)]; omega
      simp only [eq]
      simp [-List.getD_eq_getElem?_getD, -List.length_eq_zero_iff, keepAll, freshHas, pathEq, eqPl_dec, wrap1, wrap0, nbeq, comes_call (concat_spec (cGives c) (cWants c) (by omega) (by omega)), (concat_spec (cGives c) (cWants c) (by omega) (by omega)).prop, comes_call (gplayer_spec w _), (gplayer_spec w _).prop, comes_call (bad_spec w (cGives c ++ cWants c) hlen), (bad_spec w (cGives c ++ cWants c) hlen).bprop, c2, hq, hp, show inQ w (q : Int) from eq ▸ c1, comes_call (twice_spec (cGives c ++ cWants c) hlen), (twice_spec (cGives c ++ cWants c) hlen).bprop, comes_call (away_spec w (cGives c) (by omega) bg (p : Int)), (away_spec w (cGives c) (by omega) bg (p : Int)).bprop, comes_call (away_spec w (cWants c) (by omega) bw (q : Int)), (away_spec w (cWants c) (by omega) bw (q : Int)).bprop, comes_call (gwith_spec _), (gwith_spec _).prop, comes_call (treeRoom_spec w ok (mePl p) (kind_mePl p)), (treeRoom_spec w ok (mePl p) (kind_mePl p)).prop, comes_call (treeRoom_spec w ok (mePl q) (kind_mePl q)), (treeRoom_spec w ok (mePl q) (kind_mePl q)).prop, e1, e2, hpc, hqc, comes_call (swap_spec (coin_fit ok.right hp) (coin_fit ok.right hq) hpay hfee), (swap_spec (coin_fit ok.right hp) (coin_fit ok.right hq) hpay hfee).prop, swapR_err]
      by_cases c3 : (q : Int) = (p : Int)
      · simp [-List.getD_eq_getElem?_getD, -List.length_eq_zero_iff, keepAll, freshHas, pathEq, eqPl_dec, wrap1, wrap0, nbeq, c3, c2, tradeR, tradeErr, show inQ w (p : Int) from c3 ▸ eq ▸ c1]
      by_cases c4 : atOf w q = atOf w p
      rotate_left
      · simp [-List.getD_eq_getElem?_getD, -List.length_eq_zero_iff, keepAll, freshHas, pathEq, eqPl_dec, wrap1, wrap0, nbeq, c3, c4, c2, tradeR, tradeErr, show inQ w (q : Int) from eq ▸ c1]
      by_cases c5 : Dup (cGives c ++ cWants c)
      · simp [-List.getD_eq_getElem?_getD, -List.length_eq_zero_iff, keepAll, freshHas, pathEq, eqPl_dec, wrap1, wrap0, nbeq, c3, c4, c5, c2, tradeR, tradeErr, show inQ w (q : Int) from eq ▸ c1]
      by_cases c6 : Away w (cGives c) (p : Int)
      · simp [-List.getD_eq_getElem?_getD, -List.length_eq_zero_iff, keepAll, freshHas, pathEq, eqPl_dec, wrap1, wrap0, nbeq, c3, c4, c5, c6, c2, tradeR, tradeErr, show inQ w (q : Int) from eq ▸ c1]
      by_cases c7 : Away w (cWants c) (q : Int)
      · simp [-List.getD_eq_getElem?_getD, -List.length_eq_zero_iff, keepAll, freshHas, pathEq, eqPl_dec, wrap1, wrap0, nbeq, c3, c4, c5, c6, c7, c2, tradeR, tradeErr, show inQ w (q : Int) from eq ▸ c1]
      by_cases c8 : roomI w (mePl p) < ((cWants c).length : Int) - ((cGives c).length : Int)
      · simp [-List.getD_eq_getElem?_getD, -List.length_eq_zero_iff, keepAll, freshHas, pathEq, eqPl_dec, wrap1, wrap0, nbeq, c3, c4, c5, c6, c7, c8, c2, tradeR, tradeErr, show inQ w (q : Int) from eq ▸ c1]
        intro h; omega
      by_cases c9 : roomI w (mePl q) < ((cGives c).length : Int) - ((cWants c).length : Int)
      · simp [-List.getD_eq_getElem?_getD, -List.length_eq_zero_iff, keepAll, freshHas, pathEq, eqPl_dec, wrap1, wrap0, nbeq, c3, c4, c5, c6, c7, c8, c9, c2, tradeR, tradeErr, show inQ w (q : Int) from eq ▸ c1]
        intro h; omega
      by_cases ca : swapErr (coinOf w p) (coinOf w q) (cPay c) (cFee c) = 0
      rotate_left
      · simp [-List.getD_eq_getElem?_getD, -List.length_eq_zero_iff, keepAll, freshHas, pathEq, eqPl_dec, wrap1, wrap0, nbeq, c3, c4, c5, c6, c7, c8, c9, ca, c2, tradeR, tradeErr, show inQ w (q : Int) from eq ▸ c1]
      simp [-List.getD_eq_getElem?_getD, -List.length_eq_zero_iff, keepAll, freshHas, pathEq, eqPl_dec, wrap1, wrap0, nbeq, c3, c4, c5, c6, c7, c8, c9, ca, c2, tradeR, tradeErr, show inQ w (q : Int) from eq ▸ c1, comes_call (copy_spec w ok.sm), (copy_spec w ok.sm).prop, hpc, hqc, swapR]
      intro _ _
      exact (trade_l0 (N := List.length (w.2.2.2.1 : List (den tPlace))) p (q : Int) c (by omega) (by omega) w.2.2.2.1 rfl (bad_not bw) (bad_not bg) _ _ _ _ _ _ _ _ _ _ _ _ _ 0 (Nat.zero_le _)).enter
  · simp [-List.getD_eq_getElem?_getD, -List.length_eq_zero_iff, keepAll, freshHas, pathEq, eqPl_dec, wrap1, wrap0, nbeq, comes_call (concat_spec (cGives c) (cWants c) (by omega) (by omega)), (concat_spec (cGives c) (cWants c) (by omega) (by omega)).prop, comes_call (gplayer_spec w _), (gplayer_spec w _).prop, c1, tradeR, tradeErr]
end Go.Proofs.Ytdbogcinhmfmpaa.Ghost
