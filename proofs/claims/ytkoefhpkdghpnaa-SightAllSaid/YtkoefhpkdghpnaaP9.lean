/- What functions come to, and that the statements are answered with 'true'. Conditions: none. -/
import Derived.Test.YtkoefhpkdghpnaaS
import Derived.Test.YtkoefhpkdghpnaaGE
import Derived.Test.YtkoefhpkdghpnaaP1
import Derived.Test.YtkoefhpkdghpnaaP2
import Derived.Test.YtkoefhpkdghpnaaP3
import Derived.Test.YtkoefhpkdghpnaaP4
import Derived.Test.YtkoefhpkdghpnaaP5
import Derived.Test.YtkoefhpkdghpnaaP6
import Derived.Test.YtkoefhpkdghpnaaP7
import Derived.Test.YtkoefhpkdghpnaaP8
set_option linter.unusedVariables false
set_option linter.unusedSimpArgs false
set_option linter.unusedSectionVars false
set_option linter.unnecessarySimpa false
namespace Go.Proofs.Ytkoefhpkdghpnaa.Ghost
open Go
theorem place_fit {w : den tWorld} (h : RightP w) {m : Nat} (hm : m < List.length (w.2.2.2.1 : List (den tPlace))) : (0 ≤ ((plOf w m).2.1 : Int) ∧ ((plOf w m).2.1 : Int) ≤ 1073741824) ∧ (((plOf w m).1 : Int) = 0 ∨ ((plOf w m).1 : Int) = 1 ∨ ((plOf w m).1 : Int) = 2) := by
  have g := h.good m hm
  have r1 := h.may.r1; have p1 := h.may.p1; have i1 := h.may.i1
  rcases g with ⟨a, b, c⟩ | ⟨a, b, c⟩ | ⟨a, ⟨b, c⟩, _⟩
  · exact ⟨⟨b, Int.le_of_lt (Int.lt_of_lt_of_le c (by omega))⟩, .inl a⟩
  · exact ⟨⟨b, Int.le_of_lt (Int.lt_of_lt_of_le c (by omega))⟩, .inr (.inl a)⟩
  · exact ⟨⟨b, Int.le_of_lt (Int.lt_of_lt_of_le c (by omega))⟩, .inr (.inr a)⟩
theorem und_fit {w : den tWorld} (h : RightP w) (p : Pl) {j : Nat} (hj : j < (undOf w p).length) : (0 ≤ ((List.getD (undOf w p) j (dft tSeen)).1 : Int) ∧ ((List.getD (undOf w p) j (dft tSeen)).1 : Int) ≤ 1073741824) ∧
    (0 ≤ ((List.getD (undOf w p) j (dft tSeen)).2.1.2.1 : Int) ∧ ((List.getD (undOf w p) j (dft tSeen)).2.1.2.1 : Int) ≤ 1073741824) ∧
    (((List.getD (undOf w p) j (dft tSeen)).2.1.1 : Int) = 0 ∨ ((List.getD (undOf w p) j (dft tSeen)).2.1.1 : Int) = 1 ∨ ((List.getD (undOf w p) j (dft tSeen)).2.1.1 : Int) = 2) := by
  obtain ⟨m, hm, he, _⟩ := und_get hj
  have := h.may.i1; have := h.w1
  have hp := place_fit h hm
  rw [he]
  exact ⟨⟨by show (0 : Int) ≤ (m : Int); omega, by show (m : Int) ≤ 1073741824; omega⟩, hp.1, hp.2⟩
theorem may_look {w : den tWorld} (h : RightP w) {i : Nat} (hi : i < List.length (w.2.1 : List Int)) : MayR (lookR w i) := by
  have r1 := h.may.r1; have p1 := h.may.p1; have i1 := h.may.i1; have w1 := h.w1; have a1 := h.a1
  have hat := (h.at_ i hi).1
  refine ⟨rfl, ⟨by show (1 : Int) ≤ 9; decide, by show (9 : Int) ≤ 10; decide⟩, ⟨hat.1, Int.le_of_lt (Int.lt_of_lt_of_le hat.2 (by omega))⟩, ⟨by show (0 : Int) ≤ 0; decide, by show (0 : Int) ≤ 1073741824; decide⟩, Nat.le_trans (preL_len w _ _) (by omega), Nat.le_trans (undL_len w _ _) (by omega), fun j hj => ?_, fun j hj => und_fit h _ hj, .inr (.inr (.inl rfl)), .inl rfl, .inl (by show (9 : Int) ≤ 9; decide), .inr rfl⟩
  obtain ⟨m, hm, he, _⟩ := pre_get hj
  have he : List.getD ((lookR w i).2.2.2.1 : List Int) j (0 : Int) = (m : Int) := he
  rw [he]
  exact ⟨by show (0 : Int) ≤ (m : Int); omega, by show (m : Int) ≤ 1073741824; omega⟩
theorem may_own {w : den tWorld} (h : RightP w) {i : Nat} (hi : i < List.length (w.2.1 : List Int)) : MayR (ownR w i) := by
  have i1 := h.may.i1; have w1 := h.w1
  exact ⟨rfl, ⟨by show (1 : Int) ≤ 10; decide, by show (10 : Int) ≤ 10; decide⟩, ⟨by show (0 : Int) ≤ 0; decide, by show (0 : Int) ≤ 1073741824; decide⟩, (h.at_ i hi).2, Nat.zero_le _, Nat.le_trans (undL_len w _ _) (by omega), fun j hj => absurd hj (Nat.not_lt_zero j), fun j hj => und_fit h _ hj, .inr (.inr (.inr rfl)), .inr rfl, .inl (by show (9 : Int) ≤ 10; decide), .inl rfl⟩
/-- those that hang from rooms ahead of the n-th -/
def pA (w : den tWorld) (n : Int) (i : Nat) : Prop := rk w i = 0 ∧ ri w i < n
/-- those that hang from rooms, or from players ahead of the n-th -/
def pB (w : den tWorld) (n : Int) (i : Nat) : Prop := rk w i = 0 ∨ rk w i = 1 ∧ ri w i < n
abbrev noP : Nat → Prop := fun _ => False
theorem sall_l5 {w : den tWorld} {hi : Nat → Prop} {o : List Int} (hlen : List.length (w.2.2.2.1 : List (den tPlace)) ≤ 1048576) (ho : Tal w noP hi o) (t0 : (den tWorld)) (t2 : Bool) (t5 : Int) (t10 : Int) : ∀ i, i ≤ o.length → Comes (fun nf fm0 _ _ => innkeeplaw12_SightAll.l5 nf fm0 t0 t2 ((List.length (w.2.1 : List Int) : Int)) t5 t10 ((i : Int)) (w) (o)) (fun r => r.1.1 = true) := by
  have hol := ho.1
  refine upto ?_ (fun i hi next => ?_)
  · refine Comes.succ1 (fun nf fm0 _ _ => innkeeplaw12_SightAll.l5_eq nf fm0 _ _ _ _ _ _ _ _) ?_
    simp [-List.getD_eq_getElem?_getD, -List.length_eq_zero_iff, keepAll, freshHas, pathEq, eqPl, eqPl_f, wrap1, wrap0]
  · refine Comes.succ1 (fun nf fm0 _ _ => innkeeplaw12_SightAll.l5_eq nf fm0 _ _ _ _ _ _ _ _) ?_
    rw [← wrap_succ (by omega)] at next
    rcases ho.2 i (by omega) with h | h <;> simp [-List.getD_eq_getElem?_getD, -List.length_eq_zero_iff, keepAll, freshHas, pathEq, eqPl, eqPl_f, wrap1, wrap0, hi, h.1, next]
theorem sall_l4 {w : den tWorld} (ok : Ok w) (m : Nat) (hm : m < 1000) {lo hi : Nat → Prop} (hp : ∀ i, hi i → ¬ rootOf w i = mePl m) (t0 : (den tWorld)) (t2 : Bool) (t4 : Int) (t5 : Int)
    (nx : ∀ o, Tal w (before w (mePl m) lo (undOf w (mePl m)).length) (before w (mePl m) hi (undOf w (mePl m)).length) o → Comes (fun nf fm0 _ _ => innkeeplaw12_SightAll.l3 nf fm0 t0 t2 t4 t5 (((m + 1 : Nat) : Int)) (w) (o)) (fun r => r.1.1 = true)) :
    ∀ j, j ≤ (undOf w (mePl m)).length → ∀ o, Tal w (before w (mePl m) lo j) (before w (mePl m) hi j) o → Comes (fun nf fm0 fm1 _ => innkeeplaw12_SightAll.l4 nf fm0 fm1 t0 t2 t4 t5 ((m : Int)) ((j : Int)) (w) (o) (ownR w m)) (fun r => r.1.1 = true) := by
  have hlen := ok.sm.wh
  have hul := undL_len w (mePl m) (List.length (w.2.2.2.1 : List (den tPlace)))
  have hit : ((ownR w m).2.2.2.2.1 : List Sn) = undOf w (mePl m) := rfl
  refine upto (fun o ho => ?_) (fun j hj next o ho => ?_)
  · have nx := nx o ho
    rw [← wrap_succ (by omega)] at nx
    refine Comes.succ2 (fun nf fm0 fm1 _ => innkeeplaw12_SightAll.l4_eq nf fm0 fm1 _ _ _ _ _ _ _ _ _) ?_
    simp [-List.getD_eq_getElem?_getD, -List.length_eq_zero_iff, keepAll, freshHas, pathEq, eqPl, eqPl_f, wrap1, wrap0, hit, nx]
  · obtain ⟨q, hql, he, hqr⟩ := und_get hj
    have hol := ho.1
    have hm : ((List.getD (undOf w (mePl m)) j (dft tSeen)).1 : Int) = (q : Int) := by rw [he]
    obtain ⟨h0, ht⟩ := ho.step hp hj hm hql hqr
    have next := next _ ht
    have hlt : j < 4611686018427387904 := by
      have : (undOf w (mePl m)).length ≤ 1048576 := Nat.le_trans hul hlen
      omega
    rw [← wrap_succ (by omega)] at next
    refine Comes.succ2 (fun nf fm0 fm1 _ => innkeeplaw12_SightAll.l4_eq nf fm0 fm1 _ _ _ _ _ _ _ _ _) ?_
    simp [-List.getD_eq_getElem?_getD, -List.length_eq_zero_iff, keepAll, freshHas, pathEq, eqPl, eqPl_f, wrap1, wrap0, hit, hj, hql, he, hol, h0, next]
theorem sall_l3 {w : den tWorld} (ok : Ok w) (t0 : (den tWorld)) (t2 : Bool) (t5 : Int) :
    ∀ i, i ≤ List.length (w.2.1 : List Int) → ∀ o, Tal w noP (pB w i) o → Comes (fun nf fm0 _ _ => innkeeplaw12_SightAll.l3 nf fm0 t0 t2 ((List.length (w.2.1 : List Int) : Int)) t5 ((i : Int)) (w) (o)) (fun r => r.1.1 = true) := by
  have hlen := ok.sm.wh
  have hc1 := ok.right.c1
  have ha1 := ok.right.a1
  have hp1 := ok.right.may.p1
  refine upto (fun o ho => ?_) (fun i hi next o ho => ?_)
  · refine Comes.succ1 (fun nf fm0 _ _ => innkeeplaw12_SightAll.l3_eq nf fm0 _ _ _ _ _ _ _) ?_
    simp [-List.getD_eq_getElem?_getD, -List.length_eq_zero_iff, keepAll, freshHas, pathEq, eqPl, eqPl_f, wrap1, wrap0]
    exact (sall_l5 hlen ho _ _ _ _ 0 (Nat.zero_le _)).enter
  · refine Comes.succ1 (fun nf fm0 _ _ => innkeeplaw12_SightAll.l3_eq nf fm0 _ _ _ _ _ _ _) ?_
    have hic : i < List.length (w.2.2.1 : List Int) := by omega
    have hcoin : ((ownR w i).2.2.2.2.2.1 : Int) = List.getD (w.2.2.1 : List Int) i (0 : Int) := rfl
    simp [-List.getD_eq_getElem?_getD, -List.length_eq_zero_iff, keepAll, freshHas, pathEq, eqPl, eqPl_f, wrap1, wrap0, hi, hic, comes_call (own_spec w ok hi), (own_spec w ok hi).prop, comes_call (may5_spec (may_own ok.right hi)), (may5_spec (may_own ok.right hi)).prop, hcoin]
    refine (sall_l4 ok i (by omega) (lo := noP) (hi := pB w i) (fun j hb he => ?_) _ _ _ _ (fun o ho => next o (ho.mono (fun _ _ h => h.elim) (fun j hj h => ?_))) 0 (Nat.zero_le _) o (ho.mono (fun j _ h => before_none.1 h) (fun j _ h => before_none.2 h))).enter1
    · have h1 : rk w j = 1 := by show ((rootOf w j).1 : Int) = 1; rw [he]
      have h2 : ri w j = i := by show ((rootOf w j).2.1 : Int) = i; rw [he]
      unfold pB at hb; omega
    · rcases (before_all hj).1 h with h | h
      · unfold pB at h ⊢; omega
      · have h1 : rk w j = 1 := by show ((rootOf w j).1 : Int) = 1; rw [h]
        have h2 : ri w j = i := by show ((rootOf w j).2.1 : Int) = i; rw [h]
        unfold pB; omega
theorem sall_l2a {w : den tWorld} {x : den tReply} {k : Nat} (hk : ¬ k = 0) (hk2 : k < 1000) (o : List Int) (t0 : (den tWorld)) (t2 : Bool) (t4 : Int) (t5 : Int) (t6 : (List Int))
    (nx : Comes (fun nf fm0 fm1 _ => innkeeplaw12_SightAll.l1 nf fm0 fm1 t0 t2 t4 t5 t6 (((k + 1 : Nat) : Int)) (w) (o)) (fun r => r.1.1 = true)) :
    Comes (fun nf fm0 fm1 fm2 => innkeeplaw12_SightAll.l2 nf fm0 fm1 fm2 t0 t2 t4 t5 t6 ((k : Int)) (0) (w) (o) (x)) (fun r => r.1.1 = true) := by
  rw [← wrap_succ (by omega)] at nx
  refine Comes.succ3 (fun nf fm0 fm1 fm2 => innkeeplaw12_SightAll.l2_eq nf fm0 fm1 fm2 _ _ _ _ _ _ _ _ _ _) ?_
  simp [-List.getD_eq_getElem?_getD, -List.length_eq_zero_iff, keepAll, freshHas, pathEq, eqPl, eqPl_f, wrap1, wrap0, hk, nx]
theorem sall_l2 {w : den tWorld} (ok : Ok w) {q0 : Nat} {p : Pl} (hpe : flPl (atOf w q0) = p) {lo hi : Nat → Prop} (hp : ∀ i, hi i → ¬ rootOf w i = p) (t0 : (den tWorld)) (t2 : Bool) (t4 : Int) (t5 : Int) (t6 : (List Int))
    (nx : ∀ o, Tal w (before w p lo (undOf w p).length) (before w p hi (undOf w p).length) o → Comes (fun nf fm0 fm1 _ => innkeeplaw12_SightAll.l1 nf fm0 fm1 t0 t2 t4 t5 t6 (((1 : Nat) : Int)) (w) (o)) (fun r => r.1.1 = true)) :
    ∀ j, j ≤ (undOf w p).length → ∀ o, Tal w (before w p lo j) (before w p hi j) o → Comes (fun nf fm0 fm1 fm2 => innkeeplaw12_SightAll.l2 nf fm0 fm1 fm2 t0 t2 t4 t5 t6 (0) ((j : Int)) (w) (o) (lookR w q0)) (fun r => r.1.1 = true) := by
  have hlen := ok.sm.wh
  have hul := undL_len w p (List.length (w.2.2.2.1 : List (den tPlace)))
  have hit : ((lookR w q0).2.2.2.2.1 : List Sn) = undOf w p := by rw [← hpe]; rfl
  refine upto (fun o ho => ?_) (fun j hj next o ho => ?_)
  · have nx := nx o ho
    refine Comes.succ3 (fun nf fm0 fm1 fm2 => innkeeplaw12_SightAll.l2_eq nf fm0 fm1 fm2 _ _ _ _ _ _ _ _ _ _) ?_
    simp [-List.getD_eq_getElem?_getD, -List.length_eq_zero_iff, keepAll, freshHas, pathEq, eqPl, eqPl_f, wrap1, wrap0, hit]
    exact nx
  · obtain ⟨q, hql, he, hqr⟩ := und_get hj
    have hol := ho.1
    have hm : ((List.getD (undOf w p) j (dft tSeen)).1 : Int) = (q : Int) := by rw [he]
    obtain ⟨h0, ht⟩ := ho.step hp hj hm hql hqr
    have next := next _ ht
    have hlt : j < 4611686018427387904 := by
      have : (undOf w p).length ≤ 1048576 := Nat.le_trans hul hlen
      omega
    rw [← wrap_succ (by omega)] at next
    refine Comes.succ3 (fun nf fm0 fm1 fm2 => innkeeplaw12_SightAll.l2_eq nf fm0 fm1 fm2 _ _ _ _ _ _ _ _ _ _) ?_
    simp [-List.getD_eq_getElem?_getD, -List.length_eq_zero_iff, keepAll, freshHas, pathEq, eqPl, eqPl_f, wrap1, wrap0, hit, hj, hql, he, hol, h0, next]
theorem sall_l1 {w : den tWorld} (ok : Ok w) (n : Nat) (hn : n < 1000) (t0 : (den tWorld)) (t2 : Bool) (t4 : Int)
    (nx : ∀ o, Tal w noP (pA w (n + 1 : Nat)) o → Comes (fun nf fm0 _ _ => innkeeplaw12_SightAll.l0 nf fm0 t0 t2 t4 (((n + 1 : Nat) : Int)) (w) (o)) (fun r => r.1.1 = true)) :
    ∀ k, k ≤ (preOf w n).length → ∀ o, Tal w noP (pA w (if k = 0 then n else (n + 1 : Nat))) o → Comes (fun nf fm0 fm1 _ => innkeeplaw12_SightAll.l1 nf fm0 fm1 t0 t2 t4 ((n : Int)) (preOf w n) ((k : Int)) (w) (o)) (fun r => r.1.1 = true) := by
  have hpl := pre_sm ok.sm n
  have hp1 := ok.right.may.p1
  have ha1 := ok.right.a1
  have hpl2 : (preOf w n).length ≤ List.length (w.2.1 : List Int) := preL_len w n _
  refine upto (fun o ho => ?_) (fun k hk next o ho => ?_)
  · have nx := nx o (ho.mono (fun _ _ h => h) (fun i hi h => by unfold pA at h ⊢; split at h <;> omega))
    rw [← wrap_succ (by omega)] at nx
    refine Comes.succ2 (fun nf fm0 fm1 _ => innkeeplaw12_SightAll.l1_eq nf fm0 fm1 _ _ _ _ _ _ _ _) ?_
    simp [-List.getD_eq_getElem?_getD, -List.length_eq_zero_iff, keepAll, freshHas, pathEq, eqPl, eqPl_f, wrap1, wrap0, nx]
  · have h0 : 0 < (preOf w n).length := by omega
    obtain ⟨q, hq, eq, aq⟩ := pre_get hk
    obtain ⟨q0, hq0, eq0, aq0⟩ := pre_get h0
    have hlk : lookR w q = lookR w q0 := by
      have : atOf w q = atOf w q0 := aq.trans aq0.symm
      unfold lookR; rw [this]
    have hroom : ((lookR w q0).2.2.1 : Int) = (n : Int) := aq0
    have hps : ((lookR w q0).2.2.2.1 : List Int) = preOf w n := by show preOf w (atOf w q0) = _; rw [show atOf w q0 = (n : Int) from aq0]
    have hs := lookR_sm ok.sm q0
    refine Comes.succ2 (fun nf fm0 fm1 _ => innkeeplaw12_SightAll.l1_eq nf fm0 fm1 _ _ _ _ _ _ _ _) ?_
    simp [-List.getD_eq_getElem?_getD, -List.length_eq_zero_iff, keepAll, freshHas, pathEq, eqPl, eqPl_f, wrap1, wrap0, hk, h0, eq, eq0, hq, aq, comes_call (look_spec w ok hq), (look_spec w ok hq).prop, comes_call (look_spec w ok hq0), (look_spec w ok hq0).prop, hlk, comes_call (may5_spec (may_look ok.right hq0)), (may5_spec (may_look ok.right hq0)).prop, comes_call (same5_spec (lookR w q0) (lookR w q0) hs.1 hs.2), (same5_spec (lookR w q0) (lookR w q0) hs.1 hs.2).bprop, hroom, hps, comes_call (ints_spec (preOf w n) (preOf w n) hpl), (ints_spec (preOf w n) (preOf w n) hpl).bprop]
    by_cases hk0 : k = 0
    · subst hk0
      rw [if_pos rfl] at ho
      refine (sall_l2 ok (q0 := q0) (p := flPl (n : Int)) (by show flPl (atOf w q0) = _; rw [show atOf w q0 = (n : Int) from aq0]) (lo := noP) (hi := pA w n) (fun j hb he => ?_) _ _ _ _ _ (fun o ho => next o (ho.mono (fun _ _ h => h.elim) (fun j hj h => ?_))) 0 (Nat.zero_le _) o (ho.mono (fun j _ h => before_none.1 h) (fun j _ h => before_none.2 h))).enter2
      · have h1 : rk w j = 0 := by show ((rootOf w j).1 : Int) = 0; rw [he]
        have h2 : ri w j = n := by show ((rootOf w j).2.1 : Int) = n; rw [he]
        unfold pA at hb; omega
      · rw [if_neg (by omega)]
        rcases (before_all hj).1 h with h | h
        · unfold pA at h ⊢; omega
        · have h1 : rk w j = 0 := by show ((rootOf w j).1 : Int) = 0; rw [h]
          have h2 : ri w j = n := by show ((rootOf w j).2.1 : Int) = n; rw [h]
          unfold pA; omega
    · rw [if_neg hk0] at ho
      exact (sall_l2a hk0 (by omega) o _ _ _ _ _ (next o (by rw [if_neg (by omega)]; exact ho))).enter2
theorem sall_l0 {w : den tWorld} (ok : Ok w) (t0 : (den tWorld)) (t2 : Bool) :
    ∀ n, n ≤ List.length (w.1.1 : List (List Int)) → ∀ o, Tal w noP (pA w n) o → Comes (fun nf fm0 _ _ => innkeeplaw12_SightAll.l0 nf fm0 t0 t2 ((lessL w.2.1 (n : Int) (List.length (w.2.1 : List Int)) : Int)) ((n : Int)) (w) (o)) (fun r => r.1.1 = true) := by
  have r1 := ok.right.may.r1
  refine upto (fun o ho => ?_) (fun n hn next o ho => ?_)
  · have hall : lessL w.2.1 (List.length (w.1.1 : List (List Int)) : Int) (List.length (w.2.1 : List Int)) = List.length (w.2.1 : List Int) := lessL_all _ (fun i hi => (ok.right.at_ i hi).1.2)
    refine Comes.succ1 (fun nf fm0 _ _ => innkeeplaw12_SightAll.l0_eq nf fm0 _ _ _ _ _ _) ?_
    simp [-List.getD_eq_getElem?_getD, -List.length_eq_zero_iff, keepAll, freshHas, pathEq, eqPl, eqPl_f, wrap1, wrap0, hall]
    exact (sall_l3 ok _ _ _ 0 (Nat.zero_le _) o (ho.mono (fun _ _ h => h) (fun i hi h => by unfold pA at h; unfold pB; exact .inl h.1))).enter
  · have hs := lessL_succ w n (List.length (w.2.1 : List Int))
    have hle := lessL_le w.2.1 n (List.length (w.2.1 : List Int))
    have hsm := ok.sm.a
    have hp := pre_sm ok.sm n
    have e : IntKind.wrap .i64 ((lessL w.2.1 (n : Int) (List.length (w.2.1 : List Int)) : Int) + ((preOf w n).length : Int)) = (lessL w.2.1 ((n + 1 : Nat) : Int) (List.length (w.2.1 : List Int)) : Int) := by
      rw [wrap_id (by omega) (by omega), show (((n + 1 : Nat) : Int)) = (n : Int) + 1 by omega, hs]
      show _ = ((lessL w.2.1 n (List.length (w.2.1 : List Int)) + (preOf w n).length : Nat) : Int)
      omega
    refine Comes.succ1 (fun nf fm0 _ _ => innkeeplaw12_SightAll.l0_eq nf fm0 _ _ _ _ _ _) ?_
    simp [-List.getD_eq_getElem?_getD, -List.length_eq_zero_iff, keepAll, freshHas, pathEq, eqPl, eqPl_f, wrap1, wrap0, hn, comes_call (present_spec w ok.sm n), (present_spec w ok.sm n).prop, e]
    exact (sall_l1 ok n (by omega) _ _ _ next 0 (Nat.zero_le _) o (by rw [if_pos rfl]; exact ho)).enter1
theorem sightAll_true (w : den tWorld) (hw : wfD tWorld w) : Comes (fun nf _ _ _ => innkeeplaw12_SightAll nf (w)) (fun r => r.1.1 = true) := by
  refine Comes.succ (fun nf _ _ _ => innkeeplaw12_SightAll.eq nf _) ?_
  simp [-List.getD_eq_getElem?_getD, -List.length_eq_zero_iff, keepAll, freshHas, pathEq, eqPl, eqPl_f, wrap1, wrap0, comes_call (awake12), (awake12).prop, comes_call ((fits12 w).fit), ((fits12 w).fit).bprop]
  intro fit
  have ok := ok_of hw fit.few fit.right
  have hwh := ok.sm.wh
  refine ⟨by omega, ?_⟩
  have h := sall_l0 ok w false 0 (Nat.zero_le _) _ ((Tal.zero w (lo := noP) (hi := noP) (fun _ h => h)).mono (fun _ _ h => h) (fun i hi h => h.elim))
  rw [lessL_none (x := ((0 : Nat) : Int)) _ (fun i hi => Int.not_lt.2 (ok.right.at_ i hi).1.1)] at h
  exact h.enter
end Go.Proofs.Ytkoefhpkdghpnaa.Ghost
