/- What functions come to, and that the statements are answered with 'true'. Conditions: none. -/
import Derived.Test.YtkoefhpkdghpnaaS
import Derived.Test.YtkoefhpkdghpnaaGE
import Derived.Test.YtkoefhpkdghpnaaP1
import Derived.Test.YtkoefhpkdghpnaaP2
import Derived.Test.YtkoefhpkdghpnaaP3
import Derived.Test.YtkoefhpkdghpnaaP4
set_option linter.unusedVariables false
set_option linter.unusedSimpArgs false
set_option linter.unusedSectionVars false
set_option linter.unnecessarySimpa false
namespace Go.Proofs.Ytkoefhpkdghpnaa.Ghost
open Go
theorem Comes.nT {R : Type} {Q : R → Prop} {c : Bool} {A B : Nat → Nat → Nat → Nat → Option R} (hc : c = true) (h : Comes B Q) : Comes (fun n m k j => bif (!c) then A n m k j else B n m k j) Q := Comes.bifN (fun _ => h) (fun e => by rw [hc] at e; cases e)
theorem Comes.nF {R : Type} {Q : R → Prop} {c : Bool} {A B : Nat → Nat → Nat → Nat → Option R} (hc : c = false) (h : Comes A Q) : Comes (fun n m k j => bif (!c) then A n m k j else B n m k j) Q := Comes.bifN (fun e => by rw [hc] at e; cases e) (fun _ => h)
theorem roomI_put (w : den tWorld) {k : Nat} (hk : k < List.length (w.2.2.2.1 : List (den tPlace))) (q p : Pl) : roomI (put w k q) p = roomI w p + (if List.getD (w.2.2.2.1 : List (den tPlace)) k (dft tPlace) = p then 1 else 0) - (if q = p then 1 else 0) := by
  unfold roomI
  rw [put_len]
  show capI w.1 p - (manyPl (List.set (w.2.2.2.1 : List (den tPlace)) k q) p _ : Int) = _
  have := manyPl_set w.2.2.2.1 k q p hk (List.length (w.2.2.2.1 : List (den tPlace)))
  simp only [hk, true_and] at this
  by_cases h1 : List.getD (w.2.2.2.1 : List (den tPlace)) k (dft tPlace) = p
  · rw [if_pos h1] at this ⊢
    by_cases h2 : q = p
    · rw [if_pos h2] at this ⊢; omega
    · rw [if_neg h2] at this ⊢; omega
  · rw [if_neg h1] at this ⊢
    by_cases h2 : q = p
    · rw [if_pos h2] at this ⊢; omega
    · rw [if_neg h2] at this ⊢; omega
end Go.Proofs.Ytkoefhpkdghpnaa.Ghost
namespace Go.Proofs.Ytkoefhpkdghpnaa.Ghost
open Go
theorem rootP_succ {l : List Pl} : (k : Nat) → (p : Pl) → Ends l k p → rootP l (k + 1) p = rootP l k p
  | 0, p, h => by
    have h : ¬ p.1 = (2 : Int) := h
    simp only [rootP]; rw [if_neg h]
  | k + 1, p, h => by
    show (if p.1 = (2 : Int) then rootP l (k + 1) (List.getD l (Int.toNat p.2.1) (dft tPlace)) else p) = (if p.1 = (2 : Int) then rootP l k (List.getD l (Int.toNat p.2.1) (dft tPlace)) else p)
    by_cases h2 : p.1 = (2 : Int)
    · rw [if_pos h2, if_pos h2, rootP_succ k _ (h h2)]
    · rw [if_neg h2, if_neg h2]
/-- what is in a box hangs from where the box does -/
theorem root_box {w : den tWorld} (h : RightP w) {j : Nat} (hj : j < List.length (w.2.2.2.1 : List (den tPlace))) (h2 : (plOf w j).1 = (2 : Int)) : ∃ b : Nat, (plOf w j).2.1 = (b : Int) ∧ b < List.length (w.2.2.2.1 : List (den tPlace)) ∧ rootOf w j = rootOf w b := by
  have hin := h.inPl j hj h2
  refine ⟨Int.toNat (plOf w j).2.1, (Int.toNat_of_nonneg hin.1).symm, (Int.toNat_lt hin.1).2 hin.2, ?_⟩
  have he : Ends w.2.2.2.1 50 (plOf w (Int.toNat (plOf w j).2.1)) := h.ends hj h2
  show rootP w.2.2.2.1 (50 + 1) (plOf w j) = rootP w.2.2.2.1 (50 + 1) (plOf w (Int.toNat (plOf w j).2.1))
  rw [rootP_succ 50 _ he]
  show (if (plOf w j).1 = (2 : Int) then _ else _) = _
  rw [if_pos h2]
end Go.Proofs.Ytkoefhpkdghpnaa.Ghost
namespace Go.Proofs.Ytkoefhpkdghpnaa.Ghost
open Go
theorem mem_und {w : den tWorld} {p : Pl} {s : Sn} : {n : Nat} → (s ∈ undL w p n ↔ ∃ j, j < n ∧ s = ((j : Int), plOf w j, ()) ∧ rootOf w j = p)
  | 0 => ⟨fun h => by simp [undL] at h, fun ⟨j, h, _⟩ => by omega⟩
  | n + 1 => by
    simp only [undL, List.mem_append]
    rw [mem_und (n := n)]
    constructor
    · rintro (⟨j, h1, h2⟩ | h)
      · exact ⟨j, by omega, h2⟩
      · by_cases hr : rootOf w n = p
        · rw [if_pos hr] at h; exact ⟨n, by omega, List.mem_singleton.1 h, hr⟩
        · rw [if_neg hr] at h; cases h
    · rintro ⟨j, h1, h2, h3⟩
      by_cases hj : j < n
      · exact .inl ⟨j, hj, h2, h3⟩
      · have : j = n := by omega
        subst this
        rw [if_pos h3]
        exact .inr (List.mem_singleton.2 h2)
theorem und_box {w : den tWorld} (h : RightP w) {p : Pl} {s : Sn} (hs : s ∈ undOf w p) (h2 : (s.2.1.1 : Int) = 2) : ∃ s', s' ∈ undOf w p ∧ (s'.1 : Int) = s.2.1.2.1 := by
  obtain ⟨j, hj, rfl, hr⟩ := mem_und.1 hs
  obtain ⟨b, e, hb, er⟩ := root_box h hj h2
  exact ⟨_, mem_und.2 ⟨b, hb, rfl, er.symm.trans hr⟩, e.symm⟩
end Go.Proofs.Ytkoefhpkdghpnaa.Ghost
namespace Go.Proofs.Ytkoefhpkdghpnaa.Ghost
open Go
theorem skeeps_l2 (w : den tWorld) (hs : Sm w) (t0 : den tWorld) (t1 : Int) (t4 : Bool) (t8 t9 : Int) (x y : den tReply) (l4 : List Sn) (l5 : List Int) : (r i : Nat) → (l : List Sn) → l.length ≤ 1048576 → i + r = l.length → Comes (fun n m _ _ => innkeeplaw12_SightKeeps.l2 n m t0 t1 t4 t8 t9 (i : Int) w w x y l4 l5 l) (fun r => r.1.1 = true)
  | 0, i, l, hl, hi => by
    refine Comes.succ1 (fun n m _ _ => innkeeplaw12_SightKeeps.l2_eq n m t0 t1 t4 t8 t9 i w w x y l4 l5 l) (Comes.bifF (decide_eq_false (by omega)) (Comes.call (same_spec _ _ hs hs) (fun v hv => Comes.ret (hv.2 rfl))))
  | r + 1, i, l, hl, hi => by
    refine Comes.succ1 (fun n m _ _ => innkeeplaw12_SightKeeps.l2_eq n m t0 t1 t4 t8 t9 i w w x y l4 l5 l) (Comes.bifT (decide_eq_true (by omega)) (Comes.ite (by omega) ?_))
    rw [wrap_succ (by omega)]
    exact skeeps_l2 w hs t0 t1 t4 t8 t9 x y l4 l5 r (i + 1) _ (by rw [List.length_set]; exact hl) (by rw [List.length_set]; omega)
theorem skeeps_l1 (w : den tWorld) (hs : Sm w) (t0 : den tWorld) (t1 : Int) (t4 : Bool) (t8 : Int) (x y : den tReply) (l4 l6 : List Sn) (h6 : l6.length ≤ 1048576) : (r i : Nat) → (l : List Int) → l.length ≤ 1048576 → i + r = l.length → Comes (fun n m _ _ => innkeeplaw12_SightKeeps.l1 n m t0 t1 t4 t8 (i : Int) w w x y l4 l l6) (fun r => r.1.1 = true)
  | 0, i, l, hl, hi => by
    refine Comes.succ1 (fun n m _ _ => innkeeplaw12_SightKeeps.l1_eq n m t0 t1 t4 t8 i w w x y l4 l l6) (Comes.bifF (decide_eq_false (by omega)) ?_)
    exact (skeeps_l2 w hs t0 t1 t4 t8 i x y l4 l _ 0 l6 h6 (Nat.zero_add _)).enter
  | r + 1, i, l, hl, hi => by
    refine Comes.succ1 (fun n m _ _ => innkeeplaw12_SightKeeps.l1_eq n m t0 t1 t4 t8 i w w x y l4 l l6) (Comes.bifT (decide_eq_true (by omega)) (Comes.ite (by omega) ?_))
    rw [wrap_succ (by omega)]
    exact skeeps_l1 w hs t0 t1 t4 t8 x y l4 l6 h6 r (i + 1) _ (by rw [List.length_set]; exact hl) (by rw [List.length_set]; omega)
theorem skeeps_l0 (w : den tWorld) (hs : Sm w) (t0 : den tWorld) (t1 : Int) (t4 : Bool) (x y : den tReply) (l5 : List Int) (l6 : List Sn) (h5 : l5.length ≤ 1048576) (h6 : l6.length ≤ 1048576) : (r i : Nat) → (l : List Sn) → l.length ≤ 1048576 → i + r = l.length → Comes (fun n m _ _ => innkeeplaw12_SightKeeps.l0 n m t0 t1 t4 (i : Int) w w x y l l5 l6) (fun r => r.1.1 = true)
  | 0, i, l, hl, hi => by
    refine Comes.succ1 (fun n m _ _ => innkeeplaw12_SightKeeps.l0_eq n m t0 t1 t4 i w w x y l l5 l6) (Comes.bifF (decide_eq_false (by omega)) ?_)
    exact (skeeps_l1 w hs t0 t1 t4 i x y l l6 h6 _ 0 l5 h5 (Nat.zero_add _)).enter
  | r + 1, i, l, hl, hi => by
    refine Comes.succ1 (fun n m _ _ => innkeeplaw12_SightKeeps.l0_eq n m t0 t1 t4 i w w x y l l5 l6) (Comes.bifT (decide_eq_true (by omega)) (Comes.ite (by omega) ?_))
    rw [wrap_succ (by omega)]
    exact skeeps_l0 w hs t0 t1 t4 x y l5 l6 h5 h6 r (i + 1) _ (by rw [List.length_set]; exact hl) (by rw [List.length_set]; omega)
theorem sightKeeps_true (w : den tWorld) (p : Int) (hw : wfD tWorld w) (hp : wfD (.int .u8) p) : Comes (fun n _ _ _ => innkeeplaw12_SightKeeps n w p) (fun r => r.1.1 = true) := by
  refine Comes.succ (fun n _ _ _ => innkeeplaw12_SightKeeps.eq n w p) (Comes.call awake12 (fun v1 h1 => Comes.bifN (fun _ => Comes.call (fits12 w) (fun v3 h3 => Comes.bifN (fun hf => ?_) (fun _ => Comes.call awake12 (fun v4 h4 => Comes.ret h4)))) (fun hb => by rw [h1] at hb; cases hb)))
  obtain ⟨hfew, hright⟩ := h3.1 hf
  have ok := ok_of hw hfew hright
  obtain ⟨i, hi, ei⟩ := index_of hp hright.pos
  have hpos := hright.pos
  rw [ei]
  refine Comes.call (copied_spec w ok.sm) (fun v5 h5 => ?_)
  subst h5
  refine Comes.iteN (by omega) (Comes.call (look_spec w ok hi) (fun v6 h6 => ?_))
  subst h6
  refine Comes.bifT rfl (Comes.iteN (by omega) (Comes.call (own_spec w ok hi) (fun v7 h7 => ?_)))
  subst h7
  have hs := lookR_sm ok.sm i
  have hs2 := ownR_sm ok.sm i
  exact Comes.bifT rfl (skeeps_l0 w ok.sm w p false _ _ _ _ hs.1 hs2.2 _ 0 _ hs.2 (Nat.zero_add _)).enter
/-! ### SightSame -/
def fnd (l : List Sn) (q : Int) : Nat → Bool
  | 0 => false
  | n + 1 => fnd l q n || decide (((List.getD l n (dft tSeen)).1 : Int) = q)
theorem fnd_true {l : List Sn} {q : Int} {s : Sn} (hs : s ∈ l) (hq : (s.1 : Int) = q) : fnd l q l.length = true := by
  have key : ∀ n, (∃ i, i < n ∧ ((List.getD l i (dft tSeen)).1 : Int) = q) → fnd l q n = true := by
    intro n
    induction n with
    | zero => rintro ⟨i, h, _⟩; omega
    | succ n ih =>
      rintro ⟨i, h1, h2⟩
      simp only [fnd, Bool.or_eq_true]
      by_cases hi : i < n
      · exact .inl (ih ⟨i, hi, h2⟩)
      · have : i = n := by omega
        subst this
        exact .inr (decide_eq_true h2)
  obtain ⟨i, hi, he⟩ := List.mem_iff_getElem.1 hs
  refine key _ ⟨i, hi, ?_⟩
  rw [List.getD_eq_getElem?_getD, List.getElem?_eq_getElem hi, he]
  exact hq
theorem ssame_l1 (t0 : den tWorld) (t1 t2 : Int) (t6 : Bool) (t7 t8 : Int) (w : den tWorld) (x y z : den tReply) (l : List Sn) (hl : l.length ≤ 1048576) (n0 : Nat) (hn0 : n0 < l.length) (hf : fnd l ((List.getD l n0 (dft tSeen)).2.1.2.1 : Int) l.length = true) 
    (next : Comes (fun n m _ _ => innkeeplaw12_SightSame.l0 n m t0 t1 t2 t6 t7 t8 ((n0 + 1 : Nat) : Int) w x y z l) (fun r => r.1.1 = true)) : (r i : Nat) → i + r = l.length → Comes (fun n m k _ => innkeeplaw12_SightSame.l1 n m k t0 t1 t2 t6 t7 t8 (n0 : Int) (fnd l ((List.getD l n0 (dft tSeen)).2.1.2.1 : Int) i) (i : Int) w x y z l) (fun r => r.1.1 = true)
  | 0, i, hi => by
    refine Comes.succ2 (fun n m k _ => innkeeplaw12_SightSame.l1_eq n m k t0 t1 t2 t6 t7 t8 n0 _ i w x y z l) (Comes.bifF (decide_eq_false (by omega)) ?_)
    rw [show i = l.length by omega, hf, wrap_succ (by omega)]
    exact Comes.nT rfl next
  | r + 1, i, hi => by
    have nx := ssame_l1 t0 t1 t2 t6 t7 t8 w x y z l hl n0 hn0 hf next r (i + 1) (by omega)
    rw [← wrap_succ (by omega)] at nx
    refine Comes.succ2 (fun n m k _ => innkeeplaw12_SightSame.l1_eq n m k t0 t1 t2 t6 t7 t8 n0 _ i w x y z l) (Comes.bifT (decide_eq_true (by omega)) (Comes.bif (fun h => ?_) (fun h => Comes.ite (by omega) (Comes.ite (by omega) ?_))))
    · simp only [fnd, h, Bool.true_or] at nx
      exact nx
    · simp only [fnd, h, Bool.false_or] at nx
      rw [Int.toNat_natCast, Int.toNat_natCast]
      exact nx
theorem ssame_l0 (t0 : den tWorld) (t1 t2 : Int) (t6 : Bool) (t7 t8 : Int) (w : den tWorld) (x y z : den tReply) (l : List Sn) (hl : l.length ≤ 1048576) (hbox : ∀ s ∈ l, (s.2.1.1 : Int) = 2 → ∃ s', s' ∈ l ∧ (s'.1 : Int) = s.2.1.2.1) : (r i : Nat) → i + r = l.length → Comes (fun n m _ _ => innkeeplaw12_SightSame.l0 n m t0 t1 t2 t6 t7 t8 (i : Int) w x y z l) (fun r => r.1.1 = true)
  | 0, i, hi => Comes.succ1 (fun n m _ _ => innkeeplaw12_SightSame.l0_eq n m t0 t1 t2 t6 t7 t8 i w x y z l) (Comes.bifF (decide_eq_false (by omega)) (Comes.ret rfl))
  | r + 1, i, hi => by
    have nx := ssame_l0 t0 t1 t2 t6 t7 t8 w x y z l hl hbox r (i + 1) (by omega)
    refine Comes.succ1 (fun n m _ _ => innkeeplaw12_SightSame.l0_eq n m t0 t1 t2 t6 t7 t8 i w x y z l) (Comes.bifT (decide_eq_true (by omega)) (Comes.ite (by omega) ?_))
    rw [Int.toNat_natCast]
    refine Comes.bifN (fun h2 => ?_) (fun _ => ?_)
    · obtain ⟨s', h3, h4⟩ := hbox _ (getD_mem' (dft tSeen) (show i < l.length by omega)) (of_decide_eq_true h2)
      exact (ssame_l1 t0 t1 t2 t6 t7 t8 w x y z l hl i (by omega) (fnd_true h3 h4) nx _ 0 (Nat.zero_add _)).enter1
    · rw [wrap_succ (by omega)]
      exact nx
theorem sightSame_true (w : den tWorld) (p q : Int) (hw : wfD tWorld w) (hp : wfD (.int .u8) p) (hq : wfD (.int .u8) q) : Comes (fun n _ _ _ => innkeeplaw12_SightSame n w p q) (fun r => r.1.1 = true) := by
  refine Comes.succ (fun n _ _ _ => innkeeplaw12_SightSame.eq n w p q) (Comes.call awake12 (fun v1 h1 => Comes.bifN (fun _ => Comes.call (fits12 w) (fun v3 h3 => Comes.bifN (fun hf => ?_) (fun _ => Comes.call awake12 (fun v4 h4 => Comes.ret h4)))) (fun hb => by rw [h1] at hb; cases hb)))
  obtain ⟨hfew, hright⟩ := h3.1 hf
  have ok := ok_of hw hfew hright
  obtain ⟨i, hi, ei⟩ := index_of hp hright.pos
  obtain ⟨k, hk, ek⟩ := index_of hq hright.pos
  have hpos := hright.pos
  rw [ei, ek]
  refine Comes.iteN (by omega) (Comes.iteN (by omega) (Comes.call (look_spec w ok hi) (fun v5 h5 => Comes.call (look_spec w ok hk) (fun v6 h6 => ?_))))
  subst h5 h6
  have hs := lookR_sm ok.sm i
  have hs2 := ownR_sm ok.sm i
  refine Comes.call (same5_spec _ _ hs.1 hs.2) (fun v7 h7 => Comes.ite (by omega) (Comes.ite (by omega) ?_))
  rw [Int.toNat_natCast, Int.toNat_natCast]
  have heq : lookR w i = lookR w k ↔ atOf w i = atOf w k := ⟨fun e => congrArg (fun x : den tReply => (x.2.2.1 : Int)) e, fun e => by unfold lookR; rw [e]⟩
  have hb : eqT .bool v7.1.1 (decide (atOf w i = atOf w k)) = true := by
    by_cases e : atOf w i = atOf w k
    · rw [decide_eq_true e, h7.2 (heq.2 e)]; rfl
    · have : v7.1.1 = false := by
        cases hv : v7.1.1 with
        | false => rfl
        | true => exact absurd (heq.1 (h7.1 hv)) e
      rw [decide_eq_false e, this]; rfl
  have g1 : (undOf w (flPl (atOf w i))).length ≤ List.length (w.2.2.2.1 : List (den tPlace)) := undL_len w _ _
  have g2 : (undOf w (mePl i)).length ≤ List.length (w.2.2.2.1 : List (den tPlace)) := undL_len w _ _
  have g3 := hfew.2.2.2.2.2.2.2
  refine Comes.nT hb (Comes.call (own_spec w ok hi) (fun v8 h8 => ?_))
  subst h8
  have e1 : List.length ((lookR w i).2.2.2.2.1 : List Sn) = (undOf w (flPl (atOf w i))).length := rfl
  have e2 : List.length ((ownR w i).2.2.2.2.1 : List Sn) = (undOf w (mePl i)).length := rfl
  have e3 : List.length (([] : List Sn) ++ ((lookR w i).2.2.2.2.1 : List Sn)) = (undOf w (flPl (atOf w i))).length := rfl
  have e4 : List.length ((([] : List Sn) ++ ((lookR w i).2.2.2.2.1 : List Sn)) ++ ((ownR w i).2.2.2.2.1 : List Sn)) = (undOf w (flPl (atOf w i))).length + (undOf w (mePl i)).length := by rw [List.length_append]; rfl
  refine Comes.ite ?_ (Comes.ite ?_ (ssame_l0 w p q false _ _ w _ _ _ _ ?_ ?_ _ 0 (Nat.zero_add _)).enter)
  · show 0 + (undOf w (flPl (atOf w i))).length ≤ 1048576; omega
  · show (undOf w (flPl (atOf w i))).length + (undOf w (mePl i)).length ≤ 1048576; omega
  · rw [e4]; omega
  · intro s hs h2
    have hs : s ∈ undOf w (flPl (atOf w i)) ∨ s ∈ undOf w (mePl i) := List.mem_append.1 hs
    rcases hs with hs | hs
    · obtain ⟨s', h3, h4⟩ := und_box hright hs h2
      exact ⟨s', List.mem_append.2 (.inl h3), h4⟩
    · obtain ⟨s', h3, h4⟩ := und_box hright hs h2
      exact ⟨s', List.mem_append.2 (.inr h3), h4⟩
end Go.Proofs.Ytkoefhpkdghpnaa.Ghost
