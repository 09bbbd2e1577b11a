/- What functions come to, and that the statements are answered with 'true'. Conditions: none. -/
import Derived.Test.YtkoefhpkdghpnaaS
import Derived.Test.YtkoefhpkdghpnaaGE
import Derived.Test.YtkoefhpkdghpnaaP1
import Derived.Test.YtkoefhpkdghpnaaP2
import Derived.Test.YtkoefhpkdghpnaaP3
set_option linter.unusedVariables false
set_option linter.unusedSimpArgs false
set_option linter.unusedSectionVars false
set_option linter.unnecessarySimpa false
namespace Go.Proofs.Ytkoefhpkdghpnaa.Ghost
open Go
/-- the players ahead of the n-th in a room -/
def preL (w : den tWorld) (room : Int) : Nat → List Int
  | 0 => []
  | n + 1 => preL w room n ++ (if List.getD (w.2.1 : List Int) n (0 : Int) = room then [(n : Int)] else [])
theorem preL_len (w : den tWorld) (room : Int) : (n : Nat) → (preL w room n).length ≤ n
  | 0 => Nat.le_refl 0
  | n + 1 => by
    simp only [preL, List.length_append]
    have := preL_len w room n
    split
    · simp only [List.length_singleton]; omega
    · simp only [List.length_nil]; omega
abbrev preOf (w : den tWorld) (room : Int) : List Int := preL w room (List.length (w.2.1 : List Int))
theorem present_l0 (w : den tWorld) (hs : Sm w) (room : Int) (t0 : den tWorld) (t4 : List Int) : (r i : Nat) → i + r = List.length (w.2.1 : List Int) →
    Comes (fun n m _ _ => sight_Present.l0 n m t0 room t4 (List.length (w.2.1 : List Int) : Int) (i : Int) w (preL w room i)) (fun r => r = ((preOf w room, ()), [(0, [])]))
  | 0, i, hi => by
    refine Comes.succ1 (fun n m _ _ => sight_Present.l0_eq n m t0 room t4 _ i w _) (Comes.bifF (decide_eq_false (by omega)) (Comes.ret ?_))
    rw [show i = List.length (w.2.1 : List Int) by omega]
  | r + 1, i, hi => by
    have hlen := hs.a
    have hle := preL_len w room i
    have next := present_l0 w hs room t0 t4 r (i + 1) (by omega)
    rw [← wrap_succ (by omega)] at next
    refine Comes.succ1 (fun n m _ _ => sight_Present.l0_eq n m t0 room t4 _ i w _) (Comes.bifT (decide_eq_true (by omega)) (Comes.ite (by omega) ?_))
    rw [Int.toNat_natCast]
    refine Comes.bif (fun h2 => Comes.ite (by omega) ?_) (fun h2 => ?_)
    · have e : preL w room (i + 1) = preL w room i ++ [(i : Int)] := by
        simp only [preL]; rw [if_pos (of_decide_eq_true h2)]
      rw [e] at next
      exact next
    · have e : preL w room (i + 1) = preL w room i := by
        simp only [preL]; rw [if_neg (of_decide_eq_false h2), List.append_nil]
      rw [e] at next
      exact next
theorem present_spec (w : den tWorld) (hs : Sm w) (room : Int) : Comes (fun n _ _ _ => sight_Present n w room) (fun r => r = ((preOf w room, ()), [(0, [])])) :=
  Comes.succ (fun n _ _ _ => sight_Present.eq n w room) (present_l0 w hs room w [] _ 0 (Nat.zero_add _)).enter
theorem refPresent_l0 (w : den tWorld) (hs : Sm w) (room : Int) (t0 : den tWorld) (t4 : List Int) : (r i : Nat) → i + r = List.length (w.2.1 : List Int) →
    Comes (fun n m _ _ => innkeepref12_Present.l0 n m t0 room t4 (i : Int) w (preL w room i)) (fun r => r = ((preOf w room, ()), [(0, [])]))
  | 0, i, hi => by
    refine Comes.succ1 (fun n m _ _ => innkeepref12_Present.l0_eq n m t0 room t4 i w _) (Comes.bifF (decide_eq_false (by omega)) (Comes.ret ?_))
    rw [show i = List.length (w.2.1 : List Int) by omega]
  | r + 1, i, hi => by
    have hlen := hs.a
    have hle := preL_len w room i
    have next := refPresent_l0 w hs room t0 t4 r (i + 1) (by omega)
    rw [← wrap_succ (by omega)] at next
    refine Comes.succ1 (fun n m _ _ => innkeepref12_Present.l0_eq n m t0 room t4 i w _) (Comes.bifT (decide_eq_true (by omega)) (Comes.ite (by omega) ?_))
    rw [Int.toNat_natCast]
    refine Comes.bif (fun h2 => Comes.ite (by omega) ?_) (fun h2 => ?_)
    · have e : preL w room (i + 1) = preL w room i ++ [(i : Int)] := by
        simp only [preL]; rw [if_pos (of_decide_eq_true h2)]
      rw [e] at next
      exact next
    · have e : preL w room (i + 1) = preL w room i := by
        simp only [preL]; rw [if_neg (of_decide_eq_false h2), List.append_nil]
      rw [e] at next
      exact next
theorem refPresent_spec (w : den tWorld) (hs : Sm w) (room : Int) : Comes (fun n _ _ _ => innkeepref12_Present n w room) (fun r => r = ((preOf w room, ()), [(0, [])])) :=
  Comes.succ (fun n _ _ _ => innkeepref12_Present.eq n w room) (refPresent_l0 w hs room w [] _ 0 (Nat.zero_add _)).enter
abbrev atOf (w : den tWorld) (i : Nat) : Int := List.getD (w.2.1 : List Int) i (0 : Int)
abbrev coinOf (w : den tWorld) (i : Nat) : Int := List.getD (w.2.2.1 : List Int) i (0 : Int)
abbrev flPl (r : Int) : Pl := ((0 : Int), r, ())
abbrev mePl (i : Nat) : Pl := ((1 : Int), (i : Int), ())
def lookR (w : den tWorld) (i : Nat) : den tReply := ((0 : Int), (9 : Int), atOf w i, preOf w (atOf w i), undOf w (flPl (atOf w i)), (0 : Int), ())
def ownR (w : den tWorld) (i : Nat) : den tReply := ((0 : Int), (10 : Int), (0 : Int), ([] : List Int), undOf w (mePl i), coinOf w i, ())
theorem look_spec (w : den tWorld) (ok : Ok w) {i : Nat} (hi : i < List.length (w.2.1 : List Int)) : Comes (fun n _ _ _ => sight_Look n w (i : Int)) (fun r => r = ((lookR w i, ()), [(0, [3]), (0, [4])])) := by
  refine Comes.succ (fun n _ _ _ => sight_Look.eq n w i) (Comes.ite (by omega) ?_)
  rw [Int.toNat_natCast]
  refine Comes.call (present_spec w ok.sm _) (fun v hv => ?_)
  subst hv
  refine Comes.bifT rfl (Comes.call (treeUnder_spec w ok _) (fun u hu => ?_))
  subst hu
  exact Comes.bifT rfl (Comes.ret rfl)
theorem refLook_spec (w : den tWorld) (ok : Ok w) {i : Nat} (hi : i < List.length (w.2.1 : List Int)) : Comes (fun n _ _ _ => innkeepref12_Look n w (i : Int)) (fun r => r.1.1 = lookR w i) := by
  refine Comes.succ (fun n _ _ _ => innkeepref12_Look.eq n w i) (Comes.ite (by omega) (Comes.ite (by omega) ?_))
  rw [Int.toNat_natCast]
  refine Comes.call (refPresent_spec w ok.sm _) (fun v hv => ?_)
  subst hv
  refine Comes.ite (by omega) (Comes.call (refUnder_spec w ok _) (fun u hu => ?_))
  subst hu
  exact Comes.ret rfl
theorem own_spec (w : den tWorld) (ok : Ok w) {i : Nat} (hi : i < List.length (w.2.1 : List Int)) : Comes (fun n _ _ _ => sight_Own n w (i : Int)) (fun r => r = ((ownR w i, ()), [(0, [4])])) := by
  have h1 := ok.right.a1
  have h2 := ok.right.c1
  refine Comes.succ (fun n _ _ _ => sight_Own.eq n w i) (Comes.ite (by omega) (Comes.call (treeUnder_spec w ok _) (fun u hu => ?_)))
  subst hu
  rw [Int.toNat_natCast]
  exact Comes.bifT rfl (Comes.ret rfl)
theorem refOwn_spec (w : den tWorld) (ok : Ok w) {i : Nat} (hi : i < List.length (w.2.1 : List Int)) : Comes (fun n _ _ _ => innkeepref12_Own n w (i : Int)) (fun r => r.1.1 = ownR w i) := by
  have h1 := ok.right.a1
  have h2 := ok.right.c1
  refine Comes.succ (fun n _ _ _ => innkeepref12_Own.eq n w i) (Comes.ite (by omega) (Comes.call (refUnder_spec w ok _) (fun u hu => ?_)))
  subst hu
  rw [Int.toNat_natCast]
  exact Comes.ret rfl
theorem same5_spec (a b : den tReply) (h1 : List.length (a.2.2.2.1 : List Int) ≤ 1048576) (h2 : List.length (a.2.2.2.2.1 : List Sn) ≤ 1048576) : Comes (fun n _ _ _ => innkeepref05_Same n a b) (fun r => r.1.1 = true ↔ a = b) := by
  have no : ∀ {c : innkeepref05_Same.R}, c = ((false, ()), []) → ¬ a = b → (c.1.1 = true ↔ a = b) := fun hc hn => by subst hc; exact ⟨fun e => (by cases e), fun e => absurd e hn⟩
  refine Comes.succ (fun n _ _ _ => innkeepref05_Same.eq n a b) (Comes.bif (fun e1 => Comes.bif (fun e2 => Comes.bif (fun e3 => Comes.bif (fun e4 => Comes.call (ints_spec _ _ h1) (fun v hv => Comes.bif (fun e5 => Comes.call (seens_spec _ _ h2) (fun u hu => Comes.ret ?_)) (fun e5 => Comes.ret (no rfl (fun e => ?_))))) (fun e4 => Comes.ret (no rfl (fun e => of_decide_eq_false e4 (by rw [e])))))
    (fun e3 => Comes.ret (no rfl (fun e => of_decide_eq_false e3 (by rw [e]))))) (fun e2 => Comes.ret (no rfl (fun e => of_decide_eq_false e2 (by rw [e]))))) (fun e1 => Comes.ret (no rfl (fun e => of_decide_eq_false e1 (by rw [e])))))
  · refine hu.trans ⟨fun e6 => ?_, fun e => by rw [e]⟩
    exact Prod.ext (of_decide_eq_true e1) (Prod.ext (of_decide_eq_true e2) (Prod.ext (of_decide_eq_true e3) (Prod.ext (hv.1 e5) (Prod.ext e6 (Prod.ext (of_decide_eq_true e4) rfl)))))
  · rw [hv.2 (by rw [e])] at e5; cases e5
theorem awake12 : Comes (fun n _ _ _ => innkeeplaw12_awake n) (fun r => r.1.1 = true) := Comes.one 60 (r := ((true, ()), [])) (by kernel_rfl) rfl
theorem fits12 (w : den tWorld) : Comes (fun n _ _ _ => innkeeplaw12_fits n w) (fun r => r.1.1 = true ↔ FewP w ∧ RightP w) := by
  refine Comes.succ (fun n _ _ _ => innkeeplaw12_fits.eq n w) (Comes.call (few_spec w) (fun v hv => Comes.bif (fun hb => Comes.call (right_spec w) (fun u hu => Comes.ret ?_)) (fun hb => Comes.ret ?_)))
  · exact ⟨fun e => ⟨hv.1 hb, hu.1 e⟩, fun e => hu.2 e.2⟩
  · exact ⟨(fun e => by cases e), fun e => by rw [hv.2 e.1] at hb; cases hb⟩
theorem lookR_sm {w : den tWorld} (hs : Sm w) (i : Nat) : List.length ((lookR w i).2.2.2.1 : List Int) ≤ 1048576 ∧ List.length ((lookR w i).2.2.2.2.1 : List Sn) ≤ 1048576 := by
  have h1 := hs.a
  have h2 := hs.wh
  have h3 := preL_len w (atOf w i) (List.length (w.2.1 : List Int))
  have h4 := undL_len w (flPl (atOf w i)) (List.length (w.2.2.2.1 : List (den tPlace)))
  exact ⟨Nat.le_trans h3 h1, Nat.le_trans h4 h2⟩
theorem ownR_sm {w : den tWorld} (hs : Sm w) (i : Nat) : List.length ((ownR w i).2.2.2.1 : List Int) ≤ 1048576 ∧ List.length ((ownR w i).2.2.2.2.1 : List Sn) ≤ 1048576 := by
  have h2 := hs.wh
  have h4 := undL_len w (mePl i) (List.length (w.2.2.2.1 : List (den tPlace)))
  exact ⟨Nat.zero_le _, Nat.le_trans h4 h2⟩
theorem RightP.exits {w : den tWorld} (h : RightP w) : 0 < List.length (w.1.1 : List (List Int)) := Int.ofNat_lt.1 (Int.lt_of_le_of_lt (h.at_ 0 h.pos).1.1 (h.at_ 0 h.pos).1.2)
/-! ### SightTells -/
theorem sightTells_true (w : den tWorld) (p room : Int) (hw : wfD tWorld w) (hp : wfD (.int .u8) p) (hroom : wfD (.int .u8) room) : Comes (fun n _ _ _ => innkeeplaw12_SightTells n w p room) (fun r => r.1.1 = true) := by
  refine Comes.succ (fun n _ _ _ => innkeeplaw12_SightTells.eq n w p room) (Comes.call awake12 (fun v1 h1 => Comes.bifN (fun _ => Comes.call (fits12 w) (fun v3 h3 => Comes.bifN (fun hf => ?_) (fun _ => Comes.call awake12 (fun v4 h4 => Comes.ret h4)))) (fun hb => by rw [h1] at hb; cases hb)))
  obtain ⟨hfew, hright⟩ := h3.1 hf
  have ok := ok_of hw hfew hright
  obtain ⟨i, hi, ei⟩ := index_of hp hright.pos
  have hpos := hright.pos
  have hex := hright.exits
  rw [ei]
  refine Comes.iteN (by omega) (Comes.iteN (by omega) (Comes.call (look_spec w ok hi) (fun v5 h5 => Comes.call (refLook_spec w ok hi) (fun v6 h6 => ?_))))
  rw [h6]
  subst h5
  have hs := lookR_sm ok.sm i
  have hs2 := ownR_sm ok.sm i
  refine Comes.call (same5_spec _ _ hs.1 hs.2) (fun v7 h7 => Comes.bifT (h7.2 rfl) (Comes.call (own_spec w ok hi) (fun v8 h8 => Comes.call (refOwn_spec w ok hi) (fun v9 h9 => ?_))))
  rw [h9]
  subst h8
  refine Comes.call (same5_spec _ _ hs2.1 hs2.2) (fun v10 h10 => Comes.bifT (h10.2 rfl) (Comes.call (present_spec w ok.sm _) (fun v11 h11 => Comes.call (refPresent_spec w ok.sm _) (fun v12 h12 => ?_))))
  subst h11 h12
  refine Comes.call (ints_spec _ _ ?_) (fun v13 h13 => Comes.ret (h13.2 rfl))
  exact Nat.le_trans (preL_len _ _ _) ok.sm.a
end Go.Proofs.Ytkoefhpkdghpnaa.Ghost
