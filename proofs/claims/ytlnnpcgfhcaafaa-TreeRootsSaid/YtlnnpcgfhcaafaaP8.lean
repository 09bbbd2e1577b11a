/- What functions come to, and that the statements are answered with 'true'. Conditions: none. -/
import Derived.Test.YtlnnpcgfhcaafaaS
import Derived.Test.YtlnnpcgfhcaafaaGE
import Derived.Test.YtlnnpcgfhcaafaaP1
import Derived.Test.YtlnnpcgfhcaafaaP2
import Derived.Test.YtlnnpcgfhcaafaaP3
import Derived.Test.YtlnnpcgfhcaafaaP4
import Derived.Test.YtlnnpcgfhcaafaaP5
import Derived.Test.YtlnnpcgfhcaafaaP6
import Derived.Test.YtlnnpcgfhcaafaaP7
set_option linter.unusedVariables false
set_option linter.unusedSimpArgs false
set_option linter.unusedSectionVars false
set_option linter.unnecessarySimpa false
namespace Go.Proofs.Ytlnnpcgfhcaafaa.Ghost
open Go
theorem und_pw (w : den tWorld) (p : Pl) : (n : Nat) → (undL w p n).Pairwise (fun a b : Sn => (a.1 : Int) < b.1)
  | 0 => .nil
  | n + 1 => by
    simp only [undL]
    rw [List.pairwise_append]
    refine ⟨und_pw w p n, ?_, fun a ha b hb => ?_⟩
    · split
      · exact List.pairwise_singleton _ _
      · exact .nil
    · obtain ⟨j, h1, rfl, _⟩ := mem_und.1 ha
      by_cases hp : rootOf w n = p
      · rw [if_pos hp] at hb
        rw [List.mem_singleton.1 hb]
        show (j : Int) < (n : Int)
        omega
      · rw [if_neg hp] at hb; cases hb
/-- the j-th of what hangs from a place -/
theorem und_get {w : den tWorld} {p : Pl} {j : Nat} (hj : j < (undOf w p).length) : ∃ m, m < List.length (w.2.2.2.1 : List (den tPlace)) ∧ List.getD (undOf w p) j (dft tSeen) = ((m : Int), plOf w m, ()) ∧ rootOf w m = p :=
  mem_und.1 (getD_mem' (dft tSeen) hj)
theorem und_lt {w : den tWorld} {p : Pl} {i j : Nat} (hij : i < j) (hj : j < (undOf w p).length) : ((List.getD (undOf w p) i (dft tSeen)).1 : Int) < (List.getD (undOf w p) j (dft tSeen)).1 := by
  have hi : i < (undOf w p).length := Nat.lt_trans hij hj
  have := List.pairwise_iff_getElem.1 (und_pw w p (List.length (w.2.2.2.1 : List (den tPlace)))) i j hi hj hij
  rw [List.getD_eq_getElem?_getD, List.getD_eq_getElem?_getD, List.getElem?_eq_getElem hj, List.getElem?_eq_getElem hi]
  exact this
theorem undL_succ (w : den tWorld) (p : Pl) (n : Nat) : (undL w p (n + 1)).length = (undL w p n).length + (if rootOf w n = p then 1 else 0) := by
  simp only [undL, List.length_append]
  split <;> rfl
theorem und_moved {w w' : den tWorld} {k : Nat} {q : Pl} {d' : Nat} (m : MovedTo w w' k q d') (h' : RightP w') (hl : List.length (w'.2.2.2.1 : List (den tPlace)) = List.length (w.2.2.2.1 : List (den tPlace))) {p : Pl} (hp : rootOf w k = p) (hpq : ¬ q = p) :
    (n : Nat) → n ≤ List.length (w.2.2.2.1 : List (den tPlace)) → (undL w p n).length + (undL w q n).length = (undL w' p n).length + (undL w' q n).length ∧ (undL w' p n).length + (if k < n then 1 else 0) ≤ (undL w p n).length
  | 0, _ => by simp [undL]
  | n + 1, hn => by
    obtain ⟨ih1, ih2⟩ := und_moved m h' hl hp hpq n (by omega)
    obtain ⟨e1, e2⟩ := m.eqs h' hl (show n < _ by omega)
    rw [undL_succ, undL_succ, undL_succ, undL_succ]
    by_cases hw : WiW w n k
    · obtain ⟨a, _, _, b⟩ := e1 hw
      rw [a, b, hp, if_pos rfl, if_neg (fun e => hpq e.symm), if_neg hpq, if_pos rfl]
      constructor
      · omega
      · split at ih2 <;> split <;> omega
    · obtain ⟨a, _⟩ := e2 hw
      rw [a]
      have : ¬ n = k := fun e => hw (by subst e; exact .refl n)
      constructor
      · omega
      · split at ih2 <;> split <;> split <;> omega
/-! ### How often each item is told -/
/-- each item was told at most once: 'lo': those that were; 'hi': those that may have been -/
def Tal (w : den tWorld) (lo hi : Nat → Prop) (o : List Int) : Prop := o.length = List.length (w.2.2.2.1 : List (den tPlace)) ∧ ∀ i, i < List.length (w.2.2.2.1 : List (den tPlace)) → (List.getD o i (0 : Int) = 0 ∧ ¬ lo i) ∨ (List.getD o i (0 : Int) = 1 ∧ hi i)
theorem Tal.mono {w : den tWorld} {lo hi lo' hi' : Nat → Prop} {o : List Int} (h : Tal w lo hi o) (hl : ∀ i, i < List.length (w.2.2.2.1 : List (den tPlace)) → lo' i → lo i) (hh : ∀ i, i < List.length (w.2.2.2.1 : List (den tPlace)) → hi i → hi' i) : Tal w lo' hi' o :=
  ⟨h.1, fun i hi => (h.2 i hi).imp (fun e => ⟨e.1, fun e' => e.2 (hl i hi e')⟩) (fun e => ⟨e.1, hh i hi e.2⟩)⟩
theorem Tal.zero (w : den tWorld) {lo hi : Nat → Prop} (h : ∀ i, ¬ lo i) : Tal w lo hi (List.replicate (List.length (w.2.2.2.1 : List (den tPlace))) 0) :=
  ⟨List.length_replicate, fun i hi => .inl ⟨by rw [List.getD_eq_getElem?_getD, List.getElem?_replicate, if_pos hi]; rfl, h i⟩⟩
def before (w : den tWorld) (p : Pl) (proc : Nat → Prop) (j : Nat) (i : Nat) : Prop := proc i ∨ ∃ j', j' < j ∧ j' < (undOf w p).length ∧ ((List.getD (undOf w p) j' (dft tSeen)).1 : Int) = (i : Int)
theorem Tal.step {w : den tWorld} {p : Pl} {lo hi : Nat → Prop} (hp : ∀ i, hi i → ¬ rootOf w i = p) {j m : Nat} {o : List Int} (h : Tal w (before w p lo j) (before w p hi j) o) (hj : j < (undOf w p).length) (hm : ((List.getD (undOf w p) j (dft tSeen)).1 : Int) = (m : Int)) (hml : m < List.length (w.2.2.2.1 : List (den tPlace))) (hmr : rootOf w m = p) :
    List.getD o m (0 : Int) = 0 ∧ Tal w (before w p lo (j + 1)) (before w p hi (j + 1)) (List.set o m 1) := by
  have h0 : List.getD o m (0 : Int) = 0 := by
    rcases h.2 m hml with ⟨e, _⟩ | ⟨_, e | ⟨j', h1, h2, h3⟩⟩
    · exact e
    · exact absurd hmr (hp m e)
    · have := und_lt (w := w) (p := p) h1 hj
      rw [h3, hm] at this
      exact absurd this (Int.lt_irrefl _)
  refine ⟨h0, by rw [List.length_set]; exact h.1, fun i hi => ?_⟩
  rw [getD_set o m i 1 0 (by rw [h.1]; exact hml)]
  by_cases hi2 : i = m
  · subst hi2; rw [if_pos rfl]; exact .inr ⟨rfl, .inr ⟨j, by omega, hj, hm⟩⟩
  · rw [if_neg hi2]
    refine (h.2 i hi).imp (fun e => ⟨e.1, fun e' => e.2 (e'.imp id (fun ⟨j', h1, h2, h3⟩ => ⟨j', ?_, h2, h3⟩))⟩) (fun e => ⟨e.1, e.2.imp id (fun ⟨j', h1, h2⟩ => ⟨j', by omega, h2⟩)⟩)
    by_cases hjj : j' = j
    · subst hjj; rw [hm] at h3; exact absurd (Int.ofNat.inj h3).symm hi2
    · omega
/-- behind a whole list -/
theorem before_all {w : den tWorld} {p : Pl} {proc : Nat → Prop} {i : Nat} (hi : i < List.length (w.2.2.2.1 : List (den tPlace))) : before w p proc (undOf w p).length i ↔ proc i ∨ rootOf w i = p := by
  constructor
  · rintro (h | ⟨j', _, h2, h3⟩)
    · exact .inl h
    · obtain ⟨m, _, e, hr⟩ := und_get h2
      rw [e] at h3
      obtain rfl : m = i := Int.ofNat.inj h3
      exact .inr hr
  · rintro (h | h)
    · exact .inl h
    · have hm : ((i : Int), plOf w i, ()) ∈ undOf w p := mem_und.2 ⟨i, hi, rfl, h⟩
      obtain ⟨j, hj, he⟩ := List.mem_iff_getElem.1 hm
      refine .inr ⟨j, hj, hj, ?_⟩
      rw [List.getD_eq_getElem?_getD, List.getElem?_eq_getElem hj, he]
      rfl
theorem before_none {w : den tWorld} {p : Pl} {proc : Nat → Prop} {i : Nat} : before w p proc 0 i ↔ proc i := ⟨fun h => h.elim id (fun ⟨_, h, _⟩ => by omega), .inl⟩
/-- a root is a room or a player that there is -/
theorem Hang.good {w : den tWorld} (h : RightP w) {i : Nat} {p : Pl} {d : Nat} (hg : Hang w.2.2.2.1 i p d) : i < List.length (w.2.2.2.1 : List (den tPlace)) → GoodPl w.1 p := by
  induction hg with
  | @top j h2 => exact fun hj => h.good j hj
  | @box j b p d h2 hb _ ih => exact fun hj => ih (dep_box h hj h2 hb).1
abbrev rk (w : den tWorld) (i : Nat) : Int := (rootOf w i).1
abbrev ri (w : den tWorld) (i : Nat) : Int := (rootOf w i).2.1
theorem root_good {w : den tWorld} (h : RightP w) {i : Nat} (hi : i < List.length (w.2.2.2.1 : List (den tPlace))) : (rk w i = 0 ∧ 0 ≤ ri w i ∧ ri w i < (List.length (w.1.1 : List (List Int)) : Int)) ∨ (rk w i = 1 ∧ 0 ≤ ri w i ∧ ri w i < (List.length (w.2.1 : List Int) : Int)) := by
  have g := (h.hang hi).good h hi
  rcases g with g | g | g
  · exact .inl g
  · rw [h.a1]; exact .inr g
  · exact absurd g.1 (h.hang hi).root
theorem root_ext {w : den tWorld} {i : Nat} {k n : Int} (h1 : rk w i = k) (h2 : ri w i = n) : rootOf w i = (k, n, ()) := Prod.ext h1 (Prod.ext h2 rfl)
end Go.Proofs.Ytlnnpcgfhcaafaa.Ghost
namespace Go.Proofs.Ytlnnpcgfhcaafaa.Ghost
open Go
theorem dep_hgt {w : den tWorld} (h : RightP w) {i : Nat} (hi : i < List.length (w.2.2.2.1 : List (den tPlace))) : depOf w i + hgtOf w i ≤ 4 := by
  have h1 := (dep_le h hi).2
  rcases hgtL_at (w := w) (i := i) (List.length (w.2.2.2.1 : List (den tPlace))) with h0 | ⟨k, k1, k2, k3⟩
  · have h0 : hgtOf w i = 0 := h0
    omega
  · have h2 := (dep_le h k1).2
    have h3 := (k2.facts h k1).2.2.1
    have k3 : depOf w k - depOf w i = hgtOf w i := k3
    omega
theorem troots_l3 {w : den tWorld} (ok : Ok w) (t0 : den tWorld) (t2 : Bool) (t4 : Int) {o : List Int} (ho : Tal w (fun _ => True) (fun _ => True) o) : ∀ i, i ≤ List.length (w.2.2.2.1 : List (den tPlace)) → Comes (fun nf fm0 _ _ => innkeeplaw07_TreeRoots.l3 nf fm0 t0 t2 t4 ((i : Int)) (w) (o)) (fun r => r.1.1 = true) := by
  refine upto ?_ (fun i hi next => ?_)
  · refine Comes.succ1 (fun nf fm0 _ _ => innkeeplaw07_TreeRoots.l3_eq nf fm0 _ _ _ _ _ _) ?_
    simp
  · refine Comes.succ1 (fun nf fm0 _ _ => innkeeplaw07_TreeRoots.l3_eq nf fm0 _ _ _ _ _ _) ?_
    have hlen := ok.sm.wh
    rw [← wrap_succ (by omega)] at next
    have hol := ho.1
    have h1 : List.getD o i (0 : Int) = 1 := by
      rcases ho.2 i hi with h | h
      · exact absurd trivial h.2
      · exact h.1
    have hd := dep_hgt ok.right hi
    by_cases h2 : (plOf w i).1 = (2 : Int)
    · obtain ⟨b, e, hb, er⟩ := root_box ok.right hi h2
      obtain ⟨_, ed⟩ := dep_box ok.right hi h2 e
      have hw : WiW w i b := .step h2 e (.refl b)
      simp [-List.getD_eq_getElem?_getD, -List.length_eq_zero_iff, keepAll, freshHas, pathEq, eqPl, eqPl_f, wrap1, wrap0, hi, hol, h1, comes_call (treeDepth_spec w ok.right hi), (treeDepth_spec w ok.right hi).prop, comes_call (treeHeight_spec w ok hi), (treeHeight_spec w ok hi).prop, h2, e, comes_call (treeRoot_spec w ok.right hi), (treeRoot_spec w ok.right hi).prop, comes_call (treeRoot_spec w ok.right hb), (treeRoot_spec w ok.right hb).prop, er, comes_call (treeDepth_spec w ok.right hb), (treeDepth_spec w ok.right hb).prop, ed, comes_call (treeWithin_iff w ok.right hi b), (treeWithin_iff w ok.right hi b).bprop, hw, next]
      rw [ed] at hd
      rw [wrap_id (by omega) (by omega), wrap_id (by omega) (by omega)]
      exact ⟨by omega, fun _ => rfl⟩
    · have e1 : depOf w i = 0 := dep_top h2
      have e2 : rootOf w i = plOf w i := rootP_top h2 51
      simp [-List.getD_eq_getElem?_getD, -List.length_eq_zero_iff, keepAll, freshHas, pathEq, eqPl, eqPl_f, wrap1, wrap0, hi, hol, h1, comes_call (treeDepth_spec w ok.right hi), (treeDepth_spec w ok.right hi).prop, comes_call (treeHeight_spec w ok hi), (treeHeight_spec w ok hi).prop, h2, comes_call (treeRoot_spec w ok.right hi), (treeRoot_spec w ok.right hi).prop, e1, e2, next]
      rw [e1] at hd
      rw [wrap_id (by omega) (by omega)]
      omega
def pr (w : den tWorld) (k n : Int) (i : Nat) : Prop := rk w i < k ∨ rk w i = k ∧ ri w i < n
theorem troots_l2 {w : den tWorld} (ok : Ok w) {k : Int} (hk : k = 0 ∨ k = 1) (n : Nat) (t0 : den tWorld) (t2 : Bool) (t5 : Int) (hn : n < 1000)
    (nx : ∀ o, Tal w (pr w k (n + 1 : Nat)) (pr w k (n + 1 : Nat)) o → Comes (fun nf fm0 fm1 _ => innkeeplaw07_TreeRoots.l1 nf fm0 fm1 t0 t2 (k) t5 (((n + 1 : Nat) : Int)) (w) (o)) (fun r => r.1.1 = true)) :
    ∀ j, j ≤ (undOf w (k, (n : Int), ())).length → ∀ o, Tal w (before w (k, (n : Int), ()) (pr w k n) j) (before w (k, (n : Int), ()) (pr w k n) j) o → Comes (fun nf fm0 fm1 fm2 => innkeeplaw07_TreeRoots.l2 nf fm0 fm1 fm2 t0 t2 (k) t5 ((n : Int)) (undOf w (k, (n : Int), ())) ((j : Int)) (w) (o) ((k, (n : Int), ()))) (fun r => r.1.1 = true) := by
  have hr := ok.right.room (k, (n : Int), ())
  have hk3 : (0 : Int) ≤ k ∧ k < 3 := by omega
  have hlen := ok.sm.wh
  have hul := undL_len w (k, (n : Int), ()) (List.length (w.2.2.2.1 : List (den tPlace)))
  refine upto (fun o ho => ?_) (fun j hj next o ho => ?_)
  · refine Comes.succ3 (fun nf fm0 fm1 fm2 => innkeeplaw07_TreeRoots.l2_eq nf fm0 fm1 fm2 _ _ _ _ _ _ _ _ _ _) ?_
    have nx := nx o (ho.mono (fun i hi h => ?_) (fun i hi h => ?_))
    · rw [← wrap_succ (by omega)] at nx
      simp [-List.getD_eq_getElem?_getD, -List.length_eq_zero_iff, keepAll, freshHas, pathEq, eqPl, eqPl_f, wrap1, wrap0, comes_call (treeRoom_spec w ok (k, (n : Int), ()) hk3), (treeRoom_spec w ok (k, (n : Int), ()) hk3).prop, nx]
      exact hr.1
    · unfold pr at h
      refine (before_all hi).2 ?_
      by_cases h2 : pr w k n i
      · exact .inl h2
      · unfold pr at h2
        exact .inr (root_ext (by omega) (by omega))
    · rcases (before_all hi).1 h with h | h
      · unfold pr at h ⊢; omega
      · have h1 : rk w i = k := by show ((rootOf w i).1 : Int) = k; rw [h]
        have h2 : ri w i = n := by show ((rootOf w i).2.1 : Int) = n; rw [h]
        unfold pr; omega
  · refine Comes.succ3 (fun nf fm0 fm1 fm2 => innkeeplaw07_TreeRoots.l2_eq nf fm0 fm1 fm2 _ _ _ _ _ _ _ _ _ _) ?_
    obtain ⟨m, hml, he, hmr⟩ := und_get hj
    have hol := ho.1
    have hm : ((List.getD (undOf w (k, (n : Int), ())) j (dft tSeen)).1 : Int) = (m : Int) := by rw [he]
    have hpr : ∀ i, pr w k n i → ¬ rootOf w i = (k, (n : Int), ()) := fun i hp he => by
      have h1 : rk w i = k := by show ((rootOf w i).1 : Int) = k; rw [he]
      have h2 : ri w i = n := by show ((rootOf w i).2.1 : Int) = n; rw [he]
      unfold pr at hp; omega
    obtain ⟨h0, ht⟩ := ho.step hpr hj hm hml hmr
    · have next := next _ ht
      have hlt : j < 4611686018427387904 := by
        have : (undOf w (k, (n : Int), ())).length ≤ 1048576 := Nat.le_trans hul hlen
        omega
      rw [← wrap_succ (by omega)] at next
      simp [-List.getD_eq_getElem?_getD, -List.length_eq_zero_iff, keepAll, freshHas, pathEq, eqPl, eqPl_f, wrap1, wrap0, hj, hml, hmr, he, hol, comes_call (treeRoot_spec w ok.right hml), (treeRoot_spec w ok.right hml).prop, next, h0]
      intro h0
      rw [show IntKind.wrap .i64 ((j : Int) - 1) = ((j - 1 : Nat) : Int) by rw [wrap_id (by omega) (by omega)]; omega, Int.toNat_natCast]
      have := und_lt (w := w) (p := (k, (n : Int), ())) (show j - 1 < j by omega) hj
      rw [he] at this
      exact ⟨⟨by omega, by omega⟩, this⟩
theorem troots_l1 {w : den tWorld} (ok : Ok w) {k : Int} (hk : k = 0 ∨ k = 1) (many : Nat) (hm : many < 1000) (t0 : den tWorld) (t2 : Bool)
    (nx : ∀ o, Tal w (pr w k many) (pr w k many) o → Comes (fun nf fm0 _ _ => innkeeplaw07_TreeRoots.l0 nf fm0 t0 t2 (IntKind.wrap .i64 (k + 1)) (w) (o)) (fun r => r.1.1 = true)) :
    ∀ n, n ≤ many → ∀ o, Tal w (pr w k n) (pr w k n) o → Comes (fun nf fm0 fm1 _ => innkeeplaw07_TreeRoots.l1 nf fm0 fm1 t0 t2 (k) ((many : Int)) ((n : Int)) (w) (o)) (fun r => r.1.1 = true) := by
  refine upto (fun o ho => ?_) (fun n hn next o ho => ?_)
  · refine Comes.succ2 (fun nf fm0 fm1 _ => innkeeplaw07_TreeRoots.l1_eq nf fm0 fm1 _ _ _ _ _ _ _) ?_
    simp [-List.getD_eq_getElem?_getD, -List.length_eq_zero_iff, keepAll, freshHas, pathEq, eqPl, eqPl_f, wrap1, wrap0, nx o ho]
  · refine Comes.succ2 (fun nf fm0 fm1 _ => innkeeplaw07_TreeRoots.l1_eq nf fm0 fm1 _ _ _ _ _ _ _) ?_
    have ho' : Tal w (before w (k, (n : Int), ()) (pr w k n) 0) (before w (k, (n : Int), ()) (pr w k n) 0) o := ho.mono (fun i _ h => before_none.1 h) (fun i _ h => before_none.2 h)
    simp [-List.getD_eq_getElem?_getD, -List.length_eq_zero_iff, keepAll, freshHas, pathEq, eqPl, eqPl_f, wrap1, wrap0, hn, comes_call (treeUnder_spec w ok (k, (n : Int), ())), (treeUnder_spec w ok (k, (n : Int), ())).prop]
    exact (troots_l2 ok hk n t0 t2 (many : Int) (by omega) next 0 (Nat.zero_le _) o ho').enter2
theorem treeRoots_true (w : den tWorld) (hw : wfD tWorld w) : Comes (fun nf _ _ _ => innkeeplaw07_TreeRoots nf (w)) (fun r => r.1.1 = true) := by
  refine Comes.succ (fun nf _ _ _ => innkeeplaw07_TreeRoots.eq nf _) ?_
  simp [comes_call (awake7), (awake7).prop, comes_call ((fits7 w).fit), ((fits7 w).fit).bprop]
  intro fit
  have ok := ok_of hw fit.few fit.right
  have hlen := ok.sm.wh
  have hp := ok.right.may.p1
  have hr := ok.right.may.r1
  have ha := ok.right.a1
  have s2 : ∀ o, Tal w (pr w 1 (List.length (w.2.1 : List Int) : Nat)) (pr w 1 (List.length (w.2.1 : List Int) : Nat)) o → Comes (fun nf fm0 _ _ => innkeeplaw07_TreeRoots.l0 nf fm0 (w) (false) (2) (w) (o)) (fun r => r.1.1 = true) := fun o ho => by
    refine Comes.succ1 (fun nf fm0 _ _ => innkeeplaw07_TreeRoots.l0_eq nf fm0 _ _ _ _ _) ?_
    simp [-List.getD_eq_getElem?_getD, -List.length_eq_zero_iff, keepAll, freshHas, pathEq, eqPl, eqPl_f, wrap1, wrap0]
    exact (troots_l3 ok w false 2 (ho.mono (fun i hi _ => by
      have := root_good ok.right hi
      unfold pr; omega) (fun _ _ _ => trivial)) 0 (Nat.zero_le _)).enter
  have s1 : ∀ o, Tal w (pr w 0 (List.length (w.1.1 : List (List Int)) : Nat)) (pr w 0 (List.length (w.1.1 : List (List Int)) : Nat)) o → Comes (fun nf fm0 _ _ => innkeeplaw07_TreeRoots.l0 nf fm0 (w) (false) (1) (w) (o)) (fun r => r.1.1 = true) := fun o ho => by
    refine Comes.succ1 (fun nf fm0 _ _ => innkeeplaw07_TreeRoots.l0_eq nf fm0 _ _ _ _ _) ?_
    simp [-List.getD_eq_getElem?_getD, -List.length_eq_zero_iff, keepAll, freshHas, pathEq, eqPl, eqPl_f, wrap1, wrap0]
    exact (troots_l1 ok (.inr rfl) _ (by omega) w false s2 0 (Nat.zero_le _) o (ho.mono (fun i hi h => by
      have := root_good ok.right hi
      unfold pr at h ⊢; omega) (fun i hi h => by
      have := root_good ok.right hi
      unfold pr at h ⊢; omega))).enter1
  refine ⟨by omega, ?_⟩
  have hz : Tal w (pr w 0 (0 : Nat)) (pr w 0 (0 : Nat)) (List.replicate (List.length (w.2.2.2.1 : List (den tPlace))) 0) := (Tal.zero w (lo := fun _ => False) (fun _ h => h)).mono (fun i hi h => by
    have := root_good ok.right hi
    unfold pr at h; omega) (fun _ _ h => h)
  exact (show Comes (fun nf fm0 _ _ => innkeeplaw07_TreeRoots.l0 nf fm0 (w) (false) (0) (w) (List.replicate (List.length (w.2.2.2.1 : List (den tPlace))) 0)) (fun r => r.1.1 = true) by
    refine Comes.succ1 (fun nf fm0 _ _ => innkeeplaw07_TreeRoots.l0_eq nf fm0 _ _ _ _ _) ?_
    simp [-List.getD_eq_getElem?_getD, -List.length_eq_zero_iff, keepAll, freshHas, pathEq, eqPl, eqPl_f, wrap1, wrap0]
    exact (troots_l1 ok (.inl rfl) _ (by omega) w false s1 0 (Nat.zero_le _) _ hz).enter1).enter
end Go.Proofs.Ytlnnpcgfhcaafaa.Ghost
