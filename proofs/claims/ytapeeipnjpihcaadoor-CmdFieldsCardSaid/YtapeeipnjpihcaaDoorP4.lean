/- What functions come to, and that the statements are answered with 'true'. Conditions: none. -/
import Derived.Test.YtapeeipnjpihcaaDoorS
import Derived.Test.YtapeeipnjpihcaaDoorGE
import Derived.Test.YtapeeipnjpihcaaDoorP1
import Derived.Test.YtapeeipnjpihcaaDoorP2
import Derived.Test.YtapeeipnjpihcaaDoorP3
set_option linter.unusedVariables false
set_option linter.unusedSimpArgs false
set_option linter.unusedSectionVars false
set_option linter.unnecessarySimpa false
namespace Go.Proofs.YtapeeipnjpihcaaDoor.Ghost
open Go
def nameAt (l : List ByteArray) (k : Int) : ByteArray := if 0 ≤ k ∧ k < (l.length : Int) then List.getD l (Int.toNat k) (dft .str) else (⟨#[]⟩ : ByteArray)
theorem cname_spec (l : List ByteArray) (k : Int) : Comes (fun nf _ _ _ => cmd_name nf (l) (k)) (fun r => r = ((nameAt l k, ()), [])) := by
  refine Comes.succ (fun nf _ _ _ => cmd_name.eq nf _ _) ?_
  by_cases h1 : k < 0
  · simp [-List.getD_eq_getElem?_getD, -List.length_eq_zero_iff, keepAll, freshHas, pathEq, eqPl_dec, wrap1, wrap0, nbeq, h1, nameAt, show ¬ 0 ≤ k by omega]
  · by_cases h2 : (l.length : Int) ≤ k
    · simp [-List.getD_eq_getElem?_getD, -List.length_eq_zero_iff, keepAll, freshHas, pathEq, eqPl_dec, wrap1, wrap0, nbeq, h1, h2, nameAt, show ¬ k < (l.length : Int) by omega]
    · simp [-List.getD_eq_getElem?_getD, -List.length_eq_zero_iff, keepAll, freshHas, pathEq, eqPl_dec, wrap1, wrap0, nbeq, h1, h2, nameAt, show 0 ≤ k by omega, show k < (l.length : Int) by omega]
theorem cName_spec (k : Int) : Comes (fun nf _ _ _ => cmd_Name nf (k)) (fun r => r = ((nameAt glob0 k, ()), [])) := by
  refine Comes.succ (fun nf _ _ _ => cmd_Name.eq nf _) ?_
  simp only [comes_call (cname_spec glob0 k), (cname_spec glob0 k).prop, comes_ret]
theorem cWay_spec (k : Int) : Comes (fun nf _ _ _ => cmd_Way nf (k)) (fun r => r = ((nameAt glob1 k, ()), [])) := by
  refine Comes.succ (fun nf _ _ _ => cmd_Way.eq nf _) ?_
  simp only [comes_call (cname_spec glob1 k), (cname_spec glob1 k).prop, comes_ret]
theorem kinds_cases (k : Int) (h : 1 ≤ k ∧ k ≤ 10) : k = 1 ∨ k = 2 ∨ k = 3 ∨ k = 4 ∨ k = 5 ∨ k = 6 ∨ k = 7 ∨ k = 8 ∨ k = 9 ∨ k = 10 := by omega
theorem ways_cases (k : Int) (h : 0 ≤ k ∧ k ≤ 3) : k = 0 ∨ k = 1 ∨ k = 2 ∨ k = 3 := by omega
theorem name_empty (k : Int) : eqT .str (nameAt glob0 k) (⟨#[]⟩ : ByteArray) = dec (¬ (1 ≤ k ∧ k ≤ 10)) := by
  by_cases h : 1 ≤ k ∧ k ≤ 10
  · rw [dec_false.2 (fun hn => hn h)]
    rcases kinds_cases k h with rfl | rfl | rfl | rfl | rfl | rfl | rfl | rfl | rfl | rfl <;> kernel_rfl
  · rw [dec_true.2 h]
    by_cases h0 : k = 0
    · subst h0; kernel_rfl
    · have : nameAt glob0 k = (⟨#[]⟩ : ByteArray) := by
        unfold nameAt
        rw [if_neg (by rw [show List.length (glob0 : List ByteArray) = 11 from rfl]; omega)]
      rw [this]; rfl
theorem way_empty (k : Int) : eqT .str (nameAt glob1 k) (⟨#[]⟩ : ByteArray) = dec (¬ (0 ≤ k ∧ k ≤ 3)) := by
  by_cases h : 0 ≤ k ∧ k ≤ 3
  · rw [dec_false.2 (fun hn => hn h)]
    rcases ways_cases k h with rfl | rfl | rfl | rfl <;> kernel_rfl
  · rw [dec_true.2 h]
    have : nameAt glob1 k = (⟨#[]⟩ : ByteArray) := by
      unfold nameAt
      rw [if_neg (by rw [show List.length (glob1 : List ByteArray) = 4 from rfl]; omega)]
    rw [this]; rfl
theorem row1_nil : row1 [] := ⟨fun j hj => by simp at hj, by simp⟩
theorem fitP_eq (n : Int) (h : Prop) : fitP n h = ((h → fit1 n) ∧ (¬ h → n = 0)) := rfl
theorem rowP_eq (l : List Int) (h : Prop) : rowP l h = ((h → row1 l) ∧ (¬ h → l = [])) := rfl
theorem fit1_zero : fit1 0 := ⟨by decide, by decide⟩
theorem cmay_spec (c : Cm) (h1 : (cGives c).length ≤ 1048576) (h2 : (cWants c).length ≤ 1048576) : Comes (fun nf _ _ _ => cmd_May nf (c)) (fun r => r = ((dec (MayC c), ()), [])) := by
  have hmay : MayC c ↔ 1 ≤ cKind c ∧ cKind c ≤ 10 ∧ 0 ≤ cDir c ∧ cDir c ≤ 3 ∧ (¬ cDir c = 0 → cKind c ≤ 2) ∧ fitP (cItem c) (3 ≤ cKind c ∧ cKind c ≤ 7) ∧ fitP (cBox c) (cKind c = 5 ∨ cKind c = 6) ∧ fitP (cWho c) (cKind c = 2 ∨ cKind c = 7 ∨ cKind c = 8) ∧ fitP (cPay c) (cKind c = 8) ∧ fitP (cFee c) (cKind c = 8) ∧ rowP (cGives c) (cKind c = 8) ∧ rowP (cWants c) (cKind c = 8) :=
    ⟨fun h => ⟨h.k1, h.k2, h.d1, h.d2, h.d3, h.item, h.box, h.who, h.pay, h.fee, h.gives, h.wants⟩, fun ⟨a, b, c, d, e, f, g, h, i, j, k, l⟩ => ⟨a, b, c, d, e, f, g, h, i, j, k, l⟩⟩
  rw [show MayC c = _ from propext hmay]
  have key : ∀ (kd dir item box who pay fee : Int) (gives wants : List Int), gives.length ≤ 1048576 → wants.length ≤ 1048576 → Comes (fun nf _ _ _ => cmd_May nf ((kd, dir, item, box, who, gives, pay, wants, fee, ()))) (fun r => r = ((dec (1 ≤ kd ∧ kd ≤ 10 ∧ 0 ≤ dir ∧ dir ≤ 3 ∧ (¬ dir = 0 → kd ≤ 2) ∧ fitP item (3 ≤ kd ∧ kd ≤ 7) ∧ fitP box (kd = 5 ∨ kd = 6) ∧ fitP who (kd = 2 ∨ kd = 7 ∨ kd = 8) ∧ fitP pay (kd = 8) ∧ fitP fee (kd = 8) ∧ rowP gives (kd = 8) ∧ rowP wants (kd = 8)), ()), [])) := by
    intro kd dir item box who pay fee gives wants h1 h2
    by_cases hk : 1 ≤ kd ∧ kd ≤ 10
    · have spec : ∀ b : Cm, Comes (fun nf _ _ _ => cmd_bare nf ((kd, dir, item, box, who, gives, pay, wants, fee, ()))) (fun r => r = ((b, ()), [])) → Comes (fun nf _ _ _ => cmd_May nf ((kd, dir, item, box, who, gives, pay, wants, fee, ()))) (fun r => r = ((dec (((kd, dir, item, box, who, gives, pay, wants, fee, ()) : Cm) = b ∧ (0 ≤ dir ∧ dir ≤ 3) ∧ fit1 item ∧ fit1 box ∧ fit1 who ∧ fit1 pay ∧ fit1 fee ∧ row1 gives ∧ row1 wants), ()), [])) := fun b hb => by
        have hs := csame_spec (kd, dir, item, box, who, gives, pay, wants, fee, ()) b h1 h2
        refine Comes.succ (fun nf _ _ _ => cmd_May.eq nf _) ?_
        simp only [comes_call (cName_spec kd), (cName_spec kd).prop, name_empty, dec_false.2 (fun hn : ¬ (1 ≤ kd ∧ kd ≤ 10) => hn hk), Bool.not_false, cond_true, comes_call hb, hb.prop, comes_call hs, hs.prop]
        by_cases g1 : ((kd, dir, item, box, who, gives, pay, wants, fee, ()) : Cm) = b <;> by_cases g2 : 0 ≤ dir ∧ dir ≤ 3 <;> by_cases g3 : fit1 item <;> by_cases g4 : fit1 box <;> by_cases g5 : fit1 who <;> by_cases g6 : fit1 pay <;> by_cases g7 : fit1 fee <;> by_cases g8 : row1 gives <;>
          simp only [g1, g2, g3, g4, g5, g6, g7, g8, dec_True, dec_False, cond_true, cond_false, comes_ret, comes_call (cWay_spec dir), (cWay_spec dir).prop, way_empty, not_true_eq_false, not_false_eq_true, Bool.not_true, Bool.not_false, comes_call (cfit_spec _), (cfit_spec _).prop, comes_call (crow_spec gives h1), (crow_spec gives h1).prop, comes_call (crow_spec wants h2), (crow_spec wants h2).prop, true_and, false_and, and_true, and_false]
      rcases kinds_cases kd hk with rfl | rfl | rfl | rfl | rfl | rfl | rfl | rfl | rfl | rfl
      · have s := spec (1, dir, 0, 0, 0, [], 0, [], 0, ()) (by
          refine Comes.succ (fun nf _ _ _ => cmd_bare.eq nf _) ?_
          simp)
        refine s.mono (fun v hv => ?_)
        rw [hv]
        refine Prod.ext (Prod.ext ?_ rfl) rfl
        simp only [dec_eq]
        simp only [fitP_eq, rowP_eq]
        have f0 : ∀ n, n = 0 → fit1 n := fun n e => e ▸ fit1_zero
        have r0 : ∀ l, l = [] → row1 l := fun l e => e ▸ row1_nil
        have f1 := f0 item; have f2 := f0 box; have f3 := f0 who; have f4 := f0 pay; have f5 := f0 fee; have r1 := r0 gives; have r2 := r0 wants
        clear spec s hv f0 r0 hmay
        simp
        grind
      · have s := spec (2, dir, 0, 0, who, [], 0, [], 0, ()) (by
          refine Comes.succ (fun nf _ _ _ => cmd_bare.eq nf _) ?_
          simp)
        refine s.mono (fun v hv => ?_)
        rw [hv]
        refine Prod.ext (Prod.ext ?_ rfl) rfl
        simp only [dec_eq]
        simp only [fitP_eq, rowP_eq]
        have f0 : ∀ n, n = 0 → fit1 n := fun n e => e ▸ fit1_zero
        have r0 : ∀ l, l = [] → row1 l := fun l e => e ▸ row1_nil
        have f1 := f0 item; have f2 := f0 box; have f3 := f0 who; have f4 := f0 pay; have f5 := f0 fee; have r1 := r0 gives; have r2 := r0 wants
        clear spec s hv f0 r0 hmay
        simp
        grind
      · have s := spec (3, 0, item, 0, 0, [], 0, [], 0, ()) (by
          refine Comes.succ (fun nf _ _ _ => cmd_bare.eq nf _) ?_
          simp)
        refine s.mono (fun v hv => ?_)
        rw [hv]
        refine Prod.ext (Prod.ext ?_ rfl) rfl
        simp only [dec_eq]
        simp only [fitP_eq, rowP_eq]
        have f0 : ∀ n, n = 0 → fit1 n := fun n e => e ▸ fit1_zero
        have r0 : ∀ l, l = [] → row1 l := fun l e => e ▸ row1_nil
        have f1 := f0 item; have f2 := f0 box; have f3 := f0 who; have f4 := f0 pay; have f5 := f0 fee; have r1 := r0 gives; have r2 := r0 wants
        clear spec s hv f0 r0 hmay
        simp
        grind
      · have s := spec (4, 0, item, 0, 0, [], 0, [], 0, ()) (by
          refine Comes.succ (fun nf _ _ _ => cmd_bare.eq nf _) ?_
          simp)
        refine s.mono (fun v hv => ?_)
        rw [hv]
        refine Prod.ext (Prod.ext ?_ rfl) rfl
        simp only [dec_eq]
        simp only [fitP_eq, rowP_eq]
        have f0 : ∀ n, n = 0 → fit1 n := fun n e => e ▸ fit1_zero
        have r0 : ∀ l, l = [] → row1 l := fun l e => e ▸ row1_nil
        have f1 := f0 item; have f2 := f0 box; have f3 := f0 who; have f4 := f0 pay; have f5 := f0 fee; have r1 := r0 gives; have r2 := r0 wants
        clear spec s hv f0 r0 hmay
        simp
        grind
      · have s := spec (5, 0, item, box, 0, [], 0, [], 0, ()) (by
          refine Comes.succ (fun nf _ _ _ => cmd_bare.eq nf _) ?_
          simp)
        refine s.mono (fun v hv => ?_)
        rw [hv]
        refine Prod.ext (Prod.ext ?_ rfl) rfl
        simp only [dec_eq]
        simp only [fitP_eq, rowP_eq]
        have f0 : ∀ n, n = 0 → fit1 n := fun n e => e ▸ fit1_zero
        have r0 : ∀ l, l = [] → row1 l := fun l e => e ▸ row1_nil
        have f1 := f0 item; have f2 := f0 box; have f3 := f0 who; have f4 := f0 pay; have f5 := f0 fee; have r1 := r0 gives; have r2 := r0 wants
        clear spec s hv f0 r0 hmay
        simp
        grind
      · have s := spec (6, 0, item, box, 0, [], 0, [], 0, ()) (by
          refine Comes.succ (fun nf _ _ _ => cmd_bare.eq nf _) ?_
          simp)
        refine s.mono (fun v hv => ?_)
        rw [hv]
        refine Prod.ext (Prod.ext ?_ rfl) rfl
        simp only [dec_eq]
        simp only [fitP_eq, rowP_eq]
        have f0 : ∀ n, n = 0 → fit1 n := fun n e => e ▸ fit1_zero
        have r0 : ∀ l, l = [] → row1 l := fun l e => e ▸ row1_nil
        have f1 := f0 item; have f2 := f0 box; have f3 := f0 who; have f4 := f0 pay; have f5 := f0 fee; have r1 := r0 gives; have r2 := r0 wants
        clear spec s hv f0 r0 hmay
        simp
        grind
      · have s := spec (7, 0, item, 0, who, [], 0, [], 0, ()) (by
          refine Comes.succ (fun nf _ _ _ => cmd_bare.eq nf _) ?_
          simp)
        refine s.mono (fun v hv => ?_)
        rw [hv]
        refine Prod.ext (Prod.ext ?_ rfl) rfl
        simp only [dec_eq]
        simp only [fitP_eq, rowP_eq]
        have f0 : ∀ n, n = 0 → fit1 n := fun n e => e ▸ fit1_zero
        have r0 : ∀ l, l = [] → row1 l := fun l e => e ▸ row1_nil
        have f1 := f0 item; have f2 := f0 box; have f3 := f0 who; have f4 := f0 pay; have f5 := f0 fee; have r1 := r0 gives; have r2 := r0 wants
        clear spec s hv f0 r0 hmay
        simp
        grind
      · have s := spec (8, 0, 0, 0, who, gives, pay, wants, fee, ()) (by
          refine Comes.succ (fun nf _ _ _ => cmd_bare.eq nf _) ?_
          simp)
        refine s.mono (fun v hv => ?_)
        rw [hv]
        refine Prod.ext (Prod.ext ?_ rfl) rfl
        simp only [dec_eq]
        simp only [fitP_eq, rowP_eq]
        have f0 : ∀ n, n = 0 → fit1 n := fun n e => e ▸ fit1_zero
        have r0 : ∀ l, l = [] → row1 l := fun l e => e ▸ row1_nil
        have f1 := f0 item; have f2 := f0 box; have f3 := f0 who; have f4 := f0 pay; have f5 := f0 fee; have r1 := r0 gives; have r2 := r0 wants
        clear spec s hv f0 r0 hmay
        simp
        grind
      · have s := spec (9, 0, 0, 0, 0, [], 0, [], 0, ()) (by
          refine Comes.succ (fun nf _ _ _ => cmd_bare.eq nf _) ?_
          simp)
        refine s.mono (fun v hv => ?_)
        rw [hv]
        refine Prod.ext (Prod.ext ?_ rfl) rfl
        simp only [dec_eq]
        simp only [fitP_eq, rowP_eq]
        have f0 : ∀ n, n = 0 → fit1 n := fun n e => e ▸ fit1_zero
        have r0 : ∀ l, l = [] → row1 l := fun l e => e ▸ row1_nil
        have f1 := f0 item; have f2 := f0 box; have f3 := f0 who; have f4 := f0 pay; have f5 := f0 fee; have r1 := r0 gives; have r2 := r0 wants
        clear spec s hv f0 r0 hmay
        simp
        grind
      · have s := spec (10, 0, 0, 0, 0, [], 0, [], 0, ()) (by
          refine Comes.succ (fun nf _ _ _ => cmd_bare.eq nf _) ?_
          simp)
        refine s.mono (fun v hv => ?_)
        rw [hv]
        refine Prod.ext (Prod.ext ?_ rfl) rfl
        simp only [dec_eq]
        simp only [fitP_eq, rowP_eq]
        have f0 : ∀ n, n = 0 → fit1 n := fun n e => e ▸ fit1_zero
        have r0 : ∀ l, l = [] → row1 l := fun l e => e ▸ row1_nil
        have f1 := f0 item; have f2 := f0 box; have f3 := f0 who; have f4 := f0 pay; have f5 := f0 fee; have r1 := r0 gives; have r2 := r0 wants
        clear spec s hv f0 r0 hmay
        simp
        grind
    · refine Comes.succ (fun nf _ _ _ => cmd_May.eq nf _) ?_
      simp only [comes_call (cName_spec kd), (cName_spec kd).prop, name_empty, dec_true.2 hk, Bool.not_true, cond_false, comes_ret]
      rw [dec_false.2 (fun h => hk ⟨h.1, h.2.1⟩)]
  exact key _ _ _ _ _ _ _ _ _ h1 h2
end Go.Proofs.YtapeeipnjpihcaaDoor.Ghost
