/- What functions come to, and that the statements are answered with 'true'. Conditions: none. -/
import Derived.Test.YtlkodlblkpeofaaS
import Derived.Test.YtlkodlblkpeofaaGE
import Derived.Test.YtlkodlblkpeofaaP1
import Derived.Test.YtlkodlblkpeofaaP2
import Derived.Test.YtlkodlblkpeofaaP3
import Derived.Test.YtlkodlblkpeofaaP4
import Derived.Test.YtlkodlblkpeofaaP5
import Derived.Test.YtlkodlblkpeofaaP6
set_option linter.unusedVariables false
set_option linter.unusedSimpArgs false
set_option linter.unusedSectionVars false
set_option linter.unnecessarySimpa false
namespace Go.Proofs.Ytlkodlblkpeofaa.Ghost
open Go
theorem Ok.put2 {w : den tWorld} (ok : Ok w) {k : Nat} (hk : k < List.length (w.2.2.2.1 : List (den tPlace))) {q : Pl} (hg : GoodPl w.1 q) (hr : 1 ≤ roomI w q) (hd : ∀ j, j < List.length (w.2.2.2.1 : List (den tPlace)) → ∃ p d, Hang (Ghost.put w k q).2.2.2.1 j p d ∧ d ≤ 4) : Ok (Ghost.put w k q) := by
  have h := ok.right
  have hset : ∀ p : Pl, manyPl (List.set (w.2.2.2.1 : List (den tPlace)) k q) p (List.length (w.2.2.2.1 : List (den tPlace))) ≤ manyPl w.2.2.2.1 p (List.length (w.2.2.2.1 : List (den tPlace))) + (if q = p then 1 else 0) := fun p => by
    have := manyPl_set w.2.2.2.1 k q p hk (List.length (w.2.2.2.1 : List (den tPlace)))
    simp only [hk, true_and] at this
    omega
  refine ⟨sm_put ok.sm k q, h.may, h.a1, h.c1, by rw [put_len]; exact h.w1, h.at_, fun i hi => ?_, fun i hi => ?_⟩
  · rw [put_len] at hi
    rw [put_at w k i q hk]
    split
    · exact hg
    · exact h.good i hi
  · have hlen := put_len w k q
    rw [hlen] at hi ⊢
    obtain ⟨p, d, h1, h2⟩ := hd i hi
    have h3 := h1.depI 51 0 (by omega) (by omega)
    rw [Nat.zero_add] at h3
    refine ⟨Nat.le_trans (Nat.le_of_eq h3) h2, ?_⟩
    generalize List.getD ((Ghost.put w k q).2.2.2.1 : List (den tPlace)) i (dft tPlace) = p
    show (manyPl (List.set (w.2.2.2.1 : List (den tPlace)) k q) _ _ : Int) ≤ capI w.1 _
    have h1 := hset p
    by_cases hqp : q = p
    · rw [if_pos hqp] at h1
      subst hqp
      unfold roomI at hr
      omega
    · rw [if_neg hqp] at h1
      have h2 := (h.room p).1
      unfold roomI at h2
      omega
structure PutOk (w : den tWorld) (i k b : Nat) : Prop where
  hk : k < List.length (w.2.2.2.1 : List (den tPlace))
  hb : b < List.length (w.2.2.2.1 : List (den tPlace))
  me : plOf w k = mePl i
  near : NearP w i b
  box : boxAt w b = true
  wi : ¬ WiW w b k
  deep : ¬ 4 < depOf w b + 1 + hgtOf w k
  room : 1 ≤ roomI w (boxPl b)
theorem putErr_zero {w : den tWorld} {i k b : Nat} (hk : k < List.length (w.2.2.2.1 : List (den tPlace))) (hb : b < List.length (w.2.2.2.1 : List (den tPlace))) : putErr w i k b = 0 ↔ PutOk w i k b := by
  have h1 : inR w (k : Int) := ⟨Int.natCast_nonneg k, Int.ofNat_lt.2 hk⟩
  have h2 : inR w (b : Int) := ⟨Int.natCast_nonneg b, Int.ofNat_lt.2 hb⟩
  unfold putErr
  simp only [h1, h2, and_self, if_true, Int.toNat_natCast]
  constructor
  · intro h
    split at h <;> rename_i c1
    · split at h <;> rename_i c2
      · split at h <;> rename_i c3
        · cases h
        · split at h <;> rename_i c4
          · cases h
          · split at h <;> rename_i c5
            · cases h
            · exact ⟨hk, hb, c1.1, c1.2, c2, c3, c4, by omega⟩
      · cases h
    · cases h
  · intro h
    rw [if_pos ⟨h.me, h.near⟩, if_pos h.box, if_neg h.wi, if_neg h.deep, if_neg (by have := h.room; omega)]
structure TakeOk (w : den tWorld) (i k b : Nat) : Prop where
  hk : k < List.length (w.2.2.2.1 : List (den tPlace))
  hb : b < List.length (w.2.2.2.1 : List (den tPlace))
  near : NearP w i b
  box : boxAt w b = true
  at_ : plOf w k = boxPl b
  room : 1 ≤ roomI w (mePl i)
theorem takeErr_zero {w : den tWorld} {i k b : Nat} (hk : k < List.length (w.2.2.2.1 : List (den tPlace))) (hb : b < List.length (w.2.2.2.1 : List (den tPlace))) : takeErr w i k b = 0 ↔ TakeOk w i k b := by
  have h1 : inR w (k : Int) := ⟨Int.natCast_nonneg k, Int.ofNat_lt.2 hk⟩
  have h2 : inR w (b : Int) := ⟨Int.natCast_nonneg b, Int.ofNat_lt.2 hb⟩
  unfold takeErr
  simp only [h1, h2, and_self, if_true, Int.toNat_natCast]
  constructor
  · intro h
    split at h <;> rename_i c1
    · split at h <;> rename_i c2
      · split at h <;> rename_i c3
        · split at h <;> rename_i c4
          · cases h
          · exact ⟨hk, hb, c1, c2, c3, by omega⟩
        · cases h
      · cases h
    · cases h
  · intro h
    rw [if_pos h.near, if_pos h.box, if_pos h.at_, if_neg (by have := h.room; omega)]
theorem me_ne_box (i b : Nat) : ¬ mePl i = boxPl (b : Int) := fun e => by
  have : (1 : Int) = 2 := congrArg (fun p : Pl => (p.1 : Int)) e
  cases this
theorem PutOk.notTake {w : den tWorld} {i k b : Nat} (h : PutOk w i k b) : ¬ TakeOk w i k b := fun h' => me_ne_box i b (h.me.symm.trans h'.at_)
theorem PutOk.moved {w : den tWorld} {i k b : Nat} (h : PutOk w i k b) (ok : Ok w) : MovedTo w (put w k (boxPl (b : Int))) k (rootOf w b) (depOf w b + 1) := moved_box ok.right h.hk h.hb h.wi
theorem PutOk.ok {w : den tWorld} {i k b : Nat} (h : PutOk w i k b) (ok : Ok w) : Ok (put w k (boxPl (b : Int))) := by
  refine ok.put2 h.hk (.inr (.inr ⟨rfl, ⟨Int.natCast_nonneg b, ?_⟩, ?_⟩)) h.room (fun j hj => ?_)
  · show (b : Int) < _
    rw [← ok.right.w1]; exact Int.ofNat_lt.2 h.hb
  · show List.getD (w.1.2.2.2.2.1 : List Bool) (Int.toNat (b : Int)) false = true
    rw [Int.toNat_natCast]; exact h.box
  · obtain ⟨p, hp⟩ := hang_d ok h.hk h.hb h.wi hj
    refine ⟨p, _, hp, ?_⟩
    have : ¬ 4 < dOf w k b j := fun h4 => h.deep ((deep_iff ok h.hk h.hb h.wi).1 ⟨j, hj, h4⟩)
    omega
theorem TakeOk.moved {w : den tWorld} {i k b : Nat} (h : TakeOk w i k b) (ok : Ok w) : MovedTo w (put w k (mePl i)) k (mePl i) 0 := moved_top ok.right h.hk (show ¬ (1 : Int) = 2 by decide)
theorem TakeOk.ok {w : den tWorld} {i k b : Nat} (h : TakeOk w i k b) (ok : Ok w) (hi : i < List.length (w.2.1 : List Int)) : Ok (put w k (mePl i)) := by
  have m := h.moved ok
  refine ok.put2 h.hk (.inr (.inl ⟨rfl, Int.natCast_nonneg i, ?_⟩)) h.room (fun j hj => ?_)
  · show (i : Int) < _
    rw [← ok.right.a1]; exact Int.ofNat_lt.2 hi
  · have := (dep_le ok.right hj).2
    by_cases hw : WiW w j k
    · exact ⟨_, _, (m.inn j hj hw).1, by omega⟩
    · exact ⟨_, _, m.out j hj hw, this⟩
/-- what is put in can be taken out at once -/
theorem PutOk.back {w : den tWorld} {i k b : Nat} (h : PutOk w i k b) (ok : Ok w) : TakeOk (put w k (boxPl (b : Int))) i k b := by
  have ok' := h.ok ok
  have m := h.moved ok
  have hl := put_len w k (boxPl (b : Int))
  have hat : plOf (put w k (boxPl (b : Int))) k = boxPl b := by show List.getD _ k _ = _; rw [put_at w k k _ h.hk, if_pos rfl]
  refine ⟨by rw [hl]; exact h.hk, by rw [hl]; exact h.hb, ?_, h.box, hat, ?_⟩
  · have e := ((m.eqs ok'.right hl h.hb).2 h.wi).1
    have hn := h.near
    unfold NearP at hn ⊢
    rw [e]
    exact hn
  · rw [roomI_put w h.hk, if_pos h.me, if_neg (fun e => me_ne_box i b e.symm)]
    have := (ok.right.room (mePl i)).1
    omega
theorem near_of_me {w : den tWorld} {i k : Nat} (h : plOf w k = mePl i) : NearP w i k := .inr (by
  show rootP w.2.2.2.1 51 (plOf w k) = _
  rw [h]; exact rootP_top (show ¬ (1 : Int) = 2 by decide) 51)
theorem near_box {w : den tWorld} (h : RightP w) {i j b : Nat} (hj : j < List.length (w.2.2.2.1 : List (den tPlace))) (h2 : (plOf w j).1 = (2 : Int)) (hb : (plOf w j).2.1 = (b : Int)) : NearP w i j ↔ NearP w i b := by
  obtain ⟨b', e, _, er⟩ := root_box h hj h2
  obtain rfl : b = b' := Int.ofNat.inj (hb.symm.trans e)
  unfold NearP
  rw [er]
theorem near_top {w : den tWorld} {i j : Nat} (h2 : ¬ (plOf w j).1 = (2 : Int)) : NearP w i j ↔ plOf w j = flPl (atOf w i) ∨ plOf w j = mePl i := by
  have : rootOf w j = plOf w j := rootP_top h2 51
  unfold NearP
  rw [this]
theorem putR_err (w : den tWorld) (i : Nat) (k b : Int) : (putR w i k b).2.1 = putErr w i k b := by
  unfold putR
  split
  · rename_i h; exact h.symm
  · rfl
theorem takeR_err (w : den tWorld) (i : Nat) (k b : Int) : (takeR w i k b).2.1 = takeErr w i k b := by
  unfold takeR
  split
  · rename_i h; exact h.symm
  · rfl
theorem putR_sm {w : den tWorld} (h : Sm w) {i : Nat} {k b : Int} : Sm (putR w i k b).1 := by
  unfold putR
  split
  · exact sm_put h _ _
  · exact h
theorem takeR_sm {w : den tWorld} (h : Sm w) {i : Nat} {k b : Int} : Sm (takeR w i k b).1 := by
  unfold takeR
  split
  · exact sm_put h _ _
  · exact h
theorem takeErr_pos {w : den tWorld} {i : Nat} {k b : Int} (h : ¬ takeErr w i k b = 0) : takeR w i k b = (w, takeErr w i k b, ()) := if_neg h
theorem putErr_pos {w : den tWorld} {i : Nat} {k b : Int} (h : ¬ putErr w i k b = 0) : putR w i k b = (w, putErr w i k b, ()) := if_neg h
theorem takeErr_ok {w : den tWorld} {i k : Nat} {b : Int} (h : takeErr w i k b = 0) : takeR w i k b = (put w k (mePl i), 0, ()) := if_pos h
theorem putErr_ok {w : den tWorld} {i k : Nat} {b : Int} (h : putErr w i k b = 0) : putR w i k b = (put w k (boxPl b), 0, ()) := if_pos h
end Go.Proofs.Ytlkodlblkpeofaa.Ghost
