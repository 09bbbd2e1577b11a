/- What functions come to, and that the statements are answered with 'true'. Conditions: none. -/
import Derived.Test.YtcalkhkcokkhhaaP1
import Derived.Test.YtcalkhkcokkhhaaS
import Derived.KernelRfl
set_option linter.unusedVariables false
set_option linter.unusedSimpArgs false
set_option linter.unusedSectionVars false
set_option linter.unnecessarySimpa false
namespace Go.Proofs.Ytcalkhkcokkhhaa.Ghost
open Go
theorem copy_spec (w : den tWorld) (h : Sm w) : Comes (fun n _ _ _ => desc_Copy n w) (fun r => r = ((w, ()), [(0, [1]), (0, [2]), (0, [3])])) := by
  refine Comes.succ (fun n _ _ _ => desc_Copy.eq n w) (Comes.call (cloneI_spec _ h.a) (fun v1 e1 => ?_))
  subst e1
  refine Comes.bifT rfl (Comes.call (cloneI_spec _ h.wc) (fun v2 e2 => ?_))
  subst e2
  refine Comes.bifT rfl (Comes.call (cloneP_spec _ h.wh) (fun v3 e3 => ?_))
  subst e3
  exact Comes.bifT rfl (Comes.ret rfl)
def moved (w : den tWorld) (i : Nat) (x : Int) : den tWorld := (w.1, List.set (w.2.1 : List Int) i x, w.2.2.1, w.2.2.2.1, ())
def wExit (w : den tWorld) (i d : Nat) : Int := exitAt w.1 (Int.toNat (List.getD (w.2.1 : List Int) i (0 : Int))) d
def goR (w : den tWorld) (i d : Nat) : den tWorld × Int × Int × Unit := if 0 ≤ wExit w i d then (moved w i (wExit w i d), wExit w i d, 0, ()) else (w, 0, 4, ())
/-- a player that stands in a room, and a way -/
structure Stands (w : den tWorld) (i d : Nat) : Prop where
  ip : i < List.length (w.2.1 : List Int)
  r0 : 0 ≤ List.getD (w.2.1 : List Int) i (0 : Int)
  r1 : List.getD (w.2.1 : List Int) i (0 : Int) < (List.length (w.1.1 : List (List Int)) : Int)
  dp : d < 4
theorem exit_spec (w : den tWorld) (a b : Int) (ha : 0 ≤ a ∧ a < (List.length (w.1.1 : List (List Int)) : Int)) (hb : 0 ≤ b ∧ b < 4) : Comes (fun n _ _ _ => ways_Exit n w a b) (fun r => r = (((if exitAt w.1 (Int.toNat a) (Int.toNat b) < 0 then 0 else exitAt w.1 (Int.toNat a) (Int.toNat b)), decide (0 ≤ exitAt w.1 (Int.toNat a) (Int.toNat b)), ()), [])) :=
  Comes.succ (fun n _ _ _ => ways_Exit.eq n w a b) (Comes.ite ha (Comes.ite hb (Comes.ret rfl)))
theorem going_tail (w : den tWorld) (h : Sm w) {i d : Nat} (hs : Stands w i d) : Comes (R := ways_going_1.R) (fun n _ _ _ =>
    if (0 : Int) ≤ (i : Int) ∧ (i : Int) < (((List.length (w.2.1 : (List Int))) : Nat) : Int) then
    Option.bind (ways_Exit n w (List.getD (w.2.1 : (List Int)) (Int.toNat (i : Int)) (0 : Int) : Int) (d : Int)) fun r2 =>
    bif (!(r2.1.2.1 : Bool)) then
      some ((w, 0, 4, ()), [])
    else
      Option.bind (desc_Copy n w) fun r3 =>
      bif (keepAll r3.2 [((0, [1]), 2)]) then
        if (0 : Int) ≤ (i : Int) ∧ (i : Int) < (((List.length (r3.1.1.2.1 : (List Int))) : Nat) : Int) then
        some (((r3.1.1.1, (List.set (r3.1.1.2.1 : (List Int)) (Int.toNat (i : Int)) (r2.1.1 : Int) : (List Int)), (r3.1.1.2.2.1 : (List Int)), (r3.1.1.2.2.2.1 : (List (den tPlace))), ()), (r2.1.1 : Int), 0, ()), [(0, [1])])
        else none
      else
        none
    else none) (fun r => r.1 = goR w i d) := by
  have hi := hs.ip
  have hd := hs.dp
  have e1 : exitAt w.1 (Int.toNat (List.getD (w.2.1 : List Int) (Int.toNat (i : Int)) (0 : Int))) (Int.toNat (d : Int)) = wExit w i d := by rw [Int.toNat_natCast, Int.toNat_natCast]; rfl
  refine Comes.ite (by omega) (Comes.call (exit_spec w _ _ ⟨by rw [Int.toNat_natCast]; exact hs.r0, by rw [Int.toNat_natCast]; exact hs.r1⟩ (by omega)) (fun v hv => ?_))
  rw [e1] at hv
  subst hv
  refine Comes.bifN (fun hb => Comes.call (copy_spec w h) (fun u hu => ?_)) (fun hb => Comes.ret ?_)
  · have hb := of_decide_eq_true hb
    subst hu
    refine Comes.bifT rfl (Comes.ite (by show (0 : Int) ≤ i ∧ (i : Int) < (List.length (w.2.1 : List Int) : Int); omega) (Comes.ret ?_))
    unfold goR
    rw [if_pos hb]
    show ((w.1, List.set (w.2.1 : List Int) (Int.toNat (i : Int)) (if wExit w i d < 0 then 0 else wExit w i d), w.2.2.1, w.2.2.2.1, ()), (if wExit w i d < 0 then 0 else wExit w i d), 0, ()) = _
    rw [if_neg (by omega), Int.toNat_natCast]
    rfl
  · have hb := of_decide_eq_false hb
    unfold goR
    rw [if_neg hb]
theorem move_spec (w : den tWorld) (h : Sm w) {i d : Nat} (hs : Stands w i d) : Comes (fun n _ _ _ => ways_Move n w (i : Int) (d : Int)) (fun r => r.1 = goR w i d) := by
  refine Comes.succ (fun n _ _ _ => ways_Move.eq n w i d) (Comes.call (Q1 := fun r => r = ((((()), w, (d : Int), ()), ()), [])) (Comes.succ (fun n _ _ _ => ways_going.eq n w d) (Comes.ret rfl)) (fun v hv => ?_))
  subst hv
  refine Comes.call (Q1 := fun r => r.1 = goR w i d) (Comes.succ (fun n _ _ _ => ways_going_1.eq n (i : Int) w (d : Int)) (Comes.call (Q1 := fun r => r = ((0, ()), [])) (Comes.succ (fun n _ _ _ => ways_Move_1.eq n) (Comes.ret rfl)) (fun u hu => ?_))) (fun u hu => Comes.ret ?_)
  · subst hu
    exact Comes.bifN (fun _ => going_tail w h hs) (fun hb => absurd hb (by decide))
  · exact hu
def pushErr (w : den tWorld) (i : Nat) (q : Int) : Int := if q < 0 then 3 else if (List.length (w.2.1 : List Int) : Int) ≤ q then 3 else if q = (i : Int) then 12 else if List.getD (w.2.1 : List Int) (Int.toNat q) (0 : Int) = List.getD (w.2.1 : List Int) i (0 : Int) then 0 else 5
theorem pushErr_zero {w : den tWorld} {i : Nat} {q : Int} (h : pushErr w i q = 0) : 0 ≤ q ∧ q < (List.length (w.2.1 : List Int) : Int) ∧ q ≠ i ∧ List.getD (w.2.1 : List Int) (Int.toNat q) (0 : Int) = List.getD (w.2.1 : List Int) i (0 : Int) := by
  unfold pushErr at h
  split at h
  · cases h
  · split at h
    · cases h
    · split at h
      · cases h
      · split at h
        · rename_i a b c d; exact ⟨by omega, by omega, c, d⟩
        · cases h
def pushR (w : den tWorld) (i : Nat) (q : Int) (d : Nat) : den tWorld × Int × Int × Unit := if pushErr w i q = 0 then goR w (Int.toNat q) d else (w, 0, pushErr w i q, ())
theorem push1_spec (w : den tWorld) {i : Nat} (hi : i < List.length (w.2.1 : List Int)) (q : Int) : Comes (fun n _ _ _ => ways_Push_1 n q w (i : Int)) (fun r => r = ((pushErr w i q, ()), [])) := by
  refine Comes.succ (fun n _ _ _ => ways_Push_1.eq n q w i) ?_
  unfold pushErr
  refine Comes.bif (fun h1 => Comes.ret ?_) (fun h1 => Comes.bif (fun h2 => Comes.ret ?_) (fun h2 => Comes.bif (fun h3 => Comes.ret ?_) (fun h3 => ?_)))
  · rw [if_pos (of_decide_eq_true h1)]
  · rw [if_neg (of_decide_eq_false h1), if_pos (of_decide_eq_true h2)]
  · rw [if_neg (of_decide_eq_false h1), if_neg (of_decide_eq_false h2), if_pos (of_decide_eq_true h3)]
  · have h1 := of_decide_eq_false h1
    have h2 := of_decide_eq_false h2
    have h3 := of_decide_eq_false h3
    rw [if_neg h1, if_neg h2, if_neg h3]
    refine Comes.ite (by omega) (Comes.ite (by omega) (Comes.bifN (fun h4 => Comes.ret ?_) (fun h4 => Comes.ret ?_)))
    · have h4 := of_decide_eq_true h4
      rw [Int.toNat_natCast] at h4
      rw [if_pos h4]
    · have h4 := of_decide_eq_false h4
      rw [Int.toNat_natCast] at h4
      rw [if_neg h4]
theorem push_spec (w : den tWorld) (h : Sm w) {i : Nat} (hi : i < List.length (w.2.1 : List Int)) (q : Int) {d : Nat} (hs : pushErr w i q = 0 → Stands w (Int.toNat q) d) : Comes (fun n _ _ _ => ways_Push n w (i : Int) q (d : Int)) (fun r => r.1 = pushR w i q d) := by
  refine Comes.succ (fun n _ _ _ => ways_Push.eq n w i q d) (Comes.call (Q1 := fun r => r = ((((q, w, (i : Int), ()), w, (d : Int), ()), ()), [])) (Comes.succ (fun n _ _ _ => ways_going_v1.eq n w d q w i) (Comes.ret rfl)) (fun v hv => ?_))
  subst hv
  refine Comes.call (Q1 := fun r => r.1 = pushR w i q d) (Comes.succ (fun n _ _ _ => ways_going_1_v1.eq n q q w (i : Int) w (d : Int)) (Comes.call (push1_spec w hi q) (fun u hu => ?_))) (fun u hu => Comes.ret ?_)
  · subst hu
    unfold pushR
    refine Comes.bifN (fun hb => ?_) (fun hb => Comes.ret ?_)
    · have hb : pushErr w i q = 0 := of_decide_eq_true hb
      rw [if_pos hb]
      have hz := pushErr_zero hb
      obtain ⟨k, rfl⟩ : ∃ k : Nat, q = (k : Int) := ⟨q.toNat, by omega⟩
      rw [Int.toNat_natCast] at hs ⊢
      exact going_tail w h (hs hb)
    · have hb : ¬ pushErr w i q = 0 := of_decide_eq_false hb
      rw [if_neg hb]
  · exact hu
/-! ### The reference -/
theorem pass_spec (w : den tWorld) (h : Sm w) {i d : Nat} (hs : Stands w i d) (he : wExit w i d = -1 ∨ 0 ≤ wExit w i d) : Comes (fun n _ _ _ => innkeepref08_pass n w (i : Int) (d : Int)) (fun r => r.1 = goR w i d) := by
  have hi := hs.ip
  have hd := hs.dp
  have e1 : exitAt w.1 (Int.toNat (List.getD (w.2.1 : List Int) (Int.toNat (i : Int)) (0 : Int))) (Int.toNat (d : Int)) = wExit w i d := by rw [Int.toNat_natCast, Int.toNat_natCast]; rfl
  refine Comes.succ (fun n _ _ _ => innkeepref08_pass.eq n w i d) (Comes.ite (by omega) (Comes.ite ⟨by rw [Int.toNat_natCast]; exact hs.r0, by rw [Int.toNat_natCast]; exact hs.r1⟩ (Comes.ite (by omega) (Comes.bif (fun hb => Comes.ret ?_) (fun hb => Comes.call (copied_spec w h) (fun u hu => ?_))))))
  · have hb : wExit w i d = -1 := by rw [← e1]; exact of_decide_eq_true hb
    unfold goR
    rw [if_neg (by omega)]
  · have hb : ¬ wExit w i d = -1 := by rw [← e1]; exact of_decide_eq_false hb
    subst hu
    refine Comes.bifT rfl (Comes.ite (by show (0 : Int) ≤ i ∧ (i : Int) < (List.length (w.2.1 : List Int) : Int); omega) (Comes.ret ?_))
    unfold goR
    rw [if_pos (by omega)]
    show ((w.1, List.set (w.2.1 : List Int) (Int.toNat (i : Int)) (exitAt w.1 (Int.toNat (List.getD (w.2.1 : List Int) (Int.toNat (i : Int)) (0 : Int))) (Int.toNat (d : Int))), w.2.2.1, w.2.2.2.1, ()), exitAt w.1 (Int.toNat (List.getD (w.2.1 : List Int) (Int.toNat (i : Int)) (0 : Int))) (Int.toNat (d : Int)), 0, ()) = _
    rw [e1, Int.toNat_natCast]
    rfl
theorem refMove_spec (w : den tWorld) (h : Sm w) {i d : Nat} (hs : Stands w i d) (he : wExit w i d = -1 ∨ 0 ≤ wExit w i d) : Comes (fun n _ _ _ => innkeepref08_Move n w (i : Int) (d : Int)) (fun r => r.1 = goR w i d) :=
  Comes.succ (fun n _ _ _ => innkeepref08_Move.eq n w i d) (Comes.call (pass_spec w h hs he) (fun _ hv => Comes.ret hv))
theorem refPush_spec (w : den tWorld) (h : Sm w) {i : Nat} (hi : i < List.length (w.2.1 : List Int)) (q : Int) {d : Nat} (hs : pushErr w i q = 0 → Stands w (Int.toNat q) d ∧ (wExit w (Int.toNat q) d = -1 ∨ 0 ≤ wExit w (Int.toNat q) d)) :
    Comes (fun n _ _ _ => innkeepref08_Push n w (i : Int) q (d : Int)) (fun r => r.1 = pushR w i q d) := by
  refine Comes.succ (fun n _ _ _ => innkeepref08_Push.eq n w i q d) ?_
  unfold pushR
  refine Comes.bif (fun h1 => Comes.ret ?_) (fun h1 => Comes.bif (fun h2 => Comes.ret ?_) (fun h2 => Comes.bif (fun h3 => Comes.ret ?_) (fun h3 => ?_)))
  · have e : pushErr w i q = 3 := by unfold pushErr; rw [if_pos (of_decide_eq_true h1)]
    rw [e, if_neg (by decide)]
  · have e : pushErr w i q = 3 := by unfold pushErr; rw [if_neg (of_decide_eq_false h1), if_pos (of_decide_eq_true h2)]
    rw [e, if_neg (by decide)]
  · have e : pushErr w i q = 12 := by unfold pushErr; rw [if_neg (of_decide_eq_false h1), if_neg (of_decide_eq_false h2), if_pos (of_decide_eq_true h3)]
    rw [e, if_neg (by decide)]
  · have h1 := of_decide_eq_false h1
    have h2 := of_decide_eq_false h2
    have h3 := of_decide_eq_false h3
    refine Comes.ite (by omega) (Comes.ite (by omega) (Comes.bifN (fun h4 => ?_) (fun h4 => Comes.ret ?_)))
    · have h4 := of_decide_eq_true h4
      rw [Int.toNat_natCast] at h4
      have e : pushErr w i q = 0 := by unfold pushErr; rw [if_neg h1, if_neg h2, if_neg h3, if_pos h4.symm]
      obtain ⟨g1, g2⟩ := hs e
      rw [if_pos e]
      obtain ⟨k, rfl⟩ : ∃ k : Nat, q = (k : Int) := ⟨q.toNat, by omega⟩
      rw [Int.toNat_natCast] at g1 g2 ⊢
      exact Comes.call (pass_spec w h g1 g2) (fun _ hv => Comes.ret hv)
    · have h4 := of_decide_eq_false h4
      rw [Int.toNat_natCast] at h4
      have e : pushErr w i q = 5 := by unfold pushErr; rw [if_neg h1, if_neg h2, if_neg h3, if_neg (fun e => h4 e.symm)]
      rw [e, if_neg (by decide)]
end Go.Proofs.Ytcalkhkcokkhhaa.Ghost
namespace Go.Proofs.Ytcalkhkcokkhhaa.Ghost
open Go
structure Ok (w : den tWorld) : Prop where
  sm : Sm w
  right : RightP w
abbrev FewP (w : den tWorld) : Prop := List.length (w.1.1 : List (List Int)) ≤ 20 ∧ List.length (w.1.2.1 : List Int) ≤ 20 ∧ List.length (w.1.2.2.1 : List Int) ≤ 20 ∧ List.length (w.1.2.2.2.1 : List Int) ≤ 40 ∧
    List.length (w.1.2.2.2.2.1 : List Bool) ≤ 40 ∧ List.length (w.2.1 : List Int) ≤ 40 ∧ List.length (w.2.2.1 : List Int) ≤ 40 ∧ List.length (w.2.2.2.1 : List (den tPlace)) ≤ 40
theorem getD_mem' {α : Type} {l : List α} {i : Nat} (d : α) (h : i < l.length) : l.getD i d ∈ l := by
  rw [List.getD_eq_getElem?_getD, List.getElem?_eq_getElem h]
  exact List.getElem_mem h
theorem ok_of {w : den tWorld} (hw : wfD tWorld w) (hf : FewP w) (hr : RightP w) : Ok w := by
  obtain ⟨f1, f2, f3, f4, f5, f6, f7, f8⟩ := hf
  refine ⟨⟨by omega, by omega, by omega, by omega, by omega, by omega, by omega, by omega, fun i hi => ?_⟩, hr⟩
  have h1 : ∀ y : List Int, y ∈ (w.1.1 : List (List Int)) → wfD (.arr 4 (.int .i64)) y := hw.1.1.2
  exact (h1 _ (getD_mem' _ hi)).1
theorem u8_range {a : Int} (h : wfD (.int .u8) a) : 0 ≤ a ∧ a < 256 := by
  have h1 : IntKind.u8.min ≤ a ∧ a ≤ IntKind.u8.max := h
  have e1 : IntKind.u8.min = 0 := rfl
  have e2 : IntKind.u8.max = 255 := rfl
  omega
theorem index_of {a : Int} (h : wfD (.int .u8) a) {n : Nat} (hn : 0 < n) : ∃ i : Nat, i < n ∧ Int.tmod (IntKind.wrap .i64 a) (n : Int) = (i : Int) := by
  obtain ⟨h0, h1⟩ := u8_range h
  rw [wrap_id (by omega) (by omega)]
  refine ⟨(a % (n : Int)).toNat, ?_, ?_⟩
  · have := Int.emod_lt_of_pos a (show (0 : Int) < n by omega)
    have := Int.emod_nonneg a (show (n : Int) ≠ 0 by omega)
    omega
  · rw [Int.tmod_eq_emod_of_nonneg h0]
    have := Int.emod_nonneg a (show (n : Int) ≠ 0 by omega)
    omega
theorem dir_of {a : Int} (h : wfD (.int .u8) a) : ∃ d : Nat, d < 4 ∧ IntKind.wrap .i64 (Int.tmod a 4) = (d : Int) := by
  obtain ⟨h0, h1⟩ := u8_range h
  rw [Int.tmod_eq_emod_of_nonneg h0, wrap_id (by omega) (by omega)]
  exact ⟨(a % 4).toNat, by omega, by omega⟩
section
variable {w : den tWorld}
theorem RightP.pos (h : RightP w) : 0 < List.length (w.2.1 : List Int) := by have := h.a1; have := h.may.p1; omega
theorem RightP.stands (h : RightP w) {i d : Nat} (hi : i < List.length (w.2.1 : List Int)) (hd : d < 4) : Stands w i d := ⟨hi, (h.at_ i hi).1.1, (h.at_ i hi).1.2, hd⟩
theorem RightP.exit (h : RightP w) {i d : Nat} (hi : i < List.length (w.2.1 : List Int)) (hd : d < 4) : wExit w i d = -1 ∨ (0 ≤ wExit w i d ∧ wExit w i d < (List.length (w.1.1 : List (List Int)) : Int)) := by
  have h1 := h.at_ i hi
  unfold wExit
  exact h.may.exits _ ((Int.toNat_lt h1.1.1).2 h1.1.2) d hd
theorem getD_set {α : Type} (l : List α) (i j : Nat) (x d : α) (h : i < l.length) : (l.set i x).getD j d = if j = i then x else l.getD j d := by
  rw [List.getD_eq_getElem?_getD, List.getD_eq_getElem?_getD]
  by_cases hj : j = i
  · subst hj; rw [List.getElem?_set_self h, if_pos rfl]; rfl
  · rw [List.getElem?_set_ne (Ne.symm hj), if_neg hj]
theorem right_moved (h : RightP w) {i : Nat} (hi : i < List.length (w.2.1 : List Int)) {x : Int} (hx : 0 ≤ x ∧ x < (List.length (w.1.1 : List (List Int)) : Int)) : RightP (moved w i x) where
  may := h.may
  a1 := by show List.length (List.set (w.2.1 : List Int) i x) = _; rw [List.length_set]; exact h.a1
  c1 := h.c1
  w1 := h.w1
  at_ j hj := by
    have hj' : j < List.length (w.2.1 : List Int) := by
      have e : List.length (List.set (w.2.1 : List Int) i x) = List.length (w.2.1 : List Int) := List.length_set
      rw [← e]; exact hj
    refine ⟨?_, (h.at_ j hj').2⟩
    show 0 ≤ List.getD (List.set (w.2.1 : List Int) i x) j (0 : Int) ∧ List.getD (List.set (w.2.1 : List Int) i x) j (0 : Int) < _
    rw [getD_set _ _ _ _ _ hi]
    split
    · exact hx
    · exact (h.at_ j hj').1
  good := h.good
  deep := h.deep
theorem sm_moved (h : Sm w) (i : Nat) (x : Int) : Sm (moved w i x) :=
  ⟨h.e, h.b, h.p, h.c, h.i, by show List.length (List.set (w.2.1 : List Int) i x) ≤ _; rw [List.length_set]; exact h.a, h.wc, h.wh, h.rows⟩
theorem Ok.moved (h : Ok w) {i : Nat} (hi : i < List.length (w.2.1 : List Int)) {d : Nat} (hd : d < 4) (hx : 0 ≤ wExit w i d) : Ok (Ghost.moved w i (wExit w i d)) :=
  ⟨sm_moved h.sm i _, right_moved h.right hi ⟨hx, by rcases h.right.exit hi hd with e | e <;> omega⟩⟩
end
theorem awake8 : Comes (fun n _ _ _ => innkeeplaw08_awake n) (fun r => r.1.1 = true) := Comes.one 60 (r := ((true, ()), [])) (by kernel_rfl) rfl
theorem fits8 (w : den tWorld) : Comes (fun n _ _ _ => innkeeplaw08_fits n w) (fun r => r.1.1 = true ↔ FewP w ∧ RightP w) := by
  refine Comes.succ (fun n _ _ _ => innkeeplaw08_fits.eq n w) (Comes.call (few_spec w) (fun v hv => Comes.bif (fun hb => Comes.call (right_spec w) (fun u hu => Comes.ret ?_)) (fun hb => Comes.ret ?_)))
  · exact ⟨fun e => ⟨hv.1 hb, hu.1 e⟩, fun e => hu.2 e.2⟩
  · exact ⟨(fun e => by cases e), fun e => by rw [hv.2 e.1] at hb; cases hb⟩
/-! ### WaysMove -/
theorem pushR_world {w : den tWorld} (h : Ok w) {i : Nat} {q : Int} {d : Nat} : Sm (pushR w i q d).1 := by
  unfold pushR
  split
  · unfold goR
    split
    · exact sm_moved h.sm _ _
    · exact h.sm
  · exact h.sm
theorem goR_world {w : den tWorld} (h : Ok w) {i : Nat} {d : Nat} : Sm (goR w i d).1 := by
  unfold goR
  split
  · exact sm_moved h.sm _ _
  · exact h.sm
theorem pushStands {w : den tWorld} (h : Ok w) {i : Nat} {q : Int} {d : Nat} (hd : d < 4) (hz : pushErr w i q = 0) : Stands w (Int.toNat q) d ∧ (wExit w (Int.toNat q) d = -1 ∨ 0 ≤ wExit w (Int.toNat q) d) := by
  have hz := pushErr_zero hz
  have hlt : Int.toNat q < List.length (w.2.1 : List Int) := by omega
  refine ⟨h.right.stands hlt hd, ?_⟩
  rcases h.right.exit hlt hd with e | e
  · exact .inl e
  · exact .inr e.1
theorem waysMove_true (w : den tWorld) (p q dir : Int) (hw : wfD tWorld w) (hp : wfD (.int .u8) p) (_hq : wfD (.int .i64) q) (hdir : wfD (.int .u8) dir) : Comes (fun n _ _ _ => innkeeplaw08_WaysMove n w p q dir) (fun r => r.1.1 = true) := by
  refine Comes.succ (fun n _ _ _ => innkeeplaw08_WaysMove.eq n w p q dir) (Comes.call awake8 (fun v1 h1 => Comes.bifN (fun _ => Comes.call (fits8 w) (fun v3 h3 => Comes.bifN (fun hf => ?_) (fun _ => Comes.call awake8 (fun v4 h4 => Comes.ret h4)))) (fun hb => by rw [h1] at hb; cases hb)))
  obtain ⟨hfew, hright⟩ := h3.1 hf
  have ok := ok_of hw hfew hright
  obtain ⟨i, hi, ei⟩ := index_of hp hright.pos
  obtain ⟨d, hd, ed⟩ := dir_of hdir
  have hpos := hright.pos
  rw [ei, ed]
  have st := hright.stands hi hd
  have hx := hright.exit hi hd
  have hx' : wExit w i d = -1 ∨ 0 ≤ wExit w i d := hx.imp id (·.1)
  refine Comes.iteN (by omega) ?_
  refine Comes.call (move_spec w ok.sm st) (fun v5 h5 => ?_)
  refine Comes.call (refMove_spec w ok.sm st hx') (fun v6 h6 => ?_)
  refine Comes.call (push_spec w ok.sm hi q (fun hz => (pushStands ok hd hz).1)) (fun v7 h7 => ?_)
  refine Comes.call (refPush_spec w ok.sm hi q (fun hz => pushStands ok hd hz)) (fun v8 h8 => ?_)
  refine Comes.ite (by omega) ?_
  rw [Int.toNat_natCast]
  refine Comes.call (exit_spec w _ _ ⟨st.r0, st.r1⟩ (by omega)) (fun v9 h9 => ?_)
  rw [Int.toNat_natCast] at h9
  have h9 : v9 = ((if wExit w i d < 0 then 0 else wExit w i d, decide (0 ≤ wExit w i d), ()), []) := h9
  subst h9
  refine Comes.ite (by omega) (Comes.ite ⟨st.r0, st.r1⟩ (Comes.ite (by omega) ?_))
  rw [h5, h6, h7, h8]
  refine Comes.call (same_spec _ _ (goR_world ok) (goR_world ok)) (fun v10 h10 => Comes.bifT (h10.2 rfl) (Comes.bifT (decide_eq_true rfl) (Comes.bifT (decide_eq_true rfl) ?_)))
  refine Comes.call (same_spec _ _ (pushR_world ok) (pushR_world ok)) (fun v11 h11 => Comes.bifT (h11.2 rfl) (Comes.bifT (decide_eq_true rfl) (Comes.bifT (decide_eq_true rfl) ?_)))
  have e1 : (List.getD (List.getD (w.1.1 : List (List Int)) (Int.toNat (List.getD (w.2.1 : List Int) i (0 : Int))) (dft (.arr 4 (.int .i64))) : List Int) (Int.toNat (d : Int)) (0 : Int)) = wExit w i d := by rw [Int.toNat_natCast]; rfl
  rw [e1]
  refine Comes.bifT ?_ (Comes.ret ?_)
  · show eqT .bool (decide (0 ≤ wExit w i d)) (!(decide (wExit w i d = -1))) = true
    rcases hx' with e | e
    · rw [e]; decide
    · rw [decide_eq_true e, decide_eq_false (by omega)]; decide
  · exact decide_eq_true rfl
end Go.Proofs.Ytcalkhkcokkhhaa.Ghost
namespace Go.Proofs.Ytcalkhkcokkhhaa.Ghost
open Go
theorem moved_at (w : den tWorld) (i j : Nat) (x : Int) (h : i < List.length (w.2.1 : List Int)) : List.getD ((moved w i x).2.1 : List Int) j (0 : Int) = if j = i then x else List.getD (w.2.1 : List Int) j (0 : Int) := by
  show List.getD (List.set (w.2.1 : List Int) i x) j (0 : Int) = _
  exact getD_set _ _ _ _ _ h
theorem moved_len (w : den tWorld) (i : Nat) (x : Int) : List.length ((moved w i x).2.1 : List Int) = List.length (w.2.1 : List Int) := by
  show List.length (List.set (w.2.1 : List Int) i x) = _
  exact List.length_set
theorem goR_ok {w : den tWorld} {i d : Nat} (h : 0 ≤ wExit w i d) : goR w i d = (moved w i (wExit w i d), wExit w i d, 0, ()) := if_pos h
theorem goR_no {w : den tWorld} {i d : Nat} (h : ¬ 0 ≤ wExit w i d) : goR w i d = (w, 0, 4, ()) := if_neg h
/-! ### WaysGo -/
theorem waysGo_l0 (w : den tWorld) (ok : Ok w) (k : Nat) (hk : k < List.length (w.2.1 : List Int)) (x : Int) (t0 : den tWorld) (t1 t2 t3 : Int) (t8 : Bool) (t9 t11 t13 t14 t16 t17 : Int) (o2 : den tWorld) : (r i : Nat) → i + r = List.length (w.2.1 : List Int) →
    Comes (fun n m _ _ => innkeeplaw08_WaysGo.l0 n m t0 t1 t2 t3 t8 t9 (k : Int) t11 t13 t14 t16 t17 (i : Int) w (moved w k x) o2) (fun r => r.1.1 = true)
  | 0, i, hi => by
    refine Comes.succ1 (fun n m _ _ => innkeeplaw08_WaysGo.l0_eq n m t0 t1 t2 t3 t8 t9 k t11 t13 t14 t16 t17 i w _ o2) (Comes.bif (fun h => ?_) (fun h => ?_))
    · have := of_decide_eq_true h; omega
    · exact Comes.call (places_spec _ _ ok.sm.wh) (fun v hv => Comes.bifT (hv.2 rfl) (Comes.call (ints_spec _ _ ok.sm.wc) (fun u hu => Comes.ret (hu.2 rfl))))
  | r + 1, i, hi => by
    have hlen := ok.sm.a
    have hml := moved_len w k x
    refine Comes.succ1 (fun n m _ _ => innkeeplaw08_WaysGo.l0_eq n m t0 t1 t2 t3 t8 t9 k t11 t13 t14 t16 t17 i w _ o2) (Comes.bif (fun h => ?_) (fun h => ?_))
    · rw [wrap_succ (by omega)]
      refine Comes.bifN (fun hne => waysGo_l0 w ok k hk x t0 t1 t2 t3 t8 t9 t11 t13 t14 t16 t17 o2 r (i + 1) (by omega)) (fun hne => Comes.ite (by omega) (Comes.ite (by omega) (Comes.bifN (fun hb => waysGo_l0 w ok k hk x t0 t1 t2 t3 t8 t9 t11 t13 t14 t16 t17 o2 r (i + 1) (by omega)) (fun hb => ?_))))
      have hne := of_decide_eq_false hne
      have hb := of_decide_eq_false hb
      rw [Int.toNat_natCast, moved_at w k i x hk, if_neg (by omega)] at hb
      exact absurd rfl hb
    · have := of_decide_eq_false h; omega
theorem waysGo_true (w : den tWorld) (p q dir : Int) (hw : wfD tWorld w) (hp : wfD (.int .u8) p) (hq : wfD (.int .u8) q) (hdir : wfD (.int .u8) dir) : Comes (fun n _ _ _ => innkeeplaw08_WaysGo n w p q dir) (fun r => r.1.1 = true) := by
  refine Comes.succ (fun n _ _ _ => innkeeplaw08_WaysGo.eq n w p q dir) (Comes.call awake8 (fun v1 h1 => Comes.bifN (fun _ => Comes.call (fits8 w) (fun v3 h3 => Comes.bifN (fun hf => ?_) (fun _ => Comes.call awake8 (fun v4 h4 => Comes.ret h4)))) (fun hb => by rw [h1] at hb; cases hb)))
  obtain ⟨hfew, hright⟩ := h3.1 hf
  have ok := ok_of hw hfew hright
  obtain ⟨i, hi, ei⟩ := index_of hp hright.pos
  obtain ⟨k, hk, ek⟩ := index_of hq hright.pos
  obtain ⟨d, hd, ed⟩ := dir_of hdir
  have hpos := hright.pos
  rw [ei, ek, ed]
  have st := hright.stands hk hd
  refine Comes.iteN (by omega) (Comes.iteN (by omega) ?_)
  refine Comes.call (push_spec w ok.sm hi (k : Int) (fun hz => (pushStands ok hd hz).1)) (fun v5 h5 => ?_)
  refine Comes.call (move_spec w ok.sm st) (fun v6 h6 => ?_)
  rw [h5, h6]
  by_cases hz : pushErr w i (k : Int) = 0
  · have e5 : pushR w i (k : Int) d = goR w k d := by unfold pushR; rw [if_pos hz, Int.toNat_natCast]
    have hzz := pushErr_zero hz
    rw [Int.toNat_natCast] at hzz
    obtain ⟨_, _, z1, z2⟩ := hzz
    rw [e5]
    by_cases hx : 0 ≤ wExit w k d
    · rw [goR_ok hx]
      dsimp only
      refine Comes.bifN (fun _ => Comes.bifF (decide_eq_false (by omega)) (Comes.ite (by omega) (Comes.ite (by omega) (Comes.bifN (fun _ => Comes.bifN (fun _ => Comes.bifN (fun _ => ?_) (fun hb => absurd rfl (of_decide_eq_false hb))) (fun hb => absurd rfl (of_decide_eq_false hb))) (fun hb => ?_))))) (fun hb => absurd rfl (of_decide_eq_false hb))
      · have ok' := ok.moved hk hd hx
        refine Comes.call (same_spec _ _ ok'.sm ok'.sm) (fun v8 h8 => Comes.bifN (fun _ => Comes.call (right_spec _) (fun v9 h9 => Comes.bifN (fun _ => ?_) (fun hb => ?_))) (fun hb => ?_))
        · have hml := moved_len w k (wExit w k d)
          refine Comes.ite (by omega) (Comes.bifN (fun _ => (waysGo_l0 w ok k hk _ w p q dir false _ _ _ _ _ _ _ _ 0 (Nat.zero_add _)).enter) (fun hb => ?_))
          have hb := of_decide_eq_false hb
          rw [Int.toNat_natCast] at hb
          exact absurd ((moved_at w k k _ hk).trans (if_pos rfl)) hb
        · rw [h9.2 ok'.right] at hb; cases hb
        · rw [h8.2 rfl] at hb; cases hb
      · have hb := of_decide_eq_false hb
        rw [Int.toNat_natCast, Int.toNat_natCast] at hb
        exact absurd z2.symm hb
    · rw [goR_no hx]
      dsimp only
      refine Comes.bifN (fun hb => absurd (of_decide_eq_true hb) (by decide)) (fun _ => Comes.call (same_spec _ _ ok.sm ok.sm) (fun v7 h7 => Comes.bifT (h7.2 rfl) (Comes.bifT rfl (Comes.bifT ?_ (Comes.bifN (fun _ => Comes.ret rfl) (fun hb => absurd rfl (of_decide_eq_false hb)))))))
      rw [decide_eq_false (show ¬ (i : Int) = k by omega)]
      rfl
  · have e5 : pushR w i (k : Int) d = (w, 0, pushErr w i k, ()) := by unfold pushR; rw [if_neg hz]
    rw [e5]
    refine Comes.bifN (fun hb => absurd (of_decide_eq_true hb) hz) (fun _ => Comes.call (same_spec _ _ ok.sm ok.sm) (fun v7 h7 => Comes.bifT (h7.2 rfl) (Comes.bifT rfl (Comes.bifT ?_ (Comes.bifN (fun hb => ?_) (fun _ => Comes.ret rfl))))))
    · show eqT .bool (!(decide (pushErr w i (k : Int) = 12))) (!(decide ((i : Int) = k))) = true
      by_cases hik : (i : Int) = k
      · have : pushErr w i (k : Int) = 12 := by
          unfold pushErr
          rw [if_neg (by omega), if_neg (by omega), if_pos hik.symm]
        rw [decide_eq_true this, decide_eq_true hik]; rfl
      · have : ¬ pushErr w i (k : Int) = 12 := by
          unfold pushErr
          rw [if_neg (by omega), if_neg (by omega), if_neg (fun e => hik e.symm)]
          split <;> decide
        rw [decide_eq_false this, decide_eq_false hik]; rfl
    · have hb : pushErr w i (k : Int) = 4 := of_decide_eq_true hb
      exfalso
      unfold pushErr at hb
      split at hb
      · cases hb
      · split at hb
        · cases hb
        · split at hb
          · cases hb
          · split at hb <;> cases hb
/-! ### WaysBack -/
theorem waysBack_true (w : den tWorld) (p dir back : Int) (hw : wfD tWorld w) (hp : wfD (.int .u8) p) (hdir : wfD (.int .u8) dir) (hback : wfD (.int .u8) back) : Comes (fun n _ _ _ => innkeeplaw08_WaysBack n w p dir back) (fun r => r.1.1 = true) := by
  refine Comes.succ (fun n _ _ _ => innkeeplaw08_WaysBack.eq n w p dir back) (Comes.call awake8 (fun v1 h1 => Comes.bifN (fun _ => Comes.call (fits8 w) (fun v3 h3 => Comes.bifN (fun hf => ?_) (fun _ => Comes.call awake8 (fun v4 h4 => Comes.ret h4)))) (fun hb => by rw [h1] at hb; cases hb)))
  obtain ⟨hfew, hright⟩ := h3.1 hf
  have ok := ok_of hw hfew hright
  obtain ⟨i, hi, ei⟩ := index_of hp hright.pos
  obtain ⟨d, hd, ed⟩ := dir_of hdir
  obtain ⟨b, hb, eb⟩ := dir_of hback
  have hpos := hright.pos
  rw [ei, ed, eb]
  have st := hright.stands hi hd
  refine Comes.iteN (by omega) ?_
  refine Comes.call (move_spec w ok.sm st) (fun v5 h5 => ?_)
  rw [h5]
  by_cases hx : 0 ≤ wExit w i d
  · rw [goR_ok hx]
    dsimp only
    refine Comes.bifN (fun _ => ?_) (fun hb => absurd rfl (of_decide_eq_false hb))
    have ok' := ok.moved hi hd hx
    have hxr : wExit w i d < (List.length (w.1.1 : List (List Int)) : Int) := by rcases hright.exit hi hd with e | e <;> omega
    have hml := moved_len w i (wExit w i d)
    have st' : Stands (moved w i (wExit w i d)) i b := ok'.right.stands (by omega) hb
    have ex : wExit (moved w i (wExit w i d)) i b = exitAt w.1 (Int.toNat (wExit w i d)) b := by
      unfold wExit
      rw [moved_at w i i _ hi, if_pos rfl]
      rfl
    refine Comes.call (exit_spec w _ _ ⟨hx, hxr⟩ (by omega)) (fun v6 h6 => ?_)
    rw [Int.toNat_natCast, ← ex] at h6
    subst h6
    refine Comes.call (move_spec _ ok'.sm st') (fun v7 h7 => ?_)
    rw [h7]
    by_cases hy : 0 ≤ wExit (moved w i (wExit w i d)) i b
    · rw [goR_ok hy]
      dsimp only
      have ok'' := ok'.moved (by omega) hb hy
      have hml2 := moved_len (moved w i (wExit w i d)) i (wExit (moved w i (wExit w i d)) i b)
      have e0 : (if wExit (moved w i (wExit w i d)) i b < 0 then 0 else wExit (moved w i (wExit w i d)) i b) = wExit (moved w i (wExit w i d)) i b := if_neg (by omega)
      rw [e0]
      have e1 : List.getD ((moved (moved w i (wExit w i d)) i (wExit (moved w i (wExit w i d)) i b)).2.1 : List Int) i (0 : Int) = wExit (moved w i (wExit w i d)) i b := by
        rw [moved_at _ _ _ _ (by omega), if_pos rfl]
      refine Comes.bifN (fun _ => Comes.bifT (decide_eq_true hy) (Comes.bifN (fun _ => Comes.ite (by omega) (Comes.bifN (fun _ => Comes.bifN (fun _ => Comes.ite (by omega) (Comes.call (same_spec _ _ ok''.sm ok.sm) (fun v8 h8 => Comes.ret ?_))) (fun hb => ?_)) (fun hb => ?_))) (fun hb => absurd rfl (of_decide_eq_false hb)))) (fun hb => ?_)
      · show eqT .bool (decide (wExit (moved w i (wExit w i d)) i b = List.getD (w.2.1 : List Int) (Int.toNat (i : Int)) (0 : Int))) v8.1.1 = true
        rw [Int.toNat_natCast]
        by_cases hs : wExit (moved w i (wExit w i d)) i b = List.getD (w.2.1 : List Int) i (0 : Int)
        · have : moved (moved w i (wExit w i d)) i (wExit (moved w i (wExit w i d)) i b) = w := by
            refine Prod.ext rfl (Prod.ext ?_ rfl)
            refine ext_getD 0 (by rw [hml2, hml]) (fun j hj => ?_)
            rw [moved_at _ _ _ _ (by omega)]
            split
            · rename_i hji; rw [hji]; exact hs
            · rename_i hji; rw [moved_at _ _ _ _ hi, if_neg hji]
          rw [decide_eq_true hs, h8.2 this]
          rfl
        · rw [decide_eq_false hs]
          cases hv : v8.1.1 with
          | false => rfl
          | true =>
            have this : moved (moved w i (wExit w i d)) i (wExit (moved w i (wExit w i d)) i b) = w := h8.1 hv
            rw [this] at e1
            exact absurd e1.symm hs
      · rw [decide_eq_true hy] at hb; cases hb
      · have hb := of_decide_eq_false hb
        rw [Int.toNat_natCast] at hb
        exact absurd e1 hb
      · rw [show (decide (0 ≤ wExit (moved w i (wExit w i d)) i b)) = true from decide_eq_true hy] at hb
        cases hb
    · rw [goR_no hy]
      dsimp only
      refine Comes.bifN (fun _ => Comes.bifF (decide_eq_false hy) (Comes.bifN (fun hb => ?_) (fun _ => Comes.ret rfl))) (fun hb => ?_)
      · rw [decide_eq_false hy] at hb; cases hb
      · rw [show (decide (0 ≤ wExit (moved w i (wExit w i d)) i b)) = false from decide_eq_false hy] at hb
        cases hb
  · rw [goR_no hx]
    dsimp only
    exact Comes.bifN (fun hb => absurd (of_decide_eq_true hb) (by decide)) (fun _ => Comes.ret rfl)
/-! ### WaysWander -/
/-- a world that differs in where one player is -/
structure Walked (w x : den tWorld) (i : Nat) : Prop where
  d : x.1 = w.1
  wh : x.2.2.2.1 = w.2.2.2.1
  len : List.length (x.2.1 : List Int) = List.length (w.2.1 : List Int)
  at_ : ∀ j, j ≠ i → List.getD (x.2.1 : List Int) j (0 : Int) = List.getD (w.2.1 : List Int) j (0 : Int)
theorem Walked.moved {w x : den tWorld} {i : Nat} (h : Walked w x i) (hi : i < List.length (x.2.1 : List Int)) (y : Int) : Walked w (Ghost.moved x i y) i :=
  ⟨h.d, h.wh, by rw [moved_len]; exact h.len, fun j hj => by rw [moved_at _ _ _ _ hi, if_neg hj]; exact h.at_ j hj⟩
theorem wander_l1 (w : den tWorld) (ok : Ok w) (x : den tWorld) (okx : Ok x) (i : Nat) (hw : Walked w x i) (t0 : den tWorld) (t1 : Int) (t2 : List Int) (t6 : Bool) (t9 : Int) : (r k : Nat) → k + r = List.length (w.2.1 : List Int) →
    Comes (fun n m _ _ => innkeeplaw08_WaysWander.l1 n m t0 t1 t2 t6 (i : Int) t9 (k : Int) w x) (fun r => r.1.1 = true)
  | 0, k, hk => by
    refine Comes.succ1 (fun n m _ _ => innkeeplaw08_WaysWander.l1_eq n m t0 t1 t2 t6 i t9 k w x) (Comes.bif (fun h => ?_) (fun h => ?_))
    · have := of_decide_eq_true h; omega
    · exact Comes.call (places_spec _ _ okx.sm.wh) (fun v hv => Comes.ret (hv.2 hw.wh))
  | r + 1, k, hk => by
    have hlen := ok.sm.a
    have hxl := hw.len
    refine Comes.succ1 (fun n m _ _ => innkeeplaw08_WaysWander.l1_eq n m t0 t1 t2 t6 i t9 k w x) (Comes.bif (fun h => ?_) (fun h => ?_))
    · rw [wrap_succ (by omega)]
      refine Comes.bifN (fun hne => wander_l1 w ok x okx i hw t0 t1 t2 t6 t9 r (k + 1) (by omega)) (fun hne => Comes.ite (by omega) (Comes.ite (by omega) (Comes.bifN (fun hb => wander_l1 w ok x okx i hw t0 t1 t2 t6 t9 r (k + 1) (by omega)) (fun hb => ?_))))
      have hne := of_decide_eq_false hne
      have hb := of_decide_eq_false hb
      rw [Int.toNat_natCast] at hb
      exact absurd (hw.at_ k (by omega)) hb
    · have := of_decide_eq_false h; omega
theorem wander_l0 (w : den tWorld) (ok : Ok w) (i : Nat) (hi : i < List.length (w.2.1 : List Int)) (t0 : den tWorld) (t1 : Int) (dirs : List Int) (hd : dirs.length ≤ 60) (hdw : ∀ y, y ∈ dirs → wfD (.int .u8) y) (t6 : Bool) : (r k : Nat) → k + r = dirs.length → (x : den tWorld) → Ok x → Walked w x i →
    Comes (fun n m _ _ => innkeeplaw08_WaysWander.l0 n m t0 t1 dirs t6 (i : Int) (k : Int) w x) (fun r => r.1.1 = true)
  | 0, k, hk, x, okx, hw => by
    refine Comes.succ1 (fun n m _ _ => innkeeplaw08_WaysWander.l0_eq n m t0 t1 dirs t6 i k w x) (Comes.bif (fun h => ?_) (fun h => ?_))
    · have := of_decide_eq_true h; omega
    · exact (wander_l1 w ok x okx i hw t0 t1 dirs t6 k _ 0 (Nat.zero_add _)).enter
  | r + 1, k, hk, x, okx, hw => by
    have hxl := hw.len
    obtain ⟨d, hd4, ed⟩ := dir_of (hdw _ (getD_mem' (0 : Int) (show k < dirs.length by omega)))
    refine Comes.succ1 (fun n m _ _ => innkeeplaw08_WaysWander.l0_eq n m t0 t1 dirs t6 i k w x) (Comes.bif (fun h => Comes.ite (by omega) ?_) (fun h => ?_))
    · rw [Int.toNat_natCast, ed, wrap_succ (by omega)]
      have hix : i < List.length (x.2.1 : List Int) := by omega
      have st := okx.right.stands hix hd4
      refine Comes.call (move_spec x okx.sm st) (fun v6 h6 => ?_)
      rw [h6]
      by_cases hx : 0 ≤ wExit x i d
      · rw [goR_ok hx]
        dsimp only
        have ok' := okx.moved hix hd4 hx
        have hml := moved_len x i (wExit x i d)
        refine Comes.bifT rfl (Comes.ite (by omega) (Comes.bifN (fun _ => Comes.bifN (fun _ => Comes.call (right_spec _) (fun v9 h9 => Comes.bifN (fun _ => wander_l0 w ok i hi t0 t1 dirs hd hdw t6 r (k + 1) (by omega) _ ok' (hw.moved hix _)) (fun hb => ?_))) (fun hb => absurd rfl (of_decide_eq_false hb))) (fun hb => ?_)))
        · rw [h9.2 ok'.right] at hb; cases hb
        · have hb := of_decide_eq_false hb
          rw [Int.toNat_natCast] at hb
          exact absurd ((moved_at x i i _ hix).trans (if_pos rfl)) hb
      · rw [goR_no hx]
        dsimp only
        refine Comes.bifF rfl (Comes.bifN (fun hb => absurd (of_decide_eq_true hb) (by decide)) (fun _ => Comes.call (same_spec _ _ okx.sm okx.sm) (fun v10 h10 => Comes.bifN (fun _ => Comes.call (right_spec _) (fun v11 h11 => Comes.bifN (fun _ => wander_l0 w ok i hi t0 t1 dirs hd hdw t6 r (k + 1) (by omega) _ okx hw) (fun hb => ?_))) (fun hb => ?_))))
        · rw [h11.2 okx.right] at hb; cases hb
        · rw [h10.2 rfl] at hb; cases hb
    · have := of_decide_eq_false h; omega
theorem waysWander_true (w : den tWorld) (p : Int) (dirs : List Int) (hw : wfD tWorld w) (hp : wfD (.int .u8) p) (hdirs : wfD (.sl (.int .u8)) dirs) : Comes (fun n _ _ _ => innkeeplaw08_WaysWander n w p dirs) (fun r => r.1.1 = true) := by
  refine Comes.succ (fun n _ _ _ => innkeeplaw08_WaysWander.eq n w p dirs) (Comes.call awake8 (fun v1 h1 => Comes.bifN (fun _ => Comes.call (fits8 w) (fun v3 h3 => Comes.bifN (fun hf => ?_) (fun _ => Comes.call awake8 (fun v4 h4 => Comes.ret h4)))) (fun hb => by rw [h1] at hb; cases hb)))
  obtain ⟨hfew, hright⟩ := h3.1 hf
  have ok := ok_of hw hfew hright
  obtain ⟨i, hi, ei⟩ := index_of hp hright.pos
  have hpos := hright.pos
  refine Comes.bif (fun _ => Comes.call awake8 (fun v4 h4 => Comes.ret h4)) (fun hl => ?_)
  have hl := of_decide_eq_false hl
  rw [ei]
  exact Comes.iteN (by omega) (wander_l0 w ok i hi w p dirs (by omega) hdirs.2 false _ 0 (Nat.zero_add _) w ok ⟨rfl, rfl, rfl, fun _ _ => rfl⟩).enter
end Go.Proofs.Ytcalkhkcokkhhaa.Ghost
