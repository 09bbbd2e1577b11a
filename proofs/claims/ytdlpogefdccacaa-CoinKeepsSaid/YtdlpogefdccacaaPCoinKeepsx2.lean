-- PRINTED BY print.sh 35421559b90ae4d0a3588c463048766b98c2df88dd9212a6774a882060cdf62d: not written by this session
import Derived.Test.YtdlpogefdccacaaPCoinKeepsx0
import Derived.Test.YtdlpogefdccacaaPCoinKeepsx1
namespace Go.Proofs.Ytdlpogefdccacaa.PCoinKeeps
open Go.RowKit Go.Proofs.YtdlpogefdccacaaW.PrintWords Go.Proofs.YtdlpogefdccacaaW.PrintLast Go.Proofs.YtdlpogefdccacaaW.PrintMore
attribute [local go_sem] max2_int min2_int max_two min_two max_three min_three max_four min_four   -- for this text's walks alone
set_option linter.unusedVariables false
set_option linter.unusedSimpArgs false

/-! ### innkeeplaw01_CoinKeeps: function 4 -/
mutual
def innkeeplaw01_CoinKeeps.j0 : Nat → Int → Int → Int → Int → Bool → Option (Bool)
  | 0, _, _, _, _, _ => none
  | k + 1, x0, x1, x2, x3, x32 => if x32 = true then ((innkeeplaw01_awake.f k).bind fun t133 => (some t133)) else ((coin_Swap.f k x0 x1 x2 x3).bind fun bt134 => (if (wrap64 (bt134.1 + bt134.2.1)) = (wrap64 (x0 + x1)) then ((coin_Is.f bt134.1).bind fun t137 => (if t137 = true then ((coin_Is.f bt134.2.1).bind fun t138 => (if t138 = true then (if bt134.2.2 = 0 then (innkeeplaw01_CoinKeeps.j1 k x0 x1 x2 false) else (if bt134.1 = x0 then (innkeeplaw01_CoinKeeps.j1 k x0 x1 x2 (bt134.2.1 != x1)) else (innkeeplaw01_CoinKeeps.j1 k x0 x1 x2 true))) else (innkeeplaw01_CoinKeeps.j1 k x0 x1 x2 true))) else (innkeeplaw01_CoinKeeps.j1 k x0 x1 x2 true))) else (innkeeplaw01_CoinKeeps.j1 k x0 x1 x2 true)))
def innkeeplaw01_CoinKeeps.j1 : Nat → Int → Int → Int → Bool → Option (Bool)
  | 0, _, _, _, _ => none
  | k + 1, x0, x1, x2, x73 => if x73 = true then (some false) else ((coin_Pay.f k x0 x1 x2).bind fun bt139 => ((coin_Swap.f k x0 x1 x2 0).bind fun bt142 => (if bt139.1 = bt142.1 then (if bt139.2.1 = bt142.2.1 then (innkeeplaw01_CoinKeeps.j2 k x0 x1 x2 bt139.1 bt139.2.1 bt139.2.2 (bt139.2.2 != bt142.2.2)) else (innkeeplaw01_CoinKeeps.j2 k x0 x1 x2 bt139.1 bt139.2.1 bt139.2.2 true)) else (innkeeplaw01_CoinKeeps.j2 k x0 x1 x2 bt139.1 bt139.2.1 bt139.2.2 true))))
def innkeeplaw01_CoinKeeps.j2 : Nat → Int → Int → Int → Int → Int → Int → Bool → Option (Bool)
  | 0, _, _, _, _, _, _, _ => none
  | k + 1, x0, x1, x2, x12, x13, x14, x102 => if x102 = true then (some false) else (if x14 = 0 then ((coin_Pay.f k x13 x12 x2).bind fun bt145 => (if bt145.2.2 = 0 then (if bt145.1 = x1 then (some (bt145.2.1 == x0)) else (some false)) else (some false))) else (some true))
end
def innkeeplaw01_CoinKeeps.f (k : Nat) (a0 : Int) (a1 : Int) (a2 : Int) (a3 : Int) : Option (Bool) := (innkeeplaw01_awake.f k).bind fun t130 => (if t130 = true then ((innkeepref01_Is.f a0).bind fun t131 => (if t131 = true then ((innkeepref01_Is.f a1).bind fun t132 => (innkeeplaw01_CoinKeeps.j0 k a0 a1 a2 a3 (!t132))) else (innkeeplaw01_CoinKeeps.j0 k a0 a1 a2 a3 true))) else (innkeeplaw01_CoinKeeps.j0 k a0 a1 a2 a3 true))
theorem innkeeplaw01_CoinKeeps.mono_l : ∀ k, (∀ y0 y1 y2 y3 y4, LeO (innkeeplaw01_CoinKeeps.j0 k y0 y1 y2 y3 y4) (innkeeplaw01_CoinKeeps.j0 (k + 1) y0 y1 y2 y3 y4)) ∧ (∀ y0 y1 y2 y3, LeO (innkeeplaw01_CoinKeeps.j1 k y0 y1 y2 y3) (innkeeplaw01_CoinKeeps.j1 (k + 1) y0 y1 y2 y3)) ∧ (∀ y0 y1 y2 y3 y4 y5 y6, LeO (innkeeplaw01_CoinKeeps.j2 k y0 y1 y2 y3 y4 y5 y6) (innkeeplaw01_CoinKeeps.j2 (k + 1) y0 y1 y2 y3 y4 y5 y6))
  | 0 => ⟨fun _ _ _ _ _ r h => by simp [innkeeplaw01_CoinKeeps.j0] at h, fun _ _ _ _ r h => by simp [innkeeplaw01_CoinKeeps.j1] at h, fun _ _ _ _ _ _ _ r h => by simp [innkeeplaw01_CoinKeeps.j2] at h⟩
  | k + 1 => by
    obtain ⟨ih0, ih1, ih2⟩ := innkeeplaw01_CoinKeeps.mono_l k
    refine ⟨?_, ?_, ?_⟩
    · intro y0 y1 y2 y3 y4
      unfold innkeeplaw01_CoinKeeps.j0
      repeat' first
      | (with_reducible exact ih0 _ _ _ _ _)
      | (with_reducible exact ih1 _ _ _ _)
      | (with_reducible exact ih2 _ _ _ _ _ _ _)
      | (with_reducible exact coin_Pay.mono _ _ _ _)
      | (with_reducible exact coin_Swap.mono _ _ _ _ _)
      | (with_reducible exact innkeeplaw01_awake.mono _)
      | (with_reducible exact LeO.refl _)
      | (with_reducible exact LeO.none _)
      | (with_reducible refine LeO.ite ?_ ?_)
      | (with_reducible refine LeO.bind ?_ (fun _ => ?_))
      | exact ih0 _ _ _ _ _
      | exact ih1 _ _ _ _
      | exact ih2 _ _ _ _ _ _ _
      | exact coin_Pay.mono _ _ _ _
      | exact coin_Swap.mono _ _ _ _ _
      | exact innkeeplaw01_awake.mono _
      | exact LeO.none _
      | refine LeO.ite ?_ ?_
      | refine LeO.bind ?_ (fun _ => ?_)
    · intro y0 y1 y2 y3
      unfold innkeeplaw01_CoinKeeps.j1
      repeat' first
      | (with_reducible exact ih0 _ _ _ _ _)
      | (with_reducible exact ih1 _ _ _ _)
      | (with_reducible exact ih2 _ _ _ _ _ _ _)
      | (with_reducible exact coin_Pay.mono _ _ _ _)
      | (with_reducible exact coin_Swap.mono _ _ _ _ _)
      | (with_reducible exact innkeeplaw01_awake.mono _)
      | (with_reducible exact LeO.refl _)
      | (with_reducible exact LeO.none _)
      | (with_reducible refine LeO.ite ?_ ?_)
      | (with_reducible refine LeO.bind ?_ (fun _ => ?_))
      | exact ih0 _ _ _ _ _
      | exact ih1 _ _ _ _
      | exact ih2 _ _ _ _ _ _ _
      | exact coin_Pay.mono _ _ _ _
      | exact coin_Swap.mono _ _ _ _ _
      | exact innkeeplaw01_awake.mono _
      | exact LeO.none _
      | refine LeO.ite ?_ ?_
      | refine LeO.bind ?_ (fun _ => ?_)
    · intro y0 y1 y2 y3 y4 y5 y6
      unfold innkeeplaw01_CoinKeeps.j2
      repeat' first
      | (with_reducible exact ih0 _ _ _ _ _)
      | (with_reducible exact ih1 _ _ _ _)
      | (with_reducible exact ih2 _ _ _ _ _ _ _)
      | (with_reducible exact coin_Pay.mono _ _ _ _)
      | (with_reducible exact coin_Swap.mono _ _ _ _ _)
      | (with_reducible exact innkeeplaw01_awake.mono _)
      | (with_reducible exact LeO.refl _)
      | (with_reducible exact LeO.none _)
      | (with_reducible refine LeO.ite ?_ ?_)
      | (with_reducible refine LeO.bind ?_ (fun _ => ?_))
      | exact ih0 _ _ _ _ _
      | exact ih1 _ _ _ _
      | exact ih2 _ _ _ _ _ _ _
      | exact coin_Pay.mono _ _ _ _
      | exact coin_Swap.mono _ _ _ _ _
      | exact innkeeplaw01_awake.mono _
      | exact LeO.none _
      | refine LeO.ite ?_ ?_
      | refine LeO.bind ?_ (fun _ => ?_)
theorem innkeeplaw01_CoinKeeps.mono : ∀ a0 a1 a2 a3 k, LeO (innkeeplaw01_CoinKeeps.f k a0 a1 a2 a3) (innkeeplaw01_CoinKeeps.f (k + 1) a0 a1 a2 a3) := by
  intro a0 a1 a2 a3 k
  obtain ⟨ih0, ih1, ih2⟩ := innkeeplaw01_CoinKeeps.mono_l k
  unfold innkeeplaw01_CoinKeeps.f
  repeat' first
      | (with_reducible exact ih0 _ _ _ _ _)
      | (with_reducible exact ih1 _ _ _ _)
      | (with_reducible exact ih2 _ _ _ _ _ _ _)
      | (with_reducible exact coin_Pay.mono _ _ _ _)
      | (with_reducible exact coin_Swap.mono _ _ _ _ _)
      | (with_reducible exact innkeeplaw01_awake.mono _)
      | (with_reducible exact LeO.refl _)
      | (with_reducible exact LeO.none _)
      | (with_reducible refine LeO.ite ?_ ?_)
      | (with_reducible refine LeO.bind ?_ (fun _ => ?_))
      | exact ih0 _ _ _ _ _
      | exact ih1 _ _ _ _
      | exact ih2 _ _ _ _ _ _ _
      | exact coin_Pay.mono _ _ _ _
      | exact coin_Swap.mono _ _ _ _ _
      | exact innkeeplaw01_awake.mono _
      | exact LeO.none _
      | refine LeO.ite ?_ ?_
      | refine LeO.bind ?_ (fun _ => ?_)
set_option maxHeartbeats 8000000 in
set_option maxRecDepth 100000 in
theorem innkeeplaw01_CoinKeeps.calls (k : Nat) (a0 : Int) (a1 : Int) (a2 : Int) (a3 : Int) (r : Bool) (w : World) (h : innkeeplaw01_CoinKeeps.f k a0 a1 a2 a3 = some r) :
    Calls Try.prog 4 #[.int .i64 a0, .int .i64 a1, .int .i64 a2, .int .i64 a3] w fun e w' => e = .returned (.bool r) ∧ Below w.heap.size w w' := by
  have HB := Aside0.mk (Below.refl w.heap.size w)
  have H : ((innkeeplaw01_awake.f k).bind fun t130 => (if t130 = true then ((innkeepref01_Is.f a0).bind fun t131 => (if t131 = true then ((innkeepref01_Is.f a1).bind fun t132 => (innkeeplaw01_CoinKeeps.j0 k a0 a1 a2 a3 (!t132))) else (innkeeplaw01_CoinKeeps.j0 k a0 a1 a2 a3 true))) else (innkeeplaw01_CoinKeeps.j0 k a0 a1 a2 a3 true))) = some r := h
  clear h
  have HC5 := Aside0.mk H
  clear H
  go_enter Try.func4, Try.ntmps4
  go_upto_region 1 with (fail)
  go_cut [32] (fun v32 wc => ∃ (kq : Nat) (x32_4 : Bool), v32 = .bool x32_4 ∧ Aside0 (innkeeplaw01_CoinKeeps.j0 kq a0 a1 a2 a3 x32_4 = some r) ∧ Aside0 (kq ≤ k) ∧ Aside0 (Below w.heap.size w wc))
  case first =>
    have H := HC5.out
    clear HC5
    replace H := Option.bind_eq_some_iff.mp H
    obtain ⟨t130, A60, H⟩ := H
    replace H : (if t130 = true then ((innkeepref01_Is.f a0).bind fun t131 => (if t131 = true then ((innkeepref01_Is.f a1).bind fun t132 => (innkeeplaw01_CoinKeeps.j0 k a0 a1 a2 a3 (!t132))) else (innkeeplaw01_CoinKeeps.j0 k a0 a1 a2 a3 true))) else (innkeeplaw01_CoinKeeps.j0 k a0 a1 a2 a3 true)) = some r := H
    have A6 := Aside0.mk A60
    clear A60
    by_cases c7 : t130 = true
    · subst c7
      have H1 : ((innkeepref01_Is.f a0).bind fun t131 => (if t131 = true then ((innkeepref01_Is.f a1).bind fun t132 => (innkeeplaw01_CoinKeeps.j0 k a0 a1 a2 a3 (!t132))) else (innkeeplaw01_CoinKeeps.j0 k a0 a1 a2 a3 true))) = some r := by rw [if_pos rfl] at H; exact H
      clear H
      have H := H1
      clear H1
      replace H := Option.bind_eq_some_iff.mp H
      obtain ⟨t131, A80, H⟩ := H
      replace H : (if t131 = true then ((innkeepref01_Is.f a1).bind fun t132 => (innkeeplaw01_CoinKeeps.j0 k a0 a1 a2 a3 (!t132))) else (innkeeplaw01_CoinKeeps.j0 k a0 a1 a2 a3 true)) = some r := H
      have A8 := Aside0.mk A80
      clear A80
      by_cases c9 : t131 = true
      · subst c9
        have H1 : ((innkeepref01_Is.f a1).bind fun t132 => (innkeeplaw01_CoinKeeps.j0 k a0 a1 a2 a3 (!t132))) = some r := by rw [if_pos rfl] at H; exact H
        clear H
        have H := H1
        clear H1
        replace H := Option.bind_eq_some_iff.mp H
        obtain ⟨t132, A100, H⟩ := H
        replace H : (innkeeplaw01_CoinKeeps.j0 k a0 a1 a2 a3 (!t132)) = some r := H
        have A10 := Aside0.mk A100
        clear A100
        have H' := Aside0.mk H
        clear H
        go_wp2_with (first | ((with_reducible refine gate_callee (f := 8) rfl ?_); refine goesL_ (some 21) rfl rfl Try.func8 (by kernel_rfl) rfl #[] rfl (by (try simp only [List.map_toArray, List.map_cons, List.map_nil]); first | done | rfl | (simp only [List.length_drop, List.length_take]; rfl)) ?_; (with_reducible refine (innkeeplaw01_awake.calls k  true _ A6.out).mono ?_); rintro e w11 ⟨rfl, hb⟩; refine ⟨_, rfl, ?_⟩; have n0_ := Aside0.mk (below_step (by repeat (first | (with_reducible first | exact HB.out | apply below_alloc | apply pw_below_drewN | apply below_drew1) | exact HB.out)) hb); clear HB; have HB := n0_; clear n0_; (try clear hb); (try clear hb2); (try clear hk); (try clear hi)) | (go_at_call 10; (with_reducible refine (innkeepref01_Is.calls a0 true _ A8.out).mono ?_); rintro e w' ⟨rfl, ⟨nd, rfl⟩⟩) | (go_at_call 10; (with_reducible refine (innkeepref01_Is.calls a1 t132 _ A10.out).mono ?_); rintro e w' ⟨rfl, ⟨nd, rfl⟩⟩))
        go_meet
        case rel => exact ⟨_, (!t132), (by first | rfl | (simp; done) | (simp [*]; done)), H', ⟨by first | omega | exact Nat.le_refl _⟩, ⟨by repeat (first | (with_reducible first | exact HB.out | apply below_alloc | apply pw_below_drewN | apply below_drew1) | exact HB.out)⟩⟩
      · replace c9 := Bool.eq_false_iff.mpr c9
        subst c9
        have H1 : (innkeeplaw01_CoinKeeps.j0 k a0 a1 a2 a3 true) = some r := by rw [if_neg (show ¬ (false = true) by decide)] at H; exact H
        clear H
        have H := H1
        clear H1
        have H' := Aside0.mk H
        clear H
        go_wp2_with (first | ((with_reducible refine gate_callee (f := 8) rfl ?_); refine goesL_ (some 21) rfl rfl Try.func8 (by kernel_rfl) rfl #[] rfl (by (try simp only [List.map_toArray, List.map_cons, List.map_nil]); first | done | rfl | (simp only [List.length_drop, List.length_take]; rfl)) ?_; (with_reducible refine (innkeeplaw01_awake.calls k  true _ A6.out).mono ?_); rintro e w12 ⟨rfl, hb⟩; refine ⟨_, rfl, ?_⟩; have n0_ := Aside0.mk (below_step (by repeat (first | (with_reducible first | exact HB.out | apply below_alloc | apply pw_below_drewN | apply below_drew1) | exact HB.out)) hb); clear HB; have HB := n0_; clear n0_; (try clear hb); (try clear hb2); (try clear hk); (try clear hi)) | (go_at_call 10; (with_reducible refine (innkeepref01_Is.calls a0 false _ A8.out).mono ?_); rintro e w' ⟨rfl, ⟨nd, rfl⟩⟩))
        go_meet
        case rel => exact ⟨_, (true), (by first | rfl | (simp; done) | (simp [*]; done)), H', ⟨by first | omega | exact Nat.le_refl _⟩, ⟨by repeat (first | (with_reducible first | exact HB.out | apply below_alloc | apply pw_below_drewN | apply below_drew1) | exact HB.out)⟩⟩
    · replace c7 := Bool.eq_false_iff.mpr c7
      subst c7
      have H1 : (innkeeplaw01_CoinKeeps.j0 k a0 a1 a2 a3 true) = some r := by rw [if_neg (show ¬ (false = true) by decide)] at H; exact H
      clear H
      have H := H1
      clear H1
      have H' := Aside0.mk H
      clear H
      go_wp2_with (first | ((with_reducible refine gate_callee (f := 8) rfl ?_); refine goesL_ (some 21) rfl rfl Try.func8 (by kernel_rfl) rfl #[] rfl (by (try simp only [List.map_toArray, List.map_cons, List.map_nil]); first | done | rfl | (simp only [List.length_drop, List.length_take]; rfl)) ?_; (with_reducible refine (innkeeplaw01_awake.calls k  false _ A6.out).mono ?_); rintro e w13 ⟨rfl, hb⟩; refine ⟨_, rfl, ?_⟩; have n0_ := Aside0.mk (below_step (by repeat (first | (with_reducible first | exact HB.out | apply below_alloc | apply pw_below_drewN | apply below_drew1) | exact HB.out)) hb); clear HB; have HB := n0_; clear n0_; (try clear hb); (try clear hb2); (try clear hk); (try clear hi)))
      go_meet
      case rel => exact ⟨_, (true), (by first | rfl | (simp; done) | (simp [*]; done)), H', ⟨by first | omega | exact Nat.le_refl _⟩, ⟨by repeat (first | (with_reducible first | exact HB.out | apply below_alloc | apply pw_below_drewN | apply below_drew1) | exact HB.out)⟩⟩
  case rest =>
    clear HC5
    try clear p2
    try clear c4
    try clear c7
    try clear c8
    try clear c9
    obtain ⟨kq, x32_4, rfl, HA, HJ4, HB⟩ := hcut
    cases kq with
    | zero => exact absurd HA.out (by simp [innkeeplaw01_CoinKeeps.j0])
    | succ kj4 =>
      have H := HA.out
      clear HA
      simp only [innkeeplaw01_CoinKeeps.j0] at H
      by_cases c14 : x32_4 = true
      · subst c14
        have H1 : ((innkeeplaw01_awake.f kj4).bind fun t133 => (some t133)) = some r := by rw [if_pos rfl] at H; exact H
        clear H
        have H := H1
        clear H1
        replace H := Option.bind_eq_some_iff.mp H
        obtain ⟨t133, A150, H⟩ := H
        replace H : (some t133) = some r := H
        have A15 := Aside0.mk A150
        clear A150
        obtain rfl := Option.some.inj H
        go_wp2_with (first | ((with_reducible refine gate_callee (f := 8) rfl ?_); refine goesL_ (some 33) rfl rfl Try.func8 (by kernel_rfl) rfl #[] rfl (by (try simp only [List.map_toArray, List.map_cons, List.map_nil]); first | done | rfl | (simp only [List.length_drop, List.length_take]; rfl)) ?_; (with_reducible refine (innkeeplaw01_awake.calls kj4  t133 _ A15.out).mono ?_); rintro e w16 ⟨rfl, hb⟩; refine ⟨_, rfl, ?_⟩; have n0_ := Aside0.mk (below_step (by repeat (first | (with_reducible first | exact HB.out | apply below_alloc | apply pw_below_drewN | apply below_drew1) | exact HB.out)) hb); clear HB; have HB := n0_; clear n0_; (try clear hb); (try clear hb2); (try clear hk); (try clear hi)))
        go_ret
        exact ⟨by first | rfl | (simp [errW_none, errW_some] <;> rfl) | (simp [*, errW_none, errW_some] <;> rfl), by repeat (first | (with_reducible first | exact HB.out | apply below_alloc | apply pw_below_drewN | apply below_drew1) | exact HB.out)⟩
      · replace c14 := Bool.eq_false_iff.mpr c14
        subst c14
        have H1 : ((coin_Swap.f kj4 a0 a1 a2 a3).bind fun bt134 => (if (wrap64 (bt134.1 + bt134.2.1)) = (wrap64 (a0 + a1)) then ((coin_Is.f bt134.1).bind fun t137 => (if t137 = true then ((coin_Is.f bt134.2.1).bind fun t138 => (if t138 = true then (if bt134.2.2 = 0 then (innkeeplaw01_CoinKeeps.j1 kj4 a0 a1 a2 false) else (if bt134.1 = a0 then (innkeeplaw01_CoinKeeps.j1 kj4 a0 a1 a2 (bt134.2.1 != a1)) else (innkeeplaw01_CoinKeeps.j1 kj4 a0 a1 a2 true))) else (innkeeplaw01_CoinKeeps.j1 kj4 a0 a1 a2 true))) else (innkeeplaw01_CoinKeeps.j1 kj4 a0 a1 a2 true))) else (innkeeplaw01_CoinKeeps.j1 kj4 a0 a1 a2 true))) = some r := by rw [if_neg (show ¬ (false = true) by decide)] at H; exact H
        clear H
        have H := H1
        clear H1
        replace H := Option.bind_eq_some_iff.mp H
        obtain ⟨⟨t134, t135, t136⟩, A170, H⟩ := H
        replace H : (if (wrap64 (t134 + t135)) = (wrap64 (a0 + a1)) then ((coin_Is.f t134).bind fun t137 => (if t137 = true then ((coin_Is.f t135).bind fun t138 => (if t138 = true then (if t136 = 0 then (innkeeplaw01_CoinKeeps.j1 kj4 a0 a1 a2 false) else (if t134 = a0 then (innkeeplaw01_CoinKeeps.j1 kj4 a0 a1 a2 (t135 != a1)) else (innkeeplaw01_CoinKeeps.j1 kj4 a0 a1 a2 true))) else (innkeeplaw01_CoinKeeps.j1 kj4 a0 a1 a2 true))) else (innkeeplaw01_CoinKeeps.j1 kj4 a0 a1 a2 true))) else (innkeeplaw01_CoinKeeps.j1 kj4 a0 a1 a2 true)) = some r := H
        have A17 := Aside0.mk A170
        clear A170
        have HC18 := Aside0.mk H
        clear H
        go_upto_region 4 with (first | ((with_reducible refine gate_callee (f := 13) rfl ?_); refine goesL_ (some 39) rfl rfl Try.func13 (by kernel_rfl) rfl #[.int .i64 a0, .int .i64 a1, .int .i64 a2, .int .i64 a3] rfl (by (try simp only [List.map_toArray, List.map_cons, List.map_nil]); first | done | rfl | (simp only [List.length_drop, List.length_take]; rfl)) ?_; (with_reducible refine (coin_Swap.calls kj4 a0 a1 a2 a3 t134 t135 t136 _ A17.out).mono ?_); rintro e w' ⟨rfl, ⟨nd, rfl⟩⟩; refine ⟨_, rfl, ?_⟩))
        (try simp only [Act.put, List.setIfInBounds_toArray, List.set_cons_zero, List.set_cons_succ])
        go_cut [73] (fun v73 wc => ∃ (kq : Nat) (x73_17 : Bool), v73 = .bool x73_17 ∧ Aside0 (innkeeplaw01_CoinKeeps.j1 kq a0 a1 a2 x73_17 = some r) ∧ Aside0 (kq ≤ kj4) ∧ Aside0 (Below w.heap.size w wc))
        case first =>
          have H := HC18.out
          clear HC18
          by_cases c19 : (wrap64 (t134 + t135)) = (wrap64 (a0 + a1))
          · rw [if_pos c19] at H
            have c19b0 : ((wrap64 (t134 + t135)) == (wrap64 (a0 + a1))) = true := beq_iff_eq.mpr c19
            have c19b1 : ((wrap64 (t134 + t135)) != (wrap64 (a0 + a1))) = false := bne_eq_false_iff_eq.mpr c19
            clear c19
            (first | rw [c19b0] | (simp only [i64_w, i32_w]; rw [c19b0]) | skip)
            replace H := Option.bind_eq_some_iff.mp H
            obtain ⟨t137, A200, H⟩ := H
            replace H : (if t137 = true then ((coin_Is.f t135).bind fun t138 => (if t138 = true then (if t136 = 0 then (innkeeplaw01_CoinKeeps.j1 kj4 a0 a1 a2 false) else (if t134 = a0 then (innkeeplaw01_CoinKeeps.j1 kj4 a0 a1 a2 (t135 != a1)) else (innkeeplaw01_CoinKeeps.j1 kj4 a0 a1 a2 true))) else (innkeeplaw01_CoinKeeps.j1 kj4 a0 a1 a2 true))) else (innkeeplaw01_CoinKeeps.j1 kj4 a0 a1 a2 true)) = some r := H
            have A20 := Aside0.mk A200
            clear A200
            by_cases c21 : t137 = true
            · subst c21
              have H1 : ((coin_Is.f t135).bind fun t138 => (if t138 = true then (if t136 = 0 then (innkeeplaw01_CoinKeeps.j1 kj4 a0 a1 a2 false) else (if t134 = a0 then (innkeeplaw01_CoinKeeps.j1 kj4 a0 a1 a2 (t135 != a1)) else (innkeeplaw01_CoinKeeps.j1 kj4 a0 a1 a2 true))) else (innkeeplaw01_CoinKeeps.j1 kj4 a0 a1 a2 true))) = some r := by rw [if_pos rfl] at H; exact H
              clear H
              have H := H1
              clear H1
              replace H := Option.bind_eq_some_iff.mp H
              obtain ⟨t138, A220, H⟩ := H
              replace H : (if t138 = true then (if t136 = 0 then (innkeeplaw01_CoinKeeps.j1 kj4 a0 a1 a2 false) else (if t134 = a0 then (innkeeplaw01_CoinKeeps.j1 kj4 a0 a1 a2 (t135 != a1)) else (innkeeplaw01_CoinKeeps.j1 kj4 a0 a1 a2 true))) else (innkeeplaw01_CoinKeeps.j1 kj4 a0 a1 a2 true)) = some r := H
              have A22 := Aside0.mk A220
              clear A220
              by_cases c23 : t138 = true
              · subst c23
                have H1 : (if t136 = 0 then (innkeeplaw01_CoinKeeps.j1 kj4 a0 a1 a2 false) else (if t134 = a0 then (innkeeplaw01_CoinKeeps.j1 kj4 a0 a1 a2 (t135 != a1)) else (innkeeplaw01_CoinKeeps.j1 kj4 a0 a1 a2 true))) = some r := by rw [if_pos rfl] at H; exact H
                clear H
                have H := H1
                clear H1
                by_cases c24 : t136 = 0
                · rw [if_pos c24] at H
                  have c24b0 : (t136 == 0) = true := beq_iff_eq.mpr c24
                  have c24b1 : (t136 != 0) = false := bne_eq_false_iff_eq.mpr c24
                  clear c24
                  have H' := Aside0.mk H
                  clear H
                  go_wp2_with (first | (go_at_call 9; (with_reducible refine (coin_Is.calls t134 true _ A20.out).mono ?_); rintro e w' ⟨rfl, ⟨nd, rfl⟩⟩) | (go_at_call 9; (with_reducible refine (coin_Is.calls t135 true _ A22.out).mono ?_); rintro e w' ⟨rfl, ⟨nd, rfl⟩⟩))
                  go_meet
                  case rel => exact ⟨_, (false), (by first | rfl | (simp; done) | (simp [*]; done)), H', ⟨by have := HJ4.out; first | omega | exact Nat.le_refl _⟩, ⟨by repeat (first | (with_reducible first | exact HB.out | apply below_alloc | apply pw_below_drewN | apply below_drew1) | exact HB.out)⟩⟩
                · rw [if_neg c24] at H
                  have c24b0 : (t136 == 0) = false := beq_eq_false_iff_ne.mpr c24
                  have c24b1 : (t136 != 0) = true := bne_iff_ne.mpr c24
                  by_cases c25 : t134 = a0
                  · rw [if_pos c25] at H
                    have c25b0 : (t134 == a0) = true := beq_iff_eq.mpr c25
                    have c25b1 : (t134 != a0) = false := bne_eq_false_iff_eq.mpr c25
                    clear c25
                    have H' := Aside0.mk H
                    clear H
                    go_wp2_with (first | (go_at_call 9; (with_reducible refine (coin_Is.calls t134 true _ A20.out).mono ?_); rintro e w' ⟨rfl, ⟨nd, rfl⟩⟩) | (go_at_call 9; (with_reducible refine (coin_Is.calls t135 true _ A22.out).mono ?_); rintro e w' ⟨rfl, ⟨nd, rfl⟩⟩))
                    go_meet
                    case rel => exact ⟨_, ((t135 != a1)), (by first | rfl | (simp; done) | (simp [*]; done)), H', ⟨by have := HJ4.out; first | omega | exact Nat.le_refl _⟩, ⟨by repeat (first | (with_reducible first | exact HB.out | apply below_alloc | apply pw_below_drewN | apply below_drew1) | exact HB.out)⟩⟩
                  · rw [if_neg c25] at H
                    have c25b0 : (t134 == a0) = false := beq_eq_false_iff_ne.mpr c25
                    have c25b1 : (t134 != a0) = true := bne_iff_ne.mpr c25
                    have H' := Aside0.mk H
                    clear H
                    go_wp2_with (first | (go_at_call 9; (with_reducible refine (coin_Is.calls t134 true _ A20.out).mono ?_); rintro e w' ⟨rfl, ⟨nd, rfl⟩⟩) | (go_at_call 9; (with_reducible refine (coin_Is.calls t135 true _ A22.out).mono ?_); rintro e w' ⟨rfl, ⟨nd, rfl⟩⟩))
                    go_meet
                    case rel => exact ⟨_, (true), (by first | rfl | (simp; done) | (simp [*]; done)), H', ⟨by have := HJ4.out; first | omega | exact Nat.le_refl _⟩, ⟨by repeat (first | (with_reducible first | exact HB.out | apply below_alloc | apply pw_below_drewN | apply below_drew1) | exact HB.out)⟩⟩
              · replace c23 := Bool.eq_false_iff.mpr c23
                subst c23
                have H1 : (innkeeplaw01_CoinKeeps.j1 kj4 a0 a1 a2 true) = some r := by rw [if_neg (show ¬ (false = true) by decide)] at H; exact H
                clear H
                have H := H1
                clear H1
                have H' := Aside0.mk H
                clear H
                go_wp2_with (first | (go_at_call 9; (with_reducible refine (coin_Is.calls t134 true _ A20.out).mono ?_); rintro e w' ⟨rfl, ⟨nd, rfl⟩⟩) | (go_at_call 9; (with_reducible refine (coin_Is.calls t135 false _ A22.out).mono ?_); rintro e w' ⟨rfl, ⟨nd, rfl⟩⟩))
                go_meet
                case rel => exact ⟨_, (true), (by first | rfl | (simp; done) | (simp [*]; done)), H', ⟨by have := HJ4.out; first | omega | exact Nat.le_refl _⟩, ⟨by repeat (first | (with_reducible first | exact HB.out | apply below_alloc | apply pw_below_drewN | apply below_drew1) | exact HB.out)⟩⟩
            · replace c21 := Bool.eq_false_iff.mpr c21
              subst c21
              have H1 : (innkeeplaw01_CoinKeeps.j1 kj4 a0 a1 a2 true) = some r := by rw [if_neg (show ¬ (false = true) by decide)] at H; exact H
              clear H
              have H := H1
              clear H1
              have H' := Aside0.mk H
              clear H
              go_wp2_with (first | (go_at_call 9; (with_reducible refine (coin_Is.calls t134 false _ A20.out).mono ?_); rintro e w' ⟨rfl, ⟨nd, rfl⟩⟩))
              go_meet
              case rel => exact ⟨_, (true), (by first | rfl | (simp; done) | (simp [*]; done)), H', ⟨by have := HJ4.out; first | omega | exact Nat.le_refl _⟩, ⟨by repeat (first | (with_reducible first | exact HB.out | apply below_alloc | apply pw_below_drewN | apply below_drew1) | exact HB.out)⟩⟩
          · rw [if_neg c19] at H
            have c19b0 : ((wrap64 (t134 + t135)) == (wrap64 (a0 + a1))) = false := beq_eq_false_iff_ne.mpr c19
            have c19b1 : ((wrap64 (t134 + t135)) != (wrap64 (a0 + a1))) = true := bne_iff_ne.mpr c19
            (first | rw [c19b0] | (simp only [i64_w, i32_w]; rw [c19b0]) | skip)
            have H' := Aside0.mk H
            clear H
            go_wp2
            go_meet
            case rel => exact ⟨_, (true), (by first | rfl | (simp; done) | (simp [*]; done)), H', ⟨by have := HJ4.out; first | omega | exact Nat.le_refl _⟩, ⟨by repeat (first | (with_reducible first | exact HB.out | apply below_alloc | apply pw_below_drewN | apply below_drew1) | exact HB.out)⟩⟩
        case rest =>
          clear HC18
          try clear c1
          try clear c2
          try clear p2
          try clear c4
          try clear p6
          try clear c7
          try clear c8
          try clear c9
          try clear c13
          try clear c14
          try clear c19
          try clear c19b0
          try clear c19b1
          try clear c21
          try clear c23
          try clear c24
          try clear c24b0
          try clear c24b1
          try clear c25
          try clear c25b0
          try clear c25b1
          try clear p2
          obtain ⟨kq, x73_17, rfl, HA, HJ17, HB⟩ := hcut
          cases kq with
          | zero => exact absurd HA.out (by simp [innkeeplaw01_CoinKeeps.j1])
          | succ kj17 =>
            have H := HA.out
            clear HA
            simp only [innkeeplaw01_CoinKeeps.j1] at H
            by_cases c26 : x73_17 = true
            · subst c26
              have H1 : (some false) = some r := by rw [if_pos rfl] at H; exact H
              clear H
              have H := H1
              clear H1
              obtain rfl := Option.some.inj H
              go_wp2
              go_ret
              exact ⟨by first | rfl | (simp [errW_none, errW_some] <;> rfl) | (simp [*, errW_none, errW_some] <;> rfl), by repeat (first | (with_reducible first | exact HB.out | apply below_alloc | apply pw_below_drewN | apply below_drew1) | exact HB.out)⟩
            · replace c26 := Bool.eq_false_iff.mpr c26
              subst c26
              have H1 : ((coin_Pay.f kj17 a0 a1 a2).bind fun bt139 => ((coin_Swap.f kj17 a0 a1 a2 0).bind fun bt142 => (if bt139.1 = bt142.1 then (if bt139.2.1 = bt142.2.1 then (innkeeplaw01_CoinKeeps.j2 kj17 a0 a1 a2 bt139.1 bt139.2.1 bt139.2.2 (bt139.2.2 != bt142.2.2)) else (innkeeplaw01_CoinKeeps.j2 kj17 a0 a1 a2 bt139.1 bt139.2.1 bt139.2.2 true)) else (innkeeplaw01_CoinKeeps.j2 kj17 a0 a1 a2 bt139.1 bt139.2.1 bt139.2.2 true)))) = some r := by rw [if_neg (show ¬ (false = true) by decide)] at H; exact H
              clear H
              have H := H1
              clear H1
              replace H := Option.bind_eq_some_iff.mp H
              obtain ⟨⟨t139, t140, t141⟩, A270, H⟩ := H
              replace H : ((coin_Swap.f kj17 a0 a1 a2 0).bind fun bt142 => (if t139 = bt142.1 then (if t140 = bt142.2.1 then (innkeeplaw01_CoinKeeps.j2 kj17 a0 a1 a2 t139 t140 t141 (t141 != bt142.2.2)) else (innkeeplaw01_CoinKeeps.j2 kj17 a0 a1 a2 t139 t140 t141 true)) else (innkeeplaw01_CoinKeeps.j2 kj17 a0 a1 a2 t139 t140 t141 true))) = some r := H
              have A27 := Aside0.mk A270
              clear A270
              replace H := Option.bind_eq_some_iff.mp H
              obtain ⟨⟨t142, t143, t144⟩, A280, H⟩ := H
              replace H : (if t139 = t142 then (if t140 = t143 then (innkeeplaw01_CoinKeeps.j2 kj17 a0 a1 a2 t139 t140 t141 (t141 != t144)) else (innkeeplaw01_CoinKeeps.j2 kj17 a0 a1 a2 t139 t140 t141 true)) else (innkeeplaw01_CoinKeeps.j2 kj17 a0 a1 a2 t139 t140 t141 true)) = some r := H
              have A28 := Aside0.mk A280
              clear A280
              have HC29 := Aside0.mk H
              clear H
              go_upto_region 8 with (first | ((with_reducible refine gate_callee (f := 11) rfl ?_); refine goesL_ (some 78) rfl rfl Try.func11 (by kernel_rfl) rfl #[.int .i64 a0, .int .i64 a1, .int .i64 a2] rfl (by (try simp only [List.map_toArray, List.map_cons, List.map_nil]); first | done | rfl | (simp only [List.length_drop, List.length_take]; rfl)) ?_; (with_reducible refine (coin_Pay.calls kj17 a0 a1 a2 t139 t140 t141 _ A27.out).mono ?_); rintro e w' ⟨rfl, ⟨nd, rfl⟩⟩; refine ⟨_, rfl, ?_⟩) | ((with_reducible refine gate_callee (f := 13) rfl ?_); refine goesL_ (some 86) rfl rfl Try.func13 (by kernel_rfl) rfl #[.int .i64 a0, .int .i64 a1, .int .i64 a2, .int .i64 0] rfl (by (try simp only [List.map_toArray, List.map_cons, List.map_nil]); first | done | rfl | (simp only [List.length_drop, List.length_take]; rfl)) ?_; (with_reducible refine (coin_Swap.calls kj17 a0 a1 a2 0 t142 t143 t144 _ A28.out).mono ?_); rintro e w' ⟨rfl, ⟨nd, rfl⟩⟩; refine ⟨_, rfl, ?_⟩))
              (try simp only [Act.put, List.setIfInBounds_toArray, List.set_cons_zero, List.set_cons_succ])
              go_cut [102] (fun v102 wc => ∃ (kq : Nat) (x102_28 : Bool), v102 = .bool x102_28 ∧ Aside0 (innkeeplaw01_CoinKeeps.j2 kq a0 a1 a2 t139 t140 t141 x102_28 = some r) ∧ Aside0 (kq ≤ kj17) ∧ Aside0 (Below w.heap.size w wc))
              case first =>
                have H := HC29.out
                clear HC29
                by_cases c30 : t139 = t142
                · rw [if_pos c30] at H
                  have c30b0 : (t139 == t142) = true := beq_iff_eq.mpr c30
                  have c30b1 : (t139 != t142) = false := bne_eq_false_iff_eq.mpr c30
                  clear c30
                  (first | rw [c30b0] | (simp only [i64_w, i32_w]; rw [c30b0]) | skip)
                  by_cases c31 : t140 = t143
                  · rw [if_pos c31] at H
                    have c31b0 : (t140 == t143) = true := beq_iff_eq.mpr c31
                    have c31b1 : (t140 != t143) = false := bne_eq_false_iff_eq.mpr c31
                    clear c31
                    have H' := Aside0.mk H
                    clear H
                    go_wp2
                    go_meet
                    case rel => exact ⟨_, ((t141 != t144)), (by first | rfl | (simp; done) | (simp [*]; done)), H', ⟨by have := HJ4.out; have := HJ17.out; first | omega | exact Nat.le_refl _⟩, ⟨by repeat (first | (with_reducible first | exact HB.out | apply below_alloc | apply pw_below_drewN | apply below_drew1) | exact HB.out)⟩⟩
                  · rw [if_neg c31] at H
                    have c31b0 : (t140 == t143) = false := beq_eq_false_iff_ne.mpr c31
                    have c31b1 : (t140 != t143) = true := bne_iff_ne.mpr c31
                    have H' := Aside0.mk H
                    clear H
                    go_wp2
                    go_meet
                    case rel => exact ⟨_, (true), (by first | rfl | (simp; done) | (simp [*]; done)), H', ⟨by have := HJ4.out; have := HJ17.out; first | omega | exact Nat.le_refl _⟩, ⟨by repeat (first | (with_reducible first | exact HB.out | apply below_alloc | apply pw_below_drewN | apply below_drew1) | exact HB.out)⟩⟩
                · rw [if_neg c30] at H
                  have c30b0 : (t139 == t142) = false := beq_eq_false_iff_ne.mpr c30
                  have c30b1 : (t139 != t142) = true := bne_iff_ne.mpr c30
                  (first | rw [c30b0] | (simp only [i64_w, i32_w]; rw [c30b0]) | skip)
                  have H' := Aside0.mk H
                  clear H
                  go_wp2
                  go_meet
                  case rel => exact ⟨_, (true), (by first | rfl | (simp; done) | (simp [*]; done)), H', ⟨by have := HJ4.out; have := HJ17.out; first | omega | exact Nat.le_refl _⟩, ⟨by repeat (first | (with_reducible first | exact HB.out | apply below_alloc | apply pw_below_drewN | apply below_drew1) | exact HB.out)⟩⟩
              case rest =>
                clear HC29
                try clear c1
                try clear c2
                try clear p2
                try clear c3
                try clear c4
                try clear p6
                try clear c7
                try clear c8
                try clear c9
                try clear c11
                try clear c13
                try clear c14
                try clear c19
                try clear c19b0
                try clear c19b1
                try clear c21
                try clear c23
                try clear c24
                try clear c24b0
                try clear c24b1
                try clear c25
                try clear c25b0
                try clear c25b1
                try clear c26
                try clear c30
                try clear c30b0
                try clear c30b1
                try clear c31
                try clear c31b0
                try clear c31b1
                try clear p2
                try clear p6
                obtain ⟨kq, x102_28, rfl, HA, HJ28, HB⟩ := hcut
                cases kq with
                | zero => exact absurd HA.out (by simp [innkeeplaw01_CoinKeeps.j2])
                | succ kj28 =>
                  have H := HA.out
                  clear HA
                  simp only [innkeeplaw01_CoinKeeps.j2] at H
                  by_cases c32 : x102_28 = true
                  · subst c32
                    have H1 : (some false) = some r := by rw [if_pos rfl] at H; exact H
                    clear H
                    have H := H1
                    clear H1
                    obtain rfl := Option.some.inj H
                    go_wp2
                    go_ret
                    exact ⟨by first | rfl | (simp [errW_none, errW_some] <;> rfl) | (simp [*, errW_none, errW_some] <;> rfl), by repeat (first | (with_reducible first | exact HB.out | apply below_alloc | apply pw_below_drewN | apply below_drew1) | exact HB.out)⟩
                  · replace c32 := Bool.eq_false_iff.mpr c32
                    subst c32
                    have H1 : (if t141 = 0 then ((coin_Pay.f kj28 t140 t139 a2).bind fun bt145 => (if bt145.2.2 = 0 then (if bt145.1 = a1 then (some (bt145.2.1 == a0)) else (some false)) else (some false))) else (some true)) = some r := by rw [if_neg (show ¬ (false = true) by decide)] at H; exact H
                    clear H
                    have H := H1
                    clear H1
                    by_cases c33 : t141 = 0
                    · rw [if_pos c33] at H
                      have c33b0 : (t141 == 0) = true := beq_iff_eq.mpr c33
                      have c33b1 : (t141 != 0) = false := bne_eq_false_iff_eq.mpr c33
                      clear c33
                      replace H := Option.bind_eq_some_iff.mp H
                      obtain ⟨⟨t145, t146, t147⟩, A340, H⟩ := H
                      replace H : (if t147 = 0 then (if t145 = a1 then (some (t146 == a0)) else (some false)) else (some false)) = some r := H
                      have A34 := Aside0.mk A340
                      clear A340
                      by_cases c35 : t147 = 0
                      · rw [if_pos c35] at H
                        have c35b0 : (t147 == 0) = true := beq_iff_eq.mpr c35
                        have c35b1 : (t147 != 0) = false := bne_eq_false_iff_eq.mpr c35
                        clear c35
                        by_cases c36 : t145 = a1
                        · rw [if_pos c36] at H
                          have c36b0 : (t145 == a1) = true := beq_iff_eq.mpr c36
                          have c36b1 : (t145 != a1) = false := bne_eq_false_iff_eq.mpr c36
                          clear c36
                          obtain rfl := Option.some.inj H
                          go_wp2_with (first | ((with_reducible refine gate_callee (f := 11) rfl ?_); refine goesL_ (some 109) rfl rfl Try.func11 (by kernel_rfl) rfl #[.int .i64 t140, .int .i64 t139, .int .i64 a2] rfl (by (try simp only [List.map_toArray, List.map_cons, List.map_nil]); first | done | rfl | (simp only [List.length_drop, List.length_take]; rfl)) ?_; (with_reducible refine (coin_Pay.calls kj28 t140 t139 a2 t145 t146 t147 _ A34.out).mono ?_); rintro e w' ⟨rfl, ⟨nd, rfl⟩⟩; refine ⟨_, rfl, ?_⟩))
                          go_ret
                          exact ⟨by first | rfl | (simp [errW_none, errW_some] <;> rfl) | (simp [*, errW_none, errW_some] <;> rfl), by repeat (first | (with_reducible first | exact HB.out | apply below_alloc | apply pw_below_drewN | apply below_drew1) | exact HB.out)⟩
                        · rw [if_neg c36] at H
                          have c36b0 : (t145 == a1) = false := beq_eq_false_iff_ne.mpr c36
                          have c36b1 : (t145 != a1) = true := bne_iff_ne.mpr c36
                          obtain rfl := Option.some.inj H
                          go_wp2_with (first | ((with_reducible refine gate_callee (f := 11) rfl ?_); refine goesL_ (some 109) rfl rfl Try.func11 (by kernel_rfl) rfl #[.int .i64 t140, .int .i64 t139, .int .i64 a2] rfl (by (try simp only [List.map_toArray, List.map_cons, List.map_nil]); first | done | rfl | (simp only [List.length_drop, List.length_take]; rfl)) ?_; (with_reducible refine (coin_Pay.calls kj28 t140 t139 a2 t145 t146 t147 _ A34.out).mono ?_); rintro e w' ⟨rfl, ⟨nd, rfl⟩⟩; refine ⟨_, rfl, ?_⟩))
                          go_ret
                          exact ⟨by first | rfl | (simp [errW_none, errW_some] <;> rfl) | (simp [*, errW_none, errW_some] <;> rfl), by repeat (first | (with_reducible first | exact HB.out | apply below_alloc | apply pw_below_drewN | apply below_drew1) | exact HB.out)⟩
                      · rw [if_neg c35] at H
                        have c35b0 : (t147 == 0) = false := beq_eq_false_iff_ne.mpr c35
                        have c35b1 : (t147 != 0) = true := bne_iff_ne.mpr c35
                        obtain rfl := Option.some.inj H
                        go_wp2_with (first | ((with_reducible refine gate_callee (f := 11) rfl ?_); refine goesL_ (some 109) rfl rfl Try.func11 (by kernel_rfl) rfl #[.int .i64 t140, .int .i64 t139, .int .i64 a2] rfl (by (try simp only [List.map_toArray, List.map_cons, List.map_nil]); first | done | rfl | (simp only [List.length_drop, List.length_take]; rfl)) ?_; (with_reducible refine (coin_Pay.calls kj28 t140 t139 a2 t145 t146 t147 _ A34.out).mono ?_); rintro e w' ⟨rfl, ⟨nd, rfl⟩⟩; refine ⟨_, rfl, ?_⟩))
                        go_ret
                        exact ⟨by first | rfl | (simp [errW_none, errW_some] <;> rfl) | (simp [*, errW_none, errW_some] <;> rfl), by repeat (first | (with_reducible first | exact HB.out | apply below_alloc | apply pw_below_drewN | apply below_drew1) | exact HB.out)⟩
                    · rw [if_neg c33] at H
                      have c33b0 : (t141 == 0) = false := beq_eq_false_iff_ne.mpr c33
                      have c33b1 : (t141 != 0) = true := bne_iff_ne.mpr c33
                      obtain rfl := Option.some.inj H
                      go_wp2
                      go_ret
                      exact ⟨by first | rfl | (simp [errW_none, errW_some] <;> rfl) | (simp [*, errW_none, errW_some] <;> rfl), by repeat (first | (with_reducible first | exact HB.out | apply below_alloc | apply pw_below_drewN | apply below_drew1) | exact HB.out)⟩

/-- THE ONE PURE STATEMENT of innkeeplaw01_CoinKeeps: yours. -/
def innkeeplaw01_CoinKeeps.Pure : Prop := ∀ (a0 : Int) (a1 : Int) (a2 : Int) (a3 : Int), (Lit.int .i64 a0).wf = true → (Lit.int .i64 a1).wf = true → (Lit.int .i64 a2).wf = true → (Lit.int .i64 a3).wf = true → ∃ k, innkeeplaw01_CoinKeeps.f k a0 a1 a2 a3 = some true
theorem innkeeplaw01_CoinKeeps.walk (P : innkeeplaw01_CoinKeeps.Pure) (a0 : Int) (a1 : Int) (a2 : Int) (a3 : Int) (w : World) (w0 : (Lit.int .i64 a0).wf = true) (w1 : (Lit.int .i64 a1).wf = true) (w2 : (Lit.int .i64 a2).wf = true) (w3 : (Lit.int .i64 a3).wf = true) :
    Calls Try.prog 4 #[.int .i64 a0, .int .i64 a1, .int .i64 a2, .int .i64 a3] w fun e w' => e = .returned (.bool true) ∧ Below w.heap.size w w' := by
  obtain ⟨k, h⟩ := P a0 a1 a2 a3 w0 w1 w2 w3
  refine (innkeeplaw01_CoinKeeps.calls k a0 a1 a2 a3 true w h).mono ?_
  rintro e w' ⟨rfl, hd⟩
  exact ⟨rfl, hd⟩

end Go.Proofs.Ytdlpogefdccacaa.PCoinKeeps
