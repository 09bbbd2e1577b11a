/- keys.compare compares two keys; slices.SortFunc sorts keys by it. Conditions: none. -/
import Derived.Test.YtmemggdjnfccfaaKS
import Derived.Shelf.SlSortCmp.NoneTotal
import Derived.Shelf.SlicesG.Cmp
import Derived.Ground.SlsfProg
import Derived.Ground.SlgcProg
import Derived.StillTailTactics
import Derived.Sort.Grow
import Derived.Deep.Draws
import Derived.Test.YtmemggdjnfccfaaProg
import Derived.KernelRfl
set_option linter.unusedVariables false
set_option linter.unusedSimpArgs false
namespace Go.Proofs
open Go.Shelf Go.RowKit Go.Lib Go.Sort
def Try.cmpInt_ren : Go.Shelf.Ren := ⟨fun | 5 => 63 | 7 => 76 | n => n, fun | 22 => 3 | 3 => 3 | 4 => 4 | n => n, fun | n => n⟩
theorem Try.cmpInt : Go.Proofs.SlLaysC2.n5 Try.prog Try.cmpInt_ren := {
  mixed := by kernel_rfl
  f5 := ⟨Try.f63.name, by decide, Try.func63.trans (congrArg some (by kernel_rfl))⟩
  f7 := ⟨Try.f76.name, by decide, Try.func76.trans (congrArg some (by kernel_rfl))⟩
  t3 := Try.underlying3
  a3 := Try.isAgg3
  z3 := Try.sizeOf3
  v3 := Try.zeroValue3
  t4 := Try.underlying4
  a4 := Try.isAgg4
  z4 := Try.sizeOf4
  v4 := Try.zeroValue4
  t22 := Try.underlying3
  a22 := Try.isAgg3
  z22 := Try.sizeOf3
  v22 := Try.zeroValue3 }
theorem Try.or21 (x y : Int) (W : World) (T : TypeId) : Calls Try.prog 62 #[.slice (some ⟨W.heap.size, 0, none⟩) 2 2] (W.alloc (.cells #[.int .i64 x, .int .i64 y] T)) fun e w' => e = .returned (.int .i64 (if x = 0 then y else x)) ∧ w' = W.alloc (.cells #[.int .i64 x, .int .i64 y] T) := by
  go_enter Try.func62, Try.ntmps62
  go_wp2
  refine wp_loop_rounds 3 ?_
  rw [rounds_succ]
  by_cases hx : x = 0
  · subst hx
    go_wp2
    rw [rounds_succ]
    by_cases hy : y = 0
    · subst hy
      go_wp2
      rw [rounds_succ]
      go_wp2
      go_ret
      exact ⟨rfl, rfl⟩
    · go_wp2
      go_ret
      exact ⟨rfl, rfl⟩
  · go_wp2
    go_ret
    exact ⟨rfl, rfl⟩
theorem Try.mixedO : Try.prog.follows .mixedOrders = true := by kernel_rfl
set_option maxRecDepth 100000 in
set_option maxHeartbeats 1000000 in
theorem Try.compare19 (x y : Int × Int) (W : World) : Calls Try.prog 55 #[.agg #[.int .i64 x.1, .int .i64 x.2], .agg #[.int .i64 y.1, .int .i64 y.2]] W fun e w' => e = .returned (.int .i64 (if Lib.compareInt x.1 y.1 = 0 then Lib.compareInt x.2 y.2 else Lib.compareInt x.1 y.1)) ∧ ∃ q os', w' = grow (W.drewN q) os' := by
  have h1 := fun W' => AnyG.cmp_Compare_int Try.cmpInt x.1 y.1 W'
  have h2 := fun W' => AnyG.cmp_Compare_int Try.cmpInt x.2 y.2 W'
  change ∀ W', Calls Try.prog 63 _ _ _ at h1
  change ∀ W', Calls Try.prog 63 _ _ _ at h2
  generalize Lib.compareInt x.1 y.1 = r1 at h1 ⊢
  generalize Lib.compareInt x.2 y.2 = r2 at h2 ⊢
  have h3 := fun W' T => Try.or21 r1 r2 W' T
  go_enter Try.func55, Try.ntmps55
  go_wp2
  refine wp_region_still_tail 10 Try.mixedO (by kernel_rfl) ?_
  simp only [List.take_succ_cons, List.take_zero, List.drop_succ_cons, List.drop_zero]
  change wpStill _ _ (World.drew _) (fun a' => wpList _ _ _ _ a' (World.drew _)) _ _
  repeat still_step
  still_call (h1 _)
  repeat still_step
  still_call (h2 _)
  refine wpStill_nil ?_
  have hW : ∃ os', (World.drew ((W.alloc (Obj.cells #[Value.int IntKind.i64 x.fst, Value.int IntKind.i64 x.snd] 47)).alloc (Obj.cells #[Value.int IntKind.i64 y.fst, Value.int IntKind.i64 y.snd] 47))) = grow (W.drewN 1) os' := ⟨_, by rw [alloc_eq_grow, alloc_eq_grow, grow_grow, drew_grow]; rfl⟩
  generalize (World.drew ((W.alloc (Obj.cells #[Value.int IntKind.i64 x.fst, Value.int IntKind.i64 x.snd] 47)).alloc (Obj.cells #[Value.int IntKind.i64 y.fst, Value.int IntKind.i64 y.snd] 47))) = W1 at hW ⊢
  go_wp2_with (go_at_call 62; refine (h3 _ _).mono ?_; rintro e w' ⟨rfl, rfl⟩)
  all_goals
    go_ret
    obtain ⟨os', rfl⟩ := hW
    exact ⟨rfl, 1, _, by rw [alloc_eq_grow, grow_grow]⟩
def Try.sortKey_ren : Go.Shelf.Ren := ⟨fun | 6 => 54 | 15 => 61 | 14 => 60 | 28 => 74 | 29 => 75 | 20 => 66 | 21 => 67 | 22 => 68 | 23 => 69 | 24 => 70 | 25 => 71 | 26 => 72 | 27 => 73 | 46 => 77 | 47 => 78 | 48 => 79 | 49 => 80 | 50 => 81 | 57 => 82 | n => n, fun | 22 => 32 | 24 => 47 | 25 => 83 | 3 => 3 | 39 => 94 | 0 => 0 | 53 => 107 | 55 => 109 | 4 => 4 | 46 => 101 | 45 => 100 | 50 => 63 | 5 => 5 | 9 => 9 | 66 => 110 | 70 => 114 | 76 => 116 | 77 => 117 | n => n, fun | n => n⟩
theorem Try.sortKey : Go.Proofs.SlLaysF0.n6 Try.prog Try.sortKey_ren := {
  mixed := by kernel_rfl
  f6 := ⟨Try.f54.name, by decide, Try.func54.trans (congrArg some (by kernel_rfl))⟩
  f14 := ⟨Try.f60.name, by decide, Try.func60.trans (congrArg some (by kernel_rfl))⟩
  f15 := Try.func61.trans (congrArg some (by kernel_rfl))
  f20 := ⟨Try.f66.name, by decide, Try.func66.trans (congrArg some (by kernel_rfl))⟩
  f21 := ⟨Try.f67.name, by decide, Try.func67.trans (congrArg some (by kernel_rfl))⟩
  f22 := ⟨Try.f68.name, by decide, Try.func68.trans (congrArg some (by kernel_rfl))⟩
  f23 := ⟨Try.f69.name, by decide, Try.func69.trans (congrArg some (by kernel_rfl))⟩
  f24 := ⟨Try.f70.name, by decide, Try.func70.trans (congrArg some (by kernel_rfl))⟩
  f25 := ⟨Try.f71.name, by decide, Try.func71.trans (congrArg some (by kernel_rfl))⟩
  f26 := ⟨Try.f72.name, by decide, Try.func72.trans (congrArg some (by kernel_rfl))⟩
  f27 := ⟨Try.f73.name, by decide, Try.func73.trans (congrArg some (by kernel_rfl))⟩
  f28 := Try.func74.trans (congrArg some (by kernel_rfl))
  f29 := Try.func75.trans (congrArg some (by kernel_rfl))
  f46 := ⟨Try.f77.name, by decide, Try.func77.trans (congrArg some (by kernel_rfl))⟩
  f47 := Try.func78.trans (congrArg some (by kernel_rfl))
  f48 := Try.func79.trans (congrArg some (by kernel_rfl))
  f49 := ⟨Try.f80.name, by decide, Try.func80.trans (congrArg some (by kernel_rfl))⟩
  f50 := ⟨Try.f81.name, by decide, Try.func81.trans (congrArg some (by kernel_rfl))⟩
  f57 := ⟨Try.f82.name, by decide, Try.func82.trans (congrArg some (by kernel_rfl))⟩
  t0 := Try.underlying0
  a0 := Try.isAgg0
  z0 := Try.sizeOf0
  v0 := Try.zeroValue0
  t3 := Try.underlying3
  a3 := Try.isAgg3
  z3 := Try.sizeOf3
  v3 := Try.zeroValue3
  t4 := Try.underlying4
  a4 := Try.isAgg4
  z4 := Try.sizeOf4
  v4 := Try.zeroValue4
  t5 := Try.underlying5
  a5 := Try.isAgg5
  z5 := Try.sizeOf5
  v5 := Try.zeroValue5
  t9 := Try.underlying9
  a9 := Try.isAgg9
  z9 := Try.sizeOf9
  v9 := Try.zeroValue9
  t22 := Try.underlying32
  a22 := Try.isAgg32
  z22 := Try.sizeOf32
  v22 := Try.zeroValue32
  t25 := Try.underlying83
  a25 := Try.isAgg83
  z25 := Try.sizeOf83
  v25 := Try.zeroValue83
  t39 := Try.underlying94
  a39 := Try.isAgg94
  z39 := Try.sizeOf94
  v39 := Try.zeroValue94
  t45 := Try.underlying100
  a45 := Try.isAgg100
  z45 := Try.sizeOf100
  v45 := Try.zeroValue100
  t46 := Try.underlying101
  a46 := Try.isAgg101
  z46 := Try.sizeOf101
  v46 := Try.zeroValue101
  t50 := Try.underlying63
  a50 := Try.isAgg63
  z50 := Try.sizeOf63
  v50 := Try.zeroValue63
  t53 := Try.underlying107
  a53 := Try.isAgg107
  z53 := Try.sizeOf107
  v53 := Try.zeroValue107
  t55 := Try.underlying109
  a55 := Try.isAgg109
  z55 := Try.sizeOf109
  v55 := Try.zeroValue109
  t66 := Try.underlying110
  a66 := Try.isAgg110
  z66 := Try.sizeOf110
  v66 := Try.zeroValue110
  t70 := Try.underlying114
  a70 := Try.isAgg114
  z70 := Try.sizeOf114
  v70 := Try.zeroValue114
  t76 := Try.underlying116
  a76 := Try.isAgg116
  z76 := Try.sizeOf116
  v76 := Try.zeroValue116
  t77 := Try.underlying117
  a77 := Try.isAgg117
  z77 := Try.sizeOf117
  v77 := Try.zeroValue117 }
end Go.Proofs
namespace Go.Proofs.Ytmemggdjnfccfaa.Ghost
open Go Go.Shelf Go.RowKit Go.Lib Go.Sort
def srtCmp (a b : den kT) : Int := if compareInt a.1 b.1 = 0 then compareInt a.2.1 b.2.1 else compareInt a.1 b.1
def srtEnc (a : den kT) : List Value := [.int .i64 a.1, .int .i64 a.2.1]
theorem cmp_lt (a1 a2 b1 b2 : Int) : ((if (if a1 < b1 then (-1 : Int) else if a1 > b1 then 1 else 0) = 0 then (if a2 < b2 then (-1 : Int) else if a2 > b2 then 1 else 0) else (if a1 < b1 then (-1 : Int) else if a1 > b1 then 1 else 0)) < 0) ↔ pLt a1 a2 b1 b2 := by
  unfold pLt
  repeat' split
  all_goals omega
theorem ltOf_k (a b : den kT) : ltOf srtCmp a b = kLt a b := by
  have h := kLt_iff a b
  have : (srtCmp a b < 0) ↔ pLt a.1 a.2.1 b.1 b.2.1 := cmp_lt a.1 a.2.1 b.1 b.2.1
  unfold ltOf
  rw [Bool.eq_iff_iff, decide_eq_true_eq, this, ← h]
theorem swo_k : SWO (ltOf srtCmp) where
  irrefl x := (ltOf_k x x).trans (Bool.eq_false_iff.2 (kLt_irrefl x))
  trans x y z h1 h2 := (ltOf_k x z).trans (kLt_trans ((ltOf_k x y).symm.trans h1) ((ltOf_k y z).symm.trans h2))
  ntrans x y z h1 h2 := by
    have h1 := Bool.eq_false_iff.1 ((ltOf_k x y).symm.trans h1)
    have h2 := Bool.eq_false_iff.1 ((ltOf_k y z).symm.trans h2)
    refine (ltOf_k x z).trans (Bool.eq_false_iff.2 fun h => ?_)
    rw [ne_eq, kLt_iff] at h1 h2
    rw [kLt_iff] at h
    unfold pLt at *
    omega
theorem sorts_ok : SortsOk Try.prog 54 55 where
  call := by kernel_rfl
  empty p cap w := AnyF.slices_SortFunc_none Try.sortKey p cap _ w
  more b cap l cs w h0 hl hr hth hlc hcs hb hnd := by
    have hbl : ∃ c e fr, w.heap[b]? = some (.cells c e fr) := by
      obtain ⟨h1, _⟩ := hth 0 (by omega)
      unfold World.cell? at h1
      split at h1
      · rename_i c e fr hx; exact ⟨c, e, fr, hx⟩
      · cases h1
    obtain ⟨c, ety, fr, hbk⟩ := hbl
    have hcell : ∀ j : Nat, w.cell? ⟨b, j, none⟩ = c[j]? := fun j => by simp [World.cell?, hbk]
    have hc : ∀ j, j < cs.length → c[j]? = cs[j]? := fun j hj => by
      have h1 := hr j _ (List.getElem?_eq_getElem hj)
      rw [Nat.zero_add, hcell] at h1
      rw [h1, List.getElem?_eq_getElem hj]
    have hF : ∀ (d : Array (den kT)) (i : Nat), i < d.size → (flatK srtEnc 2 d)[i * 2]! = .int .i64 (d.toList.getD i (dft kT)).1 ∧ (flatK srtEnc 2 d)[i * 2 + 1]! = .int .i64 (d.toList.getD i (dft kT)).2.1 := fun d i hi => by
      rw [get_flatK srtEnc 2 d _ (by omega), get_flatK srtEnc 2 d _ (by omega)]
      have e1 : i * 2 / 2 = i := by omega
      have e2 : (i * 2 + 1) / 2 = i := by omega
      have e3 : i * 2 % 2 = 0 := by omega
      have e4 : (i * 2 + 1) % 2 = 1 := by omega
      rw [e1, e2, e3, e4]
      have e5 : d[i]! = d.toList.getD i (dft kT) := by
        rw [getElem!_pos d i hi, List.getD_eq_getElem?_getD, Array.getElem?_toList, Array.getElem?_eq_getElem hi]; rfl
      rw [e5]
      exact ⟨rfl, rfl⟩
    have hH : HoldsK srtEnc 2 w b 0 l.toArray := by
      intro j hj
      rw [size_flatK] at hj
      have hj' : j < l.length * 2 := by simpa using hj
      have hi : j / 2 < l.toArray.size := by simp; omega
      have hjj : j = j / 2 * 2 ∨ j = j / 2 * 2 + 1 := by omega
      obtain ⟨f1, f2⟩ := hF l.toArray (j / 2) hi
      obtain ⟨g1, g2⟩ := hcs (j / 2) (by omega)
      refine ⟨?_, (hth j (by omega)).2⟩
      rw [Nat.zero_add, hcell, hc j (by omega)]
      rcases hjj with h | h
      · rw [h, g1, f1]; rfl
      · rw [h, g2, f2]; rfl
    have hsz : l.toArray.size = l.length := by simp
    have key := AnyQ.slices_SortFunc_total Try.sortKey 2 (fun w => by kernel_rfl) (fun w => by kernel_rfl) srtEnc (fun _ => rfl) (fun x v hv => by simp [srtEnc] at hv; rcases hv with rfl | rfl <;> rfl) srtCmp swo_k 55 #[] b 0 cap l.toArray w (enters_of Try.func55 (by kernel_rfl) rfl)
      (fun m os dk hdk x y => by have := Try.compare19 (x.1, x.2.1) (y.1, y.2.1) (sortWorldK srtEnc 2 w b 0 m dk os); exact this) hH hb (by rw [hsz]; omega) (fun x y h1 h2 => kLt_total (by rw [← ltOf_k, h1]; decide) (by rw [← ltOf_k, h2]; decide))
    rw [hsz] at key
    refine Calls.mono key (fun e w' he => ?_)
    obtain ⟨rfl, n, os, hw'⟩ := he
    have hd : l.toArray.toList.mergeSort (fun x y => !(ltOf srtCmp) y x) = kSort l := by
      have e0 : (fun x y => !(ltOf srtCmp) y x) = fun x y => !kLt y x := by funext x y; rw [ltOf_k]
      rw [e0]
      have hperm := List.mergeSort_perm l (fun x y => !kLt y x)
      refine kSort_uniq ?_ (fun x => hperm.mem_iff)
      have hs := List.pairwise_mergeSort (le := fun x y => !kLt y x) (fun a b c h1 h2 => by
        simp only [Bool.not_eq_true', Bool.eq_false_iff, ne_eq, kLt_iff] at *
        unfold pLt at *
        omega) (fun a b => by
        simp only [Bool.or_eq_true, Bool.not_eq_true', Bool.eq_false_iff, ne_eq, kLt_iff]
        unfold pLt
        omega) l
      have hn : (l.mergeSort (fun x y => !kLt y x)).Nodup := hperm.nodup_iff.2 hnd
      refine (hs.and hn).imp (fun {x y} hxy => ?_)
      obtain ⟨h1, h2⟩ := hxy
      have h1 : ¬ kLt y x = true := by simpa using h1
      cases h3 : kLt x y with
      | true => rfl
      | false => exact absurd (kLt_total (by rw [h3]; decide) h1) h2
    rw [hd] at hw'
    have hkl : (kSort l).length = l.length := kSort_len hnd
    have hsf : (flatK srtEnc 2 (kSort l).toArray).size = l.length * 2 := by rw [size_flatK]; simp [hkl]
    generalize hFF : flatK srtEnc 2 (kSort l).toArray = F at hsf
    have hw2 : w' = grow (putRow id (Sort.ahead w n) b 0 F) os := by rw [hw', ← hFF]; rfl
    have hsz2 : (putRow id (Sort.ahead w n) b 0 F).heap.size = w.heap.size := by unfold putRow mapBlock; simp [Sort.ahead]
    have hbk2 : w'.heap[b]? = some (.cells (putCells id 0 F c) ety fr) := by
      rw [hw2, heap_grow_old _ _ (by rw [hsz2]; exact hb)]
      show ((Sort.ahead w n).heap.modify b (onCells (putCells id 0 F)))[b]? = _
      rw [Array.getElem?_modify, if_pos rfl]
      show Option.map _ (w.heap[b]?) = _
      rw [hbk]; rfl
    have hcell2 : ∀ j : Nat, w'.cell? ⟨b, j, none⟩ = if j < l.length * 2 then (c[j]?).map (fun _ => F[j]!) else c[j]? := fun j => by
      have : w'.cell? ⟨b, j, none⟩ = (putCells id 0 F c)[j]? := by simp [World.cell?, hbk2]
      rw [this]
      unfold putCells
      rw [Array.getElem?_mapIdx]
      simp only [Nat.zero_le, true_and, Nat.zero_add, Nat.sub_zero, hsf, id]
      cases c[j]? with
      | none => simp
      | some x => by_cases hj : j < l.length * 2 <;> simp [hj]
    refine ⟨rfl, by rw [hw2]; rfl, by rw [hw2]; rfl, by rw [hw2]; rfl, by rw [hw2, size_grow, hsz2]; omega, fun k hk hkb => ?_, (List.range cs.length).map (fun j => if j < l.length * 2 then F[j]! else cs.getD j undef), by simp, ?_, ?_, ?_⟩
    · rw [hw2, heap_grow_old _ _ (by rw [hsz2]; exact hk)]
      show ((Sort.ahead w n).heap.modify b _)[k]? = _
      rw [Array.getElem?_modify, if_neg (Ne.symm hkb)]; rfl
    · intro j v hv
      rw [List.getElem?_map] at hv
      by_cases hj : j < cs.length
      · rw [List.getElem?_range hj] at hv
        simp only [Option.map_some, Option.some.injEq] at hv
        rw [Nat.zero_add, hcell2, ← hv, hc j hj, List.getElem?_eq_getElem hj]
        split <;> simp [List.getD_eq_getElem?_getD, List.getElem?_eq_getElem hj]
      · rw [List.getElem?_eq_none (by simpa using hj)] at hv; cases hv
    · intro j hj
      refine ⟨?_, ?_⟩
      · rw [Nat.zero_add, hcell2, hc j hj, List.getElem?_eq_getElem hj]
        split <;> rfl
      · have := (hth j hj).2
        unfold World.frozen? at this ⊢
        rw [hbk2]
        rw [hbk] at this
        exact this
    · intro i hi
      obtain ⟨f1, f2⟩ := hF (kSort l).toArray i (by simp [hkl]; exact hi)
      rw [hFF] at f1 f2
      rw [List.getElem?_map, List.getElem?_map, List.getElem?_range (by omega), List.getElem?_range (by omega)]
      simp only [Option.map_some, f1, f2]
      rw [if_pos (by omega), if_pos (by omega)]
      exact ⟨rfl, rfl⟩
end Go.Proofs.Ytmemggdjnfccfaa.Ghost
