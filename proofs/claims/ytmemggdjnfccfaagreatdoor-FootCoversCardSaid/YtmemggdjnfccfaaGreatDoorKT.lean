/- keys.compare compares two keys; slices.SortFunc sorts keys by it. Conditions: none. -/
import Derived.Test.YtmemggdjnfccfaaGreatDoorKS
import Derived.Shelf.SlSortCmp.NoneTotal
import Derived.Shelf.SlicesG.Cmp
import Derived.Ground.SlsfProg
import Derived.Ground.SlgcProg
import Derived.StillTailTactics
import Derived.Sort.Grow
import Derived.Deep.Draws
import Derived.Test.YtmemggdjnfccfaaGreatDoorProg
import Derived.KernelRfl
set_option linter.unusedVariables false
set_option linter.unusedSimpArgs false
namespace Go.Proofs
open Go.Shelf Go.RowKit Go.Lib Go.Sort
def Tryz.cmpInt_ren : Go.Shelf.Ren := ⟨fun | 5 => 76 | 7 => 134 | n => n, fun | 22 => 3 | 3 => 3 | 4 => 4 | n => n, fun | n => n⟩
theorem Tryz.cmpInt : Go.Proofs.SlLaysC2.n5 Tryz.prog Tryz.cmpInt_ren := {
  mixed := by kernel_rfl
  f5 := ⟨Tryz.f76.name, by decide, Tryz.func76.trans (congrArg some (by kernel_rfl))⟩
  f7 := ⟨Tryz.f134.name, by decide, Tryz.func134.trans (congrArg some (by kernel_rfl))⟩
  t3 := Tryz.underlying3
  a3 := Tryz.isAgg3
  z3 := Tryz.sizeOf3
  v3 := Tryz.zeroValue3
  t4 := Tryz.underlying4
  a4 := Tryz.isAgg4
  z4 := Tryz.sizeOf4
  v4 := Tryz.zeroValue4
  t22 := Tryz.underlying3
  a22 := Tryz.isAgg3
  z22 := Tryz.sizeOf3
  v22 := Tryz.zeroValue3 }
theorem Tryz.or21 (x y:Int) (W:World) (T:TypeId):Calls Tryz.prog 75 #[.slice (some ⟨W.heap.size,0,none⟩) 2 2] (W.alloc (.cells #[.int .i64 x,.int .i64 y] T)) fun e w'=>e=.returned (.int .i64 (if x=0 then y else x))∧w'=W.alloc (.cells #[.int .i64 x,.int .i64 y] T):=by
  go_enter Tryz.func75,Tryz.ntmps75
  go_wp2
  refine wp_loop_rounds 3 ?_
  rw [rounds_succ]
  by_cases hx:x=0
  · subst hx
    go_wp2
    rw [rounds_succ]
    by_cases hy:y=0
    · subst hy
      go_wp2
      rw [rounds_succ]
      go_wp2
      go_ret
      exact ⟨rfl,rfl⟩
    · go_wp2
      go_ret
      exact ⟨rfl,rfl⟩
  · go_wp2
    go_ret
    exact ⟨rfl,rfl⟩
theorem Tryz.mixedO:Tryz.prog.follows .mixedOrders=true:=by kernel_rfl
set_option maxRecDepth 100000 in
set_option maxHeartbeats 1000000 in
theorem Tryz.compare19 (x y:Int×Int) (W:World):Calls Tryz.prog 43 #[.agg #[.int .i64 x.1,.int .i64 x.2],.agg #[.int .i64 y.1,.int .i64 y.2]] W fun e w'=>e=.returned (.int .i64 (if Lib.compareInt x.1 y.1=0 then Lib.compareInt x.2 y.2 else Lib.compareInt x.1 y.1))∧∃ q os',w'=grow (W.drewN q) os':=by
  have h1:=fun W'=>AnyG.cmp_Compare_int Tryz.cmpInt x.1 y.1 W'
  have h2:=fun W'=>AnyG.cmp_Compare_int Tryz.cmpInt x.2 y.2 W'
  change ∀ W',Calls Tryz.prog 76 _ _ _ at h1
  change ∀ W',Calls Tryz.prog 76 _ _ _ at h2
  generalize Lib.compareInt x.1 y.1=r1 at h1 ⊢
  generalize Lib.compareInt x.2 y.2=r2 at h2 ⊢
  have h3:=fun W' T=>Tryz.or21 r1 r2 W' T
  go_enter Tryz.func43,Tryz.ntmps43
  go_wp2
  refine wp_region_still_tail 10 Tryz.mixedO (by kernel_rfl) ?_
  simp only [List.take_succ_cons,List.take_zero,List.drop_succ_cons,List.drop_zero]
  change wpStill _ _ (World.drew _) (fun a'=>wpList _ _ _ _ a' (World.drew _)) _ _
  repeat still_step
  still_call (h1 _)
  repeat still_step
  still_call (h2 _)
  refine wpStill_nil ?_
  have hW:∃ os',(World.drew ((W.alloc (Obj.cells #[Value.int IntKind.i64 x.fst,Value.int IntKind.i64 x.snd] 47)).alloc (Obj.cells #[Value.int IntKind.i64 y.fst,Value.int IntKind.i64 y.snd] 47)))=grow (W.drewN 1) os':=⟨_,by rw [alloc_eq_grow,alloc_eq_grow,grow_grow,drew_grow]; rfl⟩
  generalize (World.drew ((W.alloc (Obj.cells #[Value.int IntKind.i64 x.fst,Value.int IntKind.i64 x.snd] 47)).alloc (Obj.cells #[Value.int IntKind.i64 y.fst,Value.int IntKind.i64 y.snd] 47)))=W1 at hW ⊢
  go_wp2_with (go_at_call 75; refine (h3 _ _).mono ?_; rintro e w' ⟨rfl,rfl⟩)
  all_goals
    go_ret
    obtain ⟨os',rfl⟩:=hW
    exact ⟨rfl,1,_,by rw [alloc_eq_grow,grow_grow]⟩
def Tryz.sortKey_ren : Go.Shelf.Ren := ⟨fun | 6 => 42 | 15 => 74 | 14 => 73 | 28 => 132 | 29 => 133 | 20 => 124 | 21 => 125 | 22 => 126 | 23 => 127 | 24 => 128 | 25 => 129 | 26 => 130 | 27 => 131 | 46 => 142 | 47 => 143 | 48 => 144 | 49 => 145 | 50 => 146 | 57 => 147 | n => n, fun | 22 => 35 | 24 => 47 | 25 => 77 | 3 => 3 | 39 => 103 | 0 => 0 | 53 => 145 | 55 => 147 | 4 => 4 | 46 => 139 | 45 => 138 | 50 => 60 | 5 => 5 | 9 => 9 | 66 => 157 | 70 => 161 | 76 => 163 | 77 => 164 | n => n, fun | n => n⟩
theorem Tryz.sortKey : Go.Proofs.SlLaysF0.n6 Tryz.prog Tryz.sortKey_ren := {
  mixed := by kernel_rfl
  f6 := ⟨Tryz.f42.name, by decide, Tryz.func42.trans (congrArg some (by kernel_rfl))⟩
  f14 := ⟨Tryz.f73.name, by decide, Tryz.func73.trans (congrArg some (by kernel_rfl))⟩
  f15 := Tryz.func74.trans (congrArg some (by kernel_rfl))
  f20 := ⟨Tryz.f124.name, by decide, Tryz.func124.trans (congrArg some (by kernel_rfl))⟩
  f21 := ⟨Tryz.f125.name, by decide, Tryz.func125.trans (congrArg some (by kernel_rfl))⟩
  f22 := ⟨Tryz.f126.name, by decide, Tryz.func126.trans (congrArg some (by kernel_rfl))⟩
  f23 := ⟨Tryz.f127.name, by decide, Tryz.func127.trans (congrArg some (by kernel_rfl))⟩
  f24 := ⟨Tryz.f128.name, by decide, Tryz.func128.trans (congrArg some (by kernel_rfl))⟩
  f25 := ⟨Tryz.f129.name, by decide, Tryz.func129.trans (congrArg some (by kernel_rfl))⟩
  f26 := ⟨Tryz.f130.name, by decide, Tryz.func130.trans (congrArg some (by kernel_rfl))⟩
  f27 := ⟨Tryz.f131.name, by decide, Tryz.func131.trans (congrArg some (by kernel_rfl))⟩
  f28 := Tryz.func132.trans (congrArg some (by kernel_rfl))
  f29 := Tryz.func133.trans (congrArg some (by kernel_rfl))
  f46 := ⟨Tryz.f142.name, by decide, Tryz.func142.trans (congrArg some (by kernel_rfl))⟩
  f47 := Tryz.func143.trans (congrArg some (by kernel_rfl))
  f48 := Tryz.func144.trans (congrArg some (by kernel_rfl))
  f49 := ⟨Tryz.f145.name, by decide, Tryz.func145.trans (congrArg some (by kernel_rfl))⟩
  f50 := ⟨Tryz.f146.name, by decide, Tryz.func146.trans (congrArg some (by kernel_rfl))⟩
  f57 := ⟨Tryz.f147.name, by decide, Tryz.func147.trans (congrArg some (by kernel_rfl))⟩
  t0 := Tryz.underlying0
  a0 := Tryz.isAgg0
  z0 := Tryz.sizeOf0
  v0 := Tryz.zeroValue0
  t3 := Tryz.underlying3
  a3 := Tryz.isAgg3
  z3 := Tryz.sizeOf3
  v3 := Tryz.zeroValue3
  t4 := Tryz.underlying4
  a4 := Tryz.isAgg4
  z4 := Tryz.sizeOf4
  v4 := Tryz.zeroValue4
  t5 := Tryz.underlying5
  a5 := Tryz.isAgg5
  z5 := Tryz.sizeOf5
  v5 := Tryz.zeroValue5
  t9 := Tryz.underlying9
  a9 := Tryz.isAgg9
  z9 := Tryz.sizeOf9
  v9 := Tryz.zeroValue9
  t22 := Tryz.underlying35
  a22 := Tryz.isAgg35
  z22 := Tryz.sizeOf35
  v22 := Tryz.zeroValue35
  t25 := Tryz.underlying77
  a25 := Tryz.isAgg77
  z25 := Tryz.sizeOf77
  v25 := Tryz.zeroValue77
  t39 := Tryz.underlying103
  a39 := Tryz.isAgg103
  z39 := Tryz.sizeOf103
  v39 := Tryz.zeroValue103
  t45 := Tryz.underlying138
  a45 := Tryz.isAgg138
  z45 := Tryz.sizeOf138
  v45 := Tryz.zeroValue138
  t46 := Tryz.underlying139
  a46 := Tryz.isAgg139
  z46 := Tryz.sizeOf139
  v46 := Tryz.zeroValue139
  t50 := Tryz.underlying60
  a50 := Tryz.isAgg60
  z50 := Tryz.sizeOf60
  v50 := Tryz.zeroValue60
  t53 := Tryz.underlying145
  a53 := Tryz.isAgg145
  z53 := Tryz.sizeOf145
  v53 := Tryz.zeroValue145
  t55 := Tryz.underlying147
  a55 := Tryz.isAgg147
  z55 := Tryz.sizeOf147
  v55 := Tryz.zeroValue147
  t66 := Tryz.underlying157
  a66 := Tryz.isAgg157
  z66 := Tryz.sizeOf157
  v66 := Tryz.zeroValue157
  t70 := Tryz.underlying161
  a70 := Tryz.isAgg161
  z70 := Tryz.sizeOf161
  v70 := Tryz.zeroValue161
  t76 := Tryz.underlying163
  a76 := Tryz.isAgg163
  z76 := Tryz.sizeOf163
  v76 := Tryz.zeroValue163
  t77 := Tryz.underlying164
  a77 := Tryz.isAgg164
  z77 := Tryz.sizeOf164
  v77 := Tryz.zeroValue164 }
end Go.Proofs
namespace Go.Proofs.YtmemggdjnfccfaaGreatDoor.Ghost
open Go Go.Shelf Go.RowKit Go.Lib Go.Sort
def E8 (a b:den kT):Int:=if compareInt a.1 b.1=0 then compareInt a.2.1 b.2.1 else compareInt a.1 b.1
def Pj (a:den kT):List Value:=[.int .i64 a.1,.int .i64 a.2.1]
theorem BJ4 (a1 a2 b1 b2:Int):((if (if a1<b1 then (-1:Int) else if a1 > b1 then 1 else 0)=0 then (if a2<b2 then (-1:Int) else if a2 > b2 then 1 else 0) else (if a1<b1 then (-1:Int) else if a1 > b1 then 1 else 0))<0)↔pLt a1 a2 b1 b2:=by
  unfold pLt
  repeat' split
  all_goals omega
theorem Pd (a b:den kT):ltOf E8 a b=kLt a b:=by
  have h:=Th a b
  have:(E8 a b<0)↔pLt a.1 a.2.1 b.1 b.2.1:=BJ4 a.1 a.2.1 b.1 b.2.1
  unfold ltOf
  rw [Bool.eq_iff_iff,decide_eq_true_eq,this,← h]
theorem BYi:SWO (ltOf E8) where
  irrefl x:=(Pd x x).trans (Bool.eq_false_iff.2 (Om x))
  trans x y z h1 h2:=(Pd x z).trans (ABr ((Pd x y).symm.trans h1) ((Pd y z).symm.trans h2))
  ntrans x y z h1 h2:=by
    have h1:=Bool.eq_false_iff.1 ((Pd x y).symm.trans h1)
    have h2:=Bool.eq_false_iff.1 ((Pd y z).symm.trans h2)
    refine (Pd x z).trans (Bool.eq_false_iff.2 fun h => ?_)
    rw [ne_eq,Th] at h1 h2
    rw [Th] at h
    unfold pLt at *
    omega
theorem AOh:Ck Tryz.prog 42 43 where
  call:=by kernel_rfl
  empty p cap w:=AnyF.slices_SortFunc_none Tryz.sortKey p cap _ w
  more b cap l cs w h0 hl hr hth hlc hcs hb hnd:=by
    have hbl:∃ c e fr,w.heap[b]?=some (.cells c e fr):=by
      obtain ⟨h1,_⟩:=hth 0 (by omega)
      unfold World.cell? at h1
      split at h1
      · rename_i c e fr hx; exact ⟨c,e,fr,hx⟩
      · cases h1
    obtain ⟨c,ety,fr,hbk⟩:=hbl
    have hcell:∀ j:Nat,w.cell? ⟨b,j,none⟩=c[j]?:=fun j=>by simp [World.cell?,hbk]
    have hc:∀ j,j<cs.length→c[j]?=cs[j]?:=fun j hj=>by
      have h1:=hr j _ (List.getElem?_eq_getElem hj)
      rw [Nat.zero_add,hcell] at h1
      rw [h1,List.getElem?_eq_getElem hj]
    have hF:∀ (d:Array (den kT)) (i:Nat),i<d.size→(flatK Pj 2 d)[i * 2]! = .int .i64 (d.toList.getD i (dft kT)).1∧(flatK Pj 2 d)[i * 2+1]! = .int .i64 (d.toList.getD i (dft kT)).2.1:=fun d i hi=>by
      rw [get_flatK Pj 2 d _ (by omega),get_flatK Pj 2 d _ (by omega)]
      have e1:i * 2 / 2=i:=by omega
      have e2:(i * 2+1) / 2=i:=by omega
      have e3:i * 2 % 2=0:=by omega
      have e4:(i * 2+1) % 2=1:=by omega
      rw [e1,e2,e3,e4]
      have e5:d[i]! = d.toList.getD i (dft kT):=by
        rw [getElem!_pos d i hi,List.getD_eq_getElem?_getD,Array.getElem?_toList,Array.getElem?_eq_getElem hi]; rfl
      rw [e5]
      exact ⟨rfl,rfl⟩
    have hH:HoldsK Pj 2 w b 0 l.toArray:=by
      intro j hj
      rw [size_flatK] at hj
      have hj':j<l.length * 2:=by simpa using hj
      have hi:j / 2<l.toArray.size:=by simp; omega
      have hjj:j=j / 2 * 2∨j=j / 2 * 2+1:=by omega
      obtain ⟨f1,f2⟩:=hF l.toArray (j / 2) hi
      obtain ⟨g1,g2⟩:=hcs (j / 2) (by omega)
      refine ⟨?_,(hth j (by omega)).2⟩
      rw [Nat.zero_add,hcell,hc j (by omega)]
      rcases hjj with h | h
      · rw [h,g1,f1]; rfl
      · rw [h,g2,f2]; rfl
    have hsz:l.toArray.size=l.length:=by simp
    have key:=AnyQ.slices_SortFunc_total Tryz.sortKey 2 (fun w=>by kernel_rfl) (fun w=>by kernel_rfl) Pj (fun _=>rfl) (fun x v hv=>by simp [Pj] at hv; rcases hv with rfl | rfl <;> rfl) E8 BYi 43 #[] b 0 cap l.toArray w (enters_of Tryz.func43 (by kernel_rfl) rfl)
      (fun m os dk hdk x y=>by have:=Tryz.compare19 (x.1,x.2.1) (y.1,y.2.1) (sortWorldK Pj 2 w b 0 m dk os); exact this) hH hb (by rw [hsz]; omega) (fun x y h1 h2=>Em (by rw [← Pd,h1]; decide) (by rw [← Pd,h2]; decide))
    rw [hsz] at key
    refine Calls.mono key (fun e w' he => ?_)
    obtain ⟨rfl,n,os,hw'⟩:=he
    have hd:l.toArray.toList.mergeSort (fun x y => !(ltOf E8) y x)=J5 l:=by
      have e0:(fun x y => !(ltOf E8) y x)=fun x y => !kLt y x:=by funext x y; rw [Pd]
      rw [e0]
      have hperm:=List.mergeSort_perm l (fun x y => !kLt y x)
      refine Ad ?_ (fun x=>hperm.mem_iff)
      have hs:=List.pairwise_mergeSort (le:=fun x y => !kLt y x) (fun a b c h1 h2=>by
        simp only [Bool.not_eq_true',Bool.eq_false_iff,ne_eq,Th] at *
        unfold pLt at *
        omega) (fun a b=>by
        simp only [Bool.or_eq_true,Bool.not_eq_true',Bool.eq_false_iff,ne_eq,Th]
        unfold pLt
        omega) l
      have hn:(l.mergeSort (fun x y => !kLt y x)).Nodup:=hperm.nodup_iff.2 hnd
      refine (hs.and hn).imp (fun {x y} hxy => ?_)
      obtain ⟨h1,h2⟩:=hxy
      have h1:¬ kLt y x=true:=by simpa using h1
      cases h3:kLt x y with
      | true=>rfl
      | false=>exact absurd (Em (by rw [h3]; decide) h1) h2
    rw [hd] at hw'
    have hkl:(J5 l).length=l.length:=ABs hnd
    have hsf:(flatK Pj 2 (J5 l).toArray).size=l.length * 2:=by rw [size_flatK]; simp [hkl]
    generalize hFF:flatK Pj 2 (J5 l).toArray=F at hsf
    have hw2:w'=grow (putRow id (Sort.ahead w n) b 0 F) os:=by rw [hw',← hFF]; rfl
    have hsz2:(putRow id (Sort.ahead w n) b 0 F).heap.size=w.heap.size:=by unfold putRow mapBlock; simp [Sort.ahead]
    have hbk2:w'.heap[b]?=some (.cells (putCells id 0 F c) ety fr):=by
      rw [hw2,heap_grow_old _ _ (by rw [hsz2]; exact hb)]
      show ((Sort.ahead w n).heap.modify b (onCells (putCells id 0 F)))[b]?=_
      rw [Array.getElem?_modify,if_pos rfl]
      show Option.map _ (w.heap[b]?)=_
      rw [hbk]; rfl
    have hcell2:∀ j:Nat,w'.cell? ⟨b,j,none⟩=if j<l.length * 2 then (c[j]?).map (fun _=>F[j]!) else c[j]?:=fun j=>by
      have:w'.cell? ⟨b,j,none⟩=(putCells id 0 F c)[j]?:=by simp [World.cell?,hbk2]
      rw [this]
      unfold putCells
      rw [Array.getElem?_mapIdx]
      simp only [Nat.zero_le,true_and,Nat.zero_add,Nat.sub_zero,hsf,id]
      cases c[j]? with
      | none=>simp
      | some x=>by_cases hj:j<l.length * 2 <;> simp [hj]
    refine ⟨rfl,by rw [hw2]; rfl,by rw [hw2]; rfl,by rw [hw2]; rfl,by rw [hw2,size_grow,hsz2]; omega,fun k hk hkb => ?_,(List.range cs.length).map (fun j=>if j<l.length * 2 then F[j]! else cs.getD j undef),by simp,?_,?_,?_⟩
    · rw [hw2,heap_grow_old _ _ (by rw [hsz2]; exact hk)]
      show ((Sort.ahead w n).heap.modify b _)[k]?=_
      rw [Array.getElem?_modify,if_neg (Ne.symm hkb)]; rfl
    · intro j v hv
      rw [List.getElem?_map] at hv
      by_cases hj:j<cs.length
      · rw [List.getElem?_range hj] at hv
        simp only [Option.map_some,Option.some.injEq] at hv
        rw [Nat.zero_add,hcell2,← hv,hc j hj,List.getElem?_eq_getElem hj]
        split <;> simp [List.getD_eq_getElem?_getD,List.getElem?_eq_getElem hj]
      · rw [List.getElem?_eq_none (by simpa using hj)] at hv; cases hv
    · intro j hj
      refine ⟨?_,?_⟩
      · rw [Nat.zero_add,hcell2,hc j hj,List.getElem?_eq_getElem hj]
        split <;> rfl
      · have:=(hth j hj).2
        unfold World.frozen? at this ⊢
        rw [hbk2]
        rw [hbk] at this
        exact this
    · intro i hi
      obtain ⟨f1,f2⟩:=hF (J5 l).toArray i (by simp [hkl]; exact hi)
      rw [hFF] at f1 f2
      rw [List.getElem?_map,List.getElem?_map,List.getElem?_range (by omega),List.getElem?_range (by omega)]
      simp only [Option.map_some,f1,f2]
      rw [if_pos (by omega),if_pos (by omega)]
      exact ⟨rfl,rfl⟩
end Go.Proofs.YtmemggdjnfccfaaGreatDoor.Ghost
