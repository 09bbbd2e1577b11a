/- CoinSums: the sum of purses is what is counted one by one, in whatever order. Conditions: none. -/
import Derived.Test.YtdlpogefdccacaaPCoinSumsx2
namespace Go.Proofs.Ytdlpogefdccacaa.Pure
open Go.RowKit Go.Proofs.Ytdlpogefdccacaa.PCoinSums Go.Proofs.YtdlpogefdccacaaW.PrintWords Go.Proofs.YtdlpogefdccacaaW.PrintLast

theorem ris_eq (a : Int) : innkeepref01_Is.f a = some (decide (0 ≤ a ∧ a ≤ 1073741824)) := by
  unfold innkeepref01_Is.f; by_cases h : 0 ≤ a <;> simp [h]

theorem awake_at (k : Nat) (hk : 20 ≤ k) : innkeeplaw01_awake.f k = some true :=
  at_rounds (g := innkeeplaw01_awake.f) innkeeplaw01_awake.mono hk (by kernel_rfl)

theorem wr {x : Int} (h0 : -9000000000000000000 ≤ x) (h1 : x ≤ 9000000000000000000) : wrap64 x = x := by
  unfold wrap64; omega

def Purses (l : List Int) : Prop := ∀ x ∈ l, 0 ≤ x ∧ x ≤ 1073741824

theorem sum_bd (l : List Int) (h : Purses l) : 0 ≤ l.sum ∧ l.sum ≤ 1073741824 * (l.length : Int) := by
  induction l with
  | nil => simp
  | cons x l ih =>
    have h1 := h x (by simp)
    have h2 := ih (fun y hy => h y (by simp [hy]))
    simp only [List.sum_cons, List.length_cons]
    omega

theorem purses_take {l : List Int} (h : Purses l) (i : Nat) : Purses (l.take i) := fun x hx => h x (List.mem_of_mem_take hx)

theorem rd_eq (l : List Int) (i : Nat) (h : i < l.length) : rd l (i : Int) = l[i] := by
  unfold rd; simp [List.getD, h]

theorem take_sum (l : List Int) (i : Nat) (h : i < l.length) : (l.take (i + 1)).sum = (l.take i).sum + l[i] := by
  rw [List.take_succ_eq_append_getElem h, List.sum_append]; simp

theorem sum_loop (l : List Int) (hp : Purses l) (hn : l.length ≤ 1000) (d : Nat) : ∀ (k i : Nat), i ≤ l.length → l.length - i = d → d < k →
    coin_Sum.l0 k (l.take i).sum l (l.length : Int) (i : Int) = some l.sum := by
  induction d with
  | zero =>
    intro k i hi hd hk
    obtain ⟨k, rfl⟩ : ∃ m, k = m + 1 := ⟨k - 1, by omega⟩
    have : i = l.length := by omega
    subst this
    simp only [coin_Sum.l0]; rw [if_neg (by omega)]; simp
  | succ d ih =>
    intro k i hi hd hk
    obtain ⟨k, rfl⟩ : ∃ m, k = m + 1 := ⟨k - 1, by omega⟩
    have hlt : i < l.length := by omega
    have b1 := sum_bd _ (purses_take hp i)
    have b2 : (l.take i).length ≤ 1000 := by simp; omega
    have b3 := hp l[i] (List.getElem_mem hlt)
    simp only [coin_Sum.l0]; rw [if_pos (by omega), if_pos (by omega), if_pos (by omega), rd_eq l i hlt, wr (by omega) (by omega), ← take_sum l i hlt, wr (by omega) (by omega)]
    exact ih k (i + 1) (by omega) (by omega) (by omega)

theorem sum_eq (l : List Int) (hp : Purses l) (hn : l.length ≤ 1000) (k : Nat) (hk : l.length < k) : coin_Sum.f k l = some l.sum := by
  have := sum_loop l hp hn l.length k 0 (by omega) (by omega) hk
  simpa [coin_Sum.f] using this

/-- What the loop has made of the list, turned. -/
def turned (l : List Int) (t i : Nat) : List Int := (List.range i).map fun j => l.getD ((j + t) % l.length) 0

theorem sum_map_range_add (f : Nat → Int) (a b : Nat) : ((List.range (a + b)).map f).sum = ((List.range a).map f).sum + ((List.range b).map fun j => f (a + j)).sum := by
  rw [List.range_add, List.map_append, List.sum_append, List.map_map]; rfl

theorem sum_congr (f g : Nat → Int) (n : Nat) (h : ∀ j, j < n → f j = g j) : ((List.range n).map f).sum = ((List.range n).map g).sum := by
  congr 1
  exact List.map_congr_left fun j hj => h j (List.mem_range.mp hj)

theorem range_getD (l : List Int) : (List.range l.length).map (fun j => l.getD j 0) = l := by
  apply List.ext_getElem (by simp)
  intro i h1 h2
  simp [List.getD, h2]

theorem turned_sum (l : List Int) (t : Nat) : (turned l t l.length).sum = l.sum := by
  by_cases h0 : l.length = 0
  · have : l = [] := List.eq_nil_of_length_eq_zero h0
    subst this; rfl
  obtain ⟨s, hs, hs'⟩ : ∃ s, s < l.length ∧ ∀ j, (j + t) % l.length = (j + s) % l.length := ⟨t % l.length, Nat.mod_lt _ (by omega), fun j => by rw [Nat.add_mod_mod]⟩
  unfold turned
  rw [sum_congr _ (fun j => l.getD ((j + s) % l.length) 0) _ (fun j _ => by rw [hs' j])]
  have e1 : l.length = (l.length - s) + s := by omega
  have e2 : ((List.range l.length).map fun j => l.getD ((j + s) % l.length) 0).sum =
      ((List.range ((l.length - s) + s)).map fun j => l.getD ((j + s) % l.length) 0).sum := by rw [← e1]
  rw [e2, sum_map_range_add]
  rw [sum_congr _ (fun j => l.getD (s + j) 0) (l.length - s) (fun j hj => by rw [Nat.mod_eq_of_lt (by omega), Nat.add_comm])]
  rw [sum_congr _ (fun j => l.getD j 0) s (fun j hj => by
    have : l.length - s + j + s = j + l.length := by omega
    rw [this, Nat.add_mod_right, Nat.mod_eq_of_lt (by omega)])]
  have e3 : l.sum = ((List.range (s + (l.length - s))).map fun j => l.getD j 0).sum := by
    have : s + (l.length - s) = l.length := by omega
    rw [this, range_getD]
  rw [e3, sum_map_range_add]; omega

theorem turned_len (l : List Int) (t i : Nat) : (turned l t i).length = i := by simp [turned]
theorem turned_succ (l : List Int) (t i : Nat) : turned l t (i + 1) = turned l t i ++ [l.getD ((i + t) % l.length) 0] := by
  simp [turned, List.range_succ]
theorem turned_purses (l : List Int) (hp : Purses l) (t i : Nat) : Purses (turned l t i) := by
  intro x hx
  simp only [turned, List.mem_map] at hx
  obtain ⟨j, _, rfl⟩ := hx
  rw [List.getD_eq_getElem?_getD]
  cases h : l[(j + t) % l.length]? with
  | none => simp
  | some y => exact hp y (List.mem_of_getElem? h)

theorem main_loop (l : List Int) (t : Nat) (ht : t ≤ 255) (hn : l.length ≤ 200) (d : Nat) : ∀ (k i : Nat), i ≤ l.length → l.length - i = d → Purses (l.take i) → d + 400 < k →
    innkeeplaw01_CoinSums.l0 k l (t : Int) (l.take i).sum (turned l t i) (i : Int) = some true := by
  induction d with
  | zero =>
    intro k i hi hd hp hk
    obtain ⟨k, rfl⟩ : ∃ m, k = m + 1 := ⟨k - 1, by omega⟩
    have : i = l.length := by omega
    subst this
    rw [List.take_length] at hp
    simp only [innkeeplaw01_CoinSums.l0]
    rw [if_neg (by omega), sum_eq l hp (by omega) k (by omega)]
    simp only [Option.bind_some]
    rw [sum_eq (turned l t l.length) (turned_purses l hp t _) (by rw [turned_len]; omega) k (by rw [turned_len]; omega)]
    simp only [Option.bind_some, turned_sum, List.take_length]
    simp
  | succ d ih =>
    intro k i hi hd hp hk
    obtain ⟨k, rfl⟩ : ∃ m, k = m + 1 := ⟨k - 1, by omega⟩
    have hlt : i < l.length := by omega
    simp only [innkeeplaw01_CoinSums.l0]
    rw [if_pos (by omega), if_pos (by omega), ris_eq, rd_eq l i hlt]
    simp only [Option.bind_some]
    by_cases hx : 0 ≤ l[i] ∧ l[i] ≤ 1073741824
    · rw [if_pos (by simpa using hx), if_neg (by omega), wr (x := (t : Int)) (by omega) (by omega), wr (x := (i : Int) + t) (by omega) (by omega)]
      have em : Int.tmod ((i : Int) + t) (l.length : Int) = (((i + t) % l.length : Nat) : Int) := by
        rw [Int.tmod_eq_emod_of_nonneg (by omega)]; simp
      have hm : (i + t) % l.length < l.length := Nat.mod_lt _ (by omega)
      rw [em, if_pos (by omega), if_pos (by omega), if_pos (by rw [turned_len]; omega)]
      have b1 := sum_bd _ hp
      have b2 : (l.take i).length ≤ 200 := by simp; omega
      rw [wr (by omega) (by omega), ← take_sum l i hlt, wr (by omega) (by omega)]
      have er : rd l (((i + t) % l.length : Nat) : Int) = l.getD ((i + t) % l.length) 0 := by unfold rd; rw [Int.toNat_natCast]
      rw [er, ← turned_succ]
      refine ih k (i + 1) (by omega) (by omega) ?_ (by omega)
      rw [List.take_succ_eq_append_getElem hlt]
      intro x hx'
      rcases List.mem_append.mp hx' with h | h
      · exact hp x h
      · simp at h; subst h; exact hx
    · rw [if_neg (by simpa using hx)]

theorem CoinSums : innkeeplaw01_CoinSums.Pure := by
  intro l a _ _ _ ha
  have ha' : 0 ≤ a ∧ a ≤ 255 := by simp [Lit.wf, IntKind.min, IntKind.max, IntKind.bits, IntKind.signed] at ha; omega
  obtain ⟨t, rfl⟩ : ∃ t : Nat, a = t := ⟨a.toNat, by omega⟩
  refine ⟨1000, ?_⟩
  unfold innkeeplaw01_CoinSums.f
  rw [awake_at 1000 (by omega)]; simp only [Option.bind_some, if_true]
  by_cases hn : (l.length : Int) > 200
  · have : decide ((l.length : Int) > 200) = true := decide_eq_true hn
    rw [this]; simp only [innkeeplaw01_CoinSums.j0, if_true]; rw [awake_at 999 (by omega)]; rfl
  · have : decide ((l.length : Int) > 200) = false := decide_eq_false hn
    rw [this]; simp only [innkeeplaw01_CoinSums.j0]; rw [if_neg (by decide)]
    have := main_loop l t (by omega) (by omega) l.length 999 0 (by omega) (by omega) (by intro x hx; simp at hx) (by omega)
    simpa [turned] using this

end Go.Proofs.Ytdlpogefdccacaa.Pure
