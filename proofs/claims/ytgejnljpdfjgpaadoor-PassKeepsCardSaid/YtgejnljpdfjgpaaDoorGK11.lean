/- A part of the proof of this claim (part 11 of 16): contracts of callees and plain facts, each with its own conditions before its statement. -/
import Derived.RangeFuncBox
import Derived.RangeFuncNested
import Derived.RangeFuncLeaves
import Derived.Shelf.Abstract
import Derived.WalkKit
import Derived.OwnWalkIn
import Derived.TacticsInMore
import Derived.LoopNIn
import Derived.LoopIn
import Derived.Maps.AppendAt
import Derived.Lib.SlKeysI
import Derived.Test.YtgejnljpdfjgpaaDoorGK1
import Derived.Test.YtgejnljpdfjgpaaDoorGK2
import Derived.Test.YtgejnljpdfjgpaaDoorGK5
import Derived.Test.YtgejnljpdfjgpaaDoorGK7
import Derived.Test.YtgejnljpdfjgpaaDoorGK8
import Derived.Test.YtgejnljpdfjgpaaDoorGK10
set_option linter.unusedVariables false
set_option linter.unusedSimpArgs false
/- Plain facts: the references' Unite and Sort; what law16's shape makes of its parts. No memory in it. -/
namespace Go.Proofs.YtgejnljpdfjgpaaDoor.Q
open Go.RowKit Go.Proofs.YtgejnljpdfjgpaaDoorW.PrintWords Go.Proofs.YtgejnljpdfjgpaaDoorW.PrintLast Go.Proofs.YtgejnljpdfjgpaaDoorW.PrintMore

/-! #### a number, counted round -/
def cutI (x m : Int) : Int := (x % 65536) % m
theorem bits_low (x : Int) : bits .and .i64 x 65535 = x % 65536 := by
  unfold bits
  have h1 : ((BitVec.ofInt 64 x &&& BitVec.ofInt 64 65535).toNat : Int) = x % 65536 := by
    rw [BitVec.toNat_and]
    have e : (BitVec.ofInt 64 65535).toNat = 2 ^ 16 - 1 := by decide
    rw [e, Nat.and_two_pow_sub_one_eq_mod, BitVec.toNat_ofInt]
    omega
  show IntKind.i64.wrap (((BitVec.ofInt 64 x &&& BitVec.ofInt 64 65535).toNat : Nat) : Int) = _
  rw [h1]
  exact IntWalk.i64_in _ (by omega)
theorem cut_tmod (x m : Int) : (bits .and .i64 x 65535).tmod m = cutI x m := by
  rw [bits_low]
  unfold cutI
  rw [Int.tmod_eq_emod_of_nonneg (by omega)]
theorem cutI_range (x m : Int) (hm : 0 < m) : 0 ≤ cutI x m ∧ cutI x m < m := by
  unfold cutI
  exact ⟨Int.emod_nonneg _ (by omega), Int.emod_lt_of_pos _ hm⟩

/-! #### Unite -/
theorem In_l0 (l : List Int) (n : Int) (hb : l.length ≤ 9223372036854775806) (d : Nat) : ∀ (k i : Nat), l.length - i = d → i ≤ l.length → d < k → arboristref01_In.l0 k l n (i : Int) = some (decide (n ∈ l.drop i)) := by
  induction d with
  | zero =>
    intro k i h1 h2 hk
    obtain ⟨k, rfl⟩ : ∃ m, k = m + 1 := ⟨k - 1, by omega⟩
    simp only [arboristref01_In.l0]
    rw [if_neg (by omega), List.drop_eq_nil_of_le (by omega)]
    simp
  | succ d ih =>
    intro k i h1 h2 hk
    obtain ⟨k, rfl⟩ : ∃ m, k = m + 1 := ⟨k - 1, by omega⟩
    simp only [arboristref01_In.l0]
    rw [if_pos (by omega), if_pos (by omega), drop_rd l i (by omega)]
    by_cases c : rd l (i : Int) = n
    · rw [if_pos c]
      simp [c]
    · rw [if_neg c, wrap_nat i (by omega), ih k (i + 1) (by omega) (by omega) (by omega)]
      simp [Ne.symm c]
theorem In_eq (l : List Int) (n : Int) (hb : l.length ≤ 9223372036854775806) (k : Nat) (hk : l.length < k) : arboristref01_In.f k l n = some (decide (n ∈ l)) := by
  have h := In_l0 l n hb l.length k 0 (by omega) (by omega) hk
  rw [show ((0 : Nat) : Int) = 0 from rfl] at h
  exact h
/-- What is in the first alone, in its order. -/
def outL (a b : List Int) : List Int := a.filter fun n => decide (n ∉ b)
theorem Without_l0 (a b : List Int) (ha : a.length < 17592186044416) (hb : b.length ≤ 9223372036854775806) (d : Nat) : ∀ (k i : Nat) (acc : List Int), a.length - i = d → i ≤ a.length → d + b.length + 1 < k → acc.length ≤ i → arboristref01_Without.l0 k a b acc (i : Int) = some (acc ++ outL (a.drop i) b) := by
  induction d with
  | zero =>
    intro k i acc h1 h2 hk hacc
    obtain ⟨k, rfl⟩ : ∃ m, k = m + 1 := ⟨k - 1, by omega⟩
    simp only [arboristref01_Without.l0]
    rw [if_neg (by omega), List.drop_eq_nil_of_le (by omega)]
    simp [outL]
  | succ d ih =>
    intro k i acc h1 h2 hk hacc
    obtain ⟨k, rfl⟩ : ∃ m, k = m + 1 := ⟨k - 1, by omega⟩
    simp only [arboristref01_Without.l0]
    rw [if_pos (by omega), if_pos (by omega), In_eq b _ hb k (by omega), drop_rd a i (by omega)]
    simp only [Option.bind_some, decide_eq_true_eq]
    by_cases c : rd a (i : Int) ∈ b
    · rw [if_pos c, wrap_nat i (by omega), ih k (i + 1) acc (by omega) (by omega) (by omega) (by omega)]
      simp [outL, List.filter_cons, c]
    · rw [if_neg c, if_pos (by omega), wrap_nat i (by omega), ih k (i + 1) _ (by omega) (by omega) (by omega) (by simp; omega)]
      simp [outL, List.filter_cons, c]
theorem Without_eq (a b : List Int) (ha : a.length < 17592186044416) (hb : b.length ≤ 9223372036854775806) (k : Nat) (hk : a.length + b.length + 1 < k) : arboristref01_Without.f k a b = some (outL a b) := by
  have h := Without_l0 a b ha hb a.length k 0 [] (by omega) (by omega) (by omega) (by simp)
  rw [show ((0 : Nat) : Int) = 0 from rfl] at h
  exact h
/-- Two rows, the lesser number ahead. -/
def uniteM : List Int → List Int → List Int
  | [], m => m
  | x :: a, [] => x :: a
  | x :: a, y :: m => if x < y then x :: uniteM a (y :: m) else y :: uniteM (x :: a) m
theorem uniteM_nil (a : List Int) : uniteM a [] = a := by cases a <;> simp [uniteM]
theorem len_uniteM (a m : List Int) : (uniteM a m).length = a.length + m.length := by
  fun_induction uniteM a m <;> simp_all <;> omega
theorem mem_uniteM {n : Int} (a m : List Int) : n ∈ uniteM a m ↔ n ∈ a ∨ n ∈ m := by
  fun_induction uniteM a m <;> simp_all [or_assoc, or_left_comm]
def uniteL (a b : List Int) : List Int := uniteM a (outL b a)
theorem Unite_l0 (a m : List Int) (hs : a.length + m.length < 17592186044416) (d : Nat) : ∀ (k i j : Nat) (acc : List Int), (a.length - i) + (m.length - j) = d → i ≤ a.length → j ≤ m.length → 2 * d + 2 < k → acc.length = i + j → arboristref01_Unite.l0 k a acc m (i : Int) (j : Int) = some (acc ++ uniteM (a.drop i) (m.drop j)) := by
  induction d with
  | zero =>
    intro k i j acc h1 h2 h3 hk hacc
    obtain ⟨k, rfl⟩ : ∃ m, k = m + 2 := ⟨k - 2, by omega⟩
    simp only [arboristref01_Unite.l0]
    rw [if_neg (by omega), decide_eq_false (by omega)]
    simp only [arboristref01_Unite.j1]
    rw [if_neg (by simp), List.drop_eq_nil_of_le (show a.length ≤ i by omega), List.drop_eq_nil_of_le (show m.length ≤ j by omega)]
    simp [uniteM]
  | succ d ih =>
    intro k i j acc h1 h2 h3 hk hacc
    obtain ⟨k, rfl⟩ : ∃ m, k = m + 2 := ⟨k - 2, by omega⟩
    simp only [arboristref01_Unite.l0]
    have hT : (if (i : Int) < (a.length : Int) then arboristref01_Unite.j1 (k + 1) a acc m (i : Int) (j : Int) true else arboristref01_Unite.j1 (k + 1) a acc m (i : Int) (j : Int) (decide ((j : Int) < (m.length : Int)))) = arboristref01_Unite.j1 (k + 1) a acc m (i : Int) (j : Int) true := by
      by_cases c : i < a.length
      · rw [if_pos (by omega)]
      · rw [if_neg (by omega), decide_eq_true (by omega)]
    rw [hT]
    simp only [arboristref01_Unite.j1]
    rw [if_pos trivial]
    by_cases cj : j = m.length
    · rw [if_pos (by omega), if_pos (by omega), if_pos (by omega), if_pos (by omega), wrap_nat i (by omega), ih k (i + 1) j _ (by omega) (by omega) (by omega) (by omega) (by simp; omega), drop_rd a i (by omega), List.drop_eq_nil_of_le (show m.length ≤ j by omega), uniteM_nil, uniteM_nil]
      simp
    · rw [if_neg (by omega)]
      by_cases ci : i < a.length
      · rw [if_pos (by omega), if_pos (by omega), if_pos (by omega), if_pos (by omega), drop_rd a i ci, drop_rd m j (by omega)]
        by_cases c : rd a (i : Int) < rd m (j : Int)
        · rw [if_pos c, if_pos (by omega), wrap_nat i (by omega), ih k (i + 1) j _ (by omega) (by omega) (by omega) (by omega) (by simp; omega), drop_rd m j (by omega)]
          simp [uniteM, c]
        · rw [if_neg c, if_pos (by omega), wrap_nat j (by omega), ih k i (j + 1) _ (by omega) (by omega) (by omega) (by omega) (by simp; omega), drop_rd a i ci]
          simp [uniteM, c]
      · rw [if_neg (by omega), if_pos (by omega), if_pos (by omega), if_pos (by omega), wrap_nat j (by omega), ih k i (j + 1) _ (by omega) (by omega) (by omega) (by omega) (by simp; omega), drop_rd m j (by omega), List.drop_eq_nil_of_le (show a.length ≤ i by omega)]
        simp [uniteM]
theorem len_outL (a b : List Int) : (outL a b).length ≤ a.length := List.length_filter_le _ _
theorem Unite_eq (a b : List Int) (hs : a.length + b.length < 17592186044416) (k : Nat) (hk : 2 * (a.length + b.length) + 4 < k) : arboristref01_Unite.f k a b = some (uniteL a b) := by
  unfold arboristref01_Unite.f
  rw [Without_eq b a (by omega) (by omega) k (by omega)]
  have h0 := len_outL b a
  have h := Unite_l0 a (outL b a) (by omega) (a.length + (outL b a).length) k 0 0 [] (by omega) (by omega) (by omega) (by omega) (by simp)
  rw [show ((0 : Nat) : Int) = 0 from rfl] at h
  simpa [uniteL] using h

/-! #### Sort -/
theorem ref_Compare_l0 (a b : List Int) (hb : a.length ≤ 9223372036854775806) (d : Nat) : ∀ (k i : Nat), a.length - i = d → i ≤ a.length → i ≤ b.length → 2 * d + 1 < k → arboristref01_Compare.l0 k a b (i : Int) = some (cmpL (a.drop i) (b.drop i)) := by
  induction d with
  | zero =>
    intro k i h1 h2 h3 hk
    obtain ⟨k, rfl⟩ : ∃ m, k = m + 2 := ⟨k - 2, by omega⟩
    simp only [arboristref01_Compare.l0]
    rw [if_neg (by omega)]
    simp only [arboristref01_Compare.j1]
    rw [if_neg (by simp), List.drop_eq_nil_of_le (show a.length ≤ i by omega)]
    by_cases c : a.length < b.length
    · rw [if_pos (by omega), drop_rd b i (by omega)]
      rfl
    · rw [if_neg (by omega), if_neg (by omega), List.drop_eq_nil_of_le (show b.length ≤ i by omega)]
      rfl
  | succ d ih =>
    intro k i h1 h2 h3 hk
    obtain ⟨k, rfl⟩ : ∃ m, k = m + 2 := ⟨k - 2, by omega⟩
    simp only [arboristref01_Compare.l0]
    rw [if_pos (by omega)]
    by_cases c : i < b.length
    · rw [decide_eq_true (by omega)]
      simp only [arboristref01_Compare.j1]
      rw [if_pos trivial, if_pos (by omega), if_pos (by omega), if_pos (by omega), drop_rd a i (by omega), drop_rd b i c]
      simp only [cmpL]
      by_cases c1 : rd a (i : Int) < rd b (i : Int)
      · rw [if_pos c1, if_pos c1]
      · rw [if_neg c1, if_neg c1]
        by_cases c2 : rd b (i : Int) < rd a (i : Int)
        · rw [if_pos c2, if_pos c2]
        · rw [if_neg c2, if_neg c2, wrap_nat i (by omega)]
          exact ih k (i + 1) (by omega) (by omega) (by omega) (by omega)
    · rw [decide_eq_false (by omega)]
      simp only [arboristref01_Compare.j1]
      rw [if_neg (by simp), drop_rd a i (by omega), List.drop_eq_nil_of_le (show b.length ≤ i by omega), if_neg (by omega), if_pos (by omega)]
      rfl
theorem ref_Compare_eq (a b : List Int) (hb : a.length ≤ 9223372036854775806) (k : Nat) (hk : 2 * a.length + 1 < k) : arboristref01_Compare.f k a b = some (cmpL a b) := by
  have h := ref_Compare_l0 a b hb a.length k 0 (by omega) (by omega) (by omega) hk
  rw [show ((0 : Nat) : Int) = 0 from rfl] at h
  exact h

/-- How many of the rows at the head are less. -/
def lessN (t : List Int) (l : List (List Int)) : Nat := (l.takeWhile fun x => decide (cmpL x t < 0)).length
theorem lessN_le (t : List Int) (l : List (List Int)) : lessN t l ≤ l.length := by
  induction l with
  | nil => simp [lessN]
  | cons x xs ih =>
    unfold lessN at ih ⊢
    rw [List.takeWhile_cons]
    split <;> simp <;> omega
theorem lessN_cons (t x : List Int) (xs : List (List Int)) : lessN t (x :: xs) = if cmpL x t < 0 then lessN t xs + 1 else 0 := by
  unfold lessN
  rw [List.takeWhile_cons]
  by_cases c : cmpL x t < 0
  · rw [if_pos c, if_pos (decide_eq_true c)]; rfl
  · rw [if_neg c, if_neg (by simpa using c)]; rfl
theorem lessN_lt (t : List Int) (l : List (List Int)) : ∀ (j : Nat) (h : j < l.length), j < lessN t l → cmpL l[j] t < 0 := by
  induction l with
  | nil => intro j h; simp at h
  | cons x xs ih =>
    intro j h hj
    rw [lessN_cons] at hj
    by_cases c : cmpL x t < 0
    · rw [if_pos c] at hj
      cases j with
      | zero => exact c
      | succ j => exact ih j (by simpa using h) (by omega)
    · rw [if_neg c] at hj; omega
theorem lessN_ge (t : List Int) (l : List (List Int)) : ∀ (j : Nat) (h : j < l.length), j = lessN t l → 0 ≤ cmpL l[j] t := by
  induction l with
  | nil => intro j h; simp at h
  | cons x xs ih =>
    intro j h hj
    rw [lessN_cons] at hj
    by_cases c : cmpL x t < 0
    · rw [if_pos c] at hj
      subst hj
      exact ih _ (by simpa using h) rfl
    · rw [if_neg c] at hj
      subst hj
      have : ¬ cmpL x t < 0 := c
      show 0 ≤ cmpL x t
      omega
theorem insU_split (t : List Int) (l : List (List Int)) (h : ∀ x, l[lessN t l]? = some x → cmpL x t ≠ 0) : insU t l = l.take (lessN t l) ++ t :: l.drop (lessN t l) := by
  induction l with
  | nil => simp [insU, lessN]
  | cons x xs ih =>
    have hc := cmpL_neg x t
    by_cases c : cmpL x t < 0
    · have e : lessN t (x :: xs) = lessN t xs + 1 := by simp [lessN, List.takeWhile_cons, c]
      rw [e] at h ⊢
      have := ih (fun y hy => h y (by simpa using hy))
      simp only [insU]
      rw [if_neg (by omega), if_neg (by omega), this]
      simp
    · have e : lessN t (x :: xs) = 0 := by simp [lessN, List.takeWhile_cons, c]
      rw [e] at h ⊢
      have h0 := h x rfl
      simp only [insU]
      rw [if_pos (by omega)]
      simp
theorem insU_same (t : List Int) (l : List (List Int)) (x : List Int) (h : l[lessN t l]? = some x) (h0 : cmpL x t = 0) : insU t l = l := by
  induction l with
  | nil => simp at h
  | cons y ys ih =>
    have hc := cmpL_neg y t
    by_cases c : cmpL y t < 0
    · have e : lessN t (y :: ys) = lessN t ys + 1 := by simp [lessN, List.takeWhile_cons, c]
      rw [e] at h
      simp only [insU]
      rw [if_neg (by omega), if_neg (by omega), ih (by simpa using h)]
    · have e : lessN t (y :: ys) = 0 := by simp [lessN, List.takeWhile_cons, c]
      rw [e] at h
      obtain rfl : y = x := by simpa using h
      simp only [insU]
      rw [if_neg (by omega), if_pos (by omega)]

/-- Rows put in their places, one by one. -/
def sortF (l : List (List Int)) : List (List Int) := l.foldl (fun acc t => insU t acc) []
theorem foldl_mem (l : List (List Int)) : ∀ (acc : List (List Int)) (z : List Int), z ∈ l.foldl (fun acc t => insU t acc) acc ↔ z ∈ acc ∨ z ∈ l := by
  induction l with
  | nil => simp
  | cons x xs ih =>
    intro acc z
    rw [List.foldl_cons, ih, mem_insU]
    simp [or_assoc, or_left_comm]
theorem foldl_up (l : List (List Int)) : ∀ (acc : List (List Int)), Up acc → Up (l.foldl (fun acc t => insU t acc) acc) := by
  induction l with
  | nil => exact fun _ h => h
  | cons x xs ih => exact fun acc h => ih _ h.insU
theorem sortF_eq (l : List (List Int)) : sortF l = sortU l := (foldl_up l [] (by simp [Up])).eq_sortU fun x => by rw [foldl_mem]; simp
theorem len_foldl (l : List (List Int)) : ∀ (acc : List (List Int)), (l.foldl (fun acc t => insU t acc) acc).length ≤ acc.length + l.length := by
  induction l with
  | nil => simp
  | cons x xs ih =>
    intro acc
    have h1 := ih (insU x acc)
    have h2 := len_insU x acc
    simp only [List.foldl_cons, List.length_cons]
    omega

theorem rdL_nat (l : List (List Int)) (i : Nat) (h : i < l.length) : rd_L1 l (i : Int) = l[i] := by simp [rd_L1, h]
theorem Copy_eq (t : List Int) (h : t.length < 17592186044416) : arboristref01_Copy.f t = some t := by
  unfold arboristref01_Copy.f
  simp only [Option.bind_some, List.length_nil, List.nil_append]
  rw [if_pos (by omega)]

theorem Sort_l1 (rows acc : List (List Int)) (i : Nat) (hi : i < rows.length) (B : Nat) (hB : ∀ x ∈ acc, x.length ≤ B) (hB1 : B ≤ 9223372036854775806) (hn : acc.length ≤ 9223372036854775806) (hr : rows.length ≤ 9223372036854775806) (k : Nat) (hk : 2 * B + 1 < k) (d : Nat) : ∀ j : Nat, lessN rows[i] acc - j = d → j ≤ lessN rows[i] acc →
    arboristref01_Sort.l1 (k + d + 1) rows acc (i : Int) (j : Int) = arboristref01_Sort.j2 k rows acc (i : Int) ((lessN rows[i] acc : Nat) : Int) := by
  induction d with
  | zero =>
    intro j h1 h2
    have e : j = lessN rows[i] acc := by omega
    have hle := lessN_le rows[i] acc
    simp only [arboristref01_Sort.l1, Nat.add_zero]
    by_cases c : j < acc.length
    · have hx : 0 ≤ cmpL acc[j] rows[i] := lessN_ge _ _ j c e
      rw [if_pos (by omega), if_pos (by omega), if_pos (by omega), if_pos (by omega), rdL_nat acc j c, rdL_nat rows i hi, ref_Compare_eq _ _ (Nat.le_trans (hB _ (List.getElem_mem c)) hB1) k (by have := hB _ (List.getElem_mem c); omega)]
      simp only [Option.bind_some]
      rw [if_neg (by omega), e]
    · rw [if_neg (by omega), e]
  | succ d ih =>
    intro j h1 h2
    have hle := lessN_le rows[i] acc
    have c : j < acc.length := by omega
    have hx : cmpL acc[j] rows[i] < 0 := lessN_lt _ _ j c (by omega)
    obtain ⟨m, hm⟩ : ∃ m, m = k + d + 1 := ⟨_, rfl⟩
    rw [show k + (d + 1) + 1 = m + 1 by omega]
    simp only [arboristref01_Sort.l1]
    rw [if_pos (by omega), if_pos (by omega), if_pos (by omega), if_pos (by omega), rdL_nat acc j c, rdL_nat rows i hi, ref_Compare_eq _ _ (Nat.le_trans (hB _ (List.getElem_mem c)) hB1) m (by have := hB _ (List.getElem_mem c); omega)]
    simp only [Option.bind_some]
    rw [if_pos hx, wrap_nat j (by omega), hm]
    exact ih (j + 1) (by omega) (by omega)

theorem Sort_j2 (rows acc : List (List Int)) (i : Nat) (hi : i < rows.length) (B : Nat) (hB : ∀ x ∈ acc, x.length ≤ B) (hBr : rows[i].length ≤ B) (hB1 : B < 17592186044416) (hn : acc.length < 5864062014804) (hr : rows.length ≤ 9223372036854775806) (k : Nat) (hk : 2 * B + 1 < k) :
    arboristref01_Sort.j2 (k + 1) rows acc (i : Int) ((lessN rows[i] acc : Nat) : Int) = arboristref01_Sort.l0 k rows (insU rows[i] acc) ((i + 1 : Nat) : Int) := by
  have hle := lessN_le rows[i] acc
  have hins : ∀ m, (∀ x, acc[lessN rows[i] acc]? = some x → cmpL x rows[i] ≠ 0) → m = acc.take (lessN rows[i] acc) ++ [rows[i]] ++ acc.drop (lessN rows[i] acc) → m = insU rows[i] acc := fun m h e => by
    rw [e, insU_split _ _ h]
    simp
  simp only [arboristref01_Sort.j2]
  by_cases c : lessN rows[i] acc < acc.length
  · rw [if_pos (by omega), if_pos (by omega), if_pos (by omega), if_pos (by omega), rdL_nat acc _ c, rdL_nat rows i hi, ref_Compare_eq _ _ (by have := hB _ (List.getElem_mem c); omega) k (by have := hB _ (List.getElem_mem c); omega)]
    (try simp only [Option.bind_some])
    by_cases c0 : cmpL acc[lessN rows[i] acc] rows[i] = 0
    · rw [if_pos c0, wrap_nat i (by omega), insU_same _ _ _ (List.getElem?_eq_getElem c) c0]
    · rw [if_neg c0, if_pos (by omega), Int.toNat_natCast, Copy_eq _ (by omega), if_pos (by simp; omega)]
      (try simp only [Option.bind_some, List.nil_append])
      rw [if_pos (by simp; omega)]
      (try simp only [Option.bind_some])
      rw [if_pos (by simp; omega), wrap_nat i (by omega), hins _ (fun x hx => by rw [List.getElem?_eq_getElem c] at hx; rw [← Option.some.inj hx]; exact c0) rfl]
  · rw [if_neg (by omega)]
    (try simp only [Option.bind_some])
    rw [if_pos (by omega), if_pos (by omega), Int.toNat_natCast, if_pos (by simp; omega), if_pos (by omega), if_pos (by omega), rdL_nat rows i hi, Copy_eq _ (by omega)]
    (try simp only [Option.bind_some, List.nil_append])
    rw [if_pos (by simp; omega)]
    (try simp only [Option.bind_some])
    rw [if_pos (by simp; omega), wrap_nat i (by omega), hins _ (fun x hx => by rw [List.getElem?_eq_none (by omega)] at hx; cases hx) rfl]

theorem Sort_l0 (rows : List (List Int)) (B : Nat) (hBr : ∀ x ∈ rows, x.length ≤ B) (hB1 : B < 17592186044416) (hr : rows.length < 5864062014804) (d : Nat) : ∀ (k i : Nat) (acc : List (List Int)), rows.length - i = d → i ≤ rows.length → acc.length ≤ i → (∀ x ∈ acc, x.length ≤ B) → d * (rows.length + 4) + 2 * B + 6 < k →
    arboristref01_Sort.l0 k rows acc (i : Int) = some ((rows.drop i).foldl (fun acc t => insU t acc) acc) := by
  induction d with
  | zero =>
    intro k i acc h1 h2 h3 h4 hk
    obtain ⟨k, rfl⟩ : ∃ m, k = m + 1 := ⟨k - 1, by omega⟩
    simp only [arboristref01_Sort.l0]
    rw [if_neg (by omega), List.drop_eq_nil_of_le (by omega)]
    rfl
  | succ d ih =>
    intro k i acc h1 h2 h3 h4 hk
    have hi : i < rows.length := by omega
    have hle := lessN_le rows[i] acc
    rw [Nat.add_mul, Nat.one_mul] at hk
    generalize hD : d * (rows.length + 4) = D at hk ih
    obtain ⟨k, rfl⟩ : ∃ m, k = (m + 1) + lessN rows[i] acc + 1 + 1 := ⟨k - lessN rows[i] acc - 3, by omega⟩
    simp only [arboristref01_Sort.l0]
    rw [if_pos (by omega)]
    have e1 := Sort_l1 rows acc i hi B h4 (by omega) (by omega) (by omega) (k + 1) (by omega) (lessN rows[i] acc) 0 (by omega) (by omega)
    rw [show ((0 : Nat) : Int) = 0 from rfl] at e1
    rw [e1, Sort_j2 rows acc i hi B h4 (hBr _ (List.getElem_mem hi)) hB1 (by omega) (by omega) k (by omega)]
    rw [ih k (i + 1) _ (by omega) (by omega) (by have := len_insU rows[i] acc; omega) (fun x hx => by
      rcases mem_insU.1 hx with e | e
      · rw [e]; exact hBr _ (List.getElem_mem hi)
      · exact h4 x e) (by omega), List.drop_eq_getElem_cons hi]
    rfl
theorem Sort_eq (rows : List (List Int)) (B : Nat) (hBr : ∀ x ∈ rows, x.length ≤ B) (hB1 : B < 17592186044416) (hr : rows.length < 5864062014804) : arboristref01_Sort.f (rows.length * (rows.length + 4) + 2 * B + 7) rows = some (sortU rows) := by
  have h := Sort_l0 rows B hBr hB1 hr rows.length (rows.length * (rows.length + 4) + 2 * B + 7) 0 [] (by omega) (by omega) (by simp) (by simp) (by omega)
  rw [show ((0 : Nat) : Int) = 0 from rfl] at h
  unfold arboristref01_Sort.f
  rw [h, ← sortF_eq]
  rfl

/-! #### what shape makes -/
def sch (x : List Int) : List Int := x.foldl (fun s n => uniteL s [cutI n 6]) []
def schemeL (x : List Int) : List Int := sch (x.take 3)
def rowAt (t : List Int) (q : Nat) : Int := if q < t.length then cutI (t.getD q 0) 3 else 0
def rowPre (sl : Nat) (t : List Int) (n : Nat) : List Int := (List.range sl).map fun q => if q < n then rowAt t q else 0
def rowL (sl : Nat) (t : List Int) : List Int := (List.range sl).map (rowAt t)
def rowsL (sl : Nat) (rows : List (List Int)) : List (List Int) := (rows.take 12).map (rowL sl)
def relL (p : S41) : S36 := ⟨schemeL p.f1, sortU (rowsL (schemeL p.f1).length p.f2)⟩
def parL (i : Nat) (p : S41) : Int := if i = 0 then -1 else cutI p.f0 i
def bagsOf (l : List S41) : List (List Int) := l.map fun p => schemeL p.f1
def parsOf (l : List S41) : List Int := l.mapIdx parL
def relsOf (l : List S41) : List S36 := l.map relL

theorem sch_snoc (x : List Int) (n : Int) : sch (x ++ [n]) = uniteL (sch x) [cutI n 6] := by simp [sch, List.foldl_append]
theorem len_uniteL (a b : List Int) : (uniteL a b).length ≤ a.length + b.length := by
  have := len_outL b a
  unfold uniteL
  rw [len_uniteM]
  omega
theorem sch_foldl_len (x : List Int) : ∀ s : List Int, (x.foldl (fun s n => uniteL s [cutI n 6]) s).length ≤ s.length + x.length := by
  induction x with
  | nil => simp
  | cons n x ih =>
    intro s
    have h1 := ih (uniteL s [cutI n 6])
    have h2 := len_uniteL s [cutI n 6]
    simp only [List.foldl_cons, List.length_cons, List.length_nil] at *
    omega
theorem sch_len (x : List Int) : (sch x).length ≤ x.length := by have := sch_foldl_len x []; simpa [sch] using this
theorem schemeL_len (x : List Int) : (schemeL x).length ≤ 3 := by have := sch_len (x.take 3); have := List.length_take_le 3 x; unfold schemeL; omega
theorem len_rowPre (sl : Nat) (t : List Int) (n : Nat) : (rowPre sl t n).length = sl := by simp [rowPre]
theorem rowPre_zero (sl : Nat) (t : List Int) : rowPre sl t 0 = List.replicate sl 0 := by
  apply List.ext_getElem
  · simp [rowPre]
  · intro i h1 h2; simp [rowPre]
theorem rowPre_step (sl : Nat) (t : List Int) (n : Nat) (h1 : n < sl) (h2 : n < t.length) : (rowPre sl t n).set n (cutI (t.getD n 0) 3) = rowPre sl t (n + 1) := by
  apply List.ext_getElem
  · simp [rowPre]
  · intro i g1 g2
    rw [List.getElem_set]
    by_cases e : n = i
    · subst e
      simp [rowPre, rowAt, h2]
    · rw [if_neg e]
      simp only [rowPre, List.getElem_map, List.getElem_range]
      by_cases c : i < n
      · rw [if_pos c, if_pos (by omega)]
      · rw [if_neg c, if_neg (by omega)]
theorem rowPre_done (sl : Nat) (t : List Int) (n : Nat) (h : sl ≤ n ∨ t.length ≤ n) : rowPre sl t n = rowL sl t := by
  unfold rowPre rowL
  apply List.map_congr_left
  intro q hq
  have hq := List.mem_range.1 hq
  by_cases c : q < n
  · rw [if_pos c]
  · rw [if_neg c]
    unfold rowAt
    rw [if_neg (by omega)]
theorem len_rowL (sl : Nat) (t : List Int) : (rowL sl t).length = sl := by simp [rowL]
theorem rowAt_range (t : List Int) (q : Nat) : 0 ≤ rowAt t q ∧ rowAt t q < 3 := by
  unfold rowAt
  split
  · exact cutI_range _ _ (by omega)
  · omega
theorem relL_good (p : S41) : RelGood (relL p) := by
  have h1 := schemeL_len p.f1
  have hm : ∀ t ∈ (relL p).f1, ∃ u, t = rowL (schemeL p.f1).length u := fun t ht => by
    have := mem_sortU.1 ht
    obtain ⟨u, _, rfl⟩ := List.mem_map.1 this
    exact ⟨u, rfl⟩
  refine ⟨?_, ?_, fun t ht => ?_, fun t ht n hn => ?_⟩
  · show (schemeL p.f1).length < _
    omega
  · have h2 := len_sortU (rowsL (schemeL p.f1).length p.f2)
    have h3 := List.length_take_le 12 p.f2
    show (sortU _).length < _
    have : (rowsL (schemeL p.f1).length p.f2).length = (p.f2.take 12).length := by simp [rowsL]
    omega
  · obtain ⟨u, rfl⟩ := hm t ht
    rw [len_rowL]
    omega
  · obtain ⟨u, rfl⟩ := hm t ht
    obtain ⟨q, _, rfl⟩ := List.mem_map.1 hn
    have := rowAt_range u q
    exact ⟨by omega, by omega⟩
theorem parsOf_snoc (l : List S41) (p : S41) : parsOf (l ++ [p]) = parsOf l ++ [parL l.length p] := by
  unfold parsOf
  rw [List.mapIdx_append]
  simp
theorem parsOf_len (l : List S41) : (parsOf l).length = l.length := by simp [parsOf]
theorem parsOf_good (l : List S41) : GoodPar (parsOf l) := by
  intro i p hp
  unfold parsOf at hp
  rw [List.getElem?_mapIdx] at hp
  obtain ⟨x, _, rfl⟩ := Option.map_eq_some_iff.1 hp
  unfold parL
  by_cases c : i = 0
  · rw [if_pos c, if_pos c]
  · rw [if_neg c, if_neg c]
    exact cutI_range _ _ (by omega)

end Go.Proofs.YtgejnljpdfjgpaaDoor.Q
/- What law16's shape collects, in memory: the bags, the parents, the relations; a bag and its relation's scheme are one row. -/
namespace Go.Proofs.YtgejnljpdfjgpaaDoor.Q
open Go.RowKit Go.Proofs Go.Proofs.YtgejnljpdfjgpaaDoorW.PrintWords Go.Proofs.YtgejnljpdfjgpaaDoorW.PrintLast Go.Proofs.YtgejnljpdfjgpaaDoorW.PrintMore
set_option linter.unusedVariables false
set_option linter.unusedSimpArgs false

def ElR (W : World) (p : El) : Prop := ∃ A c, p.1 = .slice A p.2.length c ∧ p.2.length ≤ c ∧ (Kd.int .i64).C W A p.2.length p.2
def RowsR (W : World) (v : Value) (rows : List (List Int)) : Prop := ∃ A c, v = .slice A rows.length c ∧ rows.length ≤ c ∧ (Kd.slice 3 (Kd.int .i64)).C W A rows.length rows
abbrev RelV := Value × Value × S36
def RelR (W : World) (r : RelV) : Prop := ElR W (r.1, r.2.2.f0) ∧ RowsR W r.2.1 r.2.2.f1
def LeadsR (W : World) (bs : List El) (rs : List RelV) : Prop := (∀ p ∈ bs, ElR W p) ∧ ∀ r ∈ rs, RelR W r
def relCells (rs : List RelV) : List Value := rs.flatMap fun r => [r.1, r.2.1]
/-- It hangs on these blocks alone. -/
def OnBlocks (W : World) (X : Nat → Prop) (P : World → Prop) : Prop := ∀ W', (∀ k, X k → W'.heap[k]? = W.heap[k]?) → P W'

theorem OnBlocks.below {W W' : World} {X : Nat → Prop} {P : World → Prop} (h : OnBlocks W X P) (hX : ∀ k, X k → k < W.heap.size) (hb : Below W.heap.size W W') : OnBlocks W' X P := fun W2 hW => h W2 (fun k hk => (hW k hk).trans (hb.block k (hX k hk)))
theorem OwnEl.onBlocks {W : World} {base : Nat} {p : El} (h : OwnEl W base p) : OnBlocks W (fun k => p.1.ownBlock = some k) (fun W' => ElR W' p) := fun W' hW => by
  have h2 : OwnEl W' base p := Kd.R_move h (fun k hk => hW k hk.symm)
  obtain ⟨A, c, e, l, g⟩ := h2.reads
  exact ⟨A, c, e, l, g⟩
theorem rows_onBlocks {W : World} {base b : Nat} {v : Value} {rows : List (List Int)} (h : Kd.N (Kd.slice 3 (Kd.int .i64)) 25 W base (fun k => b ≤ k) v rows) : OnBlocks W (fun k => b ≤ k ∧ k < W.heap.size) (fun W' => RowsR W' v rows) := fun W' hW => by
  have h2 := Kd.N_step (w1 := W') h (fun k hk hl => hW k ⟨hk, hl⟩)
  obtain ⟨A, c, e, l, g⟩ := Kd.N_reads h2
  exact ⟨A, c, e, l, g⟩

structure ShapeAt (W : World) (base : Nat) (T : Nat → Prop) (vb vp vo : Value) (bs : List El) (par : List Int) (rs : List RelV) : Prop where
  lead : ∃ X : Nat → Prop, (∀ k, X k → k < W.heap.size ∧ ¬ T k ∧ vb.ownBlock ≠ some k ∧ vp.ownBlock ≠ some k ∧ vo.ownBlock ≠ some k) ∧ OnBlocks W X (fun W' => LeadsR W' bs rs)
  bag : W.ownsRow base 25 1 vb bs.length (bs.map (·.1))
  par : W.ownsRow base 3 1 vp par.length (par.map (Value.int .i64))
  rel : W.ownsRow base 36 2 vo rs.length (relCells rs)

theorem ShapeAt.start (W : World) (base : Nat) (T : Nat → Prop) : ShapeAt W base T (.slice none 0 0) (.slice none 0 0) (.slice none 0 0) [] [] [] :=
  ⟨⟨fun _ => False, fun _ h => h.elim, fun W' _ => ⟨fun p h => absurd h (List.not_mem_nil), fun p h => absurd h (List.not_mem_nil)⟩⟩, World.ownsRow_nil _ _ _ _, World.ownsRow_nil _ _ _ _, World.ownsRow_nil _ _ _ _⟩

section
variable {W W' W1 : World} {base : Nat} {T T' : Nat → Prop} {vb vp vo : Value} {bs : List El} {par : List Int} {rs : List RelV}
theorem ShapeAt.mono (h : ShapeAt W base T vb vp vo bs par rs) (hT : ∀ k, T' k → T k) : ShapeAt W base T' vb vp vo bs par rs := by
  obtain ⟨X, h1, h2⟩ := h.lead
  exact ⟨⟨X, fun k hk => ⟨(h1 k hk).1, fun ht => (h1 k hk).2.1 (hT k ht), (h1 k hk).2.2⟩, h2⟩, h.bag, h.par, h.rel⟩
theorem ShapeAt.below (h : ShapeAt W base T vb vp vo bs par rs) (hb : Below W.heap.size W W') : ShapeAt W' base T vb vp vo bs par rs := by
  obtain ⟨X, h1, h2⟩ := h.lead
  exact ⟨⟨X, fun k hk => ⟨Nat.lt_of_lt_of_le (h1 k hk).1 hb.size, (h1 k hk).2⟩, fun W2 hW => h2 W2 (fun k hk => (hW k hk).trans (hb.block k (h1 k hk).1))⟩, pw_own_below h.bag hb, pw_own_below h.par hb, pw_own_below h.rel hb⟩
/-- A store into a block that is shut out. -/
theorem ShapeAt.away (h : ShapeAt W base T vb vp vo bs par rs) {tb t : Nat} {cs : Array Value} (hT : T tb) (hb : W.heap[tb]? = some (.cells cs t (0, 0))) (h1 : t ≠ 25) (h2 : t ≠ 3) (h3 : t ≠ 36) (hg : W.grownBy W' (some tb)) : ShapeAt W' base T vb vp vo bs par rs := by
  have hne : ∀ {e s n : Nat} {v : Value} {xs : List Value}, W.ownsRow base e s v n xs → t ≠ e → v.ownBlock = none ∨ v.ownBlock ≠ some tb := fun ho ht => .inr fun e => by
    obtain ⟨cl, hcl⟩ := own_typed ho tb e
    rw [hb] at hcl
    injection hcl with hcl
    injection hcl with _ hcl
    exact ht hcl
  obtain ⟨X, x1, x2⟩ := h.lead
  refine ⟨⟨X, fun k hk => ⟨Nat.lt_of_lt_of_le (x1 k hk).1 hg.size, (x1 k hk).2⟩, fun W2 hW => x2 W2 (fun k hk => (hW k hk).trans (hg.block k (x1 k hk).1 (fun e => ?_)))⟩, own_other h.bag hg (hne h.bag h1), own_other h.par hg (hne h.par h2), own_other h.rel hg (hne h.rel h3)⟩
  injection e with e
  subst e
  exact (x1 _ hk).2.1 hT
theorem hat_ne {v : Value} {g H k n : Nat} (hat : v.ownBlock = some g ∨ g = H) (hH : n ≤ H) (hk : k < n) (hv : v.ownBlock ≠ some k) : (some g : Option Nat) ≠ some k := fun e => by
  injection e with e
  subst e
  rcases hat with h | h
  · exact hv h
  · omega
theorem ShapeAt.pushBag (h : ShapeAt W base T vb vp vo bs par rs) {b : Nat} {p : El} (hp : OwnEl W b p) (hps : ∀ k, p.1.ownBlock = some k → ¬ T k ∧ vb.ownBlock ≠ some k ∧ vp.ownBlock ≠ some k ∧ vo.ownBlock ≠ some k) {g n cap H : Nat}
    (ho : W1.ownsRow base 25 1 (.slice (some ⟨g, 0, none⟩) n cap) (bs.length + 1) (bs.map (·.1) ++ [p.1])) (hg : W.grownBy W1 vb.ownBlock) (hat : vb.ownBlock = some g ∨ g = H) (hH : W.heap.size ≤ H) :
    ShapeAt W1 base T (.slice (some ⟨g, 0, none⟩) n cap) vp vo (bs ++ [p]) par rs := by
  obtain ⟨X, x1, x2⟩ := h.lead
  refine ⟨⟨fun k => X k ∨ p.1.ownBlock = some k, fun k hk => ?_, fun W2 hW => ?_⟩, by simpa using ho, own_other h.par hg (own_type_ne h.par h.bag (by decide)), own_other h.rel hg (own_type_ne h.rel h.bag (by decide))⟩
  · rcases hk with hk | hk
    · exact ⟨Nat.lt_of_lt_of_le (x1 k hk).1 hg.size, (x1 k hk).2.1, hat_ne hat hH (x1 k hk).1 (x1 k hk).2.2.1, (x1 k hk).2.2.2⟩
    · exact ⟨Nat.lt_of_lt_of_le (hp.lt hk) hg.size, (hps k hk).1, hat_ne hat hH (hp.lt hk) (hps k hk).2.1, (hps k hk).2.2⟩
  · have e1 : ∀ k, X k → W2.heap[k]? = W.heap[k]? := fun k hk => (hW k (.inl hk)).trans (hg.block k (x1 k hk).1 (fun e => (x1 k hk).2.2.1 e.symm))
    have e2 : ∀ k, p.1.ownBlock = some k → W2.heap[k]? = W.heap[k]? := fun k hk => (hW k (.inr hk)).trans (hg.block k (hp.lt hk) (fun e => (hps k hk).2.1 e.symm))
    obtain ⟨l1, l2⟩ := x2 W2 e1
    refine ⟨fun q hq => ?_, l2⟩
    rcases List.mem_append.1 hq with hq | hq
    · exact l1 q hq
    · rw [List.mem_singleton.1 hq]; exact hp.onBlocks W2 e2
theorem ShapeAt.pushPar (h : ShapeAt W base T vb vp vo bs par rs) {x : Int} {g n cap H : Nat}
    (ho : W1.ownsRow base 3 1 (.slice (some ⟨g, 0, none⟩) n cap) (par.length + 1) (par.map (Value.int .i64) ++ [.int .i64 x])) (hg : W.grownBy W1 vp.ownBlock) (hat : vp.ownBlock = some g ∨ g = H) (hH : W.heap.size ≤ H) :
    ShapeAt W1 base T vb (.slice (some ⟨g, 0, none⟩) n cap) vo bs (par ++ [x]) rs := by
  obtain ⟨X, x1, x2⟩ := h.lead
  refine ⟨⟨X, fun k hk => ⟨Nat.lt_of_lt_of_le (x1 k hk).1 hg.size, (x1 k hk).2.1, (x1 k hk).2.2.1, hat_ne hat hH (x1 k hk).1 (x1 k hk).2.2.2.1, (x1 k hk).2.2.2.2⟩, fun W2 hW => x2 W2 (fun k hk => (hW k hk).trans (hg.block k (x1 k hk).1 (fun e => (x1 k hk).2.2.2.1 e.symm)))⟩, own_other h.bag hg (own_type_ne h.bag h.par (by decide)), by simpa using ho, own_other h.rel hg (own_type_ne h.rel h.par (by decide))⟩
theorem ShapeAt.pushRel (h : ShapeAt W base T vb vp vo bs par rs) {b : Nat} {r : RelV} (hp : OwnEl W b (r.1, r.2.2.f0)) (hps : ∀ k, r.1.ownBlock = some k → ¬ T k ∧ vb.ownBlock ≠ some k ∧ vp.ownBlock ≠ some k ∧ vo.ownBlock ≠ some k) {Y : Nat → Prop} (hY : OnBlocks W Y (fun W' => RowsR W' r.2.1 r.2.2.f1))
    (hYs : ∀ k, Y k → k < W.heap.size ∧ ¬ T k ∧ vb.ownBlock ≠ some k ∧ vp.ownBlock ≠ some k ∧ vo.ownBlock ≠ some k) {g n cap H : Nat}
    (ho : W1.ownsRow base 36 2 (.slice (some ⟨g, 0, none⟩) n cap) (rs.length + 1) (relCells rs ++ [r.1, r.2.1])) (hg : W.grownBy W1 vo.ownBlock) (hat : vo.ownBlock = some g ∨ g = H) (hH : W.heap.size ≤ H) :
    ShapeAt W1 base T vb vp (.slice (some ⟨g, 0, none⟩) n cap) bs par (rs ++ [r]) := by
  obtain ⟨X, x1, x2⟩ := h.lead
  refine ⟨⟨fun k => X k ∨ r.1.ownBlock = some k ∨ Y k, fun k hk => ?_, fun W2 hW => ?_⟩, own_other h.bag hg (own_type_ne h.bag h.rel (by decide)), own_other h.par hg (own_type_ne h.par h.rel (by decide)), by simpa [relCells] using ho⟩
  · rcases hk with hk | hk | hk
    · exact ⟨Nat.lt_of_lt_of_le (x1 k hk).1 hg.size, (x1 k hk).2.1, (x1 k hk).2.2.1, (x1 k hk).2.2.2.1, hat_ne hat hH (x1 k hk).1 (x1 k hk).2.2.2.2⟩
    · exact ⟨Nat.lt_of_lt_of_le (hp.lt hk) hg.size, (hps k hk).1, (hps k hk).2.1, (hps k hk).2.2.1, hat_ne hat hH (hp.lt hk) (hps k hk).2.2.2⟩
    · exact ⟨Nat.lt_of_lt_of_le (hYs k hk).1 hg.size, (hYs k hk).2.1, (hYs k hk).2.2.1, (hYs k hk).2.2.2.1, hat_ne hat hH (hYs k hk).1 (hYs k hk).2.2.2.2⟩
  · have e1 : ∀ k, X k → W2.heap[k]? = W.heap[k]? := fun k hk => (hW k (.inl hk)).trans (hg.block k (x1 k hk).1 (fun e => (x1 k hk).2.2.2.2 e.symm))
    have e2 : ∀ k, r.1.ownBlock = some k → W2.heap[k]? = W.heap[k]? := fun k hk => (hW k (.inr (.inl hk))).trans (hg.block k (hp.lt hk) (fun e => (hps k hk).2.2.2 e.symm))
    have e3 : ∀ k, Y k → W2.heap[k]? = W.heap[k]? := fun k hk => (hW k (.inr (.inr hk))).trans (hg.block k (hYs k hk).1 (fun e => (hYs k hk).2.2.2.2 e.symm))
    obtain ⟨l1, l2⟩ := x2 W2 e1
    refine ⟨l1, fun q hq => ?_⟩
    rcases List.mem_append.1 hq with hq | hq
    · exact l2 q hq
    · rw [List.mem_singleton.1 hq]; exact ⟨hp.onBlocks W2 e2, hY W2 e3⟩

theorem relCells_get (rs : List RelV) : ∀ (j : Nat) (r : RelV), rs[j]? = some r → (relCells rs)[j * 2]? = some r.1 ∧ (relCells rs)[j * 2 + 1]? = some r.2.1 := by
  induction rs with
  | nil => intro j r h; simp at h
  | cons q rs ih =>
    intro j r h
    cases j with
    | zero =>
      obtain rfl : q = r := by simpa using h
      exact ⟨rfl, rfl⟩
    | succ j =>
      have := ih j r (by simpa using h)
      have e : relCells (q :: rs) = q.1 :: q.2.1 :: relCells rs := rfl
      rw [e, show (j + 1) * 2 = j * 2 + 1 + 1 by omega]
      exact this
theorem ShapeAt.lead_now (h : ShapeAt W base T vb vp vo bs par rs) : LeadsR W bs rs := by
  obtain ⟨X, _, x2⟩ := h.lead
  exact x2 W (fun _ _ => rfl)
theorem own_cell {e size n : Nat} {g m cap : Nat} {xs : List Value} (ho : W.ownsRow base e size (.slice (some ⟨g, 0, none⟩) m cap) n xs) {j : Nat} {u : Value} (hu : xs[j]? = some u) : W.cell? ⟨g, j, none⟩ = some u ∧ W.frozen? ⟨g, j, none⟩ = false := by
  rcases ho.2 with ⟨e, _⟩ | ⟨g', c', cur, e, _, hb, _, _, _, htk⟩
  · cases e
  · injection e with e _ _
    injection e with e
    injection e with e
    subst e
    refine ⟨(blk_cell hb _).trans ?_, blk_frozen hb _⟩
    rw [← htk] at hu
    rw [List.getElem?_take] at hu
    split at hu
    · rw [← Array.getElem?_toList]; exact hu
    · cases hu
theorem ShapeAt.bags (h : ShapeAt W base T vb vp vo bs par rs) (hn : bs.length ≤ maxLen) : ∃ A c, vb = .slice A bs.length c ∧ bs.length ≤ c ∧ (Kd.slice 3 (Kd.int .i64)).C W A bs.length (bs.map (·.2)) := by
  obtain ⟨A, c, e⟩ := own_slice h.bag
  have hb := h.bag
  rw [e] at hb
  refine ⟨A, c, e, own_le hb, by simp, hn, fun hpos => ?_⟩
  rcases hb.2 with ⟨e2, h0⟩ | ⟨g, cap, cur, e2, _⟩
  · omega
  · injection e2 with e2 _ e3
    subst e2
    refine ⟨⟨g, 0, none⟩, rfl, fun j p hp => ?_⟩
    rw [List.getElem?_map] at hp
    obtain ⟨q, hq, rfl⟩ := Option.map_eq_some_iff.1 hp
    obtain ⟨A1, c1, e1, l1, g1⟩ := h.lead_now.1 q (List.mem_of_getElem? hq)
    refine ⟨[q.1], rfl, ⟨A1, c1, by rw [e1], l1, g1⟩, fun i u hu => ?_⟩
    have hsz : (Kd.slice 3 (Kd.int .i64)).sz = 1 := rfl
    match i, hu with
    | 0, hu =>
      simp at hu
      subst hu
      rw [hsz, add0]
      exact (own_cell hb (j := j * 1 + 0) (by rw [Nat.mul_one, Nat.add_zero, List.getElem?_map, hq]; rfl)).1
    | n + 1, hu => simp at hu
theorem ShapeAt.pars (h : ShapeAt W base T vb vp vo bs par rs) : ∃ A c, vp = .slice A par.length c ∧ par.length ≤ c ∧ (Kd.int .i64).C W A par.length par :=
  Kd.R_reads (Kd.R_of_own (enc := Value.int .i64) (ok := fun _ => True) h.par (fun _ _ => trivial))
theorem ShapeAt.rels (h : ShapeAt W base T vb vp vo bs par rs) (hn : rs.length ≤ maxLen) : ∃ A c, vo = .slice A rs.length c ∧ rs.length ≤ c ∧ k36.C W A rs.length (rs.map (·.2.2)) := by
  obtain ⟨A, c, e⟩ := own_slice h.rel
  have hb := h.rel
  rw [e] at hb
  refine ⟨A, c, e, own_le hb, by simp, hn, fun hpos => ?_⟩
  rcases hb.2 with ⟨e2, h0⟩ | ⟨g, cap, cur, e2, _⟩
  · omega
  · injection e2 with e2 _ e3
    subst e2
    refine ⟨⟨g, 0, none⟩, rfl, fun j p hp => ?_⟩
    rw [List.getElem?_map] at hp
    obtain ⟨q, hq, rfl⟩ := Option.map_eq_some_iff.1 hp
    obtain ⟨⟨A1, c1, e1, l1, g1⟩, ⟨A2, c2, e2, l2, g2⟩⟩ := h.lead_now.2 q (List.mem_of_getElem? hq)
    obtain ⟨k1, k2⟩ := relCells_get rs j q hq
    refine ⟨[q.1, q.2.1], rfl, ?_, fun i u hu => ?_⟩
    · have e1 : q.1 = .slice A1 q.2.2.f0.length c1 := e1
      rw [e1, e2]
      exact k36_mk W q.2.2 l1 g1 l2 g2
    · have hsz : k36.sz = 2 := rfl
      rw [hsz]
      match i, hu with
      | 0, hu => simp at hu; subst hu; rw [add0]; exact (own_cell hb k1).1
      | 1, hu => simp at hu; subst hu; rw [add0]; exact (own_cell hb k2).1
      | n + 2, hu => simp at hu
/-- A relation's rows are struck. -/
theorem ShapeAt.strike (h : ShapeAt W base T vb vp vo bs par rs) {g n cap j : Nat} {r : RelV} (hv : vo = .slice (some ⟨g, 0, none⟩) n cap) (hj : rs[j]? = some r) :
    ShapeAt (W.setCell ⟨g, j * 2 + 1, none⟩ (.slice none 0 0)) base T vb vp vo bs par (rs.set j (r.1, .slice none 0 0, ⟨r.2.2.f0, []⟩)) := by
  subst hv
  have hg := grown_setCell W g (j * 2 + 1) (.slice none 0 0)
  have hg2 : W.grownBy (W.setCell ⟨g, j * 2 + 1, none⟩ (.slice none 0 0)) (Value.slice (some ⟨g, 0, none⟩) n cap).ownBlock := hg
  obtain ⟨X, x1, x2⟩ := h.lead
  obtain ⟨hjl, hjr⟩ := List.getElem?_eq_some_iff.1 hj
  refine ⟨⟨X, fun k hk => ⟨Nat.lt_of_lt_of_le (x1 k hk).1 hg.size, (x1 k hk).2⟩, fun W2 hW => ?_⟩, own_other h.bag hg2 (own_type_ne h.bag h.rel (by decide)), own_other h.par hg2 (own_type_ne h.par h.rel (by decide)), ?_⟩
  · obtain ⟨l1, l2⟩ := x2 W2 (fun k hk => (hW k hk).trans (hg.block k (x1 k hk).1 (fun e => (x1 k hk).2.2.2.2 e.symm)))
    refine ⟨l1, fun q hq => ?_⟩
    rcases List.mem_or_eq_of_mem_set hq with hq | rfl
    · exact l2 q hq
    · exact ⟨(l2 r (List.mem_of_getElem? hj)).1, none, 0, rfl, Nat.le_refl _, Kd.C_nil _ _⟩
  · have hr := h.rel
    rcases hr.2 with ⟨e, _⟩ | ⟨g', c', cur, e, hge, hb, hl1, hl2, hsz, htk⟩
    · cases e
    · injection e with e e2 e3
      injection e with e
      injection e with e
      subst e e3
      refine ⟨?_, .inr ⟨g, cap, cur.setIfInBounds (j * 2 + 1) (.slice none 0 0), by rw [e2]; simp, hge, blk_set hb _ _, by simpa using hl1, hl2, by simpa using hsz, ?_⟩⟩
      · have : ∀ l : List RelV, (relCells l).length = l.length * 2 := fun l => by
          induction l with
          | nil => rfl
          | cons q l ih => show (relCells l).length + 1 + 1 = _; rw [ih, List.length_cons]; omega
        rw [this]
      · rw [List.length_set, Array.toList_setIfInBounds, List.take_set, htk]
        have : ∀ (l : List RelV) (j : Nat) (r q : RelV), l[j]? = some r → q.1 = r.1 → (relCells l).set (j * 2 + 1) q.2.1 = relCells (l.set j q) := by
          intro l
          induction l with
          | nil => intro j r q h; simp at h
          | cons a l ih =>
            intro j r q h he
            have e : relCells (a :: l) = a.1 :: a.2.1 :: relCells l := rfl
            cases j with
            | zero =>
              obtain rfl : a = r := by simpa using h
              rw [e]
              show _ = q.1 :: q.2.1 :: relCells l
              rw [he]
              rfl
            | succ j =>
              rw [e, show (j + 1) * 2 + 1 = (j * 2 + 1) + 1 + 1 by omega]
              simp only [List.set_cons_succ]
              rw [ih j r q (by simpa using h) he]
              rfl
        exact this rs j r (r.1, .slice none 0 0, ⟨r.2.2.f0, []⟩) hj rfl
end

end Go.Proofs.YtgejnljpdfjgpaaDoor.Q
/- slices.Sorted(slices.Values(l)) at a row of numbers: a row of the call's own, the numbers in order; nil just where there are none. Its conditions: the row is read at the call; its size. -/
namespace Go.Proofs.YtgejnljpdfjgpaaDoor.Q
open Go.RowKit Go.Proofs Go.Shelf Go.Sort Go.Lib Go.Proofs.YtgejnljpdfjgpaaDoorW.PrintWords Go.Proofs.YtgejnljpdfjgpaaDoorW.PrintLast Go.Proofs.YtgejnljpdfjgpaaDoorW.PrintMore
set_option linter.unusedVariables false
set_option linter.unusedSimpArgs false
attribute [local go_sem] Oper.semAt_some

theorem at_int {w : World} {A : Option Addr} {n : Nat} {xs : List Int} (h : Kd.C (Kd.int .i64) w A n xs) (i : Nat) (hi : i < xs.length) : ∃ ad, A = some ad ∧ w.cell? (ad.add i) = some (.int .i64 (xs.getD i 0)) := by
  have hn := Kd.C_len h
  obtain ⟨ad, c, e, _, hK, hc0⟩ := Kd.C_get h (0 : Int) (i : Int) (by omega) (by omega)
  rw [Int.toNat_natCast] at hK hc0
  have hK : c = [.int .i64 (xs.getD i 0)] := hK
  subst hK
  refine ⟨ad, e, ?_⟩
  have := hc0 0 _ rfl
  simpa [Kd.int, Kd.scalar] using this
theorem info_int : (Tryd.prog.info? 3).map (fun i => (i.zero, i.size, i.bytes)) = some (some (.int .i64 0), 1, 8) := by kernel_rfl

set_option maxRecDepth 100000 in
set_option maxHeartbeats 2000000 in
theorem vals1_in (n : Nat) (hn : 1 ≤ n) (l Bs : Nat) (A0 : Option Addr) (c0 : Nat) (zs : List Int) (w0 : World) (hC : Kd.C (Kd.int .i64) w0 A0 zs.length zs) (hbox : w0.cell? ⟨Bs, 0, none⟩ = some (.slice A0 zs.length c0)) (J Jx : List Int → World → Prop)
    (hY : ∀ pre x W, J pre W → pre.length < zs.length → YieldAt Fence.wide (n - 1) Tryd.prog l #[.int .i64 x] W fun e W' => (e = .returned (.bool true) ∧ J (pre ++ [x]) W' ∧ Below w0.heap.size W W') ∨ (e = .returned (.bool false) ∧ Jx (pre ++ [x]) W'))
    (W : World) (hW : Below w0.heap.size w0 W) (h0 : J [] W) :
    CallsIn Fence.wide n Tryd.prog 48 #[.func (.yield l) #[] #[], .pointer (some ⟨Bs, 0, none⟩)] W fun e W' => (∃ v, e = .returned v) ∧ ((∃ ys, ys = zs ∧ J ys W') ∨ (∃ pre, pre <+: zs ∧ Jx pre W')) := by
  have hmax : zs.length ≤ maxLen := Kd.C_max hC
  unfold maxLen at hmax
  have hbx := (hW.cell (p := ⟨Bs, 0, none⟩) (World.block_lt_of_cell? w0 _ hbox)).trans hbox
  have HC := Aside0.mk hC
  have HY := Aside0.mk hY
  have HW := Aside0.mk hW
  clear hC hY hW hbox
  refine callsIn_of_wp Tryd.func48 rfl trivial ?_ rfl
  simp only [Tryd.ntmps48, List.size_toArray, List.length_cons, List.length_nil, Nat.reduceAdd, Nat.reduceSub, Array.replicate_succ, Array.replicate_zero, List.push_toArray, List.append_toArray, List.nil_append, List.cons_append]
  gi_wp2
  gi_loopw [7] (fun i wr => ∃ k : Nat, k ≤ zs.length ∧ i = .int .i64 k ∧ J (zs.take k) wr ∧ Aside0 (Below w0.heap.size w0 wr)) (fun i _ => zs.length - (intOf i).toNat)
  case atStart => exact ⟨0, Nat.zero_le _, rfl, h0, HW⟩
  case round =>
    clear h0 hbx
    obtain ⟨k, hk, rfl, hJs, HB⟩ := hrel
    by_cases hlt : k < zs.length
    · obtain ⟨ad, e, hx⟩ := at_int (Kd.C_below HC.out HB.out) k hlt
      subst e
      have HTK := Aside0.mk (show zs.take (k + 1) = zs.take k ++ [zs.getD k 0] from by rw [List.take_succ_eq_append_getElem hlt, List.getD_eq_getElem?_getD, List.getElem?_eq_getElem hlt]; rfl)
      generalize zs.getD k 0 = x at hx HTK
      have HPL := Aside0.mk (show (zs.take k).length < zs.length by rw [List.length_take]; omega)
      obtain ⟨fn, tmps, assign, body, hy, hR⟩ := HY.out _ x wr hJs HPL.out
      have hd : decide ((k : Int) < (zs.length : Int)) = true := decide_eq_true (by omega)
      have hd2 : decide (k < zs.length) = true := decide_eq_true hlt
      gi_wp2
      refine hR.mono ?_
      rintro e W3 (⟨rfl, hJ3, hk3⟩ | ⟨rfl, hJx3⟩)
      · have HB3 := Aside0.mk (HB.out.trans hk3)
        clear hk3
        gi_wp2
        go_roundw
        case rel => exact ⟨k + 1, by omega, by simp, by rw [HTK.out]; exact hJ3, HB3⟩
        case measure => simp [intOf]; omega
      · gi_wp2
        refine bodyPost_ret (results_none rfl _ _ _) rfl ?_
        exact ⟨⟨_, rfl⟩, .inr ⟨_, by rw [← HTK.out]; exact List.take_prefix _ _, hJx3⟩⟩
    · obtain rfl : k = zs.length := by omega
      have hd2 : decide (zs.length < zs.length) = false := decide_eq_false (by omega)
      gi_wp2
      go_end0
      exact ⟨⟨_, rfl⟩, .inl ⟨_, List.take_length, hJs⟩⟩

set_option maxRecDepth 100000 in
set_option maxHeartbeats 2000000 in
theorem appendSeq_vals (n : Nat) (hn : 3 ≤ n) (Bs : Nat) (A0 : Option Addr) (c0 : Nat) (zs : List Int) (w : World) (hl : zs.length < 17592186044416) (hC : Kd.C (Kd.int .i64) w A0 zs.length zs) (hbox : w.cell? ⟨Bs, 0, none⟩ = some (.slice A0 zs.length c0)) :
    CallsIn Fence.wide n Tryd.prog 52 #[.slice none 0 0, .func (.func 48) #[] #[.pointer (some ⟨Bs, 0, none⟩)]] w fun e W' => ∃ v, e = .returned v ∧ W'.ownsRow w.heap.size 3 1 v zs.length (zs.map (Value.int .i64)) ∧ (v = .slice none 0 0 ↔ zs = []) ∧ Below w.heap.size w W' := by
  have h1 : 1 ≤ n := by omega
  obtain ⟨i0, hi, hz0, hz1, hz2⟩ := info_parts info_int
  have hstops : SeqStopsK Fence.wide (n - 1) Tryd.prog 48 #[.pointer (some ⟨Bs, 0, none⟩)] (fun x : Int => #[Value.int .i64 x]) (Below w.heap.size) (fun ys => ys = zs) (fun pre => pre <+: zs) zs.length w :=
    fun l J Jx W hW _ _ hY h0 => vals1_in (n - 1) (by omega) l Bs A0 c0 zs w hC hbox J Jx hY W hW h0
  have HL := Aside0.mk hl
  have HST := Aside0.mk hstops
  clear hstops hC hbox hl
  refine callsIn_of_wp_marks Tryd.func52 rfl trivial ?_ rfl
  simp only [Tryd.ntmps52, List.size_toArray, List.length_cons, List.length_nil, Nat.reduceAdd, Nat.reduceSub, Array.replicate_succ, Array.replicate_zero, List.push_toArray, List.append_toArray, List.nil_append, List.cons_append]
  gi_wp2
  have bO := Boxed.new w 25 (.slice none 0 0)
  have hB0 : Below w.heap.size w (w.alloc (.cells #[.slice none 0 0] 25)) := (Below.refl _ w).alloc (Nat.le_refl _) _
  refine wpIn_rangeFunc_ownG rfl h1 (gf := 48) (lb := #[.pointer (some ⟨Bs, 0, none⟩)]) rfl trivial (enters_of Tryd.func48 (by kernel_rfl) rfl)
    HST.out belowK_t (belowK_b (by simp)) hB0 (fun _ => rfl)
    (fun pre W => (∃ v, Boxed W w.heap.size 25 v ∧ W.ownsRow w.heap.size 3 1 v pre.length (pre.map (Value.int .i64)) ∧ (v = .slice none 0 0 ↔ pre = [])) ∧ Below w.heap.size w W)
    (fun _ _ _ => False)
    (OwnFrom.and (Own.from (holdsRow_own w.heap.size w.heap.size 25 3 1 (fun pre => pre.length) (fun pre => pre.map (Value.int .i64)) (fun pre v => v = .slice none 0 0 ↔ pre = [])) _) (ownFrom_below (Nat.le_refl _) (by simp)))
    (fun _ _ _ _ _ hs _ _ => hs)
    ⟨⟨_, bO, World.ownsRow_nil _ _ _ _, by simp⟩, hB0⟩
    (fun x => { tmps := #[.slice none 0 0, .func (.func 48) #[] #[.pointer (some ⟨Bs, 0, none⟩)], .pointer (some ⟨w.heap.size, 0, none⟩), undef, .slice none 0 0, .int .i64 x, .func (.func 48) #[] #[.pointer (some ⟨Bs, 0, none⟩)], .int .i64 x, undef, undef, undef, undef, undef], defers := [] }) ?assign ?body ?done ?stop
  case assign =>
    intro l x W K hK
    gi_wp2
    exact hK
  case body =>
    rintro l pre x W ⟨⟨v, hv, hrow, hnil⟩, hB⟩ hlt
    have hc := hv.cell
    have hl := HL.out
    have HNIL := Aside0.mk hnil
    clear hnil
    gi_wp2_with (gi_at_builtin; refine wpListIn_append_own _ rfl _ _ 25 rfl w.heap.size 3 i0 (.int .i64 0) 1 8 Tryd.underlying25 hi hz0 hz1 hz2 rfl (by decide) _ _ _ rfl (hrow.alloc _) ⟨W.heap.size, 0, none⟩ 1 1 [.int .i64 x] rfl rfl (cell_one_new _ _ _) (by simp [Value.oneCell']) (by unfold maxLen; omega) (by omega) (by have := hB.size; simp; omega) ?_; intro v' w1 hown' hgrow _; obtain ⟨g', cap', rfl⟩ := ownsRow_succ hown'; obtain ⟨hv1, hv2, hr2, hk2, hb2⟩ := hv.appended (by decide) hrow hB.size (Nat.le_refl _) hown' hgrow; have hc1 := hv1.cell; have hf1 := hv1.frozen)
    exact ⟨hk2.from _, hb2, ⟨_, hv2, by simpa using hr2, by simp⟩, hB.trans hb2⟩
  case done =>
    rintro D ys W hD rfl ⟨⟨v, hv, hrow, hnil⟩, hB⟩ hK
    have hc := hv.cell
    gi_wp2
    refine ⟨by simp, .inl ⟨_, _, rfl, run_takeDeferred hK, ?_⟩⟩
    exact ⟨_, results_tmp rfl _ _ _, v, rfl, ownsRow_putObj hrow _ hK rfl, hnil, hB.trans (belowK_b (w := w) (Nat.le_refl _) W D _ _ (by simp at hD; omega) hK rfl rfl)⟩
  case stop =>
    rintro D c pre W _ _ h _
    exact h.elim

set_option maxHeartbeats 1000000 in
theorem slices_Collect.calls (Bs : Nat) (A0 : Option Addr) (c0 : Nat) (zs : List Int) (w : World) (hl : zs.length < 17592186044416) (hC : Kd.C (Kd.int .i64) w A0 zs.length zs) (hbox : w.cell? ⟨Bs, 0, none⟩ = some (.slice A0 zs.length c0)) :
    Calls Tryd.prog 46 #[.func (.func 48) #[] #[.pointer (some ⟨Bs, 0, none⟩)]] w fun e W' => ∃ v, e = .returned v ∧ W'.ownsRow w.heap.size 3 1 v zs.length (zs.map (Value.int .i64)) ∧ (v = .slice none 0 0 ↔ zs = []) ∧ Below w.heap.size w W' := by
  have HA := Aside0.mk (callsIn_wide.1 (appendSeq_vals 9 (by omega) Bs A0 c0 zs w hl hC hbox))
  clear hl hC hbox
  go_enter Tryd.func46, Tryd.ntmps46
  go_wp2_with fail
  refine HA.out.mono ?_
  rintro e w' ⟨v, rfl, hrow, hnil, hb⟩
  have HN := Aside0.mk hnil
  clear hnil
  go_wp2
  go_ret
  exact ⟨v, rfl, hrow, HN.out, hb⟩

set_option maxHeartbeats 1000000 in
/-- slices.Values: the slice is boxed; the function value bears the box. -/
theorem slices_Values.calls (A0 : Option Addr) (n0 c0 : Nat) (w : World) :
    Calls Tryd.prog 42 #[.slice A0 n0 c0] w fun e w' => e = .returned (.func (.func 48) #[] #[.pointer (some ⟨w.heap.size, 0, none⟩)]) ∧ w' = w.alloc (.cells #[.slice A0 n0 c0] 25) := by
  go_enter Tryd.func42, Tryd.ntmps42
  go_wp2
  go_ret
  exact ⟨rfl, rfl⟩

def sortI (zs : List Int) : List Int := zs.mergeSort fun x y => decide (x ≤ y)

set_option maxHeartbeats 1000000 in
theorem slices_Sorted.calls (Bs : Nat) (A0 : Option Addr) (c0 : Nat) (zs : List Int) (w : World) (hl : zs.length < 17592186044416) (hC : Kd.C (Kd.int .i64) w A0 zs.length zs) (hbox : w.cell? ⟨Bs, 0, none⟩ = some (.slice A0 zs.length c0)) :
    Calls Tryd.prog 41 #[.func (.func 48) #[] #[.pointer (some ⟨Bs, 0, none⟩)]] w fun e w' => ∃ v, e = .returned v ∧ w'.ownsRow w.heap.size 3 1 v zs.length ((sortI zs).map (Value.int .i64)) ∧ Below w.heap.size w w' := by
  have HA := Aside0.mk (slices_Collect.calls Bs A0 c0 zs w hl hC hbox)
  have HL := Aside0.mk hl
  clear hC hbox hl
  go_enter Tryd.func41, Tryd.ntmps41
  go_wp2_with fail
  refine HA.out.mono ?_
  rintro e W ⟨v, rfl, hrow, hnil, hb⟩
  rcases hrow.2 with ⟨rfl, hz⟩ | ⟨gb, cap, cur, rfl, hbase, hgb, r1, r2, r3, r4⟩
  · have hz0 := List.eq_nil_of_length_eq_zero hz
    subst hz0
    go_wp2_with fail
    refine (Tryd.slices_Sort_int_none none 0 W).mono ?_
    rintro e w' ⟨rfl, rfl⟩
    go_wp2
    go_ret
    exact ⟨_, rfl, by simpa [sortI] using hrow, hb⟩
  · have hH : Holds (Value.int .i64) W gb 0 zs.toArray := holds_of_block_i hgb (by simpa using r4)
    have hgl : gb < W.heap.size := (Array.getElem?_eq_some_iff.1 hgb).1
    have HS := Aside0.mk (Tryd.slices_Sort_int gb 0 cap zs W hH hgl (by have := HL.out; omega))
    have HX := Aside0.mk (And.intro hbase (And.intro hgb (And.intro r1 (And.intro r2 (And.intro r3 hb)))))
    clear hH hgl hbase hgb r1 r2 r3 r4 hrow hnil hb
    go_wp2_with fail
    refine HS.out.mono ?_
    rintro e w' ⟨rfl, nn, os, rfl⟩
    obtain ⟨hbase, hgb, r1, r2, r3, hb⟩ := HX.out
    go_wp2
    go_ret
    exact ⟨_, rfl, by have := ownsRow_sorted_i (n := nn) (os := os) (ts := sortI zs) (by simp [sortI]) hbase hgb r1 r2 r3; simpa [sortI] using this, hb.grown (grownBy_sorted_i _) hb.size (fun j hj => by cases hj; exact hbase)⟩

end Go.Proofs.YtgejnljpdfjgpaaDoor.Q
