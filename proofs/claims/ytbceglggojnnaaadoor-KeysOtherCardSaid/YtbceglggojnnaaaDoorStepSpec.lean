/- Part StepSpec of the proof: made for this claim. -/
import Derived.Test.YtbceglggojnnaaaDoorShaSpec
import Derived.Test.YtbceglggojnnaaaDoorPackSpec
/-! Chains of digests, and what an element says of them. -/
set_option linter.unusedVariables false
set_option linter.unusedSimpArgs false
namespace Go.VL
def shaSum (p : List UInt8) (l : List (List UInt8)) : Id32 := sha (listB (p :: l))
theorem sums (p : List UInt8) (a : List (List UInt8)) : sha (listB (p :: a)) = shaSum p a := rfl
def plT (a b : Int) : List UInt8 := numB a.toNat ++ numB b.toNat
def stepE (x : Id16) (a b : Int) (i : Nat) : Id16 := cutE (shaSum [115] [x.1, numB i, plT a b])
def walkN (a b : Int) : Nat → Nat → Id16 → Id16
  | 0, _, x => x
  | k + 1, i, x => walkN a b k (i + 1) (stepE x a b i)
def walkE (x : Id16) (a b : Int) (s t : Int) : Id16 := walkN a b (min t 15 - max s 0).toNat (max s 0).toNat x
theorem walkN_add (a b : Int) : ∀ (k l i : Nat) (x : Id16), walkN a b (k + l) i x = walkN a b l (i + k) (walkN a b k i x)
  | 0, l, i, x => by simp [walkN]
  | k + 1, l, i, x => by rw [Nat.add_right_comm, walkN, walkN_add a b k l, walkN, show i + 1 + k = i + (k + 1) by omega]
theorem walkE_none (x : Id16) (a b s t : Int) (h : t ≤ s) (h0 : 0 ≤ s) : walkE x a b s t = x := by
  rw [walkE, show (min t 15 - max s 0).toNat = 0 by omega]; rfl
theorem walkE_join (x : Id16) (a b s t u : Int) (h0 : 0 ≤ s) (h1 : s ≤ t) (h2 : t ≤ u) (h3 : u ≤ 15) : walkE (walkE x a b s t) a b t u = walkE x a b s u := by
  unfold walkE
  rw [show (min u 15 - max s 0).toNat = (min t 15 - max s 0).toNat + (min u 15 - max t 0).toNat by omega, walkN_add, show (max s 0).toNat + (min t 15 - max s 0).toNat = (max t 0).toNat by omega]
theorem walkE_one (x : Id16) (a b s : Int) (h0 : 0 ≤ s) (h1 : s ≤ 14) : walkE x a b s (s + 1) = stepE x a b s.toNat := by
  unfold walkE
  rw [show (min (s + 1) 15 - max s 0).toNat = 1 by omega, show (max s 0).toNat = s.toNat by omega]; rfl
/-! ### Digits -/
def nib (x : List UInt8) (i : Nat) : Nat := (x.getD (i / 2) 0).toNat / 2 ^ (4 - 4 * (i % 2)) % 16
def lft (x : List UInt8) : Nat → Nat
  | 0 => 0
  | i + 1 => lft x i + (15 - nib x i)
def digs (x : List UInt8) : List Int := ((List.range 32).map fun i => (nib x i : Int)) ++ [((lft x 32 / 256 : Nat) : Int), ((lft x 32 / 16 % 16 : Nat) : Int), ((lft x 32 % 16 : Nat) : Int)]
theorem digs_len (x : List UInt8) : (digs x).length = 35 := by simp [digs]
theorem nib_lt (x : List UInt8) (i : Nat) : nib x i < 16 := Nat.mod_lt _ (by omega)
theorem lft_le (x : List UInt8) (i : Nat) : lft x i ≤ 15 * i := by
  induction i with
  | zero => simp [lft]
  | succ i ih => rw [lft]; omega
theorem digs_get (x : List UInt8) (i : Nat) (h : i < 32) : (digs x).getD i 0 = (nib x i : Int) := by
  rw [digs, List.getD_eq_getElem?_getD, List.getElem?_append_left (by simpa using h)]
  simp [h]
theorem digs_32 (x : List UInt8) : (digs x).getD 32 0 = ((lft x 32 / 256 : Nat) : Int) := by
  rw [digs, List.getD_eq_getElem?_getD, List.getElem?_append_right (by simp)]; simp
theorem digs_33 (x : List UInt8) : (digs x).getD 33 0 = ((lft x 32 / 16 % 16 : Nat) : Int) := by
  rw [digs, List.getD_eq_getElem?_getD, List.getElem?_append_right (by simp)]; simp
theorem digs_34 (x : List UInt8) : (digs x).getD 34 0 = ((lft x 32 % 16 : Nat) : Int) := by
  rw [digs, List.getD_eq_getElem?_getD, List.getElem?_append_right (by simp)]; simp
theorem digs_ge (x : List UInt8) (i : Nat) (h : i < 35) : 0 ≤ (digs x).getD i 0 ∧ (digs x).getD i 0 ≤ 15 := by
  have h1 := lft_le x 32
  have h2 := nib_lt x i
  by_cases h3 : i < 32
  · rw [digs_get x i h3]; omega
  · rcases (by omega : i = 32 ∨ i = 33 ∨ i = 34) with rfl | rfl | rfl
    · rw [digs_32]; omega
    · rw [digs_33]; omega
    · rw [digs_34]; omega
/-- A row filled from its beginning on. -/
def fillI (l : List Int) (n i : Nat) : List Int := l.take i ++ iz (n - i)
theorem fillI_len (l : List Int) (n i : Nat) (h : i ≤ l.length) (hn : i ≤ n) : (fillI l n i).length = n := by simp [fillI, iz_len]; omega
theorem fillI_set (l : List Int) (n i : Nat) (h : i < l.length) (hn : i < n) : (fillI l n i).set i (l.getD i 0) = fillI l n (i + 1) := by
  have hl : (l.take i).length = i := by simp; omega
  have e : iz (n - i) = 0 :: iz (n - (i + 1)) := by rw [show n - i = n - (i + 1) + 1 by omega]; rfl
  rw [fillI, fillI, List.set_append_right _ _ (by omega), hl, Nat.sub_self, e, List.set_cons_zero, take_snoc l i 0 h]; simp
theorem fillI_get (l : List Int) (n i : Nat) (h : i < l.length) : (fillI l n (i + 1)).getD i 0 = l.getD i 0 := by
  rw [fillI, List.getD_eq_getElem?_getD, List.getElem?_append_left (by simp; omega), List.getElem?_take, if_pos (by omega), ← List.getD_eq_getElem?_getD]
theorem fillI_all (l : List Int) (n : Nat) (h : l.length = n) : fillI l n n = l := by
  rw [fillI, List.take_of_length_le (by omega), Nat.sub_self]; simp [iz]
/-- Whether one row is less than another one at some place. -/
def someLt (a b : List Int) (i : Nat) : Bool := (List.range i).any fun j => decide (a.getD j 0 < b.getD j 0)
theorem someLt_succ (a b : List Int) (i : Nat) : someLt a b (i + 1) = (someLt a b i || decide (a.getD i 0 < b.getD i 0)) := by
  simp [someLt, List.range_succ, List.any_append]
theorem someLt_iff (a b : List Int) (i : Nat) : someLt a b i = true ↔ ∃ j, j < i ∧ a.getD j 0 < b.getD j 0 := by
  simp [someLt]
theorem lft_cmp {x y : List UInt8} : ∀ i, (∀ j, j < i → nib y j ≤ nib x j) → lft x i ≤ lft y i ∧ (lft x i = lft y i → ∀ j, j < i → nib x j = nib y j)
  | 0, _ => ⟨Nat.le_refl _, fun _ j hj => absurd hj (by omega)⟩
  | i + 1, h => by
    obtain ⟨h1, h2⟩ := lft_cmp i (fun j hj => h j (by omega))
    have h3 := h i (by omega)
    have h4 := nib_lt x i
    have h5 := nib_lt y i
    rw [lft, lft]
    refine ⟨by omega, fun e j hj => ?_⟩
    by_cases hji : j = i
    · subst hji; omega
    · exact h2 (by omega) j (by omega)
theorem nibs_eq {x y : Id16} (h : ∀ j, j < 32 → nib x.1 j = nib y.1 j) : x = y := by
  apply Subtype.ext
  apply List.ext_getElem?
  intro i
  by_cases hi : i < 16
  · have a := h (2 * i) (by omega)
    have b := h (2 * i + 1) (by omega)
    unfold nib at a b
    rw [show 2 * i / 2 = i by omega, show 2 * i % 2 = 0 by omega] at a
    rw [show (2 * i + 1) / 2 = i by omega, show (2 * i + 1) % 2 = 1 by omega] at b
    have e : x.1.getD i 0 = y.1.getD i 0 := by
      apply UInt8.toNat_inj.1
      have := (x.1.getD i 0).toNat_lt
      have := (y.1.getD i 0).toNat_lt
      simp only [Nat.mul_zero, Nat.sub_zero, Nat.reducePow, Nat.reduceMul, Nat.reduceSub, Nat.pow_zero, Nat.div_one] at a b
      omega
    have hx := x.2; have hy := y.2
    rw [List.getD_eq_getElem?_getD, List.getD_eq_getElem?_getD, List.getElem?_eq_getElem (by omega), List.getElem?_eq_getElem (by omega)] at e
    rw [List.getElem?_eq_getElem (by omega), List.getElem?_eq_getElem (by omega)]
    simpa using e
  · have hx := x.2; have hy := y.2
    rw [List.getElem?_eq_none (by omega), List.getElem?_eq_none (by omega)]
theorem less_of {x y : Id16} (h : x ≠ y) : someLt (digs x.1) (digs y.1) 35 = true := by
  cases hs : someLt (digs x.1) (digs y.1) 35 with
  | true => rfl
  | false =>
    exfalso
    have hall : ∀ j, j < 35 → (digs y.1).getD j 0 ≤ (digs x.1).getD j 0 := fun j hj => by
      by_cases hlt : (digs x.1).getD j 0 < (digs y.1).getD j 0
      · have := (someLt_iff (digs x.1) (digs y.1) 35).2 ⟨j, hj, hlt⟩
        rw [hs] at this; cases this
      · omega
    have hn : ∀ j, j < 32 → nib y.1 j ≤ nib x.1 j := fun j hj => by
      have := hall j (by omega)
      rw [digs_get _ j hj, digs_get _ j hj] at this; omega
    obtain ⟨h1, h2⟩ := lft_cmp 32 hn
    have a := hall 32 (by omega)
    have b := hall 33 (by omega)
    have c := hall 34 (by omega)
    rw [digs_32, digs_32] at a
    rw [digs_33, digs_33] at b
    rw [digs_34, digs_34] at c
    have hx := lft_le x.1 32
    have hy := lft_le y.1 32
    exact h (nibs_eq (h2 (by omega)))
theorem not_less_self (a : List Int) (i : Nat) : someLt a a i = false := by
  cases h : someLt a a i with
  | false => rfl
  | true => obtain ⟨j, _, hj⟩ := (someLt_iff a a i).1 h; omega
end Go.VL
