/- Part PackSpec of the proof: made for this claim. -/
import Derived.Test.YtljfmgfokifooaaVLc
set_option linter.unusedVariables false
set_option linter.unusedSimpArgs false
namespace Go.VL
def le (n : Nat) : List UInt8 := if h : n = 0 then [] else UInt8.ofNat (n % 256) :: le (n / 256)
theorem le_zero : le 0 = [] := by rw [le]; simp
theorem le_pos {n : Nat} (h : 0 < n) : le n = UInt8.ofNat (n % 256) :: le (n / 256) := by rw [le]; rw [dif_neg (by omega)]
theorem le_length : ∀ (k n : Nat), n < 256 ^ k → (le n).length ≤ k
  | 0, n, h => by have : n = 0 := by simpa using h
                  subst this; rw [le_zero]; simp
  | k + 1, n, h => by
    rcases Nat.eq_zero_or_pos n with rfl | hp
    · rw [le_zero]; simp
    · rw [le_pos hp]
      have := le_length k (n / 256) (by rw [Nat.div_lt_iff_lt_mul (by omega)]; rw [Nat.pow_succ] at h; exact h)
      simpa using this
def numB (n : Nat) : List UInt8 := UInt8.ofNat (le n).length :: (le n).reverse
theorem numB_length (n : Nat) (hn : n < 9223372036854775808) : (numB n).length ≤ 9 := by
  have := le_length 8 n (by omega)
  simp [numB]; omega
def textB (s : List UInt8) : List UInt8 := numB s.length ++ s
def listTail : List (List UInt8) → List UInt8
  | [] => []
  | s :: r => textB s ++ listTail r
def listB (l : List (List UInt8)) : List UInt8 := numB l.length ++ listTail l
def total (l : List (List UInt8)) : Nat := (l.map List.length).sum
theorem listTail_append (a b : List (List UInt8)) : listTail (a ++ b) = listTail a ++ listTail b := by
  induction a with
  | nil => rfl
  | cons x r ih => simp [listTail, ih]
theorem listTail_one (s : List UInt8) : listTail [s] = textB s := by simp [listTail]
theorem total_append (a b : List (List UInt8)) : total (a ++ b) = total a + total b := by simp [total]
theorem total_take (l : List (List UInt8)) (i : Nat) : total (l.take i) ≤ total l := by
  have := total_append (l.take i) (l.drop i)
  rw [List.take_append_drop] at this; omega
theorem mem_total {l : List (List UInt8)} {s : List UInt8} (h : s ∈ l) : s.length ≤ total l := by
  obtain ⟨a, b, rfl⟩ := List.append_of_mem h
  rw [total_append]; simp [total]; omega
theorem listTail_length : ∀ l : List (List UInt8), (total l < 9223372036854775808) → (listTail l).length ≤ total l + 9 * l.length
  | [], _ => by simp [listTail]
  | s :: r, h => by
    have h1 : total (s :: r) = s.length + total r := by simp [total]
    have h2 := listTail_length r (by omega)
    have h3 := numB_length s.length (by omega)
    simp only [listTail, textB, List.length_append, List.length_cons, h1]
    omega
def val : List UInt8 → Nat
  | [] => 0
  | b :: r => b.toNat + 256 * val r
theorem val_le (n : Nat) : val (le n) = n := by
  induction n using Nat.strongRecOn with
  | _ n ih =>
    rcases Nat.eq_zero_or_pos n with rfl | h
    · rw [le_zero]; rfl
    · rw [le_pos h, val, ih _ (Nat.div_lt_self h (by omega))]
      simp
      omega
theorem numB_len (n : Nat) : (numB n).length = (le n).length + 1 := by simp [numB]
theorem take_succ' {l : List (List UInt8)} {i : Nat} (h : i < l.length) : l.take (i + 1) = l.take i ++ [l.getD i []] := by
  rw [List.take_add_one, List.getD_eq_getElem?_getD]
  rw [List.getElem?_eq_getElem h]; rfl
theorem listB_le (l : List (List UInt8)) (h : total l ≤ 1000000000000) (hl : l.length ≤ 1000000000) : (listB l).length ≤ 9 + total l + 9 * l.length := by
  have h1 := numB_length l.length (by omega)
  have h2 := listTail_length l (by omega)
  simp only [listB, List.length_append]; omega
end Go.VL
