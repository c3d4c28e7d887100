/- Part OnceSpec of the proof: made for this claim. -/
import Derived.Test.YtbceglggojnnaaaDoorStepSpec
/-! Signatures of one element. -/
set_option linter.unusedVariables false
set_option linter.unusedSimpArgs false
namespace Go.VL
def secE (seed : List UInt8) (ix ch : Int) : Id16 := cutE (shaSum [107] [seed, numB ix.toNat, numB ch.toNat])
def leafE (ends : List UInt8) (ix : Int) : Id16 := cutE (shaSum [108] [ends, numB ix.toNat])
/-- One behind the other. -/
def endsN (f : Nat → Id16) : Nat → List UInt8
  | 0 => []
  | k + 1 => endsN f k ++ (f k).1
theorem endsN_0 (f : Nat → Id16) : endsN f 0 = [] := rfl
theorem endsN_succ (f : Nat → Id16) (k : Nat) : endsN f (k + 1) = endsN f k ++ (f k).1 := rfl
theorem endsN_len (f : Nat → Id16) : ∀ k, (endsN f k).length = 16 * k
  | 0 => rfl
  | k + 1 => by rw [endsN, List.length_append, endsN_len f k, (f k).2]; omega
def keyF (seed : List UInt8) (ix : Int) (i : Nat) : Id16 := walkE (secE seed ix i) ix i 0 15
def keyE (seed : List UInt8) (ix : Int) : Id16 := leafE (endsN (keyF seed ix) 35) ix
def signF (seed : List UInt8) (ix : Int) (d : Id16) (i : Nat) : Id16 := walkE (secE seed ix i) ix i 0 ((digs d.1).getD i 0)
def signE (seed : List UInt8) (ix : Int) (d : Id16) : List UInt8 := endsN (signF seed ix d) 35
def partE (s : List UInt8) (i : Nat) : Id16 := ⟨(List.range 16).map fun k => s.getD (16 * i + k) 0, by simp⟩
def meetF (s : List UInt8) (ix : Int) (d : Id16) (i : Nat) : Id16 := walkE (partE s i) ix i ((digs d.1).getD i 0) 15
def meetE (s : List UInt8) (ix : Int) (d : Id16) : Id16 := leafE (endsN (meetF s ix d) 35) ix
theorem signE_len (seed : List UInt8) (ix : Int) (d : Id16) : (signE seed ix d).length = 560 := endsN_len _ 35
theorem partE_take (s : List UInt8) (i : Nat) (h : 16 * i + 16 ≤ s.length) : (s.drop (16 * i)).take 16 = (partE s i).1 := by
  apply List.ext_getElem?
  intro k
  simp only [partE, List.getElem?_take, List.getElem?_drop, List.getElem?_map]
  by_cases hk : k < 16
  · rw [if_pos hk, List.getElem?_range hk]
    simp [List.getD_eq_getElem?_getD, List.getElem?_eq_getElem (show 16 * i + k < s.length by omega)]
  · rw [if_neg hk, List.getElem?_eq_none (by simp; omega)]
    rfl
theorem part_ends (f : Nat → Id16) : ∀ (n i : Nat), i < n → partE (endsN f n) i = f i
  | n + 1, i, h => by
    apply Subtype.ext
    rw [← partE_take _ _ (by rw [endsN_len]; omega), endsN]
    by_cases hi : i < n
    · rw [List.drop_append_of_le_length (by rw [endsN_len]; omega), List.take_append_of_le_length (by rw [List.length_drop, endsN_len]; omega), partE_take _ _ (by rw [endsN_len]; omega), part_ends f n i hi]
    · have e : i = n := by omega
      subst e
      rw [List.drop_append, endsN_len, Nat.sub_self, List.drop_zero, List.drop_eq_nil_of_le (by rw [endsN_len]; exact Nat.le_refl _), List.nil_append, List.take_of_length_le (by rw [(f i).2]; exact Nat.le_refl _)]
theorem endsN_congr {f g : Nat → Id16} : ∀ (n : Nat), (∀ i, i < n → f i = g i) → endsN f n = endsN g n
  | 0, _ => rfl
  | n + 1, h => by rw [endsN, endsN, endsN_congr n (fun i hi => h i (by omega)), h n (by omega)]
/-- What is signed meets its key. -/
theorem meet_sign (seed : List UInt8) (ix : Int) (d : Id16) : meetE (signE seed ix d) ix d = keyE seed ix := by
  unfold meetE keyE
  rw [endsN_congr 35 (fun i hi => ?_)]
  unfold meetF keyF
  rw [signE, part_ends _ _ _ hi, signF]
  have h := digs_ge d.1 i hi
  exact walkE_join _ _ _ 0 _ 15 (by omega) h.1 h.2 (by omega)
end Go.VL
