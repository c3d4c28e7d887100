/- Part KeySpec of the proof: made for this claim. -/
import Derived.Test.YtbceglggojnnaaaDoorTreeSpec
import Derived.Test.YtbceglggojnnaaaDoorOnceSpec
import Derived.Test.YtbceglggojnnaaaDoorStKy
import Derived.Test.YtbceglggojnnaaaDoorStAu
/-! Keys that sign many times. -/
set_option linter.unusedVariables false
set_option linter.unusedSimpArgs false
namespace Go.VL
def leafN (s : List UInt8) (n : Nat) : List Id16 := (List.range n).map fun i : Nat => keyE s (i : Int)
theorem leafN_len (s : List UInt8) (n : Nat) : (leafN s n).length = n := by simp [leafN]
theorem leafN_0 (s : List UInt8) : leafN s 0 = [] := rfl
theorem leafN_succ (s : List UInt8) (n : Nat) : leafN s (n + 1) = leafN s n ++ [keyE s n] := by simp [leafN, List.range_succ]
def rootK (s : List UInt8) (h : Nat) : Id16 := atE (leafN s (2 ^ h)) h 0
def digE (root : Id16) (ix : Int) (t : List UInt8) : Id16 := cutE (shaSum [116, 101, 120, 116] [root.1, numB ix.toNat, t])
/-- Elements, one behind the other. -/
def cat16 : List Id16 → List UInt8
  | [] => []
  | x :: l => x.1 ++ cat16 l
theorem cat16_app (a b : List Id16) : cat16 (a ++ b) = cat16 a ++ cat16 b := by
  induction a with
  | nil => rfl
  | cons x a ih => simp [cat16, ih]
theorem cat16_len (l : List Id16) : (cat16 l).length = 16 * l.length := by
  induction l with
  | nil => rfl
  | cons x a ih => simp [cat16, ih, x.2]; omega
def sigK (s : List UInt8) (h : Nat) (i : Nat) (t : List UInt8) : List UInt8 := signE s i (digE (rootK s h) i t) ++ cat16 (pathF (leafN s (2 ^ h)) 0 i h)
end Go.VL
namespace Go.VL
def kyV (s : List UInt8) (h : Nat) : Ky := ⟨s, h, .sl true 16 (2 ^ h) (esC (leafN s (2 ^ h))), rootK s h⟩
def pathS (g : List UInt8) (h : Nat) : List Id16 := (List.range h).map fun i => partE g (35 + i)
theorem pathS_len (g : List UInt8) (h : Nat) : (pathS g h).length = h := by simp [pathS]
theorem pathS_0 (g : List UInt8) : pathS g 0 = [] := rfl
theorem pathS_succ (g : List UInt8) (h : Nat) : pathS g (h + 1) = pathS g h ++ [partE g (35 + h)] := by simp [pathS, List.range_succ]
def verOk (height ix : Int) (g : List UInt8) : Bool := decide (1 ≤ height ∧ height ≤ 8 ∧ 0 ≤ ix ∧ ix < (2 ^ height.toNat : Nat) ∧ g.length = 560 + 16 * height.toNat)
def verE (n : Nd) (ix : Int) (t g : List UInt8) : Bool := verOk n.height ix g && decide (climbE (meetE (g.take 560) ix (digE n.root ix t)) ix (pathS g n.height.toNat) = n.root)
theorem dig_tot (root : Id16) (ix : Int) (hix : inR ix) (t : List UInt8) (ht : t.length ≤ 10000000) : total [root.1, numB ix.toNat, t] ≤ 20000000 := by
  have := numB_length ix.toNat (by have := hix.2; omega)
  simp only [total, List.map_cons, List.map_nil, List.sum_cons, List.sum_nil, root.2]; omega
theorem shl_1 (h : Nat) (hh : h ≤ 8) : shlI .i64 1 (h : Int) = ((2 ^ h : Nat) : Int) := by
  have : ∀ k : _root_.Fin 9, shlI .i64 1 (k.val : Int) = ((2 ^ k.val : Nat) : Int) := by decide
  exact this ⟨h, by omega⟩
theorem pow_le8 (h : Nat) (hh : h ≤ 8) : 2 ^ h ≤ 256 := by
  have := Nat.pow_le_pow_right (n := 2) (by omega) hh
  simpa using this
end Go.VL
namespace Go.VL
theorem goodN_two (h : Nat) (hh : h ≤ 8) : goodN (2 ^ h) := by
  have : ∀ k : _root_.Fin 9, goodN (2 ^ k.val) := by decide
  exact this ⟨h, by omega⟩
end Go.VL
namespace Go.VL
theorem climbK_path (l : List Id16) : ∀ (c k a : Nat), climbL (atE l k a) (a : Int) k (pathF l k a c) = atE l (k + c) (a / 2 ^ c)
  | 0, k, a => by rw [pathF, climbL]; simp
  | c + 1, k, a => by
    rw [pathF, climbL]
    have h2 : ((a : Int) / 2) = ((a / 2 : Nat) : Int) := by omega
    have hs : (if (a : Int) % 2 = 1 then upE (atE l k (beside a)) (atE l k a) (k + 1 : Nat) ((a : Int) / 2) else upE (atE l k a) (atE l k (beside a)) (k + 1 : Nat) ((a : Int) / 2)) = atE l (k + 1) (a / 2) := by
      rw [atE, h2]
      by_cases h : a % 2 = 1
      · rw [if_pos (by omega), beside, if_pos h, show a - 1 = 2 * (a / 2) by omega]
        congr 1
        rw [show 2 * (a / 2) + 1 = a by omega]
      · rw [if_neg (by omega), beside, if_neg h, show 2 * (a / 2) = a by omega]
    rw [hs, h2, climbK_path l c (k + 1) (a / 2), Nat.div_div_eq_div_mul, show 2 * 2 ^ c = 2 ^ (c + 1) by rw [Nat.pow_succ]; omega, show k + 1 + c = k + (c + 1) by omega]
theorem climbK_root (l : List Id16) (H i : Nat) (hl : l.length = 2 ^ H) (hi : i < l.length) : climbE (l.getD i z16) (i : Int) (pathF l 0 i H) = atE l H 0 := by
  have h := climbK_path l H 0 i
  rw [Nat.zero_add, Nat.div_eq_of_lt (by omega)] at h
  exact h

theorem sig_part1 (a b : List UInt8) (h : a.length = 560) : (a ++ b).take 560 = a := by rw [← h, List.take_left]
theorem cat16_part : ∀ (l : List Id16) (i : Nat) (h : i < l.length), partE (cat16 l) i = l.getD i z16
  | x :: l, 0, _ => by
    apply Subtype.ext
    rw [← partE_take _ _ (by rw [cat16_len, List.length_cons]; omega), cat16, Nat.mul_zero, List.drop_zero, List.take_append_of_le_length (by rw [x.2]; omega), List.take_of_length_le (by rw [x.2]; omega)]; rfl
  | x :: l, i + 1, h => by
    have ih := cat16_part l i (by simpa using h)
    apply Subtype.ext
    have h2 := congrArg Subtype.val ih
    rw [← partE_take _ _ (by rw [cat16_len]; simp at h; omega)] at h2
    rw [← partE_take _ _ (by rw [cat16_len]; simp at h ⊢; omega), cat16, show 16 * (i + 1) = x.1.length + 16 * i by rw [x.2]; omega, List.drop_length_add_append, h2]; rfl
theorem partE_app (a b : List UInt8) (h : a.length = 560) (i : Nat) : partE (a ++ b) (35 + i) = partE b i := by
  apply Subtype.ext
  simp only [partE]
  apply List.map_congr_left
  intro k hk
  rw [List.getD_eq_getElem?_getD, List.getElem?_append_right (by omega), List.getD_eq_getElem?_getD]
  congr 2
  omega
theorem pathS_sig (a : List UInt8) (h : a.length = 560) (l : List Id16) : pathS (a ++ cat16 l) l.length = l := by
  apply List.ext_getElem?
  intro i
  unfold pathS
  rw [List.getElem?_map]
  by_cases hi : i < l.length
  · rw [List.getElem?_range hi, List.getElem?_eq_getElem hi, Option.map_some, partE_app _ _ h, cat16_part l i hi, List.getD_eq_getElem?_getD, List.getElem?_eq_getElem hi]; rfl
  · rw [List.getElem?_eq_none (by simp; omega), List.getElem?_eq_none (by omega)]; rfl
theorem sigK_len (s : List UInt8) (h i : Nat) (t : List UInt8) : (sigK s h i t).length = 560 + 16 * h := by
  unfold sigK
  rw [List.length_append, signE_len, cat16_len, pathF_len]
def ndK (s : List UInt8) (h : Nat) : Nd := ⟨rootK s h, h⟩
/-- What is signed verifies. -/
theorem ver_sig (s : List UInt8) (h i : Nat) (h1 : 1 ≤ h) (h8 : h ≤ 8) (hi : i < 2 ^ h) (t : List UInt8) : verE (ndK s h) i t (sigK s h i t) = true := by
  have hlen := sigK_len s h i t
  have ho : verOk (h : Int) i (sigK s h i t) = true := by
    unfold verOk
    apply decide_eq_true
    refine ⟨by omega, by omega, by omega, ?_, ?_⟩
    · rw [Int.toNat_natCast]; omega
    · rw [Int.toNat_natCast]; exact hlen
  have h2 : (sigK s h i t).take 560 = signE s i (digE (rootK s h) i t) := sig_part1 _ _ (signE_len _ _ _)
  have h3 : pathS (sigK s h i t) h = pathF (leafN s (2 ^ h)) 0 i h := by
    have := pathS_sig (signE s i (digE (rootK s h) i t)) (signE_len _ _ _) (pathF (leafN s (2 ^ h)) 0 i h)
    rw [pathF_len] at this
    exact this
  unfold verE
  rw [show (ndK s h).height = (h : Int) from rfl, ho, show (ndK s h).root = rootK s h from rfl, h2, meet_sign, Int.toNat_natCast, h3]
  have hg : keyE s i = (leafN s (2 ^ h)).getD i z16 := by
    simp [leafN, List.getD_eq_getElem?_getD, hi]
  rw [hg, climbK_root _ h i (leafN_len _ _) (by rw [leafN_len]; exact hi)]
  simp [rootK]
end Go.VL
