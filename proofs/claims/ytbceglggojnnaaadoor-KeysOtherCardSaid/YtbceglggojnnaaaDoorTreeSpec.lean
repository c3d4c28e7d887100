/- Part TreeSpec of the proof: made for this claim. -/
import Derived.Test.YtbceglggojnnaaaDoorStepSpec
/-! Trees over elements. -/
set_option linter.unusedVariables false
set_option linter.unusedSimpArgs false
namespace Go.VL
/-- Rows of 16 bytes. -/
def esC (l : List Id16) : List V := (l.map fun x => bv x.1).flatten
@[go_sem] theorem esC_nil : esC [] = [] := rfl
@[go_sem] theorem esC_len (l : List Id16) : (esC l).length = l.length * 16 := by
  unfold esC
  induction l with
  | nil => rfl
  | cons x l ih => simp only [List.map_cons, List.flatten_cons, List.length_append, ih, bv_length, x.2, List.length_cons]; omega
theorem esC_app (l : List Id16) (x : Id16) : esC l ++ bv x.1 = esC (l ++ [x]) := by simp [esC]
theorem esC_get (l : List Id16) (i : Nat) (hi : i < l.length) : ((esC l).drop (i * 16)).take 16 = bv (l.getD i z16).1 := by
  unfold esC
  rw [flat_chunk 16 _ i (fun c hc => by obtain ⟨x, _, rfl⟩ := List.mem_map.1 hc; rw [bv_length]; exact x.2) (by simpa using hi)]
  simp [List.getD_eq_getElem?_getD, hi]
theorem esC_flat (l : List Id16) : FlatS (esC l) := FlatS.rows (f := fun x : Id16 => bv x.1) (fun x => FlatS.bv x.1) l
@[go_sem] theorem esC_fz (l : List Id16) : (esC l).map V.fz = esC l := by
  rw [List.map_congr_left (g := id) (fun c hc => by obtain ⟨v, rfl⟩ := esC_flat l c hc; rfl), List.map_id]
@[go_sem] theorem esC_own1 (l : List Id16) : (∀ z ∈ esC l, noOwnB z = true) = True := eq_true fun z hz => by
  obtain ⟨v, rfl⟩ := esC_flat l z hz; rfl
@[go_sem] theorem esC_own2 (l : List Id16) : (∀ z ∈ esC l, noOwnB z = true ∧ oneB z = true) = True := eq_true fun z hz => by
  obtain ⟨v, rfl⟩ := esC_flat l z hz; exact ⟨rfl, rfl⟩
@[go_sem] theorem esC_one2 (l : List Id16) : (∀ z ∈ esC l, oneB z = true) = True := eq_true fun z hz => by
  obtain ⟨v, rfl⟩ := esC_flat l z hz; rfl
/-! ### Words -/
theorem andI_1 (a : Int) : andI .i64 a 1 = a % 2 := by
  show IntKind.i64.wrap ((BitVec.ofInt 64 a &&& BitVec.ofInt 64 1).toNat : Int) = _
  rw [BitVec.toNat_and, BitVec.toNat_ofInt, show (BitVec.ofInt 64 1).toNat = 1 from rfl, Nat.and_one_is_mod]
  rw [wi (by omega) (by omega)]
  omega
theorem shrI_1 (a : Int) : shrI .i64 a 1 = a / 2 := by
  show Int.fdiv a (2 ^ min 1 64) = _
  rw [Int.fdiv_eq_ediv_of_nonneg _ (by decide)]
  rfl
theorem xorI_1 (n : Nat) (hn : n < 9223372036854775806) : xorI .i64 (n : Int) 1 = ((if n % 2 = 1 then n - 1 else n + 1 : Nat) : Int) := by
  show IntKind.i64.wrap ((BitVec.ofInt 64 (n : Int) ^^^ BitVec.ofInt 64 1).toNat : Int) = _
  rw [BitVec.ofInt_natCast, BitVec.toNat_xor, BitVec.toNat_ofNat, Nat.mod_eq_of_lt (by omega), show (BitVec.ofInt 64 1).toNat = 1 from rfl]
  have h1 : (n ^^^ 1) / 2 = n / 2 := by rw [Nat.xor_div_two]; simp
  have h2 : (n ^^^ 1) % 2 = (n + 1) % 2 := by
    have h := Nat.xor_mod_two_pow (a := n) (b := 1) (n := 1)
    rw [Nat.pow_one] at h
    rw [h]
    rcases Nat.mod_two_eq_zero_or_one n with q | q
    · rw [q]; show 1 = _; omega
    · rw [q]; show 0 = _; omega
  have h3 : n ^^^ 1 = if n % 2 = 1 then n - 1 else n + 1 := by split <;> omega
  rw [h3]
  rw [wi (by omega) (by split <;> omega)]
/-- What stands above two. -/
def upE (l r : Id16) (lv ix : Int) : Id16 := cutE (shaSum [110] [l.1 ++ r.1, numB lv.toNat, numB ix.toNat])
theorem up_tot (l r : Id16) (a b : Nat) (ha : a < 9223372036854775808) (hb : b < 9223372036854775808) : total [l.1 ++ r.1, numB a, numB b] ≤ 100 := by
  have h1 := numB_length a ha
  have h2 := numB_length b hb
  simp only [total, List.map_cons, List.map_nil, List.sum_cons, List.sum_nil, List.length_append, l.2, r.2]; omega
/-- The level above the first k pairs of a level. -/
def riseN (row : List Id16) (lv : Nat) (k : Nat) : List Id16 := (List.range k).map fun i => upE (row.getD (2 * i) z16) (row.getD (2 * i + 1) z16) lv i
def riseE (row : List Id16) (lv : Nat) : List Id16 := riseN row lv (row.length / 2)
theorem riseN_len (row : List Id16) (lv k : Nat) : (riseN row lv k).length = k := by simp [riseN]
theorem riseE_len (row : List Id16) (lv : Nat) : (riseE row lv).length = row.length / 2 := riseN_len _ _ _
theorem riseN_succ (row : List Id16) (lv k : Nat) : riseN row lv (k + 1) = riseN row lv k ++ [upE (row.getD (2 * k) z16) (row.getD (2 * k + 1) z16) lv k] := by simp [riseN, List.range_succ]
theorem riseE_get (row : List Id16) (lv i : Nat) (h : i < row.length / 2) : (riseE row lv).getD i z16 = upE (row.getD (2 * i) z16) (row.getD (2 * i + 1) z16) lv i := by
  simp [riseE, riseN, List.getD_eq_getElem?_getD, h]
/-- The levels. -/
def levelE (l : List Id16) : Nat → List Id16
  | 0 => l
  | k + 1 => riseE (levelE l k) (k + 1)
theorem levelE_len (l : List Id16) : ∀ k, (levelE l k).length = l.length / 2 ^ k
  | 0 => by simp [levelE]
  | k + 1 => by rw [levelE, riseE_len, levelE_len l k, Nat.div_div_eq_div_mul, Nat.pow_succ]
/-- The element of a level and place, by itself. -/
def atE (l : List Id16) : Nat → Nat → Id16
  | 0, i => l.getD i z16
  | k + 1, i => upE (atE l k (2 * i)) (atE l k (2 * i + 1)) (k + 1 : Nat) i
theorem level_at (l : List Id16) : ∀ k i, i < l.length / 2 ^ k → (levelE l k).getD i z16 = atE l k i
  | 0, i, h => rfl
  | k + 1, i, h => by
    have e : l.length / 2 ^ (k + 1) = l.length / 2 ^ k / 2 := by rw [Nat.pow_succ, Nat.div_div_eq_div_mul]
    rw [levelE, riseE_get _ _ _ (by rw [levelE_len]; omega), atE, level_at l k _ (by omega), level_at l k _ (by omega)]
/-- The way beside. -/
def beside (a : Nat) : Nat := if a % 2 = 1 then a - 1 else a + 1
theorem beside_lt {a n : Nat} (h : a < 2 * n) : beside a < 2 * n := by unfold beside; split <;> omega
def pathF (l : List Id16) : Nat → Nat → Nat → List Id16
  | _, _, 0 => []
  | k, a, c + 1 => atE l k (beside a) :: pathF l (k + 1) (a / 2) c
theorem pathF_len (l : List Id16) : ∀ c k a, (pathF l k a c).length = c
  | 0, _, _ => rfl
  | c + 1, k, a => by rw [pathF, List.length_cons, pathF_len l c]
/-- Up by what stands beside. -/
def climbL : Id16 → Int → Nat → List Id16 → Id16
  | x, _, _, [] => x
  | x, b, k, y :: p => climbL (if b % 2 = 1 then upE y x (k + 1 : Nat) (b / 2) else upE x y (k + 1 : Nat) (b / 2)) (b / 2) (k + 1) p
def climbE (x : Id16) (a : Int) (p : List Id16) : Id16 := climbL x a 0 p
theorem drop_get {α : Type} (l : List α) (i : Nat) (d : α) (h : i < l.length) : l.drop i = l.getD i d :: l.drop (i + 1) := by
  rw [List.drop_eq_getElem_cons h]; simp [List.getD_eq_getElem?_getD, h]
/-- How high. -/
def goodN (n : Nat) : Prop := n = 1 ∨ n = 2 ∨ n = 4 ∨ n = 8 ∨ n = 16 ∨ n = 32 ∨ n = 64 ∨ n = 128 ∨ n = 256
instance (n : Nat) : Decidable (goodN n) := by unfold goodN; infer_instance
theorem goodN_pow {n : Nat} (h : goodN n) : ∃ H, H ≤ 8 ∧ n = 2 ^ H := by
  rcases h with rfl | rfl | rfl | rfl | rfl | rfl | rfl | rfl | rfl
  · exact ⟨0, by omega, rfl⟩
  · exact ⟨1, by omega, rfl⟩
  · exact ⟨2, by omega, rfl⟩
  · exact ⟨3, by omega, rfl⟩
  · exact ⟨4, by omega, rfl⟩
  · exact ⟨5, by omega, rfl⟩
  · exact ⟨6, by omega, rfl⟩
  · exact ⟨7, by omega, rfl⟩
  · exact ⟨8, by omega, rfl⟩
theorem es_arg {P : Program} {d t e u : Nat} {x : V} (ht : P.underlying t = some (.slice e)) (he : P.underlying e = some (.array 16 u)) (hu : P.underlying u = some (.int .u8)) (hn : P.cellsOf e = 16) (hk : P.bytesOf e = 16) (h : TV P (d + 3) t x) : ∃ l : List Id16, x = .sl false 16 l.length (esC l) ∧ l.length * 16 ≤ 140737488351232 := by
  obtain ⟨xs, h1, h2, _⟩ := tc_sliceB (fun o : Id16 => bv o.1) (fun _ => True) ht hn hk (fun c hc => by
    obtain ⟨o, rfl⟩ := tc_id16 he hu hc
    exact ⟨o, rfl, trivial⟩) (tv_sl ht h)
  exact ⟨xs, (List.cons.inj h1).1, h2⟩
end Go.VL
