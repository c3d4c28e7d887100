/- Part KeyOth of the proof: made for this claim. -/
import Derived.Test.YtbceglggojnnaaaDoorKeySpec
/-! A signature spoilt: numbers and cells. -/
set_option linter.unusedVariables false
set_option linter.unusedSimpArgs false
namespace Go.VL
theorem wrapU (x : Int) : ∃ n : Nat, IntKind.u64.wrap x = n ∧ n < 18446744073709551616 := by
  refine ⟨(IntKind.u64.wrap x).toNat, ?_, ?_⟩
  · have h : 0 ≤ IntKind.u64.wrap x := by
      simp only [IntKind.wrap]; exact Int.emod_nonneg _ (by decide)
    omega
  · have h : IntKind.u64.wrap x < 18446744073709551616 := by
      simp only [IntKind.wrap]; exact Int.emod_lt_of_pos _ (by decide)
    omega
theorem putV_one (l : List V) (i : Nat) (x : V) (h : i < l.length) : putV l i [x] = l.set i x := by
  rw [putV_set l x i h]
def spoil (r : Id16) (k : Nat) (c : UInt8) : Id16 := ⟨r.1.set k (r.1.getD k 0 ^^^ c), by rw [List.length_set]; exact r.2⟩
theorem Nd.spoil (n : Nd) (k : Nat) (hk : k < 16) (c : UInt8) : putV n.c k [.flat (.int .u8 ((n.root.1.getD k 0 ^^^ c).toNat : Int))] = Nd.c ⟨Go.VL.spoil n.root k c, n.height⟩ := by
  have hr := n.root.2
  rw [putV_one _ _ _ (by rw [Nd.c_len]; omega)]
  unfold Nd.c
  rw [List.set_append_left _ _ (by rw [bv_length]; omega)]
  congr 1
  simp [bv, Go.VL.spoil, List.map_set]
theorem Nd.rootAt (n : Nd) (k : Nat) (hk : k < 16) : n.c.getD k .unk = .flat (.int .u8 ((n.root.1.getD k 0).toNat : Int)) := by
  have hr := n.root.2
  unfold Nd.c
  rw [List.getD_eq_getElem?_getD, List.getElem?_append_left (by rw [bv_length]; omega)]
  simp [bv, List.getD_eq_getElem?_getD, List.getElem?_eq_getElem (show k < n.root.1.length by omega)]
end Go.VL
