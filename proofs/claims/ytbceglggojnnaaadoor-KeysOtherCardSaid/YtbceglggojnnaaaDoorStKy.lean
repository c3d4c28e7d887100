/- Part StKy of the proof: made for this claim. -/
import Derived.Test.YtbceglggojnnaaaDoorStPl
/-! Plain structs and their cells; printed by stgen.py. -/
set_option linter.unusedVariables false
set_option linter.unusedSimpArgs false
namespace Go.VL

structure Ky where
  seed : List UInt8
  height : Int
  leaves : V
  root : Id16
def Ky.c (o : Ky) : List V := [.flat (.string (bs o.seed))] ++ ([.flat (.int .i64 o.height)] ++ ([o.leaves] ++ (bv o.root.1)))
theorem Ky.c_len (o : Ky) : o.c.length = 19 := by
  simp [Ky.c, bv_length, o.root.2]
theorem Ky.tk (o : Ky) : o.c.take 19 = o.c := List.take_of_length_le (by rw [Ky.c_len]; omega)
theorem Ky.wh (o p : Ky) : putV o.c 0 p.c = p.c := putV_all (by rw [Ky.c_len, Ky.c_len])
theorem Ky.split0 (o : Ky) : o.c = ([]) ++ (([.flat (.string (bs o.seed))]) ++ ([.flat (.int .i64 o.height)] ++ ([o.leaves] ++ (bv o.root.1)))) := by simp [Ky.c]
theorem Ky.r0 (o : Ky) : o.c.getD 0 .unk = .flat (.string (bs o.seed)) := by
  have := getD_mid ([]) (.flat (.string (bs o.seed))) ([.flat (.int .i64 o.height)] ++ ([o.leaves] ++ (bv o.root.1))) 0 (by simp [bv_length])
  rw [← Ky.split0] at this; simpa using this
theorem Ky.w0 (o : Ky) (x : List UInt8) : putV o.c 0 ([.flat (.string (bs x))]) = ({ o with seed := x } : Ky).c := by
  have := putV_mid ([]) ([.flat (.string (bs o.seed))]) ([.flat (.int .i64 o.height)] ++ ([o.leaves] ++ (bv o.root.1))) ([.flat (.string (bs x))]) 0 (by simp [bv_length]) (by rw [show ([.flat (.string (bs x))] : List V).length = 1 from by simp [bv_length], show ([.flat (.string (bs o.seed))] : List V).length = 1 from by simp [bv_length]])
  rw [← Ky.split0] at this; rw [this]; simp [Ky.c]
theorem Ky.split1 (o : Ky) : o.c = ([.flat (.string (bs o.seed))]) ++ (([.flat (.int .i64 o.height)]) ++ ([o.leaves] ++ (bv o.root.1))) := by simp [Ky.c]
theorem Ky.r1 (o : Ky) : o.c.getD 1 .unk = .flat (.int .i64 o.height) := by
  have := getD_mid ([.flat (.string (bs o.seed))]) (.flat (.int .i64 o.height)) ([o.leaves] ++ (bv o.root.1)) 1 (by simp [bv_length])
  rw [← Ky.split1] at this; simpa using this
theorem Ky.w1 (o : Ky) (x : Int) : putV o.c 1 ([.flat (.int .i64 x)]) = ({ o with height := x } : Ky).c := by
  have := putV_mid ([.flat (.string (bs o.seed))]) ([.flat (.int .i64 o.height)]) ([o.leaves] ++ (bv o.root.1)) ([.flat (.int .i64 x)]) 1 (by simp [bv_length]) (by rw [show ([.flat (.int .i64 x)] : List V).length = 1 from by simp [bv_length], show ([.flat (.int .i64 o.height)] : List V).length = 1 from by simp [bv_length]])
  rw [← Ky.split1] at this; rw [this]; simp [Ky.c]
theorem Ky.split2 (o : Ky) : o.c = ([.flat (.string (bs o.seed))] ++ [.flat (.int .i64 o.height)]) ++ (([o.leaves]) ++ (bv o.root.1)) := by simp [Ky.c]
theorem Ky.r2 (o : Ky) : o.c.getD 2 .unk = o.leaves := by
  have := getD_mid ([.flat (.string (bs o.seed))] ++ [.flat (.int .i64 o.height)]) (o.leaves) (bv o.root.1) 2 (by simp [bv_length])
  rw [← Ky.split2] at this; simpa using this
theorem Ky.w2 (o : Ky) (x : V) : putV o.c 2 ([x]) = ({ o with leaves := x } : Ky).c := by
  have := putV_mid ([.flat (.string (bs o.seed))] ++ [.flat (.int .i64 o.height)]) ([o.leaves]) (bv o.root.1) ([x]) 2 (by simp [bv_length]) (by rw [show ([x] : List V).length = 1 from by simp [bv_length], show ([o.leaves] : List V).length = 1 from by simp [bv_length]])
  rw [← Ky.split2] at this; rw [this]; simp [Ky.c]
theorem Ky.split3 (o : Ky) : o.c = ([.flat (.string (bs o.seed))] ++ [.flat (.int .i64 o.height)] ++ [o.leaves]) ++ ((bv o.root.1) ++ ([])) := by simp [Ky.c]
theorem Ky.r3 (o : Ky) : (o.c.drop 3).take 16 = bv o.root.1 := by
  have := drop_take_mid ([.flat (.string (bs o.seed))] ++ [.flat (.int .i64 o.height)] ++ [o.leaves]) (bv o.root.1) ([]) 3 16 (by simp [bv_length]) (by simp [bv_length, o.root.2])
  rw [← Ky.split3] at this; simpa using this
theorem Ky.w3 (o : Ky) (x : Id16) : putV o.c 3 (bv x.1) = ({ o with root := x } : Ky).c := by
  have := putV_mid ([.flat (.string (bs o.seed))] ++ [.flat (.int .i64 o.height)] ++ [o.leaves]) (bv o.root.1) ([]) (bv x.1) 3 (by simp [bv_length]) (by rw [show (bv x.1 : List V).length = 16 from by simp [bv_length, x.2], show (bv o.root.1 : List V).length = 16 from by simp [bv_length, o.root.2]])
  rw [← Ky.split3] at this; rw [this]; simp [Ky.c]
def Ky.z (o : Ky) : Ky := { o with leaves := o.leaves.fz }
theorem Ky.fz (o : Ky) : o.c.map V.fz = o.z.c := by simp [Ky.c, V.fz, bv_fz, Ky.z]
theorem Ky.own1 (o : Ky) : (∀ z ∈ o.c, noOwnB z = true) = (noOwnB o.leaves = true) := by
  simp only [Ky.c, List.forall_mem_append, List.forall_mem_singleton, own1_bv]; simp [noOwnB]
theorem Ky.own2 (o : Ky) : (∀ z ∈ o.c, noOwnB z = true ∧ oneB z = true) = (noOwnB o.leaves = true ∧ oneB o.leaves = true) := by
  simp only [Ky.c, List.forall_mem_append, List.forall_mem_singleton, own2_bv]; simp [noOwnB, oneB]

def ky0 : Ky := ⟨[], 0, .nil, z16⟩
theorem Ky.sm : (type_of% @Ky.c_len) ∧ (type_of% @Ky.tk) ∧ (type_of% @Ky.wh) ∧ (type_of% @Ky.r0) ∧ (type_of% @Ky.w0) ∧ (type_of% @Ky.r1) ∧ (type_of% @Ky.w1) ∧ (type_of% @Ky.r2) ∧ (type_of% @Ky.w2) ∧ (type_of% @Ky.r3) ∧ (type_of% @Ky.w3) ∧ (type_of% @Ky.fz) ∧ (type_of% @Ky.own1) ∧ (type_of% @Ky.own2) := ⟨@Ky.c_len, @Ky.tk, @Ky.wh, @Ky.r0, @Ky.w0, @Ky.r1, @Ky.w1, @Ky.r2, @Ky.w2, @Ky.r3, @Ky.w3, @Ky.fz, @Ky.own1, @Ky.own2⟩
attribute [go_sem] Ky.sm
end Go.VL
