/- Part StPl of the proof: made for this claim. -/
import Derived.Test.YtljfmgfokifooaaVLc
set_option linter.unusedVariables false
set_option linter.unusedSimpArgs false
namespace Go.VL

structure Pl where
  index : Int
  chain : Int
  deriving DecidableEq
def Pl.c (o : Pl) : List V := [.flat (.int .i64 o.index)] ++ ([.flat (.int .i64 o.chain)])
theorem Pl.c_len (o : Pl) : o.c.length = 2 := by
  simp [Pl.c, bv_length]
theorem Pl.tk (o : Pl) : o.c.take 2 = o.c := List.take_of_length_le (by rw [Pl.c_len]; omega)
theorem Pl.wh (o p : Pl) : putV o.c 0 p.c = p.c := putV_all (by rw [Pl.c_len, Pl.c_len])
theorem Pl.split0 (o : Pl) : o.c = ([]) ++ (([.flat (.int .i64 o.index)]) ++ ([.flat (.int .i64 o.chain)])) := by simp [Pl.c]
theorem Pl.r0 (o : Pl) : o.c.getD 0 .unk = .flat (.int .i64 o.index) := by
  have := getD_mid ([]) (.flat (.int .i64 o.index)) ([.flat (.int .i64 o.chain)]) 0 (by simp [bv_length])
  rw [← Pl.split0] at this; simpa using this
theorem Pl.w0 (o : Pl) (x : Int) : putV o.c 0 ([.flat (.int .i64 x)]) = ({ o with index := x } : Pl).c := by
  have := putV_mid ([]) ([.flat (.int .i64 o.index)]) ([.flat (.int .i64 o.chain)]) ([.flat (.int .i64 x)]) 0 (by simp [bv_length]) (by rw [show ([.flat (.int .i64 x)] : List V).length = 1 from by simp [bv_length], show ([.flat (.int .i64 o.index)] : List V).length = 1 from by simp [bv_length]])
  rw [← Pl.split0] at this; rw [this]; simp [Pl.c]
theorem Pl.split1 (o : Pl) : o.c = ([.flat (.int .i64 o.index)]) ++ (([.flat (.int .i64 o.chain)]) ++ ([])) := by simp [Pl.c]
theorem Pl.r1 (o : Pl) : o.c.getD 1 .unk = .flat (.int .i64 o.chain) := by
  have := getD_mid ([.flat (.int .i64 o.index)]) (.flat (.int .i64 o.chain)) ([]) 1 (by simp [bv_length])
  rw [← Pl.split1] at this; simpa using this
theorem Pl.w1 (o : Pl) (x : Int) : putV o.c 1 ([.flat (.int .i64 x)]) = ({ o with chain := x } : Pl).c := by
  have := putV_mid ([.flat (.int .i64 o.index)]) ([.flat (.int .i64 o.chain)]) ([]) ([.flat (.int .i64 x)]) 1 (by simp [bv_length]) (by rw [show ([.flat (.int .i64 x)] : List V).length = 1 from by simp [bv_length], show ([.flat (.int .i64 o.chain)] : List V).length = 1 from by simp [bv_length]])
  rw [← Pl.split1] at this; rw [this]; simp [Pl.c]
theorem Pl.fz (o : Pl) : o.c.map V.fz = o.c := by simp [Pl.c, V.fz, bv_fz]
theorem Pl.own1 (o : Pl) : (∀ z ∈ o.c, noOwnB z = true) = (True) := by
  simp only [Pl.c, List.forall_mem_append, List.forall_mem_singleton, own1_bv]; simp [noOwnB]
theorem Pl.own2 (o : Pl) : (∀ z ∈ o.c, noOwnB z = true ∧ oneB z = true) = (True) := by
  simp only [Pl.c, List.forall_mem_append, List.forall_mem_singleton, own2_bv]; simp [noOwnB, oneB]
theorem Pl.one (o : Pl) : (∀ z ∈ o.c, oneB z = true) = True := eq_true fun z hz => ((of_eq_true (Pl.own2 o)) z hz).2
def Pl.lC (l : List Pl) : List V := (l.map Pl.c).flatten
theorem Pl.l_nil : Pl.lC [] = [] := rfl
theorem Pl.l_len (l : List Pl) : (Pl.lC l).length = l.length * 2 := by
  unfold Pl.lC
  rw [flatten_len 2 _ (fun c hc => by obtain ⟨x, _, rfl⟩ := List.mem_map.1 hc; exact Pl.c_len x), List.length_map]
theorem Pl.l_app (l : List Pl) (x : Pl) : Pl.lC l ++ x.c = Pl.lC (l ++ [x]) := by simp [Pl.lC]
theorem Pl.l_get (l : List Pl) (x : Pl) (i : Nat) (hi : i < l.length) : ((Pl.lC l).drop (i * 2)).take 2 = (l.getD i x).c := by
  unfold Pl.lC
  rw [flat_chunk 2 _ i (fun c hc => by obtain ⟨x, _, rfl⟩ := List.mem_map.1 hc; exact Pl.c_len x) (by simpa using hi)]
  simp [List.getD_eq_getElem?_getD, hi]
theorem Pl.inj (a b : Pl) : a.c.map vlit = b.c.map vlit ↔ a = b := by
  constructor
  · intro h
    cases a; cases b
    simp only [Pl.c, List.map_append, List.map_cons, List.map_nil, List.cons_append, List.nil_append, List.cons.injEq, vlit_int, vlit_bs, vlit_bool, Lit.int.injEq, Lit.string.injEq, Lit.bool.injEq, true_and] at h
    obtain ⟨q0, h0⟩ := h
    obtain ⟨q1, _⟩ := h0
    simp_all [Subtype.ext_iff]
  · rintro rfl; rfl
theorem Pl.eqc (a b : Pl) : eqCells a.c b.c = decide (a = b) := by
  rw [Bool.eq_iff_iff, eqCells_iff, decide_eq_true_iff, Pl.inj]
def Pl.ok (o : Pl) : Prop := inR o.index ∧ inR o.chain
theorem Pl.fit (o : Pl) (h : o.ok) : Fit (([.int .i64]) ++ ([.int .i64])) o.c := by
  obtain ⟨k0, k1⟩ := h
  have := fit_app ((fit_int k0)) ((fit_int k1))
  simpa [Pl.c, List.append_assoc] using this

def pl0 : Pl := ⟨0, 0⟩
theorem Pl.sm : (type_of% @Pl.c_len) ∧ (type_of% @Pl.tk) ∧ (type_of% @Pl.wh) ∧ (type_of% @Pl.r0) ∧ (type_of% @Pl.w0) ∧ (type_of% @Pl.r1) ∧ (type_of% @Pl.w1) ∧ (type_of% @Pl.fz) ∧ (type_of% @Pl.own1) ∧ (type_of% @Pl.own2) ∧ (type_of% @Pl.one) ∧ (type_of% @Pl.eqc) := ⟨@Pl.c_len, @Pl.tk, @Pl.wh, @Pl.r0, @Pl.w0, @Pl.r1, @Pl.w1, @Pl.fz, @Pl.own1, @Pl.own2, @Pl.one, @Pl.eqc⟩
attribute [go_sem] Pl.sm
theorem Pl.flat (o : Pl) : FlatS o.c := by
  unfold Pl.c
  repeat' first | exact FlatS.nil | exact FlatS.bv _ | refine FlatS.cons ?_ | refine FlatS.app ?_ ?_
end Go.VL
