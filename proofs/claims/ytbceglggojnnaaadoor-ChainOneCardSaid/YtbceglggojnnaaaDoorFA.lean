/- Part FA of the proof: made for this claim. -/
import Derived.Test.YtbceglggojnnaaaDoorVLc
set_option linter.unusedVariables false
set_option linter.unusedSimpArgs false
namespace Go.VL

structure Pl where
  index : Int
  chain : Int
  deriving DecidableEq
def Pl.c (o : Pl) : List V := [.flat (.int .i64 o.index)] ++ ([.flat (.int .i64 o.chain)])
theorem Pl.c_len (o : Pl) : o.c.length = 2 := by
  simp [Pl.c, bv_length]
theorem Pl.tk (o : Pl) : o.c.take 2 = o.c := List.take_of_length_le (by rw [Pl.c_len]; omega)
theorem Pl.wh (o p : Pl) : putV o.c 0 p.c = p.c := putV_all (by rw [Pl.c_len, Pl.c_len])
theorem Pl.split0 (o : Pl) : o.c = ([]) ++ (([.flat (.int .i64 o.index)]) ++ ([.flat (.int .i64 o.chain)])) := by simp [Pl.c]
theorem Pl.r0 (o : Pl) : o.c.getD 0 .unk = .flat (.int .i64 o.index) := by
  have := getD_mid ([]) (.flat (.int .i64 o.index)) ([.flat (.int .i64 o.chain)]) 0 (by simp [bv_length])
  rw [← Pl.split0] at this; simpa using this
theorem Pl.w0 (o : Pl) (x : Int) : putV o.c 0 ([.flat (.int .i64 x)]) = ({ o with index := x } : Pl).c := by
  have := putV_mid ([]) ([.flat (.int .i64 o.index)]) ([.flat (.int .i64 o.chain)]) ([.flat (.int .i64 x)]) 0 (by simp [bv_length]) (by rw [show ([.flat (.int .i64 x)] : List V).length = 1 from by simp [bv_length], show ([.flat (.int .i64 o.index)] : List V).length = 1 from by simp [bv_length]])
  rw [← Pl.split0] at this; rw [this]; simp [Pl.c]
theorem Pl.split1 (o : Pl) : o.c = ([.flat (.int .i64 o.index)]) ++ (([.flat (.int .i64 o.chain)]) ++ ([])) := by simp [Pl.c]
theorem Pl.r1 (o : Pl) : o.c.getD 1 .unk = .flat (.int .i64 o.chain) := by
  have := getD_mid ([.flat (.int .i64 o.index)]) (.flat (.int .i64 o.chain)) ([]) 1 (by simp [bv_length])
  rw [← Pl.split1] at this; simpa using this
theorem Pl.w1 (o : Pl) (x : Int) : putV o.c 1 ([.flat (.int .i64 x)]) = ({ o with chain := x } : Pl).c := by
  have := putV_mid ([.flat (.int .i64 o.index)]) ([.flat (.int .i64 o.chain)]) ([]) ([.flat (.int .i64 x)]) 1 (by simp [bv_length]) (by rw [show ([.flat (.int .i64 x)] : List V).length = 1 from by simp [bv_length], show ([.flat (.int .i64 o.chain)] : List V).length = 1 from by simp [bv_length]])
  rw [← Pl.split1] at this; rw [this]; simp [Pl.c]
theorem Pl.fz (o : Pl) : o.c.map V.fz = o.c := by simp [Pl.c, V.fz, bv_fz]
theorem Pl.own1 (o : Pl) : (∀ z ∈ o.c, noOwnB z = true) = (True) := by
  simp only [Pl.c, List.forall_mem_append, List.forall_mem_singleton, own1_bv]; simp [noOwnB]
theorem Pl.own2 (o : Pl) : (∀ z ∈ o.c, noOwnB z = true ∧ oneB z = true) = (True) := by
  simp only [Pl.c, List.forall_mem_append, List.forall_mem_singleton, own2_bv]; simp [noOwnB, oneB]
theorem Pl.one (o : Pl) : (∀ z ∈ o.c, oneB z = true) = True := eq_true fun z hz => ((of_eq_true (Pl.own2 o)) z hz).2
def Pl.lC (l : List Pl) : List V := (l.map Pl.c).flatten
theorem Pl.l_len (l : List Pl) : (Pl.lC l).length = l.length * 2 := by
  unfold Pl.lC
  rw [flatten_len 2 _ (fun c hc => by obtain ⟨x, _, rfl⟩ := List.mem_map.1 hc; exact Pl.c_len x), List.length_map]
theorem Pl.l_get (l : List Pl) (x : Pl) (i : Nat) (hi : i < l.length) : ((Pl.lC l).drop (i * 2)).take 2 = (l.getD i x).c := by
  unfold Pl.lC
  rw [flat_chunk 2 _ i (fun c hc => by obtain ⟨x, _, rfl⟩ := List.mem_map.1 hc; exact Pl.c_len x) (by simpa using hi)]
  simp [List.getD_eq_getElem?_getD, hi]
theorem Pl.inj (a b : Pl) : a.c.map vlit = b.c.map vlit ↔ a = b := by
  constructor
  · intro h
    cases a; cases b
    simp only [Pl.c, List.map_append, List.map_cons, List.map_nil, List.cons_append, List.nil_append, List.cons.injEq, vlit_int, vlit_bs, vlit_bool, Lit.int.injEq, Lit.string.injEq, Lit.bool.injEq, true_and] at h
    obtain ⟨q0, h0⟩ := h
    obtain ⟨q1, _⟩ := h0
    simp_all [Subtype.ext_iff]
  · rintro rfl; rfl
theorem Pl.eqc (a b : Pl) : eqCells a.c b.c = decide (a = b) := by
  rw [Bool.eq_iff_iff, eqCells_iff, decide_eq_true_iff, Pl.inj]
def Pl.ok (o : Pl) : Prop := inR o.index ∧ inR o.chain
theorem Pl.fit (o : Pl) (h : o.ok) : Fit (([.int .i64]) ++ ([.int .i64])) o.c := by
  obtain ⟨k0, k1⟩ := h
  have := fit_app ((fit_int k0)) ((fit_int k1))
  simpa [Pl.c, List.append_assoc] using this

def pl0 : Pl := ⟨0, 0⟩
theorem Pl.sm : (type_of% @Pl.c_len) ∧ (type_of% @Pl.tk) ∧ (type_of% @Pl.wh) ∧ (type_of% @Pl.r0) ∧ (type_of% @Pl.w0) ∧ (type_of% @Pl.r1) ∧ (type_of% @Pl.w1) ∧ (type_of% @Pl.fz) ∧ (type_of% @Pl.own1) ∧ (type_of% @Pl.own2) ∧ (type_of% @Pl.one) ∧ (type_of% @Pl.eqc) := ⟨@Pl.c_len, @Pl.tk, @Pl.wh, @Pl.r0, @Pl.w0, @Pl.r1, @Pl.w1, @Pl.fz, @Pl.own1, @Pl.own2, @Pl.one, @Pl.eqc⟩
attribute [go_sem] Pl.sm
theorem Pl.flat (o : Pl) : FlatS o.c := by
  unfold Pl.c
  repeat' first | exact FlatS.nil | exact FlatS.bv _ | refine FlatS.cons ?_ | refine FlatS.app ?_ ?_
end Go.VL

set_option linter.unusedVariables false
set_option linter.unusedSimpArgs false
namespace Go.VL

structure Dr where
  k : Int
  key : List UInt8
  val : List UInt8
  ref : Id32
  deriving DecidableEq
def Dr.c (o : Dr) : List V := [.flat (.int .i64 o.k)] ++ ([.flat (.string (bs o.key))] ++ ([.flat (.string (bs o.val))] ++ (bv o.ref.1)))
theorem Dr.c_len (o : Dr) : o.c.length = 35 := by
  simp [Dr.c, bv_length, o.ref.2]
theorem Dr.tk (o : Dr) : o.c.take 35 = o.c := List.take_of_length_le (by rw [Dr.c_len]; omega)
theorem Dr.wh (o p : Dr) : putV o.c 0 p.c = p.c := putV_all (by rw [Dr.c_len, Dr.c_len])
theorem Dr.split0 (o : Dr) : o.c = ([]) ++ (([.flat (.int .i64 o.k)]) ++ ([.flat (.string (bs o.key))] ++ ([.flat (.string (bs o.val))] ++ (bv o.ref.1)))) := by simp [Dr.c]
theorem Dr.r0 (o : Dr) : o.c.getD 0 .unk = .flat (.int .i64 o.k) := by
  have := getD_mid ([]) (.flat (.int .i64 o.k)) ([.flat (.string (bs o.key))] ++ ([.flat (.string (bs o.val))] ++ (bv o.ref.1))) 0 (by simp [bv_length])
  rw [← Dr.split0] at this; simpa using this
theorem Dr.w0 (o : Dr) (x : Int) : putV o.c 0 ([.flat (.int .i64 x)]) = ({ o with k := x } : Dr).c := by
  have := putV_mid ([]) ([.flat (.int .i64 o.k)]) ([.flat (.string (bs o.key))] ++ ([.flat (.string (bs o.val))] ++ (bv o.ref.1))) ([.flat (.int .i64 x)]) 0 (by simp [bv_length]) (by rw [show ([.flat (.int .i64 x)] : List V).length = 1 from by simp [bv_length], show ([.flat (.int .i64 o.k)] : List V).length = 1 from by simp [bv_length]])
  rw [← Dr.split0] at this; rw [this]; simp [Dr.c]
theorem Dr.split1 (o : Dr) : o.c = ([.flat (.int .i64 o.k)]) ++ (([.flat (.string (bs o.key))]) ++ ([.flat (.string (bs o.val))] ++ (bv o.ref.1))) := by simp [Dr.c]
theorem Dr.r1 (o : Dr) : o.c.getD 1 .unk = .flat (.string (bs o.key)) := by
  have := getD_mid ([.flat (.int .i64 o.k)]) (.flat (.string (bs o.key))) ([.flat (.string (bs o.val))] ++ (bv o.ref.1)) 1 (by simp [bv_length])
  rw [← Dr.split1] at this; simpa using this
theorem Dr.w1 (o : Dr) (x : List UInt8) : putV o.c 1 ([.flat (.string (bs x))]) = ({ o with key := x } : Dr).c := by
  have := putV_mid ([.flat (.int .i64 o.k)]) ([.flat (.string (bs o.key))]) ([.flat (.string (bs o.val))] ++ (bv o.ref.1)) ([.flat (.string (bs x))]) 1 (by simp [bv_length]) (by rw [show ([.flat (.string (bs x))] : List V).length = 1 from by simp [bv_length], show ([.flat (.string (bs o.key))] : List V).length = 1 from by simp [bv_length]])
  rw [← Dr.split1] at this; rw [this]; simp [Dr.c]
theorem Dr.split2 (o : Dr) : o.c = ([.flat (.int .i64 o.k)] ++ [.flat (.string (bs o.key))]) ++ (([.flat (.string (bs o.val))]) ++ (bv o.ref.1)) := by simp [Dr.c]
theorem Dr.r2 (o : Dr) : o.c.getD 2 .unk = .flat (.string (bs o.val)) := by
  have := getD_mid ([.flat (.int .i64 o.k)] ++ [.flat (.string (bs o.key))]) (.flat (.string (bs o.val))) (bv o.ref.1) 2 (by simp [bv_length])
  rw [← Dr.split2] at this; simpa using this
theorem Dr.w2 (o : Dr) (x : List UInt8) : putV o.c 2 ([.flat (.string (bs x))]) = ({ o with val := x } : Dr).c := by
  have := putV_mid ([.flat (.int .i64 o.k)] ++ [.flat (.string (bs o.key))]) ([.flat (.string (bs o.val))]) (bv o.ref.1) ([.flat (.string (bs x))]) 2 (by simp [bv_length]) (by rw [show ([.flat (.string (bs x))] : List V).length = 1 from by simp [bv_length], show ([.flat (.string (bs o.val))] : List V).length = 1 from by simp [bv_length]])
  rw [← Dr.split2] at this; rw [this]; simp [Dr.c]
theorem Dr.split3 (o : Dr) : o.c = ([.flat (.int .i64 o.k)] ++ [.flat (.string (bs o.key))] ++ [.flat (.string (bs o.val))]) ++ ((bv o.ref.1) ++ ([])) := by simp [Dr.c]
theorem Dr.r3 (o : Dr) : (o.c.drop 3).take 32 = bv o.ref.1 := by
  have := drop_take_mid ([.flat (.int .i64 o.k)] ++ [.flat (.string (bs o.key))] ++ [.flat (.string (bs o.val))]) (bv o.ref.1) ([]) 3 32 (by simp [bv_length]) (by simp [bv_length, o.ref.2])
  rw [← Dr.split3] at this; simpa using this
theorem Dr.w3 (o : Dr) (x : Id32) : putV o.c 3 (bv x.1) = ({ o with ref := x } : Dr).c := by
  have := putV_mid ([.flat (.int .i64 o.k)] ++ [.flat (.string (bs o.key))] ++ [.flat (.string (bs o.val))]) (bv o.ref.1) ([]) (bv x.1) 3 (by simp [bv_length]) (by rw [show (bv x.1 : List V).length = 32 from by simp [bv_length, x.2], show (bv o.ref.1 : List V).length = 32 from by simp [bv_length, o.ref.2]])
  rw [← Dr.split3] at this; rw [this]; simp [Dr.c]
theorem Dr.fz (o : Dr) : o.c.map V.fz = o.c := by simp [Dr.c, V.fz, bv_fz]
theorem Dr.own1 (o : Dr) : (∀ z ∈ o.c, noOwnB z = true) = (True) := by
  simp only [Dr.c, List.forall_mem_append, List.forall_mem_singleton, own1_bv]; simp [noOwnB]
theorem Dr.own2 (o : Dr) : (∀ z ∈ o.c, noOwnB z = true ∧ oneB z = true) = (True) := by
  simp only [Dr.c, List.forall_mem_append, List.forall_mem_singleton, own2_bv]; simp [noOwnB, oneB]
theorem Dr.one (o : Dr) : (∀ z ∈ o.c, oneB z = true) = True := eq_true fun z hz => ((of_eq_true (Dr.own2 o)) z hz).2
def Dr.lC (l : List Dr) : List V := (l.map Dr.c).flatten
theorem Dr.l_len (l : List Dr) : (Dr.lC l).length = l.length * 35 := by
  unfold Dr.lC
  rw [flatten_len 35 _ (fun c hc => by obtain ⟨x, _, rfl⟩ := List.mem_map.1 hc; exact Dr.c_len x), List.length_map]
theorem Dr.l_get (l : List Dr) (x : Dr) (i : Nat) (hi : i < l.length) : ((Dr.lC l).drop (i * 35)).take 35 = (l.getD i x).c := by
  unfold Dr.lC
  rw [flat_chunk 35 _ i (fun c hc => by obtain ⟨x, _, rfl⟩ := List.mem_map.1 hc; exact Dr.c_len x) (by simpa using hi)]
  simp [List.getD_eq_getElem?_getD, hi]
theorem Dr.inj (a b : Dr) : a.c.map vlit = b.c.map vlit ↔ a = b := by
  constructor
  · intro h
    cases a; cases b
    simp only [Dr.c, List.map_append, List.map_cons, List.map_nil, List.cons_append, List.nil_append, List.cons.injEq, vlit_int, vlit_bs, vlit_bool, Lit.int.injEq, Lit.string.injEq, Lit.bool.injEq, true_and] at h
    obtain ⟨q0, h0⟩ := h
    obtain ⟨q1, h1⟩ := h0
    obtain ⟨q2, h2⟩ := h1
    have q3 := (vlit_bv _ _).1 h2
    simp_all [Subtype.ext_iff]
  · rintro rfl; rfl
theorem Dr.eqc (a b : Dr) : eqCells a.c b.c = decide (a = b) := by
  rw [Bool.eq_iff_iff, eqCells_iff, decide_eq_true_iff, Dr.inj]
def Dr.ok (o : Dr) : Prop := inR o.k ∧ o.key.length ≤ 140737488351232 ∧ o.val.length ≤ 140737488351232
theorem Dr.fit (o : Dr) (h : o.ok) : Fit (([.int .i64]) ++ ([.str]) ++ ([.str]) ++ (List.replicate 32 (.int .u8))) o.c := by
  obtain ⟨k0, k1, k2⟩ := h
  have := fit_app ((fit_int k0)) (fit_app ((fit_str k1)) (fit_app ((fit_str k2)) (((fit_bv _ _ o.ref.2)))))
  simpa [Dr.c, List.append_assoc] using this

structure OpR where
  d : Dr
  a : Int
  dep : Int
  preds : V
def OpR.c (o : OpR) : List V := o.d.c ++ ([.flat (.int .i64 o.a)] ++ ([.flat (.int .i64 o.dep)] ++ ([o.preds])))
theorem OpR.c_len (o : OpR) : o.c.length = 38 := by
  simp [OpR.c, Dr.c_len, bv_length]
theorem OpR.tk (o : OpR) : o.c.take 38 = o.c := List.take_of_length_le (by rw [OpR.c_len]; omega)
theorem OpR.wh (o p : OpR) : putV o.c 0 p.c = p.c := putV_all (by rw [OpR.c_len, OpR.c_len])
theorem OpR.split0 (o : OpR) : o.c = ([]) ++ ((o.d.c) ++ ([.flat (.int .i64 o.a)] ++ ([.flat (.int .i64 o.dep)] ++ ([o.preds])))) := by simp [OpR.c]
theorem OpR.r0 (o : OpR) : o.c.take 35 = o.d.c := by
  have := drop_take_mid ([]) (o.d.c) ([.flat (.int .i64 o.a)] ++ ([.flat (.int .i64 o.dep)] ++ ([o.preds]))) 0 35 (by simp [Dr.c_len, bv_length]) (by simp [Dr.c_len, bv_length])
  rw [← OpR.split0] at this; simpa using this
theorem OpR.w0 (o : OpR) (x : Dr) : putV o.c 0 (x.c) = ({ o with d := x } : OpR).c := by
  have := putV_mid ([]) (o.d.c) ([.flat (.int .i64 o.a)] ++ ([.flat (.int .i64 o.dep)] ++ ([o.preds]))) (x.c) 0 (by simp [Dr.c_len, bv_length]) (by rw [show (x.c : List V).length = 35 from by simp [Dr.c_len, bv_length], show (o.d.c : List V).length = 35 from by simp [Dr.c_len, bv_length]])
  rw [← OpR.split0] at this; rw [this]; simp [OpR.c]
theorem OpR.r0_0 (o : OpR) : o.c.getD 0 .unk = .flat (.int .i64 o.d.k) := by
  have := getD_in o.c 0 35 0 (by omega)
  rw [this, show (o.c.drop 0).take 35 = o.d.c from by simpa using OpR.r0 o]; exact Dr.r0 _
theorem OpR.r0_1 (o : OpR) : o.c.getD 1 .unk = .flat (.string (bs o.d.key)) := by
  have := getD_in o.c 0 35 1 (by omega)
  rw [this, show (o.c.drop 0).take 35 = o.d.c from by simpa using OpR.r0 o]; exact Dr.r1 _
theorem OpR.r0_2 (o : OpR) : o.c.getD 2 .unk = .flat (.string (bs o.d.val)) := by
  have := getD_in o.c 0 35 2 (by omega)
  rw [this, show (o.c.drop 0).take 35 = o.d.c from by simpa using OpR.r0 o]; exact Dr.r2 _
theorem OpR.r0_3 (o : OpR) : (o.c.drop 3).take 32 = bv o.d.ref.1 := by
  have := drop_take_in o.c 0 35 3 32 (by omega)
  rw [this, show (o.c.drop 0).take 35 = o.d.c from by simpa using OpR.r0 o]; exact Dr.r3 _
theorem OpR.split1 (o : OpR) : o.c = (o.d.c) ++ (([.flat (.int .i64 o.a)]) ++ ([.flat (.int .i64 o.dep)] ++ ([o.preds]))) := by simp [OpR.c]
theorem OpR.r1 (o : OpR) : o.c.getD 35 .unk = .flat (.int .i64 o.a) := by
  have := getD_mid (o.d.c) (.flat (.int .i64 o.a)) ([.flat (.int .i64 o.dep)] ++ ([o.preds])) 35 (by simp [Dr.c_len, bv_length])
  rw [← OpR.split1] at this; simpa using this
theorem OpR.w1 (o : OpR) (x : Int) : putV o.c 35 ([.flat (.int .i64 x)]) = ({ o with a := x } : OpR).c := by
  have := putV_mid (o.d.c) ([.flat (.int .i64 o.a)]) ([.flat (.int .i64 o.dep)] ++ ([o.preds])) ([.flat (.int .i64 x)]) 35 (by simp [Dr.c_len, bv_length]) (by rw [show ([.flat (.int .i64 x)] : List V).length = 1 from by simp [Dr.c_len, bv_length], show ([.flat (.int .i64 o.a)] : List V).length = 1 from by simp [Dr.c_len, bv_length]])
  rw [← OpR.split1] at this; rw [this]; simp [OpR.c]
theorem OpR.split2 (o : OpR) : o.c = (o.d.c ++ [.flat (.int .i64 o.a)]) ++ (([.flat (.int .i64 o.dep)]) ++ ([o.preds])) := by simp [OpR.c]
theorem OpR.r2 (o : OpR) : o.c.getD 36 .unk = .flat (.int .i64 o.dep) := by
  have := getD_mid (o.d.c ++ [.flat (.int .i64 o.a)]) (.flat (.int .i64 o.dep)) ([o.preds]) 36 (by simp [Dr.c_len, bv_length])
  rw [← OpR.split2] at this; simpa using this
theorem OpR.w2 (o : OpR) (x : Int) : putV o.c 36 ([.flat (.int .i64 x)]) = ({ o with dep := x } : OpR).c := by
  have := putV_mid (o.d.c ++ [.flat (.int .i64 o.a)]) ([.flat (.int .i64 o.dep)]) ([o.preds]) ([.flat (.int .i64 x)]) 36 (by simp [Dr.c_len, bv_length]) (by rw [show ([.flat (.int .i64 x)] : List V).length = 1 from by simp [Dr.c_len, bv_length], show ([.flat (.int .i64 o.dep)] : List V).length = 1 from by simp [Dr.c_len, bv_length]])
  rw [← OpR.split2] at this; rw [this]; simp [OpR.c]
theorem OpR.split3 (o : OpR) : o.c = (o.d.c ++ [.flat (.int .i64 o.a)] ++ [.flat (.int .i64 o.dep)]) ++ (([o.preds]) ++ ([])) := by simp [OpR.c]
theorem OpR.r3 (o : OpR) : o.c.getD 37 .unk = o.preds := by
  have := getD_mid (o.d.c ++ [.flat (.int .i64 o.a)] ++ [.flat (.int .i64 o.dep)]) (o.preds) ([]) 37 (by simp [Dr.c_len, bv_length])
  rw [← OpR.split3] at this; simpa using this
theorem OpR.w3 (o : OpR) (x : V) : putV o.c 37 ([x]) = ({ o with preds := x } : OpR).c := by
  have := putV_mid (o.d.c ++ [.flat (.int .i64 o.a)] ++ [.flat (.int .i64 o.dep)]) ([o.preds]) ([]) ([x]) 37 (by simp [Dr.c_len, bv_length]) (by rw [show ([x] : List V).length = 1 from by simp [Dr.c_len, bv_length], show ([o.preds] : List V).length = 1 from by simp [Dr.c_len, bv_length]])
  rw [← OpR.split3] at this; rw [this]; simp [OpR.c]
def OpR.z (o : OpR) : OpR := { o with preds := o.preds.fz }
theorem OpR.fz (o : OpR) : o.c.map V.fz = o.z.c := by simp [OpR.c, V.fz, bv_fz, Dr.fz, OpR.z]
theorem OpR.own1 (o : OpR) : (∀ z ∈ o.c, noOwnB z = true) = (noOwnB o.preds = true) := by
  simp only [OpR.c, List.forall_mem_append, List.forall_mem_singleton, own1_bv, Dr.own1]; simp [noOwnB]
theorem OpR.own2 (o : OpR) : (∀ z ∈ o.c, noOwnB z = true ∧ oneB z = true) = (noOwnB o.preds = true ∧ oneB o.preds = true) := by
  simp only [OpR.c, List.forall_mem_append, List.forall_mem_singleton, own2_bv, Dr.own2]; simp [noOwnB, oneB]

structure Ou where
  mask : Int
  pay : List UInt8
  deriving DecidableEq
def Ou.c (o : Ou) : List V := [.flat (.int .i64 o.mask)] ++ ([.flat (.string (bs o.pay))])
theorem Ou.c_len (o : Ou) : o.c.length = 2 := by
  simp [Ou.c, bv_length]
theorem Ou.tk (o : Ou) : o.c.take 2 = o.c := List.take_of_length_le (by rw [Ou.c_len]; omega)
theorem Ou.wh (o p : Ou) : putV o.c 0 p.c = p.c := putV_all (by rw [Ou.c_len, Ou.c_len])
theorem Ou.split0 (o : Ou) : o.c = ([]) ++ (([.flat (.int .i64 o.mask)]) ++ ([.flat (.string (bs o.pay))])) := by simp [Ou.c]
theorem Ou.r0 (o : Ou) : o.c.getD 0 .unk = .flat (.int .i64 o.mask) := by
  have := getD_mid ([]) (.flat (.int .i64 o.mask)) ([.flat (.string (bs o.pay))]) 0 (by simp [bv_length])
  rw [← Ou.split0] at this; simpa using this
theorem Ou.w0 (o : Ou) (x : Int) : putV o.c 0 ([.flat (.int .i64 x)]) = ({ o with mask := x } : Ou).c := by
  have := putV_mid ([]) ([.flat (.int .i64 o.mask)]) ([.flat (.string (bs o.pay))]) ([.flat (.int .i64 x)]) 0 (by simp [bv_length]) (by rw [show ([.flat (.int .i64 x)] : List V).length = 1 from by simp [bv_length], show ([.flat (.int .i64 o.mask)] : List V).length = 1 from by simp [bv_length]])
  rw [← Ou.split0] at this; rw [this]; simp [Ou.c]
theorem Ou.split1 (o : Ou) : o.c = ([.flat (.int .i64 o.mask)]) ++ (([.flat (.string (bs o.pay))]) ++ ([])) := by simp [Ou.c]
theorem Ou.r1 (o : Ou) : o.c.getD 1 .unk = .flat (.string (bs o.pay)) := by
  have := getD_mid ([.flat (.int .i64 o.mask)]) (.flat (.string (bs o.pay))) ([]) 1 (by simp [bv_length])
  rw [← Ou.split1] at this; simpa using this
theorem Ou.w1 (o : Ou) (x : List UInt8) : putV o.c 1 ([.flat (.string (bs x))]) = ({ o with pay := x } : Ou).c := by
  have := putV_mid ([.flat (.int .i64 o.mask)]) ([.flat (.string (bs o.pay))]) ([]) ([.flat (.string (bs x))]) 1 (by simp [bv_length]) (by rw [show ([.flat (.string (bs x))] : List V).length = 1 from by simp [bv_length], show ([.flat (.string (bs o.pay))] : List V).length = 1 from by simp [bv_length]])
  rw [← Ou.split1] at this; rw [this]; simp [Ou.c]
theorem Ou.fz (o : Ou) : o.c.map V.fz = o.c := by simp [Ou.c, V.fz, bv_fz]
theorem Ou.own1 (o : Ou) : (∀ z ∈ o.c, noOwnB z = true) = (True) := by
  simp only [Ou.c, List.forall_mem_append, List.forall_mem_singleton, own1_bv]; simp [noOwnB]
theorem Ou.own2 (o : Ou) : (∀ z ∈ o.c, noOwnB z = true ∧ oneB z = true) = (True) := by
  simp only [Ou.c, List.forall_mem_append, List.forall_mem_singleton, own2_bv]; simp [noOwnB, oneB]
theorem Ou.one (o : Ou) : (∀ z ∈ o.c, oneB z = true) = True := eq_true fun z hz => ((of_eq_true (Ou.own2 o)) z hz).2
def Ou.lC (l : List Ou) : List V := (l.map Ou.c).flatten
theorem Ou.l_len (l : List Ou) : (Ou.lC l).length = l.length * 2 := by
  unfold Ou.lC
  rw [flatten_len 2 _ (fun c hc => by obtain ⟨x, _, rfl⟩ := List.mem_map.1 hc; exact Ou.c_len x), List.length_map]
theorem Ou.l_get (l : List Ou) (x : Ou) (i : Nat) (hi : i < l.length) : ((Ou.lC l).drop (i * 2)).take 2 = (l.getD i x).c := by
  unfold Ou.lC
  rw [flat_chunk 2 _ i (fun c hc => by obtain ⟨x, _, rfl⟩ := List.mem_map.1 hc; exact Ou.c_len x) (by simpa using hi)]
  simp [List.getD_eq_getElem?_getD, hi]
theorem Ou.inj (a b : Ou) : a.c.map vlit = b.c.map vlit ↔ a = b := by
  constructor
  · intro h
    cases a; cases b
    simp only [Ou.c, List.map_append, List.map_cons, List.map_nil, List.cons_append, List.nil_append, List.cons.injEq, vlit_int, vlit_bs, vlit_bool, Lit.int.injEq, Lit.string.injEq, Lit.bool.injEq, true_and] at h
    obtain ⟨q0, h0⟩ := h
    obtain ⟨q1, _⟩ := h0
    simp_all [Subtype.ext_iff]
  · rintro rfl; rfl
theorem Ou.eqc (a b : Ou) : eqCells a.c b.c = decide (a = b) := by
  rw [Bool.eq_iff_iff, eqCells_iff, decide_eq_true_iff, Ou.inj]
def Ou.ok (o : Ou) : Prop := inR o.mask ∧ o.pay.length ≤ 140737488351232
theorem Ou.fit (o : Ou) (h : o.ok) : Fit (([.int .i64]) ++ ([.str])) o.c := by
  obtain ⟨k0, k1⟩ := h
  have := fit_app ((fit_int k0)) ((fit_str k1))
  simpa [Ou.c, List.append_assoc] using this

structure Ent where
  kind : Int
  d : Dr
  from_ : Int
  seq : Int
  prev : Id32
  mask : Int
  pay : List UInt8
  sig : List UInt8
  deriving DecidableEq
def Ent.c (o : Ent) : List V := [.flat (.int .i64 o.kind)] ++ (o.d.c ++ ([.flat (.int .i64 o.from_)] ++ ([.flat (.int .i64 o.seq)] ++ (bv o.prev.1 ++ ([.flat (.int .i64 o.mask)] ++ ([.flat (.string (bs o.pay))] ++ ([.flat (.string (bs o.sig))])))))))
theorem Ent.c_len (o : Ent) : o.c.length = 73 := by
  simp [Ent.c, Dr.c_len, bv_length, o.prev.2]
theorem Ent.tk (o : Ent) : o.c.take 73 = o.c := List.take_of_length_le (by rw [Ent.c_len]; omega)
theorem Ent.wh (o p : Ent) : putV o.c 0 p.c = p.c := putV_all (by rw [Ent.c_len, Ent.c_len])
theorem Ent.split0 (o : Ent) : o.c = ([]) ++ (([.flat (.int .i64 o.kind)]) ++ (o.d.c ++ ([.flat (.int .i64 o.from_)] ++ ([.flat (.int .i64 o.seq)] ++ (bv o.prev.1 ++ ([.flat (.int .i64 o.mask)] ++ ([.flat (.string (bs o.pay))] ++ ([.flat (.string (bs o.sig))])))))))) := by simp [Ent.c]
theorem Ent.r0 (o : Ent) : o.c.getD 0 .unk = .flat (.int .i64 o.kind) := by
  have := getD_mid ([]) (.flat (.int .i64 o.kind)) (o.d.c ++ ([.flat (.int .i64 o.from_)] ++ ([.flat (.int .i64 o.seq)] ++ (bv o.prev.1 ++ ([.flat (.int .i64 o.mask)] ++ ([.flat (.string (bs o.pay))] ++ ([.flat (.string (bs o.sig))]))))))) 0 (by simp [Dr.c_len, bv_length])
  rw [← Ent.split0] at this; simpa using this
theorem Ent.w0 (o : Ent) (x : Int) : putV o.c 0 ([.flat (.int .i64 x)]) = ({ o with kind := x } : Ent).c := by
  have := putV_mid ([]) ([.flat (.int .i64 o.kind)]) (o.d.c ++ ([.flat (.int .i64 o.from_)] ++ ([.flat (.int .i64 o.seq)] ++ (bv o.prev.1 ++ ([.flat (.int .i64 o.mask)] ++ ([.flat (.string (bs o.pay))] ++ ([.flat (.string (bs o.sig))]))))))) ([.flat (.int .i64 x)]) 0 (by simp [Dr.c_len, bv_length]) (by rw [show ([.flat (.int .i64 x)] : List V).length = 1 from by simp [Dr.c_len, bv_length], show ([.flat (.int .i64 o.kind)] : List V).length = 1 from by simp [Dr.c_len, bv_length]])
  rw [← Ent.split0] at this; rw [this]; simp [Ent.c]
theorem Ent.split1 (o : Ent) : o.c = ([.flat (.int .i64 o.kind)]) ++ ((o.d.c) ++ ([.flat (.int .i64 o.from_)] ++ ([.flat (.int .i64 o.seq)] ++ (bv o.prev.1 ++ ([.flat (.int .i64 o.mask)] ++ ([.flat (.string (bs o.pay))] ++ ([.flat (.string (bs o.sig))]))))))) := by simp [Ent.c]
theorem Ent.r1 (o : Ent) : (o.c.drop 1).take 35 = o.d.c := by
  have := drop_take_mid ([.flat (.int .i64 o.kind)]) (o.d.c) ([.flat (.int .i64 o.from_)] ++ ([.flat (.int .i64 o.seq)] ++ (bv o.prev.1 ++ ([.flat (.int .i64 o.mask)] ++ ([.flat (.string (bs o.pay))] ++ ([.flat (.string (bs o.sig))])))))) 1 35 (by simp [Dr.c_len, bv_length]) (by simp [Dr.c_len, bv_length])
  rw [← Ent.split1] at this; simpa using this
theorem Ent.w1 (o : Ent) (x : Dr) : putV o.c 1 (x.c) = ({ o with d := x } : Ent).c := by
  have := putV_mid ([.flat (.int .i64 o.kind)]) (o.d.c) ([.flat (.int .i64 o.from_)] ++ ([.flat (.int .i64 o.seq)] ++ (bv o.prev.1 ++ ([.flat (.int .i64 o.mask)] ++ ([.flat (.string (bs o.pay))] ++ ([.flat (.string (bs o.sig))])))))) (x.c) 1 (by simp [Dr.c_len, bv_length]) (by rw [show (x.c : List V).length = 35 from by simp [Dr.c_len, bv_length], show (o.d.c : List V).length = 35 from by simp [Dr.c_len, bv_length]])
  rw [← Ent.split1] at this; rw [this]; simp [Ent.c]
theorem Ent.r1_0 (o : Ent) : o.c.getD 1 .unk = .flat (.int .i64 o.d.k) := by
  have := getD_in o.c 1 35 0 (by omega)
  rw [this, show (o.c.drop 1).take 35 = o.d.c from by simpa using Ent.r1 o]; exact Dr.r0 _
theorem Ent.r1_1 (o : Ent) : o.c.getD 2 .unk = .flat (.string (bs o.d.key)) := by
  have := getD_in o.c 1 35 1 (by omega)
  rw [this, show (o.c.drop 1).take 35 = o.d.c from by simpa using Ent.r1 o]; exact Dr.r1 _
theorem Ent.r1_2 (o : Ent) : o.c.getD 3 .unk = .flat (.string (bs o.d.val)) := by
  have := getD_in o.c 1 35 2 (by omega)
  rw [this, show (o.c.drop 1).take 35 = o.d.c from by simpa using Ent.r1 o]; exact Dr.r2 _
theorem Ent.r1_3 (o : Ent) : (o.c.drop 4).take 32 = bv o.d.ref.1 := by
  have := drop_take_in o.c 1 35 3 32 (by omega)
  rw [this, show (o.c.drop 1).take 35 = o.d.c from by simpa using Ent.r1 o]; exact Dr.r3 _
theorem Ent.split2 (o : Ent) : o.c = ([.flat (.int .i64 o.kind)] ++ o.d.c) ++ (([.flat (.int .i64 o.from_)]) ++ ([.flat (.int .i64 o.seq)] ++ (bv o.prev.1 ++ ([.flat (.int .i64 o.mask)] ++ ([.flat (.string (bs o.pay))] ++ ([.flat (.string (bs o.sig))])))))) := by simp [Ent.c]
theorem Ent.r2 (o : Ent) : o.c.getD 36 .unk = .flat (.int .i64 o.from_) := by
  have := getD_mid ([.flat (.int .i64 o.kind)] ++ o.d.c) (.flat (.int .i64 o.from_)) ([.flat (.int .i64 o.seq)] ++ (bv o.prev.1 ++ ([.flat (.int .i64 o.mask)] ++ ([.flat (.string (bs o.pay))] ++ ([.flat (.string (bs o.sig))]))))) 36 (by simp [Dr.c_len, bv_length])
  rw [← Ent.split2] at this; simpa using this
theorem Ent.w2 (o : Ent) (x : Int) : putV o.c 36 ([.flat (.int .i64 x)]) = ({ o with from_ := x } : Ent).c := by
  have := putV_mid ([.flat (.int .i64 o.kind)] ++ o.d.c) ([.flat (.int .i64 o.from_)]) ([.flat (.int .i64 o.seq)] ++ (bv o.prev.1 ++ ([.flat (.int .i64 o.mask)] ++ ([.flat (.string (bs o.pay))] ++ ([.flat (.string (bs o.sig))]))))) ([.flat (.int .i64 x)]) 36 (by simp [Dr.c_len, bv_length]) (by rw [show ([.flat (.int .i64 x)] : List V).length = 1 from by simp [Dr.c_len, bv_length], show ([.flat (.int .i64 o.from_)] : List V).length = 1 from by simp [Dr.c_len, bv_length]])
  rw [← Ent.split2] at this; rw [this]; simp [Ent.c]
theorem Ent.split3 (o : Ent) : o.c = ([.flat (.int .i64 o.kind)] ++ o.d.c ++ [.flat (.int .i64 o.from_)]) ++ (([.flat (.int .i64 o.seq)]) ++ (bv o.prev.1 ++ ([.flat (.int .i64 o.mask)] ++ ([.flat (.string (bs o.pay))] ++ ([.flat (.string (bs o.sig))]))))) := by simp [Ent.c]
theorem Ent.r3 (o : Ent) : o.c.getD 37 .unk = .flat (.int .i64 o.seq) := by
  have := getD_mid ([.flat (.int .i64 o.kind)] ++ o.d.c ++ [.flat (.int .i64 o.from_)]) (.flat (.int .i64 o.seq)) (bv o.prev.1 ++ ([.flat (.int .i64 o.mask)] ++ ([.flat (.string (bs o.pay))] ++ ([.flat (.string (bs o.sig))])))) 37 (by simp [Dr.c_len, bv_length])
  rw [← Ent.split3] at this; simpa using this
theorem Ent.w3 (o : Ent) (x : Int) : putV o.c 37 ([.flat (.int .i64 x)]) = ({ o with seq := x } : Ent).c := by
  have := putV_mid ([.flat (.int .i64 o.kind)] ++ o.d.c ++ [.flat (.int .i64 o.from_)]) ([.flat (.int .i64 o.seq)]) (bv o.prev.1 ++ ([.flat (.int .i64 o.mask)] ++ ([.flat (.string (bs o.pay))] ++ ([.flat (.string (bs o.sig))])))) ([.flat (.int .i64 x)]) 37 (by simp [Dr.c_len, bv_length]) (by rw [show ([.flat (.int .i64 x)] : List V).length = 1 from by simp [Dr.c_len, bv_length], show ([.flat (.int .i64 o.seq)] : List V).length = 1 from by simp [Dr.c_len, bv_length]])
  rw [← Ent.split3] at this; rw [this]; simp [Ent.c]
theorem Ent.split4 (o : Ent) : o.c = ([.flat (.int .i64 o.kind)] ++ o.d.c ++ [.flat (.int .i64 o.from_)] ++ [.flat (.int .i64 o.seq)]) ++ ((bv o.prev.1) ++ ([.flat (.int .i64 o.mask)] ++ ([.flat (.string (bs o.pay))] ++ ([.flat (.string (bs o.sig))])))) := by simp [Ent.c]
theorem Ent.r4 (o : Ent) : (o.c.drop 38).take 32 = bv o.prev.1 := by
  have := drop_take_mid ([.flat (.int .i64 o.kind)] ++ o.d.c ++ [.flat (.int .i64 o.from_)] ++ [.flat (.int .i64 o.seq)]) (bv o.prev.1) ([.flat (.int .i64 o.mask)] ++ ([.flat (.string (bs o.pay))] ++ ([.flat (.string (bs o.sig))]))) 38 32 (by simp [Dr.c_len, bv_length]) (by simp [Dr.c_len, bv_length, o.prev.2])
  rw [← Ent.split4] at this; simpa using this
theorem Ent.w4 (o : Ent) (x : Id32) : putV o.c 38 (bv x.1) = ({ o with prev := x } : Ent).c := by
  have := putV_mid ([.flat (.int .i64 o.kind)] ++ o.d.c ++ [.flat (.int .i64 o.from_)] ++ [.flat (.int .i64 o.seq)]) (bv o.prev.1) ([.flat (.int .i64 o.mask)] ++ ([.flat (.string (bs o.pay))] ++ ([.flat (.string (bs o.sig))]))) (bv x.1) 38 (by simp [Dr.c_len, bv_length]) (by rw [show (bv x.1 : List V).length = 32 from by simp [Dr.c_len, bv_length, x.2], show (bv o.prev.1 : List V).length = 32 from by simp [Dr.c_len, bv_length, o.prev.2]])
  rw [← Ent.split4] at this; rw [this]; simp [Ent.c]
theorem Ent.split5 (o : Ent) : o.c = ([.flat (.int .i64 o.kind)] ++ o.d.c ++ [.flat (.int .i64 o.from_)] ++ [.flat (.int .i64 o.seq)] ++ bv o.prev.1) ++ (([.flat (.int .i64 o.mask)]) ++ ([.flat (.string (bs o.pay))] ++ ([.flat (.string (bs o.sig))]))) := by simp [Ent.c]
theorem Ent.r5 (o : Ent) : o.c.getD 70 .unk = .flat (.int .i64 o.mask) := by
  have := getD_mid ([.flat (.int .i64 o.kind)] ++ o.d.c ++ [.flat (.int .i64 o.from_)] ++ [.flat (.int .i64 o.seq)] ++ bv o.prev.1) (.flat (.int .i64 o.mask)) ([.flat (.string (bs o.pay))] ++ ([.flat (.string (bs o.sig))])) 70 (by simp [Dr.c_len, bv_length, o.prev.2])
  rw [← Ent.split5] at this; simpa using this
theorem Ent.w5 (o : Ent) (x : Int) : putV o.c 70 ([.flat (.int .i64 x)]) = ({ o with mask := x } : Ent).c := by
  have := putV_mid ([.flat (.int .i64 o.kind)] ++ o.d.c ++ [.flat (.int .i64 o.from_)] ++ [.flat (.int .i64 o.seq)] ++ bv o.prev.1) ([.flat (.int .i64 o.mask)]) ([.flat (.string (bs o.pay))] ++ ([.flat (.string (bs o.sig))])) ([.flat (.int .i64 x)]) 70 (by simp [Dr.c_len, bv_length, o.prev.2]) (by rw [show ([.flat (.int .i64 x)] : List V).length = 1 from by simp [Dr.c_len, bv_length], show ([.flat (.int .i64 o.mask)] : List V).length = 1 from by simp [Dr.c_len, bv_length]])
  rw [← Ent.split5] at this; rw [this]; simp [Ent.c]
theorem Ent.split6 (o : Ent) : o.c = ([.flat (.int .i64 o.kind)] ++ o.d.c ++ [.flat (.int .i64 o.from_)] ++ [.flat (.int .i64 o.seq)] ++ bv o.prev.1 ++ [.flat (.int .i64 o.mask)]) ++ (([.flat (.string (bs o.pay))]) ++ ([.flat (.string (bs o.sig))])) := by simp [Ent.c]
theorem Ent.r6 (o : Ent) : o.c.getD 71 .unk = .flat (.string (bs o.pay)) := by
  have := getD_mid ([.flat (.int .i64 o.kind)] ++ o.d.c ++ [.flat (.int .i64 o.from_)] ++ [.flat (.int .i64 o.seq)] ++ bv o.prev.1 ++ [.flat (.int .i64 o.mask)]) (.flat (.string (bs o.pay))) ([.flat (.string (bs o.sig))]) 71 (by simp [Dr.c_len, bv_length, o.prev.2])
  rw [← Ent.split6] at this; simpa using this
theorem Ent.w6 (o : Ent) (x : List UInt8) : putV o.c 71 ([.flat (.string (bs x))]) = ({ o with pay := x } : Ent).c := by
  have := putV_mid ([.flat (.int .i64 o.kind)] ++ o.d.c ++ [.flat (.int .i64 o.from_)] ++ [.flat (.int .i64 o.seq)] ++ bv o.prev.1 ++ [.flat (.int .i64 o.mask)]) ([.flat (.string (bs o.pay))]) ([.flat (.string (bs o.sig))]) ([.flat (.string (bs x))]) 71 (by simp [Dr.c_len, bv_length, o.prev.2]) (by rw [show ([.flat (.string (bs x))] : List V).length = 1 from by simp [Dr.c_len, bv_length], show ([.flat (.string (bs o.pay))] : List V).length = 1 from by simp [Dr.c_len, bv_length]])
  rw [← Ent.split6] at this; rw [this]; simp [Ent.c]
theorem Ent.split7 (o : Ent) : o.c = ([.flat (.int .i64 o.kind)] ++ o.d.c ++ [.flat (.int .i64 o.from_)] ++ [.flat (.int .i64 o.seq)] ++ bv o.prev.1 ++ [.flat (.int .i64 o.mask)] ++ [.flat (.string (bs o.pay))]) ++ (([.flat (.string (bs o.sig))]) ++ ([])) := by simp [Ent.c]
theorem Ent.r7 (o : Ent) : o.c.getD 72 .unk = .flat (.string (bs o.sig)) := by
  have := getD_mid ([.flat (.int .i64 o.kind)] ++ o.d.c ++ [.flat (.int .i64 o.from_)] ++ [.flat (.int .i64 o.seq)] ++ bv o.prev.1 ++ [.flat (.int .i64 o.mask)] ++ [.flat (.string (bs o.pay))]) (.flat (.string (bs o.sig))) ([]) 72 (by simp [Dr.c_len, bv_length, o.prev.2])
  rw [← Ent.split7] at this; simpa using this
theorem Ent.w7 (o : Ent) (x : List UInt8) : putV o.c 72 ([.flat (.string (bs x))]) = ({ o with sig := x } : Ent).c := by
  have := putV_mid ([.flat (.int .i64 o.kind)] ++ o.d.c ++ [.flat (.int .i64 o.from_)] ++ [.flat (.int .i64 o.seq)] ++ bv o.prev.1 ++ [.flat (.int .i64 o.mask)] ++ [.flat (.string (bs o.pay))]) ([.flat (.string (bs o.sig))]) ([]) ([.flat (.string (bs x))]) 72 (by simp [Dr.c_len, bv_length, o.prev.2]) (by rw [show ([.flat (.string (bs x))] : List V).length = 1 from by simp [Dr.c_len, bv_length], show ([.flat (.string (bs o.sig))] : List V).length = 1 from by simp [Dr.c_len, bv_length]])
  rw [← Ent.split7] at this; rw [this]; simp [Ent.c]
theorem Ent.fz (o : Ent) : o.c.map V.fz = o.c := by simp [Ent.c, V.fz, bv_fz, Dr.fz]
theorem Ent.own1 (o : Ent) : (∀ z ∈ o.c, noOwnB z = true) = (True) := by
  simp only [Ent.c, List.forall_mem_append, List.forall_mem_singleton, own1_bv, Dr.own1]; simp [noOwnB]
theorem Ent.own2 (o : Ent) : (∀ z ∈ o.c, noOwnB z = true ∧ oneB z = true) = (True) := by
  simp only [Ent.c, List.forall_mem_append, List.forall_mem_singleton, own2_bv, Dr.own2]; simp [noOwnB, oneB]
theorem Ent.one (o : Ent) : (∀ z ∈ o.c, oneB z = true) = True := eq_true fun z hz => ((of_eq_true (Ent.own2 o)) z hz).2
def Ent.lC (l : List Ent) : List V := (l.map Ent.c).flatten
theorem Ent.l_len (l : List Ent) : (Ent.lC l).length = l.length * 73 := by
  unfold Ent.lC
  rw [flatten_len 73 _ (fun c hc => by obtain ⟨x, _, rfl⟩ := List.mem_map.1 hc; exact Ent.c_len x), List.length_map]
theorem Ent.l_get (l : List Ent) (x : Ent) (i : Nat) (hi : i < l.length) : ((Ent.lC l).drop (i * 73)).take 73 = (l.getD i x).c := by
  unfold Ent.lC
  rw [flat_chunk 73 _ i (fun c hc => by obtain ⟨x, _, rfl⟩ := List.mem_map.1 hc; exact Ent.c_len x) (by simpa using hi)]
  simp [List.getD_eq_getElem?_getD, hi]
theorem Ent.inj (a b : Ent) : a.c.map vlit = b.c.map vlit ↔ a = b := by
  constructor
  · intro h
    cases a; cases b
    simp only [Ent.c, List.map_append, List.map_cons, List.map_nil, List.cons_append, List.nil_append, List.cons.injEq, vlit_int, vlit_bs, vlit_bool, Lit.int.injEq, Lit.string.injEq, Lit.bool.injEq, true_and] at h
    obtain ⟨q0, h0⟩ := h
    obtain ⟨p1, h1⟩ := List.append_inj h0 (by simp [Dr.c_len])
    have q1 := (Dr.inj _ _).1 p1
    simp only [List.cons.injEq, Lit.int.injEq, Lit.string.injEq, Lit.bool.injEq, true_and] at h1
    obtain ⟨q2, h2⟩ := h1
    obtain ⟨q3, h3⟩ := h2
    obtain ⟨p4, h4⟩ := List.append_inj h3 (by simp [bv_length, id_len32, id_len16])
    have q4 := (vlit_bv _ _).1 p4
    simp only [List.cons.injEq, Lit.int.injEq, Lit.string.injEq, Lit.bool.injEq, true_and] at h4
    obtain ⟨q5, h5⟩ := h4
    obtain ⟨q6, h6⟩ := h5
    obtain ⟨q7, _⟩ := h6
    simp_all [Subtype.ext_iff]
  · rintro rfl; rfl
theorem Ent.eqc (a b : Ent) : eqCells a.c b.c = decide (a = b) := by
  rw [Bool.eq_iff_iff, eqCells_iff, decide_eq_true_iff, Ent.inj]
def Ent.ok (o : Ent) : Prop := inR o.kind ∧ o.d.ok ∧ inR o.from_ ∧ inR o.seq ∧ inR o.mask ∧ o.pay.length ≤ 140737488351232 ∧ o.sig.length ≤ 140737488351232
theorem Ent.fit (o : Ent) (h : o.ok) : Fit (([.int .i64]) ++ ((([.int .i64]) ++ ([.str]) ++ ([.str]) ++ (List.replicate 32 (.int .u8)))) ++ ([.int .i64]) ++ ([.int .i64]) ++ (List.replicate 32 (.int .u8)) ++ ([.int .i64]) ++ ([.str]) ++ ([.str])) o.c := by
  obtain ⟨k0, k1, k2, k3, k4, k5, k6⟩ := h
  have := fit_app ((fit_int k0)) (fit_app (((Dr.fit _ k1))) (fit_app ((fit_int k2)) (fit_app ((fit_int k3)) (fit_app (((fit_bv _ _ o.prev.2))) (fit_app ((fit_int k4)) (fit_app ((fit_str k5)) ((fit_str k6))))))))
  simpa [Ent.c, List.append_assoc] using this

def dr0 : Dr := ⟨0, [], [], z32⟩
def opR0 : OpR := ⟨dr0, 0, 0, .nil⟩
def ou0 : Ou := ⟨0, []⟩
def ent0 : Ent := ⟨0, dr0, 0, 0, z32, 0, [], []⟩
theorem Dr.sm : (type_of% @Dr.c_len) ∧ (type_of% @Dr.tk) ∧ (type_of% @Dr.wh) ∧ (type_of% @Dr.r0) ∧ (type_of% @Dr.w0) ∧ (type_of% @Dr.r1) ∧ (type_of% @Dr.w1) ∧ (type_of% @Dr.r2) ∧ (type_of% @Dr.w2) ∧ (type_of% @Dr.r3) ∧ (type_of% @Dr.w3) ∧ (type_of% @Dr.fz) ∧ (type_of% @Dr.own1) ∧ (type_of% @Dr.own2) ∧ (type_of% @Dr.one) ∧ (type_of% @Dr.eqc) := ⟨@Dr.c_len, @Dr.tk, @Dr.wh, @Dr.r0, @Dr.w0, @Dr.r1, @Dr.w1, @Dr.r2, @Dr.w2, @Dr.r3, @Dr.w3, @Dr.fz, @Dr.own1, @Dr.own2, @Dr.one, @Dr.eqc⟩
theorem OpR.sm : (type_of% @OpR.c_len) ∧ (type_of% @OpR.tk) ∧ (type_of% @OpR.wh) ∧ (type_of% @OpR.r0) ∧ (type_of% @OpR.w0) ∧ (type_of% @OpR.r0_0) ∧ (type_of% @OpR.r0_1) ∧ (type_of% @OpR.r0_2) ∧ (type_of% @OpR.r0_3) ∧ (type_of% @OpR.r1) ∧ (type_of% @OpR.w1) ∧ (type_of% @OpR.r2) ∧ (type_of% @OpR.w2) ∧ (type_of% @OpR.r3) ∧ (type_of% @OpR.w3) ∧ (type_of% @OpR.fz) ∧ (type_of% @OpR.own1) ∧ (type_of% @OpR.own2) := ⟨@OpR.c_len, @OpR.tk, @OpR.wh, @OpR.r0, @OpR.w0, @OpR.r0_0, @OpR.r0_1, @OpR.r0_2, @OpR.r0_3, @OpR.r1, @OpR.w1, @OpR.r2, @OpR.w2, @OpR.r3, @OpR.w3, @OpR.fz, @OpR.own1, @OpR.own2⟩
theorem Ou.sm : (type_of% @Ou.c_len) ∧ (type_of% @Ou.tk) ∧ (type_of% @Ou.wh) ∧ (type_of% @Ou.r0) ∧ (type_of% @Ou.w0) ∧ (type_of% @Ou.r1) ∧ (type_of% @Ou.w1) ∧ (type_of% @Ou.fz) ∧ (type_of% @Ou.own1) ∧ (type_of% @Ou.own2) ∧ (type_of% @Ou.one) ∧ (type_of% @Ou.eqc) := ⟨@Ou.c_len, @Ou.tk, @Ou.wh, @Ou.r0, @Ou.w0, @Ou.r1, @Ou.w1, @Ou.fz, @Ou.own1, @Ou.own2, @Ou.one, @Ou.eqc⟩
theorem Ent.sm : (type_of% @Ent.c_len) ∧ (type_of% @Ent.tk) ∧ (type_of% @Ent.wh) ∧ (type_of% @Ent.r0) ∧ (type_of% @Ent.w0) ∧ (type_of% @Ent.r1) ∧ (type_of% @Ent.w1) ∧ (type_of% @Ent.r1_0) ∧ (type_of% @Ent.r1_1) ∧ (type_of% @Ent.r1_2) ∧ (type_of% @Ent.r1_3) ∧ (type_of% @Ent.r2) ∧ (type_of% @Ent.w2) ∧ (type_of% @Ent.r3) ∧ (type_of% @Ent.w3) ∧ (type_of% @Ent.r4) ∧ (type_of% @Ent.w4) ∧ (type_of% @Ent.r5) ∧ (type_of% @Ent.w5) ∧ (type_of% @Ent.r6) ∧ (type_of% @Ent.w6) ∧ (type_of% @Ent.r7) ∧ (type_of% @Ent.w7) ∧ (type_of% @Ent.fz) ∧ (type_of% @Ent.own1) ∧ (type_of% @Ent.own2) ∧ (type_of% @Ent.one) ∧ (type_of% @Ent.eqc) := ⟨@Ent.c_len, @Ent.tk, @Ent.wh, @Ent.r0, @Ent.w0, @Ent.r1, @Ent.w1, @Ent.r1_0, @Ent.r1_1, @Ent.r1_2, @Ent.r1_3, @Ent.r2, @Ent.w2, @Ent.r3, @Ent.w3, @Ent.r4, @Ent.w4, @Ent.r5, @Ent.w5, @Ent.r6, @Ent.w6, @Ent.r7, @Ent.w7, @Ent.fz, @Ent.own1, @Ent.own2, @Ent.one, @Ent.eqc⟩
attribute [go_sem] Dr.sm
theorem Dr.flat (o : Dr) : FlatS o.c := by
  unfold Dr.c
  repeat' first | exact FlatS.nil | exact FlatS.bv _ | refine FlatS.cons ?_ | refine FlatS.app ?_ ?_
attribute [go_sem] OpR.sm
attribute [go_sem] Ou.sm
theorem Ou.flat (o : Ou) : FlatS o.c := by
  unfold Ou.c
  repeat' first | exact FlatS.nil | exact FlatS.bv _ | refine FlatS.cons ?_ | refine FlatS.app ?_ ?_
attribute [go_sem] Ent.sm
theorem Ent.flat (o : Ent) : FlatS o.c := by
  unfold Ent.c
  repeat' first | exact FlatS.nil | exact FlatS.bv _ | exact Dr.flat _ | refine FlatS.cons ?_ | refine FlatS.app ?_ ?_
end Go.VL

set_option linter.unusedVariables false
set_option linter.unusedSimpArgs false
namespace Go.VL

structure Nd where
  root : Id16
  height : Int
  deriving DecidableEq
def Nd.c (o : Nd) : List V := bv o.root.1 ++ ([.flat (.int .i64 o.height)])
theorem Nd.c_len (o : Nd) : o.c.length = 17 := by
  simp [Nd.c, bv_length, o.root.2]
theorem Nd.tk (o : Nd) : o.c.take 17 = o.c := List.take_of_length_le (by rw [Nd.c_len]; omega)
theorem Nd.wh (o p : Nd) : putV o.c 0 p.c = p.c := putV_all (by rw [Nd.c_len, Nd.c_len])
theorem Nd.split0 (o : Nd) : o.c = ([]) ++ ((bv o.root.1) ++ ([.flat (.int .i64 o.height)])) := by simp [Nd.c]
theorem Nd.r0 (o : Nd) : o.c.take 16 = bv o.root.1 := by
  have := drop_take_mid ([]) (bv o.root.1) ([.flat (.int .i64 o.height)]) 0 16 (by simp [bv_length]) (by simp [bv_length, o.root.2])
  rw [← Nd.split0] at this; simpa using this
theorem Nd.w0 (o : Nd) (x : Id16) : putV o.c 0 (bv x.1) = ({ o with root := x } : Nd).c := by
  have := putV_mid ([]) (bv o.root.1) ([.flat (.int .i64 o.height)]) (bv x.1) 0 (by simp [bv_length]) (by rw [show (bv x.1 : List V).length = 16 from by simp [bv_length, x.2], show (bv o.root.1 : List V).length = 16 from by simp [bv_length, o.root.2]])
  rw [← Nd.split0] at this; rw [this]; simp [Nd.c]
theorem Nd.split1 (o : Nd) : o.c = (bv o.root.1) ++ (([.flat (.int .i64 o.height)]) ++ ([])) := by simp [Nd.c]
theorem Nd.r1 (o : Nd) : o.c.getD 16 .unk = .flat (.int .i64 o.height) := by
  have := getD_mid (bv o.root.1) (.flat (.int .i64 o.height)) ([]) 16 (by simp [bv_length, o.root.2])
  rw [← Nd.split1] at this; simpa using this
theorem Nd.w1 (o : Nd) (x : Int) : putV o.c 16 ([.flat (.int .i64 x)]) = ({ o with height := x } : Nd).c := by
  have := putV_mid (bv o.root.1) ([.flat (.int .i64 o.height)]) ([]) ([.flat (.int .i64 x)]) 16 (by simp [bv_length, o.root.2]) (by rw [show ([.flat (.int .i64 x)] : List V).length = 1 from by simp [bv_length], show ([.flat (.int .i64 o.height)] : List V).length = 1 from by simp [bv_length]])
  rw [← Nd.split1] at this; rw [this]; simp [Nd.c]
theorem Nd.fz (o : Nd) : o.c.map V.fz = o.c := by simp [Nd.c, V.fz, bv_fz]
theorem Nd.own1 (o : Nd) : (∀ z ∈ o.c, noOwnB z = true) = (True) := by
  simp only [Nd.c, List.forall_mem_append, List.forall_mem_singleton, own1_bv]; simp [noOwnB]
theorem Nd.own2 (o : Nd) : (∀ z ∈ o.c, noOwnB z = true ∧ oneB z = true) = (True) := by
  simp only [Nd.c, List.forall_mem_append, List.forall_mem_singleton, own2_bv]; simp [noOwnB, oneB]
theorem Nd.one (o : Nd) : (∀ z ∈ o.c, oneB z = true) = True := eq_true fun z hz => ((of_eq_true (Nd.own2 o)) z hz).2
def Nd.lC (l : List Nd) : List V := (l.map Nd.c).flatten
theorem Nd.l_len (l : List Nd) : (Nd.lC l).length = l.length * 17 := by
  unfold Nd.lC
  rw [flatten_len 17 _ (fun c hc => by obtain ⟨x, _, rfl⟩ := List.mem_map.1 hc; exact Nd.c_len x), List.length_map]
theorem Nd.l_get (l : List Nd) (x : Nd) (i : Nat) (hi : i < l.length) : ((Nd.lC l).drop (i * 17)).take 17 = (l.getD i x).c := by
  unfold Nd.lC
  rw [flat_chunk 17 _ i (fun c hc => by obtain ⟨x, _, rfl⟩ := List.mem_map.1 hc; exact Nd.c_len x) (by simpa using hi)]
  simp [List.getD_eq_getElem?_getD, hi]
theorem Nd.inj (a b : Nd) : a.c.map vlit = b.c.map vlit ↔ a = b := by
  constructor
  · intro h
    cases a; cases b
    simp only [Nd.c, List.map_append, List.map_cons, List.map_nil, List.cons_append, List.nil_append, List.cons.injEq, vlit_int, vlit_bs, vlit_bool, Lit.int.injEq, Lit.string.injEq, Lit.bool.injEq, true_and] at h
    obtain ⟨p0, h0⟩ := List.append_inj h (by simp [bv_length, id_len32, id_len16])
    have q0 := (vlit_bv _ _).1 p0
    simp only [List.cons.injEq, Lit.int.injEq, Lit.string.injEq, Lit.bool.injEq, true_and] at h0
    obtain ⟨q1, _⟩ := h0
    simp_all [Subtype.ext_iff]
  · rintro rfl; rfl
theorem Nd.eqc (a b : Nd) : eqCells a.c b.c = decide (a = b) := by
  rw [Bool.eq_iff_iff, eqCells_iff, decide_eq_true_iff, Nd.inj]
def Nd.ok (o : Nd) : Prop := inR o.height
theorem Nd.fit (o : Nd) (h : o.ok) : Fit ((List.replicate 16 (.int .u8)) ++ ([.int .i64])) o.c := by
  have k0 := h
  have := fit_app (((fit_bv _ _ o.root.2))) ((fit_int k0))
  simpa [Nd.c, List.append_assoc] using this

structure Au where
  node : Int
  seq : Int
  hash : Id32
  sig : List UInt8
  deriving DecidableEq
def Au.c (o : Au) : List V := [.flat (.int .i64 o.node)] ++ ([.flat (.int .i64 o.seq)] ++ (bv o.hash.1 ++ ([.flat (.string (bs o.sig))])))
theorem Au.c_len (o : Au) : o.c.length = 35 := by
  simp [Au.c, bv_length, o.hash.2]
theorem Au.tk (o : Au) : o.c.take 35 = o.c := List.take_of_length_le (by rw [Au.c_len]; omega)
theorem Au.wh (o p : Au) : putV o.c 0 p.c = p.c := putV_all (by rw [Au.c_len, Au.c_len])
theorem Au.split0 (o : Au) : o.c = ([]) ++ (([.flat (.int .i64 o.node)]) ++ ([.flat (.int .i64 o.seq)] ++ (bv o.hash.1 ++ ([.flat (.string (bs o.sig))])))) := by simp [Au.c]
theorem Au.r0 (o : Au) : o.c.getD 0 .unk = .flat (.int .i64 o.node) := by
  have := getD_mid ([]) (.flat (.int .i64 o.node)) ([.flat (.int .i64 o.seq)] ++ (bv o.hash.1 ++ ([.flat (.string (bs o.sig))]))) 0 (by simp [bv_length])
  rw [← Au.split0] at this; simpa using this
theorem Au.w0 (o : Au) (x : Int) : putV o.c 0 ([.flat (.int .i64 x)]) = ({ o with node := x } : Au).c := by
  have := putV_mid ([]) ([.flat (.int .i64 o.node)]) ([.flat (.int .i64 o.seq)] ++ (bv o.hash.1 ++ ([.flat (.string (bs o.sig))]))) ([.flat (.int .i64 x)]) 0 (by simp [bv_length]) (by rw [show ([.flat (.int .i64 x)] : List V).length = 1 from by simp [bv_length], show ([.flat (.int .i64 o.node)] : List V).length = 1 from by simp [bv_length]])
  rw [← Au.split0] at this; rw [this]; simp [Au.c]
theorem Au.split1 (o : Au) : o.c = ([.flat (.int .i64 o.node)]) ++ (([.flat (.int .i64 o.seq)]) ++ (bv o.hash.1 ++ ([.flat (.string (bs o.sig))]))) := by simp [Au.c]
theorem Au.r1 (o : Au) : o.c.getD 1 .unk = .flat (.int .i64 o.seq) := by
  have := getD_mid ([.flat (.int .i64 o.node)]) (.flat (.int .i64 o.seq)) (bv o.hash.1 ++ ([.flat (.string (bs o.sig))])) 1 (by simp [bv_length])
  rw [← Au.split1] at this; simpa using this
theorem Au.w1 (o : Au) (x : Int) : putV o.c 1 ([.flat (.int .i64 x)]) = ({ o with seq := x } : Au).c := by
  have := putV_mid ([.flat (.int .i64 o.node)]) ([.flat (.int .i64 o.seq)]) (bv o.hash.1 ++ ([.flat (.string (bs o.sig))])) ([.flat (.int .i64 x)]) 1 (by simp [bv_length]) (by rw [show ([.flat (.int .i64 x)] : List V).length = 1 from by simp [bv_length], show ([.flat (.int .i64 o.seq)] : List V).length = 1 from by simp [bv_length]])
  rw [← Au.split1] at this; rw [this]; simp [Au.c]
theorem Au.split2 (o : Au) : o.c = ([.flat (.int .i64 o.node)] ++ [.flat (.int .i64 o.seq)]) ++ ((bv o.hash.1) ++ ([.flat (.string (bs o.sig))])) := by simp [Au.c]
theorem Au.r2 (o : Au) : (o.c.drop 2).take 32 = bv o.hash.1 := by
  have := drop_take_mid ([.flat (.int .i64 o.node)] ++ [.flat (.int .i64 o.seq)]) (bv o.hash.1) ([.flat (.string (bs o.sig))]) 2 32 (by simp [bv_length]) (by simp [bv_length, o.hash.2])
  rw [← Au.split2] at this; simpa using this
theorem Au.w2 (o : Au) (x : Id32) : putV o.c 2 (bv x.1) = ({ o with hash := x } : Au).c := by
  have := putV_mid ([.flat (.int .i64 o.node)] ++ [.flat (.int .i64 o.seq)]) (bv o.hash.1) ([.flat (.string (bs o.sig))]) (bv x.1) 2 (by simp [bv_length]) (by rw [show (bv x.1 : List V).length = 32 from by simp [bv_length, x.2], show (bv o.hash.1 : List V).length = 32 from by simp [bv_length, o.hash.2]])
  rw [← Au.split2] at this; rw [this]; simp [Au.c]
theorem Au.split3 (o : Au) : o.c = ([.flat (.int .i64 o.node)] ++ [.flat (.int .i64 o.seq)] ++ bv o.hash.1) ++ (([.flat (.string (bs o.sig))]) ++ ([])) := by simp [Au.c]
theorem Au.r3 (o : Au) : o.c.getD 34 .unk = .flat (.string (bs o.sig)) := by
  have := getD_mid ([.flat (.int .i64 o.node)] ++ [.flat (.int .i64 o.seq)] ++ bv o.hash.1) (.flat (.string (bs o.sig))) ([]) 34 (by simp [bv_length, o.hash.2])
  rw [← Au.split3] at this; simpa using this
theorem Au.w3 (o : Au) (x : List UInt8) : putV o.c 34 ([.flat (.string (bs x))]) = ({ o with sig := x } : Au).c := by
  have := putV_mid ([.flat (.int .i64 o.node)] ++ [.flat (.int .i64 o.seq)] ++ bv o.hash.1) ([.flat (.string (bs o.sig))]) ([]) ([.flat (.string (bs x))]) 34 (by simp [bv_length, o.hash.2]) (by rw [show ([.flat (.string (bs x))] : List V).length = 1 from by simp [bv_length], show ([.flat (.string (bs o.sig))] : List V).length = 1 from by simp [bv_length]])
  rw [← Au.split3] at this; rw [this]; simp [Au.c]
theorem Au.fz (o : Au) : o.c.map V.fz = o.c := by simp [Au.c, V.fz, bv_fz]
theorem Au.own1 (o : Au) : (∀ z ∈ o.c, noOwnB z = true) = (True) := by
  simp only [Au.c, List.forall_mem_append, List.forall_mem_singleton, own1_bv]; simp [noOwnB]
theorem Au.own2 (o : Au) : (∀ z ∈ o.c, noOwnB z = true ∧ oneB z = true) = (True) := by
  simp only [Au.c, List.forall_mem_append, List.forall_mem_singleton, own2_bv]; simp [noOwnB, oneB]
theorem Au.one (o : Au) : (∀ z ∈ o.c, oneB z = true) = True := eq_true fun z hz => ((of_eq_true (Au.own2 o)) z hz).2
def Au.lC (l : List Au) : List V := (l.map Au.c).flatten
theorem Au.l_len (l : List Au) : (Au.lC l).length = l.length * 35 := by
  unfold Au.lC
  rw [flatten_len 35 _ (fun c hc => by obtain ⟨x, _, rfl⟩ := List.mem_map.1 hc; exact Au.c_len x), List.length_map]
theorem Au.l_get (l : List Au) (x : Au) (i : Nat) (hi : i < l.length) : ((Au.lC l).drop (i * 35)).take 35 = (l.getD i x).c := by
  unfold Au.lC
  rw [flat_chunk 35 _ i (fun c hc => by obtain ⟨x, _, rfl⟩ := List.mem_map.1 hc; exact Au.c_len x) (by simpa using hi)]
  simp [List.getD_eq_getElem?_getD, hi]
theorem Au.inj (a b : Au) : a.c.map vlit = b.c.map vlit ↔ a = b := by
  constructor
  · intro h
    cases a; cases b
    simp only [Au.c, List.map_append, List.map_cons, List.map_nil, List.cons_append, List.nil_append, List.cons.injEq, vlit_int, vlit_bs, vlit_bool, Lit.int.injEq, Lit.string.injEq, Lit.bool.injEq, true_and] at h
    obtain ⟨q0, h0⟩ := h
    obtain ⟨q1, h1⟩ := h0
    obtain ⟨p2, h2⟩ := List.append_inj h1 (by simp [bv_length, id_len32, id_len16])
    have q2 := (vlit_bv _ _).1 p2
    simp only [List.cons.injEq, Lit.int.injEq, Lit.string.injEq, Lit.bool.injEq, true_and] at h2
    obtain ⟨q3, _⟩ := h2
    simp_all [Subtype.ext_iff]
  · rintro rfl; rfl
theorem Au.eqc (a b : Au) : eqCells a.c b.c = decide (a = b) := by
  rw [Bool.eq_iff_iff, eqCells_iff, decide_eq_true_iff, Au.inj]
def Au.ok (o : Au) : Prop := inR o.node ∧ inR o.seq ∧ o.sig.length ≤ 140737488351232
theorem Au.fit (o : Au) (h : o.ok) : Fit (([.int .i64]) ++ ([.int .i64]) ++ (List.replicate 32 (.int .u8)) ++ ([.str])) o.c := by
  obtain ⟨k0, k1, k2⟩ := h
  have := fit_app ((fit_int k0)) (fit_app ((fit_int k1)) (fit_app (((fit_bv _ _ o.hash.2))) ((fit_str k2))))
  simpa [Au.c, List.append_assoc] using this

def nd0 : Nd := ⟨z16, 0⟩
def au0 : Au := ⟨0, 0, z32, []⟩
theorem Nd.sm : (type_of% @Nd.c_len) ∧ (type_of% @Nd.tk) ∧ (type_of% @Nd.wh) ∧ (type_of% @Nd.r0) ∧ (type_of% @Nd.w0) ∧ (type_of% @Nd.r1) ∧ (type_of% @Nd.w1) ∧ (type_of% @Nd.fz) ∧ (type_of% @Nd.own1) ∧ (type_of% @Nd.own2) ∧ (type_of% @Nd.one) ∧ (type_of% @Nd.eqc) := ⟨@Nd.c_len, @Nd.tk, @Nd.wh, @Nd.r0, @Nd.w0, @Nd.r1, @Nd.w1, @Nd.fz, @Nd.own1, @Nd.own2, @Nd.one, @Nd.eqc⟩
theorem Au.sm : (type_of% @Au.c_len) ∧ (type_of% @Au.tk) ∧ (type_of% @Au.wh) ∧ (type_of% @Au.r0) ∧ (type_of% @Au.w0) ∧ (type_of% @Au.r1) ∧ (type_of% @Au.w1) ∧ (type_of% @Au.r2) ∧ (type_of% @Au.w2) ∧ (type_of% @Au.r3) ∧ (type_of% @Au.w3) ∧ (type_of% @Au.fz) ∧ (type_of% @Au.own1) ∧ (type_of% @Au.own2) ∧ (type_of% @Au.one) ∧ (type_of% @Au.eqc) := ⟨@Au.c_len, @Au.tk, @Au.wh, @Au.r0, @Au.w0, @Au.r1, @Au.w1, @Au.r2, @Au.w2, @Au.r3, @Au.w3, @Au.fz, @Au.own1, @Au.own2, @Au.one, @Au.eqc⟩
attribute [go_sem] Nd.sm
theorem Nd.flat (o : Nd) : FlatS o.c := by
  unfold Nd.c
  repeat' first | exact FlatS.nil | exact FlatS.bv _ | refine FlatS.cons ?_ | refine FlatS.app ?_ ?_
attribute [go_sem] Au.sm
theorem Au.flat (o : Au) : FlatS o.c := by
  unfold Au.c
  repeat' first | exact FlatS.nil | exact FlatS.bv _ | refine FlatS.cons ?_ | refine FlatS.app ?_ ?_
end Go.VL

set_option linter.unusedVariables false
set_option linter.unusedSimpArgs false
namespace Go.VL

structure Ky where
  seed : List UInt8
  height : Int
  leaves : V
  root : Id16
def Ky.c (o : Ky) : List V := [.flat (.string (bs o.seed))] ++ ([.flat (.int .i64 o.height)] ++ ([o.leaves] ++ (bv o.root.1)))
theorem Ky.c_len (o : Ky) : o.c.length = 19 := by
  simp [Ky.c, bv_length, o.root.2]
theorem Ky.tk (o : Ky) : o.c.take 19 = o.c := List.take_of_length_le (by rw [Ky.c_len]; omega)
theorem Ky.wh (o p : Ky) : putV o.c 0 p.c = p.c := putV_all (by rw [Ky.c_len, Ky.c_len])
theorem Ky.split0 (o : Ky) : o.c = ([]) ++ (([.flat (.string (bs o.seed))]) ++ ([.flat (.int .i64 o.height)] ++ ([o.leaves] ++ (bv o.root.1)))) := by simp [Ky.c]
theorem Ky.r0 (o : Ky) : o.c.getD 0 .unk = .flat (.string (bs o.seed)) := by
  have := getD_mid ([]) (.flat (.string (bs o.seed))) ([.flat (.int .i64 o.height)] ++ ([o.leaves] ++ (bv o.root.1))) 0 (by simp [bv_length])
  rw [← Ky.split0] at this; simpa using this
theorem Ky.w0 (o : Ky) (x : List UInt8) : putV o.c 0 ([.flat (.string (bs x))]) = ({ o with seed := x } : Ky).c := by
  have := putV_mid ([]) ([.flat (.string (bs o.seed))]) ([.flat (.int .i64 o.height)] ++ ([o.leaves] ++ (bv o.root.1))) ([.flat (.string (bs x))]) 0 (by simp [bv_length]) (by rw [show ([.flat (.string (bs x))] : List V).length = 1 from by simp [bv_length], show ([.flat (.string (bs o.seed))] : List V).length = 1 from by simp [bv_length]])
  rw [← Ky.split0] at this; rw [this]; simp [Ky.c]
theorem Ky.split1 (o : Ky) : o.c = ([.flat (.string (bs o.seed))]) ++ (([.flat (.int .i64 o.height)]) ++ ([o.leaves] ++ (bv o.root.1))) := by simp [Ky.c]
theorem Ky.r1 (o : Ky) : o.c.getD 1 .unk = .flat (.int .i64 o.height) := by
  have := getD_mid ([.flat (.string (bs o.seed))]) (.flat (.int .i64 o.height)) ([o.leaves] ++ (bv o.root.1)) 1 (by simp [bv_length])
  rw [← Ky.split1] at this; simpa using this
theorem Ky.w1 (o : Ky) (x : Int) : putV o.c 1 ([.flat (.int .i64 x)]) = ({ o with height := x } : Ky).c := by
  have := putV_mid ([.flat (.string (bs o.seed))]) ([.flat (.int .i64 o.height)]) ([o.leaves] ++ (bv o.root.1)) ([.flat (.int .i64 x)]) 1 (by simp [bv_length]) (by rw [show ([.flat (.int .i64 x)] : List V).length = 1 from by simp [bv_length], show ([.flat (.int .i64 o.height)] : List V).length = 1 from by simp [bv_length]])
  rw [← Ky.split1] at this; rw [this]; simp [Ky.c]
theorem Ky.split2 (o : Ky) : o.c = ([.flat (.string (bs o.seed))] ++ [.flat (.int .i64 o.height)]) ++ (([o.leaves]) ++ (bv o.root.1)) := by simp [Ky.c]
theorem Ky.r2 (o : Ky) : o.c.getD 2 .unk = o.leaves := by
  have := getD_mid ([.flat (.string (bs o.seed))] ++ [.flat (.int .i64 o.height)]) (o.leaves) (bv o.root.1) 2 (by simp [bv_length])
  rw [← Ky.split2] at this; simpa using this
theorem Ky.w2 (o : Ky) (x : V) : putV o.c 2 ([x]) = ({ o with leaves := x } : Ky).c := by
  have := putV_mid ([.flat (.string (bs o.seed))] ++ [.flat (.int .i64 o.height)]) ([o.leaves]) (bv o.root.1) ([x]) 2 (by simp [bv_length]) (by rw [show ([x] : List V).length = 1 from by simp [bv_length], show ([o.leaves] : List V).length = 1 from by simp [bv_length]])
  rw [← Ky.split2] at this; rw [this]; simp [Ky.c]
theorem Ky.split3 (o : Ky) : o.c = ([.flat (.string (bs o.seed))] ++ [.flat (.int .i64 o.height)] ++ [o.leaves]) ++ ((bv o.root.1) ++ ([])) := by simp [Ky.c]
theorem Ky.r3 (o : Ky) : (o.c.drop 3).take 16 = bv o.root.1 := by
  have := drop_take_mid ([.flat (.string (bs o.seed))] ++ [.flat (.int .i64 o.height)] ++ [o.leaves]) (bv o.root.1) ([]) 3 16 (by simp [bv_length]) (by simp [bv_length, o.root.2])
  rw [← Ky.split3] at this; simpa using this
theorem Ky.w3 (o : Ky) (x : Id16) : putV o.c 3 (bv x.1) = ({ o with root := x } : Ky).c := by
  have := putV_mid ([.flat (.string (bs o.seed))] ++ [.flat (.int .i64 o.height)] ++ [o.leaves]) (bv o.root.1) ([]) (bv x.1) 3 (by simp [bv_length]) (by rw [show (bv x.1 : List V).length = 16 from by simp [bv_length, x.2], show (bv o.root.1 : List V).length = 16 from by simp [bv_length, o.root.2]])
  rw [← Ky.split3] at this; rw [this]; simp [Ky.c]
def Ky.z (o : Ky) : Ky := { o with leaves := o.leaves.fz }
theorem Ky.fz (o : Ky) : o.c.map V.fz = o.z.c := by simp [Ky.c, V.fz, bv_fz, Ky.z]
theorem Ky.own1 (o : Ky) : (∀ z ∈ o.c, noOwnB z = true) = (noOwnB o.leaves = true) := by
  simp only [Ky.c, List.forall_mem_append, List.forall_mem_singleton, own1_bv]; simp [noOwnB]
theorem Ky.own2 (o : Ky) : (∀ z ∈ o.c, noOwnB z = true ∧ oneB z = true) = (noOwnB o.leaves = true ∧ oneB o.leaves = true) := by
  simp only [Ky.c, List.forall_mem_append, List.forall_mem_singleton, own2_bv]; simp [noOwnB, oneB]

def ky0 : Ky := ⟨[], 0, .nil, z16⟩
theorem Ky.sm : (type_of% @Ky.c_len) ∧ (type_of% @Ky.tk) ∧ (type_of% @Ky.wh) ∧ (type_of% @Ky.r0) ∧ (type_of% @Ky.w0) ∧ (type_of% @Ky.r1) ∧ (type_of% @Ky.w1) ∧ (type_of% @Ky.r2) ∧ (type_of% @Ky.w2) ∧ (type_of% @Ky.r3) ∧ (type_of% @Ky.w3) ∧ (type_of% @Ky.fz) ∧ (type_of% @Ky.own1) ∧ (type_of% @Ky.own2) := ⟨@Ky.c_len, @Ky.tk, @Ky.wh, @Ky.r0, @Ky.w0, @Ky.r1, @Ky.w1, @Ky.r2, @Ky.w2, @Ky.r3, @Ky.w3, @Ky.fz, @Ky.own1, @Ky.own2⟩
attribute [go_sem] Ky.sm
end Go.VL

namespace Go.VL
def startN : List UInt32 := [1779033703, 3144134277, 1013904242, 2773480762, 1359893119, 2600822924, 528734635, 1541459225]
def roundN : List UInt32 := [1116352408, 1899447441, 3049323471, 3921009573, 961987163, 1508970993, 2453635748, 2870763221, 
  3624381080, 310598401, 607225278, 1426881987, 1925078388, 2162078206, 2614888103, 3248222580, 
  3835390401, 4022224774, 264347078, 604807628, 770255983, 1249150122, 1555081692, 1996064986, 
  2554220882, 2821834349, 2952996808, 3210313671, 3336571891, 3584528711, 113926993, 338241895, 
  666307205, 773529912, 1294757372, 1396182291, 1695183700, 1986661051, 2177026350, 2456956037, 
  2730485921, 2820302411, 3259730800, 3345764771, 3516065817, 3600352804, 4094571909, 275423344, 
  430227734, 506948616, 659060556, 883997877, 958139571, 1322822218, 1537002063, 1747873779, 
  1955562222, 2024104815, 2227730452, 2361852424, 2428436474, 2756734187, 3204031479, 3329325298]
@[go_sem] theorem startN_len : startN.length = 8 := by decide
@[go_sem] theorem roundN_len : roundN.length = 64 := by decide
end Go.VL

set_option linter.unusedVariables false
set_option linter.unusedSimpArgs false
namespace Go.VL
def sig0 (x : UInt32) : UInt32 := rotr x 7 ^^^ rotr x 18 ^^^ shr32 x 3
def sig1 (x : UInt32) : UInt32 := rotr x 17 ^^^ rotr x 19 ^^^ shr32 x 10
def wordAt (p : List UInt8) (i : Nat) : UInt32 := shl32 (p.getD (4 * i) 0).toUInt32 24 ||| shl32 (p.getD (4 * i + 1) 0).toUInt32 16 ||| shl32 (p.getD (4 * i + 2) 0).toUInt32 8 ||| (p.getD (4 * i + 3) 0).toUInt32
def wNext (w : List UInt32) (i : Nat) : UInt32 := w.getD (i - 16) 0 + w.getD (i - 7) 0 + sig0 (w.getD (i - 15) 0) + sig1 (w.getD (i - 2) 0)
def wVal (p : List UInt8) (w : List UInt32) (i : Nat) : UInt32 := if i < 16 then wordAt p i else wNext w i
def wArr (p : List UInt8) : Nat → List UInt32
  | 0 => wz 64
  | i + 1 => (wArr p i).set i (wVal p (wArr p i) i)
def rndT (s : List UInt32) (k w : UInt32) : UInt32 :=
  s.getD 7 0 + (rotr (s.getD 4 0) 6 ^^^ rotr (s.getD 4 0) 11 ^^^ rotr (s.getD 4 0) 25) + (s.getD 4 0 &&& s.getD 5 0 ^^^ ~~~ s.getD 4 0 &&& s.getD 6 0) + k + w
def rndU (s : List UInt32) : UInt32 :=
  (rotr (s.getD 0 0) 2 ^^^ rotr (s.getD 0 0) 13 ^^^ rotr (s.getD 0 0) 22) + (s.getD 0 0 &&& s.getD 1 0 ^^^ s.getD 0 0 &&& s.getD 2 0 ^^^ s.getD 1 0 &&& s.getD 2 0)
def rnd (s : List UInt32) (k w : UInt32) : List UInt32 :=
  [rndT s k w + rndU s, s.getD 0 0, s.getD 1 0, s.getD 2 0, s.getD 3 0 + rndT s k w, s.getD 4 0, s.getD 5 0, s.getD 6 0]
def rounds (h w : List UInt32) : Nat → List UInt32
  | 0 => h
  | i + 1 => rnd (rounds h w i) (roundN.getD i 0) (w.getD i 0)
def addTo (h s : List UInt32) : Nat → List UInt32
  | 0 => h
  | i + 1 => (addTo h s i).set i ((addTo h s i).getD i 0 + s.getD i 0)
def compress (h : List UInt32) (p : List UInt8) : List UInt32 := addTo h (rounds h (wArr p 64) 64) 8
def foldB : Nat → List UInt32 → List UInt8 → List UInt32
  | 0, h, _ => h
  | n + 1, h, b => foldB n (compress h (b.take 64)) (b.drop 64)
def lenB (n : Nat) : List UInt8 := (List.range 8).map fun j => UInt8.ofNat (n / 2 ^ (8 * (7 - j)))
def padN (n : Nat) : Nat := (120 - (n + 1) % 64) % 64
def pad (s : List UInt8) : List UInt8 := s ++ [128] ++ List.replicate (padN s.length) 0 ++ lenB (s.length * 8)
def bytes4 (x : UInt32) : List UInt8 := [(shr32 x 24).toUInt8, (shr32 x 16).toUInt8, (shr32 x 8).toUInt8, x.toUInt8]
def digest (h : List UInt32) : List UInt8 := h.flatMap bytes4
def shaW (s : List UInt8) : List UInt32 := foldB ((pad s).length / 64) startN (pad s)
theorem wArr_len (p : List UInt8) (i : Nat) : (wArr p i).length = 64 := by
  induction i with
  | zero => exact wz_len 64
  | succ i ih => simp [wArr, ih]
theorem rounds_len (h w : List UInt32) (hh : h.length = 8) (i : Nat) : (rounds h w i).length = 8 := by
  cases i with
  | zero => exact hh
  | succ i => rfl
theorem addTo_len (h s : List UInt32) (i : Nat) : (addTo h s i).length = h.length := by
  induction i with
  | zero => rfl
  | succ i ih => simp [addTo, ih]
theorem compress_len (h : List UInt32) (p : List UInt8) : (compress h p).length = h.length := addTo_len _ _ _
theorem foldB_len : ∀ (n : Nat) (h : List UInt32) (b : List UInt8), (foldB n h b).length = h.length
  | 0, _, _ => rfl
  | n + 1, h, b => by rw [foldB, foldB_len n, compress_len]
theorem shaW_len (s : List UInt8) : (shaW s).length = 8 := foldB_len _ _ _
theorem digest_len (h : List UInt32) (hh : h.length = 8) : (digest h).length = 32 := by
  have : ∀ l : List UInt32, (digest l).length = 4 * l.length := fun l => by
    induction l with
    | nil => rfl
    | cons x l ih => simp only [digest, List.flatMap_cons, List.length_append] at ih ⊢; rw [ih]; simp [bytes4]; omega
  rw [this, hh]
theorem lenB_len (n : Nat) : (lenB n).length = 8 := by simp [lenB]
theorem pad_len (s : List UInt8) : (pad s).length = s.length + 1 + padN s.length + 8 := by simp [pad, lenB_len]; omega
theorem pad_mod (s : List UInt8) : (pad s).length % 64 = 0 := by rw [pad_len]; unfold padN; omega
theorem lenB_take (n j : Nat) (h : j < 8) : (lenB n).take (j + 1) = (lenB n).take j ++ [UInt8.ofNat (n / 2 ^ (8 * (7 - j)))] := by
  rw [List.take_add_one, lenB]
  congr 1
  rw [List.getElem?_map, List.getElem?_range h]
  rfl
def dArr (h : List UInt32) : Nat → List UInt8
  | 0 => z32.1
  | i + 1 => ((((dArr h i).set (4 * i) (shr32 (h.getD i 0) 24).toUInt8).set (4 * i + 1) (shr32 (h.getD i 0) 16).toUInt8).set (4 * i + 2) (shr32 (h.getD i 0) 8).toUInt8).set (4 * i + 3) (h.getD i 0).toUInt8
theorem dArr_len (h : List UInt32) (i : Nat) : (dArr h i).length = 32 := by
  induction i with
  | zero => exact z32.2
  | succ i ih => simp [dArr, ih]
theorem dArr_8 (h : List UInt32) (hh : h.length = 8) : dArr h 8 = digest h := by
  match h, hh with
  | [a, b, c, d, e, f, g, i], _ =>
    simp only [dArr, z32, List.replicate, Nat.reduceMul, Nat.reduceAdd, List.getD_cons_zero, List.getD_cons_succ, List.set_cons_zero, List.set_cons_succ, digest, bytes4, List.flatMap_cons, List.flatMap_nil, List.cons_append, List.nil_append]
def sha (s : List UInt8) : Id32 := ⟨digest (shaW s), digest_len _ (shaW_len s)⟩
def cutE (d : Id32) : Id16 := ⟨d.1.take 16, by rw [List.length_take, d.2]; rfl⟩

theorem lenB_ref (N : Nat) (h : N < 18446744073709551616) (j : Nat) (hj : j < 8) : UInt8.ofNat ((N * 256 ^ j % 18446744073709551616) / 72057594037927936) = UInt8.ofNat (N / 2 ^ (8 * (7 - j))) := by
  apply UInt8.toNat_inj.1
  rw [UInt8.toNat_ofNat', UInt8.toNat_ofNat']
  rcases (by omega : j = 0 ∨ j = 1 ∨ j = 2 ∨ j = 3 ∨ j = 4 ∨ j = 5 ∨ j = 6 ∨ j = 7) with rfl | rfl | rfl | rfl | rfl | rfl | rfl | rfl <;> simp only [Nat.reducePow, Nat.reduceSub, Nat.reduceMul] <;> omega
def wQ (p : List UInt8) (i : Nat) : Nat → UInt32
  | 0 => 0
  | q + 1 => 256 * wQ p i q + (p.getD (4 * i + q) 0).toUInt32
theorem wQ_4 (p : List UInt8) (i : Nat) : wQ p i 4 = wordAt p i := by
  simp only [wQ, wordAt]
  generalize p.getD (4 * i) 0 = a
  generalize p.getD (4 * i + 1) 0 = b
  generalize p.getD (4 * i + 2) 0 = c
  generalize p.getD (4 * i + 3) 0 = d
  have ha := a.toNat_lt; have hb := b.toNat_lt; have hc := c.toNat_lt; have hd := d.toNat_lt
  apply UInt32.toNat_inj.1
  simp only [UInt32.toNat_or, shl32_toNat, UInt8.toNat_toUInt32, UInt32.toNat_add, UInt32.toNat_mul, UInt32.toNat_ofNat, Nat.shiftLeft_eq]
  have e1 : a.toNat * 2 ^ 24 % 4294967296 = a.toNat <<< 24 := by rw [Nat.shiftLeft_eq, Nat.mod_eq_of_lt (by omega)]
  have e2 : b.toNat * 2 ^ 16 % 4294967296 = b.toNat * 65536 := by rw [Nat.mod_eq_of_lt (by omega)]
  have e3 : c.toNat * 2 ^ 8 % 4294967296 = c.toNat * 256 := by rw [Nat.mod_eq_of_lt (by omega)]
  rw [e1, e2, e3]
  have f1 := Nat.shiftLeft_add_eq_or_of_lt (i := 24) (b := b.toNat * 65536) (by omega) a.toNat
  rw [← f1]
  have f2 : a.toNat <<< 24 + b.toNat * 65536 = (a.toNat * 256 + b.toNat) <<< 16 := by rw [Nat.shiftLeft_eq, Nat.shiftLeft_eq]; omega
  rw [f2, ← Nat.shiftLeft_add_eq_or_of_lt (i := 16) (b := c.toNat * 256) (by omega)]
  have f3 : (a.toNat * 256 + b.toNat) <<< 16 + c.toNat * 256 = ((a.toNat * 256 + b.toNat) * 256 + c.toNat) <<< 8 := by rw [Nat.shiftLeft_eq, Nat.shiftLeft_eq]; omega
  rw [f3, ← Nat.shiftLeft_add_eq_or_of_lt (i := 8) (b := d.toNat) (by omega), Nat.shiftLeft_eq]
  simp
  omega
theorem wArr_zero (p : List UInt8) (i j : Nat) (h : i ≤ j) : (wArr p i).getD j 0 = 0 := by
  induction i with
  | zero =>
    rw [wArr, wz, List.getD_eq_getElem?_getD, List.getElem?_replicate]
    split <;> rfl
  | succ i ih =>
    rw [wArr, List.getD_eq_getElem?_getD, List.getElem?_set_ne (by omega), ← List.getD_eq_getElem?_getD]
    exact ih (by omega)
def dRef (h : List UInt32) : Nat → List UInt8
  | 0 => z32.1
  | i + 1 => (dRef h i).set i (shr32 (h.getD (i / 4) 0) (24 - 8 * (i % 4))).toUInt8
theorem dRef_len (h : List UInt32) (i : Nat) : (dRef h i).length = 32 := by
  induction i with
  | zero => exact z32.2
  | succ i ih => simp [dRef, ih]
theorem shr32_0 (x : UInt32) : shr32 x 0 = x := by
  apply UInt32.toNat_inj.1
  rw [shr32_toNat]; rfl
theorem dRef_32 (h : List UInt32) (hh : h.length = 8) : dRef h 32 = digest h := by
  match h, hh with
  | [a, b, c, d, e, f, g, i], _ =>
    simp only [dRef, z32, List.replicate, Nat.reduceMul, Nat.reduceAdd, Nat.reduceDiv, Nat.reduceMod, Nat.reduceSub, List.getD_cons_zero, List.getD_cons_succ, List.set_cons_zero, List.set_cons_succ, digest, bytes4, List.flatMap_cons, List.flatMap_nil, List.cons_append, List.nil_append, shr32_0]
theorem foldB_snoc : ∀ (n : Nat) (h : List UInt32) (b : List UInt8), foldB (n + 1) h b = compress (foldB n h b) ((b.drop (64 * n)).take 64)
  | 0, h, b => rfl
  | n + 1, h, b => by
    rw [foldB, foldB_snoc n, foldB, List.drop_drop, show 64 + 64 * n = 64 * (n + 1) by omega]

def hexd : List UInt8 := [48, 49, 50, 51, 52, 53, 54, 55, 56, 57, 97, 98, 99, 100, 101, 102]
def hex2 (c : UInt8) : List UInt8 := [hexd.getD (c.toNat / 16) 0, hexd.getD (c.toNat % 16) 0]
def hexL (l : List UInt8) : List UInt8 := l.flatMap hex2
theorem take_snoc {α : Type} (l : List α) (i : Nat) (d : α) (h : i < l.length) : l.take (i + 1) = l.take i ++ [l.getD i d] := by
  rw [List.take_add_one, List.getD_eq_getElem?_getD, List.getElem?_eq_getElem h]; rfl
theorem cut_take (d : Id32) : (bv d.1).take 16 = bv (cutE d).1 := bv_take d.1 16
end Go.VL

set_option linter.unusedVariables false
set_option linter.unusedSimpArgs false
namespace Go.VL
def le (n : Nat) : List UInt8 := if h : n = 0 then [] else UInt8.ofNat (n % 256) :: le (n / 256)
theorem le_zero : le 0 = [] := by rw [le]; simp
theorem le_pos {n : Nat} (h : 0 < n) : le n = UInt8.ofNat (n % 256) :: le (n / 256) := by rw [le]; rw [dif_neg (by omega)]
theorem le_length : ∀ (k n : Nat), n < 256 ^ k → (le n).length ≤ k
  | 0, n, h => by have : n = 0 := by simpa using h
                  subst this; rw [le_zero]; simp
  | k + 1, n, h => by
    rcases Nat.eq_zero_or_pos n with rfl | hp
    · rw [le_zero]; simp
    · rw [le_pos hp]
      have := le_length k (n / 256) (by rw [Nat.div_lt_iff_lt_mul (by omega)]; rw [Nat.pow_succ] at h; exact h)
      simpa using this
def numB (n : Nat) : List UInt8 := UInt8.ofNat (le n).length :: (le n).reverse
theorem numB_length (n : Nat) (hn : n < 9223372036854775808) : (numB n).length ≤ 9 := by
  have := le_length 8 n (by omega)
  simp [numB]; omega
def textB (s : List UInt8) : List UInt8 := numB s.length ++ s
def listTail : List (List UInt8) → List UInt8
  | [] => []
  | s :: r => textB s ++ listTail r
def listB (l : List (List UInt8)) : List UInt8 := numB l.length ++ listTail l
def total (l : List (List UInt8)) : Nat := (l.map List.length).sum
theorem listTail_append (a b : List (List UInt8)) : listTail (a ++ b) = listTail a ++ listTail b := by
  induction a with
  | nil => rfl
  | cons x r ih => simp [listTail, ih]
theorem listTail_one (s : List UInt8) : listTail [s] = textB s := by simp [listTail]
theorem total_append (a b : List (List UInt8)) : total (a ++ b) = total a + total b := by simp [total]
theorem total_take (l : List (List UInt8)) (i : Nat) : total (l.take i) ≤ total l := by
  have := total_append (l.take i) (l.drop i)
  rw [List.take_append_drop] at this; omega
theorem mem_total {l : List (List UInt8)} {s : List UInt8} (h : s ∈ l) : s.length ≤ total l := by
  obtain ⟨a, b, rfl⟩ := List.append_of_mem h
  rw [total_append]; simp [total]; omega
theorem listTail_length : ∀ l : List (List UInt8), (total l < 9223372036854775808) → (listTail l).length ≤ total l + 9 * l.length
  | [], _ => by simp [listTail]
  | s :: r, h => by
    have h1 : total (s :: r) = s.length + total r := by simp [total]
    have h2 := listTail_length r (by omega)
    have h3 := numB_length s.length (by omega)
    simp only [listTail, textB, List.length_append, List.length_cons, h1]
    omega
def val : List UInt8 → Nat
  | [] => 0
  | b :: r => b.toNat + 256 * val r
theorem val_le (n : Nat) : val (le n) = n := by
  induction n using Nat.strongRecOn with
  | _ n ih =>
    rcases Nat.eq_zero_or_pos n with rfl | h
    · rw [le_zero]; rfl
    · rw [le_pos h, val, ih _ (Nat.div_lt_self h (by omega))]
      simp
      omega
theorem numB_len (n : Nat) : (numB n).length = (le n).length + 1 := by simp [numB]
theorem take_succ' {l : List (List UInt8)} {i : Nat} (h : i < l.length) : l.take (i + 1) = l.take i ++ [l.getD i []] := by
  rw [List.take_add_one, List.getD_eq_getElem?_getD]
  rw [List.getElem?_eq_getElem h]; rfl
theorem listB_le (l : List (List UInt8)) (h : total l ≤ 1000000000000) (hl : l.length ≤ 1000000000) : (listB l).length ≤ 9 + total l + 9 * l.length := by
  have h1 := numB_length l.length (by omega)
  have h2 := listTail_length l (by omega)
  simp only [listB, List.length_append]; omega
theorem total_cons (s : List UInt8) (l : List (List UInt8)) : total (s :: l) = s.length + total l := by simp [total]
end Go.VL

set_option linter.unusedVariables false
set_option linter.unusedSimpArgs false
namespace Go.VL
def shaSum (p : List UInt8) (l : List (List UInt8)) : Id32 := sha (listB (p :: l))
def plT (a b : Int) : List UInt8 := numB a.toNat ++ numB b.toNat
def stepE (x : Id16) (a b : Int) (i : Nat) : Id16 := cutE (shaSum [115] [x.1, numB i, plT a b])
def walkN (a b : Int) : Nat → Nat → Id16 → Id16
  | 0, _, x => x
  | k + 1, i, x => walkN a b k (i + 1) (stepE x a b i)
def walkE (x : Id16) (a b : Int) (s t : Int) : Id16 := walkN a b (min t 15 - max s 0).toNat (max s 0).toNat x
def nib (x : List UInt8) (i : Nat) : Nat := (x.getD (i / 2) 0).toNat / 2 ^ (4 - 4 * (i % 2)) % 16
def lft (x : List UInt8) : Nat → Nat
  | 0 => 0
  | i + 1 => lft x i + (15 - nib x i)
def digs (x : List UInt8) : List Int := ((List.range 32).map fun i => (nib x i : Int)) ++ [((lft x 32 / 256 : Nat) : Int), ((lft x 32 / 16 % 16 : Nat) : Int), ((lft x 32 % 16 : Nat) : Int)]
def fillI (l : List Int) (n i : Nat) : List Int := l.take i ++ iz (n - i)
def someLt (a b : List Int) (i : Nat) : Bool := (List.range i).any fun j => decide (a.getD j 0 < b.getD j 0)
end Go.VL

set_option linter.unusedVariables false
set_option linter.unusedSimpArgs false
namespace Go.VL
def esC (l : List Id16) : List V := (l.map fun x => bv x.1).flatten
@[go_sem] theorem esC_nil : esC [] = [] := rfl
@[go_sem] theorem esC_len (l : List Id16) : (esC l).length = l.length * 16 := by
  unfold esC
  induction l with
  | nil => rfl
  | cons x l ih => simp only [List.map_cons, List.flatten_cons, List.length_append, ih, bv_length, x.2, List.length_cons]; omega
theorem esC_app (l : List Id16) (x : Id16) : esC l ++ bv x.1 = esC (l ++ [x]) := by simp [esC]
theorem esC_get (l : List Id16) (i : Nat) (hi : i < l.length) : ((esC l).drop (i * 16)).take 16 = bv (l.getD i z16).1 := by
  unfold esC
  rw [flat_chunk 16 _ i (fun c hc => by obtain ⟨x, _, rfl⟩ := List.mem_map.1 hc; rw [bv_length]; exact x.2) (by simpa using hi)]
  simp [List.getD_eq_getElem?_getD, hi]
theorem esC_flat (l : List Id16) : FlatS (esC l) := FlatS.rows (f := fun x : Id16 => bv x.1) (fun x => FlatS.bv x.1) l
@[go_sem] theorem esC_fz (l : List Id16) : (esC l).map V.fz = esC l := by
  rw [List.map_congr_left (g := id) (fun c hc => by obtain ⟨v, rfl⟩ := esC_flat l c hc; rfl), List.map_id]
@[go_sem] theorem esC_own1 (l : List Id16) : (∀ z ∈ esC l, noOwnB z = true) = True := eq_true fun z hz => by
  obtain ⟨v, rfl⟩ := esC_flat l z hz; rfl
@[go_sem] theorem esC_own2 (l : List Id16) : (∀ z ∈ esC l, noOwnB z = true ∧ oneB z = true) = True := eq_true fun z hz => by
  obtain ⟨v, rfl⟩ := esC_flat l z hz; exact ⟨rfl, rfl⟩
@[go_sem] theorem esC_one2 (l : List Id16) : (∀ z ∈ esC l, oneB z = true) = True := eq_true fun z hz => by
  obtain ⟨v, rfl⟩ := esC_flat l z hz; rfl
def upE (l r : Id16) (lv ix : Int) : Id16 := cutE (shaSum [110] [l.1 ++ r.1, numB lv.toNat, numB ix.toNat])
theorem up_tot (l r : Id16) (a b : Nat) (ha : a < 9223372036854775808) (hb : b < 9223372036854775808) : total [l.1 ++ r.1, numB a, numB b] ≤ 100 := by
  have h1 := numB_length a ha
  have h2 := numB_length b hb
  simp only [total, List.map_cons, List.map_nil, List.sum_cons, List.sum_nil, List.length_append, l.2, r.2]; omega
def riseN (row : List Id16) (lv : Nat) (k : Nat) : List Id16 := (List.range k).map fun i => upE (row.getD (2 * i) z16) (row.getD (2 * i + 1) z16) lv i
def riseE (row : List Id16) (lv : Nat) : List Id16 := riseN row lv (row.length / 2)
theorem riseN_len (row : List Id16) (lv k : Nat) : (riseN row lv k).length = k := by simp [riseN]
theorem riseE_len (row : List Id16) (lv : Nat) : (riseE row lv).length = row.length / 2 := riseN_len _ _ _
theorem riseN_succ (row : List Id16) (lv k : Nat) : riseN row lv (k + 1) = riseN row lv k ++ [upE (row.getD (2 * k) z16) (row.getD (2 * k + 1) z16) lv k] := by simp [riseN, List.range_succ]
theorem riseE_get (row : List Id16) (lv i : Nat) (h : i < row.length / 2) : (riseE row lv).getD i z16 = upE (row.getD (2 * i) z16) (row.getD (2 * i + 1) z16) lv i := by
  simp [riseE, riseN, List.getD_eq_getElem?_getD, h]
def levelE (l : List Id16) : Nat → List Id16
  | 0 => l
  | k + 1 => riseE (levelE l k) (k + 1)
theorem levelE_len (l : List Id16) : ∀ k, (levelE l k).length = l.length / 2 ^ k
  | 0 => by simp [levelE]
  | k + 1 => by rw [levelE, riseE_len, levelE_len l k, Nat.div_div_eq_div_mul, Nat.pow_succ]
def atE (l : List Id16) : Nat → Nat → Id16
  | 0, i => l.getD i z16
  | k + 1, i => upE (atE l k (2 * i)) (atE l k (2 * i + 1)) (k + 1 : Nat) i
theorem level_at (l : List Id16) : ∀ k i, i < l.length / 2 ^ k → (levelE l k).getD i z16 = atE l k i
  | 0, i, h => rfl
  | k + 1, i, h => by
    have e : l.length / 2 ^ (k + 1) = l.length / 2 ^ k / 2 := by rw [Nat.pow_succ, Nat.div_div_eq_div_mul]
    rw [levelE, riseE_get _ _ _ (by rw [levelE_len]; omega), atE, level_at l k _ (by omega), level_at l k _ (by omega)]
def beside (a : Nat) : Nat := if a % 2 = 1 then a - 1 else a + 1
def pathF (l : List Id16) : Nat → Nat → Nat → List Id16
  | _, _, 0 => []
  | k, a, c + 1 => atE l k (beside a) :: pathF l (k + 1) (a / 2) c
def climbL : Id16 → Int → Nat → List Id16 → Id16
  | x, _, _, [] => x
  | x, b, k, y :: p => climbL (if b % 2 = 1 then upE y x (k + 1 : Nat) (b / 2) else upE x y (k + 1 : Nat) (b / 2)) (b / 2) (k + 1) p
def climbE (x : Id16) (a : Int) (p : List Id16) : Id16 := climbL x a 0 p
def goodN (n : Nat) : Prop := n = 1 ∨ n = 2 ∨ n = 4 ∨ n = 8 ∨ n = 16 ∨ n = 32 ∨ n = 64 ∨ n = 128 ∨ n = 256
instance (n : Nat) : Decidable (goodN n) := by unfold goodN; infer_instance
end Go.VL

set_option linter.unusedVariables false
set_option linter.unusedSimpArgs false
namespace Go.VL
def secE (seed : List UInt8) (ix ch : Int) : Id16 := cutE (shaSum [107] [seed, numB ix.toNat, numB ch.toNat])
def leafE (ends : List UInt8) (ix : Int) : Id16 := cutE (shaSum [108] [ends, numB ix.toNat])
def endsN (f : Nat → Id16) : Nat → List UInt8
  | 0 => []
  | k + 1 => endsN f k ++ (f k).1
theorem endsN_0 (f : Nat → Id16) : endsN f 0 = [] := rfl
theorem endsN_len (f : Nat → Id16) : ∀ k, (endsN f k).length = 16 * k
  | 0 => rfl
  | k + 1 => by rw [endsN, List.length_append, endsN_len f k, (f k).2]; omega
def keyF (seed : List UInt8) (ix : Int) (i : Nat) : Id16 := walkE (secE seed ix i) ix i 0 15
def keyE (seed : List UInt8) (ix : Int) : Id16 := leafE (endsN (keyF seed ix) 35) ix
def signF (seed : List UInt8) (ix : Int) (d : Id16) (i : Nat) : Id16 := walkE (secE seed ix i) ix i 0 ((digs d.1).getD i 0)
def signE (seed : List UInt8) (ix : Int) (d : Id16) : List UInt8 := endsN (signF seed ix d) 35
def partE (s : List UInt8) (i : Nat) : Id16 := ⟨(List.range 16).map fun k => s.getD (16 * i + k) 0, by simp⟩
def meetF (s : List UInt8) (ix : Int) (d : Id16) (i : Nat) : Id16 := walkE (partE s i) ix i ((digs d.1).getD i 0) 15
def meetE (s : List UInt8) (ix : Int) (d : Id16) : Id16 := leafE (endsN (meetF s ix d) 35) ix
end Go.VL

set_option linter.unusedVariables false
set_option linter.unusedSimpArgs false
set_option maxRecDepth 100000
open Go.RowKit
namespace Go.VL
def rd (s : List UInt8) (f : Bool) : Option (List V) := some [.flat (.string (bs s)), .flat (.bool f)]
def rTake (n : Nat) (s : List UInt8) (f : Bool) : List UInt8 × (List UInt8 × Bool) := if f = true ∨ s.length < n then ([], ([], true)) else (s.take n, (s.drop n, false))
def be (l : List UInt8) : Nat := l.foldl (fun n b => n * 256 + b.toNat) 0
theorem be_snoc (l : List UInt8) (b : UInt8) : be (l ++ [b]) = be l * 256 + b.toNat := by simp [be]
theorem be_acc : ∀ (l : List UInt8) (n : Nat), l.foldl (fun n b => n * 256 + b.toNat) n = n * 256 ^ l.length + be l
  | [], n => by simp [be]
  | b :: r, n => by
    have h1 := be_acc r (n * 256 + b.toNat)
    have h2 := be_acc r b.toNat
    simp only [be, List.foldl_cons, Nat.zero_mul, Nat.zero_add, List.length_cons, Nat.pow_succ] at *
    rw [h1, h2, Nat.add_mul, Nat.mul_assoc, Nat.mul_comm 256, Nat.add_assoc]
theorem be_cons (b : UInt8) (l : List UInt8) : be (b :: l) = b.toNat * 256 ^ l.length + be l := by
  rw [← be_acc l b.toNat]
  simp [be]
theorem be_lt : ∀ (l : List UInt8), be l < 256 ^ l.length
  | [] => by simp [be]
  | b :: r => by
    have h1 := be_lt r
    have h2 := b.toNat_lt
    rw [be_cons, List.length_cons, Nat.pow_succ]
    have : b.toNat * 256 ^ r.length ≤ 255 * 256 ^ r.length := Nat.mul_le_mul_right _ (by omega)
    omega
def badNum (l : List UInt8) : Bool := decide (8 < l.length) || (decide (0 < l.length) && decide (l.getD 0 0 = 0)) || (decide (l.length = 8) && decide (127 < (l.getD 0 0).toNat))
theorem be_good {l : List UInt8} (h : badNum l = false) : be l < 9223372036854775808 ∧ l.length ≤ 8 := by
  simp only [badNum, Bool.or_eq_false_iff, Bool.and_eq_false_iff, decide_eq_false_iff_not] at h
  obtain ⟨⟨h1, h2⟩, h3⟩ := h
  refine ⟨?_, by omega⟩
  by_cases h8 : l.length = 8
  · rcases h3 with h3 | h3
    · exact absurd h8 h3
    · cases l with
      | nil => simp at h8
      | cons b r =>
        have h7 : r.length = 7 := by simpa using h8
        have := be_lt r
        rw [be_cons, h7] at *
        simp at h3
        have hb : b.toNat ≤ 127 := by omega
        have := Nat.mul_le_mul_right (256 ^ 7) hb
        omega
  · have := be_lt l
    have h7 : l.length ≤ 7 := by omega
    have := Nat.pow_le_pow_right (show 0 < 256 by omega) h7
    omega
theorem shlor (n b : Nat) (h : n * 256 + b < 9223372036854775808) (hb : b < 256) : IntKind.i64.wrap (((BitVec.ofInt IntKind.i64.bits (IntKind.i64.wrap ((n : Int) * 2 ^ min 8 IntKind.i64.bits)) ||| BitVec.ofInt IntKind.i64.bits (b : Int)).toNat : Int)) = ((n * 256 + b : Nat) : Int) := by
  have e1 : IntKind.i64.wrap ((n : Int) * 2 ^ min 8 IntKind.i64.bits) = ((n * 256 : Nat) : Int) := by
    show IntKind.i64.wrap ((n : Int) * 256) = _
    rw [wi (by omega) (by omega)]; omega
  rw [e1]
  have e2 : (BitVec.ofInt IntKind.i64.bits ((n * 256 : Nat) : Int) ||| BitVec.ofInt IntKind.i64.bits (b : Int)).toNat = n * 256 + b := by
    show (BitVec.ofInt 64 ((n * 256 : Nat) : Int) ||| BitVec.ofInt 64 (b : Int)).toNat = _
    rw [BitVec.toNat_or, BitVec.ofInt_natCast, BitVec.ofInt_natCast, BitVec.toNat_ofNat, BitVec.toNat_ofNat, Nat.mod_eq_of_lt (by omega), Nat.mod_eq_of_lt (by omega)]
    have := Nat.shiftLeft_add_eq_or_of_lt (i := 8) (b := b) (by omega) n
    rw [Nat.shiftLeft_eq] at this
    exact this.symm
  rw [e2, wi (by omega) (by omega)]
def rNum (s : List UInt8) (f : Bool) : Nat × (List UInt8 × Bool) :=
  let a := rTake 1 s f
  if a.2.2 = true then (0, a.2) else
    let c := rTake (a.1.getD 0 0).toNat a.2.1 a.2.2
    if badNum c.1 = true then (0, ([], true)) else (be c.1, c.2)
def rEnd (s : List UInt8) (f : Bool) : Int := if f = true ∨ s ≠ [] then 4 else 0
theorem be_rev (l : List UInt8) : be l.reverse = val l := by
  induction l with
  | nil => rfl
  | cons b r ih => rw [List.reverse_cons, be_snoc, ih, val]; omega
theorem le_top : ∀ (n : Nat), 0 < n → 0 < ((le n).reverse.getD 0 0).toNat := by
  intro n
  induction n using Nat.strongRecOn with
  | _ n ih =>
    intro h
    rw [le_pos h]
    rcases Nat.eq_zero_or_pos (n / 256) with h0 | h0
    · rw [h0, le_zero]
      simp
      omega
    · have h1 := ih (n / 256) (Nat.div_lt_self h (by omega)) h0
      rw [List.reverse_cons]
      have h2 : 0 < (le (n / 256)).reverse.length := by rw [le_pos h0]; simp
      rw [List.getD_eq_getElem?_getD, List.getElem?_append_left h2, ← List.getD_eq_getElem?_getD]
      exact h1
theorem good_le (n : Nat) (hn : n < 9223372036854775808) : badNum (le n).reverse = false := by
  have h8 := le_length 8 n (by omega)
  rcases Nat.eq_zero_or_pos n with rfl | h
  · rw [le_zero]; rfl
  · have ht := le_top n h
    have hv : be (le n).reverse = n := by rw [be_rev, val_le]
    cases hl : (le n).reverse with
    | nil => rfl
    | cons b r =>
      rw [hl] at ht hv
      have hlen : r.length + 1 ≤ 8 := by
        have := congrArg List.length hl
        rw [List.length_reverse, List.length_cons] at this
        omega
      simp only [List.getD_cons_zero] at ht
      simp only [badNum, List.length_cons, List.getD_cons_zero, Bool.or_eq_false_iff, Bool.and_eq_false_iff, decide_eq_false_iff_not]
      refine ⟨⟨by omega, .inr ?_⟩, ?_⟩
      · intro hb; subst hb; simp at ht
      · by_cases h7 : r.length = 7
        · right
          rw [be_cons, h7] at hv
          intro hb
          have := Nat.mul_le_mul_right (256 ^ 7) (show 128 ≤ b.toNat by omega)
          omega
        · left; omega
def rText (s : List UInt8) (f : Bool) : List UInt8 × (List UInt8 × Bool) := rTake (rNum s f).1 (rNum s f).2.1 (rNum s f).2.2
def rTexts : Nat → List UInt8 → Bool → List (List UInt8) × (List UInt8 × Bool)
  | 0, s, f => ([], (s, f))
  | n + 1, s, f => if f = true then ([], (s, f)) else
    ((rText s f).1 :: (rTexts n (rText s f).2.1 (rText s f).2.2).1, (rTexts n (rText s f).2.1 (rText s f).2.2).2)
def rStart (s : List UInt8) (f : Bool) : List UInt8 × Bool := if 4096 < (rNum s f).1 then ([], true) else (rNum s f).2
def rList (s : List UInt8) (f : Bool) : List (List UInt8) × (List UInt8 × Bool) :=
  if (rTexts (rNum s f).1 (rStart s f).1 (rStart s f).2).2.2 = true then ([], (rTexts (rNum s f).1 (rStart s f).1 (rStart s f).2).2) else rTexts (rNum s f).1 (rStart s f).1 (rStart s f).2
theorem rTexts_stop (n : Nat) (s : List UInt8) : rTexts n s true = ([], (s, true)) := by cases n <;> simp [rTexts]
theorem rNum_lt (s : List UInt8) (f : Bool) : (rNum s f).1 < 9223372036854775808 := by
  simp only [rNum]
  split
  · simp
  · split
    · simp
    · rename_i h
      exact (be_good (by simpa using h)).1
def sL (s : List UInt8) : List (List UInt8) × (List UInt8 × Bool) := rList s (decide ((s.length : Int) > 262144))
def sE (s : List UInt8) : Int := rEnd (sL s).2.1 (sL s).2.2
def sR (s : List UInt8) : List (List UInt8) := if sE s = 0 then (sL s).1 else []
theorem sL_short {s : List UInt8} (h : s.length ≤ 262144) : sL s = rList s false := by
  rw [sL, decide_eq_false (by omega)]
theorem sL_long {s : List UInt8} (h : 262144 < s.length) : sL s = ([], ([], true)) := by
  rw [sL, decide_eq_true (by omega), show rList s true = ([], ([], true)) by simp [rList, rStart, rNum, rTake, rTexts]]
theorem rNum_cases (h : UInt8) (t r : List UInt8) (ht : t.length = h.toNat) : rNum (h :: (t ++ r)) false = if badNum t = true then (0, ([], true)) else (be t, (r, false)) := by
  have h1 : rTake 1 (h :: (t ++ r)) false = ([h], (t ++ r, false)) := by simp [rTake]
  have h2 : rTake h.toNat (t ++ r) false = (t, (r, false)) := by
    rw [← ht]
    have e : ¬ (t ++ r).length < t.length := by simp
    simp only [rTake, e, or_false, Bool.false_eq_true, if_false, List.take_left, List.drop_left]
  simp only [rNum, h1, Bool.false_eq_true, if_false, List.getD_cons_zero, h2]
theorem rNum_nil : rNum [] false = (0, ([], true)) := by simp [rNum, rTake]
theorem rNum_short (h : UInt8) (l : List UInt8) (hl : l.length < h.toNat ∨ 8 < h.toNat) : rNum (h :: l) false = (0, ([], true)) := by
  have h1 : rTake 1 (h :: l) false = ([h], (l, false)) := by simp [rTake]
  simp only [rNum, h1, Bool.false_eq_true, if_false, List.getD_cons_zero]
  by_cases hs : l.length < h.toNat
  · have h2 : rTake h.toNat l false = ([], ([], true)) := by simp [rTake, hs]
    rw [h2]; rfl
  · have h2 : rTake h.toNat l false = (l.take h.toNat, (l.drop h.toNat, false)) := by simp [rTake, hs]
    rw [h2]
    have h3 : badNum (l.take h.toNat) = true := by
      have : (l.take h.toNat).length = h.toNat := by rw [List.length_take]; omega
      rcases hl with hl | hl
      · omega
      · simp [badNum, this, hl]
    rw [if_pos h3]
theorem be_first {t : List UInt8} {i : Nat} (hi : i < t.length) (h8 : t.length ≤ 8) (h : 36028797018963967 < be (t.take i)) : i = 7 ∧ 127 < (t.getD 0 0).toNat := by
  have hbl : be (t.take i) < 256 ^ i := by
    have := be_lt (t.take i)
    rwa [List.length_take, Nat.min_eq_left (by omega)] at this
  have h7 : i = 7 := by
    by_cases h6 : i ≤ 6
    · have := Nat.pow_le_pow_right (show 0 < 256 by omega) h6
      omega
    · omega
  subst h7
  refine ⟨rfl, ?_⟩
  cases t with
  | nil => simp at hi
  | cons c u =>
    rw [List.take_succ_cons, be_cons] at h
    have hl : (u.take 6).length = 6 := by rw [List.length_take]; simp at hi; omega
    have := be_lt (u.take 6)
    rw [hl] at this h
    simp only [List.getD_cons_zero]
    omega
theorem be_first' {t : List UInt8} (h8 : t.length = 8) (h : ¬ 36028797018963967 < be (t.take 7)) : (t.getD 0 0).toNat ≤ 127 := by
  cases t with
  | nil => simp at h8
  | cons c u =>
    rw [List.take_succ_cons, be_cons] at h
    have hl : (u.take 6).length = 6 := by rw [List.length_take]; simp at h8; omega
    rw [hl] at h
    simp only [List.getD_cons_zero]
    omega
def tNum (s : List UInt8) : V := .tup [.flat (.int .i64 (rNum s false).1), .flat (.string (bs (rNum s false).2.1)), .flat (.bool (!(rNum s false).2.2))]
def tText (s : List UInt8) : V := .tup [.flat (.string (bs (rText s false).1)), .flat (.string (bs (rText s false).2.1)), .flat (.bool (!(rText s false).2.2))]
theorem rTake_rest (n : Nat) (s : List UInt8) (f : Bool) : (rTake n s f).2.1.length ≤ s.length := by
  unfold rTake; split <;> simp
theorem rNum_rest (s : List UInt8) (f : Bool) : (rNum s f).2.1.length ≤ s.length := by
  have h1 := rTake_rest 1 s f
  simp only [rNum]
  split
  · exact h1
  · split
    · simp
    · exact Nat.le_trans (rTake_rest _ _ _) h1
theorem rText_rest (s : List UInt8) (f : Bool) : (rText s f).2.1.length ≤ s.length := Nat.le_trans (rTake_rest _ _ _) (rNum_rest s f)
def tList (s : List UInt8) : V := if (rList s false).2.2 = true then .tup [.sl false 1 0 [], .flat (.string (bs [])), .flat (.bool false)] else .tup [.sl false 1 (rList s false).1.length (sv (rList s false).1), .flat (.string (bs (rList s false).2.1)), .flat (.bool true)]
end Go.VL

set_option linter.unusedVariables false
set_option linter.unusedSimpArgs false
set_option maxRecDepth 100000
set_option maxHeartbeats 4000000
open Go.RowKit
namespace Go.VL
def Dr.kindOk (d : Dr) : Bool := if d.k = 1 ∨ d.k = 2 ∨ d.k = 3 then decide (d.ref = z32) else if d.k = 4 then true else if d.k = 5 then !decide (d.ref = z32) && decide (d.val = []) else false
def Dr.good (d : Dr) : Bool :=
  d.kindOk && (!decide (d.key = []) && decide (d.key.length ≤ 16) && decide (d.val.length ≤ 64))
def Dr.bad2 (d : Dr) : Bool := decide (d.k < 1) || decide (d.k > 5) || decide ((d.key.length : Int) < 1) || decide ((d.key.length : Int) > 16) || decide ((d.val.length : Int) > 64)
theorem Dr.good_of_bad {d : Dr} (h : d.bad2 = true) : d.good = false := by
  cases hg : d.good with
  | false => rfl
  | true =>
    exfalso
    simp only [Dr.good, Dr.kindOk, Bool.and_eq_true, Bool.not_eq_true', decide_eq_true_eq, decide_eq_false_iff_not] at hg
    obtain ⟨h1, ⟨h2, h3⟩, h4⟩ := hg
    have h5 : d.key.length ≠ 0 := fun e => h2 (List.eq_nil_of_length_eq_zero e)
    have h6 : 1 ≤ d.k ∧ d.k ≤ 5 := by
      split at h1
      · omega
      · split at h1
        · omega
        · split at h1
          · omega
          · cases h1
    simp only [Dr.bad2, Bool.or_eq_true, decide_eq_true_eq] at h
    omega
theorem Dr.good_of {d : Dr} (h : d.bad2 = false) : d.good = if d.k ≤ 3 then decide (d.ref = z32) else (decide (d.k = 4) || (!decide (d.ref = z32) && decide (d.val = []))) := by
  simp only [Dr.bad2, Bool.or_eq_false_iff, decide_eq_false_iff_not] at h
  have h5 : d.key ≠ [] := fun e => by rw [e] at h; simp at h
  have hk : d.k = 1 ∨ d.k = 2 ∨ d.k = 3 ∨ d.k = 4 ∨ d.k = 5 := by omega
  have h6 : d.key.length ≤ 16 := by omega
  have h7 : d.val.length ≤ 64 := by omega
  rcases hk with hk | hk | hk | hk | hk <;> simp [Dr.good, Dr.kindOk, hk, h5, h6, h7]
structure Opn where
  d : Dr
  a : Int
  dep : Int
  ps : List Id32
  deriving DecidableEq
def Opn.c (o : Opn) : List V := (⟨o.d, o.a, o.dep, .sl false 32 o.ps.length (idsC o.ps)⟩ : OpR).c
def Opn.ok (o : Opn) : Prop := o.d.ok ∧ inR o.a ∧ inR o.dep ∧ o.ps.length ≤ 140737488351232
def Opn.great (o : Opn) : Bool := decide ((o.ps.length : Int) > 70) || decide ((o.d.key.length : Int) > 512) || decide ((o.d.val.length : Int) > 512)
def Opn.pre (o : Opn) : Bool := !(!o.d.good || decide (o.a < 0) || decide (o.a ≥ 5) || decide (o.dep < 1) || decide ((o.ps.length : Int) > 32) || (decide ((o.ps.length : Int) = 0) != decide (o.dep = 1)))
def asc (l : List Id32) : Prop := ∀ j, j < l.length → 1 ≤ j → cmpL (l.getD (j - 1) z32).1 (l.getD j z32).1 < 0
instance (l : List Id32) : Decidable (asc l) := by unfold asc; infer_instance
def Opn.good (o : Opn) : Bool := o.pre && decide (asc o.ps)
def Opn.bad2 (o : Opn) : Bool := (decide ((o.ps.length : Int) = 0) && !decide (o.dep = 1)) || (decide ((o.ps.length : Int) > 0) && decide (o.dep < 2)) || decide ((o.ps.length : Int) > 32)
def Dr.parts (d : Dr) : List (List UInt8) := [numB d.k.toNat, d.key, d.val, d.ref.1]
def Dr.text (d : Dr) : List UInt8 := listB d.parts
theorem take_bv32 (x : Id32) : (bv x.1).take 32 = bv x.1 := List.take_of_length_le (by rw [bv_length, x.2]; omega)
def kv : Dr := ⟨1, [107], [118], z32⟩
theorem Dr.text_le (d : Dr) (h1 : d.key.length ≤ 16) (h2 : d.val.length ≤ 64) (h3 : d.k < 9223372036854775808) : d.text.length ≤ 200 := by
  have h4 := numB_length d.k.toNat (by omega)
  have h5 : total d.parts = (numB d.k.toNat).length + d.key.length + d.val.length + 32 := by simp [total, Dr.parts, d.ref.2]; omega
  have := listB_le d.parts (by omega) (by simp [Dr.parts])
  rw [show d.parts.length = 4 from rfl] at this
  show (listB d.parts).length ≤ 200
  omega
theorem Dr.good_le {d : Dr} (h : d.good = true) : d.key.length ≤ 16 ∧ d.val.length ≤ 64 := by
  simp only [Dr.good, Bool.and_eq_true, decide_eq_true_eq] at h
  exact ⟨h.2.1.2, h.2.2⟩
def isBig (s : List UInt8) : Bool := decide ((s.length : Int) > 262144)
def wholeN (s : List UInt8) : Int := ((rNum s (isBig s)).1 : Int)
def wholeOk (s : List UInt8) : Bool := decide (rEnd (rNum s (isBig s)).2.1 (rNum s (isBig s)).2.2 = 0)
def rdDr (s : List UInt8) : Dr × Bool :=
  if h : sE s = 0 ∧ (sR s).length = 4 ∧ ((sR s).getD 3 []).length = 32 then
    (⟨wholeN ((sR s).getD 0 []), (sR s).getD 1 [], (sR s).getD 2 [], ⟨(sR s).getD 3 [], h.2.2⟩⟩, wholeOk ((sR s).getD 0 []))
  else (dr0, false)
theorem wholeN_range (s : List UInt8) : 0 ≤ wholeN s := by unfold wholeN; omega
def rdDrG (s : List UInt8) : Dr × Int := if (rdDr s).2 = true ∧ (rdDr s).1.good = true then ((rdDr s).1, 0) else (dr0, 4)
end Go.VL

set_option linter.unusedVariables false
set_option linter.unusedSimpArgs false
set_option maxRecDepth 100000
set_option maxHeartbeats 4000000
open Go.RowKit
namespace Go.VL
def Ent.out (e : Ent) : Bool := decide (e.mask ≥ 1) && decide (e.mask ≤ 31) && decide ((e.pay.length : Int) ≤ 2048)
def Ent.none (e : Ent) : Bool := decide (e.d.k = 0) && decide (e.d.key = []) && decide (e.d.val = []) && decide (e.d.ref = z32)
def Ent.bare (e : Ent) : Bool := decide (e.from_ = 0) && decide (e.seq = 0) && decide (e.prev = z32) && decide (e.sig = [])
def Ent.good (e : Ent) : Bool :=
  if e.kind = 1 then e.d.good && e.bare && decide (e.mask = 0) && decide (e.pay = [])
  else if e.kind = 2 then e.out && e.none && decide (e.from_ ≥ 0) && decide (e.from_ ≤ 4) && decide (e.seq ≥ 1) && decide ((e.sig.length : Int) ≤ 1024)
  else decide (e.kind = 3) && e.out && e.none && e.bare
theorem Ent.out_mask (e : Ent) : (decide (e.mask > 0) && decide (e.mask < 32) && decide ((e.pay.length : Int) ≤ 2048)) = e.out := by
  unfold Ent.out
  rw [Bool.eq_iff_iff]
  simp only [Bool.and_eq_true, decide_eq_true_eq]
  omega
theorem Ent.none_eq (e : Ent) : e.none = decide (e.d = dr0) := by
  rw [Bool.eq_iff_iff]
  simp only [Ent.none, Bool.and_eq_true, decide_eq_true_eq]
  constructor
  · rintro ⟨⟨⟨a, b⟩, c⟩, d⟩
    cases hd : e.d
    rw [hd] at a b c d
    simp only at a b c d
    subst a b c d
    rfl
  · intro h; rw [h]; exact ⟨⟨⟨rfl, rfl⟩, rfl⟩, rfl⟩
def entD (d : Dr) : Ent := { ent0 with kind := 1, d := d }
def entO (m : Int) (p : List UInt8) : Ent := { ent0 with kind := 3, mask := m, pay := p }
theorem Ent.good1 {e : Ent} (h : e.kind = 1) : e.good = (e.d.good && decide (e = entD e.d)) := by
  rw [Ent.good, if_pos h, Bool.eq_iff_iff]
  simp only [Ent.bare, Bool.and_eq_true, decide_eq_true_eq]
  constructor
  · rintro ⟨⟨⟨a, ⟨⟨b1, b2⟩, b3⟩, b4⟩, c⟩, d⟩
    refine ⟨a, ?_⟩
    cases e
    simp only at h b1 b2 b3 b4 c d
    subst h b1 b2 b3 b4 c d
    rfl
  · rintro ⟨a, b⟩
    rw [b]
    exact ⟨⟨⟨by rw [← b]; exact a, ⟨⟨rfl, rfl⟩, rfl⟩, rfl⟩, rfl⟩, rfl⟩
theorem Ent.good3 {e : Ent} (h : e.kind = 3) : e.good = (e.out && decide (e = entO e.mask e.pay)) := by
  rw [Ent.good, if_neg (by omega), if_neg (by omega), Ent.none_eq, Bool.eq_iff_iff]
  simp only [Ent.bare, Bool.and_eq_true, decide_eq_true_eq]
  constructor
  · rintro ⟨⟨⟨_, a⟩, n⟩, ⟨⟨b1, b2⟩, b3⟩, b4⟩
    refine ⟨a, ?_⟩
    cases e
    simp only at h n b1 b2 b3 b4
    subst h n b1 b2 b3 b4
    rfl
  · rintro ⟨a, b⟩
    rw [b]
    exact ⟨⟨⟨rfl, by rw [← b]; exact a⟩, rfl⟩, ⟨⟨rfl, rfl⟩, rfl⟩, rfl⟩
theorem Ent.good2 {e : Ent} (h : e.kind = 2) : e.good = (e.out && decide (e.d = dr0) && decide (e.from_ ≥ 0) && decide (e.from_ < 5) && decide (e.seq > 0) && decide ((e.sig.length : Int) ≤ 1024)) := by
  rw [Ent.good, if_neg (by omega), if_pos h, Ent.none_eq, Bool.eq_iff_iff]
  simp only [Bool.and_eq_true, decide_eq_true_eq]
  constructor <;> (rintro ⟨⟨⟨⟨⟨a, b⟩, c⟩, d⟩, e1⟩, f⟩; exact ⟨⟨⟨⟨⟨a, b⟩, c⟩, by omega⟩, by omega⟩, f⟩)
theorem Ent.good0 {e : Ent} (h1 : e.kind ≠ 1) (h2 : e.kind ≠ 2) (h3 : e.kind ≠ 3) : e.good = false := by
  rw [Ent.good, if_neg h1, if_neg h2, decide_eq_false h3]; rfl
def Ent.parts (e : Ent) : List (List UInt8) :=
  if e.kind = 1 then [numB e.kind.toNat, e.d.text]
  else if e.kind = 2 then [numB e.kind.toNat, numB e.from_.toNat, numB e.seq.toNat, e.prev.1, numB e.mask.toNat, e.pay, e.sig]
  else [numB e.kind.toNat, numB e.mask.toNat, e.pay]
def Ent.text (e : Ent) : List UInt8 := if e.good = true then listB e.parts else []
theorem Ent.good_le {e : Ent} (h : e.good = true) : e.pay.length ≤ 2048 ∧ e.sig.length ≤ 1024 ∧ e.d.key.length ≤ 16 ∧ e.d.val.length ≤ 64 := by
  rw [Ent.good] at h
  split at h
  · simp only [Ent.bare, Bool.and_eq_true, decide_eq_true_eq] at h
    obtain ⟨⟨⟨h1, ⟨_, h2⟩⟩, _⟩, h3⟩ := h
    have := Dr.good_le h1
    rw [h2, h3]
    simp; exact this
  · split at h
    · rw [Ent.none_eq] at h
      simp only [Ent.out, Bool.and_eq_true, decide_eq_true_eq] at h
      obtain ⟨⟨⟨⟨⟨⟨_, h1⟩, h2⟩, _⟩, _⟩, _⟩, h3⟩ := h
      rw [h2]
      exact ⟨by omega, by omega, by simp [dr0], by simp [dr0]⟩
    · rw [Ent.none_eq] at h
      simp only [Ent.out, Ent.bare, Bool.and_eq_true, decide_eq_true_eq] at h
      obtain ⟨⟨⟨_, ⟨_, h1⟩⟩, h2⟩, ⟨_, h3⟩⟩ := h
      rw [h2, h3]
      exact ⟨by omega, by simp, by simp [dr0], by simp [dr0]⟩
def Ent.great (e : Ent) : Bool := decide ((e.pay.length : Int) > 20000) || decide ((e.sig.length : Int) > 2000) || decide ((e.d.key.length : Int) > 200) || decide ((e.d.val.length : Int) > 200)
theorem Ent.total_le {e : Ent} (he : e.ok) (h : e.good = true) : total e.parts ≤ 1000000 ∧ e.parts.length ≤ 7 := by
  obtain ⟨i1, i2, i3, i4, i5, i6, i7⟩ := he
  have n5 : e.d.k < 9223372036854775808 := by have := i2.1.2; omega
  have b1 := numB_length e.kind.toNat (by have := i1.2; omega)
  have b2 := numB_length e.from_.toNat (by have := i3.2; omega)
  have b3 := numB_length e.seq.toNat (by have := i4.2; omega)
  have b4 := numB_length e.mask.toNat (by have := i5.2; omega)
  obtain ⟨c1, c2, c3, c4⟩ := Ent.good_le h
  have b5 := Dr.text_le e.d c3 c4 n5
  unfold Ent.parts
  split
  · simp [total]; omega
  · split
    · simp [total, e.prev.2]; omega
    · simp [total]; omega
theorem Ent.kinds {e : Ent} (h : e.good = true) : e.kind = 1 ∨ e.kind = 2 ∨ e.kind = 3 := by
  by_cases h1 : e.kind = 1
  · exact .inl h1
  · by_cases h2 : e.kind = 2
    · exact .inr (.inl h2)
    · by_cases h3 : e.kind = 3
      · exact .inr (.inr h3)
      · rw [Ent.good0 h1 h2 h3] at h; cases h
theorem Ent.out_ge {e : Ent} (h : e.out = true) : 1 ≤ e.mask := by
  simp only [Ent.out, Bool.and_eq_true, decide_eq_true_eq] at h
  omega
theorem entO_ok {m : Int} {p : List UInt8} (hm : inR m) (hp : p.length ≤ 140737488351232) : (entO m p).ok :=
  ⟨by unfold inR entO; simp, by unfold Dr.ok inR; simp [entO, ent0, dr0], by unfold inR; simp [entO, ent0], by unfold inR; simp [entO, ent0], hm, hp, by simp [entO, ent0]⟩
def outE (o : Ou) : Ent := entO o.mask o.pay
theorem Ent.text_le {e : Ent} (he : e.ok) : e.text.length ≤ 4000 := by
  unfold Ent.text
  split
  · rename_i hg
    obtain ⟨i1, i2, i3, i4, i5, i6, i7⟩ := he
    have n5 : e.d.k < 9223372036854775808 := by have := i2.1.2; omega
    have b1 := numB_length e.kind.toNat (by have := i1.2; omega)
    have b2 := numB_length e.from_.toNat (by have := i3.2; omega)
    have b3 := numB_length e.seq.toNat (by have := i4.2; omega)
    have b4 := numB_length e.mask.toNat (by have := i5.2; omega)
    obtain ⟨c1, c2, c3, c4⟩ := Ent.good_le hg
    have b5 := Dr.text_le e.d c3 c4 n5
    have ht : total e.parts ≤ 3200 ∧ e.parts.length ≤ 7 := by
      unfold Ent.parts
      split
      · simp [total]; omega
      · split
        · simp [total, e.prev.2]; omega
        · simp [total]; omega
    have := listB_le e.parts (by omega) (by omega)
    omega
  · simp
theorem total_texts : ∀ (l : List Ent), (∀ e ∈ l, e.ok) → total (l.map Ent.text) ≤ 4000 * l.length
  | [], _ => by simp [total]
  | e :: l, h => by
    have h1 := Ent.text_le (h e (by simp))
    have h2 := total_texts l (fun x hx => h x (by simp [hx]))
    have e1 : total ((e :: l).map Ent.text) = e.text.length + total (l.map Ent.text) := by simp [total]
    rw [e1, List.length_cons]
    omega
def textsB (l : List Ent) : List UInt8 := listB (l.map Ent.text)
def numT (s : List UInt8) : Int := if wholeOk s = true then wholeN s else -1
end Go.VL

set_option linter.unusedVariables false
set_option linter.unusedSimpArgs false
set_option maxRecDepth 100000
set_option maxHeartbeats 4000000
open Go.RowKit
namespace Go.VL
theorem val_pos : ∀ (l : List UInt8), l ≠ [] → l.getLast? ≠ some 0 → 0 < val l
  | [], h, _ => absurd rfl h
  | [b], _, h => by
    have : b ≠ 0 := fun e => h (by rw [e]; rfl)
    have : b.toNat ≠ 0 := fun e => this (UInt8.toNat_inj.1 (by simpa using e))
    simp only [val]; omega
  | b :: c :: r, _, h => by
    have := val_pos (c :: r) (by simp) (by simpa using h)
    rw [val]; omega
theorem le_val : ∀ (l : List UInt8), (l ≠ [] → l.getLast? ≠ some 0) → le (val l) = l
  | [], _ => le_zero
  | b :: r, h => by
    have hp := val_pos (b :: r) (by simp) (h (by simp))
    have hb := b.toNat_lt
    rw [le_pos hp]
    have e1 : val (b :: r) % 256 = b.toNat := by rw [val]; omega
    have e2 : val (b :: r) / 256 = val r := by rw [val]; omega
    rw [e1, e2, le_val r (fun hr => by
      have := h (by simp)
      cases r with
      | nil => exact absurd rfl hr
      | cons c r => simpa using this)]
    simp
theorem rNum_back {s r : List UInt8} {n : Nat} (h : rNum s false = (n, (r, false))) : s = numB n ++ r := by
  cases s with
  | nil => rw [rNum_nil] at h; simp at h
  | cons c l =>
    by_cases hs : l.length < c.toNat ∨ 8 < c.toNat
    · rw [rNum_short c l hs] at h; simp at h
    · have hl : (l.take c.toNat).length = c.toNat := by rw [List.length_take]; omega
      have h1 := rNum_cases c (l.take c.toNat) (l.drop c.toNat) hl
      rw [List.take_append_drop] at h1
      rw [h1] at h
      split at h
      · simp at h
      · rename_i hb
        simp only [Prod.mk.injEq] at h
        obtain ⟨rfl, rfl, _⟩ := h
        generalize ht : l.take c.toNat = t at *
        have hg : badNum t = false := by simpa using hb
        have e0 : be t = val t.reverse := by rw [← be_rev, List.reverse_reverse]
        have e1 : le (be t) = t.reverse := by
          rw [e0]
          refine le_val _ (fun hne hz => ?_)
          cases t with
          | nil => simp at hne
          | cons x u =>
            rw [List.getLast?_reverse] at hz
            simp only [List.head?_cons, Option.some.injEq] at hz
            subst hz
            simp [badNum] at hg
        rw [numB, e1, List.reverse_reverse, List.length_reverse, hl]
        simp only [UInt8.ofNat_toNat, List.cons_append]
        rw [← ht, List.take_append_drop]
theorem rTake_back {n : Nat} {s t r : List UInt8} {f : Bool} (h : rTake n s f = (t, (r, false))) : f = false ∧ s = t ++ r ∧ t.length = n := by
  unfold rTake at h
  split at h
  · simp at h
  · rename_i hh
    simp only [Prod.mk.injEq] at h
    obtain ⟨rfl, rfl, _⟩ := h
    have h1 : ¬ f = true := fun e => hh (.inl e)
    have h2 : ¬ s.length < n := fun e => hh (.inr e)
    exact ⟨by simpa using h1, by simp, by rw [List.length_take]; omega⟩
theorem rText_back {s r u : List UInt8} (h : rText s false = (u, (r, false))) : s = textB u ++ r := by
  unfold rText at h
  obtain ⟨h1, h2, h3⟩ := rTake_back h
  have := rNum_back (s := s) (n := (rNum s false).1) (r := (rNum s false).2.1) (Prod.ext rfl (Prod.ext rfl h1))
  rw [textB, h3, List.append_assoc, ← h2]; exact this
theorem rTexts_back : ∀ (n : Nat) (s r : List UInt8) (L : List (List UInt8)), rTexts n s false = (L, (r, false)) → s = listTail L ++ r ∧ L.length = n
  | 0, s, r, L, h => by
    simp only [rTexts, Prod.mk.injEq] at h
    obtain ⟨rfl, rfl, _⟩ := h
    exact ⟨rfl, rfl⟩
  | n + 1, s, r, L, h => by
    simp only [rTexts, Bool.false_eq_true, if_false, Prod.mk.injEq] at h
    obtain ⟨h1, h2⟩ := h
    cases hf : (rText s false).2.2
    · rw [hf] at h1 h2
      obtain ⟨h3, h4⟩ := rTexts_back n _ r (rTexts n (rText s false).2.1 false).1 (Prod.ext rfl h2)
      have h5 := rText_back (s := s) (u := (rText s false).1) (r := (rText s false).2.1) (Prod.ext rfl (Prod.ext rfl hf))
      rw [← h1]
      refine ⟨?_, by simp [h4]⟩
      rw [listTail, List.append_assoc, ← h3]; exact h5
    · rw [hf, rTexts_stop] at h2
      simp at h2
theorem rList_back {s r : List UInt8} {L : List (List UInt8)} (h : rList s false = (L, (r, false))) : s = listB L ++ r := by
  unfold rList at h
  split at h
  · rename_i hh
    simp only [Prod.mk.injEq] at h
    rw [h.2] at hh; cases hh
  · cases hf : (rStart s false).2
    · rw [hf] at h
      obtain ⟨h1, h2⟩ := rTexts_back _ _ _ _ h
      have h3 : rStart s false = (rNum s false).2 ∧ (rNum s false).2.2 = false := by
        unfold rStart at hf ⊢
        split at hf
        · cases hf
        · rename_i hh; rw [if_neg hh]; exact ⟨rfl, hf⟩
      have h4 := rNum_back (s := s) (n := (rNum s false).1) (r := (rNum s false).2.1) (Prod.ext rfl (Prod.ext rfl h3.2))
      rw [h3.1] at h1
      rw [listB, h2, List.append_assoc, ← h1]; exact h4
    · rw [hf, rTexts_stop] at h
      simp at h
theorem listTail_ge : ∀ l : List (List UInt8), total l + l.length ≤ (listTail l).length
  | [] => by simp [total, listTail]
  | s :: r => by
    have h1 : total (s :: r) = s.length + total r := by simp [total]
    have := listTail_ge r
    simp only [listTail, textB, List.length_append, numB_len, List.length_cons]
    omega
theorem sE_val (s : List UInt8) : (sE s = 0 ∧ (sL s).2.1 = [] ∧ (sL s).2.2 = false) ∨ (sE s = 4) := by
  unfold sE rEnd
  split
  · exact .inr rfl
  · rename_i h
    refine .inl ⟨rfl, ?_, ?_⟩
    · exact Classical.byContradiction fun hh => h (.inr hh)
    · cases hf : (sL s).2.2
      · rfl
      · exact absurd (.inl hf) h
theorem split_back {s : List UInt8} (h : sE s = 0) : s = listB (sR s) ∧ s.length ≤ 262144 := by
  have hlen : s.length ≤ 262144 := by
    rcases Nat.lt_or_ge 262144 s.length with q | q
    · have e1 : sE s = 4 := by unfold sE; rw [sL_long q]; rfl
      omega
    · exact q
  refine ⟨?_, hlen⟩
  rcases sE_val s with ⟨_, h2, h3⟩ | h4
  · have hr : sR s = (sL s).1 := by unfold sR; rw [if_pos h]
    have := rList_back (s := s) (r := []) (L := (sL s).1) (by rw [← sL_short hlen, ← h2, ← h3])
    rw [hr]
    rw [List.append_nil] at this
    exact this
  · omega
theorem split_len {s t : List UInt8} (h : sE s = 0) (ht : t ∈ sR s) : t.length ≤ s.length := by
  have hb := (split_back h).1
  have h1 := mem_total ht
  have h2 := listTail_ge (sR s)
  have h3 : (listB (sR s)).length = (numB (sR s).length).length + (listTail (sR s)).length := by rw [listB, List.length_append]
  rw [← hb] at h3
  omega
end Go.VL
