/- Part StEnt of the proof: made for this claim. -/
import Derived.Test.YtljfmgfokifooaaStPl
set_option linter.unusedVariables false
set_option linter.unusedSimpArgs false
namespace Go.VL

structure Dr where
  k : Int
  key : List UInt8
  val : List UInt8
  ref : Id32
  deriving DecidableEq
def Dr.c (o : Dr) : List V := [.flat (.int .i64 o.k)] ++ ([.flat (.string (bs o.key))] ++ ([.flat (.string (bs o.val))] ++ (bv o.ref.1)))
theorem Dr.c_len (o : Dr) : o.c.length = 35 := by
  simp [Dr.c, bv_length, o.ref.2]
theorem Dr.tk (o : Dr) : o.c.take 35 = o.c := List.take_of_length_le (by rw [Dr.c_len]; omega)
theorem Dr.wh (o p : Dr) : putV o.c 0 p.c = p.c := putV_all (by rw [Dr.c_len, Dr.c_len])
theorem Dr.split0 (o : Dr) : o.c = ([]) ++ (([.flat (.int .i64 o.k)]) ++ ([.flat (.string (bs o.key))] ++ ([.flat (.string (bs o.val))] ++ (bv o.ref.1)))) := by simp [Dr.c]
theorem Dr.r0 (o : Dr) : o.c.getD 0 .unk = .flat (.int .i64 o.k) := by
  have := getD_mid ([]) (.flat (.int .i64 o.k)) ([.flat (.string (bs o.key))] ++ ([.flat (.string (bs o.val))] ++ (bv o.ref.1))) 0 (by simp [bv_length])
  rw [← Dr.split0] at this; simpa using this
theorem Dr.w0 (o : Dr) (x : Int) : putV o.c 0 ([.flat (.int .i64 x)]) = ({ o with k := x } : Dr).c := by
  have := putV_mid ([]) ([.flat (.int .i64 o.k)]) ([.flat (.string (bs o.key))] ++ ([.flat (.string (bs o.val))] ++ (bv o.ref.1))) ([.flat (.int .i64 x)]) 0 (by simp [bv_length]) (by rw [show ([.flat (.int .i64 x)] : List V).length = 1 from by simp [bv_length], show ([.flat (.int .i64 o.k)] : List V).length = 1 from by simp [bv_length]])
  rw [← Dr.split0] at this; rw [this]; simp [Dr.c]
theorem Dr.split1 (o : Dr) : o.c = ([.flat (.int .i64 o.k)]) ++ (([.flat (.string (bs o.key))]) ++ ([.flat (.string (bs o.val))] ++ (bv o.ref.1))) := by simp [Dr.c]
theorem Dr.r1 (o : Dr) : o.c.getD 1 .unk = .flat (.string (bs o.key)) := by
  have := getD_mid ([.flat (.int .i64 o.k)]) (.flat (.string (bs o.key))) ([.flat (.string (bs o.val))] ++ (bv o.ref.1)) 1 (by simp [bv_length])
  rw [← Dr.split1] at this; simpa using this
theorem Dr.w1 (o : Dr) (x : List UInt8) : putV o.c 1 ([.flat (.string (bs x))]) = ({ o with key := x } : Dr).c := by
  have := putV_mid ([.flat (.int .i64 o.k)]) ([.flat (.string (bs o.key))]) ([.flat (.string (bs o.val))] ++ (bv o.ref.1)) ([.flat (.string (bs x))]) 1 (by simp [bv_length]) (by rw [show ([.flat (.string (bs x))] : List V).length = 1 from by simp [bv_length], show ([.flat (.string (bs o.key))] : List V).length = 1 from by simp [bv_length]])
  rw [← Dr.split1] at this; rw [this]; simp [Dr.c]
theorem Dr.split2 (o : Dr) : o.c = ([.flat (.int .i64 o.k)] ++ [.flat (.string (bs o.key))]) ++ (([.flat (.string (bs o.val))]) ++ (bv o.ref.1)) := by simp [Dr.c]
theorem Dr.r2 (o : Dr) : o.c.getD 2 .unk = .flat (.string (bs o.val)) := by
  have := getD_mid ([.flat (.int .i64 o.k)] ++ [.flat (.string (bs o.key))]) (.flat (.string (bs o.val))) (bv o.ref.1) 2 (by simp [bv_length])
  rw [← Dr.split2] at this; simpa using this
theorem Dr.w2 (o : Dr) (x : List UInt8) : putV o.c 2 ([.flat (.string (bs x))]) = ({ o with val := x } : Dr).c := by
  have := putV_mid ([.flat (.int .i64 o.k)] ++ [.flat (.string (bs o.key))]) ([.flat (.string (bs o.val))]) (bv o.ref.1) ([.flat (.string (bs x))]) 2 (by simp [bv_length]) (by rw [show ([.flat (.string (bs x))] : List V).length = 1 from by simp [bv_length], show ([.flat (.string (bs o.val))] : List V).length = 1 from by simp [bv_length]])
  rw [← Dr.split2] at this; rw [this]; simp [Dr.c]
theorem Dr.split3 (o : Dr) : o.c = ([.flat (.int .i64 o.k)] ++ [.flat (.string (bs o.key))] ++ [.flat (.string (bs o.val))]) ++ ((bv o.ref.1) ++ ([])) := by simp [Dr.c]
theorem Dr.r3 (o : Dr) : (o.c.drop 3).take 32 = bv o.ref.1 := by
  have := drop_take_mid ([.flat (.int .i64 o.k)] ++ [.flat (.string (bs o.key))] ++ [.flat (.string (bs o.val))]) (bv o.ref.1) ([]) 3 32 (by simp [bv_length]) (by simp [bv_length, o.ref.2])
  rw [← Dr.split3] at this; simpa using this
theorem Dr.w3 (o : Dr) (x : Id32) : putV o.c 3 (bv x.1) = ({ o with ref := x } : Dr).c := by
  have := putV_mid ([.flat (.int .i64 o.k)] ++ [.flat (.string (bs o.key))] ++ [.flat (.string (bs o.val))]) (bv o.ref.1) ([]) (bv x.1) 3 (by simp [bv_length]) (by rw [show (bv x.1 : List V).length = 32 from by simp [bv_length, x.2], show (bv o.ref.1 : List V).length = 32 from by simp [bv_length, o.ref.2]])
  rw [← Dr.split3] at this; rw [this]; simp [Dr.c]
theorem Dr.fz (o : Dr) : o.c.map V.fz = o.c := by simp [Dr.c, V.fz, bv_fz]
theorem Dr.own1 (o : Dr) : (∀ z ∈ o.c, noOwnB z = true) = (True) := by
  simp only [Dr.c, List.forall_mem_append, List.forall_mem_singleton, own1_bv]; simp [noOwnB]
theorem Dr.own2 (o : Dr) : (∀ z ∈ o.c, noOwnB z = true ∧ oneB z = true) = (True) := by
  simp only [Dr.c, List.forall_mem_append, List.forall_mem_singleton, own2_bv]; simp [noOwnB, oneB]
theorem Dr.one (o : Dr) : (∀ z ∈ o.c, oneB z = true) = True := eq_true fun z hz => ((of_eq_true (Dr.own2 o)) z hz).2
def Dr.lC (l : List Dr) : List V := (l.map Dr.c).flatten
theorem Dr.l_nil : Dr.lC [] = [] := rfl
theorem Dr.l_len (l : List Dr) : (Dr.lC l).length = l.length * 35 := by
  unfold Dr.lC
  rw [flatten_len 35 _ (fun c hc => by obtain ⟨x, _, rfl⟩ := List.mem_map.1 hc; exact Dr.c_len x), List.length_map]
theorem Dr.l_app (l : List Dr) (x : Dr) : Dr.lC l ++ x.c = Dr.lC (l ++ [x]) := by simp [Dr.lC]
theorem Dr.l_get (l : List Dr) (x : Dr) (i : Nat) (hi : i < l.length) : ((Dr.lC l).drop (i * 35)).take 35 = (l.getD i x).c := by
  unfold Dr.lC
  rw [flat_chunk 35 _ i (fun c hc => by obtain ⟨x, _, rfl⟩ := List.mem_map.1 hc; exact Dr.c_len x) (by simpa using hi)]
  simp [List.getD_eq_getElem?_getD, hi]
theorem Dr.inj (a b : Dr) : a.c.map vlit = b.c.map vlit ↔ a = b := by
  constructor
  · intro h
    cases a; cases b
    simp only [Dr.c, List.map_append, List.map_cons, List.map_nil, List.cons_append, List.nil_append, List.cons.injEq, vlit_int, vlit_bs, vlit_bool, Lit.int.injEq, Lit.string.injEq, Lit.bool.injEq, true_and] at h
    obtain ⟨q0, h0⟩ := h
    obtain ⟨q1, h1⟩ := h0
    obtain ⟨q2, h2⟩ := h1
    have q3 := (vlit_bv _ _).1 h2
    simp_all [Subtype.ext_iff]
  · rintro rfl; rfl
theorem Dr.eqc (a b : Dr) : eqCells a.c b.c = decide (a = b) := by
  rw [Bool.eq_iff_iff, eqCells_iff, decide_eq_true_iff, Dr.inj]
def Dr.ok (o : Dr) : Prop := inR o.k ∧ o.key.length ≤ 140737488351232 ∧ o.val.length ≤ 140737488351232
theorem Dr.fit (o : Dr) (h : o.ok) : Fit (([.int .i64]) ++ ([.str]) ++ ([.str]) ++ (List.replicate 32 (.int .u8))) o.c := by
  obtain ⟨k0, k1, k2⟩ := h
  have := fit_app ((fit_int k0)) (fit_app ((fit_str k1)) (fit_app ((fit_str k2)) (((fit_bv _ _ o.ref.2)))))
  simpa [Dr.c, List.append_assoc] using this

structure OpR where
  d : Dr
  a : Int
  dep : Int
  preds : V
def OpR.c (o : OpR) : List V := o.d.c ++ ([.flat (.int .i64 o.a)] ++ ([.flat (.int .i64 o.dep)] ++ ([o.preds])))
theorem OpR.c_len (o : OpR) : o.c.length = 38 := by
  simp [OpR.c, Dr.c_len, bv_length]
theorem OpR.tk (o : OpR) : o.c.take 38 = o.c := List.take_of_length_le (by rw [OpR.c_len]; omega)
theorem OpR.wh (o p : OpR) : putV o.c 0 p.c = p.c := putV_all (by rw [OpR.c_len, OpR.c_len])
theorem OpR.split0 (o : OpR) : o.c = ([]) ++ ((o.d.c) ++ ([.flat (.int .i64 o.a)] ++ ([.flat (.int .i64 o.dep)] ++ ([o.preds])))) := by simp [OpR.c]
theorem OpR.r0 (o : OpR) : o.c.take 35 = o.d.c := by
  have := drop_take_mid ([]) (o.d.c) ([.flat (.int .i64 o.a)] ++ ([.flat (.int .i64 o.dep)] ++ ([o.preds]))) 0 35 (by simp [Dr.c_len, bv_length]) (by simp [Dr.c_len, bv_length])
  rw [← OpR.split0] at this; simpa using this
theorem OpR.w0 (o : OpR) (x : Dr) : putV o.c 0 (x.c) = ({ o with d := x } : OpR).c := by
  have := putV_mid ([]) (o.d.c) ([.flat (.int .i64 o.a)] ++ ([.flat (.int .i64 o.dep)] ++ ([o.preds]))) (x.c) 0 (by simp [Dr.c_len, bv_length]) (by rw [show (x.c : List V).length = 35 from by simp [Dr.c_len, bv_length], show (o.d.c : List V).length = 35 from by simp [Dr.c_len, bv_length]])
  rw [← OpR.split0] at this; rw [this]; simp [OpR.c]
theorem OpR.r0_0 (o : OpR) : o.c.getD 0 .unk = .flat (.int .i64 o.d.k) := by
  have := getD_in o.c 0 35 0 (by omega)
  rw [this, show (o.c.drop 0).take 35 = o.d.c from by simpa using OpR.r0 o]; exact Dr.r0 _
theorem OpR.r0_1 (o : OpR) : o.c.getD 1 .unk = .flat (.string (bs o.d.key)) := by
  have := getD_in o.c 0 35 1 (by omega)
  rw [this, show (o.c.drop 0).take 35 = o.d.c from by simpa using OpR.r0 o]; exact Dr.r1 _
theorem OpR.r0_2 (o : OpR) : o.c.getD 2 .unk = .flat (.string (bs o.d.val)) := by
  have := getD_in o.c 0 35 2 (by omega)
  rw [this, show (o.c.drop 0).take 35 = o.d.c from by simpa using OpR.r0 o]; exact Dr.r2 _
theorem OpR.r0_3 (o : OpR) : (o.c.drop 3).take 32 = bv o.d.ref.1 := by
  have := drop_take_in o.c 0 35 3 32 (by omega)
  rw [this, show (o.c.drop 0).take 35 = o.d.c from by simpa using OpR.r0 o]; exact Dr.r3 _
theorem OpR.split1 (o : OpR) : o.c = (o.d.c) ++ (([.flat (.int .i64 o.a)]) ++ ([.flat (.int .i64 o.dep)] ++ ([o.preds]))) := by simp [OpR.c]
theorem OpR.r1 (o : OpR) : o.c.getD 35 .unk = .flat (.int .i64 o.a) := by
  have := getD_mid (o.d.c) (.flat (.int .i64 o.a)) ([.flat (.int .i64 o.dep)] ++ ([o.preds])) 35 (by simp [Dr.c_len, bv_length])
  rw [← OpR.split1] at this; simpa using this
theorem OpR.w1 (o : OpR) (x : Int) : putV o.c 35 ([.flat (.int .i64 x)]) = ({ o with a := x } : OpR).c := by
  have := putV_mid (o.d.c) ([.flat (.int .i64 o.a)]) ([.flat (.int .i64 o.dep)] ++ ([o.preds])) ([.flat (.int .i64 x)]) 35 (by simp [Dr.c_len, bv_length]) (by rw [show ([.flat (.int .i64 x)] : List V).length = 1 from by simp [Dr.c_len, bv_length], show ([.flat (.int .i64 o.a)] : List V).length = 1 from by simp [Dr.c_len, bv_length]])
  rw [← OpR.split1] at this; rw [this]; simp [OpR.c]
theorem OpR.split2 (o : OpR) : o.c = (o.d.c ++ [.flat (.int .i64 o.a)]) ++ (([.flat (.int .i64 o.dep)]) ++ ([o.preds])) := by simp [OpR.c]
theorem OpR.r2 (o : OpR) : o.c.getD 36 .unk = .flat (.int .i64 o.dep) := by
  have := getD_mid (o.d.c ++ [.flat (.int .i64 o.a)]) (.flat (.int .i64 o.dep)) ([o.preds]) 36 (by simp [Dr.c_len, bv_length])
  rw [← OpR.split2] at this; simpa using this
theorem OpR.w2 (o : OpR) (x : Int) : putV o.c 36 ([.flat (.int .i64 x)]) = ({ o with dep := x } : OpR).c := by
  have := putV_mid (o.d.c ++ [.flat (.int .i64 o.a)]) ([.flat (.int .i64 o.dep)]) ([o.preds]) ([.flat (.int .i64 x)]) 36 (by simp [Dr.c_len, bv_length]) (by rw [show ([.flat (.int .i64 x)] : List V).length = 1 from by simp [Dr.c_len, bv_length], show ([.flat (.int .i64 o.dep)] : List V).length = 1 from by simp [Dr.c_len, bv_length]])
  rw [← OpR.split2] at this; rw [this]; simp [OpR.c]
theorem OpR.split3 (o : OpR) : o.c = (o.d.c ++ [.flat (.int .i64 o.a)] ++ [.flat (.int .i64 o.dep)]) ++ (([o.preds]) ++ ([])) := by simp [OpR.c]
theorem OpR.r3 (o : OpR) : o.c.getD 37 .unk = o.preds := by
  have := getD_mid (o.d.c ++ [.flat (.int .i64 o.a)] ++ [.flat (.int .i64 o.dep)]) (o.preds) ([]) 37 (by simp [Dr.c_len, bv_length])
  rw [← OpR.split3] at this; simpa using this
theorem OpR.w3 (o : OpR) (x : V) : putV o.c 37 ([x]) = ({ o with preds := x } : OpR).c := by
  have := putV_mid (o.d.c ++ [.flat (.int .i64 o.a)] ++ [.flat (.int .i64 o.dep)]) ([o.preds]) ([]) ([x]) 37 (by simp [Dr.c_len, bv_length]) (by rw [show ([x] : List V).length = 1 from by simp [Dr.c_len, bv_length], show ([o.preds] : List V).length = 1 from by simp [Dr.c_len, bv_length]])
  rw [← OpR.split3] at this; rw [this]; simp [OpR.c]
def OpR.z (o : OpR) : OpR := { o with preds := o.preds.fz }
theorem OpR.fz (o : OpR) : o.c.map V.fz = o.z.c := by simp [OpR.c, V.fz, bv_fz, Dr.fz, OpR.z]
theorem OpR.own1 (o : OpR) : (∀ z ∈ o.c, noOwnB z = true) = (noOwnB o.preds = true) := by
  simp only [OpR.c, List.forall_mem_append, List.forall_mem_singleton, own1_bv, Dr.own1]; simp [noOwnB]
theorem OpR.own2 (o : OpR) : (∀ z ∈ o.c, noOwnB z = true ∧ oneB z = true) = (noOwnB o.preds = true ∧ oneB o.preds = true) := by
  simp only [OpR.c, List.forall_mem_append, List.forall_mem_singleton, own2_bv, Dr.own2]; simp [noOwnB, oneB]

structure Ou where
  mask : Int
  pay : List UInt8
  deriving DecidableEq
def Ou.c (o : Ou) : List V := [.flat (.int .i64 o.mask)] ++ ([.flat (.string (bs o.pay))])
theorem Ou.c_len (o : Ou) : o.c.length = 2 := by
  simp [Ou.c, bv_length]
theorem Ou.tk (o : Ou) : o.c.take 2 = o.c := List.take_of_length_le (by rw [Ou.c_len]; omega)
theorem Ou.wh (o p : Ou) : putV o.c 0 p.c = p.c := putV_all (by rw [Ou.c_len, Ou.c_len])
theorem Ou.split0 (o : Ou) : o.c = ([]) ++ (([.flat (.int .i64 o.mask)]) ++ ([.flat (.string (bs o.pay))])) := by simp [Ou.c]
theorem Ou.r0 (o : Ou) : o.c.getD 0 .unk = .flat (.int .i64 o.mask) := by
  have := getD_mid ([]) (.flat (.int .i64 o.mask)) ([.flat (.string (bs o.pay))]) 0 (by simp [bv_length])
  rw [← Ou.split0] at this; simpa using this
theorem Ou.w0 (o : Ou) (x : Int) : putV o.c 0 ([.flat (.int .i64 x)]) = ({ o with mask := x } : Ou).c := by
  have := putV_mid ([]) ([.flat (.int .i64 o.mask)]) ([.flat (.string (bs o.pay))]) ([.flat (.int .i64 x)]) 0 (by simp [bv_length]) (by rw [show ([.flat (.int .i64 x)] : List V).length = 1 from by simp [bv_length], show ([.flat (.int .i64 o.mask)] : List V).length = 1 from by simp [bv_length]])
  rw [← Ou.split0] at this; rw [this]; simp [Ou.c]
theorem Ou.split1 (o : Ou) : o.c = ([.flat (.int .i64 o.mask)]) ++ (([.flat (.string (bs o.pay))]) ++ ([])) := by simp [Ou.c]
theorem Ou.r1 (o : Ou) : o.c.getD 1 .unk = .flat (.string (bs o.pay)) := by
  have := getD_mid ([.flat (.int .i64 o.mask)]) (.flat (.string (bs o.pay))) ([]) 1 (by simp [bv_length])
  rw [← Ou.split1] at this; simpa using this
theorem Ou.w1 (o : Ou) (x : List UInt8) : putV o.c 1 ([.flat (.string (bs x))]) = ({ o with pay := x } : Ou).c := by
  have := putV_mid ([.flat (.int .i64 o.mask)]) ([.flat (.string (bs o.pay))]) ([]) ([.flat (.string (bs x))]) 1 (by simp [bv_length]) (by rw [show ([.flat (.string (bs x))] : List V).length = 1 from by simp [bv_length], show ([.flat (.string (bs o.pay))] : List V).length = 1 from by simp [bv_length]])
  rw [← Ou.split1] at this; rw [this]; simp [Ou.c]
theorem Ou.fz (o : Ou) : o.c.map V.fz = o.c := by simp [Ou.c, V.fz, bv_fz]
theorem Ou.own1 (o : Ou) : (∀ z ∈ o.c, noOwnB z = true) = (True) := by
  simp only [Ou.c, List.forall_mem_append, List.forall_mem_singleton, own1_bv]; simp [noOwnB]
theorem Ou.own2 (o : Ou) : (∀ z ∈ o.c, noOwnB z = true ∧ oneB z = true) = (True) := by
  simp only [Ou.c, List.forall_mem_append, List.forall_mem_singleton, own2_bv]; simp [noOwnB, oneB]
theorem Ou.one (o : Ou) : (∀ z ∈ o.c, oneB z = true) = True := eq_true fun z hz => ((of_eq_true (Ou.own2 o)) z hz).2
def Ou.lC (l : List Ou) : List V := (l.map Ou.c).flatten
theorem Ou.l_nil : Ou.lC [] = [] := rfl
theorem Ou.l_len (l : List Ou) : (Ou.lC l).length = l.length * 2 := by
  unfold Ou.lC
  rw [flatten_len 2 _ (fun c hc => by obtain ⟨x, _, rfl⟩ := List.mem_map.1 hc; exact Ou.c_len x), List.length_map]
theorem Ou.l_app (l : List Ou) (x : Ou) : Ou.lC l ++ x.c = Ou.lC (l ++ [x]) := by simp [Ou.lC]
theorem Ou.l_get (l : List Ou) (x : Ou) (i : Nat) (hi : i < l.length) : ((Ou.lC l).drop (i * 2)).take 2 = (l.getD i x).c := by
  unfold Ou.lC
  rw [flat_chunk 2 _ i (fun c hc => by obtain ⟨x, _, rfl⟩ := List.mem_map.1 hc; exact Ou.c_len x) (by simpa using hi)]
  simp [List.getD_eq_getElem?_getD, hi]
theorem Ou.inj (a b : Ou) : a.c.map vlit = b.c.map vlit ↔ a = b := by
  constructor
  · intro h
    cases a; cases b
    simp only [Ou.c, List.map_append, List.map_cons, List.map_nil, List.cons_append, List.nil_append, List.cons.injEq, vlit_int, vlit_bs, vlit_bool, Lit.int.injEq, Lit.string.injEq, Lit.bool.injEq, true_and] at h
    obtain ⟨q0, h0⟩ := h
    obtain ⟨q1, _⟩ := h0
    simp_all [Subtype.ext_iff]
  · rintro rfl; rfl
theorem Ou.eqc (a b : Ou) : eqCells a.c b.c = decide (a = b) := by
  rw [Bool.eq_iff_iff, eqCells_iff, decide_eq_true_iff, Ou.inj]
def Ou.ok (o : Ou) : Prop := inR o.mask ∧ o.pay.length ≤ 140737488351232
theorem Ou.fit (o : Ou) (h : o.ok) : Fit (([.int .i64]) ++ ([.str])) o.c := by
  obtain ⟨k0, k1⟩ := h
  have := fit_app ((fit_int k0)) ((fit_str k1))
  simpa [Ou.c, List.append_assoc] using this

structure Ent where
  kind : Int
  d : Dr
  from_ : Int
  seq : Int
  prev : Id32
  mask : Int
  pay : List UInt8
  sig : List UInt8
  deriving DecidableEq
def Ent.c (o : Ent) : List V := [.flat (.int .i64 o.kind)] ++ (o.d.c ++ ([.flat (.int .i64 o.from_)] ++ ([.flat (.int .i64 o.seq)] ++ (bv o.prev.1 ++ ([.flat (.int .i64 o.mask)] ++ ([.flat (.string (bs o.pay))] ++ ([.flat (.string (bs o.sig))])))))))
theorem Ent.c_len (o : Ent) : o.c.length = 73 := by
  simp [Ent.c, Dr.c_len, bv_length, o.prev.2]
theorem Ent.tk (o : Ent) : o.c.take 73 = o.c := List.take_of_length_le (by rw [Ent.c_len]; omega)
theorem Ent.wh (o p : Ent) : putV o.c 0 p.c = p.c := putV_all (by rw [Ent.c_len, Ent.c_len])
theorem Ent.split0 (o : Ent) : o.c = ([]) ++ (([.flat (.int .i64 o.kind)]) ++ (o.d.c ++ ([.flat (.int .i64 o.from_)] ++ ([.flat (.int .i64 o.seq)] ++ (bv o.prev.1 ++ ([.flat (.int .i64 o.mask)] ++ ([.flat (.string (bs o.pay))] ++ ([.flat (.string (bs o.sig))])))))))) := by simp [Ent.c]
theorem Ent.r0 (o : Ent) : o.c.getD 0 .unk = .flat (.int .i64 o.kind) := by
  have := getD_mid ([]) (.flat (.int .i64 o.kind)) (o.d.c ++ ([.flat (.int .i64 o.from_)] ++ ([.flat (.int .i64 o.seq)] ++ (bv o.prev.1 ++ ([.flat (.int .i64 o.mask)] ++ ([.flat (.string (bs o.pay))] ++ ([.flat (.string (bs o.sig))]))))))) 0 (by simp [Dr.c_len, bv_length])
  rw [← Ent.split0] at this; simpa using this
theorem Ent.w0 (o : Ent) (x : Int) : putV o.c 0 ([.flat (.int .i64 x)]) = ({ o with kind := x } : Ent).c := by
  have := putV_mid ([]) ([.flat (.int .i64 o.kind)]) (o.d.c ++ ([.flat (.int .i64 o.from_)] ++ ([.flat (.int .i64 o.seq)] ++ (bv o.prev.1 ++ ([.flat (.int .i64 o.mask)] ++ ([.flat (.string (bs o.pay))] ++ ([.flat (.string (bs o.sig))]))))))) ([.flat (.int .i64 x)]) 0 (by simp [Dr.c_len, bv_length]) (by rw [show ([.flat (.int .i64 x)] : List V).length = 1 from by simp [Dr.c_len, bv_length], show ([.flat (.int .i64 o.kind)] : List V).length = 1 from by simp [Dr.c_len, bv_length]])
  rw [← Ent.split0] at this; rw [this]; simp [Ent.c]
theorem Ent.split1 (o : Ent) : o.c = ([.flat (.int .i64 o.kind)]) ++ ((o.d.c) ++ ([.flat (.int .i64 o.from_)] ++ ([.flat (.int .i64 o.seq)] ++ (bv o.prev.1 ++ ([.flat (.int .i64 o.mask)] ++ ([.flat (.string (bs o.pay))] ++ ([.flat (.string (bs o.sig))]))))))) := by simp [Ent.c]
theorem Ent.r1 (o : Ent) : (o.c.drop 1).take 35 = o.d.c := by
  have := drop_take_mid ([.flat (.int .i64 o.kind)]) (o.d.c) ([.flat (.int .i64 o.from_)] ++ ([.flat (.int .i64 o.seq)] ++ (bv o.prev.1 ++ ([.flat (.int .i64 o.mask)] ++ ([.flat (.string (bs o.pay))] ++ ([.flat (.string (bs o.sig))])))))) 1 35 (by simp [Dr.c_len, bv_length]) (by simp [Dr.c_len, bv_length])
  rw [← Ent.split1] at this; simpa using this
theorem Ent.w1 (o : Ent) (x : Dr) : putV o.c 1 (x.c) = ({ o with d := x } : Ent).c := by
  have := putV_mid ([.flat (.int .i64 o.kind)]) (o.d.c) ([.flat (.int .i64 o.from_)] ++ ([.flat (.int .i64 o.seq)] ++ (bv o.prev.1 ++ ([.flat (.int .i64 o.mask)] ++ ([.flat (.string (bs o.pay))] ++ ([.flat (.string (bs o.sig))])))))) (x.c) 1 (by simp [Dr.c_len, bv_length]) (by rw [show (x.c : List V).length = 35 from by simp [Dr.c_len, bv_length], show (o.d.c : List V).length = 35 from by simp [Dr.c_len, bv_length]])
  rw [← Ent.split1] at this; rw [this]; simp [Ent.c]
theorem Ent.r1_0 (o : Ent) : o.c.getD 1 .unk = .flat (.int .i64 o.d.k) := by
  have := getD_in o.c 1 35 0 (by omega)
  rw [this, show (o.c.drop 1).take 35 = o.d.c from by simpa using Ent.r1 o]; exact Dr.r0 _
theorem Ent.r1_1 (o : Ent) : o.c.getD 2 .unk = .flat (.string (bs o.d.key)) := by
  have := getD_in o.c 1 35 1 (by omega)
  rw [this, show (o.c.drop 1).take 35 = o.d.c from by simpa using Ent.r1 o]; exact Dr.r1 _
theorem Ent.r1_2 (o : Ent) : o.c.getD 3 .unk = .flat (.string (bs o.d.val)) := by
  have := getD_in o.c 1 35 2 (by omega)
  rw [this, show (o.c.drop 1).take 35 = o.d.c from by simpa using Ent.r1 o]; exact Dr.r2 _
theorem Ent.r1_3 (o : Ent) : (o.c.drop 4).take 32 = bv o.d.ref.1 := by
  have := drop_take_in o.c 1 35 3 32 (by omega)
  rw [this, show (o.c.drop 1).take 35 = o.d.c from by simpa using Ent.r1 o]; exact Dr.r3 _
theorem Ent.split2 (o : Ent) : o.c = ([.flat (.int .i64 o.kind)] ++ o.d.c) ++ (([.flat (.int .i64 o.from_)]) ++ ([.flat (.int .i64 o.seq)] ++ (bv o.prev.1 ++ ([.flat (.int .i64 o.mask)] ++ ([.flat (.string (bs o.pay))] ++ ([.flat (.string (bs o.sig))])))))) := by simp [Ent.c]
theorem Ent.r2 (o : Ent) : o.c.getD 36 .unk = .flat (.int .i64 o.from_) := by
  have := getD_mid ([.flat (.int .i64 o.kind)] ++ o.d.c) (.flat (.int .i64 o.from_)) ([.flat (.int .i64 o.seq)] ++ (bv o.prev.1 ++ ([.flat (.int .i64 o.mask)] ++ ([.flat (.string (bs o.pay))] ++ ([.flat (.string (bs o.sig))]))))) 36 (by simp [Dr.c_len, bv_length])
  rw [← Ent.split2] at this; simpa using this
theorem Ent.w2 (o : Ent) (x : Int) : putV o.c 36 ([.flat (.int .i64 x)]) = ({ o with from_ := x } : Ent).c := by
  have := putV_mid ([.flat (.int .i64 o.kind)] ++ o.d.c) ([.flat (.int .i64 o.from_)]) ([.flat (.int .i64 o.seq)] ++ (bv o.prev.1 ++ ([.flat (.int .i64 o.mask)] ++ ([.flat (.string (bs o.pay))] ++ ([.flat (.string (bs o.sig))]))))) ([.flat (.int .i64 x)]) 36 (by simp [Dr.c_len, bv_length]) (by rw [show ([.flat (.int .i64 x)] : List V).length = 1 from by simp [Dr.c_len, bv_length], show ([.flat (.int .i64 o.from_)] : List V).length = 1 from by simp [Dr.c_len, bv_length]])
  rw [← Ent.split2] at this; rw [this]; simp [Ent.c]
theorem Ent.split3 (o : Ent) : o.c = ([.flat (.int .i64 o.kind)] ++ o.d.c ++ [.flat (.int .i64 o.from_)]) ++ (([.flat (.int .i64 o.seq)]) ++ (bv o.prev.1 ++ ([.flat (.int .i64 o.mask)] ++ ([.flat (.string (bs o.pay))] ++ ([.flat (.string (bs o.sig))]))))) := by simp [Ent.c]
theorem Ent.r3 (o : Ent) : o.c.getD 37 .unk = .flat (.int .i64 o.seq) := by
  have := getD_mid ([.flat (.int .i64 o.kind)] ++ o.d.c ++ [.flat (.int .i64 o.from_)]) (.flat (.int .i64 o.seq)) (bv o.prev.1 ++ ([.flat (.int .i64 o.mask)] ++ ([.flat (.string (bs o.pay))] ++ ([.flat (.string (bs o.sig))])))) 37 (by simp [Dr.c_len, bv_length])
  rw [← Ent.split3] at this; simpa using this
theorem Ent.w3 (o : Ent) (x : Int) : putV o.c 37 ([.flat (.int .i64 x)]) = ({ o with seq := x } : Ent).c := by
  have := putV_mid ([.flat (.int .i64 o.kind)] ++ o.d.c ++ [.flat (.int .i64 o.from_)]) ([.flat (.int .i64 o.seq)]) (bv o.prev.1 ++ ([.flat (.int .i64 o.mask)] ++ ([.flat (.string (bs o.pay))] ++ ([.flat (.string (bs o.sig))])))) ([.flat (.int .i64 x)]) 37 (by simp [Dr.c_len, bv_length]) (by rw [show ([.flat (.int .i64 x)] : List V).length = 1 from by simp [Dr.c_len, bv_length], show ([.flat (.int .i64 o.seq)] : List V).length = 1 from by simp [Dr.c_len, bv_length]])
  rw [← Ent.split3] at this; rw [this]; simp [Ent.c]
theorem Ent.split4 (o : Ent) : o.c = ([.flat (.int .i64 o.kind)] ++ o.d.c ++ [.flat (.int .i64 o.from_)] ++ [.flat (.int .i64 o.seq)]) ++ ((bv o.prev.1) ++ ([.flat (.int .i64 o.mask)] ++ ([.flat (.string (bs o.pay))] ++ ([.flat (.string (bs o.sig))])))) := by simp [Ent.c]
theorem Ent.r4 (o : Ent) : (o.c.drop 38).take 32 = bv o.prev.1 := by
  have := drop_take_mid ([.flat (.int .i64 o.kind)] ++ o.d.c ++ [.flat (.int .i64 o.from_)] ++ [.flat (.int .i64 o.seq)]) (bv o.prev.1) ([.flat (.int .i64 o.mask)] ++ ([.flat (.string (bs o.pay))] ++ ([.flat (.string (bs o.sig))]))) 38 32 (by simp [Dr.c_len, bv_length]) (by simp [Dr.c_len, bv_length, o.prev.2])
  rw [← Ent.split4] at this; simpa using this
theorem Ent.w4 (o : Ent) (x : Id32) : putV o.c 38 (bv x.1) = ({ o with prev := x } : Ent).c := by
  have := putV_mid ([.flat (.int .i64 o.kind)] ++ o.d.c ++ [.flat (.int .i64 o.from_)] ++ [.flat (.int .i64 o.seq)]) (bv o.prev.1) ([.flat (.int .i64 o.mask)] ++ ([.flat (.string (bs o.pay))] ++ ([.flat (.string (bs o.sig))]))) (bv x.1) 38 (by simp [Dr.c_len, bv_length]) (by rw [show (bv x.1 : List V).length = 32 from by simp [Dr.c_len, bv_length, x.2], show (bv o.prev.1 : List V).length = 32 from by simp [Dr.c_len, bv_length, o.prev.2]])
  rw [← Ent.split4] at this; rw [this]; simp [Ent.c]
theorem Ent.split5 (o : Ent) : o.c = ([.flat (.int .i64 o.kind)] ++ o.d.c ++ [.flat (.int .i64 o.from_)] ++ [.flat (.int .i64 o.seq)] ++ bv o.prev.1) ++ (([.flat (.int .i64 o.mask)]) ++ ([.flat (.string (bs o.pay))] ++ ([.flat (.string (bs o.sig))]))) := by simp [Ent.c]
theorem Ent.r5 (o : Ent) : o.c.getD 70 .unk = .flat (.int .i64 o.mask) := by
  have := getD_mid ([.flat (.int .i64 o.kind)] ++ o.d.c ++ [.flat (.int .i64 o.from_)] ++ [.flat (.int .i64 o.seq)] ++ bv o.prev.1) (.flat (.int .i64 o.mask)) ([.flat (.string (bs o.pay))] ++ ([.flat (.string (bs o.sig))])) 70 (by simp [Dr.c_len, bv_length, o.prev.2])
  rw [← Ent.split5] at this; simpa using this
theorem Ent.w5 (o : Ent) (x : Int) : putV o.c 70 ([.flat (.int .i64 x)]) = ({ o with mask := x } : Ent).c := by
  have := putV_mid ([.flat (.int .i64 o.kind)] ++ o.d.c ++ [.flat (.int .i64 o.from_)] ++ [.flat (.int .i64 o.seq)] ++ bv o.prev.1) ([.flat (.int .i64 o.mask)]) ([.flat (.string (bs o.pay))] ++ ([.flat (.string (bs o.sig))])) ([.flat (.int .i64 x)]) 70 (by simp [Dr.c_len, bv_length, o.prev.2]) (by rw [show ([.flat (.int .i64 x)] : List V).length = 1 from by simp [Dr.c_len, bv_length], show ([.flat (.int .i64 o.mask)] : List V).length = 1 from by simp [Dr.c_len, bv_length]])
  rw [← Ent.split5] at this; rw [this]; simp [Ent.c]
theorem Ent.split6 (o : Ent) : o.c = ([.flat (.int .i64 o.kind)] ++ o.d.c ++ [.flat (.int .i64 o.from_)] ++ [.flat (.int .i64 o.seq)] ++ bv o.prev.1 ++ [.flat (.int .i64 o.mask)]) ++ (([.flat (.string (bs o.pay))]) ++ ([.flat (.string (bs o.sig))])) := by simp [Ent.c]
theorem Ent.r6 (o : Ent) : o.c.getD 71 .unk = .flat (.string (bs o.pay)) := by
  have := getD_mid ([.flat (.int .i64 o.kind)] ++ o.d.c ++ [.flat (.int .i64 o.from_)] ++ [.flat (.int .i64 o.seq)] ++ bv o.prev.1 ++ [.flat (.int .i64 o.mask)]) (.flat (.string (bs o.pay))) ([.flat (.string (bs o.sig))]) 71 (by simp [Dr.c_len, bv_length, o.prev.2])
  rw [← Ent.split6] at this; simpa using this
theorem Ent.w6 (o : Ent) (x : List UInt8) : putV o.c 71 ([.flat (.string (bs x))]) = ({ o with pay := x } : Ent).c := by
  have := putV_mid ([.flat (.int .i64 o.kind)] ++ o.d.c ++ [.flat (.int .i64 o.from_)] ++ [.flat (.int .i64 o.seq)] ++ bv o.prev.1 ++ [.flat (.int .i64 o.mask)]) ([.flat (.string (bs o.pay))]) ([.flat (.string (bs o.sig))]) ([.flat (.string (bs x))]) 71 (by simp [Dr.c_len, bv_length, o.prev.2]) (by rw [show ([.flat (.string (bs x))] : List V).length = 1 from by simp [Dr.c_len, bv_length], show ([.flat (.string (bs o.pay))] : List V).length = 1 from by simp [Dr.c_len, bv_length]])
  rw [← Ent.split6] at this; rw [this]; simp [Ent.c]
theorem Ent.split7 (o : Ent) : o.c = ([.flat (.int .i64 o.kind)] ++ o.d.c ++ [.flat (.int .i64 o.from_)] ++ [.flat (.int .i64 o.seq)] ++ bv o.prev.1 ++ [.flat (.int .i64 o.mask)] ++ [.flat (.string (bs o.pay))]) ++ (([.flat (.string (bs o.sig))]) ++ ([])) := by simp [Ent.c]
theorem Ent.r7 (o : Ent) : o.c.getD 72 .unk = .flat (.string (bs o.sig)) := by
  have := getD_mid ([.flat (.int .i64 o.kind)] ++ o.d.c ++ [.flat (.int .i64 o.from_)] ++ [.flat (.int .i64 o.seq)] ++ bv o.prev.1 ++ [.flat (.int .i64 o.mask)] ++ [.flat (.string (bs o.pay))]) (.flat (.string (bs o.sig))) ([]) 72 (by simp [Dr.c_len, bv_length, o.prev.2])
  rw [← Ent.split7] at this; simpa using this
theorem Ent.w7 (o : Ent) (x : List UInt8) : putV o.c 72 ([.flat (.string (bs x))]) = ({ o with sig := x } : Ent).c := by
  have := putV_mid ([.flat (.int .i64 o.kind)] ++ o.d.c ++ [.flat (.int .i64 o.from_)] ++ [.flat (.int .i64 o.seq)] ++ bv o.prev.1 ++ [.flat (.int .i64 o.mask)] ++ [.flat (.string (bs o.pay))]) ([.flat (.string (bs o.sig))]) ([]) ([.flat (.string (bs x))]) 72 (by simp [Dr.c_len, bv_length, o.prev.2]) (by rw [show ([.flat (.string (bs x))] : List V).length = 1 from by simp [Dr.c_len, bv_length], show ([.flat (.string (bs o.sig))] : List V).length = 1 from by simp [Dr.c_len, bv_length]])
  rw [← Ent.split7] at this; rw [this]; simp [Ent.c]
theorem Ent.fz (o : Ent) : o.c.map V.fz = o.c := by simp [Ent.c, V.fz, bv_fz, Dr.fz]
theorem Ent.own1 (o : Ent) : (∀ z ∈ o.c, noOwnB z = true) = (True) := by
  simp only [Ent.c, List.forall_mem_append, List.forall_mem_singleton, own1_bv, Dr.own1]; simp [noOwnB]
theorem Ent.own2 (o : Ent) : (∀ z ∈ o.c, noOwnB z = true ∧ oneB z = true) = (True) := by
  simp only [Ent.c, List.forall_mem_append, List.forall_mem_singleton, own2_bv, Dr.own2]; simp [noOwnB, oneB]
theorem Ent.one (o : Ent) : (∀ z ∈ o.c, oneB z = true) = True := eq_true fun z hz => ((of_eq_true (Ent.own2 o)) z hz).2
def Ent.lC (l : List Ent) : List V := (l.map Ent.c).flatten
theorem Ent.l_nil : Ent.lC [] = [] := rfl
theorem Ent.l_len (l : List Ent) : (Ent.lC l).length = l.length * 73 := by
  unfold Ent.lC
  rw [flatten_len 73 _ (fun c hc => by obtain ⟨x, _, rfl⟩ := List.mem_map.1 hc; exact Ent.c_len x), List.length_map]
theorem Ent.l_app (l : List Ent) (x : Ent) : Ent.lC l ++ x.c = Ent.lC (l ++ [x]) := by simp [Ent.lC]
theorem Ent.l_get (l : List Ent) (x : Ent) (i : Nat) (hi : i < l.length) : ((Ent.lC l).drop (i * 73)).take 73 = (l.getD i x).c := by
  unfold Ent.lC
  rw [flat_chunk 73 _ i (fun c hc => by obtain ⟨x, _, rfl⟩ := List.mem_map.1 hc; exact Ent.c_len x) (by simpa using hi)]
  simp [List.getD_eq_getElem?_getD, hi]
theorem Ent.inj (a b : Ent) : a.c.map vlit = b.c.map vlit ↔ a = b := by
  constructor
  · intro h
    cases a; cases b
    simp only [Ent.c, List.map_append, List.map_cons, List.map_nil, List.cons_append, List.nil_append, List.cons.injEq, vlit_int, vlit_bs, vlit_bool, Lit.int.injEq, Lit.string.injEq, Lit.bool.injEq, true_and] at h
    obtain ⟨q0, h0⟩ := h
    obtain ⟨p1, h1⟩ := List.append_inj h0 (by simp [Dr.c_len])
    have q1 := (Dr.inj _ _).1 p1
    simp only [List.cons.injEq, Lit.int.injEq, Lit.string.injEq, Lit.bool.injEq, true_and] at h1
    obtain ⟨q2, h2⟩ := h1
    obtain ⟨q3, h3⟩ := h2
    obtain ⟨p4, h4⟩ := List.append_inj h3 (by simp [bv_length, id_len32, id_len16])
    have q4 := (vlit_bv _ _).1 p4
    simp only [List.cons.injEq, Lit.int.injEq, Lit.string.injEq, Lit.bool.injEq, true_and] at h4
    obtain ⟨q5, h5⟩ := h4
    obtain ⟨q6, h6⟩ := h5
    obtain ⟨q7, _⟩ := h6
    simp_all [Subtype.ext_iff]
  · rintro rfl; rfl
theorem Ent.eqc (a b : Ent) : eqCells a.c b.c = decide (a = b) := by
  rw [Bool.eq_iff_iff, eqCells_iff, decide_eq_true_iff, Ent.inj]
def Ent.ok (o : Ent) : Prop := inR o.kind ∧ o.d.ok ∧ inR o.from_ ∧ inR o.seq ∧ inR o.mask ∧ o.pay.length ≤ 140737488351232 ∧ o.sig.length ≤ 140737488351232
theorem Ent.fit (o : Ent) (h : o.ok) : Fit (([.int .i64]) ++ ((([.int .i64]) ++ ([.str]) ++ ([.str]) ++ (List.replicate 32 (.int .u8)))) ++ ([.int .i64]) ++ ([.int .i64]) ++ (List.replicate 32 (.int .u8)) ++ ([.int .i64]) ++ ([.str]) ++ ([.str])) o.c := by
  obtain ⟨k0, k1, k2, k3, k4, k5, k6⟩ := h
  have := fit_app ((fit_int k0)) (fit_app (((Dr.fit _ k1))) (fit_app ((fit_int k2)) (fit_app ((fit_int k3)) (fit_app (((fit_bv _ _ o.prev.2))) (fit_app ((fit_int k4)) (fit_app ((fit_str k5)) ((fit_str k6))))))))
  simpa [Ent.c, List.append_assoc] using this

def dr0 : Dr := ⟨0, [], [], z32⟩
def opR0 : OpR := ⟨dr0, 0, 0, .nil⟩
def ou0 : Ou := ⟨0, []⟩
def ent0 : Ent := ⟨0, dr0, 0, 0, z32, 0, [], []⟩
theorem Dr.sm : (type_of% @Dr.c_len) ∧ (type_of% @Dr.tk) ∧ (type_of% @Dr.wh) ∧ (type_of% @Dr.r0) ∧ (type_of% @Dr.w0) ∧ (type_of% @Dr.r1) ∧ (type_of% @Dr.w1) ∧ (type_of% @Dr.r2) ∧ (type_of% @Dr.w2) ∧ (type_of% @Dr.r3) ∧ (type_of% @Dr.w3) ∧ (type_of% @Dr.fz) ∧ (type_of% @Dr.own1) ∧ (type_of% @Dr.own2) ∧ (type_of% @Dr.one) ∧ (type_of% @Dr.eqc) := ⟨@Dr.c_len, @Dr.tk, @Dr.wh, @Dr.r0, @Dr.w0, @Dr.r1, @Dr.w1, @Dr.r2, @Dr.w2, @Dr.r3, @Dr.w3, @Dr.fz, @Dr.own1, @Dr.own2, @Dr.one, @Dr.eqc⟩
theorem OpR.sm : (type_of% @OpR.c_len) ∧ (type_of% @OpR.tk) ∧ (type_of% @OpR.wh) ∧ (type_of% @OpR.r0) ∧ (type_of% @OpR.w0) ∧ (type_of% @OpR.r0_0) ∧ (type_of% @OpR.r0_1) ∧ (type_of% @OpR.r0_2) ∧ (type_of% @OpR.r0_3) ∧ (type_of% @OpR.r1) ∧ (type_of% @OpR.w1) ∧ (type_of% @OpR.r2) ∧ (type_of% @OpR.w2) ∧ (type_of% @OpR.r3) ∧ (type_of% @OpR.w3) ∧ (type_of% @OpR.fz) ∧ (type_of% @OpR.own1) ∧ (type_of% @OpR.own2) := ⟨@OpR.c_len, @OpR.tk, @OpR.wh, @OpR.r0, @OpR.w0, @OpR.r0_0, @OpR.r0_1, @OpR.r0_2, @OpR.r0_3, @OpR.r1, @OpR.w1, @OpR.r2, @OpR.w2, @OpR.r3, @OpR.w3, @OpR.fz, @OpR.own1, @OpR.own2⟩
theorem Ou.sm : (type_of% @Ou.c_len) ∧ (type_of% @Ou.tk) ∧ (type_of% @Ou.wh) ∧ (type_of% @Ou.r0) ∧ (type_of% @Ou.w0) ∧ (type_of% @Ou.r1) ∧ (type_of% @Ou.w1) ∧ (type_of% @Ou.fz) ∧ (type_of% @Ou.own1) ∧ (type_of% @Ou.own2) ∧ (type_of% @Ou.one) ∧ (type_of% @Ou.eqc) := ⟨@Ou.c_len, @Ou.tk, @Ou.wh, @Ou.r0, @Ou.w0, @Ou.r1, @Ou.w1, @Ou.fz, @Ou.own1, @Ou.own2, @Ou.one, @Ou.eqc⟩
theorem Ent.sm : (type_of% @Ent.c_len) ∧ (type_of% @Ent.tk) ∧ (type_of% @Ent.wh) ∧ (type_of% @Ent.r0) ∧ (type_of% @Ent.w0) ∧ (type_of% @Ent.r1) ∧ (type_of% @Ent.w1) ∧ (type_of% @Ent.r1_0) ∧ (type_of% @Ent.r1_1) ∧ (type_of% @Ent.r1_2) ∧ (type_of% @Ent.r1_3) ∧ (type_of% @Ent.r2) ∧ (type_of% @Ent.w2) ∧ (type_of% @Ent.r3) ∧ (type_of% @Ent.w3) ∧ (type_of% @Ent.r4) ∧ (type_of% @Ent.w4) ∧ (type_of% @Ent.r5) ∧ (type_of% @Ent.w5) ∧ (type_of% @Ent.r6) ∧ (type_of% @Ent.w6) ∧ (type_of% @Ent.r7) ∧ (type_of% @Ent.w7) ∧ (type_of% @Ent.fz) ∧ (type_of% @Ent.own1) ∧ (type_of% @Ent.own2) ∧ (type_of% @Ent.one) ∧ (type_of% @Ent.eqc) := ⟨@Ent.c_len, @Ent.tk, @Ent.wh, @Ent.r0, @Ent.w0, @Ent.r1, @Ent.w1, @Ent.r1_0, @Ent.r1_1, @Ent.r1_2, @Ent.r1_3, @Ent.r2, @Ent.w2, @Ent.r3, @Ent.w3, @Ent.r4, @Ent.w4, @Ent.r5, @Ent.w5, @Ent.r6, @Ent.w6, @Ent.r7, @Ent.w7, @Ent.fz, @Ent.own1, @Ent.own2, @Ent.one, @Ent.eqc⟩
attribute [go_sem] Dr.sm
theorem Dr.flat (o : Dr) : FlatS o.c := by
  unfold Dr.c
  repeat' first | exact FlatS.nil | exact FlatS.bv _ | refine FlatS.cons ?_ | refine FlatS.app ?_ ?_
attribute [go_sem] OpR.sm
attribute [go_sem] Ou.sm
theorem Ou.flat (o : Ou) : FlatS o.c := by
  unfold Ou.c
  repeat' first | exact FlatS.nil | exact FlatS.bv _ | refine FlatS.cons ?_ | refine FlatS.app ?_ ?_
attribute [go_sem] Ent.sm
theorem Ent.flat (o : Ent) : FlatS o.c := by
  unfold Ent.c
  repeat' first | exact FlatS.nil | exact FlatS.bv _ | exact Dr.flat _ | refine FlatS.cons ?_ | refine FlatS.app ?_ ?_
end Go.VL
