/- Part StAu of the proof: made for this claim. -/
import Derived.Test.YtljfmgfokifooaaStPl
set_option linter.unusedVariables false
set_option linter.unusedSimpArgs false
namespace Go.VL

structure Nd where
  root : Id16
  height : Int
  deriving DecidableEq
def Nd.c (o : Nd) : List V := bv o.root.1 ++ ([.flat (.int .i64 o.height)])
theorem Nd.c_len (o : Nd) : o.c.length = 17 := by
  simp [Nd.c, bv_length, o.root.2]
theorem Nd.tk (o : Nd) : o.c.take 17 = o.c := List.take_of_length_le (by rw [Nd.c_len]; omega)
theorem Nd.wh (o p : Nd) : putV o.c 0 p.c = p.c := putV_all (by rw [Nd.c_len, Nd.c_len])
theorem Nd.split0 (o : Nd) : o.c = ([]) ++ ((bv o.root.1) ++ ([.flat (.int .i64 o.height)])) := by simp [Nd.c]
theorem Nd.r0 (o : Nd) : o.c.take 16 = bv o.root.1 := by
  have := drop_take_mid ([]) (bv o.root.1) ([.flat (.int .i64 o.height)]) 0 16 (by simp [bv_length]) (by simp [bv_length, o.root.2])
  rw [← Nd.split0] at this; simpa using this
theorem Nd.w0 (o : Nd) (x : Id16) : putV o.c 0 (bv x.1) = ({ o with root := x } : Nd).c := by
  have := putV_mid ([]) (bv o.root.1) ([.flat (.int .i64 o.height)]) (bv x.1) 0 (by simp [bv_length]) (by rw [show (bv x.1 : List V).length = 16 from by simp [bv_length, x.2], show (bv o.root.1 : List V).length = 16 from by simp [bv_length, o.root.2]])
  rw [← Nd.split0] at this; rw [this]; simp [Nd.c]
theorem Nd.split1 (o : Nd) : o.c = (bv o.root.1) ++ (([.flat (.int .i64 o.height)]) ++ ([])) := by simp [Nd.c]
theorem Nd.r1 (o : Nd) : o.c.getD 16 .unk = .flat (.int .i64 o.height) := by
  have := getD_mid (bv o.root.1) (.flat (.int .i64 o.height)) ([]) 16 (by simp [bv_length, o.root.2])
  rw [← Nd.split1] at this; simpa using this
theorem Nd.w1 (o : Nd) (x : Int) : putV o.c 16 ([.flat (.int .i64 x)]) = ({ o with height := x } : Nd).c := by
  have := putV_mid (bv o.root.1) ([.flat (.int .i64 o.height)]) ([]) ([.flat (.int .i64 x)]) 16 (by simp [bv_length, o.root.2]) (by rw [show ([.flat (.int .i64 x)] : List V).length = 1 from by simp [bv_length], show ([.flat (.int .i64 o.height)] : List V).length = 1 from by simp [bv_length]])
  rw [← Nd.split1] at this; rw [this]; simp [Nd.c]
theorem Nd.fz (o : Nd) : o.c.map V.fz = o.c := by simp [Nd.c, V.fz, bv_fz]
theorem Nd.own1 (o : Nd) : (∀ z ∈ o.c, noOwnB z = true) = (True) := by
  simp only [Nd.c, List.forall_mem_append, List.forall_mem_singleton, own1_bv]; simp [noOwnB]
theorem Nd.own2 (o : Nd) : (∀ z ∈ o.c, noOwnB z = true ∧ oneB z = true) = (True) := by
  simp only [Nd.c, List.forall_mem_append, List.forall_mem_singleton, own2_bv]; simp [noOwnB, oneB]
theorem Nd.one (o : Nd) : (∀ z ∈ o.c, oneB z = true) = True := eq_true fun z hz => ((of_eq_true (Nd.own2 o)) z hz).2
def Nd.lC (l : List Nd) : List V := (l.map Nd.c).flatten
theorem Nd.l_nil : Nd.lC [] = [] := rfl
theorem Nd.l_len (l : List Nd) : (Nd.lC l).length = l.length * 17 := by
  unfold Nd.lC
  rw [flatten_len 17 _ (fun c hc => by obtain ⟨x, _, rfl⟩ := List.mem_map.1 hc; exact Nd.c_len x), List.length_map]
theorem Nd.l_app (l : List Nd) (x : Nd) : Nd.lC l ++ x.c = Nd.lC (l ++ [x]) := by simp [Nd.lC]
theorem Nd.l_get (l : List Nd) (x : Nd) (i : Nat) (hi : i < l.length) : ((Nd.lC l).drop (i * 17)).take 17 = (l.getD i x).c := by
  unfold Nd.lC
  rw [flat_chunk 17 _ i (fun c hc => by obtain ⟨x, _, rfl⟩ := List.mem_map.1 hc; exact Nd.c_len x) (by simpa using hi)]
  simp [List.getD_eq_getElem?_getD, hi]
theorem Nd.inj (a b : Nd) : a.c.map vlit = b.c.map vlit ↔ a = b := by
  constructor
  · intro h
    cases a; cases b
    simp only [Nd.c, List.map_append, List.map_cons, List.map_nil, List.cons_append, List.nil_append, List.cons.injEq, vlit_int, vlit_bs, vlit_bool, Lit.int.injEq, Lit.string.injEq, Lit.bool.injEq, true_and] at h
    obtain ⟨p0, h0⟩ := List.append_inj h (by simp [bv_length, id_len32, id_len16])
    have q0 := (vlit_bv _ _).1 p0
    simp only [List.cons.injEq, Lit.int.injEq, Lit.string.injEq, Lit.bool.injEq, true_and] at h0
    obtain ⟨q1, _⟩ := h0
    simp_all [Subtype.ext_iff]
  · rintro rfl; rfl
theorem Nd.eqc (a b : Nd) : eqCells a.c b.c = decide (a = b) := by
  rw [Bool.eq_iff_iff, eqCells_iff, decide_eq_true_iff, Nd.inj]
def Nd.ok (o : Nd) : Prop := inR o.height
theorem Nd.fit (o : Nd) (h : o.ok) : Fit ((List.replicate 16 (.int .u8)) ++ ([.int .i64])) o.c := by
  have k0 := h
  have := fit_app (((fit_bv _ _ o.root.2))) ((fit_int k0))
  simpa [Nd.c, List.append_assoc] using this

structure Au where
  node : Int
  seq : Int
  hash : Id32
  sig : List UInt8
  deriving DecidableEq
def Au.c (o : Au) : List V := [.flat (.int .i64 o.node)] ++ ([.flat (.int .i64 o.seq)] ++ (bv o.hash.1 ++ ([.flat (.string (bs o.sig))])))
theorem Au.c_len (o : Au) : o.c.length = 35 := by
  simp [Au.c, bv_length, o.hash.2]
theorem Au.tk (o : Au) : o.c.take 35 = o.c := List.take_of_length_le (by rw [Au.c_len]; omega)
theorem Au.wh (o p : Au) : putV o.c 0 p.c = p.c := putV_all (by rw [Au.c_len, Au.c_len])
theorem Au.split0 (o : Au) : o.c = ([]) ++ (([.flat (.int .i64 o.node)]) ++ ([.flat (.int .i64 o.seq)] ++ (bv o.hash.1 ++ ([.flat (.string (bs o.sig))])))) := by simp [Au.c]
theorem Au.r0 (o : Au) : o.c.getD 0 .unk = .flat (.int .i64 o.node) := by
  have := getD_mid ([]) (.flat (.int .i64 o.node)) ([.flat (.int .i64 o.seq)] ++ (bv o.hash.1 ++ ([.flat (.string (bs o.sig))]))) 0 (by simp [bv_length])
  rw [← Au.split0] at this; simpa using this
theorem Au.w0 (o : Au) (x : Int) : putV o.c 0 ([.flat (.int .i64 x)]) = ({ o with node := x } : Au).c := by
  have := putV_mid ([]) ([.flat (.int .i64 o.node)]) ([.flat (.int .i64 o.seq)] ++ (bv o.hash.1 ++ ([.flat (.string (bs o.sig))]))) ([.flat (.int .i64 x)]) 0 (by simp [bv_length]) (by rw [show ([.flat (.int .i64 x)] : List V).length = 1 from by simp [bv_length], show ([.flat (.int .i64 o.node)] : List V).length = 1 from by simp [bv_length]])
  rw [← Au.split0] at this; rw [this]; simp [Au.c]
theorem Au.split1 (o : Au) : o.c = ([.flat (.int .i64 o.node)]) ++ (([.flat (.int .i64 o.seq)]) ++ (bv o.hash.1 ++ ([.flat (.string (bs o.sig))]))) := by simp [Au.c]
theorem Au.r1 (o : Au) : o.c.getD 1 .unk = .flat (.int .i64 o.seq) := by
  have := getD_mid ([.flat (.int .i64 o.node)]) (.flat (.int .i64 o.seq)) (bv o.hash.1 ++ ([.flat (.string (bs o.sig))])) 1 (by simp [bv_length])
  rw [← Au.split1] at this; simpa using this
theorem Au.w1 (o : Au) (x : Int) : putV o.c 1 ([.flat (.int .i64 x)]) = ({ o with seq := x } : Au).c := by
  have := putV_mid ([.flat (.int .i64 o.node)]) ([.flat (.int .i64 o.seq)]) (bv o.hash.1 ++ ([.flat (.string (bs o.sig))])) ([.flat (.int .i64 x)]) 1 (by simp [bv_length]) (by rw [show ([.flat (.int .i64 x)] : List V).length = 1 from by simp [bv_length], show ([.flat (.int .i64 o.seq)] : List V).length = 1 from by simp [bv_length]])
  rw [← Au.split1] at this; rw [this]; simp [Au.c]
theorem Au.split2 (o : Au) : o.c = ([.flat (.int .i64 o.node)] ++ [.flat (.int .i64 o.seq)]) ++ ((bv o.hash.1) ++ ([.flat (.string (bs o.sig))])) := by simp [Au.c]
theorem Au.r2 (o : Au) : (o.c.drop 2).take 32 = bv o.hash.1 := by
  have := drop_take_mid ([.flat (.int .i64 o.node)] ++ [.flat (.int .i64 o.seq)]) (bv o.hash.1) ([.flat (.string (bs o.sig))]) 2 32 (by simp [bv_length]) (by simp [bv_length, o.hash.2])
  rw [← Au.split2] at this; simpa using this
theorem Au.w2 (o : Au) (x : Id32) : putV o.c 2 (bv x.1) = ({ o with hash := x } : Au).c := by
  have := putV_mid ([.flat (.int .i64 o.node)] ++ [.flat (.int .i64 o.seq)]) (bv o.hash.1) ([.flat (.string (bs o.sig))]) (bv x.1) 2 (by simp [bv_length]) (by rw [show (bv x.1 : List V).length = 32 from by simp [bv_length, x.2], show (bv o.hash.1 : List V).length = 32 from by simp [bv_length, o.hash.2]])
  rw [← Au.split2] at this; rw [this]; simp [Au.c]
theorem Au.split3 (o : Au) : o.c = ([.flat (.int .i64 o.node)] ++ [.flat (.int .i64 o.seq)] ++ bv o.hash.1) ++ (([.flat (.string (bs o.sig))]) ++ ([])) := by simp [Au.c]
theorem Au.r3 (o : Au) : o.c.getD 34 .unk = .flat (.string (bs o.sig)) := by
  have := getD_mid ([.flat (.int .i64 o.node)] ++ [.flat (.int .i64 o.seq)] ++ bv o.hash.1) (.flat (.string (bs o.sig))) ([]) 34 (by simp [bv_length, o.hash.2])
  rw [← Au.split3] at this; simpa using this
theorem Au.w3 (o : Au) (x : List UInt8) : putV o.c 34 ([.flat (.string (bs x))]) = ({ o with sig := x } : Au).c := by
  have := putV_mid ([.flat (.int .i64 o.node)] ++ [.flat (.int .i64 o.seq)] ++ bv o.hash.1) ([.flat (.string (bs o.sig))]) ([]) ([.flat (.string (bs x))]) 34 (by simp [bv_length, o.hash.2]) (by rw [show ([.flat (.string (bs x))] : List V).length = 1 from by simp [bv_length], show ([.flat (.string (bs o.sig))] : List V).length = 1 from by simp [bv_length]])
  rw [← Au.split3] at this; rw [this]; simp [Au.c]
theorem Au.fz (o : Au) : o.c.map V.fz = o.c := by simp [Au.c, V.fz, bv_fz]
theorem Au.own1 (o : Au) : (∀ z ∈ o.c, noOwnB z = true) = (True) := by
  simp only [Au.c, List.forall_mem_append, List.forall_mem_singleton, own1_bv]; simp [noOwnB]
theorem Au.own2 (o : Au) : (∀ z ∈ o.c, noOwnB z = true ∧ oneB z = true) = (True) := by
  simp only [Au.c, List.forall_mem_append, List.forall_mem_singleton, own2_bv]; simp [noOwnB, oneB]
theorem Au.one (o : Au) : (∀ z ∈ o.c, oneB z = true) = True := eq_true fun z hz => ((of_eq_true (Au.own2 o)) z hz).2
def Au.lC (l : List Au) : List V := (l.map Au.c).flatten
theorem Au.l_nil : Au.lC [] = [] := rfl
theorem Au.l_len (l : List Au) : (Au.lC l).length = l.length * 35 := by
  unfold Au.lC
  rw [flatten_len 35 _ (fun c hc => by obtain ⟨x, _, rfl⟩ := List.mem_map.1 hc; exact Au.c_len x), List.length_map]
theorem Au.l_app (l : List Au) (x : Au) : Au.lC l ++ x.c = Au.lC (l ++ [x]) := by simp [Au.lC]
theorem Au.l_get (l : List Au) (x : Au) (i : Nat) (hi : i < l.length) : ((Au.lC l).drop (i * 35)).take 35 = (l.getD i x).c := by
  unfold Au.lC
  rw [flat_chunk 35 _ i (fun c hc => by obtain ⟨x, _, rfl⟩ := List.mem_map.1 hc; exact Au.c_len x) (by simpa using hi)]
  simp [List.getD_eq_getElem?_getD, hi]
theorem Au.inj (a b : Au) : a.c.map vlit = b.c.map vlit ↔ a = b := by
  constructor
  · intro h
    cases a; cases b
    simp only [Au.c, List.map_append, List.map_cons, List.map_nil, List.cons_append, List.nil_append, List.cons.injEq, vlit_int, vlit_bs, vlit_bool, Lit.int.injEq, Lit.string.injEq, Lit.bool.injEq, true_and] at h
    obtain ⟨q0, h0⟩ := h
    obtain ⟨q1, h1⟩ := h0
    obtain ⟨p2, h2⟩ := List.append_inj h1 (by simp [bv_length, id_len32, id_len16])
    have q2 := (vlit_bv _ _).1 p2
    simp only [List.cons.injEq, Lit.int.injEq, Lit.string.injEq, Lit.bool.injEq, true_and] at h2
    obtain ⟨q3, _⟩ := h2
    simp_all [Subtype.ext_iff]
  · rintro rfl; rfl
theorem Au.eqc (a b : Au) : eqCells a.c b.c = decide (a = b) := by
  rw [Bool.eq_iff_iff, eqCells_iff, decide_eq_true_iff, Au.inj]
def Au.ok (o : Au) : Prop := inR o.node ∧ inR o.seq ∧ o.sig.length ≤ 140737488351232
theorem Au.fit (o : Au) (h : o.ok) : Fit (([.int .i64]) ++ ([.int .i64]) ++ (List.replicate 32 (.int .u8)) ++ ([.str])) o.c := by
  obtain ⟨k0, k1, k2⟩ := h
  have := fit_app ((fit_int k0)) (fit_app ((fit_int k1)) (fit_app (((fit_bv _ _ o.hash.2))) ((fit_str k2))))
  simpa [Au.c, List.append_assoc] using this

def nd0 : Nd := ⟨z16, 0⟩
def au0 : Au := ⟨0, 0, z32, []⟩
theorem Nd.sm : (type_of% @Nd.c_len) ∧ (type_of% @Nd.tk) ∧ (type_of% @Nd.wh) ∧ (type_of% @Nd.r0) ∧ (type_of% @Nd.w0) ∧ (type_of% @Nd.r1) ∧ (type_of% @Nd.w1) ∧ (type_of% @Nd.fz) ∧ (type_of% @Nd.own1) ∧ (type_of% @Nd.own2) ∧ (type_of% @Nd.one) ∧ (type_of% @Nd.eqc) := ⟨@Nd.c_len, @Nd.tk, @Nd.wh, @Nd.r0, @Nd.w0, @Nd.r1, @Nd.w1, @Nd.fz, @Nd.own1, @Nd.own2, @Nd.one, @Nd.eqc⟩
theorem Au.sm : (type_of% @Au.c_len) ∧ (type_of% @Au.tk) ∧ (type_of% @Au.wh) ∧ (type_of% @Au.r0) ∧ (type_of% @Au.w0) ∧ (type_of% @Au.r1) ∧ (type_of% @Au.w1) ∧ (type_of% @Au.r2) ∧ (type_of% @Au.w2) ∧ (type_of% @Au.r3) ∧ (type_of% @Au.w3) ∧ (type_of% @Au.fz) ∧ (type_of% @Au.own1) ∧ (type_of% @Au.own2) ∧ (type_of% @Au.one) ∧ (type_of% @Au.eqc) := ⟨@Au.c_len, @Au.tk, @Au.wh, @Au.r0, @Au.w0, @Au.r1, @Au.w1, @Au.r2, @Au.w2, @Au.r3, @Au.w3, @Au.fz, @Au.own1, @Au.own2, @Au.one, @Au.eqc⟩
attribute [go_sem] Nd.sm
theorem Nd.flat (o : Nd) : FlatS o.c := by
  unfold Nd.c
  repeat' first | exact FlatS.nil | exact FlatS.bv _ | refine FlatS.cons ?_ | refine FlatS.app ?_ ?_
attribute [go_sem] Au.sm
theorem Au.flat (o : Au) : FlatS o.c := by
  unfold Au.c
  repeat' first | exact FlatS.nil | exact FlatS.bv _ | refine FlatS.cons ?_ | refine FlatS.app ?_ ?_
end Go.VL
