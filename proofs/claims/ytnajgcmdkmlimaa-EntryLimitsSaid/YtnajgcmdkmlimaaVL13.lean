/- Part VL13 of the proof: made for this claim. -/
import Derived.Test.YtnajgcmdkmlimaaVL12
import Derived.Lib.ConvBytes
/-! VL part 13: appends to nil; bytes of a text; slices made; stores. -/
set_option linter.unusedVariables false
set_option linter.unusedSimpArgs false
open Go.RowKit
namespace Go.VL
variable {P : Program} {H : Env} {L : LEnv} {E : Entry} {nt : Nat} {w : World}

theorem step_appendNil (hH : EnvOk P H) {gl : Nat → Option (List V)} (hG : GlOk E.g0 E.w0 gl) {o : Oper} {σ : S} {d m : Nat} {t xt e : TypeId} {ti xi ei : TyI} {x y : Operand} {xs : List V} {c : Prop}
    (hop : o.op = .call { callee := .builtin .append, args := #[x, y], argTypes := #[t, xt] }) (ho : o.dst = some d) (hd : d < nt) (ht : H.get t = some ti) (hte : ti.k = .sl e) (he : H.get e = some ei) (hx : H.get xt = some xi) (hxi : notIntT xi = true)
    (hz : ei.zok = true) (hi : evO (lk σ.sl) gl x = .nil) (hs : srcV σ.mem ei.sz (evO (lk σ.sl) gl y) = some (c, m, xs)) (hc : c)
    (h63 : m ≤ maxLen) (hb : m * ei.bytes ≤ 140737488355328) :
    StepTo P E nt o σ (σ.set d (.sl true ei.sz m xs)) := by
  rintro a w ⟨g, ob, h1, h2, h3, h4⟩
  have hsl := h1.slot
  have hbx : BoxesAt g w σ.mem := h1.box
  have hyk : evO (lk σ.sl) gl y ≠ .unk := by intro k; rw [k] at hs; cases hs
  have hy := evO_rel (d := a.defers) hsl (hG.onto h1.onto) y hyk
  have hxv := evO_rel (d := a.defers) hsl (hG.onto h1.onto) x (by rw [hi]; simp)
  rw [hi] at hxv
  have hev : a.eval x = .slice none 0 0 := by
    show Act.eval { tmps := a.tmps, defers := a.defers } x = _
    generalize Act.eval { tmps := a.tmps, defers := a.defers } x = q at hxv
    cases hxv; rfl
  obtain ⟨news, hsrc, hnl, hnv⟩ := srcV_rel (P := P) hH hbx hx hxi hy hs hc
  have hu := (hH.tells ht).und_sl hte
  have hT := hH.tells he
  obtain ⟨z, hz1, hz2, hz3, tinf, hti, htz⟩ := hT.zeroVal (w := w) (g := g) hz
  obtain ⟨ti', hti', hsz', hby', _⟩ := hT.isz
  rw [hti] at hti'
  cases hti'
  have hrunop : (execOp a.eval o).run P w = (do pure (.value (← Builtin.append_ #[t, xt] o.type #[.slice none 0 0, a.eval y])) : Sem Next).run P w := by
    obtain ⟨dst, op, ty, pos, after, guard⟩ := o
    simp only at hop
    subst hop
    simp only [execOp, resolve, Sem.run_bind, Sem.run_pure, Result.andThen_ok, invoke, builtin, List.map_toArray, List.map_cons, List.map_nil, hev]
  have hxl : xs.length = m * ei.sz := by rw [hnl]; exact hsrc.size
  left
  by_cases hm : m = 0
  · subst hm
    have hx0 : xs = [] := List.eq_nil_of_length_eq_zero (by simpa using hxl)
    have hn0 : news = [] := List.eq_nil_of_length_eq_zero (by rw [← hnl, hx0]; rfl)
    subst hx0
    subst hn0
    have hrun := run_append_roomG (P := P) (w := w) t xt o.type e tinf hu hti none 0 0 0 _ [] (by rw [hsz']; exact hsrc) (Nat.le_refl _) (w' := w) (fun ad k => by cases k) (fun _ => rfl)
    obtain ⟨obn, _, r6⟩ := h1.give (d := d) (sz := ei.sz) (n := 0) (cs := []) (v := .slice none 0 0) (obv := none) (by omega) (.sl0 true ei.sz none 0) ⟨rfl, .inl rfl⟩ (fun _ k => by cases k)
    refine ⟨.slice none 0 0, w, ?_, ?_⟩
    · rw [hrunop]
      simp only [Sem.run_bind, hrun, Result.andThen_ok, Sem.run_pure, Nat.add_zero]
    · rw [ho, put_some]
      refine ⟨g, obn, ?_, h2, h3, by simpa using h4⟩
      simp only [S.set, lk_cons]
      exact r6
  · have hrun := run_append_growG (P := P) (w := w) t xt o.type e tinf z hu hti htz none 0 0 m _ [] news (by rw [hsz']; exact hsrc) (by simp [Builtin.firstCells]) (by omega) (by omega) (by rw [hby', Nat.zero_add]; exact hb)
    have hge := grownCap_ge w (0 + m) 0 e
    have hcm := grownCap_le_maxLen w (0 + m) 0 e (by omega)
    generalize hgc : grownCap w (0 + m) 0 e = gc at *
    rw [Nat.zero_add] at hge hrun
    have hdr : Onto g g w w.drew := ⟨fun _ _ _ _ h => h, fun _ => Nat.le_refl _, fun _ _ => rfl, Nat.le_refl _⟩
    obtain ⟨g', obn, hg, r6⟩ := h1.drew.newRow (d := d) (by omega) ei.sz m gc xs (([] : List Value).toArray ++ news.toArray ++ Builtin.zeroCells z.cells (gc - m)) e (0, 0) hxl (by
        simp only [Array.size_append, List.size_toArray, size_zeroCells, hz3, ← hnl, hxl, List.length_nil, Nat.zero_add, ← Nat.add_mul]
        congr 1; omega) hge hcm (thawed0 _ _ (.inr rfl)) (fun k hk => by
        have e1 : (([] : List Value).toArray ++ news.toArray ++ Builtin.zeroCells z.cells (gc - m)).getD k undef = news.getD k undef := by
          rw [Array.getD_eq_getD_getElem?, Array.getElem?_append_left (by simp; omega)]
          simp [List.getD_eq_getElem?_getD]
        rw [e1]
        exact (hnv _ hk).onto hdr)
    refine ⟨.slice (some ⟨w.heap.size, 0, none⟩) m gc, w.drew.alloc (.cells (([] : List Value).toArray ++ news.toArray ++ Builtin.zeroCells z.cells (gc - m)) e), ?_, ?_⟩
    · rw [hrunop]
      simp only [Sem.run_bind, hrun, Result.andThen_ok, Sem.run_pure]
    · rw [ho, put_some]
      refine ⟨g', obn, ?_, by rw [hg]; exact h2, h3, by simpa using h4⟩
      simp only [S.set, lk_cons]
      exact r6

/-- The cells of a text's bytes. -/
def bytesC (s : ByteArray) : List V := s.data.toList.map fun b => .flat (.int .u8 b.toNat)
theorem length_bytesC (s : ByteArray) : (bytesC s).length = s.size := by simp [bytesC]

theorem bytesWorld_eq (e : TypeId) (s : ByteArray) : Lib.bytesWorld w e s = w.drew.alloc (.cells (Lib.bytesCells w e s) e ((Lib.bytesCells w e s).size, (Lib.bytesCells w e s).size + 1)) := by
  have h1 := Lib.bytesWorld_size w e s
  have h2 : (Lib.bytesWorld w e s).heap = (w.drew.alloc (.cells (Lib.bytesCells w e s) e ((Lib.bytesCells w e s).size, (Lib.bytesCells w e s).size + 1))).heap := by
    apply arr_ext
    intro i
    by_cases hi : i < w.heap.size
    · rw [Lib.bytesWorld_at_old w e s i hi]
      exact (Below.heap_alloc w.drew _ i hi).symm
    · by_cases hi2 : i = w.heap.size
      · subst hi2
        rw [Lib.bytesWorld_at_new]
        exact (heap_alloc_new w.drew _).symm
      · rw [Array.getElem?_eq_none (by omega), Array.getElem?_eq_none (by simp; omega)]
  have h3 : (Lib.bytesWorld w e s).tape = w.tape ∧ (Lib.bytesWorld w e s).drawn = w.drawn + 1 ∧ (Lib.bytesWorld w e s).os = w.os ∧ (Lib.bytesWorld w e s).output = w.output := by
    unfold Lib.bytesWorld World.freeze
    split <;> exact ⟨rfl, rfl, rfl, rfl⟩
  generalize Lib.bytesWorld w e s = W at h1 h2 h3
  obtain ⟨hp, tp, dr, os, out⟩ := W
  obtain ⟨e1, e2, e3, e4⟩ := h3
  simp only at h2 e1 e2 e3 e4
  subst h2 e1 e2 e3 e4
  rfl

theorem step_bytes (hH : EnvOk P H) {gl : Nat → Option (List V)} (hG : GlOk E.g0 E.w0 gl) {o : Oper} {σ : S} {d : Nat} {t u e : TypeId} {ti ui ei : TyI} {x : Operand} {s : ByteArray}
    (hop : o.op = .convert u t x) (ho : o.dst = some d) (hd : d < nt) (hu : H.get u = some ui) (huk : ui.k = .str) (ht : H.get t = some ti) (hte : ti.k = .sl e) (he : H.get e = some ei) (hek : ei.k = .int .u8)
    (hi : evO (lk σ.sl) gl x = .flat (.string s)) (h63 : s.size ≤ maxLen) : StepTo P E nt o σ (σ.set d (.sl true 1 s.size (bytesC s))) := by
  rintro a w ⟨g, ob, h1, h2, h3, h4⟩
  have hxv := evO_rel (d := a.defers) h1.slot (hG.onto h1.onto) x (by rw [hi]; simp)
  rw [hi] at hxv
  have hev : a.eval x = .string s := by
    show Act.eval { tmps := a.tmps, defers := a.defers } x = _
    generalize Act.eval { tmps := a.tmps, defers := a.defers } x = q at hxv
    cases hxv; rfl
  have hrun := Lib.run_convert_string_bytes (P := P) w u t e s ((hH.tells hu).und_str huk) ((hH.tells ht).und_sl hte) ((hH.tells he).und_int hek)
  rw [bytesWorld_eq] at hrun
  have hge := grownCap_ge w s.size 0 e
  have hcm := grownCap_le_maxLen w s.size 0 e h63
  have hdr : Onto g g w w.drew := ⟨fun _ _ _ _ h => h, fun _ => Nat.le_refl _, fun _ _ => rfl, Nat.le_refl _⟩
  have hcs : (Lib.bytesCells w e s).size = grownCap w s.size 0 e * 1 := by
    simp only [Lib.bytesCells, Array.size_append, Array.size_map, Array.size_replicate]
    show s.size + _ = _
    omega
  obtain ⟨g', obn, hg, r6⟩ := h1.drew.newRow (d := d) (by omega) 1 s.size (grownCap w s.size 0 e) (bytesC s) (Lib.bytesCells w e s) e ((Lib.bytesCells w e s).size, (Lib.bytesCells w e s).size + 1)
    (by rw [length_bytesC]; omega) hcs hge hcm (thawed0 _ _ (.inl (Nat.le_refl _))) (fun k hk => by
      rw [length_bytesC] at hk
      have hk' : k < s.data.size := hk
      have e1 : (Lib.bytesCells w e s).getD k undef = .int .u8 (s.data[k]).toNat := by
        rw [Array.getD_eq_getD_getElem?, Lib.bytesCells, Array.getElem?_append_left (by simpa using hk')]
        simp [Array.getElem?_eq_getElem hk']
      have e2 : (bytesC s).getD k .unk = .flat (.int .u8 (s.data[k]).toNat) := by
        simp [bytesC, List.getD_eq_getElem?_getD, Array.getElem?_eq_getElem hk']
      rw [e1, e2]
      exact .flat _ rfl)
  refine .inl ⟨.slice (some ⟨w.heap.size, 0, none⟩) s.size (grownCap w s.size 0 e), w.drew.alloc (.cells (Lib.bytesCells w e s) e ((Lib.bytesCells w e s).size, (Lib.bytesCells w e s).size + 1)), ?_, ?_⟩
  · obtain ⟨dst, op, ty, pos, after, guard⟩ := o
    simp only at hop
    subst hop
    simp only [execOp, Sem.run_bind, hev, hrun, Result.andThen_ok, Sem.run_pure]
  · rw [ho, put_some]
    refine ⟨g', obn, ?_, by rw [hg]; exact h2, h3, by simpa using h4⟩
    simp only [S.set, lk_cons]
    exact r6

/-- 'make([]T, n)': a row of its own, or a box. -/
theorem run_make (hH : EnvOk P H) {t e : TypeId} {ti ei : TyI} {n : Int} {k k' : IntKind} {z : Value} (ht : H.get t = some ti) (hte : ti.k = .sl e) (he : H.get e = some ei) (hz1 : (zeroValue e).run P w = .ok z w) (hzs : z.cells.size = ei.sz)
    (h0 : 0 ≤ n) (h63 : n ≤ 9223372036854775807) (hb : ei.bytes * n ≤ 281474976710656) :
    (Instr.makeSlice t (.int k n) (.int k' n)).run P w = .ok (.slice (some ⟨w.heap.size, 0, none⟩) n.toNat n.toNat) (w.alloc (.cells ((Array.range (n.toNat * z.cells.size)).map (fun k => z.cells[k % z.cells.size]!)) e)) := by
  have hu := (hH.tells ht).und_sl hte
  obtain ⟨tinf, hti, hsz, hby, _⟩ := (hH.tells he).isz
  have hw : IntKind.i64.wrap n = n := by
    rw [IntKind.wrap_i64]
    omega
  have h1 : ¬ (n < 0) := by omega
  have h2 : ¬ ((ei.bytes : Int) * n > 281474976710656) := by omega
  have hs := (hH.tells he).size (w := w)
  simp only [Instr.makeSlice, Sem.run_bind, run_underlying' hu, Result.andThen_ok, asInt, asIntOf, Sem.run_pure, run_typeInfo' hti, hw, hby, h1, decide_false, Bool.false_or]
  have h3 : (decide ((ei.bytes : Int) * n > 2 ^ 48)) = false := by
    rw [decide_eq_false_iff_not]; omega
  simp only [h3, Bool.false_or, Int.lt_irrefl, gt_iff_lt, decide_false, Bool.false_eq_true, if_false, Sem.run_bind, run_askRoom, Result.andThen_ok, hs, Bool.or_self]
  by_cases hn : n.toNat * ei.sz = 0
  · have e0 : ∀ f : Nat → Value, Array.map f (Array.range 0) = #[] := fun f => by simp
    simp only [hn, if_true, Sem.run_pure, Result.andThen_ok, newRow, Sem.run_bind, run_newObj, hzs, e0]
    rfl
  · simp only [hn, if_false, Sem.run_bind, hz1, Result.andThen_ok, newRow, Sem.run_pure, run_newObj, hzs]
    rfl

theorem evInt {σ : S} {gl : Nat → Option (List V)} {g : G} {tm : Array Value} {dl : List Deferred} (hs : ∀ i, lk σ.sl i ≠ .unk → VR g w (lk σ.sl i) (tm.getD i undef)) (hG : GlOk g w gl) {x : Operand} {v : Value} (hv : evO (lk σ.sl) gl x = .flat v) :
    Act.eval { tmps := tm, defers := dl } x = v := by
  have := evO_rel (d := dl) hs hG x (by rw [hv]; simp)
  rw [hv] at this
  generalize Act.eval { tmps := tm, defers := dl } x = q at this
  cases this; rfl

theorem step_make (hH : EnvOk P H) {gl : Nat → Option (List V)} (hG : GlOk E.g0 E.w0 gl) {o : Oper} {σ : S} {d : Nat} {t e : TypeId} {ti ei : TyI} {x y : Operand} {n : Int} {k k' : IntKind} (hop : o.op = .makeSlice t x y) (ho : o.dst = some d) (hd : d < nt)
    (ht : H.get t = some ti) (hte : ti.k = .sl e) (he : H.get e = some ei) (hz : ei.zok = true) (hx : evO (lk σ.sl) gl x = .flat (.int k n)) (hy : evO (lk σ.sl) gl y = .flat (.int k' n))
    (h0 : 0 ≤ n) (h63 : n ≤ 9223372036854775807) (hb : ei.bytes * n ≤ 281474976710656) : StepTo P E nt o σ (σ.set d (.sl true ei.sz n.toNat (rep n.toNat ei.zero))) := by
  rintro a w ⟨g, ob, h1, h2, h3, h4⟩
  have hx' : a.eval x = .int k n := evInt (σ := σ) (dl := a.defers) h1.slot (hG.onto h1.onto) hx
  have hy' : a.eval y = .int k' n := evInt (σ := σ) (dl := a.defers) h1.slot (hG.onto h1.onto) hy
  have hT := hH.tells he
  obtain ⟨z, hz1, hz2, hz3, _⟩ := hT.zeroVal (w := w) (g := g) hz
  have hrun := run_make (P := P) (w := w) (k := k) (k' := k') hH ht hte he hz1 hz3 h0 h63 hb
  have hrep := rep_rel hz2 n.toNat
  obtain ⟨g', obn, hg, r6⟩ := h1.newRow (d := d) (by omega) ei.sz n.toNat n.toNat (rep n.toNat ei.zero) _ e (0, 0) (by rw [length_rep, ← hz2.1, hz3]) (by simp [hz3]) (Nat.le_refl _) (by unfold maxLen; omega) (thawed0 _ _ (.inr rfl)) hrep.2
  refine .inl ⟨.slice (some ⟨w.heap.size, 0, none⟩) n.toNat n.toNat, (w.alloc (.cells ((Array.range (n.toNat * z.cells.size)).map (fun k => z.cells[k % z.cells.size]!)) e)), ?_, ⟨g', obn, ?_, by rw [hg]; exact h2, ?_, ?_⟩⟩
  · obtain ⟨dst, op, ty, pos, after, guard⟩ := o
    simp only at hop
    subst hop
    simp only [execOp, Sem.run_bind, hx', hy', hrun, Result.andThen_ok, Sem.run_pure]
  · rw [ho, put_some]
    simp only [S.set, lk_cons]
    exact r6
  · rw [ho, put_some]; exact h3
  · rw [ho, put_some]; simpa using h4

theorem rep_noOwn {z : List V} (h : ∀ x ∈ z, noOwnB x = true) (n : Nat) : ∀ x ∈ rep n z, noOwnB x = true := by
  intro x hx
  simp only [rep, List.mem_flatten, List.mem_replicate] at hx
  obtain ⟨l, ⟨_, rfl⟩, hxl⟩ := hx
  exact h x hxl

/-- .. as a box whose cells may be written. -/
theorem step_makeBox (hH : EnvOk P H) {gl : Nat → Option (List V)} (hG : GlOk E.g0 E.w0 gl) {o : Oper} {σ : S} {d : Nat} {t e : TypeId} {ti ei : TyI} {x y : Operand} {n : Int} {k k' : IntKind} (hop : o.op = .makeSlice t x y) (ho : o.dst = some d) (hd : d < nt)
    (ht : H.get t = some ti) (hte : ti.k = .sl e) (he : H.get e = some ei) (hz : ei.zok = true) (hx : evO (lk σ.sl) gl x = .flat (.int k n)) (hy : evO (lk σ.sl) gl y = .flat (.int k' n))
    (h0 : 0 ≤ n) (h63 : n ≤ 9223372036854775807) (hb : ei.bytes * n ≤ 281474976710656) :
    StepTo P E nt o σ { sl := (d, .bs σ.mn 0 n.toNat n.toNat) :: σ.sl, mem := upd σ.mem σ.mn (some (rep n.toNat ei.zero)), mn := σ.mn + 1 } := by
  rintro a w ⟨g, ob, h1, h2, h3, h4⟩
  have hx' : a.eval x = .int k n := evInt (σ := σ) (dl := a.defers) h1.slot (hG.onto h1.onto) hx
  have hy' : a.eval y = .int k' n := evInt (σ := σ) (dl := a.defers) h1.slot (hG.onto h1.onto) hy
  have hT := hH.tells he
  obtain ⟨z, hz1, hz2, hz3, _⟩ := hT.zeroVal (w := w) (g := g) hz
  have hrun := run_make (P := P) (w := w) (k := k) (k' := k') hH ht hte he hz1 hz3 h0 h63 hb
  have hrep := rep_rel hz2 n.toNat
  obtain ⟨g', hg, r5⟩ := h1.newBox (d := d) (by omega) (rep n.toNat ei.zero) _ e hrep (noOwn_cells (rep_noOwn hT.zero_noOwn _))
  have hbp := r5.slot d (by rw [upd_same]; simp)
  rw [upd_same, getD_set (by omega), if_pos rfl] at hbp
  have hφ : g'.φ g.mn = w.heap.size ∧ g.mn < g'.mn := by
    generalize hq : (Value.pointer (some ⟨w.heap.size, 0, none⟩)) = q at hbp
    cases hbp with
    | bp b off hb => simp only [Value.pointer.injEq, Option.some.injEq, Addr.mk.injEq] at hq; exact ⟨hq.1.symm, hb⟩
  have r6 := r5.put (d := d) (x := .bs g.mn 0 n.toNat n.toNat) (v := .slice (some ⟨w.heap.size, 0, none⟩) n.toNat n.toNat) (by simp; omega) (fun _ => by
    rw [← hφ.1]; exact .bs g.mn 0 n.toNat n.toNat hφ.2 (Nat.le_refl _)) (fun j sz n xs k => by cases j <;> simp [comp] at k)
  have e1 : upd (upd (lk σ.sl) d (.bp g.mn 0)) d (.bs g.mn 0 n.toNat n.toNat) = upd (lk σ.sl) d (.bs g.mn 0 n.toNat n.toNat) := by funext i; simp only [upd]; split <;> rfl
  have e2 : (a.tmps.setIfInBounds d (.pointer (some ⟨w.heap.size, 0, none⟩))).setIfInBounds d (.slice (some ⟨w.heap.size, 0, none⟩) n.toNat n.toNat) = a.tmps.setIfInBounds d (.slice (some ⟨w.heap.size, 0, none⟩) n.toNat n.toNat) := by
    apply arr_ext
    intro i
    simp only [Array.getElem?_setIfInBounds, Array.size_setIfInBounds]
    split <;> rfl
  rw [e1, e2] at r6
  refine .inl ⟨.slice (some ⟨w.heap.size, 0, none⟩) n.toNat n.toNat, (w.alloc (.cells ((Array.range (n.toNat * z.cells.size)).map (fun k => z.cells[k % z.cells.size]!)) e)), ?_, ⟨g', ob, ?_, by rw [hg, h2], ?_, ?_⟩⟩
  · obtain ⟨dst, op, ty, pos, after, guard⟩ := o
    simp only at hop
    subst hop
    simp only [execOp, Sem.run_bind, hx', hy', hrun, Result.andThen_ok, Sem.run_pure]
  · rw [ho, put_some]
    simp only [lk_cons]
    rw [← h2]
    exact r6
  · rw [ho, put_some]; exact h3
  · rw [ho, put_some]; simpa using h4

end Go.VL
