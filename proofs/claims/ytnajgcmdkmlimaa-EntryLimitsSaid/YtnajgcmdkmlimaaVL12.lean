/- Part VL12 of the proof: made for this claim. -/
import Derived.Test.YtnajgcmdkmlimaaVL11
import Derived.Laws.Append
import Derived.Laws.AppendOwn
import Derived.Laws.IdiomCopy
/-! VL part 12: appends. -/
set_option linter.unusedVariables false
set_option linter.unusedSimpArgs false
open Go.RowKit
namespace Go.VL
variable {P : Program} {H : Env} {L : LEnv} {E : Entry} {nt : Nat} {w : World}

/-- The cells that are appended. -/
structure Src (P : Program) (w : World) (size : Nat) (t : TypeId) (x : Value) (m : Nat) (news : List Value) : Prop where
  desc : ∃ d, P.underlying t = some d ∧ ∀ k, d ≠ .int k
  len : (Builtin.lenOf x).run P w = .ok m w
  first : ∀ w', (w' = w ∨ w' = w.drew) → (Builtin.firstCells size m x).run P w' = .ok news.toArray w'
  size : news.length = m * size

theorem not_int {d : TypeDesc} (h : ∀ k, d ≠ .int k) : (match d with | .int _ => true | _ => false) = false := by
  cases d <;> simp at h ⊢

theorem run_append_roomG (t xt ty e : TypeId) (i : TypeInfo) (ht : P.underlying t = some (.slice e)) (hi : P.info? e = some i) (base : Option Addr) (sLen sCap m : Nat) (x : Value) (news : List Value) (hx : Src P w i.size xt x m news)
    (hroom : sLen + m ≤ sCap) {w' : World} (hst : ∀ a, base = some a → (storeCells (a.add (sLen * i.size)) news).run P w = .ok () w') (hn : base = none → w' = w) :
    (Builtin.append_ #[t, xt] ty #[.slice base sLen sCap, x]).run P w = .ok (.slice base (sLen + m) sCap) w' := by
  obtain ⟨d, hd, hni⟩ := hx.desc
  have hf := hx.first w (.inl rfl)
  have hz := not_int hni
  cases base with
  | none =>
    obtain rfl := hn rfl
    simp only [Builtin.append_, List.getElem?_toArray, List.getElem?_cons_zero, List.getElem?_cons_succ, Sem.run_bind, run_underlying' ht, run_underlying' hd, Result.andThen_ok, sizeOf, run_typeInfo' hi, Sem.run_pure, hz, Bool.false_eq_true, if_false, hx.len, hroom, if_true, hf, Bool.not_false]
  | some a =>
    simp only [Builtin.append_, List.getElem?_toArray, List.getElem?_cons_zero, List.getElem?_cons_succ, Sem.run_bind, run_underlying' ht, run_underlying' hd, Result.andThen_ok, sizeOf, run_typeInfo' hi, Sem.run_pure, hz, Bool.false_eq_true, if_false, hx.len, hroom, if_true, hf, Bool.not_false, hst a rfl]

theorem run_append_growG (t xt ty e : TypeId) (i : TypeInfo) (z : Value) (ht : P.underlying t = some (.slice e)) (hi : P.info? e = some i) (hz : i.zero = some z) (base : Option Addr) (sLen sCap m : Nat) (x : Value) (olds news : List Value) (hx : Src P w i.size xt x m news)
    (hold : (Builtin.firstCells i.size sLen (.slice base sLen sCap)).run P w.drew = .ok olds.toArray w.drew)
    (hg : sCap < sLen + m) (h63 : sLen + m ≤ maxLen) (hfit : (sLen + m) * i.bytes ≤ 140737488355328) :
    (Builtin.append_ #[t, xt] ty #[.slice base sLen sCap, x]).run P w =
      .ok (.slice (some ⟨w.heap.size, 0, none⟩) (sLen + m) (grownCap w (sLen + m) sCap e)) (w.drew.alloc (.cells (olds.toArray ++ news.toArray ++ Builtin.zeroCells z.cells (grownCap w (sLen + m) sCap e - (sLen + m))) e)) := by
  obtain ⟨d, hd, hni⟩ := hx.desc
  have hf := hx.first w.drew (.inr rfl)
  have hzz := not_int hni
  have hn : ¬ (sLen + m ≤ sCap) := by omega
  have h63' : ¬ (((sLen + m : Nat) : Int) > IntKind.i64.max ∧ (False ∨ i.bytes = 0)) := by
    have : IntKind.i64.max = 9223372036854775807 := by decide
    rw [this]; unfold maxLen at h63; omega
  have h48' : ¬ (Builtin.nextslicecap (sLen + m) sCap * i.bytes > 2 ^ 48) := by
    have := growslice_fits hg hfit
    omega
  simp [Builtin.append_, run_underlying' ht, run_underlying' hd, sizeOf, run_typeInfo' hi, hzz, hx.len, hn, h63', h48', Question.forced, hf, hold, newRow, grownCap, zeroValue, hz]
  rw [if_neg (by unfold maxLen at h63; omega)]
  congr 2
  generalize Builtin.zeroCells z.cells _ = Z
  have : olds.toArray ++ (news.toArray ++ Z) = (olds ++ news).toArray ++ Z := by
    apply Array.ext'; simp
  rw [this]

/-- The cells of what is appended, abstractly: how many elements, and the cells. -/
def srcV (mem : Nat → Option (List V)) (sz : Nat) (x : V) : Option (Prop × Nat × List V) := match x with
  | .sl _ sz' n cs => if sz' = sz then some (cs.length = n * sz, n, cs) else none
  | .nil => some (True, 0, [])
  | .flat (.string s) => if sz = 1 then some (True, s.size, s.data.toList.map fun b => .flat (.int .u8 b.toNat)) else none
  | .bs b off n _ => match mem b with
    | some l => some (off + n * sz ≤ l.length, n, (l.drop off).take (n * sz))
    | none => none
  | _ => none

def notIntT (i : TyI) : Bool := match i.k with
  | .sl _ | .str => true
  | _ => false

theorem firstCells_some {size n : Nat} {b : Addr} {len cap : Nat} {cs : List Value} (hl : cs.length = n * size) (h : ∀ j, j < cs.length → w.cell? (b.add j) = some (cs.getD j undef)) :
    (Builtin.firstCells size n (.slice (some b) len cap)).run P w = .ok cs.toArray w :=
  run_firstCells_some w size n b len cap cs hl (fun j v hj => by
    have hlt := (List.getElem?_eq_some_iff.1 hj).1
    rw [h j hlt]
    simp [List.getD_eq_getElem?_getD, hj])

theorem srcV_rel (hH : EnvOk P H) {g : G} {mem : Nat → Option (List V)} (hm : BoxesAt g w mem) {t : TypeId} {ti : TyI} (ht : H.get t = some ti) (hni : notIntT ti = true) {sz : Nat} {x : V} {v : Value} (hx : VR g w x v) {c : Prop} {m : Nat} {xs : List V}
    (h : srcV mem sz x = some (c, m, xs)) (hc : c) : ∃ news, Src P w sz t v m news ∧ xs.length = news.length ∧ ∀ i, i < xs.length → VR g w (xs.getD i .unk) (news.getD i undef) := by
  have hdesc : ∃ d, P.underlying t = some d ∧ ∀ k, d ≠ .int k := by
    have hT := hH.tells ht
    unfold notIntT at hni
    split at hni
    · rename_i e hk; exact ⟨_, hT.und_sl hk, by simp⟩
    · rename_i hk; exact ⟨_, hT.und_str hk, by simp⟩
    · cases hni
  cases hx <;> simp only [srcV] at h <;> try cases h
  case flat hv =>
    cases v <;> simp only [srcV] at h <;> try cases h
    rename_i s
    split at h <;> cases h
    rename_i hz
    subst hz
    refine ⟨s.data.toList.map fun b => Value.int .u8 b.toNat, ⟨hdesc, by simp [Builtin.lenOf], fun w' _ => ?_, by simp⟩, by simp, fun i hi => ?_⟩
    · simp only [Builtin.firstCells]
      have : s.extract 0 s.size = s := by
        apply ByteArray.ext
        rw [ByteArray.data_extract]
        show s.data.extract 0 s.data.size = s.data
        simp
      rw [this]
      simp only [Sem.run_pure]
      congr 1
      apply Array.ext'
      simp
    · simp only [List.length_map, Array.length_toList] at hi
      have e1 : (s.data.toList.map fun b => V.flat (.int .u8 b.toNat)).getD i .unk = .flat (.int .u8 (s.data[i]).toNat) := by simp [List.getD_eq_getElem?_getD, Array.getElem?_eq_getElem hi]
      have e2 : (s.data.toList.map fun b => Value.int .u8 b.toNat).getD i undef = .int .u8 (s.data[i]).toNat := by simp [List.getD_eq_getElem?_getD, Array.getElem?_eq_getElem hi]
      rw [e1, e2]
      exact .flat _ rfl
  case nil => exact ⟨[], ⟨hdesc, by simp [Builtin.lenOf], fun w' _ => by simp [Builtin.firstCells], by simp⟩, by simp, fun i hi => by simp at hi⟩
  case sl0 own sz' a cap =>
    split at h <;> cases h
    refine ⟨[], ⟨hdesc, by simp [Builtin.lenOf], fun w' _ => ?_, by simp⟩, by simp, fun i hi => by simp at hi⟩
    cases a with
    | none => simp [Builtin.firstCells]
    | some a => simp [Builtin.firstCells, loadCells, loadCellsFrom]
  case sl own sz' n cs blk off cap us hn hcap hcm hp hu hv =>
    split at h <;> cases h
    rename_i hz
    subst hz
    refine ⟨(List.range xs.length).map fun i => us.getD i undef, ⟨hdesc, by simp [Builtin.lenOf], fun w' hw => ?_, by simpa using hn⟩, by simp, fun i hi => ?_⟩
    · refine firstCells_some (by simpa using hn) (fun j hj => ?_)
      simp only [List.length_map, List.length_range] at hj
      have : w'.cell? ⟨blk, off + j, none⟩ = some (us.getD j undef) := by
        rcases hw with rfl | rfl
        · exact hu j hj
        · exact hu j hj
      rw [addr_add, this]
      simp [List.getD_eq_getElem?_getD, hj]
    · have := hv i hi
      simpa [List.getD_eq_getElem?_getD, hi] using this
  case bs b off n cap hb hcap =>
    cases hmb : mem b with
    | none => simp [hmb] at h
    | some l =>
      simp only [hmb, Option.some.injEq, Prod.mk.injEq] at h
      obtain ⟨rfl, rfl, rfl⟩ := h
      obtain ⟨_, cc, e, fr, hh, hsz, hth, hvv⟩ := hm b l hmb
      have hlen : ((l.drop off).take (n * sz)).length = n * sz := by rw [List.length_take, List.length_drop]; omega
      refine ⟨(cc.toList.drop off).take (n * sz), ⟨hdesc, by simp [Builtin.lenOf], fun w' hw => ?_, ?_⟩, ?_, fun i hi => ?_⟩
      · refine firstCells_some (by rw [List.length_take, List.length_drop, Array.length_toList, hsz]; omega) (fun j hj => ?_)
        rw [List.length_take] at hj
        have hw' : w'.heap = w.heap := by rcases hw with rfl | rfl <;> rfl
        rw [addr_add]
        simp only [World.cell?, hw', hh]
        simp [List.getD_eq_getElem?_getD, List.getElem?_take, List.getElem?_drop, show j < n * sz by omega, show off + j < cc.size by omega]
      · rw [List.length_take, List.length_drop, Array.length_toList, hsz]; omega
      · rw [hlen, List.length_take, List.length_drop, Array.length_toList, hsz]; omega
      · rw [hlen] at hi
        have := hvv (off + i) (by omega)
        simpa [List.getD_eq_getElem?_getD, Array.getD_eq_getD_getElem?, List.getElem?_take, List.getElem?_drop, hi] using this

theorem arr_ext {α : Type} {a b : Array α} (h : ∀ i : Nat, a[i]? = b[i]?) : a = b := by
  apply Array.ext'
  apply List.ext_getElem?
  intro i
  simpa using h i

/-- What stands in a block behind stores into it. -/
theorem setCells_put (blk : Nat) (e : TypeId) (fr : Nat × Nat) : ∀ (vs : List Value) (o : Nat) (w : World) (c : Array Value), w.heap[blk]? = some (.cells c e fr) → o + vs.length ≤ c.size →
    ∃ c', w.setCells blk o vs = World.putBlk w blk (.cells c' e fr) ∧ c'.size = c.size ∧ ∀ i, c'.getD i undef = if o ≤ i ∧ i < o + vs.length then vs.getD (i - o) undef else c.getD i undef
  | [], o, w, c, h, _ => by
    refine ⟨c, ?_, rfl, fun i => by rw [if_neg (by simp)]⟩
    have hlt : blk < w.heap.size := (Array.getElem?_eq_some_iff.1 h).1
    show w = _
    have : w.heap.setIfInBounds blk (.cells c e fr) = w.heap := by
      apply arr_ext
      intro i
      rw [Array.getElem?_setIfInBounds]
      split
      · rename_i k; subst k; exact h.symm
      · rfl
    simp only [World.putBlk, this]
  | v :: r, o, w, c, h, hle => by
    rw [List.length_cons] at hle
    have hlt : blk < w.heap.size := (Array.getElem?_eq_some_iff.1 h).1
    have h1 : w.setCell ⟨blk, o, none⟩ v = World.putBlk w blk (.cells (c.setIfInBounds o v) e fr) := by
      simp only [World.setCell, World.putBlk]
      congr 1
      apply arr_ext
      intro i
      rw [Array.getElem?_modify, Array.getElem?_setIfInBounds]
      split
      · rename_i k; subst k; rw [h]; rfl
      · rfl
    have h2 := putBlk_same (w := w) (o := .cells (c.setIfInBounds o v) e fr) hlt
    obtain ⟨c', k1, k2, k3⟩ := setCells_put blk e fr r (o + 1) _ _ h2 (by rw [Array.size_setIfInBounds]; omega)
    refine ⟨c', ?_, by rw [k2, Array.size_setIfInBounds], fun i => ?_⟩
    · rw [World.setCells, h1, k1]
      simp only [World.putBlk]
      congr 1
      apply arr_ext
      intro i
      rw [Array.getElem?_setIfInBounds, Array.getElem?_setIfInBounds, Array.getElem?_setIfInBounds, Array.size_setIfInBounds]
      split <;> rfl
    · rw [k3 i, List.length_cons]
      by_cases q : i = o
      · subst q
        rw [if_neg (by omega), if_pos (by omega), getD_set (by omega), if_pos rfl, Nat.sub_self]; rfl
      · rw [getD_set (by omega), if_neg q]
        by_cases q2 : o + 1 ≤ i ∧ i < o + 1 + r.length
        · rw [if_pos q2, if_pos (by omega), show i - o = (i - (o + 1)) + 1 by omega, List.getD_cons_succ]
        · rw [if_neg q2, if_neg (by omega)]

theorem VR.oneCell {g : G} {x : V} {v : Value} (h : VR g w x v) (hx : ∀ cs, x ≠ .agg cs ∧ x ≠ .tup cs) : v.oneCell' = true := by
  cases h with
  | flat v hv => cases v <;> simp [flatOk] at hv <;> rfl
  | agg cs us hl hv => exact absurd rfl (hx cs).1
  | tup cs us hl hv => exact absurd rfl (hx cs).2
  | _ => rfl

def oneB : V → Bool
  | .agg _ | .tup _ | .unk => false
  | _ => true
theorem VR.oneB {g : G} {x : V} {v : Value} (h : VR g w x v) (hx : oneB x = true) : v.oneCell' = true :=
  h.oneCell (fun cs => ⟨fun e => (by rw [e] at hx; cases hx), fun e => (by rw [e] at hx; cases hx)⟩)

/-- Stores into a thawed block. -/
theorem run_storeCells_thawed {blk : Nat} {c : Array Value} {e : TypeId} {fr : Nat × Nat} (h : w.heap[blk]? = some (.cells c e fr)) (ht : Thawed c fr) (o : Nat) (vs : List Value) (hle : o + vs.length ≤ c.size) (h1 : ∀ v ∈ vs, v.oneCell' = true) :
    (storeCells ⟨blk, o, none⟩ vs).run P w = .ok () (w.setCells blk o vs) := by
  have := run_storeCells_cells (P := P) blk o vs 0 w (fun j hj => by
    simp only [World.cell?, h]
    simp [show o + j < c.size by omega]) (fun j hj => by
    have := ht (o + j) (by omega)
    simp only [World.frozen?, h, Nat.add_zero]
    obtain ⟨a, b⟩ := fr
    exact this) h1
  simpa using this

/-- 'append(x, ..)': x is owned. -/
theorem step_append (hH : EnvOk P H) {gl : Nat → Option (List V)} (hG : GlOk E.g0 E.w0 gl) {o : Oper} {σ : S} {d i n m : Nat} {t xt e : TypeId} {ti xi ei : TyI} {y : Operand} {cs xs : List V} {c : Prop}
    (hop : o.op = .call { callee := .builtin .append, args := #[.tmp i, y], argTypes := #[t, xt] }) (ho : o.dst = some d) (hd : d < nt) (ht : H.get t = some ti) (hte : ti.k = .sl e) (he : H.get e = some ei) (hx : H.get xt = some xi) (hxi : notIntT xi = true)
    (hz : ei.zok = true) (hi : lk σ.sl i = .sl true ei.sz n cs) (hs : srcV σ.mem ei.sz (evO (lk σ.sl) gl y) = some (c, m, xs)) (hc : c) (hcs : cs.length = n * ei.sz) (hone : ∀ x ∈ xs, oneB x = true)
    (h63 : n + m ≤ maxLen) (hb : (n + m) * ei.bytes ≤ 140737488355328) :
    StepTo P E nt o σ { σ with sl := (d, .sl true ei.sz (n + m) (cs ++ xs)) :: (i, .sl false ei.sz n cs) :: σ.sl } := by
  rintro a w ⟨g, ob, h1, h2, h3, h4⟩
  have hsl := h1.slot
  have hbx : BoxesAt g w σ.mem := h1.box
  have hyk : evO (lk σ.sl) gl y ≠ .unk := by intro k; rw [k] at hs; cases hs
  have hy := evO_rel (d := a.defers) hsl (hG.onto h1.onto) y hyk
  obtain ⟨news, hsrc, hnl, hnv⟩ := srcV_rel (P := P) hH hbx hx hxi hy hs hc
  have hu := (hH.tells ht).und_sl hte
  have hT := hH.tells he
  obtain ⟨z, hz1, hz2, hz3, tinf, hti, htz⟩ := hT.zeroVal (w := w) (g := g) hz
  obtain ⟨ti', hti', hsz', hby', _⟩ := hT.isz
  rw [hti] at hti'
  cases hti'
  have hone' : ∀ v ∈ news, v.oneCell' = true := by
    intro v hv
    obtain ⟨k, hk, rfl⟩ := List.mem_iff_getElem.1 hv
    have hkx : k < xs.length := by omega
    have := hnv k hkx
    rw [show news.getD k undef = news[k] by simp [List.getD_eq_getElem?_getD, hk]] at this
    refine this.oneB ?_
    exact hone _ (by simp [List.getD_eq_getElem?_getD, hkx])
  obtain ⟨v, ob', obv, r1, r2, r3, r4, _, r5⟩ := h1.release hi
  have hev : a.eval (.tmp i) = v := r1
  have hrunop : (execOp a.eval o).run P w = (do pure (.value (← Builtin.append_ #[t, xt] o.type #[v, a.eval y])) : Sem Next).run P w := by
    obtain ⟨dst, op, ty, pos, after, guard⟩ := o
    simp only at hop
    subst hop
    simp only [execOp, resolve, Sem.run_bind, Sem.run_pure, Result.andThen_ok, invoke, builtin, List.map_toArray, List.map_cons, List.map_nil, hev]
  have hxl : xs.length = m * ei.sz := by rw [hnl]; exact hsrc.size
  -- what the machine holds of the old slice
  cases v <;> simp only [OwnAt] at r3
  rename_i base n' cap
  obtain ⟨rfl, r3⟩ := r3
  have hput : ∀ (g' : G) (obn : Pos → Option Nat) (s' : Nat → V) (v' : Value) (w' : World), g'.mn = g.mn → St E g' obn (upd (upd (lk σ.sl) i (.sl false ei.sz n' cs)) d (.sl true ei.sz (n' + m) (cs ++ xs))) σ.mem (a.tmps.setIfInBounds d v') w' →
      (execOp a.eval o).run P w = .ok (.value v') w' → (∃ v w', (execOp a.eval o).run P w = .ok (.value v) w' ∧ At E nt { σ with sl := (d, .sl true ei.sz (n' + m) (cs ++ xs)) :: (i, .sl false ei.sz n' cs) :: σ.sl } (a.put o.dst v) w') := by
    intro g' obn s' v' w' q1 q2 q3
    refine ⟨v', w', q3, ?_⟩
    rw [ho, put_some]
    refine ⟨g', obn, ?_, by rw [q1]; exact h2, h3, by simpa using h4⟩
    simp only [lk_cons]
    exact q2
  have hlen : (cs ++ xs).length = (n' + m) * ei.sz := by rw [List.length_append, hcs, hxl, Nat.add_mul]
  have hvo : ∀ {g1 : G} {w1 : World}, Onto g g1 w w1 → ∀ k, k < xs.length → VR g1 w1 (xs.getD k .unk) (news.getD k undef) := fun ho k hk => (hnv k hk).onto ho
  left
  by_cases hroom : n' + m ≤ cap
  · -- in place
    rcases r3 with hfull | ⟨blk, c0, e0, fr0, q1, q2, q3, q4, q5, q6, q7, q8⟩
    · -- no room at all: nothing is appended
      have hm0 : m = 0 := by omega
      subst hm0
      have hx0 : xs = [] := List.eq_nil_of_length_eq_zero (by simpa using hxl)
      have hn0 : news = [] := List.eq_nil_of_length_eq_zero (by rw [← hnl, hx0]; rfl)
      subst hx0
      subst hn0
      obtain ⟨obn, _, r6⟩ := r4.give (d := d) (v := .slice base n' cap) (obv := obv) (by omega) r2 ⟨rfl, .inl hfull⟩ r5
      refine hput g obn (fun _ => .unk) (.slice base n' cap) w rfl (by simpa using r6) ?_
      rw [hrunop]
      have := run_append_roomG (P := P) (w := w) t xt o.type e tinf hu hti base n' cap 0 _ [] (by rw [hsz']; exact hsrc) hroom (w' := w) (fun ad _ => by simp [storeCells]) (fun _ => rfl)
      simp only [Sem.run_bind, this, Result.andThen_ok, Sem.run_pure, Nat.add_zero]
    · subst q2
      obtain ⟨f1, f2, f3, f4⟩ := r5 blk q1
      have hfit : n' * ei.sz + news.length ≤ c0.size := by
        rw [q4, ← hnl, hxl, ← Nat.add_mul]; exact Nat.mul_le_mul_right _ hroom
      have hst := run_storeCells_thawed (P := P) q3 q5 (n' * ei.sz) news hfit hone'
      obtain ⟨c1, p1, p2, p3⟩ := setCells_put blk e0 fr0 news (n' * ei.sz) w c0 q3 hfit
      rw [p1] at hst
      have hw1 := r4.write (p := (n' + m) * ei.sz) q3 (c' := c1) (e' := e0) (fr' := fr0) (by rw [q6]; exact Nat.mul_le_mul_right _ (by omega)) (fun k hk u hu' => by
        rw [q6] at hk
        have hk2 : k < c0.size := (Array.getElem?_eq_some_iff.1 hu').1
        have := p3 k
        rw [if_neg (by omega)] at this
        rw [Array.getElem?_eq_getElem (by omega)]
        rw [Array.getD_eq_getD_getElem?, Array.getD_eq_getD_getElem?, hu', Array.getElem?_eq_getElem (by omega : k < c1.size)] at this
        simp only [Option.getD_some] at this
        rw [this]) f1 f2 f4
      have hon : Onto g (g.protAt blk ((n' + m) * ei.sz)) w (World.putBlk w blk (.cells c1 e0 fr0)) := by
        refine ⟨fun bl k u hk hu' => ?_, fun bl => ?_, fun _ _ => rfl, Nat.le_refl _⟩
        · by_cases hbl : bl = blk
          · subst hbl
            have hu2 : c0[k]? = some u := by simpa [World.cell?, q3] using hu'
            have hk2 : k < c0.size := (Array.getElem?_eq_some_iff.1 hu2).1
            simp only [World.cell?, putBlk_same f3]
            have := p3 k
            rw [q6] at hk
            rw [if_neg (by omega), Array.getD_eq_getD_getElem?, Array.getD_eq_getD_getElem?, hu2, Array.getElem?_eq_getElem (by omega : k < c1.size)] at this
            simp only [Option.getD_some] at this
            simp [this, show k < c1.size by omega]
          · rw [World.cell?_of_block (w := w)]
            · exact hu'
            · exact putBlk_ne hbl
        · simp only [G.protAt]
          by_cases hbl : bl = blk
          · subst hbl; rw [upd_same, q6]; exact Nat.mul_le_mul_right _ (by omega)
          · rw [upd_ne _ _ hbl]; exact Nat.le_refl _
      have hx2 := r2.onto hon
      obtain ⟨obn, _, r6⟩ := hw1.give (d := d) (sz := ei.sz) (n := n' + m) (cs := cs ++ xs) (v := .slice (some ⟨blk, 0, none⟩) (n' + m) cap) (obv := some blk) (by omega)
        (by
          refine .sl true ei.sz (n' + m) (cs ++ xs) blk 0 cap c1.toList hlen hroom q8 (by simp [G.protAt, upd_same]; rw [← List.length_append, hlen]; exact Nat.le_refl _) (fun k hk => ?_) (fun k hk => ?_)
          · rw [hlen] at hk
            have : (n' + m) * ei.sz ≤ c0.size := by rw [q4]; exact Nat.mul_le_mul_right _ hroom
            simp only [World.cell?, putBlk_same f3]
            simp [List.getD_eq_getElem?_getD, show k < c1.size by omega]
          · have e3 : c1.toList.getD k undef = c1.getD k undef := by simp [List.getD_eq_getElem?_getD, Array.getD_eq_getD_getElem?]
            rw [e3, p3 k]
            rw [List.length_append] at hk
            by_cases hk1 : k < cs.length
            · rw [if_neg (by omega), List.getD_eq_getElem?_getD, List.getElem?_append_left hk1, ← List.getD_eq_getElem?_getD]
              cases hx2 with
              | sl0 => simp at hk1
              | sl _ _ _ _ _ _ _ us a1 a2 a3 a4 a5 a6 =>
                have b1 := a6 k hk1
                have b2 := r2
                cases b2 with
                | sl0 => simp at hk1
                | sl _ _ _ _ _ _ _ us' a1' a2' a3' a4' a5' a6' =>
                  have b3 := a5' k hk1
                  simp only [World.cell?, q3, Nat.zero_add] at b3
                  have b4 : c0.getD k undef = us'.getD k undef := by
                    have : c0[k]? = some (us'.getD k undef) := by simpa using b3
                    simp [Array.getD_eq_getD_getElem?, this]
                  rw [b4]
                  exact (a6' k hk1).onto hon
            · rw [if_pos (by rw [← hnl]; omega), List.getD_eq_getElem?_getD, List.getElem?_append_right (by omega), ← List.getD_eq_getElem?_getD, hcs]
              exact hvo hon _ (by omega))
        ⟨rfl, .inr ⟨blk, c1, e0, fr0, rfl, rfl, putBlk_same f3, by rw [p2]; exact q4, fun k hk => q5 k (by omega), by simp [G.protAt, upd_same], hroom, q8⟩⟩
        (fun bl hbl => by
          cases hbl
          exact ⟨f1, f2, by simpa [World.putBlk] using f3, f4⟩)
      refine hput (g.protAt blk ((n' + m) * ei.sz)) obn (fun _ => .unk) (.slice (some ⟨blk, 0, none⟩) (n' + m) cap) _ rfl r6 ?_
      rw [hrunop]
      have := run_append_roomG (P := P) (w := w) t xt o.type e tinf hu hti (some ⟨blk, 0, none⟩) n' cap m _ news (by rw [hsz']; exact hsrc) hroom (fun ad had => by
        cases had
        rw [addr_add, hsz', Nat.zero_add]
        exact hst) (fun k => by cases k)
      simp only [Sem.run_bind, this, Result.andThen_ok, Sem.run_pure]
  · -- a new array
    have hold : ∃ olds : List Value, olds.length = n' * ei.sz ∧ (Builtin.firstCells ei.sz n' (.slice base n' cap)).run P w.drew = .ok olds.toArray w.drew ∧ ∀ k, k < cs.length → VR g w (cs.getD k .unk) (olds.getD k undef) := by
      cases r2 with
      | sl0 =>
        refine ⟨[], by simp, ?_, fun k hk => by simp at hk⟩
        cases base with
        | none => simp [Builtin.firstCells]
        | some ad => simp [Builtin.firstCells, loadCells, loadCellsFrom]
      | sl _ _ _ _ blk off _ us a1 a2 a3 a4 a5 a6 =>
        refine ⟨(List.range cs.length).map fun k => us.getD k undef, by simpa using a1, firstCells_some (by simpa using a1) (fun k hk => ?_), fun k hk => ?_⟩
        · simp only [List.length_map, List.length_range] at hk
          have : w.drew.cell? ⟨blk, off + k, none⟩ = some (us.getD k undef) := a5 k hk
          rw [addr_add, this]
          simp [List.getD_eq_getElem?_getD, hk]
        · have := a6 k hk
          simpa [List.getD_eq_getElem?_getD, hk] using this
    obtain ⟨olds, o1, o2, o3⟩ := hold
    have hrun := run_append_growG (P := P) (w := w) t xt o.type e tinf z hu hti htz base n' cap m _ olds news (by rw [hsz']; exact hsrc) (by rw [hsz']; exact o2) (by omega) h63 (by rw [hby']; exact hb)
    have hge := grownCap_ge w (n' + m) cap e
    have hcm := grownCap_le_maxLen w (n' + m) cap e h63
    generalize hgc : grownCap w (n' + m) cap e = gc at *
    obtain ⟨g', obn, hg, r6⟩ := r4.drew.newRow (d := d) (by omega) ei.sz (n' + m) gc (cs ++ xs) (olds.toArray ++ news.toArray ++ Builtin.zeroCells z.cells (gc - (n' + m))) e (0, 0) hlen (by
        simp only [Array.size_append, List.size_toArray, size_zeroCells, hz3, o1, ← hnl, hxl, ← Nat.add_mul]
        congr 1; omega) hge hcm (thawed0 _ _ (.inr rfl)) (fun k hk => by
        rw [List.length_append] at hk
        have hdr : Onto g g w w.drew := ⟨fun _ _ _ _ h => h, fun _ => Nat.le_refl _, fun _ _ => rfl, Nat.le_refl _⟩
        by_cases hk1 : k < cs.length
        · have e1 : (olds.toArray ++ news.toArray ++ Builtin.zeroCells z.cells (gc - (n' + m))).getD k undef = olds.getD k undef := by
            rw [Array.getD_eq_getD_getElem?, Array.append_assoc, Array.getElem?_append_left (by simp; omega)]
            simp [List.getD_eq_getElem?_getD]
          rw [e1, List.getD_eq_getElem?_getD, List.getElem?_append_left hk1, ← List.getD_eq_getElem?_getD]
          exact (o3 k hk1).onto hdr
        · have e1 : (olds.toArray ++ news.toArray ++ Builtin.zeroCells z.cells (gc - (n' + m))).getD k undef = news.getD (k - cs.length) undef := by
            rw [Array.getD_eq_getD_getElem?, Array.getElem?_append_left (by simp; omega), Array.getElem?_append_right (by simp; omega)]
            simp [List.getD_eq_getElem?_getD, o1, hcs]
          rw [e1, List.getD_eq_getElem?_getD, List.getElem?_append_right (by omega), ← List.getD_eq_getElem?_getD]
          exact (hnv _ (by omega)).onto hdr)
    refine hput g' obn (fun _ => .unk) _ _ hg r6 ?_
    rw [hrunop]
    simp only [Sem.run_bind, hrun, Result.andThen_ok, Sem.run_pure]
    rfl

end Go.VL
