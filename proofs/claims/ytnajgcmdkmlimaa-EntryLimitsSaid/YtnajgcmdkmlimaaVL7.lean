/- Part VL7 of the proof: made for this claim. -/
import Derived.Test.YtnajgcmdkmlimaaVL6
/-! VL part 7: structs and arrays made; all operations that only compute, in one function. -/
set_option linter.unusedVariables false
set_option linter.unusedSimpArgs false
open Go.RowKit
namespace Go.VL
variable {P : Program} {H : Env} {L : LEnv} {w : World} {g : G}

/-- A row of values stands for a row of cells. -/
def VRL (g : G) (w : World) (cs : List V) (us : Array Value) : Prop := us.size = cs.length ∧ ∀ i, i < cs.length → VR g w (cs.getD i .unk) (us.getD i undef)

theorem VRL.one {x : V} {v : Value} (h : VR g w x v) : VRL g w [x] #[v] := ⟨rfl, fun i hi => by
  have : i = 0 := by simp at hi; omega
  subst this; simpa using h⟩
theorem VR.cells {x : V} {v : Value} (h : VR g w x v) : VRL g w x.cells v.cells := by
  cases h with
  | agg cs us hl hv => exact ⟨hl, hv⟩
  | flat v hf => cases v <;> simp [flatOk] at hf <;> exact VRL.one (.flat _ rfl)
  | nil => exact VRL.one .nil
  | sl0 own sz a cap => exact VRL.one (.sl0 own sz a cap)
  | sl own sz n cs blk off cap us hn hc hcm hp hu hv => exact VRL.one (.sl own sz n cs blk off cap us hn hc hcm hp hu hv)
  | tup cs us hl hv => exact VRL.one (.tup cs us hl hv)
  | ref cs off blk o us hp hu hv => exact VRL.one (.ref cs off blk o us hp hu hv)
  | bp b off hb => exact VRL.one (.bp b off hb)
  | bs b off n cap hb hc => exact VRL.one (.bs b off n cap hb hc)

/-- Cells written over others. -/
def putV (cs : List V) (off : Nat) (xs : List V) : List V := cs.take off ++ (xs ++ cs.drop (off + xs.length))

theorem getD_putV (cs xs : List V) (off i : Nat) (h : off + xs.length ≤ cs.length) : (putV cs off xs).getD i .unk = if off ≤ i ∧ i < off + xs.length then xs.getD (i - off) .unk else cs.getD i .unk := by
  simp only [putV, List.getD_eq_getElem?_getD]
  by_cases h1 : i < off
  · rw [if_neg (by omega), List.getElem?_append_left (by rw [List.length_take]; omega), List.getElem?_take, if_pos h1]
  · rw [List.getElem?_append_right (by rw [List.length_take]; omega), List.length_take, Nat.min_eq_left (by omega)]
    by_cases h2 : i < off + xs.length
    · rw [if_pos (by omega), List.getElem?_append_left (by omega)]
    · rw [if_neg (by omega), List.getElem?_append_right (by omega), List.getElem?_drop]
      rw [show off + xs.length + (i - off - xs.length) = i by omega]
theorem length_putV (cs xs : List V) (off : Nat) (h : off + xs.length ≤ cs.length) : (putV cs off xs).length = cs.length := by
  simp only [putV, List.length_append, List.length_take, List.length_drop]; omega

theorem foldl_set (vs : List Value) (off : Nat) : ∀ (k : Nat) (cs : Array Value), off + k + vs.length ≤ cs.size →
    ((vs.zipIdx k).foldl (fun cs (c, j) => cs.setIfInBounds (off + j) c) cs).size = cs.size ∧
    ∀ i, ((vs.zipIdx k).foldl (fun cs (c, j) => cs.setIfInBounds (off + j) c) cs).getD i undef = if off + k ≤ i ∧ i < off + k + vs.length then vs.getD (i - (off + k)) undef else cs.getD i undef := by
  induction vs with
  | nil => intro k cs h; simp only [List.zipIdx_nil, List.foldl_nil, List.length_nil, true_and]; intro i; rw [if_neg (by omega)]
  | cons v vs ih =>
    intro k cs h
    rw [List.length_cons] at h
    simp only [List.zipIdx_cons, List.foldl_cons]
    obtain ⟨h1, h2⟩ := ih (k + 1) (cs.setIfInBounds (off + k) v) (by rw [Array.size_setIfInBounds]; omega)
    refine ⟨by rw [h1, Array.size_setIfInBounds], fun i => ?_⟩
    rw [h2 i, List.length_cons]
    by_cases e : i = off + k
    · subst e
      rw [if_neg (by omega), if_pos (by omega), getD_set (by omega), if_pos rfl, Nat.sub_self]; rfl
    · rw [getD_set (by omega), if_neg e]
      by_cases h3 : off + (k + 1) ≤ i ∧ i < off + (k + 1) + vs.length
      · rw [if_pos h3, if_pos (by omega)]
        rw [show i - (off + k) = (i - (off + (k + 1))) + 1 by omega, List.getD_cons_succ]
      · rw [if_neg h3, if_neg (by omega)]

/-- The parts of a struct or array laid into its cells. -/
def fillV (place : Nat → Option (Nat × Nat)) (cs : List V) : List (Nat × V) → Option (Prop × List V)
  | [] => some (True, cs)
  | (i, x) :: rest => match place i with
    | none => none
    | some (off, size) => match fillV place (putV cs off x.cells) rest with
      | none => none
      | some (c, r) => some (x.cells.length = size ∧ off + size ≤ cs.length ∧ c, r)
theorem fillV_rel (place : Nat → Option (Nat × Nat)) : ∀ (ps : List (Nat × V)) (qs : List (Nat × Value)) (cs : List V) (us : Array Value) (c : Prop) (r : List V), VRL g w cs us →
    ps.length = qs.length → (∀ (j i : Nat) (x : V), ps[j]? = some (i, x) → ∃ u, qs[j]? = some (i, u) ∧ VR g w x u) → fillV place cs ps = some (c, r) → c → ∃ rs, Instr.fill place us qs = some rs ∧ VRL g w r rs
  | [], [], cs, us, c, r, hc, _, _, he, _ => by
    simp only [fillV, Option.some.injEq, Prod.mk.injEq] at he
    obtain ⟨_, rfl⟩ := he
    exact ⟨us, rfl, hc⟩
  | [], _ :: _, _, _, _, _, _, hl, _, _, _ => by simp at hl
  | _ :: _, [], _, _, _, _, _, hl, _, _, _ => by simp at hl
  | (i, x) :: ps, q :: qs, cs, us, c, r, hc, hl, hv, he, hk => by
    obtain ⟨u, hq, hx⟩ := hv 0 i x rfl
    simp only [List.getElem?_cons_zero, Option.some.injEq] at hq
    subst hq
    simp only [fillV] at he
    cases hp : place i with
    | none => simp [hp] at he
    | some p =>
      obtain ⟨off, size⟩ := p
      simp only [hp] at he
      cases hf : fillV place (putV cs off x.cells) ps with
      | none => simp [hf] at he
      | some cr =>
        obtain ⟨c', r'⟩ := cr
        simp only [hf, Option.some.injEq, Prod.mk.injEq] at he
        obtain ⟨rfl, rfl⟩ := he
        obtain ⟨k1, k2, k3⟩ := hk
        obtain ⟨s1, s2⟩ := hx.cells
        obtain ⟨f1, f2⟩ := foldl_set u.cells.toList off 0 us (by simp; rw [hc.1]; omega)
        have hcs : VRL g w (putV cs off x.cells) ((u.cells.toList.zipIdx).foldl (fun cs (c, j) => cs.setIfInBounds (off + j) c) us) := by
          refine ⟨by rw [f1, length_putV _ _ _ (by omega)]; exact hc.1, fun j hj => ?_⟩
          rw [length_putV _ _ _ (by omega)] at hj
          rw [getD_putV _ _ _ _ (by omega), f2 j]
          simp only [Nat.add_zero, Array.length_toList, s1]
          by_cases hin : off ≤ j ∧ j < off + x.cells.length
          · rw [if_pos hin, if_pos hin]
            have := s2 (j - off) (by omega)
            simpa [List.getD_eq_getElem?_getD, Array.getD_eq_getD_getElem?] using this
          · rw [if_neg hin, if_neg hin]
            exact hc.2 j hj
        obtain ⟨rs, g1, g2⟩ := fillV_rel place ps qs _ _ c' r' hcs (by simpa using hl) (fun j i x h => hv (j + 1) i x (by simpa using h)) hf k3
        refine ⟨rs, ?_, g2⟩
        have n1 : ¬ (u.cells.size ≠ size ∨ off + u.cells.size > us.size) := by rw [s1, hc.1]; omega
        simp only [Instr.fill, hp]
        rw [if_neg (by simpa using n1), ← Array.foldl_toList, Array.toList_zipIdx]
        exact g1

/-- 'T{..}'. -/
def buildV (H : Env) (t : TypeId) (parts : List (Nat × V)) : Option (Prop × V) := match H.get t with
  | some i => if i.zok = true then match i.k with
    | .st fs => if (fs.all fun q => (H.get q.2.1).isSome) = true then match fillV (fun j => match fs[j]? with
        | some (off, ft, _) => match H.get ft with | some k => some (off, k.sz) | none => none
        | none => none) i.zero (parts.map fun p => (p.1, p.2.fz)) with
      | some (c, r) => some (c ∧ ∀ p ∈ parts, p.2 ≠ .unk, .agg r)
      | none => none
      else none
    | .arr n e => match H.get e with
      | some k => match fillV (fun j => some (j * k.sz, k.sz)) i.zero (parts.map fun p => (p.1, p.2.fz)) with
        | some (c, r) => some (c ∧ ∀ p ∈ parts, p.2 ≠ .unk, .agg r)
        | none => none
      | none => none
    | _ => none
    else none
  | none => none

theorem zero_rel {i : TyI} {ti : TypeInfo} {z : Value} (hz : ti.zero = some z) (hok : (match ti.zero with | some z => (z.cells.toList.map ofC1).all V.known && z.cells.size == ti.size | none => false) = true)
    (h : (match ti.zero with | some z => z.cells.toList.map ofC1 | none => []) = i.zero) : VRL g w i.zero z.cells ∧ z.cells.size = ti.size := by
  rw [hz] at hok h
  simp only [Bool.and_eq_true, beq_iff_eq, List.all_eq_true] at hok
  simp only [] at h
  refine ⟨⟨by rw [← h]; simp, fun j hj => ?_⟩, hok.2⟩
  rw [← h] at hj ⊢
  simp only [List.length_map, Array.length_toList] at hj
  have e1 : ((z.cells.toList.map ofC1).getD j .unk) = ofC1 (z.cells.getD j undef) := by
    simp [List.getD_eq_getElem?_getD, Array.getD_eq_getD_getElem?, hj]
  rw [e1]
  refine ofC1_rel _ ?_
  have := hok.1 (ofC1 (z.cells.getD j undef)) (by simp only [List.mem_map]; exact ⟨_, by simp [Array.getD_eq_getD_getElem?, hj], rfl⟩)
  intro e; rw [e] at this; cases this
theorem Tells.zeroVal {t : TypeId} {i : TyI} (h : Tells P t i) (hz : i.zok = true) : ∃ z, (zeroValue t).run P w = .ok z w ∧ VRL g w i.zero z.cells ∧ z.cells.size = i.sz ∧ ∃ ti, P.info? t = some ti ∧ ti.zero = some z := by
  obtain ⟨ti, h1, h2, h3, h4, h5⟩ := h.isz
  cases hzz : ti.zero with
  | none => rw [hzz] at h4; rw [← h4] at hz; cases hz
  | some z =>
    have := zero_rel (w := w) (g := g) (i := i) hzz (h4.trans hz) h5
    exact ⟨z, by simp [zeroValue, run_typeInfo' h1, hzz], this.1, by rw [this.2, h2], ti, h1, hzz⟩

theorem buildV_gives (hH : EnvOk P H) (t : TypeId) (ps : List (Nat × V)) (qs : Array (Nat × Value)) (hl : ps.length = qs.size)
    (hv : ∀ (j i : Nat) (x : V), ps[j]? = some (i, x) → x ≠ .unk → ∃ u, qs[j]? = some (i, u) ∧ VR g w x u) : Gives P g w (Instr.build t qs) (buildV H t ps) := by
  unfold buildV
  cases hi : H.get t with
  | none => exact Gives.none
  | some i =>
    have hT := hH.tells hi
    simp only []
    split <;> try exact Gives.none
    rename_i hz
    obtain ⟨z, hz1, hz2, hz3, _⟩ := hT.zeroVal (w := w) (g := g) hz
    have hv' : ∀ (hk : ∀ p ∈ ps, p.2 ≠ V.unk) (j i : Nat) (x : V), (ps.map fun p => (p.1, p.2.fz))[j]? = some (i, x) → ∃ u, qs.toList[j]? = some (i, u) ∧ VR g w x u := by
      intro hk j i x hj
      simp only [List.getElem?_map, Option.map_eq_some_iff] at hj
      obtain ⟨⟨i', y⟩, hp, e⟩ := hj
      simp only [Prod.mk.injEq] at e
      obtain ⟨rfl, rfl⟩ := e
      obtain ⟨u, hu1, hu2⟩ := hv j _ y hp (hk _ (List.mem_of_getElem? hp))
      exact ⟨u, by simpa using hu1, hu2.fz⟩
    split <;> try exact Gives.none
    · rename_i fs hk
      obtain ⟨fa, hu, hfa⟩ := hT.und_st hk
      split <;> try exact Gives.none
      rename_i hall
      split <;> try exact Gives.none
      rename_i c r hf
      refine Gives.some_ (fun hc => ?_)
      obtain ⟨hc1, hc2⟩ := hc
      -- the places of the fields, as the model has them
      have hplaces : ∀ (fl : List Field), (∀ f ∈ fl, (P.info? f.type).isSome) → (fl.mapM (fun f => do pure (f.offset, ← sizeOf f.type) : Field → Sem (Nat × Nat))).run P w = .ok (fl.map fun f => (f.offset, P.cellsOf f.type)) w := by
        intro fl
        induction fl with
        | nil => intro _; simp
        | cons f fl ih =>
          intro hh
          have h1 := hh f (by simp)
          rw [Option.isSome_iff_exists] at h1
          obtain ⟨fi, hfi⟩ := h1
          have e : P.cellsOf f.type = fi.size := by simp [Program.cellsOf, hfi]
          have es : (sizeOf f.type).run P w = .ok (P.cellsOf f.type) w := by simp [sizeOf, run_typeInfo' hfi, e]
          rw [List.mapM_cons]
          simp only [Sem.run_bind, es, Result.andThen_ok, Sem.run_pure]
          rw [ih (fun f hf => hh f (by simp [hf]))]
          rfl
      have hsome : ∀ f ∈ fa.toList, ∃ k, H.get f.type = some k := by
        intro f hf'
        rw [← hfa] at hall
        simp only [List.all_map, List.all_eq_true, Function.comp, Option.isSome_iff_exists] at hall
        exact hall f hf'
      have hp := hplaces fa.toList (fun f hf' => by
        obtain ⟨k, hk'⟩ := hsome f hf'
        obtain ⟨ti, h1, _⟩ := (hH.tells hk').isz
        rw [h1]; rfl)
      have hpl : ∀ j : Nat, (fun j : Nat => match fs[j]? with | some (off, ft, _) => (match H.get ft with | some k => some (off, k.sz) | none => none) | none => none) j = (fa.toList.map fun f => (f.offset, P.cellsOf f.type)).toArray[j]? := by
        intro j
        simp only [List.getElem?_toArray, List.getElem?_map, ← hfa]
        cases hj : fa.toList[j]? with
        | none => simp
        | some f =>
          obtain ⟨k, hk'⟩ := hsome f (List.mem_of_getElem? hj)
          obtain ⟨ti, h1, h2, _⟩ := (hH.tells hk').isz
          simp [hk', Program.cellsOf, h1, h2]
      obtain ⟨rs, r1, r2⟩ := fillV_rel _ _ qs.toList i.zero z.cells c r hz2 (by simpa using hl) (hv' hc2) hf hc1
      refine ⟨.agg rs, ?_, .agg _ _ r2.1 r2.2⟩
      have e1 : (fa.mapM (fun f => do pure (f.offset, ← sizeOf f.type) : Field → Sem (Nat × Nat))).run P w = .ok (fa.toList.map fun f => (f.offset, P.cellsOf f.type)).toArray w := by
        rw [Array.mapM_eq_mapM_toList]
        simp only [Sem.run_map]
        rw [hp]
        rfl
      rw [funext hpl] at r1
      simp only [Instr.build, Sem.run_bind, hz1, Result.andThen_ok, run_underlying' hu, e1, r1, Sem.run_pure]
    · rename_i n e hk
      have hu := hT.und_arr hk
      split <;> try exact Gives.none
      rename_i k hk'
      split <;> try exact Gives.none
      rename_i c r hf
      refine Gives.some_ (fun hc => ?_)
      obtain ⟨hc1, hc2⟩ := hc
      obtain ⟨rs, r1, r2⟩ := fillV_rel _ _ qs.toList i.zero z.cells c r hz2 (by simpa using hl) (hv' hc2) hf hc1
      refine ⟨.agg rs, ?_, .agg _ _ r2.1 r2.2⟩
      simp only [Instr.build, Sem.run_bind, hz1, Result.andThen_ok, run_underlying' hu, (hH.tells hk').size, r1, Sem.run_pure]

end Go.VL
