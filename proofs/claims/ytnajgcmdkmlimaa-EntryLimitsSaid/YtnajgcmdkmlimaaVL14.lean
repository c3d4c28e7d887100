/- Part VL14 of the proof: made for this claim. -/
import Derived.Test.YtnajgcmdkmlimaaVL13
/-! VL part 14: stores into boxes. -/
set_option linter.unusedVariables false
set_option linter.unusedSimpArgs false
open Go.RowKit
namespace Go.VL
variable {P : Program} {H : Env} {L : LEnv} {E : Entry} {nt : Nat} {w : World}

theorem upd_upd {α : Type} (f : Nat → α) (i : Nat) (x y : α) : upd (upd f i x) i y = upd f i y := by funext j; simp only [upd]; split <;> rfl

/-- A box's cells are written. -/
theorem St.store {g : G} {ob : Pos → Option Nat} {s : Nat → V} {mem : Nat → Option (List V)} {tm : Array Value} (h : St E g ob s mem tm w) {b off : Nat} {cs xs : List V} {vs : List Value} (hb : mem b = some cs) (hle : off + xs.length ≤ cs.length)
    (hl : vs.length = xs.length) (hv : ∀ i, i < xs.length → VR g w (xs.getD i .unk) (vs.getD i undef)) (hno : ∀ x ∈ xs, noOwnB x = true) (h1 : ∀ v ∈ vs, v.oneCell' = true) :
    ∃ w', (storeCells ⟨g.φ b, off, none⟩ vs).run P w = .ok () w' ∧ St E g ob s (upd mem b (some (putV cs off xs))) tm w' ∧ Onto g g w w' ∧ w'.heap.size = w.heap.size ∧ (∀ k, k < xs.length → w'.cell? ⟨g.φ b, off + k, none⟩ = some (vs.getD k undef)) ∧ (∀ bl, bl ≠ g.φ b → w'.heap[bl]? = w.heap[bl]?) := by
  obtain ⟨hbm, c, e, fr, c1, c2, c3, c4⟩ := h.box b cs hb
  have hbn : mem b ≠ none := by rw [hb]; simp
  have hfit : off + vs.length ≤ c.size := by omega
  have hlt : g.φ b < w.heap.size := (Array.getElem?_eq_some_iff.1 c1).1
  have hst := run_storeCells_thawed (P := P) c1 c3 off vs hfit h1
  obtain ⟨c', p1, p2, p3⟩ := setCells_put (g.φ b) e fr vs off w c c1 hfit
  rw [p1] at hst
  have hm1 := h.forgetMem (mem' := upd mem b none) (fun k hk => by
    by_cases q : k = b
    · subst q; rw [upd_same] at hk; exact absurd rfl hk
    · rw [upd_ne _ _ q])
  have hob : ∀ q, ob q ≠ some (g.φ b) := fun q hq => h.obBox q _ b hq hbn rfl
  have hbo : ∀ b', upd mem b none b' ≠ none → g.φ b' ≠ g.φ b := fun b' hb' he => by
    by_cases q : b' = b
    · subst q; exact hb' (upd_same _ _ _)
    · rw [upd_ne _ _ q] at hb'; exact q (h.inj _ _ hb' hbn he)
  have hp := h.boxProt b hbn
  have hw := hm1.write (p := 0) c1 (c' := c') (e' := e) (fr' := fr) (by omega) (fun o ho => by omega) hob hbo (h.boxFresh b hbn)
  have eg : g.protAt (g.φ b) 0 = g := by
    obtain ⟨φ, mn, prot⟩ := g
    simp only [G.protAt]
    congr 1
    funext k
    simp only [upd]
    split
    · rename_i q; subst q; exact hp.symm
    · rfl
  rw [eg] at hw
  have hon : Onto g g w (World.putBlk w (g.φ b) (.cells c' e fr)) := ⟨fun bl k u hk hu => by
    by_cases q : bl = g.φ b
    · subst q; omega
    · rw [World.cell?_of_block (w := w)]
      · exact hu
      · exact putBlk_ne q, fun _ => Nat.le_refl _, fun _ _ => rfl, Nat.le_refl _⟩
  refine ⟨_, hst, ?_, hon, by simp [World.putBlk], fun k hk => ?_, fun bl hbl => putBlk_ne hbl⟩
  rotate_left
  · have := p3 (off + k)
    rw [if_pos (by omega), show off + k - off = k by omega] at this
    simp only [World.cell?, putBlk_same hlt]
    rw [Array.getD_eq_getD_getElem?, Array.getElem?_eq_getElem (by omega : off + k < c'.size)] at this
    simp only [Option.getD_some] at this
    simp [show off + k < c'.size by omega, this]
  have hB : BoxAt g (World.putBlk w (g.φ b) (.cells c' e fr)) (g.φ b) (putV cs off xs) := by
    refine ⟨c', e, fr, putBlk_same hlt, by rw [length_putV _ _ _ hle]; omega, fun o ho => c3 o (by omega), fun i hi => ?_⟩
    rw [length_putV _ _ _ hle] at hi
    rw [getD_putV _ _ _ _ hle, p3 i, hl]
    by_cases q : off ≤ i ∧ i < off + xs.length
    · rw [if_pos q, if_pos q]; exact (hv _ (by omega)).onto hon
    · rw [if_neg q, if_neg q]; exact (c4 i hi).onto hon
  have := hw.reBox (b := b) (putV cs off xs) (upd_same _ _ _) hbm hB hob hbo (h.boxFresh b hbn) hp (fun o sz n ys ho => by
    have hol : o < cs.length := by
      have := (List.getElem?_eq_some_iff.1 ho).1
      rwa [length_putV _ _ _ hle] at this
    have e1 : (putV cs off xs).getD o .unk = .sl true sz n ys := by simp [List.getD_eq_getElem?_getD, ho]
    rw [getD_putV _ _ _ _ hle] at e1
    by_cases q : off ≤ o ∧ o < off + xs.length
    · rw [if_pos q] at e1
      have : V.sl true sz n ys ∈ xs := by
        rw [← e1, List.getD_eq_getElem?_getD, List.getElem?_eq_getElem (by omega), Option.getD_some]
        exact List.getElem_mem _
      have := hno _ this
      simp [noOwnB] at this
    · rw [if_neg q] at e1
      have e2 : cs[o]? = some (.sl true sz n ys) := by
        rw [List.getD_eq_getElem?_getD, List.getElem?_eq_getElem hol, Option.getD_some] at e1
        rw [List.getElem?_eq_getElem hol, e1]
      obtain ⟨u, k1, k2⟩ := h.ownC b o cs sz n ys hb e2
      refine ⟨u, ?_, k2.onto (fun bl hbl => putBlk_ne (fun q => hob _ (q ▸ hbl))) (fun _ _ => rfl)⟩
      simp only [World.cell?, c1] at k1
      have k1' : c[o]? = some u := by simpa using k1
      have := p3 o
      rw [if_neg (by omega), Array.getD_eq_getD_getElem?, Array.getD_eq_getD_getElem?, k1', Array.getElem?_eq_getElem (by omega : o < c'.size)] at this
      simp only [Option.getD_some] at this
      simp only [World.cell?, putBlk_same hlt]
      simp [show o < c'.size by omega, this])
  rw [upd_upd] at this
  exact this

theorem step_store (hH : EnvOk P H) {gl : Nat → Option (List V)} (hG : GlOk E.g0 E.w0 gl) {o : Oper} {σ : S} {t : TypeId} {ti : TyI} {x y : Operand} {b off : Nat} {cs : List V} (hop : o.op = .store t x y) (ho : o.dst = none)
    (ht : H.get t = some ti) (hx : evO (lk σ.sl) gl x = .bp b off) (hy : evO (lk σ.sl) gl y ≠ .unk) (hb : σ.mem b = some cs) (hsz : (evO (lk σ.sl) gl y).cells.length = ti.sz) (hle : off + ti.sz ≤ cs.length)
    (hone : ∀ z ∈ (evO (lk σ.sl) gl y).cells.map V.fz, noOwnB z = true ∧ oneB z = true) :
    StepTo P E nt o σ { σ with mem := upd σ.mem b (some (putV cs off ((evO (lk σ.sl) gl y).cells.map V.fz))) } := by
  rintro a w ⟨g, ob, h1, h2, h3, h4⟩
  have hxv := evO_rel (d := a.defers) h1.slot (hG.onto h1.onto) x (by rw [hx]; simp)
  rw [hx] at hxv
  have hev : a.eval x = .pointer (some ⟨g.φ b, off, none⟩) := by
    show Act.eval { tmps := a.tmps, defers := a.defers } x = _
    generalize Act.eval { tmps := a.tmps, defers := a.defers } x = q at hxv
    cases hxv; rfl
  have hyv := (evO_rel (d := a.defers) h1.slot (hG.onto h1.onto) y hy).cells
  generalize hX : evO (lk σ.sl) gl y = X at *
  have hey : (Act.eval { tmps := a.tmps, defers := a.defers } y) = a.eval y := rfl
  rw [hey] at hyv
  have hxl : (X.cells.map V.fz).length = X.cells.length := by simp
  have hvv : ∀ i, i < (X.cells.map V.fz).length → VR g w ((X.cells.map V.fz).getD i .unk) ((a.eval y).cells.toList.getD i undef) := fun i hi => by
    rw [hxl] at hi
    have e1 : (X.cells.map V.fz).getD i .unk = (X.cells.getD i .unk).fz := by simp [List.getD_eq_getElem?_getD, hi]
    have e2 : (a.eval y).cells.toList.getD i undef = (a.eval y).cells.getD i undef := by simp [List.getD_eq_getElem?_getD, Array.getD_eq_getD_getElem?]
    rw [e1, e2]
    exact (hyv.2 i hi).fz
  obtain ⟨w', q1, q2, _⟩ := h1.store (P := P) (b := b) (off := off) (cs := cs) (xs := X.cells.map V.fz) (vs := (a.eval y).cells.toList) hb (by rw [hxl, hsz]; exact hle) (by rw [hxl]; simpa using hyv.1) hvv (fun z hz => (hone z hz).1) (fun v hv => by
    obtain ⟨k, hk, rfl⟩ := List.mem_iff_getElem.1 hv
    have hk' : k < (X.cells.map V.fz).length := by rw [hxl, ← hyv.1]; simpa using hk
    have := hvv k hk'
    have hk2 : k < (a.eval y).cells.size := by simpa using hk
    rw [show (a.eval y).cells.toList.getD k undef = (a.eval y).cells.toList[k] by simp [List.getD_eq_getElem?_getD, Array.getElem?_eq_getElem hk2]] at this
    refine this.oneB (hone _ ?_).2
    rw [List.getD_eq_getElem?_getD, List.getElem?_eq_getElem hk', Option.getD_some]
    exact List.getElem_mem _)
  refine .inr ⟨w', ?_, ⟨g, ob, ?_, h2, ?_, ?_⟩⟩
  · obtain ⟨dst, op, ty, pos, after, guard⟩ := o
    simp only at hop
    subst hop
    have hs := (hH.tells ht).size (w := w)
    have hne : ¬ ((a.eval y).cells.size ≠ ti.sz) := by rw [hyv.1, hsz]; simp
    simp only [execOp, Instr.storeAt, Instr.sureAddr, hev, Sem.run_bind, Sem.run_pure, Result.andThen_ok, storeVar, hs, if_neg hne, q1]
  · rw [ho]; exact q2
  · rw [ho]; exact h3
  · rw [ho]; exact h4

theorem VR.own {g : G} {own own' : Bool} {sz n : Nat} {cs : List V} {v : Value} (h : VR g w (.sl own sz n cs) v) : VR g w (.sl own' sz n cs) v := by
  cases h with
  | sl0 _ _ a cap => exact .sl0 _ sz a cap
  | sl _ _ _ _ blk off cap us a1 a2 a3 a4 a5 a6 => exact .sl _ sz n cs blk off cap us a1 a2 a3 a4 a5 a6

/-- A box's cell becomes the owner of what it holds. -/
theorem St.giveCell {g : G} {ob : Pos → Option Nat} {s : Nat → V} {mem : Nat → Option (List V)} {tm : Array Value} (h : St E g ob s mem tm w) {b o sz n : Nat} {l cs : List V} {v : Value} {obv : Option Nat} (hb : mem b = some l) (hl : l[o]? = some (.sl false sz n cs))
    (hv : w.cell? ⟨g.φ b, o, none⟩ = some v) (hown : OwnAt g w obv sz n v)
    (hfree : ∀ blk, obv = some blk → (∀ q, ob q ≠ some blk) ∧ (∀ b, mem b ≠ none → g.φ b ≠ blk) ∧ blk < w.heap.size ∧ (E.w0.heap.size ≤ blk ∨ E.wr blk)) :
    ∃ ob', St E g ob' s (upd mem b (some (l.set o (.sl true sz n cs)))) tm w := by
  have hol : o < l.length := (List.getElem?_eq_some_iff.1 hl).1
  have hbn : mem b ≠ none := by rw [hb]; simp
  have key : ∀ ob', St E g ob' s mem tm w → OwnAt g w (ob' (.cell b o)) sz n v → St E g ob' s (upd mem b (some (l.set o (.sl true sz n cs)))) tm w := by
    intro ob' h' ho'
    obtain ⟨hbm, c, e, fr, c1, c2, c3, c4⟩ := h'.box b l hb
    have hB : BoxAt g w (g.φ b) (l.set o (.sl true sz n cs)) := by
      refine ⟨c, e, fr, c1, by rw [List.length_set]; exact c2, c3, fun i hi => ?_⟩
      rw [List.length_set] at hi
      by_cases q : i = o
      · subst q
        simp only [List.getD_eq_getElem?_getD, List.getElem?_set_self hol]
        have := c4 i hi
        rw [show l.getD i .unk = .sl false sz n cs by simp [List.getD_eq_getElem?_getD, hl]] at this
        exact this.own
      · have := c4 i hi
        simpa [List.getD_eq_getElem?_getD, List.getElem?_set_ne (Ne.symm q)] using this
    have hsp : ∀ k, upd mem b (some (l.set o (.sl true sz n cs))) k ≠ none → mem k ≠ none := fun k hk => by
      by_cases q : k = b
      · subst q; exact hbn
      · rw [upd_ne _ _ q] at hk; exact hk
    exact { h' with
      box := fun k xs hk => by
        by_cases q : k = b
        · subst q; rw [upd_same] at hk; cases hk; exact ⟨hbm, hB⟩
        · rw [upd_ne _ _ q] at hk; exact h'.box k xs hk
      inj := fun k k' hk hk' => h'.inj k k' (hsp k hk) (hsp k' hk')
      ownC := fun k p l' sz' n' ys hk hp => by
        by_cases q : k = b
        · subst q
          rw [upd_same] at hk
          cases hk
          by_cases q2 : p = o
          · subst q2
            rw [List.getElem?_set_self hol] at hp
            simp only [Option.some.injEq, V.sl.injEq, true_and] at hp
            obtain ⟨rfl, rfl, rfl⟩ := hp
            exact ⟨v, hv, ho'⟩
          · rw [List.getElem?_set_ne (Ne.symm q2)] at hp
            exact h'.ownC k p l sz' n' ys hb hp
        · rw [upd_ne _ _ q] at hk; exact h'.ownC k p l' sz' n' ys hk hp
      obBox := fun p blk k hp hk => h'.obBox p blk k hp (hsp k hk)
      boxProt := fun k hk => h'.boxProt k (hsp k hk)
      boxFresh := fun k hk => h'.boxFresh k (hsp k hk) }
  cases obv with
  | none => exact ⟨ob, key ob h (hown.none_any _)⟩
  | some blk =>
    obtain ⟨f1, f2, f3, f4⟩ := hfree blk rfl
    have h2 := h.obTake (.cell b o) blk f1 f2 f3 f4 (fun i j e => by cases e) (fun b' o' e l' sz' n' ys hk hp => by
      simp only [Pos.cell.injEq] at e
      obtain ⟨rfl, rfl⟩ := e
      rw [hb] at hk
      cases hk
      rw [hl] at hp
      simp at hp)
    exact ⟨_, key _ h2 (by rw [updP_same]; exact hown)⟩

/-- What a slot owns goes into a box's cell. -/
theorem step_storeOwn (hH : EnvOk P H) {gl : Nat → Option (List V)} (hG : GlOk E.g0 E.w0 gl) {o : Oper} {σ : S} {t : TypeId} {ti : TyI} {x : Operand} {i b off sz n : Nat} {cs lcs : List V} (hop : o.op = .store t x (.tmp i)) (ho : o.dst = none)
    (ht : H.get t = some ti) (hts : ti.sz = 1) (hx : evO (lk σ.sl) gl x = .bp b off) (hi : lk σ.sl i = .sl true sz n lcs) (hb : σ.mem b = some cs) (hle : off < cs.length) :
    StepTo P E nt o σ { σ with sl := (i, .sl false sz n lcs) :: σ.sl, mem := upd σ.mem b (some (putV cs off [.sl true sz n lcs])) } := by
  rintro a w ⟨g, ob, h1, h2, h3, h4⟩
  have hxv := evO_rel (d := a.defers) h1.slot (hG.onto h1.onto) x (by rw [hx]; simp)
  rw [hx] at hxv
  have hev : a.eval x = .pointer (some ⟨g.φ b, off, none⟩) := by
    show Act.eval { tmps := a.tmps, defers := a.defers } x = _
    generalize Act.eval { tmps := a.tmps, defers := a.defers } x = q at hxv
    cases hxv; rfl
  obtain ⟨v, ob', obv, r1, r2, r3, r4, _, r5⟩ := h1.release hi
  have hvi : a.eval (.tmp i) = v := r1
  have hone : v.oneCell' = true := r2.oneB rfl
  have hcells : v.cells = #[v] := by
    cases r2 <;> rfl
  obtain ⟨w', q1, q2, q3, q4, q5, q6⟩ := r4.store (P := P) (b := b) (off := off) (cs := cs) (xs := [.sl false sz n lcs]) (vs := [v]) hb (by simp; omega) rfl (fun k hk => by
    have : k = 0 := by simp at hk; omega
    subst this
    exact r2.own) (fun z hz => by simp only [List.mem_singleton] at hz; subst hz; rfl) (fun z hz => by simp only [List.mem_singleton] at hz; subst hz; exact hone)
  have hol : (putV cs off [V.sl false sz n lcs])[off]? = some (.sl false sz n lcs) := by
    have := getD_putV cs [V.sl false sz n lcs] off off (by simp; omega)
    rw [if_pos (by simp)] at this
    have hl2 : off < (putV cs off [V.sl false sz n lcs]).length := by rw [length_putV _ _ _ (by simp; omega)]; exact hle
    rw [List.getD_eq_getElem?_getD, List.getElem?_eq_getElem hl2] at this
    rw [List.getElem?_eq_getElem hl2]
    simpa using this
  obtain ⟨obn, q7⟩ := q2.giveCell (b := b) (o := off) (v := v) (obv := obv) (upd_same _ _ _) hol (by have := q5 0 (by simp); simpa using this)
    (r3.onto (fun blk hk => q6 blk (fun e => (r5 blk hk).2.1 b (by rw [hb]; simp) e.symm)) (fun _ _ => rfl))
    (fun blk hk => by
      obtain ⟨f1, f2, f3, f4⟩ := r5 blk hk
      refine ⟨f1, fun k hk' => f2 k ?_, by omega, f4⟩
      by_cases e : k = b
      · subst e; rw [hb]; simp
      · rw [upd_ne _ _ e] at hk'; exact hk')
  have eset : (putV cs off [V.sl false sz n lcs]).set off (.sl true sz n lcs) = putV cs off [V.sl true sz n lcs] := by
    simp only [putV, List.length_singleton, List.singleton_append]
    rw [List.set_append_right _ _ (by simp; omega), List.length_take, Nat.min_eq_left (by omega), Nat.sub_self]
    rfl
  rw [upd_upd, eset] at q7
  refine .inr ⟨w', ?_, ⟨g, obn, ?_, h2, ?_, ?_⟩⟩
  · obtain ⟨dst, op, ty, pos, after, guard⟩ := o
    simp only at hop
    subst hop
    have hs := (hH.tells ht).size (w := w)
    have hne : ¬ ((#[v] : Array Value).size ≠ ti.sz) := by rw [hts]; exact fun h => h rfl
    simp only [execOp, Instr.storeAt, Instr.sureAddr, hev, hvi, Sem.run_bind, Sem.run_pure, Result.andThen_ok, storeVar, hs, if_neg hne, hcells, q1]
  · rw [ho]
    simp only [lk_cons]
    exact q7
  · rw [ho]; exact h3
  · rw [ho]; exact h4

end Go.VL
