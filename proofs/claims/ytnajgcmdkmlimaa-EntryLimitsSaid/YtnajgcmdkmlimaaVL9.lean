/- Part VL9 of the proof: made for this claim. -/
import Derived.Test.YtnajgcmdkmlimaaVL8
/-! VL part 9: ownership handed on; boxes written. -/
set_option linter.unusedVariables false
set_option linter.unusedSimpArgs false
open Go.RowKit
namespace Go.VL
variable {P : Program} {H : Env} {L : LEnv}
variable {E : Entry} {g : G} {ob : Pos → Option Nat} {s : Nat → V} {mem : Nat → Option (List V)} {tm : Array Value} {w : World}

theorem comp_unk (j : Nat) (x : V) (h : comp .unk j = some x) : x = .unk := by cases j <;> simp [comp] at h; exact h.symm
theorem noOwn_unk : V.noOwn .unk := fun j sz n cs h => by have := comp_unk j _ h; cases this
theorem noOwn_fz (x : V) (hx : ∀ cs, x ≠ .tup cs) : V.noOwn x.fz := by
  intro j sz n cs h
  cases x with
  | tup cs => exact absurd rfl (hx cs)
  | _ => cases j <;> simp [V.fz, comp] at h
theorem noOwn_fzT (x : V) : V.noOwn x.fzT := by
  intro j sz n cs h
  cases x with
  | tup vs =>
    simp only [V.fzT, comp, List.getElem?_map, Option.map_eq_some_iff] at h
    obtain ⟨y, _, hy⟩ := h
    cases y <;> simp [V.fz] at hy
  | _ => cases j <;> simp [V.fzT, V.fz, comp] at h

theorem OwnAt.none_any {sz n : Nat} {v : Value} (h : OwnAt g w none sz n v) (ob : Option Nat) : OwnAt g w ob sz n v := by
  cases v <;> simp only [OwnAt] at h ⊢
  refine ⟨h.1, h.2.imp id ?_⟩
  rintro ⟨blk, c, e, fr, hq, _⟩
  cases hq

/-- A slot gets a slice and its seat. -/
theorem St.give (h : St E g ob s mem tm w) {d : Nat} {sz n : Nat} {cs : List V} {v : Value} {obv : Option Nat} (hd : d < tm.size) (hx : VR g w (.sl true sz n cs) v) (ho : OwnAt g w obv sz n v)
    (hfree : ∀ blk, obv = some blk → (∀ q, ob q ≠ some blk) ∧ (∀ b, mem b ≠ none → g.φ b ≠ blk) ∧ blk < w.heap.size ∧ (E.w0.heap.size ≤ blk ∨ E.wr blk)) :
    ∃ ob', (∀ p, p ≠ .slot d 0 → ob' p = ob p) ∧ St E g ob' (upd s d (.sl true sz n cs)) mem (tm.setIfInBounds d v) w := by
  cases obv with
  | none => exact ⟨ob, fun _ _ => rfl, h.putOwn hd hx (ho.none_any _)⟩
  | some blk =>
    obtain ⟨f1, f2, f3, f4⟩ := hfree blk rfl
    have h1 := h.demote d (x := .unk) (fun k => absurd rfl k) noOwn_unk (fun _ => rfl)
    have h2 := h1.obTake (.slot d 0) blk f1 f2 f3 f4 (fun i j e sz n cs hc => by
      simp only [Pos.slot.injEq] at e
      rw [← e.1, upd_same] at hc
      have := comp_unk _ _ hc; cases this) (fun b o e => by cases e)
    have h3 := h2.putOwn hd hx (by rw [updP_same]; exact ho)
    refine ⟨updP ob (.slot d 0) (some blk), fun p hp => updP_ne _ _ hp, ?_⟩
    have e : upd (upd s d .unk) d (.sl true sz n cs) = upd s d (.sl true sz n cs) := by funext i; simp only [upd]; split <;> rfl
    rw [e] at h3
    exact h3

/-- What a slot owns may be handed on: the slot keeps a copy that may be read. -/
theorem St.release (h : St E g ob s mem tm w) {i : Nat} {sz n : Nat} {cs : List V} (hi : s i = .sl true sz n cs) :
    ∃ (v : Value) (ob' : Pos → Option Nat) (obv : Option Nat), tm.getD i undef = v ∧ VR g w (.sl true sz n cs) v ∧ OwnAt g w obv sz n v ∧ St E g ob' (upd s i (.sl false sz n cs)) mem tm w ∧ (∀ p, p ≠ .slot i 0 → ob' p = ob p) ∧
    (∀ blk, obv = some blk → (∀ q, ob' q ≠ some blk) ∧ (∀ b, mem b ≠ none → g.φ b ≠ blk) ∧ blk < w.heap.size ∧ (E.w0.heap.size ≤ blk ∨ E.wr blk)) := by
  have hv := h.slot i (by rw [hi]; simp)
  rw [hi] at hv
  have ho := h.ownS i 0 sz n cs (by rw [hi]; rfl)
  have e0 : vcomp (tm.getD i undef) 0 = tm.getD i undef := by
    generalize tm.getD i undef = u at hv
    cases hv <;> rfl
  rw [e0] at ho
  have h1 := h.demote i (x := .sl false sz n cs) (fun _ v hv => by rw [hi] at hv; exact hv.fz) (fun j a b c hc => by cases j <;> simp [comp] at hc) (fun k => by rw [hi] at k; cases k)
  have h2 := h1.obDrop (.slot i 0) (fun k j e sz n cs hc => by
    simp only [Pos.slot.injEq] at e
    rw [← e.1, upd_same, ← e.2] at hc
    simp [comp] at hc) (fun b o e => by cases e)
  refine ⟨_, updP ob (.slot i 0) none, ob (.slot i 0), rfl, hv, ho, h2, fun p hp => updP_ne _ _ hp, fun blk hb => ⟨fun q hq => ?_, fun b hb' => h.obBox _ _ b hb hb', h.obLt _ _ hb, h.obFresh _ _ hb⟩⟩
  by_cases e : q = Pos.slot i 0
  · subst e; rw [updP_same] at hq; cases hq
  · rw [updP_ne _ _ e] at hq; exact e (h.obInj _ _ _ hq hb)

/-- .. from one slot to another. -/
theorem St.takeSlot (h : St E g ob s mem tm w) {i d : Nat} {sz n : Nat} {cs : List V} (hi : s i = .sl true sz n cs) (hd : d < tm.size) :
    ∃ ob', St E g ob' (upd (upd s i (.sl false sz n cs)) d (.sl true sz n cs)) mem (tm.setIfInBounds d (tm.getD i undef)) w := by
  obtain ⟨v, ob', obv, h1, h2, h3, h4, _, h5⟩ := h.release hi
  obtain ⟨ob'', _, h6⟩ := h4.give (d := d) hd h2 h3 h5
  exact ⟨ob'', by rw [h1]; exact h6⟩

/-- .. out of a tuple. -/
theorem St.takeTup (h : St E g ob s mem tm w) {i j d : Nat} {vs : List V} {sz n : Nat} {cs : List V} (hi : s i = .tup vs) (hj : vs[j]? = some (.sl true sz n cs)) (hd : d < tm.size) :
    ∃ ob', St E g ob' (upd (upd s i (.tup (vs.set j (.sl false sz n cs)))) d (.sl true sz n cs)) mem (tm.setIfInBounds d (vcomp (tm.getD i undef) j)) w := by
  have hv := h.slot i (by rw [hi]; simp)
  rw [hi] at hv
  have ho := h.ownS i j sz n cs (by rw [hi]; exact hj)
  generalize hu : tm.getD i undef = u at *
  cases hv with
  | tup _ us hl hvv =>
    have hjl : j < vs.length := (List.getElem?_eq_some_iff.1 hj).1
    have hx : VR g w (.sl true sz n cs) (us.getD j undef) := by
      have := hvv j hjl
      rwa [show vs.getD j .unk = .sl true sz n cs by simp [List.getD_eq_getElem?_getD, hj]] at this
    have h1 : St E g ob (upd s i (.tup (vs.set j (.sl false sz n cs)))) mem tm w :=
      { h with
        slot := fun k hk => by
          by_cases e : k = i
          · subst e
            rw [upd_same, hu]
            refine .tup _ us (by simpa using hl) (fun q hq => ?_)
            rw [List.length_set] at hq
            by_cases e : q = j
            · subst e; simp only [List.getD_eq_getElem?_getD, List.getElem?_set_self hjl]; exact hx.fz
            · have := hvv q hq
              simpa [List.getD_eq_getElem?_getD, List.getElem?_set_ne (Ne.symm e)] using this
          · rw [upd_ne _ _ e] at hk ⊢; exact h.slot k hk
        ownS := fun k q sz' n' cs' hk => by
          by_cases e : k = i
          · subst e
            rw [upd_same] at hk
            simp only [comp] at hk
            by_cases e : q = j
            · subst e; rw [List.getElem?_set_self hjl] at hk; simp at hk
            · rw [List.getElem?_set_ne (Ne.symm e)] at hk
              exact h.ownS k q sz' n' cs' (by rw [hi]; exact hk)
          · rw [upd_ne _ _ e] at hk; exact h.ownS k q sz' n' cs' hk }
    have h2 := h1.obDrop (.slot i j) (fun k q e sz n cs hc => by
      simp only [Pos.slot.injEq] at e
      rw [← e.1, upd_same, ← e.2] at hc
      simp only [comp, List.getElem?_set_self hjl] at hc
      simp at hc) (fun b o e => by cases e)
    obtain ⟨ob'', _, h3⟩ := h2.give (d := d) (obv := ob (.slot i j)) hd hx ho (fun blk hb => ⟨fun q hq => by
      by_cases e : q = Pos.slot i j
      · subst e; rw [updP_same] at hq; cases hq
      · rw [updP_ne _ _ e] at hq; exact e (h.obInj _ _ _ hq hb), fun b hb' => h.obBox _ _ b hb hb', h.obLt _ _ hb, h.obFresh _ _ hb⟩)
    exact ⟨ob'', h3⟩

/-- A box's content comes back, another one or the same. -/
theorem St.reBox (h : St E g ob s mem tm w) {b : Nat} (cs : List V) (hm : mem b = none) (hb : b < g.mn) (hB : BoxAt g w (g.φ b) cs) (hown : ∀ q, ob q ≠ some (g.φ b)) (hbox : ∀ b', mem b' ≠ none → g.φ b' ≠ g.φ b)
    (hfr : E.w0.heap.size ≤ g.φ b ∨ E.wr (g.φ b)) (hp : g.prot (g.φ b) = 0)
    (hno : ∀ (o sz n : Nat) (xs : List V), cs[o]? = some (V.sl true sz n xs) → ∃ u, w.cell? ⟨g.φ b, o, none⟩ = some u ∧ OwnAt g w (ob (.cell b o)) sz n u) : St E g ob s (upd mem b (some cs)) tm w := by
  have hsp : ∀ c, upd mem b (some cs) c ≠ none → c = b ∨ (c ≠ b ∧ mem c ≠ none) := fun c hc => by
    by_cases e : c = b
    · exact .inl e
    · rw [upd_ne _ _ e] at hc; exact .inr ⟨e, hc⟩
  exact { h with
    box := fun c xs hc => by
      by_cases e : c = b
      · subst e; rw [upd_same] at hc; cases hc; exact ⟨hb, hB⟩
      · rw [upd_ne _ _ e] at hc; exact h.box c xs hc
    inj := fun c c' hc hc' he => by
      rcases hsp c hc with e | ⟨e, e2⟩ <;> rcases hsp c' hc' with k | ⟨k, k2⟩
      · rw [e, k]
      · rw [e] at he; exact absurd he.symm (hbox c' k2)
      · rw [k] at he; exact absurd he (hbox c e2)
      · exact h.inj c c' e2 k2 he
    ownC := fun c o l sz n xs hc hl => by
      by_cases e : c = b
      · subst e; rw [upd_same] at hc; cases hc; exact hno o sz n xs hl
      · rw [upd_ne _ _ e] at hc; exact h.ownC c o l sz n xs hc hl
    obBox := fun q bl c hq hc => by
      rcases hsp c hc with e | ⟨e, e2⟩
      · subst e; intro k; exact hown q (k ▸ hq)
      · exact h.obBox q bl c hq e2
    boxProt := fun c hc => by
      rcases hsp c hc with e | ⟨e, e2⟩
      · subst e; exact hp
      · exact h.boxProt c e2
    boxFresh := fun c hc => by
      rcases hsp c hc with e | ⟨e, e2⟩
      · subst e; exact hfr
      · exact h.boxFresh c e2 }

/-- What a box's cell owns goes to a slot; the cell keeps a copy. -/
theorem St.takeCell (h : St E g ob s mem tm w) {b o d : Nat} {l : List V} {sz n : Nat} {cs : List V} (hb : mem b = some l) (ho : l[o]? = some (.sl true sz n cs)) (hd : d < tm.size) :
    ∃ u ob', w.cell? ⟨g.φ b, o, none⟩ = some u ∧ St E g ob' (upd s d (.sl true sz n cs)) (upd mem b (some (l.set o (.sl false sz n cs)))) (tm.setIfInBounds d u) w := by
  obtain ⟨u, hu, how⟩ := h.ownC b o l sz n cs hb ho
  have hol : o < l.length := (List.getElem?_eq_some_iff.1 ho).1
  have hbn : mem b ≠ none := by rw [hb]; simp
  obtain ⟨hbm, c, e, fr, c1, c2, c3, c4⟩ := h.box b l hb
  have hx : VR g w (.sl true sz n cs) u := by
    have := c4 o hol
    rw [show l.getD o .unk = .sl true sz n cs by simp [List.getD_eq_getElem?_getD, ho]] at this
    have e1 : c.getD o undef = u := by
      simp only [World.cell?, c1] at hu
      have : c[o]? = some u := by simpa using hu
      simp [Array.getD_eq_getD_getElem?, this]
    rwa [e1] at this
  have h1 := h.forgetMem (mem' := upd mem b none) (fun c hc => by
    by_cases e : c = b
    · subst e; rw [upd_same] at hc; exact absurd rfl hc
    · rw [upd_ne _ _ e])
  have h2 := h1.obDrop (.cell b o) (fun i j e => by cases e) (fun b' o' e l' sz n cs hc => by
    simp only [Pos.cell.injEq] at e
    rw [← e.1, upd_same] at hc; cases hc)
  have h3 := h2.reBox (b := b) (l.set o (.sl false sz n cs)) (upd_same _ _ _) hbm ⟨c, e, fr, c1, by rw [List.length_set]; exact c2, c3, fun i hi => by
      rw [List.length_set] at hi
      by_cases e : i = o
      · subst e
        simp only [List.getD_eq_getElem?_getD, List.getElem?_set_self hol]
        have := c4 i hol
        rw [show l.getD i .unk = .sl true sz n cs by simp [List.getD_eq_getElem?_getD, ho]] at this
        exact this.fz
      · have := c4 i hi
        simpa [List.getD_eq_getElem?_getD, List.getElem?_set_ne (Ne.symm e)] using this⟩
    (fun q hq => by
      by_cases e : q = Pos.cell b o
      · subst e; rw [updP_same] at hq; cases hq
      · rw [updP_ne _ _ e] at hq; exact h.obBox _ _ b hq hbn rfl)
    (fun b' hb' he => by
      by_cases e : b' = b
      · subst e; exact hb' (upd_same _ _ _)
      · rw [upd_ne _ _ e] at hb'; exact e (h.inj _ _ hb' hbn he))
    (h.boxFresh b hbn) (h.boxProt b hbn)
    (fun o' sz' n' xs hl => by
      by_cases e : o' = o
      · subst e; rw [List.getElem?_set_self hol] at hl; simp at hl
      · rw [List.getElem?_set_ne (Ne.symm e)] at hl
        obtain ⟨u', k1, k2⟩ := h.ownC b o' l sz' n' xs hb hl
        exact ⟨u', k1, by rw [updP_ne _ _ (by intro k; simp only [Pos.cell.injEq] at k; exact e k.2)]; exact k2⟩)
  obtain ⟨ob'', _, h4⟩ := h3.give (d := d) (obv := ob (.cell b o)) hd hx how (fun blk hbk => ⟨fun q hq => by
      by_cases e : q = Pos.cell b o
      · subst e; rw [updP_same] at hq; cases hq
      · rw [updP_ne _ _ e] at hq; exact e (h.obInj _ _ _ hq hbk), fun b' hb' => by
        refine h.obBox _ _ b' hbk ?_
        by_cases e : b' = b
        · subst e; exact hbn
        · rw [upd_ne _ _ e, upd_ne _ _ e] at hb'; exact hb', h.obLt _ _ hbk, h.obFresh _ _ hbk⟩)
  have e : upd (upd mem b none) b (some (l.set o (.sl false sz n cs))) = upd mem b (some (l.set o (.sl false sz n cs))) := by funext i; simp only [upd]; split <;> rfl
  rw [e] at h4
  exact ⟨u, ob'', hu, h4⟩

end Go.VL
