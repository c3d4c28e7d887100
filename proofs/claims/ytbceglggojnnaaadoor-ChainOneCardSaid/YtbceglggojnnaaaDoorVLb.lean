/- Part VLb of the proof: made for this claim. -/
import Derived.Test.YtbceglggojnnaaaDoorVLa
import Derived.Orders
import Derived.BigCall
import Derived.Still
import Derived.ProofKit
import Derived.SizedLaws
import Derived.Deep.Slices
import Derived.OpenShut
set_option linter.unusedVariables false
set_option linter.unusedSimpArgs false
open Go.RowKit
namespace Go.VL
variable {P : Program} {H : Env} {L : LEnv} {E : Entry} {nt : Nat} {w : World}

theorem upd_upd {α : Type} (f : Nat → α) (i : Nat) (x y : α) : upd (upd f i x) i y = upd f i y := by funext j; simp only [upd]; split <;> rfl

theorem St.store {g : G} {ob : Pos → Option Nat} {s : Nat → V} {mem : Nat → Option (List V)} {tm : Array Value} (h : St E g ob s mem tm w) {b off : Nat} {cs xs : List V} {vs : List Value} (hb : mem b = some cs) (hle : off + xs.length ≤ cs.length)
    (hl : vs.length = xs.length) (hv : ∀ i, i < xs.length → VR g w (xs.getD i .unk) (vs.getD i undef)) (hno : ∀ x ∈ xs, noOwnB x = true) (h1 : ∀ v ∈ vs, v.oneCell' = true) :
    ∃ w', (storeCells ⟨g.φ b, off, none⟩ vs).run P w = .ok () w' ∧ St E g ob s (upd mem b (some (putV cs off xs))) tm w' ∧ Onto g g w w' ∧ w'.heap.size = w.heap.size ∧ (∀ k, k < xs.length → w'.cell? ⟨g.φ b, off + k, none⟩ = some (vs.getD k undef)) ∧ (∀ bl, bl ≠ g.φ b → w'.heap[bl]? = w.heap[bl]?) := by
  obtain ⟨hbm, c, e, fr, c1, c2, c3, c4⟩ := h.box b cs hb
  have hbn : mem b ≠ none := by rw [hb]; simp
  have hfit : off + vs.length ≤ c.size := by omega
  have hlt : g.φ b < w.heap.size := (Array.getElem?_eq_some_iff.1 c1).1
  have hst := run_storeCells_thawed (P := P) c1 c3 off vs hfit h1
  obtain ⟨c', p1, p2, p3⟩ := setCells_put (g.φ b) e fr vs off w c c1 hfit
  rw [p1] at hst
  have hm1 := h.forgetMem (mem' := upd mem b none) (fun k hk => by
    by_cases q : k = b
    · subst q; rw [upd_same] at hk; exact absurd rfl hk
    · rw [upd_ne _ _ q])
  have hob : ∀ q, ob q ≠ some (g.φ b) := fun q hq => h.obBox q _ b hq hbn rfl
  have hbo : ∀ b', upd mem b none b' ≠ none → g.φ b' ≠ g.φ b := fun b' hb' he => by
    by_cases q : b' = b
    · subst q; exact hb' (upd_same _ _ _)
    · rw [upd_ne _ _ q] at hb'; exact q (h.inj _ _ hb' hbn he)
  have hp := h.boxProt b hbn
  have hw := hm1.write (p := 0) c1 (c' := c') (e' := e) (fr' := fr) (by omega) (fun o ho => by omega) hob hbo (h.boxFresh b hbn)
  have eg : g.protAt (g.φ b) 0 = g := by
    obtain ⟨φ, mn, prot⟩ := g
    simp only [G.protAt]
    congr 1
    funext k
    simp only [upd]
    split
    · rename_i q; subst q; exact hp.symm
    · rfl
  rw [eg] at hw
  have hon : Onto g g w (World.putBlk w (g.φ b) (.cells c' e fr)) := ⟨fun bl k u hk hu => by
    by_cases q : bl = g.φ b
    · subst q; omega
    · rw [World.cell?_of_block (w := w)]
      · exact hu
      · exact putBlk_ne q, fun _ => Nat.le_refl _, fun _ _ => rfl, Nat.le_refl _, fun _ _ => Iff.rfl⟩
  refine ⟨_, hst, ?_, hon, by simp [World.putBlk], fun k hk => ?_, fun bl hbl => putBlk_ne hbl⟩
  rotate_left
  · have := p3 (off + k)
    rw [if_pos (by omega), show off + k - off = k by omega] at this
    simp only [World.cell?, putBlk_same hlt]
    rw [Array.getD_eq_getD_getElem?, Array.getElem?_eq_getElem (by omega : off + k < c'.size)] at this
    simp only [Option.getD_some] at this
    simp [show off + k < c'.size by omega, this]
  have hB : BoxAt g (World.putBlk w (g.φ b) (.cells c' e fr)) (g.φ b) (putV cs off xs) := by
    refine ⟨c', e, fr, putBlk_same hlt, by rw [length_putV _ _ _ hle]; omega, fun o ho => c3 o (by omega), fun i hi => ?_⟩
    rw [length_putV _ _ _ hle] at hi
    rw [getD_putV _ _ _ _ hle, p3 i, hl]
    by_cases q : off ≤ i ∧ i < off + xs.length
    · rw [if_pos q, if_pos q]; exact (hv _ (by omega)).onto hon
    · rw [if_neg q, if_neg q]; exact (c4 i hi).onto hon
  have := hw.reBox (b := b) (putV cs off xs) (upd_same _ _ _) hbm hB hob hbo (h.boxFresh b hbn) hp (fun o sz n ys ho => by
    have hol : o < cs.length := by
      have := (List.getElem?_eq_some_iff.1 ho).1
      rwa [length_putV _ _ _ hle] at this
    have e1 : (putV cs off xs).getD o .unk = .sl true sz n ys := by simp [List.getD_eq_getElem?_getD, ho]
    rw [getD_putV _ _ _ _ hle] at e1
    by_cases q : off ≤ o ∧ o < off + xs.length
    · rw [if_pos q] at e1
      have : V.sl true sz n ys ∈ xs := by
        rw [← e1, List.getD_eq_getElem?_getD, List.getElem?_eq_getElem (by omega), Option.getD_some]
        exact List.getElem_mem _
      have := hno _ this
      simp [noOwnB] at this
    · rw [if_neg q] at e1
      have e2 : cs[o]? = some (.sl true sz n ys) := by
        rw [List.getD_eq_getElem?_getD, List.getElem?_eq_getElem hol, Option.getD_some] at e1
        rw [List.getElem?_eq_getElem hol, e1]
      obtain ⟨u, k1, k2⟩ := h.ownC b o cs sz n ys hb e2
      refine ⟨u, ?_, k2.onto (fun bl hbl => putBlk_ne (fun q => hob _ (q ▸ hbl))) (fun _ _ => rfl)⟩
      simp only [World.cell?, c1] at k1
      have k1' : c[o]? = some u := by simpa using k1
      have := p3 o
      rw [if_neg (by omega), Array.getD_eq_getD_getElem?, Array.getD_eq_getD_getElem?, k1', Array.getElem?_eq_getElem (by omega : o < c'.size)] at this
      simp only [Option.getD_some] at this
      simp only [World.cell?, putBlk_same hlt]
      simp [show o < c'.size by omega, this])
  rw [upd_upd] at this
  exact this

theorem step_store (hH : EnvOk P H) {gl : Nat → Option (List V)} (hG : GlOk E.g0 E.w0 gl) {o : Oper} {σ : S} {t : TypeId} {ti : TyI} {x y : Operand} {b off : Nat} {cs : List V} (hop : o.op = .store t x y) (ho : o.dst = none)
    (ht : H.get t = some ti) (hx : evO (lk σ.sl) gl x = .bp b off) (hy : evO (lk σ.sl) gl y ≠ .unk) (hb : σ.mem b = some cs) (hsz : (evO (lk σ.sl) gl y).cells.length = ti.sz) (hle : off + ti.sz ≤ cs.length)
    (hone : ∀ z ∈ (evO (lk σ.sl) gl y).cells.map V.fz, noOwnB z = true ∧ oneB z = true) :
    StepTo P E nt o σ { σ with mem := upd σ.mem b (some (putV cs off ((evO (lk σ.sl) gl y).cells.map V.fz))) } := by
  rintro a w ⟨g, ob, h1, h2, h3, h4⟩
  have hxv := evO_rel (d := a.defers) h1.slot (hG.onto h1.onto) x (by rw [hx]; simp)
  rw [hx] at hxv
  have hev : a.eval x = .pointer (some ⟨g.φ b, off, none⟩) := by
    show Act.eval { tmps := a.tmps, defers := a.defers } x = _
    generalize Act.eval { tmps := a.tmps, defers := a.defers } x = q at hxv
    cases hxv; rfl
  have hyv := (evO_rel (d := a.defers) h1.slot (hG.onto h1.onto) y hy).cells
  generalize hX : evO (lk σ.sl) gl y = X at *
  have hey : (Act.eval { tmps := a.tmps, defers := a.defers } y) = a.eval y := rfl
  rw [hey] at hyv
  have hxl : (X.cells.map V.fz).length = X.cells.length := by simp
  have hvv : ∀ i, i < (X.cells.map V.fz).length → VR g w ((X.cells.map V.fz).getD i .unk) ((a.eval y).cells.toList.getD i undef) := fun i hi => by
    rw [hxl] at hi
    have e1 : (X.cells.map V.fz).getD i .unk = (X.cells.getD i .unk).fz := by simp [List.getD_eq_getElem?_getD, hi]
    have e2 : (a.eval y).cells.toList.getD i undef = (a.eval y).cells.getD i undef := by simp [List.getD_eq_getElem?_getD, Array.getD_eq_getD_getElem?]
    rw [e1, e2]
    exact (hyv.2 i hi).fz
  obtain ⟨w', q1, q2, _⟩ := h1.store (P := P) (b := b) (off := off) (cs := cs) (xs := X.cells.map V.fz) (vs := (a.eval y).cells.toList) hb (by rw [hxl, hsz]; exact hle) (by rw [hxl]; simpa using hyv.1) hvv (fun z hz => (hone z hz).1) (fun v hv => by
    obtain ⟨k, hk, rfl⟩ := List.mem_iff_getElem.1 hv
    have hk' : k < (X.cells.map V.fz).length := by rw [hxl, ← hyv.1]; simpa using hk
    have := hvv k hk'
    have hk2 : k < (a.eval y).cells.size := by simpa using hk
    rw [show (a.eval y).cells.toList.getD k undef = (a.eval y).cells.toList[k] by simp [List.getD_eq_getElem?_getD, Array.getElem?_eq_getElem hk2]] at this
    refine this.oneB (hone _ ?_).2
    rw [List.getD_eq_getElem?_getD, List.getElem?_eq_getElem hk', Option.getD_some]
    exact List.getElem_mem _)
  refine .inr ⟨w', ?_, ⟨g, ob, ?_, h2, ?_, ?_⟩⟩
  · obtain ⟨dst, op, ty, pos, after, guard⟩ := o
    simp only at hop
    subst hop
    have hs := (hH.tells ht).size (w := w)
    have hne : ¬ ((a.eval y).cells.size ≠ ti.sz) := by rw [hyv.1, hsz]; simp
    simp only [execOp, Instr.storeAt, Instr.sureAddr, hev, Sem.run_bind, Sem.run_pure, Result.andThen_ok, storeVar, hs, if_neg hne, q1]
  · rw [ho]; exact q2
  · rw [ho]; exact h3
  · rw [ho]; exact h4

theorem VR.own {g : G} {own own' : Bool} {sz n : Nat} {cs : List V} {v : Value} (h : VR g w (.sl own sz n cs) v) : VR g w (.sl own' sz n cs) v := by
  cases h with
  | sl0 _ _ a cap => exact .sl0 _ sz a cap
  | sl _ _ _ _ blk off cap us a1 a2 a3 a4 a5 a6 => exact .sl _ sz n cs blk off cap us a1 a2 a3 a4 a5 a6

theorem St.giveCell {g : G} {ob : Pos → Option Nat} {s : Nat → V} {mem : Nat → Option (List V)} {tm : Array Value} (h : St E g ob s mem tm w) {b o sz n : Nat} {l cs : List V} {v : Value} {obv : Option Nat} (hb : mem b = some l) (hl : l[o]? = some (.sl false sz n cs))
    (hv : w.cell? ⟨g.φ b, o, none⟩ = some v) (hown : OwnAt g w obv sz n v)
    (hfree : ∀ blk, obv = some blk → (∀ q, ob q ≠ some blk) ∧ (∀ b, mem b ≠ none → g.φ b ≠ blk) ∧ blk < w.heap.size ∧ (E.w0.heap.size ≤ blk ∨ E.wr blk)) :
    ∃ ob', St E g ob' s (upd mem b (some (l.set o (.sl true sz n cs)))) tm w := by
  have hol : o < l.length := (List.getElem?_eq_some_iff.1 hl).1
  have hbn : mem b ≠ none := by rw [hb]; simp
  have key : ∀ ob', St E g ob' s mem tm w → OwnAt g w (ob' (.cell b o)) sz n v → St E g ob' s (upd mem b (some (l.set o (.sl true sz n cs)))) tm w := by
    intro ob' h' ho'
    obtain ⟨hbm, c, e, fr, c1, c2, c3, c4⟩ := h'.box b l hb
    have hB : BoxAt g w (g.φ b) (l.set o (.sl true sz n cs)) := by
      refine ⟨c, e, fr, c1, by rw [List.length_set]; exact c2, c3, fun i hi => ?_⟩
      rw [List.length_set] at hi
      by_cases q : i = o
      · subst q
        simp only [List.getD_eq_getElem?_getD, List.getElem?_set_self hol]
        have := c4 i hi
        rw [show l.getD i .unk = .sl false sz n cs by simp [List.getD_eq_getElem?_getD, hl]] at this
        exact this.own
      · have := c4 i hi
        simpa [List.getD_eq_getElem?_getD, List.getElem?_set_ne (Ne.symm q)] using this
    have hsp : ∀ k, upd mem b (some (l.set o (.sl true sz n cs))) k ≠ none → mem k ≠ none := fun k hk => by
      by_cases q : k = b
      · subst q; exact hbn
      · rw [upd_ne _ _ q] at hk; exact hk
    exact { h' with
      box := fun k xs hk => by
        by_cases q : k = b
        · subst q; rw [upd_same] at hk; cases hk; exact ⟨hbm, hB⟩
        · rw [upd_ne _ _ q] at hk; exact h'.box k xs hk
      inj := fun k k' hk hk' => h'.inj k k' (hsp k hk) (hsp k' hk')
      ownC := fun k p l' sz' n' ys hk hp => by
        by_cases q : k = b
        · subst q
          rw [upd_same] at hk
          cases hk
          by_cases q2 : p = o
          · subst q2
            rw [List.getElem?_set_self hol] at hp
            simp only [Option.some.injEq, V.sl.injEq, true_and] at hp
            obtain ⟨rfl, rfl, rfl⟩ := hp
            exact ⟨v, hv, ho'⟩
          · rw [List.getElem?_set_ne (Ne.symm q2)] at hp
            exact h'.ownC k p l sz' n' ys hb hp
        · rw [upd_ne _ _ q] at hk; exact h'.ownC k p l' sz' n' ys hk hp
      obBox := fun p blk k hp hk => h'.obBox p blk k hp (hsp k hk)
      boxProt := fun k hk => h'.boxProt k (hsp k hk)
      boxFresh := fun k hk => h'.boxFresh k (hsp k hk) }
  cases obv with
  | none => exact ⟨ob, key ob h (hown.none_any _)⟩
  | some blk =>
    obtain ⟨f1, f2, f3, f4⟩ := hfree blk rfl
    have h2 := h.obTake (.cell b o) blk f1 f2 f3 f4 (fun i j e => by cases e) (fun b' o' e l' sz' n' ys hk hp => by
      simp only [Pos.cell.injEq] at e
      obtain ⟨rfl, rfl⟩ := e
      rw [hb] at hk
      cases hk
      rw [hl] at hp
      simp at hp)
    exact ⟨_, key _ h2 (by rw [updP_same]; exact hown)⟩

theorem step_storeOwn (hH : EnvOk P H) {gl : Nat → Option (List V)} (hG : GlOk E.g0 E.w0 gl) {o : Oper} {σ : S} {t : TypeId} {ti : TyI} {x : Operand} {i b off sz n : Nat} {cs lcs : List V} (hop : o.op = .store t x (.tmp i)) (ho : o.dst = none)
    (ht : H.get t = some ti) (hts : ti.sz = 1) (hx : evO (lk σ.sl) gl x = .bp b off) (hi : lk σ.sl i = .sl true sz n lcs) (hb : σ.mem b = some cs) (hle : off < cs.length) :
    StepTo P E nt o σ { σ with sl := (i, .sl false sz n lcs) :: σ.sl, mem := upd σ.mem b (some (putV cs off [.sl true sz n lcs])) } := by
  rintro a w ⟨g, ob, h1, h2, h3, h4⟩
  have hxv := evO_rel (d := a.defers) h1.slot (hG.onto h1.onto) x (by rw [hx]; simp)
  rw [hx] at hxv
  have hev : a.eval x = .pointer (some ⟨g.φ b, off, none⟩) := by
    show Act.eval { tmps := a.tmps, defers := a.defers } x = _
    generalize Act.eval { tmps := a.tmps, defers := a.defers } x = q at hxv
    cases hxv; rfl
  obtain ⟨v, ob', obv, r1, r2, r3, r4, _, r5⟩ := h1.release hi
  have hvi : a.eval (.tmp i) = v := r1
  have hone : v.oneCell' = true := r2.oneB rfl
  have hcells : v.cells = #[v] := by
    cases r2 <;> rfl
  obtain ⟨w', q1, q2, q3, q4, q5, q6⟩ := r4.store (P := P) (b := b) (off := off) (cs := cs) (xs := [.sl false sz n lcs]) (vs := [v]) hb (by simp; omega) rfl (fun k hk => by
    have : k = 0 := by simp at hk; omega
    subst this
    exact r2.own) (fun z hz => by simp only [List.mem_singleton] at hz; subst hz; rfl) (fun z hz => by simp only [List.mem_singleton] at hz; subst hz; exact hone)
  have hol : (putV cs off [V.sl false sz n lcs])[off]? = some (.sl false sz n lcs) := by
    have := getD_putV cs [V.sl false sz n lcs] off off (by simp; omega)
    rw [if_pos (by simp)] at this
    have hl2 : off < (putV cs off [V.sl false sz n lcs]).length := by rw [length_putV _ _ _ (by simp; omega)]; exact hle
    rw [List.getD_eq_getElem?_getD, List.getElem?_eq_getElem hl2] at this
    rw [List.getElem?_eq_getElem hl2]
    simpa using this
  obtain ⟨obn, q7⟩ := q2.giveCell (b := b) (o := off) (v := v) (obv := obv) (upd_same _ _ _) hol (by have := q5 0 (by simp); simpa using this)
    (r3.onto (fun blk hk => q6 blk (fun e => (r5 blk hk).2.1 b (by rw [hb]; simp) e.symm)) (fun _ _ => rfl))
    (fun blk hk => by
      obtain ⟨f1, f2, f3, f4⟩ := r5 blk hk
      refine ⟨f1, fun k hk' => f2 k ?_, by omega, f4⟩
      by_cases e : k = b
      · subst e; rw [hb]; simp
      · rw [upd_ne _ _ e] at hk'; exact hk')
  have eset : (putV cs off [V.sl false sz n lcs]).set off (.sl true sz n lcs) = putV cs off [V.sl true sz n lcs] := by
    simp only [putV, List.length_singleton, List.singleton_append]
    rw [List.set_append_right _ _ (by simp; omega), List.length_take, Nat.min_eq_left (by omega), Nat.sub_self]
    rfl
  rw [upd_upd, eset] at q7
  refine .inr ⟨w', ?_, ⟨g, obn, ?_, h2, ?_, ?_⟩⟩
  · obtain ⟨dst, op, ty, pos, after, guard⟩ := o
    simp only at hop
    subst hop
    have hs := (hH.tells ht).size (w := w)
    have hne : ¬ ((#[v] : Array Value).size ≠ ti.sz) := by rw [hts]; exact fun h => h rfl
    simp only [execOp, Instr.storeAt, Instr.sureAddr, hev, hvi, Sem.run_bind, Sem.run_pure, Result.andThen_ok, storeVar, hs, if_neg hne, hcells, q1]
  · rw [ho]
    simp only [lk_cons]
    exact q7
  · rw [ho]; exact h3
  · rw [ho]; exact h4

end Go.VL

set_option linter.unusedVariables false
set_option linter.unusedSimpArgs false
open Go.RowKit
namespace Go.VL
variable {P : Program} {H : Env} {L : LEnv} {E : Entry} {nt : Nat} {w : World}

def entryOf (g : G) (ob : Pos → Option Nat) (mem : Nat → Option (List V)) (w : World) : Entry :=
  { w0 := w, g0 := g, wr := fun blk => (∃ b, mem b ≠ none ∧ g.φ b = blk) ∨ ∃ b o, ob (.cell b o) = some blk }

def Sp (P : Program) (gl : Nat → Option (List V)) (f : FuncId) (args : List V) (mem : Nat → Option (List V)) (mn : Nat) (R : V → (Nat → Option (List V)) → Nat → Prop) : Prop :=
  (∃ fn, P.funcs[f]? = some fn ∧ (fn.name == "runtime.NumGoroutine") = false ∧ fn.body.isNone = false) ∧
  ∀ (g : G) (ob : Pos → Option Nat) (w : World) (vs : Array Value), g.mn = mn → GlOk g w gl → vs.size = args.length → (∀ i, i < args.length → VR g w (args.getD i .unk) (vs.getD i undef)) →
    (∀ i j, ob (.slot i j) = none) → St (entryOf g ob mem w) g ob (fun _ => .unk) mem #[] w →
    Calls P f vs w fun e w' => ∃ v r mem' g' ob', e = .returned v ∧ R r mem' g'.mn ∧ r ≠ .unk ∧ St (entryOf g ob mem w) g' ob' (upd (fun _ => .unk) 0 r) mem' #[v] w'

theorem Sp.mono {gl : Nat → Option (List V)} {f : FuncId} {args : List V} {mem : Nat → Option (List V)} {mn : Nat} {R R' : V → (Nat → Option (List V)) → Nat → Prop} (h : Sp P gl f args mem mn R) (hr : ∀ r m n, R r m n → R' r m n) : Sp P gl f args mem mn R' :=
  ⟨h.1, fun g ob w vs a b c d e k => (h.2 g ob w vs a b c d e k).mono fun _ _ ⟨v, r, m, g', ob', x1, x2, x3⟩ => ⟨v, r, m, g', ob', x1, hr _ _ _ x2, x3⟩⟩

def cellsOnly (ob : Pos → Option Nat) : Pos → Option Nat
  | .slot _ _ => none
  | .cell b o => ob (.cell b o)
theorem cellsOnly_sub {ob : Pos → Option Nat} {p : Pos} {blk : Nat} (h : cellsOnly ob p = some blk) : ob p = some blk ∧ ∃ b o, p = .cell b o := by
  cases p with
  | slot i j => cases h
  | cell b o => exact ⟨h, b, o, rfl⟩

theorem St.handOver {g : G} {ob : Pos → Option Nat} {s : Nat → V} {mem : Nat → Option (List V)} {tm : Array Value} (h : St E g ob s mem tm w) : St (entryOf g (cellsOnly ob) mem w) g (cellsOnly ob) (fun _ => .unk) mem #[] w :=
  { slot := fun i hi => absurd rfl hi
    box := h.box
    inj := h.inj
    ownS := fun i j sz n cs hi => by have := comp_unk _ _ hi; cases this
    ownC := h.ownC
    obInj := fun p q blk hp hq => h.obInj p q blk (cellsOnly_sub hp).1 (cellsOnly_sub hq).1
    obBox := fun p blk b hp hb => h.obBox p blk b (cellsOnly_sub hp).1 hb
    obLt := fun p blk hp => h.obLt p blk (cellsOnly_sub hp).1
    prot0 := h.prot0
    boxProt := h.boxProt
    os := rfl
    tape := rfl
    output := rfl
    size := Nat.le_refl _
    block := fun _ _ _ => rfl
    keep := fun _ _ _ => rfl
    onto := Onto.refl _ _
    boxFresh := fun b hb => .inr (.inl ⟨b, hb, rfl⟩)
    obFresh := fun p blk hp => by
      obtain ⟨h1, b, o, rfl⟩ := cellsOnly_sub hp
      exact .inr (.inr ⟨b, o, hp⟩)
    rsv := fun _ h => h.elim }

def joinOb (ob ob' : Pos → Option Nat) (d : Nat) : Pos → Option Nat
  | .slot i j => if i = d then ob' (.slot 0 j) else ob (.slot i j)
  | .cell b o => ob' (.cell b o)

theorem St.comeBack {g g' : G} {ob ob' : Pos → Option Nat} {s : Nat → V} {mem mem' : Nat → Option (List V)} {tm : Array Value} {w' : World} {r : V} {v : Value} {d : Nat} (h : St E g ob s mem tm w)
    (k : St (entryOf g (cellsOnly ob) mem w) g' ob' (upd (fun _ => .unk) 0 r) mem' #[v] w') (hd : d < tm.size) (hr : r ≠ .unk) : St E g' (joinOb ob ob' d) (upd s d r) mem' (tm.setIfInBounds d v) w' := by
  -- the caller's own blocks are as they were
  have kept : ∀ i j blk, ob (.slot i j) = some blk → blk < w.heap.size ∧ ¬ (entryOf g (cellsOnly ob) mem w).wr blk := fun i j blk hb => by
    refine ⟨h.obLt _ _ hb, ?_⟩
    rintro (⟨b, h1, h2⟩ | ⟨b, o, h1⟩)
    · exact h.obBox _ _ b hb h1 h2
    · have := h.obInj _ _ _ hb (cellsOnly_sub h1).1
      cases this
  have wrE : ∀ blk, blk < E.w0.heap.size → ¬ E.wr blk → blk < w.heap.size ∧ ¬ (entryOf g (cellsOnly ob) mem w).wr blk := fun blk h1 h2 => by
    refine ⟨Nat.lt_of_lt_of_le h1 h.size, ?_⟩
    rintro (⟨b, h3, rfl⟩ | ⟨b, o, h3⟩)
    · rcases h.boxFresh b h3 with q | q
      · omega
      · exact h2 q
    · rcases h.obFresh _ _ (cellsOnly_sub h3).1 with q | q
      · omega
      · exact h2 q
  have fresh : ∀ blk, (w.heap.size ≤ blk ∨ (entryOf g (cellsOnly ob) mem w).wr blk) → (E.w0.heap.size ≤ blk ∨ E.wr blk) := fun blk hb => by
    rcases hb with q | (⟨b, h3, rfl⟩ | ⟨b, o, h3⟩)
    · left; have := h.size; omega
    · exact h.boxFresh b h3
    · exact h.obFresh _ _ (cellsOnly_sub h3).1
  have news : ∀ p blk, ob' p = some blk → w.heap.size ≤ blk ∨ (entryOf g (cellsOnly ob) mem w).wr blk := k.obFresh
  have apart : ∀ i j blk, ob (.slot i j) = some blk → ∀ p, ob' p ≠ some blk := fun i j blk hb p hp => by
    have h1 := kept i j blk hb
    rcases news p blk hp with q | q
    · omega
    · exact h1.2 q
  have js : ∀ i j, i ≠ d → joinOb ob ob' d (.slot i j) = ob (.slot i j) := fun i j hi => by simp [joinOb, hi]
  have jd : ∀ j, joinOb ob ob' d (.slot d j) = ob' (.slot 0 j) := fun j => by simp [joinOb]
  have split : ∀ p blk, joinOb ob ob' d p = some blk → (∃ i j, p = .slot i j ∧ i ≠ d ∧ ob (.slot i j) = some blk) ∨ (∃ q, ob' q = some blk ∧ ((∃ j, p = .slot d j ∧ q = .slot 0 j) ∨ (∃ b o, p = .cell b o ∧ q = .cell b o))) := fun p blk hp => by
    cases p with
    | slot i j =>
      by_cases e : i = d
      · subst e; rw [jd] at hp; exact .inr ⟨_, hp, .inl ⟨j, rfl, rfl⟩⟩
      · rw [js i j e] at hp; exact .inl ⟨i, j, rfl, e, hp⟩
    | cell b o => exact .inr ⟨_, hp, .inr ⟨b, o, rfl, rfl⟩⟩
  have e0 : (#[v] : Array Value).getD 0 undef = v := rfl
  refine {
    slot := fun i hi => ?_
    box := k.box
    inj := k.inj
    ownS := fun i j sz n cs hi => ?_
    ownC := fun b o l sz n cs hb hl => k.ownC b o l sz n cs hb hl
    obInj := fun p q blk hp hq => ?_
    obBox := fun p blk b hp hb => ?_
    obLt := fun p blk hp => ?_
    prot0 := k.prot0
    boxProt := k.boxProt
    os := k.os.trans h.os
    tape := k.tape.trans h.tape
    output := k.output.trans h.output
    size := Nat.le_trans h.size k.size
    block := fun blk h1 h2 => (k.block blk (wrE blk h1 h2).1 (wrE blk h1 h2).2).trans (h.block blk h1 h2)
    keep := fun blk h1 h2 => (k.keep blk (wrE blk h1 h2).1 (wrE blk h1 h2).2).trans (h.keep blk h1 h2)
    onto := h.onto.trans k.onto
    boxFresh := fun b hb => fresh _ (k.boxFresh b hb)
    obFresh := fun p blk hp => ?_
    rsv := fun b hb => ⟨Nat.lt_of_lt_of_le (h.rsv b hb).1 k.onto.mn, (k.onto.hole b (h.rsv b hb).1).2 (h.rsv b hb).2⟩ }
  · rw [getD_set hd]
    by_cases e : i = d
    · subst e
      rw [if_pos rfl, upd_same]
      have := k.slot 0 (by rw [upd_same]; exact hr)
      rwa [upd_same, e0] at this
    · rw [if_neg e, upd_ne _ _ e]
      rw [upd_ne _ _ e] at hi
      exact (h.slot i hi).onto k.onto
  · rw [getD_set hd]
    by_cases e : i = d
    · subst e
      rw [if_pos rfl, jd]
      rw [upd_same] at hi
      have := k.ownS 0 j sz n cs (by rw [upd_same]; exact hi)
      rwa [e0] at this
    · rw [if_neg e, js i j e]
      rw [upd_ne _ _ e] at hi
      refine (h.ownS i j sz n cs hi).onto (fun blk hb => k.block blk (kept i j blk hb).1 (kept i j blk hb).2) (fun blk hb => k.keep blk (kept i j blk hb).1 (kept i j blk hb).2)
  · rcases split p blk hp with ⟨i, j, rfl, e1, e2⟩ | ⟨p', hp', hpp⟩ <;> rcases split q blk hq with ⟨i', j', rfl, f1, f2⟩ | ⟨q', hq', hqq⟩
    · have := h.obInj _ _ _ e2 f2
      simp only [Pos.slot.injEq] at this
      rw [this.1, this.2]
    · exact absurd hq' (apart i j blk e2 q')
    · exact absurd hp' (apart i' j' blk f2 p')
    · have := k.obInj _ _ _ hp' hq'
      rcases hpp with ⟨j, rfl, rfl⟩ | ⟨b, o, rfl, rfl⟩ <;> rcases hqq with ⟨j', rfl, rfl⟩ | ⟨b', o', rfl, rfl⟩ <;> simp_all
  · rcases split p blk hp with ⟨i, j, rfl, e1, e2⟩ | ⟨p', hp', _⟩
    · intro he
      have h1 := kept i j blk e2
      rcases k.boxFresh b hb with q | q
      · rw [he] at q; exact absurd h1.1 (by have : (entryOf g (cellsOnly ob) mem w).w0 = w := rfl; rw [this] at q; omega)
      · rw [he] at q; exact h1.2 q
    · exact k.obBox _ _ b hp' hb
  · rcases split p blk hp with ⟨i, j, rfl, e1, e2⟩ | ⟨p', hp', _⟩
    · exact Nat.lt_of_lt_of_le (kept i j blk e2).1 k.size
    · exact k.obLt _ _ hp'
  · rcases split p blk hp with ⟨i, j, rfl, e1, e2⟩ | ⟨p', hp', _⟩
    · exact h.obFresh _ _ e2
    · exact fresh _ (news _ _ hp')

end Go.VL

set_option linter.unusedVariables false
set_option linter.unusedSimpArgs false
open Go.RowKit
namespace Go.VL
variable {P : Program} {H : Env} {L : LEnv} {E : Entry} {nt : Nat} {w : World}

def V.clean (x : V) : V := x.fzT
noncomputable def evC (H : Env) (L : LEnv) (mem : Nat → Option (List V)) (ρ : Operand → V) (op : Op) : Option (Prop × V) := match ev1 H L mem ρ op with
  | some (c, x) => some (c, x.fzT)
  | none => none

theorem step_evC (hH : EnvOk P H) (hL : LEnvOk P L) {gl : Nat → Option (List V)} (hG : GlOk E.g0 E.w0 gl) {o : Oper} {σ : S} {d : Nat} {c : Prop} {x : V} (ho : o.dst = some d) (hd : d < nt)
    (h : evC H L σ.mem (evO (lk σ.sl) gl) o.op = some (c, x)) (hc : c) : StepTo P E nt o σ (σ.set d x) := by
  rintro a w ⟨g, ob, h1, h2, h3, h4⟩
  have hg := hG.onto h1.onto
  unfold evC at h
  cases he : ev1 H L σ.mem (evO (lk σ.sl) gl) o.op with
  | none => rw [he] at h; cases h
  | some p =>
    obtain ⟨c', x'⟩ := p
    rw [he] at h
    simp only [Option.some.injEq, Prod.mk.injEq] at h
    obtain ⟨rfl, rfl⟩ := h
    obtain ⟨v, r1, r2⟩ := ev1_sound (g := g) (w := w) hH hL (mem := σ.mem) h1.box (ρ := evO (lk σ.sl) gl) (σ := a.eval) (fun y hy => by
      have := evO_rel (d := a.defers) h1.slot hg y hy
      exact this) o he hc
    refine .inl ⟨v, w, r1, ?_⟩
    rw [ho, put_some]
    refine ⟨g, ob, ?_, h2, h3, by simpa using h4⟩
    rw [S.set, lk_cons]
    exact h1.put (by omega) (fun _ => r2.fzT) (noOwn_fzT _)

inductive R1 where
  | ok (c : Prop) (σ : S)
  | call (f : FuncId) (args : List V)
  | stuck

structure Cfg where
  H : Env
  L : LEnv
  gl : Nat → Option (List V)
  nt : Nat
  /-- the temporaries that take what they are given -/
  T : List Nat
  /-- .. that are boxes -/
  B : List Nat

noncomputable def evR (C : Cfg) (σ : S) (d : Nat) (op : Op) : R1 := match evC C.H C.L σ.mem (evO (lk σ.sl) C.gl) op with
  | some (c, x) => .ok (c ∧ d < C.nt) (σ.set d x)
  | none => .stuck

noncomputable def takeV (C : Cfg) (σ : S) (d : Nat) (x : Operand) (op : Op) : R1 := match x with
  | .tmp i => match lk σ.sl i with
    | .sl own sz n cs => match own with
      | true => .ok (d < C.nt) { σ with sl := (d, .sl true sz n cs) :: (i, .sl false sz n cs) :: σ.sl }
      | false => evR C σ d op
    | _ => evR C σ d op
  | _ => evR C σ d op

noncomputable def takeTupV (C : Cfg) (σ : S) (d : Nat) (x : Operand) (j : Nat) (op : Op) : R1 := match x with
  | .tmp i => match lk σ.sl i with
    | .tup vs => match vs[j]? with
      | some y => match y with
        | .sl own sz n cs => match own with
          | true => .ok (d < C.nt) { σ with sl := (d, .sl true sz n cs) :: (i, .tup (vs.set j (.sl false sz n cs))) :: σ.sl }
          | false => evR C σ d op
        | _ => evR C σ d op
      | none => .stuck
    | _ => .stuck
  | _ => .stuck

noncomputable def takeCellV (C : Cfg) (σ : S) (d : Nat) (t : TypeId) (x : Operand) (op : Op) : R1 := match evO (lk σ.sl) C.gl x with
  | .bp b off => match σ.mem b with
    | some l => match l[off]? with
      | some y => match y with
        | .sl own sz n cs => match own with
          | true => match C.H.get t with
            | some j => match j.agg with
              | false => .ok (d < C.nt) { σ with sl := (d, .sl true sz n cs) :: σ.sl, mem := upd σ.mem b (some (l.set off (.sl false sz n cs))) }
              | true => .stuck
            | none => .stuck
          | false => evR C σ d op
        | _ => evR C σ d op
      | none => .stuck
    | none => .stuck
  | _ => evR C σ d op

def allocV (C : Cfg) (σ : S) (d : Nat) (t : TypeId) : R1 := match C.H.get t with
  | some i => match i.zok with
    | true => .ok (d < C.nt) { sl := (d, .bp σ.mn 0) :: σ.sl, mem := upd σ.mem σ.mn (some i.zero), mn := σ.mn + 1 }
    | false => .stuck
  | none => .stuck

def boxV (C : Cfg) (σ : S) (d : Nat) (x : V) : R1 :=
  .ok (x ≠ .unk ∧ (∀ z ∈ x.cells.map V.fz, noOwnB z = true) ∧ d < C.nt) { sl := (d, .bp σ.mn 0) :: σ.sl, mem := upd σ.mem σ.mn (some (x.cells.map V.fz)), mn := σ.mn + 1 }

def bslV (C : Cfg) (σ : S) (d : Nat) (t n : Nat) (ps : List (Nat × V)) : R1 := match C.H.get t with
  | some ti => match ti.k with
    | .sl e => match C.H.get e with
      | some i => match i.zok with
        | true => match fillV (fun k => some (k * i.sz, i.sz)) (rep n i.zero) (ps.map fun p => (p.1, p.2.fz)) with
          | some (c, r) => if C.B.contains d = true then
              .ok (c ∧ n * i.sz ≤ 2 ^ 24 ∧ 0 < n * i.sz ∧ (∀ p ∈ ps, p.2 ≠ .unk) ∧ (∀ x ∈ r, noOwnB x = true) ∧ d < C.nt) { sl := (d, .bs σ.mn 0 n n) :: σ.sl, mem := upd σ.mem σ.mn (some r), mn := σ.mn + 1 }
            else .ok (c ∧ n * i.sz ≤ 2 ^ 24 ∧ (0 < n * i.sz ∨ n = 0) ∧ (∀ p ∈ ps, p.2 ≠ .unk) ∧ r.length = n * i.sz ∧ d < C.nt) (σ.set d (.sl true i.sz n r))
          | none => .stuck
        | false => .stuck
      | none => .stuck
    | _ => .stuck
  | none => .stuck

def mkSlV (C : Cfg) (σ : S) (d : Nat) (t : TypeId) (x y : V) : R1 := match C.H.get t with
  | some ti => match ti.k with
    | .sl e => match C.H.get e with
      | some i => match i.zok with
        | true => match x with
          | .flat v => match v with
            | .int k n => match y with
              | .flat u => match u with
                | .int k' m => if C.B.contains d = true then
                    .ok (n = m ∧ 0 ≤ n ∧ n ≤ 9223372036854775807 ∧ i.bytes * n ≤ 281474976710656 ∧ d < C.nt) { sl := (d, .bs σ.mn 0 n.toNat n.toNat) :: σ.sl, mem := upd σ.mem σ.mn (some (rep n.toNat i.zero)), mn := σ.mn + 1 }
                  else .ok (n = m ∧ 0 ≤ n ∧ n ≤ 9223372036854775807 ∧ i.bytes * n ≤ 281474976710656 ∧ d < C.nt) (σ.set d (.sl true i.sz n.toNat (rep n.toNat i.zero)))
                | _ => .stuck
              | _ => .stuck
            | _ => .stuck
          | _ => .stuck
        | false => .stuck
      | none => .stuck
    | _ => .stuck
  | none => .stuck

noncomputable def cvtV (C : Cfg) (σ : S) (d : Nat) (u t : TypeId) (x : V) (op : Op) : R1 := match C.H.get t with
  | some ti => match ti.k with
    | .sl e => match x with
      | .flat v => match v with
        | .string s => match C.H.get u with
          | some ui => match ui.k with
            | .str => match C.H.get e with
              | some ei => match ei.k with
                | .int k => match k with
                  | .u8 => if C.B.contains d = true then .ok (s.size ≤ maxLen ∧ d < C.nt) { sl := (d, .bs σ.mn 0 s.size (s.size + 1)) :: σ.sl, mem := upd σ.mem σ.mn (some (bytesC s)), mn := σ.mn + 1 }
                    else .ok (s.size ≤ maxLen ∧ d < C.nt) (σ.set d (.sl true 1 s.size (bytesC s)))
                  | _ => .stuck
                | _ => .stuck
              | none => .stuck
            | _ => .stuck
          | none => .stuck
        | _ => .stuck
      | _ => .stuck
    | _ => evR C σ d op
  | none => .stuck

def appV (C : Cfg) (σ : S) (d : Nat) (t xt : TypeId) (x y : Operand) : R1 := match C.H.get t with
  | some ti => match ti.k with
    | .sl e => match C.H.get e with
      | some ei => match C.H.get xt with
        | some xi => match srcV σ.mem ei.sz (evO (lk σ.sl) C.gl y) with
          | some (c, m, xs) => match evO (lk σ.sl) C.gl x with
            | .nil => .ok (c ∧ notIntT xi = true ∧ ei.zok = true ∧ m ≤ maxLen ∧ m * ei.bytes ≤ 140737488355328 ∧ d < C.nt) (σ.set d (.sl true ei.sz m xs))
            | .sl own sz n cs => match own with
              | true => match x with
                | .tmp i => .ok (c ∧ notIntT xi = true ∧ ei.zok = true ∧ sz = ei.sz ∧ cs.length = n * ei.sz ∧ (∀ z ∈ xs, oneB z = true) ∧ n + m ≤ maxLen ∧ (n + m) * ei.bytes ≤ 140737488355328 ∧ d < C.nt)
                    { σ with sl := (d, .sl true sz (n + m) (cs ++ xs)) :: (i, .sl false sz n cs) :: σ.sl }
                | _ => .stuck
              | false => .stuck
            | _ => .stuck
          | none => .stuck
        | none => .stuck
      | none => .stuck
    | _ => .stuck
  | none => .stuck

def stoV (C : Cfg) (σ : S) (t : TypeId) (x y : Operand) : R1 := match C.H.get t with
  | some ti => match evO (lk σ.sl) C.gl x with
    | .bp b off => match σ.mem b with
      | some cs => match evO (lk σ.sl) C.gl y with
        | .sl own sz n l => match own with
          | true => match y with
            | .tmp i => .ok (ti.sz = 1 ∧ off < cs.length) { σ with sl := (i, .sl false sz n l) :: σ.sl, mem := upd σ.mem b (some (putV cs off [.sl true sz n l])) }
            | _ => .stuck
          | false => .ok (ti.sz = 1 ∧ off + ti.sz ≤ cs.length) { σ with mem := upd σ.mem b (some (putV cs off [.sl false sz n l])) }
        | X => .ok (X ≠ .unk ∧ X.cells.length = ti.sz ∧ off + ti.sz ≤ cs.length ∧ ∀ z ∈ X.cells.map V.fz, noOwnB z = true ∧ oneB z = true) { σ with mem := upd σ.mem b (some (putV cs off (X.cells.map V.fz))) }
      | none => .stuck
    | _ => .stuck
  | none => .stuck

noncomputable def stepV (C : Cfg) (o : Oper) (σ : S) : R1 := match o.dst with
  | some d => match o.op with
    | .assign x => takeV C σ d x (.assign x)
    | .move x => if C.T.contains d = true then takeV C σ d x (.move x) else evR C σ d (.move x)
    | .extract x j => takeTupV C σ d x j (.extract x j)
    | .load t x => if C.T.contains d = true then takeCellV C σ d t x (.load t x) else evR C σ d (.load t x)
    | .alloc t => allocV C σ d t
    | .box t y => boxV C σ d (evO (lk σ.sl) C.gl y)
    | .buildSlice t n ps => bslV C σ d t n (ps.toList.map fun p => (p.1, evO (lk σ.sl) C.gl p.2))
    | .makeSlice t x y => mkSlV C σ d t (evO (lk σ.sl) C.gl x) (evO (lk σ.sl) C.gl y)
    | .convert u t x => cvtV C σ d u t (evO (lk σ.sl) C.gl x) (.convert u t x)
    | .call c => match c.callee with
      | .builtin b => match b with
        | .append => match c.args.toList, c.argTypes.toList with
          | [x, y], [t, xt] => appV C σ d t xt x y
          | _, _ => .stuck
        | _ => evR C σ d (.call c)
      | .value y => match evO (lk σ.sl) C.gl y with
        | .fn f cs => .call f ((c.args.toList.map fun x => (evO (lk σ.sl) C.gl x).fz) ++ cs)
        | _ => .stuck
      | _ => .stuck
    | op => evR C σ d op
  | none => match o.op with
    | .store t x y => stoV C σ t x y
    | _ => .stuck

theorem evR_sound {C : Cfg} (hH : EnvOk P C.H) (hL : LEnvOk P C.L) (hG : GlOk E.g0 E.w0 C.gl) {o : Oper} {σ σ' : S} {d : Nat} {c : Prop} {op : Op} (hop : o.op = op) (ho : o.dst = some d) (h : evR C σ d op = .ok c σ') (hc : c) : StepTo P E C.nt o σ σ' := by
  unfold evR at h
  split at h <;> try cases h
  rename_i c' x he
  exact step_evC hH hL hG ho hc.2 (by rw [hop]; exact he) hc.1

end Go.VL

set_option linter.unusedVariables false
set_option linter.unusedSectionVars false
set_option linter.unusedSimpArgs false
open Go.RowKit
namespace Go.VL
variable {P : Program} {E : Entry} {w : World} {C : Cfg}

section
variable {o : Oper} {σ σ' : S} {d : Nat} {c : Prop}

theorem takeV_sound (hH : EnvOk P C.H) (hL : LEnvOk P C.L) (hG : GlOk E.g0 E.w0 C.gl) {x : Operand} (hop : o.op = .assign x ∨ o.op = .move x) (ho : o.dst = some d) (h : takeV C σ d x o.op = .ok c σ') (hc : c) : StepTo P E C.nt o σ σ' := by
  unfold takeV at h
  split at h
  · rename_i i
    split at h
    · rename_i own sz n cs hi
      split at h
      · cases h
        exact step_take hop ho hc hi
      · exact evR_sound hH hL hG rfl ho h hc
    · exact evR_sound hH hL hG rfl ho h hc
  · exact evR_sound hH hL hG rfl ho h hc

theorem takeTupV_sound (hH : EnvOk P C.H) (hL : LEnvOk P C.L) (hG : GlOk E.g0 E.w0 C.gl) {x : Operand} {j : Nat} (hop : o.op = .extract x j) (ho : o.dst = some d) (h : takeTupV C σ d x j o.op = .ok c σ') (hc : c) : StepTo P E C.nt o σ σ' := by
  unfold takeTupV at h
  split at h <;> try cases h
  rename_i i
  split at h <;> try cases h
  rename_i vs hi
  split at h <;> try cases h
  rename_i y hj
  split at h
  · split at h
    · cases h
      exact step_takeTup hop ho hc hi hj
    · exact evR_sound hH hL hG rfl ho h hc
  · exact evR_sound hH hL hG rfl ho h hc

theorem takeCellV_sound (hH : EnvOk P C.H) (hL : LEnvOk P C.L) (hG : GlOk E.g0 E.w0 C.gl) {x : Operand} {t : TypeId} (hop : o.op = .load t x) (ho : o.dst = some d) (h : takeCellV C σ d t x o.op = .ok c σ') (hc : c) : StepTo P E C.nt o σ σ' := by
  unfold takeCellV at h
  split at h
  · rename_i b off hx
    split at h <;> try cases h
    rename_i l hm
    split at h <;> try cases h
    rename_i y hl
    split at h
    · split at h
      · split at h <;> try cases h
        rename_i j hj
        split at h <;> try cases h
        rename_i hja
        exact step_takeCell hH hG hop hj hja ho hc hx hm hl
      · exact evR_sound hH hL hG rfl ho h hc
    · exact evR_sound hH hL hG rfl ho h hc
  · exact evR_sound hH hL hG rfl ho h hc

theorem allocV_sound (hH : EnvOk P C.H) (hL : LEnvOk P C.L) (hG : GlOk E.g0 E.w0 C.gl) {t : TypeId} (hop : o.op = .alloc t) (ho : o.dst = some d) (h : allocV C σ d t = .ok c σ') (hc : c) : StepTo P E C.nt o σ σ' := by
  unfold allocV at h
  split at h <;> try cases h
  rename_i i hi
  split at h <;> try cases h
  rename_i hz
  exact step_alloc hH hop hi hz ho hc

theorem boxV_sound (hH : EnvOk P C.H) (hL : LEnvOk P C.L) (hG : GlOk E.g0 E.w0 C.gl) {t : TypeId} {y : Operand} (hop : o.op = .box t y) (ho : o.dst = some d) (h : boxV C σ d (evO (lk σ.sl) C.gl y) = .ok c σ') (hc : c) : StepTo P E C.nt o σ σ' := by
  unfold boxV at h
  cases h
  exact step_box hH hG hop ho hc.2.2 hc.1 hc.2.1

theorem bslV_sound (hH : EnvOk P C.H) (hL : LEnvOk P C.L) (hG : GlOk E.g0 E.w0 C.gl) {t n : Nat} {ps : Array (Nat × Operand)} (hop : o.op = .buildSlice t n ps) (ho : o.dst = some d) (h : bslV C σ d t n (ps.toList.map fun p => (p.1, evO (lk σ.sl) C.gl p.2)) = .ok c σ') (hc : c) : StepTo P E C.nt o σ σ' := by
  unfold bslV at h
  split at h <;> try cases h
  rename_i ti ht
  split at h <;> try cases h
  rename_i e hte
  split at h <;> try cases h
  rename_i i hi
  split at h <;> try cases h
  rename_i hz
  split at h <;> try cases h
  rename_i c' r hf
  split at h <;> cases h
  · obtain ⟨c1, c2, c3, c4, c5, c6⟩ := hc
    refine step_buildBox hH hG hop ho c6 ht hte hi hz c2 c3 (c := c') ?_ c1 (fun p hp => ?_) c5
    · rw [← hf, List.map_map]; rfl
    · exact c4 (p.1, evO (lk σ.sl) C.gl p.2) (List.mem_map.2 ⟨p, hp, rfl⟩)
  obtain ⟨c1, c2, c3, c4, c5, c6⟩ := hc
  refine step_buildSlice hH hG hop ho c6 ht hte hi hz c2 c3 (c := c') ?_ c1 (fun p hp => ?_) c5
  · rw [← hf, List.map_map]; rfl
  · exact c4 (p.1, evO (lk σ.sl) C.gl p.2) (List.mem_map.2 ⟨p, hp, rfl⟩)

theorem mkSlV_sound (hH : EnvOk P C.H) (hL : LEnvOk P C.L) (hG : GlOk E.g0 E.w0 C.gl) {t : TypeId} {x y : Operand} (hop : o.op = .makeSlice t x y) (ho : o.dst = some d) (h : mkSlV C σ d t (evO (lk σ.sl) C.gl x) (evO (lk σ.sl) C.gl y) = .ok c σ') (hc : c) : StepTo P E C.nt o σ σ' := by
  unfold mkSlV at h
  split at h <;> try cases h
  rename_i ti ht
  split at h <;> try cases h
  rename_i e hte
  split at h <;> try cases h
  rename_i i hi
  split at h <;> try cases h
  rename_i hz
  split at h <;> try cases h
  rename_i v hx
  split at h <;> try cases h
  rename_i k n
  split at h <;> try cases h
  rename_i u hy
  split at h <;> try cases h
  rename_i k' m
  split at h <;> cases h
  · obtain ⟨rfl, c1, c2, c3, c4⟩ := hc
    exact step_makeBox hH hG hop ho c4 ht hte hi hz hx hy c1 c2 c3
  · obtain ⟨rfl, c1, c2, c3, c4⟩ := hc
    exact step_make hH hG hop ho c4 ht hte hi hz hx hy c1 c2 c3

theorem cvtV_sound (hH : EnvOk P C.H) (hL : LEnvOk P C.L) (hG : GlOk E.g0 E.w0 C.gl) {u t : TypeId} {x : Operand} (hop : o.op = .convert u t x) (ho : o.dst = some d) (h : cvtV C σ d u t (evO (lk σ.sl) C.gl x) o.op = .ok c σ') (hc : c) : StepTo P E C.nt o σ σ' := by
  unfold cvtV at h
  split at h <;> try cases h
  rename_i ti ht
  split at h
  · rename_i e hte
    split at h <;> try cases h
    rename_i v hx
    split at h <;> try cases h
    rename_i s
    split at h <;> try cases h
    rename_i ui hu
    split at h <;> try cases h
    rename_i huk
    split at h <;> try cases h
    rename_i ei he
    split at h <;> try cases h
    rename_i k hek
    split at h <;> try cases h
    split at h <;> cases h
    · exact step_bytesBox hH hG hop ho hc.2 hu huk ht hte he hek hx hc.1
    · exact step_bytes hH hG hop ho hc.2 hu huk ht hte he hek hx hc.1
  · exact evR_sound hH hL hG rfl ho h hc

theorem appV_sound (hH : EnvOk P C.H) (hL : LEnvOk P C.L) (hG : GlOk E.g0 E.w0 C.gl) {t xt : TypeId} {x y : Operand} (hop : o.op = .call { callee := .builtin .append, args := #[x, y], argTypes := #[t, xt] }) (ho : o.dst = some d) (h : appV C σ d t xt x y = .ok c σ') (hc : c) : StepTo P E C.nt o σ σ' := by
  unfold appV at h
  split at h <;> try cases h
  rename_i ti ht
  split at h <;> try cases h
  rename_i e hte
  split at h <;> try cases h
  rename_i ei he
  split at h <;> try cases h
  rename_i xi hxt
  split at h <;> try cases h
  rename_i c' m xs hs
  split at h <;> try cases h
  · rename_i hx
    obtain ⟨c1, c2, c3, c4, c5, c6⟩ := hc
    exact step_appendNil hH hG hop ho c6 ht hte he hxt c2 c3 hx hs c1 c4 c5
  · rename_i own sz n cs hx
    split at h <;> try cases h
    split at h <;> try cases h
    rename_i i
    obtain ⟨c1, c2, c3, rfl, c5, c6, c7, c8, c9⟩ := hc
    exact step_append hH hG hop ho c9 ht hte he hxt c2 c3 hx hs c1 c5 c6 c7 c8

theorem stoV_sound (hH : EnvOk P C.H) (hL : LEnvOk P C.L) (hG : GlOk E.g0 E.w0 C.gl) {t : TypeId} {x y : Operand} (hop : o.op = .store t x y) (ho : o.dst = none) (h : stoV C σ t x y = .ok c σ') (hc : c) : StepTo P E C.nt o σ σ' := by
  unfold stoV at h
  split at h <;> try cases h
  rename_i ti ht
  split at h <;> try cases h
  rename_i b off hx
  split at h <;> try cases h
  rename_i cs hb
  split at h
  · rename_i own sz n l hy
    split at h
    · split at h <;> try cases h
      rename_i i
      exact step_storeOwn hH hG hop ho ht hc.1 hx hy hb hc.2
    · cases h
      have := step_store (nt := C.nt) hH hG hop ho ht hx (by rw [hy]; simp) hb (by rw [hy, hc.1]; rfl) hc.2 (by
        rw [hy]; intro z hz
        simp only [V.cells, List.map_cons, List.map_nil, List.mem_singleton] at hz
        subst hz; exact ⟨rfl, rfl⟩)
      rw [hy] at this
      exact this
  · cases h
    exact step_store hH hG hop ho ht hx hc.1 hb hc.2.1 hc.2.2.1 hc.2.2.2

theorem stepV_sound (hH : EnvOk P C.H) (hL : LEnvOk P C.L) (hG : GlOk E.g0 E.w0 C.gl) (h : stepV C o σ = .ok c σ') (hc : c) : StepTo P E C.nt o σ σ' := by
  unfold stepV at h
  split at h
  · rename_i d ho
    split at h
    · rename_i x hop; exact takeV_sound hH hL hG (.inl hop) ho (by rw [hop]; exact h) hc
    · rename_i x hop
      split at h
      · exact takeV_sound hH hL hG (.inr hop) ho (by rw [hop]; exact h) hc
      · exact evR_sound hH hL hG hop ho h hc
    · rename_i x j hop; exact takeTupV_sound hH hL hG hop ho (by rw [hop]; exact h) hc
    · rename_i t x hop
      split at h
      · exact takeCellV_sound hH hL hG hop ho (by rw [hop]; exact h) hc
      · exact evR_sound hH hL hG hop ho h hc
    · rename_i t hop; exact allocV_sound hH hL hG hop ho h hc
    · rename_i t y hop; exact boxV_sound hH hL hG hop ho h hc
    · rename_i t n ps hop; exact bslV_sound hH hL hG hop ho h hc
    · rename_i t x y hop; exact mkSlV_sound hH hL hG hop ho h hc
    · rename_i u t x hop; exact cvtV_sound hH hL hG hop ho (by rw [hop]; exact h) hc
    · rename_i cl hop
      obtain ⟨callee, args, ats⟩ := cl
      simp only at h
      split at h
      · rename_i b
        split at h
        · split at h <;> try cases h
          rename_i x y t xt e1 e2
          have e1' : args = #[x, y] := by apply Array.ext'; exact e1
          have e2' : ats = #[t, xt] := by apply Array.ext'; exact e2
          subst e1' e2'
          exact appV_sound hH hL hG hop ho h hc
        · exact evR_sound hH hL hG hop ho h hc
      · split at h <;> cases h
      · cases h
    · rename_i hop; exact evR_sound hH hL hG rfl ho h hc
  · rename_i ho
    split at h
    · rename_i t x y hop; exact stoV_sound hH hL hG hop ho h hc
    · cases h

end
end Go.VL

set_option linter.unusedVariables false
set_option linter.unusedSimpArgs false
open Go.RowKit
namespace Go.VL
variable {P : Program} {E : Entry} {w : World} {C : Cfg}

def wantedV (ops : List Oper) (s : Nat → V) (o : Oper) : Option Bool := match o.guard with
  | none => some true
  | some (j, want) => match (ops[j]?).bind (·.dst) with
    | some d => match s d with
      | .flat v => match v with
        | .bool t => some (t == want)
        | _ => none
      | .tup vs => match vs with
        | [] => some false
        | _ :: _ => none
      | _ => none
    | none => none
theorem wantedV_rel {g : G} {s : Nat → V} {tm : Array Value} (hs : ∀ i, s i ≠ .unk → VR g w (s i) (tm.getD i undef)) {nt : Nat} (hnt : tm.size = nt) {ops : List Oper} {o : Oper} {b : Bool} (h : wantedV ops s o = some b) (hd : ∀ d, (ops.any fun o => o.dst == some d) = true → d < nt) :
    Region.wanted o (yielded ops.toArray tm) = b := by
  unfold wantedV at h
  unfold Region.wanted
  cases hg : o.guard with
  | none => rw [hg] at h; cases h; rfl
  | some jw =>
    obtain ⟨j, want⟩ := jw
    rw [hg] at h
    simp only at h ⊢
    cases ho : ops[j]? with
    | none => rw [ho] at h; cases h
    | some oj =>
      rw [ho] at h
      simp only [Option.bind_some] at h
      cases hdd : oj.dst with
      | none => rw [hdd] at h; cases h
      | some d =>
        rw [hdd] at h
        simp only at h
        have hlt : d < tm.size := by
          rw [hnt]
          refine hd d ?_
          rw [List.any_eq_true]
          exact ⟨oj, List.mem_of_getElem? ho, by rw [hdd]; simp⟩
        have hy : yielded ops.toArray tm j = match tm[d] with | .bool b => some b | _ => none := by
          unfold yielded
          simp only [List.getElem?_toArray, ho, Option.bind_some, hdd, Array.getElem?_eq_getElem hlt]
          cases tm[d] <;> rfl
        rw [hy]
        have hv := hs d
        have e : tm.getD d undef = tm[d] := by simp [Array.getD_eq_getD_getElem?, hlt]
        rw [e] at hv
        generalize tm[d] = u at hv
        cases hsd : s d with
        | flat v =>
          rw [hsd] at h hv
          have := hv (by simp)
          cases this
          cases u <;> simp only [reduceCtorEq] at h
          cases h
          simp
        | tup vs =>
          rw [hsd] at h hv
          have := hv (by simp)
          cases vs with
          | nil =>
            cases h
            cases this
            simp
          | cons _ _ => cases h
        | _ => rw [hsd] at h; cases h

def WL (P : Program) (E : Entry) (nt : Nat) (ops : List Oper) (k : Nat) (σ : S) (K : S → Prop) : Prop :=
  ∀ Q : Exit → Act → World → Prop, (∀ σ' a w, At E nt σ' a w → K σ' → Q .normal a w) → ∀ a w, At E nt σ a w → wpOps P ops.toArray Q ((List.range ops.length).drop k) a w

theorem range_drop {n k : Nat} (h : k < n) : (List.range n).drop k = k :: (List.range n).drop (k + 1) := by
  rw [List.drop_eq_getElem_cons (by simpa using h)]
  simp
theorem range_drop_end {n k : Nat} (h : n ≤ k) : (List.range n).drop k = [] := List.drop_eq_nil_of_le (by simpa using h)

theorem WL.nil {nt : Nat} {ops : List Oper} {k : Nat} {σ : S} {K : S → Prop} (hk : ops.length ≤ k) (h : K σ) : WL P E nt ops k σ K := by
  intro Q hQ a w hA
  rw [range_drop_end hk]
  exact hQ σ a w hA h

def dstOk (nt : Nat) (ops : List Oper) : Bool := ops.all fun o => match o.dst with | some d => decide (d < nt) | none => true
theorem dstOk_any {nt : Nat} {ops : List Oper} (h : dstOk nt ops = true) (d : Nat) (hd : (ops.any fun o => o.dst == some d) = true) : d < nt := by
  rw [List.any_eq_true] at hd
  obtain ⟨o, ho, he⟩ := hd
  unfold dstOk at h
  rw [List.all_eq_true] at h
  have := h o ho
  rw [eq_of_beq he] at this
  simpa using this

theorem wpOps_at {ops : List Oper} {k : Nat} {o : Oper} (ho : ops[k]? = some o) {Q : Exit → Act → World → Prop} {rest : List Nat} {a : Act} {w : World} :
    wpOps P ops.toArray Q (k :: rest) a w = if Region.wanted o (yielded ops.toArray a.tmps) then o.wp P a w (wpOps P ops.toArray Q rest) Q ∨ (o.asks P a w ∧ LetsOut Q) else wpOps P ops.toArray Q rest (a.put o.dst undef) w := by
  have h1 : ops.toArray[k]? = some o := by simpa using ho
  simp only [wpOps, h1]

theorem WL.step {nt : Nat} {ops : List Oper} (hdst : dstOk nt ops = true) {k : Nat} {o : Oper} {σ σ' : S} {K : S → Prop} (ho : ops[k]? = some o) (hw : wantedV ops (lk σ.sl) o = some true) (hs : StepTo P E nt o σ σ') (h : WL P E nt ops (k + 1) σ' K) : WL P E nt ops k σ K := by
  intro Q hQ a w hA
  have hk : k < ops.length := (List.getElem?_eq_some_iff.1 ho).1
  rw [range_drop hk, wpOps_at ho]
  obtain ⟨g, hsl, hbx, hon⟩ := hA.slots
  obtain ⟨_, _, _, _, _, hnt⟩ := id hA
  rw [wantedV_rel hsl hnt hw (dstOk_any hdst), if_pos rfl]
  left
  rcases hs a w hA with ⟨v, w', r1, r2⟩ | ⟨w', r1, r2⟩
  · simp only [Oper.wp, r1, Oper.upon]
    exact h Q hQ _ _ r2
  · simp only [Oper.wp, r1, Oper.upon]
    exact h Q hQ _ _ r2

def S.setU (σ : S) (d : Option Nat) : S := match d with
  | some d => σ.set d (.tup [])
  | none => σ
theorem At.setU {nt : Nat} {σ : S} {a : Act} {w : World} (h : At E nt σ a w) {d : Option Nat} (hd : ∀ i, d = some i → i < nt) : At E nt (σ.setU d) (a.put d undef) w := by
  cases d with
  | none => exact h
  | some d =>
    obtain ⟨g, ob, h1, h2, h3, h4⟩ := h
    refine ⟨g, ob, ?_, h2, h3, by rw [put_some]; simpa using h4⟩
    rw [put_some]
    simp only [S.setU, S.set, lk_cons]
    exact h1.put (by have := hd d rfl; omega) (fun _ => .tup [] #[] rfl (fun i hi => by simp at hi)) (fun j sz n cs k => by simp [comp] at k)

theorem WL.skip {nt : Nat} {ops : List Oper} (hdst : dstOk nt ops = true) {k : Nat} {o : Oper} {σ : S} {K : S → Prop} (ho : ops[k]? = some o) (hw : wantedV ops (lk σ.sl) o = some false) (h : WL P E nt ops (k + 1) (σ.setU o.dst) K) : WL P E nt ops k σ K := by
  intro Q hQ a w hA
  have hk : k < ops.length := (List.getElem?_eq_some_iff.1 ho).1
  rw [range_drop hk, wpOps_at ho]
  obtain ⟨g, hsl, hbx, hon⟩ := hA.slots
  obtain ⟨_, _, _, _, _, hnt⟩ := id hA
  rw [wantedV_rel hsl hnt hw (dstOk_any hdst), if_neg (by simp)]
  refine h Q hQ _ _ (hA.setU (fun i hi => dstOk_any hdst i ?_))
  rw [List.any_eq_true]
  exact ⟨o, List.mem_of_getElem? ho, by rw [hi]; simp⟩

def S.back (σ : S) (d : Nat) (r : V) (mem : Nat → Option (List V)) (mn : Nat) : S := { sl := (d, r) :: σ.sl, mem := mem, mn := mn }

theorem run_callFunc {f : FuncId} {fn : Func} (hf : P.funcs[f]? = some fn) (hn : (fn.name == "runtime.NumGoroutine") = false) (hb : fn.body.isNone = false) (args : Array Value) : (callFunc f args).run P w = .ok (.enter f args) w := by
  simp only [callFunc, Sem.run_bind, run_program, Result.andThen_ok, hf, hn, hb, Bool.false_eq_true, if_false, Sem.run_pure]

theorem run_callVal {y : Operand} {f : FuncId} {fn : Func} {us : Array Value} (hf : P.funcs[f]? = some fn) (hn : (fn.name == "runtime.NumGoroutine") = false) (hb : fn.body.isNone = false) (σ : Operand → Value) (hy : σ y = .func (.func f) #[] us)
    {dst : Option Nat} {xs : Array Operand} {ats : Array TypeId} {ty : TypeId} {pos : String} {after : Array Edge} {guard : Option (Nat × Bool)} : (execOp σ { dst := dst, op := .call { callee := .value y, args := xs, argTypes := ats }, type := ty, pos := pos, after := after, guard := guard }).run P w = .ok (.enter f (#[] ++ xs.map σ ++ us)) w := by
  simp only [execOp, resolve, hy, Deferred.ofValue, Sem.run_bind, Sem.run_pure, Result.andThen_ok, invoke]
  exact run_callFunc hf hn hb _
theorem args_rel {g : G} {s : Nat → V} {gl : Nat → Option (List V)} {tm : Array Value} {dd : List Deferred} (hs : ∀ i, s i ≠ .unk → VR g w (s i) (tm.getD i undef)) (hg : GlOk g w gl) {y : Operand} {f : FuncId} {cs : List V} (hy : evO s gl y = .fn f cs)
    {xs : Array Operand} {args : List V} (hargs : args = (xs.toList.map fun x => (evO s gl x).fz) ++ cs) (hk : ∀ x ∈ args, x.known = true) :
    ∃ us : Array Value, Act.eval { tmps := tm, defers := dd } y = .func (.func f) #[] us ∧ (#[] ++ xs.map (Act.eval { tmps := tm, defers := dd }) ++ us).size = args.length ∧ ∀ i, i < args.length → VR g w (args.getD i .unk) ((#[] ++ xs.map (Act.eval { tmps := tm, defers := dd }) ++ us).getD i undef) := by
  have h0 := evO_rel (d := dd) hs hg y (by rw [hy]; simp)
  rw [hy] at h0
  generalize hv : Act.eval { tmps := tm, defers := dd } y = v at h0
  cases h0 with
  | fn _ _ us hl hv' =>
    refine ⟨us, rfl, by rw [hargs]; simp [hl], fun i hi => ?_⟩
    rw [hargs] at hi ⊢
    simp only [List.length_append, List.length_map, Array.length_toList] at hi
    simp only [List.getD_eq_getElem?_getD, Array.getD_eq_getD_getElem?, Array.empty_append]
    by_cases h1 : i < xs.size
    · have e1 : ((xs.toList.map fun x => (evO s gl x).fz) ++ cs)[i]? = some (evO s gl xs[i]).fz := by rw [List.getElem?_append_left (by simpa using h1)]; simp [Array.getElem?_eq_getElem h1]
      have e2 : (xs.map (Act.eval { tmps := tm, defers := dd }) ++ us)[i]? = some (Act.eval { tmps := tm, defers := dd } xs[i]) := by rw [Array.getElem?_append_left (by simpa using h1)]; simp [Array.getElem?_eq_getElem h1]
      rw [e1, e2]
      have hne : evO s gl xs[i] ≠ .unk := by
        intro hu
        have := hk ((evO s gl xs[i]).fz) (by rw [hargs]; exact List.mem_append_left _ (List.mem_map.2 ⟨xs[i], by simp, rfl⟩))
        rw [hu] at this
        cases this
      exact (evO_rel (d := dd) hs hg xs[i] hne).fz
    · have e1 : ((xs.toList.map fun x => (evO s gl x).fz) ++ cs)[i]? = cs[i - xs.size]? := by rw [List.getElem?_append_right (by simp; omega)]; simp
      have e2 : (xs.map (Act.eval { tmps := tm, defers := dd }) ++ us)[i]? = us[i - xs.size]? := by rw [Array.getElem?_append_right (by simp; omega)]; simp
      rw [e1, e2]
      have := hv' (i - xs.size) (by omega)
      simpa [List.getD_eq_getElem?_getD, Array.getD_eq_getD_getElem?] using this
theorem WL.call {ops : List Oper} (hdst : dstOk C.nt ops = true) (hG : GlOk E.g0 E.w0 C.gl) {k : Nat} {o : Oper} {σ : S} {K : S → Prop} {f : FuncId} {y : Operand} {cs : List V} {xs : Array Operand} {ats : Array TypeId} {d : Nat} (ho : ops[k]? = some o) (hd : o.dst = some d) (hop : o.op = .call { callee := .value y, args := xs, argTypes := ats })
    (hy : evO (lk σ.sl) C.gl y = .fn f cs) (hw : wantedV ops (lk σ.sl) o = some true) {args : List V} (hargs : args = (xs.toList.map fun x => (evO (lk σ.sl) C.gl x).fz) ++ cs) {R : V → (Nat → Option (List V)) → Nat → Prop} (hs : Sp P C.gl f args σ.mem σ.mn R)
    (hk : ∀ x ∈ args, x.known = true) (h : ∀ r mem mn, R r mem mn → WL P E C.nt ops (k + 1) (σ.back d r mem mn) K) : WL P E C.nt ops k σ K := by
  intro Q hQ a w hA
  have hkl : k < ops.length := (List.getElem?_eq_some_iff.1 ho).1
  rw [range_drop hkl, wpOps_at ho]
  obtain ⟨g, ob, h1, h2, h3, h4⟩ := hA
  rw [wantedV_rel h1.slot h4 hw (dstOk_any hdst), if_pos rfl]
  left
  obtain ⟨⟨fn, hf, hn, hb⟩, hcall⟩ := hs
  obtain ⟨us, hus, hsz, hrel⟩ := args_rel (dd := a.defers) h1.slot (hG.onto h1.onto) hy hargs hk
  have hrun : (execOp a.eval o).run P w = .ok (.enter f (#[] ++ xs.map a.eval ++ us)) w := by
    obtain ⟨dst, op, ty, pos, after, guard⟩ := o
    simp only at hop
    subst hop
    exact run_callVal hf hn hb a.eval hus
  simp only [Oper.wp, hrun, Oper.upon]
  have hc := hcall g (cellsOnly ob) w (#[] ++ xs.map a.eval ++ us) h2 (hG.onto h1.onto) hsz hrel (fun i j => rfl) h1.handOver
  refine hc.mono ?_
  rintro e w' ⟨v, r, mem', g', ob', rfl, hR, hru, hst⟩
  have hres := h r mem' g'.mn hR
  simp only
  rw [hd]
  have hdl : d < a.tmps.size := by
    rw [h4]
    refine dstOk_any hdst d ?_
    rw [List.any_eq_true]
    exact ⟨o, List.mem_of_getElem? ho, by rw [hd]; simp⟩
  refine hres Q hQ _ _ ⟨g', joinOb ob ob' d, ?_, rfl, h3, by rw [put_some]; simpa using h4⟩
  rw [put_some]
  simp only [S.back, lk_cons]
  exact h1.comeBack hst hdl hru

end Go.VL

set_option linter.unusedVariables false
set_option linter.unusedSimpArgs false
open Go.RowKit
namespace Go.VL
variable {P : Program} {E : Entry} {w : World} {C : Cfg}

inductive Out where
  | done (c : Prop) (σ : S)
  | call (c : Prop) (o : Oper) (rest : List Oper) (d : Nat) (f : FuncId) (args : List V) (σ : S)
  | wait (c : Prop) (v : V) (rest : List Oper) (σ : S)
  | stuck (o : Oper) (σ : S)

def wantV (ds : List (Option Nat)) (s : Nat → V) (gd : Option (Nat × Bool)) : Option Bool := match gd with
  | none => some true
  | some (j, want) => match (ds[j]?).bind id with
    | some d => match s d with
      | .flat v => match v with
        | .bool t => match t with
          | true => some want
          | false => some (!want)
        | _ => none
      | .tup vs => match vs with
        | [] => some false
        | _ :: _ => none
      | _ => none
    | none => none
def gV (ds : List (Option Nat)) (s : Nat → V) (gd : Option (Nat × Bool)) : V := match gd with
  | none => .unk
  | some (j, _) => match (ds[j]?).bind id with
    | some d => s d
    | none => .unk
def splitG (v : V) (p : Prop) : Prop := match v with
  | .flat u => match u with
    | .bool t => (t = true → p) ∧ (t = false → p)
    | _ => p
  | _ => p
theorem splitG_elim {v : V} {p : Prop} (h : splitG v p) : p := by
  unfold splitG at h
  split at h
  · split at h
    · rename_i t
      cases t
      · exact h.2 rfl
      · exact h.1 rfl
    · exact h
  · exact h
theorem wantV_eq (ops : List Oper) (s : Nat → V) (o : Oper) {b : Bool} (h : wantV (ops.map (·.dst)) s o.guard = some b) : wantedV ops s o = some b := by
  unfold wantV at h
  unfold wantedV
  cases hg : o.guard with
  | none => rw [hg] at h; exact h
  | some jw =>
    obtain ⟨j, want⟩ := jw
    rw [hg] at h
    simp only [List.getElem?_map] at h ⊢
    cases hj : ops[j]? with
    | none => rw [hj] at h; cases h
    | some oj =>
      rw [hj] at h
      simp only [Option.map_some, Option.bind_some, id] at h ⊢
      cases hd : oj.dst with
      | none => rw [hd] at h; cases h
      | some d =>
        rw [hd] at h
        simp only at h ⊢
        cases hs : s d with
        | flat v =>
          rw [hs] at h
          cases v <;> simp only [reduceCtorEq] at h ⊢
          rename_i t
          cases t <;> simp only [Option.some.injEq] at h ⊢ <;> subst h <;> cases want <;> rfl
        | tup vs =>
          rw [hs] at h
          cases vs <;> simp only [reduceCtorEq] at h ⊢
          exact h
        | _ => rw [hs] at h; cases h

noncomputable def run (C : Cfg) (ds : List (Option Nat)) : List Oper → S → Prop → Out
  | [], σ, c => .done c σ
  | o :: rest, σ, c => match wantV ds (lk σ.sl) o.guard with
    | none => .wait c (gV ds (lk σ.sl) o.guard) (o :: rest) σ
    | some b => match b with
      | false => run C ds rest (σ.setU o.dst) c
      | true => match stepV C o σ with
        | .ok c' σ' => run C ds rest σ' (c ∧ c')
        | .call f args => match o.dst with
          | some d => .call c o rest d f args σ
          | none => .stuck o σ
        | .stuck => .stuck o σ

structure Ctx (P : Program) (E : Entry) (C : Cfg) where
  ops : List Oper
  dst : dstOk C.nt ops = true
  H : EnvOk P C.H
  L : LEnvOk P C.L
  G : GlOk E.g0 E.w0 C.gl

def WR (Θ : Ctx P E C) (rest : List Oper) (σ : S) (K : S → Prop) : Prop := ∀ k, Θ.ops.drop k = rest → WL P E C.nt Θ.ops k σ K
def CallG (Θ : Ctx P E C) (o : Oper) (rest : List Oper) (d : Nat) (f : FuncId) (args : List V) (σ : S) (K : S → Prop) : Prop :=
  o.dst = some d → wantedV Θ.ops (lk σ.sl) o = some true → stepV C o σ = .call f args → WR Θ (o :: rest) σ K
def Post (Θ : Ctx P E C) (out : Out) (K : S → Prop) : Prop := match out with
  | .done c σ => c ∧ K σ
  | .call c o rest d f args σ => c ∧ CallG Θ o rest d f args σ K
  | .wait c v rest σ => c ∧ splitG v (WR Θ rest σ K)
  | .stuck _ _ => False

theorem drop_cons {α : Type} {l r : List α} {k : Nat} {x : α} (h : l.drop k = x :: r) : l[k]? = some x ∧ l.drop (k + 1) = r := by
  have hk : k < l.length := by
    rcases Nat.lt_or_ge k l.length with q | q
    · exact q
    · rw [List.drop_eq_nil_of_le q] at h; cases h
  rw [List.drop_eq_getElem_cons hk] at h
  simp only [List.cons.injEq] at h
  exact ⟨by rw [List.getElem?_eq_getElem hk, h.1], h.2⟩

theorem WR.of_run (Θ : Ctx P E C) (K : S → Prop) : ∀ (rest : List Oper) (σ : S) (c : Prop), Post Θ (run C (Θ.ops.map (·.dst)) rest σ c) K → c ∧ WR Θ rest σ K
  | [], σ, c, h => by
    simp only [run, Post] at h
    refine ⟨h.1, fun k hk => WL.nil ?_ h.2⟩
    have := congrArg List.length hk
    simp at this
    omega
  | o :: rest, σ, c, h => by
    simp only [run] at h
    cases hw : wantV (Θ.ops.map (·.dst)) (lk σ.sl) o.guard with
    | none => rw [hw] at h; exact ⟨h.1, splitG_elim h.2⟩
    | some b =>
      rw [hw] at h
      have hw' := wantV_eq Θ.ops _ o hw
      cases b with
      | false =>
        simp only at h
        obtain ⟨h1, h2⟩ := WR.of_run Θ K rest _ c h
        refine ⟨h1, fun k hk => ?_⟩
        obtain ⟨k1, k2⟩ := drop_cons hk
        exact WL.skip Θ.dst k1 hw' (h2 (k + 1) k2)
      | true =>
        simp only at h
        cases hs : stepV C o σ with
        | ok c' σ' =>
          rw [hs] at h
          obtain ⟨⟨h1, h3⟩, h2⟩ := WR.of_run Θ K rest _ _ h
          refine ⟨h1, fun k hk => ?_⟩
          obtain ⟨k1, k2⟩ := drop_cons hk
          exact WL.step Θ.dst k1 hw' (stepV_sound Θ.H Θ.L Θ.G hs h3) (h2 (k + 1) k2)
        | call f args =>
          rw [hs] at h
          simp only at h
          cases hd : o.dst with
          | none => rw [hd] at h; exact h.elim
          | some d =>
            rw [hd] at h
            exact ⟨h.1, h.2 hd hw' hs⟩
        | stuck => rw [hs] at h; exact h.elim

theorem stepV_call {o : Oper} {σ : S} {f : FuncId} {args : List V} {d : Nat} (hd : o.dst = some d) (h : stepV C o σ = .call f args) :
    ∃ y cs xs ats, o.op = .call { callee := .value y, args := xs, argTypes := ats } ∧ evO (lk σ.sl) C.gl y = .fn f cs ∧ args = (xs.toList.map fun x => (evO (lk σ.sl) C.gl x).fz) ++ cs := by
  have evn : ∀ (d : Nat) (op : Op), evR C σ d op ≠ .call f args := fun d op => by
    unfold evR; split <;> simp
  unfold stepV at h
  rw [hd] at h
  simp only at h
  split at h
  · unfold takeV at h; (repeat' split at h) <;> first | (exact absurd h (evn _ _)) | cases h
  · unfold takeV at h; (repeat' split at h) <;> first | (exact absurd h (evn _ _)) | cases h
  · unfold takeTupV at h; (repeat' split at h) <;> first | (exact absurd h (evn _ _)) | cases h
  · unfold takeCellV at h; (repeat' split at h) <;> first | (exact absurd h (evn _ _)) | cases h
  · unfold allocV at h; (repeat' split at h) <;> cases h
  · unfold boxV at h; cases h
  · unfold bslV at h; (repeat' split at h) <;> cases h
  · unfold mkSlV at h; (repeat' split at h) <;> cases h
  · unfold cvtV at h; (repeat' split at h) <;> first | (exact absurd h (evn _ _)) | cases h
  · rename_i cl hop
    obtain ⟨callee, xs, ats⟩ := cl
    simp only at h
    split at h
    · split at h
      · unfold appV at h; (repeat' split at h) <;> cases h
      · exact absurd h (evn _ _)
    · split at h <;> try cases h
      rename_i hy
      exact ⟨_, _, xs, ats, hop, hy, rfl⟩
    · cases h
  · exact absurd h (evn _ _)

theorem CallG.intro {Θ : Ctx P E C} {o : Oper} {rest : List Oper} {d : Nat} {f : FuncId} {args : List V} {σ : S} {K : S → Prop} {R : V → (Nat → Option (List V)) → Nat → Prop} (hs : Sp P C.gl f args σ.mem σ.mn R) (hk : ∀ x ∈ args, x.known = true)
    (h : ∀ r mem mn, R r mem mn → WR Θ rest (σ.back d r mem mn) K) : CallG Θ o rest d f args σ K := by
  intro hd hw hst k hk'
  obtain ⟨k1, k2⟩ := drop_cons hk'
  obtain ⟨y, cs, xs, ats, hop, hy, hargs⟩ := stepV_call hd hst
  exact WL.call Θ.dst Θ.G k1 hd hop hy hw hargs hs hk (fun r mem mn hR => h r mem mn hR (k + 1) k2)

theorem WR.go {Θ : Ctx P E C} {rest : List Oper} {σ : S} {K : S → Prop} {ds : List (Option Nat)} (hds : ds = Θ.ops.map (·.dst)) (h : Post Θ (run C ds rest σ True) K) : WR Θ rest σ K := (WR.of_run Θ K rest σ True (hds ▸ h)).2

abbrev QC := Exit → S → Prop
def WC (P : Program) (E : Entry) (C : Cfg) (c : Code) (σ : S) (Q : QC) : Prop := ∀ a w, At E C.nt σ a w → c.wp P (fun e a' w' => ∃ σ', At E C.nt σ' a' w' ∧ Q e σ') a w
def nxt (K : S → Prop) (Q : QC) : QC
  | .normal, σ => K σ
  | e, σ => Q e σ
def blk (id : Nat) (Q : QC) : QC
  | .exit i, σ => if i = id then Q .normal σ else Q (.exit i) σ
  | e, σ => Q e σ

theorem WC.mono {c : Code} {σ : S} {Q Q' : QC} (h : WC P E C c σ Q) (hq : ∀ e σ, Q e σ → Q' e σ) : WC P E C c σ Q' := fun a w hA => wp_mono (h a w hA) (fun e a' w' ⟨σ', h1, h2⟩ => ⟨σ', h1, hq _ _ h2⟩)
theorem WC.skip {σ : S} {Q : QC} (h : Q .normal σ) : WC P E C .skip σ Q := fun a w hA => wp_skip ⟨σ, hA, h⟩
theorem WC.ret {σ : S} {Q : QC} (h : Q .ret σ) : WC P E C .ret σ Q := fun a w hA => wp_ret ⟨σ, hA, h⟩
theorem WC.exit {id : Nat} {σ : S} {Q : QC} (h : Q (.exit id) σ) : WC P E C (.exit id) σ Q := fun a w hA => wp_exit ⟨σ, hA, h⟩
theorem WC.seq {x y : Code} {σ : S} {Q : QC} (h : WC P E C x σ (nxt (fun σ' => WC P E C y σ' Q) Q)) : WC P E C (.seq x y) σ Q := fun a w hA => wp_seq (wp_mono (h a w hA) (fun e a' w' ⟨σ', h1, h2⟩ => by
  cases e with
  | normal => exact h2 a' w' h1
  | _ => exact ⟨σ', h1, h2⟩))
theorem WC.cond (hG : GlOk E.g0 E.w0 C.gl) {c : Operand} {x y : Code} {σ : S} {Q : QC} {t : Bool} (hc : evO (lk σ.sl) C.gl c = .flat (.bool t)) (ht : t = true → WC P E C x σ Q) (hf : t = false → WC P E C y σ Q) : WC P E C (.cond c x y) σ Q := fun a w hA => by
  obtain ⟨g, ob, h1, h2, h3, h4⟩ := id hA
  have := evInt (σ := σ) (dl := a.defers) h1.slot (hG.onto h1.onto) hc
  exact wp_cond_split (t := t) this (fun k => ht k a w hA) (fun k => hf k a w hA)
theorem WC.block {id : Nat} {c : Code} {σ : S} {Q : QC} (h : WC P E C c σ (blk id Q)) : WC P E C (.block id c) σ Q := fun a w hA => wp_block (wp_mono (h a w hA) (fun e a' w' ⟨σ', h1, h2⟩ => by
  cases e with
  | exit i =>
    simp only [Exit.inBlock]
    simp only [blk] at h2
    split
    · rename_i k; rw [if_pos k] at h2; exact ⟨σ', h1, h2⟩
    · rename_i k; rw [if_neg k] at h2; exact ⟨σ', h1, h2⟩
  | _ => exact ⟨σ', h1, h2⟩))

def Sub (E : Entry) (nt : Nat) (σ σ' : S) : Prop := ∀ a w, At E nt σ a w → At E nt σ' a w
theorem WC.sub {c : Code} {σ σ' : S} {Q : QC} (hs : Sub E C.nt σ σ') (h : WC P E C c σ' Q) : WC P E C c σ Q := fun a w hA => h a w (hs a w hA)

theorem exists_least {p : Nat → Prop} : (∃ n, p n) → ∃ n, p n ∧ ∀ m, p m → n ≤ m := by
  rintro ⟨n, hn⟩
  induction n using Nat.strongRecOn with
  | _ n ih =>
    by_cases h : ∃ m, m < n ∧ p m
    · obtain ⟨m, h1, h2⟩ := h
      exact ih m h1 h2
    · refine ⟨n, hn, fun m hm => ?_⟩
      rcases Nat.lt_or_ge m n with q | q
      · exact absurd ⟨m, q, hm⟩ h
      · exact q

open Classical in
theorem WC.loop {c : Code} {σ : S} {Q : QC} (I : Nat → S → Prop) {n0 : Nat} {σ0 : S} (h0 : I n0 σ0) (hs : Sub E C.nt σ σ0)
    (round : ∀ n σ, I n σ → WC P E C c σ (nxt (fun σ' => ∃ m σ'', m < n ∧ Sub E C.nt σ' σ'' ∧ I m σ'') Q)) : WC P E C (.loop c) σ Q := by
  intro a w hA
  have ex : ∀ {a w}, (∃ n σ, I n σ ∧ At E C.nt σ a w) → ∃ n, ∃ σ, I n σ ∧ At E C.nt σ a w := fun h => h
  let μ : Act → World → Nat := fun a w => if h : ∃ n, ∃ σ, I n σ ∧ At E C.nt σ a w then Classical.choose (exists_least h) else 0
  refine wp_loop (fun a w => ∃ n, ∃ σ, I n σ ∧ At E C.nt σ a w) μ ⟨n0, σ0, h0, hs a w hA⟩ (fun a w hI => ?_)
  have hμ : μ a w = Classical.choose (exists_least hI) := by simp only [μ]; rw [dif_pos hI]
  obtain ⟨⟨σ1, h1, h2⟩, _⟩ := Classical.choose_spec (exists_least hI)
  refine wp_mono (round _ σ1 h1 a w h2) (fun e a' w' ⟨σ', k1, k2⟩ => ?_)
  cases e with
  | normal =>
    obtain ⟨m, σ'', m1, m2, m3⟩ := k2
    have hI' : ∃ n, ∃ σ, I n σ ∧ At E C.nt σ a' w' := ⟨m, σ'', m3, m2 a' w' k1⟩
    refine ⟨hI', ?_⟩
    have hμ' : μ a' w' = Classical.choose (exists_least hI') := by simp only [μ]; rw [dif_pos hI']
    rw [hμ, hμ']
    exact Nat.lt_of_le_of_lt ((Classical.choose_spec (exists_least hI')).2 m ⟨σ'', m3, m2 a' w' k1⟩) m1
  | _ => exact ⟨σ', k1, k2⟩

theorem WC.region (hH : EnvOk P C.H) (hL : LEnvOk P C.L) (hG : GlOk E.g0 E.w0 C.gl) {id : Nat} {ops : Array Oper} {σ : S} {Q : QC} (hd : dstOk C.nt ops.toList = true)
    (h : ∀ (Θ : Ctx P E C) (K : S → Prop), Θ.ops = ops.toList → (∀ σ, Q .normal σ → K σ) → Post Θ (run C (ops.toList.map (·.dst)) ops.toList σ True) K) : WC P E C (.region id ops false) σ Q := by
  intro a w hA
  refine wp_region ?_
  let Θ : Ctx P E C := ⟨ops.toList, hd, hH, hL, hG⟩
  have := (WR.of_run Θ (fun σ => Q .normal σ) ops.toList σ True (h Θ _ rfl (fun _ k => k))).2 0 rfl (fun e a' w' => ∃ σ', At E C.nt σ' a' w' ∧ Q e σ') (fun σ' a' w' h1 h2 => ⟨σ', h1, h2⟩) a w hA
  have e : Θ.ops = ops.toList := rfl
  simp only [e, List.drop_zero, Array.toArray_toList, Array.length_toList] at this
  exact this

end Go.VL

set_option linter.unusedVariables false
set_option linter.unusedSimpArgs false
open Go.RowKit
namespace Go.VL
variable {P : Program} {E : Entry} {w : World} {C : Cfg}

def okRes : V → Prop
  | .tup _ | .unk => False
  | _ => True
def resV (H : Env) (σ : S) : ResultVar → Option (Prop × V)
  | .tmp t => some (okRes (lk σ.sl t), lk σ.sl t)
  | .cell a t => match lk σ.sl a with
    | .bp b off => match ldV H σ.mem t (.bp b off) with
      | some (c, x) => some (c ∧ okRes x, x)
      | none => none
    | _ => none
def resM (tm : Array Value) : ResultVar → Sem Value
  | .tmp t => pure (tm.getD t undef)
  | .cell a t => do loadVar t (← asAddr (tm.getD a undef))
def resL (H : Env) (σ : S) : List ResultVar → Option (Prop × List V)
  | [] => some (True, [])
  | r :: rs => match resV H σ r, resL H σ rs with
    | some (c, x), some (c', xs) => some (c ∧ c', x :: xs)
    | _, _ => none
def resA (H : Env) (σ : S) (rs : List ResultVar) : Option (Prop × V) := match rs with
  | [r] => resV H σ r
  | rs => match resL H σ rs with
    | some (c, xs) => some (c, .tup xs)
    | none => none

def tmpOf : ResultVar → Option Nat
  | .tmp t => some t
  | .cell _ _ => none
def rsOf (ob : Pos → Option Nat) (rs : List ResultVar) : Pos → Option Nat
  | .slot i j => if i = 0 then match rs[j]? with | some (.tmp t) => ob (.slot t 0) | _ => none else none
  | .cell b o => ob (.cell b o)
def distinctT (rs : List ResultVar) : Prop := ∀ (i j : Nat) (t : Nat), (rs[i]?).bind tmpOf = some t → (rs[j]?).bind tmpOf = some t → i = j

theorem ldV_fz {H : Env} {mem : Nat → Option (List V)} {t : TypeId} {x y : V} {c : Prop} (h : ldV H mem t x = some (c, y)) : ∃ z : V, y = z.fz := by
  unfold ldV at h
  split at h <;> try cases h
  split at h <;> try cases h
  split at h <;> try cases h
  · exact ⟨_, rfl⟩
  · split at h <;> cases h
    exact ⟨_, rfl⟩

theorem resV_rel (hH : EnvOk P C.H) {g : G} {ob : Pos → Option Nat} {σ : S} {tm : Array Value} (h : St E g ob (lk σ.sl) σ.mem tm w) {r : ResultVar} {c : Prop} {x : V} (hr : resV C.H σ r = some (c, x)) (hc : c) :
    ∃ v, (resM tm r).run P w = .ok v w ∧ VR g w x v ∧ okRes x ∧ ∀ sz n cs, x = .sl true sz n cs → ∃ t, r = .tmp t ∧ v = tm.getD t undef := by
  cases r with
  | tmp t =>
    simp only [resV, Option.some.injEq, Prod.mk.injEq] at hr
    obtain ⟨rfl, rfl⟩ := hr
    exact ⟨_, rfl, h.slot t (by intro k; rw [k] at hc; exact hc), hc, fun _ _ _ _ => ⟨t, rfl, rfl⟩⟩
  | cell a t =>
    simp only [resV] at hr
    split at hr <;> try cases hr
    rename_i b off ha
    have hv := h.slot a (by rw [ha]; simp)
    rw [ha] at hv
    split at hr <;> try cases hr
    rename_i c0 hr
    obtain ⟨hc, hok⟩ := hc
    obtain ⟨v, v1, v2⟩ := ldV_gives (P := P) hH (w := w) (g := g) (mem := σ.mem) h.box t hv c0 x hr hc
    refine ⟨v, ?_, v2, hok, fun sz n cs e => ?_⟩
    · show (do loadVar t (← asAddr (tm.getD a undef)) : Sem Value).run P w = _
      generalize tm.getD a undef = q at hv v1 ⊢
      cases hv
      simp only [Instr.loadAt, Instr.sureAddr, Sem.run_bind, Sem.run_pure, Result.andThen_ok] at v1
      simp only [asAddr, Sem.run_bind, Sem.run_pure, Result.andThen_ok, v1]
    · obtain ⟨z, hz⟩ := ldV_fz hr
      rw [e] at hz
      cases z <;> simp [V.fz] at hz

theorem resL_rel (hH : EnvOk P C.H) {g : G} {ob : Pos → Option Nat} {σ : S} {tm : Array Value} (h : St E g ob (lk σ.sl) σ.mem tm w) : ∀ {rs : List ResultVar} {c : Prop} {xs : List V}, resL C.H σ rs = some (c, xs) → c →
    ∃ vs : List Value, (rs.mapM (resM tm)).run P w = .ok vs w ∧ vs.length = xs.length ∧ xs.length = rs.length ∧ (∀ i, i < xs.length → VR g w (xs.getD i .unk) (vs.getD i undef)) ∧
      ∀ i sz n cs, xs[i]? = some (.sl true sz n cs) → ∃ t, rs[i]? = some (.tmp t) ∧ vs.getD i undef = tm.getD t undef ∧ lk σ.sl t = .sl true sz n cs
  | [], c, xs, hr, hc => by
    simp only [resL, Option.some.injEq, Prod.mk.injEq] at hr
    obtain ⟨_, rfl⟩ := hr
    exact ⟨[], by simp, rfl, rfl, fun i hi => by simp at hi, fun i sz n cs h => by simp at h⟩
  | r :: rs, c, xs, hr, hc => by
    simp only [resL] at hr
    cases h1 : resV C.H σ r with
    | none => rw [h1] at hr; cases hr
    | some p =>
      obtain ⟨c1, x⟩ := p
      cases h2 : resL C.H σ rs with
      | none => rw [h1, h2] at hr; cases hr
      | some q =>
        obtain ⟨c2, ys⟩ := q
        rw [h1, h2] at hr
        simp only [Option.some.injEq, Prod.mk.injEq] at hr
        obtain ⟨rfl, rfl⟩ := hr
        obtain ⟨v, v1, v2, _, v3⟩ := resV_rel hH h h1 hc.1
        obtain ⟨vs, w1, w2, w3, w4, w5⟩ := resL_rel hH h h2 hc.2
        refine ⟨v :: vs, ?_, by simp [w2], by simp [w3], fun i hi => ?_, fun i sz n cs hi => ?_⟩
        · rw [List.mapM_cons]
          simp only [Sem.run_bind]
          rw [v1]
          simp only [Result.andThen_ok, w1, Sem.run_pure]
        · cases i with
          | zero => simpa using v2
          | succ i => have := w4 i (by simpa using hi); simpa using this
        · cases i with
          | zero =>
            simp only [List.getElem?_cons_zero, Option.some.injEq] at hi
            obtain ⟨t, k1, k2⟩ := v3 sz n cs hi
            subst k1
            refine ⟨t, rfl, by simpa using k2, ?_⟩
            simp only [resV, Option.some.injEq, Prod.mk.injEq] at h1
            rw [← hi]; exact h1.2
          | succ i =>
            obtain ⟨t, k1, k2, k3⟩ := w5 i sz n cs (by simpa using hi)
            exact ⟨t, by simpa using k1, by simpa using k2, k3⟩

def argSl : Nat → List V → List (Nat × V)
  | _, [] => []
  | k, x :: r => (k, x) :: argSl (k + 1) r
theorem lk_argSl : ∀ (l : List V) (k i : Nat), lk (argSl k l) i = if k ≤ i ∧ i < k + l.length then l.getD (i - k) .unk else .unk
  | [], k, i => by simp [argSl, lk]
  | x :: r, k, i => by
    simp only [argSl, lk, List.length_cons]
    by_cases h : k = i
    · subst h; rw [if_pos rfl, if_pos (by omega), Nat.sub_self]; rfl
    · rw [if_neg h, lk_argSl r (k + 1) i]
      by_cases h2 : k + 1 ≤ i ∧ i < k + 1 + r.length
      · rw [if_pos h2, if_pos (by omega), show i - k = (i - (k + 1)) + 1 by omega, List.getD_cons_succ]
      · rw [if_neg h2, if_neg (by omega)]

theorem Sp.intro (hH : EnvOk P C.H) {f : FuncId} {fn : Func} {c : Code} {args : List V} {mem : Nat → Option (List V)} {mn : Nat} {R : V → (Nat → Option (List V)) → Nat → Prop} (hf : P.funcs[f]? = some fn) (hn : (fn.name == "runtime.NumGoroutine") = false)
    (hb : fn.body = some c) (hnt : fn.ntmps = C.nt) (hle : args.length ≤ C.nt) (hdis : distinctT fn.results.toList) (hno : ∀ x ∈ args, noOwnB x = true ∧ ∀ cs, x ≠ .tup cs)
    (h : ∀ E, GlOk E.g0 E.w0 C.gl → (∀ b, mn ≤ b → mem b = none) → WC P E C c ⟨argSl 0 args, mem, mn⟩ (fun e σ => (e = .normal ∨ e = .ret) ∧ ∃ k r, resA C.H σ fn.results.toList = some (k, r) ∧ k ∧ r ≠ .unk ∧ R r σ.mem σ.mn)) : Sp P C.gl f args mem mn R := by
  refine ⟨⟨fn, hf, hn, by rw [hb]; rfl⟩, fun g ob w vs hmn hG hsz hv hob hst => ?_⟩
  have hmem : ∀ b, mn ≤ b → mem b = none := fun b hb => by
    cases hm : mem b with
    | none => rfl
    | some l => have := (hst.box b l hm).1.1; omega
  have hwc := h (entryOf g ob mem w) hG hmem
  have hnoOwn : ∀ i j sz n cs, comp (lk (argSl 0 args) i) j ≠ some (.sl true sz n cs) := fun i j sz n cs hk => by
    rw [lk_argSl] at hk
    split at hk
    · rename_i hi
      have hi' : i < args.length := by omega
      have hmem' : args.getD (i - 0) .unk ∈ args := by
        rw [Nat.sub_zero, List.getD_eq_getElem?_getD, List.getElem?_eq_getElem hi', Option.getD_some]; exact List.getElem_mem _
      obtain ⟨q1, q2⟩ := hno _ hmem'
      generalize args.getD (i - 0) .unk = x at *
      cases x with
      | tup cs => exact q2 cs rfl
      | sl own a b cs => cases j <;> simp [comp, noOwnB] at hk q1; simp_all
      | _ => cases j <;> simp [comp] at hk
    · have := comp_unk _ _ hk; cases this
  have hA : At (entryOf g ob mem w) C.nt ⟨argSl 0 args, mem, mn⟩ { tmps := vs ++ Array.replicate (fn.ntmps - vs.size) undef, defers := [] } w := by
    refine ⟨g, ob, ?_, hmn, rfl, by simp; omega⟩
    exact { hst with
      slot := fun i hi => by
        simp only at hi ⊢
        rw [lk_argSl] at hi ⊢
        split at hi
        · rename_i hh
          rw [if_pos hh]
          have hi' : i < args.length := by omega
          have := hv i hi'
          have e : (vs ++ Array.replicate (fn.ntmps - vs.size) undef).getD i undef = vs.getD i undef := by
            rw [Array.getD_eq_getD_getElem?, Array.getElem?_append_left (by omega), Array.getD_eq_getD_getElem?]
          rw [e]; simpa using this
        · exact absurd rfl hi
      ownS := fun i j sz n cs hk => absurd hk (hnoOwn i j sz n cs) }
  refine calls_of_wp hf hb (wp_mono (hwc _ w hA) (fun e a' w' ⟨σ', h1, h2⟩ => ?_))
  obtain ⟨he, k, r, hr, hk, hru, hR⟩ := h2
  obtain ⟨g', ob', hs, hm', hdf, hnt'⟩ := h1
  have hsub : ∀ p blk, rsOf ob' fn.results.toList p = some blk → ∃ q, ob' q = some blk ∧ ((∃ j t, p = .slot 0 j ∧ fn.results.toList[j]? = some (.tmp t) ∧ q = .slot t 0) ∨ ∃ b o, p = .cell b o ∧ q = .cell b o) := fun p blk hp => by
    cases p with
    | slot i j =>
      simp only [rsOf] at hp
      split at hp
      · rename_i hi
        subst hi
        split at hp
        · rename_i t ht; exact ⟨_, hp, .inl ⟨j, t, rfl, ht, rfl⟩⟩
        · cases hp
      · cases hp
    | cell b o => exact ⟨_, hp, .inr ⟨b, o, rfl, rfl⟩⟩
  -- the state with the result alone
  have final : ∀ v : Value, VR g' w' r v → (∀ j sz n cs, comp r j = some (.sl true sz n cs) → OwnAt g' w' (rsOf ob' fn.results.toList (.slot 0 j)) sz n (vcomp v j)) →
      St (entryOf g ob mem w) g' (rsOf ob' fn.results.toList) (upd (fun _ => .unk) 0 r) σ'.mem #[v] w' := fun v hvr hown => {
    hs with
    slot := fun i hi => by
      by_cases e : i = 0
      · subst e; rw [upd_same]; exact hvr
      · rw [upd_ne _ _ e] at hi; exact absurd rfl hi
    ownS := fun i j sz n cs hi => by
      by_cases e : i = 0
      · subst e; rw [upd_same] at hi; exact hown j sz n cs hi
      · rw [upd_ne _ _ e] at hi; have := comp_unk _ _ hi; cases this
    ownC := fun b o l sz n cs hb' hl => hs.ownC b o l sz n cs hb' hl
    obInj := fun p q blk hp hq => by
      obtain ⟨p', k1, k2⟩ := hsub p blk hp
      obtain ⟨q', l1, l2⟩ := hsub q blk hq
      have e := hs.obInj _ _ _ k1 l1
      rcases k2 with ⟨j, t, rfl, k3, rfl⟩ | ⟨b, o, rfl, rfl⟩ <;> rcases l2 with ⟨j', t', rfl, l3, rfl⟩ | ⟨b', o', rfl, rfl⟩
      · simp only [Pos.slot.injEq, and_true] at e
        subst e
        rw [hdis j j' t (by rw [k3]; rfl) (by rw [l3]; rfl)]
      · cases e
      · cases e
      · exact e
    obBox := fun p blk b hp hb' => by obtain ⟨q, k1, _⟩ := hsub p blk hp; exact hs.obBox q blk b k1 hb'
    obLt := fun p blk hp => by obtain ⟨q, k1, _⟩ := hsub p blk hp; exact hs.obLt q blk k1
    obFresh := fun p blk hp => by obtain ⟨q, k1, _⟩ := hsub p blk hp; exact hs.obFresh q blk k1 }
  have own_of : ∀ (j t sz n : Nat) (cs : List V), fn.results.toList[j]? = some (.tmp t) → lk σ'.sl t = .sl true sz n cs → OwnAt g' w' (rsOf ob' fn.results.toList (.slot 0 j)) sz n (a'.tmps.getD t undef) := fun j t sz n cs hj ht => by
    have e1 : rsOf ob' fn.results.toList (.slot 0 j) = ob' (.slot t 0) := by simp [rsOf, hj]
    rw [e1]
    have := hs.ownS t 0 sz n cs (by rw [ht]; rfl)
    have hvt := hs.slot t (by rw [ht]; simp)
    rw [ht] at hvt
    generalize a'.tmps.getD t undef = u at *
    cases hvt <;> exact this
  have done : ∀ v : Value, (results fn a'.tmps).run P w' = .ok v w' → St (entryOf g ob mem w) g' (rsOf ob' fn.results.toList) (upd (fun _ => .unk) 0 r) σ'.mem #[v] w' →
      bodyPost P fn (fun e w' => ∃ v r mem' g' ob', e = .returned v ∧ R r mem' g'.mn ∧ r ≠ .unk ∧ St (entryOf g ob mem w) g' ob' (upd (fun _ => .unk) 0 r) mem' #[v] w') e a' w' := fun v h1 h2 => by
    rcases he with rfl | rfl
    · exact ⟨hdf, v, h1, v, r, σ'.mem, g', _, rfl, by rw [hm']; exact hR, hru, h2⟩
    · exact ⟨hdf, v, h1, v, r, σ'.mem, g', _, rfl, by rw [hm']; exact hR, hru, h2⟩
  have runs : ∀ vs : List Value, (fn.results.toList.mapM (resM a'.tmps)).run P w' = .ok vs w' → (results fn a'.tmps).run P w' = .ok (if h : vs.toArray.size = 1 then vs.toArray[0] else .tuple vs.toArray) w' := fun vs hvs => by
    have e : results fn a'.tmps = (do let vs ← fn.results.mapM (resM a'.tmps); pure (if h : vs.size = 1 then vs[0] else .tuple vs)) := by
      unfold results
      congr 1
    rw [e, Array.mapM_eq_mapM_toList]
    simp only [Sem.run_bind, Sem.run_map, hvs, Result.andThen_ok, Sem.run_pure]
  unfold resA at hr
  split at hr
  · rename_i rv hrv
    obtain ⟨v, v1, v2, hok, v3⟩ := resV_rel hH hs hr hk
    refine done v ?_ (final v v2 (fun j sz n cs hj => ?_))
    · have := runs [v] (by
        rw [hrv, List.mapM_cons]
        simp only [Sem.run_bind]
        rw [v1]
        simp)
      rw [this]; rfl
    · have hj0 : j = 0 ∧ r = .sl true sz n cs := by
        cases r with
        | tup _ => exact hok.elim
        | _ => cases j <;> simp [comp] at hj ⊢; try exact hj
      obtain ⟨rfl, hr'⟩ := hj0
      obtain ⟨t, k1, k2⟩ := v3 sz n cs hr'
      subst k1
      simp only [resV, Option.some.injEq, Prod.mk.injEq] at hr
      have := own_of 0 t sz n cs (by rw [hrv]; rfl) (by rw [hr.2, hr'])
      rw [← k2] at this
      have hv0 : vcomp v 0 = v := by
        rw [hr'] at v2
        cases v2 <;> rfl
      rw [hv0]; exact this
  · rename_i hne
    cases hl : resL C.H σ' fn.results.toList with
    | none => rw [hl] at hr; cases hr
    | some p =>
      obtain ⟨c', xs⟩ := p
      rw [hl] at hr
      simp only [Option.some.injEq, Prod.mk.injEq] at hr
      obtain ⟨rfl, rfl⟩ := hr
      obtain ⟨vs', w1, w2, w3, w4, w5⟩ := resL_rel hH hs hl hk
      have hlen : ¬ vs'.toArray.size = 1 := by
        intro e
        have e1 : fn.results.toList.length = 1 := by rw [← w3, ← w2]; simpa using e
        obtain ⟨q, hq⟩ := List.length_eq_one_iff.1 e1
        exact hne q hq
      have hrun := runs vs' w1
      rw [dif_neg hlen] at hrun
      refine done _ hrun (final _ (.tup xs vs'.toArray (by simp [w2]) (fun i hi => by have := w4 i hi; simpa [List.getD_eq_getElem?_getD, Array.getD_eq_getD_getElem?] using this)) (fun j sz n cs hj => ?_))
      obtain ⟨t, k1, k2, k3⟩ := w5 j sz n cs hj
      have e2 : vcomp (.tuple vs'.toArray) j = a'.tmps.getD t undef := by
        rw [← k2]; simp [vcomp, List.getD_eq_getElem?_getD, Array.getD_eq_getD_getElem?]
      rw [e2]
      exact own_of j t sz n cs k1 k3


theorem WC.regionSeq (hH : EnvOk P C.H) (hL : LEnvOk P C.L) (hG : GlOk E.g0 E.w0 C.gl) {id : Nat} {ops : Array Oper} {y : Code} {σ : S} {Q : QC} (hd : dstOk C.nt ops.toList = true)
    (h : ∀ (Θ : Ctx P E C) (K : S → Prop), Θ.ops = ops.toList → (∀ σ, WC P E C y σ Q → K σ) → Post Θ (run C (ops.toList.map (·.dst)) ops.toList σ True) K) : WC P E C (.seq (.region id ops false) y) σ Q :=
  WC.seq (WC.region hH hL hG hd h)

end Go.VL

set_option linter.unusedVariables false
set_option linter.unusedSimpArgs false
open Go.RowKit
namespace Go.VL
variable {P : Program} {E : Entry} {w : World} {C : Cfg}

def SubV (x y : V) : Prop := y = x ∨ (x = .nil ∧ ∃ own sz, y = .sl own sz 0 []) ∨ (∃ sz n cs, x = .sl true sz n cs ∧ y = .sl false sz n cs)
theorem SubV.refl (x : V) : SubV x x := .inl rfl
theorem SubV.nil (own : Bool) (sz : Nat) : SubV .nil (.sl own sz 0 []) := .inr (.inl ⟨rfl, own, sz, rfl⟩)
theorem SubV.fz (sz n : Nat) (cs : List V) : SubV (.sl true sz n cs) (.sl false sz n cs) := .inr (.inr ⟨sz, n, cs, rfl, rfl⟩)
theorem SubV.of_eq {x y : V} (h : y = x) : SubV x y := .inl h

def subL (σ : S) : List (Nat × V) → Prop
  | [] => True
  | (i, y) :: r => SubV (lk σ.sl i) y ∧ subL σ r
theorem subL_lk {σ : S} : ∀ {l : List (Nat × V)}, subL σ l → ∀ i, lk l i ≠ .unk → SubV (lk σ.sl i) (lk l i)
  | [], _, i, h => absurd rfl h
  | (j, y) :: r, h, i, hi => by
    simp only [lk] at hi ⊢
    split
    · rename_i e; subst e; exact h.1
    · rename_i e; rw [if_neg e] at hi; exact subL_lk h.2 i hi

def MemSub (m m' : Nat → Option (List V)) : Prop := ∀ b, m' b ≠ none → m' b = m b
theorem MemSub.refl (m : Nat → Option (List V)) : MemSub m m := fun _ _ => rfl
theorem MemSub.upd {m m' : Nat → Option (List V)} {k : Nat} {x : Option (List V)} (h : MemSub m m') (hk : m' k = none) : MemSub (upd m k x) m' := fun b hb => by
  have : b ≠ k := by intro e; rw [e] at hb; exact hb hk
  rw [upd_ne _ _ this]; exact h b hb
theorem MemSub.trans {a b c : Nat → Option (List V)} (h : MemSub a b) (k : MemSub b c) : MemSub a c := fun i hi => by
  have := k i hi
  rw [this]; exact h i (by rw [← this]; exact hi)

theorem Sub.of {nt : Nat} {σ σ' : S} (hs : subL σ σ'.sl) (hm : MemSub σ.mem σ'.mem) (hn : σ'.mn = σ.mn) : Sub E nt σ σ' := by
  rintro a w ⟨g, ob, h1, h2, h3, h4⟩
  have h1' := h1.forgetMem (mem' := σ'.mem) hm
  refine ⟨g, ob, ?_, by rw [hn]; exact h2, h3, h4⟩
  exact { h1' with
    slot := fun i hi => by
      have hx := subL_lk hs i hi
      rcases hx with e | ⟨e1, own, sz, e2⟩ | ⟨sz, n, cs, e1, e2⟩
      · rw [e]; exact h1.slot i (by rw [← e]; exact hi)
      · have := h1.slot i (by rw [e1]; simp)
        rw [e1] at this
        rw [e2]
        generalize a.tmps.getD i undef = u at this
        cases this
        exact .sl0 own sz none 0
      · have := h1.slot i (by rw [e1]; simp)
        rw [e1] at this
        rw [e2]; exact this.own
    ownS := fun i j sz n cs hi => by
      have hne : lk σ'.sl i ≠ .unk := by intro e; rw [e] at hi; have := comp_unk _ _ hi; cases this
      rcases subL_lk hs i hne with e | ⟨e1, own, sz', e2⟩ | ⟨sz', n', cs', e1, e2⟩
      · rw [e] at hi; exact h1.ownS i j sz n cs hi
      · rw [e2] at hi
        have := h1.slot i (by rw [e1]; simp)
        rw [e1] at this
        generalize a.tmps.getD i undef = u at this
        cases this
        cases j with
        | zero =>
          simp only [comp, Option.some.injEq, V.sl.injEq] at hi
          obtain ⟨_, _, rfl, _⟩ := hi
          exact ⟨rfl, .inl rfl⟩
        | succ j => simp [comp] at hi
      · rw [e2] at hi
        cases j <;> simp [comp] at hi }

theorem Sub.refl {nt : Nat} (σ : S) : Sub E nt σ σ := fun _ _ h => h

def distinctB : List ResultVar → List Nat → Bool
  | [], _ => true
  | r :: rs, seen => match tmpOf r with
    | some t => !seen.contains t && distinctB rs (t :: seen)
    | none => distinctB rs seen
theorem distinctB_not : ∀ (rs : List ResultVar) (seen : List Nat), distinctB rs seen = true → ∀ (i t : Nat), (rs[i]?).bind tmpOf = some t → t ∉ seen
  | [], _, _, i, t, h => by simp at h
  | r :: rs, seen, hb, i, t, h => by
    simp only [distinctB] at hb
    cases i with
    | zero =>
      simp only [List.getElem?_cons_zero, Option.bind_some] at h
      rw [h] at hb
      simp only [Bool.and_eq_true, Bool.not_eq_true', List.contains_eq_mem, decide_eq_false_iff_not] at hb
      exact hb.1
    | succ i =>
      simp only [List.getElem?_cons_succ] at h
      cases hr : tmpOf r with
      | none => rw [hr] at hb; exact distinctB_not rs seen hb i t h
      | some u =>
        rw [hr] at hb
        simp only [Bool.and_eq_true] at hb
        exact fun hm => distinctB_not rs (u :: seen) hb.2 i t h (List.mem_cons_of_mem _ hm)
theorem distinctB_spec : ∀ (rs : List ResultVar) (seen : List Nat), distinctB rs seen = true → distinctT rs
  | [], _, _ => fun i j t h => by simp at h
  | r :: rs, seen, hb => by
    intro i j t hi hj
    simp only [distinctB] at hb
    have tail : ∃ s, distinctB rs s = true ∧ ∀ u, tmpOf r = some u → u ∈ s := by
      cases hr : tmpOf r with
      | none => rw [hr] at hb; exact ⟨seen, hb, fun u h => by cases h⟩
      | some u =>
        rw [hr] at hb
        simp only [Bool.and_eq_true] at hb
        exact ⟨_, hb.2, fun v h => by cases h; simp⟩
    obtain ⟨s, h1, h2⟩ := tail
    cases i with
    | zero =>
      cases j with
      | zero => rfl
      | succ j =>
        simp only [List.getElem?_cons_zero, Option.bind_some, List.getElem?_cons_succ] at hi hj
        exact absurd (h2 t hi) (distinctB_not rs s h1 j t hj)
    | succ i =>
      cases j with
      | zero =>
        simp only [List.getElem?_cons_zero, Option.bind_some, List.getElem?_cons_succ] at hi hj
        exact absurd (h2 t hj) (distinctB_not rs s h1 i t hi)
      | succ j =>
        simp only [List.getElem?_cons_succ] at hi hj
        rw [distinctB_spec rs s h1 i j t hi hj]

end Go.VL

set_option linter.unusedVariables false
set_option linter.unusedSimpArgs false
open Go.RowKit
namespace Go.VL
variable {K : S → Prop} {Q : QC} {σ : S} {i j : Nat}
theorem nxt_n (h : K σ) : nxt K Q .normal σ := h
theorem nxt_e (h : Q (.exit i) σ) : nxt K Q (.exit i) σ := h
theorem nxt_r (h : Q .ret σ) : nxt K Q .ret σ := h
theorem blk_n (h : Q .normal σ) : blk i Q .normal σ := h
theorem blk_r (h : Q .ret σ) : blk i Q .ret σ := h
theorem blk_hit (h : Q .normal σ) : blk i Q (.exit i) σ := by simp only [blk, if_true]; exact h
theorem blk_miss (hij : (i == j) = false) (h : Q (.exit i) σ) : blk j Q (.exit i) σ := by simp only [blk]; rw [if_neg (by simpa using hij)]; exact h

theorem boxV_agg (C : Cfg) (sl : List (Nat × V)) (mem : Nat → Option (List V)) (mn d : Nat) (cs : List V) : boxV C ⟨sl, mem, mn⟩ d (.agg cs) = .ok ((∀ z ∈ cs.map V.fz, noOwnB z = true) ∧ d < C.nt) ⟨(d, .bp mn 0) :: sl, upd mem mn (some (cs.map V.fz)), mn + 1⟩ := by
  simp only [boxV, V.cells, ne_eq, reduceCtorEq, not_false_eq_true, true_and]
theorem boxV_flat (C : Cfg) (sl : List (Nat × V)) (mem : Nat → Option (List V)) (mn d : Nat) (v : Value) : boxV C ⟨sl, mem, mn⟩ d (.flat v) = .ok (d < C.nt) ⟨(d, .bp mn 0) :: sl, upd mem mn (some [.flat v]), mn + 1⟩ := by
  simp [boxV, V.cells, V.fz, noOwnB]
theorem rep1 (z : List V) : rep 1 z = z := by simp [rep]
theorem rep0 (z : List V) : rep 0 z = [] := by simp [rep]
theorem rep2 (z : V) : rep 2 [z] = [z, z] := rfl
theorem rep3 (z : V) : rep 3 [z] = [z, z, z] := rfl
theorem rep4 (z : V) : rep 4 [z] = [z, z, z, z] := rfl
theorem rep_one (n : Nat) (z : V) : rep n [z] = List.replicate n z := by
  induction n with
  | zero => rfl
  | succ n ih => rw [List.replicate_succ, ← ih]; rfl
theorem putV_z (c x : V) (cs : List V) : putV (c :: cs) 0 [x] = x :: cs := by simp [putV]
theorem putV_s (c : V) (cs xs : List V) (n : Nat) : putV (c :: cs) (n + 1) xs = c :: putV cs n xs := by
  simp only [putV, List.take_succ_cons, List.cons_append]
  rw [show n + 1 + xs.length = (n + xs.length) + 1 by omega, List.drop_succ_cons]
theorem putV_set (cs : List V) (x : V) (n : Nat) (h : n < cs.length) : putV cs n [x] = cs.set n x := by
  simp only [putV, List.length_singleton]
  rw [List.set_eq_take_append_cons_drop, if_pos h]
  simp
theorem wi {n : Int} (h : -9223372036854775808 ≤ n) (h' : n < 9223372036854775808) : IntKind.i64.wrap n = n := by rw [IntKind.wrap_i64]; omega
theorem wu {n : Int} (h : 0 ≤ n) (h' : n < 18446744073709551616) : IntKind.u64.wrap n = n := by simp [IntKind.wrap, IntKind.bits, IntKind.signed]; omega
def bs (l : List UInt8) : ByteArray := ⟨l.toArray⟩
def bv (l : List UInt8) : List V := l.map fun b => .flat (.int .u8 b.toNat)
theorem bv_append (a b : List UInt8) : bv (a ++ b) = bv a ++ bv b := by simp [bv]
theorem bv_length (a : List UInt8) : (bv a).length = a.length := by simp [bv]
theorem bv_app (a b : List UInt8) : bv a ++ bv b = bv (a ++ b) := (bv_append a b).symm
theorem bv_one (b : UInt8) : bv [b] = [.flat (.int .u8 b.toNat)] := rfl
theorem bytesC_bs (l : List UInt8) : bytesC (bs l) = bv l := by simp [bytesC, bs, bv]
theorem bv_getD (l : List UInt8) (i : Nat) (h : i < l.length) : (bv l).getD i .unk = .flat (.int .u8 (l.getD i 0).toNat) := by simp [bv, List.getD_eq_getElem?_getD, h]
theorem allBytes_bv (l : List UInt8) : AllBytes (bv l) := by
  intro x hx
  simp only [bv, List.mem_map] at hx
  obtain ⟨b, _, rfl⟩ := hx
  rfl

theorem bs_size (l : List UInt8) : (bs l).size = l.length := rfl
theorem bs_append (a b : List UInt8) : bs a ++ bs b = bs (a ++ b) := by
  apply ByteArray.ext
  rw [ByteArray.data_append]
  simp [bs]
theorem bs_inj (a b : List UInt8) : (bs a = bs b) = (a = b) := by
  apply propext
  refine ⟨fun h => ?_, fun h => h ▸ rfl⟩
  have := congrArg (fun x : ByteArray => x.data.toList) h
  simpa [bs] using this
theorem bs_extract (l : List UInt8) (i j : Nat) : (bs l).extract i j = bs ((l.take j).drop i) := by
  apply ByteArray.ext
  simp [bs, ByteArray.data_extract, List.drop_take]
def sv (l : List (List UInt8)) : List V := l.map fun s => .flat (.string (bs s))
theorem sv_length (l : List (List UInt8)) : (sv l).length = l.length := by simp [sv]
theorem sv_getD (l : List (List UInt8)) (i : Nat) (h : i < l.length) : (sv l).getD i .unk = .flat (.string (bs (l.getD i []))) := by simp [sv, List.getD_eq_getElem?_getD, h]
theorem nat0 : ((0 : Nat) : Int) = 0 := rfl
theorem nat1 : ((1 : Nat) : Int) = 1 := rfl
theorem imax : IntKind.i64.max = 9223372036854775807 := rfl
theorem allBytes_one (n : Int) : AllBytes [.flat (.int .u8 n)] := by
  intro x hx
  simp only [List.mem_cons, List.not_mem_nil, or_false] at hx
  subst hx; rfl
theorem numOf_bv (l : List UInt8) : (bv l).map numOf = l.map fun b => (b.toNat : Int) := by simp [bv, numOf]
theorem bytesV_bv (l : List UInt8) : bytesV (bv l) = bs l := by
  rw [bytesV, numOf_bv]
  simp only [strOfNums, bs]
  congr 1
  simp only [List.map_map]
  congr 1
  refine (List.map_congr_left (g := id) fun b _ => ?_).trans (List.map_id _)
  simp
theorem bytesV_one (b : UInt8) : bytesV [.flat (.int .u8 (b.toNat : Int))] = bs [b] := bytesV_bv [b]
theorem bs_bytes (l : List UInt8) : (bs l).data.toList.map (fun b => V.flat (.int .u8 (b.toNat : Int))) = bv l := rfl
theorem one_bv (l : List UInt8) : ∀ z ∈ bv l, oneB z = true := by
  intro z hz
  simp only [bv, List.mem_map] at hz
  obtain ⟨b, _, rfl⟩ := hz
  rfl
theorem one_sv (l : List (List UInt8)) : ∀ z ∈ sv l, oneB z = true := by
  intro z hz
  simp only [sv, List.mem_map] at hz
  obtain ⟨b, _, rfl⟩ := hz
  rfl
theorem WC.regionTo {P : Program} {E : Entry} {C : Cfg} (mid : S) (hH : EnvOk P C.H) (hL : LEnvOk P C.L) (hG : GlOk E.g0 E.w0 C.gl) {id : Nat} {ops : Array Oper} {σ : S} {Q : QC} (hd : dstOk C.nt ops.toList = true)
    (h : ∀ (Θ : Ctx P E C) (K : S → Prop), Θ.ops = ops.toList → (∀ σ, Sub E C.nt σ mid → K σ) → Post Θ (run C (ops.toList.map (·.dst)) ops.toList σ True) K) (h2 : Q .normal mid) : WC P E C (.region id ops false) σ Q := by
  have h3 : WC P E C (.region id ops false) σ (fun e s => (e = .normal ∧ Sub E C.nt s mid)) := WC.region hH hL hG hd (fun Θ K hΘ hK => h Θ K hΘ (fun s hs => hK s ⟨rfl, hs⟩))
  intro a w hA
  refine wp_mono (h3 a w hA) ?_
  rintro e a' w' ⟨s, k1, rfl, k2⟩
  exact ⟨mid, k2 a' w' k1, h2⟩
end Go.VL

set_option linter.unusedVariables false
set_option linter.unusedSimpArgs false
open Go.RowKit
namespace Go.VL
variable {P : Program} {E : Entry} {w : World} {C : Cfg} {ops : List Oper} {mem : Nat → Option (List V)} {mn : Nat}

theorem upd_comm {s : Nat → V} {d e : Nat} {x y : V} (h : d ≠ e) : upd (upd s d x) e y = upd (upd s e y) d x := by
  funext i
  unfold upd
  by_cases h1 : i = d <;> by_cases h2 : i = e <;> simp_all

def looks (ops : List Oper) (o : Oper) (t : Nat) : Prop := t ∈ o.looksAt ops.toArray

def YA (P : Program) (C : Cfg) (mem : Nat → Option (List V)) (mn : Nat) (s : Nat → V) (o : Oper) (x : V) : Prop :=
  (∃ c, evC C.H C.L mem (evO s C.gl) o.op = some (c, x) ∧ c) ∨
  (∃ f xs ats, o.op = .call { callee := .value (.func f), args := xs, argTypes := ats } ∧ (∀ y ∈ xs.toList, (evO s C.gl y).fz.known = true) ∧
    Sp P C.gl f (xs.toList.map fun y => (evO s C.gl y).fz) mem mn (fun r m k => r = x ∧ m = mem ∧ k = mn))
def YW (P : Program) (C : Cfg) (ops : List Oper) (mem : Nat → Option (List V)) (mn : Nat) (s : Nat → V) (o : Oper) (x : V) : Prop :=
  (wantedV ops s o = some true ∧ YA P C mem mn s o x) ∨ (wantedV ops s o = some false ∧ x = .tup [])

theorem ev1_congr {H : Env} {L : LEnv} {ρ ρ' : Operand → V} (op : Op) (h : ∀ x ∈ op.operands, ρ x = ρ' x) : ev1 H L mem ρ op = ev1 H L mem ρ' op := by
  have pairs : ∀ ps : Array (Nat × Operand), (∀ x ∈ ps.map (·.2), ρ x = ρ' x) → (ps.toList.map fun p => (p.1, ρ p.2)) = (ps.toList.map fun p => (p.1, ρ' p.2)) := fun ps hp =>
    List.map_congr_left fun p hm => by rw [hp p.2 (Array.mem_map.2 ⟨p, by simpa using hm, rfl⟩)]
  cases op <;> simp only [Op.operands] at h <;> simp only [ev1]
  case build t ps => rw [pairs ps fun x hx => h x (by simpa using hx)]
  case call c =>
    have hargs : c.args.toList.map ρ = c.args.toList.map ρ' := List.map_congr_left fun x hx => h x (by simp only [Call.operands, Array.mem_append]; simp at hx; first | exact .inl (by simpa using hx) | exact .inr hx | simp [hx])
    rw [hargs]
  case makeFunc fn fi cs =>
    have h1 : fi.toList.map ρ = fi.toList.map ρ' := List.map_congr_left fun x hx => h x (by simp only [Array.mem_append]; exact .inl (by simpa using hx))
    have h2 : cs.toList.map ρ = cs.toList.map ρ' := List.map_congr_left fun x hx => h x (by simp only [Array.mem_append]; exact .inr (by simpa using hx))
    rw [h1, h2]
  case slice t x lo hi mx => cases lo <;> cases hi <;> cases mx <;> simp_all
  all_goals (first | rfl | (simp_all; done))

theorem evO_congr {s s' : Nat → V} {gl : Nat → Option (List V)} {o : Oper} (h : ∀ t, looks ops o t → s' t = s t) : ∀ x ∈ o.op.operands, evO s' gl x = evO s gl x := fun x hx => by
  cases x with
  | tmp t => exact h t (List.mem_append_left _ (List.mem_filterMap.2 ⟨.tmp t, by simpa using hx, rfl⟩))
  | _ => rfl

theorem wantedV_congr {s s' : Nat → V} {o : Oper} (h : ∀ t, looks ops o t → s' t = s t) : wantedV ops s' o = wantedV ops s o := by
  unfold wantedV
  cases hg : o.guard with
  | none => rfl
  | some jw =>
    obtain ⟨j, want⟩ := jw
    simp only
    cases hd : (ops[j]?).bind (·.dst) with
    | none => rfl
    | some d =>
      simp only
      rw [h d (by unfold looks Oper.looksAt; refine List.mem_append_right _ ?_; rw [hg]; simp [hd])]

theorem YW.congr {s s' : Nat → V} {o : Oper} {x : V} (h : ∀ t, looks ops o t → s' t = s t) (hy : YW P C ops mem mn s o x) : YW P C ops mem mn s' o x := by
  have he := evO_congr (gl := C.gl) h
  unfold YW at *
  rw [wantedV_congr h]
  rcases hy with ⟨h1, h2⟩ | h2
  · refine .inl ⟨h1, ?_⟩
    rcases h2 with ⟨c, h3, h4⟩ | ⟨f, xs, ats, h3, h4, h5⟩
    · refine .inl ⟨c, ?_, h4⟩
      unfold evC at *
      rw [ev1_congr o.op he]; exact h3
    · refine .inr ⟨f, xs, ats, h3, ?_, ?_⟩
      · intro y hy
        rw [he y (by rw [h3]; simp only [Op.operands, Call.operands]; simp at hy; simp [hy])]; exact h4 y hy
      · have : (xs.toList.map fun y => (evO s' C.gl y).fz) = xs.toList.map fun y => (evO s C.gl y).fz := List.map_congr_left fun y hy => by
          rw [he y (by rw [h3]; simp only [Op.operands, Call.operands]; simp at hy; simp [hy])]
        rw [this]; exact h5
  · exact .inr h2

def AtF (E : Entry) (nt : Nat) (s : Nat → V) (mem : Nat → Option (List V)) (mn : Nat) (a : Act) (w : World) : Prop := ∃ g ob, St E g ob s mem a.tmps w ∧ g.mn = mn ∧ a.defers = [] ∧ a.tmps.size = nt

def runA.isCall : Op → Option (FuncId × List Operand)
    | .call c => match c.callee with
      | .value y => match y with
        | .func f => some (f, c.args.toList)
        | _ => none
      | _ => none
    | _ => none

theorem isCall_spec {op : Op} {f : FuncId} {xs : List Operand} (h : runA.isCall op = some (f, xs)) : ∃ ys ats, op = .call { callee := .value (.func f), args := ys, argTypes := ats } ∧ ys.toList = xs := by
  unfold runA.isCall at h
  split at h <;> try cases h
  rename_i c
  split at h <;> try cases h
  rename_i y hy
  split at h <;> try cases h
  obtain ⟨callee, args, ats⟩ := c
  simp only at hy
  subst hy
  exact ⟨args, ats, rfl, rfl⟩


end Go.VL

set_option linter.unusedVariables false
set_option linter.unusedSimpArgs false
open Go.RowKit
namespace Go.VL
variable {P : Program}

def protOf (W : World) (blk : Nat) : Nat := match W.heap[blk]? with
  | some (.cells c _ _) => c.size
  | _ => 0
def gOf (W : World) : G := ⟨fun _ => 0, 0, protOf W, fun _ => False⟩

theorem protOf_cell {W : World} {b o : Nat} {u : Value} (h : W.cell? ⟨b, o, none⟩ = some u) : o < protOf W b := by
  unfold World.cell? at h
  unfold protOf
  split at h
  · rename_i hb
    simp only at hb h
    rw [hb]
    simp only
    simp at h
    exact (Array.getElem?_eq_some_iff.1 h).1
  · cases h

theorem Sp.enter {gl : Nat → Option (List V)} {f : FuncId} {args : List V} {R : V → (Nat → Option (List V)) → Nat → Prop} (hs : Sp P gl f args (fun _ => none) 0 R) (W : World) {vs : Array Value} (hG : GlOk (gOf W) W gl) (hsz : vs.size = args.length)
    (hv : ∀ i, i < args.length → VR (gOf W) W (args.getD i .unk) (vs.getD i undef)) :
    Calls P f vs W fun e w' => ∃ v r m g', e = .returned v ∧ R r m g'.mn ∧ VR g' w' r v ∧ Below W.heap.size W w' := by
  have hst : St (entryOf (gOf W) (fun _ => none) (fun _ => none) W) (gOf W) (fun _ => none) (fun _ => .unk) (fun _ => none) #[] W :=
    { slot := fun i hi => absurd rfl hi
      box := fun b cs h => by cases h
      inj := fun b b' h => absurd rfl h
      ownS := fun i j sz n cs h => by have := comp_unk _ _ h; cases this
      ownC := fun b o l sz n cs h => by cases h
      obInj := fun p q blk h => by cases h
      obBox := fun p blk b h => by cases h
      obLt := fun p blk h => by cases h
      prot0 := fun blk h => by
        show protOf W blk = 0
        unfold protOf
        rw [Array.getElem?_eq_none h]
      boxProt := fun b h => absurd rfl h
      os := rfl
      tape := rfl
      output := rfl
      size := Nat.le_refl _
      block := fun _ _ _ => rfl
      keep := fun _ _ _ => rfl
      onto := Onto.refl _ _
      boxFresh := fun b h => absurd rfl h
      obFresh := fun p blk h => by cases h
      rsv := fun _ h => h.elim }
  refine (hs.2 (gOf W) (fun _ => none) W vs rfl hG hsz hv (fun _ _ => rfl) hst).mono ?_
  rintro e w' ⟨v, r, mem', g', ob', rfl, hR, hru, h⟩
  refine ⟨v, r, mem', g', rfl, hR, ?_, ⟨h.os, h.tape, h.output, h.size, fun k hk => h.block k hk ?_⟩⟩
  · have := h.slot 0 (by rw [upd_same]; exact hru)
    rw [upd_same] at this
    exact this
  · rintro (⟨b, h1, _⟩ | ⟨b, o, h1⟩)
    · exact h1 rfl
    · cases h1

theorem Sp.law {gl : Nat → Option (List V)} {f : FuncId} {args : List V} (hs : ∀ M mn, Sp P gl f args M mn (fun r m k => r = .flat (.bool true) ∧ m = M ∧ k = mn)) (W : World) {vs : Array Value} (hG : GlOk (gOf W) W gl) (hsz : vs.size = args.length)
    (hv : ∀ i, i < args.length → VR (gOf W) W (args.getD i .unk) (vs.getD i undef)) :
    Calls P f vs W fun e w' => e = .returned (.bool true) ∧ Below W.heap.size W w' := by
  refine (Sp.enter (hs _ _) W hG hsz hv).mono ?_
  rintro e w' ⟨v, r, m, g', rfl, ⟨rfl, _, _⟩, h, hb⟩
  cases h
  exact ⟨rfl, hb⟩

theorem Sp.law' {gl : Nat → Option (List V)} {f : FuncId} {args : List V} (hs : Sp P gl f args (fun _ => none) 0 (fun r m k => r = .flat (.bool true))) (W : World) {vs : Array Value} (hG : GlOk (gOf W) W gl) (hsz : vs.size = args.length)
    (hv : ∀ i, i < args.length → VR (gOf W) W (args.getD i .unk) (vs.getD i undef)) :
    Calls P f vs W fun e w' => e = .returned (.bool true) ∧ Below W.heap.size W w' := by
  refine (Sp.enter hs W hG hsz hv).mono ?_
  rintro e w' ⟨v, r, m, g', rfl, rfl, h, hb⟩
  cases h
  exact ⟨rfl, hb⟩

end Go.VL

set_option linter.unusedVariables false
set_option linter.unusedSimpArgs false
open Go.RowKit
namespace Go.VL

abbrev Id32 := { l : List UInt8 // l.length = 32 }
abbrev Id16 := { l : List UInt8 // l.length = 16 }
theorem id_len32 (x : Id32) : x.1.length = 32 := x.2
theorem id_len16 (x : Id16) : x.1.length = 16 := x.2
def z32 : Id32 := ⟨List.replicate 32 0, by decide⟩
def z16 : Id16 := ⟨List.replicate 16 0, by decide⟩
def inR (n : Int) : Prop := -9223372036854775808 ≤ n ∧ n ≤ 9223372036854775807

theorem getD_mid (a : List V) (x : V) (b : List V) (n : Nat) (h : a.length = n) : (a ++ ([x] ++ b)).getD n .unk = x := by
  subst h
  simp [List.getD_eq_getElem?_getD]
theorem drop_take_mid (a m b : List V) (n k : Nat) (h : a.length = n) (hm : m.length = k) : ((a ++ (m ++ b)).drop n).take k = m := by
  subst h; subst hm
  simp
theorem putV_mid (a m b m' : List V) (n : Nat) (h : a.length = n) (hm : m'.length = m.length) : putV (a ++ (m ++ b)) n m' = a ++ (m' ++ b) := by
  subst h
  unfold putV
  rw [hm]
  simp [List.drop_append]
theorem drop_take_in (cs : List V) (o s p q : Nat) (h : p + q ≤ s) : (cs.drop (o + p)).take q = (((cs.drop o).take s).drop p).take q := by
  rw [List.drop_take, List.take_take, List.drop_drop, Nat.min_eq_left (by omega)]
theorem getD_in (cs : List V) (o s p : Nat) (h : p < s) : cs.getD (o + p) .unk = ((cs.drop o).take s).getD p .unk := by
  simp [List.getD_eq_getElem?_getD, List.getElem?_take, List.getElem?_drop, h]

theorem vlit_bv (a b : List UInt8) : (bv a).map vlit = (bv b).map vlit ↔ a = b := by
  constructor
  · intro h
    simp only [bv, List.map_map] at h
    have hinj : Function.Injective (vlit ∘ fun b : UInt8 => V.flat (.int .u8 (b.toNat : Int))) := by
      intro x y hxy
      simp only [Function.comp, vlit, Lit.int.injEq, true_and] at hxy
      exact UInt8.toNat_inj.1 (by exact_mod_cast hxy)
    exact (List.map_inj_right (fun _ _ h => hinj h)).1 h
  · rintro rfl; rfl
theorem bv_eqc (a b : List UInt8) : eqCells (bv a) (bv b) = decide (a = b) := by
  rw [Bool.eq_iff_iff, eqCells_iff, decide_eq_true_iff, vlit_bv]

theorem vlit_int (k : IntKind) (n : Int) : vlit (.flat (.int k n)) = .int k n := rfl
theorem vlit_bool (b : Bool) : vlit (.flat (.bool b)) = .bool b := rfl
theorem vlit_bs (s : List UInt8) : vlit (.flat (.string (bs s))) = .string s := by
  show Lit.string (bs s).data.toList = _
  rfl
theorem fit_app : ∀ {K L : List CK} {a b : List V}, Fit K a → Fit L b → Fit (K ++ L) (a ++ b)
  | [], _, [], _, _, h => h
  | k :: K, _, x :: a, _, h, h' => ⟨h.1, fit_app h.2 h'⟩
  | [], _, _ :: _, _, h, _ => h.elim
  | _ :: _, _, [], _, h, _ => h.elim
theorem fit_int {n : Int} (h : inR n) : Fit [.int .i64] [.flat (.int .i64 n)] := ⟨⟨rfl, h⟩, trivial⟩
theorem fit_str {s : List UInt8} (h : s.length ≤ 140737488351232) : Fit [.str] [.flat (.string (bs s))] := ⟨by
  show (bs s).size ≤ maxLen
  rw [bs_size]
  unfold maxLen
  omega, trivial⟩
theorem fit_bv : ∀ (l : List UInt8) (n : Nat), l.length = n → Fit (List.replicate n (.int .u8)) (bv l)
  | [], n, h => by subst h; trivial
  | b :: l, n, h => by
    subst h
    refine ⟨⟨rfl, ?_, ?_⟩, fit_bv l _ rfl⟩
    · show (0 : Int) ≤ _; omega
    · show (b.toNat : Int) ≤ 255
      have := b.toNat_lt; omega

theorem fit32 (x : Id32) : Fit (List.replicate 32 (.int .u8)) (bv x.1) = True := eq_true (fit_bv _ _ x.2)
theorem fit16 (x : Id16) : Fit (List.replicate 16 (.int .u8)) (bv x.1) = True := eq_true (fit_bv _ _ x.2)
theorem id32_eq (x y : Id32) : (x.1 = y.1) = (x = y) := by rw [Subtype.ext_iff]
theorem id16_eq (x y : Id16) : (x.1 = y.1) = (x = y) := by rw [Subtype.ext_iff]
theorem bs_empty (l : List UInt8) : (bs l = ({ data := #[] } : ByteArray)) = (l = []) := by
  rw [show ({ data := #[] } : ByteArray) = bs [] from rfl, bs_inj]
theorem bs_empty' (l : List UInt8) : (bs l = ByteArray.empty) = (l = []) := bs_empty l
theorem tk32 (x : Id32) : (bv x.1).take 32 = bv x.1 := List.take_of_length_le (by rw [bv_length, x.2]; omega)
theorem tk16 (x : Id16) : (bv x.1).take 16 = bv x.1 := List.take_of_length_le (by rw [bv_length, x.2]; omega)
theorem putV_all {a b : List V} (h : a.length = b.length) : putV a 0 b = b := by
  unfold putV
  simp [h]
theorem wh32 (x y : Id32) : putV (bv x.1) 0 (bv y.1) = bv y.1 := putV_all (by rw [bv_length, bv_length, x.2, y.2])
theorem wh16 (x y : Id16) : putV (bv x.1) 0 (bv y.1) = bv y.1 := putV_all (by rw [bv_length, bv_length, x.2, y.2])
theorem upd_0_1 {α : Type} (f : Nat → α) (n : Nat) (x : α) : upd f (n) x (n + 1) = f (n + 1) := upd_ne _ _ (by omega)
theorem upd_0_2 {α : Type} (f : Nat → α) (n : Nat) (x : α) : upd f (n) x (n + 1 + 1) = f (n + 1 + 1) := upd_ne _ _ (by omega)
theorem upd_0_3 {α : Type} (f : Nat → α) (n : Nat) (x : α) : upd f (n) x (n + 1 + 1 + 1) = f (n + 1 + 1 + 1) := upd_ne _ _ (by omega)
theorem upd_0_4 {α : Type} (f : Nat → α) (n : Nat) (x : α) : upd f (n) x (n + 1 + 1 + 1 + 1) = f (n + 1 + 1 + 1 + 1) := upd_ne _ _ (by omega)
theorem upd_0_5 {α : Type} (f : Nat → α) (n : Nat) (x : α) : upd f (n) x (n + 1 + 1 + 1 + 1 + 1) = f (n + 1 + 1 + 1 + 1 + 1) := upd_ne _ _ (by omega)
theorem upd_1_0 {α : Type} (f : Nat → α) (n : Nat) (x : α) : upd f (n + 1) x (n) = f (n) := upd_ne _ _ (by omega)
theorem upd_1_2 {α : Type} (f : Nat → α) (n : Nat) (x : α) : upd f (n + 1) x (n + 1 + 1) = f (n + 1 + 1) := upd_ne _ _ (by omega)
theorem upd_1_3 {α : Type} (f : Nat → α) (n : Nat) (x : α) : upd f (n + 1) x (n + 1 + 1 + 1) = f (n + 1 + 1 + 1) := upd_ne _ _ (by omega)
theorem upd_1_4 {α : Type} (f : Nat → α) (n : Nat) (x : α) : upd f (n + 1) x (n + 1 + 1 + 1 + 1) = f (n + 1 + 1 + 1 + 1) := upd_ne _ _ (by omega)
theorem upd_1_5 {α : Type} (f : Nat → α) (n : Nat) (x : α) : upd f (n + 1) x (n + 1 + 1 + 1 + 1 + 1) = f (n + 1 + 1 + 1 + 1 + 1) := upd_ne _ _ (by omega)
theorem upd_2_0 {α : Type} (f : Nat → α) (n : Nat) (x : α) : upd f (n + 1 + 1) x (n) = f (n) := upd_ne _ _ (by omega)
theorem upd_2_1 {α : Type} (f : Nat → α) (n : Nat) (x : α) : upd f (n + 1 + 1) x (n + 1) = f (n + 1) := upd_ne _ _ (by omega)
theorem upd_2_3 {α : Type} (f : Nat → α) (n : Nat) (x : α) : upd f (n + 1 + 1) x (n + 1 + 1 + 1) = f (n + 1 + 1 + 1) := upd_ne _ _ (by omega)
theorem upd_2_4 {α : Type} (f : Nat → α) (n : Nat) (x : α) : upd f (n + 1 + 1) x (n + 1 + 1 + 1 + 1) = f (n + 1 + 1 + 1 + 1) := upd_ne _ _ (by omega)
theorem upd_2_5 {α : Type} (f : Nat → α) (n : Nat) (x : α) : upd f (n + 1 + 1) x (n + 1 + 1 + 1 + 1 + 1) = f (n + 1 + 1 + 1 + 1 + 1) := upd_ne _ _ (by omega)
theorem upd_3_0 {α : Type} (f : Nat → α) (n : Nat) (x : α) : upd f (n + 1 + 1 + 1) x (n) = f (n) := upd_ne _ _ (by omega)
theorem upd_3_1 {α : Type} (f : Nat → α) (n : Nat) (x : α) : upd f (n + 1 + 1 + 1) x (n + 1) = f (n + 1) := upd_ne _ _ (by omega)
theorem upd_3_2 {α : Type} (f : Nat → α) (n : Nat) (x : α) : upd f (n + 1 + 1 + 1) x (n + 1 + 1) = f (n + 1 + 1) := upd_ne _ _ (by omega)
theorem upd_3_4 {α : Type} (f : Nat → α) (n : Nat) (x : α) : upd f (n + 1 + 1 + 1) x (n + 1 + 1 + 1 + 1) = f (n + 1 + 1 + 1 + 1) := upd_ne _ _ (by omega)
theorem upd_3_5 {α : Type} (f : Nat → α) (n : Nat) (x : α) : upd f (n + 1 + 1 + 1) x (n + 1 + 1 + 1 + 1 + 1) = f (n + 1 + 1 + 1 + 1 + 1) := upd_ne _ _ (by omega)
theorem upd_4_0 {α : Type} (f : Nat → α) (n : Nat) (x : α) : upd f (n + 1 + 1 + 1 + 1) x (n) = f (n) := upd_ne _ _ (by omega)
theorem upd_4_1 {α : Type} (f : Nat → α) (n : Nat) (x : α) : upd f (n + 1 + 1 + 1 + 1) x (n + 1) = f (n + 1) := upd_ne _ _ (by omega)
theorem upd_4_2 {α : Type} (f : Nat → α) (n : Nat) (x : α) : upd f (n + 1 + 1 + 1 + 1) x (n + 1 + 1) = f (n + 1 + 1) := upd_ne _ _ (by omega)
theorem upd_4_3 {α : Type} (f : Nat → α) (n : Nat) (x : α) : upd f (n + 1 + 1 + 1 + 1) x (n + 1 + 1 + 1) = f (n + 1 + 1 + 1) := upd_ne _ _ (by omega)
theorem upd_4_5 {α : Type} (f : Nat → α) (n : Nat) (x : α) : upd f (n + 1 + 1 + 1 + 1) x (n + 1 + 1 + 1 + 1 + 1) = f (n + 1 + 1 + 1 + 1 + 1) := upd_ne _ _ (by omega)
theorem upd_5_0 {α : Type} (f : Nat → α) (n : Nat) (x : α) : upd f (n + 1 + 1 + 1 + 1 + 1) x (n) = f (n) := upd_ne _ _ (by omega)
theorem upd_5_1 {α : Type} (f : Nat → α) (n : Nat) (x : α) : upd f (n + 1 + 1 + 1 + 1 + 1) x (n + 1) = f (n + 1) := upd_ne _ _ (by omega)
theorem upd_5_2 {α : Type} (f : Nat → α) (n : Nat) (x : α) : upd f (n + 1 + 1 + 1 + 1 + 1) x (n + 1 + 1) = f (n + 1 + 1) := upd_ne _ _ (by omega)
theorem upd_5_3 {α : Type} (f : Nat → α) (n : Nat) (x : α) : upd f (n + 1 + 1 + 1 + 1 + 1) x (n + 1 + 1 + 1) = f (n + 1 + 1 + 1) := upd_ne _ _ (by omega)
theorem upd_5_4 {α : Type} (f : Nat → α) (n : Nat) (x : α) : upd f (n + 1 + 1 + 1 + 1 + 1) x (n + 1 + 1 + 1 + 1) = f (n + 1 + 1 + 1 + 1) := upd_ne _ _ (by omega)
theorem rep5 (z : V) : rep 5 [z] = [z, z, z, z, z] := rfl
theorem rep6 (z : V) : rep 6 [z] = [z, z, z, z, z, z] := rfl
theorem rep7 (z : V) : rep 7 [z] = [z, z, z, z, z, z, z] := rfl
theorem rep8 (z : V) : rep 8 [z] = [z, z, z, z, z, z, z, z] := rfl
theorem bv_fz (l : List UInt8) : (bv l).map V.fz = bv l := by
  simp only [bv, List.map_map]
  rfl
theorem own1_bv (l : List UInt8) : (∀ z ∈ bv l, noOwnB z = true) = True := eq_true fun z hz => by
  obtain ⟨b, _, rfl⟩ := List.mem_map.1 hz
  rfl
theorem own2_bv (l : List UInt8) : (∀ z ∈ bv l, noOwnB z = true ∧ oneB z = true) = True := eq_true fun z hz => by
  obtain ⟨b, _, rfl⟩ := List.mem_map.1 hz
  exact ⟨rfl, rfl⟩
theorem nob_flat (v : Value) : noOwnB (.flat v) = true := rfl
theorem one_flat (v : Value) : oneB (.flat v) = true := rfl
theorem nob_nil  : noOwnB (.nil ) = true := rfl
theorem one_nil  : oneB (.nil ) = true := rfl
theorem nob_agg (v : List V) : noOwnB (.agg v) = true := rfl
theorem one_agg (v : List V) : oneB (.agg v) = false := rfl
theorem nob_tup (v : List V) : noOwnB (.tup v) = true := rfl
theorem one_tup (v : List V) : oneB (.tup v) = false := rfl
theorem nob_ref (v : List V) (o : Nat) : noOwnB (.ref v o) = true := rfl
theorem one_ref (v : List V) (o : Nat) : oneB (.ref v o) = true := rfl
theorem nob_bp (b o : Nat) : noOwnB (.bp b o) = true := rfl
theorem one_bp (b o : Nat) : oneB (.bp b o) = true := rfl
theorem nob_bs (b o n c : Nat) : noOwnB (.bs b o n c) = true := rfl
theorem one_bs (b o n c : Nat) : oneB (.bs b o n c) = true := rfl
theorem nob_sl (o : Bool) (s n : Nat) (v : List V) : noOwnB (.sl o s n v) = !o := rfl
theorem one_sl (o : Bool) (s n : Nat) (v : List V) : oneB (.sl o s n v) = true := rfl
theorem nob_unk : noOwnB .unk = true := rfl
theorem one_unk : oneB .unk = false := rfl
theorem updN : (∀ (f : Nat → Option (List V)) (n : Nat) (x : Option (List V)), upd f (n) x (n + 1) = f (n + 1)) ∧ (∀ (f : Nat → Option (List V)) (n : Nat) (x : Option (List V)), upd f (n) x (n + 1 + 1) = f (n + 1 + 1)) ∧ (∀ (f : Nat → Option (List V)) (n : Nat) (x : Option (List V)), upd f (n) x (n + 1 + 1 + 1) = f (n + 1 + 1 + 1)) ∧ (∀ (f : Nat → Option (List V)) (n : Nat) (x : Option (List V)), upd f (n) x (n + 1 + 1 + 1 + 1) = f (n + 1 + 1 + 1 + 1)) ∧ (∀ (f : Nat → Option (List V)) (n : Nat) (x : Option (List V)), upd f (n) x (n + 1 + 1 + 1 + 1 + 1) = f (n + 1 + 1 + 1 + 1 + 1)) ∧ (∀ (f : Nat → Option (List V)) (n : Nat) (x : Option (List V)), upd f (n + 1) x (n) = f (n)) ∧ (∀ (f : Nat → Option (List V)) (n : Nat) (x : Option (List V)), upd f (n + 1) x (n + 1 + 1) = f (n + 1 + 1)) ∧ (∀ (f : Nat → Option (List V)) (n : Nat) (x : Option (List V)), upd f (n + 1) x (n + 1 + 1 + 1) = f (n + 1 + 1 + 1)) ∧ (∀ (f : Nat → Option (List V)) (n : Nat) (x : Option (List V)), upd f (n + 1) x (n + 1 + 1 + 1 + 1) = f (n + 1 + 1 + 1 + 1)) ∧ (∀ (f : Nat → Option (List V)) (n : Nat) (x : Option (List V)), upd f (n + 1) x (n + 1 + 1 + 1 + 1 + 1) = f (n + 1 + 1 + 1 + 1 + 1)) ∧ (∀ (f : Nat → Option (List V)) (n : Nat) (x : Option (List V)), upd f (n + 1 + 1) x (n) = f (n)) ∧ (∀ (f : Nat → Option (List V)) (n : Nat) (x : Option (List V)), upd f (n + 1 + 1) x (n + 1) = f (n + 1)) ∧ (∀ (f : Nat → Option (List V)) (n : Nat) (x : Option (List V)), upd f (n + 1 + 1) x (n + 1 + 1 + 1) = f (n + 1 + 1 + 1)) ∧ (∀ (f : Nat → Option (List V)) (n : Nat) (x : Option (List V)), upd f (n + 1 + 1) x (n + 1 + 1 + 1 + 1) = f (n + 1 + 1 + 1 + 1)) ∧ (∀ (f : Nat → Option (List V)) (n : Nat) (x : Option (List V)), upd f (n + 1 + 1) x (n + 1 + 1 + 1 + 1 + 1) = f (n + 1 + 1 + 1 + 1 + 1)) ∧ (∀ (f : Nat → Option (List V)) (n : Nat) (x : Option (List V)), upd f (n + 1 + 1 + 1) x (n) = f (n)) ∧ (∀ (f : Nat → Option (List V)) (n : Nat) (x : Option (List V)), upd f (n + 1 + 1 + 1) x (n + 1) = f (n + 1)) ∧ (∀ (f : Nat → Option (List V)) (n : Nat) (x : Option (List V)), upd f (n + 1 + 1 + 1) x (n + 1 + 1) = f (n + 1 + 1)) ∧ (∀ (f : Nat → Option (List V)) (n : Nat) (x : Option (List V)), upd f (n + 1 + 1 + 1) x (n + 1 + 1 + 1 + 1) = f (n + 1 + 1 + 1 + 1)) ∧ (∀ (f : Nat → Option (List V)) (n : Nat) (x : Option (List V)), upd f (n + 1 + 1 + 1) x (n + 1 + 1 + 1 + 1 + 1) = f (n + 1 + 1 + 1 + 1 + 1)) ∧ (∀ (f : Nat → Option (List V)) (n : Nat) (x : Option (List V)), upd f (n + 1 + 1 + 1 + 1) x (n) = f (n)) ∧ (∀ (f : Nat → Option (List V)) (n : Nat) (x : Option (List V)), upd f (n + 1 + 1 + 1 + 1) x (n + 1) = f (n + 1)) ∧ (∀ (f : Nat → Option (List V)) (n : Nat) (x : Option (List V)), upd f (n + 1 + 1 + 1 + 1) x (n + 1 + 1) = f (n + 1 + 1)) ∧ (∀ (f : Nat → Option (List V)) (n : Nat) (x : Option (List V)), upd f (n + 1 + 1 + 1 + 1) x (n + 1 + 1 + 1) = f (n + 1 + 1 + 1)) ∧ (∀ (f : Nat → Option (List V)) (n : Nat) (x : Option (List V)), upd f (n + 1 + 1 + 1 + 1) x (n + 1 + 1 + 1 + 1 + 1) = f (n + 1 + 1 + 1 + 1 + 1)) ∧ (∀ (f : Nat → Option (List V)) (n : Nat) (x : Option (List V)), upd f (n + 1 + 1 + 1 + 1 + 1) x (n) = f (n)) ∧ (∀ (f : Nat → Option (List V)) (n : Nat) (x : Option (List V)), upd f (n + 1 + 1 + 1 + 1 + 1) x (n + 1) = f (n + 1)) ∧ (∀ (f : Nat → Option (List V)) (n : Nat) (x : Option (List V)), upd f (n + 1 + 1 + 1 + 1 + 1) x (n + 1 + 1) = f (n + 1 + 1)) ∧ (∀ (f : Nat → Option (List V)) (n : Nat) (x : Option (List V)), upd f (n + 1 + 1 + 1 + 1 + 1) x (n + 1 + 1 + 1) = f (n + 1 + 1 + 1)) ∧ (∀ (f : Nat → Option (List V)) (n : Nat) (x : Option (List V)), upd f (n + 1 + 1 + 1 + 1 + 1) x (n + 1 + 1 + 1 + 1) = f (n + 1 + 1 + 1 + 1)) := ⟨fun f n x => upd_0_1 f n x, fun f n x => upd_0_2 f n x, fun f n x => upd_0_3 f n x, fun f n x => upd_0_4 f n x, fun f n x => upd_0_5 f n x, fun f n x => upd_1_0 f n x, fun f n x => upd_1_2 f n x, fun f n x => upd_1_3 f n x, fun f n x => upd_1_4 f n x, fun f n x => upd_1_5 f n x, fun f n x => upd_2_0 f n x, fun f n x => upd_2_1 f n x, fun f n x => upd_2_3 f n x, fun f n x => upd_2_4 f n x, fun f n x => upd_2_5 f n x, fun f n x => upd_3_0 f n x, fun f n x => upd_3_1 f n x, fun f n x => upd_3_2 f n x, fun f n x => upd_3_4 f n x, fun f n x => upd_3_5 f n x, fun f n x => upd_4_0 f n x, fun f n x => upd_4_1 f n x, fun f n x => upd_4_2 f n x, fun f n x => upd_4_3 f n x, fun f n x => upd_4_5 f n x, fun f n x => upd_5_0 f n x, fun f n x => upd_5_1 f n x, fun f n x => upd_5_2 f n x, fun f n x => upd_5_3 f n x, fun f n x => upd_5_4 f n x⟩
theorem nobs : (type_of% @nob_flat) ∧ (type_of% @one_flat) ∧ (type_of% @nob_nil) ∧ (type_of% @one_nil) ∧ (type_of% @nob_agg) ∧ (type_of% @one_agg) ∧ (type_of% @nob_tup) ∧ (type_of% @one_tup) ∧ (type_of% @nob_ref) ∧ (type_of% @one_ref) ∧ (type_of% @nob_bp) ∧ (type_of% @one_bp) ∧ (type_of% @nob_bs) ∧ (type_of% @one_bs) ∧ (type_of% @nob_sl) ∧ (type_of% @one_sl) ∧ (type_of% @nob_unk) ∧ (type_of% @one_unk) := ⟨@nob_flat, @one_flat, @nob_nil, @one_nil, @nob_agg, @one_agg, @nob_tup, @one_tup, @nob_ref, @one_ref, @nob_bp, @one_bp, @nob_bs, @one_bs, @nob_sl, @one_sl, @nob_unk, @one_unk⟩
theorem idS : (type_of% @bv_fz) ∧ (type_of% @own1_bv) ∧ (type_of% @own2_bv) ∧ (type_of% @bv_eqc) ∧ (type_of% @id_len32) ∧ (type_of% @id_len16) ∧ (type_of% @fit32) ∧ (type_of% @fit16) ∧ (type_of% @wh32) ∧ (type_of% @wh16) ∧ (type_of% @tk32) ∧ (type_of% @tk16) ∧ (type_of% @bs_empty) ∧ (type_of% @bs_empty') ∧ (type_of% @id32_eq) ∧ (type_of% @id16_eq) := ⟨@bv_fz, @own1_bv, @own2_bv, @bv_eqc, @id_len32, @id_len16, @fit32, @fit16, @wh32, @wh16, @tk32, @tk16, @bs_empty, @bs_empty', @id32_eq, @id16_eq⟩
theorem flat_chunk {α : Type} (s : Nat) : ∀ (css : List (List α)) (i : Nat), (∀ c ∈ css, c.length = s) → i < css.length → ((css.flatten).drop (i * s)).take s = css.getD i []
  | [], i, _, hi => by simp at hi
  | c :: css, 0, hs, _ => by
    have := hs c (by simp)
    simp [← this]
  | c :: css, i + 1, hs, hi => by
    have hc := hs c (by simp)
    rw [List.getD_cons_succ, ← flat_chunk s css i (fun x hx => hs x (by simp [hx])) (by simpa using hi), List.flatten_cons, List.drop_append, List.drop_eq_nil_of_le (by rw [hc, Nat.succ_mul]; omega)]
    rw [List.nil_append, hc, show (i + 1) * s - s = i * s by rw [Nat.succ_mul]; omega]

def idsC (l : List Id32) : List V := (l.map fun x => bv x.1).flatten
theorem idsC_nil : idsC [] = [] := rfl
end Go.VL

set_option linter.unusedVariables false
set_option linter.unusedSimpArgs false
open Go.RowKit
namespace Go.VL
variable {P : Program}

def zeroOf (P : Program) (t : TypeId) : Value := match P.info? t with
  | some i => i.zero.getD undef
  | none => undef

def TCs (R : TypeId → List V → Prop) : List TypeId → List V → Prop
  | [], cs => cs = []
  | t :: ts, cs => ∃ c r, cs = c ++ r ∧ R t c ∧ TCs R ts r

def TC (P : Program) : Nat → TypeId → List V → Prop
  | 0, _, _ => False
  | d + 1, t, cs => match P.underlying t with
    | some .bool => ∃ b, cs = [.flat (.bool b)]
    | some (.int k) => ∃ n, cs = [.flat (.int k n)] ∧ k.min ≤ n ∧ n ≤ k.max
    | some .string => ∃ s : List UInt8, cs = [.flat (.string (bs s))] ∧ s.length ≤ 140737488351232
    | some (.struct fs) => TCs (TC P d) (fs.toList.map (·.type)) cs
    | some (.array n e) => ∃ css : List (List V), css.length = n ∧ cs = css.flatten ∧ ∀ c ∈ css, TC P d e c
    | some (.slice e) => ∃ css : List (List V), cs = [.sl false (P.cellsOf e) css.length css.flatten] ∧ (css.length ≤ 140737488351232 ∧ css.length * P.bytesOf e ≤ 140737488351232) ∧ ∀ c ∈ css, TC P d e c
    | _ => False

def okT (P : Program) : Nat → TypeId → Bool
  | 0, _ => false
  | d + 1, t => match P.underlying t with
    | some .bool | some (.int _) | some .string => P.cellsOf t == 1
    | some (.struct fs) => (fs.toList.all fun f => okT P d f.type) && (fs.toList.foldl (fun (o : Option Nat) f => o.bind fun o => if f.offset = o then some (o + P.cellsOf f.type) else none) (some 0)) == some (P.cellsOf t)
    | some (.array n e) => okT P d e && P.cellsOf t == n * P.cellsOf e
    | some (.slice e) => okT P d e && P.cellsOf t == 1 && decide (0 < P.bytesOf e) && decide (0 < P.cellsOf e)
    | _ => false

theorem flatten_len {α : Type} (n : Nat) : ∀ (css : List (List α)), (∀ c ∈ css, c.length = n) → css.flatten.length = css.length * n
  | [], _ => by simp
  | c :: r, h => by
    rw [List.flatten_cons, List.length_append, h c (by simp), flatten_len n r (fun x hx => h x (by simp [hx])), List.length_cons, Nat.succ_mul]
    omega

theorem tcs_len {d : Nat} (hall : ∀ t cs, okT P d t = true → TC P d t cs → cs.length = P.cellsOf t) : ∀ (fs : List Field) (o o' : Nat) (cs : List V), (∀ f ∈ fs, okT P d f.type = true) → fieldsEnd P (some o) fs = some o' → TCs (TC P d) (fs.map (·.type)) cs → o + cs.length = o'
  | [], o, o', cs, _, he, h => by
    have : o = o' := by simpa [fieldsEnd] using he
    simp only [List.map_nil, TCs] at h
    subst h
    simp [this]
  | f :: fs, o, o', cs, hok, he, h => by
    obtain ⟨e1, e2⟩ := fieldsEnd_cons P o f fs he
    simp only [List.map_cons, TCs] at h
    obtain ⟨c, r, rfl, h1, h2⟩ := h
    have := hall _ _ (hok f (by simp)) h1
    have h3 := tcs_len hall fs _ _ r (fun g hg => hok g (by simp [hg])) e2 h2
    rw [List.length_append]
    omega

theorem tc_len : ∀ (d : Nat) (t : TypeId) (cs : List V), okT P d t = true → TC P d t cs → cs.length = P.cellsOf t
  | 0, _, _, _, h => h.elim
  | d + 1, t, cs, hok, h => by
    unfold TC at h
    unfold okT at hok
    cases hu : P.underlying t with
    | none => simp [hu] at h
    | some k =>
      cases k <;> simp only [hu] at h hok <;> try exact h.elim
      · obtain ⟨b, rfl⟩ := h; simp only [beq_iff_eq] at hok; simp [hok]
      · obtain ⟨b, rfl, _⟩ := h; simp only [beq_iff_eq] at hok; simp [hok]
      · obtain ⟨b, rfl, _⟩ := h; simp only [beq_iff_eq] at hok; simp [hok]
      · obtain ⟨css, rfl, _⟩ := h
        simp only [Bool.and_eq_true, beq_iff_eq] at hok
        simp [hok.1.1.2]
      · obtain ⟨css, h1, rfl, h2⟩ := h
        simp only [Bool.and_eq_true, beq_iff_eq] at hok
        rw [flatten_len (P.cellsOf _) css (fun c hc => tc_len d _ c hok.1 (h2 c hc)), h1, hok.2]
      · simp only [Bool.and_eq_true, beq_iff_eq, List.all_eq_true] at hok
        have := tcs_len (tc_len d) _ 0 _ cs hok.1 hok.2 h
        omega

section
variable {H : Type} {enc : TypeId × Value → H} {w : World} {base : Nat} {spare : Nat → Bool} {held : Bool}

def Stand (w : World) (cs : List V) (us : List Value) : Prop := us.length = cs.length ∧ ∀ i, i < cs.length → VR (gOf w) w (cs.getD i .unk) (us.getD i undef)
theorem Stand.nil : Stand w [] [] := ⟨rfl, fun i h => absurd h (Nat.not_lt_zero _)⟩
theorem Stand.one {x : V} {u : Value} (h : VR (gOf w) w x u) : Stand w [x] [u] := ⟨rfl, fun i hi => by
  have : i = 0 := by simpa using hi
  subst this; exact h⟩
theorem Stand.append {cs ds : List V} {us vs : List Value} (h : Stand w cs us) (k : Stand w ds vs) : Stand w (cs ++ ds) (us ++ vs) := by
  refine ⟨by rw [List.length_append, List.length_append, h.1, k.1], fun i hi => ?_⟩
  rw [List.length_append] at hi
  by_cases hc : i < cs.length
  · have e1 : (cs ++ ds).getD i .unk = cs.getD i .unk := by simp [List.getD_eq_getElem?_getD, List.getElem?_append_left hc]
    have e2 : (us ++ vs).getD i undef = us.getD i undef := by simp [List.getD_eq_getElem?_getD, List.getElem?_append_left (show i < us.length by rw [h.1]; exact hc)]
    rw [e1, e2]; exact h.2 i hc
  · have e1 : (cs ++ ds).getD i .unk = ds.getD (i - cs.length) .unk := by simp [List.getD_eq_getElem?_getD, List.getElem?_append_right (Nat.le_of_not_lt hc)]
    have e2 : (us ++ vs).getD i undef = vs.getD (i - cs.length) undef := by simp [List.getD_eq_getElem?_getD, List.getElem?_append_right (show us.length ≤ i by rw [h.1]; exact Nat.le_of_not_lt hc), h.1]
    rw [e1, e2]; exact k.2 _ (by omega)

theorem weightsAll_mem {e : TypeId} : ∀ {l : List (DataW H)} {i : Nat} {d : DataW H} {n : Nat}, l[i]? = some d → n ∈ d.weights P e → n ∈ DataW.weightsAll P e l
  | [], i, d, n, h, _ => by simp at h
  | x :: r, 0, d, n, h, hn => by
    simp only [List.getElem?_cons_zero, Option.some.injEq] at h
    subst h
    simp [DataW.weightsAll, hn]
  | x :: r, i + 1, d, n, h, hn => by
    simp only [List.getElem?_cons_succ] at h
    simp [DataW.weightsAll, weightsAll_mem h hn]

theorem arg_fields {d : Nat} (hall : ∀ t fuel (us : List Value) x, okT P d t = true → DataW.trod enc P w base spare held fuel t us = some x → (∀ n ∈ x.1.weights P t, n ≤ reachBytes) → ∃ cs, TC P d t cs ∧ Stand w cs us) :
    ∀ (fs : List Field) (o o' n : Nat) (us : List Value) (xs : List (DataW H × List MemPlace)), (∀ f ∈ fs, okT P d f.type = true) → fieldsEnd P (some o) fs = some o' → us.length = o' → xs.length = fs.length →
      (∀ (i : Nat) (f : Field), fs[i]? = some f → DataW.trod enc P w base spare held n f.type ((us.drop f.offset).take (P.cellsOf f.type)) = xs[i]?) → (∀ m ∈ DataW.weightsEach P (fs.map (·.type)) (xs.map (·.1)), m ≤ reachBytes) →
      ∃ cs, TCs (TC P d) (fs.map (·.type)) cs ∧ Stand w cs (us.drop o)
  | [], o, o', n, us, xs, _, he, hl, _, _, _ => by
    have : o = o' := by simpa [fieldsEnd] using he
    refine ⟨[], rfl, ?_⟩
    rw [List.drop_eq_nil_of_le (by omega)]
    exact Stand.nil
  | f :: fs, o, o', n, us, [], _, _, _, hx, _, _ => by simp at hx
  | f :: fs, o, o', n, us, x :: xs, hok, he, hl, hx, hf, hw => by
    obtain ⟨e1, e2⟩ := fieldsEnd_cons P o f fs he
    simp only [List.map_cons, DataW.weightsEach, List.mem_append] at hw
    have h0 := hf 0 f rfl
    simp only [List.getElem?_cons_zero] at h0
    obtain ⟨c, hc1, hc2⟩ := hall _ _ _ _ (hok f (by simp)) h0 (fun m hm => hw m (.inl hm))
    obtain ⟨r, hr1, hr2⟩ := arg_fields hall fs _ o' n us xs (fun g hg => hok g (by simp [hg])) e2 hl (by simpa using hx) (fun i g hg => by
      have := hf (i + 1) g (by simpa using hg)
      simpa using this) (fun m hm => hw m (.inr hm))
    refine ⟨c ++ r, ⟨c, r, rfl, hc1, hr1⟩, ?_⟩
    have := hc2.append hr2
    rwa [e1, ← List.drop_drop, List.take_append_drop] at this

theorem stand_chunks {d : Nat} {e : TypeId} (s : Nat) : ∀ (n : Nat) (us : List Value), us.length = n * s → (∀ i, i < n → ∃ cs, TC P d e cs ∧ Stand w cs ((us.drop (i * s)).take s)) → ∃ css : List (List V), css.length = n ∧ (∀ c ∈ css, TC P d e c) ∧ Stand w css.flatten us
  | 0, us, hl, _ => ⟨[], rfl, by simp, by
      have : us = [] := List.eq_nil_of_length_eq_zero (by omega)
      rw [this]; exact Stand.nil⟩
  | n + 1, us, hl, h => by
    obtain ⟨c, h1, h2⟩ := h 0 (by omega)
    rw [Nat.zero_mul, List.drop_zero] at h2
    obtain ⟨css, k1, k2, k3⟩ := stand_chunks s n (us.drop s) (by rw [List.length_drop, hl, Nat.succ_mul]; omega) (fun i hi => by
      have := h (i + 1) (by omega)
      rwa [List.drop_drop, show s + i * s = (i + 1) * s from by rw [Nat.succ_mul]; omega])
    refine ⟨c :: css, by simp [k1], fun x hx => ?_, ?_⟩
    · rcases List.mem_cons.1 hx with rfl | hx
      · exact h1
      · exact k2 x hx
    · have := h2.append k3
      rwa [List.take_append_drop] at this

theorem tc_arg (hsp : ∀ b, spare b = true) : ∀ (d : Nat) (t : TypeId) (fuel : Nat) (us : List Value) (x : DataW H × List MemPlace), okT P d t = true → DataW.trod enc P w base spare held fuel t us = some x → (∀ n ∈ x.1.weights P t, n ≤ reachBytes) → ∃ cs, TC P d t cs ∧ Stand w cs us
  | 0, t, _, _, _, hok, _, _ => by simp [okT] at hok
  | d + 1, t, fuel, us, x, hok, hd, hw => by
    unfold okT at hok
    unfold TC
    cases hu : P.underlying t with
    | none => simp [hu] at hok
    | some k =>
      cases k <;> simp only [hu] at hok ⊢ <;> try (exact absurd hok Bool.false_ne_true)
      · obtain ⟨b, rfl, _⟩ := DataW.trod_bool hu hd
        exact ⟨_, ⟨b, rfl⟩, Stand.one (.flat _ rfl)⟩
      · obtain ⟨n, rfl, _, hwf⟩ := DataW.trod_int hu hd
        refine ⟨_, ⟨n, rfl, ?_⟩, Stand.one (.flat _ rfl)⟩
        simpa [Lit.wf] using hwf
      · obtain ⟨s, rfl, rfl, _⟩ := DataW.trod_string hu hd
        refine ⟨_, ⟨s.data.toList, rfl, ?_⟩, Stand.one ?_⟩
        · exact hw s.data.toList.length (by simp [DataW.weights])
        · exact .flat _ rfl
      · -- slice
        rename_i e
        simp only [Bool.and_eq_true, beq_iff_eq, decide_eq_true_eq] at hok
        obtain ⟨⟨⟨hok1, hok2⟩, hb⟩, hc0⟩ := hok
        rcases Go.Deep.open_slice hu hd with ⟨rfl, _⟩ | ⟨a, len, cap, m, n, D, Pl, rfl, _, hl, hm, hz, rfl, hcell⟩
        · refine ⟨_, ⟨[], rfl, by simp, by simp⟩, Stand.one ?_⟩
          exact .sl0 false _ none 0
        · have hz' : m = cap := by rw [hz, hsp]; rfl
          subst hz'
          have hlen : len ≤ 140737488351232 := by
            have h0 := hw ((((List.range len).map D).length + ((List.range (m - len)).map fun j => D (len + j)).length) * P.bytesOf e) (by simp [DataW.weights, hu])
            simp only [List.length_map, List.length_range, reachBytes] at h0
            have := Nat.le_trans (Nat.le_mul_of_pos_right (len + (m - len)) hb) h0
            omega
          have hlenB : len * P.bytesOf e ≤ 140737488351232 := by
            have h0 := hw ((((List.range len).map D).length + ((List.range (m - len)).map fun j => D (len + j)).length) * P.bytesOf e) (by simp [DataW.weights, hu])
            simp only [List.length_map, List.length_range, reachBytes] at h0
            exact Nat.le_trans (Nat.mul_le_mul_right _ (Nat.le_add_right _ _)) h0
          -- each element
          have hel : ∀ i, i < len → ∃ cs us', TC P d e cs ∧ Stand w cs us' ∧ w.cells? base (a.add (i * P.cellsOf e)) (P.cellsOf e) = some us' := fun i hi => by
            obtain ⟨cs', h1, h2⟩ := hcell i (by omega)
            obtain ⟨cs, h3, h4⟩ := tc_arg hsp d _ n cs' _ hok1 h2 (fun q hq => hw q (by
              simp only [DataW.weights, hu, List.mem_cons, List.mem_append]
              right; left
              exact weightsAll_mem (i := i) (d := D i) (by simp [hi]) hq))
            exact ⟨cs, cs', h3, h4, h1⟩
          obtain ⟨f, hf⟩ := Go.Deep.choose_lt (α := List V × List Value) (n := len) (p := fun i q => TC P d e q.1 ∧ Stand w q.1 q.2 ∧ w.cells? base (a.add (i * P.cellsOf e)) (P.cellsOf e) = some q.2) (fun i hi => by
            obtain ⟨cs, us', h⟩ := hel i hi
            exact ⟨(cs, us'), h⟩)
          have hfl : ∀ i, i < len → (f i).1.length = P.cellsOf e := fun i hi => tc_len d _ _ hok1 (hf i hi).1
          have hcss : ∀ c ∈ (List.range len).map fun i => (f i).1, c.length = P.cellsOf e := fun c hc => by
            obtain ⟨i, hi, rfl⟩ := List.mem_map.1 hc
            exact hfl i (by simpa using hi)
          refine ⟨_, ⟨(List.range len).map fun i => (f i).1, rfl, by simpa using ⟨hlen, hlenB⟩, fun c hc => ?_⟩, ?_⟩
          · obtain ⟨i, hi, rfl⟩ := List.mem_map.1 hc
            exact (hf i (by simpa using hi)).1
          · have hll : ((List.range len).map fun i => (f i).1).length = len := by simp
            rw [hll]
            refine Stand.one ?_
            rcases Nat.eq_zero_or_pos len with rfl | hpos
            · exact .sl0 false _ _ _
            · obtain ⟨b, off, spot⟩ := a
              have hcl : ∀ i j, i < len → j < P.cellsOf e → w.cell? ((⟨b, off, spot⟩ : Addr).add (i * P.cellsOf e + j)) = some ((f i).2.getD j undef) := fun i j hi hj => by
                obtain ⟨_, h1, h2⟩ := World.cells?_some (hf i hi).2.2
                have := h2 j hj
                rw [Go.Deep.add_add] at this
                rw [this, List.getD_eq_getElem?_getD, List.getElem?_eq_getElem (by omega)]
                rfl
              have hspot : spot = none := by
                have := hcl 0 0 hpos hc0
                simpa [Addr.add] using World.cell?_spot this
              subst hspot
              have hfl2 : ∀ i, i < len → (f i).2.length = P.cellsOf e := fun i hi => by rw [(hf i hi).2.1.1, hfl i hi]
              have hvss : ∀ c ∈ (List.range len).map fun i => (f i).2, c.length = P.cellsOf e := fun c hc => by
                obtain ⟨i, hi, rfl⟩ := List.mem_map.1 hc
                exact hfl2 i (by simpa using hi)
              have hlen1 := flatten_len (P.cellsOf e) _ hcss
              have hlen2 := flatten_len (P.cellsOf e) _ hvss
              simp only [List.length_map, List.length_range] at hlen1 hlen2
              -- the flat rows stand for one another
              have hst : ∀ k, k ≤ len → Stand w ((List.range k).map fun i => (f i).1).flatten ((List.range k).map fun i => (f i).2).flatten := by
                intro k
                induction k with
                | zero => intro _; exact Stand.nil
                | succ k ih =>
                  intro hk
                  rw [List.range_succ, List.map_append, List.map_append, List.flatten_append, List.flatten_append]
                  refine (ih (by omega)).append ?_
                  simpa using (hf k (by omega)).2.1
              have hget : ∀ k, k < len * P.cellsOf e → w.cell? ⟨b, off + k, none⟩ = some ((((List.range len).map fun i => (f i).2).flatten).getD k undef) := fun k hk => by
                have hq : k / P.cellsOf e < len := Nat.div_lt_of_lt_mul (by rw [Nat.mul_comm]; exact hk)
                have hr : k % P.cellsOf e < P.cellsOf e := Nat.mod_lt _ hc0
                have := hcl _ _ hq hr
                rw [show k / P.cellsOf e * P.cellsOf e + k % P.cellsOf e = k from by rw [Nat.mul_comm]; exact Nat.div_add_mod _ _, WideShapes.add_plain] at this
                rw [this]
                congr 1
                have key : ∀ (l : List (List Value)) (s q r : Nat), (∀ c ∈ l, c.length = s) → q < l.length → r < s → (l.getD q []).getD r undef = l.flatten.getD (q * s + r) undef := by
                  intro l s
                  induction l with
                  | nil => intro q r _ h; simp at h
                  | cons c l ih =>
                    intro q r hs hq hr
                    have hcs := hs c (by simp)
                    cases q with
                    | zero =>
                      rw [List.getD_cons_zero, List.flatten_cons, Nat.zero_mul, Nat.zero_add, List.getD_eq_getElem?_getD, List.getD_eq_getElem?_getD, List.getElem?_append_left (by omega)]
                    | succ q =>
                      rw [List.getD_cons_succ, ih q r (fun x hx => hs x (by simp [hx])) (by simpa using hq) hr, List.flatten_cons]
                      simp only [List.getD_eq_getElem?_getD]
                      rw [List.getElem?_append_right (by rw [Nat.succ_mul]; omega)]
                      congr 2
                      rw [Nat.succ_mul]; omega
                have := key ((List.range len).map fun i => (f i).2) (P.cellsOf e) (k / P.cellsOf e) (k % P.cellsOf e) hvss (by simpa using hq) hr
                rw [show k / P.cellsOf e * P.cellsOf e + k % P.cellsOf e = k from by rw [Nat.mul_comm]; exact Nat.div_add_mod _ _] at this
                rw [← this]
                simp [List.getD_eq_getElem?_getD, hq]
              have hprot : off + len * P.cellsOf e ≤ protOf w b := by
                have h1 : 0 < len * P.cellsOf e := Nat.mul_pos hpos hc0
                have := protOf_cell (hget (len * P.cellsOf e - 1) (by omega))
                omega
              exact .sl false _ len _ b off m _ hlen1 hl hm (by rw [hlen1]; exact hprot) (fun i hi => hget i (by omega)) (fun i hi => (hst len (Nat.le_refl _)).2 i hi)
      · -- array
        simp only [Bool.and_eq_true, beq_iff_eq] at hok
        obtain ⟨xs, m, rfl, rfl, hl, hxl, hel⟩ := DataW.trod_array hu hd
        rename_i n e
        obtain ⟨css, h1, h2, h3⟩ := stand_chunks (P := P) (d := d) (e := e) (w := w) (P.cellsOf e) n us (by rw [hl, hok.2]) (fun i hi => by
          have h4 := hel i hi
          rw [List.getElem?_eq_getElem (by omega)] at h4
          exact tc_arg hsp d e m _ _ hok.1 h4 (fun q hq => hw q (by
            simp only [DataW.weights, hu]
            exact weightsAll_mem (i := i) (by rw [List.getElem?_map, List.getElem?_eq_getElem (by omega)]; rfl) hq)))
        exact ⟨_, ⟨css, h1, rfl, h2⟩, h3⟩
      · -- struct
        simp only [Bool.and_eq_true, beq_iff_eq, List.all_eq_true] at hok
        obtain ⟨xs, m, rfl, rfl, hl, hxl, hel⟩ := DataW.trod_struct hu hd
        obtain ⟨cs, h1, h2⟩ := arg_fields (P := P) (d := d) (w := w) (base := base) (spare := spare) (held := held) (enc := enc) (fun t fuel us x => tc_arg hsp d t fuel us x) _ 0 _ m us xs hok.1 hok.2 hl (by simpa using hxl) (fun i f hf => hel i f (by simpa using hf)) (fun q hq => hw q (by
          simp only [DataW.weights, hu]
          exact hq))
        exact ⟨cs, h1, by simpa using h2⟩


def TV (P : Program) (d : Nat) (t : TypeId) (x : V) : Prop := ∃ cs, TC P d t cs ∧ match P.underlying t with
  | some (.struct _) | some (.array _ _) => x = .agg cs
  | _ => cs = [x]

theorem tv_arg {W : World} {d base0 : Nat} {t : TypeId} {v : Value} {x : DataW H} {ps : List MemPlace} (hok : okT P d t = true) (hval : Value.okWide P W .any base0 t v) (hd : DataW.Trod enc P W base (fun _ => true) held t v x ps) {ts : List TypeId} {ds : List (DataW H)} {j : Nat} (hj : ts[j]? = some t) (hdj : ds[j]? = some x)
    (hsz : (DataW.weightsEach P ts ds).all (· ≤ reachBytes) = true) : ∃ y, TV P d t y ∧ VR (gOf W) W y v := by
  obtain ⟨fuel, hf⟩ := hd
  have hw := List.all_eq_true.1 hsz
  obtain ⟨cs, h1, h2⟩ := tc_arg (w := W) (fun _ => rfl) d t fuel _ _ hok hf (fun n hn => of_decide_eq_true (hw n (DataW.weights_mem_each (P := P) hj hdj n hn)))
  have hagg : (∃ us, v = .agg us) → ∃ y, y = .agg cs ∧ VR (gOf W) W y v := by
    rintro ⟨us, rfl⟩
    refine ⟨_, rfl, .agg _ _ (by simpa [Value.cells] using h2.1) (fun i hi => ?_)⟩
    have := h2.2 i hi
    simpa [Value.cells, List.getD_eq_getElem?_getD, Array.getD_eq_getD_getElem?] using this
  have hone : (v.cells = #[v]) → ∃ y, cs = [y] ∧ VR (gOf W) W y v := by
    intro hv
    rw [hv] at h2
    match cs, h2 with
    | [y], h2 => exact ⟨y, rfl, by simpa using h2.2 0 (by simp)⟩
    | [], h2 => have := h2.1; simp at this
    | _ :: _ :: _, h2 => have := h2.1; simp at this
  unfold okT at hok
  cases d with
  | zero => simp at hok
  | succ d =>
    simp only at hok
    cases hu : P.underlying t with
    | none => simp [hu] at hok
    | some k =>
      cases k <;> simp only [hu] at hok <;> try (exact absurd hok Bool.false_ne_true)
      · obtain ⟨b, rfl⟩ := WideShapes.okWide_bool hu hval
        obtain ⟨y, h3, h4⟩ := hone rfl
        exact ⟨y, ⟨cs, h1, by simp only [hu]; exact h3⟩, h4⟩
      · obtain ⟨b, rfl⟩ := WideShapes.okWide_int hu hval
        obtain ⟨y, h3, h4⟩ := hone rfl
        exact ⟨y, ⟨cs, h1, by simp only [hu]; exact h3⟩, h4⟩
      · obtain ⟨b, rfl⟩ := WideShapes.okWide_string hu hval
        obtain ⟨y, h3, h4⟩ := hone rfl
        exact ⟨y, ⟨cs, h1, by simp only [hu]; exact h3⟩, h4⟩
      · obtain ⟨a, b, c, rfl⟩ := WideShapes.okWide_slice hu hval
        obtain ⟨y, h3, h4⟩ := hone rfl
        exact ⟨y, ⟨cs, h1, by simp only [hu]; exact h3⟩, h4⟩
      · obtain ⟨y, h3, h4⟩ := hagg (by
          unfold Value.okWide at hval
          simp only [hu] at hval
          obtain ⟨us, h, _⟩ := hval
          exact ⟨us, h⟩)
        exact ⟨y, ⟨cs, h1, by simp only [hu]; exact h3⟩, h4⟩
      · obtain ⟨y, h3, h4⟩ := hagg (by
          obtain ⟨us, h, _⟩ := WideShapes.okWide_struct hu hval
          exact ⟨us, h⟩)
        exact ⟨y, ⟨cs, h1, by simp only [hu]; exact h3⟩, h4⟩
end

section
variable {d : Nat} {t e : TypeId} {cs : List V}
theorem tc_int (ht : P.underlying t = some (.int .i64)) (h : TC P (d + 1) t cs) : ∃ n, cs = [.flat (.int .i64 n)] ∧ inR n := by
  unfold TC at h; simp only [ht] at h; exact h
theorem tc_str (ht : P.underlying t = some .string) (h : TC P (d + 1) t cs) : ∃ s : List UInt8, cs = [.flat (.string (bs s))] ∧ s.length ≤ 140737488351232 := by
  unfold TC at h; simp only [ht] at h; exact h
theorem tc_u8 (ht : P.underlying t = some (.int .u8)) (h : TC P (d + 1) t cs) : ∃ b : UInt8, cs = [.flat (.int .u8 b.toNat)] := by
  unfold TC at h; simp only [ht] at h
  obtain ⟨n, rfl, h1, h2⟩ := h
  have h1' : (0 : Int) ≤ n := h1
  have h2' : n ≤ 255 := h2
  refine ⟨UInt8.ofNat n.toNat, ?_⟩
  have : ((UInt8.ofNat n.toNat).toNat : Int) = n := by
    rw [UInt8.toNat_ofNat', Nat.mod_eq_of_lt (by show n.toNat < 256; omega), Int.toNat_of_nonneg h1']
  rw [this]
theorem rows_map {α β : Type} (f : α → β) (p : α → Prop) : ∀ (l : List β), (∀ c ∈ l, ∃ x, c = f x ∧ p x) → ∃ xs : List α, l = xs.map f ∧ ∀ x ∈ xs, p x
  | [], _ => ⟨[], rfl, by simp⟩
  | c :: l, h => by
    obtain ⟨x, rfl, hx⟩ := h c (by simp)
    obtain ⟨xs, rfl, hxs⟩ := rows_map f p l (fun c hc => h c (by simp [hc]))
    exact ⟨x :: xs, rfl, by simpa using ⟨hx, hxs⟩⟩
theorem tc_bytes {n : Nat} (ht : P.underlying t = some (.array n e)) (he : P.underlying e = some (.int .u8)) (h : TC P (d + 2) t cs) : ∃ l : List UInt8, l.length = n ∧ cs = bv l := by
  unfold TC at h; simp only [ht] at h
  obtain ⟨css, rfl, rfl, h2⟩ := h
  obtain ⟨xs, rfl, _⟩ := rows_map (fun b : UInt8 => [V.flat (.int .u8 b.toNat)]) (fun _ => True) css (fun c hc => by
    obtain ⟨b, rfl⟩ := tc_u8 (d := d) he (h2 c hc)
    exact ⟨b, rfl, trivial⟩)
  refine ⟨xs, by simp, ?_⟩
  have key : ∀ xs : List UInt8, (xs.map (fun b : UInt8 => [V.flat (.int .u8 b.toNat)])).flatten = bv xs := by
    intro xs
    induction xs with
    | nil => rfl
    | cons x xs ih =>
      rw [List.map_cons, List.flatten_cons, ih]
      rfl
  exact key xs
theorem tc_id32 (ht : P.underlying t = some (.array 32 e)) (he : P.underlying e = some (.int .u8)) (h : TC P (d + 2) t cs) : ∃ x : Id32, cs = bv x.1 := by
  obtain ⟨l, hl, rfl⟩ := tc_bytes ht he h
  exact ⟨⟨l, hl⟩, rfl⟩
theorem tc_slice {α : Type} (f : α → List V) (p : α → Prop) (ht : P.underlying t = some (.slice e)) {n : Nat} (hn : P.cellsOf e = n) (hel : ∀ c, TC P d e c → ∃ x, c = f x ∧ p x) (h : TC P (d + 1) t cs) :
    ∃ xs : List α, cs = [.sl false n xs.length (xs.map f).flatten] ∧ xs.length ≤ 140737488351232 ∧ ∀ x ∈ xs, p x := by
  unfold TC at h; simp only [ht] at h
  obtain ⟨css, rfl, h1, h2⟩ := h
  obtain ⟨xs, rfl, hp⟩ := rows_map f p css (fun c hc => hel c (h2 c hc))
  subst hn
  exact ⟨xs, by simp, by simpa using h1.1, hp⟩
theorem tc_struct {fs : Array Field} (ht : P.underlying t = some (.struct fs)) (h : TC P (d + 1) t cs) : TCs (TC P d) (fs.toList.map (·.type)) cs := by
  unfold TC at h; simp only [ht] at h; exact h
theorem tv_agg {fs : Array Field} {x : V} (ht : P.underlying t = some (.struct fs)) (h : TV P d t x) : ∃ cs, x = .agg cs ∧ TC P d t cs := by
  obtain ⟨cs, h1, h2⟩ := h
  simp only [ht] at h2
  exact ⟨cs, h2, h1⟩
theorem tv_arr {n : Nat} {x : V} (ht : P.underlying t = some (.array n e)) (h : TV P d t x) : ∃ cs, x = .agg cs ∧ TC P d t cs := by
  obtain ⟨cs, h1, h2⟩ := h
  simp only [ht] at h2
  exact ⟨cs, h2, h1⟩
theorem tv_sl {x : V} (ht : P.underlying t = some (.slice e)) (h : TV P d t x) : TC P d t [x] := by
  obtain ⟨cs, h1, h2⟩ := h
  simp only [ht] at h2
  rw [← h2]; exact h1
end
end Go.VL

set_option linter.unusedVariables false
set_option linter.unusedSimpArgs false
open Go.RowKit
namespace Go.VL
variable {P : Program} {E : Entry} {w : World} {C : Cfg} {ops : List Oper}

abbrev Mem := Nat → Option (List V)
@[reducible] def rsvOf (E : Entry) (M : Mem) : Entry := { E with rsv := fun b => E.rsv b ∨ (E.lo ≤ b ∧ b < E.hi ∧ M b = none) }
def AtB (E : Entry) (nt : Nat) (s : Nat → V) (M : Mem) (n : Nat) (a : Act) (w : World) : Prop := AtF (rsvOf E M) nt s M n a w ∧ ∀ t, nt ≤ t → s t = .unk
theorem AtF.fewer {nt : Nat} {s : Nat → V} {M : Mem} {n : Nat} {a : Act} {w : World} (h : AtF E nt s M n a w) (r : Nat → Prop) (hr : ∀ b, r b → E.rsv b) : AtF { E with rsv := r } nt s M n a w := by
  obtain ⟨g, ob, h1, h2⟩ := h
  exact ⟨g, ob, { h1 with rsv := fun b hb => h1.rsv b (hr b hb) }, h2⟩
theorem AtF.filled {nt : Nat} {s : Nat → V} {M M' : Mem} {n : Nat} {a : Act} {w : World} (h : AtF (rsvOf E M) nt s M' n a w) (hM : ∀ b, M' b = none → M b = none) : AtF (rsvOf E M') nt s M' n a w := by
  obtain ⟨g, ob, h1, h2⟩ := h
  exact ⟨g, ob, { h1 with rsv := fun b hb => h1.rsv b (Or.elim hb .inl fun q => .inr ⟨q.1, q.2.1, hM b q.2.2⟩) }, h2⟩
theorem upd_none {M : Mem} {b c : Nat} {z : List V} (h : upd M b (some z) c = none) : M c = none := by
  by_cases e : c = b
  · subst e; rw [upd_same] at h; cases h
  · rwa [upd_ne _ _ e] at h
def ovr (M : Mem) (bs : List Nat) (vs : Mem) : Mem := fun b => if bs.contains b then vs b else M b
def Agree (M2 M : Mem) (bs : List Nat) : Prop := ∀ b ∈ bs, M2 b = M b
def lz : Option (List V) → Option (List V) := Option.map (List.map V.fz)
def LAgree (M2 M : Mem) (bs : List Nat) : Prop := ∀ b ∈ bs, lz (M2 b) = lz (M b)
def putS (s : Nat → V) (d : Option Nat) (x : V) : Nat → V := match d with
  | some d => upd s d x
  | none => s

def dem (s : Nat → V) (dm : List Nat) : Nat → V := fun t => if dm.contains t then (s t).fz else s t
def putD (s : Nat → V) (dm : List Nat) (d : Option Nat) (x : V) : Nat → V := putS (dem s dm) d x
theorem dem_nil (s : Nat → V) : dem s [] = s := by funext t; simp [dem]
theorem putD_nil (s : Nat → V) (d : Option Nat) (x : V) : putD s [] d x = putS s d x := by rw [putD, dem_nil]
theorem dem_comm (s : Nat → V) (a b : List Nat) : dem (dem s a) b = dem (dem s b) a := by
  funext t
  unfold dem
  by_cases h1 : a.contains t <;> by_cases h2 : b.contains t <;> simp only [h1, h2, if_true, if_false, Bool.false_eq_true]
theorem dem_out {s : Nat → V} {dm : List Nat} {t : Nat} (h : t ∉ dm) : dem s dm t = s t := by
  unfold dem
  rw [if_neg (by simpa using h)]
theorem dem_put {s : Nat → V} {dm : List Nat} {d : Option Nat} {x : V} (h : ∀ e, d = some e → e ∉ dm) : dem (putS s d x) dm = putS (dem s dm) d x := by
  funext t
  unfold putS
  cases d with
  | none => rfl
  | some e =>
    have he := h e rfl
    simp only
    by_cases q : t = e
    · subst q; rw [dem_out he, upd_same, upd_same]
    · unfold dem; rw [upd_ne _ _ q, upd_ne _ _ q]
def exOf (T : List Nat) (o : Oper) : List Nat := match o.op with
  | .move (.tmp i) => match o.dst with
    | some d => if T.contains d then [i] else []
    | none => []
  | .assign (.tmp i) => [i]
  | .call c => match c.callee with
    | .builtin .append => match c.args[0]? with
      | some (Operand.tmp i) => [i]
      | _ => []
    | _ => []
  | .store _ _ (.tmp i) => if T.contains i then [i] else []
  | _ => []
def exFree (T : List Nat) (ops : Array Oper) (a b : Oper) : Bool :=
  ((exOf T a).all fun t => !(b.looksAt ops).contains t && b.dst != some t) && ((exOf T b).all fun t => !(a.looksAt ops).contains t && a.dst != some t)

def Does (P : Program) (E : Entry) (C : Cfg) (ops : List Oper) (o : Oper) (s : Nat → V) (M : Mem) (n : Nat) (x : V) (M' : Mem) (n' : Nat) (dm : List Nat) : Prop :=
  ∀ s2 : Nat → V, (∀ t, looks ops o t → s2 t = s t) → ∀ i, ops[i]? = some o → ∀ (K' : Act → World → Prop) (Q : Exit → Act → World → Prop) (a : Act) (w : World), AtB E C.nt s2 M n a w →
    (∀ a' w', AtB E C.nt (putD s2 dm o.dst x) M' n' a' w' → K' a' w') → wpOp P ops.toArray Q i K' a w

def YM (P : Program) (E : Entry) (C : Cfg) (ops : List Oper) (n0 : Nat) (cls : Nat) (o : Oper) (s : Nat → V) (M : Mem) (n : Nat) (x : V) (M' : Mem) (n' : Nat) (dm : List Nat) : Prop :=
  n0 ≤ n ∧ (∀ t ∈ dm, t ∈ exOf C.T o) ∧ match cls with
  | 0 => M' = M ∧ n' = n ∧ ∀ M2 n2, Does P E C ops o s M2 n2 x M2 n2 dm
  | 1 => M' = M ∧ n' = n ∧ ∃ bs, ∀ M2 n2, Agree M2 M bs → Does P E C ops o s M2 n2 x M2 n2 dm
  | 4 => M' = M ∧ n' = n ∧ ∃ bs : List Nat, (∀ b ∈ bs, b < n0) ∧ ∀ M2 n2, Agree M2 M bs → Does P E C ops o s M2 n2 x M2 n2 dm
  | 2 => n' = n ∧ ∃ (bs : List Nat) (vs : Mem), M' = ovr M bs vs ∧ ∀ M2 n2, Agree M2 M bs → Does P E C ops o s M2 n2 x (ovr M2 bs vs) n2 dm
  | 5 => n' = n ∧ ∃ (bs : List Nat) (vs : Mem), (∀ b ∈ bs, b < n0) ∧ M' = ovr M bs vs ∧ ∀ M2 n2, Agree M2 M bs → Does P E C ops o s M2 n2 x (ovr M2 bs vs) n2 dm
  | 6 => n' = n ∧ ∃ (bs : List Nat) (vs : Mem), (∀ b ∈ bs, n0 ≤ b) ∧ M' = ovr M bs vs ∧ ∀ M2 n2, Agree M2 M bs → Does P E C ops o s M2 n2 x (ovr M2 bs vs) n2 dm
  | 7 => n' = n ∧ ∃ (bs : List Nat) (vs : Mem), (∀ b ∈ bs, b < n0) ∧ M' = ovr M bs vs ∧ (∀ b ∈ bs, lz (vs b) = lz (M b)) ∧ ∀ M2 n2, Agree M2 M bs → Does P E C ops o s M2 n2 x (ovr M2 bs vs) n2 dm
  | 8 => M' = M ∧ n' = n ∧ ∃ bs : List Nat, (∀ b ∈ bs, b < n0) ∧ ∀ M2 n2, LAgree M2 M bs → Does P E C ops o s M2 n2 x M2 n2 dm
  | c + 9 => ∃ z, x = .bp (n0 + c) 0 ∧ M (n0 + c) = none ∧ M' = upd M (n0 + c) (some z) ∧ n' = n ∧ ∀ M2 n2, M2 (n0 + c) = none → Does P E C ops o s M2 n2 (.bp (n0 + c) 0) (upd M2 (n0 + c) (some z)) n2 dm
  | _ => ∃ z, x = .bp n 0 ∧ M' = upd M n (some z) ∧ n' = n + 1 ∧ ∀ M2 n2, Does P E C ops o s M2 n2 (.bp n2 0) (upd M2 n2 (some z)) (n2 + 1) dm

def compat0 (a b : Nat) : Bool := decide (a ≤ 6) && decide (b ≤ 6) && ((a == 4 && b == 6) || (a == 6 && b == 4) || (a == 5 && b == 6) || (a == 6 && b == 5) || a == 0 || b == 0 || ((a == 1 || a == 4) && (b == 1 || b == 4)) || (decide (5 < a + b) && (a == 3 || b == 3) && (a == 4 || b == 4 || a == 5 || b == 5)))

def compatT (a b : Nat) : Bool := (a == 7 && (b == 0 || b == 8)) || (a == 8 && (b == 0 || b == 1 || b == 3 || b == 4 || b == 7 || b == 8)) || (b == 7 && (a == 0 || a == 8)) || (b == 8 && (a == 0 || a == 1 || a == 3 || a == 4 || a == 7 || a == 8))
def compat (a b : Nat) : Bool := compatT a b || (compat0 a b || (decide (9 ≤ a) && (b == 0 || b == 4 || b == 5)) || (decide (9 ≤ b) && (a == 0 || a == 4 || a == 5)) || (decide (9 ≤ a) && decide (9 ≤ b) && a != b))

theorem Does.congr {s s' : Nat → V} {o : Oper} {M M' : Mem} {n n' : Nat} {x : V} {dm : List Nat} (h : ∀ t, looks ops o t → s' t = s t) (hd : Does P E C ops o s M n x M' n' dm) : Does P E C ops o s' M n x M' n' dm :=
  fun s2 h2 => hd s2 (fun t ht => (h2 t ht).trans (h t ht))

theorem YM.congr {n0 cls : Nat} {s s' : Nat → V} {o : Oper} {M M' : Mem} {n n' : Nat} {x : V} {dm : List Nat} (h : ∀ t, looks ops o t → s' t = s t) (hy : YM P E C ops n0 cls o s M n x M' n' dm) : YM P E C ops n0 cls o s' M n x M' n' dm := by
  refine ⟨hy.1, hy.2.1, ?_⟩
  have hy := hy.2.2
  split at hy
  · exact ⟨hy.1, hy.2.1, fun M2 n2 => (hy.2.2 M2 n2).congr h⟩
  · obtain ⟨a, b, bs, c⟩ := hy; exact ⟨a, b, bs, fun M2 n2 g => (c M2 n2 g).congr h⟩
  · obtain ⟨a, b, bs, c', c⟩ := hy; exact ⟨a, b, bs, c', fun M2 n2 g => (c M2 n2 g).congr h⟩
  · obtain ⟨a, bs, vs, b, c⟩ := hy; exact ⟨a, bs, vs, b, fun M2 n2 g => (c M2 n2 g).congr h⟩
  · obtain ⟨a, bs, vs, b', b, c⟩ := hy; exact ⟨a, bs, vs, b', b, fun M2 n2 g => (c M2 n2 g).congr h⟩
  · obtain ⟨a, bs, vs, b', b, c⟩ := hy; exact ⟨a, bs, vs, b', b, fun M2 n2 g => (c M2 n2 g).congr h⟩
  · obtain ⟨a, bs, vs, b', b, v, c⟩ := hy; exact ⟨a, bs, vs, b', b, v, fun M2 n2 g => (c M2 n2 g).congr h⟩
  · obtain ⟨a, b, bs, c', c⟩ := hy; exact ⟨a, b, bs, c', fun M2 n2 g => (c M2 n2 g).congr h⟩
  · obtain ⟨z, a, b, c, d, e⟩ := hy; exact ⟨z, a, b, c, d, fun M2 n2 g => (e M2 n2 g).congr h⟩
  · obtain ⟨z, a, b, c, d⟩ := hy; exact ⟨z, a, b, c, fun M2 n2 => (d M2 n2).congr h⟩

theorem upd_ovr {M : Mem} {bs : List Nat} {vs : Mem} {n : Nat} {z : Option (List V)} (h : ∀ b ∈ bs, b < n) : ovr (upd M n z) bs vs = upd (ovr M bs vs) n z := by
  funext b
  unfold ovr upd
  by_cases e : b = n
  · subst e
    have : bs.contains b = false := by
      rw [Bool.eq_false_iff]; intro k
      have := h b (by simpa using k); omega
    simp only [this, if_true]; rfl
  · simp only [e, if_false]

theorem updM_comm {M : Mem} {i j : Nat} {x y : Option (List V)} (h : i ≠ j) : upd (upd M i x) j y = upd (upd M j y) i x := by
  funext b
  unfold upd
  by_cases e : b = i
  · subst e; simp [h]
  · simp [e]
theorem ovr_out {M : Mem} {bs : List Nat} {vs : Mem} {r : Nat} (h : ∀ b ∈ bs, b ≠ r) : ovr M bs vs r = M r := by
  unfold ovr
  rw [if_neg]
  intro k
  exact h r (by simpa using k) rfl
theorem ovr_upd {M : Mem} {bs : List Nat} {vs : Mem} {r : Nat} {z : Option (List V)} (h : ∀ b ∈ bs, b ≠ r) : ovr (upd M r z) bs vs = upd (ovr M bs vs) r z := by
  funext b
  by_cases e : b = r
  · subst e; rw [upd_same, ovr_out h, upd_same]
  · rw [upd_ne _ _ e]
    unfold ovr
    rw [upd_ne _ _ e]
theorem ovr_comm {M : Mem} {bs bs' : List Nat} {vs vs' : Mem} (h : ∀ b ∈ bs, b ∉ bs') : ovr (ovr M bs vs) bs' vs' = ovr (ovr M bs' vs') bs vs := by
  funext b
  unfold ovr
  by_cases h1 : bs.contains b = true <;> by_cases h2 : bs'.contains b = true
  · exact absurd (by simpa using h2) (h b (by simpa using h1))
  · rw [if_neg h2, if_pos h1, if_pos h1]
  · rw [if_pos h2, if_neg h1, if_pos h2]
  · rw [if_neg h2, if_neg h1, if_neg h1, if_neg h2]
theorem YM.swap56 {n0 : Nat} {oi oj : Oper} {s : Nat → V} {M Mi Mij : Mem} {n ni nij : Nat} {xi xj : V} {dmi dmj : List Nat} (hs : ∀ t, looks ops oi t → putD s dmj oj.dst xj t = s t)
    (hi : YM P E C ops n0 5 oi s M n xi Mi ni dmi) (hj : YM P E C ops n0 6 oj s Mi ni xj Mij nij dmj) :
    ∃ Mj nj, YM P E C ops n0 6 oj s M n xj Mj nj dmj ∧ YM P E C ops n0 5 oi (putD s dmj oj.dst xj) Mj nj xi Mij nij dmi := by
  obtain ⟨g1, x1, rfl, bs, vs, hb, rfl, h⟩ := hi
  obtain ⟨g2, x2, rfl, bs', vs', hb', rfl, h'⟩ := hj
  have hd : ∀ b ∈ bs, b ∉ bs' := fun b k1 k2 => by have := hb b k1; have := hb' b k2; omega
  refine ⟨_, _, ⟨g1, x2, rfl, bs', vs', hb', rfl, fun M2 n2 ha => h' M2 n2 (fun b hb2 => ?_)⟩, ⟨g1, x1, rfl, bs, vs, hb, ovr_comm hd, fun M2 n2 ha => (h M2 n2 (fun b hb2 => ?_)).congr hs⟩⟩
  · rw [ha b hb2, ovr, if_neg]
    intro k
    exact hd b (by simpa using k) hb2
  · rw [ha b hb2, ovr, if_neg]
    intro k
    exact hd b hb2 (by simpa using k)
theorem YM.swap65 {n0 : Nat} {oi oj : Oper} {s : Nat → V} {M Mi Mij : Mem} {n ni nij : Nat} {xi xj : V} {dmi dmj : List Nat} (hs : ∀ t, looks ops oi t → putD s dmj oj.dst xj t = s t)
    (hi : YM P E C ops n0 6 oi s M n xi Mi ni dmi) (hj : YM P E C ops n0 5 oj s Mi ni xj Mij nij dmj) :
    ∃ Mj nj, YM P E C ops n0 5 oj s M n xj Mj nj dmj ∧ YM P E C ops n0 6 oi (putD s dmj oj.dst xj) Mj nj xi Mij nij dmi := by
  obtain ⟨g1, x1, rfl, bs, vs, hb, rfl, h⟩ := hi
  obtain ⟨g2, x2, rfl, bs', vs', hb', rfl, h'⟩ := hj
  have hd : ∀ b ∈ bs, b ∉ bs' := fun b k1 k2 => by have := hb b k1; have := hb' b k2; omega
  refine ⟨_, _, ⟨g1, x2, rfl, bs', vs', hb', rfl, fun M2 n2 ha => h' M2 n2 (fun b hb2 => ?_)⟩, ⟨g1, x1, rfl, bs, vs, hb, ovr_comm hd, fun M2 n2 ha => (h M2 n2 (fun b hb2 => ?_)).congr hs⟩⟩
  · rw [ha b hb2, ovr, if_neg]
    intro k
    exact hd b (by simpa using k) hb2
  · rw [ha b hb2, ovr, if_neg]
    intro k
    exact hd b hb2 (by simpa using k)
set_option maxHeartbeats 4000000 in
theorem YM.swap {n0 ci cj : Nat} (hc : compat ci cj = true) {oi oj : Oper} {s si : Nat → V} {M Mi Mij : Mem} {n ni nij : Nat} {xi xj : V} {dmi dmj : List Nat} (hsi : ∀ t, looks ops oj t → si t = s t) (hsj : ∀ sj : Nat → V, sj = putD s dmj oj.dst xj → ∀ t, looks ops oi t → sj t = s t)
    (hi : YM P E C ops n0 ci oi s M n xi Mi ni dmi) (hj : YM P E C ops n0 cj oj si Mi ni xj Mij nij dmj) :
    ∃ Mj nj, YM P E C ops n0 cj oj s M n xj Mj nj dmj ∧ YM P E C ops n0 ci oi (putD s dmj oj.dst xj) Mj nj xi Mij nij dmi := by
  have hj' := hj.congr (s' := s) (fun t ht => (hsi t ht).symm)
  have hs := hsj _ rfl
  obtain ⟨g1, x1, hi2⟩ := id hi
  obtain ⟨g2, x2, hj2⟩ := id hj'
  have z1 : ci = 0 → ∃ Mj nj, YM P E C ops n0 cj oj s M n xj Mj nj dmj ∧ YM P E C ops n0 ci oi (putD s dmj oj.dst xj) Mj nj xi Mij nij dmi := by
    rintro rfl
    obtain ⟨rfl, rfl, h⟩ := hi2
    refine ⟨_, _, hj', (⟨?_, x1, rfl, rfl, fun M2 n2 => (h M2 n2).congr hs⟩ : YM P E C ops n0 0 oi _ _ _ _ _ _ _)⟩
    split at hj2
    · obtain ⟨_, rfl, _⟩ := hj2; exact g1
    · obtain ⟨_, rfl, _⟩ := hj2; exact g1
    · obtain ⟨_, rfl, _⟩ := hj2; exact g1
    · obtain ⟨rfl, _⟩ := hj2; exact g1
    · obtain ⟨rfl, _⟩ := hj2; exact g1
    · obtain ⟨rfl, _⟩ := hj2; exact g1
    · obtain ⟨rfl, _⟩ := hj2; exact g1
    · obtain ⟨_, rfl, _⟩ := hj2; exact g1
    · obtain ⟨_, _, _, _, rfl, _⟩ := hj2; exact g1
    · obtain ⟨_, _, _, rfl, _⟩ := hj2; omega
  have z2 : cj = 0 → ∃ Mj nj, YM P E C ops n0 cj oj s M n xj Mj nj dmj ∧ YM P E C ops n0 ci oi (putD s dmj oj.dst xj) Mj nj xi Mij nij dmi := by
    rintro rfl
    obtain ⟨rfl, rfl, h⟩ := hj2
    exact ⟨M, n, ⟨g1, x2, rfl, rfl, h⟩, hi.congr hs⟩
  have rd : (ci = 1 ∨ ci = 4 ∨ ci = 8) → (cj = 1 ∨ cj = 4 ∨ cj = 8) → ∃ Mj nj, YM P E C ops n0 cj oj s M n xj Mj nj dmj ∧ YM P E C ops n0 ci oi (putD s dmj oj.dst xj) Mj nj xi Mij nij dmi := by
    rintro a b
    have e1 : Mi = M ∧ ni = n := by
      rcases a with rfl | rfl | rfl
      · exact ⟨hi2.1, hi2.2.1⟩
      · exact ⟨hi2.1, hi2.2.1⟩
      · exact ⟨hi2.1, hi2.2.1⟩
    obtain ⟨rfl, rfl⟩ := e1
    have e2 : Mij = Mi ∧ nij = ni := by
      rcases b with rfl | rfl | rfl
      · exact ⟨hj2.1, hj2.2.1⟩
      · exact ⟨hj2.1, hj2.2.1⟩
      · exact ⟨hj2.1, hj2.2.1⟩
    obtain ⟨rfl, rfl⟩ := e2
    exact ⟨_, _, hj', hi.congr hs⟩
  have e43 : ci = 4 → cj = 3 → ∃ Mj nj, YM P E C ops n0 cj oj s M n xj Mj nj dmj ∧ YM P E C ops n0 ci oi (putD s dmj oj.dst xj) Mj nj xi Mij nij dmi := by
    rintro rfl rfl
    obtain ⟨rfl, rfl, bs, hb, h⟩ := hi2
    obtain ⟨z, rfl, rfl, rfl, h'⟩ := hj2
    refine ⟨_, _, ⟨g1, x2, z, rfl, rfl, rfl, h'⟩, ⟨by omega, x1, rfl, rfl, bs, hb, fun M2 n2 ha => (h M2 n2 (fun b hb2 => ?_)).congr hs⟩⟩
    rw [ha b hb2, upd_ne]; have := hb b hb2; omega
  have e53 : ci = 5 → cj = 3 → ∃ Mj nj, YM P E C ops n0 cj oj s M n xj Mj nj dmj ∧ YM P E C ops n0 ci oi (putD s dmj oj.dst xj) Mj nj xi Mij nij dmi := by
    rintro rfl rfl
    obtain ⟨rfl, bs, vs, hb, rfl, h⟩ := hi2
    obtain ⟨z, rfl, rfl, rfl, h'⟩ := hj2
    refine ⟨_, _, ⟨g1, x2, z, rfl, rfl, rfl, h'⟩, ⟨by omega, x1, rfl, bs, vs, hb, (upd_ovr fun b hb2 => Nat.lt_of_lt_of_le (hb b hb2) g1).symm, fun M2 n2 ha => (h M2 n2 (fun b hb2 => ?_)).congr hs⟩⟩
    rw [ha b hb2, upd_ne]; have := hb b hb2; omega
  have e34 : ci = 3 → cj = 4 → ∃ Mj nj, YM P E C ops n0 cj oj s M n xj Mj nj dmj ∧ YM P E C ops n0 ci oi (putD s dmj oj.dst xj) Mj nj xi Mij nij dmi := by
    rintro rfl rfl
    obtain ⟨z, rfl, rfl, rfl, h⟩ := hi2
    obtain ⟨rfl, rfl, bs, hb, h'⟩ := hj2
    refine ⟨M, n, ⟨g1, x2, rfl, rfl, bs, hb, fun M2 n2 ha => h' M2 n2 (fun b hb2 => ?_)⟩, ⟨g1, x1, z, rfl, rfl, rfl, fun M2 n2 => (h M2 n2).congr hs⟩⟩
    rw [ha b hb2, upd_ne]; have := hb b hb2; omega
  have e35 : ci = 3 → cj = 5 → ∃ Mj nj, YM P E C ops n0 cj oj s M n xj Mj nj dmj ∧ YM P E C ops n0 ci oi (putD s dmj oj.dst xj) Mj nj xi Mij nij dmi := by
    rintro rfl rfl
    obtain ⟨z, rfl, rfl, rfl, h⟩ := hi2
    obtain ⟨rfl, bs, vs, hb, rfl, h'⟩ := hj2
    refine ⟨ovr M bs vs, n, ⟨g1, x2, rfl, bs, vs, hb, rfl, fun M2 n2 ha => h' M2 n2 (fun b hb2 => ?_)⟩, ⟨g1, x1, z, rfl, upd_ovr fun b hb2 => Nat.lt_of_lt_of_le (hb b hb2) g1, rfl, fun M2 n2 => (h M2 n2).congr hs⟩⟩
    rw [ha b hb2, upd_ne]; have := hb b hb2; omega
  have e46 : ci = 4 → cj = 6 → ∃ Mj nj, YM P E C ops n0 cj oj s M n xj Mj nj dmj ∧ YM P E C ops n0 ci oi (putD s dmj oj.dst xj) Mj nj xi Mij nij dmi := by
    rintro rfl rfl
    obtain ⟨rfl, rfl, bs, hb, h⟩ := hi2
    obtain ⟨rfl, bs', vs, hb', rfl, h'⟩ := hj2
    refine ⟨_, _, ⟨g1, x2, rfl, bs', vs, hb', rfl, h'⟩, ⟨g1, x1, rfl, rfl, bs, hb, fun M2 n2 ha => (h M2 n2 (fun b hb2 => ?_)).congr hs⟩⟩
    rw [ha b hb2, ovr, if_neg]
    intro hc'
    have h1 := hb b hb2
    have h2 := hb' b (by simpa using hc')
    omega
  have e64 : ci = 6 → cj = 4 → ∃ Mj nj, YM P E C ops n0 cj oj s M n xj Mj nj dmj ∧ YM P E C ops n0 ci oi (putD s dmj oj.dst xj) Mj nj xi Mij nij dmi := by
    rintro rfl rfl
    obtain ⟨rfl, bs', vs, hb', rfl, h'⟩ := hi2
    obtain ⟨rfl, rfl, bs, hb, h⟩ := hj2
    refine ⟨M, _, ⟨g1, x2, rfl, rfl, bs, hb, fun M2 n2 ha => h M2 n2 (fun b hb2 => ?_)⟩, ⟨g1, x1, rfl, bs', vs, hb', rfl, fun M2 n2 ha => (h' M2 n2 ha).congr hs⟩⟩
    rw [ha b hb2, ovr, if_neg]
    intro hc'
    have h1 := hb b hb2
    have h2 := hb' b (by simpa using hc')
    omega
  -- kept numbers
  have r4 : ∀ c, ci = c + 9 → cj = 4 → ∃ Mj nj, YM P E C ops n0 cj oj s M n xj Mj nj dmj ∧ YM P E C ops n0 ci oi (putD s dmj oj.dst xj) Mj nj xi Mij nij dmi := by
    rintro c rfl rfl
    obtain ⟨z, rfl, hm, rfl, rfl, h⟩ := hi2
    obtain ⟨rfl, rfl, bs, hb, h'⟩ := hj2
    refine ⟨M, _, ⟨g1, x2, rfl, rfl, bs, hb, fun M2 n2 ha => h' M2 n2 (fun b hb2 => ?_)⟩, ⟨g1, x1, z, rfl, hm, rfl, rfl, fun M2 n2 q => (h M2 n2 q).congr hs⟩⟩
    rw [ha b hb2, upd_ne]; have := hb b hb2; omega
  have l4 : ∀ c, ci = 4 → cj = c + 9 → ∃ Mj nj, YM P E C ops n0 cj oj s M n xj Mj nj dmj ∧ YM P E C ops n0 ci oi (putD s dmj oj.dst xj) Mj nj xi Mij nij dmi := by
    rintro c rfl rfl
    obtain ⟨rfl, rfl, bs, hb, h⟩ := hi2
    obtain ⟨z, rfl, hm, rfl, rfl, h'⟩ := hj2
    refine ⟨_, _, ⟨g1, x2, z, rfl, hm, rfl, rfl, h'⟩, ⟨g1, x1, rfl, rfl, bs, hb, fun M2 n2 ha => (h M2 n2 (fun b hb2 => ?_)).congr hs⟩⟩
    rw [ha b hb2, upd_ne]; have := hb b hb2; omega
  have r5 : ∀ c, ci = c + 9 → cj = 5 → ∃ Mj nj, YM P E C ops n0 cj oj s M n xj Mj nj dmj ∧ YM P E C ops n0 ci oi (putD s dmj oj.dst xj) Mj nj xi Mij nij dmi := by
    rintro c rfl rfl
    obtain ⟨z, rfl, hm, rfl, rfl, h⟩ := hi2
    obtain ⟨rfl, bs, vs, hb, rfl, h'⟩ := hj2
    have hne : ∀ b ∈ bs, b ≠ n0 + c := fun b q => by have := hb b q; omega
    refine ⟨ovr M bs vs, _, ⟨g1, x2, rfl, bs, vs, hb, rfl, fun M2 n2 ha => h' M2 n2 (fun b hb2 => ?_)⟩, ⟨g1, x1, z, rfl, ?_, ovr_upd hne, rfl, fun M2 n2 q => (h M2 n2 q).congr hs⟩⟩
    · rw [ha b hb2, upd_ne]; exact hne b hb2
    · rw [ovr_out hne]; exact hm
  have l5 : ∀ c, ci = 5 → cj = c + 9 → ∃ Mj nj, YM P E C ops n0 cj oj s M n xj Mj nj dmj ∧ YM P E C ops n0 ci oi (putD s dmj oj.dst xj) Mj nj xi Mij nij dmi := by
    rintro c rfl rfl
    obtain ⟨rfl, bs, vs, hb, rfl, h⟩ := hi2
    obtain ⟨z, rfl, hm, rfl, rfl, h'⟩ := hj2
    have hne : ∀ b ∈ bs, b ≠ n0 + c := fun b q => by have := hb b q; omega
    rw [ovr_out hne] at hm
    refine ⟨_, _, ⟨g1, x2, z, rfl, hm, rfl, rfl, h'⟩, ⟨g1, x1, rfl, bs, vs, hb, (ovr_upd hne).symm, fun M2 n2 ha => (h M2 n2 (fun b hb2 => ?_)).congr hs⟩⟩
    rw [ha b hb2, upd_ne]; exact hne b hb2
  have r7 : ∀ c d, c ≠ d → ci = c + 9 → cj = d + 9 → ∃ Mj nj, YM P E C ops n0 cj oj s M n xj Mj nj dmj ∧ YM P E C ops n0 ci oi (putD s dmj oj.dst xj) Mj nj xi Mij nij dmi := by
    rintro c d hcd rfl rfl
    obtain ⟨z, rfl, hm, rfl, rfl, h⟩ := hi2
    obtain ⟨z', rfl, hm', rfl, rfl, h'⟩ := hj2
    have hne : n0 + d ≠ n0 + c := by omega
    rw [upd_ne _ _ hne] at hm'
    refine ⟨_, _, ⟨g1, x2, z', rfl, hm', rfl, rfl, h'⟩, ⟨g1, x1, z, rfl, ?_, ?_, rfl, fun M2 n2 q => (h M2 n2 q).congr hs⟩⟩
    · rw [upd_ne _ _ (Ne.symm hne)]; exact hm
    · exact updM_comm hne.symm
  -- taking, and loads that do not mind it
  have e78 : ci = 7 → cj = 8 → ∃ Mj nj, YM P E C ops n0 cj oj s M n xj Mj nj dmj ∧ YM P E C ops n0 ci oi (putD s dmj oj.dst xj) Mj nj xi Mij nij dmi := by
    rintro rfl rfl
    obtain ⟨rfl, bs, vs, hb, rfl, hv, h⟩ := hi2
    obtain ⟨rfl, rfl, bs', hb', h'⟩ := hj2
    refine ⟨M, _, ⟨g1, x2, rfl, rfl, bs', hb', fun M2 n2 ha => h' M2 n2 (fun b hb2 => ?_)⟩, ⟨g1, x1, rfl, bs, vs, hb, rfl, hv, fun M2 n2 ha => (h M2 n2 ha).congr hs⟩⟩
    rw [ha b hb2, ovr]
    split
    · rename_i q; exact (hv b (by simpa using q)).symm
    · rfl
  have e87 : ci = 8 → cj = 7 → ∃ Mj nj, YM P E C ops n0 cj oj s M n xj Mj nj dmj ∧ YM P E C ops n0 ci oi (putD s dmj oj.dst xj) Mj nj xi Mij nij dmi := by
    rintro rfl rfl
    obtain ⟨rfl, rfl, bs', hb', h'⟩ := hi2
    obtain ⟨rfl, bs, vs, hb, rfl, hv, h⟩ := hj2
    refine ⟨_, _, ⟨g1, x2, rfl, bs, vs, hb, rfl, hv, h⟩, ⟨g1, x1, rfl, rfl, bs', hb', fun M2 n2 ha => (h' M2 n2 (fun b hb2 => ?_)).congr hs⟩⟩
    rw [ha b hb2, ovr]
    split
    · rename_i q; exact hv b (by simpa using q)
    · rfl
  have e83 : ci = 8 → cj = 3 → ∃ Mj nj, YM P E C ops n0 cj oj s M n xj Mj nj dmj ∧ YM P E C ops n0 ci oi (putD s dmj oj.dst xj) Mj nj xi Mij nij dmi := by
    rintro rfl rfl
    obtain ⟨rfl, rfl, bs, hb, h⟩ := hi2
    obtain ⟨z, rfl, rfl, rfl, h'⟩ := hj2
    refine ⟨_, _, ⟨g1, x2, z, rfl, rfl, rfl, h'⟩, ⟨by omega, x1, rfl, rfl, bs, hb, fun M2 n2 ha => (h M2 n2 (fun b hb2 => ?_)).congr hs⟩⟩
    rw [ha b hb2, upd_ne]; have := hb b hb2; omega
  have e38 : ci = 3 → cj = 8 → ∃ Mj nj, YM P E C ops n0 cj oj s M n xj Mj nj dmj ∧ YM P E C ops n0 ci oi (putD s dmj oj.dst xj) Mj nj xi Mij nij dmi := by
    rintro rfl rfl
    obtain ⟨z, rfl, rfl, rfl, h⟩ := hi2
    obtain ⟨rfl, rfl, bs, hb, h'⟩ := hj2
    refine ⟨M, n, ⟨g1, x2, rfl, rfl, bs, hb, fun M2 n2 ha => h' M2 n2 (fun b hb2 => ?_)⟩, ⟨g1, x1, z, rfl, rfl, rfl, fun M2 n2 => (h M2 n2).congr hs⟩⟩
    rw [ha b hb2, upd_ne]; have := hb b hb2; omega
  have big : ∀ k, 9 ≤ k → ∃ c, k = c + 9 := fun k hk => ⟨k - 9, by omega⟩
  simp only [compat, Bool.or_eq_true, Bool.and_eq_true, decide_eq_true_eq, beq_iff_eq, bne_iff_ne] at hc
  rcases hc with hc | ((hc | ⟨k1, k2⟩) | ⟨k1, k2⟩) | ⟨⟨k1, k2⟩, k3⟩
  · simp only [compatT, Bool.or_eq_true, Bool.and_eq_true, beq_iff_eq] at hc
    rcases hc with ((⟨a, b⟩ | ⟨a, b⟩) | ⟨b, a⟩) | ⟨b, a⟩
    · rcases b with b | b
      · exact z2 b
      · exact e78 a b
    · rcases b with ((((b | b) | b) | b) | b) | b
      · exact z2 b
      · exact rd (.inr (.inr a)) (.inl b)
      · exact e83 a b
      · exact rd (.inr (.inr a)) (.inr (.inl b))
      · exact e87 a b
      · exact rd (.inr (.inr a)) (.inr (.inr b))
    · rcases a with a | a
      · exact z1 a
      · exact e87 a b
    · rcases a with ((((a | a) | a) | a) | a) | a
      · exact z1 a
      · exact rd (.inl a) (.inr (.inr b))
      · exact e38 a b
      · exact rd (.inr (.inl a)) (.inr (.inr b))
      · exact e78 a b
      · exact rd (.inr (.inr a)) (.inr (.inr b))
  rotate_left
  · obtain ⟨c, rfl⟩ := big _ k1
    rcases k2 with (k2 | k2) | k2
    · exact z2 k2
    · exact r4 c rfl k2
    · exact r5 c rfl k2
  · obtain ⟨c, rfl⟩ := big _ k1
    rcases k2 with (k2 | k2) | k2
    · exact z1 k2
    · exact l4 c k2 rfl
    · exact l5 c k2 rfl
  · obtain ⟨c, rfl⟩ := big _ k1
    obtain ⟨d, rfl⟩ := big _ k2
    exact r7 c d (by omega) rfl rfl
  have hcc := hc
  simp only [compat0, Bool.and_eq_true, decide_eq_true_eq] at hcc
  obtain ⟨⟨k1, k2⟩, k3⟩ := hcc
  have q1 : ci = 0 ∨ ci = 1 ∨ ci = 2 ∨ ci = 3 ∨ ci = 4 ∨ ci = 5 ∨ ci = 6 := by omega
  have q2 : cj = 0 ∨ cj = 1 ∨ cj = 2 ∨ cj = 3 ∨ cj = 4 ∨ cj = 5 ∨ cj = 6 := by omega
  rcases q1 with q | q | q | q | q | q | q
  · exact z1 q
  all_goals rcases q2 with p | p | p | p | p | p | p
  all_goals first
    | exact z2 p
    | exact rd (.inl q) (.inl p)
    | exact rd (.inl q) (.inr (.inl p))
    | exact rd (.inr (.inl q)) (.inl p)
    | exact rd (.inr (.inl q)) (.inr (.inl p))
    | exact e43 q p
    | exact e53 q p
    | exact e34 q p
    | exact e35 q p
    | exact e46 q p
    | exact e64 q p
    | (subst q; subst p; first | exact YM.swap56 hs hi hj' | exact YM.swap65 hs hi hj' | (exfalso; revert hc; decide))

abbrev KB := (Nat → V) → Mem → Nat → Prop
abbrev Cl := Nat → Op → Nat
section
variable {n0 : Nat} {cl : Cl}
def qB (P : Program) (E : Entry) (C : Cfg) (ops : List Oper) (n0 : Nat) (cl : Cl) (i : Nat) (K : KB) (s : Nat → V) (M : Mem) (n : Nat) : Prop :=
  ∀ o, ops[i]? = some o → ∃ x M' n' dm, YM P E C ops n0 (cl i o.op) o s M n x M' n' dm ∧ K (putD s dm o.dst x) M' n'
def anyB (P : Program) (E : Entry) (C : Cfg) (ops : List Oper) (n0 : Nat) (cl : Cl) (K : KB) : Nat → Array Bool → KB
  | 0, listed, s, M, n => Region.ready .any ops.toArray listed = [] ∧ K s M n
  | fuel + 1, listed, s, M, n => (Region.ready .any ops.toArray listed = [] → K s M n) ∧ ∀ i ∈ Region.ready .any ops.toArray listed, qB P E C ops n0 cl i (anyB P E C ops n0 cl K fuel (listed.setIfInBounds i true)) s M n

theorem exFree_spec {T : List Nat} {ops : Array Oper} {a b : Oper} (h : exFree T ops a b = true) : (∀ t ∈ exOf T a, t ∉ b.looksAt ops ∧ b.dst ≠ some t) ∧ (∀ t ∈ exOf T b, t ∉ a.looksAt ops ∧ a.dst ≠ some t) := by
  simp only [exFree, Bool.and_eq_true, List.all_eq_true, Bool.not_eq_true', bne_iff_ne, ne_eq] at h
  exact ⟨fun t ht => ⟨by have := (h.1 t ht).1; simpa using this, (h.1 t ht).2⟩, fun t ht => ⟨by have := (h.2 t ht).1; simpa using this, (h.2 t ht).2⟩⟩

theorem putD_comm {s : Nat → V} {oi oj : Oper} {x y : V} {a b : List Nat} (hap : oi.apart ops.toArray oj = true) (ha : ∀ t ∈ a, oj.dst ≠ some t) (hb : ∀ t ∈ b, oi.dst ≠ some t) :
    putD (putD s a oi.dst x) b oj.dst y = putD (putD s b oj.dst y) a oi.dst x := by
  obtain ⟨h1, h2, h3⟩ := Oper.apart_spec hap
  unfold putD
  rw [dem_put (fun e he hm => hb e hm he), dem_put (fun e he hm => ha e hm he), dem_comm]
  cases hi : oi.dst with
  | none => rfl
  | some d =>
    cases hj : oj.dst with
    | none => rfl
    | some e =>
      have : d ≠ e := fun q => h2 d hi (by rw [hj, q])
      exact upd_comm this

theorem qB_put {i j : Nat} {oi oj : Oper} (hj : ops[j]? = some oj) (hap : oi.apart ops.toArray oj = true) (hco : compat (cl i oi.op) (cl j oj.op) = true) (hex : exFree C.T ops.toArray oi oj = true) {K : KB} {s : Nat → V} {M Mi : Mem} {n ni : Nat} {x : V} {dm : List Nat}
    (hy : YM P E C ops n0 (cl i oi.op) oi s M n x Mi ni dm) (h : qB P E C ops n0 cl j K (putD s dm oi.dst x) Mi ni) :
    qB P E C ops n0 cl j (fun s' M' n' => ∃ Mi' ni', YM P E C ops n0 (cl i oi.op) oi s' M' n' x Mi' ni' dm ∧ K (putD s' dm oi.dst x) Mi' ni') s M n := by
  obtain ⟨h1, h2, h3⟩ := Oper.apart_spec hap
  obtain ⟨x1, x2⟩ := exFree_spec hex
  intro o ho
  rw [hj] at ho; cases ho
  obtain ⟨y, Mij, nij, dmj, k2, k3⟩ := h oj hj
  have hm1 := hy.2.1
  have hm2 := k2.2.1
  obtain ⟨Mj, nj, q1, q2⟩ := YM.swap hco (fun t ht => by
    unfold putD putS
    have hn : dem s dm t = s t := dem_out (fun q => (x1 t (hm1 t q)).1 ht)
    cases hd : oi.dst with
    | none => exact hn
    | some d => simp only; rw [upd_ne]; · exact hn
                intro e; exact h1 d hd (e ▸ ht)) (fun sj hsj t ht => by
    subst hsj
    unfold putD putS
    have hn : dem s dmj t = s t := dem_out (fun q => (x2 t (hm2 t q)).1 ht)
    cases hd : oj.dst with
    | none => exact hn
    | some d => simp only; rw [upd_ne]; · exact hn
                intro e; exact h3 d hd (e ▸ ht)) hy k2
  exact ⟨y, Mj, nj, dmj, q1, Mij, nij, q2, by rw [← putD_comm hap (fun t ht => (x1 t (hm1 t ht)).2) (fun t ht => (x2 t (hm2 t ht)).2)]; exact k3⟩

theorem qB_mono {i : Nat} {K K' : KB} {s : Nat → V} {M : Mem} {n : Nat} (h : ∀ s M n, K s M n → K' s M n) (hq : qB P E C ops n0 cl i K s M n) : qB P E C ops n0 cl i K' s M n := fun o ho => by
  obtain ⟨x, M', n', dm, h1, h2⟩ := hq o ho
  exact ⟨x, M', n', dm, h1, h _ _ _ h2⟩

def blkStep (ops : Array Oper) (i : Nat) (b : List Nat) (j : Nat) : List Nat := match ops[j]? with
  | some o => if o.after.any (fun e => Region.binds .any e && (e.on == i || b.contains e.on)) = true then j :: b else b
  | none => b
def blkOf (ops : Array Oper) (i : Nat) : List Nat := (List.range ops.size).foldl (blkStep ops i) []
theorem blkStep_sub (ops : Array Oper) (i : Nat) (b : List Nat) (j : Nat) : ∀ k ∈ b, k ∈ blkStep ops i b j := fun k hk => by
  unfold blkStep
  split
  · split
    · exact List.mem_cons_of_mem _ hk
    · exact hk
  · exact hk
theorem blk_fold (ops : Array Oper) (i : Nat) : ∀ (l b : List Nat), (∀ j o, ops[j]? = some o → j ∈ b → ∃ e ∈ o.after, Region.binds .any e = true ∧ (e.on = i ∨ e.on ∈ b)) →
    (∀ j o, ops[j]? = some o → j ∈ l.foldl (blkStep ops i) b → ∃ e ∈ o.after, Region.binds .any e = true ∧ (e.on = i ∨ e.on ∈ l.foldl (blkStep ops i) b))
  | [], b, h => h
  | k :: l, b, h => by
    refine blk_fold ops i l (blkStep ops i b k) (fun j o ho hj => ?_)
    have hsub := blkStep_sub ops i b k
    by_cases hb : j ∈ b
    · obtain ⟨e, h1, h2, h3⟩ := h j o ho hb
      exact ⟨e, h1, h2, h3.imp id (hsub _)⟩
    · unfold blkStep at hj
      cases hk : ops[k]? with
      | none => rw [hk] at hj; exact absurd hj hb
      | some ok =>
        rw [hk] at hj
        simp only at hj
        split at hj
        · rename_i ha
          rcases List.mem_cons.1 hj with rfl | hj
          · rw [ho] at hk; cases hk
            simp only [Array.any_eq_true, Bool.and_eq_true, Bool.or_eq_true, beq_iff_eq] at ha
            obtain ⟨q, hq, h2, h3⟩ := ha
            refine ⟨_, Array.getElem_mem hq, h2, h3.imp id (fun h => hsub _ (by simpa using h))⟩
          · exact absurd hj hb
        · exact absurd hj hb

theorem anyB_first {K : KB} {i : Nat} {oi : Oper} {x : V} {dm : List Nat} (hi : ops[i]? = some oi) (blk : List Nat) (hblk : ∀ j oj, ops[j]? = some oj → j ∈ blk → ∃ e ∈ oj.after, Region.binds .any e = true ∧ (e.on = i ∨ e.on ∈ blk)) :
    ∀ (fuel : Nat) (listed : Array Bool) (s : Nat → V) (M : Mem) (n : Nat) (Mi : Mem) (ni : Nat),
      (∀ j ∈ blk, listed.getD j false = false) → (∀ j oj, ops[j]? = some oj → j ≠ i → j ∉ blk → listed.getD j true = false → (∀ e ∈ oj.after, Region.binds .any e = true → e.on ≠ i) → oi.apart ops.toArray oj = true ∧ compat (cl i oi.op) (cl j oj.op) = true ∧ exFree C.T ops.toArray oi oj = true) →
      i ∈ Region.ready .any ops.toArray listed → YM P E C ops n0 (cl i oi.op) oi s M n x Mi ni dm →
      anyB P E C ops n0 cl K fuel (listed.setIfInBounds i true) (putD s dm oi.dst x) Mi ni → anyB P E C ops n0 cl K (fuel + 1) listed s M n
  | 0, listed, s, M, n, Mi, ni, _, _, hr, hy, hn => by
    refine ⟨fun h => (by rw [h] at hr; cases hr), fun j hj => ?_⟩
    by_cases e : j = i
    · subst e
      intro o ho; rw [hi] at ho; cases ho
      exact ⟨x, Mi, ni, dm, hy, hn⟩
    · have := ready_mono hj e
      rw [hn.1] at this; cases this
  | fuel + 1, listed, s, M, n, Mi, ni, hl, hfree, hr, hy, hn => by
    refine ⟨fun h => (by rw [h] at hr; cases hr), fun j hj => ?_⟩
    by_cases e : j = i
    · subst e
      intro o ho; rw [hi] at ho; cases ho
      exact ⟨x, Mi, ni, dm, hy, hn⟩
    · obtain ⟨hjun, oj, hoj', hall⟩ := mem_ready.1 hj
      have hoj : ops[j]? = some oj := by simpa using hoj'
      have hnot : ∀ e ∈ oj.after, Region.binds .any e = true → e.on ≠ i := fun e he hb heq => by
        have k1 := hall e he hb
        have k0 := (mem_ready.1 hr).1
        rw [heq] at k1
        rcases Nat.lt_or_ge i listed.size with h' | h'
        · simp [h'] at k0 k1; rw [k0] at k1; cases k1
        · simp [Array.getElem?_eq_none h'] at k1
      have hjb : j ∉ blk := fun hb => by
        obtain ⟨e', q1, q2, q3⟩ := hblk j oj hoj hb
        rcases q3 with q3 | q3
        · exact hnot e' q1 q2 q3
        · have := hall e' q1 q2
          rw [hl _ q3] at this; cases this
      obtain ⟨f1, f2, f3⟩ := hfree j oj hoj e hjb hjun hnot
      have h1 := qB_put (i := i) hoj f1 f2 f3 hy (hn.2 j (ready_mono hj e))
      refine qB_mono (fun s' M' n' k => ?_) h1
      obtain ⟨Mi', ni', k1, k2⟩ := k
      refine anyB_first hi blk hblk fuel (listed.setIfInBounds j true) s' M' n' Mi' ni' (fun m hm => ?_) (fun k' ok hk hki hkb hun hno => ?_) (ready_mono hr (Ne.symm e)) k1 ?_
      · have hmj : j ≠ m := fun q => hjb (q ▸ hm)
        rw [getD_set_ne false hmj]; exact hl m hm
      · refine hfree k' ok hk hki hkb ?_ hno
        by_cases hjk : j = k'
        · subst hjk; exact hjun
        · rw [getD_set_ne true hjk] at hun; exact hun
      · rw [Array.setIfInBounds_comm _ _ e]; exact k2

def freeC (T : List Nat) (ops : Array Oper) (cl : Cl) (listed : Array Bool) (i : Nat) : Bool := match ops[i]? with
  | none => false
  | some oi => ((blkOf ops i).all fun j => !(listed.getD j false)) && (List.range ops.size).all fun j => j == i || (listed.getD j true || ((blkOf ops i).contains j || match ops[j]? with
      | some oj => oj.after.any (fun e => Region.binds .any e && e.on == i) || (oi.apart ops oj && (compat (cl i oi.op) (cl j oj.op) && exFree T ops oi oj))
      | none => true))
theorem freeC_blk {T : List Nat} {ops : Array Oper} {i : Nat} {oi : Oper} {listed : Array Bool} (hi : ops[i]? = some oi) (h : freeC T ops cl listed i = true) : ∀ j ∈ blkOf ops i, listed.getD j false = false := by
  simp only [freeC, hi, Bool.and_eq_true, List.all_eq_true, Bool.not_eq_true'] at h
  exact h.1
theorem freeC_spec {T : List Nat} {ops : Array Oper} {i : Nat} {oi : Oper} {listed : Array Bool} (hi : ops[i]? = some oi) (h : freeC T ops cl listed i = true) (j : Nat) (oj : Oper)
    (hj : ops[j]? = some oj) (hne : j ≠ i) (hb : j ∉ blkOf ops i) (hun : listed.getD j true = false) (hno : ∀ e ∈ oj.after, Region.binds .any e = true → e.on ≠ i) :
    oi.apart ops oj = true ∧ compat (cl i oi.op) (cl j oj.op) = true ∧ exFree T ops oi oj = true := by
  simp only [freeC, hi, Bool.and_eq_true, List.all_eq_true, List.mem_range] at h
  have h1 := h.2 j (Array.getElem?_eq_some_iff.1 hj).1
  have hb' : (blkOf ops i).contains j = false := by simpa using hb
  simp only [hj, Bool.or_eq_true, beq_iff_eq, hne, false_or, hun, hb', Bool.false_eq_true] at h1
  rcases h1 with h1 | h1
  · exfalso
    simp only [Array.any_eq_true, Bool.and_eq_true, beq_iff_eq] at h1
    obtain ⟨k, hk, q1, q2⟩ := h1
    exact hno _ (Array.getElem_mem hk) q1 q2
  · simpa using h1
def lexC (T : List Nat) (ops : Array Oper) (cl : Cl) : Nat → Nat → Array Bool → Bool
  | 0, _, listed => (Region.ready .any ops listed).isEmpty
  | fuel + 1, k, listed => (Region.ready .any ops listed).contains k && freeC T ops cl listed k && lexC T ops cl fuel (k + 1) (listed.setIfInBounds k true)

def LB (P : Program) (E : Entry) (C : Cfg) (ops : List Oper) (n0 : Nat) (cl : Cl) (K : KB) : List Oper → Nat → KB
  | [], _, s, M, n => K s M n
  | o :: l, k, s, M, n => ∃ x M' n' dm, YM P E C ops n0 (cl k o.op) o s M n x M' n' dm ∧ LB P E C ops n0 cl K l (k + 1) (putD s dm o.dst x) M' n'

theorem anyB_lex {K : KB} : ∀ (l : List Oper) (k : Nat) (listed : Array Bool) (s : Nat → V) (M : Mem) (n : Nat), (∀ j, l[j]? = ops[k + j]?) →
    lexC C.T ops.toArray cl l.length k listed = true → LB P E C ops n0 cl K l k s M n → anyB P E C ops n0 cl K l.length listed s M n
  | [], _, _, _, _, _, _, hB, h => ⟨by simpa [lexC] using hB, h⟩
  | o :: l, k, listed, s, M, n, hl, hB, h => by
    have h0 : ops[k]? = some o := by simpa using (hl 0).symm
    have h0' : ops.toArray[k]? = some o := by simpa using h0
    simp only [List.length_cons, lexC, Bool.and_eq_true] at hB
    obtain ⟨⟨hr, hf⟩, hB'⟩ := hB
    obtain ⟨x, M', n', dm, h2, h3⟩ := h
    exact anyB_first h0 (blkOf ops.toArray k) (fun j oj hj hb => blk_fold ops.toArray k _ [] (fun _ _ _ h => by cases h) j oj (by simpa using hj) hb) l.length listed s M n M' n' (freeC_blk h0' hf) (fun j oj hj => freeC_spec h0' hf j oj (by simpa using hj)) (by simpa using hr) h2
      (anyB_lex l (k + 1) _ _ _ _ (fun j => by have := hl (j + 1); simpa [Nat.add_assoc, Nat.add_comm 1 j] using this) hB' h3)

theorem qB_sound {i : Nat} {K : KB} {K' : Act → World → Prop} {Q : Exit → Act → World → Prop}
    (hK : ∀ s M n a w, AtB E C.nt s M n a w → K s M n → K' a w) {s : Nat → V} {M : Mem} {n : Nat} {a : Act} {w : World} (hA : AtB E C.nt s M n a w) (hi : i < ops.length) (h : qB P E C ops n0 cl i K s M n) : wpOp P ops.toArray Q i K' a w := by
  obtain ⟨o, ho⟩ : ∃ o, ops[i]? = some o := ⟨_, List.getElem?_eq_getElem hi⟩
  obtain ⟨x, M', n', dm, hy, hk⟩ := h o ho
  have hd : Does P E C ops o s M n x M' n' dm := by
    obtain ⟨_, _, hy⟩ := hy
    split at hy
    · obtain ⟨rfl, rfl, k⟩ := hy; exact k _ _
    · obtain ⟨rfl, rfl, bs, k⟩ := hy; exact k _ _ (fun _ _ => rfl)
    · obtain ⟨rfl, rfl, bs, _, k⟩ := hy; exact k _ _ (fun _ _ => rfl)
    · obtain ⟨rfl, bs, vs, rfl, k⟩ := hy; exact k _ _ (fun _ _ => rfl)
    · obtain ⟨rfl, bs, vs, _, rfl, k⟩ := hy; exact k _ _ (fun _ _ => rfl)
    · obtain ⟨rfl, bs, vs, _, rfl, k⟩ := hy; exact k _ _ (fun _ _ => rfl)
    · obtain ⟨rfl, bs, vs, _, rfl, _, k⟩ := hy; exact k _ _ (fun _ _ => rfl)
    · obtain ⟨rfl, rfl, bs, _, k⟩ := hy; exact k _ _ (fun _ _ => rfl)
    · obtain ⟨z, rfl, hm, rfl, rfl, k⟩ := hy; exact k _ _ hm
    · obtain ⟨z, rfl, rfl, rfl, k⟩ := hy; exact k _ _
  exact hd s (fun _ _ => rfl) i ho K' Q a w hA (fun a' w' h' => hK _ _ _ a' w' h' hk)

theorem anyB_sound {K : KB} {Q : Exit → Act → World → Prop}
    (hQ : ∀ s M n a w, AtB E C.nt s M n a w → K s M n → Q .normal a w) : ∀ (fuel : Nat) (listed : Array Bool) (s : Nat → V) (M : Mem) (n : Nat) (a : Act) (w : World), AtB E C.nt s M n a w → anyB P E C ops n0 cl K fuel listed s M n → wpAny P .any ops.toArray Q fuel listed a w
  | 0, _, _, _, _, _, _, hA, h => ⟨h.1, hQ _ _ _ _ _ hA h.2⟩
  | fuel + 1, listed, s, M, n, a, w, hA, h => ⟨fun h0 => hQ _ _ _ _ _ hA (h.1 h0), fun i hi => by
      have hlt : i < ops.length := by
        obtain ⟨_, o, ho, _⟩ := mem_ready.1 hi
        simpa using (Array.getElem?_eq_some_iff.1 ho).1
      exact qB_sound (fun s' M' n' a' w' hA' hk => anyB_sound hQ fuel _ s' M' n' a' w' hA' hk) hA hlt (h.2 i hi)⟩

end
end Go.VL
