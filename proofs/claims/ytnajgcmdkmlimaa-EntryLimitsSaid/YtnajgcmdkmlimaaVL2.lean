/- Part VL2 of the proof: made for this claim. -/
import Derived.Test.YtnajgcmdkmlimaaVL1
set_option linter.unusedVariables false
set_option linter.unusedSimpArgs false
open Go.RowKit
namespace Go.VL

inductive Pos where
  | slot (i j : Nat)
  | cell (b o : Nat)
  deriving DecidableEq

def comp : V → Nat → Option V
  | .tup vs, j => vs[j]?
  | v, 0 => some v
  | _, _ => none
def vcomp : Value → Nat → Value
  | .tuple us, j => us.getD j undef
  | v, 0 => v
  | _, _ => undef

def upd {α : Type} (f : Nat → α) (i : Nat) (x : α) : Nat → α := fun j => if j = i then x else f j
theorem upd_same {α : Type} (f : Nat → α) (i : Nat) (x : α) : upd f i x i = x := by simp [upd]
theorem upd_ne {α : Type} (f : Nat → α) {i j : Nat} (x : α) (h : j ≠ i) : upd f i x j = f j := by simp [upd, h]
def updP (f : Pos → Option Nat) (p : Pos) (x : Option Nat) : Pos → Option Nat := fun q => if q = p then x else f q
theorem updP_same (f : Pos → Option Nat) (p : Pos) (x : Option Nat) : updP f p x p = x := by simp [updP]
theorem updP_ne (f : Pos → Option Nat) {p q : Pos} (x : Option Nat) (h : q ≠ p) : updP f p x q = f q := by simp [updP, h]

/-- No cell of a block is closed to writes. -/
def Thawed (c : Array Value) (fr : Nat × Nat) : Prop := ∀ o, o < c.size → (decide (fr.1 ≤ o) && decide (o < fr.2)) = false

def OwnAt (g : G) (w : World) (ob : Option Nat) (sz n : Nat) : Value → Prop
  | .slice a m cap => m = n ∧ (cap = n ∨ ∃ blk c e fr, ob = some blk ∧ a = some ⟨blk, 0, none⟩ ∧ w.heap[blk]? = some (.cells c e fr) ∧ c.size = cap * sz ∧ Thawed c fr ∧ g.prot blk = n * sz ∧ n ≤ cap ∧ cap ≤ maxLen)
  | _ => False

def BoxAt (g : G) (w : World) (blk : Nat) (cs : List V) : Prop :=
  ∃ c e fr, w.heap[blk]? = some (.cells c e fr) ∧ c.size = cs.length ∧ Thawed c fr ∧ ∀ i, i < cs.length → VR g w (cs.getD i .unk) (c.getD i undef)

/-- What the entry of a call fixes. -/
structure Entry where
  w0 : World
  g0 : G
  wr : Nat → Prop

/-- The abstract state stands for the concrete one. -/
structure St (E : Entry) (g : G) (ob : Pos → Option Nat) (s : Nat → V) (mem : Nat → Option (List V)) (tm : Array Value) (w : World) : Prop where
  slot : ∀ i, s i ≠ .unk → VR g w (s i) (tm.getD i undef)
  box : ∀ b cs, mem b = some cs → b < g.mn ∧ BoxAt g w (g.φ b) cs
  inj : ∀ b b', mem b ≠ none → mem b' ≠ none → g.φ b = g.φ b' → b = b'
  ownS : ∀ i j sz n cs, comp (s i) j = some (.sl true sz n cs) → OwnAt g w (ob (.slot i j)) sz n (vcomp (tm.getD i undef) j)
  ownC : ∀ b o l sz n cs, mem b = some l → l[o]? = some (.sl true sz n cs) → ∃ u, w.cell? ⟨g.φ b, o, none⟩ = some u ∧ OwnAt g w (ob (.cell b o)) sz n u
  obInj : ∀ p q blk, ob p = some blk → ob q = some blk → p = q
  obBox : ∀ p blk b, ob p = some blk → mem b ≠ none → g.φ b ≠ blk
  obLt : ∀ p blk, ob p = some blk → blk < w.heap.size
  prot0 : ∀ blk, w.heap.size ≤ blk → g.prot blk = 0
  boxProt : ∀ b, mem b ≠ none → g.prot (g.φ b) = 0
  os : w.os = E.w0.os
  tape : w.tape = E.w0.tape
  output : w.output = E.w0.output
  size : E.w0.heap.size ≤ w.heap.size
  block : ∀ blk, blk < E.w0.heap.size → ¬ E.wr blk → w.heap[blk]? = E.w0.heap[blk]?
  keep : ∀ blk, blk < E.w0.heap.size → ¬ E.wr blk → g.prot blk = E.g0.prot blk
  onto : Onto E.g0 g E.w0 w
  boxFresh : ∀ b, mem b ≠ none → E.w0.heap.size ≤ g.φ b ∨ E.wr (g.φ b)
  obFresh : ∀ p blk, ob p = some blk → E.w0.heap.size ≤ blk ∨ E.wr blk

def V.noOwn (x : V) : Prop := ∀ j sz n cs, comp x j ≠ some (.sl true sz n cs)

variable {E : Entry} {g : G} {ob : Pos → Option Nat} {s : Nat → V} {mem : Nat → Option (List V)} {tm : Array Value} {w : World}

theorem getD_set {tm : Array Value} {d i : Nat} {v : Value} (hd : d < tm.size) : (tm.setIfInBounds d v).getD i undef = if i = d then v else tm.getD i undef := by
  simp only [Array.getD_eq_getD_getElem?, Array.getElem?_setIfInBounds]
  by_cases h : d = i
  · subst h; simp [hd]
  · rw [if_neg h, if_neg (Ne.symm h)]

/-- A slot gets a value that owns nothing. -/
theorem St.put (h : St E g ob s mem tm w) {d : Nat} {x : V} {v : Value} (hd : d < tm.size) (hx : x ≠ .unk → VR g w x v) (ho : x.noOwn) : St E g ob (upd s d x) mem (tm.setIfInBounds d v) w :=
  { h with
    slot := fun i hi => by
      rw [getD_set hd]
      by_cases e : i = d
      · subst e; rw [if_pos rfl, upd_same]; rw [upd_same] at hi; exact hx hi
      · rw [if_neg e, upd_ne _ _ e]; rw [upd_ne _ _ e] at hi; exact h.slot i hi
    ownS := fun i j sz n cs hi => by
      rw [getD_set hd]
      by_cases e : i = d
      · subst e; rw [upd_same] at hi; exact absurd hi (ho j sz n cs)
      · rw [if_neg e]; rw [upd_ne _ _ e] at hi; exact h.ownS i j sz n cs hi }

/-- Slots may be forgotten. -/
theorem St.forget (h : St E g ob s mem tm w) {s' : Nat → V} (hs : ∀ i, s' i ≠ .unk → s' i = s i) : St E g ob s' mem tm w :=
  { h with
    slot := fun i hi => by rw [hs i hi]; exact h.slot i (by rw [← hs i hi]; exact hi)
    ownS := fun i j sz n cs hi => by
      have : s' i ≠ .unk := by intro e; rw [e] at hi; cases j <;> simp [comp] at hi
      rw [hs i this] at hi; exact h.ownS i j sz n cs hi }

/-- Boxes may be forgotten. -/
theorem St.forgetMem (h : St E g ob s mem tm w) {mem' : Nat → Option (List V)} (hm : ∀ b, mem' b ≠ none → mem' b = mem b) : St E g ob s mem' tm w := by
  have hn : ∀ b, mem' b ≠ none → mem b ≠ none := fun b hb => by rw [← hm b hb]; exact hb
  exact { h with
    box := fun b cs hb => h.box b cs (by rw [← hm b (by rw [hb]; simp)]; exact hb)
    inj := fun b b' hb hb' => h.inj b b' (hn b hb) (hn b' hb')
    ownC := fun b o l sz n cs hb hl => h.ownC b o l sz n cs (by rw [← hm b (by rw [hb]; simp)]; exact hb) hl
    obBox := fun p blk b hp hb => h.obBox p blk b hp (hn b hb)
    boxProt := fun b hb => h.boxProt b (hn b hb)
    boxFresh := fun b hb => h.boxFresh b (hn b hb) }

theorem OwnAt.onto {g g' : G} {w w' : World} {ob : Option Nat} {sz n : Nat} {v : Value} (h : OwnAt g w ob sz n v) (hh : ∀ blk, ob = some blk → w'.heap[blk]? = w.heap[blk]?) (hp : ∀ blk, ob = some blk → g'.prot blk = g.prot blk) : OwnAt g' w' ob sz n v := by
  cases v <;> simp only [OwnAt] at h ⊢
  obtain ⟨h1, h2⟩ := h
  refine ⟨h1, h2.imp id ?_⟩
  rintro ⟨blk, c, e, fr, q1, q2, q3, q4, q5, q6⟩
  exact ⟨blk, c, e, fr, q1, q2, by rw [hh blk q1]; exact q3, q4, q5, by rw [hp blk q1]; exact q6⟩

theorem BoxAt.onto {g g' : G} {w w' : World} {blk : Nat} {cs : List V} (ho : Onto g g' w w') (h : BoxAt g w blk cs) (hh : w'.heap[blk]? = w.heap[blk]?) : BoxAt g' w' blk cs := by
  obtain ⟨c, e, fr, h1, h2, h3, h4⟩ := h
  exact ⟨c, e, fr, by rw [hh]; exact h1, h2, h3, fun i hi => (h4 i hi).onto ho⟩

/-- The world goes on, the blocks of boxes and owners as they were. -/
theorem St.go (h : St E g ob s mem tm w) {g' : G} {w' : World} (ho : Onto g g' w w')
    (hbox : ∀ b, mem b ≠ none → w'.heap[g.φ b]? = w.heap[g.φ b]? ∧ g'.prot (g.φ b) = 0) (hob : ∀ p blk, ob p = some blk → w'.heap[blk]? = w.heap[blk]? ∧ g'.prot blk = g.prot blk)
    (hp0 : ∀ blk, w'.heap.size ≤ blk → g'.prot blk = 0) (hos : w'.os = w.os) (htape : w'.tape = w.tape) (hout : w'.output = w.output) (hsize : w.heap.size ≤ w'.heap.size)
    (hblk : ∀ blk, blk < E.w0.heap.size → ¬ E.wr blk → w'.heap[blk]? = w.heap[blk]?) (hkeep : ∀ blk, blk < E.w0.heap.size → ¬ E.wr blk → g'.prot blk = g.prot blk) : St E g' ob s mem tm w' := by
  have hφ : ∀ b, mem b ≠ none → g'.φ b = g.φ b := fun b hb => by
    cases hm : mem b with
    | none => exact absurd hm hb
    | some cs => exact ho.φ b (h.box b cs hm).1
  exact {
    slot := fun i hi => (h.slot i hi).onto ho
    box := fun b cs hb => by
      have hb' : mem b ≠ none := by rw [hb]; simp
      obtain ⟨h1, h2⟩ := h.box b cs hb
      exact ⟨Nat.lt_of_lt_of_le h1 ho.mn, by rw [hφ b hb']; exact h2.onto ho (hbox b hb').1⟩
    inj := fun b b' hb hb' => by rw [hφ b hb, hφ b' hb']; exact h.inj b b' hb hb'
    ownS := fun i j sz n cs hi => (h.ownS i j sz n cs hi).onto (fun blk hb => (hob _ blk hb).1) (fun blk hb => (hob _ blk hb).2)
    ownC := fun b o l sz n cs hb hl => by
      have hb' : mem b ≠ none := by rw [hb]; simp
      obtain ⟨u, hu, hown⟩ := h.ownC b o l sz n cs hb hl
      refine ⟨u, ?_, hown.onto (fun blk hb => (hob _ blk hb).1) (fun blk hb => (hob _ blk hb).2)⟩
      rw [hφ b hb', ← hu]
      exact World.cell?_of_block (hbox b hb').1
    obInj := h.obInj
    obBox := fun p blk b hp hb => by rw [hφ b hb]; exact h.obBox p blk b hp hb
    obLt := fun p blk hp => Nat.lt_of_lt_of_le (h.obLt p blk hp) hsize
    prot0 := hp0
    boxProt := fun b hb => by rw [hφ b hb]; exact (hbox b hb).2
    os := hos.trans h.os
    tape := htape.trans h.tape
    output := hout.trans h.output
    size := Nat.le_trans h.size hsize
    block := fun blk hb hw => (hblk blk hb hw).trans (h.block blk hb hw)
    keep := fun blk hb hw => (hkeep blk hb hw).trans (h.keep blk hb hw)
    onto := h.onto.trans ho
    boxFresh := fun b hb => by rw [hφ b hb]; exact h.boxFresh b hb
    obFresh := h.obFresh }

/-- A draw. -/
theorem St.drew (h : St E g ob s mem tm w) : St E g ob s mem tm w.drew :=
  h.go (g' := g) (w' := w.drew) ⟨fun _ _ _ _ h => h, fun _ => Nat.le_refl _, fun _ _ => rfl, Nat.le_refl _⟩ (fun b hb => ⟨rfl, h.boxProt b hb⟩) (fun _ _ _ => ⟨rfl, rfl⟩) h.prot0 rfl rfl rfl (Nat.le_refl _) (fun _ _ _ => rfl) (fun _ _ _ => rfl)

def G.protAt (g : G) (blk p : Nat) : G := { g with prot := upd g.prot blk p }

theorem cell?_alloc {w : World} {o : Obj} {a : Addr} {u : Value} (h : w.cell? a = some u) : (w.alloc o).cell? a = some u := by
  have hb := World.block_lt_of_cell? w a h
  rw [World.cell?_of_block (w := w) (w' := w.alloc o)]
  · exact h
  · exact Below.heap_alloc w o a.block hb

/-- A new block. -/
theorem St.alloc (h : St E g ob s mem tm w) (o : Obj) (p : Nat) : St E (g.protAt w.heap.size p) ob s mem tm (w.alloc o) := by
  have hk : ∀ blk, blk < w.heap.size → (w.alloc o).heap[blk]? = w.heap[blk]? := fun blk hb => Below.heap_alloc w o blk hb
  have hsz : (w.alloc o).heap.size = w.heap.size + 1 := by show (w.heap.push o).size = _; simp
  refine h.go ⟨fun blk of u _ hu => cell?_alloc hu, fun blk => ?_, fun _ _ => rfl, Nat.le_refl _⟩ (fun b hb => ?_) (fun q blk hq => ?_) (fun blk hb => ?_) rfl rfl rfl (by omega) (fun blk hb _ => hk blk (Nat.lt_of_lt_of_le hb h.size)) (fun blk hb _ => by
      have := h.size
      simp only [G.protAt]; rw [upd_ne _ _ (by omega)])
  · simp only [G.protAt]
    by_cases e : blk = w.heap.size
    · subst e; rw [upd_same, h.prot0 _ (Nat.le_refl _)]; omega
    · rw [upd_ne _ _ e]; exact Nat.le_refl _
  · cases hm : mem b with
    | none => exact absurd hm hb
    | some cs =>
      obtain ⟨_, c, e, fr, h1, _⟩ := h.box b cs hm
      have hl : g.φ b < w.heap.size := (Array.getElem?_eq_some_iff.1 h1).1
      refine ⟨hk _ hl, ?_⟩
      simp only [G.protAt]
      rw [upd_ne _ _ (by omega)]
      exact h.boxProt b hb
  · have hl := h.obLt q blk hq
    refine ⟨hk _ hl, ?_⟩
    simp only [G.protAt]
    rw [upd_ne _ _ (by omega)]
  · simp only [G.protAt]
    rw [upd_ne _ _ (by omega)]
    exact h.prot0 _ (by omega)

/-! ### Ownership -/

/-- A slot's value is demoted: what it holds may be read, not appended to. -/
theorem St.demote (h : St E g ob s mem tm w) (i : Nat) {x : V} (hx : x ≠ .unk → ∀ v, VR g w (s i) v → VR g w x v) (ho : x.noOwn) (hu : s i = .unk → x = .unk) :
    St E g ob (upd s i x) mem tm w :=
  { h with
    slot := fun k hk => by
      by_cases e : k = i
      · subst e; rw [upd_same] at hk ⊢; exact hx hk _ (h.slot k (fun q => hk (hu q)))
      · rw [upd_ne _ _ e] at hk ⊢; exact h.slot k hk
    ownS := fun k j sz n cs hk => by
      by_cases e : k = i
      · subst e; rw [upd_same] at hk; exact absurd hk (ho j sz n cs)
      · rw [upd_ne _ _ e] at hk; exact h.ownS k j sz n cs hk }

/-- The owner's seat at a position is given up. -/
theorem St.obDrop (h : St E g ob s mem tm w) (p : Pos) (hs : ∀ i j, p = .slot i j → ∀ sz n cs, comp (s i) j ≠ some (.sl true sz n cs))
    (hc : ∀ b o, p = .cell b o → ∀ l sz n cs, mem b = some l → l[o]? ≠ some (.sl true sz n cs)) : St E g (updP ob p none) s mem tm w := by
  have hsub : ∀ q blk, updP ob p none q = some blk → ob q = some blk := fun q blk hq => by
    by_cases e : q = p
    · subst e; rw [updP_same] at hq; cases hq
    · rwa [updP_ne _ _ e] at hq
  exact { h with
    ownS := fun i j sz n cs hi => by
      rw [updP_ne]
      · exact h.ownS i j sz n cs hi
      · intro e; exact hs i j e.symm sz n cs hi
    ownC := fun b o l sz n cs hb hl => by
      rw [updP_ne]
      · exact h.ownC b o l sz n cs hb hl
      · intro e; exact hc b o e.symm l sz n cs hb hl
    obInj := fun q r blk hq hr => h.obInj q r blk (hsub q blk hq) (hsub r blk hr)
    obBox := fun q blk b hq => h.obBox q blk b (hsub q blk hq)
    obLt := fun q blk hq => h.obLt q blk (hsub q blk hq)
    obFresh := fun q blk hq => h.obFresh q blk (hsub q blk hq) }

/-- A seat is taken for a block that nobody owns. -/
theorem St.obTake (h : St E g ob s mem tm w) (p : Pos) (blk : Nat) (hnew : ∀ q, ob q ≠ some blk) (hbox : ∀ b, mem b ≠ none → g.φ b ≠ blk) (hlt : blk < w.heap.size)
    (hfr : E.w0.heap.size ≤ blk ∨ E.wr blk) (hs : ∀ i j, p = .slot i j → ∀ sz n cs, comp (s i) j ≠ some (.sl true sz n cs))
    (hc : ∀ b o, p = .cell b o → ∀ l sz n cs, mem b = some l → l[o]? ≠ some (.sl true sz n cs)) : St E g (updP ob p (some blk)) s mem tm w := by
  have hsub : ∀ q b, updP ob p (some blk) q = some b → (q = p ∧ b = blk) ∨ (q ≠ p ∧ ob q = some b) := fun q b hq => by
    by_cases e : q = p
    · subst e; rw [updP_same] at hq; exact .inl ⟨rfl, (Option.some.inj hq).symm⟩
    · rw [updP_ne _ _ e] at hq; exact .inr ⟨e, hq⟩
  exact { h with
    ownS := fun i j sz n cs hi => by
      rw [updP_ne]
      · exact h.ownS i j sz n cs hi
      · intro e; exact hs i j e.symm sz n cs hi
    ownC := fun b o l sz n cs hb hl => by
      rw [updP_ne]
      · exact h.ownC b o l sz n cs hb hl
      · intro e; exact hc b o e.symm l sz n cs hb hl
    obInj := fun q r b hq hr => by
      rcases hsub q b hq with ⟨e1, e2⟩ | ⟨e1, e2⟩ <;> rcases hsub r b hr with ⟨k1, k2⟩ | ⟨k1, k2⟩
      · rw [e1, k1]
      · exact absurd (e2 ▸ k2) (hnew r)
      · exact absurd (k2 ▸ e2) (hnew q)
      · exact h.obInj q r b e2 k2
    obBox := fun q b c hq hb => by
      rcases hsub q b hq with ⟨_, e⟩ | ⟨_, e⟩
      · rw [e]; exact hbox c hb
      · exact h.obBox q b c e hb
    obLt := fun q b hq => by
      rcases hsub q b hq with ⟨_, e⟩ | ⟨_, e⟩
      · rw [e]; exact hlt
      · exact h.obLt q b e
    obFresh := fun q b hq => by
      rcases hsub q b hq with ⟨_, e⟩ | ⟨_, e⟩
      · rw [e]; exact hfr
      · exact h.obFresh q b e }

/-- A slot gets a slice that it owns, its seat being ready. -/
theorem St.putOwn (h : St E g ob s mem tm w) {d : Nat} {sz n : Nat} {cs : List V} {v : Value} (hd : d < tm.size) (hx : VR g w (.sl true sz n cs) v) (ho : OwnAt g w (ob (.slot d 0)) sz n v) :
    St E g ob (upd s d (.sl true sz n cs)) mem (tm.setIfInBounds d v) w :=
  { h with
    slot := fun i hi => by
      rw [getD_set hd]
      by_cases e : i = d
      · subst e; rw [if_pos rfl, upd_same]; exact hx
      · rw [if_neg e, upd_ne _ _ e]; rw [upd_ne _ _ e] at hi; exact h.slot i hi
    ownS := fun i j sz' n' cs' hi => by
      rw [getD_set hd]
      by_cases e : i = d
      · subst e; rw [upd_same] at hi; rw [if_pos rfl]
        cases j with
        | zero =>
          simp only [comp, Option.some.injEq, V.sl.injEq] at hi
          obtain ⟨_, e1, e2, _⟩ := hi
          rw [← e1, ← e2]
          cases v <;> simp only [OwnAt] at ho
          exact ho
        | succ j => simp [comp] at hi
      · rw [if_neg e]; rw [upd_ne _ _ e] at hi; exact h.ownS i j sz' n' cs' hi }

/-! ### Boxes -/
def G.box (g : G) (blk : Nat) : G := { g with φ := upd g.φ g.mn blk, mn := g.mn + 1 }
theorem G.onto_box (g : G) (blk : Nat) (w : World) : Onto g (g.box blk) w w :=
  ⟨fun _ _ _ _ h => h, fun _ => Nat.le_refl _, fun b hb => by simp only [G.box]; rw [upd_ne _ _ (by omega)], by simp [G.box]⟩

/-- A block that nobody owns becomes a box. -/
theorem St.addBox (h : St E g ob s mem tm w) (blk : Nat) (cs : List V) (hB : BoxAt g w blk cs) (hown : ∀ q, ob q ≠ some blk) (hbox : ∀ b, mem b ≠ none → g.φ b ≠ blk)
    (hfr : E.w0.heap.size ≤ blk ∨ E.wr blk) (hp : g.prot blk = 0) (hno : ∀ (o sz n : Nat) (xs : List V), cs[o]? ≠ some (V.sl true sz n xs)) (hmem : mem g.mn = none) :
    St E (g.box blk) ob s (upd mem g.mn (some cs)) tm w := by
  have h' := h.go (g' := g.box blk) (w' := w) (g.onto_box blk w) (fun b hb => ⟨rfl, by simp only [G.box]; exact h.boxProt b hb⟩) (fun _ _ _ => ⟨rfl, rfl⟩) h.prot0 rfl rfl rfl (Nat.le_refl _) (fun _ _ _ => rfl) (fun _ _ _ => rfl)
  have hφ : (g.box blk).φ g.mn = blk := by simp [G.box, upd_same]
  have hφ' : ∀ b, mem b ≠ none → (g.box blk).φ b = g.φ b := fun b hb => by
    have : b ≠ g.mn := by intro e; rw [e] at hb; exact hb hmem
    simp only [G.box]; rw [upd_ne _ _ this]
  have hsp : ∀ b, upd mem g.mn (some cs) b ≠ none → b = g.mn ∨ (b ≠ g.mn ∧ mem b ≠ none) := fun b hb => by
    by_cases e : b = g.mn
    · exact .inl e
    · rw [upd_ne _ _ e] at hb; exact .inr ⟨e, hb⟩
  exact { h' with
    box := fun b xs hb => by
      by_cases e : b = g.mn
      · subst e; rw [upd_same] at hb; cases hb; rw [hφ]; exact ⟨by simp [G.box], hB.onto (g.onto_box blk w) rfl⟩
      · rw [upd_ne _ _ e] at hb; exact h'.box b xs hb
    inj := fun b b' hb hb' he => by
      rcases hsp b hb with e | ⟨e, e2⟩ <;> rcases hsp b' hb' with k | ⟨k, k2⟩
      · rw [e, k]
      · rw [e, hφ, hφ' b' k2] at he; exact absurd he.symm (hbox b' k2)
      · rw [k, hφ, hφ' b e2] at he; exact absurd he (hbox b e2)
      · exact h'.inj b b' e2 k2 he
    ownC := fun b o l sz n xs hb hl => by
      by_cases e : b = g.mn
      · subst e; rw [upd_same] at hb; cases hb; exact absurd hl (hno o sz n xs)
      · rw [upd_ne _ _ e] at hb; exact h'.ownC b o l sz n xs hb hl
    obBox := fun q bl b hq hb => by
      rcases hsp b hb with e | ⟨e, e2⟩
      · subst e; rw [hφ]; intro k; exact hown q (k ▸ hq)
      · exact h'.obBox q bl b hq e2
    boxProt := fun b hb => by
      rcases hsp b hb with e | ⟨e, e2⟩
      · subst e; rw [hφ]; exact hp
      · exact h'.boxProt b e2
    boxFresh := fun b hb => by
      rcases hsp b hb with e | ⟨e, e2⟩
      · subst e; rw [hφ]; exact hfr
      · exact h'.boxFresh b e2 }

/-! ### Writing -/
def World.putBlk (w : World) (blk : Nat) (o : Obj) : World := { w with heap := w.heap.setIfInBounds blk o }
theorem putBlk_ne {w : World} {blk b : Nat} {o : Obj} (h : b ≠ blk) : (World.putBlk w blk o).heap[b]? = w.heap[b]? := by
  simp only [World.putBlk, Array.getElem?_setIfInBounds]; rw [if_neg (Ne.symm h)]
theorem putBlk_same {w : World} {blk : Nat} {o : Obj} (h : blk < w.heap.size) : (World.putBlk w blk o).heap[blk]? = some o := by
  simp [World.putBlk, Array.getElem?_setIfInBounds, h]

/-- A block that is nobody's now, and is the call's own, is written; what is protected stays. -/
theorem St.write (h : St E g ob s mem tm w) {blk : Nat} {c c' : Array Value} {e e' : TypeId} {fr fr' : Nat × Nat} (hc : w.heap[blk]? = some (.cells c e fr)) (p : Nat) (hp : g.prot blk ≤ p)
    (hkeep : ∀ o, o < g.prot blk → ∀ u, c[o]? = some u → c'[o]? = some u) (hown : ∀ q, ob q ≠ some blk) (hbox : ∀ b, mem b ≠ none → g.φ b ≠ blk) (hfr : E.w0.heap.size ≤ blk ∨ E.wr blk) :
    St E (g.protAt blk p) ob s mem tm (World.putBlk w blk (.cells c' e' fr')) := by
  have hlt : blk < w.heap.size := (Array.getElem?_eq_some_iff.1 hc).1
  refine h.go ⟨fun b o u ho hu => ?_, fun b => ?_, fun _ _ => rfl, Nat.le_refl _⟩ (fun b hb => ?_) (fun q b hq => ?_) (fun b hb => ?_) rfl rfl rfl (by simp [World.putBlk]) (fun b hb hw => ?_) (fun b hb hw => ?_)
  · by_cases k : b = blk
    · subst k
      have hu' : c[o]? = some u := by simpa [World.cell?, hc] using hu
      simpa [World.cell?, putBlk_same hlt] using hkeep o ho u hu'
    · rw [World.cell?_of_block (w := w)]
      · exact hu
      · exact putBlk_ne k
  · simp only [G.protAt]
    by_cases k : b = blk
    · subst k; rw [upd_same]; exact hp
    · rw [upd_ne _ _ k]; exact Nat.le_refl _
  · refine ⟨putBlk_ne (hbox b hb), ?_⟩
    simp only [G.protAt]
    rw [upd_ne _ _ (hbox b hb)]
    exact h.boxProt b hb
  · have k : b ≠ blk := by intro k; exact hown q (k ▸ hq)
    refine ⟨putBlk_ne k, ?_⟩
    simp only [G.protAt]
    rw [upd_ne _ _ k]
  · simp only [World.putBlk, Array.size_setIfInBounds] at hb
    simp only [G.protAt]
    rw [upd_ne _ _ (by omega)]
    exact h.prot0 _ hb
  · refine putBlk_ne ?_
    intro k
    subst k
    rcases hfr with hfr | hfr
    · omega
    · exact hw hfr
  · have k : b ≠ blk := by
      intro k
      subst k
      rcases hfr with hfr | hfr
      · omega
      · exact hw hfr
    simp only [G.protAt]; rw [upd_ne _ _ k]

end Go.VL
