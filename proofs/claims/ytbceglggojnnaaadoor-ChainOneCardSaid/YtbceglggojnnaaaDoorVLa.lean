/- Part VLa of the proof: made for this claim. -/
import Derived.Calls
import Derived.Orders
import Derived.Carry
import Derived.Below
import Derived.Laws.Sem
import Derived.Laws.StructEq
import Derived.DeepKeys
import Derived.Laws.Cells
import Derived.Laws.BytesArg
import Derived.Laws.Append
import Derived.Laws.AppendOwn
import Derived.Laws.IdiomCopy
import Derived.Lib.ConvBytes
set_option linter.unusedVariables false
namespace Go.VL

inductive V where
  /-- one cell without memory behind it -/
  | flat (v : Value)
  /-- the nil slice -/
  | nil
  /-- a slice of n elements of sz cells each, with what it holds; own: nobody else may append to it -/
  | sl (own : Bool) (sz n : Nat) (cs : List V)
  | agg (cs : List V)
  | tup (cs : List V)
  /-- the address of a cell of a row that nobody writes -/
  | ref (cs : List V) (off : Nat)
  /-- the address of a cell of a box -/
  | bp (b off : Nat)
  /-- a slice of a box -/
  | bs (b off n cap : Nat)
  /-- a function, with what it holds on to -/
  | fn (f : FuncId) (cs : List V)
  | unk
  deriving Inhabited

def V.cells : V → List V
  | .agg cs => cs
  | v => [v]
def V.fz : V → V
  | .sl _ sz n cs => .sl false sz n cs
  | v => v
def V.fzT : V → V
  | .tup vs => .tup (vs.map V.fz)
  | v => v.fz

def flatOk : Value → Bool
  | .agg _ | .tuple _ => false
  | .slice _ _ _ => false
  | _ => true

structure G where
  φ : Nat → Nat
  mn : Nat
  prot : Nat → Nat
  /-- numbers below mn that stand for no box as yet -/
  hole : Nat → Prop
def G.ok (g : G) (b : Nat) : Prop := b < g.mn ∧ ¬ g.hole b

inductive VR (g : G) (w : World) : V → Value → Prop
  | flat (v : Value) (h : flatOk v = true) : VR g w (.flat v) v
  | nil : VR g w .nil (.slice none 0 0)
  | sl0 (own : Bool) (sz : Nat) (a : Option Addr) (cap : Nat) : VR g w (.sl own sz 0 []) (.slice a 0 cap)
  | sl (own : Bool) (sz n : Nat) (cs : List V) (blk off cap : Nat) (us : List Value) (hn : cs.length = n * sz) (hc : n ≤ cap) (hcm : cap ≤ maxLen) (hp : off + cs.length ≤ g.prot blk)
      (hu : ∀ i, i < cs.length → w.cell? ⟨blk, off + i, none⟩ = some (us.getD i undef)) (hv : ∀ i, i < cs.length → VR g w (cs.getD i .unk) (us.getD i undef)) :
      VR g w (.sl own sz n cs) (.slice (some ⟨blk, off, none⟩) n cap)
  | agg (cs : List V) (us : Array Value) (hl : us.size = cs.length) (hv : ∀ i, i < cs.length → VR g w (cs.getD i .unk) (us.getD i undef)) : VR g w (.agg cs) (.agg us)
  | tup (cs : List V) (us : Array Value) (hl : us.size = cs.length) (hv : ∀ i, i < cs.length → VR g w (cs.getD i .unk) (us.getD i undef)) : VR g w (.tup cs) (.tuple us)
  | ref (cs : List V) (off blk o : Nat) (us : List Value) (hp : o + cs.length ≤ g.prot blk)
      (hu : ∀ i, i < cs.length → w.cell? ⟨blk, o + i, none⟩ = some (us.getD i undef)) (hv : ∀ i, i < cs.length → VR g w (cs.getD i .unk) (us.getD i undef)) :
      VR g w (.ref cs off) (.pointer (some ⟨blk, o + off, none⟩))
  | bp (b off : Nat) (hb : g.ok b) : VR g w (.bp b off) (.pointer (some ⟨g.φ b, off, none⟩))
  | bs (b off n cap cap2 : Nat) (hb : g.ok b) (hc : n ≤ cap2) (hf : cap = n → cap2 = n) : VR g w (.bs b off n cap) (.slice (some ⟨g.φ b, off, none⟩) n cap2)
  | fn (f : FuncId) (cs : List V) (us : Array Value) (hl : us.size = cs.length) (hv : ∀ i, i < cs.length → VR g w (cs.getD i .unk) (us.getD i undef)) : VR g w (.fn f cs) (.func (.func f) #[] us)

structure OntoW (g g' : G) (w w' : World) : Prop where
  cell : ∀ blk o u, o < g.prot blk → w.cell? ⟨blk, o, none⟩ = some u → w'.cell? ⟨blk, o, none⟩ = some u
  prot : ∀ blk, g.prot blk ≤ g'.prot blk
  φ : ∀ b, g.ok b → g'.φ b = g.φ b
  ok : ∀ b, g.ok b → g'.ok b
structure Onto (g g' : G) (w w' : World) : Prop where
  cell : ∀ blk o u, o < g.prot blk → w.cell? ⟨blk, o, none⟩ = some u → w'.cell? ⟨blk, o, none⟩ = some u
  prot : ∀ blk, g.prot blk ≤ g'.prot blk
  φ : ∀ b, g.ok b → g'.φ b = g.φ b
  mn : g.mn ≤ g'.mn
  hole : ∀ b, b < g.mn → (g'.hole b ↔ g.hole b)

theorem Onto.ok {g g' : G} {w w' : World} (h : Onto g g' w w') (b : Nat) (hb : g.ok b) : g'.ok b := ⟨Nat.lt_of_lt_of_le hb.1 h.mn, fun k => hb.2 ((h.hole b hb.1).1 k)⟩
theorem Onto.weak {g g' : G} {w w' : World} (h : Onto g g' w w') : OntoW g g' w w' := ⟨h.cell, h.prot, h.φ, h.ok⟩
theorem Onto.refl (g : G) (w : World) : Onto g g w w := ⟨fun _ _ _ _ h => h, fun _ => Nat.le_refl _, fun _ _ => rfl, Nat.le_refl _, fun _ _ => Iff.rfl⟩
theorem Onto.trans {g1 g2 g3 : G} {w1 w2 w3 : World} (h : Onto g1 g2 w1 w2) (k : Onto g2 g3 w2 w3) : Onto g1 g3 w1 w3 :=
  ⟨fun blk o u ho hu => k.cell blk o u (Nat.lt_of_lt_of_le ho (h.prot blk)) (h.cell blk o u ho hu), fun blk => Nat.le_trans (h.prot blk) (k.prot blk),
    fun b hb => (k.φ b (h.ok b hb)).trans (h.φ b hb), Nat.le_trans h.mn k.mn, fun b hb => (k.hole b (Nat.lt_of_lt_of_le hb h.mn)).trans (h.hole b hb)⟩

theorem VR.ontoW {g g' : G} {w w' : World} (ho : OntoW g g' w w') {x : V} {v : Value} (h : VR g w x v) : VR g' w' x v := by
  induction h with
  | flat v h => exact .flat v h
  | nil => exact .nil
  | sl0 own sz a cap => exact .sl0 own sz a cap
  | sl own sz n cs blk off cap us hn hc hcm hp hu hv ih =>
    exact .sl own sz n cs blk off cap us hn hc hcm (Nat.le_trans hp (ho.prot blk)) (fun i hi => ho.cell _ _ _ (by omega) (hu i hi)) ih
  | agg cs us hl hv ih => exact .agg cs us hl ih
  | tup cs us hl hv ih => exact .tup cs us hl ih
  | ref cs off blk o us hp hu hv ih => exact .ref cs off blk o us (Nat.le_trans hp (ho.prot blk)) (fun i hi => ho.cell _ _ _ (by omega) (hu i hi)) ih
  | bp b off hb => rw [← ho.φ b hb]; exact .bp b off (ho.ok b hb)
  | bs b off n cap cap2 hb hc hf => rw [← ho.φ b hb]; exact .bs b off n cap cap2 (ho.ok b hb) hc hf
  | fn f cs us hl hv ih => exact .fn f cs us hl ih
theorem VR.onto {g g' : G} {w w' : World} (ho : Onto g g' w w') {x : V} {v : Value} (h : VR g w x v) : VR g' w' x v := h.ontoW ho.weak

theorem VR.fz {g : G} {w : World} {x : V} {v : Value} (h : VR g w x v) : VR g w x.fz v := by
  cases h with
  | flat v h => exact .flat v h
  | nil => exact .nil
  | sl0 own sz a cap => exact .sl0 false sz a cap
  | sl own sz n cs blk off cap us hn hc hcm hp hu hv => exact .sl false sz n cs blk off cap us hn hc hcm hp hu hv
  | agg cs us hl hv => exact .agg cs us hl hv
  | tup cs us hl hv => exact .tup cs us hl hv
  | ref cs off blk o us hp hu hv => exact .ref cs off blk o us hp hu hv
  | bp b off hb => exact .bp b off hb
  | bs b off n cap cap2 hb hc hf => exact .bs b off n cap cap2 hb hc hf
  | fn f cs us hl hv => exact .fn f cs us hl hv

end Go.VL

set_option linter.unusedVariables false
set_option linter.unusedSimpArgs false
open Go.RowKit
namespace Go.VL

inductive Pos where
  | slot (i j : Nat)
  | cell (b o : Nat)
  deriving DecidableEq

def comp : V → Nat → Option V
  | .tup vs, j => vs[j]?
  | v, 0 => some v
  | _, _ => none
def vcomp : Value → Nat → Value
  | .tuple us, j => us.getD j undef
  | v, 0 => v
  | _, _ => undef

def upd {α : Type} (f : Nat → α) (i : Nat) (x : α) : Nat → α := fun j => if j = i then x else f j
theorem upd_same {α : Type} (f : Nat → α) (i : Nat) (x : α) : upd f i x i = x := by simp [upd]
theorem upd_ne {α : Type} (f : Nat → α) {i j : Nat} (x : α) (h : j ≠ i) : upd f i x j = f j := by simp [upd, h]
def updP (f : Pos → Option Nat) (p : Pos) (x : Option Nat) : Pos → Option Nat := fun q => if q = p then x else f q
theorem updP_same (f : Pos → Option Nat) (p : Pos) (x : Option Nat) : updP f p x p = x := by simp [updP]
theorem updP_ne (f : Pos → Option Nat) {p q : Pos} (x : Option Nat) (h : q ≠ p) : updP f p x q = f q := by simp [updP, h]

def Thawed (c : Array Value) (fr : Nat × Nat) : Prop := ∀ o, o < c.size → (decide (fr.1 ≤ o) && decide (o < fr.2)) = false

def OwnAt (g : G) (w : World) (ob : Option Nat) (sz n : Nat) : Value → Prop
  | .slice a m cap => m = n ∧ (cap = n ∨ ∃ blk c e fr, ob = some blk ∧ a = some ⟨blk, 0, none⟩ ∧ w.heap[blk]? = some (.cells c e fr) ∧ c.size = cap * sz ∧ Thawed c fr ∧ g.prot blk = n * sz ∧ n ≤ cap ∧ cap ≤ maxLen)
  | _ => False

def BoxAt (g : G) (w : World) (blk : Nat) (cs : List V) : Prop :=
  ∃ c e fr, w.heap[blk]? = some (.cells c e fr) ∧ cs.length ≤ c.size ∧ Thawed c fr ∧ ∀ i, i < cs.length → VR g w (cs.getD i .unk) (c.getD i undef)

structure Entry where
  w0 : World
  g0 : G
  wr : Nat → Prop
  /-- numbers of boxes that stay free -/
  rsv : Nat → Prop := fun _ => False
  /-- numbers kept for boxes that are made in no fixed order -/
  lo : Nat := 0
  hi : Nat := 0

structure St (E : Entry) (g : G) (ob : Pos → Option Nat) (s : Nat → V) (mem : Nat → Option (List V)) (tm : Array Value) (w : World) : Prop where
  slot : ∀ i, s i ≠ .unk → VR g w (s i) (tm.getD i undef)
  box : ∀ b cs, mem b = some cs → g.ok b ∧ BoxAt g w (g.φ b) cs
  inj : ∀ b b', mem b ≠ none → mem b' ≠ none → g.φ b = g.φ b' → b = b'
  ownS : ∀ i j sz n cs, comp (s i) j = some (.sl true sz n cs) → OwnAt g w (ob (.slot i j)) sz n (vcomp (tm.getD i undef) j)
  ownC : ∀ b o l sz n cs, mem b = some l → l[o]? = some (.sl true sz n cs) → ∃ u, w.cell? ⟨g.φ b, o, none⟩ = some u ∧ OwnAt g w (ob (.cell b o)) sz n u
  obInj : ∀ p q blk, ob p = some blk → ob q = some blk → p = q
  obBox : ∀ p blk b, ob p = some blk → mem b ≠ none → g.φ b ≠ blk
  obLt : ∀ p blk, ob p = some blk → blk < w.heap.size
  prot0 : ∀ blk, w.heap.size ≤ blk → g.prot blk = 0
  boxProt : ∀ b, mem b ≠ none → g.prot (g.φ b) = 0
  os : w.os = E.w0.os
  tape : w.tape = E.w0.tape
  output : w.output = E.w0.output
  size : E.w0.heap.size ≤ w.heap.size
  block : ∀ blk, blk < E.w0.heap.size → ¬ E.wr blk → w.heap[blk]? = E.w0.heap[blk]?
  keep : ∀ blk, blk < E.w0.heap.size → ¬ E.wr blk → g.prot blk = E.g0.prot blk
  onto : Onto E.g0 g E.w0 w
  boxFresh : ∀ b, mem b ≠ none → E.w0.heap.size ≤ g.φ b ∨ E.wr (g.φ b)
  obFresh : ∀ p blk, ob p = some blk → E.w0.heap.size ≤ blk ∨ E.wr blk
  rsv : ∀ b, E.rsv b → b < g.mn ∧ g.hole b

def V.noOwn (x : V) : Prop := ∀ j sz n cs, comp x j ≠ some (.sl true sz n cs)

variable {E : Entry} {g : G} {ob : Pos → Option Nat} {s : Nat → V} {mem : Nat → Option (List V)} {tm : Array Value} {w : World}

theorem getD_set {tm : Array Value} {d i : Nat} {v : Value} (hd : d < tm.size) : (tm.setIfInBounds d v).getD i undef = if i = d then v else tm.getD i undef := by
  simp only [Array.getD_eq_getD_getElem?, Array.getElem?_setIfInBounds]
  by_cases h : d = i
  · subst h; simp [hd]
  · rw [if_neg h, if_neg (Ne.symm h)]

theorem St.put (h : St E g ob s mem tm w) {d : Nat} {x : V} {v : Value} (hd : d < tm.size) (hx : x ≠ .unk → VR g w x v) (ho : x.noOwn) : St E g ob (upd s d x) mem (tm.setIfInBounds d v) w :=
  { h with
    slot := fun i hi => by
      rw [getD_set hd]
      by_cases e : i = d
      · subst e; rw [if_pos rfl, upd_same]; rw [upd_same] at hi; exact hx hi
      · rw [if_neg e, upd_ne _ _ e]; rw [upd_ne _ _ e] at hi; exact h.slot i hi
    ownS := fun i j sz n cs hi => by
      rw [getD_set hd]
      by_cases e : i = d
      · subst e; rw [upd_same] at hi; exact absurd hi (ho j sz n cs)
      · rw [if_neg e]; rw [upd_ne _ _ e] at hi; exact h.ownS i j sz n cs hi }

theorem St.forgetMem (h : St E g ob s mem tm w) {mem' : Nat → Option (List V)} (hm : ∀ b, mem' b ≠ none → mem' b = mem b) : St E g ob s mem' tm w := by
  have hn : ∀ b, mem' b ≠ none → mem b ≠ none := fun b hb => by rw [← hm b hb]; exact hb
  exact { h with
    box := fun b cs hb => h.box b cs (by rw [← hm b (by rw [hb]; simp)]; exact hb)
    inj := fun b b' hb hb' => h.inj b b' (hn b hb) (hn b' hb')
    ownC := fun b o l sz n cs hb hl => h.ownC b o l sz n cs (by rw [← hm b (by rw [hb]; simp)]; exact hb) hl
    obBox := fun p blk b hp hb => h.obBox p blk b hp (hn b hb)
    boxProt := fun b hb => h.boxProt b (hn b hb)
    boxFresh := fun b hb => h.boxFresh b (hn b hb) }

theorem OwnAt.onto {g g' : G} {w w' : World} {ob : Option Nat} {sz n : Nat} {v : Value} (h : OwnAt g w ob sz n v) (hh : ∀ blk, ob = some blk → w'.heap[blk]? = w.heap[blk]?) (hp : ∀ blk, ob = some blk → g'.prot blk = g.prot blk) : OwnAt g' w' ob sz n v := by
  cases v <;> simp only [OwnAt] at h ⊢
  obtain ⟨h1, h2⟩ := h
  refine ⟨h1, h2.imp id ?_⟩
  rintro ⟨blk, c, e, fr, q1, q2, q3, q4, q5, q6⟩
  exact ⟨blk, c, e, fr, q1, q2, by rw [hh blk q1]; exact q3, q4, q5, by rw [hp blk q1]; exact q6⟩

theorem BoxAt.ontoW {g g' : G} {w w' : World} {blk : Nat} {cs : List V} (ho : OntoW g g' w w') (h : BoxAt g w blk cs) (hh : w'.heap[blk]? = w.heap[blk]?) : BoxAt g' w' blk cs := by
  obtain ⟨c, e, fr, h1, h2, h3, h4⟩ := h
  exact ⟨c, e, fr, by rw [hh]; exact h1, h2, h3, fun i hi => (h4 i hi).ontoW ho⟩
theorem BoxAt.onto {g g' : G} {w w' : World} {blk : Nat} {cs : List V} (ho : Onto g g' w w') (h : BoxAt g w blk cs) (hh : w'.heap[blk]? = w.heap[blk]?) : BoxAt g' w' blk cs := by
  obtain ⟨c, e, fr, h1, h2, h3, h4⟩ := h
  exact ⟨c, e, fr, by rw [hh]; exact h1, h2, h3, fun i hi => (h4 i hi).onto ho⟩

theorem St.goW (h : St E g ob s mem tm w) {g' : G} {w' : World} (ho : OntoW g g' w w') (hE : Onto E.g0 g' E.w0 w') (hr : ∀ b, E.rsv b → b < g'.mn ∧ g'.hole b)
    (hbox : ∀ b, mem b ≠ none → w'.heap[g.φ b]? = w.heap[g.φ b]? ∧ g'.prot (g.φ b) = 0) (hob : ∀ p blk, ob p = some blk → w'.heap[blk]? = w.heap[blk]? ∧ g'.prot blk = g.prot blk)
    (hp0 : ∀ blk, w'.heap.size ≤ blk → g'.prot blk = 0) (hos : w'.os = w.os) (htape : w'.tape = w.tape) (hout : w'.output = w.output) (hsize : w.heap.size ≤ w'.heap.size)
    (hblk : ∀ blk, blk < E.w0.heap.size → ¬ E.wr blk → w'.heap[blk]? = w.heap[blk]?) (hkeep : ∀ blk, blk < E.w0.heap.size → ¬ E.wr blk → g'.prot blk = g.prot blk) : St E g' ob s mem tm w' := by
  have hφ : ∀ b, mem b ≠ none → g'.φ b = g.φ b := fun b hb => by
    cases hm : mem b with
    | none => exact absurd hm hb
    | some cs => exact ho.φ b (h.box b cs hm).1
  exact {
    slot := fun i hi => (h.slot i hi).ontoW ho
    box := fun b cs hb => by
      have hb' : mem b ≠ none := by rw [hb]; simp
      obtain ⟨h1, h2⟩ := h.box b cs hb
      exact ⟨ho.ok b h1, by rw [hφ b hb']; exact h2.ontoW ho (hbox b hb').1⟩
    inj := fun b b' hb hb' => by rw [hφ b hb, hφ b' hb']; exact h.inj b b' hb hb'
    ownS := fun i j sz n cs hi => (h.ownS i j sz n cs hi).onto (fun blk hb => (hob _ blk hb).1) (fun blk hb => (hob _ blk hb).2)
    ownC := fun b o l sz n cs hb hl => by
      have hb' : mem b ≠ none := by rw [hb]; simp
      obtain ⟨u, hu, hown⟩ := h.ownC b o l sz n cs hb hl
      refine ⟨u, ?_, hown.onto (fun blk hb => (hob _ blk hb).1) (fun blk hb => (hob _ blk hb).2)⟩
      rw [hφ b hb', ← hu]
      exact World.cell?_of_block (hbox b hb').1
    obInj := h.obInj
    obBox := fun p blk b hp hb => by rw [hφ b hb]; exact h.obBox p blk b hp hb
    obLt := fun p blk hp => Nat.lt_of_lt_of_le (h.obLt p blk hp) hsize
    prot0 := hp0
    boxProt := fun b hb => by rw [hφ b hb]; exact (hbox b hb).2
    os := hos.trans h.os
    tape := htape.trans h.tape
    output := hout.trans h.output
    size := Nat.le_trans h.size hsize
    block := fun blk hb hw => (hblk blk hb hw).trans (h.block blk hb hw)
    keep := fun blk hb hw => (hkeep blk hb hw).trans (h.keep blk hb hw)
    onto := hE
    boxFresh := fun b hb => by rw [hφ b hb]; exact h.boxFresh b hb
    obFresh := h.obFresh
    rsv := hr }
theorem St.go (h : St E g ob s mem tm w) {g' : G} {w' : World} (ho : Onto g g' w w')
    (hbox : ∀ b, mem b ≠ none → w'.heap[g.φ b]? = w.heap[g.φ b]? ∧ g'.prot (g.φ b) = 0) (hob : ∀ p blk, ob p = some blk → w'.heap[blk]? = w.heap[blk]? ∧ g'.prot blk = g.prot blk)
    (hp0 : ∀ blk, w'.heap.size ≤ blk → g'.prot blk = 0) (hos : w'.os = w.os) (htape : w'.tape = w.tape) (hout : w'.output = w.output) (hsize : w.heap.size ≤ w'.heap.size)
    (hblk : ∀ blk, blk < E.w0.heap.size → ¬ E.wr blk → w'.heap[blk]? = w.heap[blk]?) (hkeep : ∀ blk, blk < E.w0.heap.size → ¬ E.wr blk → g'.prot blk = g.prot blk) : St E g' ob s mem tm w' :=
  h.goW ho.weak (h.onto.trans ho) (fun b hb => ⟨Nat.lt_of_lt_of_le (h.rsv b hb).1 ho.mn, (ho.hole b (h.rsv b hb).1).2 (h.rsv b hb).2⟩) hbox hob hp0 hos htape hout hsize hblk hkeep

theorem St.drew (h : St E g ob s mem tm w) : St E g ob s mem tm w.drew :=
  h.go (g' := g) (w' := w.drew) ⟨fun _ _ _ _ h => h, fun _ => Nat.le_refl _, fun _ _ => rfl, Nat.le_refl _, fun _ _ => Iff.rfl⟩ (fun b hb => ⟨rfl, h.boxProt b hb⟩) (fun _ _ _ => ⟨rfl, rfl⟩) h.prot0 rfl rfl rfl (Nat.le_refl _) (fun _ _ _ => rfl) (fun _ _ _ => rfl)

def G.protAt (g : G) (blk p : Nat) : G := { g with prot := upd g.prot blk p }

theorem cell?_alloc {w : World} {o : Obj} {a : Addr} {u : Value} (h : w.cell? a = some u) : (w.alloc o).cell? a = some u := by
  have hb := World.block_lt_of_cell? w a h
  rw [World.cell?_of_block (w := w) (w' := w.alloc o)]
  · exact h
  · exact Below.heap_alloc w o a.block hb

theorem St.alloc (h : St E g ob s mem tm w) (o : Obj) (p : Nat) : St E (g.protAt w.heap.size p) ob s mem tm (w.alloc o) := by
  have hk : ∀ blk, blk < w.heap.size → (w.alloc o).heap[blk]? = w.heap[blk]? := fun blk hb => Below.heap_alloc w o blk hb
  have hsz : (w.alloc o).heap.size = w.heap.size + 1 := by show (w.heap.push o).size = _; simp
  refine h.go ⟨fun blk of u _ hu => cell?_alloc hu, fun blk => ?_, fun _ _ => rfl, Nat.le_refl _, fun _ _ => Iff.rfl⟩ (fun b hb => ?_) (fun q blk hq => ?_) (fun blk hb => ?_) rfl rfl rfl (by omega) (fun blk hb _ => hk blk (Nat.lt_of_lt_of_le hb h.size)) (fun blk hb _ => by
      have := h.size
      simp only [G.protAt]; rw [upd_ne _ _ (by omega)])
  · simp only [G.protAt]
    by_cases e : blk = w.heap.size
    · subst e; rw [upd_same, h.prot0 _ (Nat.le_refl _)]; omega
    · rw [upd_ne _ _ e]; exact Nat.le_refl _
  · cases hm : mem b with
    | none => exact absurd hm hb
    | some cs =>
      obtain ⟨_, c, e, fr, h1, _⟩ := h.box b cs hm
      have hl : g.φ b < w.heap.size := (Array.getElem?_eq_some_iff.1 h1).1
      refine ⟨hk _ hl, ?_⟩
      simp only [G.protAt]
      rw [upd_ne _ _ (by omega)]
      exact h.boxProt b hb
  · have hl := h.obLt q blk hq
    refine ⟨hk _ hl, ?_⟩
    simp only [G.protAt]
    rw [upd_ne _ _ (by omega)]
  · simp only [G.protAt]
    rw [upd_ne _ _ (by omega)]
    exact h.prot0 _ (by omega)

theorem St.demote (h : St E g ob s mem tm w) (i : Nat) {x : V} (hx : x ≠ .unk → ∀ v, VR g w (s i) v → VR g w x v) (ho : x.noOwn) (hu : s i = .unk → x = .unk) :
    St E g ob (upd s i x) mem tm w :=
  { h with
    slot := fun k hk => by
      by_cases e : k = i
      · subst e; rw [upd_same] at hk ⊢; exact hx hk _ (h.slot k (fun q => hk (hu q)))
      · rw [upd_ne _ _ e] at hk ⊢; exact h.slot k hk
    ownS := fun k j sz n cs hk => by
      by_cases e : k = i
      · subst e; rw [upd_same] at hk; exact absurd hk (ho j sz n cs)
      · rw [upd_ne _ _ e] at hk; exact h.ownS k j sz n cs hk }

theorem St.obDrop (h : St E g ob s mem tm w) (p : Pos) (hs : ∀ i j, p = .slot i j → ∀ sz n cs, comp (s i) j ≠ some (.sl true sz n cs))
    (hc : ∀ b o, p = .cell b o → ∀ l sz n cs, mem b = some l → l[o]? ≠ some (.sl true sz n cs)) : St E g (updP ob p none) s mem tm w := by
  have hsub : ∀ q blk, updP ob p none q = some blk → ob q = some blk := fun q blk hq => by
    by_cases e : q = p
    · subst e; rw [updP_same] at hq; cases hq
    · rwa [updP_ne _ _ e] at hq
  exact { h with
    ownS := fun i j sz n cs hi => by
      rw [updP_ne]
      · exact h.ownS i j sz n cs hi
      · intro e; exact hs i j e.symm sz n cs hi
    ownC := fun b o l sz n cs hb hl => by
      rw [updP_ne]
      · exact h.ownC b o l sz n cs hb hl
      · intro e; exact hc b o e.symm l sz n cs hb hl
    obInj := fun q r blk hq hr => h.obInj q r blk (hsub q blk hq) (hsub r blk hr)
    obBox := fun q blk b hq => h.obBox q blk b (hsub q blk hq)
    obLt := fun q blk hq => h.obLt q blk (hsub q blk hq)
    obFresh := fun q blk hq => h.obFresh q blk (hsub q blk hq) }

theorem St.obTake (h : St E g ob s mem tm w) (p : Pos) (blk : Nat) (hnew : ∀ q, ob q ≠ some blk) (hbox : ∀ b, mem b ≠ none → g.φ b ≠ blk) (hlt : blk < w.heap.size)
    (hfr : E.w0.heap.size ≤ blk ∨ E.wr blk) (hs : ∀ i j, p = .slot i j → ∀ sz n cs, comp (s i) j ≠ some (.sl true sz n cs))
    (hc : ∀ b o, p = .cell b o → ∀ l sz n cs, mem b = some l → l[o]? ≠ some (.sl true sz n cs)) : St E g (updP ob p (some blk)) s mem tm w := by
  have hsub : ∀ q b, updP ob p (some blk) q = some b → (q = p ∧ b = blk) ∨ (q ≠ p ∧ ob q = some b) := fun q b hq => by
    by_cases e : q = p
    · subst e; rw [updP_same] at hq; exact .inl ⟨rfl, (Option.some.inj hq).symm⟩
    · rw [updP_ne _ _ e] at hq; exact .inr ⟨e, hq⟩
  exact { h with
    ownS := fun i j sz n cs hi => by
      rw [updP_ne]
      · exact h.ownS i j sz n cs hi
      · intro e; exact hs i j e.symm sz n cs hi
    ownC := fun b o l sz n cs hb hl => by
      rw [updP_ne]
      · exact h.ownC b o l sz n cs hb hl
      · intro e; exact hc b o e.symm l sz n cs hb hl
    obInj := fun q r b hq hr => by
      rcases hsub q b hq with ⟨e1, e2⟩ | ⟨e1, e2⟩ <;> rcases hsub r b hr with ⟨k1, k2⟩ | ⟨k1, k2⟩
      · rw [e1, k1]
      · exact absurd (e2 ▸ k2) (hnew r)
      · exact absurd (k2 ▸ e2) (hnew q)
      · exact h.obInj q r b e2 k2
    obBox := fun q b c hq hb => by
      rcases hsub q b hq with ⟨_, e⟩ | ⟨_, e⟩
      · rw [e]; exact hbox c hb
      · exact h.obBox q b c e hb
    obLt := fun q b hq => by
      rcases hsub q b hq with ⟨_, e⟩ | ⟨_, e⟩
      · rw [e]; exact hlt
      · exact h.obLt q b e
    obFresh := fun q b hq => by
      rcases hsub q b hq with ⟨_, e⟩ | ⟨_, e⟩
      · rw [e]; exact hfr
      · exact h.obFresh q b e }

theorem St.putOwn (h : St E g ob s mem tm w) {d : Nat} {sz n : Nat} {cs : List V} {v : Value} (hd : d < tm.size) (hx : VR g w (.sl true sz n cs) v) (ho : OwnAt g w (ob (.slot d 0)) sz n v) :
    St E g ob (upd s d (.sl true sz n cs)) mem (tm.setIfInBounds d v) w :=
  { h with
    slot := fun i hi => by
      rw [getD_set hd]
      by_cases e : i = d
      · subst e; rw [if_pos rfl, upd_same]; exact hx
      · rw [if_neg e, upd_ne _ _ e]; rw [upd_ne _ _ e] at hi; exact h.slot i hi
    ownS := fun i j sz' n' cs' hi => by
      rw [getD_set hd]
      by_cases e : i = d
      · subst e; rw [upd_same] at hi; rw [if_pos rfl]
        cases j with
        | zero =>
          simp only [comp, Option.some.injEq, V.sl.injEq] at hi
          obtain ⟨_, e1, e2, _⟩ := hi
          rw [← e1, ← e2]
          cases v <;> simp only [OwnAt] at ho
          exact ho
        | succ j => simp [comp] at hi
      · rw [if_neg e]; rw [upd_ne _ _ e] at hi; exact h.ownS i j sz' n' cs' hi }

def G.box (g : G) (blk : Nat) : G := { g with φ := upd g.φ g.mn blk, mn := g.mn + 1, hole := fun b => g.hole b ∧ b ≠ g.mn }
theorem G.onto_box (g : G) (blk : Nat) (w : World) : Onto g (g.box blk) w w :=
  ⟨fun _ _ _ _ h => h, fun _ => Nat.le_refl _, fun b hb => by have := hb.1; simp only [G.box]; rw [upd_ne _ _ (by omega)], by simp [G.box], fun b hb => by simp only [G.box]; exact ⟨And.left, fun h => ⟨h, by omega⟩⟩⟩
theorem G.box_ok (g : G) (blk : Nat) : (g.box blk).ok g.mn := ⟨by simp [G.box], fun h => h.2 rfl⟩

theorem St.addBoxAt (h' : St E g ob s mem tm w) (r blk : Nat) (cs : List V) (hφ : g.φ r = blk) (hok : g.ok r) (hB : BoxAt g w blk cs) (hown : ∀ q, ob q ≠ some blk) (hbox : ∀ b, mem b ≠ none → g.φ b ≠ blk)
    (hfr : E.w0.heap.size ≤ blk ∨ E.wr blk) (hp : g.prot blk = 0) (hno : ∀ (o sz n : Nat) (xs : List V), cs[o]? ≠ some (V.sl true sz n xs)) (hmem : mem r = none) :
    St E g ob s (upd mem r (some cs)) tm w := by
  have hsp : ∀ b, upd mem r (some cs) b ≠ none → b = r ∨ (b ≠ r ∧ mem b ≠ none) := fun b hb => by
    by_cases e : b = r
    · exact .inl e
    · rw [upd_ne _ _ e] at hb; exact .inr ⟨e, hb⟩
  exact { h' with
    box := fun b xs hb => by
      by_cases e : b = r
      · subst e; rw [upd_same] at hb; cases hb; rw [hφ]; exact ⟨hok, hB⟩
      · rw [upd_ne _ _ e] at hb; exact h'.box b xs hb
    inj := fun b b' hb hb' he => by
      rcases hsp b hb with e | ⟨e, e2⟩ <;> rcases hsp b' hb' with k | ⟨k, k2⟩
      · rw [e, k]
      · rw [e, hφ] at he; exact absurd he.symm (hbox b' k2)
      · rw [k, hφ] at he; exact absurd he (hbox b e2)
      · exact h'.inj b b' e2 k2 he
    ownC := fun b o l sz n xs hb hl => by
      by_cases e : b = r
      · subst e; rw [upd_same] at hb; cases hb; exact absurd hl (hno o sz n xs)
      · rw [upd_ne _ _ e] at hb; exact h'.ownC b o l sz n xs hb hl
    obBox := fun q bl b hq hb => by
      rcases hsp b hb with e | ⟨e, e2⟩
      · subst e; rw [hφ]; intro k; exact hown q (k ▸ hq)
      · exact h'.obBox q bl b hq e2
    boxProt := fun b hb => by
      rcases hsp b hb with e | ⟨e, e2⟩
      · subst e; rw [hφ]; exact hp
      · exact h'.boxProt b e2
    boxFresh := fun b hb => by
      rcases hsp b hb with e | ⟨e, e2⟩
      · subst e; rw [hφ]; exact hfr
      · exact h'.boxFresh b e2 }
theorem St.addBox (h : St E g ob s mem tm w) (blk : Nat) (cs : List V) (hB : BoxAt g w blk cs) (hown : ∀ q, ob q ≠ some blk) (hbox : ∀ b, mem b ≠ none → g.φ b ≠ blk)
    (hfr : E.w0.heap.size ≤ blk ∨ E.wr blk) (hp : g.prot blk = 0) (hno : ∀ (o sz n : Nat) (xs : List V), cs[o]? ≠ some (V.sl true sz n xs)) (hmem : mem g.mn = none) :
    St E (g.box blk) ob s (upd mem g.mn (some cs)) tm w := by
  have h' := h.go (g' := g.box blk) (w' := w) (g.onto_box blk w) (fun b hb => ⟨rfl, by simp only [G.box]; exact h.boxProt b hb⟩) (fun _ _ _ => ⟨rfl, rfl⟩) h.prot0 rfl rfl rfl (Nat.le_refl _) (fun _ _ _ => rfl) (fun _ _ _ => rfl)
  refine h'.addBoxAt g.mn blk cs (by simp [G.box, upd_same]) (g.box_ok blk) (hB.onto (g.onto_box blk w) rfl) hown (fun b hb => ?_) hfr (by simp only [G.box]; exact hp) hno hmem
  have : b ≠ g.mn := by intro e; rw [e] at hb; exact hb hmem
  simp only [G.box]; rw [upd_ne _ _ this]
  exact hbox b hb

def G.fill (g : G) (r blk : Nat) : G := { g with φ := upd g.φ r blk, hole := fun b => g.hole b ∧ b ≠ r }
theorem G.fill_ok (g : G) {r blk : Nat} (h : r < g.mn) : (g.fill r blk).ok r := ⟨h, fun h => h.2 rfl⟩
theorem G.onto_fill (g : G) {r blk : Nat} (w : World) (h : g.hole r) : OntoW g (g.fill r blk) w w := by
  have hr : ∀ b, g.ok b → b ≠ r := fun b hb e => hb.2 (e ▸ h)
  exact ⟨fun _ _ _ _ h => h, fun _ => Nat.le_refl _, fun b hb => by simp only [G.fill]; rw [upd_ne _ _ (hr b hb)], fun b hb => ⟨hb.1, fun k => hb.2 k.1⟩⟩
theorem St.fillBox (h : St E g ob s mem tm w) (r blk : Nat) (cs : List V) (hr : E.g0.mn ≤ r) (hr1 : r < g.mn) (hr2 : g.hole r) (hB : BoxAt g w blk cs) (hown : ∀ q, ob q ≠ some blk) (hbox : ∀ b, mem b ≠ none → g.φ b ≠ blk)
    (hfr : E.w0.heap.size ≤ blk ∨ E.wr blk) (hp : g.prot blk = 0) (hno : ∀ (o sz n : Nat) (xs : List V), cs[o]? ≠ some (V.sl true sz n xs)) (hmem : mem r = none) :
    St { E with rsv := fun b => E.rsv b ∧ b ≠ r } (g.fill r blk) ob s (upd mem r (some cs)) tm w := by
  have h0 : St { E with rsv := fun b => E.rsv b ∧ b ≠ r } g ob s mem tm w := { h with rsv := fun b hb => h.rsv b hb.1 }
  have hO := g.onto_fill (blk := blk) w hr2
  have h' := h0.goW (g' := g.fill r blk) (w' := w) hO ⟨h.onto.cell, h.onto.prot, fun b hb => by
      have h1 : b < E.g0.mn := hb.1
      simp only [G.fill]; rw [upd_ne _ _ (by omega)]; exact h.onto.φ b hb, h.onto.mn, fun b hb => by
      simp only [G.fill]
      have h1 : b < E.g0.mn := hb
      rw [h.onto.hole b hb]
      exact ⟨And.left, fun k => ⟨k, by omega⟩⟩⟩ (fun b hb => ⟨(h.rsv b hb.1).1, (h.rsv b hb.1).2, hb.2⟩)
    (fun b hb => ⟨rfl, by simp only [G.fill]; exact h.boxProt b hb⟩) (fun _ _ _ => ⟨rfl, rfl⟩) h.prot0 rfl rfl rfl (Nat.le_refl _) (fun _ _ _ => rfl) (fun _ _ _ => rfl)
  refine h'.addBoxAt r blk cs (by simp [G.fill, upd_same]) (g.fill_ok hr1) (hB.ontoW hO rfl) hown (fun b hb => ?_) hfr (by simp only [G.fill]; exact hp) hno hmem
  have : b ≠ r := by intro e; rw [e] at hb; exact hb hmem
  simp only [G.fill]; rw [upd_ne _ _ this]
  exact hbox b hb
def G.keepN (g : G) (k : Nat) : G := { g with mn := g.mn + k, hole := fun b => g.hole b ∨ g.mn ≤ b }
theorem St.keepN (h : St E g ob s mem tm w) (k : Nat) : St { E with rsv := fun b => E.rsv b ∨ (g.mn ≤ b ∧ b < g.mn + k) } (g.keepN k) ob s mem tm w := by
  have h' : St E (g.keepN k) ob s mem tm w := h.go (g' := g.keepN k) (w' := w) ⟨fun _ _ _ _ h => h, fun _ => Nat.le_refl _, fun _ _ => rfl, by simp [G.keepN], fun b hb => by
      simp only [G.keepN]; exact ⟨fun q => q.elim id (fun q => absurd hb (by omega)), .inl⟩⟩
    (fun b hb => ⟨rfl, h.boxProt b hb⟩) (fun _ _ _ => ⟨rfl, rfl⟩) h.prot0 rfl rfl rfl (Nat.le_refl _) (fun _ _ _ => rfl) (fun _ _ _ => rfl)
  exact { h' with
    rsv := fun b hb => Or.elim hb (h'.rsv b) (fun hb => ⟨hb.2, .inr hb.1⟩) }

def World.putBlk (w : World) (blk : Nat) (o : Obj) : World := { w with heap := w.heap.setIfInBounds blk o }
theorem putBlk_ne {w : World} {blk b : Nat} {o : Obj} (h : b ≠ blk) : (World.putBlk w blk o).heap[b]? = w.heap[b]? := by
  simp only [World.putBlk, Array.getElem?_setIfInBounds]; rw [if_neg (Ne.symm h)]
theorem putBlk_same {w : World} {blk : Nat} {o : Obj} (h : blk < w.heap.size) : (World.putBlk w blk o).heap[blk]? = some o := by
  simp [World.putBlk, Array.getElem?_setIfInBounds, h]

theorem St.write (h : St E g ob s mem tm w) {blk : Nat} {c c' : Array Value} {e e' : TypeId} {fr fr' : Nat × Nat} (hc : w.heap[blk]? = some (.cells c e fr)) (p : Nat) (hp : g.prot blk ≤ p)
    (hkeep : ∀ o, o < g.prot blk → ∀ u, c[o]? = some u → c'[o]? = some u) (hown : ∀ q, ob q ≠ some blk) (hbox : ∀ b, mem b ≠ none → g.φ b ≠ blk) (hfr : E.w0.heap.size ≤ blk ∨ E.wr blk) :
    St E (g.protAt blk p) ob s mem tm (World.putBlk w blk (.cells c' e' fr')) := by
  have hlt : blk < w.heap.size := (Array.getElem?_eq_some_iff.1 hc).1
  refine h.go ⟨fun b o u ho hu => ?_, fun b => ?_, fun _ _ => rfl, Nat.le_refl _, fun _ _ => Iff.rfl⟩ (fun b hb => ?_) (fun q b hq => ?_) (fun b hb => ?_) rfl rfl rfl (by simp [World.putBlk]) (fun b hb hw => ?_) (fun b hb hw => ?_)
  · by_cases k : b = blk
    · subst k
      have hu' : c[o]? = some u := by simpa [World.cell?, hc] using hu
      simpa [World.cell?, putBlk_same hlt] using hkeep o ho u hu'
    · rw [World.cell?_of_block (w := w)]
      · exact hu
      · exact putBlk_ne k
  · simp only [G.protAt]
    by_cases k : b = blk
    · subst k; rw [upd_same]; exact hp
    · rw [upd_ne _ _ k]; exact Nat.le_refl _
  · refine ⟨putBlk_ne (hbox b hb), ?_⟩
    simp only [G.protAt]
    rw [upd_ne _ _ (hbox b hb)]
    exact h.boxProt b hb
  · have k : b ≠ blk := by intro k; exact hown q (k ▸ hq)
    refine ⟨putBlk_ne k, ?_⟩
    simp only [G.protAt]
    rw [upd_ne _ _ k]
  · simp only [World.putBlk, Array.size_setIfInBounds] at hb
    simp only [G.protAt]
    rw [upd_ne _ _ (by omega)]
    exact h.prot0 _ hb
  · refine putBlk_ne ?_
    intro k
    subst k
    rcases hfr with hfr | hfr
    · omega
    · exact hw hfr
  · have k : b ≠ blk := by
      intro k
      subst k
      rcases hfr with hfr | hfr
      · omega
      · exact hw hfr
    simp only [G.protAt]; rw [upd_ne _ _ k]

end Go.VL

set_option linter.unusedVariables false
set_option linter.unusedSimpArgs false
open Go.RowKit
namespace Go.VL

def isNilSl : Value → Bool
  | .slice none 0 0 => true
  | _ => false
def ofC1 (v : Value) : V := if isNilSl v = true then .nil else if flatOk v = true then .flat v else .unk
def V.known : V → Bool
  | .unk => false
  | _ => true

inductive TyK where
  | int (k : IntKind)
  | bool
  | str
  | sl (e : TypeId)
  | arr (n : Nat) (e : TypeId)
  | st (fs : List (Nat × TypeId × Bool))
  | ptr (e : TypeId)
  | oth

structure TyI where
  k : TyK
  sz : Nat
  bytes : Nat
  agg : Bool
  zok : Bool
  zero : List V

def tyOf (P : Program) (t : TypeId) : Option TyI :=
  match P.info? t, P.underlying t with
  | some i, some d => some {
      k := match d with
        | .int k => .int k
        | .bool => .bool
        | .string => .str
        | .slice e => .sl e
        | .array n e => .arr n e
        | .struct fs => .st (fs.toList.map fun f => (f.offset, f.type, f.name != "_"))
        | .pointer e => .ptr e
        | _ => .oth
      sz := i.size
      bytes := i.bytes
      agg := match d with | .struct _ | .array _ _ => true | _ => false
      zok := match i.zero with | some z => (z.cells.toList.map ofC1).all V.known && z.cells.size == i.size | none => false
      zero := match i.zero with | some z => z.cells.toList.map ofC1 | none => [] }
  | _, _ => none

abbrev Env := List (TypeId × TyI)
def Env.get (H : Env) (t : TypeId) : Option TyI :=
  match H with
  | [] => none
  | (u, i) :: r => if u = t then some i else Env.get r t
def EnvOk (P : Program) (H : Env) : Prop := ∀ t i, H.get t = some i → tyOf P t = some i
theorem EnvOk.of {P : Program} {H : Env} (h : H.map (fun p => tyOf P p.1) = H.map (fun p => some p.2)) : EnvOk P H := by
  induction H with
  | nil => intro t i hi; cases hi
  | cons p r ih =>
    obtain ⟨u, j⟩ := p
    simp only [List.map_cons, List.cons.injEq] at h
    intro t i hi
    simp only [Env.get] at hi
    split at hi
    · rename_i e; subst e; cases hi; exact h.1
    · exact ih h.2 t i hi

section
variable {P : Program} {H : Env} {w : World}
theorem run_underlying' {t : TypeId} {d : TypeDesc} (h : P.underlying t = some d) : (underlying t).run P w = .ok d w := by
  simp [underlying, bind, Sem.bind, program, Sem.run, h]
theorem run_typeInfo' {t : TypeId} {i : TypeInfo} (h : P.info? t = some i) : (typeInfo t).run P w = .ok i w := by
  simp [typeInfo, bind, Sem.bind, program, Sem.run, h]

structure Tells (P : Program) (t : TypeId) (i : TyI) : Prop where
  ex : ∃ (ti : TypeInfo) (d : TypeDesc), P.info? t = some ti ∧ P.underlying t = some d ∧ ti.size = i.sz ∧ ti.bytes = i.bytes ∧
    (match d with | .struct _ | .array _ _ => true | _ => false) = i.agg ∧ (match ti.zero with | some z => (z.cells.toList.map ofC1).all V.known && z.cells.size == ti.size | none => false) = i.zok ∧ (match ti.zero with | some z => z.cells.toList.map ofC1 | none => []) = i.zero ∧
    (match d with
        | .int k => .int k
        | .bool => .bool
        | .string => .str
        | .slice e => .sl e
        | .array n e => .arr n e
        | .struct fs => .st (fs.toList.map fun f => (f.offset, f.type, f.name != "_"))
        | .pointer e => .ptr e
        | _ => .oth) = i.k
theorem EnvOk.tells (h : EnvOk P H) {t : TypeId} {i : TyI} (hi : H.get t = some i) : Tells P t i := by
  have := h t i hi
  unfold tyOf at this
  cases h1 : P.info? t with
  | none => simp [h1] at this
  | some ti =>
    cases h2 : P.underlying t with
    | none => simp [h1, h2] at this
    | some d =>
      simp only [h1, h2, Option.some.injEq] at this
      subst this
      exact ⟨ti, d, h1, h2, rfl, rfl, rfl, rfl, rfl, rfl⟩
theorem Tells.size {t : TypeId} {i : TyI} (h : Tells P t i) : (sizeOf t).run P w = .ok i.sz w := by
  obtain ⟨ti, d, h1, h2, h3, _⟩ := h
  simp [sizeOf, Sem.run_bind, run_typeInfo' h1, h3]

theorem Tells.agg {t : TypeId} {i : TyI} (h : Tells P t i) : (isAgg t).run P w = .ok i.agg w := by
  obtain ⟨ti, d, h1, h2, h3, h4, h5, _⟩ := h
  cases d <;> simp_all [isAgg, run_underlying' h2]
theorem Tells.und_int {t : TypeId} {i : TyI} (h : Tells P t i) {k : IntKind} (hk : i.k = .int k) : P.underlying t = some (.int k) := by
  obtain ⟨ti, d, h1, h2, h3, h4, h5, h6, h7, h8⟩ := h
  rw [hk] at h8
  cases d <;> simp at h8
  rw [h2, h8]
theorem Tells.und_bool {t : TypeId} {i : TyI} (h : Tells P t i) (hk : i.k = .bool) : P.underlying t = some .bool := by
  obtain ⟨ti, d, h1, h2, h3, h4, h5, h6, h7, h8⟩ := h
  rw [hk] at h8
  cases d <;> simp at h8
  exact h2
theorem Tells.und_str {t : TypeId} {i : TyI} (h : Tells P t i) (hk : i.k = .str) : P.underlying t = some .string := by
  obtain ⟨ti, d, h1, h2, h3, h4, h5, h6, h7, h8⟩ := h
  rw [hk] at h8
  cases d <;> simp at h8
  exact h2
theorem Tells.und_sl {t : TypeId} {i : TyI} (h : Tells P t i) {e : TypeId} (hk : i.k = .sl e) : P.underlying t = some (.slice e) := by
  obtain ⟨ti, d, h1, h2, h3, h4, h5, h6, h7, h8⟩ := h
  rw [hk] at h8
  cases d <;> simp at h8
  rw [h2, h8]
theorem Tells.und_ptr {t : TypeId} {i : TyI} (h : Tells P t i) {e : TypeId} (hk : i.k = .ptr e) : P.underlying t = some (.pointer e) := by
  obtain ⟨ti, d, h1, h2, h3, h4, h5, h6, h7, h8⟩ := h
  rw [hk] at h8
  cases d <;> simp at h8
  rw [h2, h8]
theorem Tells.und_arr {t : TypeId} {i : TyI} (h : Tells P t i) {n : Nat} {e : TypeId} (hk : i.k = .arr n e) : P.underlying t = some (.array n e) := by
  obtain ⟨ti, d, h1, h2, h3, h4, h5, h6, h7, h8⟩ := h
  rw [hk] at h8
  cases d <;> simp at h8
  rw [h2, h8.1, h8.2]
theorem Tells.und_st {t : TypeId} {i : TyI} (h : Tells P t i) {fs : List (Nat × TypeId × Bool)} (hk : i.k = .st fs) : ∃ fa : Array Field, P.underlying t = some (.struct fa) ∧ fa.toList.map (fun f => (f.offset, f.type, f.name != "_")) = fs := by
  obtain ⟨ti, d, h1, h2, h3, h4, h5, h6, h7, h8⟩ := h
  rw [hk] at h8
  cases d <;> simp at h8
  exact ⟨_, h2, by simpa using h8⟩
theorem Tells.isz {t : TypeId} {i : TyI} (h : Tells P t i) : ∃ ti, P.info? t = some ti ∧ ti.size = i.sz ∧ ti.bytes = i.bytes ∧ (match ti.zero with | some z => (z.cells.toList.map ofC1).all V.known && z.cells.size == ti.size | none => false) = i.zok ∧ (match ti.zero with | some z => z.cells.toList.map ofC1 | none => []) = i.zero := by
  obtain ⟨ti, d, h1, h2, h3, h4, h5, h6, h7, h8⟩ := h
  exact ⟨ti, h1, h3, h4, h6, h7⟩

def Gives (P : Program) (g : G) (w : World) (m : Sem Value) (r : Option (Prop × V)) : Prop := ∀ c x, r = some (c, x) → c → ∃ v, m.run P w = .ok v w ∧ VR g w x v

theorem Gives.none {g : G} {m : Sem Value} : Gives P g w m none := fun _ _ h => by cases h
theorem Gives.some_ {g : G} {m : Sem Value} {c : Prop} {x : V} (h : c → ∃ v, m.run P w = .ok v w ∧ VR g w x v) : Gives P g w m (some (c, x)) := by
  intro c' x' e hc
  cases e
  exact h hc

def mkV (agg : Bool) (sz : Nat) (cs : List V) (off : Nat) : V := match agg with
  | true => .agg ((cs.drop off).take sz)
  | false => cs.getD off .unk

theorem part_gives {g : G} {t : TypeId} {i : TyI} (h : Tells P t i) (cs : List V) (us : Array Value) (off : Nat) (hl : us.size = cs.length) (hv : ∀ i, i < cs.length → VR g w (cs.getD i .unk) (us.getD i undef))
    (hc : off + i.sz ≤ cs.length) (h1 : i.agg = false → i.sz = 1) : ∃ v, (part t us off).run P w = .ok v w ∧ VR g w (mkV i.agg i.sz cs off) v := by
  cases ha : i.agg with
  | false =>
    have h1 := h1 ha
    have hoff : off < us.size := by omega
    refine ⟨us.getD off undef, ?_, ?_⟩
    · simp [part, Sem.run_bind, h.agg, ha, Array.getD_eq_getD_getElem?, Array.getElem?_eq_getElem hoff]
    · simp only [mkV]
      exact hv off (by omega)
  | true =>
    refine ⟨.agg (us.extract off (off + i.sz)), ?_, ?_⟩
    · simp [part, Sem.run_bind, h.agg, ha, h.size]
    · simp only [mkV]
      refine .agg _ _ (by simp; omega) (fun j hj => ?_)
      simp only [List.length_take, List.length_drop] at hj
      have e1 : ((cs.drop off).take i.sz).getD j .unk = cs.getD (off + j) .unk := by
        simp only [List.getD_eq_getElem?_getD, List.getElem?_take, List.getElem?_drop]
        rw [if_pos (by omega)]
      have e2 : (us.extract off (off + i.sz)).getD j undef = us.getD (off + j) undef := by
        simp only [Array.getD_eq_getD_getElem?, Array.getElem?_extract]
        rw [if_pos (by omega)]
      rw [e1, e2]
      exact hv _ (by omega)

def binInt (op : BinOp) (k : IntKind) (a : Int) (k' : IntKind) (b : Int) : Option (Prop × V) := match op with
  | .shl => some (0 ≤ b, .flat (.int k (k.wrap (a * 2 ^ min b.toNat k.bits))))
  | .shr => some (0 ≤ b, .flat (.int k (a.fdiv (2 ^ min b.toNat k.bits))))
  | .add => if k = k' then some (True, .flat (.int k (k.wrap (a + b)))) else none
  | .sub => if k = k' then some (True, .flat (.int k (k.wrap (a - b)))) else none
  | .mul => if k = k' then some (True, .flat (.int k (k.wrap (a * b)))) else none
  | .quo => if k = k' then some (b ≠ 0, .flat (.int k (k.wrap (a.tdiv b)))) else none
  | .rem => if k = k' then some (b ≠ 0, .flat (.int k (a.tmod b))) else none
  | .and => if k = k' then some (True, .flat (.int k (k.wrap (BitVec.ofInt k.bits a &&& BitVec.ofInt k.bits b).toNat))) else none
  | .or => if k = k' then some (True, .flat (.int k (k.wrap (BitVec.ofInt k.bits a ||| BitVec.ofInt k.bits b).toNat))) else none
  | .xor => if k = k' then some (True, .flat (.int k (k.wrap (BitVec.ofInt k.bits a ^^^ BitVec.ofInt k.bits b).toNat))) else none
  | .andNot => if k = k' then some (True, .flat (.int k (k.wrap (BitVec.ofInt k.bits a &&& ~~~ BitVec.ofInt k.bits b).toNat))) else none
  | .eql => if k = k' then some (True, .flat (.bool (decide (a = b)))) else none
  | .neq => if k = k' then some (True, .flat (.bool (!decide (a = b)))) else none
  | .lss => if k = k' then some (True, .flat (.bool (decide (a < b)))) else none
  | .leq => if k = k' then some (True, .flat (.bool (decide (a ≤ b)))) else none
  | .gtr => if k = k' then some (True, .flat (.bool (decide (a > b)))) else none
  | .geq => if k = k' then some (True, .flat (.bool (decide (a ≥ b)))) else none

theorem binInt_gives {g : G} (op : BinOp) (t : TypeId) (x y : Operand) (k k' : IntKind) (a b : Int) :
    Gives P g w (do eqGuard op t x y (.int k a) (.int k' b); binOp op t (.int k a) (.int k' b)) (binInt op k a k' b) := by
  cases op <;> simp only [binInt] <;> (try split) <;> (try exact Gives.none) <;> refine Gives.some_ (fun hc => ⟨_, ?_, .flat _ rfl⟩) <;> (try subst k') <;>
    simp_all [eqGuard, binOp, Op.intArith, Op.intDiv, Op.intBits, Op.intCmp, Op.shift, Int.not_lt.2]
  all_goals (by_cases h : a = b <;> simp [bne, h])

theorem toList_beq (a b : ByteArray) : (a.toList == b.toList) = decide (a = b) := by
  rw [ByteArray.toList_eq, ByteArray.toList_eq, Bool.eq_iff_iff]
  simp only [beq_iff_eq, decide_eq_true_eq]
  constructor
  · intro h
    obtain ⟨⟨x⟩⟩ := a
    obtain ⟨⟨y⟩⟩ := b
    simp at h
    rw [h]
  · intro h; rw [h]

def binStr (op : BinOp) (a b : ByteArray) : Option (Prop × V) := match op with
  | .add => some (((a.size + b.size : Nat) : Int) ≤ IntKind.i64.max, .flat (.string (a ++ b)))
  | .eql => some (True, .flat (.bool (decide (a = b))))
  | .neq => some (True, .flat (.bool (!decide (a = b))))
  | .lss => some (True, .flat (.bool (Op.bytesLess a.toList b.toList)))
  | _ => none
theorem binStr_gives {g : G} (op : BinOp) (t : TypeId) (x y : Operand) (a b : ByteArray) :
    Gives P g w (do eqGuard op t x y (.string a) (.string b); binOp op t (.string a) (.string b)) (binStr op a b) := by
  cases op <;> simp only [binStr] <;> (try exact Gives.none) <;> refine Gives.some_ (fun hc => ⟨_, ?_, .flat _ rfl⟩) <;>
    simp_all [eqGuard, binOp, Op.stringOp, toList_beq]

def binBool (H : Env) (t : TypeId) (op : BinOp) (a b : Bool) : Option (Prop × V) := match H.get t with
  | some i => match i.k with
    | .bool => match op with
      | .eql => some (True, .flat (.bool (a == b)))
      | .neq => some (True, .flat (.bool (a != b)))
      | _ => none
    | _ => none
  | none => none
theorem binBool_gives {g : G} (hH : EnvOk P H) (op : BinOp) (t : TypeId) (x y : Operand) (a b : Bool) :
    Gives P g w (do eqGuard op t x y (.bool a) (.bool b); binOp op t (.bool a) (.bool b)) (binBool H t op a b) := by
  unfold binBool
  cases hi : H.get t with
  | none => exact Gives.none
  | some i =>
    have hT := hH.tells hi
    cases hk : i.k <;> simp only [hk] <;> try exact Gives.none
    have hu := hT.und_bool hk
    have he : (Op.equal t (.bool a) (.bool b)).run P w = .ok (a == b) w := by
      exact run_equalIn_bool' w 9999 t a b hu
    cases op <;> simp only [] <;> (try exact Gives.none) <;> refine Gives.some_ (fun hc => ⟨_, ?_, .flat _ rfl⟩) <;>
      simp [eqGuard, binOp, he, bne]

def nilEq : V → V → Option Bool
  | .flat (.pointer none), .flat (.pointer none) => some true
  | .bp _ _, .flat (.pointer none) => some false
  | .flat (.pointer none), .bp _ _ => some false
  | _, _ => none
def binPtr (H : Env) (t : TypeId) (op : BinOp) (x y : V) : Option (Prop × V) := match H.get t with
  | some i => match i.k with
    | .ptr _ => match nilEq x y with
      | some r => match op with
        | .eql => some (True, .flat (.bool r))
        | .neq => some (True, .flat (.bool (!r)))
        | _ => none
      | none => none
    | _ => none
  | none => none
theorem run_eq_ptr1 (d : Nat) {t e : TypeId} (hu : P.underlying t = some (.pointer e)) (q : Option Addr) : (Op.equalIn (d + 1) t (.pointer none) (.pointer q)).run P w = .ok q.isNone w := by
  simp only [Op.equalIn, Sem.run_bind, run_underlying' hu, Result.andThen_ok, Sem.run_pure]
theorem run_eq_ptr2 (d : Nat) {t e : TypeId} (hu : P.underlying t = some (.pointer e)) (q : Addr) : (Op.equalIn (d + 1) t (.pointer (some q)) (.pointer none)).run P w = .ok false w := by
  simp only [Op.equalIn, Sem.run_bind, run_underlying' hu, Result.andThen_ok, Sem.run_pure]
theorem binPtr_gives {g : G} (hH : EnvOk P H) (op : BinOp) (t : TypeId) (ox oy : Operand) {x y : V} {a b : Value} (hx : VR g w x a) (hy : VR g w y b) :
    Gives P g w (do eqGuard op t ox oy a b; binOp op t a b) (binPtr H t op x y) := by
  unfold binPtr
  cases hi : H.get t with
  | none => exact Gives.none
  | some i =>
    have hT := hH.tells hi
    cases hk : i.k <;> simp only [hk] <;> try exact Gives.none
    have hu := hT.und_ptr hk
    cases hn : nilEq x y with
    | none => exact Gives.none
    | some r =>
      have key : ∃ p q, a = .pointer p ∧ b = .pointer q ∧ (Op.equal t (.pointer p) (.pointer q)).run P w = .ok r w := by
        unfold nilEq at hn
        split at hn <;> try cases hn
        · cases hx; cases hy; exact ⟨_, _, rfl, rfl, run_eq_ptr1 9999 hu _⟩
        · cases hx; cases hy; exact ⟨_, _, rfl, rfl, run_eq_ptr2 9999 hu _⟩
        · cases hx; cases hy; exact ⟨_, _, rfl, rfl, run_eq_ptr1 9999 hu _⟩
      obtain ⟨p, q, rfl, rfl, hr⟩ := key
      cases op <;> simp only [] <;> (try exact Gives.none) <;> refine Gives.some_ (fun hc => ⟨_, ?_, .flat _ rfl⟩) <;>
        simp [eqGuard, binOp, hr]

inductive CK where
  | int (k : IntKind)
  | bool
  | str
  deriving DecidableEq
def CK.fit : CK → V → Prop
  | .int k, .flat (.int k' n) => k' = k ∧ (k.min ≤ n ∧ n ≤ k.max)
  | .bool, .flat (.bool _) => True
  | .str, .flat (.string s) => s.size ≤ maxLen
  | _, _ => False
def Fit : List CK → List V → Prop
  | [], [] => True
  | k :: ks, x :: xs => k.fit x ∧ Fit ks xs
  | _, _ => False
def vlit : V → Lit
  | .flat (.int k n) => .int k n
  | .flat (.bool b) => .bool b
  | .flat (.string s) => .string s.data.toList
  | _ => .nil
def layOf (P : Program) : Nat → TypeId → Option (List CK)
  | 0, _ => none
  | d + 1, t => match P.underlying t with
    | some .bool => some [.bool]
    | some (.int k) => some [.int k]
    | some .string => some [.str]
    | some (.array n e) => (layOf P d e).map fun l => (List.replicate n l).flatten
    | some (.struct fs) => (fs.toList.mapM fun f => layOf P d f.type).map List.flatten
    | _ => none
def laidOut (P : Program) : Nat → TypeId → Bool
  | 0, _ => false
  | d + 1, t => match P.underlying t with
    | some .bool | some (.int _) | some .string => P.cellsOf t == 1
    | some (.array n e) => laidOut P d e && P.cellsOf t == n * P.cellsOf e
    | some (.struct fs) => (fs.toList.all fun f => laidOut P d f.type && f.name != "_") &&
        (fs.toList.foldl (fun (o : Option Nat) f => o.bind fun o => if f.offset = o then some (o + P.cellsOf f.type) else none) (some 0)) == some (P.cellsOf t)
    | _ => false

end
end Go.VL

set_option linter.unusedVariables false
set_option linter.unusedSimpArgs false
open Go.RowKit
namespace Go.VL
variable {P : Program} {H : Env} {w : World}

theorem mapM_some {α β : Type} (f : α → Option β) (g : α → β) : ∀ (l : List α), (∀ x ∈ l, f x = some (g x)) → l.mapM f = some (l.map g)
  | [], _ => by simp
  | x :: l, h => by
    rw [List.mapM_cons, h x (by simp), mapM_some f g l (fun y hy => h y (by simp [hy]))]
    rfl

def CK.fitV : CK → Value → Prop
  | .int k, .int k' n => k' = k ∧ (k.min ≤ n ∧ n ≤ k.max)
  | .bool, .bool _ => True
  | .str, .string s => s.size ≤ maxLen
  | _, _ => False
def FitV : List CK → List Value → Prop
  | [], [] => True
  | k :: ks, x :: xs => k.fitV x ∧ FitV ks xs
  | _, _ => False
def lit : Value → Lit
  | .int k n => .int k n
  | .bool b => .bool b
  | .string s => .string s.data.toList
  | _ => .nil
theorem FitV.length : ∀ {L : List CK} {cs : List Value}, FitV L cs → cs.length = L.length
  | [], [], _ => rfl
  | k :: ks, x :: xs, h => by simp [FitV.length h.2]
  | [], _ :: _, h => h.elim
  | _ :: _, [], h => h.elim
theorem FitV.append : ∀ {L M : List CK} {cs : List Value}, FitV (L ++ M) cs → FitV L (cs.take L.length) ∧ FitV M (cs.drop L.length)
  | [], M, cs, h => by simpa [FitV] using h
  | k :: ks, M, x :: xs, h => by
    obtain ⟨h1, h2⟩ := FitV.append h.2
    exact ⟨⟨h.1, h1⟩, h2⟩
  | _ :: _, _, [], h => h.elim

theorem fit_chunk (l : List CK) (s : Nat) (hs : l.length = s) : ∀ (n : Nat) (cs : List Value), FitV (List.replicate n l).flatten cs → cs.length = n * s ∧ ∀ i, i < n → FitV l ((cs.drop (i * s)).take s)
  | 0, cs, h => by
    have := h.length
    simp at this
    exact ⟨by simp [this], fun i hi => by omega⟩
  | n + 1, cs, h => by
    rw [List.replicate_succ, List.flatten_cons] at h
    obtain ⟨h1, h2⟩ := h.append
    obtain ⟨h3, h4⟩ := fit_chunk l s hs n _ h2
    have hlen := h.length
    rw [hs] at h1 h3 h4
    have hl : cs.length = s + (cs.drop s).length := by
      have := FitV.length h1
      rw [List.length_take, hs] at this
      rw [List.length_drop]; omega
    refine ⟨by rw [hl, h3, Nat.succ_mul]; omega, fun i hi => ?_⟩
    cases i with
    | zero => simpa using h1
    | succ i =>
      have := h4 i (by omega)
      rwa [List.drop_drop, show s + i * s = (i + 1) * s from by rw [Nat.succ_mul]; omega] at this

theorem flatten_chunks {α β : Type} (f : α → β) (s : Nat) : ∀ (n : Nat) (cs : List α), cs.length = n * s → ((List.range n).map fun i => ((cs.drop (i * s)).take s).map f).flatten = cs.map f
  | 0, cs, h => by
    have : cs = [] := List.eq_nil_of_length_eq_zero (by omega)
    simp [this]
  | n + 1, cs, h => by
    rw [List.range_succ_eq_map, List.map_cons, List.flatten_cons, List.map_map]
    have ih := flatten_chunks f s n (cs.drop s) (by rw [List.length_drop, h, Nat.succ_mul]; omega)
    have e : (fun i => ((cs.drop (i * s)).take s).map f) ∘ Nat.succ = fun i => (((cs.drop s).drop (i * s)).take s).map f := by
      funext i
      simp only [Function.comp, List.drop_drop]
      rw [show Nat.succ i * s = s + i * s from by rw [Nat.succ_mul]; omega]
    rw [e, ih, Nat.zero_mul, List.drop_zero, ← List.map_append, List.take_append_drop]

def fieldsEnd (P : Program) (o : Option Nat) (fs : List Field) : Option Nat := fs.foldl (fun (o : Option Nat) f => o.bind fun o => if f.offset = o then some (o + P.cellsOf f.type) else none) o
theorem fieldsEnd_none (P : Program) : ∀ fs, fieldsEnd P none fs = none
  | [] => rfl
  | f :: fs => by
    show fieldsEnd P ((none : Option Nat).bind _) fs = none
    exact fieldsEnd_none P fs
theorem fieldsEnd_cons (P : Program) (o : Nat) (f : Field) (fs : List Field) {o' : Nat} (h : fieldsEnd P (some o) (f :: fs) = some o') : f.offset = o ∧ fieldsEnd P (some (o + P.cellsOf f.type)) fs = some o' := by
  have e : fieldsEnd P (some o) (f :: fs) = fieldsEnd P ((some o).bind fun o => if f.offset = o then some (o + P.cellsOf f.type) else none) fs := rfl
  rw [e, Option.bind_some] at h
  split at h
  · rename_i k; exact ⟨k, h⟩
  · rw [fieldsEnd_none] at h; cases h

def LitsAt (P : Program) (d : Nat) (t : TypeId) : Prop := ∀ L, layOf P d t = some L → laidOut P d t = true → L.length = P.cellsOf t ∧ ∀ cs, FitV L cs → P.keyLits d t cs = some (cs.map lit)

theorem fields_lits (P : Program) (d : Nat) (hall : ∀ t, LitsAt P d t) : ∀ (fs : List Field) (o o' : Nat) (ls : List (List CK)), fieldsEnd P (some o) fs = some o' → fs.mapM (fun f => layOf P d f.type) = some ls →
    (∀ f ∈ fs, laidOut P d f.type = true) → o + ls.flatten.length = o' ∧
    ∀ cs : List Value, FitV ls.flatten (cs.drop o) → ∃ qs, fs.mapM (fun f => P.keyLits d f.type ((cs.drop f.offset).take (P.cellsOf f.type))) = some qs ∧ qs.flatten = (cs.drop o).map lit
  | [], o, o', ls, he, hm, _ => by
    simp at hm
    subst hm
    have : o = o' := by simpa [fieldsEnd] using he
    subst this
    refine ⟨by simp, fun cs h => ⟨[], by simp, ?_⟩⟩
    have := h.length
    simp at this
    have : cs.drop o = [] := List.drop_eq_nil_of_le (by omega)
    simp [this]
  | f :: fs, o, o', ls, he, hm, hlo => by
    obtain ⟨e1, e2⟩ := fieldsEnd_cons P o f fs he
    rw [List.mapM_cons] at hm
    simp only [bind, Option.bind_eq_some_iff, pure, Option.some.injEq] at hm
    obtain ⟨l, hl, ls', hls, rfl⟩ := hm
    obtain ⟨h1, h2⟩ := hall f.type l hl (hlo f (by simp))
    obtain ⟨h3, h4⟩ := fields_lits P d hall fs _ o' ls' e2 hls (fun g hg => hlo g (by simp [hg]))
    refine ⟨by rw [List.flatten_cons, List.length_append]; omega, fun cs h => ?_⟩
    rw [List.flatten_cons] at h
    obtain ⟨k1, k2⟩ := h.append
    rw [h1] at k1 k2
    rw [List.drop_drop] at k2
    obtain ⟨qs, hq, hf⟩ := h4 cs k2
    refine ⟨((cs.drop o).take (P.cellsOf f.type)).map lit :: qs, ?_, ?_⟩
    · rw [List.mapM_cons, e1, h2 _ k1]
      simp only [bind, Option.bind_some, hq, pure]
    · rw [List.flatten_cons, hf, ← List.drop_drop, ← List.map_append, List.take_append_drop]

theorem layOf_lits (P : Program) : ∀ (d : Nat) (t : TypeId), LitsAt P d t
  | 0, t => fun L h => by simp [layOf] at h
  | d + 1, t => by
    intro L h hlo
    have ih := layOf_lits P d
    unfold layOf at h
    unfold laidOut at hlo
    unfold Program.keyLits
    cases hu : P.underlying t with
    | none => simp [hu] at h
    | some k =>
      simp only [hu] at h hlo ⊢
      cases k <;> simp only [Option.some.injEq, reduceCtorEq] at h hlo ⊢
      case bool =>
        subst h
        refine ⟨by have := eq_of_beq hlo; rw [this]; rfl, fun cs hc => ?_⟩
        match cs, hc with
        | [.bool b], _ => rfl
      case int k =>
        subst h
        refine ⟨by have := eq_of_beq hlo; rw [this]; rfl, fun cs hc => ?_⟩
        match cs, hc with
        | [.int k' n], hc =>
          obtain ⟨⟨rfl, h1, h2⟩, _⟩ := hc
          simp [Lit.wf, h1, h2, lit]
      case string =>
        subst h
        refine ⟨by have := eq_of_beq hlo; rw [this]; rfl, fun cs hc => ?_⟩
        match cs, hc with
        | [.string s], hc =>
          have h1 : s.size ≤ maxLen := hc.1
          simp [h1, lit]
      case array n e =>
        rw [Option.map_eq_some_iff] at h
        obtain ⟨l, hl, rfl⟩ := h
        simp only [Bool.and_eq_true, beq_iff_eq] at hlo
        obtain ⟨h1, h2⟩ := ih e l hl hlo.1
        have hL : (List.replicate n l).flatten.length = P.cellsOf t := by
          rw [hlo.2, List.length_flatten, List.map_replicate, List.sum_replicate_nat, h1]
        refine ⟨hL, fun cs hc => ?_⟩
        have hlen := hc.length
        rw [hL] at hlen
        obtain ⟨c1, c2⟩ := fit_chunk l (P.cellsOf e) h1 n cs hc
        cases cs <;> simp only [hlen, if_true]
        all_goals
          rw [mapM_some _ (fun i => ((List.drop (i * P.cellsOf e) _).take (P.cellsOf e)).map lit) (List.range n) (fun i hi => h2 _ (c2 i (List.mem_range.1 hi)))]
          rw [Option.map_some, flatten_chunks lit (P.cellsOf e) n _ c1]
      case struct fs =>
        rw [Option.map_eq_some_iff] at h
        obtain ⟨ls, hls, rfl⟩ := h
        simp only [Bool.and_eq_true, beq_iff_eq, List.all_eq_true] at hlo
        obtain ⟨hlo1, hlo2⟩ := hlo
        obtain ⟨h3, h4⟩ := fields_lits P d ih fs.toList 0 (P.cellsOf t) ls hlo2 hls (fun f hf => (hlo1 f hf).1)
        have hL : ls.flatten.length = P.cellsOf t := by omega
        refine ⟨hL, fun cs hc => ?_⟩
        have hlen := hc.length
        rw [hL] at hlen
        obtain ⟨qs, hq, hf⟩ := h4 cs (by simpa using hc)
        have hnm : (fs.all (fun f => f.name != "_")) = true := by
          rw [Array.all_eq_true_iff_forall_mem]
          intro f hf'
          exact (hlo1 f (by simpa using hf')).2
        cases cs <;> simp only [hlen, hnm, and_self, if_true]
        all_goals
          rw [hq, Option.map_some, hf, List.drop_zero]

abbrev LEnv := List (TypeId × List CK)
def LEnv.get (H : LEnv) (t : TypeId) : Option (List CK) :=
  match H with
  | [] => none
  | (u, i) :: r => if u = t then some i else LEnv.get r t
def eqOk (P : Program) (t : TypeId) (l : List CK) : Bool :=
  decide (layOf P 8 t = some l) && laidOut P 8 t && P.keyTypeAt 8 t && !(P.eqGuardType P.depth t) && (match P.underlying t with | some (.struct _) | some (.array _ _) => true | _ => false)
def LEnvOk (P : Program) (H : LEnv) : Prop := (H.all fun p => eqOk P p.1 p.2) = true
theorem LEnvOk.get {L : LEnv} (h : LEnvOk P L) {t : TypeId} {l : List CK} (hg : L.get t = some l) : eqOk P t l = true := by
  unfold LEnvOk at h
  induction L with
  | nil => cases hg
  | cons p r ih =>
    obtain ⟨u, i⟩ := p
    simp only [List.all_cons, Bool.and_eq_true] at h
    simp only [LEnv.get] at hg
    split at hg
    · rename_i e; subst e; cases hg; exact h.1
    · exact ih h.2 hg


noncomputable def eqCells (xs ys : List V) : Bool := @decide (xs.map vlit = ys.map vlit) (Classical.propDecidable _)
theorem eqCells_iff (xs ys : List V) : eqCells xs ys = true ↔ xs.map vlit = ys.map vlit := by unfold eqCells; exact @decide_eq_true_iff _ (Classical.propDecidable _)

noncomputable def binAgg (L : LEnv) (t : TypeId) (op : BinOp) (xs ys : List V) : Option (Prop × V) := match L.get t with
  | some l => match op with
    | .eql => some (Fit l xs ∧ Fit l ys, .flat (.bool (eqCells xs ys)))
    | .neq => some (Fit l xs ∧ Fit l ys, .flat (.bool (!eqCells xs ys)))
    | _ => none
  | none => none

theorem Fit.length : ∀ {L : List CK} {cs : List V}, Fit L cs → cs.length = L.length
  | [], [], _ => rfl
  | k :: ks, x :: xs, h => by simp [Fit.length h.2]
  | [], _ :: _, h => h.elim
  | _ :: _, [], h => h.elim
theorem fitV_of {g : G} : ∀ {l : List CK} {xs : List V} {us : List Value}, Fit l xs → us.length = xs.length → (∀ i, i < xs.length → VR g w (xs.getD i .unk) (us.getD i undef)) → FitV l us ∧ us.map lit = xs.map vlit
  | [], [], [], _, _, _ => ⟨trivial, rfl⟩
  | k :: ks, x :: xs, u :: us, h, hl, hv => by
    obtain ⟨h1, h2⟩ := h
    obtain ⟨i1, i2⟩ := fitV_of (us := us) h2 (by simpa using hl) (fun i hi => by have := hv (i + 1) (by simp; omega); simpa using this)
    have h0 : VR g w x u := by have := hv 0 (by simp); simpa using this
    cases x with
    | flat v =>
      cases h0
      refine ⟨⟨?_, i1⟩, ?_⟩
      · cases k <;> cases u <;> simp_all [CK.fit, CK.fitV]
      · rw [List.map_cons, List.map_cons, i2]
        congr 1
        cases k <;> cases u <;> simp_all [CK.fit, lit, vlit]
    | _ => cases k <;> simp [CK.fit] at h1
  | [], _ :: _, _, h, _, _ => h.elim
  | _ :: _, [], _, h, _, _ => h.elim
  | [], [], _ :: _, _, hl, _ => by simp at hl
  | _ :: _, _ :: _, [], _, hl, _ => by simp at hl

theorem binAgg_gives {g : G} {L : LEnv} (hL : LEnvOk P L) (op : BinOp) (t : TypeId) (ox oy : Operand) {xs ys : List V} {a b : Value} (hx : VR g w (.agg xs) a) (hy : VR g w (.agg ys) b) :
    Gives P g w (do eqGuard op t ox oy a b; binOp op t a b) (binAgg L t op xs ys) := by
  unfold binAgg
  cases hi : L.get t with
  | none => exact Gives.none
  | some l =>
    have hk := hL.get hi
    simp only [eqOk, Bool.and_eq_true, decide_eq_true_eq, Bool.not_eq_true'] at hk
    obtain ⟨⟨⟨⟨k1, k2⟩, k3⟩, k4⟩, k5⟩ := hk
    obtain ⟨hlen, hlits⟩ := layOf_lits P 8 t l k1 k2
    cases hx with
    | agg _ us hxl hxv =>
      cases hy with
      | agg _ vs hyl hyv =>
        have key : Fit l xs ∧ Fit l ys → (Op.equal t (.agg us) (.agg vs)).run P w = .ok (eqCells xs ys) w := by
          rintro ⟨hf1, hf2⟩
          obtain ⟨f1, e1⟩ := fitV_of (us := us.toList) hf1 (by simpa using hxl) (fun i hi => by have := hxv i hi; simpa [List.getD_eq_getElem?_getD, Array.getD_eq_getD_getElem?] using this)
          obtain ⟨f2, e2⟩ := fitV_of (us := vs.toList) hf2 (by simpa using hyl) (fun i hi => by have := hyv i hi; simpa [List.getD_eq_getElem?_getD, Array.getD_eq_getD_getElem?] using this)
          have formed : ∀ (zs : Array Value), FitV l zs.toList → (Value.agg zs).formed P t = true := fun zs hz => by
            have := hz.length
            simp only [Value.formed]
            split at k5 <;> simp_all
          obtain ⟨r, hr, hiff⟩ := run_equalIn_deep 9992 8 t k3 w 8 8 (.agg us) (.agg vs) _ _ (formed us f1) (formed vs f2) (hlits _ f1) (hlits _ f2)
          have : r = eqCells xs ys := by
            simp only [Value.cells] at hiff
            rw [Bool.eq_iff_iff, hiff, e1, e2, eqCells_iff]
          subst this
          exact hr
        have hg : (eqGuard op t ox oy (.agg us) (.agg vs)).run P w = .ok () w := by
          simp [eqGuard, k4]
        cases op <;> simp only [] <;> (try exact Gives.none) <;> refine Gives.some_ (fun hc => ⟨_, ?_, .flat _ rfl⟩) <;>
          simp [Sem.run_bind, hg, binOp, key hc]

end Go.VL

set_option linter.unusedVariables false
set_option linter.unusedSimpArgs false
open Go.RowKit
namespace Go.VL
variable {P : Program} {H : Env} {w : World} {g : G}

def ofConst : Value → V
  | .agg cs => .agg (cs.toList.map ofC1)
  | v => ofC1 v
theorem ofC1_rel (v : Value) (h : ofC1 v ≠ .unk) : VR g w (ofC1 v) v := by
  unfold ofC1 at h ⊢
  split
  · rename_i k
    have : v = .slice none 0 0 := by
      unfold isNilSl at k
      split at k
      · rfl
      · cases k
    subst this
    exact .nil
  · rename_i k
    rw [if_neg k] at h
    split
    · rename_i hf; exact .flat _ hf
    · rename_i hf; rw [if_neg hf] at h; exact absurd rfl h
def constOk : Value → Bool
  | .agg cs => (cs.toList.map ofC1).all V.known
  | _ => true
theorem ofConst_rel (v : Value) (h : ofConst v ≠ .unk) (hk : constOk v = true) : VR g w (ofConst v) v := by
  cases v with
  | agg cs =>
    refine .agg _ _ (by simp) (fun i hi => ?_)
    simp only [List.length_map, Array.length_toList] at hi
    have e1 : ((cs.toList.map ofC1).getD i .unk) = ofC1 (cs.getD i undef) := by
      simp [List.getD_eq_getElem?_getD, Array.getD_eq_getD_getElem?, hi]
    rw [e1]
    refine ofC1_rel _ ?_
    simp only [constOk, List.all_eq_true] at hk
    have := hk (ofC1 (cs.getD i undef)) (by simp only [List.mem_map]; exact ⟨_, by simp [Array.getD_eq_getD_getElem?, hi], rfl⟩)
    intro e; rw [e] at this; cases this
  | _ => (simp only [ofConst] at h ⊢; exact ofC1_rel _ h)

def evO (s : Nat → V) (gl : Nat → Option (List V)) : Operand → V
  | .tmp t => s t
  | .const v => if constOk v then ofConst v else .unk
  | .global n => match gl n with | some cs => .ref cs 0 | none => .unk
  | .func f => .fn f []

def GlOk (g : G) (w : World) (gl : Nat → Option (List V)) : Prop := ∀ n cs, gl n = some cs → VR g w (.ref cs 0) (.pointer (some ⟨n, 0, none⟩))
theorem GlOk.onto {g g' : G} {w w' : World} {gl : Nat → Option (List V)} (h : GlOk g w gl) (ho : Onto g g' w w') : GlOk g' w' gl := fun n cs hn => (h n cs hn).onto ho

theorem evO_rel {s : Nat → V} {gl : Nat → Option (List V)} {tm : Array Value} {d : List Deferred} (hs : ∀ i, s i ≠ .unk → VR g w (s i) (tm.getD i undef)) (hg : GlOk g w gl) (x : Operand) (h : evO s gl x ≠ .unk) :
    VR g w (evO s gl x) (Act.eval { tmps := tm, defers := d } x) := by
  cases x with
  | tmp t => exact hs t h
  | const v =>
    simp only [evO] at h ⊢
    split
    · rename_i k; rw [if_pos k] at h; exact ofConst_rel v h k
    · rename_i k; rw [if_neg k] at h; exact absurd rfl h
  | global n =>
    simp only [evO] at h ⊢
    split
    · rename_i cs k; exact hg n cs k
    · rename_i k; rw [k] at h; exact absurd rfl h
  | func f => exact .fn f [] #[] rfl (fun i hi => by simp at hi)

def unV (op : UnOp) : V → Option (Prop × V)
  | .flat (.bool b) => match op with | .not => some (True, .flat (.bool (!b))) | _ => none
  | .flat (.int k n) => match op with
    | .neg => some (True, .flat (.int k (k.wrap (0 - n))))
    | .xor => some (True, .flat (.int k (k.wrap (BitVec.ofInt k.bits (if k.signed then -1 else k.max) ^^^ BitVec.ofInt k.bits n).toNat)))
    | _ => none
  | _ => none
theorem unV_gives (op : UnOp) {x : V} {a : Value} (hx : VR g w x a) : Gives P g w (Op.unary op a) (unV op x) := by
  cases hx <;> (try simp only [unV]) <;> (try exact Gives.none)
  case flat h =>
    cases a <;> (try simp only [unV]) <;> (try exact Gives.none) <;> cases op <;> (try simp only []) <;> (try exact Gives.none) <;>
      refine Gives.some_ (fun _ => ⟨_, ?_, .flat _ rfl⟩) <;> simp [Op.unary, Op.intArith, Op.intBits]

def numOf : V → Int
  | .flat (.int .u8 n) => n
  | _ => 0
def isByte : V → Bool
  | .flat (.int .u8 _) => true
  | _ => false
def bytesV (cs : List V) : ByteArray := strOfNums (cs.map numOf)
def AllBytes (cs : List V) : Prop := ∀ x ∈ cs, isByte x = true
theorem byte_cells {cs : List V} {us : List Value} (hb : AllBytes cs) (hv : ∀ i, i < cs.length → VR g w (cs.getD i .unk) (us.getD i undef)) (i : Nat) (hi : i < cs.length) : us.getD i undef = .int .u8 ((cs.map numOf).getD i 0) := by
  have h1 := hv i hi
  have h2 := hb (cs.getD i .unk) (by simp [List.getD_eq_getElem?_getD, hi])
  have e : (cs.map numOf).getD i 0 = numOf (cs.getD i .unk) := by simp [List.getD_eq_getElem?_getD, hi]
  rw [e]
  generalize cs.getD i .unk = x at h1 h2 ⊢
  generalize us.getD i undef = u at h1 ⊢
  cases h1 <;> simp [isByte] at h2
  cases u <;> (try simp [isByte] at h2)
  rename_i k n _
  cases k <;> simp [isByte] at h2
  rfl

def cvV (H : Env) (src dst : TypeId) (x : V) : Option (Prop × V) := match H.get src, H.get dst with
  | some i, some j => match x with
    | .flat (.int _ n) => match j.k with
      | .int k => some (True, .flat (.int k (k.wrap n)))
      | _ => none
    | .flat (.string s) => match i.k, j.k with
      | .str, .str => some (True, .flat (.string s))
      | _, _ => none
    | .nil => match i.k, j.k with
      | .sl e, .str => match H.get e with
        | some ie => match ie.k with
          | .int .u8 => some (True, .flat (.string ByteArray.empty))
          | _ => none
        | none => none
      | _, _ => none
    | .sl _ _ n cs => match i.k, j.k with
      | .sl e, .str => match H.get e with
        | some ie => match ie.k with
          | .int .u8 => some (AllBytes cs ∧ cs.length = n, .flat (.string (bytesV cs)))
          | _ => none
        | none => none
      | _, _ => none
    | _ => none
  | _, _ => none

theorem cvV_gives (hH : EnvOk P H) (src dst : TypeId) {x : V} {a : Value} (hx : VR g w x a) : Gives P g w (convert src dst a) (cvV H src dst x) := by
  unfold cvV
  cases hs : H.get src with
  | none => exact Gives.none
  | some i =>
    cases hd : H.get dst with
    | none => exact Gives.none
    | some j =>
      have hTs := hH.tells hs
      have hTd := hH.tells hd
      simp only []
      split <;> try exact Gives.none
      · cases hx
        cases hk : j.k <;> simp only [hk] <;> try exact Gives.none
        have hu := hTd.und_int hk
        obtain ⟨_, d0, _, hu0, _⟩ := hTs.ex
        refine Gives.some_ (fun _ => ⟨_, ?_, .flat _ rfl⟩)
        cases d0 <;> simp [convert, run_underlying' hu, run_underlying' hu0, Conv.intToInt]
      · cases hx
        split <;> try exact Gives.none
        rename_i k1 k2
        have hu := hTd.und_str k2
        have hu0 := hTs.und_str k1
        refine Gives.some_ (fun _ => ⟨_, ?_, .flat _ rfl⟩)
        simp [convert, run_underlying' hu, run_underlying' hu0]
      · cases hx
        split <;> try exact Gives.none
        rename_i e k1 k2
        cases he : H.get e with
        | none => exact Gives.none
        | some ie =>
          simp only []
          split <;> try exact Gives.none
          rename_i k3
          exact Gives.some_ (fun _ => ⟨_, run_convert_bytes_nil w src e (hTs.und_sl k1) ((hH.tells he).und_int k3) 0 0 dst (hTd.und_str k2), .flat _ rfl⟩)
      · rename_i own sz n cs
        split <;> try exact Gives.none
        rename_i e k1 k2
        cases he : H.get e with
        | none => exact Gives.none
        | some ie =>
          simp only []
          split <;> try exact Gives.none
          rename_i k3
          refine Gives.some_ (fun hc => ?_)
          obtain ⟨hb, hl⟩ := hc
          refine ⟨.string (bytesV cs), ?_, .flat _ rfl⟩
          cases hx with
          | sl0 _ _ ad cap =>
            cases ad with
            | none => exact run_convert_bytes_nil w src e (hTs.und_sl k1) ((hH.tells he).und_int k3) 0 cap dst (hTd.und_str k2)
            | some ad =>
              rw [run_convert_bytes_string w src dst e _ 0 cap (hTs.und_sl k1) ((hH.tells he).und_int k3) (hTd.und_str k2)]
              simp [Conv.bytesToString, loadCells, loadCellsFrom]
              rfl
          | sl _ _ _ _ blk off cap us hn hcap hcm hp hu hv =>
            refine run_convert_bytes_arg w src e (hTs.und_sl k1) ((hH.tells he).und_int k3) blk off n cap _ (by simpa using hl) (fun i hi => ?_) dst (hTd.und_str k2)
            rw [hu i (by omega), byte_cells hb hv i (by omega)]

end Go.VL

set_option linter.unusedVariables false
set_option linter.unusedSimpArgs false
open Go.RowKit
namespace Go.VL
variable {P : Program} {H : Env} {w : World} {g : G}

theorem addr_add (b o n : Nat) : (⟨b, o, none⟩ : Addr).add n = ⟨b, o + n, none⟩ := by unfold Addr.add; split <;> simp_all

def extV (x : V) (j : Nat) : Option (Prop × V) := match x with
  | .tup cs => match cs[j]? with
    | some y => some (True, y.fz)
    | none => none
  | _ => none
theorem extV_gives {x : V} {a : Value} (j : Nat) (hx : VR g w x a) : Gives P g w (Instr.extract a j) (extV x j) := by
  unfold extV
  cases hx <;> simp only [] <;> try exact Gives.none
  rename_i cs us hl hv
  cases hj : cs[j]? with
  | none => exact Gives.none
  | some y =>
    have hlt : j < cs.length := (List.getElem?_eq_some_iff.1 hj).1
    have h1 := hv j hlt
    have e1 : cs.getD j .unk = y := by simp [List.getD_eq_getElem?_getD, hj]
    rw [e1] at h1
    refine Gives.some_ (fun _ => ⟨us.getD j undef, ?_, h1.fz⟩)
    have hju : j < us.size := by omega
    simp [Instr.extract, hju, Array.getD_eq_getD_getElem?]

def fieldV (H : Env) (t : TypeId) (x : V) (f : Nat) : Option (Prop × V) := match x with
  | .agg cs => match H.get t with
    | some i => match i.k with
      | .st fs => match fs[f]? with
        | some (off, ft, _) => match H.get ft with
          | some j => if (j.agg || j.sz == 1) = true then some (off + j.sz ≤ cs.length, (mkV j.agg j.sz cs off).fz) else none
          | none => none
        | none => none
      | _ => none
    | none => none
  | _ => none
theorem fieldV_gives (hH : EnvOk P H) (t : TypeId) {x : V} {a : Value} (f : Nat) (hx : VR g w x a) : Gives P g w (Instr.field t a f) (fieldV H t x f) := by
  unfold fieldV
  cases hx <;> simp only [] <;> try exact Gives.none
  rename_i cs us hl hv
  cases hi : H.get t with
  | none => exact Gives.none
  | some i =>
    have hT := hH.tells hi
    simp only []
    split <;> try exact Gives.none
    rename_i fs hk
    obtain ⟨fa, hu, hfa⟩ := hT.und_st hk
    cases hf : fs[f]? with
    | none => exact Gives.none
    | some q =>
      obtain ⟨off, ft, nm⟩ := q
      simp only []
      cases hj : H.get ft with
      | none => exact Gives.none
      | some j =>
        simp only []
        split <;> try exact Gives.none
        rename_i hb
        refine Gives.some_ (fun hc => ?_)
        rw [← hfa] at hf
        simp only [List.getElem?_map, Option.map_eq_some_iff, Array.getElem?_toList] at hf
        obtain ⟨fd, hfd, e⟩ := hf
        simp only [Prod.mk.injEq] at e
        obtain ⟨rfl, rfl, _⟩ := e
        obtain ⟨v, hv1, hv2⟩ := part_gives (w := w) (P := P) (hH.tells hj) cs us fd.offset hl hv hc (by
          intro ha; rw [ha] at hb; simpa using hb)
        exact ⟨v, by simp [Instr.field, run_underlying' hu, hfd, asAgg, hv1], hv2.fz⟩

def byteAt (s : ByteArray) (i : Nat) : Int := (s.data.getD i 0).toNat
def indexV (H : Env) (t : TypeId) (x ix : V) : Option (Prop × V) := match ix with
  | .flat (.int _ i) => match x with
    | .agg cs => match H.get t with
      | some ti => match ti.k with
        | .arr n e => match H.get e with
          | some j => if (j.agg || j.sz == 1) = true then some (0 ≤ i ∧ i < n ∧ i.toNat * j.sz + j.sz ≤ cs.length, (mkV j.agg j.sz cs (i.toNat * j.sz)).fz) else none
          | none => none
        | _ => none
      | none => none
    | .flat (.string s) => match H.get t with
      | some ti => match ti.k with
        | .str => some (0 ≤ i ∧ i.toNat < s.size, .flat (.int .u8 (byteAt s i.toNat)))
        | _ => none
      | none => none
    | _ => none
  | _ => none
theorem indexV_gives (hH : EnvOk P H) (t : TypeId) {x ix : V} {a b : Value} (hx : VR g w x a) (hi : VR g w ix b) : Gives P g w (Instr.index t a b) (indexV H t x ix) := by
  unfold indexV
  split <;> try exact Gives.none
  rename_i k i
  cases hi
  split <;> try exact Gives.none
  · rename_i cs
    cases hx
    rename_i us hl hv
    cases ht : H.get t with
    | none => exact Gives.none
    | some ti =>
      have hT := hH.tells ht
      simp only []
      split <;> try exact Gives.none
      rename_i n e hk
      have hu := hT.und_arr hk
      cases hj : H.get e with
      | none => exact Gives.none
      | some j =>
        simp only []
        split <;> try exact Gives.none
        rename_i hb
        refine Gives.some_ (fun hc => ?_)
        obtain ⟨c1, c2, c3⟩ := hc
        obtain ⟨v, hv1, hv2⟩ := part_gives (w := w) (P := P) (hH.tells hj) cs us _ hl hv c3 (by
          intro ha; rw [ha] at hb; simpa using hb)
        exact ⟨v, by simp [Instr.index, asIntOf, run_underlying' hu, c1, c2, (hH.tells hj).size, hv1], hv2.fz⟩
  · rename_i s
    cases hx
    cases ht : H.get t with
    | none => exact Gives.none
    | some ti =>
      have hT := hH.tells ht
      simp only []
      split <;> try exact Gives.none
      rename_i hk
      have hu := hT.und_str hk
      refine Gives.some_ (fun hc => ⟨_, ?_, .flat _ rfl⟩)
      obtain ⟨c1, c2⟩ := hc
      have c2' : i.toNat < s.data.size := c2
      simp [Instr.index, asIntOf, run_underlying' hu, c1, c2, byteAt, Array.getD_eq_getD_getElem?, c2']
      rfl

def faV (H : Env) (t : TypeId) (x : V) (f : Nat) : Option (Prop × V) := match H.get t with
  | some i => match i.k with
    | .st fs => match fs[f]? with
      | some (fo, ft, _) => match H.get ft with
        | some j => if j.sz = 0 then none else match x with
          | .bp b off => some (True, .bp b (off + fo))
          | .ref cs off => some (True, .ref cs (off + fo))
          | _ => none
        | none => none
      | none => none
    | _ => none
  | none => none
theorem faV_gives (hH : EnvOk P H) (t : TypeId) {x : V} {a : Value} (f : Nat) (hx : VR g w x a) : Gives P g w (Instr.fieldAt t a f) (faV H t x f) := by
  unfold faV
  cases hi : H.get t with
  | none => exact Gives.none
  | some i =>
    have hT := hH.tells hi
    simp only []
    split <;> try exact Gives.none
    rename_i fs hk
    obtain ⟨fa, hu, hfa⟩ := hT.und_st hk
    cases hf : fs[f]? with
    | none => exact Gives.none
    | some q =>
      obtain ⟨fo, ft, nm⟩ := q
      simp only []
      cases hj : H.get ft with
      | none => exact Gives.none
      | some j =>
        simp only []
        split <;> try exact Gives.none
        rename_i hz
        rw [← hfa] at hf
        simp only [List.getElem?_map, Option.map_eq_some_iff, Array.getElem?_toList] at hf
        obtain ⟨fd, hfd, e⟩ := hf
        simp only [Prod.mk.injEq] at e
        obtain ⟨rfl, rfl, _⟩ := e
        have hs := (hH.tells hj).size (w := w)
        cases hx <;> simp only [] <;> try exact Gives.none
        · rename_i cs off blk o us hp hu' hv
          refine Gives.some_ (fun _ => ⟨.pointer (some ⟨blk, o + (off + fd.offset), none⟩), ?_, .ref cs _ blk o us hp hu' hv⟩)
          simp [Instr.fieldAt, run_underlying' hu, hfd, Instr.sureAddr, fieldPlace, hs, hz, addr_add, Nat.add_assoc]
        · rename_i b off hb
          refine Gives.some_ (fun _ => ⟨.pointer (some ⟨g.φ b, off + fd.offset, none⟩), ?_, .bp b _ hb⟩)
          simp [Instr.fieldAt, run_underlying' hu, hfd, Instr.sureAddr, fieldPlace, hs, hz, addr_add]

def iaV (H : Env) (t : TypeId) (x ix : V) : Option (Prop × V) := match ix with
  | .flat (.int _ i) => match H.get t with
    | some ti => match ti.k with
      | .arr n e => match H.get e with
        | some j => match x with
          | .bp b off => some (0 ≤ i ∧ i < n, .bp b (off + i.toNat * j.sz))
          | .ref cs off => some (0 ≤ i ∧ i < n, .ref cs (off + i.toNat * j.sz))
          | _ => none
        | none => none
      | .sl e => match H.get e with
        | some j => match x with
          | .sl _ _ n cs => some (0 ≤ i ∧ i < n ∧ 0 < cs.length, .ref cs (i.toNat * j.sz))
          | .bs b off n _ => some (0 ≤ i ∧ i < n, .bp b (off + i.toNat * j.sz))
          | _ => none
        | none => none
      | _ => none
    | none => none
  | _ => none
theorem iaV_gives (hH : EnvOk P H) (t : TypeId) {x ix : V} {a b : Value} (hx : VR g w x a) (hi : VR g w ix b) : Gives P g w (Instr.indexAt t a b) (iaV H t x ix) := by
  unfold iaV
  split <;> try exact Gives.none
  rename_i k i
  cases hi
  cases ht : H.get t with
  | none => exact Gives.none
  | some ti =>
    have hT := hH.tells ht
    simp only []
    split <;> try exact Gives.none
    · rename_i n e hk
      have hu := hT.und_arr hk
      cases hj : H.get e with
      | none => exact Gives.none
      | some j =>
        have hs := (hH.tells hj).size (w := w)
        simp only []
        cases hx <;> simp only [] <;> try exact Gives.none
        · rename_i cs off blk o us hp hu' hv
          refine Gives.some_ (fun hc => ⟨.pointer (some ⟨blk, o + (off + i.toNat * j.sz), none⟩), ?_, .ref cs _ blk o us hp hu' hv⟩)
          simp [Instr.indexAt, asIntOf, run_underlying' hu, Instr.sureAddr, hs, hc.1, hc.2, addr_add, Nat.add_assoc]
        · rename_i b off hb
          refine Gives.some_ (fun hc => ⟨.pointer (some ⟨g.φ b, off + i.toNat * j.sz, none⟩), ?_, .bp b _ hb⟩)
          simp [Instr.indexAt, asIntOf, run_underlying' hu, Instr.sureAddr, hs, hc.1, hc.2, addr_add]
    · rename_i e hk
      have hu := hT.und_sl hk
      cases hj : H.get e with
      | none => exact Gives.none
      | some j =>
        have hs := (hH.tells hj).size (w := w)
        simp only []
        cases hx <;> simp only [] <;> try exact Gives.none
        · refine Gives.some_ (fun hc => absurd hc.2.2 (by simp))
        · rename_i own sz n cs blk off cap us hn hcap hcm hp hu' hv
          refine Gives.some_ (fun hc => ⟨.pointer (some ⟨blk, off + i.toNat * j.sz, none⟩), ?_, .ref cs _ blk off us hp hu' hv⟩)
          simp [Instr.indexAt, asIntOf, run_underlying' hu, hs, hc.1, hc.2.1, addr_add]
        · rename_i b off n cap cap2 hb hcap hfl
          refine Gives.some_ (fun hc => ⟨.pointer (some ⟨g.φ b, off + i.toNat * j.sz, none⟩), ?_, .bp b _ hb⟩)
          simp [Instr.indexAt, asIntOf, run_underlying' hu, hs, hc.1, hc.2, addr_add]

end Go.VL

set_option linter.unusedVariables false
set_option linter.unusedSimpArgs false
open Go.RowKit
namespace Go.VL
variable {P : Program} {H : Env} {w : World} {g : G}

def bnd : Option V → Option (Option Int)
  | none => some none
  | some (.flat (.int _ n)) => some (some n)
  | _ => none
theorem bnd_rel {x : Option V} {a : Option Value} (hx : ∀ v, x = some v → ∃ u, a = some u ∧ VR g w v u) (hn : x = none → a = none) {b : Option Int} (h : bnd x = some b) :
    (b = none ∧ a = none) ∨ ∃ k n, b = some n ∧ a = some (.int k n) := by
  unfold bnd at h
  split at h <;> cases h
  · exact .inl ⟨rfl, hn rfl⟩
  · rename_i k n
    obtain ⟨u, h1, h2⟩ := hx _ rfl
    cases h2
    exact .inr ⟨k, n, rfl, h1⟩

theorem run_bound {k : IntKind} {n : Int} {y : Nat} (c : BoundsCode) (h0 : 0 ≤ n) (h1 : n ≤ y) : (Instr.sliceBound (.int k n) y c).run P w = .ok n.toNat w := by
  simp [Instr.sliceBound, asIntOf, h0, h1]
theorem run_bounds {isl : Bool} {len cap : Nat} {lo hi : Option Value} {l h : Option Int} (hl : (l = none ∧ lo = none) ∨ ∃ k n, l = some n ∧ lo = some (.int k n)) (hh : (h = none ∧ hi = none) ∨ ∃ k n, h = some n ∧ hi = some (.int k n))
    (c0 : 0 ≤ l.getD 0) (c1 : l.getD 0 ≤ h.getD len) (c2 : h.getD len ≤ cap) : (Instr.sliceBounds isl len cap lo hi none).run P w = .ok ((l.getD 0).toNat, (h.getD len).toNat, cap) w := by
  have e : ∀ n : Int, 0 ≤ n → ((n.toNat : Nat) : Int) = n := fun n h => Int.toNat_of_nonneg h
  rcases hl with ⟨rfl, rfl⟩ | ⟨k, n, rfl, rfl⟩ <;> rcases hh with ⟨rfl, rfl⟩ | ⟨k', m, rfl, rfl⟩ <;> simp only [Option.getD_none, Option.getD_some] at c0 c1 c2 ⊢
  · simp [Instr.sliceBounds]
  · simp [Instr.sliceBounds, run_bound _ (show 0 ≤ m by omega) c2]
  · simp [Instr.sliceBounds, run_bound _ c0 c1]
  · simp [Instr.sliceBounds, run_bound _ (show 0 ≤ m by omega) c2, run_bound _ c0 (show n ≤ ((m.toNat : Nat) : Int) by omega)]

def slV (H : Env) (t : TypeId) (x : V) (lo hi : Option V) : Option (Prop × V) := match bnd lo, bnd hi with
  | some l, some h => match H.get t with
    | some ti => match ti.k with
      | .str => match x with
        | .flat (.string s) => some (0 ≤ l.getD 0 ∧ l.getD 0 ≤ h.getD s.size ∧ h.getD s.size ≤ (s.size : Int), .flat (.string (s.extract (l.getD 0).toNat (h.getD s.size).toNat)))
        | _ => none
      | .sl e => match H.get e with
        | some j => match x with
          | .sl _ sz n cs => if sz = j.sz then some (0 ≤ l.getD 0 ∧ l.getD 0 ≤ h.getD n ∧ h.getD n ≤ (n : Int) ∧ cs.length = n * sz,
              .sl false sz ((h.getD n).toNat - (l.getD 0).toNat) ((cs.take ((h.getD n).toNat * sz)).drop ((l.getD 0).toNat * sz))) else none
          | .nil => some (l.getD 0 = 0 ∧ h.getD 0 = 0, .nil)
          | _ => none
        | none => none
      | .arr n e => match H.get e with
        | some j => match x with
          | .bp b off => some (0 ≤ l.getD 0 ∧ l.getD 0 ≤ h.getD n ∧ h.getD n ≤ (n : Int) ∧ l.getD 0 < n, .bs b (off + (l.getD 0).toNat * j.sz) ((h.getD n).toNat - (l.getD 0).toNat) (n - (l.getD 0).toNat))
          | _ => none
        | none => none
      | _ => none
    | none => none
  | _, _ => none

theorem slV_gives (hH : EnvOk P H) (t : TypeId) {x : V} {a : Value} {lo hi : Option V} {lo' hi' : Option Value} (hx : VR g w x a)
    (hlo : ∀ v, lo = some v → ∃ u, lo' = some u ∧ VR g w v u) (hlo0 : lo = none → lo' = none) (hhi : ∀ v, hi = some v → ∃ u, hi' = some u ∧ VR g w v u) (hhi0 : hi = none → hi' = none) :
    Gives P g w (Instr.sliceAt t a lo' hi' none) (slV H t x lo hi) := by
  unfold slV
  cases hl : bnd lo with
  | none => exact Gives.none
  | some l =>
    cases hh : bnd hi with
    | none => exact Gives.none
    | some h =>
      have rl := bnd_rel hlo hlo0 hl
      have rh := bnd_rel hhi hhi0 hh
      cases ht : H.get t with
      | none => exact Gives.none
      | some ti =>
        have hT := hH.tells ht
        simp only []
        split <;> try exact Gives.none
        · rename_i hk
          have hu := hT.und_str hk
          split <;> try exact Gives.none
          rename_i s
          cases hx
          refine Gives.some_ (fun hc => ⟨_, ?_, .flat _ rfl⟩)
          simp [Instr.sliceAt, run_underlying' hu, Instr.slice, run_bounds (P := P) (w := w) (isl := false) rl rh hc.1 hc.2.1 hc.2.2]
        · rename_i e hk
          have hu := hT.und_sl hk
          cases hj : H.get e with
          | none => exact Gives.none
          | some j =>
            have hs := (hH.tells hj).size (w := w)
            simp only []
            cases hx <;> simp only [] <;> try exact Gives.none
            · refine Gives.some_ (fun hc => ⟨_, ?_, .nil⟩)
              have := run_bounds (P := P) (w := w) (isl := true) (len := 0) (cap := 0) rl rh (by simp [hc.1]) (by simp [hc.1, hc.2]) (by simp [hc.2])
              simp [Instr.sliceAt, run_underlying' hu, Instr.slice, this, hs, hc.1, hc.2]
            · rename_i own sz ad cap
              split <;> try exact Gives.none
              rename_i hz
              subst hz
              refine Gives.some_ (fun hc => ?_)
              have h0 : l.getD 0 = 0 ∧ h.getD 0 = 0 := by have := hc.1; have := hc.2.1; have := hc.2.2.1; constructor <;> simp at * <;> omega
              have := run_bounds (P := P) (w := w) (isl := true) (len := 0) (cap := cap) rl rh (by simp [h0.1]) (by simp [h0.1, h0.2]) (by simp [h0.2])
              refine ⟨.slice (if cap = 0 then ad else ad.map (·.add 0)) 0 (cap - 0), ?_, ?_⟩
              · simp [Instr.sliceAt, run_underlying' hu, Instr.slice, this, hs, h0.1, h0.2]
              · simp only [Int.natCast_zero, h0.1, h0.2, Int.toNat_zero, Nat.sub_self, List.take_nil, List.drop_nil]
                exact .sl0 false _ _ _
            · rename_i own sz n cs blk off cap us hn hcap hcm hp hu' hv
              split <;> try exact Gives.none
              rename_i hz
              subst hz
              refine Gives.some_ (fun hc => ?_)
              obtain ⟨c1, c2, c3, c4⟩ := hc
              have := run_bounds (P := P) (w := w) (isl := true) (len := n) (cap := cap) rl rh c1 c2 (by omega)
              generalize hL : (l.getD 0).toNat = lN at *
              generalize hHi : (h.getD (n : Int)).toNat = hN at *
              have q1 : lN ≤ hN := by omega
              have q2 : hN ≤ n := by omega
              have q3 : hN * j.sz ≤ n * j.sz := Nat.mul_le_mul_right _ q2
              have q4 : lN * j.sz ≤ hN * j.sz := Nat.mul_le_mul_right _ q1
              by_cases hm : cap = lN
              · subst hm
                refine ⟨.slice (some ⟨blk, off, none⟩) (hN - cap) (cap - cap), ?_, ?_⟩
                · simp [Instr.sliceAt, run_underlying' hu, Instr.slice, this, hs]
                · have e1 : hN = cap := by omega
                  have e2 : (cs.take (hN * j.sz)).drop (cap * j.sz) = [] := List.drop_eq_nil_of_le (by rw [List.length_take, e1]; omega)
                  rw [e2, e1, Nat.sub_self]
                  exact .sl0 false _ _ _
              · refine ⟨.slice (some ⟨blk, off + lN * j.sz, none⟩) (hN - lN) (cap - lN), ?_, ?_⟩
                · simp [Instr.sliceAt, run_underlying' hu, Instr.slice, this, hs, hm, addr_add]
                · have hlen : ((cs.take (hN * j.sz)).drop (lN * j.sz)).length = (hN - lN) * j.sz := by
                    rw [List.length_drop, List.length_take, Nat.sub_mul]; omega
                  have hle : (hN - lN) * j.sz = hN * j.sz - lN * j.sz := Nat.sub_mul _ _ _
                  have eg : ∀ i, i < (hN - lN) * j.sz → ((cs.take (hN * j.sz)).drop (lN * j.sz)).getD i .unk = cs.getD (lN * j.sz + i) .unk := fun i hi => by
                    simp only [List.getD_eq_getElem?_getD, List.getElem?_drop, List.getElem?_take]
                    rw [if_pos (by omega)]
                  refine .sl false j.sz _ _ blk (off + lN * j.sz) (cap - lN) (us.drop (lN * j.sz)) hlen (by omega) (by omega) (by omega) (fun i hi => ?_) (fun i hi => ?_)
                  · rw [hlen] at hi
                    rw [Nat.add_assoc, hu' (lN * j.sz + i) (by omega)]
                    simp [List.getD_eq_getElem?_getD]
                  · rw [hlen] at hi
                    rw [eg i hi]
                    have := hv (lN * j.sz + i) (by omega)
                    simpa [List.getD_eq_getElem?_getD] using this
        · rename_i n e hk
          have hu := hT.und_arr hk
          cases hj : H.get e with
          | none => exact Gives.none
          | some j =>
            have hs := (hH.tells hj).size (w := w)
            simp only []
            cases hx <;> simp only [] <;> try exact Gives.none
            rename_i b off hb
            refine Gives.some_ (fun hc => ?_)
            obtain ⟨c1, c2, c3, c4⟩ := hc
            have := run_bounds (P := P) (w := w) (isl := false) (len := n) (cap := n) rl rh c1 c2 c3
            refine ⟨.slice (some ⟨g.φ b, off + (l.getD 0).toNat * j.sz, none⟩) ((h.getD (n : Int)).toNat - (l.getD 0).toNat) (n - (l.getD 0).toNat), ?_, .bs b _ _ _ _ hb (by omega) (fun h => h)⟩
            have hm : ¬ n = (l.getD 0).toNat := by omega
            simp [Instr.sliceAt, run_underlying' hu, Instr.sureAddr, this, hs, hm, addr_add]

theorem loadRow (hH : EnvOk P H) {t : TypeId} {i : TyI} (hi : H.get t = some i) (cs : List V) (off blk o : Nat) (us : List Value) (hu : ∀ i, i < cs.length → w.cell? ⟨blk, o + i, none⟩ = some (us.getD i undef))
    (hv : ∀ i, i < cs.length → VR g w (cs.getD i .unk) (us.getD i undef)) (hc : off + i.sz ≤ cs.length) (h1 : i.agg = false → i.sz = 1) :
    ∃ v, (loadVar t ⟨blk, o + off, none⟩).run P w = .ok v w ∧ VR g w (mkV i.agg i.sz cs off) v := by
  have hT := hH.tells hi
  cases ha : i.agg with
  | false =>
    have h1 := h1 ha
    refine ⟨us.getD off undef, ?_, by simp only [mkV]; exact hv off (by omega)⟩
    have hg := hu off (by omega)
    simp [loadVar, hT.agg, ha, hg]
  | true =>
    refine ⟨.agg ((List.range i.sz).map fun j => us.getD (off + j) undef).toArray, ?_, ?_⟩
    · have := run_loadCells (P := P) w ⟨blk, o + off, none⟩ i.sz (fun j => us.getD (off + j) undef) (fun j hj => by
        rw [addr_add, Nat.add_assoc]; exact hu (off + j) (by omega))
      simp [loadVar, hT.agg, ha, hT.size, this]
    · simp only [mkV]
      refine .agg _ _ (by simp; omega) (fun j hj => ?_)
      simp only [List.length_take, List.length_drop] at hj
      have e1 : ((cs.drop off).take i.sz).getD j .unk = cs.getD (off + j) .unk := by
        simp only [List.getD_eq_getElem?_getD, List.getElem?_take, List.getElem?_drop]
        rw [if_pos (by omega)]
      have e2 : (((List.range i.sz).map fun j => us.getD (off + j) undef).toArray).getD j undef = us.getD (off + j) undef := by
        simp [Array.getD_eq_getD_getElem?, show j < i.sz by omega]
      rw [e1, e2]
      exact hv _ (by omega)

def ldV (H : Env) (mem : Nat → Option (List V)) (t : TypeId) (x : V) : Option (Prop × V) := match H.get t with
  | some j => if (j.agg || j.sz == 1) = true then match x with
    | .ref cs off => some (off + j.sz ≤ cs.length, (mkV j.agg j.sz cs off).fz)
    | .bp b off => match mem b with
      | some cs => some (off + j.sz ≤ cs.length, (mkV j.agg j.sz cs off).fz)
      | none => none
    | _ => none
    else none
  | none => none
def BoxesAt (g : G) (w : World) (mem : Nat → Option (List V)) : Prop := ∀ b cs, mem b = some cs → g.ok b ∧ BoxAt g w (g.φ b) cs
theorem ldV_gives (hH : EnvOk P H) {mem : Nat → Option (List V)} (hm : BoxesAt g w mem) (t : TypeId) {x : V} {a : Value} (hx : VR g w x a) : Gives P g w (Instr.loadAt t a) (ldV H mem t x) := by
  unfold ldV
  cases hj : H.get t with
  | none => exact Gives.none
  | some j =>
    simp only []
    split <;> try exact Gives.none
    rename_i hb
    have h1 : j.agg = false → j.sz = 1 := by intro ha; rw [ha] at hb; simpa using hb
    cases hx <;> simp only [] <;> try exact Gives.none
    · rename_i cs off blk o us hp hu' hv
      refine Gives.some_ (fun hc => ?_)
      obtain ⟨v, hv1, hv2⟩ := loadRow hH hj cs off blk o us hu' hv hc h1
      exact ⟨v, by simp [Instr.loadAt, Instr.sureAddr, hv1], hv2.fz⟩
    · rename_i b off hb'
      cases hmb : mem b with
      | none => exact Gives.none
      | some cs =>
        refine Gives.some_ (fun hc => ?_)
        obtain ⟨_, c, e, fr, hh, hsz, hth, hvv⟩ := hm b cs hmb
        obtain ⟨v, hv1, hv2⟩ := loadRow (w := w) (g := g) hH hj cs off (g.φ b) 0 c.toList (fun i hi => by
          simp only [World.cell?, hh]
          simp [List.getD_eq_getElem?_getD, show i < c.size by omega]) (fun i hi => by have := hvv i hi; simpa [List.getD_eq_getElem?_getD, Array.getD_eq_getD_getElem?] using this) hc h1
        exact ⟨v, by simpa [Instr.loadAt, Instr.sureAddr] using hv1, hv2.fz⟩

def lenV (H : Env) (t : TypeId) (x : V) : Option (Prop × V) := match H.get t with
  | some i => match i.k with
    | .str => match x with
      | .flat (.string s) => some (True, .flat (.int .i64 s.size))
      | _ => none
    | .sl _ => match x with
      | .sl _ _ n _ => some (True, .flat (.int .i64 n))
      | .nil => some (True, .flat (.int .i64 0))
      | .bs _ _ n _ => some (True, .flat (.int .i64 n))
      | _ => none
    | .arr n _ => some (True, .flat (.int .i64 n))
    | _ => none
  | none => none
theorem lenV_gives (hH : EnvOk P H) (t ty : TypeId) (ts : Array TypeId) (e : ts[0]? = some t) {x : V} {a : Value} (hx : VR g w x a) : Gives P g w (Builtin.len_ ts ty #[a]) (lenV H t x) := by
  unfold lenV
  cases hi : H.get t with
  | none => exact Gives.none
  | some i =>
    have hT := hH.tells hi
    simp only []
    split <;> try exact Gives.none
    · rename_i hk
      have hu := hT.und_str hk
      split <;> try exact Gives.none
      cases hx
      exact Gives.some_ (fun _ => ⟨.int .i64 _, by simp [Builtin.len_, e, run_underlying' hu, goInt], .flat _ rfl⟩)
    · rename_i e' hk
      have hu := hT.und_sl hk
      cases hx <;> simp only [] <;> try exact Gives.none
      all_goals exact Gives.some_ (fun _ => ⟨.int .i64 _, by simp [Builtin.len_, e, run_underlying' hu, goInt], .flat _ rfl⟩)
    · rename_i n e' hk
      have hu := hT.und_arr hk
      exact Gives.some_ (fun _ => ⟨.int .i64 _, by simp [Builtin.len_, e, run_underlying' hu, goInt], .flat _ rfl⟩)

def mxV (x y : V) : Option (Prop × V) := match x, y with
  | .flat (.int k a), .flat (.int _ b) => some (True, .flat (.int k (if b > a then b else a)))
  | _, _ => none
def mnV (x y : V) : Option (Prop × V) := match x, y with
  | .flat (.int k a), .flat (.int _ b) => some (True, .flat (.int k (if b < a then b else a)))
  | _, _ => none
theorem mxV_gives (ts : Array TypeId) (ty : TypeId) {x y : V} {a b : Value} (hx : VR g w x a) (hy : VR g w y b) : Gives P g w (Builtin.max_ ts ty #[a, b]) (mxV x y) := by
  unfold mxV
  split <;> try exact Gives.none
  cases hx; cases hy
  exact Gives.some_ (fun _ => ⟨_, by simp [Builtin.max_, Builtin.max2], .flat _ rfl⟩)
theorem mnV_gives (ts : Array TypeId) (ty : TypeId) {x y : V} {a b : Value} (hx : VR g w x a) (hy : VR g w y b) : Gives P g w (Builtin.min_ ts ty #[a, b]) (mnV x y) := by
  unfold mnV
  split <;> try exact Gives.none
  cases hx; cases hy
  exact Gives.some_ (fun _ => ⟨_, by simp [Builtin.min_, Builtin.min2], .flat _ rfl⟩)

end Go.VL

set_option linter.unusedVariables false
set_option linter.unusedSimpArgs false
open Go.RowKit
namespace Go.VL
variable {P : Program} {H : Env} {L : LEnv} {w : World} {g : G}

def VRL (g : G) (w : World) (cs : List V) (us : Array Value) : Prop := us.size = cs.length ∧ ∀ i, i < cs.length → VR g w (cs.getD i .unk) (us.getD i undef)

theorem VRL.one {x : V} {v : Value} (h : VR g w x v) : VRL g w [x] #[v] := ⟨rfl, fun i hi => by
  have : i = 0 := by simp at hi; omega
  subst this; simpa using h⟩
theorem VR.cells {x : V} {v : Value} (h : VR g w x v) : VRL g w x.cells v.cells := by
  cases h with
  | agg cs us hl hv => exact ⟨hl, hv⟩
  | flat v hf => cases v <;> simp [flatOk] at hf <;> exact VRL.one (.flat _ rfl)
  | nil => exact VRL.one .nil
  | sl0 own sz a cap => exact VRL.one (.sl0 own sz a cap)
  | sl own sz n cs blk off cap us hn hc hcm hp hu hv => exact VRL.one (.sl own sz n cs blk off cap us hn hc hcm hp hu hv)
  | tup cs us hl hv => exact VRL.one (.tup cs us hl hv)
  | ref cs off blk o us hp hu hv => exact VRL.one (.ref cs off blk o us hp hu hv)
  | bp b off hb => exact VRL.one (.bp b off hb)
  | bs b off n cap cap2 hb hc hf => exact VRL.one (.bs b off n cap cap2 hb hc hf)
  | fn f cs us hl hv => exact VRL.one (.fn f cs us hl hv)

def putV (cs : List V) (off : Nat) (xs : List V) : List V := cs.take off ++ (xs ++ cs.drop (off + xs.length))

theorem getD_putV (cs xs : List V) (off i : Nat) (h : off + xs.length ≤ cs.length) : (putV cs off xs).getD i .unk = if off ≤ i ∧ i < off + xs.length then xs.getD (i - off) .unk else cs.getD i .unk := by
  simp only [putV, List.getD_eq_getElem?_getD]
  by_cases h1 : i < off
  · rw [if_neg (by omega), List.getElem?_append_left (by rw [List.length_take]; omega), List.getElem?_take, if_pos h1]
  · rw [List.getElem?_append_right (by rw [List.length_take]; omega), List.length_take, Nat.min_eq_left (by omega)]
    by_cases h2 : i < off + xs.length
    · rw [if_pos (by omega), List.getElem?_append_left (by omega)]
    · rw [if_neg (by omega), List.getElem?_append_right (by omega), List.getElem?_drop]
      rw [show off + xs.length + (i - off - xs.length) = i by omega]
theorem length_putV (cs xs : List V) (off : Nat) (h : off + xs.length ≤ cs.length) : (putV cs off xs).length = cs.length := by
  simp only [putV, List.length_append, List.length_take, List.length_drop]; omega

theorem foldl_set (vs : List Value) (off : Nat) : ∀ (k : Nat) (cs : Array Value), off + k + vs.length ≤ cs.size →
    ((vs.zipIdx k).foldl (fun cs (c, j) => cs.setIfInBounds (off + j) c) cs).size = cs.size ∧
    ∀ i, ((vs.zipIdx k).foldl (fun cs (c, j) => cs.setIfInBounds (off + j) c) cs).getD i undef = if off + k ≤ i ∧ i < off + k + vs.length then vs.getD (i - (off + k)) undef else cs.getD i undef := by
  induction vs with
  | nil => intro k cs h; simp only [List.zipIdx_nil, List.foldl_nil, List.length_nil, true_and]; intro i; rw [if_neg (by omega)]
  | cons v vs ih =>
    intro k cs h
    rw [List.length_cons] at h
    simp only [List.zipIdx_cons, List.foldl_cons]
    obtain ⟨h1, h2⟩ := ih (k + 1) (cs.setIfInBounds (off + k) v) (by rw [Array.size_setIfInBounds]; omega)
    refine ⟨by rw [h1, Array.size_setIfInBounds], fun i => ?_⟩
    rw [h2 i, List.length_cons]
    by_cases e : i = off + k
    · subst e
      rw [if_neg (by omega), if_pos (by omega), getD_set (by omega), if_pos rfl, Nat.sub_self]; rfl
    · rw [getD_set (by omega), if_neg e]
      by_cases h3 : off + (k + 1) ≤ i ∧ i < off + (k + 1) + vs.length
      · rw [if_pos h3, if_pos (by omega)]
        rw [show i - (off + k) = (i - (off + (k + 1))) + 1 by omega, List.getD_cons_succ]
      · rw [if_neg h3, if_neg (by omega)]

def fillV (place : Nat → Option (Nat × Nat)) (cs : List V) : List (Nat × V) → Option (Prop × List V)
  | [] => some (True, cs)
  | (i, x) :: rest => match place i with
    | none => none
    | some (off, size) => match fillV place (putV cs off x.cells) rest with
      | none => none
      | some (c, r) => some (x.cells.length = size ∧ off + size ≤ cs.length ∧ c, r)
theorem fillV_rel (place : Nat → Option (Nat × Nat)) : ∀ (ps : List (Nat × V)) (qs : List (Nat × Value)) (cs : List V) (us : Array Value) (c : Prop) (r : List V), VRL g w cs us →
    ps.length = qs.length → (∀ (j i : Nat) (x : V), ps[j]? = some (i, x) → ∃ u, qs[j]? = some (i, u) ∧ VR g w x u) → fillV place cs ps = some (c, r) → c → ∃ rs, Instr.fill place us qs = some rs ∧ VRL g w r rs
  | [], [], cs, us, c, r, hc, _, _, he, _ => by
    simp only [fillV, Option.some.injEq, Prod.mk.injEq] at he
    obtain ⟨_, rfl⟩ := he
    exact ⟨us, rfl, hc⟩
  | [], _ :: _, _, _, _, _, _, hl, _, _, _ => by simp at hl
  | _ :: _, [], _, _, _, _, _, hl, _, _, _ => by simp at hl
  | (i, x) :: ps, q :: qs, cs, us, c, r, hc, hl, hv, he, hk => by
    obtain ⟨u, hq, hx⟩ := hv 0 i x rfl
    simp only [List.getElem?_cons_zero, Option.some.injEq] at hq
    subst hq
    simp only [fillV] at he
    cases hp : place i with
    | none => simp [hp] at he
    | some p =>
      obtain ⟨off, size⟩ := p
      simp only [hp] at he
      cases hf : fillV place (putV cs off x.cells) ps with
      | none => simp [hf] at he
      | some cr =>
        obtain ⟨c', r'⟩ := cr
        simp only [hf, Option.some.injEq, Prod.mk.injEq] at he
        obtain ⟨rfl, rfl⟩ := he
        obtain ⟨k1, k2, k3⟩ := hk
        obtain ⟨s1, s2⟩ := hx.cells
        obtain ⟨f1, f2⟩ := foldl_set u.cells.toList off 0 us (by simp; rw [hc.1]; omega)
        have hcs : VRL g w (putV cs off x.cells) ((u.cells.toList.zipIdx).foldl (fun cs (c, j) => cs.setIfInBounds (off + j) c) us) := by
          refine ⟨by rw [f1, length_putV _ _ _ (by omega)]; exact hc.1, fun j hj => ?_⟩
          rw [length_putV _ _ _ (by omega)] at hj
          rw [getD_putV _ _ _ _ (by omega), f2 j]
          simp only [Nat.add_zero, Array.length_toList, s1]
          by_cases hin : off ≤ j ∧ j < off + x.cells.length
          · rw [if_pos hin, if_pos hin]
            have := s2 (j - off) (by omega)
            simpa [List.getD_eq_getElem?_getD, Array.getD_eq_getD_getElem?] using this
          · rw [if_neg hin, if_neg hin]
            exact hc.2 j hj
        obtain ⟨rs, g1, g2⟩ := fillV_rel place ps qs _ _ c' r' hcs (by simpa using hl) (fun j i x h => hv (j + 1) i x (by simpa using h)) hf k3
        refine ⟨rs, ?_, g2⟩
        have n1 : ¬ (u.cells.size ≠ size ∨ off + u.cells.size > us.size) := by rw [s1, hc.1]; omega
        simp only [Instr.fill, hp]
        rw [if_neg (by simpa using n1), ← Array.foldl_toList, Array.toList_zipIdx]
        exact g1

def buildV (H : Env) (t : TypeId) (parts : List (Nat × V)) : Option (Prop × V) := match H.get t with
  | some i => if i.zok = true then match i.k with
    | .st fs => if (fs.all fun q => (H.get q.2.1).isSome) = true then match fillV (fun j => match fs[j]? with
        | some (off, ft, _) => match H.get ft with | some k => some (off, k.sz) | none => none
        | none => none) i.zero (parts.map fun p => (p.1, p.2.fz)) with
      | some (c, r) => some (c ∧ ∀ p ∈ parts, p.2 ≠ .unk, .agg r)
      | none => none
      else none
    | .arr n e => match H.get e with
      | some k => match fillV (fun j => some (j * k.sz, k.sz)) i.zero (parts.map fun p => (p.1, p.2.fz)) with
        | some (c, r) => some (c ∧ ∀ p ∈ parts, p.2 ≠ .unk, .agg r)
        | none => none
      | none => none
    | _ => none
    else none
  | none => none

theorem zero_rel {i : TyI} {ti : TypeInfo} {z : Value} (hz : ti.zero = some z) (hok : (match ti.zero with | some z => (z.cells.toList.map ofC1).all V.known && z.cells.size == ti.size | none => false) = true)
    (h : (match ti.zero with | some z => z.cells.toList.map ofC1 | none => []) = i.zero) : VRL g w i.zero z.cells ∧ z.cells.size = ti.size := by
  rw [hz] at hok h
  simp only [Bool.and_eq_true, beq_iff_eq, List.all_eq_true] at hok
  simp only [] at h
  refine ⟨⟨by rw [← h]; simp, fun j hj => ?_⟩, hok.2⟩
  rw [← h] at hj ⊢
  simp only [List.length_map, Array.length_toList] at hj
  have e1 : ((z.cells.toList.map ofC1).getD j .unk) = ofC1 (z.cells.getD j undef) := by
    simp [List.getD_eq_getElem?_getD, Array.getD_eq_getD_getElem?, hj]
  rw [e1]
  refine ofC1_rel _ ?_
  have := hok.1 (ofC1 (z.cells.getD j undef)) (by simp only [List.mem_map]; exact ⟨_, by simp [Array.getD_eq_getD_getElem?, hj], rfl⟩)
  intro e; rw [e] at this; cases this
theorem Tells.zeroVal {t : TypeId} {i : TyI} (h : Tells P t i) (hz : i.zok = true) : ∃ z, (zeroValue t).run P w = .ok z w ∧ VRL g w i.zero z.cells ∧ z.cells.size = i.sz ∧ ∃ ti, P.info? t = some ti ∧ ti.zero = some z := by
  obtain ⟨ti, h1, h2, h3, h4, h5⟩ := h.isz
  cases hzz : ti.zero with
  | none => rw [hzz] at h4; rw [← h4] at hz; cases hz
  | some z =>
    have := zero_rel (w := w) (g := g) (i := i) hzz (h4.trans hz) h5
    exact ⟨z, by simp [zeroValue, run_typeInfo' h1, hzz], this.1, by rw [this.2, h2], ti, h1, hzz⟩

theorem buildV_gives (hH : EnvOk P H) (t : TypeId) (ps : List (Nat × V)) (qs : Array (Nat × Value)) (hl : ps.length = qs.size)
    (hv : ∀ (j i : Nat) (x : V), ps[j]? = some (i, x) → x ≠ .unk → ∃ u, qs[j]? = some (i, u) ∧ VR g w x u) : Gives P g w (Instr.build t qs) (buildV H t ps) := by
  unfold buildV
  cases hi : H.get t with
  | none => exact Gives.none
  | some i =>
    have hT := hH.tells hi
    simp only []
    split <;> try exact Gives.none
    rename_i hz
    obtain ⟨z, hz1, hz2, hz3, _⟩ := hT.zeroVal (w := w) (g := g) hz
    have hv' : ∀ (hk : ∀ p ∈ ps, p.2 ≠ V.unk) (j i : Nat) (x : V), (ps.map fun p => (p.1, p.2.fz))[j]? = some (i, x) → ∃ u, qs.toList[j]? = some (i, u) ∧ VR g w x u := by
      intro hk j i x hj
      simp only [List.getElem?_map, Option.map_eq_some_iff] at hj
      obtain ⟨⟨i', y⟩, hp, e⟩ := hj
      simp only [Prod.mk.injEq] at e
      obtain ⟨rfl, rfl⟩ := e
      obtain ⟨u, hu1, hu2⟩ := hv j _ y hp (hk _ (List.mem_of_getElem? hp))
      exact ⟨u, by simpa using hu1, hu2.fz⟩
    split <;> try exact Gives.none
    · rename_i fs hk
      obtain ⟨fa, hu, hfa⟩ := hT.und_st hk
      split <;> try exact Gives.none
      rename_i hall
      split <;> try exact Gives.none
      rename_i c r hf
      refine Gives.some_ (fun hc => ?_)
      obtain ⟨hc1, hc2⟩ := hc
      -- the places of the fields, as the model has them
      have hplaces : ∀ (fl : List Field), (∀ f ∈ fl, (P.info? f.type).isSome) → (fl.mapM (fun f => do pure (f.offset, ← sizeOf f.type) : Field → Sem (Nat × Nat))).run P w = .ok (fl.map fun f => (f.offset, P.cellsOf f.type)) w := by
        intro fl
        induction fl with
        | nil => intro _; simp
        | cons f fl ih =>
          intro hh
          have h1 := hh f (by simp)
          rw [Option.isSome_iff_exists] at h1
          obtain ⟨fi, hfi⟩ := h1
          have e : P.cellsOf f.type = fi.size := by simp [Program.cellsOf, hfi]
          have es : (sizeOf f.type).run P w = .ok (P.cellsOf f.type) w := by simp [sizeOf, run_typeInfo' hfi, e]
          rw [List.mapM_cons]
          simp only [Sem.run_bind, es, Result.andThen_ok, Sem.run_pure]
          rw [ih (fun f hf => hh f (by simp [hf]))]
          rfl
      have hsome : ∀ f ∈ fa.toList, ∃ k, H.get f.type = some k := by
        intro f hf'
        rw [← hfa] at hall
        simp only [List.all_map, List.all_eq_true, Function.comp, Option.isSome_iff_exists] at hall
        exact hall f hf'
      have hp := hplaces fa.toList (fun f hf' => by
        obtain ⟨k, hk'⟩ := hsome f hf'
        obtain ⟨ti, h1, _⟩ := (hH.tells hk').isz
        rw [h1]; rfl)
      have hpl : ∀ j : Nat, (fun j : Nat => match fs[j]? with | some (off, ft, _) => (match H.get ft with | some k => some (off, k.sz) | none => none) | none => none) j = (fa.toList.map fun f => (f.offset, P.cellsOf f.type)).toArray[j]? := by
        intro j
        simp only [List.getElem?_toArray, List.getElem?_map, ← hfa]
        cases hj : fa.toList[j]? with
        | none => simp
        | some f =>
          obtain ⟨k, hk'⟩ := hsome f (List.mem_of_getElem? hj)
          obtain ⟨ti, h1, h2, _⟩ := (hH.tells hk').isz
          simp [hk', Program.cellsOf, h1, h2]
      obtain ⟨rs, r1, r2⟩ := fillV_rel _ _ qs.toList i.zero z.cells c r hz2 (by simpa using hl) (hv' hc2) hf hc1
      refine ⟨.agg rs, ?_, .agg _ _ r2.1 r2.2⟩
      have e1 : (fa.mapM (fun f => do pure (f.offset, ← sizeOf f.type) : Field → Sem (Nat × Nat))).run P w = .ok (fa.toList.map fun f => (f.offset, P.cellsOf f.type)).toArray w := by
        rw [Array.mapM_eq_mapM_toList]
        simp only [Sem.run_map]
        rw [hp]
        rfl
      rw [funext hpl] at r1
      simp only [Instr.build, Sem.run_bind, hz1, Result.andThen_ok, run_underlying' hu, e1, r1, Sem.run_pure]
    · rename_i n e hk
      have hu := hT.und_arr hk
      split <;> try exact Gives.none
      rename_i k hk'
      split <;> try exact Gives.none
      rename_i c r hf
      refine Gives.some_ (fun hc => ?_)
      obtain ⟨hc1, hc2⟩ := hc
      obtain ⟨rs, r1, r2⟩ := fillV_rel _ _ qs.toList i.zero z.cells c r hz2 (by simpa using hl) (hv' hc2) hf hc1
      refine ⟨.agg rs, ?_, .agg _ _ r2.1 r2.2⟩
      simp only [Instr.build, Sem.run_bind, hz1, Result.andThen_ok, run_underlying' hu, (hH.tells hk').size, r1, Sem.run_pure]

end Go.VL

set_option linter.unusedVariables false
set_option linter.unusedSimpArgs false
open Go.RowKit
namespace Go.VL
variable {P : Program} {H : Env} {L : LEnv} {w : World} {g : G}

noncomputable def binV (H : Env) (L : LEnv) (t : TypeId) (op : BinOp) (x y : V) : Option (Prop × V) := match x with
  | .flat a => match a with
    | .int k a => match y with
      | .flat (.int k' b) => binInt op k a k' b
      | _ => none
    | .string a => match y with
      | .flat (.string b) => binStr op a b
      | _ => none
    | .bool a => match y with
      | .flat (.bool b) => binBool H t op a b
      | _ => none
    | .pointer p => binPtr H t op (.flat (.pointer p)) y
    | _ => none
  | .agg xs => match y with
    | .agg ys => binAgg L t op xs ys
    | _ => none
  | .bp b o => binPtr H t op (.bp b o) y
  | _ => none
theorem binV_gives (hH : EnvOk P H) (hL : LEnvOk P L) (t : TypeId) (op : BinOp) (ox oy : Operand) {x y : V} {a b : Value} (hx : VR g w x a) (hy : VR g w y b) :
    Gives P g w (do eqGuard op t ox oy a b; binOp op t a b) (binV H L t op x y) := by
  unfold binV
  split <;> try exact Gives.none
  · rename_i v
    split <;> try exact Gives.none
    · split <;> try exact Gives.none
      cases hx; cases hy
      exact binInt_gives _ _ _ _ _ _ _ _
    · split <;> try exact Gives.none
      cases hx; cases hy
      exact binStr_gives _ _ _ _ _ _
    · split <;> try exact Gives.none
      cases hx; cases hy
      exact binBool_gives hH _ _ _ _ _ _
    · exact binPtr_gives hH op t ox oy hx hy
  · split <;> try exact Gives.none
    exact binAgg_gives hL op t ox oy hx hy
  · exact binPtr_gives hH op t ox oy hx hy

def chkV (x : V) : Option (Prop × V) := match x with
  | .bp b o => some (True, .bp b o)
  | .ref cs o => some (True, .ref cs o)
  | _ => none

def bltV (H : Env) (b : Builtin) (ts : List TypeId) (xs : List V) : Option (Prop × V) := match b with
  | .len => match xs, ts with
    | [x], t :: _ => if x.known = true then lenV H t x else none
    | _, _ => none
  | .max => match xs with
    | [x, y] => mxV x y
    | _ => none
  | .min => match xs with
    | [x, y] => mnV x y
    | _ => none
  | _ => none

def apV (H : Env) (t : TypeId) (x : V) : Option (Prop × V) := match H.get t with
  | some i => match i.k with
    | .arr m _ => match x with
      | .sl _ _ n cs => some (m ≤ n ∧ 0 < cs.length, .ref cs 0)
      | .bs b off n _ => some (m ≤ n, .bp b off)
      | _ => none
    | _ => none
  | none => none
theorem apV_gives (hH : EnvOk P H) (t : TypeId) {x : V} {a : Value} (hx : VR g w x a) : Gives P g w (Instr.arrayAt t a) (apV H t x) := by
  unfold apV
  cases hi : H.get t with
  | none => exact Gives.none
  | some i =>
    have hT := hH.tells hi
    simp only []
    cases hk : i.k <;> simp only [] <;> try exact Gives.none
    rename_i m e
    have hu := hT.und_arr hk
    cases hx <;> simp only [] <;> try exact Gives.none
    · refine Gives.some_ (fun hc => ?_)
      have := hc.2; simp at this
    · rename_i own sz n cs blk off cap us hn hcap hcm hp hu' hv
      refine Gives.some_ (fun hc => ⟨.pointer (some ⟨blk, off + 0, none⟩), ?_, .ref cs 0 blk off us hp hu' hv⟩)
      simp [Instr.arrayAt, run_underlying' hu, Nat.not_lt.2 hc.1]
    · rename_i b off n cap cap2 hb hcap hfl
      refine Gives.some_ (fun hc => ⟨.pointer (some ⟨g.φ b, off, none⟩), ?_, .bp b off hb⟩)
      simp [Instr.arrayAt, run_underlying' hu, Nat.not_lt.2 hc]

def cvM (H : Env) (mem : Nat → Option (List V)) (src dst : TypeId) (x : V) : Option (Prop × V) := match x with
  | .bs b off n _ => match mem b with
    | some cs => match H.get src, H.get dst with
      | some i, some j => match i.k, j.k with
        | .sl e, .str => match H.get e with
          | some ie => match ie.k with
            | .int .u8 => some (off + n ≤ cs.length ∧ AllBytes ((cs.drop off).take n), .flat (.string (bytesV ((cs.drop off).take n))))
            | _ => none
          | none => none
        | _, _ => none
      | _, _ => none
    | none => none
  | y => cvV H src dst y
theorem cvM_gives (hH : EnvOk P H) {mem : Nat → Option (List V)} (hm : BoxesAt g w mem) (src dst : TypeId) {x : V} {a : Value} (hx : VR g w x a) : Gives P g w (convert src dst a) (cvM H mem src dst x) := by
  unfold cvM
  split
  · rename_i b off n cap
    split <;> try exact Gives.none
    rename_i cs hmb
    split <;> try exact Gives.none
    rename_i i j hs hd
    have hTs := hH.tells hs
    have hTd := hH.tells hd
    split <;> try exact Gives.none
    rename_i e k1 k2
    split <;> try exact Gives.none
    rename_i ie he
    split <;> try exact Gives.none
    rename_i k3
    refine Gives.some_ (fun hc => ?_)
    obtain ⟨h1, h2⟩ := hc
    refine ⟨.string (bytesV ((cs.drop off).take n)), ?_, .flat _ rfl⟩
    cases hx
    obtain ⟨_, c, ee, fr, hh, hsz, hth, hvv⟩ := hm b cs hmb
    have hl : ((cs.drop off).take n).length = n := by simp; omega
    refine run_convert_bytes_arg w src e (hTs.und_sl k1) ((hH.tells he).und_int k3) (g.φ b) off n _ _ (by simpa using hl) (fun i hi => ?_) dst (hTd.und_str k2)
    have hv : ∀ k, k < ((cs.drop off).take n).length → VR g w (((cs.drop off).take n).getD k .unk) (((c.toList.drop off).take n).getD k undef) := fun k hk => by
      rw [hl] at hk
      have := hvv (off + k) (by omega)
      simpa [List.getD_eq_getElem?_getD, Array.getD_eq_getD_getElem?, List.getElem?_take, List.getElem?_drop, hk] using this
    have := byte_cells h2 hv i (by omega)
    rw [← this]
    simp only [World.cell?, hh]
    simp [List.getD_eq_getElem?_getD, List.getElem?_take, List.getElem?_drop, hi, show off + i < c.size by omega]
  · exact cvV_gives hH src dst hx

def mkFn (fn : Fn) (fi cs : List V) : Option (Prop × V) := match fn with
  | .func f => match fi with
    | [] => some (∀ c ∈ cs, c ≠ .unk, .fn f (cs.map V.fz))
    | _ => none
  | _ => none
noncomputable def ev1 (H : Env) (L : LEnv) (mem : Nat → Option (List V)) (ρ : Operand → V) (op : Op) : Option (Prop × V) := match op with
  | .move x => some (ρ x ≠ .unk, (ρ x).fzT)
  | .assign x => some (ρ x ≠ .unk, (ρ x).fzT)
  | .pick c a b => match ρ c with
    | .flat (.bool t) => some ((if t = true then ρ a ≠ .unk else ρ b ≠ .unk), (bif t then (ρ a).fzT else (ρ b).fzT))
    | _ => none
  | .binOp op t x y _ => binV H L t op (ρ x) (ρ y)
  | .unOp op _ x => unV op (ρ x)
  | .convert s d x => cvM H mem s d (ρ x)
  | .sliceToArrayPointer t x => apV H t (ρ x)
  | .extract x i => extV (ρ x) i
  | .nilCheck x => chkV (ρ x)
  | .field t x f => fieldV H t (ρ x) f
  | .index t x i => indexV H t (ρ x) (ρ i)
  | .slice t x lo hi none => slV H t (ρ x) (lo.map ρ) (hi.map ρ)
  | .fieldAddr t x f => faV H t (ρ x) f
  | .indexAddr t x i => iaV H t (ρ x) (ρ i)
  | .load t x => ldV H mem t (ρ x)
  | .build t ps => buildV H t (ps.toList.map fun p => (p.1, ρ p.2))
  | .makeFunc fn fi cs => mkFn fn (fi.toList.map ρ) (cs.toList.map ρ)
  | .call c => match c.callee with
    | .builtin b => bltV H b c.argTypes.toList (c.args.toList.map ρ)
    | _ => none
  | _ => none

theorem VR.fzT {x : V} {v : Value} (h : VR g w x v) : VR g w x.fzT v := by
  cases x with
  | tup cs =>
    cases h with
    | tup _ us hl hv =>
      refine .tup _ us (by simpa using hl) (fun i hi => ?_)
      simp only [List.length_map] at hi
      have e : (cs.map V.fz).getD i .unk = (cs.getD i .unk).fz := by simp [List.getD_eq_getElem?_getD, hi]
      rw [e]
      exact (hv i hi).fz
  | _ => exact h.fz

theorem ev1_sound (hH : EnvOk P H) (hL : LEnvOk P L) {mem : Nat → Option (List V)} (hm : BoxesAt g w mem) {ρ : Operand → V} {σ : Operand → Value} (hρ : ∀ x, ρ x ≠ .unk → VR g w (ρ x) (σ x)) (o : Oper) {c : Prop} {x : V}
    (h : ev1 H L mem ρ o.op = some (c, x)) (hc : c) : ∃ v, (execOp σ o).run P w = .ok (.value v) w ∧ VR g w x v := by
  have wrap : ∀ {m : Sem Value} {r : Option (Prop × V)}, Gives P g w m r → r = some (c, x) → ∃ v, (do pure (.value (← m)) : Sem Next).run P w = .ok (.value v) w ∧ VR g w x v := by
    intro m r hg hr
    obtain ⟨v, h1, h2⟩ := hg c x hr hc
    exact ⟨v, by simp [h1], h2⟩
  -- an operand that is used is known
  have hk : ∀ {α : Type} {f : V → Option (Prop × V)} (y : Operand), f (ρ y) = some (c, x) → f .unk = none → VR g w (ρ y) (σ y) := by
    intro _ f y h1 h2
    refine hρ y (fun e => ?_)
    rw [e, h2] at h1; cases h1
  obtain ⟨dst, op, ty, pos, after, guard⟩ := o
  cases op <;> simp only [ev1] at h <;> try cases h
  case move y => exact ⟨σ y, rfl, (hρ y hc).fzT⟩
  case assign y => exact ⟨σ y, rfl, (hρ y hc).fzT⟩
  case pick q a b =>
    cases hq : ρ q with
    | flat u =>
      rw [hq] at h
      cases u <;> simp only [reduceCtorEq, Option.some.injEq, Prod.mk.injEq] at h
      rename_i t
      obtain ⟨rfl, rfl⟩ := h
      have h1 := hρ q (by rw [hq]; simp)
      rw [hq] at h1
      generalize hs : σ q = s at h1
      cases h1
      cases t
      · simp only [Bool.false_eq_true, if_false] at hc
        exact ⟨σ b, by simp [execOp, hs, asBool], by simpa using (hρ b hc).fzT⟩
      · simp only [if_true] at hc
        exact ⟨σ a, by simp [execOp, hs, asBool], by simpa using (hρ a hc).fzT⟩
    | _ => rw [hq] at h; cases h
  case binOp op t y z yt =>
    have h1 := hk (α := V) (f := fun q => binV H L t op q (ρ z)) y h (by simp [binV])
    have h2 := hk (α := V) (f := fun q => binV H L t op (ρ y) q) z h (by
      unfold binV; split <;> try rfl
      · split <;> try rfl
        unfold binPtr nilEq; split <;> try rfl
        split <;> try rfl
        split <;> simp_all
      · unfold binPtr nilEq; split <;> try rfl
        split <;> try rfl)
    exact wrap (binV_gives hH hL t op y z h1 h2) h
  case unOp op t y => exact wrap (unV_gives op (hk (α := V) (f := unV op) y h rfl)) h
  case convert s d y =>
    refine wrap (cvM_gives hH hm s d (hk (α := V) (f := cvM H mem s d) y h ?_)) h
    show cvV H s d .unk = none
    unfold cvV; split <;> rfl
  case sliceToArrayPointer t y =>
    refine wrap (apV_gives hH t (hk (α := V) (f := apV H t) y h ?_)) h
    unfold apV; split <;> try rfl
    split <;> rfl
  case extract y i => exact wrap (extV_gives i (hk (α := V) (f := fun q => extV q i) y h rfl)) h
  case nilCheck y =>
    have h1 := hk (α := V) (f := chkV) y h rfl
    generalize hs : σ y = s at h1
    generalize ρ y = X at h1 h
    cases h1 with
    | ref cs off blk o us hp hu hv =>
      simp only [chkV, Option.some.injEq, Prod.mk.injEq] at h
      obtain ⟨_, rfl⟩ := h
      exact ⟨_, by simp [execOp, hs], .ref cs off blk o us hp hu hv⟩
    | bp b off hb =>
      simp only [chkV, Option.some.injEq, Prod.mk.injEq] at h
      obtain ⟨_, rfl⟩ := h
      exact ⟨_, by simp [execOp, hs], .bp b off hb⟩
    | _ => simp [chkV] at h
  case field t y f => exact wrap (fieldV_gives hH t f (hk (α := V) (f := fun q => fieldV H t q f) y h rfl)) h
  case index t y i =>
    have h2 := hk (α := V) (f := fun q => indexV H t (ρ y) q) i h rfl
    have h1 := hk (α := V) (f := fun q => indexV H t q (ρ i)) y h (by unfold indexV; split <;> rfl)
    exact wrap (indexV_gives hH t h1 h2) h
  case slice t y lo hi mx =>
    cases mx with
    | some m => cases h
    | none =>
      have h1 := hk (α := V) (f := fun q => slV H t q (lo.map ρ) (hi.map ρ)) y h (by
        unfold slV; split <;> try rfl
        split <;> try rfl
        split <;> try rfl
        · split <;> rfl
        · split <;> rfl)
      have bn : ∀ (q : Option Operand) (r : Option Int), bnd (q.map ρ) = some r → ∀ v, q.map ρ = some v → ∃ u, q.map σ = some u ∧ VR g w v u := by
        intro q r hb v hv
        cases q with
        | none => cases hv
        | some q =>
          simp only [Option.map_some, Option.some.injEq] at hv hb ⊢
          refine ⟨σ q, rfl, ?_⟩
          rw [← hv]
          refine hρ q (fun e => ?_)
          rw [e] at hb; simp [bnd] at hb
      have nn : ∀ q : Option Operand, q.map ρ = none → q.map σ = none := fun q e => by cases q <;> simp_all
      cases hl : bnd (lo.map ρ) with
      | none => simp only [slV, hl] at h; cases h
      | some l =>
        cases hh : bnd (hi.map ρ) with
        | none => simp only [slV, hl, hh] at h; cases h
        | some hi' => exact wrap (slV_gives hH t h1 (bn lo l hl) (nn lo) (bn hi hi' hh) (nn hi)) h
  case fieldAddr t y f =>
    exact wrap (faV_gives hH t f (hk (α := V) (f := fun q => faV H t q f) y h (by
      unfold faV; split <;> try rfl
      split <;> try rfl
      split <;> try rfl
      split <;> try rfl
      split <;> rfl))) h
  case indexAddr t y i =>
    have h2 := hk (α := V) (f := fun q => iaV H t (ρ y) q) i h rfl
    have h1 := hk (α := V) (f := fun q => iaV H t q (ρ i)) y h (by
      unfold iaV; split <;> try rfl
      split <;> try rfl
      split <;> try rfl
      · split <;> rfl
      · split <;> rfl)
    exact wrap (iaV_gives hH t h1 h2) h
  case load t y =>
    exact wrap (ldV_gives hH hm t (hk (α := V) (f := fun q => ldV H mem t q) y h (by unfold ldV; (repeat' split) <;> first | rfl | simp_all))) h
  case build t ps =>
    refine wrap (buildV_gives hH t _ (ps.map fun (i, x) => (i, σ x)) (by simp) (fun j i x hj hx => ?_)) h
    simp only [List.getElem?_map, Option.map_eq_some_iff, Array.getElem?_toList] at hj
    obtain ⟨⟨i', y⟩, hp, e⟩ := hj
    simp only [Prod.mk.injEq] at e
    obtain ⟨rfl, rfl⟩ := e
    exact ⟨σ y, by simp [hp], hρ y hx⟩
  case makeFunc fn fi cs =>
    unfold mkFn at h
    split at h <;> try cases h
    rename_i f
    split at h <;> try cases h
    rename_i hfi
    have hfi' : fi = #[] := by
      apply Array.ext'
      simpa using hfi
    subst hfi'
    refine ⟨.func (.func f) #[] (cs.map σ), by simp [execOp, Instr.makeFunc], .fn f _ _ (by simp) (fun i hi => ?_)⟩
    simp only [List.length_map, Array.length_toList] at hi
    have e1 : ((cs.toList.map ρ).map V.fz).getD i .unk = (ρ cs[i]).fz := by simp [List.getD_eq_getElem?_getD, Array.getElem?_eq_getElem hi]
    have e2 : (cs.map σ).getD i undef = σ cs[i] := by simp [Array.getD_eq_getD_getElem?, Array.getElem?_eq_getElem hi]
    rw [e1, e2]
    exact (hρ _ (hc _ (List.mem_map.2 ⟨cs[i], by simp, rfl⟩))).fz
  case call cl =>
    obtain ⟨callee, args, ats⟩ := cl
    cases callee <;> simp only [] at h <;> try cases h
    rename_i b
    have hrun : (execOp σ { dst := dst, op := .call { callee := .builtin b, args := args, argTypes := ats }, type := ty, pos := pos, after := after, guard := guard }).run P w = (builtin b ats ty (args.map fun | .const _ => true | _ => false) (args.map σ)).run P w := rfl
    unfold bltV at h
    split at h <;> try cases h
    · split at h <;> try cases h
      rename_i x' t' ts' e1 e2
      split at h <;> try cases h
      rename_i hne
      obtain ⟨y, hy, hyx⟩ := List.map_eq_singleton_iff.1 e1
      have hy' : args = #[y] := by apply Array.ext'; rw [hy]
      subst hy'
      have hr := hρ y (by rw [hyx]; intro k; rw [k] at hne; exact absurd hne (by simp [V.known]))
      rw [hyx] at hr
      have hats : ats[0]? = some t' := by rw [← Array.getElem?_toList, e2]; rfl
      obtain ⟨v, v1, v2⟩ := lenV_gives (P := P) hH t' ty ats hats hr c x h hc
      exact ⟨v, by rw [hrun]; simp [builtin, v1], v2⟩
    · split at h <;> try cases h
      rename_i x' y' e1
      obtain ⟨p, r, hp, hpx, hr⟩ := List.map_eq_cons_iff.1 e1
      obtain ⟨q, hq, hqx⟩ := List.map_eq_singleton_iff.1 hr
      have hy' : args = #[p, q] := by apply Array.ext'; rw [hp, hq]
      subst hy'
      have r1 := hρ p (by rw [hpx]; intro k; rw [k] at h; simp [mxV] at h)
      have r2 := hρ q (by rw [hqx]; intro k; rw [k] at h; unfold mxV at h; split at h <;> simp_all)
      rw [hpx] at r1
      rw [hqx] at r2
      obtain ⟨v, v1, v2⟩ := mxV_gives (P := P) ats ty r1 r2 c x h hc
      exact ⟨v, by rw [hrun]; simp [builtin, v1], v2⟩
    · split at h <;> try cases h
      rename_i x' y' e1
      obtain ⟨p, r, hp, hpx, hr⟩ := List.map_eq_cons_iff.1 e1
      obtain ⟨q, hq, hqx⟩ := List.map_eq_singleton_iff.1 hr
      have hy' : args = #[p, q] := by apply Array.ext'; rw [hp, hq]
      subst hy'
      have r1 := hρ p (by rw [hpx]; intro k; rw [k] at h; simp [mnV] at h)
      have r2 := hρ q (by rw [hqx]; intro k; rw [k] at h; unfold mnV at h; split at h <;> simp_all)
      rw [hpx] at r1
      rw [hqx] at r2
      obtain ⟨v, v1, v2⟩ := mnV_gives (P := P) ats ty r1 r2 c x h hc
      exact ⟨v, by rw [hrun]; simp [builtin, v1], v2⟩

end Go.VL

set_option linter.unusedVariables false
set_option linter.unusedSimpArgs false
open Go.RowKit
namespace Go.VL
variable {P : Program} {H : Env} {L : LEnv}
variable {E : Entry} {g : G} {ob : Pos → Option Nat} {s : Nat → V} {mem : Nat → Option (List V)} {tm : Array Value} {w : World}

theorem comp_unk (j : Nat) (x : V) (h : comp .unk j = some x) : x = .unk := by cases j <;> simp [comp] at h; exact h.symm
theorem noOwn_unk : V.noOwn .unk := fun j sz n cs h => by have := comp_unk j _ h; cases this
theorem noOwn_fzT (x : V) : V.noOwn x.fzT := by
  intro j sz n cs h
  cases x with
  | tup vs =>
    simp only [V.fzT, comp, List.getElem?_map, Option.map_eq_some_iff] at h
    obtain ⟨y, _, hy⟩ := h
    cases y <;> simp [V.fz] at hy
  | _ => cases j <;> simp [V.fzT, V.fz, comp] at h

theorem OwnAt.none_any {sz n : Nat} {v : Value} (h : OwnAt g w none sz n v) (ob : Option Nat) : OwnAt g w ob sz n v := by
  cases v <;> simp only [OwnAt] at h ⊢
  refine ⟨h.1, h.2.imp id ?_⟩
  rintro ⟨blk, c, e, fr, hq, _⟩
  cases hq

theorem St.give (h : St E g ob s mem tm w) {d : Nat} {sz n : Nat} {cs : List V} {v : Value} {obv : Option Nat} (hd : d < tm.size) (hx : VR g w (.sl true sz n cs) v) (ho : OwnAt g w obv sz n v)
    (hfree : ∀ blk, obv = some blk → (∀ q, ob q ≠ some blk) ∧ (∀ b, mem b ≠ none → g.φ b ≠ blk) ∧ blk < w.heap.size ∧ (E.w0.heap.size ≤ blk ∨ E.wr blk)) :
    ∃ ob', (∀ p, p ≠ .slot d 0 → ob' p = ob p) ∧ St E g ob' (upd s d (.sl true sz n cs)) mem (tm.setIfInBounds d v) w := by
  cases obv with
  | none => exact ⟨ob, fun _ _ => rfl, h.putOwn hd hx (ho.none_any _)⟩
  | some blk =>
    obtain ⟨f1, f2, f3, f4⟩ := hfree blk rfl
    have h1 := h.demote d (x := .unk) (fun k => absurd rfl k) noOwn_unk (fun _ => rfl)
    have h2 := h1.obTake (.slot d 0) blk f1 f2 f3 f4 (fun i j e sz n cs hc => by
      simp only [Pos.slot.injEq] at e
      rw [← e.1, upd_same] at hc
      have := comp_unk _ _ hc; cases this) (fun b o e => by cases e)
    have h3 := h2.putOwn hd hx (by rw [updP_same]; exact ho)
    refine ⟨updP ob (.slot d 0) (some blk), fun p hp => updP_ne _ _ hp, ?_⟩
    have e : upd (upd s d .unk) d (.sl true sz n cs) = upd s d (.sl true sz n cs) := by funext i; simp only [upd]; split <;> rfl
    rw [e] at h3
    exact h3

theorem St.release (h : St E g ob s mem tm w) {i : Nat} {sz n : Nat} {cs : List V} (hi : s i = .sl true sz n cs) :
    ∃ (v : Value) (ob' : Pos → Option Nat) (obv : Option Nat), tm.getD i undef = v ∧ VR g w (.sl true sz n cs) v ∧ OwnAt g w obv sz n v ∧ St E g ob' (upd s i (.sl false sz n cs)) mem tm w ∧ (∀ p, p ≠ .slot i 0 → ob' p = ob p) ∧
    (∀ blk, obv = some blk → (∀ q, ob' q ≠ some blk) ∧ (∀ b, mem b ≠ none → g.φ b ≠ blk) ∧ blk < w.heap.size ∧ (E.w0.heap.size ≤ blk ∨ E.wr blk)) := by
  have hv := h.slot i (by rw [hi]; simp)
  rw [hi] at hv
  have ho := h.ownS i 0 sz n cs (by rw [hi]; rfl)
  have e0 : vcomp (tm.getD i undef) 0 = tm.getD i undef := by
    generalize tm.getD i undef = u at hv
    cases hv <;> rfl
  rw [e0] at ho
  have h1 := h.demote i (x := .sl false sz n cs) (fun _ v hv => by rw [hi] at hv; exact hv.fz) (fun j a b c hc => by cases j <;> simp [comp] at hc) (fun k => by rw [hi] at k; cases k)
  have h2 := h1.obDrop (.slot i 0) (fun k j e sz n cs hc => by
    simp only [Pos.slot.injEq] at e
    rw [← e.1, upd_same, ← e.2] at hc
    simp [comp] at hc) (fun b o e => by cases e)
  refine ⟨_, updP ob (.slot i 0) none, ob (.slot i 0), rfl, hv, ho, h2, fun p hp => updP_ne _ _ hp, fun blk hb => ⟨fun q hq => ?_, fun b hb' => h.obBox _ _ b hb hb', h.obLt _ _ hb, h.obFresh _ _ hb⟩⟩
  by_cases e : q = Pos.slot i 0
  · subst e; rw [updP_same] at hq; cases hq
  · rw [updP_ne _ _ e] at hq; exact e (h.obInj _ _ _ hq hb)

theorem St.takeSlot (h : St E g ob s mem tm w) {i d : Nat} {sz n : Nat} {cs : List V} (hi : s i = .sl true sz n cs) (hd : d < tm.size) :
    ∃ ob', St E g ob' (upd (upd s i (.sl false sz n cs)) d (.sl true sz n cs)) mem (tm.setIfInBounds d (tm.getD i undef)) w := by
  obtain ⟨v, ob', obv, h1, h2, h3, h4, _, h5⟩ := h.release hi
  obtain ⟨ob'', _, h6⟩ := h4.give (d := d) hd h2 h3 h5
  exact ⟨ob'', by rw [h1]; exact h6⟩

theorem St.takeTup (h : St E g ob s mem tm w) {i j d : Nat} {vs : List V} {sz n : Nat} {cs : List V} (hi : s i = .tup vs) (hj : vs[j]? = some (.sl true sz n cs)) (hd : d < tm.size) :
    ∃ ob', St E g ob' (upd (upd s i (.tup (vs.set j (.sl false sz n cs)))) d (.sl true sz n cs)) mem (tm.setIfInBounds d (vcomp (tm.getD i undef) j)) w := by
  have hv := h.slot i (by rw [hi]; simp)
  rw [hi] at hv
  have ho := h.ownS i j sz n cs (by rw [hi]; exact hj)
  generalize hu : tm.getD i undef = u at *
  cases hv with
  | tup _ us hl hvv =>
    have hjl : j < vs.length := (List.getElem?_eq_some_iff.1 hj).1
    have hx : VR g w (.sl true sz n cs) (us.getD j undef) := by
      have := hvv j hjl
      rwa [show vs.getD j .unk = .sl true sz n cs by simp [List.getD_eq_getElem?_getD, hj]] at this
    have h1 : St E g ob (upd s i (.tup (vs.set j (.sl false sz n cs)))) mem tm w :=
      { h with
        slot := fun k hk => by
          by_cases e : k = i
          · subst e
            rw [upd_same, hu]
            refine .tup _ us (by simpa using hl) (fun q hq => ?_)
            rw [List.length_set] at hq
            by_cases e : q = j
            · subst e; simp only [List.getD_eq_getElem?_getD, List.getElem?_set_self hjl]; exact hx.fz
            · have := hvv q hq
              simpa [List.getD_eq_getElem?_getD, List.getElem?_set_ne (Ne.symm e)] using this
          · rw [upd_ne _ _ e] at hk ⊢; exact h.slot k hk
        ownS := fun k q sz' n' cs' hk => by
          by_cases e : k = i
          · subst e
            rw [upd_same] at hk
            simp only [comp] at hk
            by_cases e : q = j
            · subst e; rw [List.getElem?_set_self hjl] at hk; simp at hk
            · rw [List.getElem?_set_ne (Ne.symm e)] at hk
              exact h.ownS k q sz' n' cs' (by rw [hi]; exact hk)
          · rw [upd_ne _ _ e] at hk; exact h.ownS k q sz' n' cs' hk }
    have h2 := h1.obDrop (.slot i j) (fun k q e sz n cs hc => by
      simp only [Pos.slot.injEq] at e
      rw [← e.1, upd_same, ← e.2] at hc
      simp only [comp, List.getElem?_set_self hjl] at hc
      simp at hc) (fun b o e => by cases e)
    obtain ⟨ob'', _, h3⟩ := h2.give (d := d) (obv := ob (.slot i j)) hd hx ho (fun blk hb => ⟨fun q hq => by
      by_cases e : q = Pos.slot i j
      · subst e; rw [updP_same] at hq; cases hq
      · rw [updP_ne _ _ e] at hq; exact e (h.obInj _ _ _ hq hb), fun b hb' => h.obBox _ _ b hb hb', h.obLt _ _ hb, h.obFresh _ _ hb⟩)
    exact ⟨ob'', h3⟩

theorem St.reBox (h : St E g ob s mem tm w) {b : Nat} (cs : List V) (hm : mem b = none) (hb : g.ok b) (hB : BoxAt g w (g.φ b) cs) (hown : ∀ q, ob q ≠ some (g.φ b)) (hbox : ∀ b', mem b' ≠ none → g.φ b' ≠ g.φ b)
    (hfr : E.w0.heap.size ≤ g.φ b ∨ E.wr (g.φ b)) (hp : g.prot (g.φ b) = 0)
    (hno : ∀ (o sz n : Nat) (xs : List V), cs[o]? = some (V.sl true sz n xs) → ∃ u, w.cell? ⟨g.φ b, o, none⟩ = some u ∧ OwnAt g w (ob (.cell b o)) sz n u) : St E g ob s (upd mem b (some cs)) tm w := by
  have hsp : ∀ c, upd mem b (some cs) c ≠ none → c = b ∨ (c ≠ b ∧ mem c ≠ none) := fun c hc => by
    by_cases e : c = b
    · exact .inl e
    · rw [upd_ne _ _ e] at hc; exact .inr ⟨e, hc⟩
  exact { h with
    box := fun c xs hc => by
      by_cases e : c = b
      · subst e; rw [upd_same] at hc; cases hc; exact ⟨hb, hB⟩
      · rw [upd_ne _ _ e] at hc; exact h.box c xs hc
    inj := fun c c' hc hc' he => by
      rcases hsp c hc with e | ⟨e, e2⟩ <;> rcases hsp c' hc' with k | ⟨k, k2⟩
      · rw [e, k]
      · rw [e] at he; exact absurd he.symm (hbox c' k2)
      · rw [k] at he; exact absurd he (hbox c e2)
      · exact h.inj c c' e2 k2 he
    ownC := fun c o l sz n xs hc hl => by
      by_cases e : c = b
      · subst e; rw [upd_same] at hc; cases hc; exact hno o sz n xs hl
      · rw [upd_ne _ _ e] at hc; exact h.ownC c o l sz n xs hc hl
    obBox := fun q bl c hq hc => by
      rcases hsp c hc with e | ⟨e, e2⟩
      · subst e; intro k; exact hown q (k ▸ hq)
      · exact h.obBox q bl c hq e2
    boxProt := fun c hc => by
      rcases hsp c hc with e | ⟨e, e2⟩
      · subst e; exact hp
      · exact h.boxProt c e2
    boxFresh := fun c hc => by
      rcases hsp c hc with e | ⟨e, e2⟩
      · subst e; exact hfr
      · exact h.boxFresh c e2 }

theorem St.takeCell (h : St E g ob s mem tm w) {b o d : Nat} {l : List V} {sz n : Nat} {cs : List V} (hb : mem b = some l) (ho : l[o]? = some (.sl true sz n cs)) (hd : d < tm.size) :
    ∃ u ob', w.cell? ⟨g.φ b, o, none⟩ = some u ∧ St E g ob' (upd s d (.sl true sz n cs)) (upd mem b (some (l.set o (.sl false sz n cs)))) (tm.setIfInBounds d u) w := by
  obtain ⟨u, hu, how⟩ := h.ownC b o l sz n cs hb ho
  have hol : o < l.length := (List.getElem?_eq_some_iff.1 ho).1
  have hbn : mem b ≠ none := by rw [hb]; simp
  obtain ⟨hbm, c, e, fr, c1, c2, c3, c4⟩ := h.box b l hb
  have hx : VR g w (.sl true sz n cs) u := by
    have := c4 o hol
    rw [show l.getD o .unk = .sl true sz n cs by simp [List.getD_eq_getElem?_getD, ho]] at this
    have e1 : c.getD o undef = u := by
      simp only [World.cell?, c1] at hu
      have : c[o]? = some u := by simpa using hu
      simp [Array.getD_eq_getD_getElem?, this]
    rwa [e1] at this
  have h1 := h.forgetMem (mem' := upd mem b none) (fun c hc => by
    by_cases e : c = b
    · subst e; rw [upd_same] at hc; exact absurd rfl hc
    · rw [upd_ne _ _ e])
  have h2 := h1.obDrop (.cell b o) (fun i j e => by cases e) (fun b' o' e l' sz n cs hc => by
    simp only [Pos.cell.injEq] at e
    rw [← e.1, upd_same] at hc; cases hc)
  have h3 := h2.reBox (b := b) (l.set o (.sl false sz n cs)) (upd_same _ _ _) hbm ⟨c, e, fr, c1, by rw [List.length_set]; exact c2, c3, fun i hi => by
      rw [List.length_set] at hi
      by_cases e : i = o
      · subst e
        simp only [List.getD_eq_getElem?_getD, List.getElem?_set_self hol]
        have := c4 i hol
        rw [show l.getD i .unk = .sl true sz n cs by simp [List.getD_eq_getElem?_getD, ho]] at this
        exact this.fz
      · have := c4 i hi
        simpa [List.getD_eq_getElem?_getD, List.getElem?_set_ne (Ne.symm e)] using this⟩
    (fun q hq => by
      by_cases e : q = Pos.cell b o
      · subst e; rw [updP_same] at hq; cases hq
      · rw [updP_ne _ _ e] at hq; exact h.obBox _ _ b hq hbn rfl)
    (fun b' hb' he => by
      by_cases e : b' = b
      · subst e; exact hb' (upd_same _ _ _)
      · rw [upd_ne _ _ e] at hb'; exact e (h.inj _ _ hb' hbn he))
    (h.boxFresh b hbn) (h.boxProt b hbn)
    (fun o' sz' n' xs hl => by
      by_cases e : o' = o
      · subst e; rw [List.getElem?_set_self hol] at hl; simp at hl
      · rw [List.getElem?_set_ne (Ne.symm e)] at hl
        obtain ⟨u', k1, k2⟩ := h.ownC b o' l sz' n' xs hb hl
        exact ⟨u', k1, by rw [updP_ne _ _ (by intro k; simp only [Pos.cell.injEq] at k; exact e k.2)]; exact k2⟩)
  obtain ⟨ob'', _, h4⟩ := h3.give (d := d) (obv := ob (.cell b o)) hd hx how (fun blk hbk => ⟨fun q hq => by
      by_cases e : q = Pos.cell b o
      · subst e; rw [updP_same] at hq; cases hq
      · rw [updP_ne _ _ e] at hq; exact e (h.obInj _ _ _ hq hbk), fun b' hb' => by
        refine h.obBox _ _ b' hbk ?_
        by_cases e : b' = b
        · subst e; exact hbn
        · rw [upd_ne _ _ e, upd_ne _ _ e] at hb'; exact hb', h.obLt _ _ hbk, h.obFresh _ _ hbk⟩)
  have e : upd (upd mem b none) b (some (l.set o (.sl false sz n cs))) = upd mem b (some (l.set o (.sl false sz n cs))) := by funext i; simp only [upd]; split <;> rfl
  rw [e] at h4
  exact ⟨u, ob'', hu, h4⟩

end Go.VL

set_option linter.unusedVariables false
set_option linter.unusedSimpArgs false
open Go.RowKit
namespace Go.VL

structure S where
  sl : List (Nat × V)
  mem : Nat → Option (List V)
  mn : Nat

def lk : List (Nat × V) → Nat → V
  | [], _ => .unk
  | (j, x) :: r, i => if j = i then x else lk r i
theorem lk_cons (d : Nat) (x : V) (l : List (Nat × V)) : lk ((d, x) :: l) = upd (lk l) d x := by
  funext i
  simp only [lk, upd]
  by_cases h : d = i
  · rw [if_pos h, if_pos h.symm]
  · rw [if_neg h, if_neg (Ne.symm h)]

def At (E : Entry) (nt : Nat) (σ : S) (a : Act) (w : World) : Prop := ∃ g ob, St E g ob (lk σ.sl) σ.mem a.tmps w ∧ g.mn = σ.mn ∧ a.defers = [] ∧ a.tmps.size = nt

variable {P : Program} {H : Env} {L : LEnv} {E : Entry} {nt : Nat}

def StepTo (P : Program) (E : Entry) (nt : Nat) (o : Oper) (σ σ' : S) : Prop := ∀ a w, At E nt σ a w →
  (∃ v w', (execOp a.eval o).run P w = .ok (.value v) w' ∧ At E nt σ' (a.put o.dst v) w') ∨ (∃ w', (execOp a.eval o).run P w = .ok .skip w' ∧ At E nt σ' (a.put o.dst undef) w')

theorem put_some (a : Act) (d : Nat) (v : Value) : (a.put (some d) v) = { a with tmps := a.tmps.setIfInBounds d v } := rfl

def S.set (σ : S) (d : Nat) (x : V) : S := { σ with sl := (d, x) :: σ.sl }

theorem At.slots {σ : S} {a : Act} {w : World} (h : At E nt σ a w) : ∃ g, (∀ i, lk σ.sl i ≠ .unk → VR g w (lk σ.sl i) (a.tmps.getD i undef)) ∧ BoxesAt g w σ.mem ∧ Onto E.g0 g E.w0 w := by
  obtain ⟨g, ob, h1, _⟩ := h
  exact ⟨g, h1.slot, h1.box, h1.onto⟩

theorem step_take {o : Oper} {σ : S} {d i sz n : Nat} {cs : List V} (hop : o.op = .assign (.tmp i) ∨ o.op = .move (.tmp i)) (ho : o.dst = some d) (hd : d < nt) (hi : lk σ.sl i = .sl true sz n cs) :
    StepTo P E nt o σ { σ with sl := (d, .sl true sz n cs) :: (i, .sl false sz n cs) :: σ.sl } := by
  rintro a w ⟨g, ob, h1, h2, h3, h4⟩
  obtain ⟨ob', h5⟩ := h1.takeSlot hi (d := d) (by omega)
  refine .inl ⟨a.tmps.getD i undef, w, ?_, ?_⟩
  · obtain ⟨dst, op, ty, pos, after, guard⟩ := o
    rcases hop with rfl | rfl <;> rfl
  · rw [ho, put_some]
    refine ⟨g, ob', ?_, h2, h3, by simpa using h4⟩
    simp only [lk_cons]
    exact h5
theorem step_takeTup {o : Oper} {σ : S} {d i j sz n : Nat} {vs cs : List V} (hop : o.op = .extract (.tmp i) j) (ho : o.dst = some d) (hd : d < nt) (hi : lk σ.sl i = .tup vs) (hj : vs[j]? = some (.sl true sz n cs)) :
    StepTo P E nt o σ { σ with sl := (d, .sl true sz n cs) :: (i, .tup (vs.set j (.sl false sz n cs))) :: σ.sl } := by
  rintro a w ⟨g, ob, h1, h2, h3, h4⟩
  obtain ⟨ob', h5⟩ := h1.takeTup hi hj (d := d) (by omega)
  have hv := h1.slot i (by rw [hi]; simp)
  rw [hi] at hv
  refine .inl ⟨vcomp (a.tmps.getD i undef) j, w, ?_, ?_⟩
  · obtain ⟨dst, op, ty, pos, after, guard⟩ := o
    simp only at hop
    subst hop
    have hlt := (List.getElem?_eq_some_iff.1 hj).1
    generalize hu : a.tmps.getD i undef = u at hv
    cases hv with
    | tup _ us hl _ =>
      have hju : j < us.size := by omega
      have e : a.eval (.tmp i) = .tuple us := hu
      simp [execOp, e, Instr.extract, hju, vcomp, Array.getD_eq_getD_getElem?]
  · rw [ho, put_some]
    refine ⟨g, ob', ?_, h2, h3, by simpa using h4⟩
    simp only [lk_cons]
    exact h5
theorem step_takeCell (hH : EnvOk P H) {o : Oper} {σ : S} {d b off sz n : Nat} {t : TypeId} {j : TyI} {x : Operand} {gl : Nat → Option (List V)} (hG : GlOk E.g0 E.w0 gl) {l cs : List V} (hop : o.op = .load t x) (hj : H.get t = some j) (hja : j.agg = false)
    (ho : o.dst = some d) (hd : d < nt) (hx : evO (lk σ.sl) gl x = .bp b off) (hm : σ.mem b = some l) (hl : l[off]? = some (.sl true sz n cs)) :
    StepTo P E nt o σ { σ with sl := (d, .sl true sz n cs) :: σ.sl, mem := upd σ.mem b (some (l.set off (.sl false sz n cs))) } := by
  rintro a w ⟨g, ob, h1, h2, h3, h4⟩
  obtain ⟨u, ob', hu, h5⟩ := h1.takeCell hm hl (d := d) (by omega)
  have hv := evO_rel (d := a.defers) h1.slot (hG.onto h1.onto) x (by rw [hx]; simp)
  rw [hx] at hv
  refine .inl ⟨u, w, ?_, ?_⟩
  · obtain ⟨dst, op, ty, pos, after, guard⟩ := o
    simp only at hop
    subst hop
    have e : a.eval x = .pointer (some ⟨g.φ b, off, none⟩) := by
      show Act.eval { tmps := a.tmps, defers := a.defers } x = _
      generalize Act.eval { tmps := a.tmps, defers := a.defers } x = y at hv
      cases hv; rfl
    simp [execOp, e, Instr.loadAt, Instr.sureAddr, loadVar, (hH.tells hj).agg, hja, hu]
  · rw [ho, put_some]
    refine ⟨g, ob', ?_, h2, h3, by simpa using h4⟩
    simp only [lk_cons]
    exact h5

theorem thawed0 (c : Array Value) (fr : Nat × Nat) (h : c.size ≤ fr.1 ∨ fr.2 = 0) : Thawed c fr := by
  intro o ho
  simp only [Bool.and_eq_false_iff, decide_eq_false_iff_not]
  rcases h with h | h
  · left; omega
  · right; omega

theorem heap_alloc_new (w : World) (o : Obj) : (w.alloc o).heap[w.heap.size]? = some o := by
  show (w.heap.push o)[w.heap.size]? = some o
  simp

theorem St.newBox {g : G} {ob : Pos → Option Nat} {s : Nat → V} {mem : Nat → Option (List V)} {tm : Array Value} {w : World} (h : St E g ob s mem tm w) {d : Nat} (hd : d < tm.size) (cs : List V) (c : Array Value) (e : TypeId) (hc : VRL g w cs c)
    (hno : ∀ (o sz n : Nat) (xs : List V), cs[o]? ≠ some (V.sl true sz n xs)) :
    ∃ g', g'.mn = g.mn + 1 ∧ St E g' ob (upd s d (.bp g.mn 0)) (upd mem g.mn (some cs)) (tm.setIfInBounds d (.pointer (some ⟨w.heap.size, 0, none⟩))) (w.alloc (.cells c e)) := by
  have h1 := h.alloc (.cells c e) 0
  have ho : Onto g (g.protAt w.heap.size 0) w (w.alloc (.cells c e)) := ⟨fun blk of u _ hu => cell?_alloc hu, fun blk => by
    simp only [G.protAt]
    by_cases e : blk = w.heap.size
    · subst e; rw [upd_same, h.prot0 _ (Nat.le_refl _)]; omega
    · rw [upd_ne _ _ e]; exact Nat.le_refl _, fun _ _ => rfl, Nat.le_refl _, fun _ _ => Iff.rfl⟩
  have hmn : mem g.mn = none := by
    cases hm : mem g.mn with
    | none => rfl
    | some cs => exact absurd (h.box _ _ hm).1.1 (Nat.lt_irrefl _)
  have h2 := h1.addBox w.heap.size cs ⟨c, e, (0, 0), heap_alloc_new _ _, Nat.le_of_eq hc.1.symm, thawed0 _ _ (.inr rfl), fun i hi => (hc.2 i hi).onto ho⟩
    (fun q hq => by have := h.obLt q _ hq; omega)
    (fun b hb => by
      cases hm : mem b with
      | none => exact absurd hm hb
      | some cs =>
        obtain ⟨_, c', e', fr', q1, _⟩ := h.box b cs hm
        have := (Array.getElem?_eq_some_iff.1 q1).1
        show g.φ b ≠ _
        omega)
    (.inl h.size) (by simp [G.protAt, upd_same]) hno hmn
  refine ⟨_, rfl, h2.put hd (fun _ => ?_) (fun j sz n xs k => by cases j <;> simp [comp] at k)⟩
  have := VR.bp (g := (g.protAt w.heap.size 0).box w.heap.size) (w := w.alloc (.cells c e)) g.mn 0 (G.box_ok (g.protAt w.heap.size 0) w.heap.size)
  have e1 : ((g.protAt w.heap.size 0).box w.heap.size).φ g.mn = w.heap.size := by simp [G.box, G.protAt, upd_same]
  rwa [e1] at this

theorem St.newBoxF {g : G} {ob : Pos → Option Nat} {s : Nat → V} {mem : Nat → Option (List V)} {tm : Array Value} {w : World} (h : St E g ob s mem tm w) {d : Nat} (hd : d < tm.size) (cs : List V) (c : Array Value) (e : TypeId) (fr : Nat × Nat) (hth : Thawed c fr) (hc : cs.length ≤ c.size) (hcv : ∀ i, i < cs.length → VR g w (cs.getD i .unk) (c.getD i undef))
    (hno : ∀ (o sz n : Nat) (xs : List V), cs[o]? ≠ some (V.sl true sz n xs)) :
    ∃ g', g'.mn = g.mn + 1 ∧ St E g' ob (upd s d (.bp g.mn 0)) (upd mem g.mn (some cs)) (tm.setIfInBounds d (.pointer (some ⟨w.heap.size, 0, none⟩))) (w.alloc (.cells c e fr)) := by
  have h1 := h.alloc (.cells c e fr) 0
  have ho : Onto g (g.protAt w.heap.size 0) w (w.alloc (.cells c e fr)) := ⟨fun blk of u _ hu => cell?_alloc hu, fun blk => by
    simp only [G.protAt]
    by_cases e : blk = w.heap.size
    · subst e; rw [upd_same, h.prot0 _ (Nat.le_refl _)]; omega
    · rw [upd_ne _ _ e]; exact Nat.le_refl _, fun _ _ => rfl, Nat.le_refl _, fun _ _ => Iff.rfl⟩
  have hmn : mem g.mn = none := by
    cases hm : mem g.mn with
    | none => rfl
    | some cs => exact absurd (h.box _ _ hm).1.1 (Nat.lt_irrefl _)
  have h2 := h1.addBox w.heap.size cs ⟨c, e, fr, heap_alloc_new _ _, hc, hth, fun i hi => (hcv i hi).onto ho⟩
    (fun q hq => by have := h.obLt q _ hq; omega)
    (fun b hb => by
      cases hm : mem b with
      | none => exact absurd hm hb
      | some cs =>
        obtain ⟨_, c', e', fr', q1, _⟩ := h.box b cs hm
        have := (Array.getElem?_eq_some_iff.1 q1).1
        show g.φ b ≠ _
        omega)
    (.inl h.size) (by simp [G.protAt, upd_same]) hno hmn
  refine ⟨_, rfl, h2.put hd (fun _ => ?_) (fun j sz n xs k => by cases j <;> simp [comp] at k)⟩
  have := VR.bp (g := (g.protAt w.heap.size 0).box w.heap.size) (w := w.alloc (.cells c e fr)) g.mn 0 (G.box_ok (g.protAt w.heap.size 0) w.heap.size)
  have e1 : ((g.protAt w.heap.size 0).box w.heap.size).φ g.mn = w.heap.size := by simp [G.box, G.protAt, upd_same]
  rwa [e1] at this

theorem St.newBoxAt {g : G} {ob : Pos → Option Nat} {s : Nat → V} {mem : Nat → Option (List V)} {tm : Array Value} {w : World} (h : St E g ob s mem tm w) {d : Nat} (hd : d < tm.size) (r : Nat) (hr : E.g0.mn ≤ r) (hr1 : r < g.mn) (hr2 : g.hole r) (hm : mem r = none)
    (cs : List V) (c : Array Value) (e : TypeId) (hc : VRL g w cs c) (hno : ∀ (o sz n : Nat) (xs : List V), cs[o]? ≠ some (V.sl true sz n xs)) :
    ∃ g', g'.mn = g.mn ∧ St { E with rsv := fun b => E.rsv b ∧ b ≠ r } g' ob (upd s d (.bp r 0)) (upd mem r (some cs)) (tm.setIfInBounds d (.pointer (some ⟨w.heap.size, 0, none⟩))) (w.alloc (.cells c e)) := by
  have h1 := h.alloc (.cells c e) 0
  have ho : Onto g (g.protAt w.heap.size 0) w (w.alloc (.cells c e)) := ⟨fun blk of u _ hu => cell?_alloc hu, fun blk => by
    simp only [G.protAt]
    by_cases e : blk = w.heap.size
    · subst e; rw [upd_same, h.prot0 _ (Nat.le_refl _)]; omega
    · rw [upd_ne _ _ e]; exact Nat.le_refl _, fun _ _ => rfl, Nat.le_refl _, fun _ _ => Iff.rfl⟩
  have h2 := h1.fillBox r w.heap.size cs hr hr1 hr2 ⟨c, e, (0, 0), heap_alloc_new _ _, Nat.le_of_eq hc.1.symm, thawed0 _ _ (.inr rfl), fun i hi => (hc.2 i hi).onto ho⟩
    (fun q hq => by have := h.obLt q _ hq; omega)
    (fun b hb => by
      cases hm : mem b with
      | none => exact absurd hm hb
      | some cs =>
        obtain ⟨_, c', e', fr', q1, _⟩ := h.box b cs hm
        have := (Array.getElem?_eq_some_iff.1 q1).1
        show g.φ b ≠ _
        omega)
    (.inl h.size) (by simp [G.protAt, upd_same]) hno hm
  refine ⟨(g.protAt w.heap.size 0).fill r w.heap.size, rfl, h2.put hd (fun _ => ?_) (fun j sz n xs k => by cases j <;> simp [comp] at k)⟩
  have := VR.bp (g := (g.protAt w.heap.size 0).fill r w.heap.size) (w := w.alloc (.cells c e)) r 0 ((g.protAt w.heap.size 0).fill_ok hr1)
  have e1 : ((g.protAt w.heap.size 0).fill r w.heap.size).φ r = w.heap.size := by simp [G.fill, G.protAt, upd_same]
  rwa [e1] at this

theorem St.newRow {g : G} {ob : Pos → Option Nat} {s : Nat → V} {mem : Nat → Option (List V)} {tm : Array Value} {w : World} (h : St E g ob s mem tm w) {d : Nat} (hd : d < tm.size) (sz n cap : Nat) (cs : List V) (c : Array Value) (e : TypeId) (fr : Nat × Nat)
    (hn : cs.length = n * sz) (hc : c.size = cap * sz) (hle : n ≤ cap) (hcm : cap ≤ maxLen) (hfr : Thawed c fr) (hv : ∀ i, i < cs.length → VR g w (cs.getD i .unk) (c.getD i undef)) :
    ∃ g' ob', g'.mn = g.mn ∧ St E g' ob' (upd s d (.sl true sz n cs)) mem (tm.setIfInBounds d (.slice (some ⟨w.heap.size, 0, none⟩) n cap)) (w.alloc (.cells c e fr)) := by
  have h1 := h.alloc (.cells c e fr) (n * sz)
  have ho : Onto g (g.protAt w.heap.size (n * sz)) w (w.alloc (.cells c e fr)) := ⟨fun blk of u _ hu => cell?_alloc hu, fun blk => by
    simp only [G.protAt]
    by_cases e : blk = w.heap.size
    · subst e; rw [upd_same, h.prot0 _ (Nat.le_refl _)]; omega
    · rw [upd_ne _ _ e]; exact Nat.le_refl _, fun _ _ => rfl, Nat.le_refl _, fun _ _ => Iff.rfl⟩
  have hh := heap_alloc_new w (.cells c e fr)
  have hns : n * sz ≤ cap * sz := Nat.mul_le_mul_right _ hle
  obtain ⟨ob', _, h2⟩ := h1.give (d := d) (sz := sz) (n := n) (cs := cs) (v := .slice (some ⟨w.heap.size, 0, none⟩) n cap) (obv := some w.heap.size) hd
    (by
      refine .sl true sz n cs w.heap.size 0 cap c.toList hn hle hcm (by simp [G.protAt, upd_same]; omega) (fun i hi => ?_) (fun i hi => ?_)
      · simp only [World.cell?, hh]
        simp [List.getD_eq_getElem?_getD, show i < c.size by omega]
      · have := (hv i hi).onto ho
        simpa [List.getD_eq_getElem?_getD, Array.getD_eq_getD_getElem?] using this)
    ⟨rfl, .inr ⟨_, c, e, fr, rfl, rfl, hh, hc, hfr, by simp [G.protAt, upd_same], hle, hcm⟩⟩
    (fun blk hb => by
      cases hb
      refine ⟨fun q hq => by have := h.obLt q _ hq; omega, fun b hb => ?_, by simp, .inl h.size⟩
      cases hm : mem b with
      | none => exact absurd hm hb
      | some cs =>
        obtain ⟨_, c', e', fr', q1, _⟩ := h.box b cs hm
        have := (Array.getElem?_eq_some_iff.1 q1).1
        show g.φ b ≠ _
        omega)
  exact ⟨g.protAt w.heap.size (n * sz), ob', rfl, h2⟩

end Go.VL

set_option linter.unusedVariables false
set_option linter.unusedSimpArgs false
open Go.RowKit
namespace Go.VL
variable {P : Program} {H : Env} {L : LEnv} {E : Entry} {nt : Nat}

def noOwnB : V → Bool
  | .sl own _ _ _ => !own
  | _ => true
theorem noOwn_cells {cs : List V} (h : ∀ x ∈ cs, noOwnB x = true) (o sz n : Nat) (xs : List V) : cs[o]? ≠ some (V.sl true sz n xs) := by
  intro e
  have := h _ (List.mem_of_getElem? e)
  simp [noOwnB] at this

theorem zeros_noOwn (l : List Value) : ∀ x ∈ l.map ofC1, noOwnB x = true := by
  intro x hx
  rw [List.mem_map] at hx
  obtain ⟨v, _, rfl⟩ := hx
  unfold ofC1
  split
  · rfl
  · split <;> rfl
theorem Tells.zero_noOwn {t : TypeId} {i : TyI} (h : Tells P t i) : ∀ x ∈ i.zero, noOwnB x = true := by
  obtain ⟨ti, _, _, _, _, h5⟩ := h.isz
  rw [← h5]
  split
  · exact zeros_noOwn _
  · intro x hx; cases hx

theorem step_alloc (hH : EnvOk P H) {o : Oper} {σ : S} {d : Nat} {t : TypeId} {i : TyI} (hop : o.op = .alloc t) (hi : H.get t = some i) (hz : i.zok = true) (ho : o.dst = some d) (hd : d < nt) :
    StepTo P E nt o σ { sl := (d, .bp σ.mn 0) :: σ.sl, mem := upd σ.mem σ.mn (some i.zero), mn := σ.mn + 1 } := by
  rintro a w ⟨g, ob, h1, h2, h3, h4⟩
  have hT := hH.tells hi
  obtain ⟨z, hz1, hz2, hz3, _⟩ := hT.zeroVal (w := w) (g := g) hz
  obtain ⟨g', hg, h5⟩ := h1.newBox (d := d) (by omega) i.zero z.cells t hz2 (noOwn_cells hT.zero_noOwn)
  refine .inl ⟨.pointer (some ⟨w.heap.size, 0, none⟩), w.alloc (.cells z.cells t), ?_, ?_⟩
  · obtain ⟨dst, op, ty, pos, after, guard⟩ := o
    simp only at hop
    subst hop
    simp [execOp, Instr.alloc, hz1, newVar, newRow]
  · rw [ho, put_some]
    refine ⟨g', ob, ?_, by rw [hg, h2], h3, by simpa using h4⟩
    simp only [lk_cons]
    rw [← h2]
    exact h5

theorem step_box (hH : EnvOk P H) {gl : Nat → Option (List V)} (hG : GlOk E.g0 E.w0 gl) {o : Oper} {σ : S} {d : Nat} {t : TypeId} {y : Operand} (hop : o.op = .box t y) (ho : o.dst = some d) (hd : d < nt)
    (hk : evO (lk σ.sl) gl y ≠ .unk) (hno : ∀ x ∈ (evO (lk σ.sl) gl y).cells.map V.fz, noOwnB x = true) :
    StepTo P E nt o σ { sl := (d, .bp σ.mn 0) :: σ.sl, mem := upd σ.mem σ.mn (some ((evO (lk σ.sl) gl y).cells.map V.fz)), mn := σ.mn + 1 } := by
  rintro a w ⟨g, ob, h1, h2, h3, h4⟩
  have hv := evO_rel (d := a.defers) h1.slot (hG.onto h1.onto) y hk
  have hc := hv.cells
  have hc' : VRL g w ((evO (lk σ.sl) gl y).cells.map V.fz) (Act.eval { tmps := a.tmps, defers := a.defers } y).cells := by
    refine ⟨by rw [List.length_map]; exact hc.1, fun i hi => ?_⟩
    rw [List.length_map] at hi
    rw [show (List.map V.fz (evO (lk σ.sl) gl y).cells).getD i .unk = ((evO (lk σ.sl) gl y).cells.getD i .unk).fz by simp [List.getD_eq_getElem?_getD, hi]]
    exact (hc.2 i hi).fz
  obtain ⟨g', hg, h5⟩ := h1.newBox (d := d) (by omega) _ _ t hc' (noOwn_cells hno)
  refine .inl ⟨.pointer (some ⟨w.heap.size, 0, none⟩), w.alloc (.cells (a.eval y).cells t), ?_, ?_⟩
  · obtain ⟨dst, op, ty, pos, after, guard⟩ := o
    simp only at hop
    subst hop
    simp [execOp, Instr.box, newVar, newRow]
  · rw [ho, put_some]
    refine ⟨g', ob, ?_, by rw [hg, h2], h3, by simpa using h4⟩
    simp only [lk_cons]
    rw [← h2]
    exact h5

def rep (n : Nat) (z : List V) : List V := (List.replicate n z).flatten
theorem length_rep (n : Nat) (z : List V) : (rep n z).length = n * z.length := by simp [rep, List.length_flatten]
theorem getD_rep : ∀ (n : Nat) (z : List V) (i : Nat), i < n * z.length → (rep n z).getD i .unk = z.getD (i % z.length) .unk
  | 0, z, i, h => by omega
  | n + 1, z, i, h => by
    simp only [rep, List.replicate_succ, List.flatten_cons]
    by_cases hi : i < z.length
    · rw [List.getD_eq_getElem?_getD, List.getElem?_append_left hi, Nat.mod_eq_of_lt hi, List.getD_eq_getElem?_getD]
    · rw [List.getD_eq_getElem?_getD, List.getElem?_append_right (by omega), ← List.getD_eq_getElem?_getD]
      have := getD_rep n z (i - z.length) (by rw [Nat.add_mul, Nat.one_mul] at h; omega)
      rw [rep] at this
      rw [this]
      congr 1
      exact (Nat.mod_eq_sub_mod (by omega)).symm
theorem rep_rel {g : G} {w : World} {z : List V} {c : Array Value} (h : VRL g w z c) (n : Nat) : VRL g w (rep n z) ((Array.range (n * c.size)).map (fun k => c[k % c.size]!)) := by
  refine ⟨by simp [length_rep, h.1], fun i hi => ?_⟩
  rw [length_rep] at hi
  have hz : 0 < z.length := by
    rcases Nat.eq_zero_or_pos z.length with k | k
    · rw [k] at hi; omega
    · exact k
  rw [getD_rep n z i hi]
  have hl : i % z.length < z.length := Nat.mod_lt _ hz
  have := h.2 _ hl
  have e : (((Array.range (n * c.size)).map (fun k => c[k % c.size]!)).getD i undef) = c.getD (i % z.length) undef := by
    have hi' : i < n * c.size := by rw [h.1]; exact hi
    have hl' : i % z.length < c.size := by rw [h.1]; exact hl
    rw [Array.getD_eq_getD_getElem?, Array.getElem?_map, Array.getElem?_range, if_pos hi']
    simp only [Option.map_some, Option.getD_some]
    rw [h.1, getElem!_pos c _ hl', Array.getD_eq_getD_getElem?, Array.getElem?_eq_getElem hl', Option.getD_some]
  rw [e]; exact this

theorem step_buildSlice (hH : EnvOk P H) {gl : Nat → Option (List V)} (hG : GlOk E.g0 E.w0 gl) {o : Oper} {σ : S} {d n : Nat} {t e : TypeId} {ti i : TyI} {ps : Array (Nat × Operand)} (hop : o.op = .buildSlice t n ps) (ho : o.dst = some d) (hd : d < nt)
    (ht : H.get t = some ti) (hte : ti.k = .sl e) (hi : H.get e = some i) (hz : i.zok = true) (hsz : n * i.sz ≤ 2 ^ 24) (hpos : 0 < n * i.sz ∨ n = 0) {c : Prop} {r : List V}
    (hf : fillV (fun k => some (k * i.sz, i.sz)) (rep n i.zero) (ps.toList.map fun p => (p.1, (evO (lk σ.sl) gl p.2).fz)) = some (c, r)) (hc : c) (hk : ∀ p ∈ ps.toList, evO (lk σ.sl) gl p.2 ≠ .unk) (hr : r.length = n * i.sz) :
    StepTo P E nt o σ (σ.set d (.sl true i.sz n r)) := by
  rintro a w ⟨g, ob, h1, h2, h3, h4⟩
  have hT := hH.tells hi
  obtain ⟨z, hz1, hz2, hz3, _⟩ := hT.zeroVal (w := w) (g := g) hz
  have hu := (hH.tells ht).und_sl hte
  have hrep := rep_rel hz2 n
  obtain ⟨rs, r1, r2⟩ := fillV_rel (g := g) (w := w) _ _ (ps.toList.map fun p => (p.1, a.eval p.2)) _ _ c r hrep (by simp) (fun j k x hj => by
    simp only [List.getElem?_map, Option.map_eq_some_iff] at hj
    obtain ⟨⟨k', y⟩, hp, e⟩ := hj
    simp only [Prod.mk.injEq] at e
    obtain ⟨rfl, rfl⟩ := e
    refine ⟨a.eval y, by simp [hp], ?_⟩
    have := evO_rel (d := a.defers) h1.slot (hG.onto h1.onto) y (hk _ (List.mem_of_getElem? hp))
    exact this.fz) hf hc
  have hrs : rs.size = n * i.sz := by rw [r2.1, hr]
  obtain ⟨g', ob', hg, h5⟩ := h1.newRow (d := d) (by omega) i.sz n n r rs e (0, 0) hr hrs (Nat.le_refl _) (by
    rcases hpos with hpos | hpos
    · have : n ≤ n * i.sz := Nat.le_mul_of_pos_right _ (Nat.pos_of_mul_pos_left hpos)
      unfold maxLen; omega
    · unfold maxLen; omega) (thawed0 _ _ (.inr rfl)) r2.2
  refine .inl ⟨.slice (some ⟨w.heap.size, 0, none⟩) n n, w.alloc (.cells rs e), ?_, ?_⟩
  · obtain ⟨dst, op, ty, pos, after, guard⟩ := o
    simp only at hop
    subst hop
    have e1 : ¬ (n * i.sz > 2 ^ 24) := by omega
    have e3 : (ps.map fun (k, x) => (k, a.eval x)).toList = ps.toList.map fun p => (p.1, a.eval p.2) := by simp
    rw [hz3] at r1
    rcases hpos with hpos | hpos
    · have e2 : ¬ (n * i.sz = 0) := by omega
      simp only [execOp, Instr.buildSlice, Sem.run_bind, run_underlying' hu, Result.andThen_ok, hT.size, e1, if_false, e2, hz1, Sem.run_pure, e3, r1, newRow, run_newObj, hz3]
      rfl
    · have e2 : n * i.sz = 0 := by rw [hpos, Nat.zero_mul]
      have e4 : ∀ f : Nat → Value, Array.map f (Array.range (n * i.sz)) = #[] := fun f => by rw [e2]; simp
      rw [e4] at r1
      have e1' : ¬ ((0 : Nat) > 2 ^ 24) := by omega
      have e5 : ∀ f : Nat → Value, Array.map f (Array.range 0) = #[] := fun f => by simp
      simp only [execOp, Instr.buildSlice, Sem.run_bind, run_underlying' hu, Result.andThen_ok, hT.size, e1', if_false, e2, if_true, Sem.run_pure, e3, e5, r1, newRow, run_newObj]
      rfl
  · rw [ho, put_some]
    refine ⟨g', ob', ?_, by rw [hg]; exact h2, h3, by simpa using h4⟩
    simp only [S.set, lk_cons]
    exact h5

end Go.VL

set_option linter.unusedVariables false
set_option linter.unusedSimpArgs false
open Go.RowKit
namespace Go.VL
variable {P : Program} {H : Env} {L : LEnv} {E : Entry} {nt : Nat} {w : World}

structure Src (P : Program) (w : World) (size : Nat) (t : TypeId) (x : Value) (m : Nat) (news : List Value) : Prop where
  desc : ∃ d, P.underlying t = some d ∧ ∀ k, d ≠ .int k
  len : (Builtin.lenOf x).run P w = .ok m w
  first : ∀ w', (w' = w ∨ w' = w.drew) → (Builtin.firstCells size m x).run P w' = .ok news.toArray w'
  size : news.length = m * size

theorem not_int {d : TypeDesc} (h : ∀ k, d ≠ .int k) : (match d with | .int _ => true | _ => false) = false := by
  cases d <;> simp at h ⊢

theorem run_append_roomG (t xt ty e : TypeId) (i : TypeInfo) (ht : P.underlying t = some (.slice e)) (hi : P.info? e = some i) (base : Option Addr) (sLen sCap m : Nat) (x : Value) (news : List Value) (hx : Src P w i.size xt x m news)
    (hroom : sLen + m ≤ sCap) {w' : World} (hst : ∀ a, base = some a → (storeCells (a.add (sLen * i.size)) news).run P w = .ok () w') (hn : base = none → w' = w) :
    (Builtin.append_ #[t, xt] ty #[.slice base sLen sCap, x]).run P w = .ok (.slice base (sLen + m) sCap) w' := by
  obtain ⟨d, hd, hni⟩ := hx.desc
  have hf := hx.first w (.inl rfl)
  have hz := not_int hni
  cases base with
  | none =>
    obtain rfl := hn rfl
    simp only [Builtin.append_, List.getElem?_toArray, List.getElem?_cons_zero, List.getElem?_cons_succ, Sem.run_bind, run_underlying' ht, run_underlying' hd, Result.andThen_ok, sizeOf, run_typeInfo' hi, Sem.run_pure, hz, Bool.false_eq_true, if_false, hx.len, hroom, if_true, hf, Bool.not_false]
  | some a =>
    simp only [Builtin.append_, List.getElem?_toArray, List.getElem?_cons_zero, List.getElem?_cons_succ, Sem.run_bind, run_underlying' ht, run_underlying' hd, Result.andThen_ok, sizeOf, run_typeInfo' hi, Sem.run_pure, hz, Bool.false_eq_true, if_false, hx.len, hroom, if_true, hf, Bool.not_false, hst a rfl]

theorem run_append_growG (t xt ty e : TypeId) (i : TypeInfo) (z : Value) (ht : P.underlying t = some (.slice e)) (hi : P.info? e = some i) (hz : i.zero = some z) (base : Option Addr) (sLen sCap m : Nat) (x : Value) (olds news : List Value) (hx : Src P w i.size xt x m news)
    (hold : (Builtin.firstCells i.size sLen (.slice base sLen sCap)).run P w.drew = .ok olds.toArray w.drew)
    (hg : sCap < sLen + m) (h63 : sLen + m ≤ maxLen) (hfit : (sLen + m) * i.bytes ≤ 140737488355328) :
    (Builtin.append_ #[t, xt] ty #[.slice base sLen sCap, x]).run P w =
      .ok (.slice (some ⟨w.heap.size, 0, none⟩) (sLen + m) (grownCap w (sLen + m) sCap e)) (w.drew.alloc (.cells (olds.toArray ++ news.toArray ++ Builtin.zeroCells z.cells (grownCap w (sLen + m) sCap e - (sLen + m))) e)) := by
  obtain ⟨d, hd, hni⟩ := hx.desc
  have hf := hx.first w.drew (.inr rfl)
  have hzz := not_int hni
  have hn : ¬ (sLen + m ≤ sCap) := by omega
  have h63' : ¬ (((sLen + m : Nat) : Int) > IntKind.i64.max ∧ (False ∨ i.bytes = 0)) := by
    have : IntKind.i64.max = 9223372036854775807 := by decide
    rw [this]; unfold maxLen at h63; omega
  have h48' : ¬ (Builtin.nextslicecap (sLen + m) sCap * i.bytes > 2 ^ 48) := by
    have := growslice_fits hg hfit
    omega
  simp [Builtin.append_, run_underlying' ht, run_underlying' hd, sizeOf, run_typeInfo' hi, hzz, hx.len, hn, h63', h48', Question.forced, hf, hold, newRow, grownCap, zeroValue, hz]
  rw [if_neg (by unfold maxLen at h63; omega)]
  congr 2
  generalize Builtin.zeroCells z.cells _ = Z
  have : olds.toArray ++ (news.toArray ++ Z) = (olds ++ news).toArray ++ Z := by
    apply Array.ext'; simp
  rw [this]

def srcV (mem : Nat → Option (List V)) (sz : Nat) (x : V) : Option (Prop × Nat × List V) := match x with
  | .sl _ sz' n cs => if sz' = sz then some (cs.length = n * sz, n, cs) else none
  | .nil => some (True, 0, [])
  | .flat (.string s) => if sz = 1 then some (True, s.size, s.data.toList.map fun b => .flat (.int .u8 b.toNat)) else none
  | .bs b off n _ => match mem b with
    | some l => some (off + n * sz ≤ l.length, n, (l.drop off).take (n * sz))
    | none => none
  | _ => none

def notIntT (i : TyI) : Bool := match i.k with
  | .sl _ | .str => true
  | _ => false

theorem firstCells_some {size n : Nat} {b : Addr} {len cap : Nat} {cs : List Value} (hl : cs.length = n * size) (h : ∀ j, j < cs.length → w.cell? (b.add j) = some (cs.getD j undef)) :
    (Builtin.firstCells size n (.slice (some b) len cap)).run P w = .ok cs.toArray w :=
  run_firstCells_some w size n b len cap cs hl (fun j v hj => by
    have hlt := (List.getElem?_eq_some_iff.1 hj).1
    rw [h j hlt]
    simp [List.getD_eq_getElem?_getD, hj])

theorem srcV_rel (hH : EnvOk P H) {g : G} {mem : Nat → Option (List V)} (hm : BoxesAt g w mem) {t : TypeId} {ti : TyI} (ht : H.get t = some ti) (hni : notIntT ti = true) {sz : Nat} {x : V} {v : Value} (hx : VR g w x v) {c : Prop} {m : Nat} {xs : List V}
    (h : srcV mem sz x = some (c, m, xs)) (hc : c) : ∃ news, Src P w sz t v m news ∧ xs.length = news.length ∧ ∀ i, i < xs.length → VR g w (xs.getD i .unk) (news.getD i undef) := by
  have hdesc : ∃ d, P.underlying t = some d ∧ ∀ k, d ≠ .int k := by
    have hT := hH.tells ht
    unfold notIntT at hni
    split at hni
    · rename_i e hk; exact ⟨_, hT.und_sl hk, by simp⟩
    · rename_i hk; exact ⟨_, hT.und_str hk, by simp⟩
    · cases hni
  cases hx <;> simp only [srcV] at h <;> try cases h
  case flat hv =>
    cases v <;> simp only [srcV] at h <;> try cases h
    rename_i s
    split at h <;> cases h
    rename_i hz
    subst hz
    refine ⟨s.data.toList.map fun b => Value.int .u8 b.toNat, ⟨hdesc, by simp [Builtin.lenOf], fun w' _ => ?_, by simp⟩, by simp, fun i hi => ?_⟩
    · simp only [Builtin.firstCells]
      have : s.extract 0 s.size = s := by
        apply ByteArray.ext
        rw [ByteArray.data_extract]
        show s.data.extract 0 s.data.size = s.data
        simp
      rw [this]
      simp only [Sem.run_pure]
      congr 1
      apply Array.ext'
      simp
    · simp only [List.length_map, Array.length_toList] at hi
      have e1 : (s.data.toList.map fun b => V.flat (.int .u8 b.toNat)).getD i .unk = .flat (.int .u8 (s.data[i]).toNat) := by simp [List.getD_eq_getElem?_getD, Array.getElem?_eq_getElem hi]
      have e2 : (s.data.toList.map fun b => Value.int .u8 b.toNat).getD i undef = .int .u8 (s.data[i]).toNat := by simp [List.getD_eq_getElem?_getD, Array.getElem?_eq_getElem hi]
      rw [e1, e2]
      exact .flat _ rfl
  case nil => exact ⟨[], ⟨hdesc, by simp [Builtin.lenOf], fun w' _ => by simp [Builtin.firstCells], by simp⟩, by simp, fun i hi => by simp at hi⟩
  case sl0 own sz' a cap =>
    split at h <;> cases h
    refine ⟨[], ⟨hdesc, by simp [Builtin.lenOf], fun w' _ => ?_, by simp⟩, by simp, fun i hi => by simp at hi⟩
    cases a with
    | none => simp [Builtin.firstCells]
    | some a => simp [Builtin.firstCells, loadCells, loadCellsFrom]
  case sl own sz' n cs blk off cap us hn hcap hcm hp hu hv =>
    split at h <;> cases h
    rename_i hz
    subst hz
    refine ⟨(List.range xs.length).map fun i => us.getD i undef, ⟨hdesc, by simp [Builtin.lenOf], fun w' hw => ?_, by simpa using hn⟩, by simp, fun i hi => ?_⟩
    · refine firstCells_some (by simpa using hn) (fun j hj => ?_)
      simp only [List.length_map, List.length_range] at hj
      have : w'.cell? ⟨blk, off + j, none⟩ = some (us.getD j undef) := by
        rcases hw with rfl | rfl
        · exact hu j hj
        · exact hu j hj
      rw [addr_add, this]
      simp [List.getD_eq_getElem?_getD, hj]
    · have := hv i hi
      simpa [List.getD_eq_getElem?_getD, hi] using this
  case bs b off n cap cap2 hb hcap hful =>
    cases hmb : mem b with
    | none => simp [hmb] at h
    | some l =>
      simp only [hmb, Option.some.injEq, Prod.mk.injEq] at h
      obtain ⟨rfl, rfl, rfl⟩ := h
      obtain ⟨_, cc, e, fr, hh, hsz, hth, hvv⟩ := hm b l hmb
      have hlen : ((l.drop off).take (n * sz)).length = n * sz := by rw [List.length_take, List.length_drop]; omega
      refine ⟨(cc.toList.drop off).take (n * sz), ⟨hdesc, by simp [Builtin.lenOf], fun w' hw => ?_, ?_⟩, ?_, fun i hi => ?_⟩
      · refine firstCells_some (by rw [List.length_take, List.length_drop, Array.length_toList]; omega) (fun j hj => ?_)
        rw [List.length_take] at hj
        have hw' : w'.heap = w.heap := by rcases hw with rfl | rfl <;> rfl
        rw [addr_add]
        simp only [World.cell?, hw', hh]
        simp [List.getD_eq_getElem?_getD, List.getElem?_take, List.getElem?_drop, show j < n * sz by omega, show off + j < cc.size by omega]
      · rw [List.length_take, List.length_drop, Array.length_toList]; omega
      · rw [hlen, List.length_take, List.length_drop, Array.length_toList]; omega
      · rw [hlen] at hi
        have := hvv (off + i) (by omega)
        simpa [List.getD_eq_getElem?_getD, Array.getD_eq_getD_getElem?, List.getElem?_take, List.getElem?_drop, hi] using this

theorem arr_ext {α : Type} {a b : Array α} (h : ∀ i : Nat, a[i]? = b[i]?) : a = b := by
  apply Array.ext'
  apply List.ext_getElem?
  intro i
  simpa using h i

theorem setCells_put (blk : Nat) (e : TypeId) (fr : Nat × Nat) : ∀ (vs : List Value) (o : Nat) (w : World) (c : Array Value), w.heap[blk]? = some (.cells c e fr) → o + vs.length ≤ c.size →
    ∃ c', w.setCells blk o vs = World.putBlk w blk (.cells c' e fr) ∧ c'.size = c.size ∧ ∀ i, c'.getD i undef = if o ≤ i ∧ i < o + vs.length then vs.getD (i - o) undef else c.getD i undef
  | [], o, w, c, h, _ => by
    refine ⟨c, ?_, rfl, fun i => by rw [if_neg (by simp)]⟩
    have hlt : blk < w.heap.size := (Array.getElem?_eq_some_iff.1 h).1
    show w = _
    have : w.heap.setIfInBounds blk (.cells c e fr) = w.heap := by
      apply arr_ext
      intro i
      rw [Array.getElem?_setIfInBounds]
      split
      · rename_i k; subst k; exact h.symm
      · rfl
    simp only [World.putBlk, this]
  | v :: r, o, w, c, h, hle => by
    rw [List.length_cons] at hle
    have hlt : blk < w.heap.size := (Array.getElem?_eq_some_iff.1 h).1
    have h1 : w.setCell ⟨blk, o, none⟩ v = World.putBlk w blk (.cells (c.setIfInBounds o v) e fr) := by
      simp only [World.setCell, World.putBlk]
      congr 1
      apply arr_ext
      intro i
      rw [Array.getElem?_modify, Array.getElem?_setIfInBounds]
      split
      · rename_i k; subst k; rw [h]; rfl
      · rfl
    have h2 := putBlk_same (w := w) (o := .cells (c.setIfInBounds o v) e fr) hlt
    obtain ⟨c', k1, k2, k3⟩ := setCells_put blk e fr r (o + 1) _ _ h2 (by rw [Array.size_setIfInBounds]; omega)
    refine ⟨c', ?_, by rw [k2, Array.size_setIfInBounds], fun i => ?_⟩
    · rw [World.setCells, h1, k1]
      simp only [World.putBlk]
      congr 1
      apply arr_ext
      intro i
      rw [Array.getElem?_setIfInBounds, Array.getElem?_setIfInBounds, Array.getElem?_setIfInBounds, Array.size_setIfInBounds]
      split <;> rfl
    · rw [k3 i, List.length_cons]
      by_cases q : i = o
      · subst q
        rw [if_neg (by omega), if_pos (by omega), getD_set (by omega), if_pos rfl, Nat.sub_self]; rfl
      · rw [getD_set (by omega), if_neg q]
        by_cases q2 : o + 1 ≤ i ∧ i < o + 1 + r.length
        · rw [if_pos q2, if_pos (by omega), show i - o = (i - (o + 1)) + 1 by omega, List.getD_cons_succ]
        · rw [if_neg q2, if_neg (by omega)]

theorem VR.oneCell {g : G} {x : V} {v : Value} (h : VR g w x v) (hx : ∀ cs, x ≠ .agg cs ∧ x ≠ .tup cs) : v.oneCell' = true := by
  cases h with
  | flat v hv => cases v <;> simp [flatOk] at hv <;> rfl
  | agg cs us hl hv => exact absurd rfl (hx cs).1
  | tup cs us hl hv => exact absurd rfl (hx cs).2
  | _ => rfl

def oneB : V → Bool
  | .agg _ | .tup _ | .unk => false
  | _ => true
theorem VR.oneB {g : G} {x : V} {v : Value} (h : VR g w x v) (hx : oneB x = true) : v.oneCell' = true :=
  h.oneCell (fun cs => ⟨fun e => (by rw [e] at hx; cases hx), fun e => (by rw [e] at hx; cases hx)⟩)

theorem run_storeCells_thawed {blk : Nat} {c : Array Value} {e : TypeId} {fr : Nat × Nat} (h : w.heap[blk]? = some (.cells c e fr)) (ht : Thawed c fr) (o : Nat) (vs : List Value) (hle : o + vs.length ≤ c.size) (h1 : ∀ v ∈ vs, v.oneCell' = true) :
    (storeCells ⟨blk, o, none⟩ vs).run P w = .ok () (w.setCells blk o vs) := by
  have := run_storeCells_cells (P := P) blk o vs 0 w (fun j hj => by
    simp only [World.cell?, h]
    simp [show o + j < c.size by omega]) (fun j hj => by
    have := ht (o + j) (by omega)
    simp only [World.frozen?, h, Nat.add_zero]
    obtain ⟨a, b⟩ := fr
    exact this) h1
  simpa using this

theorem step_append (hH : EnvOk P H) {gl : Nat → Option (List V)} (hG : GlOk E.g0 E.w0 gl) {o : Oper} {σ : S} {d i n m : Nat} {t xt e : TypeId} {ti xi ei : TyI} {y : Operand} {cs xs : List V} {c : Prop}
    (hop : o.op = .call { callee := .builtin .append, args := #[.tmp i, y], argTypes := #[t, xt] }) (ho : o.dst = some d) (hd : d < nt) (ht : H.get t = some ti) (hte : ti.k = .sl e) (he : H.get e = some ei) (hx : H.get xt = some xi) (hxi : notIntT xi = true)
    (hz : ei.zok = true) (hi : lk σ.sl i = .sl true ei.sz n cs) (hs : srcV σ.mem ei.sz (evO (lk σ.sl) gl y) = some (c, m, xs)) (hc : c) (hcs : cs.length = n * ei.sz) (hone : ∀ x ∈ xs, oneB x = true)
    (h63 : n + m ≤ maxLen) (hb : (n + m) * ei.bytes ≤ 140737488355328) :
    StepTo P E nt o σ { σ with sl := (d, .sl true ei.sz (n + m) (cs ++ xs)) :: (i, .sl false ei.sz n cs) :: σ.sl } := by
  rintro a w ⟨g, ob, h1, h2, h3, h4⟩
  have hsl := h1.slot
  have hbx : BoxesAt g w σ.mem := h1.box
  have hyk : evO (lk σ.sl) gl y ≠ .unk := by intro k; rw [k] at hs; cases hs
  have hy := evO_rel (d := a.defers) hsl (hG.onto h1.onto) y hyk
  obtain ⟨news, hsrc, hnl, hnv⟩ := srcV_rel (P := P) hH hbx hx hxi hy hs hc
  have hu := (hH.tells ht).und_sl hte
  have hT := hH.tells he
  obtain ⟨z, hz1, hz2, hz3, tinf, hti, htz⟩ := hT.zeroVal (w := w) (g := g) hz
  obtain ⟨ti', hti', hsz', hby', _⟩ := hT.isz
  rw [hti] at hti'
  cases hti'
  have hone' : ∀ v ∈ news, v.oneCell' = true := by
    intro v hv
    obtain ⟨k, hk, rfl⟩ := List.mem_iff_getElem.1 hv
    have hkx : k < xs.length := by omega
    have := hnv k hkx
    rw [show news.getD k undef = news[k] by simp [List.getD_eq_getElem?_getD, hk]] at this
    refine this.oneB ?_
    exact hone _ (by simp [List.getD_eq_getElem?_getD, hkx])
  obtain ⟨v, ob', obv, r1, r2, r3, r4, _, r5⟩ := h1.release hi
  have hev : a.eval (.tmp i) = v := r1
  have hrunop : (execOp a.eval o).run P w = (do pure (.value (← Builtin.append_ #[t, xt] o.type #[v, a.eval y])) : Sem Next).run P w := by
    obtain ⟨dst, op, ty, pos, after, guard⟩ := o
    simp only at hop
    subst hop
    simp only [execOp, resolve, Sem.run_bind, Sem.run_pure, Result.andThen_ok, invoke, builtin, List.map_toArray, List.map_cons, List.map_nil, hev]
  have hxl : xs.length = m * ei.sz := by rw [hnl]; exact hsrc.size
  -- what the machine holds of the old slice
  cases v <;> simp only [OwnAt] at r3
  rename_i base n' cap
  obtain ⟨rfl, r3⟩ := r3
  have hput : ∀ (g' : G) (obn : Pos → Option Nat) (s' : Nat → V) (v' : Value) (w' : World), g'.mn = g.mn → St E g' obn (upd (upd (lk σ.sl) i (.sl false ei.sz n' cs)) d (.sl true ei.sz (n' + m) (cs ++ xs))) σ.mem (a.tmps.setIfInBounds d v') w' →
      (execOp a.eval o).run P w = .ok (.value v') w' → (∃ v w', (execOp a.eval o).run P w = .ok (.value v) w' ∧ At E nt { σ with sl := (d, .sl true ei.sz (n' + m) (cs ++ xs)) :: (i, .sl false ei.sz n' cs) :: σ.sl } (a.put o.dst v) w') := by
    intro g' obn s' v' w' q1 q2 q3
    refine ⟨v', w', q3, ?_⟩
    rw [ho, put_some]
    refine ⟨g', obn, ?_, by rw [q1]; exact h2, h3, by simpa using h4⟩
    simp only [lk_cons]
    exact q2
  have hlen : (cs ++ xs).length = (n' + m) * ei.sz := by rw [List.length_append, hcs, hxl, Nat.add_mul]
  have hvo : ∀ {g1 : G} {w1 : World}, Onto g g1 w w1 → ∀ k, k < xs.length → VR g1 w1 (xs.getD k .unk) (news.getD k undef) := fun ho k hk => (hnv k hk).onto ho
  left
  by_cases hroom : n' + m ≤ cap
  · -- in place
    rcases r3 with hfull | ⟨blk, c0, e0, fr0, q1, q2, q3, q4, q5, q6, q7, q8⟩
    · -- no room at all: nothing is appended
      have hm0 : m = 0 := by omega
      subst hm0
      have hx0 : xs = [] := List.eq_nil_of_length_eq_zero (by simpa using hxl)
      have hn0 : news = [] := List.eq_nil_of_length_eq_zero (by rw [← hnl, hx0]; rfl)
      subst hx0
      subst hn0
      obtain ⟨obn, _, r6⟩ := r4.give (d := d) (v := .slice base n' cap) (obv := obv) (by omega) r2 ⟨rfl, .inl hfull⟩ r5
      refine hput g obn (fun _ => .unk) (.slice base n' cap) w rfl (by simpa using r6) ?_
      rw [hrunop]
      have := run_append_roomG (P := P) (w := w) t xt o.type e tinf hu hti base n' cap 0 _ [] (by rw [hsz']; exact hsrc) hroom (w' := w) (fun ad _ => by simp [storeCells]) (fun _ => rfl)
      simp only [Sem.run_bind, this, Result.andThen_ok, Sem.run_pure, Nat.add_zero]
    · subst q2
      obtain ⟨f1, f2, f3, f4⟩ := r5 blk q1
      have hfit : n' * ei.sz + news.length ≤ c0.size := by
        rw [q4, ← hnl, hxl, ← Nat.add_mul]; exact Nat.mul_le_mul_right _ hroom
      have hst := run_storeCells_thawed (P := P) q3 q5 (n' * ei.sz) news hfit hone'
      obtain ⟨c1, p1, p2, p3⟩ := setCells_put blk e0 fr0 news (n' * ei.sz) w c0 q3 hfit
      rw [p1] at hst
      have hw1 := r4.write (p := (n' + m) * ei.sz) q3 (c' := c1) (e' := e0) (fr' := fr0) (by rw [q6]; exact Nat.mul_le_mul_right _ (by omega)) (fun k hk u hu' => by
        rw [q6] at hk
        have hk2 : k < c0.size := (Array.getElem?_eq_some_iff.1 hu').1
        have := p3 k
        rw [if_neg (by omega)] at this
        rw [Array.getElem?_eq_getElem (by omega)]
        rw [Array.getD_eq_getD_getElem?, Array.getD_eq_getD_getElem?, hu', Array.getElem?_eq_getElem (by omega : k < c1.size)] at this
        simp only [Option.getD_some] at this
        rw [this]) f1 f2 f4
      have hon : Onto g (g.protAt blk ((n' + m) * ei.sz)) w (World.putBlk w blk (.cells c1 e0 fr0)) := by
        refine ⟨fun bl k u hk hu' => ?_, fun bl => ?_, fun _ _ => rfl, Nat.le_refl _, fun _ _ => Iff.rfl⟩
        · by_cases hbl : bl = blk
          · subst hbl
            have hu2 : c0[k]? = some u := by simpa [World.cell?, q3] using hu'
            have hk2 : k < c0.size := (Array.getElem?_eq_some_iff.1 hu2).1
            simp only [World.cell?, putBlk_same f3]
            have := p3 k
            rw [q6] at hk
            rw [if_neg (by omega), Array.getD_eq_getD_getElem?, Array.getD_eq_getD_getElem?, hu2, Array.getElem?_eq_getElem (by omega : k < c1.size)] at this
            simp only [Option.getD_some] at this
            simp [this, show k < c1.size by omega]
          · rw [World.cell?_of_block (w := w)]
            · exact hu'
            · exact putBlk_ne hbl
        · simp only [G.protAt]
          by_cases hbl : bl = blk
          · subst hbl; rw [upd_same, q6]; exact Nat.mul_le_mul_right _ (by omega)
          · rw [upd_ne _ _ hbl]; exact Nat.le_refl _
      have hx2 := r2.onto hon
      obtain ⟨obn, _, r6⟩ := hw1.give (d := d) (sz := ei.sz) (n := n' + m) (cs := cs ++ xs) (v := .slice (some ⟨blk, 0, none⟩) (n' + m) cap) (obv := some blk) (by omega)
        (by
          refine .sl true ei.sz (n' + m) (cs ++ xs) blk 0 cap c1.toList hlen hroom q8 (by simp [G.protAt, upd_same]; rw [← List.length_append, hlen]; exact Nat.le_refl _) (fun k hk => ?_) (fun k hk => ?_)
          · rw [hlen] at hk
            have : (n' + m) * ei.sz ≤ c0.size := by rw [q4]; exact Nat.mul_le_mul_right _ hroom
            simp only [World.cell?, putBlk_same f3]
            simp [List.getD_eq_getElem?_getD, show k < c1.size by omega]
          · have e3 : c1.toList.getD k undef = c1.getD k undef := by simp [List.getD_eq_getElem?_getD, Array.getD_eq_getD_getElem?]
            rw [e3, p3 k]
            rw [List.length_append] at hk
            by_cases hk1 : k < cs.length
            · rw [if_neg (by omega), List.getD_eq_getElem?_getD, List.getElem?_append_left hk1, ← List.getD_eq_getElem?_getD]
              cases hx2 with
              | sl0 => simp at hk1
              | sl _ _ _ _ _ _ _ us a1 a2 a3 a4 a5 a6 =>
                have b1 := a6 k hk1
                have b2 := r2
                cases b2 with
                | sl0 => simp at hk1
                | sl _ _ _ _ _ _ _ us' a1' a2' a3' a4' a5' a6' =>
                  have b3 := a5' k hk1
                  simp only [World.cell?, q3, Nat.zero_add] at b3
                  have b4 : c0.getD k undef = us'.getD k undef := by
                    have : c0[k]? = some (us'.getD k undef) := by simpa using b3
                    simp [Array.getD_eq_getD_getElem?, this]
                  rw [b4]
                  exact (a6' k hk1).onto hon
            · rw [if_pos (by rw [← hnl]; omega), List.getD_eq_getElem?_getD, List.getElem?_append_right (by omega), ← List.getD_eq_getElem?_getD, hcs]
              exact hvo hon _ (by omega))
        ⟨rfl, .inr ⟨blk, c1, e0, fr0, rfl, rfl, putBlk_same f3, by rw [p2]; exact q4, fun k hk => q5 k (by omega), by simp [G.protAt, upd_same], hroom, q8⟩⟩
        (fun bl hbl => by
          cases hbl
          exact ⟨f1, f2, by simpa [World.putBlk] using f3, f4⟩)
      refine hput (g.protAt blk ((n' + m) * ei.sz)) obn (fun _ => .unk) (.slice (some ⟨blk, 0, none⟩) (n' + m) cap) _ rfl r6 ?_
      rw [hrunop]
      have := run_append_roomG (P := P) (w := w) t xt o.type e tinf hu hti (some ⟨blk, 0, none⟩) n' cap m _ news (by rw [hsz']; exact hsrc) hroom (fun ad had => by
        cases had
        rw [addr_add, hsz', Nat.zero_add]
        exact hst) (fun k => by cases k)
      simp only [Sem.run_bind, this, Result.andThen_ok, Sem.run_pure]
  · -- a new array
    have hold : ∃ olds : List Value, olds.length = n' * ei.sz ∧ (Builtin.firstCells ei.sz n' (.slice base n' cap)).run P w.drew = .ok olds.toArray w.drew ∧ ∀ k, k < cs.length → VR g w (cs.getD k .unk) (olds.getD k undef) := by
      cases r2 with
      | sl0 =>
        refine ⟨[], by simp, ?_, fun k hk => by simp at hk⟩
        cases base with
        | none => simp [Builtin.firstCells]
        | some ad => simp [Builtin.firstCells, loadCells, loadCellsFrom]
      | sl _ _ _ _ blk off _ us a1 a2 a3 a4 a5 a6 =>
        refine ⟨(List.range cs.length).map fun k => us.getD k undef, by simpa using a1, firstCells_some (by simpa using a1) (fun k hk => ?_), fun k hk => ?_⟩
        · simp only [List.length_map, List.length_range] at hk
          have : w.drew.cell? ⟨blk, off + k, none⟩ = some (us.getD k undef) := a5 k hk
          rw [addr_add, this]
          simp [List.getD_eq_getElem?_getD, hk]
        · have := a6 k hk
          simpa [List.getD_eq_getElem?_getD, hk] using this
    obtain ⟨olds, o1, o2, o3⟩ := hold
    have hrun := run_append_growG (P := P) (w := w) t xt o.type e tinf z hu hti htz base n' cap m _ olds news (by rw [hsz']; exact hsrc) (by rw [hsz']; exact o2) (by omega) h63 (by rw [hby']; exact hb)
    have hge := grownCap_ge w (n' + m) cap e
    have hcm := grownCap_le_maxLen w (n' + m) cap e h63
    generalize hgc : grownCap w (n' + m) cap e = gc at *
    obtain ⟨g', obn, hg, r6⟩ := r4.drew.newRow (d := d) (by omega) ei.sz (n' + m) gc (cs ++ xs) (olds.toArray ++ news.toArray ++ Builtin.zeroCells z.cells (gc - (n' + m))) e (0, 0) hlen (by
        simp only [Array.size_append, List.size_toArray, size_zeroCells, hz3, o1, ← hnl, hxl, ← Nat.add_mul]
        congr 1; omega) hge hcm (thawed0 _ _ (.inr rfl)) (fun k hk => by
        rw [List.length_append] at hk
        have hdr : Onto g g w w.drew := ⟨fun _ _ _ _ h => h, fun _ => Nat.le_refl _, fun _ _ => rfl, Nat.le_refl _, fun _ _ => Iff.rfl⟩
        by_cases hk1 : k < cs.length
        · have e1 : (olds.toArray ++ news.toArray ++ Builtin.zeroCells z.cells (gc - (n' + m))).getD k undef = olds.getD k undef := by
            rw [Array.getD_eq_getD_getElem?, Array.append_assoc, Array.getElem?_append_left (by simp; omega)]
            simp [List.getD_eq_getElem?_getD]
          rw [e1, List.getD_eq_getElem?_getD, List.getElem?_append_left hk1, ← List.getD_eq_getElem?_getD]
          exact (o3 k hk1).onto hdr
        · have e1 : (olds.toArray ++ news.toArray ++ Builtin.zeroCells z.cells (gc - (n' + m))).getD k undef = news.getD (k - cs.length) undef := by
            rw [Array.getD_eq_getD_getElem?, Array.getElem?_append_left (by simp; omega), Array.getElem?_append_right (by simp; omega)]
            simp [List.getD_eq_getElem?_getD, o1, hcs]
          rw [e1, List.getD_eq_getElem?_getD, List.getElem?_append_right (by omega), ← List.getD_eq_getElem?_getD]
          exact (hnv _ (by omega)).onto hdr)
    refine hput g' obn (fun _ => .unk) _ _ hg r6 ?_
    rw [hrunop]
    simp only [Sem.run_bind, hrun, Result.andThen_ok, Sem.run_pure]
    rfl

end Go.VL

set_option linter.unusedVariables false
set_option linter.unusedSimpArgs false
open Go.RowKit
namespace Go.VL
variable {P : Program} {H : Env} {L : LEnv} {E : Entry} {nt : Nat} {w : World}

theorem step_appendNil (hH : EnvOk P H) {gl : Nat → Option (List V)} (hG : GlOk E.g0 E.w0 gl) {o : Oper} {σ : S} {d m : Nat} {t xt e : TypeId} {ti xi ei : TyI} {x y : Operand} {xs : List V} {c : Prop}
    (hop : o.op = .call { callee := .builtin .append, args := #[x, y], argTypes := #[t, xt] }) (ho : o.dst = some d) (hd : d < nt) (ht : H.get t = some ti) (hte : ti.k = .sl e) (he : H.get e = some ei) (hx : H.get xt = some xi) (hxi : notIntT xi = true)
    (hz : ei.zok = true) (hi : evO (lk σ.sl) gl x = .nil) (hs : srcV σ.mem ei.sz (evO (lk σ.sl) gl y) = some (c, m, xs)) (hc : c)
    (h63 : m ≤ maxLen) (hb : m * ei.bytes ≤ 140737488355328) :
    StepTo P E nt o σ (σ.set d (.sl true ei.sz m xs)) := by
  rintro a w ⟨g, ob, h1, h2, h3, h4⟩
  have hsl := h1.slot
  have hbx : BoxesAt g w σ.mem := h1.box
  have hyk : evO (lk σ.sl) gl y ≠ .unk := by intro k; rw [k] at hs; cases hs
  have hy := evO_rel (d := a.defers) hsl (hG.onto h1.onto) y hyk
  have hxv := evO_rel (d := a.defers) hsl (hG.onto h1.onto) x (by rw [hi]; simp)
  rw [hi] at hxv
  have hev : a.eval x = .slice none 0 0 := by
    show Act.eval { tmps := a.tmps, defers := a.defers } x = _
    generalize Act.eval { tmps := a.tmps, defers := a.defers } x = q at hxv
    cases hxv; rfl
  obtain ⟨news, hsrc, hnl, hnv⟩ := srcV_rel (P := P) hH hbx hx hxi hy hs hc
  have hu := (hH.tells ht).und_sl hte
  have hT := hH.tells he
  obtain ⟨z, hz1, hz2, hz3, tinf, hti, htz⟩ := hT.zeroVal (w := w) (g := g) hz
  obtain ⟨ti', hti', hsz', hby', _⟩ := hT.isz
  rw [hti] at hti'
  cases hti'
  have hrunop : (execOp a.eval o).run P w = (do pure (.value (← Builtin.append_ #[t, xt] o.type #[.slice none 0 0, a.eval y])) : Sem Next).run P w := by
    obtain ⟨dst, op, ty, pos, after, guard⟩ := o
    simp only at hop
    subst hop
    simp only [execOp, resolve, Sem.run_bind, Sem.run_pure, Result.andThen_ok, invoke, builtin, List.map_toArray, List.map_cons, List.map_nil, hev]
  have hxl : xs.length = m * ei.sz := by rw [hnl]; exact hsrc.size
  left
  by_cases hm : m = 0
  · subst hm
    have hx0 : xs = [] := List.eq_nil_of_length_eq_zero (by simpa using hxl)
    have hn0 : news = [] := List.eq_nil_of_length_eq_zero (by rw [← hnl, hx0]; rfl)
    subst hx0
    subst hn0
    have hrun := run_append_roomG (P := P) (w := w) t xt o.type e tinf hu hti none 0 0 0 _ [] (by rw [hsz']; exact hsrc) (Nat.le_refl _) (w' := w) (fun ad k => by cases k) (fun _ => rfl)
    obtain ⟨obn, _, r6⟩ := h1.give (d := d) (sz := ei.sz) (n := 0) (cs := []) (v := .slice none 0 0) (obv := none) (by omega) (.sl0 true ei.sz none 0) ⟨rfl, .inl rfl⟩ (fun _ k => by cases k)
    refine ⟨.slice none 0 0, w, ?_, ?_⟩
    · rw [hrunop]
      simp only [Sem.run_bind, hrun, Result.andThen_ok, Sem.run_pure, Nat.add_zero]
    · rw [ho, put_some]
      refine ⟨g, obn, ?_, h2, h3, by simpa using h4⟩
      simp only [S.set, lk_cons]
      exact r6
  · have hrun := run_append_growG (P := P) (w := w) t xt o.type e tinf z hu hti htz none 0 0 m _ [] news (by rw [hsz']; exact hsrc) (by simp [Builtin.firstCells]) (by omega) (by omega) (by rw [hby', Nat.zero_add]; exact hb)
    have hge := grownCap_ge w (0 + m) 0 e
    have hcm := grownCap_le_maxLen w (0 + m) 0 e (by omega)
    generalize hgc : grownCap w (0 + m) 0 e = gc at *
    rw [Nat.zero_add] at hge hrun
    have hdr : Onto g g w w.drew := ⟨fun _ _ _ _ h => h, fun _ => Nat.le_refl _, fun _ _ => rfl, Nat.le_refl _, fun _ _ => Iff.rfl⟩
    obtain ⟨g', obn, hg, r6⟩ := h1.drew.newRow (d := d) (by omega) ei.sz m gc xs (([] : List Value).toArray ++ news.toArray ++ Builtin.zeroCells z.cells (gc - m)) e (0, 0) hxl (by
        simp only [Array.size_append, List.size_toArray, size_zeroCells, hz3, ← hnl, hxl, List.length_nil, Nat.zero_add, ← Nat.add_mul]
        congr 1; omega) hge hcm (thawed0 _ _ (.inr rfl)) (fun k hk => by
        have e1 : (([] : List Value).toArray ++ news.toArray ++ Builtin.zeroCells z.cells (gc - m)).getD k undef = news.getD k undef := by
          rw [Array.getD_eq_getD_getElem?, Array.getElem?_append_left (by simp; omega)]
          simp [List.getD_eq_getElem?_getD]
        rw [e1]
        exact (hnv _ hk).onto hdr)
    refine ⟨.slice (some ⟨w.heap.size, 0, none⟩) m gc, w.drew.alloc (.cells (([] : List Value).toArray ++ news.toArray ++ Builtin.zeroCells z.cells (gc - m)) e), ?_, ?_⟩
    · rw [hrunop]
      simp only [Sem.run_bind, hrun, Result.andThen_ok, Sem.run_pure]
    · rw [ho, put_some]
      refine ⟨g', obn, ?_, by rw [hg]; exact h2, h3, by simpa using h4⟩
      simp only [S.set, lk_cons]
      exact r6

def bytesC (s : ByteArray) : List V := s.data.toList.map fun b => .flat (.int .u8 b.toNat)
theorem length_bytesC (s : ByteArray) : (bytesC s).length = s.size := by simp [bytesC]

theorem bytesWorld_eq (e : TypeId) (s : ByteArray) : Lib.bytesWorld w e s = w.drew.alloc (.cells (Lib.bytesCells w e s) e ((Lib.bytesCells w e s).size, (Lib.bytesCells w e s).size + 1)) := by
  have h1 := Lib.bytesWorld_size w e s
  have h2 : (Lib.bytesWorld w e s).heap = (w.drew.alloc (.cells (Lib.bytesCells w e s) e ((Lib.bytesCells w e s).size, (Lib.bytesCells w e s).size + 1))).heap := by
    apply arr_ext
    intro i
    by_cases hi : i < w.heap.size
    · rw [Lib.bytesWorld_at_old w e s i hi]
      exact (Below.heap_alloc w.drew _ i hi).symm
    · by_cases hi2 : i = w.heap.size
      · subst hi2
        rw [Lib.bytesWorld_at_new]
        exact (heap_alloc_new w.drew _).symm
      · rw [Array.getElem?_eq_none (by omega), Array.getElem?_eq_none (by simp; omega)]
  have h3 : (Lib.bytesWorld w e s).tape = w.tape ∧ (Lib.bytesWorld w e s).drawn = w.drawn + 1 ∧ (Lib.bytesWorld w e s).os = w.os ∧ (Lib.bytesWorld w e s).output = w.output := by
    unfold Lib.bytesWorld World.freeze
    split <;> exact ⟨rfl, rfl, rfl, rfl⟩
  generalize Lib.bytesWorld w e s = W at h1 h2 h3
  obtain ⟨hp, tp, dr, os, out⟩ := W
  obtain ⟨e1, e2, e3, e4⟩ := h3
  simp only at h2 e1 e2 e3 e4
  subst h2 e1 e2 e3 e4
  rfl

theorem step_bytes (hH : EnvOk P H) {gl : Nat → Option (List V)} (hG : GlOk E.g0 E.w0 gl) {o : Oper} {σ : S} {d : Nat} {t u e : TypeId} {ti ui ei : TyI} {x : Operand} {s : ByteArray}
    (hop : o.op = .convert u t x) (ho : o.dst = some d) (hd : d < nt) (hu : H.get u = some ui) (huk : ui.k = .str) (ht : H.get t = some ti) (hte : ti.k = .sl e) (he : H.get e = some ei) (hek : ei.k = .int .u8)
    (hi : evO (lk σ.sl) gl x = .flat (.string s)) (h63 : s.size ≤ maxLen) : StepTo P E nt o σ (σ.set d (.sl true 1 s.size (bytesC s))) := by
  rintro a w ⟨g, ob, h1, h2, h3, h4⟩
  have hxv := evO_rel (d := a.defers) h1.slot (hG.onto h1.onto) x (by rw [hi]; simp)
  rw [hi] at hxv
  have hev : a.eval x = .string s := by
    show Act.eval { tmps := a.tmps, defers := a.defers } x = _
    generalize Act.eval { tmps := a.tmps, defers := a.defers } x = q at hxv
    cases hxv; rfl
  have hrun := Lib.run_convert_string_bytes (P := P) w u t e s ((hH.tells hu).und_str huk) ((hH.tells ht).und_sl hte) ((hH.tells he).und_int hek)
  rw [bytesWorld_eq] at hrun
  have hge := grownCap_ge w s.size 0 e
  have hcm := grownCap_le_maxLen w s.size 0 e h63
  have hdr : Onto g g w w.drew := ⟨fun _ _ _ _ h => h, fun _ => Nat.le_refl _, fun _ _ => rfl, Nat.le_refl _, fun _ _ => Iff.rfl⟩
  have hcs : (Lib.bytesCells w e s).size = grownCap w s.size 0 e * 1 := by
    simp only [Lib.bytesCells, Array.size_append, Array.size_map, Array.size_replicate]
    show s.size + _ = _
    omega
  obtain ⟨g', obn, hg, r6⟩ := h1.drew.newRow (d := d) (by omega) 1 s.size (grownCap w s.size 0 e) (bytesC s) (Lib.bytesCells w e s) e ((Lib.bytesCells w e s).size, (Lib.bytesCells w e s).size + 1)
    (by rw [length_bytesC]; omega) hcs hge hcm (thawed0 _ _ (.inl (Nat.le_refl _))) (fun k hk => by
      rw [length_bytesC] at hk
      have hk' : k < s.data.size := hk
      have e1 : (Lib.bytesCells w e s).getD k undef = .int .u8 (s.data[k]).toNat := by
        rw [Array.getD_eq_getD_getElem?, Lib.bytesCells, Array.getElem?_append_left (by simpa using hk')]
        simp [Array.getElem?_eq_getElem hk']
      have e2 : (bytesC s).getD k .unk = .flat (.int .u8 (s.data[k]).toNat) := by
        simp [bytesC, List.getD_eq_getElem?_getD, Array.getElem?_eq_getElem hk']
      rw [e1, e2]
      exact .flat _ rfl)
  refine .inl ⟨.slice (some ⟨w.heap.size, 0, none⟩) s.size (grownCap w s.size 0 e), w.drew.alloc (.cells (Lib.bytesCells w e s) e ((Lib.bytesCells w e s).size, (Lib.bytesCells w e s).size + 1)), ?_, ?_⟩
  · obtain ⟨dst, op, ty, pos, after, guard⟩ := o
    simp only at hop
    subst hop
    simp only [execOp, Sem.run_bind, hev, hrun, Result.andThen_ok, Sem.run_pure]
  · rw [ho, put_some]
    refine ⟨g', obn, ?_, by rw [hg]; exact h2, h3, by simpa using h4⟩
    simp only [S.set, lk_cons]
    exact r6

theorem step_bytesBox (hH : EnvOk P H) {gl : Nat → Option (List V)} (hG : GlOk E.g0 E.w0 gl) {o : Oper} {σ : S} {d : Nat} {t u e : TypeId} {ti ui ei : TyI} {x : Operand} {s : ByteArray}
    (hop : o.op = .convert u t x) (ho : o.dst = some d) (hd : d < nt) (hu : H.get u = some ui) (huk : ui.k = .str) (ht : H.get t = some ti) (hte : ti.k = .sl e) (he : H.get e = some ei) (hek : ei.k = .int .u8)
    (hi : evO (lk σ.sl) gl x = .flat (.string s)) (h63 : s.size ≤ maxLen) :
    StepTo P E nt o σ { sl := (d, .bs σ.mn 0 s.size (s.size + 1)) :: σ.sl, mem := upd σ.mem σ.mn (some (bytesC s)), mn := σ.mn + 1 } := by
  rintro a w ⟨g, ob, h1, h2, h3, h4⟩
  have hxv := evO_rel (d := a.defers) h1.slot (hG.onto h1.onto) x (by rw [hi]; simp)
  rw [hi] at hxv
  have hev : a.eval x = .string s := by
    show Act.eval { tmps := a.tmps, defers := a.defers } x = _
    generalize Act.eval { tmps := a.tmps, defers := a.defers } x = q at hxv
    cases hxv; rfl
  have hrun := Lib.run_convert_string_bytes (P := P) w u t e s ((hH.tells hu).und_str huk) ((hH.tells ht).und_sl hte) ((hH.tells he).und_int hek)
  rw [bytesWorld_eq] at hrun
  have hge := grownCap_ge w s.size 0 e
  have hcs : (Lib.bytesCells w e s).size = grownCap w s.size 0 e * 1 := by
    simp only [Lib.bytesCells, Array.size_append, Array.size_map, Array.size_replicate]
    show s.size + _ = _
    omega
  obtain ⟨g', hg, r5⟩ := h1.drew.newBoxF (d := d) (by omega) (bytesC s) (Lib.bytesCells w e s) e ((Lib.bytesCells w e s).size, (Lib.bytesCells w e s).size + 1) (thawed0 _ _ (.inl (Nat.le_refl _)))
    (by rw [length_bytesC]; omega) (fun k hk => by
      rw [length_bytesC] at hk
      have hk' : k < s.data.size := hk
      have e1 : (Lib.bytesCells w e s).getD k undef = .int .u8 (s.data[k]).toNat := by
        rw [Array.getD_eq_getD_getElem?, Lib.bytesCells, Array.getElem?_append_left (by simpa using hk')]
        simp [Array.getElem?_eq_getElem hk']
      have e2 : (bytesC s).getD k .unk = .flat (.int .u8 (s.data[k]).toNat) := by
        simp [bytesC, List.getD_eq_getElem?_getD, Array.getElem?_eq_getElem hk']
      rw [e1, e2]
      exact .flat _ rfl) (fun o sz n xs q => by
      have := List.mem_of_getElem? q
      simp [bytesC] at this)
  have hbp := r5.slot d (by rw [upd_same]; simp)
  rw [upd_same, getD_set (by omega), if_pos rfl] at hbp
  have hφ : g'.φ g.mn = w.heap.size ∧ g'.ok g.mn := by
    generalize hq : (Value.pointer (some ⟨w.drew.heap.size, 0, none⟩)) = q at hbp
    cases hbp with
    | bp b off hb => simp only [Value.pointer.injEq, Option.some.injEq, Addr.mk.injEq] at hq; exact ⟨hq.1.symm, hb⟩
  have r6 := r5.put (d := d) (x := .bs g.mn 0 s.size (s.size + 1)) (v := .slice (some ⟨w.heap.size, 0, none⟩) s.size (grownCap w s.size 0 e)) (by simp; omega) (fun _ => by
    rw [← hφ.1]; exact .bs g.mn 0 s.size (s.size + 1) _ hφ.2 hge (fun h => absurd h (by omega))) (fun j sz n xs k => by cases j <;> simp [comp] at k)
  have e1 : upd (upd (lk σ.sl) d (.bp g.mn 0)) d (.bs g.mn 0 s.size (s.size + 1)) = upd (lk σ.sl) d (.bs g.mn 0 s.size (s.size + 1)) := by funext i; simp only [upd]; split <;> rfl
  have e2 : (a.tmps.setIfInBounds d (.pointer (some ⟨w.drew.heap.size, 0, none⟩))).setIfInBounds d (.slice (some ⟨w.heap.size, 0, none⟩) s.size (grownCap w s.size 0 e)) = a.tmps.setIfInBounds d (.slice (some ⟨w.heap.size, 0, none⟩) s.size (grownCap w s.size 0 e)) := by
    apply arr_ext
    intro i
    simp only [Array.getElem?_setIfInBounds, Array.size_setIfInBounds]
    split <;> rfl
  rw [e1, e2] at r6
  refine .inl ⟨.slice (some ⟨w.heap.size, 0, none⟩) s.size (grownCap w s.size 0 e), w.drew.alloc (.cells (Lib.bytesCells w e s) e ((Lib.bytesCells w e s).size, (Lib.bytesCells w e s).size + 1)), ?_, ⟨g', ob, ?_, by rw [hg, h2], ?_, ?_⟩⟩
  · obtain ⟨dst, op, ty, pos, after, guard⟩ := o
    simp only at hop
    subst hop
    simp only [execOp, Sem.run_bind, hev, hrun, Result.andThen_ok, Sem.run_pure]
  · rw [ho, put_some]
    simp only [lk_cons]
    rw [← h2]
    exact r6
  · rw [ho, put_some]; exact h3
  · rw [ho, put_some]; simpa using h4

theorem run_make (hH : EnvOk P H) {t e : TypeId} {ti ei : TyI} {n : Int} {k k' : IntKind} {z : Value} (ht : H.get t = some ti) (hte : ti.k = .sl e) (he : H.get e = some ei) (hz1 : (zeroValue e).run P w = .ok z w) (hzs : z.cells.size = ei.sz)
    (h0 : 0 ≤ n) (h63 : n ≤ 9223372036854775807) (hb : ei.bytes * n ≤ 281474976710656) :
    (Instr.makeSlice t (.int k n) (.int k' n)).run P w = .ok (.slice (some ⟨w.heap.size, 0, none⟩) n.toNat n.toNat) (w.alloc (.cells ((Array.range (n.toNat * z.cells.size)).map (fun k => z.cells[k % z.cells.size]!)) e)) := by
  have hu := (hH.tells ht).und_sl hte
  obtain ⟨tinf, hti, hsz, hby, _⟩ := (hH.tells he).isz
  have hw : IntKind.i64.wrap n = n := by
    rw [IntKind.wrap_i64]
    omega
  have h1 : ¬ (n < 0) := by omega
  have h2 : ¬ ((ei.bytes : Int) * n > 281474976710656) := by omega
  have hs := (hH.tells he).size (w := w)
  simp only [Instr.makeSlice, Sem.run_bind, run_underlying' hu, Result.andThen_ok, asInt, asIntOf, Sem.run_pure, run_typeInfo' hti, hw, hby, h1, decide_false, Bool.false_or]
  have h3 : (decide ((ei.bytes : Int) * n > 2 ^ 48)) = false := by
    rw [decide_eq_false_iff_not]; omega
  simp only [h3, Bool.false_or, Int.lt_irrefl, gt_iff_lt, decide_false, Bool.false_eq_true, if_false, Sem.run_bind, run_askRoom, Result.andThen_ok, hs, Bool.or_self]
  by_cases hn : n.toNat * ei.sz = 0
  · have e0 : ∀ f : Nat → Value, Array.map f (Array.range 0) = #[] := fun f => by simp
    simp only [hn, if_true, Sem.run_pure, Result.andThen_ok, newRow, Sem.run_bind, run_newObj, hzs, e0]
    rfl
  · simp only [hn, if_false, Sem.run_bind, hz1, Result.andThen_ok, newRow, Sem.run_pure, run_newObj, hzs]
    rfl

theorem evInt {σ : S} {gl : Nat → Option (List V)} {g : G} {tm : Array Value} {dl : List Deferred} (hs : ∀ i, lk σ.sl i ≠ .unk → VR g w (lk σ.sl i) (tm.getD i undef)) (hG : GlOk g w gl) {x : Operand} {v : Value} (hv : evO (lk σ.sl) gl x = .flat v) :
    Act.eval { tmps := tm, defers := dl } x = v := by
  have := evO_rel (d := dl) hs hG x (by rw [hv]; simp)
  rw [hv] at this
  generalize Act.eval { tmps := tm, defers := dl } x = q at this
  cases this; rfl

theorem step_make (hH : EnvOk P H) {gl : Nat → Option (List V)} (hG : GlOk E.g0 E.w0 gl) {o : Oper} {σ : S} {d : Nat} {t e : TypeId} {ti ei : TyI} {x y : Operand} {n : Int} {k k' : IntKind} (hop : o.op = .makeSlice t x y) (ho : o.dst = some d) (hd : d < nt)
    (ht : H.get t = some ti) (hte : ti.k = .sl e) (he : H.get e = some ei) (hz : ei.zok = true) (hx : evO (lk σ.sl) gl x = .flat (.int k n)) (hy : evO (lk σ.sl) gl y = .flat (.int k' n))
    (h0 : 0 ≤ n) (h63 : n ≤ 9223372036854775807) (hb : ei.bytes * n ≤ 281474976710656) : StepTo P E nt o σ (σ.set d (.sl true ei.sz n.toNat (rep n.toNat ei.zero))) := by
  rintro a w ⟨g, ob, h1, h2, h3, h4⟩
  have hx' : a.eval x = .int k n := evInt (σ := σ) (dl := a.defers) h1.slot (hG.onto h1.onto) hx
  have hy' : a.eval y = .int k' n := evInt (σ := σ) (dl := a.defers) h1.slot (hG.onto h1.onto) hy
  have hT := hH.tells he
  obtain ⟨z, hz1, hz2, hz3, _⟩ := hT.zeroVal (w := w) (g := g) hz
  have hrun := run_make (P := P) (w := w) (k := k) (k' := k') hH ht hte he hz1 hz3 h0 h63 hb
  have hrep := rep_rel hz2 n.toNat
  obtain ⟨g', obn, hg, r6⟩ := h1.newRow (d := d) (by omega) ei.sz n.toNat n.toNat (rep n.toNat ei.zero) _ e (0, 0) (by rw [length_rep, ← hz2.1, hz3]) (by simp [hz3]) (Nat.le_refl _) (by unfold maxLen; omega) (thawed0 _ _ (.inr rfl)) hrep.2
  refine .inl ⟨.slice (some ⟨w.heap.size, 0, none⟩) n.toNat n.toNat, (w.alloc (.cells ((Array.range (n.toNat * z.cells.size)).map (fun k => z.cells[k % z.cells.size]!)) e)), ?_, ⟨g', obn, ?_, by rw [hg]; exact h2, ?_, ?_⟩⟩
  · obtain ⟨dst, op, ty, pos, after, guard⟩ := o
    simp only at hop
    subst hop
    simp only [execOp, Sem.run_bind, hx', hy', hrun, Result.andThen_ok, Sem.run_pure]
  · rw [ho, put_some]
    simp only [S.set, lk_cons]
    exact r6
  · rw [ho, put_some]; exact h3
  · rw [ho, put_some]; simpa using h4

theorem rep_noOwn {z : List V} (h : ∀ x ∈ z, noOwnB x = true) (n : Nat) : ∀ x ∈ rep n z, noOwnB x = true := by
  intro x hx
  simp only [rep, List.mem_flatten, List.mem_replicate] at hx
  obtain ⟨l, ⟨_, rfl⟩, hxl⟩ := hx
  exact h x hxl

theorem step_makeBox (hH : EnvOk P H) {gl : Nat → Option (List V)} (hG : GlOk E.g0 E.w0 gl) {o : Oper} {σ : S} {d : Nat} {t e : TypeId} {ti ei : TyI} {x y : Operand} {n : Int} {k k' : IntKind} (hop : o.op = .makeSlice t x y) (ho : o.dst = some d) (hd : d < nt)
    (ht : H.get t = some ti) (hte : ti.k = .sl e) (he : H.get e = some ei) (hz : ei.zok = true) (hx : evO (lk σ.sl) gl x = .flat (.int k n)) (hy : evO (lk σ.sl) gl y = .flat (.int k' n))
    (h0 : 0 ≤ n) (h63 : n ≤ 9223372036854775807) (hb : ei.bytes * n ≤ 281474976710656) :
    StepTo P E nt o σ { sl := (d, .bs σ.mn 0 n.toNat n.toNat) :: σ.sl, mem := upd σ.mem σ.mn (some (rep n.toNat ei.zero)), mn := σ.mn + 1 } := by
  rintro a w ⟨g, ob, h1, h2, h3, h4⟩
  have hx' : a.eval x = .int k n := evInt (σ := σ) (dl := a.defers) h1.slot (hG.onto h1.onto) hx
  have hy' : a.eval y = .int k' n := evInt (σ := σ) (dl := a.defers) h1.slot (hG.onto h1.onto) hy
  have hT := hH.tells he
  obtain ⟨z, hz1, hz2, hz3, _⟩ := hT.zeroVal (w := w) (g := g) hz
  have hrun := run_make (P := P) (w := w) (k := k) (k' := k') hH ht hte he hz1 hz3 h0 h63 hb
  have hrep := rep_rel hz2 n.toNat
  obtain ⟨g', hg, r5⟩ := h1.newBox (d := d) (by omega) (rep n.toNat ei.zero) _ e hrep (noOwn_cells (rep_noOwn hT.zero_noOwn _))
  have hbp := r5.slot d (by rw [upd_same]; simp)
  rw [upd_same, getD_set (by omega), if_pos rfl] at hbp
  have hφ : g'.φ g.mn = w.heap.size ∧ g'.ok g.mn := by
    generalize hq : (Value.pointer (some ⟨w.heap.size, 0, none⟩)) = q at hbp
    cases hbp with
    | bp b off hb => simp only [Value.pointer.injEq, Option.some.injEq, Addr.mk.injEq] at hq; exact ⟨hq.1.symm, hb⟩
  have r6 := r5.put (d := d) (x := .bs g.mn 0 n.toNat n.toNat) (v := .slice (some ⟨w.heap.size, 0, none⟩) n.toNat n.toNat) (by simp; omega) (fun _ => by
    rw [← hφ.1]; exact .bs g.mn 0 n.toNat n.toNat n.toNat hφ.2 (Nat.le_refl _) (fun h => h)) (fun j sz n xs k => by cases j <;> simp [comp] at k)
  have e1 : upd (upd (lk σ.sl) d (.bp g.mn 0)) d (.bs g.mn 0 n.toNat n.toNat) = upd (lk σ.sl) d (.bs g.mn 0 n.toNat n.toNat) := by funext i; simp only [upd]; split <;> rfl
  have e2 : (a.tmps.setIfInBounds d (.pointer (some ⟨w.heap.size, 0, none⟩))).setIfInBounds d (.slice (some ⟨w.heap.size, 0, none⟩) n.toNat n.toNat) = a.tmps.setIfInBounds d (.slice (some ⟨w.heap.size, 0, none⟩) n.toNat n.toNat) := by
    apply arr_ext
    intro i
    simp only [Array.getElem?_setIfInBounds, Array.size_setIfInBounds]
    split <;> rfl
  rw [e1, e2] at r6
  refine .inl ⟨.slice (some ⟨w.heap.size, 0, none⟩) n.toNat n.toNat, (w.alloc (.cells ((Array.range (n.toNat * z.cells.size)).map (fun k => z.cells[k % z.cells.size]!)) e)), ?_, ⟨g', ob, ?_, by rw [hg, h2], ?_, ?_⟩⟩
  · obtain ⟨dst, op, ty, pos, after, guard⟩ := o
    simp only at hop
    subst hop
    simp only [execOp, Sem.run_bind, hx', hy', hrun, Result.andThen_ok, Sem.run_pure]
  · rw [ho, put_some]
    simp only [lk_cons]
    rw [← h2]
    exact r6
  · rw [ho, put_some]; exact h3
  · rw [ho, put_some]; simpa using h4

theorem step_buildBox (hH : EnvOk P H) {gl : Nat → Option (List V)} (hG : GlOk E.g0 E.w0 gl) {o : Oper} {σ : S} {d n : Nat} {t e : TypeId} {ti i : TyI} {ps : Array (Nat × Operand)} (hop : o.op = .buildSlice t n ps) (ho : o.dst = some d) (hd : d < nt)
    (ht : H.get t = some ti) (hte : ti.k = .sl e) (hi : H.get e = some i) (hz : i.zok = true) (hsz : n * i.sz ≤ 2 ^ 24) (hpos : 0 < n * i.sz) {c : Prop} {r : List V}
    (hf : fillV (fun k => some (k * i.sz, i.sz)) (rep n i.zero) (ps.toList.map fun p => (p.1, (evO (lk σ.sl) gl p.2).fz)) = some (c, r)) (hc : c) (hk : ∀ p ∈ ps.toList, evO (lk σ.sl) gl p.2 ≠ .unk) (hno : ∀ x ∈ r, noOwnB x = true) :
    StepTo P E nt o σ { sl := (d, .bs σ.mn 0 n n) :: σ.sl, mem := upd σ.mem σ.mn (some r), mn := σ.mn + 1 } := by
  rintro a w ⟨g, ob, h1, h2, h3, h4⟩
  have hT := hH.tells hi
  obtain ⟨z, hz1, hz2, hz3, _⟩ := hT.zeroVal (w := w) (g := g) hz
  have hu := (hH.tells ht).und_sl hte
  have hrep := rep_rel hz2 n
  obtain ⟨rs, r1, r2⟩ := fillV_rel (g := g) (w := w) _ _ (ps.toList.map fun p => (p.1, a.eval p.2)) _ _ c r hrep (by simp) (fun j k x hj => by
    simp only [List.getElem?_map, Option.map_eq_some_iff] at hj
    obtain ⟨⟨k', y⟩, hp, e⟩ := hj
    simp only [Prod.mk.injEq] at e
    obtain ⟨rfl, rfl⟩ := e
    refine ⟨a.eval y, by simp [hp], ?_⟩
    have := evO_rel (d := a.defers) h1.slot (hG.onto h1.onto) y (hk _ (List.mem_of_getElem? hp))
    exact this.fz) hf hc
  obtain ⟨g', hg, r5⟩ := h1.newBox (d := d) (by omega) r rs e r2 (noOwn_cells hno)
  have hbp := r5.slot d (by rw [upd_same]; simp)
  rw [upd_same, getD_set (by omega), if_pos rfl] at hbp
  have hφ : g'.φ g.mn = w.heap.size ∧ g'.ok g.mn := by
    generalize hq : (Value.pointer (some ⟨w.heap.size, 0, none⟩)) = q at hbp
    cases hbp with
    | bp b off hb => simp only [Value.pointer.injEq, Option.some.injEq, Addr.mk.injEq] at hq; exact ⟨hq.1.symm, hb⟩
  have r6 := r5.put (d := d) (x := .bs g.mn 0 n n) (v := .slice (some ⟨w.heap.size, 0, none⟩) n n) (by simp; omega) (fun _ => by
    rw [← hφ.1]; exact .bs g.mn 0 n n n hφ.2 (Nat.le_refl _) (fun h => h)) (fun j sz n xs k => by cases j <;> simp [comp] at k)
  have e1 : upd (upd (lk σ.sl) d (.bp g.mn 0)) d (.bs g.mn 0 n n) = upd (lk σ.sl) d (.bs g.mn 0 n n) := by funext i; simp only [upd]; split <;> rfl
  have e2 : (a.tmps.setIfInBounds d (.pointer (some ⟨w.heap.size, 0, none⟩))).setIfInBounds d (.slice (some ⟨w.heap.size, 0, none⟩) n n) = a.tmps.setIfInBounds d (.slice (some ⟨w.heap.size, 0, none⟩) n n) := by
    apply arr_ext
    intro i
    simp only [Array.getElem?_setIfInBounds, Array.size_setIfInBounds]
    split <;> rfl
  rw [e1, e2] at r6
  refine .inl ⟨.slice (some ⟨w.heap.size, 0, none⟩) n n, w.alloc (.cells rs e), ?_, ⟨g', ob, ?_, by rw [hg, h2], ?_, ?_⟩⟩
  · obtain ⟨dst, op, ty, pos, after, guard⟩ := o
    simp only at hop
    subst hop
    have e1 : ¬ (n * i.sz > 2 ^ 24) := by omega
    have e2 : ¬ (n * i.sz = 0) := by omega
    have e3 : (ps.map fun (k, x) => (k, a.eval x)).toList = ps.toList.map fun p => (p.1, a.eval p.2) := by simp
    rw [hz3] at r1
    simp only [execOp, Instr.buildSlice, Sem.run_bind, run_underlying' hu, Result.andThen_ok, hT.size, e1, if_false, e2, hz1, Sem.run_pure, e3, r1, newRow, run_newObj, hz3]
    rfl
  · rw [ho, put_some]
    simp only [lk_cons]
    rw [← h2]
    exact r6
  · rw [ho, put_some]; exact h3
  · rw [ho, put_some]; simpa using h4

end Go.VL
