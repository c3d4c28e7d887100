/- Part VL1 of the proof: made for this claim. -/
import Derived.Calls
import Derived.Orders
import Derived.Carry
import Derived.Below
/-! VL: value-level symbolic execution. Part 1: abstract values, the ghost state, what it means that they stand for concrete ones. -/
set_option linter.unusedVariables false
namespace Go.VL

/-- Abstract values. -/
inductive V where
  /-- one cell without memory behind it -/
  | flat (v : Value)
  /-- the nil slice -/
  | nil
  /-- a slice of n elements of sz cells each, with what it holds; own: nobody else may append to it -/
  | sl (own : Bool) (sz n : Nat) (cs : List V)
  | agg (cs : List V)
  | tup (cs : List V)
  /-- the address of a cell of a row that nobody writes -/
  | ref (cs : List V) (off : Nat)
  /-- the address of a cell of a box -/
  | bp (b off : Nat)
  /-- a slice of a box -/
  | bs (b off n cap : Nat)
  | unk
  deriving Inhabited

/-- What a value is as cells. -/
def V.cells : V → List V
  | .agg cs => cs
  | v => [v]
/-- A copy: what may be appended to stays with the original. -/
def V.fz : V → V
  | .sl _ sz n cs => .sl false sz n cs
  | v => v
def V.fzT : V → V
  | .tup vs => .tup (vs.map V.fz)
  | v => v.fz

def flatOk : Value → Bool
  | .agg _ | .tuple _ => false
  | .slice _ _ _ => false
  | _ => true

/-- The ghost state: where boxes lie; how many cells of a block nobody will write. -/
structure G where
  φ : Nat → Nat
  mn : Nat
  prot : Nat → Nat

inductive VR (g : G) (w : World) : V → Value → Prop
  | flat (v : Value) (h : flatOk v = true) : VR g w (.flat v) v
  | nil : VR g w .nil (.slice none 0 0)
  | sl0 (own : Bool) (sz : Nat) (a : Option Addr) (cap : Nat) : VR g w (.sl own sz 0 []) (.slice a 0 cap)
  | sl (own : Bool) (sz n : Nat) (cs : List V) (blk off cap : Nat) (us : List Value) (hn : cs.length = n * sz) (hc : n ≤ cap) (hcm : cap ≤ maxLen) (hp : off + cs.length ≤ g.prot blk)
      (hu : ∀ i, i < cs.length → w.cell? ⟨blk, off + i, none⟩ = some (us.getD i undef)) (hv : ∀ i, i < cs.length → VR g w (cs.getD i .unk) (us.getD i undef)) :
      VR g w (.sl own sz n cs) (.slice (some ⟨blk, off, none⟩) n cap)
  | agg (cs : List V) (us : Array Value) (hl : us.size = cs.length) (hv : ∀ i, i < cs.length → VR g w (cs.getD i .unk) (us.getD i undef)) : VR g w (.agg cs) (.agg us)
  | tup (cs : List V) (us : Array Value) (hl : us.size = cs.length) (hv : ∀ i, i < cs.length → VR g w (cs.getD i .unk) (us.getD i undef)) : VR g w (.tup cs) (.tuple us)
  | ref (cs : List V) (off blk o : Nat) (us : List Value) (hp : o + cs.length ≤ g.prot blk)
      (hu : ∀ i, i < cs.length → w.cell? ⟨blk, o + i, none⟩ = some (us.getD i undef)) (hv : ∀ i, i < cs.length → VR g w (cs.getD i .unk) (us.getD i undef)) :
      VR g w (.ref cs off) (.pointer (some ⟨blk, o + off, none⟩))
  | bp (b off : Nat) (hb : b < g.mn) : VR g w (.bp b off) (.pointer (some ⟨g.φ b, off, none⟩))
  | bs (b off n cap : Nat) (hb : b < g.mn) (hc : n ≤ cap) : VR g w (.bs b off n cap) (.slice (some ⟨g.φ b, off, none⟩) n cap)

/-- How worlds may go on, as far as values look at them. -/
structure Onto (g g' : G) (w w' : World) : Prop where
  cell : ∀ blk o u, o < g.prot blk → w.cell? ⟨blk, o, none⟩ = some u → w'.cell? ⟨blk, o, none⟩ = some u
  prot : ∀ blk, g.prot blk ≤ g'.prot blk
  φ : ∀ b, b < g.mn → g'.φ b = g.φ b
  mn : g.mn ≤ g'.mn

theorem Onto.refl (g : G) (w : World) : Onto g g w w := ⟨fun _ _ _ _ h => h, fun _ => Nat.le_refl _, fun _ _ => rfl, Nat.le_refl _⟩
theorem Onto.trans {g1 g2 g3 : G} {w1 w2 w3 : World} (h : Onto g1 g2 w1 w2) (k : Onto g2 g3 w2 w3) : Onto g1 g3 w1 w3 :=
  ⟨fun blk o u ho hu => k.cell blk o u (Nat.lt_of_lt_of_le ho (h.prot blk)) (h.cell blk o u ho hu), fun blk => Nat.le_trans (h.prot blk) (k.prot blk),
    fun b hb => (k.φ b (Nat.lt_of_lt_of_le hb h.mn)).trans (h.φ b hb), Nat.le_trans h.mn k.mn⟩

theorem VR.onto {g g' : G} {w w' : World} (ho : Onto g g' w w') {x : V} {v : Value} (h : VR g w x v) : VR g' w' x v := by
  induction h with
  | flat v h => exact .flat v h
  | nil => exact .nil
  | sl0 own sz a cap => exact .sl0 own sz a cap
  | sl own sz n cs blk off cap us hn hc hcm hp hu hv ih =>
    exact .sl own sz n cs blk off cap us hn hc hcm (Nat.le_trans hp (ho.prot blk)) (fun i hi => ho.cell _ _ _ (by omega) (hu i hi)) ih
  | agg cs us hl hv ih => exact .agg cs us hl ih
  | tup cs us hl hv ih => exact .tup cs us hl ih
  | ref cs off blk o us hp hu hv ih => exact .ref cs off blk o us (Nat.le_trans hp (ho.prot blk)) (fun i hi => ho.cell _ _ _ (by omega) (hu i hi)) ih
  | bp b off hb => rw [← ho.φ b hb]; exact .bp b off (Nat.lt_of_lt_of_le hb ho.mn)
  | bs b off n cap hb hc => rw [← ho.φ b hb]; exact .bs b off n cap (Nat.lt_of_lt_of_le hb ho.mn) hc

theorem VR.fz {g : G} {w : World} {x : V} {v : Value} (h : VR g w x v) : VR g w x.fz v := by
  cases h with
  | flat v h => exact .flat v h
  | nil => exact .nil
  | sl0 own sz a cap => exact .sl0 false sz a cap
  | sl own sz n cs blk off cap us hn hc hcm hp hu hv => exact .sl false sz n cs blk off cap us hn hc hcm hp hu hv
  | agg cs us hl hv => exact .agg cs us hl hv
  | tup cs us hl hv => exact .tup cs us hl hv
  | ref cs off blk o us hp hu hv => exact .ref cs off blk o us hp hu hv
  | bp b off hb => exact .bp b off hb
  | bs b off n cap hb hc => exact .bs b off n cap hb hc

end Go.VL
