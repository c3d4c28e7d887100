/- Part VLLow of the proof: made for this claim. -/
import Derived.Test.YtnajgcmdkmlimaaVLD3
/-! VL: what a call made for itself is forgotten. -/
set_option linter.unusedVariables false
set_option linter.unusedSimpArgs false
open Go.RowKit
namespace Go.VL
variable {P : Program}

def G.low (g : G) (n : Nat) : G := { g with mn := n }
/-- A value that names no box. -/
def Low (x : V) : Prop := ∀ (g : G) (w : World) (v : Value) (n : Nat), VR g w x v → VR (g.low n) w x v
theorem Low.flat (v : Value) : Low (.flat v) := fun g w u n h => by cases h; exact .flat _ ‹_›
theorem Low.nil : Low .nil := fun g w u n h => by cases h; exact .nil
theorem getD_mem {cs : List V} {i : Nat} (hi : i < cs.length) : cs.getD i .unk ∈ cs := by
  simp [List.getD_eq_getElem?_getD, hi]
theorem Low.sl {own : Bool} {sz m : Nat} {cs : List V} (hc : ∀ c ∈ cs, Low c) : Low (.sl own sz m cs) := fun g w u n h => by
  cases h with
  | sl0 _ _ a cap => exact .sl0 _ _ a cap
  | sl _ _ _ _ blk off cap us hn hcap hcm hp hu hv => exact .sl _ _ _ _ blk off cap us hn hcap hcm hp hu (fun i hi => hc _ (getD_mem hi) _ _ _ _ (hv i hi))
theorem Low.agg {cs : List V} (hc : ∀ c ∈ cs, Low c) : Low (.agg cs) := fun g w u n h => by
  cases h with
  | agg _ us hl hv => exact .agg _ us hl (fun i hi => hc _ (getD_mem hi) _ _ _ _ (hv i hi))
theorem Low.tup {cs : List V} (hc : ∀ c ∈ cs, Low c) : Low (.tup cs) := fun g w u n h => by
  cases h with
  | tup _ us hl hv => exact .tup _ us hl (fun i hi => hc _ (getD_mem hi) _ _ _ _ (hv i hi))

/-- A value that once had a meaning below n names no box above. -/
theorem VR.low {g g' : G} {w w' : World} {x : V} {u : Value} (h : VR g w x u) : ∀ {v : Value}, VR g' w' x v → VR (g'.low g.mn) w' x v := by
  induction h with
  | flat v h => exact fun h2 => Low.flat _ _ _ _ _ h2
  | nil => exact fun h2 => Low.nil _ _ _ _ h2
  | sl0 own sz a cap =>
    intro v h2
    cases h2 with
    | sl0 _ _ a cap => exact .sl0 _ _ a cap
    | sl _ _ _ _ blk off cap us hn hcap hcm hp hu hv => exact .sl _ _ _ _ blk off cap us hn hcap hcm hp hu (fun i hi => by simp at hi)
  | sl own sz n cs blk off cap us hn hcap hcm hp hu hv ih =>
    intro v h2
    cases h2 with
    | sl0 _ _ a cap => exact .sl0 _ _ a cap
    | sl _ _ _ _ blk off cap us hn hcap hcm hp hu hv => exact .sl _ _ _ _ blk off cap us hn hcap hcm hp hu (fun i hi => ih i hi (hv i hi))
  | agg cs us hl hv ih =>
    intro v h2
    cases h2 with
    | agg _ us hl hv => exact .agg _ us hl (fun i hi => ih i hi (hv i hi))
  | tup cs us hl hv ih =>
    intro v h2
    cases h2 with
    | tup _ us hl hv => exact .tup _ us hl (fun i hi => ih i hi (hv i hi))
  | ref cs off blk o us hp hu hv ih =>
    intro v h2
    cases h2 with
    | ref _ _ blk o us hp hu hv => exact .ref _ _ blk o us hp hu (fun i hi => ih i hi (hv i hi))
  | bp b off hb =>
    intro v h2
    cases h2 with
    | bp _ _ hb2 => exact .bp b off hb
  | bs b off n cap hb hc =>
    intro v h2
    cases h2 with
    | bs _ _ _ _ hb2 hc2 => exact .bs b off n cap hb hc2

/-- A contract without what the call made for itself. -/
theorem Sp.lowM {gl : Nat → Option (List V)} {f : FuncId} {args : List V} {M M' : Mem} {n : Nat} {R : V → Mem → Nat → Prop} (X : V) (h : Sp P gl f args M n R) (hR : ∀ r m k, R r m k → r = X ∧ ∀ b, M' b ≠ none → m b = M' b)
    (hX : Low X) (hM : ∀ b cs, M' b = some cs → M b = some cs ∨ (M b ≠ none ∧ ∀ c ∈ cs, Low c)) : Sp P gl f args M n (fun r m k => r = X ∧ m = M' ∧ k = n) := by
  refine ⟨h.1, fun g ob w vs a b c d e k => (h.2 g ob w vs a b c d e k).mono fun _ _ ⟨v, r, m, g', ob', x1, x2, x3, st⟩ => ?_⟩
  obtain ⟨rfl, hm⟩ := hR _ _ _ x2
  refine ⟨v, r, M', g'.low g.mn, ob', x1, ⟨rfl, rfl, a⟩, x3, ?_⟩
  have hold : ∀ b, M' b ≠ none → M b ≠ none := fun q hq => by
    cases hb : M' q with
    | none => exact absurd hb hq
    | some cs =>
      rcases hM q cs hb with h1 | h1
      · rw [h1]; simp
      · exact h1.1
  have hlt : ∀ b, M' b ≠ none → b < g.mn := fun q hq => by
    cases hb : M q with
    | none => exact absurd hb (hold q hq)
    | some cs => exact (k.box q cs hb).1
  have st' := st.forgetMem (mem' := M') (fun b hb => (hm b hb).symm)
  exact { st' with
    slot := fun i hi => by
      by_cases q : i = 0
      · subst q
        have := st.slot 0 hi
        rw [upd_same] at this ⊢
        exact hX _ _ _ _ this
      · rw [upd_ne _ _ q] at hi; exact absurd rfl hi
    box := fun q cs hq => by
      refine ⟨hlt q (by rw [hq]; simp), ?_⟩
      obtain ⟨_, cc, ee, fr, h1, h2, h3, h4⟩ := st'.box q cs hq
      refine ⟨cc, ee, fr, h1, h2, h3, fun i hi => ?_⟩
      rcases hM q cs hq with h5 | ⟨_, h5⟩
      · obtain ⟨_, _, _, _, _, _, _, h6⟩ := k.box q cs h5
        exact (h6 i hi).low (h4 i hi)
      · exact h5 _ (getD_mem hi) _ _ _ _ (h4 i hi)
    onto := ⟨st'.onto.cell, st'.onto.prot, st'.onto.φ, Nat.le_refl _⟩ }

theorem Sp.low {gl : Nat → Option (List V)} {f : FuncId} {args : List V} {M : Mem} {n : Nat} {R : V → Mem → Nat → Prop} (X : V) (h : Sp P gl f args M n R) (hR : ∀ r m k, R r m k → r = X ∧ ∀ b, M b ≠ none → m b = M b)
    (hX : Low X) : Sp P gl f args M n (fun r m k => r = X ∧ m = M ∧ k = n) := Sp.lowM X h hR hX (fun _ _ h => .inl h)

theorem Sp.low2 {gl : Nat → Option (List V)} {f : FuncId} {args : List V} {M : Mem} {n : Nat} {R : V → Mem → Nat → Prop} (X : V) (h : Sp P gl f args M n R) (hR : (∀ b, M b ≠ none → b < n) → ∀ r m k, R r m k → r = X ∧ ∀ b, M b ≠ none → m b = M b)
    (hX : Low X) : Sp P gl f args M n (fun r m k => r = X ∧ m = M ∧ k = n) := by
  by_cases hb : ∀ b, M b ≠ none → b < n
  · exact Sp.low X h (hR hb) hX
  · refine ⟨h.1, fun g ob w vs a _ _ _ _ st => absurd (fun b hm => ?_) hb⟩
    cases hc : M b with
    | none => exact absurd hc hm
    | some cs => rw [← a]; exact (st.box b cs hc).1

end Go.VL
