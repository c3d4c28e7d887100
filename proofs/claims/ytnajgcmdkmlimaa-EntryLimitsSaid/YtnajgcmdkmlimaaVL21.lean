/- Part VL21 of the proof: made for this claim. -/
import Derived.Test.YtnajgcmdkmlimaaVL20
/-! VL part 21: states that say less. -/
set_option linter.unusedVariables false
set_option linter.unusedSimpArgs false
open Go.RowKit
namespace Go.VL
variable {P : Program} {E : Entry} {w : World} {C : Cfg}

def SubV (x y : V) : Prop := y = x ∨ (x = .nil ∧ ∃ own sz, y = .sl own sz 0 []) ∨ (∃ sz n cs, x = .sl true sz n cs ∧ y = .sl false sz n cs)
theorem SubV.refl (x : V) : SubV x x := .inl rfl
theorem SubV.nil (own : Bool) (sz : Nat) : SubV .nil (.sl own sz 0 []) := .inr (.inl ⟨rfl, own, sz, rfl⟩)
theorem SubV.fz (sz n : Nat) (cs : List V) : SubV (.sl true sz n cs) (.sl false sz n cs) := .inr (.inr ⟨sz, n, cs, rfl, rfl⟩)
theorem SubV.of_eq {x y : V} (h : y = x) : SubV x y := .inl h

def subL (σ : S) : List (Nat × V) → Prop
  | [] => True
  | (i, y) :: r => SubV (lk σ.sl i) y ∧ subL σ r
theorem subL_lk {σ : S} : ∀ {l : List (Nat × V)}, subL σ l → ∀ i, lk l i ≠ .unk → SubV (lk σ.sl i) (lk l i)
  | [], _, i, h => absurd rfl h
  | (j, y) :: r, h, i, hi => by
    simp only [lk] at hi ⊢
    split
    · rename_i e; subst e; exact h.1
    · rename_i e; rw [if_neg e] at hi; exact subL_lk h.2 i hi

def MemSub (m m' : Nat → Option (List V)) : Prop := ∀ b, m' b ≠ none → m' b = m b
theorem MemSub.refl (m : Nat → Option (List V)) : MemSub m m := fun _ _ => rfl
theorem MemSub.upd {m m' : Nat → Option (List V)} {k : Nat} {x : Option (List V)} (h : MemSub m m') (hk : m' k = none) : MemSub (upd m k x) m' := fun b hb => by
  have : b ≠ k := by intro e; rw [e] at hb; exact hb hk
  rw [upd_ne _ _ this]; exact h b hb
theorem MemSub.trans {a b c : Nat → Option (List V)} (h : MemSub a b) (k : MemSub b c) : MemSub a c := fun i hi => by
  have := k i hi
  rw [this]; exact h i (by rw [← this]; exact hi)

theorem Sub.of {nt : Nat} {σ σ' : S} (hs : subL σ σ'.sl) (hm : MemSub σ.mem σ'.mem) (hn : σ'.mn = σ.mn) : Sub E nt σ σ' := by
  rintro a w ⟨g, ob, h1, h2, h3, h4⟩
  have h1' := h1.forgetMem (mem' := σ'.mem) hm
  refine ⟨g, ob, ?_, by rw [hn]; exact h2, h3, h4⟩
  exact { h1' with
    slot := fun i hi => by
      have hx := subL_lk hs i hi
      rcases hx with e | ⟨e1, own, sz, e2⟩ | ⟨sz, n, cs, e1, e2⟩
      · rw [e]; exact h1.slot i (by rw [← e]; exact hi)
      · have := h1.slot i (by rw [e1]; simp)
        rw [e1] at this
        rw [e2]
        generalize a.tmps.getD i undef = u at this
        cases this
        exact .sl0 own sz none 0
      · have := h1.slot i (by rw [e1]; simp)
        rw [e1] at this
        rw [e2]; exact this.own
    ownS := fun i j sz n cs hi => by
      have hne : lk σ'.sl i ≠ .unk := by intro e; rw [e] at hi; have := comp_unk _ _ hi; cases this
      rcases subL_lk hs i hne with e | ⟨e1, own, sz', e2⟩ | ⟨sz', n', cs', e1, e2⟩
      · rw [e] at hi; exact h1.ownS i j sz n cs hi
      · rw [e2] at hi
        have := h1.slot i (by rw [e1]; simp)
        rw [e1] at this
        generalize a.tmps.getD i undef = u at this
        cases this
        cases j with
        | zero =>
          simp only [comp, Option.some.injEq, V.sl.injEq] at hi
          obtain ⟨_, _, rfl, _⟩ := hi
          exact ⟨rfl, .inl rfl⟩
        | succ j => simp [comp] at hi
      · rw [e2] at hi
        cases j <;> simp [comp] at hi }

theorem Sub.refl {nt : Nat} (σ : S) : Sub E nt σ σ := fun _ _ h => h

/-- Two more spellings of what stands at an end. -/
theorem distinctT_one (r : ResultVar) : distinctT [r] := fun i j t hi hj => by
  cases i <;> cases j <;> simp_all [tmpOf]
def distinctB : List ResultVar → List Nat → Bool
  | [], _ => true
  | r :: rs, seen => match tmpOf r with
    | some t => !seen.contains t && distinctB rs (t :: seen)
    | none => distinctB rs seen
theorem distinctB_not : ∀ (rs : List ResultVar) (seen : List Nat), distinctB rs seen = true → ∀ (i t : Nat), (rs[i]?).bind tmpOf = some t → t ∉ seen
  | [], _, _, i, t, h => by simp at h
  | r :: rs, seen, hb, i, t, h => by
    simp only [distinctB] at hb
    cases i with
    | zero =>
      simp only [List.getElem?_cons_zero, Option.bind_some] at h
      rw [h] at hb
      simp only [Bool.and_eq_true, Bool.not_eq_true', List.contains_eq_mem, decide_eq_false_iff_not] at hb
      exact hb.1
    | succ i =>
      simp only [List.getElem?_cons_succ] at h
      cases hr : tmpOf r with
      | none => rw [hr] at hb; exact distinctB_not rs seen hb i t h
      | some u =>
        rw [hr] at hb
        simp only [Bool.and_eq_true] at hb
        exact fun hm => distinctB_not rs (u :: seen) hb.2 i t h (List.mem_cons_of_mem _ hm)
theorem distinctB_spec : ∀ (rs : List ResultVar) (seen : List Nat), distinctB rs seen = true → distinctT rs
  | [], _, _ => fun i j t h => by simp at h
  | r :: rs, seen, hb => by
    intro i j t hi hj
    simp only [distinctB] at hb
    have tail : ∃ s, distinctB rs s = true ∧ ∀ u, tmpOf r = some u → u ∈ s := by
      cases hr : tmpOf r with
      | none => rw [hr] at hb; exact ⟨seen, hb, fun u h => by cases h⟩
      | some u =>
        rw [hr] at hb
        simp only [Bool.and_eq_true] at hb
        exact ⟨_, hb.2, fun v h => by cases h; simp⟩
    obtain ⟨s, h1, h2⟩ := tail
    cases i with
    | zero =>
      cases j with
      | zero => rfl
      | succ j =>
        simp only [List.getElem?_cons_zero, Option.bind_some, List.getElem?_cons_succ] at hi hj
        exact absurd (h2 t hi) (distinctB_not rs s h1 j t hj)
    | succ i =>
      cases j with
      | zero =>
        simp only [List.getElem?_cons_zero, Option.bind_some, List.getElem?_cons_succ] at hi hj
        exact absurd (h2 t hj) (distinctB_not rs s h1 i t hi)
      | succ j =>
        simp only [List.getElem?_cons_succ] at hi hj
        rw [distinctB_spec rs s h1 i j t hi hj]

end Go.VL
