/- Part VL15 of the proof: made for this claim. -/
import Derived.Test.YtnajgcmdkmlimaaVL14
/-! VL part 15: calls. -/
set_option linter.unusedVariables false
set_option linter.unusedSimpArgs false
open Go.RowKit
namespace Go.VL
variable {P : Program} {H : Env} {L : LEnv} {E : Entry} {nt : Nat} {w : World}

def entryOf (g : G) (ob : Pos → Option Nat) (mem : Nat → Option (List V)) (w : World) : Entry :=
  ⟨w, g, fun blk => (∃ b, mem b ≠ none ∧ g.φ b = blk) ∨ ∃ b o, ob (.cell b o) = some blk⟩

/-- What a function does, abstractly. -/
def Sp (P : Program) (gl : Nat → Option (List V)) (f : FuncId) (args : List V) (mem : Nat → Option (List V)) (mn : Nat) (R : V → (Nat → Option (List V)) → Nat → Prop) : Prop :=
  (∃ fn, P.funcs[f]? = some fn ∧ (fn.name == "runtime.NumGoroutine") = false ∧ fn.body.isNone = false) ∧
  ∀ (g : G) (ob : Pos → Option Nat) (w : World) (vs : Array Value), g.mn = mn → GlOk g w gl → vs.size = args.length → (∀ i, i < args.length → VR g w (args.getD i .unk) (vs.getD i undef)) →
    (∀ i j, ob (.slot i j) = none) → St (entryOf g ob mem w) g ob (fun _ => .unk) mem #[] w →
    Calls P f vs w fun e w' => ∃ v r mem' g' ob', e = .returned v ∧ R r mem' g'.mn ∧ r ≠ .unk ∧ St (entryOf g ob mem w) g' ob' (upd (fun _ => .unk) 0 r) mem' #[v] w'

theorem Sp.mono {gl : Nat → Option (List V)} {f : FuncId} {args : List V} {mem : Nat → Option (List V)} {mn : Nat} {R R' : V → (Nat → Option (List V)) → Nat → Prop} (h : Sp P gl f args mem mn R) (hr : ∀ r m n, R r m n → R' r m n) : Sp P gl f args mem mn R' :=
  ⟨h.1, fun g ob w vs a b c d e k => (h.2 g ob w vs a b c d e k).mono fun _ _ ⟨v, r, m, g', ob', x1, x2, x3⟩ => ⟨v, r, m, g', ob', x1, hr _ _ _ x2, x3⟩⟩

def cellsOnly (ob : Pos → Option Nat) : Pos → Option Nat
  | .slot _ _ => none
  | .cell b o => ob (.cell b o)
theorem cellsOnly_sub {ob : Pos → Option Nat} {p : Pos} {blk : Nat} (h : cellsOnly ob p = some blk) : ob p = some blk ∧ ∃ b o, p = .cell b o := by
  cases p with
  | slot i j => cases h
  | cell b o => exact ⟨h, b, o, rfl⟩

/-- What a callee is handed. -/
theorem St.handOver {g : G} {ob : Pos → Option Nat} {s : Nat → V} {mem : Nat → Option (List V)} {tm : Array Value} (h : St E g ob s mem tm w) : St (entryOf g (cellsOnly ob) mem w) g (cellsOnly ob) (fun _ => .unk) mem #[] w :=
  { slot := fun i hi => absurd rfl hi
    box := h.box
    inj := h.inj
    ownS := fun i j sz n cs hi => by have := comp_unk _ _ hi; cases this
    ownC := h.ownC
    obInj := fun p q blk hp hq => h.obInj p q blk (cellsOnly_sub hp).1 (cellsOnly_sub hq).1
    obBox := fun p blk b hp hb => h.obBox p blk b (cellsOnly_sub hp).1 hb
    obLt := fun p blk hp => h.obLt p blk (cellsOnly_sub hp).1
    prot0 := h.prot0
    boxProt := h.boxProt
    os := rfl
    tape := rfl
    output := rfl
    size := Nat.le_refl _
    block := fun _ _ _ => rfl
    keep := fun _ _ _ => rfl
    onto := Onto.refl _ _
    boxFresh := fun b hb => .inr (.inl ⟨b, hb, rfl⟩)
    obFresh := fun p blk hp => by
      obtain ⟨h1, b, o, rfl⟩ := cellsOnly_sub hp
      exact .inr (.inr ⟨b, o, hp⟩) }

def joinOb (ob ob' : Pos → Option Nat) (d : Nat) : Pos → Option Nat
  | .slot i j => if i = d then ob' (.slot 0 j) else ob (.slot i j)
  | .cell b o => ob' (.cell b o)

/-- What comes back is put in. -/
theorem St.comeBack {g g' : G} {ob ob' : Pos → Option Nat} {s : Nat → V} {mem mem' : Nat → Option (List V)} {tm : Array Value} {w' : World} {r : V} {v : Value} {d : Nat} (h : St E g ob s mem tm w)
    (k : St (entryOf g (cellsOnly ob) mem w) g' ob' (upd (fun _ => .unk) 0 r) mem' #[v] w') (hd : d < tm.size) (hr : r ≠ .unk) : St E g' (joinOb ob ob' d) (upd s d r) mem' (tm.setIfInBounds d v) w' := by
  -- the caller's own blocks are as they were
  have kept : ∀ i j blk, ob (.slot i j) = some blk → blk < w.heap.size ∧ ¬ (entryOf g (cellsOnly ob) mem w).wr blk := fun i j blk hb => by
    refine ⟨h.obLt _ _ hb, ?_⟩
    rintro (⟨b, h1, h2⟩ | ⟨b, o, h1⟩)
    · exact h.obBox _ _ b hb h1 h2
    · have := h.obInj _ _ _ hb (cellsOnly_sub h1).1
      cases this
  have wrE : ∀ blk, blk < E.w0.heap.size → ¬ E.wr blk → blk < w.heap.size ∧ ¬ (entryOf g (cellsOnly ob) mem w).wr blk := fun blk h1 h2 => by
    refine ⟨Nat.lt_of_lt_of_le h1 h.size, ?_⟩
    rintro (⟨b, h3, rfl⟩ | ⟨b, o, h3⟩)
    · rcases h.boxFresh b h3 with q | q
      · omega
      · exact h2 q
    · rcases h.obFresh _ _ (cellsOnly_sub h3).1 with q | q
      · omega
      · exact h2 q
  have fresh : ∀ blk, (w.heap.size ≤ blk ∨ (entryOf g (cellsOnly ob) mem w).wr blk) → (E.w0.heap.size ≤ blk ∨ E.wr blk) := fun blk hb => by
    rcases hb with q | (⟨b, h3, rfl⟩ | ⟨b, o, h3⟩)
    · left; have := h.size; omega
    · exact h.boxFresh b h3
    · exact h.obFresh _ _ (cellsOnly_sub h3).1
  have news : ∀ p blk, ob' p = some blk → w.heap.size ≤ blk ∨ (entryOf g (cellsOnly ob) mem w).wr blk := k.obFresh
  have apart : ∀ i j blk, ob (.slot i j) = some blk → ∀ p, ob' p ≠ some blk := fun i j blk hb p hp => by
    have h1 := kept i j blk hb
    rcases news p blk hp with q | q
    · omega
    · exact h1.2 q
  have js : ∀ i j, i ≠ d → joinOb ob ob' d (.slot i j) = ob (.slot i j) := fun i j hi => by simp [joinOb, hi]
  have jd : ∀ j, joinOb ob ob' d (.slot d j) = ob' (.slot 0 j) := fun j => by simp [joinOb]
  have split : ∀ p blk, joinOb ob ob' d p = some blk → (∃ i j, p = .slot i j ∧ i ≠ d ∧ ob (.slot i j) = some blk) ∨ (∃ q, ob' q = some blk ∧ ((∃ j, p = .slot d j ∧ q = .slot 0 j) ∨ (∃ b o, p = .cell b o ∧ q = .cell b o))) := fun p blk hp => by
    cases p with
    | slot i j =>
      by_cases e : i = d
      · subst e; rw [jd] at hp; exact .inr ⟨_, hp, .inl ⟨j, rfl, rfl⟩⟩
      · rw [js i j e] at hp; exact .inl ⟨i, j, rfl, e, hp⟩
    | cell b o => exact .inr ⟨_, hp, .inr ⟨b, o, rfl, rfl⟩⟩
  have e0 : (#[v] : Array Value).getD 0 undef = v := rfl
  refine {
    slot := fun i hi => ?_
    box := k.box
    inj := k.inj
    ownS := fun i j sz n cs hi => ?_
    ownC := fun b o l sz n cs hb hl => k.ownC b o l sz n cs hb hl
    obInj := fun p q blk hp hq => ?_
    obBox := fun p blk b hp hb => ?_
    obLt := fun p blk hp => ?_
    prot0 := k.prot0
    boxProt := k.boxProt
    os := k.os.trans h.os
    tape := k.tape.trans h.tape
    output := k.output.trans h.output
    size := Nat.le_trans h.size k.size
    block := fun blk h1 h2 => (k.block blk (wrE blk h1 h2).1 (wrE blk h1 h2).2).trans (h.block blk h1 h2)
    keep := fun blk h1 h2 => (k.keep blk (wrE blk h1 h2).1 (wrE blk h1 h2).2).trans (h.keep blk h1 h2)
    onto := h.onto.trans k.onto
    boxFresh := fun b hb => fresh _ (k.boxFresh b hb)
    obFresh := fun p blk hp => ?_ }
  · rw [getD_set hd]
    by_cases e : i = d
    · subst e
      rw [if_pos rfl, upd_same]
      have := k.slot 0 (by rw [upd_same]; exact hr)
      rwa [upd_same, e0] at this
    · rw [if_neg e, upd_ne _ _ e]
      rw [upd_ne _ _ e] at hi
      exact (h.slot i hi).onto k.onto
  · rw [getD_set hd]
    by_cases e : i = d
    · subst e
      rw [if_pos rfl, jd]
      rw [upd_same] at hi
      have := k.ownS 0 j sz n cs (by rw [upd_same]; exact hi)
      rwa [e0] at this
    · rw [if_neg e, js i j e]
      rw [upd_ne _ _ e] at hi
      refine (h.ownS i j sz n cs hi).onto (fun blk hb => k.block blk (kept i j blk hb).1 (kept i j blk hb).2) (fun blk hb => k.keep blk (kept i j blk hb).1 (kept i j blk hb).2)
  · rcases split p blk hp with ⟨i, j, rfl, e1, e2⟩ | ⟨p', hp', hpp⟩ <;> rcases split q blk hq with ⟨i', j', rfl, f1, f2⟩ | ⟨q', hq', hqq⟩
    · have := h.obInj _ _ _ e2 f2
      simp only [Pos.slot.injEq] at this
      rw [this.1, this.2]
    · exact absurd hq' (apart i j blk e2 q')
    · exact absurd hp' (apart i' j' blk f2 p')
    · have := k.obInj _ _ _ hp' hq'
      rcases hpp with ⟨j, rfl, rfl⟩ | ⟨b, o, rfl, rfl⟩ <;> rcases hqq with ⟨j', rfl, rfl⟩ | ⟨b', o', rfl, rfl⟩ <;> simp_all
  · rcases split p blk hp with ⟨i, j, rfl, e1, e2⟩ | ⟨p', hp', _⟩
    · intro he
      have h1 := kept i j blk e2
      rcases k.boxFresh b hb with q | q
      · rw [he] at q; exact absurd h1.1 (by have : (entryOf g (cellsOnly ob) mem w).w0 = w := rfl; rw [this] at q; omega)
      · rw [he] at q; exact h1.2 q
    · exact k.obBox _ _ b hp' hb
  · rcases split p blk hp with ⟨i, j, rfl, e1, e2⟩ | ⟨p', hp', _⟩
    · exact Nat.lt_of_lt_of_le (kept i j blk e2).1 k.size
    · exact k.obLt _ _ hp'
  · rcases split p blk hp with ⟨i, j, rfl, e1, e2⟩ | ⟨p', hp', _⟩
    · exact h.obFresh _ _ e2
    · exact fresh _ (news _ _ hp')

end Go.VL
