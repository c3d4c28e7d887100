/- Part VL19 of the proof: made for this claim. -/
import Derived.Test.YtnajgcmdkmlimaaVL18
/-! VL part 19: a region's operations carried out, as far as they go. -/
set_option linter.unusedVariables false
set_option linter.unusedSimpArgs false
open Go.RowKit
namespace Go.VL
variable {P : Program} {E : Entry} {w : World} {C : Cfg}

inductive Out where
  | done (c : Prop) (σ : S)
  | call (c : Prop) (o : Oper) (rest : List Oper) (d : Nat) (f : FuncId) (args : List V) (σ : S)
  | wait (c : Prop) (v : V) (rest : List Oper) (σ : S)
  | stuck (o : Oper) (σ : S)

def wantV (ds : List (Option Nat)) (s : Nat → V) (gd : Option (Nat × Bool)) : Option Bool := match gd with
  | none => some true
  | some (j, want) => match (ds[j]?).bind id with
    | some d => match s d with
      | .flat v => match v with
        | .bool t => match t with
          | true => some want
          | false => some (!want)
        | _ => none
      | .tup vs => match vs with
        | [] => some false
        | _ :: _ => none
      | _ => none
    | none => none
/-- What a guard looks at. -/
def gV (ds : List (Option Nat)) (s : Nat → V) (gd : Option (Nat × Bool)) : V := match gd with
  | none => .unk
  | some (j, _) => match (ds[j]?).bind id with
    | some d => s d
    | none => .unk
/-- Both ways of a test. -/
def splitG (v : V) (p : Prop) : Prop := match v with
  | .flat u => match u with
    | .bool t => (t = true → p) ∧ (t = false → p)
    | _ => p
  | _ => p
theorem splitG_elim {v : V} {p : Prop} (h : splitG v p) : p := by
  unfold splitG at h
  split at h
  · split at h
    · rename_i t
      cases t
      · exact h.2 rfl
      · exact h.1 rfl
    · exact h
  · exact h
theorem wantV_eq (ops : List Oper) (s : Nat → V) (o : Oper) {b : Bool} (h : wantV (ops.map (·.dst)) s o.guard = some b) : wantedV ops s o = some b := by
  unfold wantV at h
  unfold wantedV
  cases hg : o.guard with
  | none => rw [hg] at h; exact h
  | some jw =>
    obtain ⟨j, want⟩ := jw
    rw [hg] at h
    simp only [List.getElem?_map] at h ⊢
    cases hj : ops[j]? with
    | none => rw [hj] at h; cases h
    | some oj =>
      rw [hj] at h
      simp only [Option.map_some, Option.bind_some, id] at h ⊢
      cases hd : oj.dst with
      | none => rw [hd] at h; cases h
      | some d =>
        rw [hd] at h
        simp only at h ⊢
        cases hs : s d with
        | flat v =>
          rw [hs] at h
          cases v <;> simp only [reduceCtorEq] at h ⊢
          rename_i t
          cases t <;> simp only [Option.some.injEq] at h ⊢ <;> subst h <;> cases want <;> rfl
        | tup vs =>
          rw [hs] at h
          cases vs <;> simp only [reduceCtorEq] at h ⊢
          exact h
        | _ => rw [hs] at h; cases h

noncomputable def run (C : Cfg) (ds : List (Option Nat)) : List Oper → S → Prop → Out
  | [], σ, c => .done c σ
  | o :: rest, σ, c => match wantV ds (lk σ.sl) o.guard with
    | none => .wait c (gV ds (lk σ.sl) o.guard) (o :: rest) σ
    | some b => match b with
      | false => run C ds rest (σ.setU o.dst) c
      | true => match stepV C o σ with
        | .ok c' σ' => run C ds rest σ' (c ∧ c')
        | .call f args => match o.dst with
          | some d => .call c o rest d f args σ
          | none => .stuck o σ
        | .stuck => .stuck o σ

/-- The region that is carried out, out of sight. -/
structure Ctx (P : Program) (E : Entry) (C : Cfg) where
  ops : List Oper
  dst : dstOk C.nt ops = true
  H : EnvOk P C.H
  L : LEnvOk P C.L
  G : GlOk E.g0 E.w0 C.gl

/-- What is left of it. -/
def WR (Θ : Ctx P E C) (rest : List Oper) (σ : S) (K : S → Prop) : Prop := ∀ k, Θ.ops.drop k = rest → WL P E C.nt Θ.ops k σ K
def CallG (Θ : Ctx P E C) (o : Oper) (rest : List Oper) (d : Nat) (f : FuncId) (args : List V) (σ : S) (K : S → Prop) : Prop :=
  o.dst = some d → wantedV Θ.ops (lk σ.sl) o = some true → stepV C o σ = .call f args → WR Θ (o :: rest) σ K
def Post (Θ : Ctx P E C) (out : Out) (K : S → Prop) : Prop := match out with
  | .done c σ => c ∧ K σ
  | .call c o rest d f args σ => c ∧ CallG Θ o rest d f args σ K
  | .wait c v rest σ => c ∧ splitG v (WR Θ rest σ K)
  | .stuck _ _ => False

theorem drop_cons {α : Type} {l r : List α} {k : Nat} {x : α} (h : l.drop k = x :: r) : l[k]? = some x ∧ l.drop (k + 1) = r := by
  have hk : k < l.length := by
    rcases Nat.lt_or_ge k l.length with q | q
    · exact q
    · rw [List.drop_eq_nil_of_le q] at h; cases h
  rw [List.drop_eq_getElem_cons hk] at h
  simp only [List.cons.injEq] at h
  exact ⟨by rw [List.getElem?_eq_getElem hk, h.1], h.2⟩

theorem WR.of_run (Θ : Ctx P E C) (K : S → Prop) : ∀ (rest : List Oper) (σ : S) (c : Prop), Post Θ (run C (Θ.ops.map (·.dst)) rest σ c) K → c ∧ WR Θ rest σ K
  | [], σ, c, h => by
    simp only [run, Post] at h
    refine ⟨h.1, fun k hk => WL.nil ?_ h.2⟩
    have := congrArg List.length hk
    simp at this
    omega
  | o :: rest, σ, c, h => by
    simp only [run] at h
    cases hw : wantV (Θ.ops.map (·.dst)) (lk σ.sl) o.guard with
    | none => rw [hw] at h; exact ⟨h.1, splitG_elim h.2⟩
    | some b =>
      rw [hw] at h
      have hw' := wantV_eq Θ.ops _ o hw
      cases b with
      | false =>
        simp only at h
        obtain ⟨h1, h2⟩ := WR.of_run Θ K rest _ c h
        refine ⟨h1, fun k hk => ?_⟩
        obtain ⟨k1, k2⟩ := drop_cons hk
        exact WL.skip Θ.dst k1 hw' (h2 (k + 1) k2)
      | true =>
        simp only at h
        cases hs : stepV C o σ with
        | ok c' σ' =>
          rw [hs] at h
          obtain ⟨⟨h1, h3⟩, h2⟩ := WR.of_run Θ K rest _ _ h
          refine ⟨h1, fun k hk => ?_⟩
          obtain ⟨k1, k2⟩ := drop_cons hk
          exact WL.step Θ.dst k1 hw' (stepV_sound Θ.H Θ.L Θ.G hs h3) (h2 (k + 1) k2)
        | call f args =>
          rw [hs] at h
          simp only at h
          cases hd : o.dst with
          | none => rw [hd] at h; exact h.elim
          | some d =>
            rw [hd] at h
            exact ⟨h.1, h.2 hd hw' hs⟩
        | stuck => rw [hs] at h; exact h.elim

theorem stepV_call {o : Oper} {σ : S} {f : FuncId} {args : List V} {d : Nat} (hd : o.dst = some d) (h : stepV C o σ = .call f args) :
    ∃ xs ats, o.op = .call { callee := .value (.func f), args := xs, argTypes := ats } ∧ args = xs.toList.map fun x => (evO (lk σ.sl) C.gl x).fz := by
  have evn : ∀ (d : Nat) (op : Op), evR C σ d op ≠ .call f args := fun d op => by
    unfold evR; split <;> simp
  unfold stepV at h
  rw [hd] at h
  simp only at h
  split at h
  · unfold takeV at h; (repeat' split at h) <;> first | (exact absurd h (evn _ _)) | cases h
  · unfold takeV at h; (repeat' split at h) <;> first | (exact absurd h (evn _ _)) | cases h
  · unfold takeTupV at h; (repeat' split at h) <;> first | (exact absurd h (evn _ _)) | cases h
  · unfold takeCellV at h; (repeat' split at h) <;> first | (exact absurd h (evn _ _)) | cases h
  · unfold allocV at h; (repeat' split at h) <;> cases h
  · unfold boxV at h; cases h
  · unfold bslV at h; (repeat' split at h) <;> cases h
  · unfold mkSlV at h; (repeat' split at h) <;> cases h
  · unfold cvtV at h; (repeat' split at h) <;> first | (exact absurd h (evn _ _)) | cases h
  · rename_i cl hop
    obtain ⟨callee, xs, ats⟩ := cl
    simp only at h
    split at h
    · split at h
      · unfold appV at h; (repeat' split at h) <;> cases h
      · exact absurd h (evn _ _)
    · split at h <;> cases h
      exact ⟨xs, ats, hop, rfl⟩
    · cases h
  · exact absurd h (evn _ _)

/-- A call, by what its function does. -/
theorem CallG.intro {Θ : Ctx P E C} {o : Oper} {rest : List Oper} {d : Nat} {f : FuncId} {args : List V} {σ : S} {K : S → Prop} {R : V → (Nat → Option (List V)) → Nat → Prop} (hs : Sp P C.gl f args σ.mem σ.mn R) (hk : ∀ x ∈ args, x.known = true)
    (h : ∀ r mem mn, R r mem mn → WR Θ rest (σ.back d r mem mn) K) : CallG Θ o rest d f args σ K := by
  intro hd hw hst k hk'
  obtain ⟨k1, k2⟩ := drop_cons hk'
  obtain ⟨xs, ats, hop, hargs⟩ := stepV_call hd hst
  exact WL.call Θ.dst Θ.G k1 hd hop hw hargs hs hk (fun r mem mn hR => h r mem mn hR (k + 1) k2)

theorem WR.go {Θ : Ctx P E C} {rest : List Oper} {σ : S} {K : S → Prop} {ds : List (Option Nat)} (hds : ds = Θ.ops.map (·.dst)) (h : Post Θ (run C ds rest σ True) K) : WR Θ rest σ K := (WR.of_run Θ K rest σ True (hds ▸ h)).2

/-! ### Code -/
abbrev QC := Exit → S → Prop
def WC (P : Program) (E : Entry) (C : Cfg) (c : Code) (σ : S) (Q : QC) : Prop := ∀ a w, At E C.nt σ a w → c.wp P (fun e a' w' => ∃ σ', At E C.nt σ' a' w' ∧ Q e σ') a w
def nxt (K : S → Prop) (Q : QC) : QC
  | .normal, σ => K σ
  | e, σ => Q e σ
def blk (id : Nat) (Q : QC) : QC
  | .exit i, σ => if i = id then Q .normal σ else Q (.exit i) σ
  | e, σ => Q e σ

theorem WC.mono {c : Code} {σ : S} {Q Q' : QC} (h : WC P E C c σ Q) (hq : ∀ e σ, Q e σ → Q' e σ) : WC P E C c σ Q' := fun a w hA => wp_mono (h a w hA) (fun e a' w' ⟨σ', h1, h2⟩ => ⟨σ', h1, hq _ _ h2⟩)
theorem WC.skip {σ : S} {Q : QC} (h : Q .normal σ) : WC P E C .skip σ Q := fun a w hA => wp_skip ⟨σ, hA, h⟩
theorem WC.ret {σ : S} {Q : QC} (h : Q .ret σ) : WC P E C .ret σ Q := fun a w hA => wp_ret ⟨σ, hA, h⟩
theorem WC.exit {id : Nat} {σ : S} {Q : QC} (h : Q (.exit id) σ) : WC P E C (.exit id) σ Q := fun a w hA => wp_exit ⟨σ, hA, h⟩
theorem WC.seq {x y : Code} {σ : S} {Q : QC} (h : WC P E C x σ (nxt (fun σ' => WC P E C y σ' Q) Q)) : WC P E C (.seq x y) σ Q := fun a w hA => wp_seq (wp_mono (h a w hA) (fun e a' w' ⟨σ', h1, h2⟩ => by
  cases e with
  | normal => exact h2 a' w' h1
  | _ => exact ⟨σ', h1, h2⟩))
theorem WC.cond (hG : GlOk E.g0 E.w0 C.gl) {c : Operand} {x y : Code} {σ : S} {Q : QC} {t : Bool} (hc : evO (lk σ.sl) C.gl c = .flat (.bool t)) (ht : t = true → WC P E C x σ Q) (hf : t = false → WC P E C y σ Q) : WC P E C (.cond c x y) σ Q := fun a w hA => by
  obtain ⟨g, ob, h1, h2, h3, h4⟩ := id hA
  have := evInt (σ := σ) (dl := a.defers) h1.slot (hG.onto h1.onto) hc
  exact wp_cond_split (t := t) this (fun k => ht k a w hA) (fun k => hf k a w hA)
theorem WC.block {id : Nat} {c : Code} {σ : S} {Q : QC} (h : WC P E C c σ (blk id Q)) : WC P E C (.block id c) σ Q := fun a w hA => wp_block (wp_mono (h a w hA) (fun e a' w' ⟨σ', h1, h2⟩ => by
  cases e with
  | exit i =>
    simp only [Exit.inBlock]
    simp only [blk] at h2
    split
    · rename_i k; rw [if_pos k] at h2; exact ⟨σ', h1, h2⟩
    · rename_i k; rw [if_neg k] at h2; exact ⟨σ', h1, h2⟩
  | _ => exact ⟨σ', h1, h2⟩))

/-- One state says less than another. -/
def Sub (E : Entry) (nt : Nat) (σ σ' : S) : Prop := ∀ a w, At E nt σ a w → At E nt σ' a w
theorem WC.sub {c : Code} {σ σ' : S} {Q : QC} (hs : Sub E C.nt σ σ') (h : WC P E C c σ' Q) : WC P E C c σ Q := fun a w hA => h a w (hs a w hA)

theorem exists_least {p : Nat → Prop} : (∃ n, p n) → ∃ n, p n ∧ ∀ m, p m → n ≤ m := by
  rintro ⟨n, hn⟩
  induction n using Nat.strongRecOn with
  | _ n ih =>
    by_cases h : ∃ m, m < n ∧ p m
    · obtain ⟨m, h1, h2⟩ := h
      exact ih m h1 h2
    · refine ⟨n, hn, fun m hm => ?_⟩
      rcases Nat.lt_or_ge m n with q | q
      · exact absurd ⟨m, q, hm⟩ h
      · exact q

open Classical in
theorem WC.loop {c : Code} {σ : S} {Q : QC} (I : Nat → S → Prop) {n0 : Nat} {σ0 : S} (h0 : I n0 σ0) (hs : Sub E C.nt σ σ0)
    (round : ∀ n σ, I n σ → WC P E C c σ (nxt (fun σ' => ∃ m σ'', m < n ∧ Sub E C.nt σ' σ'' ∧ I m σ'') Q)) : WC P E C (.loop c) σ Q := by
  intro a w hA
  have ex : ∀ {a w}, (∃ n σ, I n σ ∧ At E C.nt σ a w) → ∃ n, ∃ σ, I n σ ∧ At E C.nt σ a w := fun h => h
  let μ : Act → World → Nat := fun a w => if h : ∃ n, ∃ σ, I n σ ∧ At E C.nt σ a w then Classical.choose (exists_least h) else 0
  refine wp_loop (fun a w => ∃ n, ∃ σ, I n σ ∧ At E C.nt σ a w) μ ⟨n0, σ0, h0, hs a w hA⟩ (fun a w hI => ?_)
  have hμ : μ a w = Classical.choose (exists_least hI) := by simp only [μ]; rw [dif_pos hI]
  obtain ⟨⟨σ1, h1, h2⟩, _⟩ := Classical.choose_spec (exists_least hI)
  refine wp_mono (round _ σ1 h1 a w h2) (fun e a' w' ⟨σ', k1, k2⟩ => ?_)
  cases e with
  | normal =>
    obtain ⟨m, σ'', m1, m2, m3⟩ := k2
    have hI' : ∃ n, ∃ σ, I n σ ∧ At E C.nt σ a' w' := ⟨m, σ'', m3, m2 a' w' k1⟩
    refine ⟨hI', ?_⟩
    have hμ' : μ a' w' = Classical.choose (exists_least hI') := by simp only [μ]; rw [dif_pos hI']
    rw [hμ, hμ']
    exact Nat.lt_of_le_of_lt ((Classical.choose_spec (exists_least hI')).2 m ⟨σ'', m3, m2 a' w' k1⟩) m1
  | _ => exact ⟨σ', k1, k2⟩

/-- A region, and what stands behind it. -/
theorem WC.region (hH : EnvOk P C.H) (hL : LEnvOk P C.L) (hG : GlOk E.g0 E.w0 C.gl) {id : Nat} {ops : Array Oper} {σ : S} {Q : QC} (hd : dstOk C.nt ops.toList = true)
    (h : ∀ (Θ : Ctx P E C) (K : S → Prop), Θ.ops = ops.toList → (∀ σ, Q .normal σ → K σ) → Post Θ (run C (ops.toList.map (·.dst)) ops.toList σ True) K) : WC P E C (.region id ops false) σ Q := by
  intro a w hA
  refine wp_region ?_
  let Θ : Ctx P E C := ⟨ops.toList, hd, hH, hL, hG⟩
  have := (WR.of_run Θ (fun σ => Q .normal σ) ops.toList σ True (h Θ _ rfl (fun _ k => k))).2 0 rfl (fun e a' w' => ∃ σ', At E C.nt σ' a' w' ∧ Q e σ') (fun σ' a' w' h1 h2 => ⟨σ', h1, h2⟩) a w hA
  have e : Θ.ops = ops.toList := rfl
  simp only [e, List.drop_zero, Array.toArray_toList, Array.length_toList] at this
  exact this

end Go.VL
