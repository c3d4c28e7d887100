/- Part VL3b of the proof: made for this claim. -/
import Derived.Test.YtnajgcmdkmlimaaVL3
/-! VL part 3b: equality of plain structs and arrays. -/
set_option linter.unusedVariables false
set_option linter.unusedSimpArgs false
open Go.RowKit
namespace Go.VL
variable {P : Program} {H : Env} {w : World}

theorem mapM_some {α β : Type} (f : α → Option β) (g : α → β) : ∀ (l : List α), (∀ x ∈ l, f x = some (g x)) → l.mapM f = some (l.map g)
  | [], _ => by simp
  | x :: l, h => by
    rw [List.mapM_cons, h x (by simp), mapM_some f g l (fun y hy => h y (by simp [hy]))]
    rfl

def CK.fitV : CK → Value → Prop
  | .int k, .int k' n => k' = k ∧ (k.min ≤ n ∧ n ≤ k.max)
  | .bool, .bool _ => True
  | .str, .string s => s.size ≤ maxLen
  | _, _ => False
def FitV : List CK → List Value → Prop
  | [], [] => True
  | k :: ks, x :: xs => k.fitV x ∧ FitV ks xs
  | _, _ => False
def lit : Value → Lit
  | .int k n => .int k n
  | .bool b => .bool b
  | .string s => .string s.data.toList
  | _ => .nil
theorem FitV.length : ∀ {L : List CK} {cs : List Value}, FitV L cs → cs.length = L.length
  | [], [], _ => rfl
  | k :: ks, x :: xs, h => by simp [FitV.length h.2]
  | [], _ :: _, h => h.elim
  | _ :: _, [], h => h.elim
theorem FitV.append : ∀ {L M : List CK} {cs : List Value}, FitV (L ++ M) cs → FitV L (cs.take L.length) ∧ FitV M (cs.drop L.length)
  | [], M, cs, h => by simpa [FitV] using h
  | k :: ks, M, x :: xs, h => by
    obtain ⟨h1, h2⟩ := FitV.append h.2
    exact ⟨⟨h.1, h1⟩, h2⟩
  | _ :: _, _, [], h => h.elim

theorem fit_chunk (l : List CK) (s : Nat) (hs : l.length = s) : ∀ (n : Nat) (cs : List Value), FitV (List.replicate n l).flatten cs → cs.length = n * s ∧ ∀ i, i < n → FitV l ((cs.drop (i * s)).take s)
  | 0, cs, h => by
    have := h.length
    simp at this
    exact ⟨by simp [this], fun i hi => by omega⟩
  | n + 1, cs, h => by
    rw [List.replicate_succ, List.flatten_cons] at h
    obtain ⟨h1, h2⟩ := h.append
    obtain ⟨h3, h4⟩ := fit_chunk l s hs n _ h2
    have hlen := h.length
    rw [hs] at h1 h3 h4
    have hl : cs.length = s + (cs.drop s).length := by
      have := FitV.length h1
      rw [List.length_take, hs] at this
      rw [List.length_drop]; omega
    refine ⟨by rw [hl, h3, Nat.succ_mul]; omega, fun i hi => ?_⟩
    cases i with
    | zero => simpa using h1
    | succ i =>
      have := h4 i (by omega)
      rwa [List.drop_drop, show s + i * s = (i + 1) * s from by rw [Nat.succ_mul]; omega] at this

theorem flatten_chunks {α β : Type} (f : α → β) (s : Nat) : ∀ (n : Nat) (cs : List α), cs.length = n * s → ((List.range n).map fun i => ((cs.drop (i * s)).take s).map f).flatten = cs.map f
  | 0, cs, h => by
    have : cs = [] := List.eq_nil_of_length_eq_zero (by omega)
    simp [this]
  | n + 1, cs, h => by
    rw [List.range_succ_eq_map, List.map_cons, List.flatten_cons, List.map_map]
    have ih := flatten_chunks f s n (cs.drop s) (by rw [List.length_drop, h, Nat.succ_mul]; omega)
    have e : (fun i => ((cs.drop (i * s)).take s).map f) ∘ Nat.succ = fun i => (((cs.drop s).drop (i * s)).take s).map f := by
      funext i
      simp only [Function.comp, List.drop_drop]
      rw [show Nat.succ i * s = s + i * s from by rw [Nat.succ_mul]; omega]
    rw [e, ih, Nat.zero_mul, List.drop_zero, ← List.map_append, List.take_append_drop]

/-- Where a struct's fields end. -/
def fieldsEnd (P : Program) (o : Option Nat) (fs : List Field) : Option Nat := fs.foldl (fun (o : Option Nat) f => o.bind fun o => if f.offset = o then some (o + P.cellsOf f.type) else none) o
theorem fieldsEnd_none (P : Program) : ∀ fs, fieldsEnd P none fs = none
  | [] => rfl
  | f :: fs => by
    show fieldsEnd P ((none : Option Nat).bind _) fs = none
    exact fieldsEnd_none P fs
theorem fieldsEnd_cons (P : Program) (o : Nat) (f : Field) (fs : List Field) {o' : Nat} (h : fieldsEnd P (some o) (f :: fs) = some o') : f.offset = o ∧ fieldsEnd P (some (o + P.cellsOf f.type)) fs = some o' := by
  have e : fieldsEnd P (some o) (f :: fs) = fieldsEnd P ((some o).bind fun o => if f.offset = o then some (o + P.cellsOf f.type) else none) fs := rfl
  rw [e, Option.bind_some] at h
  split at h
  · rename_i k; exact ⟨k, h⟩
  · rw [fieldsEnd_none] at h; cases h

def LitsAt (P : Program) (d : Nat) (t : TypeId) : Prop := ∀ L, layOf P d t = some L → laidOut P d t = true → L.length = P.cellsOf t ∧ ∀ cs, FitV L cs → P.keyLits d t cs = some (cs.map lit)

theorem fields_lits (P : Program) (d : Nat) (hall : ∀ t, LitsAt P d t) : ∀ (fs : List Field) (o o' : Nat) (ls : List (List CK)), fieldsEnd P (some o) fs = some o' → fs.mapM (fun f => layOf P d f.type) = some ls →
    (∀ f ∈ fs, laidOut P d f.type = true) → o + ls.flatten.length = o' ∧
    ∀ cs : List Value, FitV ls.flatten (cs.drop o) → ∃ qs, fs.mapM (fun f => P.keyLits d f.type ((cs.drop f.offset).take (P.cellsOf f.type))) = some qs ∧ qs.flatten = (cs.drop o).map lit
  | [], o, o', ls, he, hm, _ => by
    simp at hm
    subst hm
    have : o = o' := by simpa [fieldsEnd] using he
    subst this
    refine ⟨by simp, fun cs h => ⟨[], by simp, ?_⟩⟩
    have := h.length
    simp at this
    have : cs.drop o = [] := List.drop_eq_nil_of_le (by omega)
    simp [this]
  | f :: fs, o, o', ls, he, hm, hlo => by
    obtain ⟨e1, e2⟩ := fieldsEnd_cons P o f fs he
    rw [List.mapM_cons] at hm
    simp only [bind, Option.bind_eq_some_iff, pure, Option.some.injEq] at hm
    obtain ⟨l, hl, ls', hls, rfl⟩ := hm
    obtain ⟨h1, h2⟩ := hall f.type l hl (hlo f (by simp))
    obtain ⟨h3, h4⟩ := fields_lits P d hall fs _ o' ls' e2 hls (fun g hg => hlo g (by simp [hg]))
    refine ⟨by rw [List.flatten_cons, List.length_append]; omega, fun cs h => ?_⟩
    rw [List.flatten_cons] at h
    obtain ⟨k1, k2⟩ := h.append
    rw [h1] at k1 k2
    rw [List.drop_drop] at k2
    obtain ⟨qs, hq, hf⟩ := h4 cs k2
    refine ⟨((cs.drop o).take (P.cellsOf f.type)).map lit :: qs, ?_, ?_⟩
    · rw [List.mapM_cons, e1, h2 _ k1]
      simp only [bind, Option.bind_some, hq, pure]
    · rw [List.flatten_cons, hf, ← List.drop_drop, ← List.map_append, List.take_append_drop]

theorem layOf_lits (P : Program) : ∀ (d : Nat) (t : TypeId), LitsAt P d t
  | 0, t => fun L h => by simp [layOf] at h
  | d + 1, t => by
    intro L h hlo
    have ih := layOf_lits P d
    unfold layOf at h
    unfold laidOut at hlo
    unfold Program.keyLits
    cases hu : P.underlying t with
    | none => simp [hu] at h
    | some k =>
      simp only [hu] at h hlo ⊢
      cases k <;> simp only [Option.some.injEq, reduceCtorEq] at h hlo ⊢
      case bool =>
        subst h
        refine ⟨by have := eq_of_beq hlo; rw [this]; rfl, fun cs hc => ?_⟩
        match cs, hc with
        | [.bool b], _ => rfl
      case int k =>
        subst h
        refine ⟨by have := eq_of_beq hlo; rw [this]; rfl, fun cs hc => ?_⟩
        match cs, hc with
        | [.int k' n], hc =>
          obtain ⟨⟨rfl, h1, h2⟩, _⟩ := hc
          simp [Lit.wf, h1, h2, lit]
      case string =>
        subst h
        refine ⟨by have := eq_of_beq hlo; rw [this]; rfl, fun cs hc => ?_⟩
        match cs, hc with
        | [.string s], hc =>
          have h1 : s.size ≤ maxLen := hc.1
          simp [h1, lit]
      case array n e =>
        rw [Option.map_eq_some_iff] at h
        obtain ⟨l, hl, rfl⟩ := h
        simp only [Bool.and_eq_true, beq_iff_eq] at hlo
        obtain ⟨h1, h2⟩ := ih e l hl hlo.1
        have hL : (List.replicate n l).flatten.length = P.cellsOf t := by
          rw [hlo.2, List.length_flatten, List.map_replicate, List.sum_replicate_nat, h1]
        refine ⟨hL, fun cs hc => ?_⟩
        have hlen := hc.length
        rw [hL] at hlen
        obtain ⟨c1, c2⟩ := fit_chunk l (P.cellsOf e) h1 n cs hc
        cases cs <;> simp only [hlen, if_true]
        all_goals
          rw [mapM_some _ (fun i => ((List.drop (i * P.cellsOf e) _).take (P.cellsOf e)).map lit) (List.range n) (fun i hi => h2 _ (c2 i (List.mem_range.1 hi)))]
          rw [Option.map_some, flatten_chunks lit (P.cellsOf e) n _ c1]
      case struct fs =>
        rw [Option.map_eq_some_iff] at h
        obtain ⟨ls, hls, rfl⟩ := h
        simp only [Bool.and_eq_true, beq_iff_eq, List.all_eq_true] at hlo
        obtain ⟨hlo1, hlo2⟩ := hlo
        obtain ⟨h3, h4⟩ := fields_lits P d ih fs.toList 0 (P.cellsOf t) ls hlo2 hls (fun f hf => (hlo1 f hf).1)
        have hL : ls.flatten.length = P.cellsOf t := by omega
        refine ⟨hL, fun cs hc => ?_⟩
        have hlen := hc.length
        rw [hL] at hlen
        obtain ⟨qs, hq, hf⟩ := h4 cs (by simpa using hc)
        have hnm : (fs.all (fun f => f.name != "_")) = true := by
          rw [Array.all_eq_true_iff_forall_mem]
          intro f hf'
          exact (hlo1 f (by simpa using hf')).2
        cases cs <;> simp only [hlen, hnm, and_self, if_true]
        all_goals
          rw [hq, Option.map_some, hf, List.drop_zero]

/-! ### The rule -/
abbrev LEnv := List (TypeId × List CK)
def LEnv.get (H : LEnv) (t : TypeId) : Option (List CK) :=
  match H with
  | [] => none
  | (u, i) :: r => if u = t then some i else LEnv.get r t
def eqOk (P : Program) (t : TypeId) (l : List CK) : Bool :=
  decide (layOf P 8 t = some l) && laidOut P 8 t && P.keyTypeAt 8 t && !(P.eqGuardType P.depth t) && (match P.underlying t with | some (.struct _) | some (.array _ _) => true | _ => false)
def LEnvOk (P : Program) (H : LEnv) : Prop := (H.all fun p => eqOk P p.1 p.2) = true
theorem LEnvOk.get {L : LEnv} (h : LEnvOk P L) {t : TypeId} {l : List CK} (hg : L.get t = some l) : eqOk P t l = true := by
  unfold LEnvOk at h
  induction L with
  | nil => cases hg
  | cons p r ih =>
    obtain ⟨u, i⟩ := p
    simp only [List.all_cons, Bool.and_eq_true] at h
    simp only [LEnv.get] at hg
    split at hg
    · rename_i e; subst e; cases hg; exact h.1
    · exact ih h.2 hg


noncomputable def eqCells (xs ys : List V) : Bool := @decide (xs.map vlit = ys.map vlit) (Classical.propDecidable _)
theorem eqCells_iff (xs ys : List V) : eqCells xs ys = true ↔ xs.map vlit = ys.map vlit := by unfold eqCells; exact @decide_eq_true_iff _ (Classical.propDecidable _)

noncomputable def binAgg (L : LEnv) (t : TypeId) (op : BinOp) (xs ys : List V) : Option (Prop × V) := match L.get t with
  | some l => match op with
    | .eql => some (Fit l xs ∧ Fit l ys, .flat (.bool (eqCells xs ys)))
    | .neq => some (Fit l xs ∧ Fit l ys, .flat (.bool (!eqCells xs ys)))
    | _ => none
  | none => none

theorem Fit.length : ∀ {L : List CK} {cs : List V}, Fit L cs → cs.length = L.length
  | [], [], _ => rfl
  | k :: ks, x :: xs, h => by simp [Fit.length h.2]
  | [], _ :: _, h => h.elim
  | _ :: _, [], h => h.elim
theorem fitV_of {g : G} : ∀ {l : List CK} {xs : List V} {us : List Value}, Fit l xs → us.length = xs.length → (∀ i, i < xs.length → VR g w (xs.getD i .unk) (us.getD i undef)) → FitV l us ∧ us.map lit = xs.map vlit
  | [], [], [], _, _, _ => ⟨trivial, rfl⟩
  | k :: ks, x :: xs, u :: us, h, hl, hv => by
    obtain ⟨h1, h2⟩ := h
    obtain ⟨i1, i2⟩ := fitV_of (us := us) h2 (by simpa using hl) (fun i hi => by have := hv (i + 1) (by simp; omega); simpa using this)
    have h0 : VR g w x u := by have := hv 0 (by simp); simpa using this
    cases x with
    | flat v =>
      cases h0
      refine ⟨⟨?_, i1⟩, ?_⟩
      · cases k <;> cases u <;> simp_all [CK.fit, CK.fitV]
      · rw [List.map_cons, List.map_cons, i2]
        congr 1
        cases k <;> cases u <;> simp_all [CK.fit, lit, vlit]
    | _ => cases k <;> simp [CK.fit] at h1
  | [], _ :: _, _, h, _, _ => h.elim
  | _ :: _, [], _, h, _, _ => h.elim
  | [], [], _ :: _, _, hl, _ => by simp at hl
  | _ :: _, _ :: _, [], _, hl, _ => by simp at hl

theorem binAgg_gives {g : G} {L : LEnv} (hL : LEnvOk P L) (op : BinOp) (t : TypeId) (ox oy : Operand) {xs ys : List V} {a b : Value} (hx : VR g w (.agg xs) a) (hy : VR g w (.agg ys) b) :
    Gives P g w (do eqGuard op t ox oy a b; binOp op t a b) (binAgg L t op xs ys) := by
  unfold binAgg
  cases hi : L.get t with
  | none => exact Gives.none
  | some l =>
    have hk := hL.get hi
    simp only [eqOk, Bool.and_eq_true, decide_eq_true_eq, Bool.not_eq_true'] at hk
    obtain ⟨⟨⟨⟨k1, k2⟩, k3⟩, k4⟩, k5⟩ := hk
    obtain ⟨hlen, hlits⟩ := layOf_lits P 8 t l k1 k2
    cases hx with
    | agg _ us hxl hxv =>
      cases hy with
      | agg _ vs hyl hyv =>
        have key : Fit l xs ∧ Fit l ys → (Op.equal t (.agg us) (.agg vs)).run P w = .ok (eqCells xs ys) w := by
          rintro ⟨hf1, hf2⟩
          obtain ⟨f1, e1⟩ := fitV_of (us := us.toList) hf1 (by simpa using hxl) (fun i hi => by have := hxv i hi; simpa [List.getD_eq_getElem?_getD, Array.getD_eq_getD_getElem?] using this)
          obtain ⟨f2, e2⟩ := fitV_of (us := vs.toList) hf2 (by simpa using hyl) (fun i hi => by have := hyv i hi; simpa [List.getD_eq_getElem?_getD, Array.getD_eq_getD_getElem?] using this)
          have formed : ∀ (zs : Array Value), FitV l zs.toList → (Value.agg zs).formed P t = true := fun zs hz => by
            have := hz.length
            simp only [Value.formed]
            split at k5 <;> simp_all
          obtain ⟨r, hr, hiff⟩ := run_equalIn_deep 9992 8 t k3 w 8 8 (.agg us) (.agg vs) _ _ (formed us f1) (formed vs f2) (hlits _ f1) (hlits _ f2)
          have : r = eqCells xs ys := by
            simp only [Value.cells] at hiff
            rw [Bool.eq_iff_iff, hiff, e1, e2, eqCells_iff]
          subst this
          exact hr
        have hg : (eqGuard op t ox oy (.agg us) (.agg vs)).run P w = .ok () w := by
          simp [eqGuard, k4]
        cases op <;> simp only [] <;> (try exact Gives.none) <;> refine Gives.some_ (fun hc => ⟨_, ?_, .flat _ rfl⟩) <;>
          simp [Sem.run_bind, hg, binOp, key hc]

end Go.VL
