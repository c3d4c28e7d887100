/- Part VL8 of the proof: made for this claim. -/
import Derived.Test.YtnajgcmdkmlimaaVL7
/-! VL part 8: all operations that only compute, in one function. -/
set_option linter.unusedVariables false
set_option linter.unusedSimpArgs false
open Go.RowKit
namespace Go.VL
variable {P : Program} {H : Env} {L : LEnv} {w : World} {g : G}

noncomputable def binV (H : Env) (L : LEnv) (t : TypeId) (op : BinOp) (x y : V) : Option (Prop × V) := match x with
  | .flat a => match a with
    | .int k a => match y with
      | .flat (.int k' b) => binInt op k a k' b
      | _ => none
    | .string a => match y with
      | .flat (.string b) => binStr op a b
      | _ => none
    | .bool a => match y with
      | .flat (.bool b) => binBool H t op a b
      | _ => none
    | .pointer p => binPtr H t op (.flat (.pointer p)) y
    | _ => none
  | .agg xs => match y with
    | .agg ys => binAgg L t op xs ys
    | _ => none
  | .bp b o => binPtr H t op (.bp b o) y
  | _ => none
theorem binV_gives (hH : EnvOk P H) (hL : LEnvOk P L) (t : TypeId) (op : BinOp) (ox oy : Operand) {x y : V} {a b : Value} (hx : VR g w x a) (hy : VR g w y b) :
    Gives P g w (do eqGuard op t ox oy a b; binOp op t a b) (binV H L t op x y) := by
  unfold binV
  split <;> try exact Gives.none
  · rename_i v
    split <;> try exact Gives.none
    · split <;> try exact Gives.none
      cases hx; cases hy
      exact binInt_gives _ _ _ _ _ _ _ _
    · split <;> try exact Gives.none
      cases hx; cases hy
      exact binStr_gives _ _ _ _ _ _
    · split <;> try exact Gives.none
      cases hx; cases hy
      exact binBool_gives hH _ _ _ _ _ _
    · exact binPtr_gives hH op t ox oy hx hy
  · split <;> try exact Gives.none
    exact binAgg_gives hL op t ox oy hx hy
  · exact binPtr_gives hH op t ox oy hx hy

def chkV (x : V) : Option (Prop × V) := match x with
  | .bp b o => some (True, .bp b o)
  | .ref cs o => some (True, .ref cs o)
  | _ => none

def bltV (H : Env) (b : Builtin) (ts : List TypeId) (xs : List V) : Option (Prop × V) := match b with
  | .len => match xs, ts with
    | [x], t :: _ => if x.known = true then lenV H t x else none
    | _, _ => none
  | .max => match xs with
    | [x, y] => mxV x y
    | _ => none
  | .min => match xs with
    | [x, y] => mnV x y
    | _ => none
  | _ => none

/-- A slice as the address of an array. -/
def apV (H : Env) (t : TypeId) (x : V) : Option (Prop × V) := match H.get t with
  | some i => match i.k with
    | .arr m _ => match x with
      | .sl _ _ n cs => some (m ≤ n ∧ 0 < cs.length, .ref cs 0)
      | .bs b off n _ => some (m ≤ n, .bp b off)
      | _ => none
    | _ => none
  | none => none
theorem apV_gives (hH : EnvOk P H) (t : TypeId) {x : V} {a : Value} (hx : VR g w x a) : Gives P g w (Instr.arrayAt t a) (apV H t x) := by
  unfold apV
  cases hi : H.get t with
  | none => exact Gives.none
  | some i =>
    have hT := hH.tells hi
    simp only []
    cases hk : i.k <;> simp only [] <;> try exact Gives.none
    rename_i m e
    have hu := hT.und_arr hk
    cases hx <;> simp only [] <;> try exact Gives.none
    · refine Gives.some_ (fun hc => ?_)
      have := hc.2; simp at this
    · rename_i own sz n cs blk off cap us hn hcap hcm hp hu' hv
      refine Gives.some_ (fun hc => ⟨.pointer (some ⟨blk, off + 0, none⟩), ?_, .ref cs 0 blk off us hp hu' hv⟩)
      simp [Instr.arrayAt, run_underlying' hu, Nat.not_lt.2 hc.1]
    · rename_i b off n cap hb hcap
      refine Gives.some_ (fun hc => ⟨.pointer (some ⟨g.φ b, off, none⟩), ?_, .bp b off hb⟩)
      simp [Instr.arrayAt, run_underlying' hu, Nat.not_lt.2 hc]

/-- 'T(x)', a box's bytes to a text among them. -/
def cvM (H : Env) (mem : Nat → Option (List V)) (src dst : TypeId) (x : V) : Option (Prop × V) := match x with
  | .bs b off n _ => match mem b with
    | some cs => match H.get src, H.get dst with
      | some i, some j => match i.k, j.k with
        | .sl e, .str => match H.get e with
          | some ie => match ie.k with
            | .int .u8 => some (off + n ≤ cs.length ∧ AllBytes ((cs.drop off).take n), .flat (.string (bytesV ((cs.drop off).take n))))
            | _ => none
          | none => none
        | _, _ => none
      | _, _ => none
    | none => none
  | y => cvV H src dst y
theorem cvM_gives (hH : EnvOk P H) {mem : Nat → Option (List V)} (hm : BoxesAt g w mem) (src dst : TypeId) {x : V} {a : Value} (hx : VR g w x a) : Gives P g w (convert src dst a) (cvM H mem src dst x) := by
  unfold cvM
  split
  · rename_i b off n cap
    split <;> try exact Gives.none
    rename_i cs hmb
    split <;> try exact Gives.none
    rename_i i j hs hd
    have hTs := hH.tells hs
    have hTd := hH.tells hd
    split <;> try exact Gives.none
    rename_i e k1 k2
    split <;> try exact Gives.none
    rename_i ie he
    split <;> try exact Gives.none
    rename_i k3
    refine Gives.some_ (fun hc => ?_)
    obtain ⟨h1, h2⟩ := hc
    refine ⟨.string (bytesV ((cs.drop off).take n)), ?_, .flat _ rfl⟩
    cases hx
    obtain ⟨_, c, ee, fr, hh, hsz, hth, hvv⟩ := hm b cs hmb
    have hl : ((cs.drop off).take n).length = n := by simp; omega
    refine run_convert_bytes_arg w src e (hTs.und_sl k1) ((hH.tells he).und_int k3) (g.φ b) off n cap _ (by simpa using hl) (fun i hi => ?_) dst (hTd.und_str k2)
    have hv : ∀ k, k < ((cs.drop off).take n).length → VR g w (((cs.drop off).take n).getD k .unk) (((c.toList.drop off).take n).getD k undef) := fun k hk => by
      rw [hl] at hk
      have := hvv (off + k) (by omega)
      simpa [List.getD_eq_getElem?_getD, Array.getD_eq_getD_getElem?, List.getElem?_take, List.getElem?_drop, hk] using this
    have := byte_cells h2 hv i (by omega)
    rw [← this]
    simp only [World.cell?, hh]
    simp [List.getD_eq_getElem?_getD, List.getElem?_take, List.getElem?_drop, hi, show off + i < c.size by omega]
  · exact cvV_gives hH src dst hx

noncomputable def ev1 (H : Env) (L : LEnv) (mem : Nat → Option (List V)) (ρ : Operand → V) (op : Op) : Option (Prop × V) := match op with
  | .move x => some (ρ x ≠ .unk, (ρ x).fzT)
  | .assign x => some (ρ x ≠ .unk, (ρ x).fzT)
  | .pick c a b => match ρ c with
    | .flat (.bool t) => some ((if t = true then ρ a ≠ .unk else ρ b ≠ .unk), (bif t then (ρ a).fzT else (ρ b).fzT))
    | _ => none
  | .binOp op t x y _ => binV H L t op (ρ x) (ρ y)
  | .unOp op _ x => unV op (ρ x)
  | .convert s d x => cvM H mem s d (ρ x)
  | .sliceToArrayPointer t x => apV H t (ρ x)
  | .extract x i => extV (ρ x) i
  | .nilCheck x => chkV (ρ x)
  | .field t x f => fieldV H t (ρ x) f
  | .index t x i => indexV H t (ρ x) (ρ i)
  | .slice t x lo hi none => slV H t (ρ x) (lo.map ρ) (hi.map ρ)
  | .fieldAddr t x f => faV H t (ρ x) f
  | .indexAddr t x i => iaV H t (ρ x) (ρ i)
  | .load t x => ldV H mem t (ρ x)
  | .build t ps => buildV H t (ps.toList.map fun p => (p.1, ρ p.2))
  | .call c => match c.callee with
    | .builtin b => bltV H b c.argTypes.toList (c.args.toList.map ρ)
    | _ => none
  | _ => none

theorem VR.fzT {x : V} {v : Value} (h : VR g w x v) : VR g w x.fzT v := by
  cases x with
  | tup cs =>
    cases h with
    | tup _ us hl hv =>
      refine .tup _ us (by simpa using hl) (fun i hi => ?_)
      simp only [List.length_map] at hi
      have e : (cs.map V.fz).getD i .unk = (cs.getD i .unk).fz := by simp [List.getD_eq_getElem?_getD, hi]
      rw [e]
      exact (hv i hi).fz
  | _ => exact h.fz

/-- What ev1 tells is what the machine does. -/
theorem ev1_sound (hH : EnvOk P H) (hL : LEnvOk P L) {mem : Nat → Option (List V)} (hm : BoxesAt g w mem) {ρ : Operand → V} {σ : Operand → Value} (hρ : ∀ x, ρ x ≠ .unk → VR g w (ρ x) (σ x)) (o : Oper) {c : Prop} {x : V}
    (h : ev1 H L mem ρ o.op = some (c, x)) (hc : c) : ∃ v, (execOp σ o).run P w = .ok (.value v) w ∧ VR g w x v := by
  have wrap : ∀ {m : Sem Value} {r : Option (Prop × V)}, Gives P g w m r → r = some (c, x) → ∃ v, (do pure (.value (← m)) : Sem Next).run P w = .ok (.value v) w ∧ VR g w x v := by
    intro m r hg hr
    obtain ⟨v, h1, h2⟩ := hg c x hr hc
    exact ⟨v, by simp [h1], h2⟩
  -- an operand that is used is known
  have hk : ∀ {α : Type} {f : V → Option (Prop × V)} (y : Operand), f (ρ y) = some (c, x) → f .unk = none → VR g w (ρ y) (σ y) := by
    intro _ f y h1 h2
    refine hρ y (fun e => ?_)
    rw [e, h2] at h1; cases h1
  obtain ⟨dst, op, ty, pos, after, guard⟩ := o
  cases op <;> simp only [ev1] at h <;> try cases h
  case move y => exact ⟨σ y, rfl, (hρ y hc).fzT⟩
  case assign y => exact ⟨σ y, rfl, (hρ y hc).fzT⟩
  case pick q a b =>
    cases hq : ρ q with
    | flat u =>
      rw [hq] at h
      cases u <;> simp only [reduceCtorEq, Option.some.injEq, Prod.mk.injEq] at h
      rename_i t
      obtain ⟨rfl, rfl⟩ := h
      have h1 := hρ q (by rw [hq]; simp)
      rw [hq] at h1
      generalize hs : σ q = s at h1
      cases h1
      cases t
      · simp only [Bool.false_eq_true, if_false] at hc
        exact ⟨σ b, by simp [execOp, hs, asBool], by simpa using (hρ b hc).fzT⟩
      · simp only [if_true] at hc
        exact ⟨σ a, by simp [execOp, hs, asBool], by simpa using (hρ a hc).fzT⟩
    | _ => rw [hq] at h; cases h
  case binOp op t y z yt =>
    have h1 := hk (α := V) (f := fun q => binV H L t op q (ρ z)) y h (by simp [binV])
    have h2 := hk (α := V) (f := fun q => binV H L t op (ρ y) q) z h (by
      unfold binV; split <;> try rfl
      · split <;> try rfl
        unfold binPtr nilEq; split <;> try rfl
        split <;> try rfl
        split <;> simp_all
      · unfold binPtr nilEq; split <;> try rfl
        split <;> try rfl)
    exact wrap (binV_gives hH hL t op y z h1 h2) h
  case unOp op t y => exact wrap (unV_gives op (hk (α := V) (f := unV op) y h rfl)) h
  case convert s d y =>
    refine wrap (cvM_gives hH hm s d (hk (α := V) (f := cvM H mem s d) y h ?_)) h
    show cvV H s d .unk = none
    unfold cvV; split <;> rfl
  case sliceToArrayPointer t y =>
    refine wrap (apV_gives hH t (hk (α := V) (f := apV H t) y h ?_)) h
    unfold apV; split <;> try rfl
    split <;> rfl
  case extract y i => exact wrap (extV_gives i (hk (α := V) (f := fun q => extV q i) y h rfl)) h
  case nilCheck y =>
    have h1 := hk (α := V) (f := chkV) y h rfl
    generalize hs : σ y = s at h1
    generalize ρ y = X at h1 h
    cases h1 with
    | ref cs off blk o us hp hu hv =>
      simp only [chkV, Option.some.injEq, Prod.mk.injEq] at h
      obtain ⟨_, rfl⟩ := h
      exact ⟨_, by simp [execOp, hs], .ref cs off blk o us hp hu hv⟩
    | bp b off hb =>
      simp only [chkV, Option.some.injEq, Prod.mk.injEq] at h
      obtain ⟨_, rfl⟩ := h
      exact ⟨_, by simp [execOp, hs], .bp b off hb⟩
    | _ => simp [chkV] at h
  case field t y f => exact wrap (fieldV_gives hH t f (hk (α := V) (f := fun q => fieldV H t q f) y h rfl)) h
  case index t y i =>
    have h2 := hk (α := V) (f := fun q => indexV H t (ρ y) q) i h rfl
    have h1 := hk (α := V) (f := fun q => indexV H t q (ρ i)) y h (by unfold indexV; split <;> rfl)
    exact wrap (indexV_gives hH t h1 h2) h
  case slice t y lo hi mx =>
    cases mx with
    | some m => cases h
    | none =>
      have h1 := hk (α := V) (f := fun q => slV H t q (lo.map ρ) (hi.map ρ)) y h (by
        unfold slV; split <;> try rfl
        split <;> try rfl
        split <;> try rfl
        · split <;> rfl
        · split <;> rfl)
      have bn : ∀ (q : Option Operand) (r : Option Int), bnd (q.map ρ) = some r → ∀ v, q.map ρ = some v → ∃ u, q.map σ = some u ∧ VR g w v u := by
        intro q r hb v hv
        cases q with
        | none => cases hv
        | some q =>
          simp only [Option.map_some, Option.some.injEq] at hv hb ⊢
          refine ⟨σ q, rfl, ?_⟩
          rw [← hv]
          refine hρ q (fun e => ?_)
          rw [e] at hb; simp [bnd] at hb
      have nn : ∀ q : Option Operand, q.map ρ = none → q.map σ = none := fun q e => by cases q <;> simp_all
      cases hl : bnd (lo.map ρ) with
      | none => simp only [slV, hl] at h; cases h
      | some l =>
        cases hh : bnd (hi.map ρ) with
        | none => simp only [slV, hl, hh] at h; cases h
        | some hi' => exact wrap (slV_gives hH t h1 (bn lo l hl) (nn lo) (bn hi hi' hh) (nn hi)) h
  case fieldAddr t y f =>
    exact wrap (faV_gives hH t f (hk (α := V) (f := fun q => faV H t q f) y h (by
      unfold faV; split <;> try rfl
      split <;> try rfl
      split <;> try rfl
      split <;> try rfl
      split <;> rfl))) h
  case indexAddr t y i =>
    have h2 := hk (α := V) (f := fun q => iaV H t (ρ y) q) i h rfl
    have h1 := hk (α := V) (f := fun q => iaV H t q (ρ i)) y h (by
      unfold iaV; split <;> try rfl
      split <;> try rfl
      split <;> try rfl
      · split <;> rfl
      · split <;> rfl)
    exact wrap (iaV_gives hH t h1 h2) h
  case load t y =>
    exact wrap (ldV_gives hH hm t (hk (α := V) (f := fun q => ldV H mem t q) y h (by unfold ldV; (repeat' split) <;> first | rfl | simp_all))) h
  case build t ps =>
    refine wrap (buildV_gives hH t _ (ps.map fun (i, x) => (i, σ x)) (by simp) (fun j i x hj hx => ?_)) h
    simp only [List.getElem?_map, Option.map_eq_some_iff, Array.getElem?_toList] at hj
    obtain ⟨⟨i', y⟩, hp, e⟩ := hj
    simp only [Prod.mk.injEq] at e
    obtain ⟨rfl, rfl⟩ := e
    exact ⟨σ y, by simp [hp], hρ y hx⟩
  case call cl =>
    obtain ⟨callee, args, ats⟩ := cl
    cases callee <;> simp only [] at h <;> try cases h
    rename_i b
    have hrun : (execOp σ { dst := dst, op := .call { callee := .builtin b, args := args, argTypes := ats }, type := ty, pos := pos, after := after, guard := guard }).run P w = (builtin b ats ty (args.map fun | .const _ => true | _ => false) (args.map σ)).run P w := rfl
    unfold bltV at h
    split at h <;> try cases h
    · split at h <;> try cases h
      rename_i x' t' ts' e1 e2
      split at h <;> try cases h
      rename_i hne
      obtain ⟨y, hy, hyx⟩ := List.map_eq_singleton_iff.1 e1
      have hy' : args = #[y] := by apply Array.ext'; rw [hy]
      subst hy'
      have hr := hρ y (by rw [hyx]; intro k; rw [k] at hne; exact absurd hne (by simp [V.known]))
      rw [hyx] at hr
      have hats : ats[0]? = some t' := by rw [← Array.getElem?_toList, e2]; rfl
      obtain ⟨v, v1, v2⟩ := lenV_gives (P := P) hH t' ty ats hats hr c x h hc
      exact ⟨v, by rw [hrun]; simp [builtin, v1], v2⟩
    · split at h <;> try cases h
      rename_i x' y' e1
      obtain ⟨p, r, hp, hpx, hr⟩ := List.map_eq_cons_iff.1 e1
      obtain ⟨q, hq, hqx⟩ := List.map_eq_singleton_iff.1 hr
      have hy' : args = #[p, q] := by apply Array.ext'; rw [hp, hq]
      subst hy'
      have r1 := hρ p (by rw [hpx]; intro k; rw [k] at h; simp [mxV] at h)
      have r2 := hρ q (by rw [hqx]; intro k; rw [k] at h; unfold mxV at h; split at h <;> simp_all)
      rw [hpx] at r1
      rw [hqx] at r2
      obtain ⟨v, v1, v2⟩ := mxV_gives (P := P) ats ty r1 r2 c x h hc
      exact ⟨v, by rw [hrun]; simp [builtin, v1], v2⟩
    · split at h <;> try cases h
      rename_i x' y' e1
      obtain ⟨p, r, hp, hpx, hr⟩ := List.map_eq_cons_iff.1 e1
      obtain ⟨q, hq, hqx⟩ := List.map_eq_singleton_iff.1 hr
      have hy' : args = #[p, q] := by apply Array.ext'; rw [hp, hq]
      subst hy'
      have r1 := hρ p (by rw [hpx]; intro k; rw [k] at h; simp [mnV] at h)
      have r2 := hρ q (by rw [hqx]; intro k; rw [k] at h; unfold mnV at h; split at h <;> simp_all)
      rw [hpx] at r1
      rw [hqx] at r2
      obtain ⟨v, v1, v2⟩ := mnV_gives (P := P) ats ty r1 r2 c x h hc
      exact ⟨v, by rw [hrun]; simp [builtin, v1], v2⟩

end Go.VL
