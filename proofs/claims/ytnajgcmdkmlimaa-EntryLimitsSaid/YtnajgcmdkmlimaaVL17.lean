/- Part VL17 of the proof: made for this claim. -/
import Derived.Test.YtnajgcmdkmlimaaVL16
/-! VL part 17: each step function tells what the machine does. -/
set_option linter.unusedVariables false
set_option linter.unusedSectionVars false
set_option linter.unusedSimpArgs false
open Go.RowKit
namespace Go.VL
variable {P : Program} {E : Entry} {w : World} {C : Cfg}

section
variable {o : Oper} {σ σ' : S} {d : Nat} {c : Prop}

theorem takeV_sound (hH : EnvOk P C.H) (hL : LEnvOk P C.L) (hG : GlOk E.g0 E.w0 C.gl) {x : Operand} (hop : o.op = .assign x ∨ o.op = .move x) (ho : o.dst = some d) (h : takeV C σ d x o.op = .ok c σ') (hc : c) : StepTo P E C.nt o σ σ' := by
  unfold takeV at h
  split at h
  · rename_i i
    split at h
    · rename_i own sz n cs hi
      split at h
      · cases h
        exact step_take hop ho hc hi
      · exact evR_sound hH hL hG rfl ho h hc
    · exact evR_sound hH hL hG rfl ho h hc
  · exact evR_sound hH hL hG rfl ho h hc

theorem takeTupV_sound (hH : EnvOk P C.H) (hL : LEnvOk P C.L) (hG : GlOk E.g0 E.w0 C.gl) {x : Operand} {j : Nat} (hop : o.op = .extract x j) (ho : o.dst = some d) (h : takeTupV C σ d x j o.op = .ok c σ') (hc : c) : StepTo P E C.nt o σ σ' := by
  unfold takeTupV at h
  split at h <;> try cases h
  rename_i i
  split at h <;> try cases h
  rename_i vs hi
  split at h <;> try cases h
  rename_i y hj
  split at h
  · split at h
    · cases h
      exact step_takeTup hop ho hc hi hj
    · exact evR_sound hH hL hG rfl ho h hc
  · exact evR_sound hH hL hG rfl ho h hc

theorem takeCellV_sound (hH : EnvOk P C.H) (hL : LEnvOk P C.L) (hG : GlOk E.g0 E.w0 C.gl) {x : Operand} {t : TypeId} (hop : o.op = .load t x) (ho : o.dst = some d) (h : takeCellV C σ d t x o.op = .ok c σ') (hc : c) : StepTo P E C.nt o σ σ' := by
  unfold takeCellV at h
  split at h
  · rename_i b off hx
    split at h <;> try cases h
    rename_i l hm
    split at h <;> try cases h
    rename_i y hl
    split at h
    · split at h
      · split at h <;> try cases h
        rename_i j hj
        split at h <;> try cases h
        rename_i hja
        exact step_takeCell hH hG hop hj hja ho hc hx hm hl
      · exact evR_sound hH hL hG rfl ho h hc
    · exact evR_sound hH hL hG rfl ho h hc
  · exact evR_sound hH hL hG rfl ho h hc

theorem allocV_sound (hH : EnvOk P C.H) (hL : LEnvOk P C.L) (hG : GlOk E.g0 E.w0 C.gl) {t : TypeId} (hop : o.op = .alloc t) (ho : o.dst = some d) (h : allocV C σ d t = .ok c σ') (hc : c) : StepTo P E C.nt o σ σ' := by
  unfold allocV at h
  split at h <;> try cases h
  rename_i i hi
  split at h <;> try cases h
  rename_i hz
  exact step_alloc hH hop hi hz ho hc

theorem boxV_sound (hH : EnvOk P C.H) (hL : LEnvOk P C.L) (hG : GlOk E.g0 E.w0 C.gl) {t : TypeId} {y : Operand} (hop : o.op = .box t y) (ho : o.dst = some d) (h : boxV C σ d (evO (lk σ.sl) C.gl y) = .ok c σ') (hc : c) : StepTo P E C.nt o σ σ' := by
  unfold boxV at h
  cases h
  exact step_box hH hG hop ho hc.2.2 hc.1 hc.2.1

theorem bslV_sound (hH : EnvOk P C.H) (hL : LEnvOk P C.L) (hG : GlOk E.g0 E.w0 C.gl) {t n : Nat} {ps : Array (Nat × Operand)} (hop : o.op = .buildSlice t n ps) (ho : o.dst = some d) (h : bslV C σ d t n (ps.toList.map fun p => (p.1, evO (lk σ.sl) C.gl p.2)) = .ok c σ') (hc : c) : StepTo P E C.nt o σ σ' := by
  unfold bslV at h
  split at h <;> try cases h
  rename_i ti ht
  split at h <;> try cases h
  rename_i e hte
  split at h <;> try cases h
  rename_i i hi
  split at h <;> try cases h
  rename_i hz
  split at h <;> try cases h
  rename_i c' r hf
  obtain ⟨c1, c2, c3, c4, c5, c6⟩ := hc
  refine step_buildSlice hH hG hop ho c6 ht hte hi hz c2 c3 (c := c') ?_ c1 (fun p hp => ?_) c5
  · rw [← hf, List.map_map]; rfl
  · exact c4 (p.1, evO (lk σ.sl) C.gl p.2) (List.mem_map.2 ⟨p, hp, rfl⟩)

theorem mkSlV_sound (hH : EnvOk P C.H) (hL : LEnvOk P C.L) (hG : GlOk E.g0 E.w0 C.gl) {t : TypeId} {x y : Operand} (hop : o.op = .makeSlice t x y) (ho : o.dst = some d) (h : mkSlV C σ d t (evO (lk σ.sl) C.gl x) (evO (lk σ.sl) C.gl y) = .ok c σ') (hc : c) : StepTo P E C.nt o σ σ' := by
  unfold mkSlV at h
  split at h <;> try cases h
  rename_i ti ht
  split at h <;> try cases h
  rename_i e hte
  split at h <;> try cases h
  rename_i i hi
  split at h <;> try cases h
  rename_i hz
  split at h <;> try cases h
  rename_i v hx
  split at h <;> try cases h
  rename_i k n
  split at h <;> try cases h
  rename_i u hy
  split at h <;> try cases h
  rename_i k' m
  split at h <;> cases h
  · obtain ⟨rfl, c1, c2, c3, c4⟩ := hc
    exact step_makeBox hH hG hop ho c4 ht hte hi hz hx hy c1 c2 c3
  · obtain ⟨rfl, c1, c2, c3, c4⟩ := hc
    exact step_make hH hG hop ho c4 ht hte hi hz hx hy c1 c2 c3

theorem cvtV_sound (hH : EnvOk P C.H) (hL : LEnvOk P C.L) (hG : GlOk E.g0 E.w0 C.gl) {u t : TypeId} {x : Operand} (hop : o.op = .convert u t x) (ho : o.dst = some d) (h : cvtV C σ d u t (evO (lk σ.sl) C.gl x) o.op = .ok c σ') (hc : c) : StepTo P E C.nt o σ σ' := by
  unfold cvtV at h
  split at h <;> try cases h
  rename_i ti ht
  split at h
  · rename_i e hte
    split at h <;> try cases h
    rename_i v hx
    split at h <;> try cases h
    rename_i s
    split at h <;> try cases h
    rename_i ui hu
    split at h <;> try cases h
    rename_i huk
    split at h <;> try cases h
    rename_i ei he
    split at h <;> try cases h
    rename_i k hek
    split at h <;> try cases h
    exact step_bytes hH hG hop ho hc.2 hu huk ht hte he hek hx hc.1
  · exact evR_sound hH hL hG rfl ho h hc

theorem appV_sound (hH : EnvOk P C.H) (hL : LEnvOk P C.L) (hG : GlOk E.g0 E.w0 C.gl) {t xt : TypeId} {x y : Operand} (hop : o.op = .call { callee := .builtin .append, args := #[x, y], argTypes := #[t, xt] }) (ho : o.dst = some d) (h : appV C σ d t xt x y = .ok c σ') (hc : c) : StepTo P E C.nt o σ σ' := by
  unfold appV at h
  split at h <;> try cases h
  rename_i ti ht
  split at h <;> try cases h
  rename_i e hte
  split at h <;> try cases h
  rename_i ei he
  split at h <;> try cases h
  rename_i xi hxt
  split at h <;> try cases h
  rename_i c' m xs hs
  split at h <;> try cases h
  · rename_i hx
    obtain ⟨c1, c2, c3, c4, c5, c6⟩ := hc
    exact step_appendNil hH hG hop ho c6 ht hte he hxt c2 c3 hx hs c1 c4 c5
  · rename_i own sz n cs hx
    split at h <;> try cases h
    split at h <;> try cases h
    rename_i i
    obtain ⟨c1, c2, c3, rfl, c5, c6, c7, c8, c9⟩ := hc
    exact step_append hH hG hop ho c9 ht hte he hxt c2 c3 hx hs c1 c5 c6 c7 c8

theorem stoV_sound (hH : EnvOk P C.H) (hL : LEnvOk P C.L) (hG : GlOk E.g0 E.w0 C.gl) {t : TypeId} {x y : Operand} (hop : o.op = .store t x y) (ho : o.dst = none) (h : stoV C σ t x y = .ok c σ') (hc : c) : StepTo P E C.nt o σ σ' := by
  unfold stoV at h
  split at h <;> try cases h
  rename_i ti ht
  split at h <;> try cases h
  rename_i b off hx
  split at h <;> try cases h
  rename_i cs hb
  split at h
  · rename_i own sz n l hy
    split at h
    · split at h <;> try cases h
      rename_i i
      exact step_storeOwn hH hG hop ho ht hc.1 hx hy hb hc.2
    · cases h
      have := step_store (nt := C.nt) hH hG hop ho ht hx (by rw [hy]; simp) hb (by rw [hy, hc.1]; rfl) hc.2 (by
        rw [hy]; intro z hz
        simp only [V.cells, List.map_cons, List.map_nil, List.mem_singleton] at hz
        subst hz; exact ⟨rfl, rfl⟩)
      rw [hy] at this
      exact this
  · cases h
    exact step_store hH hG hop ho ht hx hc.1 hb hc.2.1 hc.2.2.1 hc.2.2.2

theorem stepV_sound (hH : EnvOk P C.H) (hL : LEnvOk P C.L) (hG : GlOk E.g0 E.w0 C.gl) (h : stepV C o σ = .ok c σ') (hc : c) : StepTo P E C.nt o σ σ' := by
  unfold stepV at h
  split at h
  · rename_i d ho
    split at h
    · rename_i x hop; exact takeV_sound hH hL hG (.inl hop) ho (by rw [hop]; exact h) hc
    · rename_i x hop
      split at h
      · exact takeV_sound hH hL hG (.inr hop) ho (by rw [hop]; exact h) hc
      · exact evR_sound hH hL hG hop ho h hc
    · rename_i x j hop; exact takeTupV_sound hH hL hG hop ho (by rw [hop]; exact h) hc
    · rename_i t x hop
      split at h
      · exact takeCellV_sound hH hL hG hop ho (by rw [hop]; exact h) hc
      · exact evR_sound hH hL hG hop ho h hc
    · rename_i t hop; exact allocV_sound hH hL hG hop ho h hc
    · rename_i t y hop; exact boxV_sound hH hL hG hop ho h hc
    · rename_i t n ps hop; exact bslV_sound hH hL hG hop ho h hc
    · rename_i t x y hop; exact mkSlV_sound hH hL hG hop ho h hc
    · rename_i u t x hop; exact cvtV_sound hH hL hG hop ho (by rw [hop]; exact h) hc
    · rename_i cl hop
      obtain ⟨callee, args, ats⟩ := cl
      simp only at h
      split at h
      · rename_i b
        split at h
        · split at h <;> try cases h
          rename_i x y t xt e1 e2
          have e1' : args = #[x, y] := by apply Array.ext'; exact e1
          have e2' : ats = #[t, xt] := by apply Array.ext'; exact e2
          subst e1' e2'
          exact appV_sound hH hL hG hop ho h hc
        · exact evR_sound hH hL hG hop ho h hc
      · split at h <;> cases h
      · cases h
    · rename_i hop; exact evR_sound hH hL hG rfl ho h hc
  · rename_i ho
    split at h
    · rename_i t x y hop; exact stoV_sound hH hL hG hop ho h hc
    · cases h

end
end Go.VL
