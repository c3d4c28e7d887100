/- Part VLSub of the proof: made for this claim. -/
import Derived.Test.YtnajgcmdkmlimaaVLAuto
import Derived.Test.YtnajgcmdkmlimaaVLCells
/-! VL: arguments that say more than is asked. -/
set_option linter.unusedVariables false
set_option linter.unusedSimpArgs false
open Go.RowKit
namespace Go.VL
variable {P : Program}

theorem VR.nil_sl {g : G} {w : World} {v : Value} (own : Bool) (sz : Nat) (h : VR g w .nil v) : VR g w (.sl own sz 0 []) v := by
  cases h; exact .sl0 own sz none 0
theorem VR.agg_one {g : G} {w : World} {v : Value} {a b : List V} {x y : V} (hxy : ∀ u, VR g w x u → VR g w y u) (h : VR g w (.agg (a ++ ([x] ++ b))) v) : VR g w (.agg (a ++ ([y] ++ b))) v := by
  cases h with
  | agg _ us hl hv =>
    refine .agg _ us (by simpa using hl) (fun i hi => ?_)
    have := hv i (by simpa using hi)
    rcases Nat.lt_trichotomy i a.length with q | q | q
    · rw [show (a ++ ([y] ++ b)).getD i .unk = (a ++ ([x] ++ b)).getD i .unk by simp [List.getD_eq_getElem?_getD, List.getElem?_append_left q]]
      exact this
    · subst q
      rw [getD_mid _ _ _ _ rfl] at this ⊢
      exact hxy _ this
    · rw [show (a ++ ([y] ++ b)).getD i .unk = (a ++ ([x] ++ b)).getD i .unk by
        obtain ⟨k, rfl⟩ : ∃ k, i = a.length + (k + 1) := ⟨i - a.length - 1, by omega⟩
        simp [List.getD_eq_getElem?_getD, List.getElem?_append_right]]
      exact this
theorem Sp.arg1 {gl : Nat → Option (List V)} {f : FuncId} {x y : V} {M : Mem} {n : Nat} {R : V → Mem → Nat → Prop} (h : Sp P gl f [x] M n R) (hs : ∀ (g : G) (w : World) (v : Value), VR g w y v → VR g w x v) : Sp P gl f [y] M n R :=
  ⟨h.1, fun g ob w vs a b c d e k => h.2 g ob w vs a b c (fun i hi => by
    have h0 : i = 0 := by simpa using hi
    subst h0
    have := d 0 (by simp)
    simp at this ⊢
    exact hs _ _ _ this) e k⟩
theorem Sp.arg2 {gl : Nat → Option (List V)} {f : FuncId} {x y x' y' : V} {M : Mem} {n : Nat} {R : V → Mem → Nat → Prop} (h : Sp P gl f [x, x'] M n R) (hs : ∀ (g : G) (w : World) (v : Value), VR g w y v → VR g w x v) (hs' : ∀ (g : G) (w : World) (v : Value), VR g w y' v → VR g w x' v) : Sp P gl f [y, y'] M n R :=
  ⟨h.1, fun g ob w vs a b c d e k => h.2 g ob w vs a b c (fun i hi => by
    have h0 : i = 0 ∨ i = 1 := by simp at hi; omega
    rcases h0 with rfl | rfl
    · have := d 0 (by simp)
      simp at this ⊢
      exact hs _ _ _ this
    · have := d 1 (by simp)
      simp at this ⊢
      exact hs' _ _ _ this) e k⟩

end Go.VL
