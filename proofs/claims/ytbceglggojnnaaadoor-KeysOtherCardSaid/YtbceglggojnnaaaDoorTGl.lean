/- Part TGl of the proof: made for this claim. -/
import Derived.Test.YtbceglggojnnaaaDoorTEnv
import Derived.Test.YtbceglggojnnaaaDoorVLc
import Derived.Test.YtbceglggojnnaaaDoorRows
/-! What the listed variables are to a walk. -/
set_option linter.unusedVariables false
namespace Go.Proofs.YtbceglggojnnaaaDoor
open Go.VL
abbrev shaLaid : List (String × DataW Unit) := [("tribunal/sha.start", Rows.laid_tribunal_sha_start), ("tribunal/sha.round", Rows.laid_tribunal_sha_round)]
theorem gStart : Tryd.prog.globalNamed "tribunal/sha.start" = some 0 := by kernel_rfl
theorem gRound : Tryd.prog.globalNamed "tribunal/sha.round" = some 1 := by kernel_rfl
theorem tStart : (Tryd.prog.globals[0]?).map (·.type) = some 172 := by kernel_rfl
theorem tRound : (Tryd.prog.globals[1]?).map (·.type) = some 178 := by kernel_rfl
theorem glOk {W : World} (h : laidMetH Tryd.prog shaLaid W) : GlOk (gOf W) W GL := by
  rw [MakeChecks.laidMetH_plain _ _ _ (by kernel_rfl)] at h
  obtain ⟨ps, ⟨g0, t0, cs0, f0, p0, q0, hg0, ht0, hv0, hd0, ⟨g1, t1, cs1, f1, p1, q1, hg1, ht1, hv1, hd1, _, _⟩, _⟩, _, _⟩ := h
  obtain rfl := Option.some.inj (gStart.symm.trans hg0)
  obtain rfl := Option.some.inj (gRound.symm.trans hg1)
  obtain rfl := Option.some.inj (tStart.symm.trans ht0)
  obtain rfl := Option.some.inj (tRound.symm.trans ht1)
  have c32 : Tryd.prog.cellsOf 158 = 1 := by kernel_rfl
  have h0 := laid_u32 (l := startN) Tryd.underlying172 Tryd.underlying158 c32 (by decide) hd0
  have h1 := laid_u32 (l := roundN) Tryd.underlying178 Tryd.underlying158 c32 (by decide) hd1
  have k0 := laid_ref (w := W) (g := 0) (l := startN) (fun i hi => by rw [World.var?_cell hg0 hv0 i]; exact h0 i (by simpa [startN_len] using hi)) (by decide)
  have k1 := laid_ref (w := W) (g := 1) (l := roundN) (fun i hi => by rw [World.var?_cell hg1 hv1 i]; exact h1 i (by simpa [roundN_len] using hi)) (by decide)
  intro n cs hn
  unfold GL at hn
  split at hn
  · rename_i e; subst e; cases hn; first | exact k0 | exact k1
  · split at hn
    · rename_i e; subst e; cases hn; first | exact k1 | exact k0
    · cases hn
theorem door_met (os : Os) (args : Array Value) : laidMetH Tryd.prog shaLaid ((World.doorLaid Tryd.prog 400 os).forCall (fun _ _ => 0) ⟨#[], args, []⟩).memory :=
  laidMetH_of_parts3 (fuel := 8) (laidMet_of_run' 8 (by kernel_rfl) (by kernel_rfl)) (by kernel_rfl) (by kernel_rfl)
theorem own : ownKnob Tryd.prog.godebug = none := by kernel_rfl
theorem laidOut : laidOutB Tryd.prog = true := by kernel_rfl
end Go.Proofs.YtbceglggojnnaaaDoor
