/- Part VLAuto of the proof: made for this claim. -/
import Derived.Test.YtnajgcmdkmlimaaVLLow
import Derived.Test.YtnajgcmdkmlimaaVLExt
/-! VL: tests that are decided; ways that come together. -/
set_option linter.unusedVariables false
set_option linter.unusedSimpArgs false
open Go.RowKit
namespace Go.VL
variable {P : Program} {E : Entry} {C : Cfg}

theorem WC.condT (hG : GlOk E.g0 E.w0 C.gl) {c : Operand} {x y : Code} {σ : S} {Q : QC} (hc : evO (lk σ.sl) C.gl c = .flat (.bool true)) (h : WC P E C x σ Q) : WC P E C (.cond c x y) σ Q :=
  WC.cond hG hc (fun _ => h) (fun e => by cases e)
theorem WC.condF (hG : GlOk E.g0 E.w0 C.gl) {c : Operand} {x y : Code} {σ : S} {Q : QC} (hc : evO (lk σ.sl) C.gl c = .flat (.bool false)) (h : WC P E C y σ Q) : WC P E C (.cond c x y) σ Q :=
  WC.cond hG hc (fun e => by cases e) (fun _ => h)
/-- Ways that come together, and such that leave. -/
theorem WC.joinN (mid : S) (J : Prop) {c : Code} {σ : S} {Q : QC} (h1 : WC P E C c σ (fun e s => (e = .normal ∧ Sub E C.nt s mid ∧ J) ∨ (e ≠ .normal ∧ Q e s))) (h2 : J → Q .normal mid) : WC P E C c σ Q := by
  intro a w hA
  refine wp_mono (h1 a w hA) ?_
  rintro e a' w' ⟨s, k1, ⟨rfl, k2, k3⟩ | ⟨_, k2⟩⟩
  · exact ⟨mid, k2 a' w' k1, h2 k3⟩
  · exact ⟨s, k1, k2⟩
theorem low_of {M : Mem} {mn b : Nat} (hM : ∀ b, mn ≤ b → M b = none) (hb : M b ≠ none) : b < mn := Nat.lt_of_not_le fun q => hb (hM b q)

end Go.VL
