/- Part TRow8 of the proof: made for this claim. -/
import Derived.Test.YtmdfbbeobijoeaaTReads2
import Derived.Test.YtmdfbbeobijoeaaVL24
import Derived.Test.YtmdfbbeobijoeaaVLArgs
import Derived.Test.YtmdfbbeobijoeaaRows
set_option linter.unusedVariables false
set_option linter.unusedSimpArgs false
namespace Go.Proofs.Ytmdfbbeobijoeaa
open Go.ChangeShapes Go.WideShapes Go.ChangeAt Go.RowKit Go.VL
open Go.ChangeMaps (open_string shut_string)

theorem Try.own : ownKnob Try.prog.godebug = none := by kernel_rfl
theorem Try.laidOut : laidOutB Try.prog = true := by kernel_rfl
theorem Try.cells9 : Try.prog.cellsOf 9 = 1 := by kernel_rfl
theorem Try.bytes9 : 0 < Try.prog.bytesOf 9 := by
  have : Try.prog.bytesOf 9 = 16 := by kernel_rfl
  omega

set_option maxRecDepth 100000 in
theorem packReads_lifted (os : Os) (started : os.Started) (H : Type) (enc : TypeId × Value → H) :
    ReturnsInHanded {} Try.checked os 6 .any (Rows.packReadsSpec.pre6 enc Try.prog Try.f6 Rows.packReadsRow.domain false) (Rows.packReadsSpec.post enc Try.prog Try.f6 false true false false) := by
  refine returnsInHanded_of_change_sized (C := Try.checked) Try.own started (by kernel_rfl) Try.func6
    (ChangeSpec.witness6 (enc := enc) (C := Try.checked) false ⟨#[], #[.string ⟨#[]⟩, .slice none 0 0], []⟩ 8 (by kernel_rfl) (by kernel_rfl) (by kernel_rfl) (by kernel_rfl)) ?_
  intro W base args ds gs before hval0 hW _ hsz0 _
  have hsz : (DataW.weightsEach Try.prog (Try.f6.params.toList ++ Rows.packReadsSpec.plain.varTypes Try.prog) (ds ++ gs)).all (· ≤ reachBytes) = true := hsz0
  have hval : ∀ (j : Nat) t v, Try.f6.params[j]? = some t → args[j]? = some v → Value.okWide Try.prog W .any base t v := hval0
  have hW' := hW
  obtain ⟨p, q, hA0, hV, rfl, _, _⟩ := hW
  have hA : DataW.TrodAll enc Try.prog W 0 (fun _ => true) true Try.f6.params.toList args.toList ds p := hA0
  rw [Try.params6] at hA hval hsz
  obtain ⟨v0, v1, d0, d1, p0, p1, rfl, rfl, rfl, h0, h1⟩ := trodAll_two hA
  obtain ⟨rfl, rfl⟩ := trodVars_none hV
  obtain ⟨t0, rfl, rfl, rfl, w0⟩ := open_string Try.underlying9 (hval 0 9 v0 rfl rfl) h0
  obtain ⟨a1, len1, cap1, rfl⟩ := okWide_slice Try.underlying37 (hval 1 37 v1 rfl rfl)
  have b0 : t0.data.toList.length ≤ 140737488351232 := sized_string hsz (j := 0) (t := 9) rfl rfl
  generalize hs0 : t0.data.toList = s0 at b0
  have e0 : t0 = bs s0 := by subst hs0; rfl
  obtain ⟨l1, c1, r1⟩ := ints1_arg Try.underlying37 Try.underlying39 (by kernel_rfl) rfl (by kernel_rfl) Try.underlying3 (Nat.lt_of_lt_of_eq (by omega : 0 < 8) (show 8 = Try.prog.bytesOf 39 by kernel_rfl)) h1 (ts := [9, 37]) (j := 1) rfl rfl hsz
  have hlt : ∀ x ∈ p1, x.block < W.heap.size := fun x hx => by
    have := hW'.lt x (by simp only [List.mem_append] at hx ⊢; simp only [List.not_mem_nil, or_false, false_or] at hx ⊢; simp [hx])
    simpa using this
  refine (Sp.law' (PackReads_sp s0 (Nat.le_trans b0 (by omega)) l1 (Nat.le_trans c1 (by omega)) _ _) W (fun n cs h => by cases h) rfl (fun i hi => ?_)).mono fun e W' ⟨he, hb⟩ => ?_
  · match i, hi with
    | 0, _ => rw [e0]; exact .flat _ rfl
    | 1, _ => exact r1
    | i + 2, hi => first | (simp at hi; done) | (simp at hi; omega)
  subst he
  exact ⟨_, rfl, _, _, _, [], _, [], hW', trodAll_mk1 (shut_bool Try.underlying4 _),
    trodAll_mk2 (shut_string Try.underlying9 w0)
      (Below.trod Try.laidOut (by kernel_rfl) (of_decide_eq_true (by kernel_rfl)) h1 hb (fun x hx => hlt x (by simp [hx]))), rfl, hb.frame _, fun h => by cases h⟩

theorem packReads_holds : Rows.PackReadsSaid :=
  OpenClaim.holds_of_wide 6 Try.f6 rfl rfl rfl rfl rfl rfl rfl ⟨rfl, rfl, rfl, rfl, rfl⟩ rfl rfl rfl rfl rfl (by kernel_rfl) Try.func6 (by kernel_rfl)
    (of_decide_eq_true (by kernel_rfl)) (by unfold Func.isWrapper; first | (rw [if_pos (by decide +kernel)]; kernel_rfl) | (rw [if_neg (by decide +kernel)]; exact ⟨rfl, rfl⟩))
    (fun os started H enc _ => packReads_lifted os started H enc)

end Go.Proofs.Ytmdfbbeobijoeaa
