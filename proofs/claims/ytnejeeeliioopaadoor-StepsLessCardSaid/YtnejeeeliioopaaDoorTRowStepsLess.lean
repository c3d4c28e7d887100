/- Part TRowStepsLess of the proof: made for this claim. -/
import Derived.Test.YtnejeeeliioopaaDoorTLess
import Derived.Test.YtnejeeeliioopaaDoorTGl
import Derived.Test.YtnejeeeliioopaaDoorVLc
import Derived.Test.YtnejeeeliioopaaDoorRows
import Derived.Test.YtnejeeeliioopaaDoorTie
import Derived.Test.YtnejeeeliioopaaDoorCards
import Derived.SevenTiedAt
/-! StepsLess: for every input the law answers true. -/
set_option linter.unusedVariables false
set_option linter.unusedSimpArgs false
namespace Go.Proofs.YtnejeeeliioopaaDoor
open Go.ChangeShapes Go.WideShapes Go.ChangeAt Go.RowKit Go.VL
open Go.ChangeMaps (open_string shut_string)

set_option maxRecDepth 100000 in
theorem stepsLess_lifted (os : Os) (started : os.Started) (H : Type) (enc : TypeId × Value → H) :
    ReturnsInHanded {} Tryd.checked os 12 .any (fun w args => (Rows.stepsLessSpec.pre enc Tryd.prog Tryd.f12 [] false w args ∧ laidMetH Tryd.prog shaLaid w) ∧ sizedMet enc Tryd.prog Tryd.f12 (OpenSpec.ofChange Rows.stepsLessSpec) false w args)
      (Rows.stepsLessSpec.post enc Tryd.prog Tryd.f12 false true false false) := by
  refine returnsInHanded_of_change_and (C := Tryd.checked) (X := fun w _ => laidMetH Tryd.prog shaLaid w) (fun _ _ _ hh h => h.of_heap hh) own started (by kernel_rfl) Tryd.func12
    (ChangeSpec.witness_shaped (enc := enc) (C := Tryd.checked) (os := os) (X := fun w _ => laidMetH Tryd.prog shaLaid w) false (World.doorLaid Tryd.prog 400 os) #[zeroOf Tryd.prog 30, zeroOf Tryd.prog 30] 8 rfl (World.shaped_of_RefB (by kernel_rfl) (by kernel_rfl)) (by kernel_rfl) (by kernel_rfl) (by kernel_rfl) (door_met os _)) ?_
  intro W base args ds gs before hval0 hW _ hsz0 hL _
  have hsz : (DataW.weightsEach Tryd.prog (Tryd.f12.params.toList ++ Rows.stepsLessSpec.plain.varTypes Tryd.prog) (ds ++ gs)).all (· ≤ reachBytes) = true := hsz0
  have hval : ∀ (j : Nat) t v, Tryd.f12.params[j]? = some t → args[j]? = some v → Value.okWide Tryd.prog W .any base t v := hval0
  have hW' := hW
  obtain ⟨p, q, hA0, hV, rfl, _, _⟩ := hW
  have hA : DataW.TrodAll enc Tryd.prog W 0 (fun _ => true) true Tryd.f12.params.toList args.toList ds p := hA0
  rw [Tryd.params12] at hA hval hsz
  obtain ⟨v0, v1, d0, d1, p0, p1, rfl, rfl, rfl, h0, h1⟩ := trodAll_two hA
  obtain ⟨rfl, rfl⟩ := trodVars_none hV
  obtain ⟨x0, q0, r0⟩ := tv_arg (d := 2) (by kernel_rfl) (hval 0 30 v0 rfl rfl) h0 (ts := [30, 30]) (j := 0) rfl rfl hsz
  obtain ⟨o0, rfl, k0⟩ := id16_arg Tryd.underlying30 Tryd.underlying5 q0
  obtain ⟨x1, q1, r1⟩ := tv_arg (d := 2) (by kernel_rfl) (hval 1 30 v1 rfl rfl) h1 (ts := [30, 30]) (j := 1) rfl rfl hsz
  obtain ⟨o1, rfl, k1⟩ := id16_arg Tryd.underlying30 Tryd.underlying5 q1
  have hlt : ∀ x ∈ p0 ++ p1, x.block < W.heap.size := fun x hx => by
    have := hW'.lt x (by simp only [List.mem_append] at hx ⊢; simp only [List.not_mem_nil, or_false, false_or] at hx ⊢; simp [hx])
    simpa using this
  refine (Sp.law' ((StepsLess_sp o0 o1 _ _).mono (fun r m k h => h.1)) W (glOk hL) rfl (fun i hi => ?_)).mono fun e W' ⟨he, hb⟩ => ?_
  · match i, hi with
    | 0, _ => exact r0
    | 1, _ => exact r1
    | i + 2, hi => first | (simp at hi; done) | (simp at hi; omega)
  subst he
  exact ⟨_, rfl, _, _, _, [], _, [], hW', trodAll_mk1 (shut_bool Tryd.underlying4 _),
    trodAll_mk2 (Below.trod laidOut (by kernel_rfl) (of_decide_eq_true (by kernel_rfl)) h0 hb (fun x hx => hlt x (by simp [hx])))
      (Below.trod laidOut (by kernel_rfl) (of_decide_eq_true (by kernel_rfl)) h1 hb (fun x hx => hlt x (by simp [hx]))), rfl, hb.frame _, fun h => by cases h⟩

theorem stepsLess_row_holds : Rows.StepsLessSaid :=
  OpenClaim.holds_of_wide 12 Tryd.f12 rfl rfl rfl rfl rfl rfl rfl ⟨rfl, rfl, rfl, rfl, rfl⟩ rfl rfl rfl rfl rfl (by kernel_rfl) Tryd.func12 (by kernel_rfl)
    (of_decide_eq_true (by kernel_rfl)) (by unfold Func.isWrapper; first | (rw [if_pos (by decide +kernel)]; kernel_rfl) | (rw [if_neg (by decide +kernel)]; exact ⟨rfl, rfl⟩))
    (fun os started H enc _ => stepsLess_lifted os started H enc)
theorem stepsLess_holds : Rows.StepsLessCardSaid :=
  Claim7.holds_tied_plain_at .later [] [.data, .data] true (true, "7b6f8ba59590ea71ed5976e0e153d5698d275a1fa6580a3b10e57353f8367b7b") false
    stepsLess_row_holds (fun _ h => by cases h) (by kernel_rfl) (fun _ h => by cases h) stepsLess_row_tie rfl ⟨rfl, rfl⟩ (by kernel_rfl) rfl
    (fun f fn hf hfn => by
      obtain rfl : f = 12 := Option.some.inj ((show Tryd.prog.funcNamed "tribunal/tribunallaw03.StepsLess" = some 12 by kernel_rfl).symm.trans hf) |>.symm
      obtain rfl : fn = Tryd.f12 := (Option.some.inj (Tryd.func12.symm.trans hfn)).symm
      exact ⟨by kernel_rfl, fun j t ht => by
        rw [Tryd.params12] at ht
        have hm : t ∈ [30, 30] := by simpa using Array.mem_of_getElem? ht
        have hall : ([30, 30].all fun u => !Tryd.prog.wantsStandIn u) = true := by kernel_rfl
        exact (show Tryd.prog.wantsStandIn t = false by simpa using List.all_eq_true.1 hall t hm)⟩)
    (by kernel_rfl)

end Go.Proofs.YtnejeeeliioopaaDoor
