/- Part TRowChainLinks of the proof: made for this claim. -/
import Derived.Test.YtbceglggojnnaaaDoorSG
import Derived.Test.YtbceglggojnnaaaDoorVLc
import Derived.Test.YtbceglggojnnaaaDoorRows
import Derived.Test.YtbceglggojnnaaaDoorTie
import Derived.Test.YtbceglggojnnaaaDoorCards
import Derived.SevenTiedAt
set_option linter.unusedVariables false
set_option linter.unusedSimpArgs false
namespace Go.Proofs.YtbceglggojnnaaaDoor
open Go.ChangeShapes Go.WideShapes Go.ChangeAt Go.RowKit Go.VL
open Go.ChangeMaps (open_string shut_string)

variable {H : Type} {enc : TypeId × Value → H} {P : Program} {w : World} {base : Nat} {spare : Nat → Bool} {held : Bool} in
theorem trodAll_five {t0 t1 t2 t3 t4 : TypeId} {args : Array Value} {ds : List (DataW H)} {ps : List MemPlace} (h : DataW.TrodAll enc P w base spare held [t0, t1, t2, t3, t4] args.toList ds ps) :
    ∃ v0 v1 v2 v3 v4 d0 d1 d2 d3 d4 p0 p1 p2 p3 p4, args = #[v0, v1, v2, v3, v4] ∧ ds = [d0, d1, d2, d3, d4] ∧ ps = p0 ++ p1 ++ p2 ++ p3 ++ p4 ∧ DataW.Trod enc P w base spare held t0 v0 d0 p0 ∧ DataW.Trod enc P w base spare held t1 v1 d1 p1 ∧ DataW.Trod enc P w base spare held t2 v2 d2 p2 ∧ DataW.Trod enc P w base spare held t3 v3 d3 p3 ∧ DataW.Trod enc P w base spare held t4 v4 d4 p4 := by
  obtain ⟨v0, x0, d0, y0, p0, q0, hargs, rfl, rfl, h0, r0⟩ := trodAll_cons h
  obtain ⟨v1, x1, d1, y1, p1, q1, rfl, rfl, rfl, h1, r1⟩ := trodAll_cons r0
  obtain ⟨v2, x2, d2, y2, p2, q2, rfl, rfl, rfl, h2, r2⟩ := trodAll_cons r1
  obtain ⟨v3, x3, d3, y3, p3, q3, rfl, rfl, rfl, h3, r3⟩ := trodAll_cons r2
  obtain ⟨v4, x4, d4, y4, p4, q4, rfl, rfl, rfl, h4, r4⟩ := trodAll_cons r3
  obtain ⟨rfl, rfl, rfl⟩ := trodAll_nil r4
  exact ⟨v0, v1, v2, v3, v4, d0, d1, d2, d3, d4, p0, p1, p2, p3, p4, by cases args; simp_all, rfl, by simp, h0, h1, h2, h3, h4⟩

variable {H : Type} {enc : TypeId × Value → H} {P : Program} {w : World} {base : Nat} {spare : Nat → Bool} {held : Bool} in
theorem trodAll_mk5 {t0 t1 t2 t3 t4 : TypeId} {v0 v1 v2 v3 v4 : Value} {d0 d1 d2 d3 d4 : DataW H} {p0 p1 p2 p3 p4 : List MemPlace} (h0 : DataW.Trod enc P w base spare held t0 v0 d0 p0) (h1 : DataW.Trod enc P w base spare held t1 v1 d1 p1) (h2 : DataW.Trod enc P w base spare held t2 v2 d2 p2) (h3 : DataW.Trod enc P w base spare held t3 v3 d3 p3) (h4 : DataW.Trod enc P w base spare held t4 v4 d4 p4) : DataW.TrodAll enc P w base spare held [t0, t1, t2, t3, t4] [v0, v1, v2, v3, v4] [d0, d1, d2, d3, d4] (p0 ++ (p1 ++ (p2 ++ (p3 ++ (p4))))) :=
  ⟨p0, (p1 ++ (p2 ++ (p3 ++ (p4)))), h0, trodAll_mk4 h1 h2 h3 h4, rfl⟩

set_option maxRecDepth 100000 in
theorem chainLinks_lifted (os : Os) (started : os.Started) (H : Type) (enc : TypeId × Value → H) :
    ReturnsInHanded {} Tryd.checked os 13 .any (fun w args => (Rows.chainLinksSpec.pre enc Tryd.prog Tryd.f13 [] false w args ∧ laidMetH Tryd.prog shaLaid w) ∧ sizedMet enc Tryd.prog Tryd.f13 (OpenSpec.ofChange Rows.chainLinksSpec) false w args)
      (Rows.chainLinksSpec.post enc Tryd.prog Tryd.f13 false true false false) := by
  refine returnsInHanded_of_change_and (C := Tryd.checked) (X := fun w _ => laidMetH Tryd.prog shaLaid w) (fun _ _ _ hh h => h.of_heap hh) own started (by kernel_rfl) Tryd.func13
    (ChangeSpec.witness_shaped (enc := enc) (C := Tryd.checked) (os := os) (X := fun w _ => laidMetH Tryd.prog shaLaid w) false (World.doorLaid Tryd.prog 400 os) #[zeroOf Tryd.prog 48, .int .i64 0, .slice none 0 0, zeroOf Tryd.prog 64, .string ⟨#[]⟩] 8 rfl (World.shaped_of_RefB (by kernel_rfl) (by kernel_rfl)) (by kernel_rfl) (by kernel_rfl) (by kernel_rfl) (door_met os _)) ?_
  intro W base args ds gs before hval0 hW _ hsz0 hL _
  have hsz : (DataW.weightsEach Tryd.prog (Tryd.f13.params.toList ++ Rows.chainLinksSpec.plain.varTypes Tryd.prog) (ds ++ gs)).all (· ≤ reachBytes) = true := hsz0
  have hval : ∀ (j : Nat) t v, Tryd.f13.params[j]? = some t → args[j]? = some v → Value.okWide Tryd.prog W .any base t v := hval0
  have hW' := hW
  obtain ⟨p, q, hA0, hV, rfl, _, _⟩ := hW
  have hA : DataW.TrodAll enc Tryd.prog W 0 (fun _ => true) true Tryd.f13.params.toList args.toList ds p := hA0
  rw [Tryd.params13] at hA hval hsz
  obtain ⟨v0, v1, v2, v3, v4, d0, d1, d2, d3, d4, p0, p1, p2, p3, p4, rfl, rfl, rfl, h0, h1, h2, h3, h4⟩ := trodAll_five hA
  obtain ⟨rfl, rfl⟩ := trodVars_none hV
  obtain ⟨x0, q0, r0⟩ := tv_arg (d := 2) (by kernel_rfl) (hval 0 48 v0 rfl rfl) h0 (ts := [48, 3, 49, 64, 9]) (j := 0) rfl rfl hsz
  obtain ⟨o0, rfl, k0⟩ := id32_arg Tryd.underlying48 Tryd.underlying5 q0
  obtain ⟨n1, rfl, rfl, rfl, w1⟩ := open_int Tryd.underlying3 (hval 1 3 v1 rfl rfl) h1
  obtain ⟨x2, q2, r2⟩ := tv_arg (d := 5) (by kernel_rfl) (hval 2 49 v2 rfl rfl) h2 (ts := [48, 3, 49, 64, 9]) (j := 2) rfl rfl hsz
  obtain ⟨o2, rfl, k2⟩ := ents_arg q2
  obtain ⟨x3, q3, r3⟩ := tv_arg (d := 3) (by kernel_rfl) (hval 3 64 v3 rfl rfl) h3 (ts := [48, 3, 49, 64, 9]) (j := 3) rfl rfl hsz
  obtain ⟨o3, rfl, k3⟩ := au_arg q3
  obtain ⟨t4, rfl, rfl, rfl, w4⟩ := open_string Tryd.underlying9 (hval 4 9 v4 rfl rfl) h4
  have w1' := w1
  simp only [Lit.wf, Bool.and_eq_true, decide_eq_true_eq, show IntKind.i64.min = -9223372036854775808 from rfl, show IntKind.i64.max = 9223372036854775807 from rfl] at w1'
  have b4 : t4.data.toList.length ≤ 140737488351232 := sized_string hsz (j := 4) (t := 9) rfl rfl
  generalize hs4 : t4.data.toList = s4 at b4
  have e4 : t4 = bs s4 := by subst hs4; rfl
  have hlt : ∀ x ∈ p0 ++ p2 ++ p3, x.block < W.heap.size := fun x hx => by
    have := hW'.lt x (by simp only [List.mem_append] at hx ⊢; simp only [List.not_mem_nil, or_false, false_or] at hx ⊢; simp [hx])
    simpa using this
  refine (Sp.law' ((ChainLinks_sp o0 n1 w1' o2 k2.1 k2.2 o3 k3 s4 b4 _ _).mono (fun r m k h => h.1)) W (glOk hL) rfl (fun i hi => ?_)).mono fun e W' ⟨he, hb⟩ => ?_
  · match i, hi with
    | 0, _ => exact r0
    | 1, _ => exact .flat _ rfl
    | 2, _ => exact r2
    | 3, _ => exact r3
    | 4, _ => rw [e4]; exact .flat _ rfl
    | i + 5, hi => first | (simp at hi; done) | (simp at hi; omega)
  subst he
  exact ⟨_, rfl, _, _, _, [], _, [], hW', trodAll_mk1 (shut_bool Tryd.underlying4 _),
    trodAll_mk5 (Below.trod laidOut (by kernel_rfl) (of_decide_eq_true (by kernel_rfl)) h0 hb (fun x hx => hlt x (by simp [hx])))
      (shut_int Tryd.underlying3 w1)
      (Below.trod laidOut (by kernel_rfl) (of_decide_eq_true (by kernel_rfl)) h2 hb (fun x hx => hlt x (by simp [hx])))
      (Below.trod laidOut (by kernel_rfl) (of_decide_eq_true (by kernel_rfl)) h3 hb (fun x hx => hlt x (by simp [hx])))
      (shut_string Tryd.underlying9 w4), rfl, hb.frame _, fun h => by cases h⟩

theorem chainLinks_row_holds : Rows.ChainLinksSaid :=
  OpenClaim.holds_of_wide 13 Tryd.f13 rfl rfl rfl rfl rfl rfl rfl ⟨rfl, rfl, rfl, rfl, rfl⟩ rfl rfl rfl rfl rfl (by kernel_rfl) Tryd.func13 (by kernel_rfl)
    (of_decide_eq_true (by kernel_rfl)) (by unfold Func.isWrapper; first | (rw [if_pos (by decide +kernel)]; kernel_rfl) | (rw [if_neg (by decide +kernel)]; exact ⟨rfl, rfl⟩))
    (fun os started H enc _ => chainLinks_lifted os started H enc)
theorem chainLinks_holds : Rows.ChainLinksCardSaid :=
  Claim7.holds_tied_plain_at .later [] [.data, .data] true (true, "4cea6f7b10fc966210618cd933fb6b55c4075b2e163c1e48f30641d02a6c87af") false
    chainLinks_row_holds (fun _ h => by cases h) (by kernel_rfl) (fun _ h => by cases h) chainLinks_row_tie rfl ⟨rfl, rfl⟩ (by kernel_rfl) rfl
    (fun f fn hf hfn => by
      obtain rfl : f = 13 := Option.some.inj ((show Tryd.prog.funcNamed "tribunal/tribunallaw16.ChainLinks" = some 13 by kernel_rfl).symm.trans hf) |>.symm
      obtain rfl : fn = Tryd.f13 := (Option.some.inj (Tryd.func13.symm.trans hfn)).symm
      exact ⟨by kernel_rfl, fun j t ht => by
        rw [Tryd.params13] at ht
        have hm : t ∈ [48, 3, 49, 64, 9] := by simpa using Array.mem_of_getElem? ht
        have hall : ([48, 3, 49, 64, 9].all fun u => !Tryd.prog.wantsStandIn u) = true := by kernel_rfl
        exact (show Tryd.prog.wantsStandIn t = false by simpa using List.all_eq_true.1 hall t hm)⟩)
    (by kernel_rfl)

end Go.Proofs.YtbceglggojnnaaaDoor
