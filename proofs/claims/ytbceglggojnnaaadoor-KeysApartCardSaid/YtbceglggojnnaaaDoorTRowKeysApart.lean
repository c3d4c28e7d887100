/- Part TRowKeysApart of the proof: made for this claim. -/
import Derived.Test.YtbceglggojnnaaaDoorTLaw6c
import Derived.Test.YtbceglggojnnaaaDoorTGl
import Derived.Test.YtbceglggojnnaaaDoorVLc
import Derived.Test.YtbceglggojnnaaaDoorRows
import Derived.Test.YtbceglggojnnaaaDoorTie
import Derived.Test.YtbceglggojnnaaaDoorCards
import Derived.SevenTiedAt
/-! KeysApart: for every input the law answers true. -/
set_option linter.unusedVariables false
set_option linter.unusedSimpArgs false
namespace Go.Proofs.YtbceglggojnnaaaDoor
open Go.ChangeShapes Go.WideShapes Go.ChangeAt Go.RowKit Go.VL
open Go.ChangeMaps (open_string shut_string)

variable {H : Type} {enc : TypeId × Value → H} {P : Program} {w : World} {base : Nat} {spare : Nat → Bool} {held : Bool} in
theorem trodAll_five {t0 t1 t2 t3 t4 : TypeId} {args : Array Value} {ds : List (DataW H)} {ps : List MemPlace} (h : DataW.TrodAll enc P w base spare held [t0, t1, t2, t3, t4] args.toList ds ps) :
    ∃ v0 v1 v2 v3 v4 d0 d1 d2 d3 d4 p0 p1 p2 p3 p4, args = #[v0, v1, v2, v3, v4] ∧ ds = [d0, d1, d2, d3, d4] ∧ ps = p0 ++ p1 ++ p2 ++ p3 ++ p4 ∧ DataW.Trod enc P w base spare held t0 v0 d0 p0 ∧ DataW.Trod enc P w base spare held t1 v1 d1 p1 ∧ DataW.Trod enc P w base spare held t2 v2 d2 p2 ∧ DataW.Trod enc P w base spare held t3 v3 d3 p3 ∧ DataW.Trod enc P w base spare held t4 v4 d4 p4 := by
  obtain ⟨v0, x0, d0, y0, p0, q0, hargs, rfl, rfl, h0, r0⟩ := trodAll_cons h
  obtain ⟨v1, x1, d1, y1, p1, q1, rfl, rfl, rfl, h1, r1⟩ := trodAll_cons r0
  obtain ⟨v2, x2, d2, y2, p2, q2, rfl, rfl, rfl, h2, r2⟩ := trodAll_cons r1
  obtain ⟨v3, x3, d3, y3, p3, q3, rfl, rfl, rfl, h3, r3⟩ := trodAll_cons r2
  obtain ⟨v4, x4, d4, y4, p4, q4, rfl, rfl, rfl, h4, r4⟩ := trodAll_cons r3
  obtain ⟨rfl, rfl, rfl⟩ := trodAll_nil r4
  exact ⟨v0, v1, v2, v3, v4, d0, d1, d2, d3, d4, p0, p1, p2, p3, p4, by cases args; simp_all, rfl, by simp, h0, h1, h2, h3, h4⟩

variable {H : Type} {enc : TypeId × Value → H} {P : Program} {w : World} {base : Nat} {spare : Nat → Bool} {held : Bool} in
theorem trodAll_mk5 {t0 t1 t2 t3 t4 : TypeId} {v0 v1 v2 v3 v4 : Value} {d0 d1 d2 d3 d4 : DataW H} {p0 p1 p2 p3 p4 : List MemPlace} (h0 : DataW.Trod enc P w base spare held t0 v0 d0 p0) (h1 : DataW.Trod enc P w base spare held t1 v1 d1 p1) (h2 : DataW.Trod enc P w base spare held t2 v2 d2 p2) (h3 : DataW.Trod enc P w base spare held t3 v3 d3 p3) (h4 : DataW.Trod enc P w base spare held t4 v4 d4 p4) : DataW.TrodAll enc P w base spare held [t0, t1, t2, t3, t4] [v0, v1, v2, v3, v4] [d0, d1, d2, d3, d4] (p0 ++ (p1 ++ (p2 ++ (p3 ++ (p4))))) :=
  ⟨p0, (p1 ++ (p2 ++ (p3 ++ (p4)))), h0, trodAll_mk4 h1 h2 h3 h4, rfl⟩

set_option maxRecDepth 100000 in
theorem keysApart_lifted (os : Os) (started : os.Started) (H : Type) (enc : TypeId × Value → H) :
    ReturnsInHanded {} Tryd.checked os 7 .any (fun w args => (Rows.keysApartSpec.pre enc Tryd.prog Tryd.f7 [] false w args ∧ laidMetH Tryd.prog shaLaid w) ∧ sizedMet enc Tryd.prog Tryd.f7 (OpenSpec.ofChange Rows.keysApartSpec) false w args)
      (Rows.keysApartSpec.post enc Tryd.prog Tryd.f7 false true false false) := by
  refine returnsInHanded_of_change_and (C := Tryd.checked) (X := fun w _ => laidMetH Tryd.prog shaLaid w) (fun _ _ _ hh h => h.of_heap hh) own started (by kernel_rfl) Tryd.func7
    (ChangeSpec.witness_shaped (enc := enc) (C := Tryd.checked) (os := os) (X := fun w _ => laidMetH Tryd.prog shaLaid w) false (World.doorLaid Tryd.prog 400 os) #[.string ⟨#[]⟩, .string ⟨#[]⟩, .int .i64 0, .int .i64 0, .string ⟨#[]⟩] 8 rfl (World.shaped_of_RefB (by kernel_rfl) (by kernel_rfl)) (by kernel_rfl) (by kernel_rfl) (by kernel_rfl) (door_met os _)) ?_
  intro W base args ds gs before hval0 hW _ hsz0 hL _
  have hsz : (DataW.weightsEach Tryd.prog (Tryd.f7.params.toList ++ Rows.keysApartSpec.plain.varTypes Tryd.prog) (ds ++ gs)).all (· ≤ reachBytes) = true := hsz0
  have hval : ∀ (j : Nat) t v, Tryd.f7.params[j]? = some t → args[j]? = some v → Value.okWide Tryd.prog W .any base t v := hval0
  have hW' := hW
  obtain ⟨p, q, hA0, hV, rfl, _, _⟩ := hW
  have hA : DataW.TrodAll enc Tryd.prog W 0 (fun _ => true) true Tryd.f7.params.toList args.toList ds p := hA0
  rw [Tryd.params7] at hA hval hsz
  obtain ⟨v0, v1, v2, v3, v4, d0, d1, d2, d3, d4, p0, p1, p2, p3, p4, rfl, rfl, rfl, h0, h1, h2, h3, h4⟩ := trodAll_five hA
  obtain ⟨rfl, rfl⟩ := trodVars_none hV
  obtain ⟨t0, rfl, rfl, rfl, w0⟩ := open_string Tryd.underlying9 (hval 0 9 v0 rfl rfl) h0
  obtain ⟨t1, rfl, rfl, rfl, w1⟩ := open_string Tryd.underlying9 (hval 1 9 v1 rfl rfl) h1
  obtain ⟨n2, rfl, rfl, rfl, w2⟩ := open_int Tryd.underlying3 (hval 2 3 v2 rfl rfl) h2
  obtain ⟨n3, rfl, rfl, rfl, w3⟩ := open_int Tryd.underlying3 (hval 3 3 v3 rfl rfl) h3
  obtain ⟨t4, rfl, rfl, rfl, w4⟩ := open_string Tryd.underlying9 (hval 4 9 v4 rfl rfl) h4
  have b0 : t0.data.toList.length ≤ 140737488351232 := sized_string hsz (j := 0) (t := 9) rfl rfl
  generalize hs0 : t0.data.toList = s0 at b0
  have e0 : t0 = bs s0 := by subst hs0; rfl
  have b1 : t1.data.toList.length ≤ 140737488351232 := sized_string hsz (j := 1) (t := 9) rfl rfl
  generalize hs1 : t1.data.toList = s1 at b1
  have e1 : t1 = bs s1 := by subst hs1; rfl
  have w2' := w2
  simp only [Lit.wf, Bool.and_eq_true, decide_eq_true_eq, show IntKind.i64.min = -9223372036854775808 from rfl, show IntKind.i64.max = 9223372036854775807 from rfl] at w2'
  have w3' := w3
  simp only [Lit.wf, Bool.and_eq_true, decide_eq_true_eq, show IntKind.i64.min = -9223372036854775808 from rfl, show IntKind.i64.max = 9223372036854775807 from rfl] at w3'
  have b4 : t4.data.toList.length ≤ 140737488351232 := sized_string hsz (j := 4) (t := 9) rfl rfl
  generalize hs4 : t4.data.toList = s4 at b4
  have e4 : t4 = bs s4 := by subst hs4; rfl
  refine (Sp.law' ((KeysApart_sp s0 b0 s1 b1 n2 w2' n3 w3' s4 b4 _ _).mono (fun r m k h => h.1)) W (glOk hL) rfl (fun i hi => ?_)).mono fun e W' ⟨he, hb⟩ => ?_
  · match i, hi with
    | 0, _ => rw [e0]; exact .flat _ rfl
    | 1, _ => rw [e1]; exact .flat _ rfl
    | 2, _ => exact .flat _ rfl
    | 3, _ => exact .flat _ rfl
    | 4, _ => rw [e4]; exact .flat _ rfl
    | i + 5, hi => first | (simp at hi; done) | (simp at hi; omega)
  subst he
  exact ⟨_, rfl, _, _, _, [], _, [], hW', trodAll_mk1 (shut_bool Tryd.underlying4 _),
    trodAll_mk5 (shut_string Tryd.underlying9 w0)
      (shut_string Tryd.underlying9 w1)
      (shut_int Tryd.underlying3 w2)
      (shut_int Tryd.underlying3 w3)
      (shut_string Tryd.underlying9 w4), rfl, hb.frame _, fun h => by cases h⟩

theorem keysApart_row_holds : Rows.KeysApartSaid :=
  OpenClaim.holds_of_wide 7 Tryd.f7 rfl rfl rfl rfl rfl rfl rfl ⟨rfl, rfl, rfl, rfl, rfl⟩ rfl rfl rfl rfl rfl (by kernel_rfl) Tryd.func7 (by kernel_rfl)
    (of_decide_eq_true (by kernel_rfl)) (by unfold Func.isWrapper; first | (rw [if_pos (by decide +kernel)]; kernel_rfl) | (rw [if_neg (by decide +kernel)]; exact ⟨rfl, rfl⟩))
    (fun os started H enc _ => keysApart_lifted os started H enc)
theorem keysApart_holds : Rows.KeysApartCardSaid :=
  Claim7.holds_tied_plain_at .later [] [.data, .data] true (true, "4cea6f7b10fc966210618cd933fb6b55c4075b2e163c1e48f30641d02a6c87af") false
    keysApart_row_holds (fun _ h => by cases h) (by kernel_rfl) (fun _ h => by cases h) keysApart_row_tie rfl ⟨rfl, rfl⟩ (by kernel_rfl) rfl
    (fun f fn hf hfn => by
      obtain rfl : f = 7 := Option.some.inj ((show Tryd.prog.funcNamed "tribunal/tribunallaw06.KeysApart" = some 7 by kernel_rfl).symm.trans hf) |>.symm
      obtain rfl : fn = Tryd.f7 := (Option.some.inj (Tryd.func7.symm.trans hfn)).symm
      exact ⟨by kernel_rfl, fun j t ht => by
        rw [Tryd.params7] at ht
        have hm : t ∈ [9, 9, 3, 3, 9] := by simpa using Array.mem_of_getElem? ht
        have hall : ([9, 9, 3, 3, 9].all fun u => !Tryd.prog.wantsStandIn u) = true := by kernel_rfl
        exact (show Tryd.prog.wantsStandIn t = false by simpa using List.all_eq_true.1 hall t hm)⟩)
    (by kernel_rfl)

end Go.Proofs.YtbceglggojnnaaaDoor
