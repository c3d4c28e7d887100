/- Part VLImp of the proof: made for this claim. -/
import Derived.Test.YtljfmgfokifooaaVLc
set_option linter.unusedVariables false
set_option linter.unusedSimpArgs false
open Go.RowKit
namespace Go.VL
variable {P : Program} {C : Cfg}
def Imp (x y : V) : Prop := ∀ (g : G) (w : World) (v : Value), VR g w x v → VR g w y v
theorem Imp.refl (x : V) : Imp x x := fun _ _ _ h => h
theorem Imp.sub {x y : V} (h : SubV x y) : Imp x y := fun _ _ _ k => k.subV h
theorem Imp.nil (own : Bool) (sz : Nat) : Imp .nil (.sl own sz 0 []) := Imp.sub (SubV.nil own sz)
theorem Imp.fz (own : Bool) (sz n : Nat) (cs : List V) : Imp (.sl own sz n cs) (.sl false sz n cs) := by
  cases own
  · exact Imp.refl _
  · exact Imp.sub (SubV.fz sz n cs)
structure ImpL (xs ys : List V) : Prop where
  len : xs.length = ys.length
  at_ : ∀ i, i < ys.length → Imp (xs.getD i .unk) (ys.getD i .unk)
theorem ImpL.refl (xs : List V) : ImpL xs xs := ⟨rfl, fun _ _ => Imp.refl _⟩
theorem ImpL.nil : ImpL [] [] := ImpL.refl _
theorem ImpL.cons {x y : V} {xs ys : List V} (h : Imp x y) (hs : ImpL xs ys) : ImpL (x :: xs) (y :: ys) :=
  ⟨by simp [hs.len], fun i hi => by
    cases i with
    | zero => simpa using h
    | succ i => simpa using hs.at_ i (by simpa using hi)⟩
theorem ImpL.app {a b c d : List V} (h : ImpL a b) (k : ImpL c d) : ImpL (a ++ c) (b ++ d) :=
  ⟨by simp [h.len, k.len], fun i hi => by
    rw [List.length_append] at hi
    by_cases q : i < b.length
    · rw [List.getD_eq_getElem?_getD, List.getD_eq_getElem?_getD, List.getElem?_append_left (by rw [h.len]; exact q), List.getElem?_append_left q, ← List.getD_eq_getElem?_getD, ← List.getD_eq_getElem?_getD]
      exact h.at_ i q
    · rw [List.getD_eq_getElem?_getD, List.getD_eq_getElem?_getD, List.getElem?_append_right (by rw [h.len]; omega), List.getElem?_append_right (by omega), h.len, ← List.getD_eq_getElem?_getD, ← List.getD_eq_getElem?_getD]
      exact k.at_ _ (by omega)⟩
theorem Imp.agg {xs ys : List V} (h : ImpL xs ys) : Imp (.agg xs) (.agg ys) := fun g w v k => by
  cases k with
  | agg _ us hl hv => exact .agg _ us (by rw [hl, h.len]) fun i hi => h.at_ i hi g w _ (hv i (by rw [h.len]; exact hi))
theorem Imp.tup {xs ys : List V} (h : ImpL xs ys) : Imp (.tup xs) (.tup ys) := fun g w v k => by
  cases k with
  | tup _ us hl hv => exact .tup _ us (by rw [hl, h.len]) fun i hi => h.at_ i hi g w _ (hv i (by rw [h.len]; exact hi))
theorem Sp.imp {gl : Nat → Option (List V)} {f : FuncId} {args : List V} {M : Mem} {n : Nat} {R R' : V → Mem → Nat → Prop} (h : Sp P gl f args M n R) (hR : ∀ r m k, R r m k → ∃ r', Imp r r' ∧ r' ≠ .unk ∧ V.noOwn r' ∧ R' r' m k) : Sp P gl f args M n R' := by
  refine ⟨h.1, fun g ob w vs a b c d e k => (h.2 g ob w vs a b c d e k).mono fun _ w' ⟨v, r, m, g', ob', x1, x2, x3, st⟩ => ?_⟩
  obtain ⟨r', hs, hu, hno, hr⟩ := hR _ _ _ x2
  refine ⟨v, r', m, g', ob', x1, hr, hu, ?_⟩
  have hr0 : VR g' w' r v := by
    have := st.slot 0 (by rw [upd_same]; exact x3)
    rw [upd_same] at this; simpa using this
  exact { st with
    slot := fun i hi => by
      by_cases q : i = 0
      · subst q; rw [upd_same]; simpa using hs _ _ _ hr0
      · rw [upd_ne _ _ q] at hi; exact absurd rfl hi
    ownS := fun i j sz n cs hi => by
      by_cases q : i = 0
      · subst q
        rw [upd_same] at hi
        exact absurd hi (hno j sz n cs)
      · rw [upd_ne _ _ q] at hi; have := comp_unk _ _ hi; cases this }
theorem Sp.argsI {gl : Nat → Option (List V)} {f : FuncId} {xs ys : List V} {M : Mem} {n : Nat} {R : V → Mem → Nat → Prop} (h : Sp P gl f xs M n R) (hs : ImpL ys xs) : Sp P gl f ys M n R :=
  ⟨h.1, fun g ob w vs a b c d e k => h.2 g ob w vs a b (by rw [← hs.len]; exact c) (fun i hi => hs.at_ i hi _ _ _ (d i (by rw [hs.len]; exact hi))) e k⟩
theorem fnLI (hH : EnvOk P C.H) {f : FuncId} {fn : Func} {c : Code} {args : List V} {M : Mem} {mn : Nat} {X : V} {rs : List ResultVar} (hf : P.funcs[f]? = some fn) (hn : (fn.name == "runtime.NumGoroutine") = false)
    (hb : fn.body = some c) (hnt : fn.ntmps = C.nt) (hr : fn.results.toList = rs) (hle : decide (args.length ≤ C.nt) = true) (hd : distinctB rs [] = true) (hno : args.all argB = true) (hX : Low X ∧ V.noOwn X ∧ X ≠ .unk)
    (h : ∀ E, GlOk E.g0 E.w0 C.gl → (∀ b, mn ≤ b → M b = none) → WC P E C c ⟨argSl 0 args, M, mn⟩ (FnEnd C.H rs (fun r m _ => Imp r X ∧ ∀ b, M b ≠ none → m b = M b))) :
    Sp P C.gl f args M mn (fun r m k => r = X ∧ m = M ∧ k = mn) := by
  subst hr
  refine Sp.low X (Sp.imp (Sp.intro (R := fun r m _ => Imp r X ∧ ∀ b, M b ≠ none → m b = M b) hH hf hn hb hnt (of_decide_eq_true hle) (distinctB_spec _ [] hd) (argB_spec hno) h) (R' := fun r m _ => r = X ∧ ∀ b, M b ≠ none → m b = M b) (fun r m k hR => ⟨X, hR.1, hX.2.2, hX.2.1, rfl, hR.2⟩)) (fun _ _ _ h => h) hX.1
end Go.VL
