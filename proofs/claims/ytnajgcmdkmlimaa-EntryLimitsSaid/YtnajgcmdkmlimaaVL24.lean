/- Part VL24 of the proof: made for this claim. -/
import Derived.Test.YtnajgcmdkmlimaaVL23
import Derived.ProofKit
import Derived.SizedLaws
/-! VL part 24: how a row's call enters, and what comes back. -/
set_option linter.unusedVariables false
set_option linter.unusedSimpArgs false
open Go.RowKit
namespace Go.VL
variable {P : Program}

/-- All cells of the world that a call finds are given. -/
def protOf (W : World) (blk : Nat) : Nat := match W.heap[blk]? with
  | some (.cells c _ _) => c.size
  | _ => 0
def gOf (W : World) : G := ⟨fun _ => 0, 0, protOf W⟩

theorem protOf_cell {W : World} {b o : Nat} {u : Value} (h : W.cell? ⟨b, o, none⟩ = some u) : o < protOf W b := by
  unfold World.cell? at h
  unfold protOf
  split at h
  · rename_i hb
    simp only at hb h
    rw [hb]
    simp only
    simp at h
    exact (Array.getElem?_eq_some_iff.1 h).1
  · cases h

theorem Sp.enter {gl : Nat → Option (List V)} {f : FuncId} {args : List V} {R : V → (Nat → Option (List V)) → Nat → Prop} (hs : Sp P gl f args (fun _ => none) 0 R) (W : World) {vs : Array Value} (hG : GlOk (gOf W) W gl) (hsz : vs.size = args.length)
    (hv : ∀ i, i < args.length → VR (gOf W) W (args.getD i .unk) (vs.getD i undef)) :
    Calls P f vs W fun e w' => ∃ v r m g', e = .returned v ∧ R r m g'.mn ∧ VR g' w' r v ∧ Below W.heap.size W w' := by
  have hst : St (entryOf (gOf W) (fun _ => none) (fun _ => none) W) (gOf W) (fun _ => none) (fun _ => .unk) (fun _ => none) #[] W :=
    { slot := fun i hi => absurd rfl hi
      box := fun b cs h => by cases h
      inj := fun b b' h => absurd rfl h
      ownS := fun i j sz n cs h => by have := comp_unk _ _ h; cases this
      ownC := fun b o l sz n cs h => by cases h
      obInj := fun p q blk h => by cases h
      obBox := fun p blk b h => by cases h
      obLt := fun p blk h => by cases h
      prot0 := fun blk h => by
        show protOf W blk = 0
        unfold protOf
        rw [Array.getElem?_eq_none h]
      boxProt := fun b h => absurd rfl h
      os := rfl
      tape := rfl
      output := rfl
      size := Nat.le_refl _
      block := fun _ _ _ => rfl
      keep := fun _ _ _ => rfl
      onto := Onto.refl _ _
      boxFresh := fun b h => absurd rfl h
      obFresh := fun p blk h => by cases h }
  refine (hs.2 (gOf W) (fun _ => none) W vs rfl hG hsz hv (fun _ _ => rfl) hst).mono ?_
  rintro e w' ⟨v, r, mem', g', ob', rfl, hR, hru, h⟩
  refine ⟨v, r, mem', g', rfl, hR, ?_, ⟨h.os, h.tape, h.output, h.size, fun k hk => h.block k hk ?_⟩⟩
  · have := h.slot 0 (by rw [upd_same]; exact hru)
    rw [upd_same] at this
    exact this
  · rintro (⟨b, h1, _⟩ | ⟨b, o, h1⟩)
    · exact h1 rfl
    · cases h1

/-- A law's call: it hands back true and leaves everything below as it was. -/
theorem Sp.law {gl : Nat → Option (List V)} {f : FuncId} {args : List V} (hs : ∀ M mn, Sp P gl f args M mn (fun r m k => r = .flat (.bool true) ∧ m = M ∧ k = mn)) (W : World) {vs : Array Value} (hG : GlOk (gOf W) W gl) (hsz : vs.size = args.length)
    (hv : ∀ i, i < args.length → VR (gOf W) W (args.getD i .unk) (vs.getD i undef)) :
    Calls P f vs W fun e w' => e = .returned (.bool true) ∧ Below W.heap.size W w' := by
  refine (Sp.enter (hs _ _) W hG hsz hv).mono ?_
  rintro e w' ⟨v, r, m, g', rfl, ⟨rfl, _, _⟩, h, hb⟩
  cases h
  exact ⟨rfl, hb⟩

theorem Sp.law' {gl : Nat → Option (List V)} {f : FuncId} {args : List V} (hs : Sp P gl f args (fun _ => none) 0 (fun r m k => r = .flat (.bool true))) (W : World) {vs : Array Value} (hG : GlOk (gOf W) W gl) (hsz : vs.size = args.length)
    (hv : ∀ i, i < args.length → VR (gOf W) W (args.getD i .unk) (vs.getD i undef)) :
    Calls P f vs W fun e w' => e = .returned (.bool true) ∧ Below W.heap.size W w' := by
  refine (Sp.enter hs W hG hsz hv).mono ?_
  rintro e w' ⟨v, r, m, g', rfl, rfl, h, hb⟩
  cases h
  exact ⟨rfl, hb⟩

/-- An argument that is a list of strings. -/
theorem strs_arg {H : Type} {enc : TypeId × Value → H} {W : World} {base : Nat} {spare : Nat → Bool} {held : Bool} {t e : TypeId} {d : DataW H} {ps : List MemPlace} {a0 : Option Addr} {len cap : Nat} (ht : P.underlying t = some (.slice e)) (he : P.underlying e = some .string) (hc : P.cellsOf e = 1)
    (hb : 0 < P.bytesOf e) (hd : DataW.Trod enc P W base spare held t (.slice a0 len cap) d ps) {ts : List TypeId} {ds : List (DataW H)} {j : Nat} (hj : ts[j]? = some t) (hdj : ds[j]? = some d)
    (hsz : (DataW.weightsEach P ts ds).all (· ≤ reachBytes) = true) :
    ∃ l : List (List UInt8), (∀ s ∈ l, s.length ≤ 140737488355328) ∧ l.length ≤ 140737488355328 ∧ VR (gOf W) W (.sl false 1 l.length (sv l)) (.slice a0 len cap) := by
  obtain ⟨fuel, hf⟩ := hd
  have hw := List.all_eq_true.1 hsz
  have hmem := fun n => DataW.weights_mem_each (P := P) hj hdj n
  rcases ChangeShapes.open_strings ht he hc hf with ⟨hcs, hx⟩ | ⟨a, len', cap', ss, hcs, _, hl, hm, hz, hx, hcell, hsm⟩
  · simp [Value.cells] at hcs
    obtain ⟨rfl, rfl, rfl⟩ := hcs
    exact ⟨[], by simp, by simp, .sl0 false 1 none 0⟩
  · simp [Value.cells] at hcs
    obtain ⟨rfl, rfl, rfl⟩ := hcs
    simp only [Prod.mk.injEq] at hx
    obtain ⟨rfl, rfl⟩ := hx
    have hle : len ≤ ss.length := by rw [hz]; split <;> omega
    have hwl : ss.length * P.bytesOf e ≤ 140737488351232 := by
      have := hw _ (hmem ((ChangeShapes.strs (H := H) (ss.take len)).length * P.bytesOf e + (ChangeShapes.strs (H := H) (ss.drop len)).length * P.bytesOf e) (by simp [DataW.weights, ht, Nat.add_mul]))
      simp only [ChangeShapes.strs, List.length_map, List.length_take, List.length_drop, reachBytes, decide_eq_true_eq] at this
      rw [← Nat.add_mul, show min len ss.length + (ss.length - len) = ss.length by omega] at this
      omega
    have hlen : ss.length ≤ 140737488351232 := Nat.le_trans (Nat.le_mul_of_pos_right _ hb) hwl
    have hall : ∀ (l : List ByteArray) (s : ByteArray), s ∈ l → s.data.toList.length ∈ DataW.weightsAll P e (ChangeShapes.strs (H := H) l) := by
      intro l
      induction l with
      | nil => intro s h; cases h
      | cons x r ih =>
        intro s h
        simp only [ChangeShapes.strs, List.map_cons, DataW.weightsAll, List.mem_append]
        rcases List.mem_cons.1 h with rfl | h
        · left; simp [DataW.weights]
        · right; exact ih s h
    have hs : ∀ s ∈ ss.take len, s.data.toList.length ≤ 140737488351232 := fun s h => by
      have := hw _ (hmem s.data.toList.length (by
        simp only [DataW.weights, ht, List.mem_cons, List.mem_append]
        right; left; exact hall _ s h))
      exact of_decide_eq_true this
    refine ⟨(ss.take len).map fun s => s.data.toList, ?_, by simp; omega, ?_⟩
    · intro s h
      obtain ⟨x, hx, rfl⟩ := List.mem_map.1 h
      have := hs x hx
      omega
    · have hll : ((ss.take len).map fun s => s.data.toList).length = len := by simp; omega
      rw [hll]
      rcases Nat.eq_zero_or_pos len with rfl | hpos
      · exact .sl0 false 1 _ _
      · obtain ⟨b, off, spot⟩ := a
        have hspot : spot = none := by simpa [Addr.add] using World.cell?_spot (hcell 0 (by omega))
        subst hspot
        have hsv : (sv ((ss.take len).map fun s => s.data.toList)) = (ss.take len).map fun s => V.flat (.string s) := by
          simp only [sv, List.map_map]
          rfl
        have hc' : ∀ i, i < len → W.cell? ⟨b, off + i, none⟩ = some (.string (ss.getD i ByteArray.empty)) := fun i hi => by
          have := hcell i (by omega)
          rwa [WideShapes.add_plain] at this
        have hlv : ((ss.take len).map fun s => V.flat (.string s)).length = len := by simp; omega
        rw [hsv]
        refine .sl false 1 len _ b off cap (ss.map Value.string) (by rw [hlv]; omega) hl hm ?_ (fun i hi => ?_) (fun i hi => ?_)
        · rw [hlv]
          have := protOf_cell (hc' (len - 1) (by omega))
          show off + len ≤ protOf W b
          omega
        · rw [hlv] at hi
          rw [hc' i hi]
          simp [List.getD_eq_getElem?_getD, List.getElem?_eq_getElem (show i < ss.length by omega)]
        · rw [hlv] at hi
          have e1 : ((ss.take len).map fun s => V.flat (.string s)).getD i .unk = V.flat (.string (ss[i]'(by omega))) := by
            simp [List.getD_eq_getElem?_getD, List.getElem?_take, hi, List.getElem?_eq_getElem (show i < ss.length by omega)]
          have e2 : (ss.map Value.string).getD i undef = .string (ss[i]'(by omega)) := by
            simp [List.getD_eq_getElem?_getD, List.getElem?_eq_getElem (show i < ss.length by omega)]
          rw [e1, e2]
          exact .flat _ rfl

end Go.VL
