/- Part VLArgs of the proof: made for this claim. -/
import Derived.Test.YtmdfbbeobijoeaaVL24
import Derived.Deep.Slices
/-! VL: more arguments. -/
set_option linter.unusedVariables false
set_option linter.unusedSimpArgs false
open Go.RowKit
namespace Go.VL
variable {P : Program}

/-- An argument that is a list of structs of one number. -/
theorem ints1_arg {H : Type} {enc : TypeId × Value → H} {W : World} {base : Nat} {spare : Nat → Bool} {held : Bool} {t e : TypeId} {f0 : Field} {d : DataW H} {ps : List MemPlace} {a0 : Option Addr} {len cap : Nat} (ht : P.underlying t = some (.slice e)) (he : P.underlying e = some (.struct #[f0])) (hc : P.cellsOf e = 1)
    (ho : f0.offset = 0) (hc0 : P.cellsOf f0.type = 1) (hi0 : P.underlying f0.type = some (.int .i64))
    (hb : 0 < P.bytesOf e) (hd : DataW.Trod enc P W base spare held t (.slice a0 len cap) d ps) {ts : List TypeId} {ds : List (DataW H)} {j : Nat} (hj : ts[j]? = some t) (hdj : ds[j]? = some d)
    (hsz : (DataW.weightsEach P ts ds).all (· ≤ reachBytes) = true) :
    ∃ l : List Int, l.length ≤ 140737488355328 ∧ VR (gOf W) W (.sl false 1 l.length (l.map fun n => V.flat (.int .i64 n))) (.slice a0 len cap) := by
  obtain ⟨fuel, hf⟩ := hd
  have hw := List.all_eq_true.1 hsz
  have hmem := fun n => DataW.weights_mem_each (P := P) hj hdj n
  rcases Go.Deep.open_slice1 ht hc hf with ⟨hcs, hx⟩ | ⟨a, len', cap', m, n, Vv, D, Pl, hcs, _, hl, hm, hz, hx, hcell⟩
  · simp [Value.cells] at hcs
    obtain ⟨rfl, rfl, rfl⟩ := hcs
    exact ⟨[], by simp, .sl0 false 1 none 0⟩
  · simp [Value.cells] at hcs
    obtain ⟨rfl, rfl, rfl⟩ := hcs
    simp only [Prod.mk.injEq] at hx
    obtain ⟨rfl, rfl⟩ := hx
    have hle : len ≤ m := by rw [hz]; split <;> omega
    have hlen : len ≤ 140737488351232 := by
      have h0 := hw _ (hmem ((((List.range len).map D).length + ((List.range (m - len)).map fun j => D (len + j)).length) * P.bytesOf e) (by simp [DataW.weights, ht]))
      have h1 : (((List.range len).map D).length + ((List.range (m - len)).map fun j => D (len + j)).length) * P.bytesOf e ≤ 140737488351232 := of_decide_eq_true h0
      simp only [List.length_map, List.length_range] at h1
      have := Nat.le_trans (Nat.le_mul_of_pos_right (len + (m - len)) hb) h1
      omega
    have hnum : ∀ i, i < m → ∃ k : Int, Vv i = .int .i64 k := fun i hi => by
      obtain ⟨_, h2⟩ := hcell i hi
      obtain ⟨y0, n', _, _, h3⟩ := ChangeShapes.trod_struct1 he h2
      rw [ho, hc0] at h3
      simp only [List.drop_zero, List.take_succ_cons, List.take_zero] at h3
      obtain ⟨k, h4, _⟩ := DataW.trod_int hi0 h3
      exact ⟨k, by simpa using h4⟩
    let f : Nat → Int := fun i => if h : i < m then Classical.choose (hnum i h) else 0
    have hfv : ∀ i, i < m → Vv i = .int .i64 (f i) := fun i hi => by
      have := Classical.choose_spec (hnum i hi)
      simp only [f, dif_pos hi]
      exact this
    refine ⟨(List.range len).map f, by simp; omega, ?_⟩
    have hll : ((List.range len).map f).length = len := by simp
    rw [hll]
    rcases Nat.eq_zero_or_pos len with rfl | hpos
    · exact .sl0 false 1 _ _
    · obtain ⟨b, off, spot⟩ := a
      have hspot : spot = none := by simpa [Addr.add] using World.cell?_spot (hcell 0 (by omega)).1
      subst hspot
      have hc' : ∀ i, i < len → W.cell? ⟨b, off + i, none⟩ = some (.int .i64 (f i)) := fun i hi => by
        have := (hcell i (by omega)).1
        rwa [WideShapes.add_plain, hfv i (by omega)] at this
      have hlv : (((List.range len).map f).map fun n => V.flat (.int .i64 n)).length = len := by simp
      refine .sl false 1 len _ b off cap ((List.range len).map fun i => Value.int .i64 (f i)) (by rw [hlv]; omega) hl hm ?_ (fun i hi => ?_) (fun i hi => ?_)
      · rw [hlv]
        have := protOf_cell (hc' (len - 1) (by omega))
        show off + len ≤ protOf W b
        omega
      · rw [hlv] at hi
        rw [hc' i hi]
        simp [List.getD_eq_getElem?_getD, hi]
      · rw [hlv] at hi
        have e1 : (((List.range len).map f).map fun n => V.flat (.int .i64 n)).getD i .unk = V.flat (.int .i64 (f i)) := by
          simp [List.getD_eq_getElem?_getD, hi]
        have e2 : ((List.range len).map fun i => Value.int .i64 (f i)).getD i undef = .int .i64 (f i) := by
          simp [List.getD_eq_getElem?_getD, hi]
        rw [e1, e2]
        exact .flat _ rfl

end Go.VL
