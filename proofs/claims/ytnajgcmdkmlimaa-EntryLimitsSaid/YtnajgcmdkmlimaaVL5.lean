/- Part VL5 of the proof: made for this claim. -/
import Derived.Test.YtnajgcmdkmlimaaVL4
/-! VL part 5: addresses, parts, slices, lengths. -/
set_option linter.unusedVariables false
set_option linter.unusedSimpArgs false
open Go.RowKit
namespace Go.VL
variable {P : Program} {H : Env} {w : World} {g : G}

theorem addr_add (b o n : Nat) : (⟨b, o, none⟩ : Addr).add n = ⟨b, o + n, none⟩ := by unfold Addr.add; split <;> simp_all

theorem V.fz_ne {x : V} (h : x ≠ .unk) : x.fz ≠ .unk := by cases x <;> simp_all [V.fz]
theorem mkV_fz {t : TypeId} {agg : Bool} {sz : Nat} {cs : List V} {off : Nat} {v : Value} (h : VR g w (mkV agg sz cs off) v) : VR g w (mkV agg sz cs off).fz v := h.fz

/-! ### Components, fields, elements -/
def extV (x : V) (j : Nat) : Option (Prop × V) := match x with
  | .tup cs => match cs[j]? with
    | some y => some (True, y.fz)
    | none => none
  | _ => none
theorem extV_gives {x : V} {a : Value} (j : Nat) (hx : VR g w x a) : Gives P g w (Instr.extract a j) (extV x j) := by
  unfold extV
  cases hx <;> simp only [] <;> try exact Gives.none
  rename_i cs us hl hv
  cases hj : cs[j]? with
  | none => exact Gives.none
  | some y =>
    have hlt : j < cs.length := (List.getElem?_eq_some_iff.1 hj).1
    have h1 := hv j hlt
    have e1 : cs.getD j .unk = y := by simp [List.getD_eq_getElem?_getD, hj]
    rw [e1] at h1
    refine Gives.some_ (fun _ => ⟨us.getD j undef, ?_, h1.fz⟩)
    have hju : j < us.size := by omega
    simp [Instr.extract, hju, Array.getD_eq_getD_getElem?]

def fieldV (H : Env) (t : TypeId) (x : V) (f : Nat) : Option (Prop × V) := match x with
  | .agg cs => match H.get t with
    | some i => match i.k with
      | .st fs => match fs[f]? with
        | some (off, ft, _) => match H.get ft with
          | some j => if (j.agg || j.sz == 1) = true then some (off + j.sz ≤ cs.length, (mkV j.agg j.sz cs off).fz) else none
          | none => none
        | none => none
      | _ => none
    | none => none
  | _ => none
theorem fieldV_gives (hH : EnvOk P H) (t : TypeId) {x : V} {a : Value} (f : Nat) (hx : VR g w x a) : Gives P g w (Instr.field t a f) (fieldV H t x f) := by
  unfold fieldV
  cases hx <;> simp only [] <;> try exact Gives.none
  rename_i cs us hl hv
  cases hi : H.get t with
  | none => exact Gives.none
  | some i =>
    have hT := hH.tells hi
    simp only []
    split <;> try exact Gives.none
    rename_i fs hk
    obtain ⟨fa, hu, hfa⟩ := hT.und_st hk
    cases hf : fs[f]? with
    | none => exact Gives.none
    | some q =>
      obtain ⟨off, ft, nm⟩ := q
      simp only []
      cases hj : H.get ft with
      | none => exact Gives.none
      | some j =>
        simp only []
        split <;> try exact Gives.none
        rename_i hb
        refine Gives.some_ (fun hc => ?_)
        rw [← hfa] at hf
        simp only [List.getElem?_map, Option.map_eq_some_iff, Array.getElem?_toList] at hf
        obtain ⟨fd, hfd, e⟩ := hf
        simp only [Prod.mk.injEq] at e
        obtain ⟨rfl, rfl, _⟩ := e
        obtain ⟨v, hv1, hv2⟩ := part_gives (w := w) (P := P) (hH.tells hj) cs us fd.offset hl hv hc (by
          intro ha; rw [ha] at hb; simpa using hb)
        exact ⟨v, by simp [Instr.field, run_underlying' hu, hfd, asAgg, hv1], hv2.fz⟩

def byteAt (s : ByteArray) (i : Nat) : Int := (s.data.getD i 0).toNat
def indexV (H : Env) (t : TypeId) (x ix : V) : Option (Prop × V) := match ix with
  | .flat (.int _ i) => match x with
    | .agg cs => match H.get t with
      | some ti => match ti.k with
        | .arr n e => match H.get e with
          | some j => if (j.agg || j.sz == 1) = true then some (0 ≤ i ∧ i < n ∧ i.toNat * j.sz + j.sz ≤ cs.length, (mkV j.agg j.sz cs (i.toNat * j.sz)).fz) else none
          | none => none
        | _ => none
      | none => none
    | .flat (.string s) => match H.get t with
      | some ti => match ti.k with
        | .str => some (0 ≤ i ∧ i.toNat < s.size, .flat (.int .u8 (byteAt s i.toNat)))
        | _ => none
      | none => none
    | _ => none
  | _ => none
theorem indexV_gives (hH : EnvOk P H) (t : TypeId) {x ix : V} {a b : Value} (hx : VR g w x a) (hi : VR g w ix b) : Gives P g w (Instr.index t a b) (indexV H t x ix) := by
  unfold indexV
  split <;> try exact Gives.none
  rename_i k i
  cases hi
  split <;> try exact Gives.none
  · rename_i cs
    cases hx
    rename_i us hl hv
    cases ht : H.get t with
    | none => exact Gives.none
    | some ti =>
      have hT := hH.tells ht
      simp only []
      split <;> try exact Gives.none
      rename_i n e hk
      have hu := hT.und_arr hk
      cases hj : H.get e with
      | none => exact Gives.none
      | some j =>
        simp only []
        split <;> try exact Gives.none
        rename_i hb
        refine Gives.some_ (fun hc => ?_)
        obtain ⟨c1, c2, c3⟩ := hc
        obtain ⟨v, hv1, hv2⟩ := part_gives (w := w) (P := P) (hH.tells hj) cs us _ hl hv c3 (by
          intro ha; rw [ha] at hb; simpa using hb)
        exact ⟨v, by simp [Instr.index, asIntOf, run_underlying' hu, c1, c2, (hH.tells hj).size, hv1], hv2.fz⟩
  · rename_i s
    cases hx
    cases ht : H.get t with
    | none => exact Gives.none
    | some ti =>
      have hT := hH.tells ht
      simp only []
      split <;> try exact Gives.none
      rename_i hk
      have hu := hT.und_str hk
      refine Gives.some_ (fun hc => ⟨_, ?_, .flat _ rfl⟩)
      obtain ⟨c1, c2⟩ := hc
      have c2' : i.toNat < s.data.size := c2
      simp [Instr.index, asIntOf, run_underlying' hu, c1, c2, byteAt, Array.getD_eq_getD_getElem?, c2']
      rfl

/-! ### Addresses -/
def faV (H : Env) (t : TypeId) (x : V) (f : Nat) : Option (Prop × V) := match H.get t with
  | some i => match i.k with
    | .st fs => match fs[f]? with
      | some (fo, ft, _) => match H.get ft with
        | some j => if j.sz = 0 then none else match x with
          | .bp b off => some (True, .bp b (off + fo))
          | .ref cs off => some (True, .ref cs (off + fo))
          | _ => none
        | none => none
      | none => none
    | _ => none
  | none => none
theorem faV_gives (hH : EnvOk P H) (t : TypeId) {x : V} {a : Value} (f : Nat) (hx : VR g w x a) : Gives P g w (Instr.fieldAt t a f) (faV H t x f) := by
  unfold faV
  cases hi : H.get t with
  | none => exact Gives.none
  | some i =>
    have hT := hH.tells hi
    simp only []
    split <;> try exact Gives.none
    rename_i fs hk
    obtain ⟨fa, hu, hfa⟩ := hT.und_st hk
    cases hf : fs[f]? with
    | none => exact Gives.none
    | some q =>
      obtain ⟨fo, ft, nm⟩ := q
      simp only []
      cases hj : H.get ft with
      | none => exact Gives.none
      | some j =>
        simp only []
        split <;> try exact Gives.none
        rename_i hz
        rw [← hfa] at hf
        simp only [List.getElem?_map, Option.map_eq_some_iff, Array.getElem?_toList] at hf
        obtain ⟨fd, hfd, e⟩ := hf
        simp only [Prod.mk.injEq] at e
        obtain ⟨rfl, rfl, _⟩ := e
        have hs := (hH.tells hj).size (w := w)
        cases hx <;> simp only [] <;> try exact Gives.none
        · rename_i cs off blk o us hp hu' hv
          refine Gives.some_ (fun _ => ⟨.pointer (some ⟨blk, o + (off + fd.offset), none⟩), ?_, .ref cs _ blk o us hp hu' hv⟩)
          simp [Instr.fieldAt, run_underlying' hu, hfd, Instr.sureAddr, fieldPlace, hs, hz, addr_add, Nat.add_assoc]
        · rename_i b off hb
          refine Gives.some_ (fun _ => ⟨.pointer (some ⟨g.φ b, off + fd.offset, none⟩), ?_, .bp b _ hb⟩)
          simp [Instr.fieldAt, run_underlying' hu, hfd, Instr.sureAddr, fieldPlace, hs, hz, addr_add]

def iaV (H : Env) (t : TypeId) (x ix : V) : Option (Prop × V) := match ix with
  | .flat (.int _ i) => match H.get t with
    | some ti => match ti.k with
      | .arr n e => match H.get e with
        | some j => match x with
          | .bp b off => some (0 ≤ i ∧ i < n, .bp b (off + i.toNat * j.sz))
          | .ref cs off => some (0 ≤ i ∧ i < n, .ref cs (off + i.toNat * j.sz))
          | _ => none
        | none => none
      | .sl e => match H.get e with
        | some j => match x with
          | .sl _ _ n cs => some (0 ≤ i ∧ i < n ∧ 0 < cs.length, .ref cs (i.toNat * j.sz))
          | .bs b off n _ => some (0 ≤ i ∧ i < n, .bp b (off + i.toNat * j.sz))
          | _ => none
        | none => none
      | _ => none
    | none => none
  | _ => none
theorem iaV_gives (hH : EnvOk P H) (t : TypeId) {x ix : V} {a b : Value} (hx : VR g w x a) (hi : VR g w ix b) : Gives P g w (Instr.indexAt t a b) (iaV H t x ix) := by
  unfold iaV
  split <;> try exact Gives.none
  rename_i k i
  cases hi
  cases ht : H.get t with
  | none => exact Gives.none
  | some ti =>
    have hT := hH.tells ht
    simp only []
    split <;> try exact Gives.none
    · rename_i n e hk
      have hu := hT.und_arr hk
      cases hj : H.get e with
      | none => exact Gives.none
      | some j =>
        have hs := (hH.tells hj).size (w := w)
        simp only []
        cases hx <;> simp only [] <;> try exact Gives.none
        · rename_i cs off blk o us hp hu' hv
          refine Gives.some_ (fun hc => ⟨.pointer (some ⟨blk, o + (off + i.toNat * j.sz), none⟩), ?_, .ref cs _ blk o us hp hu' hv⟩)
          simp [Instr.indexAt, asIntOf, run_underlying' hu, Instr.sureAddr, hs, hc.1, hc.2, addr_add, Nat.add_assoc]
        · rename_i b off hb
          refine Gives.some_ (fun hc => ⟨.pointer (some ⟨g.φ b, off + i.toNat * j.sz, none⟩), ?_, .bp b _ hb⟩)
          simp [Instr.indexAt, asIntOf, run_underlying' hu, Instr.sureAddr, hs, hc.1, hc.2, addr_add]
    · rename_i e hk
      have hu := hT.und_sl hk
      cases hj : H.get e with
      | none => exact Gives.none
      | some j =>
        have hs := (hH.tells hj).size (w := w)
        simp only []
        cases hx <;> simp only [] <;> try exact Gives.none
        · refine Gives.some_ (fun hc => absurd hc.2.2 (by simp))
        · rename_i own sz n cs blk off cap us hn hcap hcm hp hu' hv
          refine Gives.some_ (fun hc => ⟨.pointer (some ⟨blk, off + i.toNat * j.sz, none⟩), ?_, .ref cs _ blk off us hp hu' hv⟩)
          simp [Instr.indexAt, asIntOf, run_underlying' hu, hs, hc.1, hc.2.1, addr_add]
        · rename_i b off n cap hb hcap
          refine Gives.some_ (fun hc => ⟨.pointer (some ⟨g.φ b, off + i.toNat * j.sz, none⟩), ?_, .bp b _ hb⟩)
          simp [Instr.indexAt, asIntOf, run_underlying' hu, hs, hc.1, hc.2, addr_add]

end Go.VL
