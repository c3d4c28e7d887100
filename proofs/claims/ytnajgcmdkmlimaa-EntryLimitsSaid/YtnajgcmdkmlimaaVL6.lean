/- Part VL6 of the proof: made for this claim. -/
import Derived.Test.YtnajgcmdkmlimaaVL5
/-! VL part 6: cuts, loads, structs and arrays made, lengths. -/
set_option linter.unusedVariables false
set_option linter.unusedSimpArgs false
open Go.RowKit
namespace Go.VL
variable {P : Program} {H : Env} {w : World} {g : G}

/-- A bound of a cut: none, or a whole number. -/
def bnd : Option V → Option (Option Int)
  | none => some none
  | some (.flat (.int _ n)) => some (some n)
  | _ => none
theorem bnd_rel {x : Option V} {a : Option Value} (hx : ∀ v, x = some v → ∃ u, a = some u ∧ VR g w v u) (hn : x = none → a = none) {b : Option Int} (h : bnd x = some b) :
    (b = none ∧ a = none) ∨ ∃ k n, b = some n ∧ a = some (.int k n) := by
  unfold bnd at h
  split at h <;> cases h
  · exact .inl ⟨rfl, hn rfl⟩
  · rename_i k n
    obtain ⟨u, h1, h2⟩ := hx _ rfl
    cases h2
    exact .inr ⟨k, n, rfl, h1⟩

theorem run_bound {k : IntKind} {n : Int} {y : Nat} (c : BoundsCode) (h0 : 0 ≤ n) (h1 : n ≤ y) : (Instr.sliceBound (.int k n) y c).run P w = .ok n.toNat w := by
  simp [Instr.sliceBound, asIntOf, h0, h1]
theorem run_bounds {isl : Bool} {len cap : Nat} {lo hi : Option Value} {l h : Option Int} (hl : (l = none ∧ lo = none) ∨ ∃ k n, l = some n ∧ lo = some (.int k n)) (hh : (h = none ∧ hi = none) ∨ ∃ k n, h = some n ∧ hi = some (.int k n))
    (c0 : 0 ≤ l.getD 0) (c1 : l.getD 0 ≤ h.getD len) (c2 : h.getD len ≤ cap) : (Instr.sliceBounds isl len cap lo hi none).run P w = .ok ((l.getD 0).toNat, (h.getD len).toNat, cap) w := by
  have e : ∀ n : Int, 0 ≤ n → ((n.toNat : Nat) : Int) = n := fun n h => Int.toNat_of_nonneg h
  rcases hl with ⟨rfl, rfl⟩ | ⟨k, n, rfl, rfl⟩ <;> rcases hh with ⟨rfl, rfl⟩ | ⟨k', m, rfl, rfl⟩ <;> simp only [Option.getD_none, Option.getD_some] at c0 c1 c2 ⊢
  · simp [Instr.sliceBounds]
  · simp [Instr.sliceBounds, run_bound _ (show 0 ≤ m by omega) c2]
  · simp [Instr.sliceBounds, run_bound _ c0 c1]
  · simp [Instr.sliceBounds, run_bound _ (show 0 ≤ m by omega) c2, run_bound _ c0 (show n ≤ ((m.toNat : Nat) : Int) by omega)]

/-- 'x[lo:hi]'. -/
def slV (H : Env) (t : TypeId) (x : V) (lo hi : Option V) : Option (Prop × V) := match bnd lo, bnd hi with
  | some l, some h => match H.get t with
    | some ti => match ti.k with
      | .str => match x with
        | .flat (.string s) => some (0 ≤ l.getD 0 ∧ l.getD 0 ≤ h.getD s.size ∧ h.getD s.size ≤ (s.size : Int), .flat (.string (s.extract (l.getD 0).toNat (h.getD s.size).toNat)))
        | _ => none
      | .sl e => match H.get e with
        | some j => match x with
          | .sl _ sz n cs => if sz = j.sz then some (0 ≤ l.getD 0 ∧ l.getD 0 ≤ h.getD n ∧ h.getD n ≤ (n : Int) ∧ cs.length = n * sz,
              .sl false sz ((h.getD n).toNat - (l.getD 0).toNat) ((cs.take ((h.getD n).toNat * sz)).drop ((l.getD 0).toNat * sz))) else none
          | .nil => some (l.getD 0 = 0 ∧ h.getD 0 = 0, .nil)
          | _ => none
        | none => none
      | .arr n e => match H.get e with
        | some j => match x with
          | .bp b off => some (0 ≤ l.getD 0 ∧ l.getD 0 ≤ h.getD n ∧ h.getD n ≤ (n : Int) ∧ l.getD 0 < n, .bs b (off + (l.getD 0).toNat * j.sz) ((h.getD n).toNat - (l.getD 0).toNat) (n - (l.getD 0).toNat))
          | _ => none
        | none => none
      | _ => none
    | none => none
  | _, _ => none

theorem slV_gives (hH : EnvOk P H) (t : TypeId) {x : V} {a : Value} {lo hi : Option V} {lo' hi' : Option Value} (hx : VR g w x a)
    (hlo : ∀ v, lo = some v → ∃ u, lo' = some u ∧ VR g w v u) (hlo0 : lo = none → lo' = none) (hhi : ∀ v, hi = some v → ∃ u, hi' = some u ∧ VR g w v u) (hhi0 : hi = none → hi' = none) :
    Gives P g w (Instr.sliceAt t a lo' hi' none) (slV H t x lo hi) := by
  unfold slV
  cases hl : bnd lo with
  | none => exact Gives.none
  | some l =>
    cases hh : bnd hi with
    | none => exact Gives.none
    | some h =>
      have rl := bnd_rel hlo hlo0 hl
      have rh := bnd_rel hhi hhi0 hh
      cases ht : H.get t with
      | none => exact Gives.none
      | some ti =>
        have hT := hH.tells ht
        simp only []
        split <;> try exact Gives.none
        · rename_i hk
          have hu := hT.und_str hk
          split <;> try exact Gives.none
          rename_i s
          cases hx
          refine Gives.some_ (fun hc => ⟨_, ?_, .flat _ rfl⟩)
          simp [Instr.sliceAt, run_underlying' hu, Instr.slice, run_bounds (P := P) (w := w) (isl := false) rl rh hc.1 hc.2.1 hc.2.2]
        · rename_i e hk
          have hu := hT.und_sl hk
          cases hj : H.get e with
          | none => exact Gives.none
          | some j =>
            have hs := (hH.tells hj).size (w := w)
            simp only []
            cases hx <;> simp only [] <;> try exact Gives.none
            · refine Gives.some_ (fun hc => ⟨_, ?_, .nil⟩)
              have := run_bounds (P := P) (w := w) (isl := true) (len := 0) (cap := 0) rl rh (by simp [hc.1]) (by simp [hc.1, hc.2]) (by simp [hc.2])
              simp [Instr.sliceAt, run_underlying' hu, Instr.slice, this, hs, hc.1, hc.2]
            · rename_i own sz ad cap
              split <;> try exact Gives.none
              rename_i hz
              subst hz
              refine Gives.some_ (fun hc => ?_)
              have h0 : l.getD 0 = 0 ∧ h.getD 0 = 0 := by have := hc.1; have := hc.2.1; have := hc.2.2.1; constructor <;> simp at * <;> omega
              have := run_bounds (P := P) (w := w) (isl := true) (len := 0) (cap := cap) rl rh (by simp [h0.1]) (by simp [h0.1, h0.2]) (by simp [h0.2])
              refine ⟨.slice (if cap = 0 then ad else ad.map (·.add 0)) 0 (cap - 0), ?_, ?_⟩
              · simp [Instr.sliceAt, run_underlying' hu, Instr.slice, this, hs, h0.1, h0.2]
              · simp only [Int.natCast_zero, h0.1, h0.2, Int.toNat_zero, Nat.sub_self, List.take_nil, List.drop_nil]
                exact .sl0 false _ _ _
            · rename_i own sz n cs blk off cap us hn hcap hcm hp hu' hv
              split <;> try exact Gives.none
              rename_i hz
              subst hz
              refine Gives.some_ (fun hc => ?_)
              obtain ⟨c1, c2, c3, c4⟩ := hc
              have := run_bounds (P := P) (w := w) (isl := true) (len := n) (cap := cap) rl rh c1 c2 (by omega)
              generalize hL : (l.getD 0).toNat = lN at *
              generalize hHi : (h.getD (n : Int)).toNat = hN at *
              have q1 : lN ≤ hN := by omega
              have q2 : hN ≤ n := by omega
              have q3 : hN * j.sz ≤ n * j.sz := Nat.mul_le_mul_right _ q2
              have q4 : lN * j.sz ≤ hN * j.sz := Nat.mul_le_mul_right _ q1
              by_cases hm : cap = lN
              · subst hm
                refine ⟨.slice (some ⟨blk, off, none⟩) (hN - cap) (cap - cap), ?_, ?_⟩
                · simp [Instr.sliceAt, run_underlying' hu, Instr.slice, this, hs]
                · have e1 : hN = cap := by omega
                  have e2 : (cs.take (hN * j.sz)).drop (cap * j.sz) = [] := List.drop_eq_nil_of_le (by rw [List.length_take, e1]; omega)
                  rw [e2, e1, Nat.sub_self]
                  exact .sl0 false _ _ _
              · refine ⟨.slice (some ⟨blk, off + lN * j.sz, none⟩) (hN - lN) (cap - lN), ?_, ?_⟩
                · simp [Instr.sliceAt, run_underlying' hu, Instr.slice, this, hs, hm, addr_add]
                · have hlen : ((cs.take (hN * j.sz)).drop (lN * j.sz)).length = (hN - lN) * j.sz := by
                    rw [List.length_drop, List.length_take, Nat.sub_mul]; omega
                  have hle : (hN - lN) * j.sz = hN * j.sz - lN * j.sz := Nat.sub_mul _ _ _
                  have eg : ∀ i, i < (hN - lN) * j.sz → ((cs.take (hN * j.sz)).drop (lN * j.sz)).getD i .unk = cs.getD (lN * j.sz + i) .unk := fun i hi => by
                    simp only [List.getD_eq_getElem?_getD, List.getElem?_drop, List.getElem?_take]
                    rw [if_pos (by omega)]
                  refine .sl false j.sz _ _ blk (off + lN * j.sz) (cap - lN) (us.drop (lN * j.sz)) hlen (by omega) (by omega) (by omega) (fun i hi => ?_) (fun i hi => ?_)
                  · rw [hlen] at hi
                    rw [Nat.add_assoc, hu' (lN * j.sz + i) (by omega)]
                    simp [List.getD_eq_getElem?_getD]
                  · rw [hlen] at hi
                    rw [eg i hi]
                    have := hv (lN * j.sz + i) (by omega)
                    simpa [List.getD_eq_getElem?_getD] using this
        · rename_i n e hk
          have hu := hT.und_arr hk
          cases hj : H.get e with
          | none => exact Gives.none
          | some j =>
            have hs := (hH.tells hj).size (w := w)
            simp only []
            cases hx <;> simp only [] <;> try exact Gives.none
            rename_i b off hb
            refine Gives.some_ (fun hc => ?_)
            obtain ⟨c1, c2, c3, c4⟩ := hc
            have := run_bounds (P := P) (w := w) (isl := false) (len := n) (cap := n) rl rh c1 c2 c3
            refine ⟨.slice (some ⟨g.φ b, off + (l.getD 0).toNat * j.sz, none⟩) ((h.getD (n : Int)).toNat - (l.getD 0).toNat) (n - (l.getD 0).toNat), ?_, .bs b _ _ _ hb (by omega)⟩
            have hm : ¬ n = (l.getD 0).toNat := by omega
            simp [Instr.sliceAt, run_underlying' hu, Instr.sureAddr, this, hs, hm, addr_add]

/-! ### Loads -/
theorem loadRow (hH : EnvOk P H) {t : TypeId} {i : TyI} (hi : H.get t = some i) (cs : List V) (off blk o : Nat) (us : List Value) (hu : ∀ i, i < cs.length → w.cell? ⟨blk, o + i, none⟩ = some (us.getD i undef))
    (hv : ∀ i, i < cs.length → VR g w (cs.getD i .unk) (us.getD i undef)) (hc : off + i.sz ≤ cs.length) (h1 : i.agg = false → i.sz = 1) :
    ∃ v, (loadVar t ⟨blk, o + off, none⟩).run P w = .ok v w ∧ VR g w (mkV i.agg i.sz cs off) v := by
  have hT := hH.tells hi
  cases ha : i.agg with
  | false =>
    have h1 := h1 ha
    refine ⟨us.getD off undef, ?_, by simp only [mkV]; exact hv off (by omega)⟩
    have hg := hu off (by omega)
    simp [loadVar, hT.agg, ha, hg]
  | true =>
    refine ⟨.agg ((List.range i.sz).map fun j => us.getD (off + j) undef).toArray, ?_, ?_⟩
    · have := run_loadCells (P := P) w ⟨blk, o + off, none⟩ i.sz (fun j => us.getD (off + j) undef) (fun j hj => by
        rw [addr_add, Nat.add_assoc]; exact hu (off + j) (by omega))
      simp [loadVar, hT.agg, ha, hT.size, this]
    · simp only [mkV]
      refine .agg _ _ (by simp; omega) (fun j hj => ?_)
      simp only [List.length_take, List.length_drop] at hj
      have e1 : ((cs.drop off).take i.sz).getD j .unk = cs.getD (off + j) .unk := by
        simp only [List.getD_eq_getElem?_getD, List.getElem?_take, List.getElem?_drop]
        rw [if_pos (by omega)]
      have e2 : (((List.range i.sz).map fun j => us.getD (off + j) undef).toArray).getD j undef = us.getD (off + j) undef := by
        simp [Array.getD_eq_getD_getElem?, show j < i.sz by omega]
      rw [e1, e2]
      exact hv _ (by omega)

def ldV (H : Env) (mem : Nat → Option (List V)) (t : TypeId) (x : V) : Option (Prop × V) := match H.get t with
  | some j => if (j.agg || j.sz == 1) = true then match x with
    | .ref cs off => some (off + j.sz ≤ cs.length, (mkV j.agg j.sz cs off).fz)
    | .bp b off => match mem b with
      | some cs => some (off + j.sz ≤ cs.length, (mkV j.agg j.sz cs off).fz)
      | none => none
    | _ => none
    else none
  | none => none
def BoxesAt (g : G) (w : World) (mem : Nat → Option (List V)) : Prop := ∀ b cs, mem b = some cs → b < g.mn ∧ BoxAt g w (g.φ b) cs
theorem ldV_gives (hH : EnvOk P H) {mem : Nat → Option (List V)} (hm : BoxesAt g w mem) (t : TypeId) {x : V} {a : Value} (hx : VR g w x a) : Gives P g w (Instr.loadAt t a) (ldV H mem t x) := by
  unfold ldV
  cases hj : H.get t with
  | none => exact Gives.none
  | some j =>
    simp only []
    split <;> try exact Gives.none
    rename_i hb
    have h1 : j.agg = false → j.sz = 1 := by intro ha; rw [ha] at hb; simpa using hb
    cases hx <;> simp only [] <;> try exact Gives.none
    · rename_i cs off blk o us hp hu' hv
      refine Gives.some_ (fun hc => ?_)
      obtain ⟨v, hv1, hv2⟩ := loadRow hH hj cs off blk o us hu' hv hc h1
      exact ⟨v, by simp [Instr.loadAt, Instr.sureAddr, hv1], hv2.fz⟩
    · rename_i b off hb'
      cases hmb : mem b with
      | none => exact Gives.none
      | some cs =>
        refine Gives.some_ (fun hc => ?_)
        obtain ⟨_, c, e, fr, hh, hsz, hth, hvv⟩ := hm b cs hmb
        obtain ⟨v, hv1, hv2⟩ := loadRow (w := w) (g := g) hH hj cs off (g.φ b) 0 c.toList (fun i hi => by
          simp only [World.cell?, hh]
          simp [List.getD_eq_getElem?_getD, show i < c.size by omega]) (fun i hi => by have := hvv i hi; simpa [List.getD_eq_getElem?_getD, Array.getD_eq_getD_getElem?] using this) hc h1
        exact ⟨v, by simpa [Instr.loadAt, Instr.sureAddr] using hv1, hv2.fz⟩

/-! ### Lengths, the greater, the lesser -/
def lenV (H : Env) (t : TypeId) (x : V) : Option (Prop × V) := match H.get t with
  | some i => match i.k with
    | .str => match x with
      | .flat (.string s) => some (True, .flat (.int .i64 s.size))
      | _ => none
    | .sl _ => match x with
      | .sl _ _ n _ => some (True, .flat (.int .i64 n))
      | .nil => some (True, .flat (.int .i64 0))
      | .bs _ _ n _ => some (True, .flat (.int .i64 n))
      | _ => none
    | .arr n _ => some (True, .flat (.int .i64 n))
    | _ => none
  | none => none
theorem lenV_gives (hH : EnvOk P H) (t ty : TypeId) (ts : Array TypeId) (e : ts[0]? = some t) {x : V} {a : Value} (hx : VR g w x a) : Gives P g w (Builtin.len_ ts ty #[a]) (lenV H t x) := by
  unfold lenV
  cases hi : H.get t with
  | none => exact Gives.none
  | some i =>
    have hT := hH.tells hi
    simp only []
    split <;> try exact Gives.none
    · rename_i hk
      have hu := hT.und_str hk
      split <;> try exact Gives.none
      cases hx
      exact Gives.some_ (fun _ => ⟨.int .i64 _, by simp [Builtin.len_, e, run_underlying' hu, goInt], .flat _ rfl⟩)
    · rename_i e' hk
      have hu := hT.und_sl hk
      cases hx <;> simp only [] <;> try exact Gives.none
      all_goals exact Gives.some_ (fun _ => ⟨.int .i64 _, by simp [Builtin.len_, e, run_underlying' hu, goInt], .flat _ rfl⟩)
    · rename_i n e' hk
      have hu := hT.und_arr hk
      exact Gives.some_ (fun _ => ⟨.int .i64 _, by simp [Builtin.len_, e, run_underlying' hu, goInt], .flat _ rfl⟩)

def mxV (x y : V) : Option (Prop × V) := match x, y with
  | .flat (.int k a), .flat (.int _ b) => some (True, .flat (.int k (if b > a then b else a)))
  | _, _ => none
def mnV (x y : V) : Option (Prop × V) := match x, y with
  | .flat (.int k a), .flat (.int _ b) => some (True, .flat (.int k (if b < a then b else a)))
  | _, _ => none
theorem mxV_gives (ts : Array TypeId) (ty : TypeId) {x y : V} {a b : Value} (hx : VR g w x a) (hy : VR g w y b) : Gives P g w (Builtin.max_ ts ty #[a, b]) (mxV x y) := by
  unfold mxV
  split <;> try exact Gives.none
  cases hx; cases hy
  exact Gives.some_ (fun _ => ⟨_, by simp [Builtin.max_, Builtin.max2], .flat _ rfl⟩)
theorem mnV_gives (ts : Array TypeId) (ty : TypeId) {x y : V} {a b : Value} (hx : VR g w x a) (hy : VR g w y b) : Gives P g w (Builtin.min_ ts ty #[a, b]) (mnV x y) := by
  unfold mnV
  split <;> try exact Gives.none
  cases hx; cases hy
  exact Gives.some_ (fun _ => ⟨_, by simp [Builtin.min_, Builtin.min2], .flat _ rfl⟩)

end Go.VL
