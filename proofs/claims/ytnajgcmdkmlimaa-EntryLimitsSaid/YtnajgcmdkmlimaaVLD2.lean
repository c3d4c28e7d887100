/- Part VLD2 of the proof: made for this claim. -/
import Derived.Test.YtnajgcmdkmlimaaVLD1
/-! VL: regions that draw their order, memory and all. Part 2: each kind of operation. -/
set_option linter.unusedVariables false
set_option linter.unusedSimpArgs false
open Go.RowKit
namespace Go.VL
variable {P : Program} {E : Entry} {w : World} {C : Cfg} {ops : List Oper}

theorem lk_mapL (s : Nat → V) (i : Nat) : ∀ l : List Nat, lk (l.map fun j => (j, s j)) i = if i ∈ l then s i else .unk
  | [] => rfl
  | j :: l => by
    simp only [List.map_cons, lk, lk_mapL s i l, List.mem_cons]
    by_cases h : j = i
    · subst h; simp
    · simp [h, Ne.symm h]

theorem AtB.toS {nt : Nat} {s : Nat → V} {M : Mem} {n : Nat} {a : Act} {w : World} (h : AtB E nt s M n a w) : ∃ σ : S, lk σ.sl = s ∧ σ.mem = M ∧ σ.mn = n ∧ At E nt σ a w := by
  obtain ⟨⟨g, ob, h1, h2, h3, h4⟩, hb⟩ := h
  have e : lk ((List.range nt).map fun j => (j, s j)) = s := by
    funext i
    rw [lk_mapL]
    by_cases hi : i < nt
    · rw [if_pos (by simpa using hi)]
    · rw [if_neg (by simpa using hi), hb i (by omega)]
  exact ⟨⟨(List.range nt).map fun j => (j, s j), M, n⟩, e, rfl, rfl, g, ob, by rw [e]; exact h1, h2, h3, h4⟩

theorem putS_big {nt : Nat} {s : Nat → V} {d : Option Nat} {x : V} (hb : ∀ t, nt ≤ t → s t = .unk) (hd : ∀ e, d = some e → e < nt) : ∀ t, nt ≤ t → putS s d x t = .unk := fun t ht => by
  unfold putS
  cases d with
  | none => exact hb t ht
  | some e => simp only; rw [upd_ne]; · exact hb t ht
              have := hd e rfl; omega

theorem dst_lt (hdst : dstOk C.nt ops = true) {i : Nat} {o : Oper} (ho : ops[i]? = some o) (d : Nat) (hd : o.dst = some d) : d < C.nt := by
  refine dstOk_any hdst d ?_
  rw [List.any_eq_true]
  exact ⟨o, List.mem_of_getElem? ho, by rw [hd]; simp⟩

theorem dem_big {nt : Nat} {s : Nat → V} {dm : List Nat} (hb : ∀ t, nt ≤ t → s t = .unk) : ∀ t, nt ≤ t → dem s dm t = .unk := fun t ht => by
  unfold dem
  rw [hb t ht]
  split <;> rfl
theorem Does.of_step (hdst : dstOk C.nt ops = true) {o : Oper} {s : Nat → V} {M M' : Mem} {n n' : Nat} {x : V} {dm : List Nat} (hw : wantedV ops s o = some true)
    (h : ∀ σ : S, (∀ y ∈ o.op.operands, evO (lk σ.sl) C.gl y = evO s C.gl y) → σ.mem = M → σ.mn = n → (∀ d, o.dst = some d → d < C.nt) →
      ∃ σ', StepTo P E C.nt o σ σ' ∧ ∀ a w, At E C.nt σ' a w → AtF E C.nt (putD (lk σ.sl) dm o.dst x) M' n' a w) : Does P E C ops o s M n x M' n' dm := by
  intro s2 h2 i ho K' Q a w hA hK
  obtain ⟨σ, e1, e2, e3, hAt⟩ := hA.toS
  obtain ⟨σ', hs, hto⟩ := h σ (by rw [e1]; exact evO_congr (gl := C.gl) h2) e2 e3 (dst_lt hdst ho)
  have ho' : ops.toArray[i]? = some o := by simpa using ho
  obtain ⟨⟨g, ob, h1, hn, h3, h4⟩, hb⟩ := hA
  unfold wpOp
  rw [ho']
  simp only
  rw [wantedV_rel h1.slot h4 (by rw [wantedV_congr h2]; exact hw) (dstOk_any hdst), if_pos rfl]
  left
  rcases hs a w hAt with ⟨v, w', r1, r2⟩ | ⟨w', r1, r2⟩
  · simp only [Oper.wp, r1, Oper.upon]
    refine hK _ _ ⟨?_, putS_big (dem_big hb) (dst_lt hdst ho)⟩
    have := hto _ _ r2
    rw [e1] at this; exact this
  · simp only [Oper.wp, r1, Oper.upon]
    refine hK _ _ ⟨?_, putS_big (dem_big hb) (dst_lt hdst ho)⟩
    have := hto _ _ r2
    rw [e1] at this; exact this

theorem Does.of_step0 (hdst : dstOk C.nt ops = true) {o : Oper} {s : Nat → V} {M M' : Mem} {n n' : Nat} {x : V} (hw : wantedV ops s o = some true)
    (h : ∀ σ : S, (∀ y ∈ o.op.operands, evO (lk σ.sl) C.gl y = evO s C.gl y) → σ.mem = M → σ.mn = n → (∀ d, o.dst = some d → d < C.nt) →
      ∃ σ', StepTo P E C.nt o σ σ' ∧ ∀ a w, At E C.nt σ' a w → AtF E C.nt (putS (lk σ.sl) o.dst x) M' n' a w) : Does P E C ops o s M n x M' n' [] :=
  Does.of_step hdst hw (fun σ a b c d => by
    obtain ⟨σ', h1, h2⟩ := h σ a b c d
    exact ⟨σ', h1, fun a w hA => by rw [putD_nil]; exact h2 a w hA⟩)

/-- What is not wanted is left out. -/
theorem Does.skip (hdst : dstOk C.nt ops = true) {o : Oper} {s : Nat → V} {M : Mem} {n : Nat} (hw : wantedV ops s o = some false) : Does P E C ops o s M n (.tup []) M n [] := by
  intro s2 h2 i ho K' Q a w hA hK
  have ho' : ops.toArray[i]? = some o := by simpa using ho
  obtain ⟨⟨g, ob, h1, hn, h3, h4⟩, hb⟩ := hA
  unfold wpOp
  rw [ho']
  simp only
  rw [wantedV_rel h1.slot h4 (by rw [wantedV_congr h2]; exact hw) (dstOk_any hdst), if_neg (by simp)]
  refine hK _ _ ⟨?_, putS_big (dem_big hb) (dst_lt hdst ho)⟩
  rw [putD_nil]
  cases hd : o.dst with
  | none => exact ⟨g, ob, by simpa [Act.put, putS] using h1, hn, by simpa [Act.put] using h3, by simpa [Act.put] using h4⟩
  | some d =>
    rw [put_some]
    exact ⟨g, ob, h1.put (by rw [h4]; exact dst_lt hdst ho d hd) (fun _ => .tup [] #[] rfl (fun i hi => by simp at hi)) (fun j sz n cs k => by simp [comp] at k), hn, h3, by simpa using h4⟩

theorem evC_congr {s s' : Nat → V} {M : Mem} (op : Op) (h : ∀ y ∈ op.operands, evO s' C.gl y = evO s C.gl y) : evC C.H C.L M (evO s' C.gl) op = evC C.H C.L M (evO s C.gl) op := by
  unfold evC
  rw [ev1_congr op h]

theorem At.toF {σ : S} {a : Act} {w : World} (h : At E C.nt σ a w) : AtF E C.nt (lk σ.sl) σ.mem σ.mn a w := h

/-- Operations that compute. -/
theorem Does.ev (hH : EnvOk P C.H) (hL : LEnvOk P C.L) (hG : GlOk E.g0 E.w0 C.gl) (hdst : dstOk C.nt ops = true) {o : Oper} {d : Nat} {s : Nat → V} {M : Mem} {n : Nat} {x : V} {c : Prop} (hd : o.dst = some d) (hw : wantedV ops s o = some true)
    (he : evC C.H C.L M (evO s C.gl) o.op = some (c, x)) (hc : c) : Does P E C ops o s M n x M n [] := by
  refine Does.of_step0 hdst hw (fun σ hσ e1 e2 hlt => ⟨σ.set d x, ?_, fun a w hA => ?_⟩)
  · exact step_evC hH hL hG hd (hlt d hd) (by rw [e1, evC_congr o.op hσ]; exact he) hc
  · have := hA.toF
    rw [S.set, lk_cons] at this
    rw [hd]
    simp only [e1, e2] at this
    exact this

theorem ldV_sub {H : Env} {t : TypeId} {x : V} {M : Mem} {r : Prop × V} (h : ldV H (fun _ => none) t x = some r) : ldV H M t x = some r := by
  unfold ldV at *
  split at h <;> try cases h
  rename_i j hj
  split at h <;> try cases h
  rename_i hb
  rw [if_pos hb]
  split at h <;> try cases h
  rfl
theorem cvM_sub {H : Env} {t u : TypeId} {x : V} {M : Mem} {r : Prop × V} (h : cvM H (fun _ => none) t u x = some r) : cvM H M t u x = some r := by
  unfold cvM at *
  split at h
  · cases h
  · exact h
theorem ev1_sub {H : Env} {L : LEnv} {M : Mem} {ρ : Operand → V} {op : Op} {r : Prop × V} (h : ev1 H L (fun _ => none) ρ op = some r) : ev1 H L M ρ op = some r := by
  cases op
  case load t x => exact ldV_sub h
  case convert t u x => exact cvM_sub h
  case slice t x lo hi mx => cases mx <;> exact h
  all_goals exact h
theorem evC_sub {H : Env} {L : LEnv} {M : Mem} {ρ : Operand → V} {op : Op} {r : Prop × V} (h : evC H L (fun _ => none) ρ op = some r) : evC H L M ρ op = some r := by
  unfold evC at *
  split at h <;> try cases h
  rename_i c x he
  rw [ev1_sub he]

/-- The box that an operation looks into. -/
def boxOf (ρ : Operand → V) (op : Op) : List Nat := match op with
  | .load _ x => match ρ x with
    | .bp b _ => [b]
    | _ => []
  | .convert _ _ x => match ρ x with
    | .bs b _ _ _ => [b]
    | _ => []
  | _ => []
theorem ev1_agree {H : Env} {L : LEnv} {M M2 : Mem} {ρ : Operand → V} {op : Op} (h : Agree M2 M (boxOf ρ op)) : ev1 H L M2 ρ op = ev1 H L M ρ op := by
  cases op
  case load t x =>
    simp only [ev1]
    simp only [boxOf] at h
    unfold ldV
    split <;> try rfl
    split <;> try rfl
    split <;> try rfl
    rename_i b off hx
    rw [hx] at h
    rw [h b (by simp)]
  case convert t u x =>
    simp only [ev1]
    simp only [boxOf] at h
    unfold cvM
    split <;> try rfl
    rename_i b off n cap hx
    rw [hx] at h
    rw [h b (by simp)]
  case slice t x lo hi mx => cases mx <;> rfl
  all_goals rfl
theorem evC_agree {H : Env} {L : LEnv} {M M2 : Mem} {ρ : Operand → V} {op : Op} (h : Agree M2 M (boxOf ρ op)) : evC H L M2 ρ op = evC H L M ρ op := by
  unfold evC
  rw [ev1_agree h]

/-- A slot that owns does so no more. -/
theorem AtF.freeze {nt : Nat} {s : Nat → V} {M : Mem} {n : Nat} {a : Act} {w : World} {d sz m : Nat} {cs : List V} (h : AtF E nt (upd s d (.sl true sz m cs)) M n a w) : AtF E nt (upd s d (.sl false sz m cs)) M n a w := by
  obtain ⟨g, ob, h1, h2⟩ := h
  obtain ⟨_, ob', _, _, _, _, h3, _⟩ := h1.release (i := d) (upd_same _ _ _)
  rw [upd_upd] at h3
  exact ⟨g, ob', h3, h2⟩

/-- New rows. -/
noncomputable def rowB (C : Cfg) (ρ : Operand → V) (op : Op) : Option (Prop × V) := match op with
  | .buildSlice t n ps => match C.H.get t with
    | some ti => match ti.k with
      | .sl e => match C.H.get e with
        | some i => match i.zok with
          | true => match fillV (fun k => some (k * i.sz, i.sz)) (rep n i.zero) ((ps.toList.map fun p => (p.1, ρ p.2)).map fun p => (p.1, p.2.fz)) with
            | some (c, r) => some (c ∧ n * i.sz ≤ 2 ^ 24 ∧ 0 < n * i.sz ∧ (∀ p ∈ (ps.toList.map fun p => (p.1, ρ p.2)), p.2 ≠ .unk) ∧ r.length = n * i.sz, .sl false i.sz n r)
            | none => none
          | false => none
        | none => none
      | _ => none
    | none => none
  | .convert u t y => match C.H.get t with
    | some ti => match ti.k with
      | .sl e => match ρ y with
        | .flat v => match v with
          | .string s => match C.H.get u with
            | some ui => match ui.k with
              | .str => match C.H.get e with
                | some ei => match ei.k with
                  | .int k => match k with
                    | .u8 => some (s.size ≤ maxLen, .sl false 1 s.size (bytesC s))
                    | _ => none
                  | _ => none
                | none => none
              | _ => none
            | none => none
          | _ => none
        | _ => none
      | _ => evC C.H C.L (fun _ => none) ρ op
    | none => none
  | .makeSlice t x y => match C.H.get t with
    | some ti => match ti.k with
      | .sl e => match C.H.get e with
        | some i => match i.zok with
          | true => match ρ x with
            | .flat v => match v with
              | .int _ n => match ρ y with
                | .flat u => match u with
                  | .int _ m => some (n = m ∧ 0 ≤ n ∧ n ≤ 9223372036854775807 ∧ i.bytes * n ≤ 281474976710656, .sl false i.sz n.toNat (rep n.toNat i.zero))
                  | _ => none
                | _ => none
              | _ => none
            | _ => none
          | false => none
        | none => none
      | _ => none
    | none => none
  | _ => evC C.H C.L (fun _ => none) ρ op

theorem Does.row (hH : EnvOk P C.H) (hL : LEnvOk P C.L) (hG : GlOk E.g0 E.w0 C.gl) (hdst : dstOk C.nt ops = true) {o : Oper} {d : Nat} {s : Nat → V} {x : V} {c : Prop} (hd : o.dst = some d) (hw : wantedV ops s o = some true)
    (he : rowB C (evO s C.gl) o.op = some (c, x)) (hc : c) (M : Mem) (n : Nat) : Does P E C ops o s M n x M n [] := by
  have plain : evC C.H C.L (fun _ => none) (evO s C.gl) o.op = some (c, x) → Does P E C ops o s M n x M n [] := fun h => Does.ev hH hL hG hdst hd hw (evC_sub h) hc
  unfold rowB at he
  split at he
  · rename_i t m ps hop
    split at he <;> try cases he
    rename_i ti ht
    split at he <;> try cases he
    rename_i e hte
    split at he <;> try cases he
    rename_i i hi
    split at he <;> try cases he
    rename_i hz
    split at he <;> cases he
    rename_i c' r hf
    obtain ⟨c1, c2, c3, c4, c5⟩ := hc
    refine Does.of_step0 hdst hw (fun σ hσ e1 e2 hlt => ⟨σ.set d (.sl true i.sz m r), ?_, fun a w hA => ?_⟩)
    · have hps : ∀ p ∈ ps.toList, evO (lk σ.sl) C.gl p.2 = evO s C.gl p.2 := fun p hp => hσ p.2 (by rw [hop]; simp only [Op.operands]; simp; exact ⟨p.1, by simpa using hp⟩)
      refine step_buildSlice hH hG hop hd (hlt d hd) ht hte hi hz c2 c3 (c := c') ?_ c1 (fun p hp => ?_) c5
      · rw [← hf, List.map_map]
        congr 1
        exact List.map_congr_left fun p hp => by simp [Function.comp, hps p hp]
      · rw [hps p hp]
        exact c4 (p.1, evO s C.gl p.2) (List.mem_map.2 ⟨p, hp, rfl⟩)
    · have := hA.toF
      rw [S.set, lk_cons] at this
      rw [hd]
      simp only [e1, e2] at this
      exact this.freeze
  · rename_i u t y hop
    split at he <;> try cases he
    rename_i ti ht
    split at he
    · rename_i e hte
      split at he <;> try cases he
      rename_i v hx
      split at he <;> try cases he
      rename_i str
      split at he <;> try cases he
      rename_i ui hu
      split at he <;> try cases he
      rename_i huk
      split at he <;> try cases he
      rename_i ei hei
      split at he <;> try cases he
      rename_i k hek
      split at he <;> cases he
      refine Does.of_step0 hdst hw (fun σ hσ e1 e2 hlt => ⟨σ.set d (.sl true 1 str.size (bytesC str)), ?_, fun a w hA => ?_⟩)
      · exact step_bytes hH hG hop hd (hlt d hd) hu huk ht hte hei hek (by rw [hσ y (by rw [hop]; simp [Op.operands])]; exact hx) hc
      · have := hA.toF
        rw [S.set, lk_cons] at this
        rw [hd]
        simp only [e1, e2] at this
        exact this.freeze
    · exact plain he
  · rename_i t x y hop
    split at he <;> try cases he
    rename_i ti ht
    split at he <;> try cases he
    rename_i e hte
    split at he <;> try cases he
    rename_i i hi
    split at he <;> try cases he
    rename_i hz
    split at he <;> try cases he
    rename_i v hx
    split at he <;> try cases he
    rename_i k1 n1
    split at he <;> try cases he
    rename_i u hy
    split at he <;> cases he
    obtain ⟨rfl, c1, c2, c3⟩ := hc
    refine Does.of_step0 hdst hw (fun σ hσ e1 e2 hlt => ⟨σ.set d (.sl true i.sz n1.toNat (rep n1.toNat i.zero)), ?_, fun a w hA => ?_⟩)
    · have ex := hσ x (by rw [hop]; simp [Op.operands])
      have ey := hσ y (by rw [hop]; simp [Op.operands])
      exact step_make hH hG hop hd (hlt d hd) ht hte hi hz (ex.trans hx) (ey.trans hy) c1 c2 c3
    · have := hA.toF
      rw [S.set, lk_cons] at this
      rw [hd]
      simp only [e1, e2] at this
      exact this.freeze
  · exact plain he

/-- Calls. -/
theorem Does.call (hdst : dstOk C.nt ops = true) (hG : GlOk E.g0 E.w0 C.gl) {o : Oper} {d : Nat} {s : Nat → V} {M M' : Mem} {n : Nat} {x : V} {f : FuncId} {xs : Array Operand} {ats : Array TypeId} (hd : o.dst = some d) (hw : wantedV ops s o = some true)
    (hop : o.op = .call { callee := .value (.func f), args := xs, argTypes := ats }) (hkn : ∀ y ∈ xs.toList, (evO s C.gl y).fz.known = true) {args : List V} (hargs : args = xs.toList.map fun y => (evO s C.gl y).fz)
    (hsp : Sp P C.gl f args M n (fun r m k => r = x ∧ m = M' ∧ k = n)) : Does P E C ops o s M n x M' n [] := by
  intro s2 h2 i ho K' Q a w hA hK
  have ho' : ops.toArray[i]? = some o := by simpa using ho
  obtain ⟨⟨g, ob, h1, hn, h3, h4⟩, hb⟩ := hA
  have hdl := dst_lt hdst ho d hd
  have hs2 : ∀ y ∈ xs.toList, evO s2 C.gl y = evO s C.gl y := fun y hy => evO_congr (gl := C.gl) h2 y (by rw [hop]; simp only [Op.operands, Call.operands]; simp at hy; simp [hy])
  unfold wpOp
  rw [ho']
  simp only
  rw [wantedV_rel h1.slot h4 (by rw [wantedV_congr h2]; exact hw) (dstOk_any hdst), if_pos rfl]
  left
  obtain ⟨⟨fn, hf, hnm, hbd⟩, hcall⟩ := hsp
  have hrun : (execOp a.eval o).run P w = .ok (.enter f (#[] ++ xs.map a.eval ++ #[])) w := by
    obtain ⟨dst, op, ty, pos, after, guard⟩ := o
    simp only at hop
    subst hop
    exact run_callFunc hf hnm hbd _
  simp only [Oper.wp, hrun, Oper.upon, Array.empty_append, Array.append_empty]
  have hc := hcall g (cellsOnly ob) w (xs.map a.eval) hn (hG.onto h1.onto) (by rw [hargs]; simp) (fun i hi => by
    rw [hargs] at hi ⊢
    simp only [List.length_map, Array.length_toList] at hi
    have e1 : (xs.toList.map fun x => (evO s C.gl x).fz).getD i .unk = (evO s2 C.gl xs[i]).fz := by
      rw [hs2 xs[i] (by simp)]
      simp [List.getD_eq_getElem?_getD, Array.getElem?_eq_getElem hi]
    have e2 : (xs.map a.eval).getD i undef = a.eval xs[i] := by simp [Array.getD_eq_getD_getElem?, Array.getElem?_eq_getElem hi]
    rw [e1, e2]
    have hne : evO s2 C.gl xs[i] ≠ .unk := by
      intro hu
      have := hkn xs[i] (by simp)
      rw [← hs2 xs[i] (by simp), hu] at this
      cases this
    exact (evO_rel (d := a.defers) h1.slot (hG.onto h1.onto) xs[i] hne).fz) (fun i j => rfl) h1.handOver
  refine hc.mono ?_
  rintro e w' ⟨v, r, mem', g', ob', rfl, ⟨rfl, rfl, hmn⟩, hru, hst⟩
  simp only
  refine hK _ _ ⟨?_, putS_big (dem_big hb) (dst_lt hdst ho)⟩
  rw [putD_nil, hd, put_some]
  exact ⟨g', joinOb ob ob' d, h1.comeBack hst (by rw [h4]; exact hdl) hru, hmn, h3, by simpa using h4⟩

/-- A library function for which the model stands in: it only computes. -/
structure SpX (P : Program) (f : FuncId) (args : List V) (M : Mem) (r : V) : Prop where
  known : ∀ x ∈ args, x.known = true
  run : ∀ (g : G) (w : World) (vs : Array Value), BoxesAt g w M → vs.size = args.length → (∀ i, i < args.length → VR g w (args.getD i .unk) (vs.getD i undef)) → ∃ v, (callFunc f vs).run P w = .ok (.value v) w ∧ VR g w r v
  free : r.noOwn

theorem SpX.step (hG : GlOk E.g0 E.w0 C.gl) {o : Oper} {σ : S} {d : Nat} {f : FuncId} {xs : Array Operand} {ats : Array TypeId} {r : V} (hd : o.dst = some d) (hlt : d < C.nt) (hop : o.op = .call { callee := .value (.func f), args := xs, argTypes := ats })
    {args : List V} (hargs : args = xs.toList.map fun y => (evO (lk σ.sl) C.gl y).fz) (hs : SpX P f args σ.mem r) : StepTo P E C.nt o σ (σ.set d r) := by
  rintro a w ⟨g, ob, h1, h2, h3, h4⟩
  obtain ⟨v, r1, r2⟩ := hs.run g w (xs.map a.eval) h1.box (by rw [hargs]; simp) (fun i hi => by
    have hkn := hs.known
    rw [hargs] at hi hkn ⊢
    simp only [List.length_map, Array.length_toList] at hi
    have e1 : (xs.toList.map fun x => (evO (lk σ.sl) C.gl x).fz).getD i .unk = (evO (lk σ.sl) C.gl xs[i]).fz := by
      simp [List.getD_eq_getElem?_getD, Array.getElem?_eq_getElem hi]
    have e2 : (xs.map a.eval).getD i undef = a.eval xs[i] := by simp [Array.getD_eq_getD_getElem?, Array.getElem?_eq_getElem hi]
    rw [e1, e2]
    have hne : evO (lk σ.sl) C.gl xs[i] ≠ .unk := by
      intro hu
      have := hkn _ (List.mem_map.2 ⟨xs[i], by simp, rfl⟩)
      rw [hu] at this
      cases this
    exact (evO_rel (d := a.defers) h1.slot (hG.onto h1.onto) xs[i] hne).fz)
  refine .inl ⟨v, w, ?_, ?_⟩
  · obtain ⟨dst, op, ty, pos, after, guard⟩ := o
    simp only at hop
    subst hop
    have : (callFunc f (#[] ++ xs.map a.eval ++ #[])).run P w = .ok (.value v) w := by simpa using r1
    exact this
  · rw [hd, put_some]
    refine ⟨g, ob, ?_, h2, h3, by simpa using h4⟩
    rw [S.set, lk_cons]
    exact h1.put (by omega) (fun _ => r2) hs.free

theorem CallG.ext {Θ : Ctx P E C} {o : Oper} {rest : List Oper} {d : Nat} {f : FuncId} {args : List V} {σ : S} {K : S → Prop} {r : V} (hs : SpX P f args σ.mem r) (h : WR Θ rest (σ.set d r) K) : CallG Θ o rest d f args σ K := by
  intro hd hw hst k hk'
  obtain ⟨k1, k2⟩ := drop_cons hk'
  obtain ⟨xs, ats, hop, hargs⟩ := stepV_call hd hst
  exact WL.step Θ.dst k1 hw (SpX.step Θ.G hd (dst_lt Θ.dst k1 d hd) hop hargs hs) (h (k + 1) k2)

theorem Does.ext (hdst : dstOk C.nt ops = true) (hG : GlOk E.g0 E.w0 C.gl) {o : Oper} {d : Nat} {s : Nat → V} {M : Mem} {n : Nat} {x : V} {f : FuncId} {xs : Array Operand} {ats : Array TypeId} (hd : o.dst = some d) (hw : wantedV ops s o = some true)
    (hop : o.op = .call { callee := .value (.func f), args := xs, argTypes := ats }) {args : List V} (hargs : args = xs.toList.map fun y => (evO s C.gl y).fz) (hs : SpX P f args M x) : Does P E C ops o s M n x M n [] := by
  refine Does.of_step0 hdst hw (fun σ hσ e1 e2 hlt => ⟨σ.set d x, ?_, fun a w hA => ?_⟩)
  · refine SpX.step hG hd (hlt d hd) hop ?_ (by rw [e1]; exact hs)
    rw [hargs]
    exact List.map_congr_left fun y hy => by rw [hσ y (by rw [hop]; simp only [Op.operands, Call.operands]; simp at hy; simp [hy])]
  · have := hA.toF
    rw [S.set, lk_cons] at this
    rw [hd]
    simp only [e1, e2] at this
    exact this

/-- Stores into boxes. -/
theorem Does.store (hH : EnvOk P C.H) (hG : GlOk E.g0 E.w0 C.gl) (hdst : dstOk C.nt ops = true) {o : Oper} {s : Nat → V} {M : Mem} {n : Nat} {t : TypeId} {ti : TyI} {x y : Operand} {b off : Nat} {cs : List V} (hop : o.op = .store t x y) (hd : o.dst = none) (hw : wantedV ops s o = some true)
    (ht : C.H.get t = some ti) (hx : evO s C.gl x = .bp b off) (hy : evO s C.gl y ≠ .unk) (hb : M b = some cs) (hsz : (evO s C.gl y).cells.length = ti.sz) (hle : off + ti.sz ≤ cs.length)
    (hone : ∀ z ∈ (evO s C.gl y).cells.map V.fz, noOwnB z = true ∧ oneB z = true) : Does P E C ops o s M n .unk (upd M b (some (putV cs off ((evO s C.gl y).cells.map V.fz)))) n [] := by
  refine Does.of_step0 hdst hw (fun σ hσ e1 e2 hlt => ⟨{ σ with mem := upd σ.mem b (some (putV cs off ((evO (lk σ.sl) C.gl y).cells.map V.fz))) }, ?_, fun a w hA => ?_⟩)
  · have ex := hσ x (by rw [hop]; simp [Op.operands])
    have ey := hσ y (by rw [hop]; simp [Op.operands])
    exact step_store hH hG hop hd ht (by rw [ex]; exact hx) (by rw [ey]; exact hy) (by rw [e1]; exact hb) (by rw [ey]; exact hsz) hle (by rw [ey]; exact hone)
  · have ey := hσ y (by rw [hop]; simp [Op.operands])
    have := hA.toF
    rw [hd]
    simp only [e1, e2, ey] at this
    exact this

/-- New boxes. -/
theorem Does.alloc (hH : EnvOk P C.H) (hdst : dstOk C.nt ops = true) {o : Oper} {d : Nat} {s : Nat → V} {M : Mem} {n : Nat} {t : TypeId} {i : TyI} (hop : o.op = .alloc t) (hd : o.dst = some d) (hw : wantedV ops s o = some true) (hi : C.H.get t = some i) (hz : i.zok = true) :
    Does P E C ops o s M n (.bp n 0) (upd M n (some i.zero)) (n + 1) [] := by
  refine Does.of_step0 hdst hw (fun σ hσ e1 e2 hlt => ⟨_, step_alloc hH hop hi hz hd (hlt d hd), fun a w hA => ?_⟩)
  have := hA.toF
  simp only [lk_cons] at this
  rw [hd]
  simp only [e1, e2] at this
  exact this
theorem Does.box (hH : EnvOk P C.H) (hG : GlOk E.g0 E.w0 C.gl) (hdst : dstOk C.nt ops = true) {o : Oper} {d : Nat} {s : Nat → V} {M : Mem} {n : Nat} {t : TypeId} {y : Operand} (hop : o.op = .box t y) (hd : o.dst = some d) (hw : wantedV ops s o = some true)
    (hk : evO s C.gl y ≠ .unk) (hno : ∀ x ∈ (evO s C.gl y).cells.map V.fz, noOwnB x = true) :
    Does P E C ops o s M n (.bp n 0) (upd M n (some ((evO s C.gl y).cells.map V.fz))) (n + 1) [] := by
  refine Does.of_step0 hdst hw (fun σ hσ e1 e2 hlt => ?_)
  have ey := hσ y (by rw [hop]; simp [Op.operands])
  refine ⟨_, step_box hH hG hop hd (hlt d hd) (by rw [ey]; exact hk) (by rw [ey]; exact hno), fun a w hA => ?_⟩
  have := hA.toF
  simp only [lk_cons] at this
  rw [hd]
  simp only [e1, e2, ey] at this
  exact this

theorem dem_one {s : Nat → V} {i sz m : Nat} {cs : List V} (h : s i = .sl true sz m cs) : dem s [i] = upd s i (.sl false sz m cs) := by
  funext t
  unfold dem upd
  by_cases q : t = i
  · subst q; simp [h, V.fz]
  · simp [q]

/-- A slice that is taken over. -/
theorem Does.take (hdst : dstOk C.nt ops = true) {o : Oper} {d i sz m : Nat} {s : Nat → V} {cs : List V} (hd : o.dst = some d) (hw : wantedV ops s o = some true) (hop : o.op = .assign (.tmp i) ∨ o.op = .move (.tmp i)) (hi : s i = .sl true sz m cs) (M : Mem) (n : Nat) :
    Does P E C ops o s M n (.sl true sz m cs) M n [i] := by
  refine Does.of_step hdst hw (fun σ hσ e1 e2 hlt => ?_)
  have hi' : lk σ.sl i = .sl true sz m cs := by
    have : evO (lk σ.sl) C.gl (.tmp i) = evO s C.gl (.tmp i) := hσ _ (by rcases hop with h | h <;> rw [h] <;> simp [Op.operands])
    exact this.trans hi
  refine ⟨_, step_take hop hd (hlt d hd) hi', fun a w hA => ?_⟩
  have := hA.toF
  simp only [lk_cons] at this
  rw [putD, dem_one hi', hd]
  simp only [e1, e2] at this
  exact this

/-- 'append' onto a slice that owns. -/
theorem Does.app (hH : EnvOk P C.H) (hG : GlOk E.g0 E.w0 C.gl) (hdst : dstOk C.nt ops = true) {o : Oper} {d i m k : Nat} {s : Nat → V} {cs xs : List V} {t xt e : TypeId} {ti ei xi : TyI} {y : Operand} {c : Prop} (hop : o.op = .call { callee := .builtin .append, args := #[.tmp i, y], argTypes := #[t, xt] }) (hd : o.dst = some d) (hw : wantedV ops s o = some true)
    (ht : C.H.get t = some ti) (hte : ti.k = .sl e) (he : C.H.get e = some ei) (hxt : C.H.get xt = some xi) (c2 : notIntT xi = true) (c3 : ei.zok = true) (hi : s i = .sl true ei.sz m cs) (hs : srcV (fun _ => none) ei.sz (evO s C.gl y) = some (c, k, xs)) (c1 : c)
    (c5 : cs.length = m * ei.sz) (c6 : ∀ z ∈ xs, oneB z = true) (c7 : m + k ≤ maxLen) (c8 : (m + k) * ei.bytes ≤ 140737488355328) (M : Mem) (n : Nat) :
    Does P E C ops o s M n (.sl true ei.sz (m + k) (cs ++ xs)) M n [i] := by
  refine Does.of_step hdst hw (fun σ hσ e1 e2 hlt => ?_)
  have hi' : lk σ.sl i = .sl true ei.sz m cs := by
    have : evO (lk σ.sl) C.gl (.tmp i) = evO s C.gl (.tmp i) := hσ _ (by rw [hop]; simp [Op.operands, Call.operands])
    exact this.trans hi
  have hy : evO (lk σ.sl) C.gl y = evO s C.gl y := hσ _ (by rw [hop]; simp [Op.operands, Call.operands])
  have hs' : srcV σ.mem ei.sz (evO (lk σ.sl) C.gl y) = some (c, k, xs) := by
    rw [hy]
    unfold srcV at hs ⊢
    split at hs <;> first | exact hs | (cases hs; done)
  refine ⟨_, step_append hH hG hop hd (hlt d hd) ht hte he hxt c2 c3 hi' hs' c1 c5 c6 c7 c8, fun a w hA => ?_⟩
  have := hA.toF
  simp only [lk_cons] at this
  rw [putD, dem_one hi', hd]
  simp only [e1, e2] at this
  exact this

end Go.VL
