/- Part VL23 of the proof: made for this claim. -/
import Derived.Test.YtnajgcmdkmlimaaVL22
import Derived.Still
/-! VL part 23: regions that draw their order, whose operations only compute or call what leaves the memory alone. -/
set_option linter.unusedVariables false
set_option linter.unusedSimpArgs false
open Go.RowKit
namespace Go.VL
variable {P : Program} {E : Entry} {w : World} {C : Cfg} {ops : List Oper} {mem : Nat → Option (List V)} {mn : Nat}

theorem upd_comm {s : Nat → V} {d e : Nat} {x y : V} (h : d ≠ e) : upd (upd s d x) e y = upd (upd s e y) d x := by
  funext i
  unfold upd
  by_cases h1 : i = d <;> by_cases h2 : i = e <;> simp_all

def looks (ops : List Oper) (o : Oper) (t : Nat) : Prop := t ∈ o.looksAt ops.toArray

/-- What an operation yields, whatever else stands around. -/
def YA (P : Program) (C : Cfg) (mem : Nat → Option (List V)) (mn : Nat) (s : Nat → V) (o : Oper) (x : V) : Prop :=
  (∃ c, evC C.H C.L mem (evO s C.gl) o.op = some (c, x) ∧ c) ∨
  (∃ f xs ats, o.op = .call { callee := .value (.func f), args := xs, argTypes := ats } ∧ (∀ y ∈ xs.toList, (evO s C.gl y).fz.known = true) ∧
    Sp P C.gl f (xs.toList.map fun y => (evO s C.gl y).fz) mem mn (fun r m k => r = x ∧ m = mem ∧ k = mn))
def YW (P : Program) (C : Cfg) (ops : List Oper) (mem : Nat → Option (List V)) (mn : Nat) (s : Nat → V) (o : Oper) (x : V) : Prop :=
  (wantedV ops s o = some true ∧ YA P C mem mn s o x) ∨ (wantedV ops s o = some false ∧ x = .tup [])

theorem ev1_congr {H : Env} {L : LEnv} {ρ ρ' : Operand → V} (op : Op) (h : ∀ x ∈ op.operands, ρ x = ρ' x) : ev1 H L mem ρ op = ev1 H L mem ρ' op := by
  have pairs : ∀ ps : Array (Nat × Operand), (∀ x ∈ ps.map (·.2), ρ x = ρ' x) → (ps.toList.map fun p => (p.1, ρ p.2)) = (ps.toList.map fun p => (p.1, ρ' p.2)) := fun ps hp =>
    List.map_congr_left fun p hm => by rw [hp p.2 (Array.mem_map.2 ⟨p, by simpa using hm, rfl⟩)]
  cases op <;> simp only [Op.operands] at h <;> simp only [ev1]
  case build t ps => rw [pairs ps fun x hx => h x (by simpa using hx)]
  case call c =>
    have hargs : c.args.toList.map ρ = c.args.toList.map ρ' := List.map_congr_left fun x hx => h x (by simp only [Call.operands, Array.mem_append]; simp at hx; first | exact .inl (by simpa using hx) | exact .inr hx | simp [hx])
    rw [hargs]
  case slice t x lo hi mx => cases lo <;> cases hi <;> cases mx <;> simp_all
  all_goals (first | rfl | (simp_all; done))

theorem evO_congr {s s' : Nat → V} {gl : Nat → Option (List V)} {o : Oper} (h : ∀ t, looks ops o t → s' t = s t) : ∀ x ∈ o.op.operands, evO s' gl x = evO s gl x := fun x hx => by
  cases x with
  | tmp t => exact h t (List.mem_append_left _ (List.mem_filterMap.2 ⟨.tmp t, by simpa using hx, rfl⟩))
  | _ => rfl

theorem wantedV_congr {s s' : Nat → V} {o : Oper} (h : ∀ t, looks ops o t → s' t = s t) : wantedV ops s' o = wantedV ops s o := by
  unfold wantedV
  cases hg : o.guard with
  | none => rfl
  | some jw =>
    obtain ⟨j, want⟩ := jw
    simp only
    cases hd : (ops[j]?).bind (·.dst) with
    | none => rfl
    | some d =>
      simp only
      rw [h d (by unfold looks Oper.looksAt; refine List.mem_append_right _ ?_; rw [hg]; simp [hd])]

theorem YW.congr {s s' : Nat → V} {o : Oper} {x : V} (h : ∀ t, looks ops o t → s' t = s t) (hy : YW P C ops mem mn s o x) : YW P C ops mem mn s' o x := by
  have he := evO_congr (gl := C.gl) h
  unfold YW at *
  rw [wantedV_congr h]
  rcases hy with ⟨h1, h2⟩ | h2
  · refine .inl ⟨h1, ?_⟩
    rcases h2 with ⟨c, h3, h4⟩ | ⟨f, xs, ats, h3, h4, h5⟩
    · refine .inl ⟨c, ?_, h4⟩
      unfold evC at *
      rw [ev1_congr o.op he]; exact h3
    · refine .inr ⟨f, xs, ats, h3, ?_, ?_⟩
      · intro y hy
        rw [he y (by rw [h3]; simp only [Op.operands, Call.operands]; simp at hy; simp [hy])]; exact h4 y hy
      · have : (xs.toList.map fun y => (evO s' C.gl y).fz) = xs.toList.map fun y => (evO s C.gl y).fz := List.map_congr_left fun y hy => by
          rw [he y (by rw [h3]; simp only [Op.operands, Call.operands]; simp at hy; simp [hy])]
        rw [this]; exact h5
  · exact .inr h2

/-- Operation number i comes up. -/
def qA (P : Program) (C : Cfg) (ops : List Oper) (mem : Nat → Option (List V)) (mn : Nat) (i : Nat) (K : (Nat → V) → Prop) (s : Nat → V) : Prop :=
  ∀ o, ops[i]? = some o → ∃ d x, o.dst = some d ∧ YW P C ops mem mn s o x ∧ K (upd s d x)
def anyA (P : Program) (C : Cfg) (ops : List Oper) (mem : Nat → Option (List V)) (mn : Nat) (K : (Nat → V) → Prop) : Nat → Array Bool → (Nat → V) → Prop
  | 0, listed, s => Region.ready .any ops.toArray listed = [] ∧ K s
  | fuel + 1, listed, s => (Region.ready .any ops.toArray listed = [] → K s) ∧ ∀ i ∈ Region.ready .any ops.toArray listed, qA P C ops mem mn i (anyA P C ops mem mn K fuel (listed.setIfInBounds i true)) s

theorem qA_put {i j : Nat} {oi oj : Oper} {di : Nat} {x : V} (hdi : oi.dst = some di) (hj : ops[j]? = some oj) (hap : oi.apart ops.toArray oj = true) {K : (Nat → V) → Prop} {s : Nat → V}
    (hy : YW P C ops mem mn s oi x) (h : qA P C ops mem mn j K (upd s di x)) : qA P C ops mem mn j (fun s' => YW P C ops mem mn s' oi x ∧ K (upd s' di x)) s := by
  obtain ⟨h1, h2, h3⟩ := Oper.apart_spec hap
  intro o ho
  rw [hj] at ho; cases ho
  obtain ⟨d, y, k1, k2, k3⟩ := h oj hj
  have hne : di ≠ d := fun e => h2 di hdi (by rw [k1, e])
  refine ⟨d, y, k1, k2.congr (fun t ht => ?_), hy.congr (fun t ht => ?_), ?_⟩
  · rw [upd_ne]; intro e; exact h1 di hdi (e ▸ ht)
  · rw [upd_ne]; intro e; exact h3 d k1 (e ▸ ht)
  · rw [← upd_comm hne]; exact k3

theorem qA_mono {i : Nat} {K K' : (Nat → V) → Prop} {s : Nat → V} (h : ∀ s, K s → K' s) (hq : qA P C ops mem mn i K s) : qA P C ops mem mn i K' s := fun o ho => by
  obtain ⟨d, x, h1, h2, h3⟩ := hq o ho
  exact ⟨d, x, h1, h2, h _ h3⟩

theorem anyA_first {K : (Nat → V) → Prop} {i : Nat} {oi : Oper} {di : Nat} {x : V} (hi : ops[i]? = some oi) (hdi : oi.dst = some di) :
    ∀ (fuel : Nat) (listed : Array Bool) (s : Nat → V),
      (∀ j oj, ops[j]? = some oj → j ≠ i → listed.getD j true = false → (∀ e ∈ oj.after, Region.binds .any e = true → e.on ≠ i) → oi.apart ops.toArray oj = true) →
      i ∈ Region.ready .any ops.toArray listed → YW P C ops mem mn s oi x →
      anyA P C ops mem mn K fuel (listed.setIfInBounds i true) (upd s di x) → anyA P C ops mem mn K (fuel + 1) listed s
  | 0, listed, s, _, hr, hy, hn => by
    refine ⟨fun h => (by rw [h] at hr; cases hr), fun j hj => ?_⟩
    by_cases e : j = i
    · subst e
      intro o ho; rw [hi] at ho; cases ho
      exact ⟨di, x, hdi, hy, hn⟩
    · have := ready_mono hj e
      rw [hn.1] at this; cases this
  | fuel + 1, listed, s, hfree, hr, hy, hn => by
    refine ⟨fun h => (by rw [h] at hr; cases hr), fun j hj => ?_⟩
    by_cases e : j = i
    · subst e
      intro o ho; rw [hi] at ho; cases ho
      exact ⟨di, x, hdi, hy, hn⟩
    · obtain ⟨hjun, oj, hoj', hall⟩ := mem_ready.1 hj
      have hoj : ops[j]? = some oj := by simpa using hoj'
      have hnot : ∀ e ∈ oj.after, Region.binds .any e = true → e.on ≠ i := fun e he hb heq => by
        have k1 := hall e he hb
        have k0 := (mem_ready.1 hr).1
        rw [heq] at k1
        rcases Nat.lt_or_ge i listed.size with h' | h'
        · simp [h'] at k0 k1; rw [k0] at k1; cases k1
        · simp [Array.getElem?_eq_none h'] at k1
      have h1 := qA_put (i := i) hdi hoj (hfree j oj hoj e hjun hnot) hy (hn.2 j (ready_mono hj e))
      refine qA_mono (fun s' k => ?_) h1
      refine anyA_first hi hdi fuel (listed.setIfInBounds j true) s' (fun k' ok hk hki hun hno => ?_) (ready_mono hr (Ne.symm e)) k.1 ?_
      · refine hfree k' ok hk hki ?_ hno
        by_cases hjk : j = k'
        · subst hjk; exact hjun
        · rw [getD_set_ne true hjk] at hun; exact hun
      · rw [Array.setIfInBounds_comm _ _ e]; exact k.2

/-- The operations in their own order. -/
def LA (P : Program) (C : Cfg) (ops : List Oper) (mem : Nat → Option (List V)) (mn : Nat) (K : (Nat → V) → Prop) : List Oper → (Nat → V) → Prop
  | [], s => K s
  | o :: l, s => ∃ d x, o.dst = some d ∧ YW P C ops mem mn s o x ∧ LA P C ops mem mn K l (upd s d x)

theorem anyA_lex {K : (Nat → V) → Prop} : ∀ (l : List Oper) (k : Nat) (listed : Array Bool) (s : Nat → V), (∀ j, l[j]? = ops[k + j]?) →
    Region.lexFrom .any ops.toArray l.length k listed = true → LA P C ops mem mn K l s → anyA P C ops mem mn K l.length listed s
  | [], _, _, _, _, hB, h => ⟨by simpa [Region.lexFrom] using hB, h⟩
  | o :: l, k, listed, s, hl, hB, h => by
    have h0 : ops[k]? = some o := by simpa using (hl 0).symm
    have h0' : ops.toArray[k]? = some o := by simpa using h0
    simp only [List.length_cons, Region.lexFrom, Bool.and_eq_true] at hB
    obtain ⟨⟨hr, hf⟩, hB'⟩ := hB
    obtain ⟨d, x, h1, h2, h3⟩ := h
    exact anyA_first h0 h1 l.length listed s (fun j oj hj => Region.free_spec h0' hf j oj (by simpa using hj)) (by simpa using hr) h2
      (anyA_lex l (k + 1) _ _ (fun j => by have := hl (j + 1); simpa [Nat.add_assoc, Nat.add_comm 1 j] using this) hB' h3)

/-! ### What it means -/
def AtF (E : Entry) (nt : Nat) (s : Nat → V) (mem : Nat → Option (List V)) (mn : Nat) (a : Act) (w : World) : Prop := ∃ g ob, St E g ob s mem a.tmps w ∧ g.mn = mn ∧ a.defers = [] ∧ a.tmps.size = nt

theorem qA_sound (hH : EnvOk P C.H) (hL : LEnvOk P C.L) (hG : GlOk E.g0 E.w0 C.gl) (hdst : dstOk C.nt ops = true) {i : Nat} {K : (Nat → V) → Prop} {K' : Act → World → Prop} {Q : Exit → Act → World → Prop}
    (hK : ∀ s a w, AtF E C.nt s mem mn a w → K s → K' a w) {s : Nat → V} {a : Act} {w : World} (hA : AtF E C.nt s mem mn a w) (hi : i < ops.length) (h : qA P C ops mem mn i K s) : wpOp P ops.toArray Q i K' a w := by
  obtain ⟨o, ho⟩ : ∃ o, ops[i]? = some o := ⟨_, List.getElem?_eq_getElem hi⟩
  obtain ⟨d, x, hd, hy, hk⟩ := h o ho
  have ho' : ops.toArray[i]? = some o := by simpa using ho
  obtain ⟨g, ob, h1, h2, h3, h4⟩ := hA
  have hdl : d < C.nt := by
    refine dstOk_any hdst d ?_
    rw [List.any_eq_true]
    exact ⟨o, List.mem_of_getElem? ho, by rw [hd]; simp⟩
  unfold wpOp
  rw [ho']
  simp only
  rcases hy with ⟨hw, hy⟩ | ⟨hw, rfl⟩
  · rw [wantedV_rel h1.slot h4 hw (dstOk_any hdst), if_pos rfl]
    left
    rcases hy with ⟨c, he, hc⟩ | ⟨f, xs, ats, hop, hkn, hsp⟩
    · have hg := hG.onto h1.onto
      unfold evC at he
      cases hev : ev1 C.H C.L mem (evO s C.gl) o.op with
      | none => rw [hev] at he; cases he
      | some p =>
        obtain ⟨c', x'⟩ := p
        rw [hev] at he
        simp only [Option.some.injEq, Prod.mk.injEq] at he
        obtain ⟨rfl, rfl⟩ := he
        obtain ⟨v, r1, r2⟩ := ev1_sound (g := g) (w := w) hH hL (mem := mem) h1.box (ρ := evO s C.gl) (σ := a.eval) (fun y hy => evO_rel (d := a.defers) h1.slot hg y hy) o hev hc
        simp only [Oper.wp, r1, Oper.upon]
        refine hK (upd s d x'.fzT) _ _ ?_ hk
        rw [hd, put_some]
        exact ⟨g, ob, h1.put (by rw [h4]; exact hdl) (fun _ => r2.fzT) (noOwn_fzT _), h2, h3, by simpa using h4⟩
    · obtain ⟨⟨fn, hf, hn, hb⟩, hcall⟩ := hsp
      have hrun : (execOp a.eval o).run P w = .ok (.enter f (#[] ++ xs.map a.eval ++ #[])) w := by
        obtain ⟨dst, op, ty, pos, after, guard⟩ := o
        simp only at hop
        subst hop
        exact run_callFunc hf hn hb _
      simp only [Oper.wp, hrun, Oper.upon, Array.empty_append, Array.append_empty]
      have hc := hcall g (cellsOnly ob) w (xs.map a.eval) h2 (hG.onto h1.onto) (by simp) (fun i hi => by
        simp only [List.length_map, Array.length_toList] at hi
        have e1 : (xs.toList.map fun x => (evO s C.gl x).fz).getD i .unk = (evO s C.gl xs[i]).fz := by simp [List.getD_eq_getElem?_getD, Array.getElem?_eq_getElem hi]
        have e2 : (xs.map a.eval).getD i undef = a.eval xs[i] := by simp [Array.getD_eq_getD_getElem?, Array.getElem?_eq_getElem hi]
        rw [e1, e2]
        have hne : evO s C.gl xs[i] ≠ .unk := by
          intro hu
          have := hkn xs[i] (by simp)
          rw [hu] at this
          cases this
        exact (evO_rel (d := a.defers) h1.slot (hG.onto h1.onto) xs[i] hne).fz) (fun i j => rfl) h1.handOver
      refine hc.mono ?_
      rintro e w' ⟨v, r, mem', g', ob', rfl, ⟨rfl, rfl, hmn⟩, hru, hst⟩
      simp only
      refine hK (upd s d r) _ _ ?_ hk
      rw [hd, put_some]
      exact ⟨g', joinOb ob ob' d, h1.comeBack hst (by rw [h4]; exact hdl) hru, hmn, h3, by simpa using h4⟩
  · rw [wantedV_rel h1.slot h4 hw (dstOk_any hdst), if_neg (by simp)]
    refine hK (upd s d (.tup [])) _ _ ?_ hk
    rw [hd, put_some]
    exact ⟨g, ob, h1.put (by rw [h4]; exact hdl) (fun _ => .tup [] #[] rfl (fun i hi => by simp at hi)) (fun j sz n cs k => by simp [comp] at k), h2, h3, by simpa using h4⟩

theorem anyA_sound (hH : EnvOk P C.H) (hL : LEnvOk P C.L) (hG : GlOk E.g0 E.w0 C.gl) (hdst : dstOk C.nt ops = true) {K : (Nat → V) → Prop} {Q : Exit → Act → World → Prop}
    (hQ : ∀ s a w, AtF E C.nt s mem mn a w → K s → Q .normal a w) : ∀ (fuel : Nat) (listed : Array Bool) (s : Nat → V) (a : Act) (w : World), AtF E C.nt s mem mn a w → anyA P C ops mem mn K fuel listed s → wpAny P .any ops.toArray Q fuel listed a w
  | 0, _, _, _, _, hA, h => ⟨h.1, hQ _ _ _ hA h.2⟩
  | fuel + 1, listed, s, a, w, hA, h => ⟨fun h0 => hQ _ _ _ hA (h.1 h0), fun i hi => by
      have hlt : i < ops.length := by
        obtain ⟨_, o, ho, _⟩ := mem_ready.1 hi
        simpa using (Array.getElem?_eq_some_iff.1 ho).1
      exact qA_sound hH hL hG hdst (fun s' a' w' hA' hk => anyA_sound hH hL hG hdst hQ fuel _ s' a' w' hA' hk) hA hlt (h.2 i hi)⟩

/-- The region, operation by operation. -/
structure CtxA (P : Program) (E : Entry) (C : Cfg) where
  ops : List Oper
  mem : Nat → Option (List V)
  mn : Nat
def WRA (Θ : CtxA P E C) (rest : List Oper) (σ : S) (K : S → Prop) : Prop := σ.mem = Θ.mem → σ.mn = Θ.mn → LA P C Θ.ops Θ.mem Θ.mn (fun s => ∃ σ', lk σ'.sl = s ∧ σ'.mem = Θ.mem ∧ σ'.mn = Θ.mn ∧ K σ') rest (lk σ.sl)
def CallA (Θ : CtxA P E C) (o : Oper) (rest : List Oper) (d : Nat) (f : FuncId) (args : List V) (σ : S) (K : S → Prop) : Prop :=
  o.dst = some d → wantedV Θ.ops (lk σ.sl) o = some true → (∃ xs ats, o.op = .call { callee := .value (.func f), args := xs, argTypes := ats } ∧ args = xs.toList.map fun y => (evO (lk σ.sl) C.gl y).fz) → WRA Θ (o :: rest) σ K
def PostA (Θ : CtxA P E C) (out : Out) (K : S → Prop) : Prop := match out with
  | .done c σ => c ∧ K σ
  | .call c o rest d f args σ => c ∧ CallA Θ o rest d f args σ K
  | .wait c v rest σ => c ∧ splitG v (WRA Θ rest σ K)
  | .stuck _ _ => False

def runA.isCall : Op → Option (FuncId × List Operand)
    | .call c => match c.callee with
      | .value y => match y with
        | .func f => some (f, c.args.toList)
        | _ => none
      | _ => none
    | _ => none

noncomputable def runA (C : Cfg) (ds : List (Option Nat)) : List Oper → S → Prop → Out
  | [], σ, c => .done c σ
  | o :: rest, σ, c => match o.dst with
    | none => .stuck o σ
    | some d => match wantV ds (lk σ.sl) o.guard with
      | none => .wait c (gV ds (lk σ.sl) o.guard) (o :: rest) σ
      | some b => match b with
        | false => runA C ds rest (σ.set d (.tup [])) c
        | true => match runA.isCall o.op with
          | some (f, xs) => .call c o rest d f (xs.map fun y => (evO (lk σ.sl) C.gl y).fz) σ
          | none => match evC C.H C.L σ.mem (evO (lk σ.sl) C.gl) o.op with
            | some (c', x) => runA C ds rest (σ.set d x) (c ∧ c')
            | none => .stuck o σ
theorem isCall_spec {op : Op} {f : FuncId} {xs : List Operand} (h : runA.isCall op = some (f, xs)) : ∃ ys ats, op = .call { callee := .value (.func f), args := ys, argTypes := ats } ∧ ys.toList = xs := by
  unfold runA.isCall at h
  split at h <;> try cases h
  rename_i c
  split at h <;> try cases h
  rename_i y hy
  split at h <;> try cases h
  obtain ⟨callee, args, ats⟩ := c
  simp only at hy
  subst hy
  exact ⟨args, ats, rfl, rfl⟩

theorem WRA.of_run (Θ : CtxA P E C) (K : S → Prop) : ∀ (rest : List Oper) (σ : S) (c : Prop), PostA Θ (runA C (Θ.ops.map (·.dst)) rest σ c) K → c ∧ WRA Θ rest σ K
  | [], σ, c, h => ⟨h.1, fun h1 h2 => ⟨σ, rfl, h1, h2, h.2⟩⟩
  | o :: rest, σ, c, h => by
    simp only [runA] at h
    cases hd : o.dst with
    | none => rw [hd] at h; exact h.elim
    | some d =>
      rw [hd] at h
      simp only at h
      cases hw : wantV (Θ.ops.map (·.dst)) (lk σ.sl) o.guard with
      | none => rw [hw] at h; exact ⟨h.1, splitG_elim h.2⟩
      | some b =>
        rw [hw] at h
        have hw' := wantV_eq Θ.ops _ o hw
        cases b with
        | false =>
          simp only at h
          obtain ⟨h1, h2⟩ := WRA.of_run Θ K rest _ c h
          refine ⟨h1, fun m1 m2 => ⟨d, .tup [], hd, .inr ⟨hw', rfl⟩, ?_⟩⟩
          have := h2 m1 m2
          rwa [S.set, lk_cons] at this
        | true =>
          simp only at h
          cases hc : runA.isCall o.op with
          | some p =>
            obtain ⟨f, xs⟩ := p
            rw [hc] at h
            obtain ⟨ys, ats, e1, e2⟩ := isCall_spec hc
            exact ⟨h.1, h.2 hd hw' ⟨ys, ats, e1, by rw [e2]⟩⟩
          | none =>
            rw [hc] at h
            simp only at h
            cases he : evC C.H C.L σ.mem (evO (lk σ.sl) C.gl) o.op with
            | none => rw [he] at h; exact h.elim
            | some p =>
              obtain ⟨c', x⟩ := p
              rw [he] at h
              obtain ⟨⟨h1, h3⟩, h2⟩ := WRA.of_run Θ K rest _ _ h
              refine ⟨h1, fun m1 m2 => ⟨d, x, hd, .inl ⟨hw', .inl ⟨c', by rw [← m1]; exact he, h3⟩⟩, ?_⟩⟩
              have := h2 m1 m2
              rwa [S.set, lk_cons] at this

theorem CallA.intro {Θ : CtxA P E C} {o : Oper} {rest : List Oper} {d : Nat} {f : FuncId} {args : List V} {σ : S} {K : S → Prop} (x : V) (hs : Sp P C.gl f args σ.mem σ.mn (fun r m k => r = x ∧ m = σ.mem ∧ k = σ.mn)) (hk : ∀ x ∈ args, x.known = true)
    (h : WRA Θ rest (σ.set d x) K) : CallA Θ o rest d f args σ K := by
  rintro hd hw ⟨xs, ats, hop, rfl⟩ m1 m2
  refine ⟨d, x, hd, .inl ⟨hw, .inr ⟨f, xs, ats, hop, fun y hy => hk _ (List.mem_map.2 ⟨y, hy, rfl⟩), ?_⟩⟩, ?_⟩
  · rw [m1, m2] at hs; exact hs
  · have := h m1 m2
    rwa [S.set, lk_cons] at this

theorem WRA.go {Θ : CtxA P E C} {rest : List Oper} {σ : S} {K : S → Prop} {ds : List (Option Nat)} (hds : ds = Θ.ops.map (·.dst)) (h : PostA Θ (runA C ds rest σ True) K) : WRA Θ rest σ K := (WRA.of_run Θ K rest σ True (hds ▸ h)).2

theorem WC.regionAny (hH : EnvOk P C.H) (hL : LEnvOk P C.L) (hG : GlOk E.g0 E.w0 C.gl) (hm : P.follows .mixedOrders = true) {id : Nat} {ops : Array Oper} {σ : S} {Q : QC} (hd : dstOk C.nt ops.toList = true) (hB : Region.lexFrom .any ops ops.size 0 (Array.replicate ops.size false) = true)
    (h : ∀ (Θ : CtxA P E C) (K : S → Prop), Θ.ops = ops.toList → (∀ σ, Q .normal σ → K σ) → PostA Θ (runA C (ops.toList.map (·.dst)) ops.toList σ True) K) : WC P E C (.region id ops true) σ Q := by
  intro a w hA
  refine wp_region_any hm ?_
  have h1 := (WRA.of_run (⟨ops.toList, σ.mem, σ.mn⟩ : CtxA P E C) (fun σ => Q .normal σ) ops.toList σ True (h _ _ rfl (fun _ k => k))).2 rfl rfl
  have h2 := anyA_lex (P := P) (C := C) (ops := ops.toList) ops.toList 0 (Array.replicate ops.size false) (lk σ.sl) (fun j => by simp) (by simpa using hB) h1
  obtain ⟨g, ob, k1, k2, k3, k4⟩ := hA
  have h3 := anyA_sound (Q := fun e a' w' => ∃ σ', At E C.nt σ' a' w' ∧ Q e σ') hH hL hG hd (fun s a' w' hA' ⟨σ', e1, e2, e3, hq⟩ => ⟨σ', by
    obtain ⟨g, ob, q1, q2, q3, q4⟩ := hA'
    exact ⟨g, ob, by rw [e1, e2]; exact q1, by rw [e3]; exact q2, q3, q4⟩, hq⟩) ops.toList.length _ (lk σ.sl) a { w with drawn := w.drawn + 1 } ⟨g, ob, k1.drew, k2, k3, k4⟩ h2
  simpa using h3

end Go.VL
