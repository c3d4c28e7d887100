/- Part VL20 of the proof: made for this claim. -/
import Derived.Test.YtnajgcmdkmlimaaVL19
/-! VL part 20: functions. -/
set_option linter.unusedVariables false
set_option linter.unusedSimpArgs false
open Go.RowKit
namespace Go.VL
variable {P : Program} {E : Entry} {w : World} {C : Cfg}

def okRes : V → Prop
  | .tup _ | .unk => False
  | _ => True
/-- What a result is. -/
def resV (H : Env) (σ : S) : ResultVar → Option (Prop × V)
  | .tmp t => some (okRes (lk σ.sl t), lk σ.sl t)
  | .cell a t => match lk σ.sl a with
    | .bp b off => match ldV H σ.mem t (.bp b off) with
      | some (c, x) => some (c ∧ okRes x, x)
      | none => none
    | _ => none
def resM (tm : Array Value) : ResultVar → Sem Value
  | .tmp t => pure (tm.getD t undef)
  | .cell a t => do loadVar t (← asAddr (tm.getD a undef))
def resL (H : Env) (σ : S) : List ResultVar → Option (Prop × List V)
  | [] => some (True, [])
  | r :: rs => match resV H σ r, resL H σ rs with
    | some (c, x), some (c', xs) => some (c ∧ c', x :: xs)
    | _, _ => none
/-- What all results are. -/
def resA (H : Env) (σ : S) (rs : List ResultVar) : Option (Prop × V) := match rs with
  | [r] => resV H σ r
  | rs => match resL H σ rs with
    | some (c, xs) => some (c, .tup xs)
    | none => none

def tmpOf : ResultVar → Option Nat
  | .tmp t => some t
  | .cell _ _ => none
def rsOf (ob : Pos → Option Nat) (rs : List ResultVar) : Pos → Option Nat
  | .slot i j => if i = 0 then match rs[j]? with | some (.tmp t) => ob (.slot t 0) | _ => none else none
  | .cell b o => ob (.cell b o)
def distinctT (rs : List ResultVar) : Prop := ∀ (i j : Nat) (t : Nat), (rs[i]?).bind tmpOf = some t → (rs[j]?).bind tmpOf = some t → i = j

theorem ldV_fz {H : Env} {mem : Nat → Option (List V)} {t : TypeId} {x y : V} {c : Prop} (h : ldV H mem t x = some (c, y)) : ∃ z : V, y = z.fz := by
  unfold ldV at h
  split at h <;> try cases h
  split at h <;> try cases h
  split at h <;> try cases h
  · exact ⟨_, rfl⟩
  · split at h <;> cases h
    exact ⟨_, rfl⟩

theorem resV_rel (hH : EnvOk P C.H) {g : G} {ob : Pos → Option Nat} {σ : S} {tm : Array Value} (h : St E g ob (lk σ.sl) σ.mem tm w) {r : ResultVar} {c : Prop} {x : V} (hr : resV C.H σ r = some (c, x)) (hc : c) :
    ∃ v, (resM tm r).run P w = .ok v w ∧ VR g w x v ∧ okRes x ∧ ∀ sz n cs, x = .sl true sz n cs → ∃ t, r = .tmp t ∧ v = tm.getD t undef := by
  cases r with
  | tmp t =>
    simp only [resV, Option.some.injEq, Prod.mk.injEq] at hr
    obtain ⟨rfl, rfl⟩ := hr
    exact ⟨_, rfl, h.slot t (by intro k; rw [k] at hc; exact hc), hc, fun _ _ _ _ => ⟨t, rfl, rfl⟩⟩
  | cell a t =>
    simp only [resV] at hr
    split at hr <;> try cases hr
    rename_i b off ha
    have hv := h.slot a (by rw [ha]; simp)
    rw [ha] at hv
    split at hr <;> try cases hr
    rename_i c0 hr
    obtain ⟨hc, hok⟩ := hc
    obtain ⟨v, v1, v2⟩ := ldV_gives (P := P) hH (w := w) (g := g) (mem := σ.mem) h.box t hv c0 x hr hc
    refine ⟨v, ?_, v2, hok, fun sz n cs e => ?_⟩
    · show (do loadVar t (← asAddr (tm.getD a undef)) : Sem Value).run P w = _
      generalize tm.getD a undef = q at hv v1 ⊢
      cases hv
      simp only [Instr.loadAt, Instr.sureAddr, Sem.run_bind, Sem.run_pure, Result.andThen_ok] at v1
      simp only [asAddr, Sem.run_bind, Sem.run_pure, Result.andThen_ok, v1]
    · obtain ⟨z, hz⟩ := ldV_fz hr
      rw [e] at hz
      cases z <;> simp [V.fz] at hz

theorem resL_rel (hH : EnvOk P C.H) {g : G} {ob : Pos → Option Nat} {σ : S} {tm : Array Value} (h : St E g ob (lk σ.sl) σ.mem tm w) : ∀ {rs : List ResultVar} {c : Prop} {xs : List V}, resL C.H σ rs = some (c, xs) → c →
    ∃ vs : List Value, (rs.mapM (resM tm)).run P w = .ok vs w ∧ vs.length = xs.length ∧ xs.length = rs.length ∧ (∀ i, i < xs.length → VR g w (xs.getD i .unk) (vs.getD i undef)) ∧
      ∀ i sz n cs, xs[i]? = some (.sl true sz n cs) → ∃ t, rs[i]? = some (.tmp t) ∧ vs.getD i undef = tm.getD t undef ∧ lk σ.sl t = .sl true sz n cs
  | [], c, xs, hr, hc => by
    simp only [resL, Option.some.injEq, Prod.mk.injEq] at hr
    obtain ⟨_, rfl⟩ := hr
    exact ⟨[], by simp, rfl, rfl, fun i hi => by simp at hi, fun i sz n cs h => by simp at h⟩
  | r :: rs, c, xs, hr, hc => by
    simp only [resL] at hr
    cases h1 : resV C.H σ r with
    | none => rw [h1] at hr; cases hr
    | some p =>
      obtain ⟨c1, x⟩ := p
      cases h2 : resL C.H σ rs with
      | none => rw [h1, h2] at hr; cases hr
      | some q =>
        obtain ⟨c2, ys⟩ := q
        rw [h1, h2] at hr
        simp only [Option.some.injEq, Prod.mk.injEq] at hr
        obtain ⟨rfl, rfl⟩ := hr
        obtain ⟨v, v1, v2, _, v3⟩ := resV_rel hH h h1 hc.1
        obtain ⟨vs, w1, w2, w3, w4, w5⟩ := resL_rel hH h h2 hc.2
        refine ⟨v :: vs, ?_, by simp [w2], by simp [w3], fun i hi => ?_, fun i sz n cs hi => ?_⟩
        · rw [List.mapM_cons]
          simp only [Sem.run_bind]
          rw [v1]
          simp only [Result.andThen_ok, w1, Sem.run_pure]
        · cases i with
          | zero => simpa using v2
          | succ i => have := w4 i (by simpa using hi); simpa using this
        · cases i with
          | zero =>
            simp only [List.getElem?_cons_zero, Option.some.injEq] at hi
            obtain ⟨t, k1, k2⟩ := v3 sz n cs hi
            subst k1
            refine ⟨t, rfl, by simpa using k2, ?_⟩
            simp only [resV, Option.some.injEq, Prod.mk.injEq] at h1
            rw [← hi]; exact h1.2
          | succ i =>
            obtain ⟨t, k1, k2, k3⟩ := w5 i sz n cs (by simpa using hi)
            exact ⟨t, by simpa using k1, by simpa using k2, k3⟩

def argSl : Nat → List V → List (Nat × V)
  | _, [] => []
  | k, x :: r => (k, x) :: argSl (k + 1) r
theorem lk_argSl : ∀ (l : List V) (k i : Nat), lk (argSl k l) i = if k ≤ i ∧ i < k + l.length then l.getD (i - k) .unk else .unk
  | [], k, i => by simp [argSl, lk]
  | x :: r, k, i => by
    simp only [argSl, lk, List.length_cons]
    by_cases h : k = i
    · subst h; rw [if_pos rfl, if_pos (by omega), Nat.sub_self]; rfl
    · rw [if_neg h, lk_argSl r (k + 1) i]
      by_cases h2 : k + 1 ≤ i ∧ i < k + 1 + r.length
      · rw [if_pos h2, if_pos (by omega), show i - k = (i - (k + 1)) + 1 by omega, List.getD_cons_succ]
      · rw [if_neg h2, if_neg (by omega)]

theorem fz_noOwn_comp {x : V} (hx : ∀ cs, x ≠ .tup cs) : x.fz.noOwn := noOwn_fz x hx

/-- How a function's contract is proved. -/
theorem Sp.intro (hH : EnvOk P C.H) {f : FuncId} {fn : Func} {c : Code} {args : List V} {mem : Nat → Option (List V)} {mn : Nat} {R : V → (Nat → Option (List V)) → Nat → Prop} (hf : P.funcs[f]? = some fn) (hn : (fn.name == "runtime.NumGoroutine") = false)
    (hb : fn.body = some c) (hnt : fn.ntmps = C.nt) (hle : args.length ≤ C.nt) (hdis : distinctT fn.results.toList) (hno : ∀ x ∈ args, noOwnB x = true ∧ ∀ cs, x ≠ .tup cs)
    (h : ∀ E, GlOk E.g0 E.w0 C.gl → (∀ b, mn ≤ b → mem b = none) → WC P E C c ⟨argSl 0 args, mem, mn⟩ (fun e σ => (e = .normal ∨ e = .ret) ∧ ∃ k r, resA C.H σ fn.results.toList = some (k, r) ∧ k ∧ r ≠ .unk ∧ R r σ.mem σ.mn)) : Sp P C.gl f args mem mn R := by
  refine ⟨⟨fn, hf, hn, by rw [hb]; rfl⟩, fun g ob w vs hmn hG hsz hv hob hst => ?_⟩
  have hmem : ∀ b, mn ≤ b → mem b = none := fun b hb => by
    cases hm : mem b with
    | none => rfl
    | some l => have := (hst.box b l hm).1; omega
  have hwc := h (entryOf g ob mem w) hG hmem
  have hnoOwn : ∀ i j sz n cs, comp (lk (argSl 0 args) i) j ≠ some (.sl true sz n cs) := fun i j sz n cs hk => by
    rw [lk_argSl] at hk
    split at hk
    · rename_i hi
      have hi' : i < args.length := by omega
      have hmem' : args.getD (i - 0) .unk ∈ args := by
        rw [Nat.sub_zero, List.getD_eq_getElem?_getD, List.getElem?_eq_getElem hi', Option.getD_some]; exact List.getElem_mem _
      obtain ⟨q1, q2⟩ := hno _ hmem'
      generalize args.getD (i - 0) .unk = x at *
      cases x with
      | tup cs => exact q2 cs rfl
      | sl own a b cs => cases j <;> simp [comp, noOwnB] at hk q1; simp_all
      | _ => cases j <;> simp [comp] at hk
    · have := comp_unk _ _ hk; cases this
  have hA : At (entryOf g ob mem w) C.nt ⟨argSl 0 args, mem, mn⟩ { tmps := vs ++ Array.replicate (fn.ntmps - vs.size) undef, defers := [] } w := by
    refine ⟨g, ob, ?_, hmn, rfl, by simp; omega⟩
    exact { hst with
      slot := fun i hi => by
        simp only at hi ⊢
        rw [lk_argSl] at hi ⊢
        split at hi
        · rename_i hh
          rw [if_pos hh]
          have hi' : i < args.length := by omega
          have := hv i hi'
          have e : (vs ++ Array.replicate (fn.ntmps - vs.size) undef).getD i undef = vs.getD i undef := by
            rw [Array.getD_eq_getD_getElem?, Array.getElem?_append_left (by omega), Array.getD_eq_getD_getElem?]
          rw [e]; simpa using this
        · exact absurd rfl hi
      ownS := fun i j sz n cs hk => absurd hk (hnoOwn i j sz n cs) }
  refine calls_of_wp hf hb (wp_mono (hwc _ w hA) (fun e a' w' ⟨σ', h1, h2⟩ => ?_))
  obtain ⟨he, k, r, hr, hk, hru, hR⟩ := h2
  obtain ⟨g', ob', hs, hm', hdf, hnt'⟩ := h1
  have hsub : ∀ p blk, rsOf ob' fn.results.toList p = some blk → ∃ q, ob' q = some blk ∧ ((∃ j t, p = .slot 0 j ∧ fn.results.toList[j]? = some (.tmp t) ∧ q = .slot t 0) ∨ ∃ b o, p = .cell b o ∧ q = .cell b o) := fun p blk hp => by
    cases p with
    | slot i j =>
      simp only [rsOf] at hp
      split at hp
      · rename_i hi
        subst hi
        split at hp
        · rename_i t ht; exact ⟨_, hp, .inl ⟨j, t, rfl, ht, rfl⟩⟩
        · cases hp
      · cases hp
    | cell b o => exact ⟨_, hp, .inr ⟨b, o, rfl, rfl⟩⟩
  -- the state with the result alone
  have final : ∀ v : Value, VR g' w' r v → (∀ j sz n cs, comp r j = some (.sl true sz n cs) → OwnAt g' w' (rsOf ob' fn.results.toList (.slot 0 j)) sz n (vcomp v j)) →
      St (entryOf g ob mem w) g' (rsOf ob' fn.results.toList) (upd (fun _ => .unk) 0 r) σ'.mem #[v] w' := fun v hvr hown => {
    hs with
    slot := fun i hi => by
      by_cases e : i = 0
      · subst e; rw [upd_same]; exact hvr
      · rw [upd_ne _ _ e] at hi; exact absurd rfl hi
    ownS := fun i j sz n cs hi => by
      by_cases e : i = 0
      · subst e; rw [upd_same] at hi; exact hown j sz n cs hi
      · rw [upd_ne _ _ e] at hi; have := comp_unk _ _ hi; cases this
    ownC := fun b o l sz n cs hb' hl => hs.ownC b o l sz n cs hb' hl
    obInj := fun p q blk hp hq => by
      obtain ⟨p', k1, k2⟩ := hsub p blk hp
      obtain ⟨q', l1, l2⟩ := hsub q blk hq
      have e := hs.obInj _ _ _ k1 l1
      rcases k2 with ⟨j, t, rfl, k3, rfl⟩ | ⟨b, o, rfl, rfl⟩ <;> rcases l2 with ⟨j', t', rfl, l3, rfl⟩ | ⟨b', o', rfl, rfl⟩
      · simp only [Pos.slot.injEq, and_true] at e
        subst e
        rw [hdis j j' t (by rw [k3]; rfl) (by rw [l3]; rfl)]
      · cases e
      · cases e
      · exact e
    obBox := fun p blk b hp hb' => by obtain ⟨q, k1, _⟩ := hsub p blk hp; exact hs.obBox q blk b k1 hb'
    obLt := fun p blk hp => by obtain ⟨q, k1, _⟩ := hsub p blk hp; exact hs.obLt q blk k1
    obFresh := fun p blk hp => by obtain ⟨q, k1, _⟩ := hsub p blk hp; exact hs.obFresh q blk k1 }
  have own_of : ∀ (j t sz n : Nat) (cs : List V), fn.results.toList[j]? = some (.tmp t) → lk σ'.sl t = .sl true sz n cs → OwnAt g' w' (rsOf ob' fn.results.toList (.slot 0 j)) sz n (a'.tmps.getD t undef) := fun j t sz n cs hj ht => by
    have e1 : rsOf ob' fn.results.toList (.slot 0 j) = ob' (.slot t 0) := by simp [rsOf, hj]
    rw [e1]
    have := hs.ownS t 0 sz n cs (by rw [ht]; rfl)
    have hvt := hs.slot t (by rw [ht]; simp)
    rw [ht] at hvt
    generalize a'.tmps.getD t undef = u at *
    cases hvt <;> exact this
  have done : ∀ v : Value, (results fn a'.tmps).run P w' = .ok v w' → St (entryOf g ob mem w) g' (rsOf ob' fn.results.toList) (upd (fun _ => .unk) 0 r) σ'.mem #[v] w' →
      bodyPost P fn (fun e w' => ∃ v r mem' g' ob', e = .returned v ∧ R r mem' g'.mn ∧ r ≠ .unk ∧ St (entryOf g ob mem w) g' ob' (upd (fun _ => .unk) 0 r) mem' #[v] w') e a' w' := fun v h1 h2 => by
    rcases he with rfl | rfl
    · exact ⟨hdf, v, h1, v, r, σ'.mem, g', _, rfl, by rw [hm']; exact hR, hru, h2⟩
    · exact ⟨hdf, v, h1, v, r, σ'.mem, g', _, rfl, by rw [hm']; exact hR, hru, h2⟩
  have runs : ∀ vs : List Value, (fn.results.toList.mapM (resM a'.tmps)).run P w' = .ok vs w' → (results fn a'.tmps).run P w' = .ok (if h : vs.toArray.size = 1 then vs.toArray[0] else .tuple vs.toArray) w' := fun vs hvs => by
    have e : results fn a'.tmps = (do let vs ← fn.results.mapM (resM a'.tmps); pure (if h : vs.size = 1 then vs[0] else .tuple vs)) := by
      unfold results
      congr 1
    rw [e, Array.mapM_eq_mapM_toList]
    simp only [Sem.run_bind, Sem.run_map, hvs, Result.andThen_ok, Sem.run_pure]
  unfold resA at hr
  split at hr
  · rename_i rv hrv
    obtain ⟨v, v1, v2, hok, v3⟩ := resV_rel hH hs hr hk
    refine done v ?_ (final v v2 (fun j sz n cs hj => ?_))
    · have := runs [v] (by
        rw [hrv, List.mapM_cons]
        simp only [Sem.run_bind]
        rw [v1]
        simp)
      rw [this]; rfl
    · have hj0 : j = 0 ∧ r = .sl true sz n cs := by
        cases r with
        | tup _ => exact hok.elim
        | _ => cases j <;> simp [comp] at hj ⊢; try exact hj
      obtain ⟨rfl, hr'⟩ := hj0
      obtain ⟨t, k1, k2⟩ := v3 sz n cs hr'
      subst k1
      simp only [resV, Option.some.injEq, Prod.mk.injEq] at hr
      have := own_of 0 t sz n cs (by rw [hrv]; rfl) (by rw [hr.2, hr'])
      rw [← k2] at this
      have hv0 : vcomp v 0 = v := by
        rw [hr'] at v2
        cases v2 <;> rfl
      rw [hv0]; exact this
  · rename_i hne
    cases hl : resL C.H σ' fn.results.toList with
    | none => rw [hl] at hr; cases hr
    | some p =>
      obtain ⟨c', xs⟩ := p
      rw [hl] at hr
      simp only [Option.some.injEq, Prod.mk.injEq] at hr
      obtain ⟨rfl, rfl⟩ := hr
      obtain ⟨vs', w1, w2, w3, w4, w5⟩ := resL_rel hH hs hl hk
      have hlen : ¬ vs'.toArray.size = 1 := by
        intro e
        have e1 : fn.results.toList.length = 1 := by rw [← w3, ← w2]; simpa using e
        obtain ⟨q, hq⟩ := List.length_eq_one_iff.1 e1
        exact hne q hq
      have hrun := runs vs' w1
      rw [dif_neg hlen] at hrun
      refine done _ hrun (final _ (.tup xs vs'.toArray (by simp [w2]) (fun i hi => by have := w4 i hi; simpa [List.getD_eq_getElem?_getD, Array.getD_eq_getD_getElem?] using this)) (fun j sz n cs hj => ?_))
      obtain ⟨t, k1, k2, k3⟩ := w5 j sz n cs hj
      have e2 : vcomp (.tuple vs'.toArray) j = a'.tmps.getD t undef := by
        rw [← k2]; simp [vcomp, List.getD_eq_getElem?_getD, Array.getD_eq_getD_getElem?]
      rw [e2]
      exact own_of j t sz n cs k1 k3


theorem WC.regionSeq (hH : EnvOk P C.H) (hL : LEnvOk P C.L) (hG : GlOk E.g0 E.w0 C.gl) {id : Nat} {ops : Array Oper} {y : Code} {σ : S} {Q : QC} (hd : dstOk C.nt ops.toList = true)
    (h : ∀ (Θ : Ctx P E C) (K : S → Prop), Θ.ops = ops.toList → (∀ σ, WC P E C y σ Q → K σ) → Post Θ (run C (ops.toList.map (·.dst)) ops.toList σ True) K) : WC P E C (.seq (.region id ops false) y) σ Q :=
  WC.seq (WC.region hH hL hG hd h)

end Go.VL
