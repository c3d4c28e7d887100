/- Part VLTyped of the proof: made for this claim. -/
import Derived.Test.YtnajgcmdkmlimaaVLCells
import Derived.Deep.Slices
import Derived.OpenShut
/-! VL: arguments of any type made of numbers, bools, texts, arrays, structs and slices. -/
set_option linter.unusedVariables false
set_option linter.unusedSimpArgs false
open Go.RowKit
namespace Go.VL
variable {P : Program}

def zeroOf (P : Program) (t : TypeId) : Value := match P.info? t with
  | some i => i.zero.getD undef
  | none => undef

def TCs (R : TypeId → List V → Prop) : List TypeId → List V → Prop
  | [], cs => cs = []
  | t :: ts, cs => ∃ c r, cs = c ++ r ∧ R t c ∧ TCs R ts r

/-- What the cells of a type's value are. -/
def TC (P : Program) : Nat → TypeId → List V → Prop
  | 0, _, _ => False
  | d + 1, t, cs => match P.underlying t with
    | some .bool => ∃ b, cs = [.flat (.bool b)]
    | some (.int k) => ∃ n, cs = [.flat (.int k n)] ∧ k.min ≤ n ∧ n ≤ k.max
    | some .string => ∃ s : List UInt8, cs = [.flat (.string (bs s))] ∧ s.length ≤ 140737488351232
    | some (.struct fs) => TCs (TC P d) (fs.toList.map (·.type)) cs
    | some (.array n e) => ∃ css : List (List V), css.length = n ∧ cs = css.flatten ∧ ∀ c ∈ css, TC P d e c
    | some (.slice e) => ∃ css : List (List V), cs = [.sl false (P.cellsOf e) css.length css.flatten] ∧ css.length ≤ 140737488351232 ∧ ∀ c ∈ css, TC P d e c
    | _ => False

def okT (P : Program) : Nat → TypeId → Bool
  | 0, _ => false
  | d + 1, t => match P.underlying t with
    | some .bool | some (.int _) | some .string => P.cellsOf t == 1
    | some (.struct fs) => (fs.toList.all fun f => okT P d f.type) && (fs.toList.foldl (fun (o : Option Nat) f => o.bind fun o => if f.offset = o then some (o + P.cellsOf f.type) else none) (some 0)) == some (P.cellsOf t)
    | some (.array n e) => okT P d e && P.cellsOf t == n * P.cellsOf e
    | some (.slice e) => okT P d e && P.cellsOf t == 1 && decide (0 < P.bytesOf e) && decide (0 < P.cellsOf e)
    | _ => false

theorem flatten_len {α : Type} (n : Nat) : ∀ (css : List (List α)), (∀ c ∈ css, c.length = n) → css.flatten.length = css.length * n
  | [], _ => by simp
  | c :: r, h => by
    rw [List.flatten_cons, List.length_append, h c (by simp), flatten_len n r (fun x hx => h x (by simp [hx])), List.length_cons, Nat.succ_mul]
    omega

theorem tcs_len {d : Nat} (hall : ∀ t cs, okT P d t = true → TC P d t cs → cs.length = P.cellsOf t) : ∀ (fs : List Field) (o o' : Nat) (cs : List V), (∀ f ∈ fs, okT P d f.type = true) → fieldsEnd P (some o) fs = some o' → TCs (TC P d) (fs.map (·.type)) cs → o + cs.length = o'
  | [], o, o', cs, _, he, h => by
    have : o = o' := by simpa [fieldsEnd] using he
    simp only [List.map_nil, TCs] at h
    subst h
    simp [this]
  | f :: fs, o, o', cs, hok, he, h => by
    obtain ⟨e1, e2⟩ := fieldsEnd_cons P o f fs he
    simp only [List.map_cons, TCs] at h
    obtain ⟨c, r, rfl, h1, h2⟩ := h
    have := hall _ _ (hok f (by simp)) h1
    have h3 := tcs_len hall fs _ _ r (fun g hg => hok g (by simp [hg])) e2 h2
    rw [List.length_append]
    omega

theorem tc_len : ∀ (d : Nat) (t : TypeId) (cs : List V), okT P d t = true → TC P d t cs → cs.length = P.cellsOf t
  | 0, _, _, _, h => h.elim
  | d + 1, t, cs, hok, h => by
    unfold TC at h
    unfold okT at hok
    cases hu : P.underlying t with
    | none => simp [hu] at h
    | some k =>
      cases k <;> simp only [hu] at h hok <;> try exact h.elim
      · obtain ⟨b, rfl⟩ := h; simp only [beq_iff_eq] at hok; simp [hok]
      · obtain ⟨b, rfl, _⟩ := h; simp only [beq_iff_eq] at hok; simp [hok]
      · obtain ⟨b, rfl, _⟩ := h; simp only [beq_iff_eq] at hok; simp [hok]
      · obtain ⟨css, rfl, _⟩ := h
        simp only [Bool.and_eq_true, beq_iff_eq] at hok
        simp [hok.1.1.2]
      · obtain ⟨css, h1, rfl, h2⟩ := h
        simp only [Bool.and_eq_true, beq_iff_eq] at hok
        rw [flatten_len (P.cellsOf _) css (fun c hc => tc_len d _ c hok.1 (h2 c hc)), h1, hok.2]
      · simp only [Bool.and_eq_true, beq_iff_eq, List.all_eq_true] at hok
        have := tcs_len (tc_len d) _ 0 _ cs hok.1 hok.2 h
        omega

section
variable {H : Type} {enc : TypeId × Value → H} {w : World} {base : Nat} {spare : Nat → Bool} {held : Bool}

/-- Cells that stand for values. -/
def Stand (w : World) (cs : List V) (us : List Value) : Prop := us.length = cs.length ∧ ∀ i, i < cs.length → VR (gOf w) w (cs.getD i .unk) (us.getD i undef)
theorem Stand.nil : Stand w [] [] := ⟨rfl, fun i h => absurd h (Nat.not_lt_zero _)⟩
theorem Stand.one {x : V} {u : Value} (h : VR (gOf w) w x u) : Stand w [x] [u] := ⟨rfl, fun i hi => by
  have : i = 0 := by simpa using hi
  subst this; exact h⟩
theorem Stand.append {cs ds : List V} {us vs : List Value} (h : Stand w cs us) (k : Stand w ds vs) : Stand w (cs ++ ds) (us ++ vs) := by
  refine ⟨by rw [List.length_append, List.length_append, h.1, k.1], fun i hi => ?_⟩
  rw [List.length_append] at hi
  by_cases hc : i < cs.length
  · have e1 : (cs ++ ds).getD i .unk = cs.getD i .unk := by simp [List.getD_eq_getElem?_getD, List.getElem?_append_left hc]
    have e2 : (us ++ vs).getD i undef = us.getD i undef := by simp [List.getD_eq_getElem?_getD, List.getElem?_append_left (show i < us.length by rw [h.1]; exact hc)]
    rw [e1, e2]; exact h.2 i hc
  · have e1 : (cs ++ ds).getD i .unk = ds.getD (i - cs.length) .unk := by simp [List.getD_eq_getElem?_getD, List.getElem?_append_right (Nat.le_of_not_lt hc)]
    have e2 : (us ++ vs).getD i undef = vs.getD (i - cs.length) undef := by simp [List.getD_eq_getElem?_getD, List.getElem?_append_right (show us.length ≤ i by rw [h.1]; exact Nat.le_of_not_lt hc), h.1]
    rw [e1, e2]; exact k.2 _ (by omega)

theorem weightsAll_mem {e : TypeId} : ∀ {l : List (DataW H)} {i : Nat} {d : DataW H} {n : Nat}, l[i]? = some d → n ∈ d.weights P e → n ∈ DataW.weightsAll P e l
  | [], i, d, n, h, _ => by simp at h
  | x :: r, 0, d, n, h, hn => by
    simp only [List.getElem?_cons_zero, Option.some.injEq] at h
    subst h
    simp [DataW.weightsAll, hn]
  | x :: r, i + 1, d, n, h, hn => by
    simp only [List.getElem?_cons_succ] at h
    simp [DataW.weightsAll, weightsAll_mem h hn]

theorem arg_fields {d : Nat} (hall : ∀ t fuel (us : List Value) x, okT P d t = true → DataW.trod enc P w base spare held fuel t us = some x → (∀ n ∈ x.1.weights P t, n ≤ reachBytes) → ∃ cs, TC P d t cs ∧ Stand w cs us) :
    ∀ (fs : List Field) (o o' n : Nat) (us : List Value) (xs : List (DataW H × List MemPlace)), (∀ f ∈ fs, okT P d f.type = true) → fieldsEnd P (some o) fs = some o' → us.length = o' → xs.length = fs.length →
      (∀ (i : Nat) (f : Field), fs[i]? = some f → DataW.trod enc P w base spare held n f.type ((us.drop f.offset).take (P.cellsOf f.type)) = xs[i]?) → (∀ m ∈ DataW.weightsEach P (fs.map (·.type)) (xs.map (·.1)), m ≤ reachBytes) →
      ∃ cs, TCs (TC P d) (fs.map (·.type)) cs ∧ Stand w cs (us.drop o)
  | [], o, o', n, us, xs, _, he, hl, _, _, _ => by
    have : o = o' := by simpa [fieldsEnd] using he
    refine ⟨[], rfl, ?_⟩
    rw [List.drop_eq_nil_of_le (by omega)]
    exact Stand.nil
  | f :: fs, o, o', n, us, [], _, _, _, hx, _, _ => by simp at hx
  | f :: fs, o, o', n, us, x :: xs, hok, he, hl, hx, hf, hw => by
    obtain ⟨e1, e2⟩ := fieldsEnd_cons P o f fs he
    simp only [List.map_cons, DataW.weightsEach, List.mem_append] at hw
    have h0 := hf 0 f rfl
    simp only [List.getElem?_cons_zero] at h0
    obtain ⟨c, hc1, hc2⟩ := hall _ _ _ _ (hok f (by simp)) h0 (fun m hm => hw m (.inl hm))
    obtain ⟨r, hr1, hr2⟩ := arg_fields hall fs _ o' n us xs (fun g hg => hok g (by simp [hg])) e2 hl (by simpa using hx) (fun i g hg => by
      have := hf (i + 1) g (by simpa using hg)
      simpa using this) (fun m hm => hw m (.inr hm))
    refine ⟨c ++ r, ⟨c, r, rfl, hc1, hr1⟩, ?_⟩
    have := hc2.append hr2
    rwa [e1, ← List.drop_drop, List.take_append_drop] at this

theorem stand_chunks {d : Nat} {e : TypeId} (s : Nat) : ∀ (n : Nat) (us : List Value), us.length = n * s → (∀ i, i < n → ∃ cs, TC P d e cs ∧ Stand w cs ((us.drop (i * s)).take s)) → ∃ css : List (List V), css.length = n ∧ (∀ c ∈ css, TC P d e c) ∧ Stand w css.flatten us
  | 0, us, hl, _ => ⟨[], rfl, by simp, by
      have : us = [] := List.eq_nil_of_length_eq_zero (by omega)
      rw [this]; exact Stand.nil⟩
  | n + 1, us, hl, h => by
    obtain ⟨c, h1, h2⟩ := h 0 (by omega)
    rw [Nat.zero_mul, List.drop_zero] at h2
    obtain ⟨css, k1, k2, k3⟩ := stand_chunks s n (us.drop s) (by rw [List.length_drop, hl, Nat.succ_mul]; omega) (fun i hi => by
      have := h (i + 1) (by omega)
      rwa [List.drop_drop, show s + i * s = (i + 1) * s from by rw [Nat.succ_mul]; omega])
    refine ⟨c :: css, by simp [k1], fun x hx => ?_, ?_⟩
    · rcases List.mem_cons.1 hx with rfl | hx
      · exact h1
      · exact k2 x hx
    · have := h2.append k3
      rwa [List.take_append_drop] at this

/-- An argument of any such type. -/
theorem tc_arg (hsp : ∀ b, spare b = true) : ∀ (d : Nat) (t : TypeId) (fuel : Nat) (us : List Value) (x : DataW H × List MemPlace), okT P d t = true → DataW.trod enc P w base spare held fuel t us = some x → (∀ n ∈ x.1.weights P t, n ≤ reachBytes) → ∃ cs, TC P d t cs ∧ Stand w cs us
  | 0, t, _, _, _, hok, _, _ => by simp [okT] at hok
  | d + 1, t, fuel, us, x, hok, hd, hw => by
    unfold okT at hok
    unfold TC
    cases hu : P.underlying t with
    | none => simp [hu] at hok
    | some k =>
      cases k <;> simp only [hu] at hok ⊢ <;> try (exact absurd hok Bool.false_ne_true)
      · obtain ⟨b, rfl, _⟩ := DataW.trod_bool hu hd
        exact ⟨_, ⟨b, rfl⟩, Stand.one (.flat _ rfl)⟩
      · obtain ⟨n, rfl, _, hwf⟩ := DataW.trod_int hu hd
        refine ⟨_, ⟨n, rfl, ?_⟩, Stand.one (.flat _ rfl)⟩
        simpa [Lit.wf] using hwf
      · obtain ⟨s, rfl, rfl, _⟩ := DataW.trod_string hu hd
        refine ⟨_, ⟨s.data.toList, rfl, ?_⟩, Stand.one ?_⟩
        · exact hw s.data.toList.length (by simp [DataW.weights])
        · exact .flat _ rfl
      · -- slice
        rename_i e
        simp only [Bool.and_eq_true, beq_iff_eq, decide_eq_true_eq] at hok
        obtain ⟨⟨⟨hok1, hok2⟩, hb⟩, hc0⟩ := hok
        rcases Go.Deep.open_slice hu hd with ⟨rfl, _⟩ | ⟨a, len, cap, m, n, D, Pl, rfl, _, hl, hm, hz, rfl, hcell⟩
        · refine ⟨_, ⟨[], rfl, by simp, by simp⟩, Stand.one ?_⟩
          exact .sl0 false _ none 0
        · have hz' : m = cap := by rw [hz, hsp]; rfl
          subst hz'
          have hlen : len ≤ 140737488351232 := by
            have h0 := hw ((((List.range len).map D).length + ((List.range (m - len)).map fun j => D (len + j)).length) * P.bytesOf e) (by simp [DataW.weights, hu])
            simp only [List.length_map, List.length_range, reachBytes] at h0
            have := Nat.le_trans (Nat.le_mul_of_pos_right (len + (m - len)) hb) h0
            omega
          -- each element
          have hel : ∀ i, i < len → ∃ cs us', TC P d e cs ∧ Stand w cs us' ∧ w.cells? base (a.add (i * P.cellsOf e)) (P.cellsOf e) = some us' := fun i hi => by
            obtain ⟨cs', h1, h2⟩ := hcell i (by omega)
            obtain ⟨cs, h3, h4⟩ := tc_arg hsp d _ n cs' _ hok1 h2 (fun q hq => hw q (by
              simp only [DataW.weights, hu, List.mem_cons, List.mem_append]
              right; left
              exact weightsAll_mem (i := i) (d := D i) (by simp [hi]) hq))
            exact ⟨cs, cs', h3, h4, h1⟩
          obtain ⟨f, hf⟩ := Go.Deep.choose_lt (α := List V × List Value) (n := len) (p := fun i q => TC P d e q.1 ∧ Stand w q.1 q.2 ∧ w.cells? base (a.add (i * P.cellsOf e)) (P.cellsOf e) = some q.2) (fun i hi => by
            obtain ⟨cs, us', h⟩ := hel i hi
            exact ⟨(cs, us'), h⟩)
          have hfl : ∀ i, i < len → (f i).1.length = P.cellsOf e := fun i hi => tc_len d _ _ hok1 (hf i hi).1
          have hcss : ∀ c ∈ (List.range len).map fun i => (f i).1, c.length = P.cellsOf e := fun c hc => by
            obtain ⟨i, hi, rfl⟩ := List.mem_map.1 hc
            exact hfl i (by simpa using hi)
          refine ⟨_, ⟨(List.range len).map fun i => (f i).1, rfl, by simpa using hlen, fun c hc => ?_⟩, ?_⟩
          · obtain ⟨i, hi, rfl⟩ := List.mem_map.1 hc
            exact (hf i (by simpa using hi)).1
          · have hll : ((List.range len).map fun i => (f i).1).length = len := by simp
            rw [hll]
            refine Stand.one ?_
            rcases Nat.eq_zero_or_pos len with rfl | hpos
            · exact .sl0 false _ _ _
            · obtain ⟨b, off, spot⟩ := a
              have hcl : ∀ i j, i < len → j < P.cellsOf e → w.cell? ((⟨b, off, spot⟩ : Addr).add (i * P.cellsOf e + j)) = some ((f i).2.getD j undef) := fun i j hi hj => by
                obtain ⟨_, h1, h2⟩ := World.cells?_some (hf i hi).2.2
                have := h2 j hj
                rw [Go.Deep.add_add] at this
                rw [this, List.getD_eq_getElem?_getD, List.getElem?_eq_getElem (by omega)]
                rfl
              have hspot : spot = none := by
                have := hcl 0 0 hpos hc0
                simpa [Addr.add] using World.cell?_spot this
              subst hspot
              have hfl2 : ∀ i, i < len → (f i).2.length = P.cellsOf e := fun i hi => by rw [(hf i hi).2.1.1, hfl i hi]
              have hvss : ∀ c ∈ (List.range len).map fun i => (f i).2, c.length = P.cellsOf e := fun c hc => by
                obtain ⟨i, hi, rfl⟩ := List.mem_map.1 hc
                exact hfl2 i (by simpa using hi)
              have hlen1 := flatten_len (P.cellsOf e) _ hcss
              have hlen2 := flatten_len (P.cellsOf e) _ hvss
              simp only [List.length_map, List.length_range] at hlen1 hlen2
              -- the flat rows stand for one another
              have hst : ∀ k, k ≤ len → Stand w ((List.range k).map fun i => (f i).1).flatten ((List.range k).map fun i => (f i).2).flatten := by
                intro k
                induction k with
                | zero => intro _; exact Stand.nil
                | succ k ih =>
                  intro hk
                  rw [List.range_succ, List.map_append, List.map_append, List.flatten_append, List.flatten_append]
                  refine (ih (by omega)).append ?_
                  simpa using (hf k (by omega)).2.1
              have hget : ∀ k, k < len * P.cellsOf e → w.cell? ⟨b, off + k, none⟩ = some ((((List.range len).map fun i => (f i).2).flatten).getD k undef) := fun k hk => by
                have hq : k / P.cellsOf e < len := Nat.div_lt_of_lt_mul (by rw [Nat.mul_comm]; exact hk)
                have hr : k % P.cellsOf e < P.cellsOf e := Nat.mod_lt _ hc0
                have := hcl _ _ hq hr
                rw [show k / P.cellsOf e * P.cellsOf e + k % P.cellsOf e = k from by rw [Nat.mul_comm]; exact Nat.div_add_mod _ _, WideShapes.add_plain] at this
                rw [this]
                congr 1
                have key : ∀ (l : List (List Value)) (s q r : Nat), (∀ c ∈ l, c.length = s) → q < l.length → r < s → (l.getD q []).getD r undef = l.flatten.getD (q * s + r) undef := by
                  intro l s
                  induction l with
                  | nil => intro q r _ h; simp at h
                  | cons c l ih =>
                    intro q r hs hq hr
                    have hcs := hs c (by simp)
                    cases q with
                    | zero =>
                      rw [List.getD_cons_zero, List.flatten_cons, Nat.zero_mul, Nat.zero_add, List.getD_eq_getElem?_getD, List.getD_eq_getElem?_getD, List.getElem?_append_left (by omega)]
                    | succ q =>
                      rw [List.getD_cons_succ, ih q r (fun x hx => hs x (by simp [hx])) (by simpa using hq) hr, List.flatten_cons]
                      simp only [List.getD_eq_getElem?_getD]
                      rw [List.getElem?_append_right (by rw [Nat.succ_mul]; omega)]
                      congr 2
                      rw [Nat.succ_mul]; omega
                have := key ((List.range len).map fun i => (f i).2) (P.cellsOf e) (k / P.cellsOf e) (k % P.cellsOf e) hvss (by simpa using hq) hr
                rw [show k / P.cellsOf e * P.cellsOf e + k % P.cellsOf e = k from by rw [Nat.mul_comm]; exact Nat.div_add_mod _ _] at this
                rw [← this]
                simp [List.getD_eq_getElem?_getD, hq]
              have hprot : off + len * P.cellsOf e ≤ protOf w b := by
                have h1 : 0 < len * P.cellsOf e := Nat.mul_pos hpos hc0
                have := protOf_cell (hget (len * P.cellsOf e - 1) (by omega))
                omega
              exact .sl false _ len _ b off m _ hlen1 hl hm (by rw [hlen1]; exact hprot) (fun i hi => hget i (by omega)) (fun i hi => (hst len (Nat.le_refl _)).2 i hi)
      · -- array
        simp only [Bool.and_eq_true, beq_iff_eq] at hok
        obtain ⟨xs, m, rfl, rfl, hl, hxl, hel⟩ := DataW.trod_array hu hd
        rename_i n e
        obtain ⟨css, h1, h2, h3⟩ := stand_chunks (P := P) (d := d) (e := e) (w := w) (P.cellsOf e) n us (by rw [hl, hok.2]) (fun i hi => by
          have h4 := hel i hi
          rw [List.getElem?_eq_getElem (by omega)] at h4
          exact tc_arg hsp d e m _ _ hok.1 h4 (fun q hq => hw q (by
            simp only [DataW.weights, hu]
            exact weightsAll_mem (i := i) (by rw [List.getElem?_map, List.getElem?_eq_getElem (by omega)]; rfl) hq)))
        exact ⟨_, ⟨css, h1, rfl, h2⟩, h3⟩
      · -- struct
        simp only [Bool.and_eq_true, beq_iff_eq, List.all_eq_true] at hok
        obtain ⟨xs, m, rfl, rfl, hl, hxl, hel⟩ := DataW.trod_struct hu hd
        obtain ⟨cs, h1, h2⟩ := arg_fields (P := P) (d := d) (w := w) (base := base) (spare := spare) (held := held) (enc := enc) (fun t fuel us x => tc_arg hsp d t fuel us x) _ 0 _ m us xs hok.1 hok.2 hl (by simpa using hxl) (fun i f hf => hel i f (by simpa using hf)) (fun q hq => hw q (by
          simp only [DataW.weights, hu]
          exact hq))
        exact ⟨cs, h1, by simpa using h2⟩


/-- What a parameter's value is. -/
def TV (P : Program) (d : Nat) (t : TypeId) (x : V) : Prop := ∃ cs, TC P d t cs ∧ match P.underlying t with
  | some (.struct _) | some (.array _ _) => x = .agg cs
  | _ => cs = [x]

theorem tv_arg {W : World} {d base0 : Nat} {t : TypeId} {v : Value} {x : DataW H} {ps : List MemPlace} (hok : okT P d t = true) (hval : Value.okWide P W .any base0 t v) (hd : DataW.Trod enc P W base (fun _ => true) held t v x ps) {ts : List TypeId} {ds : List (DataW H)} {j : Nat} (hj : ts[j]? = some t) (hdj : ds[j]? = some x)
    (hsz : (DataW.weightsEach P ts ds).all (· ≤ reachBytes) = true) : ∃ y, TV P d t y ∧ VR (gOf W) W y v := by
  obtain ⟨fuel, hf⟩ := hd
  have hw := List.all_eq_true.1 hsz
  obtain ⟨cs, h1, h2⟩ := tc_arg (w := W) (fun _ => rfl) d t fuel _ _ hok hf (fun n hn => of_decide_eq_true (hw n (DataW.weights_mem_each (P := P) hj hdj n hn)))
  have hagg : (∃ us, v = .agg us) → ∃ y, y = .agg cs ∧ VR (gOf W) W y v := by
    rintro ⟨us, rfl⟩
    refine ⟨_, rfl, .agg _ _ (by simpa [Value.cells] using h2.1) (fun i hi => ?_)⟩
    have := h2.2 i hi
    simpa [Value.cells, List.getD_eq_getElem?_getD, Array.getD_eq_getD_getElem?] using this
  have hone : (v.cells = #[v]) → ∃ y, cs = [y] ∧ VR (gOf W) W y v := by
    intro hv
    rw [hv] at h2
    match cs, h2 with
    | [y], h2 => exact ⟨y, rfl, by simpa using h2.2 0 (by simp)⟩
    | [], h2 => have := h2.1; simp at this
    | _ :: _ :: _, h2 => have := h2.1; simp at this
  unfold okT at hok
  cases d with
  | zero => simp at hok
  | succ d =>
    simp only at hok
    cases hu : P.underlying t with
    | none => simp [hu] at hok
    | some k =>
      cases k <;> simp only [hu] at hok <;> try (exact absurd hok Bool.false_ne_true)
      · obtain ⟨b, rfl⟩ := WideShapes.okWide_bool hu hval
        obtain ⟨y, h3, h4⟩ := hone rfl
        exact ⟨y, ⟨cs, h1, by simp only [hu]; exact h3⟩, h4⟩
      · obtain ⟨b, rfl⟩ := WideShapes.okWide_int hu hval
        obtain ⟨y, h3, h4⟩ := hone rfl
        exact ⟨y, ⟨cs, h1, by simp only [hu]; exact h3⟩, h4⟩
      · obtain ⟨b, rfl⟩ := WideShapes.okWide_string hu hval
        obtain ⟨y, h3, h4⟩ := hone rfl
        exact ⟨y, ⟨cs, h1, by simp only [hu]; exact h3⟩, h4⟩
      · obtain ⟨a, b, c, rfl⟩ := WideShapes.okWide_slice hu hval
        obtain ⟨y, h3, h4⟩ := hone rfl
        exact ⟨y, ⟨cs, h1, by simp only [hu]; exact h3⟩, h4⟩
      · obtain ⟨y, h3, h4⟩ := hagg (by
          unfold Value.okWide at hval
          simp only [hu] at hval
          obtain ⟨us, h, _⟩ := hval
          exact ⟨us, h⟩)
        exact ⟨y, ⟨cs, h1, by simp only [hu]; exact h3⟩, h4⟩
      · obtain ⟨y, h3, h4⟩ := hagg (by
          obtain ⟨us, h, _⟩ := WideShapes.okWide_struct hu hval
          exact ⟨us, h⟩)
        exact ⟨y, ⟨cs, h1, by simp only [hu]; exact h3⟩, h4⟩
end

section
variable {d : Nat} {t e : TypeId} {cs : List V}
theorem tc_int (ht : P.underlying t = some (.int .i64)) (h : TC P (d + 1) t cs) : ∃ n, cs = [.flat (.int .i64 n)] ∧ inR n := by
  unfold TC at h; simp only [ht] at h; exact h
theorem tc_str (ht : P.underlying t = some .string) (h : TC P (d + 1) t cs) : ∃ s : List UInt8, cs = [.flat (.string (bs s))] ∧ s.length ≤ 140737488351232 := by
  unfold TC at h; simp only [ht] at h; exact h
theorem tc_u8 (ht : P.underlying t = some (.int .u8)) (h : TC P (d + 1) t cs) : ∃ b : UInt8, cs = [.flat (.int .u8 b.toNat)] := by
  unfold TC at h; simp only [ht] at h
  obtain ⟨n, rfl, h1, h2⟩ := h
  have h1' : (0 : Int) ≤ n := h1
  have h2' : n ≤ 255 := h2
  refine ⟨UInt8.ofNat n.toNat, ?_⟩
  have : ((UInt8.ofNat n.toNat).toNat : Int) = n := by
    rw [UInt8.toNat_ofNat', Nat.mod_eq_of_lt (by show n.toNat < 256; omega), Int.toNat_of_nonneg h1']
  rw [this]
theorem rows_map {α β : Type} (f : α → β) (p : α → Prop) : ∀ (l : List β), (∀ c ∈ l, ∃ x, c = f x ∧ p x) → ∃ xs : List α, l = xs.map f ∧ ∀ x ∈ xs, p x
  | [], _ => ⟨[], rfl, by simp⟩
  | c :: l, h => by
    obtain ⟨x, rfl, hx⟩ := h c (by simp)
    obtain ⟨xs, rfl, hxs⟩ := rows_map f p l (fun c hc => h c (by simp [hc]))
    exact ⟨x :: xs, rfl, by simpa using ⟨hx, hxs⟩⟩
theorem tc_bytes {n : Nat} (ht : P.underlying t = some (.array n e)) (he : P.underlying e = some (.int .u8)) (h : TC P (d + 2) t cs) : ∃ l : List UInt8, l.length = n ∧ cs = bv l := by
  unfold TC at h; simp only [ht] at h
  obtain ⟨css, rfl, rfl, h2⟩ := h
  obtain ⟨xs, rfl, _⟩ := rows_map (fun b : UInt8 => [V.flat (.int .u8 b.toNat)]) (fun _ => True) css (fun c hc => by
    obtain ⟨b, rfl⟩ := tc_u8 (d := d) he (h2 c hc)
    exact ⟨b, rfl, trivial⟩)
  refine ⟨xs, by simp, ?_⟩
  have key : ∀ xs : List UInt8, (xs.map (fun b : UInt8 => [V.flat (.int .u8 b.toNat)])).flatten = bv xs := by
    intro xs
    induction xs with
    | nil => rfl
    | cons x xs ih =>
      rw [List.map_cons, List.flatten_cons, ih]
      rfl
  exact key xs
theorem tc_id32 (ht : P.underlying t = some (.array 32 e)) (he : P.underlying e = some (.int .u8)) (h : TC P (d + 2) t cs) : ∃ x : Id32, cs = bv x.1 := by
  obtain ⟨l, hl, rfl⟩ := tc_bytes ht he h
  exact ⟨⟨l, hl⟩, rfl⟩
theorem tc_id16 (ht : P.underlying t = some (.array 16 e)) (he : P.underlying e = some (.int .u8)) (h : TC P (d + 2) t cs) : ∃ x : Id16, cs = bv x.1 := by
  obtain ⟨l, hl, rfl⟩ := tc_bytes ht he h
  exact ⟨⟨l, hl⟩, rfl⟩
/-- A slice's elements, each by its law. -/
theorem tc_slice {α : Type} (f : α → List V) (p : α → Prop) (ht : P.underlying t = some (.slice e)) {n : Nat} (hn : P.cellsOf e = n) (hel : ∀ c, TC P d e c → ∃ x, c = f x ∧ p x) (h : TC P (d + 1) t cs) :
    ∃ xs : List α, cs = [.sl false n xs.length (xs.map f).flatten] ∧ xs.length ≤ 140737488351232 ∧ ∀ x ∈ xs, p x := by
  unfold TC at h; simp only [ht] at h
  obtain ⟨css, rfl, h1, h2⟩ := h
  obtain ⟨xs, rfl, hp⟩ := rows_map f p css (fun c hc => hel c (h2 c hc))
  subst hn
  exact ⟨xs, by simp, by simpa using h1, hp⟩
theorem tc_struct {fs : Array Field} (ht : P.underlying t = some (.struct fs)) (h : TC P (d + 1) t cs) : TCs (TC P d) (fs.toList.map (·.type)) cs := by
  unfold TC at h; simp only [ht] at h; exact h
theorem tv_agg {fs : Array Field} {x : V} (ht : P.underlying t = some (.struct fs)) (h : TV P d t x) : ∃ cs, x = .agg cs ∧ TC P d t cs := by
  obtain ⟨cs, h1, h2⟩ := h
  simp only [ht] at h2
  exact ⟨cs, h2, h1⟩
theorem tv_arr {n : Nat} {x : V} (ht : P.underlying t = some (.array n e)) (h : TV P d t x) : ∃ cs, x = .agg cs ∧ TC P d t cs := by
  obtain ⟨cs, h1, h2⟩ := h
  simp only [ht] at h2
  exact ⟨cs, h2, h1⟩
theorem tv_sl {x : V} (ht : P.underlying t = some (.slice e)) (h : TV P d t x) : TC P d t [x] := by
  obtain ⟨cs, h1, h2⟩ := h
  simp only [ht] at h2
  rw [← h2]; exact h1
end
end Go.VL
