/- Part VLD1 of the proof: made for this claim. -/
import Derived.Test.YtnajgcmdkmlimaaVL23
/-! VL: regions that draw their order, memory and all. Part 1: what an operation does, and that free ones may change places. -/
set_option linter.unusedVariables false
set_option linter.unusedSimpArgs false
open Go.RowKit
namespace Go.VL
variable {P : Program} {E : Entry} {w : World} {C : Cfg} {ops : List Oper}

abbrev Mem := Nat → Option (List V)
def AtB (E : Entry) (nt : Nat) (s : Nat → V) (M : Mem) (n : Nat) (a : Act) (w : World) : Prop := AtF E nt s M n a w ∧ ∀ t, nt ≤ t → s t = .unk
def ovr (M : Mem) (bs : List Nat) (vs : Mem) : Mem := fun b => if bs.contains b then vs b else M b
def Agree (M2 M : Mem) (bs : List Nat) : Prop := ∀ b ∈ bs, M2 b = M b
def putS (s : Nat → V) (d : Option Nat) (x : V) : Nat → V := match d with
  | some d => upd s d x
  | none => s

/-- Slots that own do so no more. -/
def dem (s : Nat → V) (dm : List Nat) : Nat → V := fun t => if dm.contains t then (s t).fz else s t
def putD (s : Nat → V) (dm : List Nat) (d : Option Nat) (x : V) : Nat → V := putS (dem s dm) d x
theorem dem_nil (s : Nat → V) : dem s [] = s := by funext t; simp [dem]
theorem putD_nil (s : Nat → V) (d : Option Nat) (x : V) : putD s [] d x = putS s d x := by rw [putD, dem_nil]
theorem V.fz_fz (x : V) : x.fz.fz = x.fz := by cases x <;> rfl
theorem dem_comm (s : Nat → V) (a b : List Nat) : dem (dem s a) b = dem (dem s b) a := by
  funext t
  unfold dem
  by_cases h1 : a.contains t <;> by_cases h2 : b.contains t <;> simp only [h1, h2, if_true, if_false, Bool.false_eq_true]
theorem dem_out {s : Nat → V} {dm : List Nat} {t : Nat} (h : t ∉ dm) : dem s dm t = s t := by
  unfold dem
  rw [if_neg (by simpa using h)]
theorem dem_put {s : Nat → V} {dm : List Nat} {d : Option Nat} {x : V} (h : ∀ e, d = some e → e ∉ dm) : dem (putS s d x) dm = putS (dem s dm) d x := by
  funext t
  unfold putS
  cases d with
  | none => rfl
  | some e =>
    have he := h e rfl
    simp only
    by_cases q : t = e
    · subst q; rw [dem_out he, upd_same, upd_same]
    · unfold dem; rw [upd_ne _ _ q, upd_ne _ _ q]
/-- Slots besides its own that an operation may write: what it takes from. -/
def exOf (T : List Nat) (o : Oper) : List Nat := match o.op with
  | .move (.tmp i) => match o.dst with
    | some d => if T.contains d then [i] else []
    | none => []
  | .assign (.tmp i) => [i]
  | .call c => match c.callee with
    | .builtin .append => match c.args[0]? with
      | some (Operand.tmp i) => [i]
      | _ => []
    | _ => []
  | _ => []
/-- What two operations take from plays no part in one another. -/
def exFree (T : List Nat) (ops : Array Oper) (a b : Oper) : Bool :=
  ((exOf T a).all fun t => !(b.looksAt ops).contains t && b.dst != some t) && ((exOf T b).all fun t => !(a.looksAt ops).contains t && a.dst != some t)

/-- What an operation does, whatever else stands around. -/
def Does (P : Program) (E : Entry) (C : Cfg) (ops : List Oper) (o : Oper) (s : Nat → V) (M : Mem) (n : Nat) (x : V) (M' : Mem) (n' : Nat) (dm : List Nat) : Prop :=
  ∀ s2 : Nat → V, (∀ t, looks ops o t → s2 t = s t) → ∀ i, ops[i]? = some o → ∀ (K' : Act → World → Prop) (Q : Exit → Act → World → Prop) (a : Act) (w : World), AtB E C.nt s2 M n a w →
    (∀ a' w', AtB E C.nt (putD s2 dm o.dst x) M' n' a' w' → K' a' w') → wpOp P ops.toArray Q i K' a w

/-- Its class: 0 the memory plays no part; 1 reads boxes; 2 writes boxes; 3 makes a box; 4, 5: 1, 2 of boxes that were there ahead of the region. -/
def YM (P : Program) (E : Entry) (C : Cfg) (ops : List Oper) (n0 : Nat) (cls : Nat) (o : Oper) (s : Nat → V) (M : Mem) (n : Nat) (x : V) (M' : Mem) (n' : Nat) (dm : List Nat) : Prop :=
  n0 ≤ n ∧ (∀ t ∈ dm, t ∈ exOf C.T o) ∧ match cls with
  | 0 => M' = M ∧ n' = n ∧ ∀ M2 n2, Does P E C ops o s M2 n2 x M2 n2 dm
  | 1 => M' = M ∧ n' = n ∧ ∃ bs, ∀ M2 n2, Agree M2 M bs → Does P E C ops o s M2 n2 x M2 n2 dm
  | 4 => M' = M ∧ n' = n ∧ ∃ bs : List Nat, (∀ b ∈ bs, b < n0) ∧ ∀ M2 n2, Agree M2 M bs → Does P E C ops o s M2 n2 x M2 n2 dm
  | 2 => n' = n ∧ ∃ (bs : List Nat) (vs : Mem), M' = ovr M bs vs ∧ ∀ M2 n2, Agree M2 M bs → Does P E C ops o s M2 n2 x (ovr M2 bs vs) n2 dm
  | 5 => n' = n ∧ ∃ (bs : List Nat) (vs : Mem), (∀ b ∈ bs, b < n0) ∧ M' = ovr M bs vs ∧ ∀ M2 n2, Agree M2 M bs → Does P E C ops o s M2 n2 x (ovr M2 bs vs) n2 dm
  | _ => ∃ z, x = .bp n 0 ∧ M' = upd M n (some z) ∧ n' = n + 1 ∧ ∀ M2 n2, Does P E C ops o s M2 n2 (.bp n2 0) (upd M2 n2 (some z)) (n2 + 1) dm

/-- Which classes may change places. -/
def compat (a b : Nat) : Bool := decide (a ≤ 5) && decide (b ≤ 5) && (a == 0 || b == 0 || ((a == 1 || a == 4) && (b == 1 || b == 4)) || (decide (5 < a + b) && (a == 3 || b == 3) && (a == 4 || b == 4 || a == 5 || b == 5)))

theorem Does.congr {s s' : Nat → V} {o : Oper} {M M' : Mem} {n n' : Nat} {x : V} {dm : List Nat} (h : ∀ t, looks ops o t → s' t = s t) (hd : Does P E C ops o s M n x M' n' dm) : Does P E C ops o s' M n x M' n' dm :=
  fun s2 h2 => hd s2 (fun t ht => (h2 t ht).trans (h t ht))

theorem YM.congr {n0 cls : Nat} {s s' : Nat → V} {o : Oper} {M M' : Mem} {n n' : Nat} {x : V} {dm : List Nat} (h : ∀ t, looks ops o t → s' t = s t) (hy : YM P E C ops n0 cls o s M n x M' n' dm) : YM P E C ops n0 cls o s' M n x M' n' dm := by
  refine ⟨hy.1, hy.2.1, ?_⟩
  have hy := hy.2.2
  split at hy
  · exact ⟨hy.1, hy.2.1, fun M2 n2 => (hy.2.2 M2 n2).congr h⟩
  · obtain ⟨a, b, bs, c⟩ := hy; exact ⟨a, b, bs, fun M2 n2 g => (c M2 n2 g).congr h⟩
  · obtain ⟨a, b, bs, c', c⟩ := hy; exact ⟨a, b, bs, c', fun M2 n2 g => (c M2 n2 g).congr h⟩
  · obtain ⟨a, bs, vs, b, c⟩ := hy; exact ⟨a, bs, vs, b, fun M2 n2 g => (c M2 n2 g).congr h⟩
  · obtain ⟨a, bs, vs, b', b, c⟩ := hy; exact ⟨a, bs, vs, b', b, fun M2 n2 g => (c M2 n2 g).congr h⟩
  · obtain ⟨z, a, b, c, d⟩ := hy; exact ⟨z, a, b, c, fun M2 n2 => (d M2 n2).congr h⟩

theorem upd_ovr {M : Mem} {bs : List Nat} {vs : Mem} {n : Nat} {z : Option (List V)} (h : ∀ b ∈ bs, b < n) : ovr (upd M n z) bs vs = upd (ovr M bs vs) n z := by
  funext b
  unfold ovr upd
  by_cases e : b = n
  · subst e
    have : bs.contains b = false := by
      rw [Bool.eq_false_iff]; intro k
      have := h b (by simpa using k); omega
    simp only [this, if_true]; rfl
  · simp only [e, if_false]

/-- Two operations that may change places do the same, whichever comes first. -/
theorem YM.swap {n0 ci cj : Nat} (hc : compat ci cj = true) {oi oj : Oper} {s si : Nat → V} {M Mi Mij : Mem} {n ni nij : Nat} {xi xj : V} {dmi dmj : List Nat} (hsi : ∀ t, looks ops oj t → si t = s t) (hsj : ∀ sj : Nat → V, sj = putD s dmj oj.dst xj → ∀ t, looks ops oi t → sj t = s t)
    (hi : YM P E C ops n0 ci oi s M n xi Mi ni dmi) (hj : YM P E C ops n0 cj oj si Mi ni xj Mij nij dmj) :
    ∃ Mj nj, YM P E C ops n0 cj oj s M n xj Mj nj dmj ∧ YM P E C ops n0 ci oi (putD s dmj oj.dst xj) Mj nj xi Mij nij dmi := by
  have hj' := hj.congr (s' := s) (fun t ht => (hsi t ht).symm)
  have hs := hsj _ rfl
  obtain ⟨g1, x1, hi2⟩ := id hi
  obtain ⟨g2, x2, hj2⟩ := id hj'
  have z1 : ci = 0 → ∃ Mj nj, YM P E C ops n0 cj oj s M n xj Mj nj dmj ∧ YM P E C ops n0 ci oi (putD s dmj oj.dst xj) Mj nj xi Mij nij dmi := by
    rintro rfl
    obtain ⟨rfl, rfl, h⟩ := hi2
    refine ⟨_, _, hj', (⟨?_, x1, rfl, rfl, fun M2 n2 => (h M2 n2).congr hs⟩ : YM P E C ops n0 0 oi _ _ _ _ _ _ _)⟩
    split at hj2
    · obtain ⟨_, rfl, _⟩ := hj2; exact g1
    · obtain ⟨_, rfl, _⟩ := hj2; exact g1
    · obtain ⟨_, rfl, _⟩ := hj2; exact g1
    · obtain ⟨rfl, _⟩ := hj2; exact g1
    · obtain ⟨rfl, _⟩ := hj2; exact g1
    · obtain ⟨_, _, _, rfl, _⟩ := hj2; omega
  have z2 : cj = 0 → ∃ Mj nj, YM P E C ops n0 cj oj s M n xj Mj nj dmj ∧ YM P E C ops n0 ci oi (putD s dmj oj.dst xj) Mj nj xi Mij nij dmi := by
    rintro rfl
    obtain ⟨rfl, rfl, h⟩ := hj2
    exact ⟨M, n, ⟨g1, x2, rfl, rfl, h⟩, hi.congr hs⟩
  have rd : (ci = 1 ∨ ci = 4) → (cj = 1 ∨ cj = 4) → ∃ Mj nj, YM P E C ops n0 cj oj s M n xj Mj nj dmj ∧ YM P E C ops n0 ci oi (putD s dmj oj.dst xj) Mj nj xi Mij nij dmi := by
    rintro a b
    have e1 : Mi = M ∧ ni = n := by
      rcases a with rfl | rfl
      · exact ⟨hi2.1, hi2.2.1⟩
      · exact ⟨hi2.1, hi2.2.1⟩
    obtain ⟨rfl, rfl⟩ := e1
    have e2 : Mij = Mi ∧ nij = ni := by
      rcases b with rfl | rfl
      · exact ⟨hj2.1, hj2.2.1⟩
      · exact ⟨hj2.1, hj2.2.1⟩
    obtain ⟨rfl, rfl⟩ := e2
    exact ⟨_, _, hj', hi.congr hs⟩
  have e43 : ci = 4 → cj = 3 → ∃ Mj nj, YM P E C ops n0 cj oj s M n xj Mj nj dmj ∧ YM P E C ops n0 ci oi (putD s dmj oj.dst xj) Mj nj xi Mij nij dmi := by
    rintro rfl rfl
    obtain ⟨rfl, rfl, bs, hb, h⟩ := hi2
    obtain ⟨z, rfl, rfl, rfl, h'⟩ := hj2
    refine ⟨_, _, ⟨g1, x2, z, rfl, rfl, rfl, h'⟩, ⟨by omega, x1, rfl, rfl, bs, hb, fun M2 n2 ha => (h M2 n2 (fun b hb2 => ?_)).congr hs⟩⟩
    rw [ha b hb2, upd_ne]; have := hb b hb2; omega
  have e53 : ci = 5 → cj = 3 → ∃ Mj nj, YM P E C ops n0 cj oj s M n xj Mj nj dmj ∧ YM P E C ops n0 ci oi (putD s dmj oj.dst xj) Mj nj xi Mij nij dmi := by
    rintro rfl rfl
    obtain ⟨rfl, bs, vs, hb, rfl, h⟩ := hi2
    obtain ⟨z, rfl, rfl, rfl, h'⟩ := hj2
    refine ⟨_, _, ⟨g1, x2, z, rfl, rfl, rfl, h'⟩, ⟨by omega, x1, rfl, bs, vs, hb, (upd_ovr fun b hb2 => Nat.lt_of_lt_of_le (hb b hb2) g1).symm, fun M2 n2 ha => (h M2 n2 (fun b hb2 => ?_)).congr hs⟩⟩
    rw [ha b hb2, upd_ne]; have := hb b hb2; omega
  have e34 : ci = 3 → cj = 4 → ∃ Mj nj, YM P E C ops n0 cj oj s M n xj Mj nj dmj ∧ YM P E C ops n0 ci oi (putD s dmj oj.dst xj) Mj nj xi Mij nij dmi := by
    rintro rfl rfl
    obtain ⟨z, rfl, rfl, rfl, h⟩ := hi2
    obtain ⟨rfl, rfl, bs, hb, h'⟩ := hj2
    refine ⟨M, n, ⟨g1, x2, rfl, rfl, bs, hb, fun M2 n2 ha => h' M2 n2 (fun b hb2 => ?_)⟩, ⟨g1, x1, z, rfl, rfl, rfl, fun M2 n2 => (h M2 n2).congr hs⟩⟩
    rw [ha b hb2, upd_ne]; have := hb b hb2; omega
  have e35 : ci = 3 → cj = 5 → ∃ Mj nj, YM P E C ops n0 cj oj s M n xj Mj nj dmj ∧ YM P E C ops n0 ci oi (putD s dmj oj.dst xj) Mj nj xi Mij nij dmi := by
    rintro rfl rfl
    obtain ⟨z, rfl, rfl, rfl, h⟩ := hi2
    obtain ⟨rfl, bs, vs, hb, rfl, h'⟩ := hj2
    refine ⟨ovr M bs vs, n, ⟨g1, x2, rfl, bs, vs, hb, rfl, fun M2 n2 ha => h' M2 n2 (fun b hb2 => ?_)⟩, ⟨g1, x1, z, rfl, upd_ovr fun b hb2 => Nat.lt_of_lt_of_le (hb b hb2) g1, rfl, fun M2 n2 => (h M2 n2).congr hs⟩⟩
    rw [ha b hb2, upd_ne]; have := hb b hb2; omega
  have hcc := hc
  simp only [compat, Bool.and_eq_true, decide_eq_true_eq] at hcc
  obtain ⟨⟨k1, k2⟩, k3⟩ := hcc
  have q1 : ci = 0 ∨ ci = 1 ∨ ci = 2 ∨ ci = 3 ∨ ci = 4 ∨ ci = 5 := by omega
  have q2 : cj = 0 ∨ cj = 1 ∨ cj = 2 ∨ cj = 3 ∨ cj = 4 ∨ cj = 5 := by omega
  rcases q1 with q | q | q | q | q | q
  · exact z1 q
  all_goals rcases q2 with p | p | p | p | p | p
  all_goals first
    | exact z2 p
    | exact rd (.inl q) (.inl p)
    | exact rd (.inl q) (.inr p)
    | exact rd (.inr q) (.inl p)
    | exact rd (.inr q) (.inr p)
    | exact e43 q p
    | exact e53 q p
    | exact e34 q p
    | exact e35 q p
    | (exfalso; subst q; subst p; revert hc; decide)

/-! ### Orders -/
abbrev KB := (Nat → V) → Mem → Nat → Prop
abbrev Cl := Nat → Op → Nat
section
variable {n0 : Nat} {cl : Cl}
def qB (P : Program) (E : Entry) (C : Cfg) (ops : List Oper) (n0 : Nat) (cl : Cl) (i : Nat) (K : KB) (s : Nat → V) (M : Mem) (n : Nat) : Prop :=
  ∀ o, ops[i]? = some o → ∃ x M' n' dm, YM P E C ops n0 (cl i o.op) o s M n x M' n' dm ∧ K (putD s dm o.dst x) M' n'
def anyB (P : Program) (E : Entry) (C : Cfg) (ops : List Oper) (n0 : Nat) (cl : Cl) (K : KB) : Nat → Array Bool → KB
  | 0, listed, s, M, n => Region.ready .any ops.toArray listed = [] ∧ K s M n
  | fuel + 1, listed, s, M, n => (Region.ready .any ops.toArray listed = [] → K s M n) ∧ ∀ i ∈ Region.ready .any ops.toArray listed, qB P E C ops n0 cl i (anyB P E C ops n0 cl K fuel (listed.setIfInBounds i true)) s M n

theorem exFree_spec {T : List Nat} {ops : Array Oper} {a b : Oper} (h : exFree T ops a b = true) : (∀ t ∈ exOf T a, t ∉ b.looksAt ops ∧ b.dst ≠ some t) ∧ (∀ t ∈ exOf T b, t ∉ a.looksAt ops ∧ a.dst ≠ some t) := by
  simp only [exFree, Bool.and_eq_true, List.all_eq_true, Bool.not_eq_true', bne_iff_ne, ne_eq] at h
  exact ⟨fun t ht => ⟨by have := (h.1 t ht).1; simpa using this, (h.1 t ht).2⟩, fun t ht => ⟨by have := (h.2 t ht).1; simpa using this, (h.2 t ht).2⟩⟩

theorem putD_comm {s : Nat → V} {oi oj : Oper} {x y : V} {a b : List Nat} (hap : oi.apart ops.toArray oj = true) (ha : ∀ t ∈ a, oj.dst ≠ some t) (hb : ∀ t ∈ b, oi.dst ≠ some t) :
    putD (putD s a oi.dst x) b oj.dst y = putD (putD s b oj.dst y) a oi.dst x := by
  obtain ⟨h1, h2, h3⟩ := Oper.apart_spec hap
  unfold putD
  rw [dem_put (fun e he hm => hb e hm he), dem_put (fun e he hm => ha e hm he), dem_comm]
  cases hi : oi.dst with
  | none => rfl
  | some d =>
    cases hj : oj.dst with
    | none => rfl
    | some e =>
      have : d ≠ e := fun q => h2 d hi (by rw [hj, q])
      exact upd_comm this

theorem qB_put {i j : Nat} {oi oj : Oper} (hj : ops[j]? = some oj) (hap : oi.apart ops.toArray oj = true) (hco : compat (cl i oi.op) (cl j oj.op) = true) (hex : exFree C.T ops.toArray oi oj = true) {K : KB} {s : Nat → V} {M Mi : Mem} {n ni : Nat} {x : V} {dm : List Nat}
    (hy : YM P E C ops n0 (cl i oi.op) oi s M n x Mi ni dm) (h : qB P E C ops n0 cl j K (putD s dm oi.dst x) Mi ni) :
    qB P E C ops n0 cl j (fun s' M' n' => ∃ Mi' ni', YM P E C ops n0 (cl i oi.op) oi s' M' n' x Mi' ni' dm ∧ K (putD s' dm oi.dst x) Mi' ni') s M n := by
  obtain ⟨h1, h2, h3⟩ := Oper.apart_spec hap
  obtain ⟨x1, x2⟩ := exFree_spec hex
  intro o ho
  rw [hj] at ho; cases ho
  obtain ⟨y, Mij, nij, dmj, k2, k3⟩ := h oj hj
  have hm1 := hy.2.1
  have hm2 := k2.2.1
  obtain ⟨Mj, nj, q1, q2⟩ := YM.swap hco (fun t ht => by
    unfold putD putS
    have hn : dem s dm t = s t := dem_out (fun q => (x1 t (hm1 t q)).1 ht)
    cases hd : oi.dst with
    | none => exact hn
    | some d => simp only; rw [upd_ne]; · exact hn
                intro e; exact h1 d hd (e ▸ ht)) (fun sj hsj t ht => by
    subst hsj
    unfold putD putS
    have hn : dem s dmj t = s t := dem_out (fun q => (x2 t (hm2 t q)).1 ht)
    cases hd : oj.dst with
    | none => exact hn
    | some d => simp only; rw [upd_ne]; · exact hn
                intro e; exact h3 d hd (e ▸ ht)) hy k2
  exact ⟨y, Mj, nj, dmj, q1, Mij, nij, q2, by rw [← putD_comm hap (fun t ht => (x1 t (hm1 t ht)).2) (fun t ht => (x2 t (hm2 t ht)).2)]; exact k3⟩

theorem qB_mono {i : Nat} {K K' : KB} {s : Nat → V} {M : Mem} {n : Nat} (h : ∀ s M n, K s M n → K' s M n) (hq : qB P E C ops n0 cl i K s M n) : qB P E C ops n0 cl i K' s M n := fun o ho => by
  obtain ⟨x, M', n', dm, h1, h2⟩ := hq o ho
  exact ⟨x, M', n', dm, h1, h _ _ _ h2⟩

/-- What waits for operation number i, at once or by another one. -/
def blkStep (ops : Array Oper) (i : Nat) (b : List Nat) (j : Nat) : List Nat := match ops[j]? with
  | some o => if o.after.any (fun e => Region.binds .any e && (e.on == i || b.contains e.on)) = true then j :: b else b
  | none => b
def blkOf (ops : Array Oper) (i : Nat) : List Nat := (List.range ops.size).foldl (blkStep ops i) []
theorem blkStep_sub (ops : Array Oper) (i : Nat) (b : List Nat) (j : Nat) : ∀ k ∈ b, k ∈ blkStep ops i b j := fun k hk => by
  unfold blkStep
  split
  · split
    · exact List.mem_cons_of_mem _ hk
    · exact hk
  · exact hk
theorem blk_fold (ops : Array Oper) (i : Nat) : ∀ (l b : List Nat), (∀ j o, ops[j]? = some o → j ∈ b → ∃ e ∈ o.after, Region.binds .any e = true ∧ (e.on = i ∨ e.on ∈ b)) →
    (∀ j o, ops[j]? = some o → j ∈ l.foldl (blkStep ops i) b → ∃ e ∈ o.after, Region.binds .any e = true ∧ (e.on = i ∨ e.on ∈ l.foldl (blkStep ops i) b))
  | [], b, h => h
  | k :: l, b, h => by
    refine blk_fold ops i l (blkStep ops i b k) (fun j o ho hj => ?_)
    have hsub := blkStep_sub ops i b k
    by_cases hb : j ∈ b
    · obtain ⟨e, h1, h2, h3⟩ := h j o ho hb
      exact ⟨e, h1, h2, h3.imp id (hsub _)⟩
    · unfold blkStep at hj
      cases hk : ops[k]? with
      | none => rw [hk] at hj; exact absurd hj hb
      | some ok =>
        rw [hk] at hj
        simp only at hj
        split at hj
        · rename_i ha
          rcases List.mem_cons.1 hj with rfl | hj
          · rw [ho] at hk; cases hk
            simp only [Array.any_eq_true, Bool.and_eq_true, Bool.or_eq_true, beq_iff_eq] at ha
            obtain ⟨q, hq, h2, h3⟩ := ha
            refine ⟨_, Array.getElem_mem hq, h2, h3.imp id (fun h => hsub _ (by simpa using h))⟩
          · exact absurd hj hb
        · exact absurd hj hb

theorem anyB_first {K : KB} {i : Nat} {oi : Oper} {x : V} {dm : List Nat} (hi : ops[i]? = some oi) (blk : List Nat) (hblk : ∀ j oj, ops[j]? = some oj → j ∈ blk → ∃ e ∈ oj.after, Region.binds .any e = true ∧ (e.on = i ∨ e.on ∈ blk)) :
    ∀ (fuel : Nat) (listed : Array Bool) (s : Nat → V) (M : Mem) (n : Nat) (Mi : Mem) (ni : Nat),
      (∀ j ∈ blk, listed.getD j false = false) → (∀ j oj, ops[j]? = some oj → j ≠ i → j ∉ blk → listed.getD j true = false → (∀ e ∈ oj.after, Region.binds .any e = true → e.on ≠ i) → oi.apart ops.toArray oj = true ∧ compat (cl i oi.op) (cl j oj.op) = true ∧ exFree C.T ops.toArray oi oj = true) →
      i ∈ Region.ready .any ops.toArray listed → YM P E C ops n0 (cl i oi.op) oi s M n x Mi ni dm →
      anyB P E C ops n0 cl K fuel (listed.setIfInBounds i true) (putD s dm oi.dst x) Mi ni → anyB P E C ops n0 cl K (fuel + 1) listed s M n
  | 0, listed, s, M, n, Mi, ni, _, _, hr, hy, hn => by
    refine ⟨fun h => (by rw [h] at hr; cases hr), fun j hj => ?_⟩
    by_cases e : j = i
    · subst e
      intro o ho; rw [hi] at ho; cases ho
      exact ⟨x, Mi, ni, dm, hy, hn⟩
    · have := ready_mono hj e
      rw [hn.1] at this; cases this
  | fuel + 1, listed, s, M, n, Mi, ni, hl, hfree, hr, hy, hn => by
    refine ⟨fun h => (by rw [h] at hr; cases hr), fun j hj => ?_⟩
    by_cases e : j = i
    · subst e
      intro o ho; rw [hi] at ho; cases ho
      exact ⟨x, Mi, ni, dm, hy, hn⟩
    · obtain ⟨hjun, oj, hoj', hall⟩ := mem_ready.1 hj
      have hoj : ops[j]? = some oj := by simpa using hoj'
      have hnot : ∀ e ∈ oj.after, Region.binds .any e = true → e.on ≠ i := fun e he hb heq => by
        have k1 := hall e he hb
        have k0 := (mem_ready.1 hr).1
        rw [heq] at k1
        rcases Nat.lt_or_ge i listed.size with h' | h'
        · simp [h'] at k0 k1; rw [k0] at k1; cases k1
        · simp [Array.getElem?_eq_none h'] at k1
      have hjb : j ∉ blk := fun hb => by
        obtain ⟨e', q1, q2, q3⟩ := hblk j oj hoj hb
        rcases q3 with q3 | q3
        · exact hnot e' q1 q2 q3
        · have := hall e' q1 q2
          rw [hl _ q3] at this; cases this
      obtain ⟨f1, f2, f3⟩ := hfree j oj hoj e hjb hjun hnot
      have h1 := qB_put (i := i) hoj f1 f2 f3 hy (hn.2 j (ready_mono hj e))
      refine qB_mono (fun s' M' n' k => ?_) h1
      obtain ⟨Mi', ni', k1, k2⟩ := k
      refine anyB_first hi blk hblk fuel (listed.setIfInBounds j true) s' M' n' Mi' ni' (fun m hm => ?_) (fun k' ok hk hki hkb hun hno => ?_) (ready_mono hr (Ne.symm e)) k1 ?_
      · have hmj : j ≠ m := fun q => hjb (q ▸ hm)
        rw [getD_set_ne false hmj]; exact hl m hm
      · refine hfree k' ok hk hki hkb ?_ hno
        by_cases hjk : j = k'
        · subst hjk; exact hjun
        · rw [getD_set_ne true hjk] at hun; exact hun
      · rw [Array.setIfInBounds_comm _ _ e]; exact k2

def freeC (T : List Nat) (ops : Array Oper) (cl : Cl) (listed : Array Bool) (i : Nat) : Bool := match ops[i]? with
  | none => false
  | some oi => ((blkOf ops i).all fun j => !(listed.getD j false)) && (List.range ops.size).all fun j => j == i || (listed.getD j true || ((blkOf ops i).contains j || match ops[j]? with
      | some oj => oj.after.any (fun e => Region.binds .any e && e.on == i) || (oi.apart ops oj && (compat (cl i oi.op) (cl j oj.op) && exFree T ops oi oj))
      | none => true))
theorem freeC_blk {T : List Nat} {ops : Array Oper} {i : Nat} {oi : Oper} {listed : Array Bool} (hi : ops[i]? = some oi) (h : freeC T ops cl listed i = true) : ∀ j ∈ blkOf ops i, listed.getD j false = false := by
  simp only [freeC, hi, Bool.and_eq_true, List.all_eq_true, Bool.not_eq_true'] at h
  exact h.1
theorem freeC_spec {T : List Nat} {ops : Array Oper} {i : Nat} {oi : Oper} {listed : Array Bool} (hi : ops[i]? = some oi) (h : freeC T ops cl listed i = true) (j : Nat) (oj : Oper)
    (hj : ops[j]? = some oj) (hne : j ≠ i) (hb : j ∉ blkOf ops i) (hun : listed.getD j true = false) (hno : ∀ e ∈ oj.after, Region.binds .any e = true → e.on ≠ i) :
    oi.apart ops oj = true ∧ compat (cl i oi.op) (cl j oj.op) = true ∧ exFree T ops oi oj = true := by
  simp only [freeC, hi, Bool.and_eq_true, List.all_eq_true, List.mem_range] at h
  have h1 := h.2 j (Array.getElem?_eq_some_iff.1 hj).1
  have hb' : (blkOf ops i).contains j = false := by simpa using hb
  simp only [hj, Bool.or_eq_true, beq_iff_eq, hne, false_or, hun, hb', Bool.false_eq_true] at h1
  rcases h1 with h1 | h1
  · exfalso
    simp only [Array.any_eq_true, Bool.and_eq_true, beq_iff_eq] at h1
    obtain ⟨k, hk, q1, q2⟩ := h1
    exact hno _ (Array.getElem_mem hk) q1 q2
  · simpa using h1
def lexC (T : List Nat) (ops : Array Oper) (cl : Cl) : Nat → Nat → Array Bool → Bool
  | 0, _, listed => (Region.ready .any ops listed).isEmpty
  | fuel + 1, k, listed => (Region.ready .any ops listed).contains k && freeC T ops cl listed k && lexC T ops cl fuel (k + 1) (listed.setIfInBounds k true)

/-- The operations in their own order. -/
def LB (P : Program) (E : Entry) (C : Cfg) (ops : List Oper) (n0 : Nat) (cl : Cl) (K : KB) : List Oper → Nat → KB
  | [], _, s, M, n => K s M n
  | o :: l, k, s, M, n => ∃ x M' n' dm, YM P E C ops n0 (cl k o.op) o s M n x M' n' dm ∧ LB P E C ops n0 cl K l (k + 1) (putD s dm o.dst x) M' n'

theorem anyB_lex {K : KB} : ∀ (l : List Oper) (k : Nat) (listed : Array Bool) (s : Nat → V) (M : Mem) (n : Nat), (∀ j, l[j]? = ops[k + j]?) →
    lexC C.T ops.toArray cl l.length k listed = true → LB P E C ops n0 cl K l k s M n → anyB P E C ops n0 cl K l.length listed s M n
  | [], _, _, _, _, _, _, hB, h => ⟨by simpa [lexC] using hB, h⟩
  | o :: l, k, listed, s, M, n, hl, hB, h => by
    have h0 : ops[k]? = some o := by simpa using (hl 0).symm
    have h0' : ops.toArray[k]? = some o := by simpa using h0
    simp only [List.length_cons, lexC, Bool.and_eq_true] at hB
    obtain ⟨⟨hr, hf⟩, hB'⟩ := hB
    obtain ⟨x, M', n', dm, h2, h3⟩ := h
    exact anyB_first h0 (blkOf ops.toArray k) (fun j oj hj hb => blk_fold ops.toArray k _ [] (fun _ _ _ h => by cases h) j oj (by simpa using hj) hb) l.length listed s M n M' n' (freeC_blk h0' hf) (fun j oj hj => freeC_spec h0' hf j oj (by simpa using hj)) (by simpa using hr) h2
      (anyB_lex l (k + 1) _ _ _ _ (fun j => by have := hl (j + 1); simpa [Nat.add_assoc, Nat.add_comm 1 j] using this) hB' h3)

theorem qB_sound {i : Nat} {K : KB} {K' : Act → World → Prop} {Q : Exit → Act → World → Prop}
    (hK : ∀ s M n a w, AtB E C.nt s M n a w → K s M n → K' a w) {s : Nat → V} {M : Mem} {n : Nat} {a : Act} {w : World} (hA : AtB E C.nt s M n a w) (hi : i < ops.length) (h : qB P E C ops n0 cl i K s M n) : wpOp P ops.toArray Q i K' a w := by
  obtain ⟨o, ho⟩ : ∃ o, ops[i]? = some o := ⟨_, List.getElem?_eq_getElem hi⟩
  obtain ⟨x, M', n', dm, hy, hk⟩ := h o ho
  have hd : Does P E C ops o s M n x M' n' dm := by
    obtain ⟨_, _, hy⟩ := hy
    split at hy
    · obtain ⟨rfl, rfl, k⟩ := hy; exact k _ _
    · obtain ⟨rfl, rfl, bs, k⟩ := hy; exact k _ _ (fun _ _ => rfl)
    · obtain ⟨rfl, rfl, bs, _, k⟩ := hy; exact k _ _ (fun _ _ => rfl)
    · obtain ⟨rfl, bs, vs, rfl, k⟩ := hy; exact k _ _ (fun _ _ => rfl)
    · obtain ⟨rfl, bs, vs, _, rfl, k⟩ := hy; exact k _ _ (fun _ _ => rfl)
    · obtain ⟨z, rfl, rfl, rfl, k⟩ := hy; exact k _ _
  exact hd s (fun _ _ => rfl) i ho K' Q a w hA (fun a' w' h' => hK _ _ _ a' w' h' hk)

theorem anyB_sound {K : KB} {Q : Exit → Act → World → Prop}
    (hQ : ∀ s M n a w, AtB E C.nt s M n a w → K s M n → Q .normal a w) : ∀ (fuel : Nat) (listed : Array Bool) (s : Nat → V) (M : Mem) (n : Nat) (a : Act) (w : World), AtB E C.nt s M n a w → anyB P E C ops n0 cl K fuel listed s M n → wpAny P .any ops.toArray Q fuel listed a w
  | 0, _, _, _, _, _, _, hA, h => ⟨h.1, hQ _ _ _ _ _ hA h.2⟩
  | fuel + 1, listed, s, M, n, a, w, hA, h => ⟨fun h0 => hQ _ _ _ _ _ hA (h.1 h0), fun i hi => by
      have hlt : i < ops.length := by
        obtain ⟨_, o, ho, _⟩ := mem_ready.1 hi
        simpa using (Array.getElem?_eq_some_iff.1 ho).1
      exact qB_sound (fun s' M' n' a' w' hA' hk => anyB_sound hQ fuel _ s' M' n' a' w' hA' hk) hA hlt (h.2 i hi)⟩

end
end Go.VL
