/- Part MailSpec of the proof: made for this claim. -/
import Derived.Test.YtljfmgfokifooaaStMl
import Derived.Test.YtljfmgfokifooaaVLImp
import Derived.Test.YtljfmgfokifooaaEntSpec
set_option linter.unusedVariables false
set_option linter.unusedSimpArgs false
set_option maxRecDepth 100000
set_option maxHeartbeats 4000000
open Go.RowKit
namespace Go.VL
def ndOk (n : Int) : Bool := decide (n ≥ 0) && decide (n < 5)
def Au.word (a : Au) : Bool := ndOk a.node && decide (a.seq ≥ 0) && decide ((a.sig.length : Int) ≤ 1024)
def Au.parts (a : Au) : List (List UInt8) := [numB a.node.toNat, numB a.seq.toNat, a.hash.1, a.sig]
def Au.text (a : Au) : List UInt8 := listB a.parts
theorem Au.total_le {a : Au} (ha : a.ok) (hs : a.sig.length ≤ 1000000) : total a.parts ≤ 1000100 ∧ a.parts.length = 4 := by
  obtain ⟨h1, h2, h3⟩ := ha
  have b1 := numB_length a.node.toNat (by have := h1.2; omega)
  have b2 := numB_length a.seq.toNat (by have := h2.2; omega)
  unfold Au.parts
  simp [total, a.hash.2]; omega
theorem Au.text_le {a : Au} (ha : a.ok) (n : Nat) (hs : a.sig.length ≤ n) (hn : n ≤ 1000000) : a.text.length ≤ n + 100 := by
  obtain ⟨h1, h2, h3⟩ := id ha
  have b1 := numB_length a.node.toNat (by have := h1.2; omega)
  have b2 := numB_length a.seq.toNat (by have := h2.2; omega)
  have ht : total a.parts ≤ n + 50 := by unfold Au.parts; simp [total, a.hash.2]; omega
  have := listB_le a.parts (by omega) (by simp [Au.parts])
  rw [show a.parts.length = 4 from rfl] at this
  show (listB a.parts).length ≤ _
  omega
structure Mail where
  kind : Int
  from_ : Int
  to : Int
  seq : Int
  prev : Id32
  mask : Int
  pay : List UInt8
  other : Int
  auth : Au
  auths : List Au
  ents : List Ent
  proofs : List (List UInt8)
  deriving DecidableEq
def Mail.ml (m : Mail) : Ml := ⟨m.kind, m.from_, m.to, m.seq, m.prev, m.mask, m.pay, m.other, m.auth, .sl false 35 m.auths.length (Au.lC m.auths), .sl false 73 m.ents.length (Ent.lC m.ents), .sl false 1 m.proofs.length (sv m.proofs)⟩
def Mail.c (m : Mail) : List V := m.ml.c
@[go_sem] theorem Mail.ml_kind (m : Mail) : m.ml.kind = m.kind := rfl
@[go_sem] theorem Mail.ml_from_ (m : Mail) : m.ml.from_ = m.from_ := rfl
@[go_sem] theorem Mail.ml_to (m : Mail) : m.ml.to = m.to := rfl
@[go_sem] theorem Mail.ml_seq (m : Mail) : m.ml.seq = m.seq := rfl
@[go_sem] theorem Mail.ml_prev (m : Mail) : m.ml.prev = m.prev := rfl
@[go_sem] theorem Mail.ml_mask (m : Mail) : m.ml.mask = m.mask := rfl
@[go_sem] theorem Mail.ml_pay (m : Mail) : m.ml.pay = m.pay := rfl
@[go_sem] theorem Mail.ml_other (m : Mail) : m.ml.other = m.other := rfl
@[go_sem] theorem Mail.ml_auth (m : Mail) : m.ml.auth = m.auth := rfl
@[go_sem] theorem Mail.ml_auths (m : Mail) : m.ml.auths = .sl false 35 m.auths.length (Au.lC m.auths) := rfl
@[go_sem] theorem Mail.ml_ents (m : Mail) : m.ml.ents = .sl false 73 m.ents.length (Ent.lC m.ents) := rfl
@[go_sem] theorem Mail.ml_proofs (m : Mail) : m.ml.proofs = .sl false 1 m.proofs.length (sv m.proofs) := rfl
@[go_sem] theorem Mail.ml_z (m : Mail) : m.ml.z = m.ml := rfl
theorem Ml.imp (a : Mail) (x y z : V) (h1 : Imp x (.sl false 35 a.auths.length (Au.lC a.auths))) (h2 : Imp y (.sl false 73 a.ents.length (Ent.lC a.ents))) (h3 : Imp z (.sl false 1 a.proofs.length (sv a.proofs))) :
    Imp (.agg (Ml.c ⟨a.kind, a.from_, a.to, a.seq, a.prev, a.mask, a.pay, a.other, a.auth, x, y, z⟩)) (.agg a.ml.c) := by
  refine Imp.agg ?_
  unfold Mail.ml Ml.c
  repeat' (first | exact ImpL.refl _ | refine ImpL.app (ImpL.refl _) ?_)
  exact ImpL.app (ImpL.cons h1 .nil) (ImpL.app (ImpL.cons h2 .nil) (ImpL.cons h3 .nil))
theorem Mail.agg_low (m : Mail) : Low (.agg m.ml.c) := by
  refine Low.agg ?_
  have hA : ∀ c ∈ Au.lC m.auths, Low c := (FlatS.rows Au.flat m.auths).low
  have hE : ∀ c ∈ Ent.lC m.ents, Low c := (FlatS.rows Ent.flat m.ents).low
  have hP : ∀ c ∈ sv m.proofs, Low c := (FlatS.sv m.proofs).low
  intro c hc
  unfold Mail.ml Ml.c at hc
  simp only [List.mem_append, List.mem_singleton] at hc
  rcases hc with rfl | rfl | rfl | rfl | hc | rfl | rfl | rfl | hc | rfl | rfl | rfl
  all_goals first
    | exact Low.flat _
    | exact (FlatS.bv _).low _ hc
    | exact (Au.flat _).low _ hc
    | exact Low.sl hA
    | exact Low.sl hE
    | exact Low.sl hP
def idxE {α : Type} (p : α → Bool) : List α → Int → Int
  | [], _ => -1
  | a :: l, i => if p a = true then i else idxE p l (i + 1)
theorem idxE_drop {α : Type} (p : α → Bool) (l : List α) (d : α) (i : Nat) (k : Int) (h : i < l.length) : idxE p (l.drop i) k = if p (l.getD i d) = true then k else idxE p (l.drop (i + 1)) (k + 1) := by
  rw [List.drop_eq_getElem_cons h, idxE, List.getD_eq_getElem?_getD, List.getElem?_eq_getElem h]; rfl
theorem idxE_any {α : Type} (p : α → Bool) : ∀ (l : List α) (i : Int), 0 ≤ i → decide (idxE p l i ≥ 0) = l.any p
  | [], i, h => by simp [idxE]
  | a :: l, i, h => by
    unfold idxE
    by_cases hp : p a = true
    · rw [if_pos hp]; simp [hp, h]
    · rw [if_neg hp, idxE_any p l (i + 1) (by omega)]; simp [hp]
theorem all_any {α : Type} (p : α → Bool) (l : List α) : l.all p = !(l.any fun a => !p a) := by
  induction l with
  | nil => rfl
  | cons a l ih => simp [List.all_cons, List.any_cons, ih]
def Mail.ok (m : Mail) : Prop := inR m.kind ∧ inR m.from_ ∧ inR m.to ∧ inR m.seq ∧ inR m.mask ∧ m.pay.length ≤ 140737488351232 ∧ inR m.other ∧ m.auth.ok ∧ ((∀ a ∈ m.auths, a.ok) ∧ m.auths.length ≤ 140737488351232) ∧ ((∀ e ∈ m.ents, e.ok) ∧ m.ents.length ≤ 140737488351232) ∧ ((∀ s ∈ m.proofs, s.length ≤ 140737488351232) ∧ m.proofs.length ≤ 140737488351232)
def Mail.good (m : Mail) : Bool :=
  decide (m.kind ≥ 1) && decide (m.kind ≤ 7) && ndOk m.from_ && ndOk m.to && ndOk m.other && decide (m.seq ≥ 0) && decide (m.mask ≥ 0) && decide (m.mask < 32) && decide ((m.pay.length : Int) ≤ 2048) && m.auth.word
    && decide ((m.auths.length : Int) ≤ 512) && m.auths.all Au.word && decide ((m.ents.length : Int) ≤ 4096) && m.ents.all Ent.good && decide ((m.proofs.length : Int) ≤ 4096)
def autsB (l : List Au) : List UInt8 := listB (l.map Au.text)
def Mail.parts (m : Mail) : List (List UInt8) := [numB m.kind.toNat, numB m.from_.toNat, numB m.to.toNat, numB m.seq.toNat, m.prev.1, numB m.mask.toNat, m.pay, numB m.other.toNat, m.auth.text, autsB m.auths, textsB m.ents, listB m.proofs]
def Mail.bytes (m : Mail) : List UInt8 := listB m.parts
def Mail.text (m : Mail) : List UInt8 := if m.good = true then (if m.bytes.length > 262144 then [] else m.bytes) else []
def Mail.size (m : Mail) : Nat := m.pay.length + m.auth.sig.length + (m.auths.map fun a => a.sig.length).sum + (m.ents.map fun e => e.pay.length + e.sig.length + e.d.key.length + e.d.val.length).sum + total m.proofs
def Mail.small (m : Mail) : Prop := m.size ≤ 8192 ∧ m.auths.length ≤ 20 ∧ m.ents.length ≤ 20 ∧ m.proofs.length ≤ 20
structure Mail.Facts (m : Mail) : Prop where
  kind : 1 ≤ m.kind ∧ m.kind ≤ 7
  from_ : 0 ≤ m.from_ ∧ m.from_ < 5
  to : 0 ≤ m.to ∧ m.to < 5
  other : 0 ≤ m.other ∧ m.other < 5
  seq : 0 ≤ m.seq
  mask : 0 ≤ m.mask ∧ m.mask < 32
  pay : m.pay.length ≤ 2048
  auth : m.auth.word = true
  auths : m.auths.length ≤ 512 ∧ ∀ a ∈ m.auths, a.word = true
  ents : m.ents.length ≤ 4096 ∧ ∀ e ∈ m.ents, e.good = true
  proofs : m.proofs.length ≤ 4096
theorem ndOk_iff (n : Int) : ndOk n = true ↔ 0 ≤ n ∧ n < 5 := by simp [ndOk]
theorem Mail.good_iff (m : Mail) : m.good = true ↔ m.Facts := by
  simp only [Mail.good, Bool.and_eq_true, decide_eq_true_eq, ndOk_iff, List.all_eq_true]
  constructor
  · rintro ⟨⟨⟨⟨⟨⟨⟨⟨⟨⟨⟨⟨⟨⟨a1, a2⟩, a3⟩, a4⟩, a5⟩, a6⟩, a7⟩, a8⟩, a9⟩, b1⟩, b2⟩, b3⟩, b4⟩, b5⟩, b6⟩
    exact ⟨⟨a1, a2⟩, a3, a4, a5, a6, ⟨a7, a8⟩, by omega, b1, ⟨by omega, b3⟩, ⟨by omega, b5⟩, by omega⟩
  · rintro ⟨⟨a1, a2⟩, a3, a4, a5, a6, ⟨a7, a8⟩, a9, b1, ⟨b2, b3⟩, ⟨b4, b5⟩, b6⟩
    exact ⟨⟨⟨⟨⟨⟨⟨⟨⟨⟨⟨⟨⟨⟨a1, a2⟩, a3⟩, a4⟩, a5⟩, a6⟩, a7⟩, a8⟩, by omega⟩, b1⟩, by omega⟩, b3⟩, by omega⟩, b5⟩, by omega⟩
theorem Au.word_iff (a : Au) : a.word = true ↔ (0 ≤ a.node ∧ a.node < 5) ∧ 0 ≤ a.seq ∧ a.sig.length ≤ 1024 := by
  simp only [Au.word, Bool.and_eq_true, decide_eq_true_eq, ndOk_iff]
  constructor
  · rintro ⟨⟨a, b⟩, c⟩; exact ⟨a, b, by omega⟩
  · rintro ⟨a, b, c⟩; exact ⟨⟨a, b⟩, by omega⟩
theorem total_auts : ∀ (l : List Au), (∀ a ∈ l, a.ok) → (∀ a ∈ l, a.word = true) → total (l.map Au.text) ≤ 1124 * l.length
  | [], _, _ => by simp [total]
  | e :: l, h, k => by
    have h1 := Au.text_le (h e (by simp)) 1024 ((Au.word_iff e).1 (k e (by simp))).2.2 (by omega)
    have h2 := total_auts l (fun x hx => h x (by simp [hx])) (fun x hx => k x (by simp [hx]))
    have e1 : total ((e :: l).map Au.text) = e.text.length + total (l.map Au.text) := by simp [total]
    rw [e1, List.length_cons]
    omega
theorem autsB_le {l : List Au} (h : ∀ a ∈ l, a.ok) (k : ∀ a ∈ l, a.word = true) (hl : l.length ≤ 512) : (autsB l).length ≤ 590000 := by
  have h1 := total_auts l h k
  have := listB_le (l.map Au.text) (by omega) (by simp; omega)
  rw [List.length_map] at this
  show (listB (l.map Au.text)).length ≤ _
  omega
theorem textsB_le {l : List Ent} (h : ∀ a ∈ l, a.ok) (hl : l.length ≤ 4096) : (textsB l).length ≤ 17000000 := by
  have h1 := total_texts l h
  have := listB_le (l.map Ent.text) (by omega) (by simp; omega)
  rw [List.length_map] at this
  show (listB (l.map Ent.text)).length ≤ _
  omega
theorem Mail.total_le {m : Mail} (hm : m.ok) (h : m.Facts) (n : Nat) (hn : total m.proofs ≤ n) (hb : n ≤ 100000000000) : total m.parts ≤ 18000000 + n ∧ m.parts.length = 12 := by
  obtain ⟨i1, i2, i3, i4, i5, i6, i7, i8, ⟨i9, _⟩, ⟨j1, _⟩, j2, _⟩ := hm
  have b1 := numB_length m.kind.toNat (by have := i1.2; omega)
  have b2 := numB_length m.from_.toNat (by have := i2.2; omega)
  have b3 := numB_length m.to.toNat (by have := i3.2; omega)
  have b4 := numB_length m.seq.toNat (by have := i4.2; omega)
  have b5 := numB_length m.mask.toNat (by have := i5.2; omega)
  have b6 := numB_length m.other.toNat (by have := i7.2; omega)
  have hw := (Au.word_iff m.auth).1 h.auth
  have b7 := Au.text_le i8 1024 hw.2.2 (by omega)
  have b8 := autsB_le i9 h.auths.2 h.auths.1
  have b9 := textsB_le j1 h.ents.1
  have c1 := listB_le m.proofs (by omega) (by have := h.proofs; omega)
  have c2 := h.pay
  have c3 := h.proofs
  unfold Mail.parts
  simp [total, m.prev.2] at *
  omega
end Go.VL
