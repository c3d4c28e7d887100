/- Part TDrInj of the proof: made for this claim. -/
import Derived.Test.YtnajgcmdkmlimaaTGood
import Derived.Test.YtnajgcmdkmlimaaTDraftA
set_option linter.unusedVariables false
set_option linter.unusedSimpArgs false
set_option maxRecDepth 100000
set_option maxHeartbeats 16000000
open Go.RowKit
namespace Go.VL
open Go.Proofs
/-! A draft's bytes say all of it. -/
theorem listTail_le : ∀ (l : List (List UInt8)), total l < 9223372036854775808 → (listTail l).length ≤ 9 * l.length + total l
  | [], _ => by simp [listTail]
  | s :: l, h => by
    have e1 : total (s :: l) = s.length + total l := by simp [total]
    have h1 := listTail_le l (by omega)
    have h2 := numB_length s.length (by omega)
    simp only [listTail, textB, List.length_append, List.length_cons]
    omega
theorem listB_le (l : List (List UInt8)) (h : total l < 9223372036854775808) (hl : l.length < 9223372036854775808) : (listB l).length ≤ 9 + 9 * l.length + total l := by
  have h1 := listTail_le l h
  have h2 := numB_length l.length hl
  simp only [listB, List.length_append]
  omega
theorem Dr.text_le (d : Dr) (h1 : d.key.length ≤ 16) (h2 : d.val.length ≤ 64) (h3 : d.k < 9223372036854775808) : d.text.length ≤ 200 := by
  have h4 := numB_length d.k.toNat (by omega)
  have h5 : total d.parts = (numB d.k.toNat).length + d.key.length + d.val.length + 32 := by simp [total, Dr.parts, d.ref.2]; omega
  have := listB_le d.parts (by omega) (by simp [Dr.parts])
  rw [show d.parts.length = 4 from rfl] at this
  show (listB d.parts).length ≤ 200
  omega
theorem Dr.good_le {d : Dr} (h : d.good = true) : d.key.length ≤ 16 ∧ d.val.length ≤ 64 := by
  simp only [Dr.good, Bool.and_eq_true, decide_eq_true_eq] at h
  exact ⟨h.2.1.2, h.2.2⟩
theorem numB_inj {n m : Nat} (hn : n < 9223372036854775808) (hm : m < 9223372036854775808) (h : numB n = numB m) : n = m :=
  (numB_pre (r := []) (r' := []) hn hm (by rw [h])).1
theorem Dr.text_inj {a b : Dr} (ha : a.ok) (hb : b.ok) (la : a.key.length ≤ 1000 ∧ a.val.length ≤ 1000) (lb : b.key.length ≤ 1000 ∧ b.val.length ≤ 1000) (ka : 0 ≤ a.k) (kb : 0 ≤ b.k) : a.text = b.text ↔ a = b := by
  obtain ⟨⟨_, a1⟩, _⟩ := ha
  obtain ⟨⟨_, b1⟩, _⟩ := hb
  have h1 := numB_length a.k.toNat (by omega)
  have h2 := numB_length b.k.toNat (by omega)
  unfold Dr.text
  rw [listB_inj (by simp [Dr.parts, total, a.ref.2]; omega) (by simp [Dr.parts, total, b.ref.2]; omega) (by simp [Dr.parts]) (by simp [Dr.parts])]
  constructor
  · intro h
    simp only [Dr.parts, List.cons.injEq, and_true] at h
    obtain ⟨e1, e2, e3, e4⟩ := h
    have := numB_inj (by omega) (by omega) e1
    cases a; cases b
    simp only at *
    subst e2 e3
    have e5 := Subtype.ext e4
    subst e5
    congr 1
    omega
  · rintro rfl; rfl
theorem Dr.good_k {d : Dr} (h : d.good = true) : 1 ≤ d.k := by
  have := Dr.good_of_bad (d := d)
  cases hb : d.bad2 with
  | true => rw [this hb] at h; cases h
  | false =>
    simp only [Dr.bad2, Bool.or_eq_false_iff, decide_eq_false_iff_not] at hb
    omega

end Go.VL
