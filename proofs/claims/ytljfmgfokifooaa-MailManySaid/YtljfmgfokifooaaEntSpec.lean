/- Part EntSpec of the proof: made for this claim. -/
import Derived.Test.YtljfmgfokifooaaOpSpec
set_option linter.unusedVariables false
set_option linter.unusedSimpArgs false
set_option maxRecDepth 100000
set_option maxHeartbeats 4000000
open Go.RowKit
namespace Go.VL
def Ent.out (e : Ent) : Bool := decide (e.mask ≥ 1) && decide (e.mask ≤ 31) && decide ((e.pay.length : Int) ≤ 2048)
def Ent.none (e : Ent) : Bool := decide (e.d.k = 0) && decide (e.d.key = []) && decide (e.d.val = []) && decide (e.d.ref = z32)
def Ent.bare (e : Ent) : Bool := decide (e.from_ = 0) && decide (e.seq = 0) && decide (e.prev = z32) && decide (e.sig = [])
def Ent.good (e : Ent) : Bool :=
  if e.kind = 1 then e.d.good && e.bare && decide (e.mask = 0) && decide (e.pay = [])
  else if e.kind = 2 then e.out && e.none && decide (e.from_ ≥ 0) && decide (e.from_ ≤ 4) && decide (e.seq ≥ 1) && decide ((e.sig.length : Int) ≤ 1024)
  else decide (e.kind = 3) && e.out && e.none && e.bare
theorem Ent.out_mask (e : Ent) : (decide (e.mask > 0) && decide (e.mask < 32) && decide ((e.pay.length : Int) ≤ 2048)) = e.out := by
  unfold Ent.out
  rw [Bool.eq_iff_iff]
  simp only [Bool.and_eq_true, decide_eq_true_eq]
  omega
theorem Ent.none_eq (e : Ent) : e.none = decide (e.d = dr0) := by
  rw [Bool.eq_iff_iff]
  simp only [Ent.none, Bool.and_eq_true, decide_eq_true_eq]
  constructor
  · rintro ⟨⟨⟨a, b⟩, c⟩, d⟩
    cases hd : e.d
    rw [hd] at a b c d
    simp only at a b c d
    subst a b c d
    rfl
  · intro h; rw [h]; exact ⟨⟨⟨rfl, rfl⟩, rfl⟩, rfl⟩
def entD (d : Dr) : Ent := { ent0 with kind := 1, d := d }
def entO (m : Int) (p : List UInt8) : Ent := { ent0 with kind := 3, mask := m, pay := p }
theorem Ent.good1 {e : Ent} (h : e.kind = 1) : e.good = (e.d.good && decide (e = entD e.d)) := by
  rw [Ent.good, if_pos h, Bool.eq_iff_iff]
  simp only [Ent.bare, Bool.and_eq_true, decide_eq_true_eq]
  constructor
  · rintro ⟨⟨⟨a, ⟨⟨b1, b2⟩, b3⟩, b4⟩, c⟩, d⟩
    refine ⟨a, ?_⟩
    cases e
    simp only at h b1 b2 b3 b4 c d
    subst h b1 b2 b3 b4 c d
    rfl
  · rintro ⟨a, b⟩
    rw [b]
    exact ⟨⟨⟨by rw [← b]; exact a, ⟨⟨rfl, rfl⟩, rfl⟩, rfl⟩, rfl⟩, rfl⟩
theorem Ent.good3 {e : Ent} (h : e.kind = 3) : e.good = (e.out && decide (e = entO e.mask e.pay)) := by
  rw [Ent.good, if_neg (by omega), if_neg (by omega), Ent.none_eq, Bool.eq_iff_iff]
  simp only [Ent.bare, Bool.and_eq_true, decide_eq_true_eq]
  constructor
  · rintro ⟨⟨⟨_, a⟩, n⟩, ⟨⟨b1, b2⟩, b3⟩, b4⟩
    refine ⟨a, ?_⟩
    cases e
    simp only at h n b1 b2 b3 b4
    subst h n b1 b2 b3 b4
    rfl
  · rintro ⟨a, b⟩
    rw [b]
    exact ⟨⟨⟨rfl, by rw [← b]; exact a⟩, rfl⟩, ⟨⟨rfl, rfl⟩, rfl⟩, rfl⟩
theorem Ent.good2 {e : Ent} (h : e.kind = 2) : e.good = (e.out && decide (e.d = dr0) && decide (e.from_ ≥ 0) && decide (e.from_ < 5) && decide (e.seq > 0) && decide ((e.sig.length : Int) ≤ 1024)) := by
  rw [Ent.good, if_neg (by omega), if_pos h, Ent.none_eq, Bool.eq_iff_iff]
  simp only [Bool.and_eq_true, decide_eq_true_eq]
  constructor <;> (rintro ⟨⟨⟨⟨⟨a, b⟩, c⟩, d⟩, e1⟩, f⟩; exact ⟨⟨⟨⟨⟨a, b⟩, c⟩, by omega⟩, by omega⟩, f⟩)
theorem Ent.good0 {e : Ent} (h1 : e.kind ≠ 1) (h2 : e.kind ≠ 2) (h3 : e.kind ≠ 3) : e.good = false := by
  rw [Ent.good, if_neg h1, if_neg h2, decide_eq_false h3]; rfl
def Ent.parts (e : Ent) : List (List UInt8) :=
  if e.kind = 1 then [numB e.kind.toNat, e.d.text]
  else if e.kind = 2 then [numB e.kind.toNat, numB e.from_.toNat, numB e.seq.toNat, e.prev.1, numB e.mask.toNat, e.pay, e.sig]
  else [numB e.kind.toNat, numB e.mask.toNat, e.pay]
def Ent.text (e : Ent) : List UInt8 := if e.good = true then listB e.parts else []
theorem Ent.good_le {e : Ent} (h : e.good = true) : e.pay.length ≤ 2048 ∧ e.sig.length ≤ 1024 ∧ e.d.key.length ≤ 16 ∧ e.d.val.length ≤ 64 := by
  rw [Ent.good] at h
  split at h
  · simp only [Ent.bare, Bool.and_eq_true, decide_eq_true_eq] at h
    obtain ⟨⟨⟨h1, ⟨_, h2⟩⟩, _⟩, h3⟩ := h
    have := Dr.good_le h1
    rw [h2, h3]
    simp; exact this
  · split at h
    · rw [Ent.none_eq] at h
      simp only [Ent.out, Bool.and_eq_true, decide_eq_true_eq] at h
      obtain ⟨⟨⟨⟨⟨⟨_, h1⟩, h2⟩, _⟩, _⟩, _⟩, h3⟩ := h
      rw [h2]
      exact ⟨by omega, by omega, by simp [dr0], by simp [dr0]⟩
    · rw [Ent.none_eq] at h
      simp only [Ent.out, Ent.bare, Bool.and_eq_true, decide_eq_true_eq] at h
      obtain ⟨⟨⟨_, ⟨_, h1⟩⟩, h2⟩, ⟨_, h3⟩⟩ := h
      rw [h2, h3]
      exact ⟨by omega, by simp, by simp [dr0], by simp [dr0]⟩
def Ent.great (e : Ent) : Bool := decide ((e.pay.length : Int) > 20000) || decide ((e.sig.length : Int) > 2000) || decide ((e.d.key.length : Int) > 200) || decide ((e.d.val.length : Int) > 200)
theorem Ent.total_le {e : Ent} (he : e.ok) (h : e.good = true) : total e.parts ≤ 1000000 ∧ e.parts.length ≤ 7 := by
  obtain ⟨i1, i2, i3, i4, i5, i6, i7⟩ := he
  have n5 : e.d.k < 9223372036854775808 := by have := i2.1.2; omega
  have b1 := numB_length e.kind.toNat (by have := i1.2; omega)
  have b2 := numB_length e.from_.toNat (by have := i3.2; omega)
  have b3 := numB_length e.seq.toNat (by have := i4.2; omega)
  have b4 := numB_length e.mask.toNat (by have := i5.2; omega)
  obtain ⟨c1, c2, c3, c4⟩ := Ent.good_le h
  have b5 := Dr.text_le e.d c3 c4 n5
  unfold Ent.parts
  split
  · simp [total]; omega
  · split
    · simp [total, e.prev.2]; omega
    · simp [total]; omega
theorem Ent.kinds {e : Ent} (h : e.good = true) : e.kind = 1 ∨ e.kind = 2 ∨ e.kind = 3 := by
  by_cases h1 : e.kind = 1
  · exact .inl h1
  · by_cases h2 : e.kind = 2
    · exact .inr (.inl h2)
    · by_cases h3 : e.kind = 3
      · exact .inr (.inr h3)
      · rw [Ent.good0 h1 h2 h3] at h; cases h
theorem Ent.out_ge {e : Ent} (h : e.out = true) : 1 ≤ e.mask := by
  simp only [Ent.out, Bool.and_eq_true, decide_eq_true_eq] at h
  omega
def outE (o : Ou) : Ent := entO o.mask o.pay
theorem Ent.text_le {e : Ent} (he : e.ok) : e.text.length ≤ 4000 := by
  unfold Ent.text
  split
  · rename_i hg
    obtain ⟨i1, i2, i3, i4, i5, i6, i7⟩ := he
    have n5 : e.d.k < 9223372036854775808 := by have := i2.1.2; omega
    have b1 := numB_length e.kind.toNat (by have := i1.2; omega)
    have b2 := numB_length e.from_.toNat (by have := i3.2; omega)
    have b3 := numB_length e.seq.toNat (by have := i4.2; omega)
    have b4 := numB_length e.mask.toNat (by have := i5.2; omega)
    obtain ⟨c1, c2, c3, c4⟩ := Ent.good_le hg
    have b5 := Dr.text_le e.d c3 c4 n5
    have ht : total e.parts ≤ 3200 ∧ e.parts.length ≤ 7 := by
      unfold Ent.parts
      split
      · simp [total]; omega
      · split
        · simp [total, e.prev.2]; omega
        · simp [total]; omega
    have := listB_le e.parts (by omega) (by omega)
    omega
  · simp
theorem total_texts : ∀ (l : List Ent), (∀ e ∈ l, e.ok) → total (l.map Ent.text) ≤ 4000 * l.length
  | [], _ => by simp [total]
  | e :: l, h => by
    have h1 := Ent.text_le (h e (by simp))
    have h2 := total_texts l (fun x hx => h x (by simp [hx]))
    have e1 : total ((e :: l).map Ent.text) = e.text.length + total (l.map Ent.text) := by simp [total]
    rw [e1, List.length_cons]
    omega
def textsB (l : List Ent) : List UInt8 := listB (l.map Ent.text)
def numT (s : List UInt8) : Int := if wholeOk s = true then wholeN s else -1
theorem numT_numB (n : Int) (h0 : 0 ≤ n) (hn : n < 9223372036854775808) : numT (numB n.toNat) = n := by
  obtain ⟨w1, w2⟩ := wholeN_numB n.toNat (by omega)
  unfold numT
  rw [if_pos w2, w1]
  omega
theorem sE_nil : sE [] = 4 := by decide
end Go.VL
