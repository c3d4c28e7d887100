/- Part OpSpec of the proof: made for this claim. -/
import Derived.Test.YtljfmgfokifooaaStEnt
import Derived.Test.YtljfmgfokifooaaPackRead
set_option linter.unusedVariables false
set_option linter.unusedSimpArgs false
set_option maxRecDepth 100000
set_option maxHeartbeats 4000000
open Go.RowKit
namespace Go.VL
def Dr.kindOk (d : Dr) : Bool := if d.k = 1 ∨ d.k = 2 ∨ d.k = 3 then decide (d.ref = z32) else if d.k = 4 then true else if d.k = 5 then !decide (d.ref = z32) && decide (d.val = []) else false
def Dr.good (d : Dr) : Bool :=
  d.kindOk && (!decide (d.key = []) && decide (d.key.length ≤ 16) && decide (d.val.length ≤ 64))
def Dr.bad2 (d : Dr) : Bool := decide (d.k < 1) || decide (d.k > 5) || decide ((d.key.length : Int) < 1) || decide ((d.key.length : Int) > 16) || decide ((d.val.length : Int) > 64)
theorem Dr.good_of_bad {d : Dr} (h : d.bad2 = true) : d.good = false := by
  cases hg : d.good with
  | false => rfl
  | true =>
    exfalso
    simp only [Dr.good, Dr.kindOk, Bool.and_eq_true, Bool.not_eq_true', decide_eq_true_eq, decide_eq_false_iff_not] at hg
    obtain ⟨h1, ⟨h2, h3⟩, h4⟩ := hg
    have h5 : d.key.length ≠ 0 := fun e => h2 (List.eq_nil_of_length_eq_zero e)
    have h6 : 1 ≤ d.k ∧ d.k ≤ 5 := by
      split at h1
      · omega
      · split at h1
        · omega
        · split at h1
          · omega
          · cases h1
    simp only [Dr.bad2, Bool.or_eq_true, decide_eq_true_eq] at h
    omega
structure Opn where
  d : Dr
  a : Int
  dep : Int
  ps : List Id32
  deriving DecidableEq
def Opn.c (o : Opn) : List V := (⟨o.d, o.a, o.dep, .sl false 32 o.ps.length (idsC o.ps)⟩ : OpR).c
def Opn.ok (o : Opn) : Prop := o.d.ok ∧ inR o.a ∧ inR o.dep ∧ o.ps.length ≤ 140737488351232
def Opn.great (o : Opn) : Bool := decide ((o.ps.length : Int) > 70) || decide ((o.d.key.length : Int) > 512) || decide ((o.d.val.length : Int) > 512)
def Opn.pre (o : Opn) : Bool := !(!o.d.good || decide (o.a < 0) || decide (o.a ≥ 5) || decide (o.dep < 1) || decide ((o.ps.length : Int) > 32) || (decide ((o.ps.length : Int) = 0) != decide (o.dep = 1)))
def asc (l : List Id32) : Prop := ∀ j, j < l.length → 1 ≤ j → cmpL (l.getD (j - 1) z32).1 (l.getD j z32).1 < 0
instance (l : List Id32) : Decidable (asc l) := by unfold asc; infer_instance
def Opn.good (o : Opn) : Bool := o.pre && decide (asc o.ps)
def Opn.bad2 (o : Opn) : Bool := (decide ((o.ps.length : Int) = 0) && !decide (o.dep = 1)) || (decide ((o.ps.length : Int) > 0) && decide (o.dep < 2)) || decide ((o.ps.length : Int) > 32)
def Dr.parts (d : Dr) : List (List UInt8) := [numB d.k.toNat, d.key, d.val, d.ref.1]
def Dr.text (d : Dr) : List UInt8 := listB d.parts
theorem take_bv32 (x : Id32) : (bv x.1).take 32 = bv x.1 := List.take_of_length_le (by rw [bv_length, x.2]; omega)
def kv : Dr := ⟨1, [107], [118], z32⟩
theorem Dr.text_le (d : Dr) (h1 : d.key.length ≤ 16) (h2 : d.val.length ≤ 64) (h3 : d.k < 9223372036854775808) : d.text.length ≤ 200 := by
  have h4 := numB_length d.k.toNat (by omega)
  have h5 : total d.parts = (numB d.k.toNat).length + d.key.length + d.val.length + 32 := by simp [total, Dr.parts, d.ref.2]; omega
  have := listB_le d.parts (by omega) (by simp [Dr.parts])
  rw [show d.parts.length = 4 from rfl] at this
  show (listB d.parts).length ≤ 200
  omega
theorem Dr.good_le {d : Dr} (h : d.good = true) : d.key.length ≤ 16 ∧ d.val.length ≤ 64 := by
  simp only [Dr.good, Bool.and_eq_true, decide_eq_true_eq] at h
  exact ⟨h.2.1.2, h.2.2⟩
theorem Dr.good_k {d : Dr} (h : d.good = true) : 1 ≤ d.k := by
  have := Dr.good_of_bad (d := d)
  cases hb : d.bad2 with
  | true => rw [this hb] at h; cases h
  | false =>
    simp only [Dr.bad2, Bool.or_eq_false_iff, decide_eq_false_iff_not] at hb
    omega
def isBig (s : List UInt8) : Bool := decide ((s.length : Int) > 262144)
def wholeN (s : List UInt8) : Int := ((rNum s (isBig s)).1 : Int)
def wholeOk (s : List UInt8) : Bool := decide (rEnd (rNum s (isBig s)).2.1 (rNum s (isBig s)).2.2 = 0)
def rdDr (s : List UInt8) : Dr × Bool :=
  if h : sE s = 0 ∧ (sR s).length = 4 ∧ ((sR s).getD 3 []).length = 32 then
    (⟨wholeN ((sR s).getD 0 []), (sR s).getD 1 [], (sR s).getD 2 [], ⟨(sR s).getD 3 [], h.2.2⟩⟩, wholeOk ((sR s).getD 0 []))
  else (dr0, false)
theorem rdDr_of {s a b c : List UInt8} {x : Id32} (h0 : sE s = 0) (h : sR s = [a, b, c, x.1]) : rdDr s = (⟨wholeN a, b, c, x⟩, wholeOk a) := by
  unfold rdDr
  rw [dif_pos ⟨h0, by rw [h]; rfl, by rw [h]; exact x.2⟩]
  simp only [h]
  rfl
theorem wholeN_numB (n : Nat) (hn : n < 9223372036854775808) : wholeN (numB n) = n ∧ wholeOk (numB n) = true := by
  have h1 := numB_length n hn
  have hb : isBig (numB n) = false := by unfold isBig; simp; omega
  have h2 := rNum_numB n hn []
  rw [List.append_nil] at h2
  unfold wholeN wholeOk
  rw [hb, h2]
  exact ⟨rfl, rfl⟩
theorem wholeN_range (s : List UInt8) : 0 ≤ wholeN s := by unfold wholeN; omega
def rdDrG (s : List UInt8) : Dr × Int := if (rdDr s).2 = true ∧ (rdDr s).1.good = true then ((rdDr s).1, 0) else (dr0, 4)
theorem rdDr_text {d : Dr} (hd : d.ok) (hk : 0 ≤ d.k) (l1 : d.key.length ≤ 1000) (l2 : d.val.length ≤ 1000) : rdDr d.text = (d, true) := by
  have k1 := hd.1.2
  have h1 := numB_length d.k.toNat (by omega)
  have ht : total d.parts = (numB d.k.toNat).length + d.key.length + d.val.length + 32 := by simp [total, Dr.parts, d.ref.2]; omega
  have hb := listB_le d.parts (by omega) (by simp [Dr.parts])
  rw [show d.parts.length = 4 from rfl] at hb
  obtain ⟨h3, h4⟩ := split_listB d.parts (by omega) (by simp [Dr.parts]) (by omega)
  have := rdDr_of (s := d.text) (a := numB d.k.toNat) (b := d.key) (c := d.val) (x := d.ref) h3 h4
  rw [this]
  obtain ⟨w1, w2⟩ := wholeN_numB d.k.toNat (by omega)
  rw [w1, w2, show ((d.k.toNat : Nat) : Int) = d.k by omega]
theorem rdDrG_text {d : Dr} (hd : d.ok) (hg : d.good = true) : rdDr d.text = (d, true) ∧ rdDrG d.text = (d, 0) := by
  have h1 := Dr.good_le hg
  have h2 := Dr.good_k hg
  have h3 := rdDr_text hd (by omega) (by omega) (by omega)
  refine ⟨h3, ?_⟩
  unfold rdDrG
  rw [h3, if_pos ⟨rfl, hg⟩]
end Go.VL
