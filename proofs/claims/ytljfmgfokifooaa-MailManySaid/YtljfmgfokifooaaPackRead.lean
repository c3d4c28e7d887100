/- Part PackRead of the proof: made for this claim. -/
import Derived.Test.YtljfmgfokifooaaPackSpec
set_option linter.unusedVariables false
set_option linter.unusedSimpArgs false
set_option maxRecDepth 100000
open Go.RowKit
namespace Go.VL
def rd (s : List UInt8) (f : Bool) : Option (List V) := some [.flat (.string (bs s)), .flat (.bool f)]
def rTake (n : Nat) (s : List UInt8) (f : Bool) : List UInt8 × (List UInt8 × Bool) := if f = true ∨ s.length < n then ([], ([], true)) else (s.take n, (s.drop n, false))
def be (l : List UInt8) : Nat := l.foldl (fun n b => n * 256 + b.toNat) 0
theorem be_snoc (l : List UInt8) (b : UInt8) : be (l ++ [b]) = be l * 256 + b.toNat := by simp [be]
theorem be_acc : ∀ (l : List UInt8) (n : Nat), l.foldl (fun n b => n * 256 + b.toNat) n = n * 256 ^ l.length + be l
  | [], n => by simp [be]
  | b :: r, n => by
    have h1 := be_acc r (n * 256 + b.toNat)
    have h2 := be_acc r b.toNat
    simp only [be, List.foldl_cons, Nat.zero_mul, Nat.zero_add, List.length_cons, Nat.pow_succ] at *
    rw [h1, h2, Nat.add_mul, Nat.mul_assoc, Nat.mul_comm 256, Nat.add_assoc]
theorem be_cons (b : UInt8) (l : List UInt8) : be (b :: l) = b.toNat * 256 ^ l.length + be l := by
  rw [← be_acc l b.toNat]
  simp [be]
theorem be_lt : ∀ (l : List UInt8), be l < 256 ^ l.length
  | [] => by simp [be]
  | b :: r => by
    have h1 := be_lt r
    have h2 := b.toNat_lt
    rw [be_cons, List.length_cons, Nat.pow_succ]
    have : b.toNat * 256 ^ r.length ≤ 255 * 256 ^ r.length := Nat.mul_le_mul_right _ (by omega)
    omega
def badNum (l : List UInt8) : Bool := decide (8 < l.length) || (decide (0 < l.length) && decide (l.getD 0 0 = 0)) || (decide (l.length = 8) && decide (127 < (l.getD 0 0).toNat))
theorem be_good {l : List UInt8} (h : badNum l = false) : be l < 9223372036854775808 ∧ l.length ≤ 8 := by
  simp only [badNum, Bool.or_eq_false_iff, Bool.and_eq_false_iff, decide_eq_false_iff_not] at h
  obtain ⟨⟨h1, h2⟩, h3⟩ := h
  refine ⟨?_, by omega⟩
  by_cases h8 : l.length = 8
  · rcases h3 with h3 | h3
    · exact absurd h8 h3
    · cases l with
      | nil => simp at h8
      | cons b r =>
        have h7 : r.length = 7 := by simpa using h8
        have := be_lt r
        rw [be_cons, h7] at *
        simp at h3
        have hb : b.toNat ≤ 127 := by omega
        have := Nat.mul_le_mul_right (256 ^ 7) hb
        omega
  · have := be_lt l
    have h7 : l.length ≤ 7 := by omega
    have := Nat.pow_le_pow_right (show 0 < 256 by omega) h7
    omega
theorem shlor (n b : Nat) (h : n * 256 + b < 9223372036854775808) (hb : b < 256) : IntKind.i64.wrap (((BitVec.ofInt IntKind.i64.bits (IntKind.i64.wrap ((n : Int) * 2 ^ min 8 IntKind.i64.bits)) ||| BitVec.ofInt IntKind.i64.bits (b : Int)).toNat : Int)) = ((n * 256 + b : Nat) : Int) := by
  have e1 : IntKind.i64.wrap ((n : Int) * 2 ^ min 8 IntKind.i64.bits) = ((n * 256 : Nat) : Int) := by
    show IntKind.i64.wrap ((n : Int) * 256) = _
    rw [wi (by omega) (by omega)]; omega
  rw [e1]
  have e2 : (BitVec.ofInt IntKind.i64.bits ((n * 256 : Nat) : Int) ||| BitVec.ofInt IntKind.i64.bits (b : Int)).toNat = n * 256 + b := by
    show (BitVec.ofInt 64 ((n * 256 : Nat) : Int) ||| BitVec.ofInt 64 (b : Int)).toNat = _
    rw [BitVec.toNat_or, BitVec.ofInt_natCast, BitVec.ofInt_natCast, BitVec.toNat_ofNat, BitVec.toNat_ofNat, Nat.mod_eq_of_lt (by omega), Nat.mod_eq_of_lt (by omega)]
    have := Nat.shiftLeft_add_eq_or_of_lt (i := 8) (b := b) (by omega) n
    rw [Nat.shiftLeft_eq] at this
    exact this.symm
  rw [e2, wi (by omega) (by omega)]
def rNum (s : List UInt8) (f : Bool) : Nat × (List UInt8 × Bool) :=
  let a := rTake 1 s f
  if a.2.2 = true then (0, a.2) else
    let c := rTake (a.1.getD 0 0).toNat a.2.1 a.2.2
    if badNum c.1 = true then (0, ([], true)) else (be c.1, c.2)
def rEnd (s : List UInt8) (f : Bool) : Int := if f = true ∨ s ≠ [] then 4 else 0
theorem be_rev (l : List UInt8) : be l.reverse = val l := by
  induction l with
  | nil => rfl
  | cons b r ih => rw [List.reverse_cons, be_snoc, ih, val]; omega
theorem le_top : ∀ (n : Nat), 0 < n → 0 < ((le n).reverse.getD 0 0).toNat := by
  intro n
  induction n using Nat.strongRecOn with
  | _ n ih =>
    intro h
    rw [le_pos h]
    rcases Nat.eq_zero_or_pos (n / 256) with h0 | h0
    · rw [h0, le_zero]
      simp
      omega
    · have h1 := ih (n / 256) (Nat.div_lt_self h (by omega)) h0
      rw [List.reverse_cons]
      have h2 : 0 < (le (n / 256)).reverse.length := by rw [le_pos h0]; simp
      rw [List.getD_eq_getElem?_getD, List.getElem?_append_left h2, ← List.getD_eq_getElem?_getD]
      exact h1
theorem good_le (n : Nat) (hn : n < 9223372036854775808) : badNum (le n).reverse = false := by
  have h8 := le_length 8 n (by omega)
  rcases Nat.eq_zero_or_pos n with rfl | h
  · rw [le_zero]; rfl
  · have ht := le_top n h
    have hv : be (le n).reverse = n := by rw [be_rev, val_le]
    cases hl : (le n).reverse with
    | nil => rfl
    | cons b r =>
      rw [hl] at ht hv
      have hlen : r.length + 1 ≤ 8 := by
        have := congrArg List.length hl
        rw [List.length_reverse, List.length_cons] at this
        omega
      simp only [List.getD_cons_zero] at ht
      simp only [badNum, List.length_cons, List.getD_cons_zero, Bool.or_eq_false_iff, Bool.and_eq_false_iff, decide_eq_false_iff_not]
      refine ⟨⟨by omega, .inr ?_⟩, ?_⟩
      · intro hb; subst hb; simp at ht
      · by_cases h7 : r.length = 7
        · right
          rw [be_cons, h7] at hv
          intro hb
          have := Nat.mul_le_mul_right (256 ^ 7) (show 128 ≤ b.toNat by omega)
          omega
        · left; omega
theorem rNum_numB (n : Nat) (hn : n < 9223372036854775808) (r : List UInt8) : rNum (numB n ++ r) false = (n, (r, false)) := by
  have h8 := le_length 8 n (by omega)
  have h1 : rTake 1 (numB n ++ r) false = ([UInt8.ofNat (le n).length], ((le n).reverse ++ r, false)) := by
    simp [rTake, numB]
  have h2 : rTake (le n).length ((le n).reverse ++ r) false = ((le n).reverse, (r, false)) := by
    have e : ¬ ((le n).reverse ++ r).length < (le n).length := by simp
    simp only [rTake, e, or_false, Bool.false_eq_true, if_false]
    rw [← List.length_reverse, List.take_left, List.drop_left]
  have h3 : (UInt8.ofNat (le n).length).toNat = (le n).length := by simp; omega
  simp only [rNum, h1]
  simp only [Bool.false_eq_true, if_false, List.getD_cons_zero, h3, h2, good_le n hn]
  rw [be_rev, val_le]
def rText (s : List UInt8) (f : Bool) : List UInt8 × (List UInt8 × Bool) := rTake (rNum s f).1 (rNum s f).2.1 (rNum s f).2.2
def rTexts : Nat → List UInt8 → Bool → List (List UInt8) × (List UInt8 × Bool)
  | 0, s, f => ([], (s, f))
  | n + 1, s, f => if f = true then ([], (s, f)) else
    ((rText s f).1 :: (rTexts n (rText s f).2.1 (rText s f).2.2).1, (rTexts n (rText s f).2.1 (rText s f).2.2).2)
def rStart (s : List UInt8) (f : Bool) : List UInt8 × Bool := if 4096 < (rNum s f).1 then ([], true) else (rNum s f).2
def rList (s : List UInt8) (f : Bool) : List (List UInt8) × (List UInt8 × Bool) :=
  if (rTexts (rNum s f).1 (rStart s f).1 (rStart s f).2).2.2 = true then ([], (rTexts (rNum s f).1 (rStart s f).1 (rStart s f).2).2) else rTexts (rNum s f).1 (rStart s f).1 (rStart s f).2
theorem rTexts_stop (n : Nat) (s : List UInt8) : rTexts n s true = ([], (s, true)) := by cases n <;> simp [rTexts]
theorem rNum_lt (s : List UInt8) (f : Bool) : (rNum s f).1 < 9223372036854775808 := by
  simp only [rNum]
  split
  · simp
  · split
    · simp
    · rename_i h
      exact (be_good (by simpa using h)).1
def sL (s : List UInt8) : List (List UInt8) × (List UInt8 × Bool) := rList s (decide ((s.length : Int) > 262144))
def sE (s : List UInt8) : Int := rEnd (sL s).2.1 (sL s).2.2
def sR (s : List UInt8) : List (List UInt8) := if sE s = 0 then (sL s).1 else []
theorem sL_short {s : List UInt8} (h : s.length ≤ 262144) : sL s = rList s false := by
  rw [sL, decide_eq_false (by omega)]
theorem sL_long {s : List UInt8} (h : 262144 < s.length) : sL s = ([], ([], true)) := by
  rw [sL, decide_eq_true (by omega), show rList s true = ([], ([], true)) by simp [rList, rStart, rNum, rTake, rTexts]]
theorem rTake_app (s r : List UInt8) : rTake s.length (s ++ r) false = (s, (r, false)) := by
  have e : ¬ (s ++ r).length < s.length := by simp
  simp only [rTake, e, or_false, Bool.false_eq_true, if_false, List.take_left, List.drop_left]
theorem rText_textB (s : List UInt8) (hs : s.length < 9223372036854775808) (r : List UInt8) : rText (textB s ++ r) false = (s, (r, false)) := by
  simp only [rText, textB, List.append_assoc, rNum_numB s.length hs (s ++ r), rTake_app]
theorem rTexts_tail : ∀ (l : List (List UInt8)) (r : List UInt8), total l < 9223372036854775808 → rTexts l.length (listTail l ++ r) false = (l, (r, false))
  | [], r, _ => by simp [rTexts, listTail]
  | s :: l, r, h => by
    have h1 : total (s :: l) = s.length + total l := by simp [total]
    simp only [List.length_cons, rTexts, listTail, List.append_assoc, Bool.false_eq_true, if_false, rText_textB s (by omega), rTexts_tail l r (by omega)]
theorem rList_listB (l : List (List UInt8)) (r : List UInt8) (h : total l < 9223372036854775808) (hl : l.length ≤ 4096) : rList (listB l ++ r) false = (l, (r, false)) := by
  have h1 := rNum_numB l.length (by omega) (listTail l ++ r)
  rw [← List.append_assoc] at h1
  have h2 : rNum (listB l ++ r) false = (l.length, (listTail l ++ r, false)) := h1
  simp only [rList, rStart, h2, show ¬ 4096 < l.length by omega, if_false, rTexts_tail l r h]
  simp
theorem split_listB (l : List (List UInt8)) (h : total l < 9223372036854775808) (hl : l.length ≤ 4096) (hb : (listB l).length ≤ 262144) : sE (listB l) = 0 ∧ sR (listB l) = l := by
  have h1 := rList_listB l [] h hl
  rw [List.append_nil] at h1
  have h2 : sL (listB l) = (l, ([], false)) := by rw [sL_short hb, h1]
  have h3 : sE (listB l) = 0 := by unfold sE; rw [h2]; rfl
  refine ⟨h3, ?_⟩
  unfold sR
  rw [if_pos h3, h2]
theorem rNum_cases (h : UInt8) (t r : List UInt8) (ht : t.length = h.toNat) : rNum (h :: (t ++ r)) false = if badNum t = true then (0, ([], true)) else (be t, (r, false)) := by
  have h1 : rTake 1 (h :: (t ++ r)) false = ([h], (t ++ r, false)) := by simp [rTake]
  have h2 : rTake h.toNat (t ++ r) false = (t, (r, false)) := by
    rw [← ht]
    have e : ¬ (t ++ r).length < t.length := by simp
    simp only [rTake, e, or_false, Bool.false_eq_true, if_false, List.take_left, List.drop_left]
  simp only [rNum, h1, Bool.false_eq_true, if_false, List.getD_cons_zero, h2]
theorem rNum_nil : rNum [] false = (0, ([], true)) := by simp [rNum, rTake]
theorem rNum_short (h : UInt8) (l : List UInt8) (hl : l.length < h.toNat ∨ 8 < h.toNat) : rNum (h :: l) false = (0, ([], true)) := by
  have h1 : rTake 1 (h :: l) false = ([h], (l, false)) := by simp [rTake]
  simp only [rNum, h1, Bool.false_eq_true, if_false, List.getD_cons_zero]
  by_cases hs : l.length < h.toNat
  · have h2 : rTake h.toNat l false = ([], ([], true)) := by simp [rTake, hs]
    rw [h2]; rfl
  · have h2 : rTake h.toNat l false = (l.take h.toNat, (l.drop h.toNat, false)) := by simp [rTake, hs]
    rw [h2]
    have h3 : badNum (l.take h.toNat) = true := by
      have : (l.take h.toNat).length = h.toNat := by rw [List.length_take]; omega
      rcases hl with hl | hl
      · omega
      · simp [badNum, this, hl]
    rw [if_pos h3]
def tNum (s : List UInt8) : V := .tup [.flat (.int .i64 (rNum s false).1), .flat (.string (bs (rNum s false).2.1)), .flat (.bool (!(rNum s false).2.2))]
def tText (s : List UInt8) : V := .tup [.flat (.string (bs (rText s false).1)), .flat (.string (bs (rText s false).2.1)), .flat (.bool (!(rText s false).2.2))]
def tList (s : List UInt8) : V := if (rList s false).2.2 = true then .tup [.sl false 1 0 [], .flat (.string (bs [])), .flat (.bool false)] else .tup [.sl false 1 (rList s false).1.length (sv (rList s false).1), .flat (.string (bs (rList s false).2.1)), .flat (.bool true)]
end Go.VL
