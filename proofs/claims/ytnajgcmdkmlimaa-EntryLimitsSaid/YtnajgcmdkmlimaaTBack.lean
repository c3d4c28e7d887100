/- Part TBack of the proof: made for this claim. -/
import Derived.Test.YtnajgcmdkmlimaaTSplit
set_option linter.unusedVariables false
set_option linter.unusedSimpArgs false
set_option maxHeartbeats 4000000
set_option maxRecDepth 100000
open Go.RowKit
namespace Go.VL
open Go.Proofs
/-! What is packed is unpacked. -/
theorem rTake_app (s r : List UInt8) : rTake s.length (s ++ r) false = (s, (r, false)) := by
  have e : ¬ (s ++ r).length < s.length := by simp
  simp only [rTake, e, or_false, Bool.false_eq_true, if_false, List.take_left, List.drop_left]
theorem rText_textB (s : List UInt8) (hs : s.length < 9223372036854775808) (r : List UInt8) : rText (textB s ++ r) false = (s, (r, false)) := by
  simp only [rText, textB, List.append_assoc, rNum_numB s.length hs (s ++ r), rTake_app]
theorem rTexts_tail : ∀ (l : List (List UInt8)) (r : List UInt8), total l < 9223372036854775808 → rTexts l.length (listTail l ++ r) false = (l, (r, false))
  | [], r, _ => by simp [rTexts, listTail]
  | s :: l, r, h => by
    have h1 : total (s :: l) = s.length + total l := by simp [total]
    simp only [List.length_cons, rTexts, listTail, List.append_assoc, Bool.false_eq_true, if_false, rText_textB s (by omega), rTexts_tail l r (by omega)]
theorem rList_listB (l : List (List UInt8)) (r : List UInt8) (h : total l < 9223372036854775808) (hl : l.length ≤ 4096) : rList (listB l ++ r) false = (l, (r, false)) := by
  have h1 := rNum_numB l.length (by omega) (listTail l ++ r)
  rw [← List.append_assoc] at h1
  have h2 : rNum (listB l ++ r) false = (l.length, (listTail l ++ r, false)) := h1
  simp only [rList, rStart, h2, show ¬ 4096 < l.length by omega, if_false, rTexts_tail l r h]
  simp
theorem listB_length (l : List (List UInt8)) (h : total l ≤ 8192) (hl : l.length ≤ 200) : (listB l).length ≤ 10100 := by
  have h1 := numB_length l.length (by omega)
  have h2 := listTail_length l (by omega)
  rw [listB, List.length_append]; omega


theorem split_listB (l : List (List UInt8)) (h : total l < 9223372036854775808) (hl : l.length ≤ 4096) (hb : (listB l).length ≤ 262144) : sE (listB l) = 0 ∧ sR (listB l) = l := by
  have h1 := rList_listB l [] h hl
  rw [List.append_nil] at h1
  have h2 : sL (listB l) = (l, ([], false)) := by rw [sL_short hb, h1]
  have h3 : sE (listB l) = 0 := by unfold sE; rw [h2]; rfl
  refine ⟨h3, ?_⟩
  unfold sR
  rw [if_pos h3, h2]

end Go.VL
