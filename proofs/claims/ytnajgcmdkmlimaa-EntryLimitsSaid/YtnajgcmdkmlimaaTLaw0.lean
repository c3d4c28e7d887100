/- Part TLaw0 of the proof: made for this claim. -/
import Derived.Test.YtnajgcmdkmlimaaTPack
set_option linter.unusedVariables false
set_option linter.unusedSimpArgs false
set_option maxHeartbeats 4000000
set_option maxRecDepth 100000
open Go.RowKit
namespace Go.VL
open Go.Proofs

/-! The plain law: what the writers write is free of prefixes. -/
def val : List UInt8 → Nat
  | [] => 0
  | b :: r => b.toNat + 256 * val r
theorem val_le (n : Nat) : val (le n) = n := by
  induction n using Nat.strongRecOn with
  | _ n ih =>
    rcases Nat.eq_zero_or_pos n with rfl | h
    · rw [le_zero]; rfl
    · rw [le_pos h, val, ih _ (Nat.div_lt_self h (by omega))]
      simp
      omega
theorem le_inj {n m : Nat} (h : le n = le m) : n = m := by rw [← val_le n, ← val_le m, h]
theorem numB_pre {n m : Nat} (hn : n < 9223372036854775808) (hm : m < 9223372036854775808) {r r' : List UInt8} (h : numB n ++ r = numB m ++ r') : n = m ∧ r = r' := by
  have h1 := le_length 8 n (by omega)
  have h2 := le_length 8 m (by omega)
  simp only [numB, List.cons_append, List.cons.injEq] at h
  obtain ⟨h3, h4⟩ := h
  have h5 : (le n).length = (le m).length := by
    have := congrArg UInt8.toNat h3
    simp at this
    omega
  obtain ⟨h6, h7⟩ := List.append_inj h4 (by simp [h5])
  exact ⟨le_inj (by have := congrArg List.reverse h6; simpa using this), h7⟩
theorem textB_pre {s s' r r' : List UInt8} (hn : s.length < 9223372036854775808) (hm : s'.length < 9223372036854775808) (h : textB s ++ r = textB s' ++ r') : s = s' ∧ r = r' := by
  simp only [textB, List.append_assoc] at h
  obtain ⟨h1, h2⟩ := numB_pre hn hm h
  exact List.append_inj h2 h1
theorem listTail_pre : ∀ {a b : List (List UInt8)} {r r' : List UInt8}, total a < 9223372036854775808 → total b < 9223372036854775808 → a.length = b.length → listTail a ++ r = listTail b ++ r' → a = b ∧ r = r'
  | [], [], r, r', _, _, _, h => ⟨rfl, by simpa [listTail] using h⟩
  | [], _ :: _, _, _, _, _, hl, _ => by simp at hl
  | _ :: _, [], _, _, _, _, hl, _ => by simp at hl
  | s :: a, s' :: b, r, r', ha, hb, hl, h => by
    have e1 : total (s :: a) = s.length + total a := by simp [total]
    have e2 : total (s' :: b) = s'.length + total b := by simp [total]
    simp only [listTail, List.append_assoc] at h
    obtain ⟨rfl, h1⟩ := textB_pre (by omega) (by omega) h
    obtain ⟨rfl, h2⟩ := listTail_pre (by omega) (by omega) (by simpa using hl) h1
    exact ⟨rfl, h2⟩
theorem listB_pre {a b : List (List UInt8)} {r r' : List UInt8} (ha : total a < 9223372036854775808) (hb : total b < 9223372036854775808) (la : a.length < 9223372036854775808) (lb : b.length < 9223372036854775808) (h : listB a ++ r = listB b ++ r') : a = b ∧ r = r' := by
  simp only [listB, List.append_assoc] at h
  obtain ⟨h1, h2⟩ := numB_pre la lb h
  exact listTail_pre ha hb h1 h2
theorem listB_inj {a b : List (List UInt8)} (ha : total a < 9223372036854775808) (hb : total b < 9223372036854775808) (la : a.length < 9223372036854775808) (lb : b.length < 9223372036854775808) : (listB a = listB b) ↔ (a = b) :=
  ⟨fun h => (listB_pre (r := []) (r' := []) ha hb la lb (by rw [h])).1, fun h => by rw [h]⟩
theorem listB_noPre {a b : List (List UInt8)} (ha : total a < 9223372036854775808) (hb : total b < 9223372036854775808) (la : a.length < 9223372036854775808) (lb : b.length < 9223372036854775808) (h : a ≠ b) : ¬ (listB b).take (listB a).length = listB a := fun k => by
  have h1 : listB a ++ (listB b).drop (listB a).length = listB b ++ [] := by
    rw [List.append_nil]
    have := List.take_append_drop (listB a).length (listB b)
    rw [k] at this
    exact this
  exact h (listB_pre ha hb la lb h1).1

theorem num258 : bs (numB (Int.toNat 258)) = { data := #[2, 1, 2] } := by
  have : numB (Int.toNat 258) = [2, 1, 2] := by
    simp only [numB, show Int.toNat 258 = 258 from rfl, le_pos (show 0 < 258 by omega), show 258 / 256 = 1 from rfl, le_pos (show 0 < 1 by omega), show 1 / 256 = 0 from rfl, le_zero]
    rfl
  rw [this]; rfl
theorem le1 : le 1 = [1] := by rw [le_pos (by omega), show 1 / 256 = 0 from rfl, le_zero]; rfl
theorem le2 : le 2 = [2] := by rw [le_pos (by omega), show 2 / 256 = 0 from rfl, le_zero]; rfl
theorem listHi : bs (listB [[104, 105]]) = { data := #[1, 1, 1, 2, 104, 105] } := by
  have : listB [[104, 105]] = [1, 1, 1, 2, 104, 105] := by
    simp only [listB, listTail, textB, List.length_cons, List.length_nil, Nat.zero_add, Nat.reduceAdd, numB, le1, le2]
    rfl
  rw [this]; rfl

def c11 : Cfg := ⟨envH, envL, GL, 8, [], []⟩
theorem c11H : c11.H = envH := rfl
theorem c11L : c11.L = envL := rfl
theorem c11n : c11.nt = 8 := rfl
theorem c11T : c11.T = [] := rfl
theorem c11B : c11.B = [] := rfl
theorem c11g : c11.gl = GL := rfl
theorem numB_len (n : Nat) : (numB n).length = (le n).length + 1 := by simp [numB]

end Go.VL
