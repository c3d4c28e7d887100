/- Part PackBack of the proof: made for this claim. -/
import Derived.Test.YtljfmgfokifooaaPackRead
set_option linter.unusedVariables false
set_option linter.unusedSimpArgs false
set_option maxRecDepth 100000
set_option maxHeartbeats 4000000
open Go.RowKit
namespace Go.VL
theorem val_pos : ∀ (l : List UInt8), l ≠ [] → l.getLast? ≠ some 0 → 0 < val l
  | [], h, _ => absurd rfl h
  | [b], _, h => by
    have : b ≠ 0 := fun e => h (by rw [e]; rfl)
    have : b.toNat ≠ 0 := fun e => this (UInt8.toNat_inj.1 (by simpa using e))
    simp only [val]; omega
  | b :: c :: r, _, h => by
    have := val_pos (c :: r) (by simp) (by simpa using h)
    rw [val]; omega
theorem le_val : ∀ (l : List UInt8), (l ≠ [] → l.getLast? ≠ some 0) → le (val l) = l
  | [], _ => le_zero
  | b :: r, h => by
    have hp := val_pos (b :: r) (by simp) (h (by simp))
    have hb := b.toNat_lt
    rw [le_pos hp]
    have e1 : val (b :: r) % 256 = b.toNat := by rw [val]; omega
    have e2 : val (b :: r) / 256 = val r := by rw [val]; omega
    rw [e1, e2, le_val r (fun hr => by
      have := h (by simp)
      cases r with
      | nil => exact absurd rfl hr
      | cons c r => simpa using this)]
    simp
theorem rNum_back {s r : List UInt8} {n : Nat} (h : rNum s false = (n, (r, false))) : s = numB n ++ r := by
  cases s with
  | nil => rw [rNum_nil] at h; simp at h
  | cons c l =>
    by_cases hs : l.length < c.toNat ∨ 8 < c.toNat
    · rw [rNum_short c l hs] at h; simp at h
    · have hl : (l.take c.toNat).length = c.toNat := by rw [List.length_take]; omega
      have h1 := rNum_cases c (l.take c.toNat) (l.drop c.toNat) hl
      rw [List.take_append_drop] at h1
      rw [h1] at h
      split at h
      · simp at h
      · rename_i hb
        simp only [Prod.mk.injEq] at h
        obtain ⟨rfl, rfl, _⟩ := h
        generalize ht : l.take c.toNat = t at *
        have hg : badNum t = false := by simpa using hb
        have e0 : be t = val t.reverse := by rw [← be_rev, List.reverse_reverse]
        have e1 : le (be t) = t.reverse := by
          rw [e0]
          refine le_val _ (fun hne hz => ?_)
          cases t with
          | nil => simp at hne
          | cons x u =>
            rw [List.getLast?_reverse] at hz
            simp only [List.head?_cons, Option.some.injEq] at hz
            subst hz
            simp [badNum] at hg
        rw [numB, e1, List.reverse_reverse, List.length_reverse, hl]
        simp only [UInt8.ofNat_toNat, List.cons_append]
        rw [← ht, List.take_append_drop]
theorem rTake_back {n : Nat} {s t r : List UInt8} {f : Bool} (h : rTake n s f = (t, (r, false))) : f = false ∧ s = t ++ r ∧ t.length = n := by
  unfold rTake at h
  split at h
  · simp at h
  · rename_i hh
    simp only [Prod.mk.injEq] at h
    obtain ⟨rfl, rfl, _⟩ := h
    have h1 : ¬ f = true := fun e => hh (.inl e)
    have h2 : ¬ s.length < n := fun e => hh (.inr e)
    exact ⟨by simpa using h1, by simp, by rw [List.length_take]; omega⟩
theorem rText_back {s r u : List UInt8} (h : rText s false = (u, (r, false))) : s = textB u ++ r := by
  unfold rText at h
  obtain ⟨h1, h2, h3⟩ := rTake_back h
  have := rNum_back (s := s) (n := (rNum s false).1) (r := (rNum s false).2.1) (Prod.ext rfl (Prod.ext rfl h1))
  rw [textB, h3, List.append_assoc, ← h2]; exact this
theorem rTexts_back : ∀ (n : Nat) (s r : List UInt8) (L : List (List UInt8)), rTexts n s false = (L, (r, false)) → s = listTail L ++ r ∧ L.length = n
  | 0, s, r, L, h => by
    simp only [rTexts, Prod.mk.injEq] at h
    obtain ⟨rfl, rfl, _⟩ := h
    exact ⟨rfl, rfl⟩
  | n + 1, s, r, L, h => by
    simp only [rTexts, Bool.false_eq_true, if_false, Prod.mk.injEq] at h
    obtain ⟨h1, h2⟩ := h
    cases hf : (rText s false).2.2
    · rw [hf] at h1 h2
      obtain ⟨h3, h4⟩ := rTexts_back n _ r (rTexts n (rText s false).2.1 false).1 (Prod.ext rfl h2)
      have h5 := rText_back (s := s) (u := (rText s false).1) (r := (rText s false).2.1) (Prod.ext rfl (Prod.ext rfl hf))
      rw [← h1]
      refine ⟨?_, by simp [h4]⟩
      rw [listTail, List.append_assoc, ← h3]; exact h5
    · rw [hf, rTexts_stop] at h2
      simp at h2
theorem rList_back {s r : List UInt8} {L : List (List UInt8)} (h : rList s false = (L, (r, false))) : s = listB L ++ r := by
  unfold rList at h
  split at h
  · rename_i hh
    simp only [Prod.mk.injEq] at h
    rw [h.2] at hh; cases hh
  · cases hf : (rStart s false).2
    · rw [hf] at h
      obtain ⟨h1, h2⟩ := rTexts_back _ _ _ _ h
      have h3 : rStart s false = (rNum s false).2 ∧ (rNum s false).2.2 = false := by
        unfold rStart at hf ⊢
        split at hf
        · cases hf
        · rename_i hh; rw [if_neg hh]; exact ⟨rfl, hf⟩
      have h4 := rNum_back (s := s) (n := (rNum s false).1) (r := (rNum s false).2.1) (Prod.ext rfl (Prod.ext rfl h3.2))
      rw [h3.1] at h1
      rw [listB, h2, List.append_assoc, ← h1]; exact h4
    · rw [hf, rTexts_stop] at h
      simp at h
theorem listTail_ge : ∀ l : List (List UInt8), total l + l.length ≤ (listTail l).length
  | [] => by simp [total, listTail]
  | s :: r => by
    have h1 : total (s :: r) = s.length + total r := by simp [total]
    have := listTail_ge r
    simp only [listTail, textB, List.length_append, numB_len, List.length_cons]
    omega
theorem sE_val (s : List UInt8) : (sE s = 0 ∧ (sL s).2.1 = [] ∧ (sL s).2.2 = false) ∨ (sE s = 4) := by
  unfold sE rEnd
  split
  · exact .inr rfl
  · rename_i h
    refine .inl ⟨rfl, ?_, ?_⟩
    · exact Classical.byContradiction fun hh => h (.inr hh)
    · cases hf : (sL s).2.2
      · rfl
      · exact absurd (.inl hf) h
theorem split_back {s : List UInt8} (h : sE s = 0) : s = listB (sR s) ∧ s.length ≤ 262144 := by
  have hlen : s.length ≤ 262144 := by
    rcases Nat.lt_or_ge 262144 s.length with q | q
    · have e1 : sE s = 4 := by unfold sE; rw [sL_long q]; rfl
      omega
    · exact q
  refine ⟨?_, hlen⟩
  rcases sE_val s with ⟨_, h2, h3⟩ | h4
  · have hr : sR s = (sL s).1 := by unfold sR; rw [if_pos h]
    have := rList_back (s := s) (r := []) (L := (sL s).1) (by rw [← sL_short hlen, ← h2, ← h3])
    rw [hr]
    rw [List.append_nil] at this
    exact this
  · omega
theorem sE_04 (s : List UInt8) : sE s = 0 ∨ sE s = 4 := by
  rcases sE_val s with h | h
  · exact .inl h.1
  · exact .inr h
theorem split_len {s t : List UInt8} (h : sE s = 0) (ht : t ∈ sR s) : t.length ≤ s.length := by
  have hb := (split_back h).1
  have h1 := mem_total ht
  have h2 := listTail_ge (sR s)
  have h3 : (listB (sR s)).length = (numB (sR s).length).length + (listTail (sR s)).length := by rw [listB, List.length_append]
  rw [← hb] at h3
  omega
theorem split_cnt {s : List UInt8} (h : sE s = 0) : (sR s).length ≤ s.length := by
  have hb := (split_back h).1
  have h2 := listTail_ge (sR s)
  have h3 : (listB (sR s)).length = (numB (sR s).length).length + (listTail (sR s)).length := by rw [listB, List.length_append]
  rw [← hb] at h3
  omega
theorem split_tot {s : List UInt8} (h : sE s = 0) : total (sR s) ≤ s.length := by
  have hb := (split_back h).1
  have h2 := listTail_ge (sR s)
  have h3 : (listB (sR s)).length = (numB (sR s).length).length + (listTail (sR s)).length := by rw [listB, List.length_append]
  rw [← hb] at h3
  omega
theorem sR_no {s : List UInt8} (h : ¬ sE s = 0) : sR s = [] := by unfold sR; rw [if_neg h]
end Go.VL
