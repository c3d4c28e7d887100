/- Part EntRead of the proof: made for this claim. -/
import Derived.Test.YtljfmgfokifooaaEntSpec
import Derived.Test.YtljfmgfokifooaaPackBack
set_option linter.unusedVariables false
set_option linter.unusedSimpArgs false
set_option maxRecDepth 100000
set_option maxHeartbeats 4000000
open Go.RowKit
namespace Go.VL
theorem whole_back {s : List UInt8} (h : wholeOk s = true) : s = numB (wholeN s).toNat := by
  unfold wholeOk at h
  unfold wholeN
  cases hb : isBig s with
  | true =>
    rw [hb] at h
    have : rNum s true = (0, ([], true)) := by simp [rNum, rTake]
    rw [this] at h
    simp [rEnd] at h
  | false =>
    rw [hb] at h
    have hr := @rNum_back s
    generalize rNum s false = A at *
    obtain ⟨n, r, f⟩ := A
    have h0 := of_decide_eq_true h
    simp only [rEnd] at h0
    have h2 : ¬ (f = true ∨ r ≠ []) := fun q => by rw [if_pos q] at h0; omega
    have h3 : f = false := by cases f <;> simp_all
    have h4 : r = [] := Classical.byContradiction fun q => h2 (.inr q)
    subst h3 h4
    have := hr rfl
    rw [List.append_nil] at this
    simpa using this
theorem wholeN_lt (s : List UInt8) : wholeN s < 9223372036854775808 := by
  unfold wholeN
  have := rNum_lt s (isBig s)
  omega
theorem wholeN_inR (s : List UInt8) : inR (wholeN s) := by
  have := wholeN_lt s
  have := wholeN_range s
  unfold inR; omega
theorem numT_inR (s : List UInt8) : inR (numT s) := by
  unfold numT
  split
  · exact wholeN_inR s
  · unfold inR; omega
theorem numT_back {s : List UInt8} (h : 0 ≤ numT s) : s = numB (numT s).toNat := by
  unfold numT at *
  split at h
  · rename_i hw
    rw [if_pos hw]
    exact whole_back hw
  · omega
theorem rdDr_ok (s : List UInt8) : (rdDr s).1.ok := by
  unfold rdDr
  split
  · rename_i h
    have hm : ∀ i, ((sR s).getD i []).length ≤ 140737488351232 := fun i => by
      rw [List.getD_eq_getElem?_getD]
      cases hi : (sR s)[i]? with
      | none => simp
      | some t =>
        have := split_len h.1 (List.mem_of_getElem? hi)
        have := (split_back h.1).2
        simp only [Option.getD_some]; omega
    exact ⟨wholeN_inR _, hm 1, hm 2⟩
  · unfold Dr.ok inR; simp [dr0]
theorem list4 {α : Type} {l : List α} (h : l.length = 4) : ∃ a b c d, l = [a, b, c, d] := by
  match l, h with
  | [a, b, c, d], _ => exact ⟨a, b, c, d, rfl⟩
theorem rdDr_back {s : List UInt8} (h : (rdDr s).2 = true) : s = (rdDr s).1.text := by
  unfold rdDr at *
  split at h
  · rename_i hc
    rw [dif_pos hc]
    have hb := (split_back hc.1).1
    obtain ⟨a, b, c, d, hl⟩ := list4 hc.2.1
    simp only [hl, List.getD_cons_zero, List.getD_cons_succ] at h ⊢
    have := whole_back h
    show s = listB [numB (wholeN a).toNat, b, c, d]
    rw [← this, ← hl]; exact hb
  · cases h
theorem rdDrG_cases (s : List UInt8) : ((rdDrG s).2 = 0 ∧ (rdDr s).2 = true ∧ (rdDr s).1.good = true ∧ (rdDrG s).1 = (rdDr s).1) ∨ ((rdDrG s).2 = 4 ∧ (rdDrG s).1 = dr0 ∧ ¬ ((rdDr s).2 = true ∧ (rdDr s).1.good = true)) := by
  unfold rdDrG
  split
  · rename_i h; exact .inl ⟨rfl, h.1, h.2, rfl⟩
  · rename_i h; exact .inr ⟨rfl, rfl, h⟩
theorem dr0_ok : dr0.ok := by unfold Dr.ok inR; simp [dr0]
theorem rdDrG_ok (s : List UInt8) : (rdDrG s).1.ok := by
  rcases rdDrG_cases s with ⟨_, _, _, h⟩ | ⟨_, h, _⟩
  · rw [h]; exact rdDr_ok s
  · rw [h]; exact dr0_ok
theorem rdDrG_back {s : List UInt8} (h : (rdDrG s).2 = 0) : s = (rdDrG s).1.text ∧ (rdDrG s).1.good = true := by
  rcases rdDrG_cases s with ⟨_, h1, h2, h3⟩ | ⟨h1, _, _⟩
  · rw [h3]; exact ⟨rdDr_back h1, h2⟩
  · omega
def entK (k : Int) : Ent := { ent0 with kind := k }
def shE (l : List (List UInt8)) : Ent × Bool :=
  if numT (l.getD 0 []) = 1 ∧ l.length = 2 then ({ entK 1 with d := (rdDrG (l.getD 1 [])).1 }, decide ((rdDrG (l.getD 1 [])).2 = 0))
  else if h : numT (l.getD 0 []) = 2 ∧ l.length = 7 ∧ (l.getD 3 []).length = 32 then
    ({ entK 2 with from_ := numT (l.getD 1 []), seq := numT (l.getD 2 []), prev := ⟨l.getD 3 [], h.2.2⟩, mask := numT (l.getD 4 []), pay := l.getD 5 [], sig := l.getD 6 [] },
      ({ entK 2 with from_ := numT (l.getD 1 []), seq := numT (l.getD 2 []), prev := ⟨l.getD 3 [], h.2.2⟩, mask := numT (l.getD 4 []), pay := l.getD 5 [], sig := l.getD 6 [] } : Ent).good)
  else if numT (l.getD 0 []) = 3 ∧ l.length = 3 then ({ entK 3 with mask := numT (l.getD 1 []), pay := l.getD 2 [] }, ({ entK 3 with mask := numT (l.getD 1 []), pay := l.getD 2 [] } : Ent).good)
  else (entK (numT (l.getD 0 [])), false)
def rdE (s : List UInt8) : Ent × Bool := if sE s = 0 ∧ (sR s).length ≠ 0 ∧ (shE (sR s)).2 = true then ((shE (sR s)).1, true) else (ent0, false)
def rdAll (s : List UInt8) : List Ent × Bool := if sE s = 0 ∧ ∀ t ∈ sR s, (rdE t).2 = true then ((sR s).map fun t => (rdE t).1, true) else ([], false)
theorem entK_no (k : Int) : (entK k).good = false := by
  unfold Ent.good
  split
  · rw [show (entK k).d = dr0 from rfl, show dr0.good = false by decide]; rfl
  · split <;> simp [Ent.out, entK, ent0]
theorem shE_ok {l : List (List UInt8)} (hl : ∀ t ∈ l, t.length ≤ 140737488351232) : (shE l).1.ok := by
  have hm : ∀ i, (l.getD i []).length ≤ 140737488351232 := fun i => by
    rw [List.getD_eq_getElem?_getD]
    cases hi : l[i]? with
    | none => simp
    | some t => exact hl t (List.mem_of_getElem? hi)
  have z : ∀ n : Int, 0 ≤ n → n ≤ 3 → inR n := fun n _ _ => ⟨by omega, by omega⟩
  unfold shE
  split
  · exact ⟨z 1 (by omega) (by omega), rdDrG_ok _, z 0 (by omega) (by omega), z 0 (by omega) (by omega), z 0 (by omega) (by omega), by simp [entK, ent0], by simp [entK, ent0]⟩
  · split
    · exact ⟨z 2 (by omega) (by omega), dr0_ok, numT_inR _, numT_inR _, numT_inR _, hm 5, hm 6⟩
    · split
      · exact ⟨z 3 (by omega) (by omega), dr0_ok, z 0 (by omega) (by omega), z 0 (by omega) (by omega), numT_inR _, hm 2, by simp [entK, ent0]⟩
      · exact ⟨numT_inR _, dr0_ok, z 0 (by omega) (by omega), z 0 (by omega) (by omega), z 0 (by omega) (by omega), by simp [entK, ent0], by simp [entK, ent0]⟩
theorem list2 {α : Type} {l : List α} (h : l.length = 2) : ∃ a b, l = [a, b] := by
  match l, h with
  | [a, b], _ => exact ⟨a, b, rfl⟩
theorem list3 {α : Type} {l : List α} (h : l.length = 3) : ∃ a b c, l = [a, b, c] := by
  match l, h with
  | [a, b, c], _ => exact ⟨a, b, c, rfl⟩
theorem list7 {α : Type} {l : List α} (h : l.length = 7) : ∃ a b c d e f g, l = [a, b, c, d, e, f, g] := by
  match l, h with
  | [a, b, c, d, e, f, g], _ => exact ⟨a, b, c, d, e, f, g, rfl⟩
theorem entD_good {d : Dr} (h : d.good = true) : (entD d).good = true := by
  rw [Ent.good1 (e := entD d) rfl]
  simp [show (entD d).d = d from rfl, h]
theorem shE_back {l : List (List UInt8)} (h : (shE l).2 = true) : (shE l).1.good = true ∧ (shE l).1.parts = l := by
  unfold shE at *
  split at h
  · rename_i hc
    rw [if_pos hc]
    obtain ⟨a, b, rfl⟩ := list2 hc.2
    simp only [List.getD_cons_zero, List.getD_cons_succ, decide_eq_true_eq] at h hc ⊢
    obtain ⟨h1, h2⟩ := rdDrG_back h
    have hk := numT_back (s := a) (by omega)
    rw [hc.1] at hk
    refine ⟨entD_good h2, ?_⟩
    show [numB (Int.toNat 1), (rdDrG b).1.text] = [a, b]
    rw [← h1, ← hk]
  · split at h
    · rename_i h0 hc
      rw [if_neg h0, dif_pos hc]
      refine ⟨h, ?_⟩
      have hg := h
      simp only at hg
      obtain ⟨a, b, c, d, e, f, g, rfl⟩ := list7 hc.2.1
      simp only [List.getD_cons_zero, List.getD_cons_succ] at hc hg ⊢
      rw [Ent.good2 rfl] at hg
      simp only [Bool.and_eq_true, decide_eq_true_eq] at hg
      obtain ⟨⟨⟨⟨⟨q1, q2⟩, q3⟩, q4⟩, q5⟩, q6⟩ := hg
      have hmk := Ent.out_ge q1
      simp only at hmk
      have k1 := numT_back (s := a) (by omega)
      rw [hc.1] at k1
      have k2 := numT_back q3
      have k3 := numT_back (s := c) (by omega)
      have k5 := numT_back (s := e) (by omega)
      show [numB (Int.toNat 2), numB (numT b).toNat, numB (numT c).toNat, d, numB (numT e).toNat, f, g] = _
      rw [← k1, ← k2, ← k3, ← k5]
    · split at h
      · rename_i h0 h1 hc
        rw [if_neg h0, dif_neg h1, if_pos hc]
        refine ⟨h, ?_⟩
        have hg := h
        simp only at hg
        obtain ⟨a, b, c, rfl⟩ := list3 hc.2
        simp only [List.getD_cons_zero, List.getD_cons_succ] at hc hg ⊢
        rw [Ent.good3 rfl] at hg
        simp only [Bool.and_eq_true, decide_eq_true_eq] at hg
        have hmk := Ent.out_ge hg.1
        simp only at hmk
        have k1 := numT_back (s := a) (by omega)
        rw [hc.1] at k1
        have k2 := numT_back (s := b) (by omega)
        show [numB (Int.toNat 3), numB (numT b).toNat, c] = _
        rw [← k1, ← k2]
      · cases h
theorem rdE_back {s : List UInt8} (h : (rdE s).2 = true) : (rdE s).1.ok ∧ (rdE s).1.good = true ∧ (rdE s).1.text = s := by
  unfold rdE at *
  split at h
  · rename_i hc
    rw [if_pos hc]
    obtain ⟨h1, h2⟩ := shE_back hc.2.2
    obtain ⟨h3, h4⟩ := split_back hc.1
    refine ⟨shE_ok (fun t ht => by have := split_len hc.1 ht; omega), h1, ?_⟩
    rw [Ent.text, if_pos h1, h2]; exact h3.symm
  · cases h
theorem shE_parts {e : Ent} (he : e.ok) (h : e.good = true) : shE e.parts = (e, true) := by
  obtain ⟨i1, i2, i3, i4, i5, i6, i7⟩ := id he
  have hmk : ∀ n : Int, inR n → n < 9223372036854775808 := fun n hn => by have := hn.2; omega
  rcases Ent.kinds h with hk | hk | hk
  · have hp : e.parts = [numB e.kind.toNat, e.d.text] := by unfold Ent.parts; rw [if_pos hk]
    have hg := h
    rw [Ent.good1 hk, Bool.and_eq_true, decide_eq_true_eq] at hg
    have hn := numT_numB e.kind (by omega) (hmk _ i1)
    have hd := (rdDrG_text i2 hg.1).2
    unfold shE
    rw [if_pos (by rw [hp]; exact ⟨by simp only [List.getD_cons_zero]; rw [hn, hk], rfl⟩), hp]
    simp only [List.getD_cons_succ, List.getD_cons_zero, hd, decide_true]
    rw [hg.2]; rfl
  · have hp : e.parts = [numB e.kind.toNat, numB e.from_.toNat, numB e.seq.toNat, e.prev.1, numB e.mask.toNat, e.pay, e.sig] := by unfold Ent.parts; rw [if_neg (by omega), if_pos hk]
    have hg := h
    rw [Ent.good2 hk] at hg
    simp only [Bool.and_eq_true, decide_eq_true_eq] at hg
    obtain ⟨⟨⟨⟨⟨q1, q2⟩, q3⟩, q4⟩, q5⟩, q6⟩ := hg
    have hm := Ent.out_ge q1
    have n1 := numT_numB e.kind (by omega) (hmk _ i1)
    have n2 := numT_numB e.from_ (by omega) (hmk _ i3)
    have n3 := numT_numB e.seq (by omega) (hmk _ i4)
    have n5 := numT_numB e.mask (by omega) (hmk _ i5)
    have hE : ({ entK 2 with from_ := e.from_, seq := e.seq, prev := e.prev, mask := e.mask, pay := e.pay, sig := e.sig } : Ent) = e := by
      show ({ kind := 2, d := dr0, from_ := e.from_, seq := e.seq, prev := e.prev, mask := e.mask, pay := e.pay, sig := e.sig } : Ent) = e
      rw [← q2, ← hk]
    unfold shE
    rw [if_neg (by rw [hp]; simp)]
    have hc : numT (e.parts.getD 0 []) = 2 ∧ e.parts.length = 7 ∧ (e.parts.getD 3 []).length = 32 := by
      rw [hp]; exact ⟨by simp only [List.getD_cons_zero]; rw [n1, hk], rfl, e.prev.2⟩
    rw [dif_pos hc]
    have hE2 : ({ entK 2 with from_ := numT (e.parts.getD 1 []), seq := numT (e.parts.getD 2 []), prev := ⟨e.parts.getD 3 [], hc.2.2⟩, mask := numT (e.parts.getD 4 []), pay := e.parts.getD 5 [], sig := e.parts.getD 6 [] } : Ent) = e := by
      refine Eq.trans ?_ hE
      simp only [hp, List.getD_cons_succ, List.getD_cons_zero, n2, n3, n5]
    rw [hE2, h]
  · have hp : e.parts = [numB e.kind.toNat, numB e.mask.toNat, e.pay] := by unfold Ent.parts; rw [if_neg (by omega), if_neg (by omega)]
    have hg := h
    rw [Ent.good3 hk] at hg
    simp only [Bool.and_eq_true, decide_eq_true_eq] at hg
    have hm := Ent.out_ge hg.1
    have n1 := numT_numB e.kind (by omega) (hmk _ i1)
    have n5 := numT_numB e.mask (by omega) (hmk _ i5)
    have hE : ({ entK 3 with mask := e.mask, pay := e.pay } : Ent) = e := hg.2.symm
    unfold shE
    rw [if_neg (by rw [hp]; simp), dif_neg (by rw [hp]; simp), if_pos (by rw [hp]; exact ⟨by simp only [List.getD_cons_zero]; rw [n1, hk], rfl⟩)]
    rw [hp]
    simp only [List.getD_cons_succ, List.getD_cons_zero, n5, hE, h]
theorem parts_ne {e : Ent} : e.parts.length ≠ 0 := by
  unfold Ent.parts
  split
  · simp
  · split <;> simp
theorem rdE_text {e : Ent} (he : e.ok) (h : e.good = true) : rdE e.text = (e, true) := by
  obtain ⟨t1, t2⟩ := Ent.total_le he h
  have ht : e.text = listB e.parts := if_pos h
  have hl := Ent.text_le he
  rw [ht] at hl
  obtain ⟨s1, s2⟩ := split_listB e.parts (by omega) (by omega) (by omega)
  unfold rdE
  rw [ht, s2, shE_parts he h, if_pos ⟨s1, parts_ne, rfl⟩]
theorem rdAll_back {s : List UInt8} (h : (rdAll s).2 = true) : textsB (rdAll s).1 = s ∧ ∀ e ∈ (rdAll s).1, e.ok := by
  unfold rdAll at *
  split at h
  · rename_i hc
    rw [if_pos hc]
    refine ⟨?_, fun e he => ?_⟩
    · unfold textsB
      rw [List.map_map]
      have : (sR s).map (Ent.text ∘ fun t => (rdE t).1) = sR s := by
        conv => rhs; rw [← List.map_id (sR s)]
        exact List.map_congr_left fun t ht => (rdE_back (hc.2 t ht)).2.2
      rw [this]
      exact (split_back hc.1).1.symm
    · obtain ⟨t, ht, rfl⟩ := List.mem_map.1 he
      exact (rdE_back (hc.2 t ht)).1
  · cases h
end Go.VL
