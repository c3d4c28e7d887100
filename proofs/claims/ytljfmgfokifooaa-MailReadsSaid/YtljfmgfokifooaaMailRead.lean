/- Part MailRead of the proof: made for this claim. -/
import Derived.Test.YtljfmgfokifooaaMailSpec
import Derived.Test.YtljfmgfokifooaaEntRead
set_option linter.unusedVariables false
set_option linter.unusedSimpArgs false
set_option maxRecDepth 100000
set_option maxHeartbeats 4000000
open Go.RowKit
namespace Go.VL
def shA (l : List (List UInt8)) (h : (l.getD 2 []).length = 32) : Au := ⟨numT (l.getD 0 []), numT (l.getD 1 []), ⟨l.getD 2 [], h⟩, l.getD 3 []⟩
def auS (s : List UInt8) : Prop := sE s = 0 ∧ (sR s).length = 4 ∧ ((sR s).getD 2 []).length = 32
instance (s : List UInt8) : Decidable (auS s) := by unfold auS; exact inferInstance
def rdAu (s : List UInt8) : Au × Bool := if h : auS s then (if (shA (sR s) h.2.2).word = true then (shA (sR s) h.2.2, true) else (au0, false)) else (au0, false)
theorem au0_ok : au0.ok := by refine ⟨?_, ?_, ?_⟩ <;> (unfold au0; simp [inR])
theorem getD_le {l : List (List UInt8)} {n : Nat} (h : ∀ t ∈ l, t.length ≤ n) (i : Nat) : (l.getD i []).length ≤ n := by
  rw [List.getD_eq_getElem?_getD]
  cases hi : l[i]? with
  | none => simp
  | some t => exact h t (List.mem_of_getElem? hi)
theorem rdAu_ok (s : List UInt8) : (rdAu s).1.ok := by
  unfold rdAu
  split
  · rename_i h
    split
    · exact ⟨numT_inR _, numT_inR _, getD_le (fun t ht => by have := split_len h.1 ht; have := (split_back h.1).2; omega) 3⟩
    · exact au0_ok
  · exact au0_ok
theorem rdAu_back {s : List UInt8} (h : (rdAu s).2 = true) : (rdAu s).1.ok ∧ (rdAu s).1.word = true ∧ (rdAu s).1.text = s := by
  have ho := rdAu_ok s
  unfold rdAu at *
  split at h
  · rename_i hc
    rw [dif_pos hc] at ho ⊢
    split at h
    · rename_i hw
      rw [if_pos hw] at ho ⊢
      refine ⟨ho, hw, ?_⟩
      have hb := (split_back hc.1).1
      obtain ⟨a, b, c, d, hl⟩ := list4 hc.2.1
      have w := (Au.word_iff _).1 hw
      unfold Au.text Au.parts
      simp only [shA, hl, List.getD_cons_zero, List.getD_cons_succ] at w ⊢
      rw [← numT_back w.1.1, ← numT_back w.2.1, ← hl]
      exact hb.symm
    · cases h
  · cases h
theorem rdAu_no {s : List UInt8} (h : ¬ auS s) : rdAu s = (au0, false) := dif_neg h
theorem rdAu_eq {s a b d : List UInt8} {x : Id32} (h0 : sE s = 0) (hl : sR s = [a, b, x.1, d]) : rdAu s = if wholeOk a = true ∧ wholeOk b = true ∧ wholeN a < 5 ∧ d.length ≤ 1024 then (⟨wholeN a, wholeN b, x, d⟩, true) else (au0, false) := by
  have hS : auS s := ⟨h0, by rw [hl]; rfl, by rw [hl]; exact x.2⟩
  have e : shA (sR s) hS.2.2 = ⟨numT a, numT b, x, d⟩ := by
    simp only [shA, hl, List.getD_cons_zero, List.getD_cons_succ]
  unfold rdAu
  rw [dif_pos hS, e]
  have ra := wholeN_range a
  have rb := wholeN_range b
  by_cases h : wholeOk a = true ∧ wholeOk b = true ∧ wholeN a < 5 ∧ d.length ≤ 1024
  · obtain ⟨h1, h2, h3, h4⟩ := id h
    have na : numT a = wholeN a := if_pos h1
    have nb : numT b = wholeN b := if_pos h2
    rw [if_pos h, na, nb, if_pos]
    rw [Au.word_iff]
    exact ⟨⟨ra, h3⟩, rb, h4⟩
  · rw [if_neg h, if_neg]
    intro q
    rw [Au.word_iff] at q
    simp only at q
    apply h
    have wa : wholeOk a = true := by
      by_cases w : wholeOk a = true
      · exact w
      · have : numT a = -1 := if_neg w
        omega
    have wb : wholeOk b = true := by
      by_cases w : wholeOk b = true
      · exact w
      · have : numT b = -1 := if_neg w
        omega
    have na : numT a = wholeN a := if_pos wa
    exact ⟨wa, wb, by omega, q.2.2⟩
def shM (l : List (List UInt8)) (h : (l.getD 4 []).length = 32) : Mail :=
  ⟨numT (l.getD 0 []), numT (l.getD 1 []), numT (l.getD 2 []), numT (l.getD 3 []), ⟨l.getD 4 [], h⟩, numT (l.getD 5 []), l.getD 6 [], numT (l.getD 7 []), (rdAu (l.getD 8 [])).1, (sR (l.getD 9 [])).map fun t => (rdAu t).1, (rdAll (l.getD 10 [])).1, sR (l.getD 11 [])⟩
def mlS (s : List UInt8) : Prop := sE s = 0 ∧ (sR s).length = 12 ∧ ((sR s).getD 4 []).length = 32
instance (s : List UInt8) : Decidable (mlS s) := by unfold mlS; exact inferInstance
def mlR (l : List (List UInt8)) : Prop := (rdAu (l.getD 8 [])).2 = true ∧ sE (l.getD 9 []) = 0 ∧ (∀ t ∈ sR (l.getD 9 []), (rdAu t).2 = true) ∧ (rdAll (l.getD 10 [])).2 = true ∧ sE (l.getD 11 []) = 0
def rdrC (l : List (List UInt8)) (f : Bool) : List V := [.sl false 1 l.length (sv l), .flat (.bool f)]
theorem rdrC_low (l : List (List UInt8)) (f : Bool) : ∀ c ∈ rdrC l f, Low c := fun c hc => by
  simp only [rdrC, List.mem_cons, List.not_mem_nil, or_false] at hc
  rcases hc with rfl | rfl
  · exact lowSl (FlatS.sv l)
  · exact Low.flat _
theorem updW2 {M M' : Mem} {b : Nat} {c : Option (List V)} (h : ∀ b', b' ≠ b → M b' ≠ none → M' b' = M b') : ∀ b', upd M b c b' ≠ none → upd M' b c b' = upd M b c b' := fun b' hb' => by
  by_cases e : b' = b
  · subst e; rw [upd_same, upd_same]
  · rw [upd_ne _ _ e] at hb' ⊢
    rw [upd_ne _ _ e]
    exact h b' e hb'
theorem updW4 {M : Mem} {mn b : Nat} {c1 c x : Option (List V)} (hM : ∀ k, mn ≤ k → M k = none) : ∀ b', upd M b c b' ≠ none → upd (upd (upd M b c1) mn x) b c b' = upd M b c b' := updW2 fun b' h1 h2 => by
  rw [upd_ne _ _ (fun e => h2 (hM b' (by omega))), upd_ne _ _ h1]
instance (l : List (List UInt8)) : Decidable (mlR l) := by unfold mlR; exact inferInstance
def mail0 : Mail := ⟨0, 0, 0, 0, z32, 0, [], 0, au0, [], [], []⟩
def rdM (s : List UInt8) : Mail × Bool := if h : mlS s then (if mlR (sR s) ∧ (shM (sR s) h.2.2).good = true then (shM (sR s) h.2.2, true) else (mail0, false)) else (mail0, false)
theorem list12 {α : Type} {l : List α} (h : l.length = 12) : ∃ a b c d e f g i j k m n, l = [a, b, c, d, e, f, g, i, j, k, m, n] := by
  match l, h with
  | [a, b, c, d, e, f, g, i, j, k, m, n], _ => exact ⟨a, b, c, d, e, f, g, i, j, k, m, n, rfl⟩
theorem rdAll_ok (s : List UInt8) : ∀ e ∈ (rdAll s).1, e.ok := by
  cases h : (rdAll s).2 with
  | true => exact (rdAll_back h).2
  | false =>
    unfold rdAll at h ⊢
    split at h
    · cases h
    · rename_i q; rw [if_neg q]; intro e he; cases he
theorem rdAll_len {s : List UInt8} (h : (rdAll s).2 = true) : (rdAll s).1.length ≤ s.length := by
  unfold rdAll at h ⊢
  split at h
  · rename_i hc
    rw [if_pos hc, List.length_map]
    exact split_cnt hc.1
  · cases h
theorem rdAll_len' (s : List UInt8) : (rdAll s).1.length ≤ s.length := by
  cases h : (rdAll s).2 with
  | true => exact rdAll_len h
  | false =>
    unfold rdAll at h ⊢
    split at h
    · cases h
    · rename_i q; rw [if_neg q]; simp
theorem sR_le (s : List UInt8) : (∀ t ∈ sR s, t.length ≤ s.length) ∧ (sR s).length ≤ s.length ∧ total (sR s) ≤ s.length := by
  by_cases h : sE s = 0
  · exact ⟨fun t ht => split_len h ht, split_cnt h, split_tot h⟩
  · rw [sR_no h]; exact ⟨(fun t ht => absurd ht List.not_mem_nil), (by simp), (by simp [total])⟩
theorem shM_ok {l : List (List UInt8)} (hl : ∀ t ∈ l, t.length ≤ 262144) (h : (l.getD 4 []).length = 32) : (shM l h).ok := by
  have g := getD_le hl
  have n1 := sR_le (l.getD 9 [])
  have n2 := sR_le (l.getD 11 [])
  have g9 := g 9
  have g10 := g 10
  have g11 := g 11
  have g6 := g 6
  have n3 := rdAll_len' (l.getD 10 [])
  have k1 : (shM l h).pay.length ≤ 140737488351232 := by simp only [shM]; omega
  have k2 : ∀ a ∈ (shM l h).auths, a.ok := by
    simp only [shM]
    intro a ha
    obtain ⟨t, _, rfl⟩ := List.mem_map.1 ha
    exact rdAu_ok t
  have k3 : (shM l h).auths.length ≤ 140737488351232 := by simp only [shM]; rw [List.length_map]; omega
  have k4 : (shM l h).ents.length ≤ 140737488351232 := by simp only [shM]; omega
  have k5 : ∀ s ∈ (shM l h).proofs, s.length ≤ 140737488351232 := by
    simp only [shM]
    intro s hs; have := n2.1 s hs; omega
  have k6 : (shM l h).proofs.length ≤ 140737488351232 := by simp only [shM]; omega
  exact ⟨numT_inR _, numT_inR _, numT_inR _, numT_inR _, numT_inR _, k1, numT_inR _, rdAu_ok _, ⟨k2, k3⟩, ⟨rdAll_ok _, k4⟩, ⟨k5, k6⟩⟩
theorem shM_back {l : List (List UInt8)} (hl : ∀ t ∈ l, t.length ≤ 262144) (hn : l.length = 12) (h : (l.getD 4 []).length = 32) (hr : mlR l) (hg : (shM l h).good = true) : (shM l h).parts = l := by
  have f := (Mail.good_iff _).1 hg
  obtain ⟨r1, r2, r3, r4, r5⟩ := hr
  obtain ⟨a, b, c, d, e, f', g, i, j, k, m, n, rfl⟩ := list12 hn
  simp only [List.getD_cons_zero, List.getD_cons_succ] at *
  have q0 := f.kind.1
  have q1 := f.from_.1
  have q2 := f.to.1
  have q3 := f.seq
  have q4 := f.mask.1
  have q5 := f.other.1
  simp only [shM, List.getD_cons_zero, List.getD_cons_succ] at q0 q1 q2 q3 q4 q5
  have k0 := numT_back (s := a) (by omega)
  have k1 := numT_back q1
  have k2 := numT_back q2
  have k3 := numT_back q3
  have k4 := numT_back q4
  have k5 := numT_back q5
  have t1 := (rdAu_back r1).2.2
  have t2 : autsB ((sR k).map fun t => (rdAu t).1) = k := by
    unfold autsB
    rw [List.map_map]
    have : (sR k).map (Au.text ∘ fun t => (rdAu t).1) = sR k := by
      conv => rhs; rw [← List.map_id (sR k)]
      exact List.map_congr_left fun t ht => (rdAu_back (r3 t ht)).2.2
    rw [this]
    exact (split_back r2).1.symm
  have t3 := (rdAll_back r4).1
  have t4 : listB (sR n) = n := (split_back r5).1.symm
  simp only [Mail.parts, shM, List.getD_cons_zero, List.getD_cons_succ]
  rw [← k0, ← k1, ← k2, ← k3, ← k4, ← k5, t1, t2, t3, t4]
theorem rdM_back {s : List UInt8} (h : (rdM s).2 = true) : (rdM s).1.ok ∧ (rdM s).1.Facts ∧ (rdM s).1.text = s ∧ total (rdM s).1.proofs ≤ s.length := by
  unfold rdM at *
  split at h
  · rename_i hc
    rw [dif_pos hc]
    split at h
    · rename_i hr
      rw [if_pos hr]
      have hl : ∀ t ∈ sR s, t.length ≤ 262144 := fun t ht => by have := split_len hc.1 ht; have := (split_back hc.1).2; omega
      have hb := split_back hc.1
      have hp := shM_back hl hc.2.1 hc.2.2 hr.1 hr.2
      have hbytes : (shM (sR s) hc.2.2).bytes = s := by
        unfold Mail.bytes
        rw [hp]; exact hb.1.symm
      refine ⟨shM_ok hl _, (Mail.good_iff _).1 hr.2, ?_, ?_⟩
      · unfold Mail.text
        rw [if_pos hr.2, hbytes, if_neg (by omega)]
      · have h1 := (sR_le ((sR s).getD 11 [])).2.2
        have h2 : ((sR s).getD 11 []).length ≤ s.length := getD_le (fun t ht => split_len hc.1 ht) 11
        show total (sR ((sR s).getD 11 [])) ≤ _
        omega
    · cases h
  · cases h
end Go.VL
