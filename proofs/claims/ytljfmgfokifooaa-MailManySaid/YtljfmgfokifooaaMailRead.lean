/- Part MailRead of the proof: made for this claim. -/
import Derived.Test.YtljfmgfokifooaaMailSpec
import Derived.Test.YtljfmgfokifooaaEntRead
set_option linter.unusedVariables false
set_option linter.unusedSimpArgs false
set_option maxRecDepth 100000
set_option maxHeartbeats 4000000
open Go.RowKit
namespace Go.VL
def shA (l : List (List UInt8)) (h : (l.getD 2 []).length = 32) : Au := ⟨numT (l.getD 0 []), numT (l.getD 1 []), ⟨l.getD 2 [], h⟩, l.getD 3 []⟩
def auS (s : List UInt8) : Prop := sE s = 0 ∧ (sR s).length = 4 ∧ ((sR s).getD 2 []).length = 32
instance (s : List UInt8) : Decidable (auS s) := by unfold auS; exact inferInstance
def rdAu (s : List UInt8) : Au × Bool := if h : auS s then (if (shA (sR s) h.2.2).word = true then (shA (sR s) h.2.2, true) else (au0, false)) else (au0, false)
theorem au0_ok : au0.ok := by refine ⟨?_, ?_, ?_⟩ <;> (unfold au0; simp [inR])
theorem getD_le {l : List (List UInt8)} {n : Nat} (h : ∀ t ∈ l, t.length ≤ n) (i : Nat) : (l.getD i []).length ≤ n := by
  rw [List.getD_eq_getElem?_getD]
  cases hi : l[i]? with
  | none => simp
  | some t => exact h t (List.mem_of_getElem? hi)
theorem rdAu_ok (s : List UInt8) : (rdAu s).1.ok := by
  unfold rdAu
  split
  · rename_i h
    split
    · exact ⟨numT_inR _, numT_inR _, getD_le (fun t ht => by have := split_len h.1 ht; have := (split_back h.1).2; omega) 3⟩
    · exact au0_ok
  · exact au0_ok
theorem rdAu_text {a : Au} (ha : a.ok) (h : a.word = true) : rdAu a.text = (a, true) := by
  have w := (Au.word_iff _).1 h
  obtain ⟨t1, t2⟩ := Au.total_le ha (by omega)
  have hl := Au.text_le ha 1024 w.2.2 (by omega)
  obtain ⟨s1, s2⟩ := split_listB a.parts (by omega) (by omega) (by show a.text.length ≤ _; omega)
  have hS : auS a.text := ⟨s1, by show (sR (listB a.parts)).length = 4; rw [s2, t2], by show ((sR (listB a.parts)).getD 2 []).length = 32; rw [s2]; exact a.hash.2⟩
  have e : shA (sR a.text) hS.2.2 = a := by
    have n1 := numT_numB a.node w.1.1 (by have := ha.1.2; omega)
    have n2 := numT_numB a.seq w.2.1 (by have := ha.2.1.2; omega)
    have s2' : sR a.text = a.parts := s2
    simp only [shA, s2', Au.parts, List.getD_cons_zero, List.getD_cons_succ, n1, n2]
  unfold rdAu
  rw [dif_pos hS, e, if_pos h]
theorem rdAu_no {s : List UInt8} (h : ¬ auS s) : rdAu s = (au0, false) := dif_neg h
theorem rdAu_eq {s a b d : List UInt8} {x : Id32} (h0 : sE s = 0) (hl : sR s = [a, b, x.1, d]) : rdAu s = if wholeOk a = true ∧ wholeOk b = true ∧ wholeN a < 5 ∧ d.length ≤ 1024 then (⟨wholeN a, wholeN b, x, d⟩, true) else (au0, false) := by
  have hS : auS s := ⟨h0, by rw [hl]; rfl, by rw [hl]; exact x.2⟩
  have e : shA (sR s) hS.2.2 = ⟨numT a, numT b, x, d⟩ := by
    simp only [shA, hl, List.getD_cons_zero, List.getD_cons_succ]
  unfold rdAu
  rw [dif_pos hS, e]
  have ra := wholeN_range a
  have rb := wholeN_range b
  by_cases h : wholeOk a = true ∧ wholeOk b = true ∧ wholeN a < 5 ∧ d.length ≤ 1024
  · obtain ⟨h1, h2, h3, h4⟩ := id h
    have na : numT a = wholeN a := if_pos h1
    have nb : numT b = wholeN b := if_pos h2
    rw [if_pos h, na, nb, if_pos]
    rw [Au.word_iff]
    exact ⟨⟨ra, h3⟩, rb, h4⟩
  · rw [if_neg h, if_neg]
    intro q
    rw [Au.word_iff] at q
    simp only at q
    apply h
    have wa : wholeOk a = true := by
      by_cases w : wholeOk a = true
      · exact w
      · have : numT a = -1 := if_neg w
        omega
    have wb : wholeOk b = true := by
      by_cases w : wholeOk b = true
      · exact w
      · have : numT b = -1 := if_neg w
        omega
    have na : numT a = wholeN a := if_pos wa
    exact ⟨wa, wb, by omega, q.2.2⟩
def shM (l : List (List UInt8)) (h : (l.getD 4 []).length = 32) : Mail :=
  ⟨numT (l.getD 0 []), numT (l.getD 1 []), numT (l.getD 2 []), numT (l.getD 3 []), ⟨l.getD 4 [], h⟩, numT (l.getD 5 []), l.getD 6 [], numT (l.getD 7 []), (rdAu (l.getD 8 [])).1, (sR (l.getD 9 [])).map fun t => (rdAu t).1, (rdAll (l.getD 10 [])).1, sR (l.getD 11 [])⟩
def mlS (s : List UInt8) : Prop := sE s = 0 ∧ (sR s).length = 12 ∧ ((sR s).getD 4 []).length = 32
instance (s : List UInt8) : Decidable (mlS s) := by unfold mlS; exact inferInstance
def mlR (l : List (List UInt8)) : Prop := (rdAu (l.getD 8 [])).2 = true ∧ sE (l.getD 9 []) = 0 ∧ (∀ t ∈ sR (l.getD 9 []), (rdAu t).2 = true) ∧ (rdAll (l.getD 10 [])).2 = true ∧ sE (l.getD 11 []) = 0
def rdrC (l : List (List UInt8)) (f : Bool) : List V := [.sl false 1 l.length (sv l), .flat (.bool f)]
theorem rdrC_low (l : List (List UInt8)) (f : Bool) : ∀ c ∈ rdrC l f, Low c := fun c hc => by
  simp only [rdrC, List.mem_cons, List.not_mem_nil, or_false] at hc
  rcases hc with rfl | rfl
  · exact lowSl (FlatS.sv l)
  · exact Low.flat _
theorem updW2 {M M' : Mem} {b : Nat} {c : Option (List V)} (h : ∀ b', b' ≠ b → M b' ≠ none → M' b' = M b') : ∀ b', upd M b c b' ≠ none → upd M' b c b' = upd M b c b' := fun b' hb' => by
  by_cases e : b' = b
  · subst e; rw [upd_same, upd_same]
  · rw [upd_ne _ _ e] at hb' ⊢
    rw [upd_ne _ _ e]
    exact h b' e hb'
theorem updW4 {M : Mem} {mn b : Nat} {c1 c x : Option (List V)} (hM : ∀ k, mn ≤ k → M k = none) : ∀ b', upd M b c b' ≠ none → upd (upd (upd M b c1) mn x) b c b' = upd M b c b' := updW2 fun b' h1 h2 => by
  rw [upd_ne _ _ (fun e => h2 (hM b' (by omega))), upd_ne _ _ h1]
instance (l : List (List UInt8)) : Decidable (mlR l) := by unfold mlR; exact inferInstance
def mail0 : Mail := ⟨0, 0, 0, 0, z32, 0, [], 0, au0, [], [], []⟩
def rdM (s : List UInt8) : Mail × Bool := if h : mlS s then (if mlR (sR s) ∧ (shM (sR s) h.2.2).good = true then (shM (sR s) h.2.2, true) else (mail0, false)) else (mail0, false)
theorem list12 {α : Type} {l : List α} (h : l.length = 12) : ∃ a b c d e f g i j k m n, l = [a, b, c, d, e, f, g, i, j, k, m, n] := by
  match l, h with
  | [a, b, c, d, e, f, g, i, j, k, m, n], _ => exact ⟨a, b, c, d, e, f, g, i, j, k, m, n, rfl⟩
theorem rdAll_ok (s : List UInt8) : ∀ e ∈ (rdAll s).1, e.ok := by
  cases h : (rdAll s).2 with
  | true => exact (rdAll_back h).2
  | false =>
    unfold rdAll at h ⊢
    split at h
    · cases h
    · rename_i q; rw [if_neg q]; intro e he; cases he
theorem rdAll_len {s : List UInt8} (h : (rdAll s).2 = true) : (rdAll s).1.length ≤ s.length := by
  unfold rdAll at h ⊢
  split at h
  · rename_i hc
    rw [if_pos hc, List.length_map]
    exact split_cnt hc.1
  · cases h
theorem rdAll_len' (s : List UInt8) : (rdAll s).1.length ≤ s.length := by
  cases h : (rdAll s).2 with
  | true => exact rdAll_len h
  | false =>
    unfold rdAll at h ⊢
    split at h
    · cases h
    · rename_i q; rw [if_neg q]; simp
theorem sR_le (s : List UInt8) : (∀ t ∈ sR s, t.length ≤ s.length) ∧ (sR s).length ≤ s.length ∧ total (sR s) ≤ s.length := by
  by_cases h : sE s = 0
  · exact ⟨fun t ht => split_len h ht, split_cnt h, split_tot h⟩
  · rw [sR_no h]; exact ⟨(fun t ht => absurd ht List.not_mem_nil), (by simp), (by simp [total])⟩
theorem rdM_bytes {m : Mail} (hm : m.ok) (h : m.Facts) (hp : total m.proofs ≤ 1000000) (hb : m.bytes.length ≤ 262144) : rdM m.bytes = (m, true) := by
  obtain ⟨t1, t2⟩ := Mail.total_le hm h 1000000 hp (by omega)
  obtain ⟨s1, s2⟩ := split_listB m.parts (by omega) (by omega) hb
  have s2' : sR m.bytes = m.parts := s2
  have hS : mlS m.bytes := ⟨s1, by rw [s2', t2], by rw [s2']; exact m.prev.2⟩
  obtain ⟨i1, i2, i3, i4, i5, i6, i7, i8, ⟨i9, _⟩, ⟨j1, _⟩, j2, _⟩ := id hm
  have hlen : ∀ t ∈ m.parts, t.length ≤ 262144 := fun t ht => by
    rw [← s2'] at ht
    have h3 : t.length ≤ m.bytes.length := split_len (s := m.bytes) s1 ht
    omega
  have l9 : m.parts.getD 9 [] = autsB m.auths := rfl
  have l10 : m.parts.getD 10 [] = textsB m.ents := rfl
  have l11 : m.parts.getD 11 [] = listB m.proofs := rfl
  have w9 : (autsB m.auths).length ≤ 262144 := hlen _ (by simp [Mail.parts])
  have w10 : (textsB m.ents).length ≤ 262144 := hlen _ (by simp [Mail.parts])
  have w11 : (listB m.proofs).length ≤ 262144 := hlen _ (by simp [Mail.parts])
  have n1 := numT_numB m.kind (by have := h.kind.1; omega) (by have := i1.2; omega)
  have n2 := numT_numB m.from_ h.from_.1 (by have := i2.2; omega)
  have n3 := numT_numB m.to h.to.1 (by have := i3.2; omega)
  have n4 := numT_numB m.seq h.seq (by have := i4.2; omega)
  have n5 := numT_numB m.mask h.mask.1 (by have := i5.2; omega)
  have n6 := numT_numB m.other h.other.1 (by have := i7.2; omega)
  have n7 := rdAu_text i8 h.auth
  have ta := total_auts m.auths i9 h.auths.2
  have te := total_texts m.ents j1
  obtain ⟨u1, u2⟩ := split_listB (m.auths.map Au.text) (by have := h.auths.1; omega) (by have := h.auths.1; simp; omega) w9
  obtain ⟨v1, v2⟩ := split_listB m.proofs (by omega) h.proofs w11
  obtain ⟨x1, x2⟩ := split_listB (m.ents.map Ent.text) (by have := h.ents.1; omega) (by have := h.ents.1; simp; omega) w10
  have hm1 : (m.auths.map Au.text).map (fun t => (rdAu t).1) = m.auths := by
    rw [List.map_map]
    conv => rhs; rw [← List.map_id m.auths]
    exact List.map_congr_left fun a ha => by show (rdAu a.text).1 = a; rw [rdAu_text (i9 a ha) (h.auths.2 a ha)]
  have hm2 : rdAll (textsB m.ents) = (m.ents, true) := by
    unfold rdAll textsB
    rw [x2, if_pos]
    · rw [List.map_map]
      congr 1
      conv => rhs; rw [← List.map_id m.ents]
      exact List.map_congr_left fun a ha => by show (rdE a.text).1 = a; rw [rdE_text (j1 a ha) (h.ents.2 a ha)]
    · refine ⟨x1, fun t ht => ?_⟩
      obtain ⟨e, he, rfl⟩ := List.mem_map.1 ht
      rw [rdE_text (j1 e he) (h.ents.2 e he)]
  have e : shM (sR m.bytes) hS.2.2 = m := by
    simp only [shM, s2', Mail.parts, List.getD_cons_zero, List.getD_cons_succ, n1, n2, n3, n4, n5, n6, n7, hm2]
    show Mail.mk _ _ _ _ _ _ _ _ _ ((sR (listB (m.auths.map Au.text))).map fun t => (rdAu t).1) _ _ = _
    rw [u2, v2, hm1]
  have hr : mlR (sR m.bytes) := by
    unfold mlR
    rw [s2']
    refine ⟨?_, ?_, ?_, ?_, ?_⟩
    · show (rdAu m.auth.text).2 = true; rw [n7]
    · exact u1
    · show ∀ t ∈ sR (listB (m.auths.map Au.text)), _
      rw [u2]
      intro t ht
      obtain ⟨a, ha, rfl⟩ := List.mem_map.1 ht
      rw [rdAu_text (i9 a ha) (h.auths.2 a ha)]
    · show (rdAll (textsB m.ents)).2 = true; rw [hm2]
    · exact v1
  unfold rdM
  rw [dif_pos hS, e, if_pos ⟨hr, (Mail.good_iff m).2 h⟩]
end Go.VL
