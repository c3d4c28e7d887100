/- Part OpRead of the proof: made for this claim. -/
import Derived.Test.YtnajgcmdkmlimaaOpList
import Derived.Test.YtnajgcmdkmlimaaEntRead
/-! Operations are read. -/
set_option linter.unusedVariables false
set_option linter.unusedSimpArgs false
namespace Go.VL
def partI (s : List UInt8) (i : Nat) : Id32 := ⟨(List.range 32).map fun k => s.getD (32 * i + k) 0, by simp⟩
theorem partI_take (s : List UInt8) (i : Nat) (h : 32 * i + 32 ≤ s.length) : (s.drop (32 * i)).take 32 = (partI s i).1 := by
  apply List.ext_getElem?
  intro k
  simp only [partI, List.getElem?_take, List.getElem?_drop, List.getElem?_map]
  by_cases hk : k < 32
  · rw [if_pos hk, List.getElem?_range hk]
    simp [List.getD_eq_getElem?_getD, List.getElem?_eq_getElem (show 32 * i + k < s.length by omega)]
  · rw [if_neg hk, List.getElem?_eq_none (by simp; omega)]
    rfl
def idsN (s : List UInt8) (n : Nat) : List Id32 := (List.range n).map (partI s)
theorem idsN_len (s : List UInt8) (n : Nat) : (idsN s n).length = n := by simp [idsN]
theorem idsN_0 (s : List UInt8) : idsN s 0 = [] := rfl
theorem idsN_succ (s : List UInt8) (n : Nat) : idsN s (n + 1) = idsN s n ++ [partI s n] := by simp [idsN, List.range_succ]
def idsOf (s : List UInt8) : List Id32 := idsN s (s.length / 32)
theorem catN (s : List UInt8) : ∀ n, 32 * n ≤ s.length → catI (idsN s n) = s.take (32 * n)
  | 0, _ => by simp [idsN_0, catI]
  | n + 1, h => by
    rw [idsN_succ, catI_app, catN s n (by omega), catI, catI, List.append_nil, ← partI_take s n (by omega), show 32 * (n + 1) = 32 * n + 32 by omega, List.take_add]
theorem catI_ids {s : List UInt8} (h : s.length % 32 = 0) : catI (idsOf s) = s := by
  unfold idsOf
  rw [catN s _ (by omega), List.take_of_length_le (by omega)]
theorem ids_catI (l : List Id32) : idsOf (catI l) = l := catI_inj (catI_ids (by rw [catI_len]; omega))
def opW (l : List (List UInt8)) : Opn := ⟨(rdDr (l.getD 3 [])).1, wholeN (l.getD 0 []), wholeN (l.getD 1 []), idsOf (l.getD 2 [])⟩
def opOk (l : List (List UInt8)) : Bool := decide (l.length = 4) && decide ((l.getD 2 []).length % 32 = 0) && wholeOk (l.getD 0 []) && wholeOk (l.getD 1 []) && (rdDr (l.getD 3 [])).2 && (opW l).good
def rdOp (s : List UInt8) : Opn × Int := if sE s = 0 ∧ opOk (sR s) = true then (opW (sR s), 0) else (opn0, 4)
def rdBat (s : List UInt8) : List Opn × Int := if sE s = 0 ∧ (sR s).length ≤ 8 ∧ ∀ t ∈ sR s, (rdOp t).2 = 0 then ((sR s).map fun t => (rdOp t).1, 0) else ([], 4)
theorem Opn.good_parts {o : Opn} (h : o.good = true) : o.d.good = true ∧ 0 ≤ o.a ∧ o.a ≤ 4 ∧ 1 ≤ o.dep ∧ o.ps.length ≤ 32 := by
  simp only [Opn.good, Bool.and_eq_true] at h
  have h1 := h.1
  simp only [Opn.pre, Bool.not_eq_true', Bool.or_eq_false_iff, Bool.not_eq_false', decide_eq_false_iff_not] at h1
  obtain ⟨⟨⟨⟨⟨q1, q2⟩, q3⟩, q4⟩, q5⟩, _⟩ := h1
  exact ⟨q1, by omega, by omega, by omega, by omega⟩
theorem Opn.good_great {o : Opn} (h : o.good = true) : o.great = false := by
  obtain ⟨h1, _, _, _, h5⟩ := Opn.good_parts h
  obtain ⟨h6, h7⟩ := Dr.good_le h1
  simp only [Opn.great, Bool.or_eq_false_iff, decide_eq_false_iff_not]
  omega
theorem opn0_ok : opn0.ok := ⟨dr0_ok, by unfold inR opn0; simp, by unfold inR opn0; simp, by simp [opn0]⟩
theorem opn0_bad : opn0.good = false := by decide
theorem opW_ok {l : List (List UInt8)} (hl : ∀ t ∈ l, t.length ≤ 140737488351232) : (opW l).ok := by
  refine ⟨rdDr_ok _, wholeN_inR _, wholeN_inR _, ?_⟩
  have hm : (l.getD 2 []).length ≤ 140737488351232 := by
    rw [List.getD_eq_getElem?_getD]
    cases hi : l[2]? with
    | none => simp
    | some t => exact hl t (List.mem_of_getElem? hi)
  show (idsOf (l.getD 2 [])).length ≤ _
  rw [idsOf, idsN_len]; omega
theorem opW_sR (s : List UInt8) (h : sE s = 0) : (opW (sR s)).ok := opW_ok fun t ht => by
  have := split_len h ht
  have := (split_back h).2
  omega
theorem rdOp_ok (s : List UInt8) : (rdOp s).1.ok := by
  unfold rdOp
  split
  · rename_i h; exact opW_sR s h.1
  · exact opn0_ok
theorem opOk_back {l : List (List UInt8)} (h : opOk l = true) : (opW l).good = true ∧ (opW l).parts = l := by
  simp only [opOk, Bool.and_eq_true, decide_eq_true_eq] at h
  obtain ⟨⟨⟨⟨⟨h4, h32⟩, ha⟩, hb⟩, hd⟩, hg⟩ := h
  refine ⟨hg, ?_⟩
  obtain ⟨a, b, c, d, rfl⟩ := list4 h4
  simp only [List.getD_cons_zero, List.getD_cons_succ] at h32 ha hb hd
  show [numB (wholeN a).toNat, numB (wholeN b).toNat, catI (idsOf c), (rdDr d).1.text] = _
  rw [← whole_back ha, ← whole_back hb, catI_ids h32, ← rdDr_back hd]
theorem rdOp_04 (s : List UInt8) : (rdOp s).2 = 0 ∨ (rdOp s).2 = 4 := by
  unfold rdOp; split
  · exact .inl rfl
  · exact .inr rfl
theorem rdOp_no {s : List UInt8} (h : ¬ (rdOp s).2 = 0) : rdOp s = (opn0, 4) := by
  unfold rdOp at *; split
  · rename_i q; rw [if_pos q] at h; exact absurd rfl h
  · rfl
theorem rdOp_back {s : List UInt8} (h : (rdOp s).2 = 0) : (rdOp s).1.good = true ∧ (rdOp s).1.text = s := by
  unfold rdOp at *
  split at h
  · rename_i hc
    rw [if_pos hc]
    obtain ⟨h1, h2⟩ := opOk_back hc.2
    refine ⟨h1, ?_⟩
    show listB (opW (sR s)).parts = s
    rw [h2]; exact (split_back hc.1).1.symm
  · cases h
theorem rdOp_text {o : Opn} (ho : o.ok) (hg : o.great = false) (ha : 0 ≤ o.a) (hb : 0 ≤ o.dep) (hk : 0 ≤ o.d.k) : rdOp o.text = if o.good = true then (o, 0) else (opn0, 4) := by
  obtain ⟨l1, l2, l3⟩ := Opn.great_of2 hg
  have ht := Opn.total_le o ho l1 l2 l3
  have hle := Opn.text_le o ho l1 l2 l3
  obtain ⟨hd, ⟨_, a2⟩, ⟨_, b2⟩, _⟩ := id ho
  obtain ⟨s1, s2⟩ := split_listB o.parts (by omega) (by simp [Opn.parts]) (by show o.text.length ≤ _; omega)
  have hr := rdDr_text hd hk l2 l3
  obtain ⟨w1, w2⟩ := wholeN_numB o.a.toNat (by omega)
  obtain ⟨w3, w4⟩ := wholeN_numB o.dep.toNat (by omega)
  have hW : opW o.parts = o := by
    unfold opW Opn.parts
    simp only [List.getD_cons_zero, List.getD_cons_succ, hr, w1, w3, ids_catI]
    cases o; simp only at *; congr 1 <;> omega
  have hO : opOk o.parts = o.good := by
    unfold opOk
    rw [hW]
    unfold Opn.parts
    simp only [List.getD_cons_zero, List.getD_cons_succ, hr, w2, w4, catI_len, List.length_cons, List.length_nil]
    simp
  show (if sE (listB o.parts) = 0 ∧ opOk (sR (listB o.parts)) = true then (opW (sR (listB o.parts)), (0 : Int)) else (opn0, 4)) = _
  rw [s2, hW, hO]
  by_cases h : o.good = true
  · rw [if_pos h, if_pos ⟨s1, h⟩]
  · rw [if_neg h, if_neg fun q => h q.2]
theorem rdBat_ok (s : List UInt8) : ∀ o ∈ (rdBat s).1, o.ok := by
  unfold rdBat
  split
  · intro o ho
    obtain ⟨t, _, rfl⟩ := List.mem_map.1 ho
    exact rdOp_ok t
  · intro o ho; simp at ho
theorem rdBat_back {s : List UInt8} (h : (rdBat s).2 = 0) : batB (rdBat s).1 = s ∧ (rdBat s).1.length ≤ 8 ∧ ∀ o ∈ (rdBat s).1, o.good = true := by
  unfold rdBat at *
  split at h
  · rename_i hc
    rw [if_pos hc]
    refine ⟨?_, by simpa using hc.2.1, fun o ho => ?_⟩
    · unfold batB
      rw [List.map_map]
      have : (sR s).map (Opn.text ∘ fun t => (rdOp t).1) = sR s := by
        conv => rhs; rw [← List.map_id (sR s)]
        exact List.map_congr_left fun t ht => (rdOp_back (hc.2.2 t ht)).2
      rw [this]
      exact (split_back hc.1).1.symm
    · obtain ⟨t, ht, rfl⟩ := List.mem_map.1 ho
      exact (rdOp_back (hc.2.2 t ht)).1
  · cases h
theorem rdBat_texts {l : List Opn} (hok : ∀ o ∈ l, o.ok ∧ o.great = false) (hn : ∀ o ∈ l, 0 ≤ o.a ∧ 0 ≤ o.dep ∧ 0 ≤ o.d.k) (hl : l.length ≤ 10) : rdBat (batB l) = if l.length ≤ 8 ∧ ∀ o ∈ l, o.good = true then (l, 0) else ([], 4) := by
  by_cases hg : ∀ o ∈ l, o.good = true
  case neg =>
    rw [if_neg fun h => hg h.2]
    have ht := Opn.total_bat l hok
    have hle := listB_le (l.map Opn.text) (by omega) (by simp; omega)
    unfold rdBat
    by_cases hb : (batB l).length ≤ 262144
    · obtain ⟨s1, s2⟩ := split_listB (l.map Opn.text) (by omega) (by simp; omega) hb
      have s2' : sR (batB l) = l.map Opn.text := s2
      rw [if_neg]
      rintro ⟨_, _, h3⟩
      apply hg
      intro o ho
      have h4 := h3 o.text (by rw [s2']; exact List.mem_map.2 ⟨o, ho, rfl⟩)
      obtain ⟨n1, n2, n3⟩ := hn o ho
      rw [rdOp_text (hok o ho).1 (hok o ho).2 n1 n2 n3] at h4
      split at h4
      · assumption
      · cases h4
    · rw [if_neg]
      rintro ⟨h1, _⟩
      exact hb (split_back h1).2
  case pos =>
    have ht : total (l.map Opn.text) ≤ 20000 * l.length := by
      clear hl
      induction l with
      | nil => simp [total]
      | cons o l ih =>
        have ih := ih (fun x hx => hok x (List.mem_cons_of_mem _ hx)) (fun x hx => hn x (List.mem_cons_of_mem _ hx)) (fun x hx => hg x (List.mem_cons_of_mem _ hx))
        have ho := (hok o List.mem_cons_self).1
        obtain ⟨g1, _, _, _, g5⟩ := Opn.good_parts (hg o List.mem_cons_self)
        obtain ⟨g6, g7⟩ := Dr.good_le g1
        have h2 : o.text.length ≤ 20000 := by
          have k1 := ho.1.1.2
          have k2 := ho.2.1.2
          have k3 := ho.2.2.1.2
          have h3 := numB_length o.a.toNat (by omega)
          have h4 := numB_length o.dep.toNat (by omega)
          have h5 := Dr.text_le o.d g6 g7 (by omega)
          have h6 := catI_len o.ps
          have h7 : total o.parts ≤ 2000 := by
            simp only [total, Opn.parts, List.map_cons, List.map_nil, List.sum_cons, List.sum_nil]
            omega
          have := listB_le o.parts (by omega) (by simp [Opn.parts])
          rw [show o.parts.length = 4 from rfl] at this
          show (listB o.parts).length ≤ _
          omega
        simp only [total, List.map_cons, List.sum_cons, List.length_cons] at ih ⊢
        omega
    have hle := listB_le (l.map Opn.text) (by omega) (by simp; omega)
    rw [List.length_map] at hle
    obtain ⟨s1, s2⟩ := split_listB (l.map Opn.text) (by omega) (by simp; omega) (by omega)
    have s1' : sE (batB l) = 0 := s1
    have s2' : sR (batB l) = l.map Opn.text := s2
    have hx : ∀ o ∈ l, rdOp o.text = (o, 0) := fun o ho => by
      obtain ⟨n1, n2, n3⟩ := hn o ho
      rw [rdOp_text (hok o ho).1 (hok o ho).2 n1 n2 n3, if_pos (hg o ho)]
    unfold rdBat
    rw [s2']
    by_cases h8 : l.length ≤ 8
    · have hc : sE (batB l) = 0 ∧ (l.map Opn.text).length ≤ 8 ∧ ∀ t ∈ l.map Opn.text, (rdOp t).2 = 0 := ⟨s1', by simpa using h8, fun t ht => by
        obtain ⟨o, ho, rfl⟩ := List.mem_map.1 ht
        rw [hx o ho]⟩
      rw [if_pos hc, if_pos ⟨h8, hg⟩, List.map_map]
      congr 1
      conv => rhs; rw [← List.map_id l]
      exact List.map_congr_left fun o ho => by
        show (rdOp o.text).1 = o
        rw [hx o ho]
    · have hc : ¬ (sE (batB l) = 0 ∧ (l.map Opn.text).length ≤ 8 ∧ ∀ t ∈ l.map Opn.text, (rdOp t).2 = 0) := by
        rintro ⟨_, h2, _⟩
        exact h8 (by simpa using h2)
      rw [if_neg hc, if_neg fun h => h8 h.1]
end Go.VL
