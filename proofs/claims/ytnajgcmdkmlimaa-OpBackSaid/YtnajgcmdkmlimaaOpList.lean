/- Part OpList of the proof: made for this claim. -/
import Derived.Test.YtnajgcmdkmlimaaOpText
/-! Operations in a row. -/
set_option linter.unusedVariables false
set_option linter.unusedSimpArgs false
namespace Go.VL
def Opn.oc (o : Opn) : List V := OpR.c ⟨o.d, o.a, o.dep, .sl false 32 o.ps.length (idsC o.ps)⟩
theorem Opn.oc_len (o : Opn) : o.oc.length = 38 := OpR.c_len _
def Opn.lC (l : List Opn) : List V := (l.map Opn.oc).flatten
theorem Opn.l_nil : Opn.lC [] = [] := rfl
theorem Opn.l_len (l : List Opn) : (Opn.lC l).length = l.length * 38 := by
  unfold Opn.lC
  rw [flatten_len 38 _ (fun c hc => by obtain ⟨x, _, rfl⟩ := List.mem_map.1 hc; exact Opn.oc_len x), List.length_map]
theorem Opn.l_app (l : List Opn) (x : Opn) : Opn.lC l ++ x.oc = Opn.lC (l ++ [x]) := by simp [Opn.lC]
theorem Opn.l_get (l : List Opn) (x : Opn) (i : Nat) (hi : i < l.length) : ((Opn.lC l).drop (i * 38)).take 38 = OpR.c ⟨(l.getD i x).d, (l.getD i x).a, (l.getD i x).dep, .sl false 32 (l.getD i x).ps.length (idsC (l.getD i x).ps)⟩ := by
  show _ = (l.getD i x).oc
  unfold Opn.lC
  rw [flat_chunk 38 _ i (fun c hc => by obtain ⟨x, _, rfl⟩ := List.mem_map.1 hc; exact Opn.oc_len x) (by simpa using hi)]
  simp [List.getD_eq_getElem?_getD, hi]
def opn0 : Opn := ⟨dr0, 0, 0, []⟩
def batB (l : List Opn) : List UInt8 := listB (l.map Opn.text)
theorem Opn.great_of2 {o : Opn} (h : o.great = false) : o.ps.length ≤ 1000 ∧ o.d.key.length ≤ 1000 ∧ o.d.val.length ≤ 1000 := by
  simp only [Opn.great, Bool.or_eq_false_iff, decide_eq_false_iff_not] at h
  omega
theorem Opn.total_bat : ∀ (l : List Opn), (∀ o ∈ l, o.ok ∧ o.great = false) → total (l.map Opn.text) ≤ 50000 * l.length
  | [], _ => by simp [total]
  | o :: l, h => by
    have h1 := Opn.total_bat l fun x hx => h x (List.mem_cons_of_mem _ hx)
    obtain ⟨ho, hg⟩ := h o List.mem_cons_self
    obtain ⟨l1, l2, l3⟩ := Opn.great_of2 hg
    have h2 := Opn.text_le o ho l1 l2 l3
    simp only [total, List.map_cons, List.sum_cons, List.length_cons] at h1 ⊢
    omega
end Go.VL
