/- Part MailEq of the proof: made for this claim. -/
import Derived.Test.YtljfmgfokifooaaMailRead
set_option linter.unusedVariables false
set_option linter.unusedSimpArgs false
set_option maxRecDepth 100000
set_option maxHeartbeats 4000000
open Go.RowKit
namespace Go.VL
def rawM (a b c d : List UInt8) (x : Id32) (f g i j k m n : List UInt8) : Mail :=
  ⟨wholeN a, wholeN b, wholeN c, wholeN d, x, wholeN f, g, wholeN i, (rdAu j).1, (sR k).map fun t => (rdAu t).1, (rdAll m).1, sR n⟩
def rawF (a b c d e f i j k n : List UInt8) : Prop := wholeOk a = true ∧ wholeOk b = true ∧ wholeOk c = true ∧ wholeOk d = true ∧ e.length = 32 ∧ wholeOk f = true ∧ wholeOk i = true ∧ (rdAu j).2 = true ∧ sE k = 0 ∧ (∀ t ∈ sR k, (rdAu t).2 = true) ∧ sE n = 0
instance (a b c d e f i j k n : List UInt8) : Decidable (rawF a b c d e f i j k n) := by unfold rawF; exact inferInstance
theorem rawM_ok {a b c d f g i j k m n : List UInt8} {x : Id32} (hg : g.length ≤ 262144) (hk : k.length ≤ 262144) (hm : m.length ≤ 262144) (hn : n.length ≤ 262144) : (rawM a b c d x f g i j k m n).ok := by
  have n1 := sR_le k
  have n2 := sR_le n
  have n3 := rdAll_len' m
  have k1 : (rawM a b c d x f g i j k m n).pay.length ≤ 140737488351232 := by simp only [rawM]; omega
  have k2 : ∀ a' ∈ (rawM a b c d x f g i j k m n).auths, a'.ok := by
    simp only [rawM]
    intro a ha
    obtain ⟨t, _, rfl⟩ := List.mem_map.1 ha
    exact rdAu_ok t
  have k3 : (rawM a b c d x f g i j k m n).auths.length ≤ 140737488351232 := by simp only [rawM]; rw [List.length_map]; omega
  have k4 : (rawM a b c d x f g i j k m n).ents.length ≤ 140737488351232 := by simp only [rawM]; omega
  have k5 : ∀ s ∈ (rawM a b c d x f g i j k m n).proofs, s.length ≤ 140737488351232 := by
    simp only [rawM]
    intro s hs; have := n2.1 s hs; omega
  have k6 : (rawM a b c d x f g i j k m n).proofs.length ≤ 140737488351232 := by simp only [rawM]; omega
  exact ⟨wholeN_inR _, wholeN_inR _, wholeN_inR _, wholeN_inR _, wholeN_inR _, k1, wholeN_inR _, rdAu_ok _, ⟨k2, k3⟩, ⟨rdAll_ok _, k4⟩, ⟨k5, k6⟩⟩
theorem numT_ok {s : List UInt8} (h : wholeOk s = true) : numT s = wholeN s := if_pos h
theorem numT_ge {s : List UInt8} (h : 0 ≤ numT s) : wholeOk s = true := by
  by_cases w : wholeOk s = true
  · exact w
  · have : numT s = -1 := if_neg w
    omega
theorem rdM_no {s : List UInt8} (h : ¬ (sE s = 0 ∧ (sR s).length = 12)) : rdM s = (mail0, false) := dif_neg fun q => h ⟨q.1, q.2.1⟩
theorem rdM_eq {s a b c d e f g i j k m n : List UInt8} {x : Id32} (h0 : sE s = 0) (hl : sR s = [a, b, c, d, e, f, g, i, j, k, m, n]) (hx : x.1 = e ∨ (e.length ≠ 32 ∧ x = z32)) :
    rdM s = if rawF a b c d e f i j k n ∧ (rdAll m).2 = true ∧ (rawM a b c d x f g i j k m n).good = true then (rawM a b c d x f g i j k m n, true) else (mail0, false) := by
  by_cases hF : rawF a b c d e f i j k n
  · obtain ⟨h1, h2, h3, h4, h5, h6, h7, h8, h9, h10, h11⟩ := id hF
    have hxe : x.1 = e := hx.resolve_right fun q => q.1 h5
    have hS : mlS s := ⟨h0, by rw [hl]; rfl, by rw [hl]; exact h5⟩
    have e1 : shM (sR s) hS.2.2 = rawM a b c d x f g i j k m n := by
      simp only [shM, hl, List.getD_cons_zero, List.getD_cons_succ, numT_ok h1, numT_ok h2, numT_ok h3, numT_ok h4, numT_ok h6, numT_ok h7, rawM]
      congr 1
      exact Subtype.ext hxe.symm
    have e2 : mlR (sR s) ↔ (rdAll m).2 = true := by
      unfold mlR
      simp only [hl, List.getD_cons_zero, List.getD_cons_succ]
      exact ⟨fun q => q.2.2.2.1, fun q => ⟨h8, h9, h10, q, h11⟩⟩
    unfold rdM
    rw [dif_pos hS, e1]
    by_cases hr : (rdAll m).2 = true ∧ (rawM a b c d x f g i j k m n).good = true
    · rw [if_pos ⟨e2.2 hr.1, hr.2⟩, if_pos ⟨hF, hr⟩]
    · rw [if_neg fun q => hr ⟨e2.1 q.1, q.2⟩, if_neg fun q => hr q.2]
  · rw [if_neg fun q => hF q.1]
    unfold rdM
    split
    · rename_i hS
      rw [if_neg]
      rintro ⟨hr, hg⟩
      apply hF
      have f := (Mail.good_iff _).1 hg
      obtain ⟨r1, r2, r3, r4, r5⟩ := hr
      have q0 := f.kind.1
      have q1 := f.from_.1
      have q2 := f.to.1
      have q3 := f.seq
      have q4 := f.mask.1
      have q5 := f.other.1
      have q6 := hS.2.2
      simp only [shM, hl, List.getD_cons_zero, List.getD_cons_succ] at q0 q1 q2 q3 q4 q5 q6 r1 r2 r3 r5
      exact ⟨numT_ge (by omega), numT_ge q1, numT_ge q2, numT_ge q3, q6, numT_ge q4, numT_ge q5, r1, r2, r3, r5⟩
    · rfl
theorem rawF_flag {a b c d e f i j k n : List UInt8} {f1 f2 f3 f4 f5 f6 f7 f8 f9 f10 f11 : Bool} (h1 : f1 = or false (!wholeOk a)) (h2 : f2 = or f1 (!wholeOk b)) (h3 : f3 = or f2 (!wholeOk c)) (h4 : f4 = or f3 (!wholeOk d))
    (h5 : f5 = or f4 (!decide (e.length = 32))) (h6 : f6 = or f5 (!wholeOk f)) (h7 : f7 = or f6 (!wholeOk i)) (h8 : f8 = or f7 (!(rdAu j).2)) (h9 : f9 = or f8 (!decide (sE k = 0))) (h10 : f10 = or f9 ((sR k).any fun t => !(rdAu t).2)) (h11 : f11 = or f10 (!decide (sE n = 0))) :
    f11 = false ↔ rawF a b c d e f i j k n := by
  subst h1 h2 h3 h4 h5 h6 h7 h8 h9 h10 h11
  simp only [rawF, Bool.or_eq_false_iff, Bool.not_eq_false', decide_eq_true_eq, List.any_eq_false, Bool.false_or, Bool.not_eq_true', true_and]
  constructor
  · rintro ⟨⟨⟨⟨⟨⟨⟨⟨⟨⟨a, b⟩, c⟩, d⟩, e⟩, f⟩, g⟩, h⟩, i⟩, j⟩, k⟩
    exact ⟨a, b, c, d, e, f, g, h, i, fun t ht => by simpa using j t ht, k⟩
  · rintro ⟨a, b, c, d, e, f, g, h, i, j, k⟩
    exact ⟨⟨⟨⟨⟨⟨⟨⟨⟨⟨a, b⟩, c⟩, d⟩, e⟩, f⟩, g⟩, h⟩, i⟩, fun t ht => by simpa using j t ht⟩, k⟩
def shR (a b c d : List UInt8) (x : Id32) (f g i j k m n : List UInt8) : Mail :=
  ⟨numT a, numT b, numT c, numT d, x, numT f, g, numT i, (rdAu j).1, (sR k).map fun t => (rdAu t).1, (rdAll m).1, sR n⟩
theorem mlT_noOwn (cs : List V) (v : Value) : V.noOwn (.tup [.agg cs, .flat v]) := fun j sz n l h => by
  simp only [comp] at h
  rcases j with _ | _ | j <;> simp at h
theorem mail0_imp (v : Value) : Imp (.tup [.agg (Ml.c ml0), .flat v]) (.tup [.agg mail0.ml.c, .flat v]) :=
  Imp.tup (ImpL.cons (Ml.imp mail0 .nil .nil .nil (Imp.nil _ _) (Imp.nil _ _) (Imp.nil _ _)) (ImpL.refl _))
end Go.VL
