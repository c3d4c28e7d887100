/- Part MailMany of the proof: made for this claim. -/
import Derived.Test.YtljfmgfokifooaaMailEq
import Derived.Test.YtljfmgfokifooaaMailGreat
set_option linter.unusedVariables false
set_option linter.unusedSimpArgs false
set_option maxRecDepth 100000
set_option maxHeartbeats 4000000
open Go.RowKit
namespace Go.VL
theorem rep_au (n : Nat) : rep n au0.c = Au.lC (List.replicate n au0) := by
  rw [rep, Au.lC, List.map_replicate]
theorem rep_sv (n : Nat) : rep n [V.flat (.string ByteArray.empty)] = sv (List.replicate n []) := by
  rw [rep, List.flatten_replicate_singleton]
  unfold sv
  rw [List.map_replicate]; rfl
theorem rep_bv (n : Nat) : rep n [V.flat (.int .u8 0)] = bv (List.replicate n 0) := by
  rw [rep, List.flatten_replicate_singleton]
  unfold bv
  rw [List.map_replicate]; rfl
def manyA (n1 n2 : Nat) : Mail := ⟨3, 0, 0, 0, z32, 0, [], 0, au0, List.replicate n1 au0, [], List.replicate n2 []⟩
def manyB (n3 : Nat) : Mail := ⟨7, 0, 0, 0, z32, 0, [], 0, au0, [], [], [List.replicate n3 0]⟩
theorem au0_word : au0.word = true := by rw [Au.word_iff]; simp [au0]
theorem z_inR {n : Int} (h0 : 0 ≤ n) (h : n ≤ 100) : inR n := by unfold inR; omega
theorem manyA_ok {n1 n2 : Nat} (h1 : n1 ≤ 10000) (h2 : n2 ≤ 10000) : (manyA n1 n2).ok :=
  ⟨z_inR (n := 3) (by decide) (by decide), z_inR (n := 0) (by decide) (by decide), z_inR (n := 0) (by decide) (by decide), z_inR (n := 0) (by decide) (by decide), z_inR (n := 0) (by decide) (by decide), by simp [manyA], z_inR (n := 0) (by decide) (by decide), au0_ok, ⟨fun a h => by rw [List.eq_of_mem_replicate h]; exact au0_ok, by simp [manyA]; omega⟩, ⟨fun a h => absurd h List.not_mem_nil, by simp [manyA]⟩, fun a h => by rw [List.eq_of_mem_replicate h]; simp, by simp [manyA]; omega⟩
theorem manyB_ok {n3 : Nat} (h : n3 ≤ 262144) : (manyB n3).ok :=
  ⟨z_inR (n := 7) (by decide) (by decide), z_inR (n := 0) (by decide) (by decide), z_inR (n := 0) (by decide) (by decide), z_inR (n := 0) (by decide) (by decide), z_inR (n := 0) (by decide) (by decide), by simp [manyB], z_inR (n := 0) (by decide) (by decide), au0_ok, ⟨fun a h => absurd h List.not_mem_nil, by simp [manyB]⟩, ⟨fun a h => absurd h List.not_mem_nil, by simp [manyB]⟩, fun a h => by simp [manyB] at h; rw [h, List.length_replicate]; omega, by simp [manyB]⟩
theorem manyA_good (n1 n2 : Nat) : (manyA n1 n2).good = (decide (n1 ≤ 512) && decide (n2 ≤ 4096)) := by
  rw [Bool.eq_iff_iff, Mail.good_iff]
  simp only [Bool.and_eq_true, decide_eq_true_eq]
  constructor
  · intro h
    have h1 := h.auths.1
    have h2 := h.proofs
    simp only [manyA, List.length_replicate] at h1 h2
    exact ⟨h1, h2⟩
  · rintro ⟨h1, h2⟩
    exact ⟨⟨by simp [manyA], by simp [manyA]⟩, ⟨by simp [manyA], by simp [manyA]⟩, ⟨by simp [manyA], by simp [manyA]⟩, ⟨by simp [manyA], by simp [manyA]⟩, by simp [manyA], ⟨by simp [manyA], by simp [manyA]⟩, by simp [manyA], au0_word, ⟨by simpa [manyA] using h1, fun a h => by rw [List.eq_of_mem_replicate h]; exact au0_word⟩, ⟨by simp [manyA], fun a h => absurd h List.not_mem_nil⟩, by simpa [manyA] using h2⟩
theorem manyB_good (n3 : Nat) : (manyB n3).good = true := by
  rw [Mail.good_iff]
  exact ⟨⟨by simp [manyB], by simp [manyB]⟩, ⟨by simp [manyB], by simp [manyB]⟩, ⟨by simp [manyB], by simp [manyB]⟩, ⟨by simp [manyB], by simp [manyB]⟩, by simp [manyB], ⟨by simp [manyB], by simp [manyB]⟩, by simp [manyB], au0_word, ⟨by simp [manyB], fun a h => absurd h List.not_mem_nil⟩, ⟨by simp [manyB], fun a h => absurd h List.not_mem_nil⟩, by simp [manyB]⟩
theorem total_rep (n : Nat) (s : List UInt8) : total (List.replicate n s) = n * s.length := by
  unfold total
  rw [List.map_replicate, List.sum_replicate_nat]
theorem au0_text : au0.text.length ≤ 100 := Au.text_le au0_ok 0 (by simp [au0]) (by omega)
theorem bytes_ne (m : Mail) : m.bytes ≠ [] := by
  unfold Mail.bytes
  rw [listB]
  simp [numB]
theorem manyA_text {n1 n2 : Nat} (h1 : n1 ≤ 10000) (h2 : n2 ≤ 10000) : ((manyA n1 n2).text = []) = ¬ ((manyA n1 n2).good = true) := by
  unfold Mail.text
  by_cases hg : (manyA n1 n2).good = true
  · rw [if_pos hg]
    rw [manyA_good] at hg
    simp only [Bool.and_eq_true, decide_eq_true_eq] at hg
    have b0 := numB_length 0 (by omega)
    have b3 := numB_length 3 (by omega)
    have ht := au0_text
    have e1 : autsB (List.replicate n1 au0) = listB (List.replicate n1 au0.text) := by unfold autsB; rw [List.map_replicate]
    have k1 := listB_le (List.replicate n1 au0.text) (by rw [total_rep]; have := Nat.mul_le_mul hg.1 ht; omega) (by simp; omega)
    rw [total_rep, List.length_replicate] at k1
    have k1' := Nat.mul_le_mul hg.1 ht
    have k2 := listB_le (List.replicate n2 ([] : List UInt8)) (by rw [total_rep]; simp) (by simp; omega)
    rw [total_rep, List.length_replicate, List.length_nil, Nat.mul_zero] at k2
    have e0 : textsB [] = numB 0 := by simp [textsB, listB, listTail]
    have hz : z32.1.length = 32 := z32.2
    have ht2 : total (manyA n1 n2).parts ≤ 150000 := by
      simp only [total, Mail.parts, manyA, e1, e0, List.map_cons, List.map_nil, List.sum_cons, List.sum_nil, hz, List.length_nil]
      have e3 : (numB (Int.toNat 3)).length ≤ 9 := b3
      have e4 : (numB (Int.toNat 0)).length ≤ 9 := b0
      omega
    have h3 := listB_le (manyA n1 n2).parts (by omega) (by simp [Mail.parts])
    rw [show (manyA n1 n2).parts.length = 12 from rfl] at h3
    have h4 : (manyA n1 n2).bytes.length ≤ 262144 := by show (listB (manyA n1 n2).parts).length ≤ _; omega
    rw [if_neg (by omega)]
    exact propext ⟨fun h => absurd h (bytes_ne _), fun h => absurd (by rw [manyA_good]; simp [hg]) h⟩
  · rw [if_neg hg]; exact propext ⟨fun _ => hg, fun _ => rfl⟩
theorem manyB_0 : (manyB 0).bytes.length ≤ 262144 ∧ (manyB 0).text = (manyB 0).bytes := by
  have b0 := numB_length 0 (by omega)
  have b7 := numB_length 7 (by omega)
  have ht := au0_text
  have e0 : textsB [] = numB 0 := by simp [textsB, listB, listTail]
  have e1 : autsB [] = numB 0 := by simp [autsB, listB, listTail]
  have hz : z32.1.length = 32 := z32.2
  have k2 := listB_le [([] : List UInt8)] (by simp [total]) (by simp)
  have k3 : total [([] : List UInt8)] = 0 := rfl
  rw [k3] at k2
  simp only [List.length_cons, List.length_nil] at k2
  have ht2 : total (manyB 0).parts ≤ 150000 := by
    simp only [total, Mail.parts, manyB, e1, e0, List.map_cons, List.map_nil, List.sum_cons, List.sum_nil, hz, List.length_nil, List.replicate_zero]
    have e3 : (numB (Int.toNat 7)).length ≤ 9 := b7
    have e4 : (numB (Int.toNat 0)).length ≤ 9 := b0
    omega
  have h3 := listB_le (manyB 0).parts (by omega) (by simp [Mail.parts])
  rw [show (manyB 0).parts.length = 12 from rfl] at h3
  have h4 : (manyB 0).bytes.length ≤ 262144 := by show (listB (manyB 0).parts).length ≤ _; omega
  refine ⟨h4, ?_⟩
  unfold Mail.text
  rw [if_pos (manyB_good 0), if_neg (by omega)]
theorem manyB_long (n3 : Nat) (h : 262144 ≤ n3) : (manyB n3).text = [] := by
  unfold Mail.text
  rw [if_pos (manyB_good _), if_pos]
  have h1 := listTail_ge (manyB n3).parts
  have h2 : total (manyB n3).parts ≥ 262144 := by
    have k1 := listTail_ge [List.replicate n3 (0 : UInt8)]
    have k2 : total [List.replicate n3 (0 : UInt8)] = n3 := by simp [total]
    have k3 : (listB [List.replicate n3 (0 : UInt8)]).length ≥ 262144 := by rw [listB, List.length_append]; omega
    have k4 : (listB [List.replicate n3 (0 : UInt8)]) ∈ (manyB n3).parts := by simp [Mail.parts, manyB]
    have := mem_total k4
    omega
  show (listB (manyB n3).parts).length > _
  rw [listB, List.length_append, numB_len]
  omega
theorem rdM_nil : rdM [] = (mail0, false) := rdM_no fun q => by have := sE_nil; omega
end Go.VL
