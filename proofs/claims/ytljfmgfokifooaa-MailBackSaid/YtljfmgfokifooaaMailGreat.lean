/- Part MailGreat of the proof: made for this claim. -/
import Derived.Test.YtljfmgfokifooaaMailRead
import Derived.Test.YtljfmgfokifooaaShaSpec
set_option linter.unusedVariables false
set_option linter.unusedSimpArgs false
set_option maxRecDepth 100000
namespace Go.VL
def wSum (n : Int) (l : List Int) : Int := l.foldl (fun a k => IntKind.i64.wrap (a + k)) n
theorem wSum_nil (n : Int) : wSum n [] = n := rfl
theorem wSum_snoc (n : Int) (l : List Int) (k : Int) : IntKind.i64.wrap (wSum n l + k) = wSum n (l ++ [k]) := by simp [wSum]
theorem wSum_take {α : Type} (f : α → Int) (n : Int) (l : List α) (i : Nat) (d : α) (h : i < l.length) : IntKind.i64.wrap (wSum n ((l.take i).map f) + f (l.getD i d)) = wSum n ((l.take (i + 1)).map f) := by
  rw [take_snoc l i d h, List.map_append, List.map_cons, List.map_nil, ← wSum_snoc]
theorem wSum_eq : ∀ (l : List Nat) (n : Nat), n + l.sum ≤ 4611686018427387904 → wSum n (l.map fun k : Nat => (k : Int)) = ((n + l.sum : Nat) : Int)
  | [], n, _ => by simp [wSum]
  | k :: l, n, h => by
    simp only [List.sum_cons] at h
    have e : wSum n ((k :: l).map fun k : Nat => (k : Int)) = wSum (IntKind.i64.wrap ((n : Int) + (k : Int))) (l.map fun k : Nat => (k : Int)) := rfl
    have e2 : IntKind.i64.wrap ((n : Int) + (k : Int)) = ((n + k : Nat) : Int) := by rw [wi (by omega) (by omega)]; omega
    rw [e, e2, wSum_eq l (n + k) (by omega)]
    simp only [List.sum_cons]
    omega
theorem sum_le {l : List Nat} {b : Nat} (h : ∀ k ∈ l, k ≤ b) : l.sum ≤ l.length * b := by
  induction l with
  | nil => simp
  | cons k l ih =>
    have h1 := h k (by simp)
    have h2 := ih fun x hx => h x (by simp [hx])
    simp only [List.sum_cons, List.length_cons, Nat.add_mul, Nat.one_mul]
    omega
def Ent.sz (e : Ent) : Nat := e.pay.length + e.sig.length + e.d.key.length + e.d.val.length
def Mail.n1 (m : Mail) : Int := wSum (IntKind.i64.wrap ((m.pay.length : Int) + (m.auth.sig.length : Int))) (m.auths.map fun a => (a.sig.length : Int))
def Mail.n2 (m : Mail) : Int := wSum m.n1 (m.ents.map fun e => (e.sz : Int))
def Mail.n3 (m : Mail) : Int := wSum m.n2 (m.proofs.map fun s => (s.length : Int))
def Mail.great (m : Mail) : Bool := decide (m.n3 > 8192) || decide ((m.auths.length : Int) > 20) || decide ((m.ents.length : Int) > 20) || decide ((m.proofs.length : Int) > 20)
theorem Mail.great_iff {m : Mail} (hm : m.ok) : m.great = false ↔ m.small := by
  obtain ⟨_, _, _, _, _, h1, _, h2, ⟨h3, _⟩, ⟨h4, _⟩, h5, _⟩ := hm
  have key : m.auths.length ≤ 20 → m.ents.length ≤ 20 → m.proofs.length ≤ 20 → m.n3 = (m.size : Int) := by
    intro c1 c2 c3
    have s1 : (m.auths.map fun a => a.sig.length).sum ≤ 20 * 140737488351232 := by
      have := sum_le (l := m.auths.map fun a => a.sig.length) (b := 140737488351232) (fun k hk => by obtain ⟨a, ha, rfl⟩ := List.mem_map.1 hk; exact (h3 a ha).2.2)
      rw [List.length_map] at this
      exact Nat.le_trans this (Nat.mul_le_mul_right _ c1)
    have s2 : (m.ents.map Ent.sz).sum ≤ 20 * 562949953404928 := by
      have := sum_le (l := m.ents.map Ent.sz) (b := 562949953404928) (fun k hk => by
        obtain ⟨e, he, rfl⟩ := List.mem_map.1 hk
        obtain ⟨_, ⟨_, k1, k2⟩, _, _, _, k3, k4⟩ := h4 e he
        unfold Ent.sz; omega)
      rw [List.length_map] at this
      exact Nat.le_trans this (Nat.mul_le_mul_right _ c2)
    have s3 : (m.proofs.map List.length).sum ≤ 20 * 140737488351232 := by
      have := sum_le (l := m.proofs.map List.length) (b := 140737488351232) (fun k hk => by obtain ⟨a, ha, rfl⟩ := List.mem_map.1 hk; exact h5 a ha)
      rw [List.length_map] at this
      exact Nat.le_trans this (Nat.mul_le_mul_right _ c3)
    have h6 := h2.2.2
    have e0 : IntKind.i64.wrap ((m.pay.length : Int) + (m.auth.sig.length : Int)) = ((m.pay.length + m.auth.sig.length : Nat) : Int) := by rw [wi (by omega) (by omega)]; omega
    have e1 : m.n1 = ((m.pay.length + m.auth.sig.length + (m.auths.map fun a => a.sig.length).sum : Nat) : Int) := by
      have := wSum_eq (m.auths.map fun a => a.sig.length) (m.pay.length + m.auth.sig.length) (by omega)
      rw [List.map_map] at this
      unfold Mail.n1
      rw [e0]; exact this
    have e2 : m.n2 = ((m.pay.length + m.auth.sig.length + (m.auths.map fun a => a.sig.length).sum + (m.ents.map Ent.sz).sum : Nat) : Int) := by
      have := wSum_eq (m.ents.map Ent.sz) (m.pay.length + m.auth.sig.length + (m.auths.map fun a => a.sig.length).sum) (by omega)
      rw [List.map_map] at this
      unfold Mail.n2
      rw [e1]; exact this
    have := wSum_eq (m.proofs.map List.length) (m.pay.length + m.auth.sig.length + (m.auths.map fun a => a.sig.length).sum + (m.ents.map Ent.sz).sum) (by omega)
    rw [List.map_map] at this
    unfold Mail.n3
    rw [e2]
    refine Eq.trans this ?_
    rfl
  simp only [Mail.great, Mail.small, Bool.or_eq_false_iff, decide_eq_false_iff_not]
  constructor
  · rintro ⟨⟨⟨a, b⟩, c⟩, d⟩
    have := key (by omega) (by omega) (by omega)
    exact ⟨by omega, by omega, by omega, by omega⟩
  · rintro ⟨a, b, c, d⟩
    have := key b c d
    exact ⟨⟨⟨by omega, by omega⟩, by omega⟩, by omega⟩
theorem mem_le_sum : ∀ {l : List Nat} {k : Nat}, k ∈ l → k ≤ l.sum
  | a :: l, k, h => by
    rcases List.mem_cons.1 h with rfl | h
    · simp
    · have := mem_le_sum h
      simp only [List.sum_cons]; omega
theorem Mail.small_tot {m : Mail} (h : m.small) : total m.proofs ≤ 8192 ∧ m.auth.sig.length ≤ 8192 ∧ m.pay.length ≤ 8192 ∧ ∀ a ∈ m.auths, a.sig.length ≤ 8192 := by
  obtain ⟨h1, _⟩ := h
  unfold Mail.size at h1
  refine ⟨by omega, by omega, by omega, fun a ha => ?_⟩
  have : a.sig.length ≤ (m.auths.map fun a => a.sig.length).sum := mem_le_sum (List.mem_map.2 ⟨a, ha, rfl⟩)
  omega
end Go.VL
