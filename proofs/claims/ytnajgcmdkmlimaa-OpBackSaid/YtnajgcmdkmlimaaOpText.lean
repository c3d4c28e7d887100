/- Part OpText of the proof: made for this claim. -/
import Derived.Test.YtnajgcmdkmlimaaOpSpec
/-! Operations' bytes. -/
set_option linter.unusedVariables false
set_option linter.unusedSimpArgs false
namespace Go.VL
def catI : List Id32 → List UInt8
  | [] => []
  | x :: l => x.1 ++ catI l
theorem catI_app (a b : List Id32) : catI (a ++ b) = catI a ++ catI b := by
  induction a with
  | nil => rfl
  | cons x a ih => simp [catI, ih]
theorem catI_len (l : List Id32) : (catI l).length = 32 * l.length := by
  induction l with
  | nil => rfl
  | cons x a ih => simp [catI, ih, x.2]; omega
theorem catI_succ (l : List Id32) (i : Nat) (h : i < l.length) : catI (l.take i) ++ (l.getD i z32).1 = catI (l.take (i + 1)) := by
  rw [List.take_add_one, List.getElem?_eq_getElem h, catI_app, List.getD_eq_getElem?_getD, List.getElem?_eq_getElem h]
  simp [catI]
theorem catI_inj : ∀ {a b : List Id32}, catI a = catI b → a = b
  | [], [], _ => rfl
  | [], y :: b, h => by have := congrArg List.length h; simp [catI, y.2] at this; omega
  | x :: a, [], h => by have := congrArg List.length h; simp [catI, x.2] at this
  | x :: a, y :: b, h => by
    obtain ⟨e1, e2⟩ := List.append_inj (s₁ := x.1) (s₂ := y.1) h (by rw [x.2, y.2])
    rw [Subtype.ext e1, catI_inj e2]
def Opn.parts (o : Opn) : List (List UInt8) := [numB o.a.toNat, numB o.dep.toNat, catI o.ps, o.d.text]
def Opn.text (o : Opn) : List UInt8 := listB o.parts
theorem Dr.text_le2 (d : Dr) (h1 : d.key.length ≤ 1000) (h2 : d.val.length ≤ 1000) (h3 : d.k < 9223372036854775808) : d.text.length ≤ 2500 := by
  have h4 := numB_length d.k.toNat (by omega)
  have h5 : total d.parts = (numB d.k.toNat).length + d.key.length + d.val.length + 32 := by simp [total, Dr.parts, d.ref.2]; omega
  have := listB_le d.parts (by omega) (by simp [Dr.parts])
  rw [show d.parts.length = 4 from rfl] at this
  show (listB d.parts).length ≤ 2500
  omega
theorem Opn.total_le (o : Opn) (ho : o.ok) (h0 : o.ps.length ≤ 1000) (h1 : o.d.key.length ≤ 1000) (h2 : o.d.val.length ≤ 1000) : total o.parts ≤ 40000 := by
  obtain ⟨⟨⟨_, k2⟩, _⟩, ⟨_, a2⟩, ⟨_, b2⟩, _⟩ := ho
  have h3 := numB_length o.a.toNat (by omega)
  have h4 := numB_length o.dep.toNat (by omega)
  have h5 := Dr.text_le2 o.d h1 h2 (by omega)
  have h6 := catI_len o.ps
  simp only [total, Opn.parts, List.map_cons, List.map_nil, List.sum_cons, List.sum_nil]
  omega
theorem Opn.text_le (o : Opn) (ho : o.ok) (h0 : o.ps.length ≤ 1000) (h1 : o.d.key.length ≤ 1000) (h2 : o.d.val.length ≤ 1000) : o.text.length ≤ 50000 := by
  have h := Opn.total_le o ho h0 h1 h2
  have := listB_le o.parts (by omega) (by simp [Opn.parts])
  rw [show o.parts.length = 4 from rfl] at this
  show (listB o.parts).length ≤ 50000
  omega
theorem Opn.text_inj {a b : Opn} (ha : a.ok) (hb : b.ok) (p1 : a.ps.length ≤ 1000) (p2 : b.ps.length ≤ 1000) (la : a.d.key.length ≤ 1000 ∧ a.d.val.length ≤ 1000) (lb : b.d.key.length ≤ 1000 ∧ b.d.val.length ≤ 1000) (ka : 0 ≤ a.d.k) (kb : 0 ≤ b.d.k) (aa : 0 ≤ a.a) (ab : 0 ≤ b.a) (da : 0 ≤ a.dep) (db : 0 ≤ b.dep) : a.text = b.text ↔ a = b := by
  have t1 := Opn.total_le a ha p1 la.1 la.2
  have t2 := Opn.total_le b hb p2 lb.1 lb.2
  obtain ⟨hda, ⟨_, a1⟩, ⟨_, a2⟩, _⟩ := ha
  obtain ⟨hdb, ⟨_, b1⟩, ⟨_, b2⟩, _⟩ := hb
  unfold Opn.text
  rw [listB_inj (by omega) (by omega) (by simp [Opn.parts]) (by simp [Opn.parts])]
  constructor
  · intro h
    simp only [Opn.parts, List.cons.injEq, and_true] at h
    obtain ⟨e1, e2, e3, e4⟩ := h
    have n1 := numB_inj (by omega) (by omega) e1
    have n2 := numB_inj (by omega) (by omega) e2
    have n3 := catI_inj e3
    have n4 := (Dr.text_inj hda hdb la lb ka kb).1 e4
    cases a; cases b
    simp only at *
    subst n3 n4
    congr 1 <;> omega
  · rintro rfl; rfl
theorem idsC_flat (l : List Id32) : FlatS (idsC l) := FlatS.rows (f := fun x : Id32 => bv x.1) (fun x => FlatS.bv x.1) l
theorem idsC_fz (l : List Id32) : (idsC l).map V.fz = idsC l := by
  rw [List.map_congr_left (g := id) (fun c hc => by obtain ⟨v, rfl⟩ := idsC_flat l c hc; rfl), List.map_id]
theorem opz (d : Dr) (p q : Int) (l : List Id32) : (⟨d, p, q, .sl false 32 l.length (idsC l)⟩ : OpR).z = ⟨d, p, q, .sl false 32 l.length (idsC l)⟩ := by
  simp [OpR.z, V.fz, idsC_fz]
/-- Without Preds. -/
def opnV (d : Dr) (a dep : Int) : Opn := ⟨d, a, dep, []⟩
end Go.VL
