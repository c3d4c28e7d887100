/- Part ShaSpec of the proof: made for this claim. -/
import Derived.Test.YtbceglggojnnaaaDoorShaK
/-! What a digest is, as both texts say it. -/
set_option linter.unusedVariables false
set_option linter.unusedSimpArgs false
namespace Go.VL
def sig0 (x : UInt32) : UInt32 := rotr x 7 ^^^ rotr x 18 ^^^ shr32 x 3
def sig1 (x : UInt32) : UInt32 := rotr x 17 ^^^ rotr x 19 ^^^ shr32 x 10
def wordAt (p : List UInt8) (i : Nat) : UInt32 := shl32 (p.getD (4 * i) 0).toUInt32 24 ||| shl32 (p.getD (4 * i + 1) 0).toUInt32 16 ||| shl32 (p.getD (4 * i + 2) 0).toUInt32 8 ||| (p.getD (4 * i + 3) 0).toUInt32
def wNext (w : List UInt32) (i : Nat) : UInt32 := w.getD (i - 16) 0 + w.getD (i - 7) 0 + sig0 (w.getD (i - 15) 0) + sig1 (w.getD (i - 2) 0)
def wVal (p : List UInt8) (w : List UInt32) (i : Nat) : UInt32 := if i < 16 then wordAt p i else wNext w i
def wArr (p : List UInt8) : Nat → List UInt32
  | 0 => wz 64
  | i + 1 => (wArr p i).set i (wVal p (wArr p i) i)
def rndT (s : List UInt32) (k w : UInt32) : UInt32 :=
  s.getD 7 0 + (rotr (s.getD 4 0) 6 ^^^ rotr (s.getD 4 0) 11 ^^^ rotr (s.getD 4 0) 25) + (s.getD 4 0 &&& s.getD 5 0 ^^^ ~~~ s.getD 4 0 &&& s.getD 6 0) + k + w
def rndU (s : List UInt32) : UInt32 :=
  (rotr (s.getD 0 0) 2 ^^^ rotr (s.getD 0 0) 13 ^^^ rotr (s.getD 0 0) 22) + (s.getD 0 0 &&& s.getD 1 0 ^^^ s.getD 0 0 &&& s.getD 2 0 ^^^ s.getD 1 0 &&& s.getD 2 0)
def rnd (s : List UInt32) (k w : UInt32) : List UInt32 :=
  [rndT s k w + rndU s, s.getD 0 0, s.getD 1 0, s.getD 2 0, s.getD 3 0 + rndT s k w, s.getD 4 0, s.getD 5 0, s.getD 6 0]
def rounds (h w : List UInt32) : Nat → List UInt32
  | 0 => h
  | i + 1 => rnd (rounds h w i) (roundN.getD i 0) (w.getD i 0)
def addTo (h s : List UInt32) : Nat → List UInt32
  | 0 => h
  | i + 1 => (addTo h s i).set i ((addTo h s i).getD i 0 + s.getD i 0)
def compress (h : List UInt32) (p : List UInt8) : List UInt32 := addTo h (rounds h (wArr p 64) 64) 8
def foldB : Nat → List UInt32 → List UInt8 → List UInt32
  | 0, h, _ => h
  | n + 1, h, b => foldB n (compress h (b.take 64)) (b.drop 64)
def lenB (n : Nat) : List UInt8 := (List.range 8).map fun j => UInt8.ofNat (n / 2 ^ (8 * (7 - j)))
def padN (n : Nat) : Nat := (120 - (n + 1) % 64) % 64
def pad (s : List UInt8) : List UInt8 := s ++ [128] ++ List.replicate (padN s.length) 0 ++ lenB (s.length * 8)
def bytes4 (x : UInt32) : List UInt8 := [(shr32 x 24).toUInt8, (shr32 x 16).toUInt8, (shr32 x 8).toUInt8, x.toUInt8]
def digest (h : List UInt32) : List UInt8 := h.flatMap bytes4
def shaW (s : List UInt8) : List UInt32 := foldB ((pad s).length / 64) startN (pad s)
theorem wArr_len (p : List UInt8) (i : Nat) : (wArr p i).length = 64 := by
  induction i with
  | zero => exact wz_len 64
  | succ i ih => simp [wArr, ih]
theorem rounds_len (h w : List UInt32) (hh : h.length = 8) (i : Nat) : (rounds h w i).length = 8 := by
  cases i with
  | zero => exact hh
  | succ i => rfl
theorem addTo_len (h s : List UInt32) (i : Nat) : (addTo h s i).length = h.length := by
  induction i with
  | zero => rfl
  | succ i ih => simp [addTo, ih]
theorem compress_len (h : List UInt32) (p : List UInt8) : (compress h p).length = h.length := addTo_len _ _ _
theorem foldB_len : ∀ (n : Nat) (h : List UInt32) (b : List UInt8), (foldB n h b).length = h.length
  | 0, _, _ => rfl
  | n + 1, h, b => by rw [foldB, foldB_len n, compress_len]
theorem shaW_len (s : List UInt8) : (shaW s).length = 8 := foldB_len _ _ _
theorem digest_len (h : List UInt32) (hh : h.length = 8) : (digest h).length = 32 := by
  have : ∀ l : List UInt32, (digest l).length = 4 * l.length := fun l => by
    induction l with
    | nil => rfl
    | cons x l ih => simp only [digest, List.flatMap_cons, List.length_append] at ih ⊢; rw [ih]; simp [bytes4]; omega
  rw [this, hh]
theorem lenB_len (n : Nat) : (lenB n).length = 8 := by simp [lenB]
theorem pad_len (s : List UInt8) : (pad s).length = s.length + 1 + padN s.length + 8 := by simp [pad, lenB_len]; omega
theorem pad_mod (s : List UInt8) : (pad s).length % 64 = 0 := by rw [pad_len]; unfold padN; omega
theorem lenB_take (n j : Nat) (h : j < 8) : (lenB n).take (j + 1) = (lenB n).take j ++ [UInt8.ofNat (n / 2 ^ (8 * (7 - j)))] := by
  rw [List.take_add_one, lenB]
  congr 1
  rw [List.getElem?_map, List.getElem?_range h]
  rfl
def dArr (h : List UInt32) : Nat → List UInt8
  | 0 => z32.1
  | i + 1 => ((((dArr h i).set (4 * i) (shr32 (h.getD i 0) 24).toUInt8).set (4 * i + 1) (shr32 (h.getD i 0) 16).toUInt8).set (4 * i + 2) (shr32 (h.getD i 0) 8).toUInt8).set (4 * i + 3) (h.getD i 0).toUInt8
theorem dArr_len (h : List UInt32) (i : Nat) : (dArr h i).length = 32 := by
  induction i with
  | zero => exact z32.2
  | succ i ih => simp [dArr, ih]
theorem dArr_8 (h : List UInt32) (hh : h.length = 8) : dArr h 8 = digest h := by
  match h, hh with
  | [a, b, c, d, e, f, g, i], _ =>
    simp only [dArr, z32, List.replicate, Nat.reduceMul, Nat.reduceAdd, List.getD_cons_zero, List.getD_cons_succ, List.set_cons_zero, List.set_cons_succ, digest, bytes4, List.flatMap_cons, List.flatMap_nil, List.cons_append, List.nil_append]
/-- The digest of a text. -/
def sha (s : List UInt8) : Id32 := ⟨digest (shaW s), digest_len _ (shaW_len s)⟩
def cutE (d : Id32) : Id16 := ⟨d.1.take 16, by rw [List.length_take, d.2]; rfl⟩

/-! ### As the other text has it -/
theorem lenB_ref (N : Nat) (h : N < 18446744073709551616) (j : Nat) (hj : j < 8) : UInt8.ofNat ((N * 256 ^ j % 18446744073709551616) / 72057594037927936) = UInt8.ofNat (N / 2 ^ (8 * (7 - j))) := by
  apply UInt8.toNat_inj.1
  rw [UInt8.toNat_ofNat', UInt8.toNat_ofNat']
  rcases (by omega : j = 0 ∨ j = 1 ∨ j = 2 ∨ j = 3 ∨ j = 4 ∨ j = 5 ∨ j = 6 ∨ j = 7) with rfl | rfl | rfl | rfl | rfl | rfl | rfl | rfl <;> simp only [Nat.reducePow, Nat.reduceSub, Nat.reduceMul] <;> omega
def wQ (p : List UInt8) (i : Nat) : Nat → UInt32
  | 0 => 0
  | q + 1 => 256 * wQ p i q + (p.getD (4 * i + q) 0).toUInt32
theorem wQ_4 (p : List UInt8) (i : Nat) : wQ p i 4 = wordAt p i := by
  simp only [wQ, wordAt]
  generalize p.getD (4 * i) 0 = a
  generalize p.getD (4 * i + 1) 0 = b
  generalize p.getD (4 * i + 2) 0 = c
  generalize p.getD (4 * i + 3) 0 = d
  have ha := a.toNat_lt; have hb := b.toNat_lt; have hc := c.toNat_lt; have hd := d.toNat_lt
  apply UInt32.toNat_inj.1
  simp only [UInt32.toNat_or, shl32_toNat, UInt8.toNat_toUInt32, UInt32.toNat_add, UInt32.toNat_mul, UInt32.toNat_ofNat, Nat.shiftLeft_eq]
  have e1 : a.toNat * 2 ^ 24 % 4294967296 = a.toNat <<< 24 := by rw [Nat.shiftLeft_eq, Nat.mod_eq_of_lt (by omega)]
  have e2 : b.toNat * 2 ^ 16 % 4294967296 = b.toNat * 65536 := by rw [Nat.mod_eq_of_lt (by omega)]
  have e3 : c.toNat * 2 ^ 8 % 4294967296 = c.toNat * 256 := by rw [Nat.mod_eq_of_lt (by omega)]
  rw [e1, e2, e3]
  have f1 := Nat.shiftLeft_add_eq_or_of_lt (i := 24) (b := b.toNat * 65536) (by omega) a.toNat
  rw [← f1]
  have f2 : a.toNat <<< 24 + b.toNat * 65536 = (a.toNat * 256 + b.toNat) <<< 16 := by rw [Nat.shiftLeft_eq, Nat.shiftLeft_eq]; omega
  rw [f2, ← Nat.shiftLeft_add_eq_or_of_lt (i := 16) (b := c.toNat * 256) (by omega)]
  have f3 : (a.toNat * 256 + b.toNat) <<< 16 + c.toNat * 256 = ((a.toNat * 256 + b.toNat) * 256 + c.toNat) <<< 8 := by rw [Nat.shiftLeft_eq, Nat.shiftLeft_eq]; omega
  rw [f3, ← Nat.shiftLeft_add_eq_or_of_lt (i := 8) (b := d.toNat) (by omega), Nat.shiftLeft_eq]
  simp
  omega
theorem wArr_zero (p : List UInt8) (i j : Nat) (h : i ≤ j) : (wArr p i).getD j 0 = 0 := by
  induction i with
  | zero =>
    rw [wArr, wz, List.getD_eq_getElem?_getD, List.getElem?_replicate]
    split <;> rfl
  | succ i ih =>
    rw [wArr, List.getD_eq_getElem?_getD, List.getElem?_set_ne (by omega), ← List.getD_eq_getElem?_getD]
    exact ih (by omega)
def dRef (h : List UInt32) : Nat → List UInt8
  | 0 => z32.1
  | i + 1 => (dRef h i).set i (shr32 (h.getD (i / 4) 0) (24 - 8 * (i % 4))).toUInt8
theorem dRef_len (h : List UInt32) (i : Nat) : (dRef h i).length = 32 := by
  induction i with
  | zero => exact z32.2
  | succ i ih => simp [dRef, ih]
theorem shr32_0 (x : UInt32) : shr32 x 0 = x := by
  apply UInt32.toNat_inj.1
  rw [shr32_toNat]; rfl
theorem dRef_32 (h : List UInt32) (hh : h.length = 8) : dRef h 32 = digest h := by
  match h, hh with
  | [a, b, c, d, e, f, g, i], _ =>
    simp only [dRef, z32, List.replicate, Nat.reduceMul, Nat.reduceAdd, Nat.reduceDiv, Nat.reduceMod, Nat.reduceSub, List.getD_cons_zero, List.getD_cons_succ, List.set_cons_zero, List.set_cons_succ, digest, bytes4, List.flatMap_cons, List.flatMap_nil, List.cons_append, List.nil_append, shr32_0]
theorem foldB_snoc : ∀ (n : Nat) (h : List UInt32) (b : List UInt8), foldB (n + 1) h b = compress (foldB n h b) ((b.drop (64 * n)).take 64)
  | 0, h, b => rfl
  | n + 1, h, b => by
    rw [foldB, foldB_snoc n, foldB, List.drop_drop, show 64 + 64 * n = 64 * (n + 1) by omega]

/-! ### Digits -/
def hexd : List UInt8 := [48, 49, 50, 51, 52, 53, 54, 55, 56, 57, 97, 98, 99, 100, 101, 102]
def hex2 (c : UInt8) : List UInt8 := [hexd.getD (c.toNat / 16) 0, hexd.getD (c.toNat % 16) 0]
def hexL (l : List UInt8) : List UInt8 := l.flatMap hex2
theorem hexL_snoc (l : List UInt8) (c : UInt8) : hexL (l ++ [c]) = hexL l ++ hex2 c := by simp [hexL]
theorem hexL_nil : hexL [] = [] := rfl
theorem hexL_len (l : List UInt8) : (hexL l).length = 2 * l.length := by
  induction l with
  | nil => rfl
  | cons x l ih => simp only [hexL, List.flatMap_cons, List.length_append] at ih ⊢; rw [ih]; simp [hex2]; omega
theorem hexd_one : ∀ k : Fin 16, (hexd.take (k.val + 1)).drop k.val = [hexd.getD k.val 0] := by decide
theorem take_snoc {α : Type} (l : List α) (i : Nat) (d : α) (h : i < l.length) : l.take (i + 1) = l.take i ++ [l.getD i d] := by
  rw [List.take_add_one, List.getD_eq_getElem?_getD, List.getElem?_eq_getElem h]; rfl
theorem cut_take (d : Id32) : (bv d.1).take 16 = bv (cutE d).1 := bv_take d.1 16
theorem hexd_len : hexd.length = 16 := by decide
theorem hexd_inj : ∀ a b : _root_.Fin 16, hexd.getD a.val 0 = hexd.getD b.val 0 → a = b := by decide
theorem hex2_inj {a b : UInt8} (h : hex2 a = hex2 b) : a = b := by
  simp only [hex2, List.cons.injEq, and_true] at h
  have ha := a.toNat_lt; have hb := b.toNat_lt
  have h1 := hexd_inj ⟨a.toNat / 16, by omega⟩ ⟨b.toNat / 16, by omega⟩ h.1
  have h2 := hexd_inj ⟨a.toNat % 16, by omega⟩ ⟨b.toNat % 16, by omega⟩ h.2
  simp only [_root_.Fin.mk.injEq] at h1 h2
  exact UInt8.toNat_inj.1 (by omega)
theorem hexL_inj : ∀ {a b : List UInt8}, hexL a = hexL b → a = b
  | [], [], _ => rfl
  | [], b :: q, h => by have := congrArg List.length h; rw [hexL_len, hexL_len] at this; simp at this
  | a :: r, [], h => by have := congrArg List.length h; rw [hexL_len, hexL_len] at this; simp at this
  | a :: r, b :: q, h => by
    simp only [hexL, List.flatMap_cons] at h
    obtain ⟨h1, h2⟩ := List.append_inj h rfl
    rw [hex2_inj h1, hexL_inj h2]
theorem hexL_take : ∀ (l : List UInt8) (k : Nat), (hexL l).take (2 * k) = hexL (l.take k)
  | [], k => by simp [hexL]
  | a :: r, 0 => by simp [hexL]
  | a :: r, k + 1 => by
    have ih := hexL_take r k
    simp only [hexL, List.flatMap_cons, List.take_succ_cons] at ih ⊢
    rw [← ih, show 2 * (k + 1) = (hex2 a).length + 2 * k by simp [hex2]; omega, List.take_length_add_append]
theorem take_set_snoc {α : Type} (l : List α) (i : Nat) (x : α) (h : i < l.length) : (l.set i x).take (i + 1) = l.take i ++ [x] := by
  rw [List.take_add_one, List.take_set_of_le (Nat.le_refl i), List.getElem?_set_self h]; rfl
end Go.VL
