/- Part ShaSpec of the proof: made for this claim. -/
import Derived.Test.YtljfmgfokifooaaShaK
set_option linter.unusedVariables false
set_option linter.unusedSimpArgs false
namespace Go.VL
def sig0 (x : UInt32) : UInt32 := rotr x 7 ^^^ rotr x 18 ^^^ shr32 x 3
def sig1 (x : UInt32) : UInt32 := rotr x 17 ^^^ rotr x 19 ^^^ shr32 x 10
def wordAt (p : List UInt8) (i : Nat) : UInt32 := shl32 (p.getD (4 * i) 0).toUInt32 24 ||| shl32 (p.getD (4 * i + 1) 0).toUInt32 16 ||| shl32 (p.getD (4 * i + 2) 0).toUInt32 8 ||| (p.getD (4 * i + 3) 0).toUInt32
def wNext (w : List UInt32) (i : Nat) : UInt32 := w.getD (i - 16) 0 + w.getD (i - 7) 0 + sig0 (w.getD (i - 15) 0) + sig1 (w.getD (i - 2) 0)
def wVal (p : List UInt8) (w : List UInt32) (i : Nat) : UInt32 := if i < 16 then wordAt p i else wNext w i
def wArr (p : List UInt8) : Nat → List UInt32
  | 0 => wz 64
  | i + 1 => (wArr p i).set i (wVal p (wArr p i) i)
def rndT (s : List UInt32) (k w : UInt32) : UInt32 :=
  s.getD 7 0 + (rotr (s.getD 4 0) 6 ^^^ rotr (s.getD 4 0) 11 ^^^ rotr (s.getD 4 0) 25) + (s.getD 4 0 &&& s.getD 5 0 ^^^ ~~~ s.getD 4 0 &&& s.getD 6 0) + k + w
def rndU (s : List UInt32) : UInt32 :=
  (rotr (s.getD 0 0) 2 ^^^ rotr (s.getD 0 0) 13 ^^^ rotr (s.getD 0 0) 22) + (s.getD 0 0 &&& s.getD 1 0 ^^^ s.getD 0 0 &&& s.getD 2 0 ^^^ s.getD 1 0 &&& s.getD 2 0)
def rnd (s : List UInt32) (k w : UInt32) : List UInt32 :=
  [rndT s k w + rndU s, s.getD 0 0, s.getD 1 0, s.getD 2 0, s.getD 3 0 + rndT s k w, s.getD 4 0, s.getD 5 0, s.getD 6 0]
def rounds (h w : List UInt32) : Nat → List UInt32
  | 0 => h
  | i + 1 => rnd (rounds h w i) (roundN.getD i 0) (w.getD i 0)
def addTo (h s : List UInt32) : Nat → List UInt32
  | 0 => h
  | i + 1 => (addTo h s i).set i ((addTo h s i).getD i 0 + s.getD i 0)
def compress (h : List UInt32) (p : List UInt8) : List UInt32 := addTo h (rounds h (wArr p 64) 64) 8
def foldB : Nat → List UInt32 → List UInt8 → List UInt32
  | 0, h, _ => h
  | n + 1, h, b => foldB n (compress h (b.take 64)) (b.drop 64)
def lenB (n : Nat) : List UInt8 := (List.range 8).map fun j => UInt8.ofNat (n / 2 ^ (8 * (7 - j)))
def padN (n : Nat) : Nat := (120 - (n + 1) % 64) % 64
def pad (s : List UInt8) : List UInt8 := s ++ [128] ++ List.replicate (padN s.length) 0 ++ lenB (s.length * 8)
def bytes4 (x : UInt32) : List UInt8 := [(shr32 x 24).toUInt8, (shr32 x 16).toUInt8, (shr32 x 8).toUInt8, x.toUInt8]
def digest (h : List UInt32) : List UInt8 := h.flatMap bytes4
def shaW (s : List UInt8) : List UInt32 := foldB ((pad s).length / 64) startN (pad s)
theorem addTo_len (h s : List UInt32) (i : Nat) : (addTo h s i).length = h.length := by
  induction i with
  | zero => rfl
  | succ i ih => simp [addTo, ih]
theorem compress_len (h : List UInt32) (p : List UInt8) : (compress h p).length = h.length := addTo_len _ _ _
theorem foldB_len : ∀ (n : Nat) (h : List UInt32) (b : List UInt8), (foldB n h b).length = h.length
  | 0, _, _ => rfl
  | n + 1, h, b => by rw [foldB, foldB_len n, compress_len]
theorem shaW_len (s : List UInt8) : (shaW s).length = 8 := foldB_len _ _ _
theorem digest_len (h : List UInt32) (hh : h.length = 8) : (digest h).length = 32 := by
  have : ∀ l : List UInt32, (digest l).length = 4 * l.length := fun l => by
    induction l with
    | nil => rfl
    | cons x l ih => simp only [digest, List.flatMap_cons, List.length_append] at ih ⊢; rw [ih]; simp [bytes4]; omega
  rw [this, hh]
def dArr (h : List UInt32) : Nat → List UInt8
  | 0 => z32.1
  | i + 1 => ((((dArr h i).set (4 * i) (shr32 (h.getD i 0) 24).toUInt8).set (4 * i + 1) (shr32 (h.getD i 0) 16).toUInt8).set (4 * i + 2) (shr32 (h.getD i 0) 8).toUInt8).set (4 * i + 3) (h.getD i 0).toUInt8
def sha (s : List UInt8) : Id32 := ⟨digest (shaW s), digest_len _ (shaW_len s)⟩
def cutE (d : Id32) : Id16 := ⟨d.1.take 16, by rw [List.length_take, d.2]; rfl⟩

def wQ (p : List UInt8) (i : Nat) : Nat → UInt32
  | 0 => 0
  | q + 1 => 256 * wQ p i q + (p.getD (4 * i + q) 0).toUInt32
def dRef (h : List UInt32) : Nat → List UInt8
  | 0 => z32.1
  | i + 1 => (dRef h i).set i (shr32 (h.getD (i / 4) 0) (24 - 8 * (i % 4))).toUInt8
def hexd : List UInt8 := [48, 49, 50, 51, 52, 53, 54, 55, 56, 57, 97, 98, 99, 100, 101, 102]
def hex2 (c : UInt8) : List UInt8 := [hexd.getD (c.toNat / 16) 0, hexd.getD (c.toNat % 16) 0]
def hexL (l : List UInt8) : List UInt8 := l.flatMap hex2
theorem take_snoc {α : Type} (l : List α) (i : Nat) (d : α) (h : i < l.length) : l.take (i + 1) = l.take i ++ [l.getD i d] := by
  rw [List.take_add_one, List.getD_eq_getElem?_getD, List.getElem?_eq_getElem h]; rfl
end Go.VL
