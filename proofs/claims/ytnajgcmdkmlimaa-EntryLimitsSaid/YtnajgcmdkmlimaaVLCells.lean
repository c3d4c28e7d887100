/- Part VLCells of the proof: made for this claim. -/
import Derived.Test.YtnajgcmdkmlimaaVL24
/-! VL: rows of cells with parts, read and written. -/
set_option linter.unusedVariables false
set_option linter.unusedSimpArgs false
open Go.RowKit
namespace Go.VL

abbrev Id32 := { l : List UInt8 // l.length = 32 }
abbrev Id16 := { l : List UInt8 // l.length = 16 }
theorem id_len32 (x : Id32) : x.1.length = 32 := x.2
theorem id_len16 (x : Id16) : x.1.length = 16 := x.2
def z32 : Id32 := ⟨List.replicate 32 0, by decide⟩
def z16 : Id16 := ⟨List.replicate 16 0, by decide⟩
def inR (n : Int) : Prop := -9223372036854775808 ≤ n ∧ n ≤ 9223372036854775807

theorem getD_mid (a : List V) (x : V) (b : List V) (n : Nat) (h : a.length = n) : (a ++ ([x] ++ b)).getD n .unk = x := by
  subst h
  simp [List.getD_eq_getElem?_getD]
theorem drop_take_mid (a m b : List V) (n k : Nat) (h : a.length = n) (hm : m.length = k) : ((a ++ (m ++ b)).drop n).take k = m := by
  subst h; subst hm
  simp
theorem putV_mid (a m b m' : List V) (n : Nat) (h : a.length = n) (hm : m'.length = m.length) : putV (a ++ (m ++ b)) n m' = a ++ (m' ++ b) := by
  subst h
  unfold putV
  rw [hm]
  simp [List.drop_append]
theorem drop_take_in (cs : List V) (o s p q : Nat) (h : p + q ≤ s) : (cs.drop (o + p)).take q = (((cs.drop o).take s).drop p).take q := by
  rw [List.drop_take, List.take_take, List.drop_drop, Nat.min_eq_left (by omega)]
theorem getD_in (cs : List V) (o s p : Nat) (h : p < s) : cs.getD (o + p) .unk = ((cs.drop o).take s).getD p .unk := by
  simp [List.getD_eq_getElem?_getD, List.getElem?_take, List.getElem?_drop, h]

theorem vlit_bv (a b : List UInt8) : (bv a).map vlit = (bv b).map vlit ↔ a = b := by
  constructor
  · intro h
    simp only [bv, List.map_map] at h
    have hinj : Function.Injective (vlit ∘ fun b : UInt8 => V.flat (.int .u8 (b.toNat : Int))) := by
      intro x y hxy
      simp only [Function.comp, vlit, Lit.int.injEq, true_and] at hxy
      exact UInt8.toNat_inj.1 (by exact_mod_cast hxy)
    exact (List.map_inj_right (fun _ _ h => hinj h)).1 h
  · rintro rfl; rfl
theorem bv_eqc (a b : List UInt8) : eqCells (bv a) (bv b) = decide (a = b) := by
  rw [Bool.eq_iff_iff, eqCells_iff, decide_eq_true_iff, vlit_bv]

theorem vlit_int (k : IntKind) (n : Int) : vlit (.flat (.int k n)) = .int k n := rfl
theorem vlit_bool (b : Bool) : vlit (.flat (.bool b)) = .bool b := rfl
theorem vlit_bs (s : List UInt8) : vlit (.flat (.string (bs s))) = .string s := by
  show Lit.string (bs s).data.toList = _
  rfl
theorem fit_app : ∀ {K L : List CK} {a b : List V}, Fit K a → Fit L b → Fit (K ++ L) (a ++ b)
  | [], _, [], _, _, h => h
  | k :: K, _, x :: a, _, h, h' => ⟨h.1, fit_app h.2 h'⟩
  | [], _, _ :: _, _, h, _ => h.elim
  | _ :: _, _, [], _, h, _ => h.elim
theorem fit_int {n : Int} (h : inR n) : Fit [.int .i64] [.flat (.int .i64 n)] := ⟨⟨rfl, h⟩, trivial⟩
theorem fit_str {s : List UInt8} (h : s.length ≤ 140737488351232) : Fit [.str] [.flat (.string (bs s))] := ⟨by
  show (bs s).size ≤ maxLen
  rw [bs_size]
  unfold maxLen
  omega, trivial⟩
theorem fit_bool (b : Bool) : Fit [.bool] [.flat (.bool b)] := ⟨trivial, trivial⟩
theorem fit_bv : ∀ (l : List UInt8) (n : Nat), l.length = n → Fit (List.replicate n (.int .u8)) (bv l)
  | [], n, h => by subst h; trivial
  | b :: l, n, h => by
    subst h
    refine ⟨⟨rfl, ?_, ?_⟩, fit_bv l _ rfl⟩
    · show (0 : Int) ≤ _; omega
    · show (b.toNat : Int) ≤ 255
      have := b.toNat_lt; omega

theorem fit32 (x : Id32) : Fit (List.replicate 32 (.int .u8)) (bv x.1) = True := eq_true (fit_bv _ _ x.2)
theorem fit16 (x : Id16) : Fit (List.replicate 16 (.int .u8)) (bv x.1) = True := eq_true (fit_bv _ _ x.2)
theorem id32_eq (x y : Id32) : (x.1 = y.1) = (x = y) := by rw [Subtype.ext_iff]
theorem id16_eq (x y : Id16) : (x.1 = y.1) = (x = y) := by rw [Subtype.ext_iff]
theorem bs_empty (l : List UInt8) : (bs l = ({ data := #[] } : ByteArray)) = (l = []) := by
  rw [show ({ data := #[] } : ByteArray) = bs [] from rfl, bs_inj]
theorem bs_empty' (l : List UInt8) : (bs l = ByteArray.empty) = (l = []) := bs_empty l
theorem tk32 (x : Id32) : (bv x.1).take 32 = bv x.1 := List.take_of_length_le (by rw [bv_length, x.2]; omega)
theorem tk16 (x : Id16) : (bv x.1).take 16 = bv x.1 := List.take_of_length_le (by rw [bv_length, x.2]; omega)
theorem putV_all {a b : List V} (h : a.length = b.length) : putV a 0 b = b := by
  unfold putV
  simp [h]
theorem wh32 (x y : Id32) : putV (bv x.1) 0 (bv y.1) = bv y.1 := putV_all (by rw [bv_length, bv_length, x.2, y.2])
theorem wh16 (x y : Id16) : putV (bv x.1) 0 (bv y.1) = bv y.1 := putV_all (by rw [bv_length, bv_length, x.2, y.2])
theorem upd_0_1 {α : Type} (f : Nat → α) (n : Nat) (x : α) : upd f (n) x (n + 1) = f (n + 1) := upd_ne _ _ (by omega)
theorem upd_0_2 {α : Type} (f : Nat → α) (n : Nat) (x : α) : upd f (n) x (n + 1 + 1) = f (n + 1 + 1) := upd_ne _ _ (by omega)
theorem upd_0_3 {α : Type} (f : Nat → α) (n : Nat) (x : α) : upd f (n) x (n + 1 + 1 + 1) = f (n + 1 + 1 + 1) := upd_ne _ _ (by omega)
theorem upd_0_4 {α : Type} (f : Nat → α) (n : Nat) (x : α) : upd f (n) x (n + 1 + 1 + 1 + 1) = f (n + 1 + 1 + 1 + 1) := upd_ne _ _ (by omega)
theorem upd_0_5 {α : Type} (f : Nat → α) (n : Nat) (x : α) : upd f (n) x (n + 1 + 1 + 1 + 1 + 1) = f (n + 1 + 1 + 1 + 1 + 1) := upd_ne _ _ (by omega)
theorem upd_1_0 {α : Type} (f : Nat → α) (n : Nat) (x : α) : upd f (n + 1) x (n) = f (n) := upd_ne _ _ (by omega)
theorem upd_1_2 {α : Type} (f : Nat → α) (n : Nat) (x : α) : upd f (n + 1) x (n + 1 + 1) = f (n + 1 + 1) := upd_ne _ _ (by omega)
theorem upd_1_3 {α : Type} (f : Nat → α) (n : Nat) (x : α) : upd f (n + 1) x (n + 1 + 1 + 1) = f (n + 1 + 1 + 1) := upd_ne _ _ (by omega)
theorem upd_1_4 {α : Type} (f : Nat → α) (n : Nat) (x : α) : upd f (n + 1) x (n + 1 + 1 + 1 + 1) = f (n + 1 + 1 + 1 + 1) := upd_ne _ _ (by omega)
theorem upd_1_5 {α : Type} (f : Nat → α) (n : Nat) (x : α) : upd f (n + 1) x (n + 1 + 1 + 1 + 1 + 1) = f (n + 1 + 1 + 1 + 1 + 1) := upd_ne _ _ (by omega)
theorem upd_2_0 {α : Type} (f : Nat → α) (n : Nat) (x : α) : upd f (n + 1 + 1) x (n) = f (n) := upd_ne _ _ (by omega)
theorem upd_2_1 {α : Type} (f : Nat → α) (n : Nat) (x : α) : upd f (n + 1 + 1) x (n + 1) = f (n + 1) := upd_ne _ _ (by omega)
theorem upd_2_3 {α : Type} (f : Nat → α) (n : Nat) (x : α) : upd f (n + 1 + 1) x (n + 1 + 1 + 1) = f (n + 1 + 1 + 1) := upd_ne _ _ (by omega)
theorem upd_2_4 {α : Type} (f : Nat → α) (n : Nat) (x : α) : upd f (n + 1 + 1) x (n + 1 + 1 + 1 + 1) = f (n + 1 + 1 + 1 + 1) := upd_ne _ _ (by omega)
theorem upd_2_5 {α : Type} (f : Nat → α) (n : Nat) (x : α) : upd f (n + 1 + 1) x (n + 1 + 1 + 1 + 1 + 1) = f (n + 1 + 1 + 1 + 1 + 1) := upd_ne _ _ (by omega)
theorem upd_3_0 {α : Type} (f : Nat → α) (n : Nat) (x : α) : upd f (n + 1 + 1 + 1) x (n) = f (n) := upd_ne _ _ (by omega)
theorem upd_3_1 {α : Type} (f : Nat → α) (n : Nat) (x : α) : upd f (n + 1 + 1 + 1) x (n + 1) = f (n + 1) := upd_ne _ _ (by omega)
theorem upd_3_2 {α : Type} (f : Nat → α) (n : Nat) (x : α) : upd f (n + 1 + 1 + 1) x (n + 1 + 1) = f (n + 1 + 1) := upd_ne _ _ (by omega)
theorem upd_3_4 {α : Type} (f : Nat → α) (n : Nat) (x : α) : upd f (n + 1 + 1 + 1) x (n + 1 + 1 + 1 + 1) = f (n + 1 + 1 + 1 + 1) := upd_ne _ _ (by omega)
theorem upd_3_5 {α : Type} (f : Nat → α) (n : Nat) (x : α) : upd f (n + 1 + 1 + 1) x (n + 1 + 1 + 1 + 1 + 1) = f (n + 1 + 1 + 1 + 1 + 1) := upd_ne _ _ (by omega)
theorem upd_4_0 {α : Type} (f : Nat → α) (n : Nat) (x : α) : upd f (n + 1 + 1 + 1 + 1) x (n) = f (n) := upd_ne _ _ (by omega)
theorem upd_4_1 {α : Type} (f : Nat → α) (n : Nat) (x : α) : upd f (n + 1 + 1 + 1 + 1) x (n + 1) = f (n + 1) := upd_ne _ _ (by omega)
theorem upd_4_2 {α : Type} (f : Nat → α) (n : Nat) (x : α) : upd f (n + 1 + 1 + 1 + 1) x (n + 1 + 1) = f (n + 1 + 1) := upd_ne _ _ (by omega)
theorem upd_4_3 {α : Type} (f : Nat → α) (n : Nat) (x : α) : upd f (n + 1 + 1 + 1 + 1) x (n + 1 + 1 + 1) = f (n + 1 + 1 + 1) := upd_ne _ _ (by omega)
theorem upd_4_5 {α : Type} (f : Nat → α) (n : Nat) (x : α) : upd f (n + 1 + 1 + 1 + 1) x (n + 1 + 1 + 1 + 1 + 1) = f (n + 1 + 1 + 1 + 1 + 1) := upd_ne _ _ (by omega)
theorem upd_5_0 {α : Type} (f : Nat → α) (n : Nat) (x : α) : upd f (n + 1 + 1 + 1 + 1 + 1) x (n) = f (n) := upd_ne _ _ (by omega)
theorem upd_5_1 {α : Type} (f : Nat → α) (n : Nat) (x : α) : upd f (n + 1 + 1 + 1 + 1 + 1) x (n + 1) = f (n + 1) := upd_ne _ _ (by omega)
theorem upd_5_2 {α : Type} (f : Nat → α) (n : Nat) (x : α) : upd f (n + 1 + 1 + 1 + 1 + 1) x (n + 1 + 1) = f (n + 1 + 1) := upd_ne _ _ (by omega)
theorem upd_5_3 {α : Type} (f : Nat → α) (n : Nat) (x : α) : upd f (n + 1 + 1 + 1 + 1 + 1) x (n + 1 + 1 + 1) = f (n + 1 + 1 + 1) := upd_ne _ _ (by omega)
theorem upd_5_4 {α : Type} (f : Nat → α) (n : Nat) (x : α) : upd f (n + 1 + 1 + 1 + 1 + 1) x (n + 1 + 1 + 1 + 1) = f (n + 1 + 1 + 1 + 1) := upd_ne _ _ (by omega)
theorem rep5 (z : V) : rep 5 [z] = [z, z, z, z, z] := rfl
theorem rep6 (z : V) : rep 6 [z] = [z, z, z, z, z, z] := rfl
theorem rep7 (z : V) : rep 7 [z] = [z, z, z, z, z, z, z] := rfl
theorem rep8 (z : V) : rep 8 [z] = [z, z, z, z, z, z, z, z] := rfl
theorem bv_fz (l : List UInt8) : (bv l).map V.fz = bv l := by
  simp only [bv, List.map_map]
  rfl
theorem own1_bv (l : List UInt8) : (∀ z ∈ bv l, noOwnB z = true) = True := eq_true fun z hz => by
  obtain ⟨b, _, rfl⟩ := List.mem_map.1 hz
  rfl
theorem own2_bv (l : List UInt8) : (∀ z ∈ bv l, noOwnB z = true ∧ oneB z = true) = True := eq_true fun z hz => by
  obtain ⟨b, _, rfl⟩ := List.mem_map.1 hz
  exact ⟨rfl, rfl⟩
theorem nob_flat (v : Value) : noOwnB (.flat v) = true := rfl
theorem one_flat (v : Value) : oneB (.flat v) = true := rfl
theorem nob_nil  : noOwnB (.nil ) = true := rfl
theorem one_nil  : oneB (.nil ) = true := rfl
theorem nob_agg (v : List V) : noOwnB (.agg v) = true := rfl
theorem one_agg (v : List V) : oneB (.agg v) = false := rfl
theorem nob_tup (v : List V) : noOwnB (.tup v) = true := rfl
theorem one_tup (v : List V) : oneB (.tup v) = false := rfl
theorem nob_ref (v : List V) (o : Nat) : noOwnB (.ref v o) = true := rfl
theorem one_ref (v : List V) (o : Nat) : oneB (.ref v o) = true := rfl
theorem nob_bp (b o : Nat) : noOwnB (.bp b o) = true := rfl
theorem one_bp (b o : Nat) : oneB (.bp b o) = true := rfl
theorem nob_bs (b o n c : Nat) : noOwnB (.bs b o n c) = true := rfl
theorem one_bs (b o n c : Nat) : oneB (.bs b o n c) = true := rfl
theorem nob_sl (o : Bool) (s n : Nat) (v : List V) : noOwnB (.sl o s n v) = !o := rfl
theorem one_sl (o : Bool) (s n : Nat) (v : List V) : oneB (.sl o s n v) = true := rfl
theorem nob_unk : noOwnB .unk = true := rfl
theorem one_unk : oneB .unk = false := rfl
theorem updN : (∀ (f : Nat → Option (List V)) (n : Nat) (x : Option (List V)), upd f (n) x (n + 1) = f (n + 1)) ∧ (∀ (f : Nat → Option (List V)) (n : Nat) (x : Option (List V)), upd f (n) x (n + 1 + 1) = f (n + 1 + 1)) ∧ (∀ (f : Nat → Option (List V)) (n : Nat) (x : Option (List V)), upd f (n) x (n + 1 + 1 + 1) = f (n + 1 + 1 + 1)) ∧ (∀ (f : Nat → Option (List V)) (n : Nat) (x : Option (List V)), upd f (n) x (n + 1 + 1 + 1 + 1) = f (n + 1 + 1 + 1 + 1)) ∧ (∀ (f : Nat → Option (List V)) (n : Nat) (x : Option (List V)), upd f (n) x (n + 1 + 1 + 1 + 1 + 1) = f (n + 1 + 1 + 1 + 1 + 1)) ∧ (∀ (f : Nat → Option (List V)) (n : Nat) (x : Option (List V)), upd f (n + 1) x (n) = f (n)) ∧ (∀ (f : Nat → Option (List V)) (n : Nat) (x : Option (List V)), upd f (n + 1) x (n + 1 + 1) = f (n + 1 + 1)) ∧ (∀ (f : Nat → Option (List V)) (n : Nat) (x : Option (List V)), upd f (n + 1) x (n + 1 + 1 + 1) = f (n + 1 + 1 + 1)) ∧ (∀ (f : Nat → Option (List V)) (n : Nat) (x : Option (List V)), upd f (n + 1) x (n + 1 + 1 + 1 + 1) = f (n + 1 + 1 + 1 + 1)) ∧ (∀ (f : Nat → Option (List V)) (n : Nat) (x : Option (List V)), upd f (n + 1) x (n + 1 + 1 + 1 + 1 + 1) = f (n + 1 + 1 + 1 + 1 + 1)) ∧ (∀ (f : Nat → Option (List V)) (n : Nat) (x : Option (List V)), upd f (n + 1 + 1) x (n) = f (n)) ∧ (∀ (f : Nat → Option (List V)) (n : Nat) (x : Option (List V)), upd f (n + 1 + 1) x (n + 1) = f (n + 1)) ∧ (∀ (f : Nat → Option (List V)) (n : Nat) (x : Option (List V)), upd f (n + 1 + 1) x (n + 1 + 1 + 1) = f (n + 1 + 1 + 1)) ∧ (∀ (f : Nat → Option (List V)) (n : Nat) (x : Option (List V)), upd f (n + 1 + 1) x (n + 1 + 1 + 1 + 1) = f (n + 1 + 1 + 1 + 1)) ∧ (∀ (f : Nat → Option (List V)) (n : Nat) (x : Option (List V)), upd f (n + 1 + 1) x (n + 1 + 1 + 1 + 1 + 1) = f (n + 1 + 1 + 1 + 1 + 1)) ∧ (∀ (f : Nat → Option (List V)) (n : Nat) (x : Option (List V)), upd f (n + 1 + 1 + 1) x (n) = f (n)) ∧ (∀ (f : Nat → Option (List V)) (n : Nat) (x : Option (List V)), upd f (n + 1 + 1 + 1) x (n + 1) = f (n + 1)) ∧ (∀ (f : Nat → Option (List V)) (n : Nat) (x : Option (List V)), upd f (n + 1 + 1 + 1) x (n + 1 + 1) = f (n + 1 + 1)) ∧ (∀ (f : Nat → Option (List V)) (n : Nat) (x : Option (List V)), upd f (n + 1 + 1 + 1) x (n + 1 + 1 + 1 + 1) = f (n + 1 + 1 + 1 + 1)) ∧ (∀ (f : Nat → Option (List V)) (n : Nat) (x : Option (List V)), upd f (n + 1 + 1 + 1) x (n + 1 + 1 + 1 + 1 + 1) = f (n + 1 + 1 + 1 + 1 + 1)) ∧ (∀ (f : Nat → Option (List V)) (n : Nat) (x : Option (List V)), upd f (n + 1 + 1 + 1 + 1) x (n) = f (n)) ∧ (∀ (f : Nat → Option (List V)) (n : Nat) (x : Option (List V)), upd f (n + 1 + 1 + 1 + 1) x (n + 1) = f (n + 1)) ∧ (∀ (f : Nat → Option (List V)) (n : Nat) (x : Option (List V)), upd f (n + 1 + 1 + 1 + 1) x (n + 1 + 1) = f (n + 1 + 1)) ∧ (∀ (f : Nat → Option (List V)) (n : Nat) (x : Option (List V)), upd f (n + 1 + 1 + 1 + 1) x (n + 1 + 1 + 1) = f (n + 1 + 1 + 1)) ∧ (∀ (f : Nat → Option (List V)) (n : Nat) (x : Option (List V)), upd f (n + 1 + 1 + 1 + 1) x (n + 1 + 1 + 1 + 1 + 1) = f (n + 1 + 1 + 1 + 1 + 1)) ∧ (∀ (f : Nat → Option (List V)) (n : Nat) (x : Option (List V)), upd f (n + 1 + 1 + 1 + 1 + 1) x (n) = f (n)) ∧ (∀ (f : Nat → Option (List V)) (n : Nat) (x : Option (List V)), upd f (n + 1 + 1 + 1 + 1 + 1) x (n + 1) = f (n + 1)) ∧ (∀ (f : Nat → Option (List V)) (n : Nat) (x : Option (List V)), upd f (n + 1 + 1 + 1 + 1 + 1) x (n + 1 + 1) = f (n + 1 + 1)) ∧ (∀ (f : Nat → Option (List V)) (n : Nat) (x : Option (List V)), upd f (n + 1 + 1 + 1 + 1 + 1) x (n + 1 + 1 + 1) = f (n + 1 + 1 + 1)) ∧ (∀ (f : Nat → Option (List V)) (n : Nat) (x : Option (List V)), upd f (n + 1 + 1 + 1 + 1 + 1) x (n + 1 + 1 + 1 + 1) = f (n + 1 + 1 + 1 + 1)) := ⟨fun f n x => upd_0_1 f n x, fun f n x => upd_0_2 f n x, fun f n x => upd_0_3 f n x, fun f n x => upd_0_4 f n x, fun f n x => upd_0_5 f n x, fun f n x => upd_1_0 f n x, fun f n x => upd_1_2 f n x, fun f n x => upd_1_3 f n x, fun f n x => upd_1_4 f n x, fun f n x => upd_1_5 f n x, fun f n x => upd_2_0 f n x, fun f n x => upd_2_1 f n x, fun f n x => upd_2_3 f n x, fun f n x => upd_2_4 f n x, fun f n x => upd_2_5 f n x, fun f n x => upd_3_0 f n x, fun f n x => upd_3_1 f n x, fun f n x => upd_3_2 f n x, fun f n x => upd_3_4 f n x, fun f n x => upd_3_5 f n x, fun f n x => upd_4_0 f n x, fun f n x => upd_4_1 f n x, fun f n x => upd_4_2 f n x, fun f n x => upd_4_3 f n x, fun f n x => upd_4_5 f n x, fun f n x => upd_5_0 f n x, fun f n x => upd_5_1 f n x, fun f n x => upd_5_2 f n x, fun f n x => upd_5_3 f n x, fun f n x => upd_5_4 f n x⟩
theorem nobs : (type_of% @nob_flat) ∧ (type_of% @one_flat) ∧ (type_of% @nob_nil) ∧ (type_of% @one_nil) ∧ (type_of% @nob_agg) ∧ (type_of% @one_agg) ∧ (type_of% @nob_tup) ∧ (type_of% @one_tup) ∧ (type_of% @nob_ref) ∧ (type_of% @one_ref) ∧ (type_of% @nob_bp) ∧ (type_of% @one_bp) ∧ (type_of% @nob_bs) ∧ (type_of% @one_bs) ∧ (type_of% @nob_sl) ∧ (type_of% @one_sl) ∧ (type_of% @nob_unk) ∧ (type_of% @one_unk) := ⟨@nob_flat, @one_flat, @nob_nil, @one_nil, @nob_agg, @one_agg, @nob_tup, @one_tup, @nob_ref, @one_ref, @nob_bp, @one_bp, @nob_bs, @one_bs, @nob_sl, @one_sl, @nob_unk, @one_unk⟩
theorem idS : (type_of% @bv_fz) ∧ (type_of% @own1_bv) ∧ (type_of% @own2_bv) ∧ (type_of% @bv_eqc) ∧ (type_of% @id_len32) ∧ (type_of% @id_len16) ∧ (type_of% @fit32) ∧ (type_of% @fit16) ∧ (type_of% @wh32) ∧ (type_of% @wh16) ∧ (type_of% @tk32) ∧ (type_of% @tk16) ∧ (type_of% @bs_empty) ∧ (type_of% @bs_empty') ∧ (type_of% @id32_eq) ∧ (type_of% @id16_eq) := ⟨@bv_fz, @own1_bv, @own2_bv, @bv_eqc, @id_len32, @id_len16, @fit32, @fit16, @wh32, @wh16, @tk32, @tk16, @bs_empty, @bs_empty', @id32_eq, @id16_eq⟩
/-- Chunks of a row of rows. -/
theorem flat_chunk {α : Type} (s : Nat) : ∀ (css : List (List α)) (i : Nat), (∀ c ∈ css, c.length = s) → i < css.length → ((css.flatten).drop (i * s)).take s = css.getD i []
  | [], i, _, hi => by simp at hi
  | c :: css, 0, hs, _ => by
    have := hs c (by simp)
    simp [← this]
  | c :: css, i + 1, hs, hi => by
    have hc := hs c (by simp)
    rw [List.getD_cons_succ, ← flat_chunk s css i (fun x hx => hs x (by simp [hx])) (by simpa using hi), List.flatten_cons, List.drop_append, List.drop_eq_nil_of_le (by rw [hc, Nat.succ_mul]; omega)]
    rw [List.nil_append, hc, show (i + 1) * s - s = i * s by rw [Nat.succ_mul]; omega]

/-- Rows of 32 bytes. -/
def idsC (l : List Id32) : List V := (l.map fun x => bv x.1).flatten
theorem idsC_nil : idsC [] = [] := rfl
theorem idsC_len (l : List Id32) : (idsC l).length = l.length * 32 := by
  unfold idsC
  induction l with
  | nil => rfl
  | cons x l ih => simp only [List.map_cons, List.flatten_cons, List.length_append, ih, bv_length, x.2, List.length_cons]; omega
theorem idsC_app (l : List Id32) (x : Id32) : idsC l ++ bv x.1 = idsC (l ++ [x]) := by simp [idsC]
theorem idsC_get (l : List Id32) (i : Nat) (hi : i < l.length) : ((idsC l).drop (i * 32)).take 32 = bv (l.getD i z32).1 := by
  unfold idsC
  rw [flat_chunk 32 _ i (fun c hc => by obtain ⟨x, _, rfl⟩ := List.mem_map.1 hc; rw [bv_length]; exact x.2) (by simpa using hi)]
  simp [List.getD_eq_getElem?_getD, hi]

end Go.VL
