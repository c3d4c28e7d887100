/- Part VLExt of the proof: made for this claim. -/
import Derived.Test.YtnajgcmdkmlimaaVLD3
import Derived.Test.YtnajgcmdkmlimaaVLCells
import Derived.Laws.Externs
import Derived.Lib.UnsafeStr
/-! VL: the library's functions for which the model stands in. -/
set_option linter.unusedVariables false
set_option linter.unusedSimpArgs false
open Go.RowKit
namespace Go.VL
variable {P : Program}

/-- A value whose bytes are l. -/
def BytesV (M : Mem) (x : V) (l : List UInt8) : Prop :=
  (∃ own, x = .sl own 1 l.length (bv l)) ∨ (x = .nil ∧ l = []) ∨ (∃ b off cap cs, x = .bs b off l.length cap ∧ M b = some cs ∧ off + l.length ≤ cs.length ∧ (cs.drop off).take l.length = bv l)

theorem run_loadB {w : World} : ∀ (l : List UInt8) (a : Addr) (acc : ByteArray), (∀ j x, l[j]? = some x → w.cell? (a.add j) = some (.int .u8 x.toNat)) →
    (Extern.Bytes.loadBytes a l.length acc).run P w = .ok ⟨acc.data ++ l.toArray⟩ w
  | [], a, acc, _ => by simp [Extern.Bytes.loadBytes]
  | x :: l, a, acc, h => by
    have h0 : w.cell? a = some (.int .u8 x.toNat) := by
      have := h 0 x rfl
      simpa [Addr.add] using this
    have ih := run_loadB l (a.add 1) (acc.push x) (fun j y hy => by
      have := h (j + 1) y (by simpa using hy)
      have e : (a.add 1).add j = a.add (j + 1) := by
        unfold Addr.add
        by_cases hj : j = 0
        · subst hj; simp
        · simp [hj]; omega
      rw [e]; exact this)
    have hx : ((x.toNat : Int).toNat).toUInt8 = x := by simp
    simp only [List.length_cons, Extern.Bytes.loadBytes, Sem.run_bind, run_load, h0, Result.andThen, hx]
    rw [ih]
    congr 1
    apply ByteArray.ext
    simp [ByteArray.push]

theorem BytesV.run {M : Mem} {x : V} {l : List UInt8} (h : BytesV M x l) {g : G} {w : World} (hm : BoxesAt g w M) {v : Value} (hv : VR g w x v) : (Extern.Bytes.bytesOf v).run P w = .ok (bs l) w := by
  have hbyte : ∀ {u : Value} {b : UInt8}, VR g w (.flat (.int .u8 b.toNat)) u → u = .int .u8 b.toNat := fun h => by cases h; rfl
  have key : ∀ (a : Addr) (cap : Nat), (∀ i, i < l.length → w.cell? (a.add i) = some (.int .u8 (l.getD i 0).toNat)) → (Extern.Bytes.bytesOf (.slice (some a) l.length cap)).run P w = .ok (bs l) w := fun a cap hc => by
    have := run_loadB (P := P) (w := w) l a ByteArray.empty (fun j y hy => by
      have hj : j < l.length := (List.getElem?_eq_some_iff.1 hy).1
      rw [hc j hj]
      simp [List.getD_eq_getElem?_getD, hy])
    show (Extern.Bytes.loadBytes a l.length .empty).run P w = _
    rw [this]
    congr 1
    apply ByteArray.ext
    simp [bs]
  rcases h with ⟨own, rfl⟩ | ⟨rfl, rfl⟩ | ⟨b, off, cap, cs, rfl, hb, hl, ht⟩
  · obtain ⟨n, q, hn', hq, hv⟩ : ∃ n q, n = l.length ∧ bv l = q ∧ VR g w (.sl own 1 n q) v := ⟨_, _, rfl, rfl, hv⟩
    have hql : q.length = l.length := by rw [← hq, bv_length]
    cases hv with
    | sl0 _ _ a cap =>
      have : l = [] := List.eq_nil_of_length_eq_zero (by simp at hql; omega)
      subst this
      cases a with
      | none => rfl
      | some a => exact key a cap (fun i hi => by simp at hi)
    | sl _ _ _ _ blk off cap us hn hcap hcm hp hu hvv =>
      subst hn'
      refine key _ cap (fun i hi => ?_)
      rw [addr_add, hu i (by omega)]
      have := hvv i (by omega)
      rw [← hq] at this
      have e : (bv l).getD i .unk = .flat (.int .u8 (l.getD i 0).toNat) := by
        simp [bv, List.getD_eq_getElem?_getD, hi]
      rw [e] at this
      rw [hbyte this]
  · cases hv; rfl
  · cases hv
    obtain ⟨_, c, ee, fr, hh, hsz, hth, hvv⟩ := hm b cs hb
    refine key _ cap (fun i hi => ?_)
    rw [addr_add]
    have := hvv (off + i) (by omega)
    have e1 : cs.getD (off + i) .unk = (bv l).getD i .unk := by
      rw [← ht]
      simp [List.getD_eq_getElem?_getD, List.getElem?_take, List.getElem?_drop, hi]
    have e : (bv l).getD i .unk = .flat (.int .u8 (l.getD i 0).toNat) := by
      simp [bv, List.getD_eq_getElem?_getD, hi]
    rw [e1, e] at this
    simp only [World.cell?, hh]
    have hlt : off + i < c.size := by omega
    rw [if_neg (by simp)]
    simp only [Array.getD_eq_getD_getElem?, Array.getElem?_eq_getElem hlt, Option.getD_some] at this
    rw [Array.getElem?_eq_getElem hlt, hbyte this]

/-- Byte by byte. -/
def cmpL : List UInt8 → List UInt8 → Int
  | [], [] => 0
  | [], _ :: _ => -1
  | _ :: _, [] => 1
  | a :: r, b :: q => if a < b then -1 else if b < a then 1 else cmpL r q

theorem find_succ (n : Nat) (p : Nat → Bool) : (List.range (n + 1)).find? p = if p 0 = true then some 0 else ((List.range n).find? fun i => p (i + 1)).map (· + 1) := by
  rw [List.range_succ_eq_map, List.find?_cons]
  cases p 0 with
  | true => rfl
  | false =>
    simp only [Bool.false_eq_true, if_false, List.find?_map]
    rfl
theorem bs_get0 (a : UInt8) (l : List UInt8) : (bs (a :: l))[0]! = a := rfl
theorem bs_getS (a : UInt8) (l : List UInt8) (i : Nat) : (bs (a :: l))[i + 1]! = (bs l)[i]! := by
  by_cases h : i < l.length
  · have h1 : i < (bs l).size := h
    have h2 : i + 1 < (bs (a :: l)).size := by show i + 1 < (a :: l).length; simp; exact h
    rw [getElem!_pos (bs l) i h1, getElem!_pos (bs (a :: l)) (i + 1) h2]
    rfl
  · have h1 : ¬ i < (bs l).size := h
    have h2 : ¬ i + 1 < (bs (a :: l)).size := by
      show ¬ i + 1 < (a :: l).length
      simp; omega
    rw [getElem!_neg (bs l) i h1, getElem!_neg (bs (a :: l)) (i + 1) h2]
theorem cmp_bs : ∀ (a b : List UInt8), Extern.BytealgCompare.cmp (bs a) (bs b) = cmpL a b
  | [], [] => rfl
  | [], b :: q => by
    unfold Extern.BytealgCompare.cmp
    simp [bs_size, cmpL]
  | a :: r, [] => by
    unfold Extern.BytealgCompare.cmp
    simp [bs_size, cmpL]
  | a :: r, b :: q => by
    have ih := cmp_bs r q
    unfold Extern.BytealgCompare.cmp at ih ⊢
    simp only [bs_size, List.length_cons, Nat.succ_min_succ, find_succ, bs_get0, bs_getS, cmpL] at ih ⊢
    by_cases hab : a = b
    · subst hab
      simp only [bne_self_eq_false, Bool.false_eq_true, if_false]
      rw [if_neg (UInt8.lt_irrefl a), if_neg (UInt8.lt_irrefl a), ← ih]
      cases hf : (List.range (min r.length q.length)).find? fun i => (bs r)[i]! != (bs q)[i]! with
      | none => simp [hf]
      | some i => simp [hf, bs_getS]
    · rw [if_pos (by simpa using hab)]
      simp only [bs_get0]
      by_cases hlt : a < b
      · simp [hlt]
      · have h2 : b < a := by
          rcases UInt8.lt_or_lt_of_ne hab with h | h
          · exact absurd h hlt
          · exact h
        simp [hlt, h2]

theorem SpX.compare {f : FuncId} {fn : Func} (hf : P.funcs[f]? = some fn) (hname : (fn.name == "runtime.NumGoroutine") = false) (hb : fn.body.isNone = true) (hn : Extern.findNext fn = none) (he : Extern.find fn = some Extern.BytealgCompare.compare)
    {M : Mem} {x y : V} {a b : List UInt8} (hx : BytesV M x a) (hy : BytesV M y b) (hkx : x.known = true) (hky : y.known = true) : SpX P f [x, y] M (.flat (.int .i64 (cmpL a b))) where
  known := by simp [hkx, hky]
  free := noOwn_flat _
  run g w vs hm hsz hv := by
    obtain ⟨v0, v1, rfl⟩ : ∃ v0 v1, vs = #[v0, v1] := by
      match vs, hsz with
      | ⟨[v0, v1]⟩, _ => exact ⟨v0, v1, rfl⟩
    have h0 := hv 0 (by simp)
    have h1 := hv 1 (by simp)
    simp at h0 h1
    refine ⟨.int .i64 (cmpL a b), ?_, .flat _ rfl⟩
    rw [run_callFunc_extern hf hname hb hn he]
    change (Sem.run P (do pure (goInt (Extern.BytealgCompare.cmp (← Extern.Bytes.bytesOf v0) (← Extern.Bytes.bytesOf v1)))) w).andThen _ = _
    simp only [Sem.run_bind, hx.run hm h0, hy.run hm h1, Result.andThen_ok, Sem.run_pure, cmp_bs]
    rfl

end Go.VL
