/- Part VL22 of the proof: made for this claim. -/
import Derived.Test.YtnajgcmdkmlimaaVL21
/-! VL part 22: how an end passes out of its frames. -/
set_option linter.unusedVariables false
set_option linter.unusedSimpArgs false
open Go.RowKit
namespace Go.VL
variable {K : S → Prop} {Q : QC} {σ : S} {i j : Nat}
theorem nxt_n (h : K σ) : nxt K Q .normal σ := h
theorem nxt_e (h : Q (.exit i) σ) : nxt K Q (.exit i) σ := h
theorem nxt_r (h : Q .ret σ) : nxt K Q .ret σ := h
theorem blk_n (h : Q .normal σ) : blk i Q .normal σ := h
theorem blk_r (h : Q .ret σ) : blk i Q .ret σ := h
theorem blk_hit (h : Q .normal σ) : blk i Q (.exit i) σ := by simp only [blk, if_true]; exact h
theorem blk_miss (hij : (i == j) = false) (h : Q (.exit i) σ) : blk j Q (.exit i) σ := by simp only [blk]; rw [if_neg (by simpa using hij)]; exact h

theorem boxV_agg (C : Cfg) (sl : List (Nat × V)) (mem : Nat → Option (List V)) (mn d : Nat) (cs : List V) : boxV C ⟨sl, mem, mn⟩ d (.agg cs) = .ok ((∀ z ∈ cs.map V.fz, noOwnB z = true) ∧ d < C.nt) ⟨(d, .bp mn 0) :: sl, upd mem mn (some (cs.map V.fz)), mn + 1⟩ := by
  simp only [boxV, V.cells, ne_eq, reduceCtorEq, not_false_eq_true, true_and]
theorem boxV_flat (C : Cfg) (sl : List (Nat × V)) (mem : Nat → Option (List V)) (mn d : Nat) (v : Value) : boxV C ⟨sl, mem, mn⟩ d (.flat v) = .ok (d < C.nt) ⟨(d, .bp mn 0) :: sl, upd mem mn (some [.flat v]), mn + 1⟩ := by
  simp [boxV, V.cells, V.fz, noOwnB]
theorem rep1 (z : List V) : rep 1 z = z := by simp [rep]
theorem rep0 (z : List V) : rep 0 z = [] := by simp [rep]
theorem rep2 (z : V) : rep 2 [z] = [z, z] := rfl
theorem rep3 (z : V) : rep 3 [z] = [z, z, z] := rfl
theorem rep4 (z : V) : rep 4 [z] = [z, z, z, z] := rfl
theorem rep_one (n : Nat) (z : V) : rep n [z] = List.replicate n z := by
  induction n with
  | zero => rfl
  | succ n ih => rw [List.replicate_succ, ← ih]; rfl
theorem putV_z (c x : V) (cs : List V) : putV (c :: cs) 0 [x] = x :: cs := by simp [putV]
theorem putV_s (c : V) (cs xs : List V) (n : Nat) : putV (c :: cs) (n + 1) xs = c :: putV cs n xs := by
  simp only [putV, List.take_succ_cons, List.cons_append]
  rw [show n + 1 + xs.length = (n + xs.length) + 1 by omega, List.drop_succ_cons]
theorem putV_set (cs : List V) (x : V) (n : Nat) (h : n < cs.length) : putV cs n [x] = cs.set n x := by
  simp only [putV, List.length_singleton]
  rw [List.set_eq_take_append_cons_drop, if_pos h]
  simp
theorem wi {n : Int} (h : -9223372036854775808 ≤ n) (h' : n < 9223372036854775808) : IntKind.i64.wrap n = n := by rw [IntKind.wrap_i64]; omega
theorem wu {n : Int} (h : 0 ≤ n) (h' : n < 18446744073709551616) : IntKind.u64.wrap n = n := by simp [IntKind.wrap, IntKind.bits, IntKind.signed]; omega
def bs (l : List UInt8) : ByteArray := ⟨l.toArray⟩
def bv (l : List UInt8) : List V := l.map fun b => .flat (.int .u8 b.toNat)
theorem bv_append (a b : List UInt8) : bv (a ++ b) = bv a ++ bv b := by simp [bv]
theorem bv_length (a : List UInt8) : (bv a).length = a.length := by simp [bv]
theorem bv_app (a b : List UInt8) : bv a ++ bv b = bv (a ++ b) := (bv_append a b).symm
theorem bv_one (b : UInt8) : bv [b] = [.flat (.int .u8 b.toNat)] := rfl
theorem bv_get (a : List UInt8) (i : Nat) : (bv a)[i]? = (a[i]?).map fun b => .flat (.int .u8 b.toNat) := by simp [bv]
theorem bytesC_bs (l : List UInt8) : bytesC (bs l) = bv l := by simp [bytesC, bs, bv]
theorem bv_getD (l : List UInt8) (i : Nat) (h : i < l.length) : (bv l).getD i .unk = .flat (.int .u8 (l.getD i 0).toNat) := by simp [bv, List.getD_eq_getElem?_getD, h]
theorem allBytes_bv (l : List UInt8) : AllBytes (bv l) := by
  intro x hx
  simp only [bv, List.mem_map] at hx
  obtain ⟨b, _, rfl⟩ := hx
  rfl

theorem bs_size (l : List UInt8) : (bs l).size = l.length := rfl
theorem bs_append (a b : List UInt8) : bs a ++ bs b = bs (a ++ b) := by
  apply ByteArray.ext
  rw [ByteArray.data_append]
  simp [bs]
theorem bs_inj (a b : List UInt8) : (bs a = bs b) = (a = b) := by
  apply propext
  refine ⟨fun h => ?_, fun h => h ▸ rfl⟩
  have := congrArg (fun x : ByteArray => x.data.toList) h
  simpa [bs] using this
theorem bs_of (s : ByteArray) : bs s.data.toList = s := rfl
theorem bs_extract (l : List UInt8) (i j : Nat) : (bs l).extract i j = bs ((l.take j).drop i) := by
  apply ByteArray.ext
  simp [bs, ByteArray.data_extract, List.drop_take]
def sv (l : List (List UInt8)) : List V := l.map fun s => .flat (.string (bs s))
theorem sv_length (l : List (List UInt8)) : (sv l).length = l.length := by simp [sv]
theorem sv_getD (l : List (List UInt8)) (i : Nat) (h : i < l.length) : (sv l).getD i .unk = .flat (.string (bs (l.getD i []))) := by simp [sv, List.getD_eq_getElem?_getD, h]
theorem sv_one (s : List UInt8) : sv [s] = [.flat (.string (bs s))] := rfl
theorem nat0 : ((0 : Nat) : Int) = 0 := rfl
theorem nat1 : ((1 : Nat) : Int) = 1 := rfl
theorem imax : IntKind.i64.max = 9223372036854775807 := rfl
theorem allBytes_one (n : Int) : AllBytes [.flat (.int .u8 n)] := by
  intro x hx
  simp only [List.mem_cons, List.not_mem_nil, or_false] at hx
  subst hx; rfl
theorem numOf_bv (l : List UInt8) : (bv l).map numOf = l.map fun b => (b.toNat : Int) := by simp [bv, numOf]
theorem bytesV_bv (l : List UInt8) : bytesV (bv l) = bs l := by
  rw [bytesV, numOf_bv]
  simp only [strOfNums, bs]
  congr 1
  simp only [List.map_map]
  congr 1
  refine (List.map_congr_left (g := id) fun b _ => ?_).trans (List.map_id _)
  simp
theorem bytesV_one (b : UInt8) : bytesV [.flat (.int .u8 (b.toNat : Int))] = bs [b] := bytesV_bv [b]
theorem bs_bytes (l : List UInt8) : (bs l).data.toList.map (fun b => V.flat (.int .u8 (b.toNat : Int))) = bv l := rfl
theorem one_bv (l : List UInt8) : ∀ z ∈ bv l, oneB z = true := by
  intro z hz
  simp only [bv, List.mem_map] at hz
  obtain ⟨b, _, rfl⟩ := hz
  rfl
theorem one_sv (l : List (List UInt8)) : ∀ z ∈ sv l, oneB z = true := by
  intro z hz
  simp only [sv, List.mem_map] at hz
  obtain ⟨b, _, rfl⟩ := hz
  rfl
/-- A region that leads to a state that is named. -/
theorem WC.regionTo {P : Program} {E : Entry} {C : Cfg} (mid : S) (hH : EnvOk P C.H) (hL : LEnvOk P C.L) (hG : GlOk E.g0 E.w0 C.gl) {id : Nat} {ops : Array Oper} {σ : S} {Q : QC} (hd : dstOk C.nt ops.toList = true)
    (h : ∀ (Θ : Ctx P E C) (K : S → Prop), Θ.ops = ops.toList → (∀ σ, Sub E C.nt σ mid → K σ) → Post Θ (run C (ops.toList.map (·.dst)) ops.toList σ True) K) (h2 : Q .normal mid) : WC P E C (.region id ops false) σ Q := by
  have h3 : WC P E C (.region id ops false) σ (fun e s => (e = .normal ∧ Sub E C.nt s mid)) := WC.region hH hL hG hd (fun Θ K hΘ hK => h Θ K hΘ (fun s hs => hK s ⟨rfl, hs⟩))
  intro a w hA
  refine wp_mono (h3 a w hA) ?_
  rintro e a' w' ⟨s, k1, rfl, k2⟩
  exact ⟨mid, k2 a' w' k1, h2⟩
end Go.VL
