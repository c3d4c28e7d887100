/- Part SE of the proof: made for this claim. -/
import Derived.Test.YtbceglggojnnaaaDoorSD
set_option linter.unusedVariables false
set_option linter.unusedSimpArgs false
set_option maxRecDepth 100000
set_option maxHeartbeats 8000000
open Go.RowKit
namespace Go.VL
open Go.Proofs
theorem turn_sp (x : UInt32) (n : Int) (h : decide (1 ≤ n) && decide (n ≤ 31) = true) : Rt 109 [.flat (.int .u32 x.toNat), .flat (.int .u32 n)] (.flat (.int .u32 (rotr x n.toNat).toNat)) := by
  simp only [Bool.and_eq_true, decide_eq_true_eq] at h
  obtain ⟨k, rfl⟩ : ∃ k : Nat, n = (k : Int) := ⟨n.toNat, by omega⟩
  have e2 : IntKind.u32.wrap (32 - (k : Int)) = ((32 - k : Nat) : Int) := by rw [show (32 - (k : Int)) = ((32 - k : Nat) : Int) by omega, wrap_u32, Nat.mod_eq_of_lt (by omega)]
  have e3 := w_shlN x (32 - k) (by omega)
  have e4 := w_shrN x k (by omega)
  rw [Int.toNat_natCast]
  intro M mn
  refine fnL (C := kc 13 [] []) (rs := [.tmp 4]) envOk Tryd.func109 (by kernel_rfl) rfl rfl rfl rfl rfl rfl (Low.flat _) ?_
  intro E hG hM
  repeat' (first | (with_reducible first | refine pa ?_ | refine pb ?_ | refine pc ?_ | refine nxt_n ?_ | refine nxt_e ?_ | refine nxt_r ?_ | refine blk_n ?_ | refine blk_r ?_ | refine blk_hit ?_ | refine blk_miss (by rfl) ?_ | refine pd ?_ | refine pe ?_ | refine pf ?_ | refine pg ?_ | apply And.intro) | (refine hK _ ?_; clear hK K hΘ Θ) | (with_reducible first | refine cw1 ?_ | refine cw2 ?_ | exact cw3 | exact cw4) | ((with_reducible first | refine cw5 (fun gg => ?_) | refine cw6 (fun gg => ?_) | refine cw7 (fun gg => ?_)); try simp only [gg]) | refine cs1 hG rfl ?_ ?_ | refine cs2 hG rfl ?_ ?_ | ((first | refine rga hG (by kernel_rfl) (fun Θ K hΘ hK => ?_) | refine rgb hG (by kernel_rfl) (fun Θ K hΘ hK => ?_)); simp (maxSteps := 2000000) only [go_sem, seval, reduceCtorEq, e2, e3, e4]) | ((first | refine Post.splitN (fun gg => ?_) (fun gg => ?_) | refine Post.split (fun gg => ?_) (fun gg => ?_)) <;> simp (maxSteps := 2000000) only [go_sem, seval, reduceCtorEq, gg, e2, e3, e4]) | (refine finR (by simp only [go_sem, seval, reduceCtorEq, e2, e3, e4]; exact rfl) ?_; simp only [go_sem, seval, reduceCtorEq, e2, e3, e4]) | refine updL hM ?_ (by omega) | (with_reducible exact fun _ _ => rfl))
  all_goals (first | omega | (simp only [decide_eq_true_eq, decide_eq_false_iff_not] at *; omega) | (simp only [List.length_append, List.length_cons, List.length_nil] <;> omega) | exact one_bv _ | exact one_sv _ | skip)
  rfl
theorem known_sp (M : Mem) (mn : Nat) : Sp Tryd.prog GL 108 [] M mn (fun r m k => r = .tup [.bs mn 0 8 8, .bs (mn + 1) 0 64 64] ∧ m = upd (upd M mn (some (uv startN))) (mn + 1) (some (uv roundN)) ∧ k = mn + 1 + 1) := by
  refine fnP (C := kc 8 [] [4, 5]) (rs := [.tmp 0, .tmp 1]) envOk Tryd.func108 (by kernel_rfl) rfl rfl rfl rfl rfl rfl ?_
  intro E hG hM
  repeat' (first | (with_reducible first | refine pa ?_ | refine pb ?_ | refine pc ?_ | refine nxt_n ?_ | refine nxt_e ?_ | refine nxt_r ?_ | refine blk_n ?_ | refine blk_r ?_ | refine blk_hit ?_ | refine blk_miss (by rfl) ?_ | refine pd ?_ | refine pe ?_ | refine pf ?_ | refine pg ?_ | apply And.intro) | (refine hK _ ?_; clear hK K hΘ Θ) | (with_reducible first | refine cw1 ?_ | refine cw2 ?_ | exact cw3 | exact cw4) | ((with_reducible first | refine cw5 (fun gg => ?_) | refine cw6 (fun gg => ?_) | refine cw7 (fun gg => ?_)); try simp only [gg]) | refine cs1 hG rfl ?_ ?_ | refine cs2 hG rfl ?_ ?_ | ((first | refine rga hG (by kernel_rfl) (fun Θ K hΘ hK => ?_) | refine rgb hG (by kernel_rfl) (fun Θ K hΘ hK => ?_)); simp (maxSteps := 2000000) only [go_sem, seval, reduceCtorEq, rep_one]) | ((first | refine Post.splitN (fun gg => ?_) (fun gg => ?_) | refine Post.split (fun gg => ?_) (fun gg => ?_)) <;> simp (maxSteps := 2000000) only [go_sem, seval, reduceCtorEq, gg, rep_one]) | (refine finR (by simp only [go_sem, seval, reduceCtorEq, rep_one]; exact rfl) ?_; simp only [go_sem, seval, reduceCtorEq, rep_one]) | refine updL hM ?_ (by omega) | (with_reducible exact fun _ _ => rfl))
  all_goals (first | omega | (simp only [decide_eq_true_eq, decide_eq_false_iff_not] at *; omega) | (simp only [List.length_append, List.length_cons, List.length_nil] <;> omega) | exact one_bv _ | exact one_sv _ | skip)
  rfl
def mB (M : Mem) (mn : Nat) (h : List UInt32) : Mem := upd (upd (upd M mn (some (bv z32.1))) (mn + 1) (some (uv h))) (mn + 1 + 1) (some (uv roundN))
theorem mB_h (M : Mem) (mn : Nat) (h : List UInt32) : mB M mn h (mn + 1) = some (uv h) := by rw [mB, upd_ne _ _ (by omega), upd_same]
theorem mB_k (M : Mem) (mn : Nat) (h : List UInt32) : mB M mn h (mn + 1 + 1) = some (uv roundN) := by rw [mB, upd_same]
theorem mB_s (M : Mem) (mn : Nat) (h g : List UInt32) : upd (mB M mn h) (mn + 1) (some (uv g)) = mB M mn g := by rw [mB, upd_swap (by omega), upd_upd, mB]
theorem set_zero {p : List UInt8} {i : Nat} : (wArr p i).set i 0 = wArr p i := by
  apply List.ext_getElem?
  intro j
  by_cases h : i = j
  · subst h
    have := wArr_zero p i i (Nat.le_refl _)
    rw [List.getD_eq_getElem?_getD] at this
    rw [List.getElem?_set_self']
    cases e : (wArr p i)[i]? with
    | none => rfl
    | some x => rw [e] at this; simp at this; simp [this]
  · rw [List.getElem?_set_ne h]
theorem ROf_sp (s : List UInt8) (hs : s.length ≤ 1099511627776) : Rt 76 [.flat (.string (bs s))] (.agg (bv (sha s).1)) := by
  intro M mn
  refine fnL (C := kc 287 [34, 45] [59]) (rs := [.cell 2 52]) envOk Tryd.func76 (by kernel_rfl) rfl rfl rfl rfl rfl rfl (lowAgg (FlatS.bv _)) ?_
  intro E hG hM
  repeat' (first | (with_reducible first | refine pa ?_ | refine pb ?_ | refine pc ?_ | refine nxt_n ?_ | refine nxt_e ?_ | refine nxt_r ?_ | refine blk_n ?_ | refine blk_r ?_ | refine blk_hit ?_ | refine blk_miss (by rfl) ?_ | refine pd ?_ | refine pe ?_ | refine pf ?_ | refine pg ?_ | apply And.intro) | (refine hK _ ?_; first | clear hK K hn0 hcl hΘ Θ | clear hK K hΘ Θ) | (with_reducible first | refine cw1 ?_ | refine cw2 ?_ | exact cw3 | exact cw4) | ((with_reducible first | refine cw5 (fun gg => ?_) | refine cw6 (fun gg => ?_) | refine cw7 (fun gg => ?_)); try simp only [gg]) | refine cs1 hG rfl ?_ ?_ | refine cs2 hG rfl ?_ ?_ | ((first | refine kg (known_sp _ _) rfl hΘ ?_ | refine rga hG (by kernel_rfl) (fun Θ K hΘ hK => ?_) | refine rgb hG (by kernel_rfl) (fun Θ K hΘ hK => ?_) | refine rgc defCl hG (by kernel_rfl) cl0 (by rfl) (by kernel_rfl) (fun Θ K hΘ hcl hn0 hK => ?_) | refine rgd defCl hG (by kernel_rfl) cl0 (by rfl) (by kernel_rfl) (fun Θ K hΘ hcl hn0 hK => ?_)); simp (maxSteps := 2000000) only [go_sem, seval, reduceCtorEq, List.append_eq]) | ((first | refine Post.splitN (fun gg => ?_) (fun gg => ?_) | refine PostB.splitN (fun gg => ?_) (fun gg => ?_) | refine Post.split (fun gg => ?_) (fun gg => ?_) | refine PostB.split (fun gg => ?_) (fun gg => ?_)) <;> simp (maxSteps := 2000000) only [go_sem, seval, reduceCtorEq, List.append_eq, gg]) | (refine finR (by simp only [go_sem, seval, reduceCtorEq, List.append_eq]; exact rfl) ?_; simp only [go_sem, seval, reduceCtorEq, List.append_eq]) | refine updL hM ?_ (by omega) | (with_reducible exact fun _ _ => rfl))
  all_goals (first | omega | (simp only [decide_eq_true_eq, decide_eq_false_iff_not] at *; omega) | (simp only [List.length_append, List.length_cons, List.length_nil] <;> omega) | exact one_bv _ | exact one_sv _ | skip)
  refine WC.loopA (fun l : List UInt8 => ⟨[(5, .sl true 1 l.length (bv l)), (4, .bs (mn + 1 + 1) 0 64 64), (3, .bs (mn + 1) 0 8 8), (2, .bp mn 0), (0, .flat (.string (bs s)))], mB M mn startN, mn + 1 + 1 + 1⟩) (fun l => s.length + 100 - l.length) (fun l => ∃ j, j ≤ padN s.length ∧ l = s ++ [128] ++ List.replicate j 0) (s ++ [128]) ⟨0, by omega, by simp⟩ (sbs (by simp (maxSteps := 2000000) only [go_sem, seval, reduceCtorEq, List.append_eq, bv_snoc128, len_snoc]) rfl rfl) ?_
  rintro l ⟨j, hj, hl⟩
  have hpd : padN s.length = (120 - (s.length + 1) % 64) % 64 := rfl
  have hll : l.length = s.length + 1 + j := by rw [hl]; simp; omega
  have e0 : ((l.length : Int).tmod 64) = ((l.length % 64 : Nat) : Int) := tmodN _ 64
  by_cases hm : l.length % 64 ≠ 56
  · have f0 : (((l.length % 64 : Nat) : Int) = 56) = False := eq_false (by omega)
    repeat' (first | (with_reducible first | refine pa ?_ | refine pb ?_ | refine pc ?_ | refine nxt_n ?_ | refine nxt_e ?_ | refine nxt_r ?_ | refine blk_n ?_ | refine blk_r ?_ | refine blk_hit ?_ | refine blk_miss (by rfl) ?_ | refine pd ?_ | refine pe ?_ | refine pf ?_ | refine pg ?_ | apply And.intro) | (refine hK _ ?_; first | clear hK K hn0 hcl hΘ Θ | clear hK K hΘ Θ) | (with_reducible first | refine cw1 ?_ | refine cw2 ?_ | exact cw3 | exact cw4) | ((with_reducible first | refine cw5 (fun gg => ?_) | refine cw6 (fun gg => ?_) | refine cw7 (fun gg => ?_)); try simp only [gg]) | refine cs1 hG rfl ?_ ?_ | refine cs2 hG rfl ?_ ?_ | ((first | refine rga hG (by kernel_rfl) (fun Θ K hΘ hK => ?_) | refine rgb hG (by kernel_rfl) (fun Θ K hΘ hK => ?_) | refine rgc defCl hG (by kernel_rfl) cl0 (by rfl) (by kernel_rfl) (fun Θ K hΘ hcl hn0 hK => ?_) | refine rgd defCl hG (by kernel_rfl) cl0 (by rfl) (by kernel_rfl) (fun Θ K hΘ hcl hn0 hK => ?_)); simp (maxSteps := 2000000) only [go_sem, seval, reduceCtorEq, List.append_eq, e0, f0]) | ((first | refine Post.splitN (fun gg => ?_) (fun gg => ?_) | refine PostB.splitN (fun gg => ?_) (fun gg => ?_) | refine Post.split (fun gg => ?_) (fun gg => ?_) | refine PostB.split (fun gg => ?_) (fun gg => ?_)) <;> simp (maxSteps := 2000000) only [go_sem, seval, reduceCtorEq, List.append_eq, gg, e0, f0]) | (refine finR (by simp only [go_sem, seval, reduceCtorEq, List.append_eq, e0, f0]; exact rfl) ?_; simp only [go_sem, seval, reduceCtorEq, List.append_eq, e0, f0]) | refine updL hM ?_ (by omega) | (with_reducible exact fun _ _ => rfl))
    all_goals (first | omega | (simp only [decide_eq_true_eq, decide_eq_false_iff_not] at *; omega) | (simp only [List.length_append, List.length_cons, List.length_nil] <;> omega) | exact one_bv _ | exact one_sv _ | skip)
    refine ⟨l ++ [0], ⟨j + 1, by omega, ?_⟩, ?_, (sbs (by simp (maxSteps := 2000000) only [go_sem, seval, reduceCtorEq, List.append_eq, len_snoc]) rfl rfl)⟩
    · rw [hl, List.replicate_succ']; simp
    · rw [len_snoc]; omega
  have f0 : (((l.length % 64 : Nat) : Int) = 56) = True := eq_true (by omega)
  have ej : j = padN s.length := by omega
  subst ej
  have w1 : IntKind.u64.wrap (s.length : Int) = (s.length : Int) := wu (by omega) (by omega)
  have w2 : IntKind.u64.wrap ((s.length : Int) * 8) = ((s.length * 8 : Nat) : Int) := by rw [wu (by omega) (by omega)]; omega
  repeat' (first | (with_reducible first | refine pa ?_ | refine pb ?_ | refine pc ?_ | refine nxt_n ?_ | refine nxt_e ?_ | refine nxt_r ?_ | refine blk_n ?_ | refine blk_r ?_ | refine blk_hit ?_ | refine blk_miss (by rfl) ?_ | refine pd ?_ | refine pe ?_ | refine pf ?_ | refine pg ?_ | apply And.intro) | (refine hK _ ?_; first | clear hK K hn0 hcl hΘ Θ | clear hK K hΘ Θ) | (with_reducible first | refine cw1 ?_ | refine cw2 ?_ | exact cw3 | exact cw4) | ((with_reducible first | refine cw5 (fun gg => ?_) | refine cw6 (fun gg => ?_) | refine cw7 (fun gg => ?_)); try simp only [gg]) | refine cs1 hG rfl ?_ ?_ | refine cs2 hG rfl ?_ ?_ | ((first | refine rga hG (by kernel_rfl) (fun Θ K hΘ hK => ?_) | refine rgb hG (by kernel_rfl) (fun Θ K hΘ hK => ?_) | refine rgc defCl hG (by kernel_rfl) cl0 (by rfl) (by kernel_rfl) (fun Θ K hΘ hcl hn0 hK => ?_) | refine rgd defCl hG (by kernel_rfl) cl0 (by rfl) (by kernel_rfl) (fun Θ K hΘ hcl hn0 hK => ?_)); simp (maxSteps := 2000000) only [go_sem, seval, reduceCtorEq, List.append_eq, e0, f0, w1, w2]) | ((first | refine Post.splitN (fun gg => ?_) (fun gg => ?_) | refine PostB.splitN (fun gg => ?_) (fun gg => ?_) | refine Post.split (fun gg => ?_) (fun gg => ?_) | refine PostB.split (fun gg => ?_) (fun gg => ?_)) <;> simp (maxSteps := 2000000) only [go_sem, seval, reduceCtorEq, List.append_eq, gg, e0, f0, w1, w2]) | (refine finR (by simp only [go_sem, seval, reduceCtorEq, List.append_eq, e0, f0, w1, w2]; exact rfl) ?_; simp only [go_sem, seval, reduceCtorEq, List.append_eq, e0, f0, w1, w2]) | refine updL hM ?_ (by omega) | (with_reducible exact fun _ _ => rfl))
  all_goals (first | omega | (simp only [decide_eq_true_eq, decide_eq_false_iff_not] at *; omega) | (simp only [List.length_append, List.length_cons, List.length_nil] <;> omega) | exact one_bv _ | exact one_sv _ | skip)
  generalize hpr : l = pre at hll
  generalize hN : s.length * 8 = N
  have hNb : N < 18446744073709551616 := by omega
  refine WC.loopA (fun j : Nat => ⟨[(7, .flat (.int .i64 j)), (6, .flat (.int .u64 (N * 256 ^ j % 18446744073709551616 : Nat))), (5, .sl true 1 (pre ++ (lenB N).take j).length (bv (pre ++ (lenB N).take j))), (4, .bs (mn + 1 + 1) 0 64 64), (3, .bs (mn + 1) 0 8 8), (2, .bp mn 0)], mB M mn startN, mn + 1 + 1 + 1⟩) (fun j => 8 - j) (fun j => j ≤ 8) 0 (by omega) (sbs (by simp (maxSteps := 2000000) only [go_sem, seval, reduceCtorEq, List.append_eq, List.take_zero, List.append_nil, hpr, Int.natCast_zero, Nat.pow_zero, Nat.mul_one, Nat.mod_eq_of_lt hNb]) rfl rfl) ?_
  intro j hj8
  generalize hL : pre ++ (lenB N).take j = L
  have hLl : L.length = pre.length + j := by rw [← hL, List.length_append, List.length_take, lenB_len]; omega
  by_cases h8 : j < 8
  · have f8 : ((j : Int) < 8) = True := eq_true (by omega)
    have v1 : IntKind.i64.wrap (j + 1) = ((j + 1 : Nat) : Int) := by rw [wi (by omega) (by omega)]; omega
    have v2 : quoI .u64 ((N * 256 ^ j % 18446744073709551616 : Nat) : Int) 72057594037927936 = _ := quo64 (N * 256 ^ j % 18446744073709551616) 72057594037927936 (Nat.mod_lt _ (by omega))
    have v3 : IntKind.u64.wrap ((N * 256 ^ j % 18446744073709551616 : Nat) * 256 : Int) = ((N * 256 ^ (j + 1) % 18446744073709551616 : Nat) : Int) := by
      have := wrap_u64n (N * 256 ^ j % 18446744073709551616 * 256)
      rw [Int.natCast_mul] at this
      rw [show ((256 : Nat) : Int) = 256 from rfl] at this
      rw [this, Nat.mod_mul_mod, Nat.mul_assoc, ← Nat.pow_succ]
    have v4 := w_byteN ((N * 256 ^ j % 18446744073709551616) / 72057594037927936)
    rw [lenB_ref N hNb j h8] at v4
    have hn := lenB_take N j h8
    have hN : pre ++ (lenB N).take (j + 1) = L ++ [UInt8.ofNat (N / 2 ^ (8 * (7 - j)))] := by rw [hn, ← List.append_assoc, hL]
    generalize N * 256 ^ j % 18446744073709551616 = A at v2 v3 v4 ⊢
    repeat' (first | (with_reducible first | refine pa ?_ | refine pb ?_ | refine pc ?_ | refine nxt_n ?_ | refine nxt_e ?_ | refine nxt_r ?_ | refine blk_n ?_ | refine blk_r ?_ | refine blk_hit ?_ | refine blk_miss (by rfl) ?_ | refine pd ?_ | refine pe ?_ | refine pf ?_ | refine pg ?_ | apply And.intro) | (refine hK _ ?_; first | clear hK K hn0 hcl hΘ Θ | clear hK K hΘ Θ) | (with_reducible first | refine cw1 ?_ | refine cw2 ?_ | exact cw3 | exact cw4) | ((with_reducible first | refine cw5 (fun gg => ?_) | refine cw6 (fun gg => ?_) | refine cw7 (fun gg => ?_)); try simp only [gg]) | refine cs1 hG rfl ?_ ?_ | refine cs2 hG rfl ?_ ?_ | ((first | refine rga hG (by kernel_rfl) (fun Θ K hΘ hK => ?_) | refine rgb hG (by kernel_rfl) (fun Θ K hΘ hK => ?_) | refine rgc defCl hG (by kernel_rfl) cl0 (by rfl) (by kernel_rfl) (fun Θ K hΘ hcl hn0 hK => ?_) | refine rgd defCl hG (by kernel_rfl) cl0 (by rfl) (by kernel_rfl) (fun Θ K hΘ hcl hn0 hK => ?_)); simp (maxSteps := 2000000) only [go_sem, seval, reduceCtorEq, List.append_eq, f8, v1, v2, v3, v4]) | ((first | refine Post.splitN (fun gg => ?_) (fun gg => ?_) | refine PostB.splitN (fun gg => ?_) (fun gg => ?_) | refine Post.split (fun gg => ?_) (fun gg => ?_) | refine PostB.split (fun gg => ?_) (fun gg => ?_)) <;> simp (maxSteps := 2000000) only [go_sem, seval, reduceCtorEq, List.append_eq, gg, f8, v1, v2, v3, v4]) | (refine finR (by simp only [go_sem, seval, reduceCtorEq, List.append_eq, f8, v1, v2, v3, v4]; exact rfl) ?_; simp only [go_sem, seval, reduceCtorEq, List.append_eq, f8, v1, v2, v3, v4]) | refine updL hM ?_ (by omega) | (with_reducible exact fun _ _ => rfl))
    all_goals (first | omega | (simp only [decide_eq_true_eq, decide_eq_false_iff_not] at *; omega) | (simp only [List.length_append, List.length_cons, List.length_nil] <;> omega) | exact one_bv _ | exact one_sv _ | skip)
    refine ⟨j + 1, by omega, by omega, (sbs (by simp (maxSteps := 2000000) only [go_sem, seval, reduceCtorEq, List.append_eq, hN, len_snoc]) rfl rfl)⟩
  have f8 : ((j : Int) < 8) = False := eq_false (by omega)
  have e8 : j = 8 := by omega
  subst e8
  rw [List.take_of_length_le (by rw [lenB_len]; omega), ← hpr, hl, ← hN, ← pad] at hL
  have hpd := pad_mod s
  rw [hL] at hpd
  have hLb : L.length < 2000000000000 := by have : padN s.length < 64 := Nat.mod_lt _ (by omega); omega
  repeat' (first | (with_reducible first | refine pa ?_ | refine pb ?_ | refine pc ?_ | refine nxt_n ?_ | refine nxt_e ?_ | refine nxt_r ?_ | refine blk_n ?_ | refine blk_r ?_ | refine blk_hit ?_ | refine blk_miss (by rfl) ?_ | refine pd ?_ | refine pe ?_ | refine pf ?_ | refine pg ?_ | apply And.intro) | (refine hK _ ?_; first | clear hK K hn0 hcl hΘ Θ | clear hK K hΘ Θ) | (with_reducible first | refine cw1 ?_ | refine cw2 ?_ | exact cw3 | exact cw4) | ((with_reducible first | refine cw5 (fun gg => ?_) | refine cw6 (fun gg => ?_) | refine cw7 (fun gg => ?_)); try simp only [gg]) | refine cs1 hG rfl ?_ ?_ | refine cs2 hG rfl ?_ ?_ | ((first | refine rga hG (by kernel_rfl) (fun Θ K hΘ hK => ?_) | refine rgb hG (by kernel_rfl) (fun Θ K hΘ hK => ?_) | refine rgc defCl hG (by kernel_rfl) cl0 (by rfl) (by kernel_rfl) (fun Θ K hΘ hcl hn0 hK => ?_) | refine rgd defCl hG (by kernel_rfl) cl0 (by rfl) (by kernel_rfl) (fun Θ K hΘ hcl hn0 hK => ?_)); simp (maxSteps := 2000000) only [go_sem, seval, reduceCtorEq, List.append_eq, f8]) | ((first | refine Post.splitN (fun gg => ?_) (fun gg => ?_) | refine PostB.splitN (fun gg => ?_) (fun gg => ?_) | refine Post.split (fun gg => ?_) (fun gg => ?_) | refine PostB.split (fun gg => ?_) (fun gg => ?_)) <;> simp (maxSteps := 2000000) only [go_sem, seval, reduceCtorEq, List.append_eq, gg, f8]) | (refine finR (by simp only [go_sem, seval, reduceCtorEq, List.append_eq, f8]; exact rfl) ?_; simp only [go_sem, seval, reduceCtorEq, List.append_eq, f8]) | refine updL hM ?_ (by omega) | (with_reducible exact fun _ _ => rfl))
  all_goals (first | omega | (simp only [decide_eq_true_eq, decide_eq_false_iff_not] at *; omega) | (simp only [List.length_append, List.length_cons, List.length_nil] <;> omega) | exact one_bv _ | exact one_sv _ | skip)
  clear hl hll hpr
  refine WC.loopA (fun q : List UInt32 × Nat × Nat => ⟨[(8, .flat (.int .i64 (64 * q.2.1 : Nat))), (5, .sl false 1 L.length (bv L)), (4, .bs (mn + 1 + 1) 0 64 64), (3, .bs (mn + 1) 0 8 8), (2, .bp mn 0)], mB M mn q.1, q.2.2⟩) (fun q => L.length - 64 * q.2.1) (fun q => q.1.length = 8 ∧ q.1 = foldB q.2.1 startN L ∧ 64 * q.2.1 ≤ L.length ∧ mn + 3 ≤ q.2.2) (startN, 0, mn + 3) ⟨startN_len, rfl, by simp only; omega, by simp only; omega⟩ (sbs (by simp (maxSteps := 2000000) only [go_sem, seval, reduceCtorEq, List.append_eq, Nat.mul_zero, Int.natCast_zero]) rfl rfl) ?_
  rintro ⟨h, i, k⟩ ⟨hh, hf, hil, hk⟩
  simp only at hh hf hil hk ⊢
  generalize hat : 64 * i = at'
  by_cases hend : at' < L.length
  · have f0 : ((at' : Int) < (L.length : Int)) = True := eq_true (by omega)
    have hr := uv_rep 64
    repeat' (first | (with_reducible first | refine pa ?_ | refine pb ?_ | refine pc ?_ | refine nxt_n ?_ | refine nxt_e ?_ | refine nxt_r ?_ | refine blk_n ?_ | refine blk_r ?_ | refine blk_hit ?_ | refine blk_miss (by rfl) ?_ | refine pd ?_ | refine pe ?_ | refine pf ?_ | refine pg ?_ | apply And.intro) | (refine hK _ ?_; first | clear hK K hn0 hcl hΘ Θ | clear hK K hΘ Θ) | (with_reducible first | refine cw1 ?_ | refine cw2 ?_ | exact cw3 | exact cw4) | ((with_reducible first | refine cw5 (fun gg => ?_) | refine cw6 (fun gg => ?_) | refine cw7 (fun gg => ?_)); try simp only [gg]) | refine cs1 hG rfl ?_ ?_ | refine cs2 hG rfl ?_ ?_ | ((first | refine rga hG (by kernel_rfl) (fun Θ K hΘ hK => ?_) | refine rgb hG (by kernel_rfl) (fun Θ K hΘ hK => ?_) | refine rgc defCl hG (by kernel_rfl) cl0 (by rfl) (by kernel_rfl) (fun Θ K hΘ hcl hn0 hK => ?_) | refine rgd defCl hG (by kernel_rfl) cl0 (by rfl) (by kernel_rfl) (fun Θ K hΘ hcl hn0 hK => ?_)); simp (maxSteps := 2000000) only [go_sem, seval, reduceCtorEq, List.append_eq, f0, hr]) | ((first | refine Post.splitN (fun gg => ?_) (fun gg => ?_) | refine PostB.splitN (fun gg => ?_) (fun gg => ?_) | refine Post.split (fun gg => ?_) (fun gg => ?_) | refine PostB.split (fun gg => ?_) (fun gg => ?_)) <;> simp (maxSteps := 2000000) only [go_sem, seval, reduceCtorEq, List.append_eq, gg, f0, hr]) | (refine finR (by simp only [go_sem, seval, reduceCtorEq, List.append_eq, f0, hr]; exact rfl) ?_; simp only [go_sem, seval, reduceCtorEq, List.append_eq, f0, hr]) | refine updL hM ?_ (by omega) | (with_reducible exact fun _ _ => rfl))
    all_goals (first | omega | (simp only [decide_eq_true_eq, decide_eq_false_iff_not] at *; omega) | (simp only [List.length_append, List.length_cons, List.length_nil] <;> omega) | exact one_bv _ | exact one_sv _ | skip)
    generalize hP : (L.drop at').take 64 = p
    have hp : p.length = 64 := by rw [← hP, List.length_take, List.length_drop]; omega
    have hpg : ∀ a, a < 64 → p.getD a 0 = L.getD (at' + a) 0 := fun a ha => by
      rw [← hP, List.getD_eq_getElem?_getD, List.getElem?_take, if_pos ha, List.getElem?_drop, ← List.getD_eq_getElem?_getD]
    have m1 : ∀ x, upd (mB M mn h) k x (mn + 1) = some (uv h) := fun x => by rw [upd_ne _ _ (by omega), mB_h]
    have m2 : ∀ x, upd (mB M mn h) k x (mn + 1 + 1) = some (uv roundN) := fun x => by rw [upd_ne _ _ (by omega), mB_k]
    refine WC.loopA (fun i : Nat => ⟨[(10, .flat (.int .i64 i)), (9, .bs k 0 64 64), (8, .flat (.int .i64 at')), (5, .sl false 1 L.length (bv L)), (4, .bs (mn + 1 + 1) 0 64 64), (3, .bs (mn + 1) 0 8 8), (2, .bp mn 0)], upd (mB M mn h) k (some (uv (wArr p i))), k + 1⟩) (fun i => 16 - i) (fun i => i ≤ 16) 0 (by omega) (sbs (by simp (maxSteps := 2000000) only [go_sem, seval, reduceCtorEq, List.append_eq, Int.natCast_zero]) rfl rfl) ?_
    intro i hi
    have hw := wArr_len p i
    by_cases h16 : i < 16
    · have f1 : ((i : Int) < 16) = True := eq_true (by omega)
      have g1 : (i < 64) = True := eq_true (by omega)
      have v1 : IntKind.i64.wrap (i + 1) = ((i + 1 : Nat) : Int) := by rw [wi (by omega) (by omega)]; omega
      have v2 : IntKind.i64.wrap (4 * i) = ((4 * i : Nat) : Int) := by rw [wi (by omega) (by omega)]; omega
      have v3 : IntKind.i64.wrap ((at' : Int) + ((4 * i : Nat) : Int)) = ((at' + 4 * i : Nat) : Int) := by rw [wi (by omega) (by omega)]; omega
      repeat' (first | (with_reducible first | refine pa ?_ | refine pb ?_ | refine pc ?_ | refine nxt_n ?_ | refine nxt_e ?_ | refine nxt_r ?_ | refine blk_n ?_ | refine blk_r ?_ | refine blk_hit ?_ | refine blk_miss (by rfl) ?_ | refine pd ?_ | refine pe ?_ | refine pf ?_ | refine pg ?_ | apply And.intro) | (refine hK _ ?_; first | clear hK K hn0 hcl hΘ Θ | clear hK K hΘ Θ) | (with_reducible first | refine cw1 ?_ | refine cw2 ?_ | exact cw3 | exact cw4) | ((with_reducible first | refine cw5 (fun gg => ?_) | refine cw6 (fun gg => ?_) | refine cw7 (fun gg => ?_)); try simp only [gg]) | refine cs1 hG rfl ?_ ?_ | refine cs2 hG rfl ?_ ?_ | ((first | refine rga hG (by kernel_rfl) (fun Θ K hΘ hK => ?_) | refine rgb hG (by kernel_rfl) (fun Θ K hΘ hK => ?_) | refine rgc defCl hG (by kernel_rfl) cl0 (by rfl) (by kernel_rfl) (fun Θ K hΘ hcl hn0 hK => ?_) | refine rgd defCl hG (by kernel_rfl) cl0 (by rfl) (by kernel_rfl) (fun Θ K hΘ hcl hn0 hK => ?_)); simp (maxSteps := 2000000) only [go_sem, seval, reduceCtorEq, List.append_eq, f1]) | ((first | refine Post.splitN (fun gg => ?_) (fun gg => ?_) | refine PostB.splitN (fun gg => ?_) (fun gg => ?_) | refine Post.split (fun gg => ?_) (fun gg => ?_) | refine PostB.split (fun gg => ?_) (fun gg => ?_)) <;> simp (maxSteps := 2000000) only [go_sem, seval, reduceCtorEq, List.append_eq, gg, f1]) | (refine finR (by simp only [go_sem, seval, reduceCtorEq, List.append_eq, f1]; exact rfl) ?_; simp only [go_sem, seval, reduceCtorEq, List.append_eq, f1]) | refine updL hM ?_ (by omega) | (with_reducible exact fun _ _ => rfl))
      all_goals (first | omega | (simp only [decide_eq_true_eq, decide_eq_false_iff_not] at *; omega) | (simp only [List.length_append, List.length_cons, List.length_nil] <;> omega) | exact one_bv _ | exact one_sv _ | skip)
      refine WC.loopA (fun q : Nat => ⟨[(11, .flat (.int .i64 q)), (10, .flat (.int .i64 i)), (9, .bs k 0 64 64), (8, .flat (.int .i64 at')), (5, .sl false 1 L.length (bv L)), (4, .bs (mn + 1 + 1) 0 64 64), (3, .bs (mn + 1) 0 8 8), (2, .bp mn 0)], upd (mB M mn h) k (some (uv ((wArr p i).set i (wQ p i q)))), k + 1⟩) (fun q => 4 - q) (fun q => q ≤ 4) 0 (by omega) (sbs (by simp (maxSteps := 2000000) only [go_sem, seval, reduceCtorEq, List.append_eq, Int.natCast_zero]) (by rw [wQ, set_zero]) rfl) ?_
      intro q hq
      by_cases h4 : q < 4
      · have f2 : ((q : Int) < 4) = True := eq_true (by omega)
        have v4 : IntKind.i64.wrap (q + 1) = ((q + 1 : Nat) : Int) := by rw [wi (by omega) (by omega)]; omega
        have v5 : IntKind.i64.wrap (((at' + 4 * i : Nat) : Int) + (q : Int)) = ((at' + 4 * i + q : Nat) : Int) := by rw [wi (by omega) (by omega)]; omega
        have v6 : (at' + 4 * i + q < L.length) = True := eq_true (by omega)
        have v7 : L.getD (at' + 4 * i + q) 0 = p.getD (4 * i + q) 0 := by rw [hpg _ (by omega), Nat.add_assoc]
        have v8 : ∀ x : UInt32, ((wArr p i).set i x).getD i 0 = x := fun x => by rw [List.getD_eq_getElem?_getD, List.getElem?_set_self (by omega)]; rfl
        repeat' (first | (with_reducible first | refine pa ?_ | refine pb ?_ | refine pc ?_ | refine nxt_n ?_ | refine nxt_e ?_ | refine nxt_r ?_ | refine blk_n ?_ | refine blk_r ?_ | refine blk_hit ?_ | refine blk_miss (by rfl) ?_ | refine pd ?_ | refine pe ?_ | refine pf ?_ | refine pg ?_ | apply And.intro) | (refine hK _ ?_; first | clear hK K hn0 hcl hΘ Θ | clear hK K hΘ Θ) | (with_reducible first | refine cw1 ?_ | refine cw2 ?_ | exact cw3 | exact cw4) | ((with_reducible first | refine cw5 (fun gg => ?_) | refine cw6 (fun gg => ?_) | refine cw7 (fun gg => ?_)); try simp only [gg]) | refine cs1 hG rfl ?_ ?_ | refine cs2 hG rfl ?_ ?_ | ((first | refine rga hG (by kernel_rfl) (fun Θ K hΘ hK => ?_) | refine rgb hG (by kernel_rfl) (fun Θ K hΘ hK => ?_) | refine rgc defCl hG (by kernel_rfl) cl0 (by rfl) (by kernel_rfl) (fun Θ K hΘ hcl hn0 hK => ?_) | refine rgd defCl hG (by kernel_rfl) cl0 (by rfl) (by kernel_rfl) (fun Θ K hΘ hcl hn0 hK => ?_)); simp (maxSteps := 2000000) only [go_sem, seval, reduceCtorEq, List.append_eq, f2, g1, v1, v2, v3, v4, v5, v6, v7, v8, hw]) | ((first | refine Post.splitN (fun gg => ?_) (fun gg => ?_) | refine PostB.splitN (fun gg => ?_) (fun gg => ?_) | refine Post.split (fun gg => ?_) (fun gg => ?_) | refine PostB.split (fun gg => ?_) (fun gg => ?_)) <;> simp (maxSteps := 2000000) only [go_sem, seval, reduceCtorEq, List.append_eq, gg, f2, g1, v1, v2, v3, v4, v5, v6, v7, v8, hw]) | (refine finR (by simp only [go_sem, seval, reduceCtorEq, List.append_eq, f2, g1, v1, v2, v3, v4, v5, v6, v7, v8, hw]; exact rfl) ?_; simp only [go_sem, seval, reduceCtorEq, List.append_eq, f2, g1, v1, v2, v3, v4, v5, v6, v7, v8, hw]) | refine updL hM ?_ (by omega) | (with_reducible exact fun _ _ => rfl))
        all_goals (first | omega | (simp only [decide_eq_true_eq, decide_eq_false_iff_not] at *; omega) | (simp only [List.length_append, List.length_cons, List.length_nil] <;> omega) | exact one_bv _ | exact one_sv _ | skip)
        refine ⟨q + 1, by omega, by omega, sbs (by simp (maxSteps := 2000000) only [go_sem, seval, reduceCtorEq, List.append_eq]) (by rw [List.set_set]; rfl) rfl⟩
      · have f2 : ((q : Int) < 4) = False := eq_false (by omega)
        have e4 : q = 4 := by omega
        subst e4
        repeat' (first | (with_reducible first | refine pa ?_ | refine pb ?_ | refine pc ?_ | refine nxt_n ?_ | refine nxt_e ?_ | refine nxt_r ?_ | refine blk_n ?_ | refine blk_r ?_ | refine blk_hit ?_ | refine blk_miss (by rfl) ?_ | refine pd ?_ | refine pe ?_ | refine pf ?_ | refine pg ?_ | apply And.intro) | (refine hK _ ?_; first | clear hK K hn0 hcl hΘ Θ | clear hK K hΘ Θ) | (with_reducible first | refine cw1 ?_ | refine cw2 ?_ | exact cw3 | exact cw4) | ((with_reducible first | refine cw5 (fun gg => ?_) | refine cw6 (fun gg => ?_) | refine cw7 (fun gg => ?_)); try simp only [gg]) | refine cs1 hG rfl ?_ ?_ | refine cs2 hG rfl ?_ ?_ | ((first | refine rga hG (by kernel_rfl) (fun Θ K hΘ hK => ?_) | refine rgb hG (by kernel_rfl) (fun Θ K hΘ hK => ?_) | refine rgc defCl hG (by kernel_rfl) cl0 (by rfl) (by kernel_rfl) (fun Θ K hΘ hcl hn0 hK => ?_) | refine rgd defCl hG (by kernel_rfl) cl0 (by rfl) (by kernel_rfl) (fun Θ K hΘ hcl hn0 hK => ?_)); simp (maxSteps := 2000000) only [go_sem, seval, reduceCtorEq, List.append_eq, f2, v1]) | ((first | refine Post.splitN (fun gg => ?_) (fun gg => ?_) | refine PostB.splitN (fun gg => ?_) (fun gg => ?_) | refine Post.split (fun gg => ?_) (fun gg => ?_) | refine PostB.split (fun gg => ?_) (fun gg => ?_)) <;> simp (maxSteps := 2000000) only [go_sem, seval, reduceCtorEq, List.append_eq, gg, f2, v1]) | (refine finR (by simp only [go_sem, seval, reduceCtorEq, List.append_eq, f2, v1]; exact rfl) ?_; simp only [go_sem, seval, reduceCtorEq, List.append_eq, f2, v1]) | refine updL hM ?_ (by omega) | (with_reducible exact fun _ _ => rfl))
        all_goals (first | omega | (simp only [decide_eq_true_eq, decide_eq_false_iff_not] at *; omega) | (simp only [List.length_append, List.length_cons, List.length_nil] <;> omega) | exact one_bv _ | exact one_sv _ | skip)
        refine ⟨i + 1, by omega, by omega, sbs (by simp (maxSteps := 2000000) only [go_sem, seval, reduceCtorEq, List.append_eq]) (by rw [wQ_4, wArr_lo h16]) rfl⟩
    have f1 : ((i : Int) < 16) = False := eq_false (by omega)
    have e16 : i = 16 := by omega
    subst e16
    repeat' (first | (with_reducible first | refine pa ?_ | refine pb ?_ | refine pc ?_ | refine nxt_n ?_ | refine nxt_e ?_ | refine nxt_r ?_ | refine blk_n ?_ | refine blk_r ?_ | refine blk_hit ?_ | refine blk_miss (by rfl) ?_ | refine pd ?_ | refine pe ?_ | refine pf ?_ | refine pg ?_ | apply And.intro) | (refine hK _ ?_; first | clear hK K hn0 hcl hΘ Θ | clear hK K hΘ Θ) | (with_reducible first | refine cw1 ?_ | refine cw2 ?_ | exact cw3 | exact cw4) | ((with_reducible first | refine cw5 (fun gg => ?_) | refine cw6 (fun gg => ?_) | refine cw7 (fun gg => ?_)); try simp only [gg]) | refine cs1 hG rfl ?_ ?_ | refine cs2 hG rfl ?_ ?_ | ((first | refine rga hG (by kernel_rfl) (fun Θ K hΘ hK => ?_) | refine rgb hG (by kernel_rfl) (fun Θ K hΘ hK => ?_) | refine rgc defCl hG (by kernel_rfl) cl0 (by rfl) (by kernel_rfl) (fun Θ K hΘ hcl hn0 hK => ?_) | refine rgd defCl hG (by kernel_rfl) cl0 (by rfl) (by kernel_rfl) (fun Θ K hΘ hcl hn0 hK => ?_)); simp (maxSteps := 2000000) only [go_sem, seval, reduceCtorEq, List.append_eq, f1]) | ((first | refine Post.splitN (fun gg => ?_) (fun gg => ?_) | refine PostB.splitN (fun gg => ?_) (fun gg => ?_) | refine Post.split (fun gg => ?_) (fun gg => ?_) | refine PostB.split (fun gg => ?_) (fun gg => ?_)) <;> simp (maxSteps := 2000000) only [go_sem, seval, reduceCtorEq, List.append_eq, gg, f1]) | (refine finR (by simp only [go_sem, seval, reduceCtorEq, List.append_eq, f1]; exact rfl) ?_; simp only [go_sem, seval, reduceCtorEq, List.append_eq, f1]) | refine updL hM ?_ (by omega) | (with_reducible exact fun _ _ => rfl))
    all_goals (first | omega | (simp only [decide_eq_true_eq, decide_eq_false_iff_not] at *; omega) | (simp only [List.length_append, List.length_cons, List.length_nil] <;> omega) | exact one_bv _ | exact one_sv _ | skip)
    refine WC.loopA (fun i : Nat => ⟨[(12, .flat (.int .i64 i)), (9, .bs k 0 64 64), (8, .flat (.int .i64 at')), (5, .sl false 1 L.length (bv L)), (4, .bs (mn + 1 + 1) 0 64 64), (3, .bs (mn + 1) 0 8 8), (2, .bp mn 0)], upd (mB M mn h) k (some (uv (wArr p i))), k + 1⟩) (fun i => 64 - i) (fun i => 16 ≤ i ∧ i ≤ 64) 16 (by omega) (sbs (by simp (maxSteps := 2000000) only [go_sem, seval, reduceCtorEq, List.append_eq]) rfl rfl) ?_
    rintro j ⟨hj1, hj2⟩
    have hw := wArr_len p j
    by_cases h64 : j < 64
    · have f1 : ((j : Int) < 64) = True := eq_true (by omega)
      have g64 : (j < 64) = True := eq_true h64
      have v1 : IntKind.i64.wrap (j + 1) = ((j + 1 : Nat) : Int) := by rw [wi (by omega) (by omega)]; omega
      have a0 : IntKind.i64.wrap (j - 15) = ((j - 15 : Nat) : Int) := by rw [wi (by omega) (by omega)]; omega
      have a1 : IntKind.i64.wrap (j - 2) = ((j - 2 : Nat) : Int) := by rw [wi (by omega) (by omega)]; omega
      have a2 : IntKind.i64.wrap (j - 16) = ((j - 16 : Nat) : Int) := by rw [wi (by omega) (by omega)]; omega
      have a3 : IntKind.i64.wrap (j - 7) = ((j - 7 : Nat) : Int) := by rw [wi (by omega) (by omega)]; omega
      have b0 : (j - 15 < 64) = True := eq_true (by omega)
      have b1 : (j - 2 < 64) = True := eq_true (by omega)
      have b2 : (j - 16 < 64) = True := eq_true (by omega)
      have b3 : (j - 7 < 64) = True := eq_true (by omega)
      repeat' (first | (with_reducible first | refine pa ?_ | refine pb ?_ | refine pc ?_ | refine nxt_n ?_ | refine nxt_e ?_ | refine nxt_r ?_ | refine blk_n ?_ | refine blk_r ?_ | refine blk_hit ?_ | refine blk_miss (by rfl) ?_ | refine pd ?_ | refine pe ?_ | refine pf ?_ | refine pg ?_ | apply And.intro) | (refine hK _ ?_; first | clear hK K hn0 hcl hΘ Θ | clear hK K hΘ Θ) | (with_reducible first | refine cw1 ?_ | refine cw2 ?_ | exact cw3 | exact cw4) | ((with_reducible first | refine cw5 (fun gg => ?_) | refine cw6 (fun gg => ?_) | refine cw7 (fun gg => ?_)); try simp only [gg]) | refine cs1 hG rfl ?_ ?_ | refine cs2 hG rfl ?_ ?_ | ((first | refine kf (fun M n => turn_sp _ _ (by decide) M n) rfl (by decide) cl0 hΘ hcl hn0 ?_ | refine rga hG (by kernel_rfl) (fun Θ K hΘ hK => ?_) | refine rgb hG (by kernel_rfl) (fun Θ K hΘ hK => ?_) | refine rgc defCl hG (by kernel_rfl) cl0 (by rfl) (by kernel_rfl) (fun Θ K hΘ hcl hn0 hK => ?_) | refine rgd defCl hG (by kernel_rfl) cl0 (by rfl) (by kernel_rfl) (fun Θ K hΘ hcl hn0 hK => ?_)); simp (maxSteps := 2000000) only [go_sem, seval, reduceCtorEq, List.append_eq, f1, g64, v1, a0, a1, a2, a3, b0, b1, b2, b3, hw]) | ((first | refine Post.splitN (fun gg => ?_) (fun gg => ?_) | refine PostB.splitN (fun gg => ?_) (fun gg => ?_) | refine Post.split (fun gg => ?_) (fun gg => ?_) | refine PostB.split (fun gg => ?_) (fun gg => ?_)) <;> simp (maxSteps := 2000000) only [go_sem, seval, reduceCtorEq, List.append_eq, gg, f1, g64, v1, a0, a1, a2, a3, b0, b1, b2, b3, hw]) | (refine finR (by simp only [go_sem, seval, reduceCtorEq, List.append_eq, f1, g64, v1, a0, a1, a2, a3, b0, b1, b2, b3, hw]; exact rfl) ?_; simp only [go_sem, seval, reduceCtorEq, List.append_eq, f1, g64, v1, a0, a1, a2, a3, b0, b1, b2, b3, hw]) | refine updL hM ?_ (by omega) | (with_reducible exact fun _ _ => rfl))
      all_goals (first | omega | (simp only [decide_eq_true_eq, decide_eq_false_iff_not] at *; omega) | (simp only [List.length_append, List.length_cons, List.length_nil] <;> omega) | exact one_bv _ | exact one_sv _ | skip)
      refine ⟨j + 1, ⟨by omega, by omega⟩, by omega, sbs (by simp (maxSteps := 2000000) only [go_sem, seval, reduceCtorEq, List.append_eq]) (by rw [wArr_hi (by omega)]; rfl) rfl⟩
    have f1 : ((j : Int) < 64) = False := eq_false (by omega)
    have e64 : j = 64 := by omega
    subst e64
    generalize hW : wArr p 64 = W at hw ⊢
    repeat' (first | (with_reducible first | refine pa ?_ | refine pb ?_ | refine pc ?_ | refine nxt_n ?_ | refine nxt_e ?_ | refine nxt_r ?_ | refine blk_n ?_ | refine blk_r ?_ | refine blk_hit ?_ | refine blk_miss (by rfl) ?_ | refine pd ?_ | refine pe ?_ | refine pf ?_ | refine pg ?_ | apply And.intro) | (refine hK _ ?_; first | clear hK K hn0 hcl hΘ Θ | clear hK K hΘ Θ) | (with_reducible first | refine cw1 ?_ | refine cw2 ?_ | exact cw3 | exact cw4) | ((with_reducible first | refine cw5 (fun gg => ?_) | refine cw6 (fun gg => ?_) | refine cw7 (fun gg => ?_)); try simp only [gg]) | refine cs1 hG rfl ?_ ?_ | refine cs2 hG rfl ?_ ?_ | ((first | refine rga hG (by kernel_rfl) (fun Θ K hΘ hK => ?_) | refine rgb hG (by kernel_rfl) (fun Θ K hΘ hK => ?_) | refine rgc defCl hG (by kernel_rfl) cl0 (by rfl) (by kernel_rfl) (fun Θ K hΘ hcl hn0 hK => ?_) | refine rgd defCl hG (by kernel_rfl) cl0 (by rfl) (by kernel_rfl) (fun Θ K hΘ hcl hn0 hK => ?_)); simp (maxSteps := 2000000) only [go_sem, seval, reduceCtorEq, List.append_eq, f1, m1, hh]) | ((first | refine Post.splitN (fun gg => ?_) (fun gg => ?_) | refine PostB.splitN (fun gg => ?_) (fun gg => ?_) | refine Post.split (fun gg => ?_) (fun gg => ?_) | refine PostB.split (fun gg => ?_) (fun gg => ?_)) <;> simp (maxSteps := 2000000) only [go_sem, seval, reduceCtorEq, List.append_eq, gg, f1, m1, hh]) | (refine finR (by simp only [go_sem, seval, reduceCtorEq, List.append_eq, f1, m1, hh]; exact rfl) ?_; simp only [go_sem, seval, reduceCtorEq, List.append_eq, f1, m1, hh]) | refine updL hM ?_ (by omega) | (with_reducible exact fun _ _ => rfl))
    all_goals (first | omega | (simp only [decide_eq_true_eq, decide_eq_false_iff_not] at *; omega) | (simp only [List.length_append, List.length_cons, List.length_nil] <;> omega) | exact one_bv _ | exact one_sv _ | skip)
    refine WC.loopA (fun i : Nat => ⟨[(16, .flat (.int .i64 i)), (15, .sl false 1 8 (uv (rounds h W i))), (9, .bs k 0 64 64), (8, .flat (.int .i64 at')), (5, .sl false 1 L.length (bv L)), (4, .bs (mn + 1 + 1) 0 64 64), (3, .bs (mn + 1) 0 8 8), (2, .bp mn 0)], upd (mB M mn h) k (some (uv W)), k + 1⟩) (fun i => 64 - i) (fun i => i ≤ 64) 0 (by omega) (sbs (by simp (maxSteps := 2000000) only [go_sem, seval, reduceCtorEq, List.append_eq, Int.natCast_zero, rounds]) rfl rfl) ?_
    intro j hj2
    have hv := rounds_len h W hh j
    generalize hV : rounds h W j = v at hv ⊢
    by_cases h64 : j < 64
    · have f1 : ((j : Int) < 64) = True := eq_true (by omega)
      have g64 : (j < 64) = True := eq_true h64
      have v1 : IntKind.i64.wrap (j + 1) = ((j + 1 : Nat) : Int) := by rw [wi (by omega) (by omega)]; omega
      have hR : uv (rounds h W (j + 1)) = uv (rnd v (roundN.getD j 0) (W.getD j 0)) := by rw [rounds, hV]
      repeat' (first | (with_reducible first | refine pa ?_ | refine pb ?_ | refine pc ?_ | refine nxt_n ?_ | refine nxt_e ?_ | refine nxt_r ?_ | refine blk_n ?_ | refine blk_r ?_ | refine blk_hit ?_ | refine blk_miss (by rfl) ?_ | refine pd ?_ | refine pe ?_ | refine pf ?_ | refine pg ?_ | apply And.intro) | (refine hK _ ?_; first | clear hK K hn0 hcl hΘ Θ | clear hK K hΘ Θ) | (with_reducible first | refine cw1 ?_ | refine cw2 ?_ | exact cw3 | exact cw4) | ((with_reducible first | refine cw5 (fun gg => ?_) | refine cw6 (fun gg => ?_) | refine cw7 (fun gg => ?_)); try simp only [gg]) | refine cs1 hG rfl ?_ ?_ | refine cs2 hG rfl ?_ ?_ | ((first | refine kf (fun M n => turn_sp _ _ (by decide) M n) rfl (by decide) cl0 hΘ hcl hn0 ?_ | refine rga hG (by kernel_rfl) (fun Θ K hΘ hK => ?_) | refine rgb hG (by kernel_rfl) (fun Θ K hΘ hK => ?_) | refine rgc defCl hG (by kernel_rfl) cl0 (by rfl) (by kernel_rfl) (fun Θ K hΘ hcl hn0 hK => ?_) | refine rgd defCl hG (by kernel_rfl) cl0 (by rfl) (by kernel_rfl) (fun Θ K hΘ hcl hn0 hK => ?_)); simp (maxSteps := 2000000) only [go_sem, seval, reduceCtorEq, List.append_eq, f1, g64, v1, hw, hv, m2]) | ((first | refine Post.splitN (fun gg => ?_) (fun gg => ?_) | refine PostB.splitN (fun gg => ?_) (fun gg => ?_) | refine Post.split (fun gg => ?_) (fun gg => ?_) | refine PostB.split (fun gg => ?_) (fun gg => ?_)) <;> simp (maxSteps := 2000000) only [go_sem, seval, reduceCtorEq, List.append_eq, gg, f1, g64, v1, hw, hv, m2]) | (refine finR (by simp only [go_sem, seval, reduceCtorEq, List.append_eq, f1, g64, v1, hw, hv, m2]; exact rfl) ?_; simp only [go_sem, seval, reduceCtorEq, List.append_eq, f1, g64, v1, hw, hv, m2]) | refine updL hM ?_ (by omega) | (with_reducible exact fun _ _ => rfl))
      all_goals (first | omega | (simp only [decide_eq_true_eq, decide_eq_false_iff_not] at *; omega) | (simp only [List.length_append, List.length_cons, List.length_nil] <;> omega) | exact one_bv _ | exact one_sv _ | skip)
      refine ⟨j + 1, by omega, by omega, sbs (by simp (maxSteps := 2000000) only [go_sem, seval, reduceCtorEq, List.append_eq, hR]; exact SubV.of_eq rfl) rfl rfl⟩
    have f1 : ((j : Int) < 64) = False := eq_false (by omega)
    have e64 : j = 64 := by omega
    subst e64
    repeat' (first | (with_reducible first | refine pa ?_ | refine pb ?_ | refine pc ?_ | refine nxt_n ?_ | refine nxt_e ?_ | refine nxt_r ?_ | refine blk_n ?_ | refine blk_r ?_ | refine blk_hit ?_ | refine blk_miss (by rfl) ?_ | refine pd ?_ | refine pe ?_ | refine pf ?_ | refine pg ?_ | apply And.intro) | (refine hK _ ?_; first | clear hK K hn0 hcl hΘ Θ | clear hK K hΘ Θ) | (with_reducible first | refine cw1 ?_ | refine cw2 ?_ | exact cw3 | exact cw4) | ((with_reducible first | refine cw5 (fun gg => ?_) | refine cw6 (fun gg => ?_) | refine cw7 (fun gg => ?_)); try simp only [gg]) | refine cs1 hG rfl ?_ ?_ | refine cs2 hG rfl ?_ ?_ | ((first | refine rga hG (by kernel_rfl) (fun Θ K hΘ hK => ?_) | refine rgb hG (by kernel_rfl) (fun Θ K hΘ hK => ?_) | refine rgc defCl hG (by kernel_rfl) cl0 (by rfl) (by kernel_rfl) (fun Θ K hΘ hcl hn0 hK => ?_) | refine rgd defCl hG (by kernel_rfl) cl0 (by rfl) (by kernel_rfl) (fun Θ K hΘ hcl hn0 hK => ?_)); simp (maxSteps := 2000000) only [go_sem, seval, reduceCtorEq, List.append_eq, f1]) | ((first | refine Post.splitN (fun gg => ?_) (fun gg => ?_) | refine PostB.splitN (fun gg => ?_) (fun gg => ?_) | refine Post.split (fun gg => ?_) (fun gg => ?_) | refine PostB.split (fun gg => ?_) (fun gg => ?_)) <;> simp (maxSteps := 2000000) only [go_sem, seval, reduceCtorEq, List.append_eq, gg, f1]) | (refine finR (by simp only [go_sem, seval, reduceCtorEq, List.append_eq, f1]; exact rfl) ?_; simp only [go_sem, seval, reduceCtorEq, List.append_eq, f1]) | refine updL hM ?_ (by omega) | (with_reducible exact fun _ _ => rfl))
    all_goals (first | omega | (simp only [decide_eq_true_eq, decide_eq_false_iff_not] at *; omega) | (simp only [List.length_append, List.length_cons, List.length_nil] <;> omega) | exact one_bv _ | exact one_sv _ | skip)
    have m4 : ∀ g y x, upd (upd (mB M mn g) k x) (mn + 1) (some (uv y)) = upd (mB M mn y) k x := fun g y x => by rw [upd_swap (by omega), mB_s]
    have m5 : ∀ g x, upd (mB M mn g) k x (mn + 1) = some (uv g) := fun g x => by rw [upd_ne _ _ (by omega), mB_h]
    refine WC.loopA (fun i : Nat => ⟨[(252, .flat (.int .i64 i)), (251, .flat (.int .i64 8)), (15, .sl false 1 8 (uv v)), (8, .flat (.int .i64 at')), (5, .sl false 1 L.length (bv L)), (4, .bs (mn + 1 + 1) 0 64 64), (3, .bs (mn + 1) 0 8 8), (2, .bp mn 0)], upd (mB M mn (addTo h v i)) k (some (uv W)), k + 1⟩) (fun i => 8 - i) (fun i => i ≤ 8) 0 (by omega) (sbs (by simp (maxSteps := 2000000) only [go_sem, seval, reduceCtorEq, List.append_eq, Int.natCast_zero]) rfl rfl) ?_
    intro j hj2
    have hg := addTo_len h v j
    rw [hh] at hg
    generalize hA : addTo h v j = g at hg ⊢
    by_cases h64 : j < 8
    · have f1 : ((j : Int) < 8) = True := eq_true (by omega)
      have g64 : (j < 8) = True := eq_true h64
      have v1 : IntKind.i64.wrap (j + 1) = ((j + 1 : Nat) : Int) := by rw [wi (by omega) (by omega)]; omega
      repeat' (first | (with_reducible first | refine pa ?_ | refine pb ?_ | refine pc ?_ | refine nxt_n ?_ | refine nxt_e ?_ | refine nxt_r ?_ | refine blk_n ?_ | refine blk_r ?_ | refine blk_hit ?_ | refine blk_miss (by rfl) ?_ | refine pd ?_ | refine pe ?_ | refine pf ?_ | refine pg ?_ | apply And.intro) | (refine hK _ ?_; first | clear hK K hn0 hcl hΘ Θ | clear hK K hΘ Θ) | (with_reducible first | refine cw1 ?_ | refine cw2 ?_ | exact cw3 | exact cw4) | ((with_reducible first | refine cw5 (fun gg => ?_) | refine cw6 (fun gg => ?_) | refine cw7 (fun gg => ?_)); try simp only [gg]) | refine cs1 hG rfl ?_ ?_ | refine cs2 hG rfl ?_ ?_ | ((first | refine rga hG (by kernel_rfl) (fun Θ K hΘ hK => ?_) | refine rgb hG (by kernel_rfl) (fun Θ K hΘ hK => ?_) | refine rgc defCl hG (by kernel_rfl) cl0 (by rfl) (by kernel_rfl) (fun Θ K hΘ hcl hn0 hK => ?_) | refine rgd defCl hG (by kernel_rfl) cl0 (by rfl) (by kernel_rfl) (fun Θ K hΘ hcl hn0 hK => ?_)); simp (maxSteps := 2000000) only [go_sem, seval, reduceCtorEq, List.append_eq, f1, g64, v1, hv, hg, m4, m5]) | ((first | refine Post.splitN (fun gg => ?_) (fun gg => ?_) | refine PostB.splitN (fun gg => ?_) (fun gg => ?_) | refine Post.split (fun gg => ?_) (fun gg => ?_) | refine PostB.split (fun gg => ?_) (fun gg => ?_)) <;> simp (maxSteps := 2000000) only [go_sem, seval, reduceCtorEq, List.append_eq, gg, f1, g64, v1, hv, hg, m4, m5]) | (refine finR (by simp only [go_sem, seval, reduceCtorEq, List.append_eq, f1, g64, v1, hv, hg, m4, m5]; exact rfl) ?_; simp only [go_sem, seval, reduceCtorEq, List.append_eq, f1, g64, v1, hv, hg, m4, m5]) | refine updL hM ?_ (by omega) | (with_reducible exact fun _ _ => rfl))
      all_goals (first | omega | (simp only [decide_eq_true_eq, decide_eq_false_iff_not] at *; omega) | (simp only [List.length_append, List.length_cons, List.length_nil] <;> omega) | exact one_bv _ | exact one_sv _ | skip)
      refine ⟨j + 1, by omega, by omega, sbs (by simp (maxSteps := 2000000) only [go_sem, seval, reduceCtorEq, List.append_eq]) (by rw [addTo, hA]) rfl⟩
    have f1 : ((j : Int) < 8) = False := eq_false (by omega)
    have e64 : j = 8 := by omega
    subst e64
    have v1 : IntKind.i64.wrap ((at' : Int) + 64) = ((64 * (i + 1) : Nat) : Int) := by rw [wi (by omega) (by omega)]; omega
    repeat' (first | (with_reducible first | refine pa ?_ | refine pb ?_ | refine pc ?_ | refine nxt_n ?_ | refine nxt_e ?_ | refine nxt_r ?_ | refine blk_n ?_ | refine blk_r ?_ | refine blk_hit ?_ | refine blk_miss (by rfl) ?_ | refine pd ?_ | refine pe ?_ | refine pf ?_ | refine pg ?_ | apply And.intro) | (refine hK _ ?_; first | clear hK K hn0 hcl hΘ Θ | clear hK K hΘ Θ) | (with_reducible first | refine cw1 ?_ | refine cw2 ?_ | exact cw3 | exact cw4) | ((with_reducible first | refine cw5 (fun gg => ?_) | refine cw6 (fun gg => ?_) | refine cw7 (fun gg => ?_)); try simp only [gg]) | refine cs1 hG rfl ?_ ?_ | refine cs2 hG rfl ?_ ?_ | ((first | refine rga hG (by kernel_rfl) (fun Θ K hΘ hK => ?_) | refine rgb hG (by kernel_rfl) (fun Θ K hΘ hK => ?_) | refine rgc defCl hG (by kernel_rfl) cl0 (by rfl) (by kernel_rfl) (fun Θ K hΘ hcl hn0 hK => ?_) | refine rgd defCl hG (by kernel_rfl) cl0 (by rfl) (by kernel_rfl) (fun Θ K hΘ hcl hn0 hK => ?_)); simp (maxSteps := 2000000) only [go_sem, seval, reduceCtorEq, List.append_eq, f1, v1]) | ((first | refine Post.splitN (fun gg => ?_) (fun gg => ?_) | refine PostB.splitN (fun gg => ?_) (fun gg => ?_) | refine Post.split (fun gg => ?_) (fun gg => ?_) | refine PostB.split (fun gg => ?_) (fun gg => ?_)) <;> simp (maxSteps := 2000000) only [go_sem, seval, reduceCtorEq, List.append_eq, gg, f1, v1]) | (refine finR (by simp only [go_sem, seval, reduceCtorEq, List.append_eq, f1, v1]; exact rfl) ?_; simp only [go_sem, seval, reduceCtorEq, List.append_eq, f1, v1]) | refine updL hM ?_ (by omega) | (with_reducible exact fun _ _ => rfl))
    all_goals (first | omega | (simp only [decide_eq_true_eq, decide_eq_false_iff_not] at *; omega) | (simp only [List.length_append, List.length_cons, List.length_nil] <;> omega) | exact one_bv _ | exact one_sv _ | skip)
    refine ⟨(g, i + 1, k + 1), ⟨hg, ?_, ?_, by simp only; omega⟩, by simp only; omega, Sub.of (by simp (maxSteps := 2000000) only [go_sem, seval, reduceCtorEq, List.append_eq]) (MemSub.upd (.refl _) (by simp only [mB]; rw [upd_ne _ _ (by omega), upd_ne _ _ (by omega), upd_ne _ _ (by omega)]; exact hM _ (by omega))) rfl⟩
    · rw [foldB_snoc, ← hf, hat, hP, compress, hW, hV, hA]
    · simp only
      have : L.length - at' ≥ 64 := by omega
      omega
  · have f0 : ((at' : Int) < (L.length : Int)) = False := eq_false (by omega)
    repeat' (first | (with_reducible first | refine pa ?_ | refine pb ?_ | refine pc ?_ | refine nxt_n ?_ | refine nxt_e ?_ | refine nxt_r ?_ | refine blk_n ?_ | refine blk_r ?_ | refine blk_hit ?_ | refine blk_miss (by rfl) ?_ | refine pd ?_ | refine pe ?_ | refine pf ?_ | refine pg ?_ | apply And.intro) | (refine hK _ ?_; first | clear hK K hn0 hcl hΘ Θ | clear hK K hΘ Θ) | (with_reducible first | refine cw1 ?_ | refine cw2 ?_ | exact cw3 | exact cw4) | ((with_reducible first | refine cw5 (fun gg => ?_) | refine cw6 (fun gg => ?_) | refine cw7 (fun gg => ?_)); try simp only [gg]) | refine cs1 hG rfl ?_ ?_ | refine cs2 hG rfl ?_ ?_ | ((first | refine rga hG (by kernel_rfl) (fun Θ K hΘ hK => ?_) | refine rgb hG (by kernel_rfl) (fun Θ K hΘ hK => ?_) | refine rgc defCl hG (by kernel_rfl) cl0 (by rfl) (by kernel_rfl) (fun Θ K hΘ hcl hn0 hK => ?_) | refine rgd defCl hG (by kernel_rfl) cl0 (by rfl) (by kernel_rfl) (fun Θ K hΘ hcl hn0 hK => ?_)); simp (maxSteps := 2000000) only [go_sem, seval, reduceCtorEq, List.append_eq, f0]) | ((first | refine Post.splitN (fun gg => ?_) (fun gg => ?_) | refine PostB.splitN (fun gg => ?_) (fun gg => ?_) | refine Post.split (fun gg => ?_) (fun gg => ?_) | refine PostB.split (fun gg => ?_) (fun gg => ?_)) <;> simp (maxSteps := 2000000) only [go_sem, seval, reduceCtorEq, List.append_eq, gg, f0]) | (refine finR (by simp only [go_sem, seval, reduceCtorEq, List.append_eq, f0]; exact rfl) ?_; simp only [go_sem, seval, reduceCtorEq, List.append_eq, f0]) | refine updL hM ?_ (by omega) | (with_reducible exact fun _ _ => rfl))
    all_goals (first | omega | (simp only [decide_eq_true_eq, decide_eq_false_iff_not] at *; omega) | (simp only [List.length_append, List.length_cons, List.length_nil] <;> omega) | exact one_bv _ | exact one_sv _ | skip)
    have hsw : h = shaW s := by rw [hf, shaW, hL, show i = L.length / 64 by omega]
    refine WC.loopA (fun i : Nat => ⟨[(268, .flat (.int .i64 i)), (20, .bp k 0), (3, .bs (mn + 1) 0 8 8), (2, .bp mn 0)], upd (mB M mn h) k (some (bv (dRef h i))), k + 1⟩) (fun i => 32 - i) (fun i => i ≤ 32) 0 (by omega) (sbs (by simp (maxSteps := 2000000) only [go_sem, seval, reduceCtorEq, List.append_eq, Int.natCast_zero, dRef]) rfl rfl) ?_
    intro j hj2
    have hd := dRef_len h j
    generalize hD : dRef h j = d at hd ⊢
    by_cases h32 : j < 32
    · have f1 : ((j : Int) < 32) = True := eq_true (by omega)
      have g1 : (j < 32) = True := eq_true h32
      have g2 : (j / 4 < 8) = True := eq_true (by omega)
      have v1 : IntKind.i64.wrap (j + 1) = ((j + 1 : Nat) : Int) := by rw [wi (by omega) (by omega)]; omega
      have v2 : quoI .i64 (j : Int) 4 = _ := quoN j 4 (by omega)
      have v3 : (j : Int).tmod 4 = _ := tmodN j 4
      have v4 : IntKind.i64.wrap (8 * ((j % 4 : Nat) : Int)) = ((8 * (j % 4) : Nat) : Int) := by rw [wi (by omega) (by omega)]; omega
      have v5 : IntKind.i64.wrap (24 - ((8 * (j % 4) : Nat) : Int)) = ((24 - 8 * (j % 4) : Nat) : Int) := by rw [wi (by omega) (by omega)]; omega
      have v6 : IntKind.u64.wrap ((24 - 8 * (j % 4) : Nat) : Int) = ((24 - 8 * (j % 4) : Nat) : Int) := wu (by omega) (by omega)
      have v7 : ∀ x : UInt32, shrI .u32 (x.toNat : Int) ((24 - 8 * (j % 4) : Nat) : Int) = _ := fun x => w_shrN x (24 - 8 * (j % 4)) (by omega)
      have m5 : ∀ g x, upd (mB M mn g) k x (mn + 1) = some (uv g) := fun g x => by rw [upd_ne _ _ (by omega), mB_h]
      repeat' (first | (with_reducible first | refine pa ?_ | refine pb ?_ | refine pc ?_ | refine nxt_n ?_ | refine nxt_e ?_ | refine nxt_r ?_ | refine blk_n ?_ | refine blk_r ?_ | refine blk_hit ?_ | refine blk_miss (by rfl) ?_ | refine pd ?_ | refine pe ?_ | refine pf ?_ | refine pg ?_ | apply And.intro) | (refine hK _ ?_; first | clear hK K hn0 hcl hΘ Θ | clear hK K hΘ Θ) | (with_reducible first | refine cw1 ?_ | refine cw2 ?_ | exact cw3 | exact cw4) | ((with_reducible first | refine cw5 (fun gg => ?_) | refine cw6 (fun gg => ?_) | refine cw7 (fun gg => ?_)); try simp only [gg]) | refine cs1 hG rfl ?_ ?_ | refine cs2 hG rfl ?_ ?_ | ((first | refine rga hG (by kernel_rfl) (fun Θ K hΘ hK => ?_) | refine rgb hG (by kernel_rfl) (fun Θ K hΘ hK => ?_) | refine rgc defCl hG (by kernel_rfl) cl0 (by rfl) (by kernel_rfl) (fun Θ K hΘ hcl hn0 hK => ?_) | refine rgd defCl hG (by kernel_rfl) cl0 (by rfl) (by kernel_rfl) (fun Θ K hΘ hcl hn0 hK => ?_)); simp (maxSteps := 2000000) only [go_sem, seval, reduceCtorEq, List.append_eq, f1, g1, g2, v1, v2, v3, v4, v5, v6, v7, hd, hh, m5]) | ((first | refine Post.splitN (fun gg => ?_) (fun gg => ?_) | refine PostB.splitN (fun gg => ?_) (fun gg => ?_) | refine Post.split (fun gg => ?_) (fun gg => ?_) | refine PostB.split (fun gg => ?_) (fun gg => ?_)) <;> simp (maxSteps := 2000000) only [go_sem, seval, reduceCtorEq, List.append_eq, gg, f1, g1, g2, v1, v2, v3, v4, v5, v6, v7, hd, hh, m5]) | (refine finR (by simp only [go_sem, seval, reduceCtorEq, List.append_eq, f1, g1, g2, v1, v2, v3, v4, v5, v6, v7, hd, hh, m5]; exact rfl) ?_; simp only [go_sem, seval, reduceCtorEq, List.append_eq, f1, g1, g2, v1, v2, v3, v4, v5, v6, v7, hd, hh, m5]) | refine updL hM ?_ (by omega) | (with_reducible exact fun _ _ => rfl))
      all_goals (first | omega | (simp only [decide_eq_true_eq, decide_eq_false_iff_not] at *; omega) | (simp only [List.length_append, List.length_cons, List.length_nil] <;> omega) | exact one_bv _ | exact one_sv _ | skip)
      refine ⟨j + 1, by omega, by omega, sbs (by simp (maxSteps := 2000000) only [go_sem, seval, reduceCtorEq, List.append_eq]) (by rw [dRef, hD]) rfl⟩
    have f1 : ((j : Int) < 32) = False := eq_false (by omega)
    have e32 : j = 32 := by omega
    subst e32
    have hq : d = (sha s).1 := by rw [← hD, dRef_32 h hh, hsw]; rfl
    subst hq
    have m6 : ∀ x, upd (mB M mn h) k x mn = some (bv z32.1) := fun x => by rw [upd_ne _ _ (by omega), mB, upd_ne _ _ (by omega), upd_ne _ _ (by omega), upd_same]
    repeat' (first | (with_reducible first | refine pa ?_ | refine pb ?_ | refine pc ?_ | refine nxt_n ?_ | refine nxt_e ?_ | refine nxt_r ?_ | refine blk_n ?_ | refine blk_r ?_ | refine blk_hit ?_ | refine blk_miss (by rfl) ?_ | refine pd ?_ | refine pe ?_ | refine pf ?_ | refine pg ?_ | apply And.intro) | (refine hK _ ?_; first | clear hK K hn0 hcl hΘ Θ | clear hK K hΘ Θ) | (with_reducible first | refine cw1 ?_ | refine cw2 ?_ | exact cw3 | exact cw4) | ((with_reducible first | refine cw5 (fun gg => ?_) | refine cw6 (fun gg => ?_) | refine cw7 (fun gg => ?_)); try simp only [gg]) | refine cs1 hG rfl ?_ ?_ | refine cs2 hG rfl ?_ ?_ | ((first | refine rga hG (by kernel_rfl) (fun Θ K hΘ hK => ?_) | refine rgb hG (by kernel_rfl) (fun Θ K hΘ hK => ?_) | refine rgc defCl hG (by kernel_rfl) cl0 (by rfl) (by kernel_rfl) (fun Θ K hΘ hcl hn0 hK => ?_) | refine rgd defCl hG (by kernel_rfl) cl0 (by rfl) (by kernel_rfl) (fun Θ K hΘ hcl hn0 hK => ?_)); simp (maxSteps := 2000000) only [go_sem, seval, reduceCtorEq, List.append_eq, f1, m6]) | ((first | refine Post.splitN (fun gg => ?_) (fun gg => ?_) | refine PostB.splitN (fun gg => ?_) (fun gg => ?_) | refine Post.split (fun gg => ?_) (fun gg => ?_) | refine PostB.split (fun gg => ?_) (fun gg => ?_)) <;> simp (maxSteps := 2000000) only [go_sem, seval, reduceCtorEq, List.append_eq, gg, f1, m6]) | (refine finR (by simp only [go_sem, seval, reduceCtorEq, List.append_eq, f1, m6]; exact rfl) ?_; simp only [go_sem, seval, reduceCtorEq, List.append_eq, f1, m6]) | refine updL hM ?_ (by omega) | (with_reducible exact fun _ _ => rfl))
    all_goals (first | omega | (simp only [decide_eq_true_eq, decide_eq_false_iff_not] at *; omega) | (simp only [List.length_append, List.length_cons, List.length_nil] <;> omega) | exact one_bv _ | exact one_sv _ | skip)
end Go.VL

set_option linter.unusedVariables false
set_option linter.unusedSimpArgs false
set_option maxRecDepth 100000
set_option maxHeartbeats 8000000
open Go.RowKit
namespace Go.VL
open Go.Proofs
end Go.VL

set_option linter.unusedVariables false
set_option linter.unusedSimpArgs false
set_option maxRecDepth 100000
set_option maxHeartbeats 8000000
open Go.RowKit
namespace Go.VL
open Go.Proofs
end Go.VL

set_option linter.unusedVariables false
set_option linter.unusedSimpArgs false
set_option maxRecDepth 100000
set_option maxHeartbeats 8000000
open Go.RowKit
namespace Go.VL
open Go.Proofs
def fillC (l : List UInt8) (n i : Nat) : List UInt8 := l.take i ++ List.replicate (n - i) 0
end Go.VL

set_option linter.unusedVariables false
set_option linter.unusedSimpArgs false
set_option maxRecDepth 100000
set_option maxHeartbeats 8000000
open Go.RowKit
namespace Go.VL
open Go.Proofs
end Go.VL

set_option linter.unusedVariables false
set_option linter.unusedSimpArgs false
set_option maxRecDepth 100000
set_option maxHeartbeats 8000000
open Go.RowKit
namespace Go.VL
open Go.Proofs
end Go.VL

set_option linter.unusedVariables false
set_option linter.unusedSimpArgs false
set_option maxRecDepth 100000
set_option maxHeartbeats 8000000
open Go.RowKit
namespace Go.VL
open Go.Proofs
end Go.VL

set_option linter.unusedVariables false
set_option linter.unusedSimpArgs false
set_option maxRecDepth 100000
set_option maxHeartbeats 8000000
open Go.RowKit
namespace Go.VL
open Go.Proofs
theorem R16Word_sp (z q : Int) (hn : inR z) (hq : inR q) (h : Id32) : Rt 53 [.flat (.int .i64 z), .flat (.int .i64 q), .agg (bv h.1)] (.flat (.string (bs (wordB z q h)))) := by
  have n1 : z < 9223372036854775808 := by have := hn.2; omega
  have n2 : q < 9223372036854775808 := by have := hq.2; omega
  have ht := word_tot z q h hn hq
  have tb := take_bv32 h
  have hp := h.2
  have hL : Rt 91 [.sl false 1 4 (sv [[119, 111, 114, 100], numB z.toNat, numB q.toNat, h.1])] (.flat (.string (bs (wordB z q h)))) := RList_sp (wordP z q h) (by omega) (by omega)
  intro M mn
  refine fnL (C := kc 15 [] []) (rs := [.tmp 6]) envOk Tryd.func53 (by kernel_rfl) rfl rfl rfl rfl rfl rfl (Low.flat _) ?_
  intro E hG hM
  repeat' (first | (with_reducible first | refine pa ?_ | refine pb ?_ | refine pc ?_ | refine nxt_n ?_ | refine nxt_e ?_ | refine nxt_r ?_ | refine blk_n ?_ | refine blk_r ?_ | refine blk_hit ?_ | refine blk_miss (by rfl) ?_ | refine pd ?_ | refine pe ?_ | refine pf ?_ | refine pg ?_ | apply And.intro) | (refine hK _ ?_; first | clear hK K hn0 hcl hΘ Θ | clear hK K hΘ Θ) | (with_reducible first | refine cw1 ?_ | refine cw2 ?_ | exact cw3 | exact cw4) | ((with_reducible first | refine cw5 (fun gg => ?_) | refine cw6 (fun gg => ?_) | refine cw7 (fun gg => ?_)); try simp only [gg]) | refine cs1 hG rfl ?_ ?_ | refine cs2 hG rfl ?_ ?_ | ((first | refine kf (fun M n => R16num_sp z n1 M n) rfl (by decide) cl0 hΘ hcl hn0 ?_ | refine kf (fun M n => R16num_sp q n2 M n) rfl (by decide) cl0 hΘ hcl hn0 ?_ | refine kf (fun M n => hL M n) rfl (by decide) cl0 hΘ hcl hn0 ?_ | refine rga hG (by kernel_rfl) (fun Θ K hΘ hK => ?_) | refine rgb hG (by kernel_rfl) (fun Θ K hΘ hK => ?_) | refine rgc defCl hG (by kernel_rfl) cl0 (by rfl) (by kernel_rfl) (fun Θ K hΘ hcl hn0 hK => ?_) | refine rgd defCl hG (by kernel_rfl) cl0 (by rfl) (by kernel_rfl) (fun Θ K hΘ hcl hn0 hK => ?_)); simp (maxSteps := 2000000) only [go_sem, seval, reduceCtorEq, tb, hp]) | ((first | refine Post.splitN (fun gg => ?_) (fun gg => ?_) | refine PostB.splitN (fun gg => ?_) (fun gg => ?_) | refine Post.split (fun gg => ?_) (fun gg => ?_) | refine PostB.split (fun gg => ?_) (fun gg => ?_)) <;> simp (maxSteps := 2000000) only [go_sem, seval, reduceCtorEq, gg, tb, hp]) | (refine finR (by simp only [go_sem, seval, reduceCtorEq, tb, hp]; exact rfl) ?_; simp only [go_sem, seval, reduceCtorEq, tb, hp]) | refine updL hM ?_ (by omega) | (with_reducible exact fun _ _ => rfl))
  all_goals (first | omega | (simp only [decide_eq_true_eq, decide_eq_false_iff_not] at *; omega) | (simp only [List.length_append, List.length_cons, List.length_nil] <;> omega) | exact one_bv _ | exact one_sv _ | skip)
end Go.VL

set_option linter.unusedVariables false
set_option linter.unusedSimpArgs false
set_option maxRecDepth 100000
set_option maxHeartbeats 8000000
open Go.RowKit
namespace Go.VL
open Go.Proofs
def sz16 (l : List Ent) : Nat := (l.map Ent.sz).sum
def g16 (l : List Ent) : Bool := decide (4096 < sz16 l) || decide (12 < l.length)
theorem sz16_app (a b : List Ent) : sz16 (a ++ b) = sz16 a + sz16 b := by simp [sz16]
theorem sz16_take (l : List Ent) (i : Nat) (h : i < l.length) : sz16 (l.take (i + 1)) = sz16 (l.take i) + (l.getD i ent0).sz := by
  rw [List.take_add_one, List.getElem?_eq_getElem h, sz16_app]
  simp [sz16, List.getD_eq_getElem?_getD, List.getElem?_eq_getElem h]
theorem g16_iff (l : List Ent) : g16 l = false ↔ sz16 l ≤ 4096 ∧ l.length ≤ 12 := by
  simp only [g16, Bool.or_eq_false_iff, decide_eq_false_iff_not, Nat.not_lt]
theorem great16_sp (l : List Ent) (hok : ∀ e ∈ l, e.ok) (hl : l.length ≤ 140737488351232) : Rt 29 [.sl false 73 l.length (Ent.lC l)] (.flat (.bool (g16 l))) := by
  intro M mn
  refine fnL (C := kc 37 [] []) (rs := [.tmp 2]) envOk Tryd.func29 (by kernel_rfl) rfl rfl rfl rfl rfl rfl (Low.flat _) ?_
  intro E hG hM
  repeat' (first | (with_reducible first | refine pa ?_ | refine pb ?_ | refine pc ?_ | refine nxt_n ?_ | refine nxt_e ?_ | refine nxt_r ?_ | refine blk_n ?_ | refine blk_r ?_ | refine blk_hit ?_ | refine blk_miss (by rfl) ?_ | refine pd ?_ | refine pe ?_ | refine pf ?_ | refine pg ?_ | apply And.intro) | (refine hK _ ?_; clear hK K hΘ Θ) | (with_reducible first | refine cw1 ?_ | refine cw2 ?_ | exact cw3 | exact cw4) | ((with_reducible first | refine cw5 (fun gg => ?_) | refine cw6 (fun gg => ?_) | refine cw7 (fun gg => ?_)); try simp only [gg]) | refine cs1 hG rfl ?_ ?_ | refine cs2 hG rfl ?_ ?_ | ((first | refine rga hG (by kernel_rfl) (fun Θ K hΘ hK => ?_) | refine rgb hG (by kernel_rfl) (fun Θ K hΘ hK => ?_)); simp (maxSteps := 2000000) only [go_sem, seval, reduceCtorEq]) | ((first | refine Post.splitN (fun gg => ?_) (fun gg => ?_) | refine Post.split (fun gg => ?_) (fun gg => ?_)) <;> simp (maxSteps := 2000000) only [go_sem, seval, reduceCtorEq, gg]) | (refine finR (by simp only [go_sem, seval, reduceCtorEq]; exact rfl) ?_; simp only [go_sem, seval, reduceCtorEq]) | refine updL hM ?_ (by omega) | (with_reducible exact fun _ _ => rfl))
  all_goals (first | omega | (simp only [decide_eq_true_eq, decide_eq_false_iff_not] at *; omega) | (simp only [List.length_append, List.length_cons, List.length_nil] <;> omega) | exact one_bv _ | exact one_sv _ | skip)
  refine WC.loopA (fun s : Nat × Mem × Nat => ⟨[(8, .flat (.int .i64 s.1)), (7, .flat (.int .i64 l.length)), (6, .sl false 73 l.length (Ent.lC l)), (3, .flat (.int .i64 (sz16 (l.take s.1) : Nat))), (0, .sl false 73 l.length (Ent.lC l))], s.2.1, s.2.2⟩) (fun s => l.length - s.1) (fun s => s.1 ≤ l.length ∧ (∀ b, M b ≠ none → s.2.1 b = M b) ∧ mn ≤ s.2.2 ∧ sz16 (l.take s.1) ≤ 4096) (0, M, mn) ⟨by simp only; omega, fun _ _ => rfl, Nat.le_refl _, by simp [sz16]⟩ (sbs (by simp (maxSteps := 2000000) only [go_sem, seval, reduceCtorEq, List.append_eq, List.take_zero, sz16, List.map_nil, List.sum_nil]) rfl rfl) ?_
  rintro ⟨i, μ, n⟩ ⟨hi, hk, hn, ht⟩
  simp only at hi hk hn ht ⊢
  by_cases h : i < l.length
  · have f1 : ((i : Int) < (l.length : Int)) = True := eq_true (by omega)
    have g1 : (i < l.length) = True := eq_true h
    have v1 := wi1 (n := i) (by omega)
    have he : (l.getD i ent0).ok := hok _ (by rw [List.getD_eq_getElem?_getD, List.getElem?_eq_getElem h]; exact List.getElem_mem _)
    obtain ⟨_, ⟨_, hd1, hd2⟩, _, _, _, hp, hs⟩ := id he
    have hgt := Ent.l_get l ent0 i h
    have hll := Ent.l_len l
    have ht1 := Ent.tk (l.getD i ent0)
    have g2 : (i * 73 + 73 ≤ l.length * 73) = True := eq_true (by omega)
    have hT := sz16_take l i h
    have hkk : ∀ b, M b ≠ none → upd μ n (some (l.getD i ent0).c) b = M b := updL hM hk (by omega)
    generalize l.getD i ent0 = e at *
    have v2 : IntKind.i64.wrap ((e.pay.length : Int) + (e.sig.length : Int)) = ((e.pay.length + e.sig.length : Nat) : Int) := by rw [wi (by omega) (by omega)]; omega
    have v3 : IntKind.i64.wrap (((e.pay.length + e.sig.length : Nat) : Int) + (e.d.key.length : Int)) = ((e.pay.length + e.sig.length + e.d.key.length : Nat) : Int) := by rw [wi (by omega) (by omega)]; omega
    have hz : e.sz = e.pay.length + e.sig.length + e.d.key.length + e.d.val.length := rfl
    have v4 : IntKind.i64.wrap (((e.pay.length + e.sig.length + e.d.key.length : Nat) : Int) + (e.d.val.length : Int)) = ((e.sz : Nat) : Int) := by rw [wi (by omega) (by omega)]; omega
    have v5 : IntKind.i64.wrap (((sz16 (l.take i) : Nat) : Int) + ((e.sz : Nat) : Int)) = ((sz16 (l.take (i + 1)) : Nat) : Int) := by rw [hT, wi (by omega) (by omega)]; omega
    by_cases hg : sz16 (l.take (i + 1)) ≤ 4096
    · have f2 : (((sz16 (l.take (i + 1)) : Nat) : Int) > 4096) = False := eq_false (by omega)
      repeat' (first | (with_reducible first | refine pa ?_ | refine pb ?_ | refine pc ?_ | refine nxt_n ?_ | refine nxt_e ?_ | refine nxt_r ?_ | refine blk_n ?_ | refine blk_r ?_ | refine blk_hit ?_ | refine blk_miss (by rfl) ?_ | refine pd ?_ | refine pe ?_ | refine pf ?_ | refine pg ?_ | apply And.intro) | (refine hK _ ?_; clear hK K hΘ Θ) | (with_reducible first | refine cw1 ?_ | refine cw2 ?_ | exact cw3 | exact cw4) | ((with_reducible first | refine cw5 (fun gg => ?_) | refine cw6 (fun gg => ?_) | refine cw7 (fun gg => ?_)); try simp only [gg]) | refine cs1 hG rfl ?_ ?_ | refine cs2 hG rfl ?_ ?_ | ((first | refine rga hG (by kernel_rfl) (fun Θ K hΘ hK => ?_) | refine rgb hG (by kernel_rfl) (fun Θ K hΘ hK => ?_)); simp (maxSteps := 2000000) only [go_sem, seval, reduceCtorEq, f1, g1, v1, v2, v3, v4, v5, f2, hgt, hll, ht1, g2]) | ((first | refine Post.splitN (fun gg => ?_) (fun gg => ?_) | refine Post.split (fun gg => ?_) (fun gg => ?_)) <;> simp (maxSteps := 2000000) only [go_sem, seval, reduceCtorEq, gg, f1, g1, v1, v2, v3, v4, v5, f2, hgt, hll, ht1, g2]) | (refine finR (by simp only [go_sem, seval, reduceCtorEq, f1, g1, v1, v2, v3, v4, v5, f2, hgt, hll, ht1, g2]; exact rfl) ?_; simp only [go_sem, seval, reduceCtorEq, f1, g1, v1, v2, v3, v4, v5, f2, hgt, hll, ht1, g2]) | refine updL hM ?_ (by omega) | (with_reducible exact fun _ _ => rfl))
      all_goals (first | omega | (simp only [decide_eq_true_eq, decide_eq_false_iff_not] at *; omega) | (simp only [List.length_append, List.length_cons, List.length_nil] <;> omega) | exact one_bv _ | exact one_sv _ | skip)
      exact ⟨(i + 1, upd μ n (some e.c), n + 1), ⟨by simp only; omega, hkk, by simp only; omega, hg⟩, by simp only; omega, (sbs (by simp (maxSteps := 2000000) only [go_sem, seval, reduceCtorEq, List.append_eq]) rfl rfl)⟩
    · have f2 : (((sz16 (l.take (i + 1)) : Nat) : Int) > 4096) = True := eq_true (by omega)
      have hgr : g16 l = true := by
        have := sz16_app (l.take (i + 1)) (l.drop (i + 1))
        rw [List.take_append_drop] at this
        simp [g16]; omega
      rw [hgr]
      repeat' (first | (with_reducible first | refine pa ?_ | refine pb ?_ | refine pc ?_ | refine nxt_n ?_ | refine nxt_e ?_ | refine nxt_r ?_ | refine blk_n ?_ | refine blk_r ?_ | refine blk_hit ?_ | refine blk_miss (by rfl) ?_ | refine pd ?_ | refine pe ?_ | refine pf ?_ | refine pg ?_ | apply And.intro) | (refine hK _ ?_; clear hK K hΘ Θ) | (with_reducible first | refine cw1 ?_ | refine cw2 ?_ | exact cw3 | exact cw4) | ((with_reducible first | refine cw5 (fun gg => ?_) | refine cw6 (fun gg => ?_) | refine cw7 (fun gg => ?_)); try simp only [gg]) | refine cs1 hG rfl ?_ ?_ | refine cs2 hG rfl ?_ ?_ | ((first | refine rga hG (by kernel_rfl) (fun Θ K hΘ hK => ?_) | refine rgb hG (by kernel_rfl) (fun Θ K hΘ hK => ?_)); simp (maxSteps := 2000000) only [go_sem, seval, reduceCtorEq, f1, g1, v1, v2, v3, v4, v5, f2, hgt, hll, ht1, g2]) | ((first | refine Post.splitN (fun gg => ?_) (fun gg => ?_) | refine Post.split (fun gg => ?_) (fun gg => ?_)) <;> simp (maxSteps := 2000000) only [go_sem, seval, reduceCtorEq, gg, f1, g1, v1, v2, v3, v4, v5, f2, hgt, hll, ht1, g2]) | (refine finR (by simp only [go_sem, seval, reduceCtorEq, f1, g1, v1, v2, v3, v4, v5, f2, hgt, hll, ht1, g2]; exact rfl) ?_; simp only [go_sem, seval, reduceCtorEq, f1, g1, v1, v2, v3, v4, v5, f2, hgt, hll, ht1, g2]) | refine updL hM ?_ (by omega) | (with_reducible exact fun _ _ => rfl))
      all_goals (first | omega | (simp only [decide_eq_true_eq, decide_eq_false_iff_not] at *; omega) | (simp only [List.length_append, List.length_cons, List.length_nil] <;> omega) | exact one_bv _ | exact one_sv _ | skip)
      all_goals exact hkk
  · have f1 : ((i : Int) < (l.length : Int)) = False := eq_false (by omega)
    rw [List.take_of_length_le (by omega)] at ht
    have hgr : g16 l = decide ((l.length : Int) > 12) := by
      rw [g16, Bool.eq_iff_iff]; simp; omega
    rw [hgr]
    repeat' (first | (with_reducible first | refine pa ?_ | refine pb ?_ | refine pc ?_ | refine nxt_n ?_ | refine nxt_e ?_ | refine nxt_r ?_ | refine blk_n ?_ | refine blk_r ?_ | refine blk_hit ?_ | refine blk_miss (by rfl) ?_ | refine pd ?_ | refine pe ?_ | refine pf ?_ | refine pg ?_ | apply And.intro) | (refine hK _ ?_; clear hK K hΘ Θ) | (with_reducible first | refine cw1 ?_ | refine cw2 ?_ | exact cw3 | exact cw4) | ((with_reducible first | refine cw5 (fun gg => ?_) | refine cw6 (fun gg => ?_) | refine cw7 (fun gg => ?_)); try simp only [gg]) | refine cs1 hG rfl ?_ ?_ | refine cs2 hG rfl ?_ ?_ | ((first | refine rga hG (by kernel_rfl) (fun Θ K hΘ hK => ?_) | refine rgb hG (by kernel_rfl) (fun Θ K hΘ hK => ?_)); simp (maxSteps := 2000000) only [go_sem, seval, reduceCtorEq, f1]) | ((first | refine Post.splitN (fun gg => ?_) (fun gg => ?_) | refine Post.split (fun gg => ?_) (fun gg => ?_)) <;> simp (maxSteps := 2000000) only [go_sem, seval, reduceCtorEq, gg, f1]) | (refine finR (by simp only [go_sem, seval, reduceCtorEq, f1]; exact rfl) ?_; simp only [go_sem, seval, reduceCtorEq, f1]) | refine updL hM ?_ (by omega) | (with_reducible exact fun _ _ => rfl))
    all_goals (first | omega | (simp only [decide_eq_true_eq, decide_eq_false_iff_not] at *; omega) | (simp only [List.length_append, List.length_cons, List.length_nil] <;> omega) | exact one_bv _ | exact one_sv _ | skip)
end Go.VL

set_option linter.unusedVariables false
set_option linter.unusedSimpArgs false
set_option maxRecDepth 100000
set_option maxHeartbeats 8000000
open Go.RowKit
namespace Go.VL
open Go.Proofs
theorem R16Link_sp (p : Id32) (q : Int) (hq : inR q) (e : Ent) (he : e.ok) : Rt 49 [.agg (bv p.1), .flat (.int .i64 q), .agg e.c] (.agg (bv (linkE p q e).1)) := by
  have n1 : q < 9223372036854775808 := by have := hq.2; omega
  have ht := link_tot p q hq he
  have ht2 := total_cons [108, 105, 110, 107] (linkP p q e)
  simp only [List.length_cons, List.length_nil] at ht2
  have hle := listB_le ([108, 105, 110, 107] :: linkP p q e) (by omega) (by simp [linkP])
  simp only [linkP, List.length_cons, List.length_nil] at hle
  have tb := take_bv32 p
  have hp := p.2
  have tl := take_bv32 (linkE p q e)
  have hL : Rt 91 [.sl false 1 4 (sv [[108, 105, 110, 107], p.1, numB q.toNat, e.text])] (.flat (.string (bs (listB ([108, 105, 110, 107] :: linkP p q e))))) := RList_sp ([108, 105, 110, 107] :: linkP p q e) (by omega) (by simp [linkP])
  have hT : Rt 75 [.agg (bv p.1), .flat (.int .i64 q), .agg e.c] (.flat (.string (bs (listB ([108, 105, 110, 107] :: linkP p q e))))) := by
    intro M mn
    refine fnL (C := kc 15 [] []) (rs := [.tmp 6]) envOk Tryd.func75 (by kernel_rfl) rfl rfl rfl rfl rfl rfl (Low.flat _) ?_
    intro E hG hM
    repeat' (first | (with_reducible first | refine pa ?_ | refine pb ?_ | refine pc ?_ | refine nxt_n ?_ | refine nxt_e ?_ | refine nxt_r ?_ | refine blk_n ?_ | refine blk_r ?_ | refine blk_hit ?_ | refine blk_miss (by rfl) ?_ | refine pd ?_ | refine pe ?_ | refine pf ?_ | refine pg ?_ | apply And.intro) | (refine hK _ ?_; first | clear hK K hn0 hcl hΘ Θ | clear hK K hΘ Θ) | (with_reducible first | refine cw1 ?_ | refine cw2 ?_ | exact cw3 | exact cw4) | ((with_reducible first | refine cw5 (fun gg => ?_) | refine cw6 (fun gg => ?_) | refine cw7 (fun gg => ?_)); try simp only [gg]) | refine cs1 hG rfl ?_ ?_ | refine cs2 hG rfl ?_ ?_ | ((first | refine kf (fun M n => R16num_sp q n1 M n) rfl (by decide) cl0 hΘ hcl hn0 ?_ | refine kf (fun M n => R15Text_sp e he M n) rfl (by decide) cl0 hΘ hcl hn0 ?_ | refine kf (fun M n => hL M n) rfl (by decide) cl0 hΘ hcl hn0 ?_ | refine rga hG (by kernel_rfl) (fun Θ K hΘ hK => ?_) | refine rgb hG (by kernel_rfl) (fun Θ K hΘ hK => ?_) | refine rgc defCl hG (by kernel_rfl) cl0 (by rfl) (by kernel_rfl) (fun Θ K hΘ hcl hn0 hK => ?_) | refine rgd defCl hG (by kernel_rfl) cl0 (by rfl) (by kernel_rfl) (fun Θ K hΘ hcl hn0 hK => ?_)); simp (maxSteps := 2000000) only [go_sem, seval, reduceCtorEq, tb, hp]) | ((first | refine Post.splitN (fun gg => ?_) (fun gg => ?_) | refine PostB.splitN (fun gg => ?_) (fun gg => ?_) | refine Post.split (fun gg => ?_) (fun gg => ?_) | refine PostB.split (fun gg => ?_) (fun gg => ?_)) <;> simp (maxSteps := 2000000) only [go_sem, seval, reduceCtorEq, gg, tb, hp]) | (refine finR (by simp only [go_sem, seval, reduceCtorEq, tb, hp]; exact rfl) ?_; simp only [go_sem, seval, reduceCtorEq, tb, hp]) | refine updL hM ?_ (by omega) | (with_reducible exact fun _ _ => rfl))
    all_goals (first | omega | (simp only [decide_eq_true_eq, decide_eq_false_iff_not] at *; omega) | (simp only [List.length_append, List.length_cons, List.length_nil] <;> omega) | exact one_bv _ | exact one_sv _ | skip)
  have hS : Rt 76 [.flat (.string (bs (listB ([108, 105, 110, 107] :: linkP p q e))))] (.agg (bv (linkE p q e).1)) := ROf_sp (listB ([108, 105, 110, 107] :: linkP p q e)) (by simp only [linkP] at ht ht2 ⊢; omega)
  generalize linkE p q e = L at *
  intro M mn
  refine fnL (C := kc 12 [] []) (rs := [.cell 6 52]) envOk Tryd.func49 (by kernel_rfl) rfl rfl rfl rfl rfl rfl (lowAgg (FlatS.bv _)) ?_
  intro E hG hM
  repeat' (first | (with_reducible first | refine pa ?_ | refine pb ?_ | refine pc ?_ | refine nxt_n ?_ | refine nxt_e ?_ | refine nxt_r ?_ | refine blk_n ?_ | refine blk_r ?_ | refine blk_hit ?_ | refine blk_miss (by rfl) ?_ | refine pd ?_ | refine pe ?_ | refine pf ?_ | refine pg ?_ | apply And.intro) | (refine hK _ ?_; clear hK K hΘ Θ) | (with_reducible first | refine cw1 ?_ | refine cw2 ?_ | exact cw3 | exact cw4) | ((with_reducible first | refine cw5 (fun gg => ?_) | refine cw6 (fun gg => ?_) | refine cw7 (fun gg => ?_)); try simp only [gg]) | refine cs1 hG rfl ?_ ?_ | refine cs2 hG rfl ?_ ?_ | ((first | refine kf (fun M n => hT M n) rfl (by decide) cl0 hΘ hcl hn0 ?_ | refine kf (fun M n => hS M n) rfl (by decide) cl0 hΘ hcl hn0 ?_ | refine kg (hT _ _) rfl hΘ ?_ | refine kg (hS _ _) rfl hΘ ?_ | refine rga hG (by kernel_rfl) (fun Θ K hΘ hK => ?_) | refine rgb hG (by kernel_rfl) (fun Θ K hΘ hK => ?_)); simp (maxSteps := 2000000) only [go_sem, seval, reduceCtorEq, tb, tl, hp]) | ((first | refine Post.splitN (fun gg => ?_) (fun gg => ?_) | refine Post.split (fun gg => ?_) (fun gg => ?_)) <;> simp (maxSteps := 2000000) only [go_sem, seval, reduceCtorEq, gg, tb, tl, hp]) | (refine finR (by simp only [go_sem, seval, reduceCtorEq, tb, tl, hp]; exact rfl) ?_; simp only [go_sem, seval, reduceCtorEq, tb, tl, hp]) | refine updL hM ?_ (by omega) | (with_reducible exact fun _ _ => rfl))
  all_goals (first | omega | (simp only [decide_eq_true_eq, decide_eq_false_iff_not] at *; omega) | (simp only [List.length_append, List.length_cons, List.length_nil] <;> omega) | exact one_bv _ | exact one_sv _ | skip)
theorem R16Walk_sp (p : Id32) (q : Int) (l : List Ent) (hok : ∀ e ∈ l, e.ok) (hl : l.length ≤ 1000000) (hq : inR q) (hq2 : q ≤ 9223372036853000000) : Rt 47 [.agg (bv p.1), .flat (.int .i64 q), .sl false 73 l.length (Ent.lC l)] (.sl false 32 l.length (idsC (walkL p q l))) := by
  have q1 := hq.1
  have tbp : ∀ x : Id32, (bv x.1).take 32 = bv x.1 := take_bv32
  have hp : ∀ x : Id32, x.1.length = 32 := fun x => x.2
  intro M mn
  refine fnLS (C := kc 29 [23] []) (rs := [.tmp 6]) envOk Tryd.func47 (by kernel_rfl) rfl rfl rfl rfl rfl rfl (lowSl (idsC_flat _)) ?_
  intro E hG hM
  repeat' (first | (with_reducible first | refine pa ?_ | refine pb ?_ | refine pc ?_ | refine nxt_n ?_ | refine nxt_e ?_ | refine nxt_r ?_ | refine blk_n ?_ | refine blk_r ?_ | refine blk_hit ?_ | refine blk_miss (by rfl) ?_ | refine pd ?_ | refine pe ?_ | refine pf ?_ | refine pg ?_ | apply And.intro) | (refine hK _ ?_; clear hK K hΘ Θ) | (with_reducible first | refine cw1 ?_ | refine cw2 ?_ | exact cw3 | exact cw4) | ((with_reducible first | refine cw5 (fun gg => ?_) | refine cw6 (fun gg => ?_) | refine cw7 (fun gg => ?_)); try simp only [gg]) | refine cs1 hG rfl ?_ ?_ | refine cs2 hG rfl ?_ ?_ | ((first | refine rga hG (by kernel_rfl) (fun Θ K hΘ hK => ?_) | refine rgb hG (by kernel_rfl) (fun Θ K hΘ hK => ?_)); simp (maxSteps := 2000000) only [go_sem, seval, reduceCtorEq, List.append_eq]) | ((first | refine Post.splitN (fun gg => ?_) (fun gg => ?_) | refine Post.split (fun gg => ?_) (fun gg => ?_)) <;> simp (maxSteps := 2000000) only [go_sem, seval, reduceCtorEq, List.append_eq, gg]) | (refine finR (by simp only [go_sem, seval, reduceCtorEq, List.append_eq]; exact rfl) ?_; simp only [go_sem, seval, reduceCtorEq, List.append_eq]) | refine updL hM ?_ (by omega) | (with_reducible exact fun _ _ => rfl))
  all_goals (first | omega | (simp only [decide_eq_true_eq, decide_eq_false_iff_not] at *; omega) | (simp only [List.length_append, List.length_cons, List.length_nil] <;> omega) | exact one_bv _ | exact one_sv _ | skip)
  refine WC.loopA (fun s : Nat × Mem × Nat => ⟨[(12, .flat (.int .i64 s.1)), (11, .flat (.int .i64 l.length)), (10, .sl false 73 l.length (Ent.lC l)), (7, .sl true 32 s.1 (idsC (walkL p q (l.take s.1)))), (3, .bp mn 0), (1, .flat (.int .i64 q))], s.2.1, s.2.2⟩) (fun s => l.length - s.1) (fun s => s.1 ≤ l.length ∧ (∀ b, M b ≠ none → s.2.1 b = M b) ∧ mn + 1 ≤ s.2.2 ∧ s.2.1 mn = some (bv (lastL p q (l.take s.1)).1)) (0, upd M mn (some (bv p.1)), mn + 1) ⟨by simp only; omega, updL hM (fun _ _ => rfl) (Nat.le_refl _), Nat.le_refl _, by simp [upd, lastL_nil]⟩ (sbs (by simp (maxSteps := 2000000) only [go_sem, seval, reduceCtorEq, List.append_eq, List.take_zero, walkL, idsC_nil]) rfl rfl) ?_
  rintro ⟨i, μ, n⟩ ⟨hi, hk, hn, hb⟩
  simp only at hi hk hn hb ⊢
  by_cases h : i < l.length
  · have f1 : ((i : Int) < (l.length : Int)) = True := eq_true (by omega)
    have g1 : (i < l.length) = True := eq_true h
    have v1 := wi1 (n := i) (by omega)
    have v2 : IntKind.i64.wrap (q + (i : Int)) = q + (i : Int) := wi (by omega) (by omega)
    have he : (l.getD i ent0).ok := hok _ (by rw [List.getD_eq_getElem?_getD, List.getElem?_eq_getElem h]; exact List.getElem_mem _)
    have hgt := Ent.l_get l ent0 i h
    have hll := Ent.l_len l
    have ht1 := Ent.tk (l.getD i ent0)
    have g2 : (i * 73 + 73 ≤ l.length * 73) = True := eq_true (by omega)
    have hL := R16Link_sp (lastL p q (l.take i)) (q + i) (by unfold inR; omega) (l.getD i ent0) he
    have hw := walkL_take l p q i ent0 h
    have hla := lastL_take l p q i ent0 h
    have hA := ids_app (walkL p q (l.take i)) (linkE (lastL p q (l.take i)) (q + i) (l.getD i ent0))
    rw [← hw] at hA
    have hil := ids_len (walkL p q (l.take i))
    rw [walkL_len, List.length_take, Nat.min_eq_left (by omega)] at hil
    have hnm : n ≠ mn := by omega
    have u1 : ∀ (A : Mem) z, upd A n z mn = A mn := fun A z => upd_ne _ _ (by omega)
    have u2 : ∀ (A : Mem) z, upd A mn z n = A n := fun A z => upd_ne _ _ (by omega)
    rw [← hla] at hL hA
    repeat' (first | (with_reducible first | refine pa ?_ | refine pb ?_ | refine pc ?_ | refine nxt_n ?_ | refine nxt_e ?_ | refine nxt_r ?_ | refine blk_n ?_ | refine blk_r ?_ | refine blk_hit ?_ | refine blk_miss (by rfl) ?_ | refine pd ?_ | refine pe ?_ | refine pf ?_ | refine pg ?_ | apply And.intro) | (refine hK _ ?_; clear hK K hΘ Θ) | (with_reducible first | refine cw1 ?_ | refine cw2 ?_ | exact cw3 | exact cw4) | ((with_reducible first | refine cw5 (fun gg => ?_) | refine cw6 (fun gg => ?_) | refine cw7 (fun gg => ?_)); try simp only [gg]) | refine cs1 hG rfl ?_ ?_ | refine cs2 hG rfl ?_ ?_ | ((first | refine kg (hL _ _) rfl hΘ ?_ | refine rga hG (by kernel_rfl) (fun Θ K hΘ hK => ?_) | refine rgb hG (by kernel_rfl) (fun Θ K hΘ hK => ?_)); simp (maxSteps := 2000000) only [go_sem, seval, reduceCtorEq, List.append_eq, f1, g1, v1, v2, hgt, hll, ht1, g2, hb, u1, u2, tbp, hp, hA, hil]) | ((first | refine Post.splitN (fun gg => ?_) (fun gg => ?_) | refine Post.split (fun gg => ?_) (fun gg => ?_)) <;> simp (maxSteps := 2000000) only [go_sem, seval, reduceCtorEq, List.append_eq, gg, f1, g1, v1, v2, hgt, hll, ht1, g2, hb, u1, u2, tbp, hp, hA, hil]) | (refine finR (by simp only [go_sem, seval, reduceCtorEq, List.append_eq, f1, g1, v1, v2, hgt, hll, ht1, g2, hb, u1, u2, tbp, hp, hA, hil]; exact rfl) ?_; simp only [go_sem, seval, reduceCtorEq, List.append_eq, f1, g1, v1, v2, hgt, hll, ht1, g2, hb, u1, u2, tbp, hp, hA, hil]) | refine updL hM ?_ (by omega) | (with_reducible exact fun _ _ => rfl))
    all_goals (first | omega | (simp only [decide_eq_true_eq, decide_eq_false_iff_not] at *; omega) | (simp only [List.length_append, List.length_cons, List.length_nil] <;> omega) | exact one_bv _ | exact one_sv _ | skip)
    refine ⟨(i + 1, upd (upd μ n (some (l.getD i ent0).c)) mn (some (bv (lastL p q (l.take (i + 1))).1)), n + 1), ⟨by simp only; omega, fun b hb2 => ?_, by simp only; omega, upd_same _ _ _⟩, by simp only; omega, (sbs (by simp (maxSteps := 2000000) only [go_sem, seval, reduceCtorEq, List.append_eq]) rfl rfl)⟩
    have hlt : b < mn := Nat.lt_of_not_le fun k => hb2 (hM b k)
    simp only
    rw [upd_ne _ _ (by omega), upd_ne _ _ (by omega)]
    exact hk b hb2
  · have f1 : ((i : Int) < (l.length : Int)) = False := eq_false (by omega)
    have e1 : i = l.length := by omega
    subst e1
    rw [List.take_length]
    repeat' (first | (with_reducible first | refine pa ?_ | refine pb ?_ | refine pc ?_ | refine nxt_n ?_ | refine nxt_e ?_ | refine nxt_r ?_ | refine blk_n ?_ | refine blk_r ?_ | refine blk_hit ?_ | refine blk_miss (by rfl) ?_ | refine pd ?_ | refine pe ?_ | refine pf ?_ | refine pg ?_ | apply And.intro) | (refine hK _ ?_; clear hK K hΘ Θ) | (with_reducible first | refine cw1 ?_ | refine cw2 ?_ | exact cw3 | exact cw4) | ((with_reducible first | refine cw5 (fun gg => ?_) | refine cw6 (fun gg => ?_) | refine cw7 (fun gg => ?_)); try simp only [gg]) | refine cs1 hG rfl ?_ ?_ | refine cs2 hG rfl ?_ ?_ | ((first | refine rga hG (by kernel_rfl) (fun Θ K hΘ hK => ?_) | refine rgb hG (by kernel_rfl) (fun Θ K hΘ hK => ?_)); simp (maxSteps := 2000000) only [go_sem, seval, reduceCtorEq, List.append_eq, f1]) | ((first | refine Post.splitN (fun gg => ?_) (fun gg => ?_) | refine Post.split (fun gg => ?_) (fun gg => ?_)) <;> simp (maxSteps := 2000000) only [go_sem, seval, reduceCtorEq, List.append_eq, gg, f1]) | (refine finR (by simp only [go_sem, seval, reduceCtorEq, List.append_eq, f1]; exact rfl) ?_; simp only [go_sem, seval, reduceCtorEq, List.append_eq, f1]) | refine updL hM ?_ (by omega) | (with_reducible exact fun _ _ => rfl))
    all_goals (first | omega | (simp only [decide_eq_true_eq, decide_eq_false_iff_not] at *; omega) | (simp only [List.length_append, List.length_cons, List.length_nil] <;> omega) | exact one_bv _ | exact one_sv _ | skip)
end Go.VL
