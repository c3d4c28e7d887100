/- Part SE of the proof: made for this claim. -/
import Derived.Test.YtbceglggojnnaaaDoorSD
set_option linter.unusedVariables false
set_option linter.unusedSimpArgs false
set_option maxRecDepth 100000
set_option maxHeartbeats 8000000
open Go.RowKit
namespace Go.VL
open Go.Proofs
theorem turn_sp (x : UInt32) (n : Int) (h : decide (1 ≤ n) && decide (n ≤ 31) = true) : Rt 109 [.flat (.int .u32 x.toNat), .flat (.int .u32 n)] (.flat (.int .u32 (rotr x n.toNat).toNat)) := by
  simp only [Bool.and_eq_true, decide_eq_true_eq] at h
  obtain ⟨k, rfl⟩ : ∃ k : Nat, n = (k : Int) := ⟨n.toNat, by omega⟩
  have e2 : IntKind.u32.wrap (32 - (k : Int)) = ((32 - k : Nat) : Int) := by rw [show (32 - (k : Int)) = ((32 - k : Nat) : Int) by omega, wrap_u32, Nat.mod_eq_of_lt (by omega)]
  have e3 := w_shlN x (32 - k) (by omega)
  have e4 := w_shrN x k (by omega)
  rw [Int.toNat_natCast]
  intro M mn
  refine fnL (C := kc 13 [] []) (rs := [.tmp 4]) envOk Tryd.func109 (by kernel_rfl) rfl rfl rfl rfl rfl rfl (Low.flat _) ?_
  intro E hG hM
  repeat' (first | (with_reducible first | refine pa ?_ | refine pb ?_ | refine pc ?_ | refine nxt_n ?_ | refine nxt_e ?_ | refine nxt_r ?_ | refine blk_n ?_ | refine blk_r ?_ | refine blk_hit ?_ | refine blk_miss (by rfl) ?_ | refine pd ?_ | refine pe ?_ | refine pf ?_ | refine pg ?_ | apply And.intro) | (refine hK _ ?_; clear hK K hΘ Θ) | (with_reducible first | refine cw1 ?_ | refine cw2 ?_ | exact cw3 | exact cw4) | ((with_reducible first | refine cw5 (fun gg => ?_) | refine cw6 (fun gg => ?_) | refine cw7 (fun gg => ?_)); try simp only [gg]) | refine cs1 hG rfl ?_ ?_ | refine cs2 hG rfl ?_ ?_ | ((first | refine rga hG (by kernel_rfl) (fun Θ K hΘ hK => ?_) | refine rgb hG (by kernel_rfl) (fun Θ K hΘ hK => ?_)); simp (maxSteps := 2000000) only [go_sem, seval, reduceCtorEq, e2, e3, e4]) | ((first | refine Post.splitN (fun gg => ?_) (fun gg => ?_) | refine Post.split (fun gg => ?_) (fun gg => ?_)) <;> simp (maxSteps := 2000000) only [go_sem, seval, reduceCtorEq, gg, e2, e3, e4]) | (refine finR (by simp only [go_sem, seval, reduceCtorEq, e2, e3, e4]; exact rfl) ?_; simp only [go_sem, seval, reduceCtorEq, e2, e3, e4]) | refine updL hM ?_ (by omega) | (with_reducible exact fun _ _ => rfl))
  all_goals (first | omega | (simp only [decide_eq_true_eq, decide_eq_false_iff_not] at *; omega) | (simp only [List.length_append, List.length_cons, List.length_nil] <;> omega) | exact one_bv _ | exact one_sv _ | skip)
  rfl
theorem known_sp (M : Mem) (mn : Nat) : Sp Tryd.prog GL 108 [] M mn (fun r m k => r = .tup [.bs mn 0 8 8, .bs (mn + 1) 0 64 64] ∧ m = upd (upd M mn (some (uv startN))) (mn + 1) (some (uv roundN)) ∧ k = mn + 1 + 1) := by
  refine fnP (C := kc 8 [] [4, 5]) (rs := [.tmp 0, .tmp 1]) envOk Tryd.func108 (by kernel_rfl) rfl rfl rfl rfl rfl rfl ?_
  intro E hG hM
  repeat' (first | (with_reducible first | refine pa ?_ | refine pb ?_ | refine pc ?_ | refine nxt_n ?_ | refine nxt_e ?_ | refine nxt_r ?_ | refine blk_n ?_ | refine blk_r ?_ | refine blk_hit ?_ | refine blk_miss (by rfl) ?_ | refine pd ?_ | refine pe ?_ | refine pf ?_ | refine pg ?_ | apply And.intro) | (refine hK _ ?_; clear hK K hΘ Θ) | (with_reducible first | refine cw1 ?_ | refine cw2 ?_ | exact cw3 | exact cw4) | ((with_reducible first | refine cw5 (fun gg => ?_) | refine cw6 (fun gg => ?_) | refine cw7 (fun gg => ?_)); try simp only [gg]) | refine cs1 hG rfl ?_ ?_ | refine cs2 hG rfl ?_ ?_ | ((first | refine rga hG (by kernel_rfl) (fun Θ K hΘ hK => ?_) | refine rgb hG (by kernel_rfl) (fun Θ K hΘ hK => ?_)); simp (maxSteps := 2000000) only [go_sem, seval, reduceCtorEq, rep_one]) | ((first | refine Post.splitN (fun gg => ?_) (fun gg => ?_) | refine Post.split (fun gg => ?_) (fun gg => ?_)) <;> simp (maxSteps := 2000000) only [go_sem, seval, reduceCtorEq, gg, rep_one]) | (refine finR (by simp only [go_sem, seval, reduceCtorEq, rep_one]; exact rfl) ?_; simp only [go_sem, seval, reduceCtorEq, rep_one]) | refine updL hM ?_ (by omega) | (with_reducible exact fun _ _ => rfl))
  all_goals (first | omega | (simp only [decide_eq_true_eq, decide_eq_false_iff_not] at *; omega) | (simp only [List.length_append, List.length_cons, List.length_nil] <;> omega) | exact one_bv _ | exact one_sv _ | skip)
  rfl
def mB (M : Mem) (mn : Nat) (h : List UInt32) : Mem := upd (upd (upd M mn (some (bv z32.1))) (mn + 1) (some (uv h))) (mn + 1 + 1) (some (uv roundN))
theorem mB_h (M : Mem) (mn : Nat) (h : List UInt32) : mB M mn h (mn + 1) = some (uv h) := by rw [mB, upd_ne _ _ (by omega), upd_same]
theorem mB_k (M : Mem) (mn : Nat) (h : List UInt32) : mB M mn h (mn + 1 + 1) = some (uv roundN) := by rw [mB, upd_same]
theorem mB_s (M : Mem) (mn : Nat) (h g : List UInt32) : upd (mB M mn h) (mn + 1) (some (uv g)) = mB M mn g := by rw [mB, upd_swap (by omega), upd_upd, mB]
theorem set_zero {p : List UInt8} {i : Nat} : (wArr p i).set i 0 = wArr p i := by
  apply List.ext_getElem?
  intro j
  by_cases h : i = j
  · subst h
    have := wArr_zero p i i (Nat.le_refl _)
    rw [List.getD_eq_getElem?_getD] at this
    rw [List.getElem?_set_self']
    cases e : (wArr p i)[i]? with
    | none => rfl
    | some x => rw [e] at this; simp at this; simp [this]
  · rw [List.getElem?_set_ne h]
theorem ROf_sp (s : List UInt8) (hs : s.length ≤ 1099511627776) : Rt 76 [.flat (.string (bs s))] (.agg (bv (sha s).1)) := by
  intro M mn
  refine fnL (C := kc 287 [34, 45] [59]) (rs := [.cell 2 52]) envOk Tryd.func76 (by kernel_rfl) rfl rfl rfl rfl rfl rfl (lowAgg (FlatS.bv _)) ?_
  intro E hG hM
  repeat' (first | (with_reducible first | refine pa ?_ | refine pb ?_ | refine pc ?_ | refine nxt_n ?_ | refine nxt_e ?_ | refine nxt_r ?_ | refine blk_n ?_ | refine blk_r ?_ | refine blk_hit ?_ | refine blk_miss (by rfl) ?_ | refine pd ?_ | refine pe ?_ | refine pf ?_ | refine pg ?_ | apply And.intro) | (refine hK _ ?_; first | clear hK K hn0 hcl hΘ Θ | clear hK K hΘ Θ) | (with_reducible first | refine cw1 ?_ | refine cw2 ?_ | exact cw3 | exact cw4) | ((with_reducible first | refine cw5 (fun gg => ?_) | refine cw6 (fun gg => ?_) | refine cw7 (fun gg => ?_)); try simp only [gg]) | refine cs1 hG rfl ?_ ?_ | refine cs2 hG rfl ?_ ?_ | ((first | refine kg (known_sp _ _) rfl hΘ ?_ | refine rga hG (by kernel_rfl) (fun Θ K hΘ hK => ?_) | refine rgb hG (by kernel_rfl) (fun Θ K hΘ hK => ?_) | refine rgc defCl hG (by kernel_rfl) cl0 (by rfl) (by kernel_rfl) (fun Θ K hΘ hcl hn0 hK => ?_) | refine rgd defCl hG (by kernel_rfl) cl0 (by rfl) (by kernel_rfl) (fun Θ K hΘ hcl hn0 hK => ?_)); simp (maxSteps := 2000000) only [go_sem, seval, reduceCtorEq, List.append_eq]) | ((first | refine Post.splitN (fun gg => ?_) (fun gg => ?_) | refine PostB.splitN (fun gg => ?_) (fun gg => ?_) | refine Post.split (fun gg => ?_) (fun gg => ?_) | refine PostB.split (fun gg => ?_) (fun gg => ?_)) <;> simp (maxSteps := 2000000) only [go_sem, seval, reduceCtorEq, List.append_eq, gg]) | (refine finR (by simp only [go_sem, seval, reduceCtorEq, List.append_eq]; exact rfl) ?_; simp only [go_sem, seval, reduceCtorEq, List.append_eq]) | refine updL hM ?_ (by omega) | (with_reducible exact fun _ _ => rfl))
  all_goals (first | omega | (simp only [decide_eq_true_eq, decide_eq_false_iff_not] at *; omega) | (simp only [List.length_append, List.length_cons, List.length_nil] <;> omega) | exact one_bv _ | exact one_sv _ | skip)
  refine WC.loopA (fun l : List UInt8 => ⟨[(5, .sl true 1 l.length (bv l)), (4, .bs (mn + 1 + 1) 0 64 64), (3, .bs (mn + 1) 0 8 8), (2, .bp mn 0), (0, .flat (.string (bs s)))], mB M mn startN, mn + 1 + 1 + 1⟩) (fun l => s.length + 100 - l.length) (fun l => ∃ j, j ≤ padN s.length ∧ l = s ++ [128] ++ List.replicate j 0) (s ++ [128]) ⟨0, by omega, by simp⟩ (sbs (by simp (maxSteps := 2000000) only [go_sem, seval, reduceCtorEq, List.append_eq, bv_snoc128, len_snoc]) rfl rfl) ?_
  rintro l ⟨j, hj, hl⟩
  have hpd : padN s.length = (120 - (s.length + 1) % 64) % 64 := rfl
  have hll : l.length = s.length + 1 + j := by rw [hl]; simp; omega
  have e0 : ((l.length : Int).tmod 64) = ((l.length % 64 : Nat) : Int) := tmodN _ 64
  by_cases hm : l.length % 64 ≠ 56
  · have f0 : (((l.length % 64 : Nat) : Int) = 56) = False := eq_false (by omega)
    repeat' (first | (with_reducible first | refine pa ?_ | refine pb ?_ | refine pc ?_ | refine nxt_n ?_ | refine nxt_e ?_ | refine nxt_r ?_ | refine blk_n ?_ | refine blk_r ?_ | refine blk_hit ?_ | refine blk_miss (by rfl) ?_ | refine pd ?_ | refine pe ?_ | refine pf ?_ | refine pg ?_ | apply And.intro) | (refine hK _ ?_; first | clear hK K hn0 hcl hΘ Θ | clear hK K hΘ Θ) | (with_reducible first | refine cw1 ?_ | refine cw2 ?_ | exact cw3 | exact cw4) | ((with_reducible first | refine cw5 (fun gg => ?_) | refine cw6 (fun gg => ?_) | refine cw7 (fun gg => ?_)); try simp only [gg]) | refine cs1 hG rfl ?_ ?_ | refine cs2 hG rfl ?_ ?_ | ((first | refine rga hG (by kernel_rfl) (fun Θ K hΘ hK => ?_) | refine rgb hG (by kernel_rfl) (fun Θ K hΘ hK => ?_) | refine rgc defCl hG (by kernel_rfl) cl0 (by rfl) (by kernel_rfl) (fun Θ K hΘ hcl hn0 hK => ?_) | refine rgd defCl hG (by kernel_rfl) cl0 (by rfl) (by kernel_rfl) (fun Θ K hΘ hcl hn0 hK => ?_)); simp (maxSteps := 2000000) only [go_sem, seval, reduceCtorEq, List.append_eq, e0, f0]) | ((first | refine Post.splitN (fun gg => ?_) (fun gg => ?_) | refine PostB.splitN (fun gg => ?_) (fun gg => ?_) | refine Post.split (fun gg => ?_) (fun gg => ?_) | refine PostB.split (fun gg => ?_) (fun gg => ?_)) <;> simp (maxSteps := 2000000) only [go_sem, seval, reduceCtorEq, List.append_eq, gg, e0, f0]) | (refine finR (by simp only [go_sem, seval, reduceCtorEq, List.append_eq, e0, f0]; exact rfl) ?_; simp only [go_sem, seval, reduceCtorEq, List.append_eq, e0, f0]) | refine updL hM ?_ (by omega) | (with_reducible exact fun _ _ => rfl))
    all_goals (first | omega | (simp only [decide_eq_true_eq, decide_eq_false_iff_not] at *; omega) | (simp only [List.length_append, List.length_cons, List.length_nil] <;> omega) | exact one_bv _ | exact one_sv _ | skip)
    refine ⟨l ++ [0], ⟨j + 1, by omega, ?_⟩, ?_, (sbs (by simp (maxSteps := 2000000) only [go_sem, seval, reduceCtorEq, List.append_eq, len_snoc]) rfl rfl)⟩
    · rw [hl, List.replicate_succ']; simp
    · rw [len_snoc]; omega
  have f0 : (((l.length % 64 : Nat) : Int) = 56) = True := eq_true (by omega)
  have ej : j = padN s.length := by omega
  subst ej
  have w1 : IntKind.u64.wrap (s.length : Int) = (s.length : Int) := wu (by omega) (by omega)
  have w2 : IntKind.u64.wrap ((s.length : Int) * 8) = ((s.length * 8 : Nat) : Int) := by rw [wu (by omega) (by omega)]; omega
  repeat' (first | (with_reducible first | refine pa ?_ | refine pb ?_ | refine pc ?_ | refine nxt_n ?_ | refine nxt_e ?_ | refine nxt_r ?_ | refine blk_n ?_ | refine blk_r ?_ | refine blk_hit ?_ | refine blk_miss (by rfl) ?_ | refine pd ?_ | refine pe ?_ | refine pf ?_ | refine pg ?_ | apply And.intro) | (refine hK _ ?_; first | clear hK K hn0 hcl hΘ Θ | clear hK K hΘ Θ) | (with_reducible first | refine cw1 ?_ | refine cw2 ?_ | exact cw3 | exact cw4) | ((with_reducible first | refine cw5 (fun gg => ?_) | refine cw6 (fun gg => ?_) | refine cw7 (fun gg => ?_)); try simp only [gg]) | refine cs1 hG rfl ?_ ?_ | refine cs2 hG rfl ?_ ?_ | ((first | refine rga hG (by kernel_rfl) (fun Θ K hΘ hK => ?_) | refine rgb hG (by kernel_rfl) (fun Θ K hΘ hK => ?_) | refine rgc defCl hG (by kernel_rfl) cl0 (by rfl) (by kernel_rfl) (fun Θ K hΘ hcl hn0 hK => ?_) | refine rgd defCl hG (by kernel_rfl) cl0 (by rfl) (by kernel_rfl) (fun Θ K hΘ hcl hn0 hK => ?_)); simp (maxSteps := 2000000) only [go_sem, seval, reduceCtorEq, List.append_eq, e0, f0, w1, w2]) | ((first | refine Post.splitN (fun gg => ?_) (fun gg => ?_) | refine PostB.splitN (fun gg => ?_) (fun gg => ?_) | refine Post.split (fun gg => ?_) (fun gg => ?_) | refine PostB.split (fun gg => ?_) (fun gg => ?_)) <;> simp (maxSteps := 2000000) only [go_sem, seval, reduceCtorEq, List.append_eq, gg, e0, f0, w1, w2]) | (refine finR (by simp only [go_sem, seval, reduceCtorEq, List.append_eq, e0, f0, w1, w2]; exact rfl) ?_; simp only [go_sem, seval, reduceCtorEq, List.append_eq, e0, f0, w1, w2]) | refine updL hM ?_ (by omega) | (with_reducible exact fun _ _ => rfl))
  all_goals (first | omega | (simp only [decide_eq_true_eq, decide_eq_false_iff_not] at *; omega) | (simp only [List.length_append, List.length_cons, List.length_nil] <;> omega) | exact one_bv _ | exact one_sv _ | skip)
  generalize hpr : l = pre at hll
  generalize hN : s.length * 8 = N
  have hNb : N < 18446744073709551616 := by omega
  refine WC.loopA (fun j : Nat => ⟨[(7, .flat (.int .i64 j)), (6, .flat (.int .u64 (N * 256 ^ j % 18446744073709551616 : Nat))), (5, .sl true 1 (pre ++ (lenB N).take j).length (bv (pre ++ (lenB N).take j))), (4, .bs (mn + 1 + 1) 0 64 64), (3, .bs (mn + 1) 0 8 8), (2, .bp mn 0)], mB M mn startN, mn + 1 + 1 + 1⟩) (fun j => 8 - j) (fun j => j ≤ 8) 0 (by omega) (sbs (by simp (maxSteps := 2000000) only [go_sem, seval, reduceCtorEq, List.append_eq, List.take_zero, List.append_nil, hpr, Int.natCast_zero, Nat.pow_zero, Nat.mul_one, Nat.mod_eq_of_lt hNb]) rfl rfl) ?_
  intro j hj8
  generalize hL : pre ++ (lenB N).take j = L
  have hLl : L.length = pre.length + j := by rw [← hL, List.length_append, List.length_take, lenB_len]; omega
  by_cases h8 : j < 8
  · have f8 : ((j : Int) < 8) = True := eq_true (by omega)
    have v1 : IntKind.i64.wrap (j + 1) = ((j + 1 : Nat) : Int) := by rw [wi (by omega) (by omega)]; omega
    have v2 : quoI .u64 ((N * 256 ^ j % 18446744073709551616 : Nat) : Int) 72057594037927936 = _ := quo64 (N * 256 ^ j % 18446744073709551616) 72057594037927936 (Nat.mod_lt _ (by omega))
    have v3 : IntKind.u64.wrap ((N * 256 ^ j % 18446744073709551616 : Nat) * 256 : Int) = ((N * 256 ^ (j + 1) % 18446744073709551616 : Nat) : Int) := by
      have := wrap_u64n (N * 256 ^ j % 18446744073709551616 * 256)
      rw [Int.natCast_mul] at this
      rw [show ((256 : Nat) : Int) = 256 from rfl] at this
      rw [this, Nat.mod_mul_mod, Nat.mul_assoc, ← Nat.pow_succ]
    have v4 := w_byteN ((N * 256 ^ j % 18446744073709551616) / 72057594037927936)
    rw [lenB_ref N hNb j h8] at v4
    have hn := lenB_take N j h8
    have hN : pre ++ (lenB N).take (j + 1) = L ++ [UInt8.ofNat (N / 2 ^ (8 * (7 - j)))] := by rw [hn, ← List.append_assoc, hL]
    generalize N * 256 ^ j % 18446744073709551616 = A at v2 v3 v4 ⊢
    repeat' (first | (with_reducible first | refine pa ?_ | refine pb ?_ | refine pc ?_ | refine nxt_n ?_ | refine nxt_e ?_ | refine nxt_r ?_ | refine blk_n ?_ | refine blk_r ?_ | refine blk_hit ?_ | refine blk_miss (by rfl) ?_ | refine pd ?_ | refine pe ?_ | refine pf ?_ | refine pg ?_ | apply And.intro) | (refine hK _ ?_; first | clear hK K hn0 hcl hΘ Θ | clear hK K hΘ Θ) | (with_reducible first | refine cw1 ?_ | refine cw2 ?_ | exact cw3 | exact cw4) | ((with_reducible first | refine cw5 (fun gg => ?_) | refine cw6 (fun gg => ?_) | refine cw7 (fun gg => ?_)); try simp only [gg]) | refine cs1 hG rfl ?_ ?_ | refine cs2 hG rfl ?_ ?_ | ((first | refine rga hG (by kernel_rfl) (fun Θ K hΘ hK => ?_) | refine rgb hG (by kernel_rfl) (fun Θ K hΘ hK => ?_) | refine rgc defCl hG (by kernel_rfl) cl0 (by rfl) (by kernel_rfl) (fun Θ K hΘ hcl hn0 hK => ?_) | refine rgd defCl hG (by kernel_rfl) cl0 (by rfl) (by kernel_rfl) (fun Θ K hΘ hcl hn0 hK => ?_)); simp (maxSteps := 2000000) only [go_sem, seval, reduceCtorEq, List.append_eq, f8, v1, v2, v3, v4]) | ((first | refine Post.splitN (fun gg => ?_) (fun gg => ?_) | refine PostB.splitN (fun gg => ?_) (fun gg => ?_) | refine Post.split (fun gg => ?_) (fun gg => ?_) | refine PostB.split (fun gg => ?_) (fun gg => ?_)) <;> simp (maxSteps := 2000000) only [go_sem, seval, reduceCtorEq, List.append_eq, gg, f8, v1, v2, v3, v4]) | (refine finR (by simp only [go_sem, seval, reduceCtorEq, List.append_eq, f8, v1, v2, v3, v4]; exact rfl) ?_; simp only [go_sem, seval, reduceCtorEq, List.append_eq, f8, v1, v2, v3, v4]) | refine updL hM ?_ (by omega) | (with_reducible exact fun _ _ => rfl))
    all_goals (first | omega | (simp only [decide_eq_true_eq, decide_eq_false_iff_not] at *; omega) | (simp only [List.length_append, List.length_cons, List.length_nil] <;> omega) | exact one_bv _ | exact one_sv _ | skip)
    refine ⟨j + 1, by omega, by omega, (sbs (by simp (maxSteps := 2000000) only [go_sem, seval, reduceCtorEq, List.append_eq, hN, len_snoc]) rfl rfl)⟩
  have f8 : ((j : Int) < 8) = False := eq_false (by omega)
  have e8 : j = 8 := by omega
  subst e8
  rw [List.take_of_length_le (by rw [lenB_len]; omega), ← hpr, hl, ← hN, ← pad] at hL
  have hpd := pad_mod s
  rw [hL] at hpd
  have hLb : L.length < 2000000000000 := by have : padN s.length < 64 := Nat.mod_lt _ (by omega); omega
  repeat' (first | (with_reducible first | refine pa ?_ | refine pb ?_ | refine pc ?_ | refine nxt_n ?_ | refine nxt_e ?_ | refine nxt_r ?_ | refine blk_n ?_ | refine blk_r ?_ | refine blk_hit ?_ | refine blk_miss (by rfl) ?_ | refine pd ?_ | refine pe ?_ | refine pf ?_ | refine pg ?_ | apply And.intro) | (refine hK _ ?_; first | clear hK K hn0 hcl hΘ Θ | clear hK K hΘ Θ) | (with_reducible first | refine cw1 ?_ | refine cw2 ?_ | exact cw3 | exact cw4) | ((with_reducible first | refine cw5 (fun gg => ?_) | refine cw6 (fun gg => ?_) | refine cw7 (fun gg => ?_)); try simp only [gg]) | refine cs1 hG rfl ?_ ?_ | refine cs2 hG rfl ?_ ?_ | ((first | refine rga hG (by kernel_rfl) (fun Θ K hΘ hK => ?_) | refine rgb hG (by kernel_rfl) (fun Θ K hΘ hK => ?_) | refine rgc defCl hG (by kernel_rfl) cl0 (by rfl) (by kernel_rfl) (fun Θ K hΘ hcl hn0 hK => ?_) | refine rgd defCl hG (by kernel_rfl) cl0 (by rfl) (by kernel_rfl) (fun Θ K hΘ hcl hn0 hK => ?_)); simp (maxSteps := 2000000) only [go_sem, seval, reduceCtorEq, List.append_eq, f8]) | ((first | refine Post.splitN (fun gg => ?_) (fun gg => ?_) | refine PostB.splitN (fun gg => ?_) (fun gg => ?_) | refine Post.split (fun gg => ?_) (fun gg => ?_) | refine PostB.split (fun gg => ?_) (fun gg => ?_)) <;> simp (maxSteps := 2000000) only [go_sem, seval, reduceCtorEq, List.append_eq, gg, f8]) | (refine finR (by simp only [go_sem, seval, reduceCtorEq, List.append_eq, f8]; exact rfl) ?_; simp only [go_sem, seval, reduceCtorEq, List.append_eq, f8]) | refine updL hM ?_ (by omega) | (with_reducible exact fun _ _ => rfl))
  all_goals (first | omega | (simp only [decide_eq_true_eq, decide_eq_false_iff_not] at *; omega) | (simp only [List.length_append, List.length_cons, List.length_nil] <;> omega) | exact one_bv _ | exact one_sv _ | skip)
  clear hl hll hpr
  refine WC.loopA (fun q : List UInt32 × Nat × Nat => ⟨[(8, .flat (.int .i64 (64 * q.2.1 : Nat))), (5, .sl false 1 L.length (bv L)), (4, .bs (mn + 1 + 1) 0 64 64), (3, .bs (mn + 1) 0 8 8), (2, .bp mn 0)], mB M mn q.1, q.2.2⟩) (fun q => L.length - 64 * q.2.1) (fun q => q.1.length = 8 ∧ q.1 = foldB q.2.1 startN L ∧ 64 * q.2.1 ≤ L.length ∧ mn + 3 ≤ q.2.2) (startN, 0, mn + 3) ⟨startN_len, rfl, by simp only; omega, by simp only; omega⟩ (sbs (by simp (maxSteps := 2000000) only [go_sem, seval, reduceCtorEq, List.append_eq, Nat.mul_zero, Int.natCast_zero]) rfl rfl) ?_
  rintro ⟨h, i, k⟩ ⟨hh, hf, hil, hk⟩
  simp only at hh hf hil hk ⊢
  generalize hat : 64 * i = at'
  by_cases hend : at' < L.length
  · have f0 : ((at' : Int) < (L.length : Int)) = True := eq_true (by omega)
    have hr := uv_rep 64
    repeat' (first | (with_reducible first | refine pa ?_ | refine pb ?_ | refine pc ?_ | refine nxt_n ?_ | refine nxt_e ?_ | refine nxt_r ?_ | refine blk_n ?_ | refine blk_r ?_ | refine blk_hit ?_ | refine blk_miss (by rfl) ?_ | refine pd ?_ | refine pe ?_ | refine pf ?_ | refine pg ?_ | apply And.intro) | (refine hK _ ?_; first | clear hK K hn0 hcl hΘ Θ | clear hK K hΘ Θ) | (with_reducible first | refine cw1 ?_ | refine cw2 ?_ | exact cw3 | exact cw4) | ((with_reducible first | refine cw5 (fun gg => ?_) | refine cw6 (fun gg => ?_) | refine cw7 (fun gg => ?_)); try simp only [gg]) | refine cs1 hG rfl ?_ ?_ | refine cs2 hG rfl ?_ ?_ | ((first | refine rga hG (by kernel_rfl) (fun Θ K hΘ hK => ?_) | refine rgb hG (by kernel_rfl) (fun Θ K hΘ hK => ?_) | refine rgc defCl hG (by kernel_rfl) cl0 (by rfl) (by kernel_rfl) (fun Θ K hΘ hcl hn0 hK => ?_) | refine rgd defCl hG (by kernel_rfl) cl0 (by rfl) (by kernel_rfl) (fun Θ K hΘ hcl hn0 hK => ?_)); simp (maxSteps := 2000000) only [go_sem, seval, reduceCtorEq, List.append_eq, f0, hr]) | ((first | refine Post.splitN (fun gg => ?_) (fun gg => ?_) | refine PostB.splitN (fun gg => ?_) (fun gg => ?_) | refine Post.split (fun gg => ?_) (fun gg => ?_) | refine PostB.split (fun gg => ?_) (fun gg => ?_)) <;> simp (maxSteps := 2000000) only [go_sem, seval, reduceCtorEq, List.append_eq, gg, f0, hr]) | (refine finR (by simp only [go_sem, seval, reduceCtorEq, List.append_eq, f0, hr]; exact rfl) ?_; simp only [go_sem, seval, reduceCtorEq, List.append_eq, f0, hr]) | refine updL hM ?_ (by omega) | (with_reducible exact fun _ _ => rfl))
    all_goals (first | omega | (simp only [decide_eq_true_eq, decide_eq_false_iff_not] at *; omega) | (simp only [List.length_append, List.length_cons, List.length_nil] <;> omega) | exact one_bv _ | exact one_sv _ | skip)
    generalize hP : (L.drop at').take 64 = p
    have hp : p.length = 64 := by rw [← hP, List.length_take, List.length_drop]; omega
    have hpg : ∀ a, a < 64 → p.getD a 0 = L.getD (at' + a) 0 := fun a ha => by
      rw [← hP, List.getD_eq_getElem?_getD, List.getElem?_take, if_pos ha, List.getElem?_drop, ← List.getD_eq_getElem?_getD]
    have m1 : ∀ x, upd (mB M mn h) k x (mn + 1) = some (uv h) := fun x => by rw [upd_ne _ _ (by omega), mB_h]
    have m2 : ∀ x, upd (mB M mn h) k x (mn + 1 + 1) = some (uv roundN) := fun x => by rw [upd_ne _ _ (by omega), mB_k]
    refine WC.loopA (fun i : Nat => ⟨[(10, .flat (.int .i64 i)), (9, .bs k 0 64 64), (8, .flat (.int .i64 at')), (5, .sl false 1 L.length (bv L)), (4, .bs (mn + 1 + 1) 0 64 64), (3, .bs (mn + 1) 0 8 8), (2, .bp mn 0)], upd (mB M mn h) k (some (uv (wArr p i))), k + 1⟩) (fun i => 16 - i) (fun i => i ≤ 16) 0 (by omega) (sbs (by simp (maxSteps := 2000000) only [go_sem, seval, reduceCtorEq, List.append_eq, Int.natCast_zero]) rfl rfl) ?_
    intro i hi
    have hw := wArr_len p i
    by_cases h16 : i < 16
    · have f1 : ((i : Int) < 16) = True := eq_true (by omega)
      have g1 : (i < 64) = True := eq_true (by omega)
      have v1 : IntKind.i64.wrap (i + 1) = ((i + 1 : Nat) : Int) := by rw [wi (by omega) (by omega)]; omega
      have v2 : IntKind.i64.wrap (4 * i) = ((4 * i : Nat) : Int) := by rw [wi (by omega) (by omega)]; omega
      have v3 : IntKind.i64.wrap ((at' : Int) + ((4 * i : Nat) : Int)) = ((at' + 4 * i : Nat) : Int) := by rw [wi (by omega) (by omega)]; omega
      repeat' (first | (with_reducible first | refine pa ?_ | refine pb ?_ | refine pc ?_ | refine nxt_n ?_ | refine nxt_e ?_ | refine nxt_r ?_ | refine blk_n ?_ | refine blk_r ?_ | refine blk_hit ?_ | refine blk_miss (by rfl) ?_ | refine pd ?_ | refine pe ?_ | refine pf ?_ | refine pg ?_ | apply And.intro) | (refine hK _ ?_; first | clear hK K hn0 hcl hΘ Θ | clear hK K hΘ Θ) | (with_reducible first | refine cw1 ?_ | refine cw2 ?_ | exact cw3 | exact cw4) | ((with_reducible first | refine cw5 (fun gg => ?_) | refine cw6 (fun gg => ?_) | refine cw7 (fun gg => ?_)); try simp only [gg]) | refine cs1 hG rfl ?_ ?_ | refine cs2 hG rfl ?_ ?_ | ((first | refine rga hG (by kernel_rfl) (fun Θ K hΘ hK => ?_) | refine rgb hG (by kernel_rfl) (fun Θ K hΘ hK => ?_) | refine rgc defCl hG (by kernel_rfl) cl0 (by rfl) (by kernel_rfl) (fun Θ K hΘ hcl hn0 hK => ?_) | refine rgd defCl hG (by kernel_rfl) cl0 (by rfl) (by kernel_rfl) (fun Θ K hΘ hcl hn0 hK => ?_)); simp (maxSteps := 2000000) only [go_sem, seval, reduceCtorEq, List.append_eq, f1]) | ((first | refine Post.splitN (fun gg => ?_) (fun gg => ?_) | refine PostB.splitN (fun gg => ?_) (fun gg => ?_) | refine Post.split (fun gg => ?_) (fun gg => ?_) | refine PostB.split (fun gg => ?_) (fun gg => ?_)) <;> simp (maxSteps := 2000000) only [go_sem, seval, reduceCtorEq, List.append_eq, gg, f1]) | (refine finR (by simp only [go_sem, seval, reduceCtorEq, List.append_eq, f1]; exact rfl) ?_; simp only [go_sem, seval, reduceCtorEq, List.append_eq, f1]) | refine updL hM ?_ (by omega) | (with_reducible exact fun _ _ => rfl))
      all_goals (first | omega | (simp only [decide_eq_true_eq, decide_eq_false_iff_not] at *; omega) | (simp only [List.length_append, List.length_cons, List.length_nil] <;> omega) | exact one_bv _ | exact one_sv _ | skip)
      refine WC.loopA (fun q : Nat => ⟨[(11, .flat (.int .i64 q)), (10, .flat (.int .i64 i)), (9, .bs k 0 64 64), (8, .flat (.int .i64 at')), (5, .sl false 1 L.length (bv L)), (4, .bs (mn + 1 + 1) 0 64 64), (3, .bs (mn + 1) 0 8 8), (2, .bp mn 0)], upd (mB M mn h) k (some (uv ((wArr p i).set i (wQ p i q)))), k + 1⟩) (fun q => 4 - q) (fun q => q ≤ 4) 0 (by omega) (sbs (by simp (maxSteps := 2000000) only [go_sem, seval, reduceCtorEq, List.append_eq, Int.natCast_zero]) (by rw [wQ, set_zero]) rfl) ?_
      intro q hq
      by_cases h4 : q < 4
      · have f2 : ((q : Int) < 4) = True := eq_true (by omega)
        have v4 : IntKind.i64.wrap (q + 1) = ((q + 1 : Nat) : Int) := by rw [wi (by omega) (by omega)]; omega
        have v5 : IntKind.i64.wrap (((at' + 4 * i : Nat) : Int) + (q : Int)) = ((at' + 4 * i + q : Nat) : Int) := by rw [wi (by omega) (by omega)]; omega
        have v6 : (at' + 4 * i + q < L.length) = True := eq_true (by omega)
        have v7 : L.getD (at' + 4 * i + q) 0 = p.getD (4 * i + q) 0 := by rw [hpg _ (by omega), Nat.add_assoc]
        have v8 : ∀ x : UInt32, ((wArr p i).set i x).getD i 0 = x := fun x => by rw [List.getD_eq_getElem?_getD, List.getElem?_set_self (by omega)]; rfl
        repeat' (first | (with_reducible first | refine pa ?_ | refine pb ?_ | refine pc ?_ | refine nxt_n ?_ | refine nxt_e ?_ | refine nxt_r ?_ | refine blk_n ?_ | refine blk_r ?_ | refine blk_hit ?_ | refine blk_miss (by rfl) ?_ | refine pd ?_ | refine pe ?_ | refine pf ?_ | refine pg ?_ | apply And.intro) | (refine hK _ ?_; first | clear hK K hn0 hcl hΘ Θ | clear hK K hΘ Θ) | (with_reducible first | refine cw1 ?_ | refine cw2 ?_ | exact cw3 | exact cw4) | ((with_reducible first | refine cw5 (fun gg => ?_) | refine cw6 (fun gg => ?_) | refine cw7 (fun gg => ?_)); try simp only [gg]) | refine cs1 hG rfl ?_ ?_ | refine cs2 hG rfl ?_ ?_ | ((first | refine rga hG (by kernel_rfl) (fun Θ K hΘ hK => ?_) | refine rgb hG (by kernel_rfl) (fun Θ K hΘ hK => ?_) | refine rgc defCl hG (by kernel_rfl) cl0 (by rfl) (by kernel_rfl) (fun Θ K hΘ hcl hn0 hK => ?_) | refine rgd defCl hG (by kernel_rfl) cl0 (by rfl) (by kernel_rfl) (fun Θ K hΘ hcl hn0 hK => ?_)); simp (maxSteps := 2000000) only [go_sem, seval, reduceCtorEq, List.append_eq, f2, g1, v1, v2, v3, v4, v5, v6, v7, v8, hw]) | ((first | refine Post.splitN (fun gg => ?_) (fun gg => ?_) | refine PostB.splitN (fun gg => ?_) (fun gg => ?_) | refine Post.split (fun gg => ?_) (fun gg => ?_) | refine PostB.split (fun gg => ?_) (fun gg => ?_)) <;> simp (maxSteps := 2000000) only [go_sem, seval, reduceCtorEq, List.append_eq, gg, f2, g1, v1, v2, v3, v4, v5, v6, v7, v8, hw]) | (refine finR (by simp only [go_sem, seval, reduceCtorEq, List.append_eq, f2, g1, v1, v2, v3, v4, v5, v6, v7, v8, hw]; exact rfl) ?_; simp only [go_sem, seval, reduceCtorEq, List.append_eq, f2, g1, v1, v2, v3, v4, v5, v6, v7, v8, hw]) | refine updL hM ?_ (by omega) | (with_reducible exact fun _ _ => rfl))
        all_goals (first | omega | (simp only [decide_eq_true_eq, decide_eq_false_iff_not] at *; omega) | (simp only [List.length_append, List.length_cons, List.length_nil] <;> omega) | exact one_bv _ | exact one_sv _ | skip)
        refine ⟨q + 1, by omega, by omega, sbs (by simp (maxSteps := 2000000) only [go_sem, seval, reduceCtorEq, List.append_eq]) (by rw [List.set_set]; rfl) rfl⟩
      · have f2 : ((q : Int) < 4) = False := eq_false (by omega)
        have e4 : q = 4 := by omega
        subst e4
        repeat' (first | (with_reducible first | refine pa ?_ | refine pb ?_ | refine pc ?_ | refine nxt_n ?_ | refine nxt_e ?_ | refine nxt_r ?_ | refine blk_n ?_ | refine blk_r ?_ | refine blk_hit ?_ | refine blk_miss (by rfl) ?_ | refine pd ?_ | refine pe ?_ | refine pf ?_ | refine pg ?_ | apply And.intro) | (refine hK _ ?_; first | clear hK K hn0 hcl hΘ Θ | clear hK K hΘ Θ) | (with_reducible first | refine cw1 ?_ | refine cw2 ?_ | exact cw3 | exact cw4) | ((with_reducible first | refine cw5 (fun gg => ?_) | refine cw6 (fun gg => ?_) | refine cw7 (fun gg => ?_)); try simp only [gg]) | refine cs1 hG rfl ?_ ?_ | refine cs2 hG rfl ?_ ?_ | ((first | refine rga hG (by kernel_rfl) (fun Θ K hΘ hK => ?_) | refine rgb hG (by kernel_rfl) (fun Θ K hΘ hK => ?_) | refine rgc defCl hG (by kernel_rfl) cl0 (by rfl) (by kernel_rfl) (fun Θ K hΘ hcl hn0 hK => ?_) | refine rgd defCl hG (by kernel_rfl) cl0 (by rfl) (by kernel_rfl) (fun Θ K hΘ hcl hn0 hK => ?_)); simp (maxSteps := 2000000) only [go_sem, seval, reduceCtorEq, List.append_eq, f2, v1]) | ((first | refine Post.splitN (fun gg => ?_) (fun gg => ?_) | refine PostB.splitN (fun gg => ?_) (fun gg => ?_) | refine Post.split (fun gg => ?_) (fun gg => ?_) | refine PostB.split (fun gg => ?_) (fun gg => ?_)) <;> simp (maxSteps := 2000000) only [go_sem, seval, reduceCtorEq, List.append_eq, gg, f2, v1]) | (refine finR (by simp only [go_sem, seval, reduceCtorEq, List.append_eq, f2, v1]; exact rfl) ?_; simp only [go_sem, seval, reduceCtorEq, List.append_eq, f2, v1]) | refine updL hM ?_ (by omega) | (with_reducible exact fun _ _ => rfl))
        all_goals (first | omega | (simp only [decide_eq_true_eq, decide_eq_false_iff_not] at *; omega) | (simp only [List.length_append, List.length_cons, List.length_nil] <;> omega) | exact one_bv _ | exact one_sv _ | skip)
        refine ⟨i + 1, by omega, by omega, sbs (by simp (maxSteps := 2000000) only [go_sem, seval, reduceCtorEq, List.append_eq]) (by rw [wQ_4, wArr_lo h16]) rfl⟩
    have f1 : ((i : Int) < 16) = False := eq_false (by omega)
    have e16 : i = 16 := by omega
    subst e16
    repeat' (first | (with_reducible first | refine pa ?_ | refine pb ?_ | refine pc ?_ | refine nxt_n ?_ | refine nxt_e ?_ | refine nxt_r ?_ | refine blk_n ?_ | refine blk_r ?_ | refine blk_hit ?_ | refine blk_miss (by rfl) ?_ | refine pd ?_ | refine pe ?_ | refine pf ?_ | refine pg ?_ | apply And.intro) | (refine hK _ ?_; first | clear hK K hn0 hcl hΘ Θ | clear hK K hΘ Θ) | (with_reducible first | refine cw1 ?_ | refine cw2 ?_ | exact cw3 | exact cw4) | ((with_reducible first | refine cw5 (fun gg => ?_) | refine cw6 (fun gg => ?_) | refine cw7 (fun gg => ?_)); try simp only [gg]) | refine cs1 hG rfl ?_ ?_ | refine cs2 hG rfl ?_ ?_ | ((first | refine rga hG (by kernel_rfl) (fun Θ K hΘ hK => ?_) | refine rgb hG (by kernel_rfl) (fun Θ K hΘ hK => ?_) | refine rgc defCl hG (by kernel_rfl) cl0 (by rfl) (by kernel_rfl) (fun Θ K hΘ hcl hn0 hK => ?_) | refine rgd defCl hG (by kernel_rfl) cl0 (by rfl) (by kernel_rfl) (fun Θ K hΘ hcl hn0 hK => ?_)); simp (maxSteps := 2000000) only [go_sem, seval, reduceCtorEq, List.append_eq, f1]) | ((first | refine Post.splitN (fun gg => ?_) (fun gg => ?_) | refine PostB.splitN (fun gg => ?_) (fun gg => ?_) | refine Post.split (fun gg => ?_) (fun gg => ?_) | refine PostB.split (fun gg => ?_) (fun gg => ?_)) <;> simp (maxSteps := 2000000) only [go_sem, seval, reduceCtorEq, List.append_eq, gg, f1]) | (refine finR (by simp only [go_sem, seval, reduceCtorEq, List.append_eq, f1]; exact rfl) ?_; simp only [go_sem, seval, reduceCtorEq, List.append_eq, f1]) | refine updL hM ?_ (by omega) | (with_reducible exact fun _ _ => rfl))
    all_goals (first | omega | (simp only [decide_eq_true_eq, decide_eq_false_iff_not] at *; omega) | (simp only [List.length_append, List.length_cons, List.length_nil] <;> omega) | exact one_bv _ | exact one_sv _ | skip)
    refine WC.loopA (fun i : Nat => ⟨[(12, .flat (.int .i64 i)), (9, .bs k 0 64 64), (8, .flat (.int .i64 at')), (5, .sl false 1 L.length (bv L)), (4, .bs (mn + 1 + 1) 0 64 64), (3, .bs (mn + 1) 0 8 8), (2, .bp mn 0)], upd (mB M mn h) k (some (uv (wArr p i))), k + 1⟩) (fun i => 64 - i) (fun i => 16 ≤ i ∧ i ≤ 64) 16 (by omega) (sbs (by simp (maxSteps := 2000000) only [go_sem, seval, reduceCtorEq, List.append_eq]) rfl rfl) ?_
    rintro j ⟨hj1, hj2⟩
    have hw := wArr_len p j
    by_cases h64 : j < 64
    · have f1 : ((j : Int) < 64) = True := eq_true (by omega)
      have g64 : (j < 64) = True := eq_true h64
      have v1 : IntKind.i64.wrap (j + 1) = ((j + 1 : Nat) : Int) := by rw [wi (by omega) (by omega)]; omega
      have a0 : IntKind.i64.wrap (j - 15) = ((j - 15 : Nat) : Int) := by rw [wi (by omega) (by omega)]; omega
      have a1 : IntKind.i64.wrap (j - 2) = ((j - 2 : Nat) : Int) := by rw [wi (by omega) (by omega)]; omega
      have a2 : IntKind.i64.wrap (j - 16) = ((j - 16 : Nat) : Int) := by rw [wi (by omega) (by omega)]; omega
      have a3 : IntKind.i64.wrap (j - 7) = ((j - 7 : Nat) : Int) := by rw [wi (by omega) (by omega)]; omega
      have b0 : (j - 15 < 64) = True := eq_true (by omega)
      have b1 : (j - 2 < 64) = True := eq_true (by omega)
      have b2 : (j - 16 < 64) = True := eq_true (by omega)
      have b3 : (j - 7 < 64) = True := eq_true (by omega)
      repeat' (first | (with_reducible first | refine pa ?_ | refine pb ?_ | refine pc ?_ | refine nxt_n ?_ | refine nxt_e ?_ | refine nxt_r ?_ | refine blk_n ?_ | refine blk_r ?_ | refine blk_hit ?_ | refine blk_miss (by rfl) ?_ | refine pd ?_ | refine pe ?_ | refine pf ?_ | refine pg ?_ | apply And.intro) | (refine hK _ ?_; first | clear hK K hn0 hcl hΘ Θ | clear hK K hΘ Θ) | (with_reducible first | refine cw1 ?_ | refine cw2 ?_ | exact cw3 | exact cw4) | ((with_reducible first | refine cw5 (fun gg => ?_) | refine cw6 (fun gg => ?_) | refine cw7 (fun gg => ?_)); try simp only [gg]) | refine cs1 hG rfl ?_ ?_ | refine cs2 hG rfl ?_ ?_ | ((first | refine kf (fun M n => turn_sp _ _ (by decide) M n) rfl (by decide) cl0 hΘ hcl hn0 ?_ | refine rga hG (by kernel_rfl) (fun Θ K hΘ hK => ?_) | refine rgb hG (by kernel_rfl) (fun Θ K hΘ hK => ?_) | refine rgc defCl hG (by kernel_rfl) cl0 (by rfl) (by kernel_rfl) (fun Θ K hΘ hcl hn0 hK => ?_) | refine rgd defCl hG (by kernel_rfl) cl0 (by rfl) (by kernel_rfl) (fun Θ K hΘ hcl hn0 hK => ?_)); simp (maxSteps := 2000000) only [go_sem, seval, reduceCtorEq, List.append_eq, f1, g64, v1, a0, a1, a2, a3, b0, b1, b2, b3, hw]) | ((first | refine Post.splitN (fun gg => ?_) (fun gg => ?_) | refine PostB.splitN (fun gg => ?_) (fun gg => ?_) | refine Post.split (fun gg => ?_) (fun gg => ?_) | refine PostB.split (fun gg => ?_) (fun gg => ?_)) <;> simp (maxSteps := 2000000) only [go_sem, seval, reduceCtorEq, List.append_eq, gg, f1, g64, v1, a0, a1, a2, a3, b0, b1, b2, b3, hw]) | (refine finR (by simp only [go_sem, seval, reduceCtorEq, List.append_eq, f1, g64, v1, a0, a1, a2, a3, b0, b1, b2, b3, hw]; exact rfl) ?_; simp only [go_sem, seval, reduceCtorEq, List.append_eq, f1, g64, v1, a0, a1, a2, a3, b0, b1, b2, b3, hw]) | refine updL hM ?_ (by omega) | (with_reducible exact fun _ _ => rfl))
      all_goals (first | omega | (simp only [decide_eq_true_eq, decide_eq_false_iff_not] at *; omega) | (simp only [List.length_append, List.length_cons, List.length_nil] <;> omega) | exact one_bv _ | exact one_sv _ | skip)
      refine ⟨j + 1, ⟨by omega, by omega⟩, by omega, sbs (by simp (maxSteps := 2000000) only [go_sem, seval, reduceCtorEq, List.append_eq]) (by rw [wArr_hi (by omega)]; rfl) rfl⟩
    have f1 : ((j : Int) < 64) = False := eq_false (by omega)
    have e64 : j = 64 := by omega
    subst e64
    generalize hW : wArr p 64 = W at hw ⊢
    repeat' (first | (with_reducible first | refine pa ?_ | refine pb ?_ | refine pc ?_ | refine nxt_n ?_ | refine nxt_e ?_ | refine nxt_r ?_ | refine blk_n ?_ | refine blk_r ?_ | refine blk_hit ?_ | refine blk_miss (by rfl) ?_ | refine pd ?_ | refine pe ?_ | refine pf ?_ | refine pg ?_ | apply And.intro) | (refine hK _ ?_; first | clear hK K hn0 hcl hΘ Θ | clear hK K hΘ Θ) | (with_reducible first | refine cw1 ?_ | refine cw2 ?_ | exact cw3 | exact cw4) | ((with_reducible first | refine cw5 (fun gg => ?_) | refine cw6 (fun gg => ?_) | refine cw7 (fun gg => ?_)); try simp only [gg]) | refine cs1 hG rfl ?_ ?_ | refine cs2 hG rfl ?_ ?_ | ((first | refine rga hG (by kernel_rfl) (fun Θ K hΘ hK => ?_) | refine rgb hG (by kernel_rfl) (fun Θ K hΘ hK => ?_) | refine rgc defCl hG (by kernel_rfl) cl0 (by rfl) (by kernel_rfl) (fun Θ K hΘ hcl hn0 hK => ?_) | refine rgd defCl hG (by kernel_rfl) cl0 (by rfl) (by kernel_rfl) (fun Θ K hΘ hcl hn0 hK => ?_)); simp (maxSteps := 2000000) only [go_sem, seval, reduceCtorEq, List.append_eq, f1, m1, hh]) | ((first | refine Post.splitN (fun gg => ?_) (fun gg => ?_) | refine PostB.splitN (fun gg => ?_) (fun gg => ?_) | refine Post.split (fun gg => ?_) (fun gg => ?_) | refine PostB.split (fun gg => ?_) (fun gg => ?_)) <;> simp (maxSteps := 2000000) only [go_sem, seval, reduceCtorEq, List.append_eq, gg, f1, m1, hh]) | (refine finR (by simp only [go_sem, seval, reduceCtorEq, List.append_eq, f1, m1, hh]; exact rfl) ?_; simp only [go_sem, seval, reduceCtorEq, List.append_eq, f1, m1, hh]) | refine updL hM ?_ (by omega) | (with_reducible exact fun _ _ => rfl))
    all_goals (first | omega | (simp only [decide_eq_true_eq, decide_eq_false_iff_not] at *; omega) | (simp only [List.length_append, List.length_cons, List.length_nil] <;> omega) | exact one_bv _ | exact one_sv _ | skip)
    refine WC.loopA (fun i : Nat => ⟨[(16, .flat (.int .i64 i)), (15, .sl false 1 8 (uv (rounds h W i))), (9, .bs k 0 64 64), (8, .flat (.int .i64 at')), (5, .sl false 1 L.length (bv L)), (4, .bs (mn + 1 + 1) 0 64 64), (3, .bs (mn + 1) 0 8 8), (2, .bp mn 0)], upd (mB M mn h) k (some (uv W)), k + 1⟩) (fun i => 64 - i) (fun i => i ≤ 64) 0 (by omega) (sbs (by simp (maxSteps := 2000000) only [go_sem, seval, reduceCtorEq, List.append_eq, Int.natCast_zero, rounds]) rfl rfl) ?_
    intro j hj2
    have hv := rounds_len h W hh j
    generalize hV : rounds h W j = v at hv ⊢
    by_cases h64 : j < 64
    · have f1 : ((j : Int) < 64) = True := eq_true (by omega)
      have g64 : (j < 64) = True := eq_true h64
      have v1 : IntKind.i64.wrap (j + 1) = ((j + 1 : Nat) : Int) := by rw [wi (by omega) (by omega)]; omega
      have hR : uv (rounds h W (j + 1)) = uv (rnd v (roundN.getD j 0) (W.getD j 0)) := by rw [rounds, hV]
      repeat' (first | (with_reducible first | refine pa ?_ | refine pb ?_ | refine pc ?_ | refine nxt_n ?_ | refine nxt_e ?_ | refine nxt_r ?_ | refine blk_n ?_ | refine blk_r ?_ | refine blk_hit ?_ | refine blk_miss (by rfl) ?_ | refine pd ?_ | refine pe ?_ | refine pf ?_ | refine pg ?_ | apply And.intro) | (refine hK _ ?_; first | clear hK K hn0 hcl hΘ Θ | clear hK K hΘ Θ) | (with_reducible first | refine cw1 ?_ | refine cw2 ?_ | exact cw3 | exact cw4) | ((with_reducible first | refine cw5 (fun gg => ?_) | refine cw6 (fun gg => ?_) | refine cw7 (fun gg => ?_)); try simp only [gg]) | refine cs1 hG rfl ?_ ?_ | refine cs2 hG rfl ?_ ?_ | ((first | refine kf (fun M n => turn_sp _ _ (by decide) M n) rfl (by decide) cl0 hΘ hcl hn0 ?_ | refine rga hG (by kernel_rfl) (fun Θ K hΘ hK => ?_) | refine rgb hG (by kernel_rfl) (fun Θ K hΘ hK => ?_) | refine rgc defCl hG (by kernel_rfl) cl0 (by rfl) (by kernel_rfl) (fun Θ K hΘ hcl hn0 hK => ?_) | refine rgd defCl hG (by kernel_rfl) cl0 (by rfl) (by kernel_rfl) (fun Θ K hΘ hcl hn0 hK => ?_)); simp (maxSteps := 2000000) only [go_sem, seval, reduceCtorEq, List.append_eq, f1, g64, v1, hw, hv, m2]) | ((first | refine Post.splitN (fun gg => ?_) (fun gg => ?_) | refine PostB.splitN (fun gg => ?_) (fun gg => ?_) | refine Post.split (fun gg => ?_) (fun gg => ?_) | refine PostB.split (fun gg => ?_) (fun gg => ?_)) <;> simp (maxSteps := 2000000) only [go_sem, seval, reduceCtorEq, List.append_eq, gg, f1, g64, v1, hw, hv, m2]) | (refine finR (by simp only [go_sem, seval, reduceCtorEq, List.append_eq, f1, g64, v1, hw, hv, m2]; exact rfl) ?_; simp only [go_sem, seval, reduceCtorEq, List.append_eq, f1, g64, v1, hw, hv, m2]) | refine updL hM ?_ (by omega) | (with_reducible exact fun _ _ => rfl))
      all_goals (first | omega | (simp only [decide_eq_true_eq, decide_eq_false_iff_not] at *; omega) | (simp only [List.length_append, List.length_cons, List.length_nil] <;> omega) | exact one_bv _ | exact one_sv _ | skip)
      refine ⟨j + 1, by omega, by omega, sbs (by simp (maxSteps := 2000000) only [go_sem, seval, reduceCtorEq, List.append_eq, hR]; exact SubV.of_eq rfl) rfl rfl⟩
    have f1 : ((j : Int) < 64) = False := eq_false (by omega)
    have e64 : j = 64 := by omega
    subst e64
    repeat' (first | (with_reducible first | refine pa ?_ | refine pb ?_ | refine pc ?_ | refine nxt_n ?_ | refine nxt_e ?_ | refine nxt_r ?_ | refine blk_n ?_ | refine blk_r ?_ | refine blk_hit ?_ | refine blk_miss (by rfl) ?_ | refine pd ?_ | refine pe ?_ | refine pf ?_ | refine pg ?_ | apply And.intro) | (refine hK _ ?_; first | clear hK K hn0 hcl hΘ Θ | clear hK K hΘ Θ) | (with_reducible first | refine cw1 ?_ | refine cw2 ?_ | exact cw3 | exact cw4) | ((with_reducible first | refine cw5 (fun gg => ?_) | refine cw6 (fun gg => ?_) | refine cw7 (fun gg => ?_)); try simp only [gg]) | refine cs1 hG rfl ?_ ?_ | refine cs2 hG rfl ?_ ?_ | ((first | refine rga hG (by kernel_rfl) (fun Θ K hΘ hK => ?_) | refine rgb hG (by kernel_rfl) (fun Θ K hΘ hK => ?_) | refine rgc defCl hG (by kernel_rfl) cl0 (by rfl) (by kernel_rfl) (fun Θ K hΘ hcl hn0 hK => ?_) | refine rgd defCl hG (by kernel_rfl) cl0 (by rfl) (by kernel_rfl) (fun Θ K hΘ hcl hn0 hK => ?_)); simp (maxSteps := 2000000) only [go_sem, seval, reduceCtorEq, List.append_eq, f1]) | ((first | refine Post.splitN (fun gg => ?_) (fun gg => ?_) | refine PostB.splitN (fun gg => ?_) (fun gg => ?_) | refine Post.split (fun gg => ?_) (fun gg => ?_) | refine PostB.split (fun gg => ?_) (fun gg => ?_)) <;> simp (maxSteps := 2000000) only [go_sem, seval, reduceCtorEq, List.append_eq, gg, f1]) | (refine finR (by simp only [go_sem, seval, reduceCtorEq, List.append_eq, f1]; exact rfl) ?_; simp only [go_sem, seval, reduceCtorEq, List.append_eq, f1]) | refine updL hM ?_ (by omega) | (with_reducible exact fun _ _ => rfl))
    all_goals (first | omega | (simp only [decide_eq_true_eq, decide_eq_false_iff_not] at *; omega) | (simp only [List.length_append, List.length_cons, List.length_nil] <;> omega) | exact one_bv _ | exact one_sv _ | skip)
    have m4 : ∀ g y x, upd (upd (mB M mn g) k x) (mn + 1) (some (uv y)) = upd (mB M mn y) k x := fun g y x => by rw [upd_swap (by omega), mB_s]
    have m5 : ∀ g x, upd (mB M mn g) k x (mn + 1) = some (uv g) := fun g x => by rw [upd_ne _ _ (by omega), mB_h]
    refine WC.loopA (fun i : Nat => ⟨[(252, .flat (.int .i64 i)), (251, .flat (.int .i64 8)), (15, .sl false 1 8 (uv v)), (8, .flat (.int .i64 at')), (5, .sl false 1 L.length (bv L)), (4, .bs (mn + 1 + 1) 0 64 64), (3, .bs (mn + 1) 0 8 8), (2, .bp mn 0)], upd (mB M mn (addTo h v i)) k (some (uv W)), k + 1⟩) (fun i => 8 - i) (fun i => i ≤ 8) 0 (by omega) (sbs (by simp (maxSteps := 2000000) only [go_sem, seval, reduceCtorEq, List.append_eq, Int.natCast_zero]) rfl rfl) ?_
    intro j hj2
    have hg := addTo_len h v j
    rw [hh] at hg
    generalize hA : addTo h v j = g at hg ⊢
    by_cases h64 : j < 8
    · have f1 : ((j : Int) < 8) = True := eq_true (by omega)
      have g64 : (j < 8) = True := eq_true h64
      have v1 : IntKind.i64.wrap (j + 1) = ((j + 1 : Nat) : Int) := by rw [wi (by omega) (by omega)]; omega
      repeat' (first | (with_reducible first | refine pa ?_ | refine pb ?_ | refine pc ?_ | refine nxt_n ?_ | refine nxt_e ?_ | refine nxt_r ?_ | refine blk_n ?_ | refine blk_r ?_ | refine blk_hit ?_ | refine blk_miss (by rfl) ?_ | refine pd ?_ | refine pe ?_ | refine pf ?_ | refine pg ?_ | apply And.intro) | (refine hK _ ?_; first | clear hK K hn0 hcl hΘ Θ | clear hK K hΘ Θ) | (with_reducible first | refine cw1 ?_ | refine cw2 ?_ | exact cw3 | exact cw4) | ((with_reducible first | refine cw5 (fun gg => ?_) | refine cw6 (fun gg => ?_) | refine cw7 (fun gg => ?_)); try simp only [gg]) | refine cs1 hG rfl ?_ ?_ | refine cs2 hG rfl ?_ ?_ | ((first | refine rga hG (by kernel_rfl) (fun Θ K hΘ hK => ?_) | refine rgb hG (by kernel_rfl) (fun Θ K hΘ hK => ?_) | refine rgc defCl hG (by kernel_rfl) cl0 (by rfl) (by kernel_rfl) (fun Θ K hΘ hcl hn0 hK => ?_) | refine rgd defCl hG (by kernel_rfl) cl0 (by rfl) (by kernel_rfl) (fun Θ K hΘ hcl hn0 hK => ?_)); simp (maxSteps := 2000000) only [go_sem, seval, reduceCtorEq, List.append_eq, f1, g64, v1, hv, hg, m4, m5]) | ((first | refine Post.splitN (fun gg => ?_) (fun gg => ?_) | refine PostB.splitN (fun gg => ?_) (fun gg => ?_) | refine Post.split (fun gg => ?_) (fun gg => ?_) | refine PostB.split (fun gg => ?_) (fun gg => ?_)) <;> simp (maxSteps := 2000000) only [go_sem, seval, reduceCtorEq, List.append_eq, gg, f1, g64, v1, hv, hg, m4, m5]) | (refine finR (by simp only [go_sem, seval, reduceCtorEq, List.append_eq, f1, g64, v1, hv, hg, m4, m5]; exact rfl) ?_; simp only [go_sem, seval, reduceCtorEq, List.append_eq, f1, g64, v1, hv, hg, m4, m5]) | refine updL hM ?_ (by omega) | (with_reducible exact fun _ _ => rfl))
      all_goals (first | omega | (simp only [decide_eq_true_eq, decide_eq_false_iff_not] at *; omega) | (simp only [List.length_append, List.length_cons, List.length_nil] <;> omega) | exact one_bv _ | exact one_sv _ | skip)
      refine ⟨j + 1, by omega, by omega, sbs (by simp (maxSteps := 2000000) only [go_sem, seval, reduceCtorEq, List.append_eq]) (by rw [addTo, hA]) rfl⟩
    have f1 : ((j : Int) < 8) = False := eq_false (by omega)
    have e64 : j = 8 := by omega
    subst e64
    have v1 : IntKind.i64.wrap ((at' : Int) + 64) = ((64 * (i + 1) : Nat) : Int) := by rw [wi (by omega) (by omega)]; omega
    repeat' (first | (with_reducible first | refine pa ?_ | refine pb ?_ | refine pc ?_ | refine nxt_n ?_ | refine nxt_e ?_ | refine nxt_r ?_ | refine blk_n ?_ | refine blk_r ?_ | refine blk_hit ?_ | refine blk_miss (by rfl) ?_ | refine pd ?_ | refine pe ?_ | refine pf ?_ | refine pg ?_ | apply And.intro) | (refine hK _ ?_; first | clear hK K hn0 hcl hΘ Θ | clear hK K hΘ Θ) | (with_reducible first | refine cw1 ?_ | refine cw2 ?_ | exact cw3 | exact cw4) | ((with_reducible first | refine cw5 (fun gg => ?_) | refine cw6 (fun gg => ?_) | refine cw7 (fun gg => ?_)); try simp only [gg]) | refine cs1 hG rfl ?_ ?_ | refine cs2 hG rfl ?_ ?_ | ((first | refine rga hG (by kernel_rfl) (fun Θ K hΘ hK => ?_) | refine rgb hG (by kernel_rfl) (fun Θ K hΘ hK => ?_) | refine rgc defCl hG (by kernel_rfl) cl0 (by rfl) (by kernel_rfl) (fun Θ K hΘ hcl hn0 hK => ?_) | refine rgd defCl hG (by kernel_rfl) cl0 (by rfl) (by kernel_rfl) (fun Θ K hΘ hcl hn0 hK => ?_)); simp (maxSteps := 2000000) only [go_sem, seval, reduceCtorEq, List.append_eq, f1, v1]) | ((first | refine Post.splitN (fun gg => ?_) (fun gg => ?_) | refine PostB.splitN (fun gg => ?_) (fun gg => ?_) | refine Post.split (fun gg => ?_) (fun gg => ?_) | refine PostB.split (fun gg => ?_) (fun gg => ?_)) <;> simp (maxSteps := 2000000) only [go_sem, seval, reduceCtorEq, List.append_eq, gg, f1, v1]) | (refine finR (by simp only [go_sem, seval, reduceCtorEq, List.append_eq, f1, v1]; exact rfl) ?_; simp only [go_sem, seval, reduceCtorEq, List.append_eq, f1, v1]) | refine updL hM ?_ (by omega) | (with_reducible exact fun _ _ => rfl))
    all_goals (first | omega | (simp only [decide_eq_true_eq, decide_eq_false_iff_not] at *; omega) | (simp only [List.length_append, List.length_cons, List.length_nil] <;> omega) | exact one_bv _ | exact one_sv _ | skip)
    refine ⟨(g, i + 1, k + 1), ⟨hg, ?_, ?_, by simp only; omega⟩, by simp only; omega, Sub.of (by simp (maxSteps := 2000000) only [go_sem, seval, reduceCtorEq, List.append_eq]) (MemSub.upd (.refl _) (by simp only [mB]; rw [upd_ne _ _ (by omega), upd_ne _ _ (by omega), upd_ne _ _ (by omega)]; exact hM _ (by omega))) rfl⟩
    · rw [foldB_snoc, ← hf, hat, hP, compress, hW, hV, hA]
    · simp only
      have : L.length - at' ≥ 64 := by omega
      omega
  · have f0 : ((at' : Int) < (L.length : Int)) = False := eq_false (by omega)
    repeat' (first | (with_reducible first | refine pa ?_ | refine pb ?_ | refine pc ?_ | refine nxt_n ?_ | refine nxt_e ?_ | refine nxt_r ?_ | refine blk_n ?_ | refine blk_r ?_ | refine blk_hit ?_ | refine blk_miss (by rfl) ?_ | refine pd ?_ | refine pe ?_ | refine pf ?_ | refine pg ?_ | apply And.intro) | (refine hK _ ?_; first | clear hK K hn0 hcl hΘ Θ | clear hK K hΘ Θ) | (with_reducible first | refine cw1 ?_ | refine cw2 ?_ | exact cw3 | exact cw4) | ((with_reducible first | refine cw5 (fun gg => ?_) | refine cw6 (fun gg => ?_) | refine cw7 (fun gg => ?_)); try simp only [gg]) | refine cs1 hG rfl ?_ ?_ | refine cs2 hG rfl ?_ ?_ | ((first | refine rga hG (by kernel_rfl) (fun Θ K hΘ hK => ?_) | refine rgb hG (by kernel_rfl) (fun Θ K hΘ hK => ?_) | refine rgc defCl hG (by kernel_rfl) cl0 (by rfl) (by kernel_rfl) (fun Θ K hΘ hcl hn0 hK => ?_) | refine rgd defCl hG (by kernel_rfl) cl0 (by rfl) (by kernel_rfl) (fun Θ K hΘ hcl hn0 hK => ?_)); simp (maxSteps := 2000000) only [go_sem, seval, reduceCtorEq, List.append_eq, f0]) | ((first | refine Post.splitN (fun gg => ?_) (fun gg => ?_) | refine PostB.splitN (fun gg => ?_) (fun gg => ?_) | refine Post.split (fun gg => ?_) (fun gg => ?_) | refine PostB.split (fun gg => ?_) (fun gg => ?_)) <;> simp (maxSteps := 2000000) only [go_sem, seval, reduceCtorEq, List.append_eq, gg, f0]) | (refine finR (by simp only [go_sem, seval, reduceCtorEq, List.append_eq, f0]; exact rfl) ?_; simp only [go_sem, seval, reduceCtorEq, List.append_eq, f0]) | refine updL hM ?_ (by omega) | (with_reducible exact fun _ _ => rfl))
    all_goals (first | omega | (simp only [decide_eq_true_eq, decide_eq_false_iff_not] at *; omega) | (simp only [List.length_append, List.length_cons, List.length_nil] <;> omega) | exact one_bv _ | exact one_sv _ | skip)
    have hsw : h = shaW s := by rw [hf, shaW, hL, show i = L.length / 64 by omega]
    refine WC.loopA (fun i : Nat => ⟨[(268, .flat (.int .i64 i)), (20, .bp k 0), (3, .bs (mn + 1) 0 8 8), (2, .bp mn 0)], upd (mB M mn h) k (some (bv (dRef h i))), k + 1⟩) (fun i => 32 - i) (fun i => i ≤ 32) 0 (by omega) (sbs (by simp (maxSteps := 2000000) only [go_sem, seval, reduceCtorEq, List.append_eq, Int.natCast_zero, dRef]) rfl rfl) ?_
    intro j hj2
    have hd := dRef_len h j
    generalize hD : dRef h j = d at hd ⊢
    by_cases h32 : j < 32
    · have f1 : ((j : Int) < 32) = True := eq_true (by omega)
      have g1 : (j < 32) = True := eq_true h32
      have g2 : (j / 4 < 8) = True := eq_true (by omega)
      have v1 : IntKind.i64.wrap (j + 1) = ((j + 1 : Nat) : Int) := by rw [wi (by omega) (by omega)]; omega
      have v2 : quoI .i64 (j : Int) 4 = _ := quoN j 4 (by omega)
      have v3 : (j : Int).tmod 4 = _ := tmodN j 4
      have v4 : IntKind.i64.wrap (8 * ((j % 4 : Nat) : Int)) = ((8 * (j % 4) : Nat) : Int) := by rw [wi (by omega) (by omega)]; omega
      have v5 : IntKind.i64.wrap (24 - ((8 * (j % 4) : Nat) : Int)) = ((24 - 8 * (j % 4) : Nat) : Int) := by rw [wi (by omega) (by omega)]; omega
      have v6 : IntKind.u64.wrap ((24 - 8 * (j % 4) : Nat) : Int) = ((24 - 8 * (j % 4) : Nat) : Int) := wu (by omega) (by omega)
      have v7 : ∀ x : UInt32, shrI .u32 (x.toNat : Int) ((24 - 8 * (j % 4) : Nat) : Int) = _ := fun x => w_shrN x (24 - 8 * (j % 4)) (by omega)
      have m5 : ∀ g x, upd (mB M mn g) k x (mn + 1) = some (uv g) := fun g x => by rw [upd_ne _ _ (by omega), mB_h]
      repeat' (first | (with_reducible first | refine pa ?_ | refine pb ?_ | refine pc ?_ | refine nxt_n ?_ | refine nxt_e ?_ | refine nxt_r ?_ | refine blk_n ?_ | refine blk_r ?_ | refine blk_hit ?_ | refine blk_miss (by rfl) ?_ | refine pd ?_ | refine pe ?_ | refine pf ?_ | refine pg ?_ | apply And.intro) | (refine hK _ ?_; first | clear hK K hn0 hcl hΘ Θ | clear hK K hΘ Θ) | (with_reducible first | refine cw1 ?_ | refine cw2 ?_ | exact cw3 | exact cw4) | ((with_reducible first | refine cw5 (fun gg => ?_) | refine cw6 (fun gg => ?_) | refine cw7 (fun gg => ?_)); try simp only [gg]) | refine cs1 hG rfl ?_ ?_ | refine cs2 hG rfl ?_ ?_ | ((first | refine rga hG (by kernel_rfl) (fun Θ K hΘ hK => ?_) | refine rgb hG (by kernel_rfl) (fun Θ K hΘ hK => ?_) | refine rgc defCl hG (by kernel_rfl) cl0 (by rfl) (by kernel_rfl) (fun Θ K hΘ hcl hn0 hK => ?_) | refine rgd defCl hG (by kernel_rfl) cl0 (by rfl) (by kernel_rfl) (fun Θ K hΘ hcl hn0 hK => ?_)); simp (maxSteps := 2000000) only [go_sem, seval, reduceCtorEq, List.append_eq, f1, g1, g2, v1, v2, v3, v4, v5, v6, v7, hd, hh, m5]) | ((first | refine Post.splitN (fun gg => ?_) (fun gg => ?_) | refine PostB.splitN (fun gg => ?_) (fun gg => ?_) | refine Post.split (fun gg => ?_) (fun gg => ?_) | refine PostB.split (fun gg => ?_) (fun gg => ?_)) <;> simp (maxSteps := 2000000) only [go_sem, seval, reduceCtorEq, List.append_eq, gg, f1, g1, g2, v1, v2, v3, v4, v5, v6, v7, hd, hh, m5]) | (refine finR (by simp only [go_sem, seval, reduceCtorEq, List.append_eq, f1, g1, g2, v1, v2, v3, v4, v5, v6, v7, hd, hh, m5]; exact rfl) ?_; simp only [go_sem, seval, reduceCtorEq, List.append_eq, f1, g1, g2, v1, v2, v3, v4, v5, v6, v7, hd, hh, m5]) | refine updL hM ?_ (by omega) | (with_reducible exact fun _ _ => rfl))
      all_goals (first | omega | (simp only [decide_eq_true_eq, decide_eq_false_iff_not] at *; omega) | (simp only [List.length_append, List.length_cons, List.length_nil] <;> omega) | exact one_bv _ | exact one_sv _ | skip)
      refine ⟨j + 1, by omega, by omega, sbs (by simp (maxSteps := 2000000) only [go_sem, seval, reduceCtorEq, List.append_eq]) (by rw [dRef, hD]) rfl⟩
    have f1 : ((j : Int) < 32) = False := eq_false (by omega)
    have e32 : j = 32 := by omega
    subst e32
    have hq : d = (sha s).1 := by rw [← hD, dRef_32 h hh, hsw]; rfl
    subst hq
    have m6 : ∀ x, upd (mB M mn h) k x mn = some (bv z32.1) := fun x => by rw [upd_ne _ _ (by omega), mB, upd_ne _ _ (by omega), upd_ne _ _ (by omega), upd_same]
    repeat' (first | (with_reducible first | refine pa ?_ | refine pb ?_ | refine pc ?_ | refine nxt_n ?_ | refine nxt_e ?_ | refine nxt_r ?_ | refine blk_n ?_ | refine blk_r ?_ | refine blk_hit ?_ | refine blk_miss (by rfl) ?_ | refine pd ?_ | refine pe ?_ | refine pf ?_ | refine pg ?_ | apply And.intro) | (refine hK _ ?_; first | clear hK K hn0 hcl hΘ Θ | clear hK K hΘ Θ) | (with_reducible first | refine cw1 ?_ | refine cw2 ?_ | exact cw3 | exact cw4) | ((with_reducible first | refine cw5 (fun gg => ?_) | refine cw6 (fun gg => ?_) | refine cw7 (fun gg => ?_)); try simp only [gg]) | refine cs1 hG rfl ?_ ?_ | refine cs2 hG rfl ?_ ?_ | ((first | refine rga hG (by kernel_rfl) (fun Θ K hΘ hK => ?_) | refine rgb hG (by kernel_rfl) (fun Θ K hΘ hK => ?_) | refine rgc defCl hG (by kernel_rfl) cl0 (by rfl) (by kernel_rfl) (fun Θ K hΘ hcl hn0 hK => ?_) | refine rgd defCl hG (by kernel_rfl) cl0 (by rfl) (by kernel_rfl) (fun Θ K hΘ hcl hn0 hK => ?_)); simp (maxSteps := 2000000) only [go_sem, seval, reduceCtorEq, List.append_eq, f1, m6]) | ((first | refine Post.splitN (fun gg => ?_) (fun gg => ?_) | refine PostB.splitN (fun gg => ?_) (fun gg => ?_) | refine Post.split (fun gg => ?_) (fun gg => ?_) | refine PostB.split (fun gg => ?_) (fun gg => ?_)) <;> simp (maxSteps := 2000000) only [go_sem, seval, reduceCtorEq, List.append_eq, gg, f1, m6]) | (refine finR (by simp only [go_sem, seval, reduceCtorEq, List.append_eq, f1, m6]; exact rfl) ?_; simp only [go_sem, seval, reduceCtorEq, List.append_eq, f1, m6]) | refine updL hM ?_ (by omega) | (with_reducible exact fun _ _ => rfl))
    all_goals (first | omega | (simp only [decide_eq_true_eq, decide_eq_false_iff_not] at *; omega) | (simp only [List.length_append, List.length_cons, List.length_nil] <;> omega) | exact one_bv _ | exact one_sv _ | skip)
end Go.VL

set_option linter.unusedVariables false
set_option linter.unusedSimpArgs false
set_option maxRecDepth 100000
set_option maxHeartbeats 8000000
open Go.RowKit
namespace Go.VL
open Go.Proofs
theorem RSum_sp (p : List UInt8) (l : List (List UInt8)) (hp : p.length ≤ 100000000) (hs : total l ≤ 100000000) (hl : l.length ≤ 100000) : Rt 66 [.flat (.string (bs p)), .sl false 1 l.length (sv l)] (.agg (bv (shaSum p l).1)) := by
  have ht := total_cons p l
  have hb := listB_le (p :: l) (by omega) (by simp; omega)
  have e1 : 1 + l.length = (p :: l).length := by simp; omega
  simp only [List.length_cons] at hb
  intro M mn
  refine fnL (C := kc 11 [] []) (rs := [.cell 4 52]) envOk Tryd.func66 (by kernel_rfl) rfl rfl rfl rfl rfl rfl (lowAgg (FlatS.bv _)) ?_
  intro E hG hM
  repeat' (first | (with_reducible first | refine pa ?_ | refine pb ?_ | refine pc ?_ | refine nxt_n ?_ | refine nxt_e ?_ | refine nxt_r ?_ | refine blk_n ?_ | refine blk_r ?_ | refine blk_hit ?_ | refine blk_miss (by rfl) ?_ | refine pd ?_ | refine pe ?_ | refine pf ?_ | refine pg ?_ | apply And.intro) | (refine hK _ ?_; clear hK K hΘ Θ) | (with_reducible first | refine cw1 ?_ | refine cw2 ?_ | exact cw3 | exact cw4) | ((with_reducible first | refine cw5 (fun gg => ?_) | refine cw6 (fun gg => ?_) | refine cw7 (fun gg => ?_)); try simp only [gg]) | refine cs1 hG rfl ?_ ?_ | refine cs2 hG rfl ?_ ?_ | ((first | refine kg (RList_sp (p :: l) (by omega) (by simp; omega) _ _) rfl hΘ ?_ | refine kg (ROf_sp (listB (p :: l)) (by omega) _ _) rfl hΘ ?_ | refine rga hG (by kernel_rfl) (fun Θ K hΘ hK => ?_) | refine rgb hG (by kernel_rfl) (fun Θ K hΘ hK => ?_)); simp (maxSteps := 2000000) only [go_sem, seval, reduceCtorEq, List.append_eq, e1]) | ((first | refine Post.splitN (fun gg => ?_) (fun gg => ?_) | refine Post.split (fun gg => ?_) (fun gg => ?_)) <;> simp (maxSteps := 2000000) only [go_sem, seval, reduceCtorEq, List.append_eq, gg, e1]) | (refine finR (by simp only [go_sem, seval, reduceCtorEq, List.append_eq, e1]; exact rfl) ?_; simp only [go_sem, seval, reduceCtorEq, List.append_eq, e1]) | refine updL hM ?_ (by omega) | (with_reducible exact fun _ _ => rfl))
  all_goals (first | omega | (simp only [decide_eq_true_eq, decide_eq_false_iff_not] at *; omega) | (simp only [List.length_append, List.length_cons, List.length_nil] <;> omega) | exact one_bv _ | exact one_sv _ | skip)
  all_goals rfl
theorem RCut_sp (d : Id32) : Rt 65 [.agg (bv d.1)] (.agg (bv (cutE d).1)) := by
  have hd := d.2
  intro M mn
  refine fnL (C := kc 15 [] []) (rs := [.cell 2 31]) envOk Tryd.func65 (by kernel_rfl) rfl rfl rfl rfl rfl rfl (lowAgg (FlatS.bv _)) ?_
  intro E hG hM
  repeat' (first | (with_reducible first | refine pa ?_ | refine pb ?_ | refine pc ?_ | refine nxt_n ?_ | refine nxt_e ?_ | refine nxt_r ?_ | refine blk_n ?_ | refine blk_r ?_ | refine blk_hit ?_ | refine blk_miss (by rfl) ?_ | refine pd ?_ | refine pe ?_ | refine pf ?_ | refine pg ?_ | apply And.intro) | (refine hK _ ?_; clear hK K hΘ Θ) | (with_reducible first | refine cw1 ?_ | refine cw2 ?_ | exact cw3 | exact cw4) | ((with_reducible first | refine cw5 (fun gg => ?_) | refine cw6 (fun gg => ?_) | refine cw7 (fun gg => ?_)); try simp only [gg]) | refine cs1 hG rfl ?_ ?_ | refine cs2 hG rfl ?_ ?_ | ((first | refine rga hG (by kernel_rfl) (fun Θ K hΘ hK => ?_) | refine rgb hG (by kernel_rfl) (fun Θ K hΘ hK => ?_)); simp (maxSteps := 2000000) only [go_sem, seval, reduceCtorEq]) | ((first | refine Post.splitN (fun gg => ?_) (fun gg => ?_) | refine Post.split (fun gg => ?_) (fun gg => ?_)) <;> simp (maxSteps := 2000000) only [go_sem, seval, reduceCtorEq, gg]) | (refine finR (by simp only [go_sem, seval, reduceCtorEq]; exact rfl) ?_; simp only [go_sem, seval, reduceCtorEq]) | refine updL hM ?_ (by omega) | (with_reducible exact fun _ _ => rfl))
  all_goals (first | omega | (simp only [decide_eq_true_eq, decide_eq_false_iff_not] at *; omega) | (simp only [List.length_append, List.length_cons, List.length_nil] <;> omega) | exact one_bv _ | exact one_sv _ | skip)
  refine WC.loopA (fun q : Nat × Id16 => ⟨[(5, .flat (.int .i64 q.1)), (3, .bp (mn + 1 + 1) 0), (2, .bp (mn + 1) 0), (1, .bp mn 0)], upd (upd (upd M mn (some (bv d.1))) (mn + 1) (some (bv z16.1))) (mn + 1 + 1) (some (bv q.2.1)), mn + 1 + 1 + 1⟩) (fun q => 16 - q.1) (fun q => q.1 ≤ 16 ∧ q.2.1.take q.1 = d.1.take q.1) (0, z16) ⟨by simp, by simp⟩ (sbs (by simp (maxSteps := 2000000) only [go_sem, seval, reduceCtorEq, List.append_eq]) rfl rfl) ?_
  rintro ⟨i, l⟩ ⟨hi, hq⟩
  simp only at hi hq ⊢
  have hl := l.2
  by_cases h : i < 16
  · have f3 : ((i : Int) < 16) = True := eq_true (by omega)
    have g3 : (i < 16) = True := eq_true h
    have g4 : (i < 32) = True := eq_true (by omega)
    have v1 := wi1 (n := i) (by omega)
    repeat' (first | (with_reducible first | refine pa ?_ | refine pb ?_ | refine pc ?_ | refine nxt_n ?_ | refine nxt_e ?_ | refine nxt_r ?_ | refine blk_n ?_ | refine blk_r ?_ | refine blk_hit ?_ | refine blk_miss (by rfl) ?_ | refine pd ?_ | refine pe ?_ | refine pf ?_ | refine pg ?_ | apply And.intro) | (refine hK _ ?_; clear hK K hΘ Θ) | (with_reducible first | refine cw1 ?_ | refine cw2 ?_ | exact cw3 | exact cw4) | ((with_reducible first | refine cw5 (fun gg => ?_) | refine cw6 (fun gg => ?_) | refine cw7 (fun gg => ?_)); try simp only [gg]) | refine cs1 hG rfl ?_ ?_ | refine cs2 hG rfl ?_ ?_ | ((first | refine rga hG (by kernel_rfl) (fun Θ K hΘ hK => ?_) | refine rgb hG (by kernel_rfl) (fun Θ K hΘ hK => ?_)); simp (maxSteps := 2000000) only [go_sem, seval, reduceCtorEq, f3, g3, g4, v1, hd, hl]) | ((first | refine Post.splitN (fun gg => ?_) (fun gg => ?_) | refine Post.split (fun gg => ?_) (fun gg => ?_)) <;> simp (maxSteps := 2000000) only [go_sem, seval, reduceCtorEq, gg, f3, g3, g4, v1, hd, hl]) | (refine finR (by simp only [go_sem, seval, reduceCtorEq, f3, g3, g4, v1, hd, hl]; exact rfl) ?_; simp only [go_sem, seval, reduceCtorEq, f3, g3, g4, v1, hd, hl]) | refine updL hM ?_ (by omega) | (with_reducible exact fun _ _ => rfl))
    all_goals (first | omega | (simp only [decide_eq_true_eq, decide_eq_false_iff_not] at *; omega) | (simp only [List.length_append, List.length_cons, List.length_nil] <;> omega) | exact one_bv _ | exact one_sv _ | skip)
    exact ⟨(i + 1, ⟨l.1.set i (d.1.getD i 0), by rw [List.length_set]; exact l.2⟩), ⟨by simp only; omega, by simp only; rw [take_set_snoc _ _ _ (by omega), hq, take_snoc _ _ 0 (by omega)]⟩, by simp only; omega, (sbs (by simp (maxSteps := 2000000) only [go_sem, seval, reduceCtorEq, List.append_eq]) rfl rfl)⟩
  · have f3 : ((i : Int) < 16) = False := eq_false (by omega)
    have e : i = 16 := by omega
    subst e
    rw [List.take_of_length_le (by omega)] at hq
    have hle : l = cutE d := Subtype.ext hq
    subst hle
    repeat' (first | (with_reducible first | refine pa ?_ | refine pb ?_ | refine pc ?_ | refine nxt_n ?_ | refine nxt_e ?_ | refine nxt_r ?_ | refine blk_n ?_ | refine blk_r ?_ | refine blk_hit ?_ | refine blk_miss (by rfl) ?_ | refine pd ?_ | refine pe ?_ | refine pf ?_ | refine pg ?_ | apply And.intro) | (refine hK _ ?_; clear hK K hΘ Θ) | (with_reducible first | refine cw1 ?_ | refine cw2 ?_ | exact cw3 | exact cw4) | ((with_reducible first | refine cw5 (fun gg => ?_) | refine cw6 (fun gg => ?_) | refine cw7 (fun gg => ?_)); try simp only [gg]) | refine cs1 hG rfl ?_ ?_ | refine cs2 hG rfl ?_ ?_ | ((first | refine rga hG (by kernel_rfl) (fun Θ K hΘ hK => ?_) | refine rgb hG (by kernel_rfl) (fun Θ K hΘ hK => ?_)); simp (maxSteps := 2000000) only [go_sem, seval, reduceCtorEq, f3]) | ((first | refine Post.splitN (fun gg => ?_) (fun gg => ?_) | refine Post.split (fun gg => ?_) (fun gg => ?_)) <;> simp (maxSteps := 2000000) only [go_sem, seval, reduceCtorEq, gg, f3]) | (refine finR (by simp only [go_sem, seval, reduceCtorEq, f3]; exact rfl) ?_; simp only [go_sem, seval, reduceCtorEq, f3]) | refine updL hM ?_ (by omega) | (with_reducible exact fun _ _ => rfl))
    all_goals (first | omega | (simp only [decide_eq_true_eq, decide_eq_false_iff_not] at *; omega) | (simp only [List.length_append, List.length_cons, List.length_nil] <;> omega) | exact one_bv _ | exact one_sv _ | skip)
end Go.VL

set_option linter.unusedVariables false
set_option linter.unusedSimpArgs false
set_option maxRecDepth 100000
set_option maxHeartbeats 8000000
open Go.RowKit
namespace Go.VL
open Go.Proofs
theorem max0 (a : Int) : (if (0 : Int) > a then 0 else a) = ((a.toNat : Nat) : Int) := by split <;> omega
theorem tkE (x : Id16) : (bv x.1).take 16 = bv x.1 := by rw [bv_take, List.take_of_length_le (by rw [x.2]; omega)]
theorem plT_le (a b : Int) (ha : inR a) (hb : inR b) : (plT a b).length ≤ 18 := plT_len ⟨a, b⟩ ⟨ha, hb⟩
theorem step_tot (x : Id16) (a b : Int) (ha : inR a) (hb : inR b) (i : Nat) (hi : i < 9223372036854775808) : total [x.1, numB i, plT a b] ≤ 100 := by
  have h1 := plT_le a b ha hb
  have h2 := numB_length i hi
  have h3 := x.2
  simp only [total, List.map_cons, List.map_nil, List.sum_cons, List.sum_nil]; omega
theorem RNext_sp (x : Id16) (a b : Int) (ha : inR a) (hb : inR b) (i : Nat) (hi : i < 9223372036854775808) : Rt 120 [.agg (bv x.1), .flat (.int .i64 a), .flat (.int .i64 b), .flat (.int .i64 i)] (.agg (bv (stepE x a b i).1)) := by
  have h1 := max0 a
  have h2 := max0 b
  have h3 := step_tot x a b ha hb i hi
  have f16 := tkE x
  have n1 := numB_length a.toNat (by have := ha.2; omega)
  have n2 := numB_length b.toNat (by have := hb.2; omega)
  have m1 : a.toNat < 9223372036854775808 := by have := ha.2; omega
  have m2 : b.toNat < 9223372036854775808 := by have := hb.2; omega
  have hpl : numB a.toNat ++ numB b.toNat = plT a b := rfl
  have hst : cutE (shaSum [115] [x.1, numB i, plT a b]) = stepE x a b i := rfl
  intro M mn
  refine fnL (C := kc 23 [] []) (rs := [.cell 8 31]) envOk Tryd.func120 (by kernel_rfl) rfl rfl rfl rfl rfl rfl (lowAgg (FlatS.bv _)) ?_
  intro E hG hM
  repeat' (first | (with_reducible first | refine pa ?_ | refine pb ?_ | refine pc ?_ | refine nxt_n ?_ | refine nxt_e ?_ | refine nxt_r ?_ | refine blk_n ?_ | refine blk_r ?_ | refine blk_hit ?_ | refine blk_miss (by rfl) ?_ | refine pd ?_ | refine pe ?_ | refine pf ?_ | refine pg ?_ | apply And.intro) | (refine hK _ ?_; first | clear hK K hn0 hcl hΘ Θ | clear hK K hΘ Θ) | (with_reducible first | refine cw1 ?_ | refine cw2 ?_ | exact cw3 | exact cw4) | ((with_reducible first | refine cw5 (fun gg => ?_) | refine cw6 (fun gg => ?_) | refine cw7 (fun gg => ?_)); try simp only [gg]) | refine cs1 hG rfl ?_ ?_ | refine cs2 hG rfl ?_ ?_ | ((first | refine kf (fun M n => RNum_sp i hi M n) rfl (by decide) cl0 hΘ hcl hn0 ?_ | refine kf (fun M n => RNum_sp a.toNat m1 M n) rfl (by decide) cl0 hΘ hcl hn0 ?_ | refine kf (fun M n => RNum_sp b.toNat m2 M n) rfl (by decide) cl0 hΘ hcl hn0 ?_ | refine kf (fun M n => RSum_sp [115] [x.1, numB i, plT a b] (by simp) (by omega) (by simp) M n) rfl (by decide) cl0 hΘ hcl hn0 ?_ | refine kf (fun M n => RCut_sp (shaSum [115] [x.1, numB i, plT a b]) M n) rfl (by decide) cl0 hΘ hcl hn0 ?_ | refine rga hG (by kernel_rfl) (fun Θ K hΘ hK => ?_) | refine rgb hG (by kernel_rfl) (fun Θ K hΘ hK => ?_) | refine rgc defCl hG (by kernel_rfl) cl0 (by rfl) (by kernel_rfl) (fun Θ K hΘ hcl hn0 hK => ?_) | refine rgd defCl hG (by kernel_rfl) cl0 (by rfl) (by kernel_rfl) (fun Θ K hΘ hcl hn0 hK => ?_)); simp (maxSteps := 2000000) only [go_sem, seval, reduceCtorEq, h1, h2, f16, hpl, hst]) | ((first | refine Post.splitN (fun gg => ?_) (fun gg => ?_) | refine PostB.splitN (fun gg => ?_) (fun gg => ?_) | refine Post.split (fun gg => ?_) (fun gg => ?_) | refine PostB.split (fun gg => ?_) (fun gg => ?_)) <;> simp (maxSteps := 2000000) only [go_sem, seval, reduceCtorEq, gg, h1, h2, f16, hpl, hst]) | (refine finR (by simp only [go_sem, seval, reduceCtorEq, h1, h2, f16, hpl, hst]; exact rfl) ?_; simp only [go_sem, seval, reduceCtorEq, h1, h2, f16, hpl, hst]) | refine updL hM ?_ (by omega) | (with_reducible exact fun _ _ => rfl))
  all_goals (first | omega | (simp only [decide_eq_true_eq, decide_eq_false_iff_not] at *; omega) | (simp only [List.length_append, List.length_cons, List.length_nil] <;> omega) | exact one_bv _ | exact one_sv _ | skip)
theorem RWalk_sp (x : Id16) (a b : Int) (ha : inR a) (hb : inR b) (s t : Int) (hs : inR s) (ht : inR t) : Rt 99 [.agg (bv x.1), .flat (.int .i64 a), .flat (.int .i64 b), .flat (.int .i64 s), .flat (.int .i64 t)] (.agg (bv (walkE x a b s t).1)) := by
  obtain ⟨m, hms⟩ : ∃ m : Nat, m = (max s 0).toNat := ⟨_, rfl⟩
  obtain ⟨T, hTs⟩ : ∃ T : Int, T = min t 15 := ⟨_, rfl⟩
  have hmb : m < 9223372036854775808 := by have := hs.2; omega
  have hw : walkE x a b s t = walkN a b (T - m).toNat m x := by rw [walkE, hms, hTs]; congr 1; omega
  have main : ∀ (f1 : (s < 0) = True ∧ (m : Int) = 0 ∨ (s < 0) = False ∧ (m : Int) = s) (f2 : (t > 15) = True ∧ T = 15 ∨ (t > 15) = False ∧ T = t), Rt 99 [.agg (bv x.1), .flat (.int .i64 a), .flat (.int .i64 b), .flat (.int .i64 s), .flat (.int .i64 t)] (.agg (bv (walkE x a b s t).1)) := by
    intro f1 f2
    rcases f1 with ⟨f1, hm⟩ | ⟨f1, hm⟩ <;> rcases f2 with ⟨f2, hT⟩ | ⟨f2, hT⟩
    all_goals
      intro M mn
      refine fnL (C := kc 28 [] []) (rs := [.cell 10 31]) envOk Tryd.func99 (by kernel_rfl) rfl rfl rfl rfl rfl rfl (lowAgg (FlatS.bv _)) ?_
      intro E hG hM
      repeat' (first | (with_reducible first | refine pa ?_ | refine pb ?_ | refine pc ?_ | refine nxt_n ?_ | refine nxt_e ?_ | refine nxt_r ?_ | refine blk_n ?_ | refine blk_r ?_ | refine blk_hit ?_ | refine blk_miss (by rfl) ?_ | refine pd ?_ | refine pe ?_ | refine pf ?_ | refine pg ?_ | apply And.intro) | (refine hK _ ?_; clear hK K hΘ Θ) | (with_reducible first | refine cw1 ?_ | refine cw2 ?_ | exact cw3 | exact cw4) | ((with_reducible first | refine cw5 (fun gg => ?_) | refine cw6 (fun gg => ?_) | refine cw7 (fun gg => ?_)); try simp only [gg]) | refine cs1 hG rfl ?_ ?_ | refine cs2 hG rfl ?_ ?_ | ((first | refine rga hG (by kernel_rfl) (fun Θ K hΘ hK => ?_) | refine rgb hG (by kernel_rfl) (fun Θ K hΘ hK => ?_)); simp (maxSteps := 2000000) only [go_sem, seval, reduceCtorEq, f1, f2]) | ((first | refine Post.splitN (fun gg => ?_) (fun gg => ?_) | refine Post.split (fun gg => ?_) (fun gg => ?_)) <;> simp (maxSteps := 2000000) only [go_sem, seval, reduceCtorEq, gg, f1, f2]) | (refine finR (by simp only [go_sem, seval, reduceCtorEq, f1, f2]; exact rfl) ?_; simp only [go_sem, seval, reduceCtorEq, f1, f2]) | refine updL hM ?_ (by omega) | (with_reducible exact fun _ _ => rfl))
      all_goals (first | omega | (simp only [decide_eq_true_eq, decide_eq_false_iff_not] at *; omega) | (simp only [List.length_append, List.length_cons, List.length_nil] <;> omega) | exact one_bv _ | exact one_sv _ | skip)
      refine WC.loopA (fun q : Nat × Id16 => ⟨[(11, .flat (.int .i64 q.1)), (10, .bp (mn + 1) 0), (5, .bp mn 0), (4, .flat (.int .i64 T)), (1, .flat (.int .i64 a)), (2, .flat (.int .i64 b))], upd (upd M mn (some (bv q.2.1))) (mn + 1) (some (bv z16.1)), mn + 1 + 1⟩) (fun q => (T - q.1).toNat) (fun q => q.1 < 9223372036854775808 ∧ walkN a b (T - q.1).toNat q.1 q.2 = walkE x a b s t) (m, x) ⟨hmb, hw.symm⟩ (sbs (by simp (maxSteps := 2000000) only [go_sem, seval, reduceCtorEq, List.append_eq, hm, hT]) rfl rfl) ?_
      rintro ⟨i, y⟩ ⟨hi, hy⟩
      simp only at hi hy ⊢
      by_cases h : (i : Int) < T
      · have g1 := eq_true h
        have v1 := wi1 (n := i) (by omega)
        have hsw : ∀ (a b c : Option (List V)), upd (upd (upd M mn a) (mn + 1) b) mn c = upd (upd M mn c) (mn + 1) b := fun a b c => by rw [upd_swap (by omega), upd_upd]
        repeat' (first | (with_reducible first | refine pa ?_ | refine pb ?_ | refine pc ?_ | refine nxt_n ?_ | refine nxt_e ?_ | refine nxt_r ?_ | refine blk_n ?_ | refine blk_r ?_ | refine blk_hit ?_ | refine blk_miss (by rfl) ?_ | refine pd ?_ | refine pe ?_ | refine pf ?_ | refine pg ?_ | apply And.intro) | (refine hK _ ?_; clear hK K hΘ Θ) | (with_reducible first | refine cw1 ?_ | refine cw2 ?_ | exact cw3 | exact cw4) | ((with_reducible first | refine cw5 (fun gg => ?_) | refine cw6 (fun gg => ?_) | refine cw7 (fun gg => ?_)); try simp only [gg]) | refine cs1 hG rfl ?_ ?_ | refine cs2 hG rfl ?_ ?_ | ((first | refine kg (RNext_sp y a b ha hb i hi _ _) rfl hΘ ?_ | refine rga hG (by kernel_rfl) (fun Θ K hΘ hK => ?_) | refine rgb hG (by kernel_rfl) (fun Θ K hΘ hK => ?_)); simp (maxSteps := 2000000) only [go_sem, seval, reduceCtorEq, g1, v1, hsw]) | ((first | refine Post.splitN (fun gg => ?_) (fun gg => ?_) | refine Post.split (fun gg => ?_) (fun gg => ?_)) <;> simp (maxSteps := 2000000) only [go_sem, seval, reduceCtorEq, gg, g1, v1, hsw]) | (refine finR (by simp only [go_sem, seval, reduceCtorEq, g1, v1, hsw]; exact rfl) ?_; simp only [go_sem, seval, reduceCtorEq, g1, v1, hsw]) | refine updL hM ?_ (by omega) | (with_reducible exact fun _ _ => rfl))
        all_goals (first | omega | (simp only [decide_eq_true_eq, decide_eq_false_iff_not] at *; omega) | (simp only [List.length_append, List.length_cons, List.length_nil] <;> omega) | exact one_bv _ | exact one_sv _ | skip)
        refine ⟨(i + 1, stepE y a b i), ⟨by simp only; omega, ?_⟩, by simp only; omega, (sbs (by simp (maxSteps := 2000000) only [go_sem, seval, reduceCtorEq, List.append_eq]) rfl rfl)⟩
        simp only
        rw [← hy, show (T - i).toNat = (T - ((i + 1 : Nat) : Int)).toNat + 1 by omega]; rfl
      · have g1 := eq_false h
        have hy : y = walkE x a b s t := by rw [← hy, show (T - i).toNat = 0 by omega]; rfl
        rw [← hy]
        repeat' (first | (with_reducible first | refine pa ?_ | refine pb ?_ | refine pc ?_ | refine nxt_n ?_ | refine nxt_e ?_ | refine nxt_r ?_ | refine blk_n ?_ | refine blk_r ?_ | refine blk_hit ?_ | refine blk_miss (by rfl) ?_ | refine pd ?_ | refine pe ?_ | refine pf ?_ | refine pg ?_ | apply And.intro) | (refine hK _ ?_; clear hK K hΘ Θ) | (with_reducible first | refine cw1 ?_ | refine cw2 ?_ | exact cw3 | exact cw4) | ((with_reducible first | refine cw5 (fun gg => ?_) | refine cw6 (fun gg => ?_) | refine cw7 (fun gg => ?_)); try simp only [gg]) | refine cs1 hG rfl ?_ ?_ | refine cs2 hG rfl ?_ ?_ | ((first | refine rga hG (by kernel_rfl) (fun Θ K hΘ hK => ?_) | refine rgb hG (by kernel_rfl) (fun Θ K hΘ hK => ?_)); simp (maxSteps := 2000000) only [go_sem, seval, reduceCtorEq, g1]) | ((first | refine Post.splitN (fun gg => ?_) (fun gg => ?_) | refine Post.split (fun gg => ?_) (fun gg => ?_)) <;> simp (maxSteps := 2000000) only [go_sem, seval, reduceCtorEq, gg, g1]) | (refine finR (by simp only [go_sem, seval, reduceCtorEq, g1]; exact rfl) ?_; simp only [go_sem, seval, reduceCtorEq, g1]) | refine updL hM ?_ (by omega) | (with_reducible exact fun _ _ => rfl))
        all_goals (first | omega | (simp only [decide_eq_true_eq, decide_eq_false_iff_not] at *; omega) | (simp only [List.length_append, List.length_cons, List.length_nil] <;> omega) | exact one_bv _ | exact one_sv _ | skip)
  refine main ?_ ?_
  · by_cases h : s < 0
    · exact .inl ⟨eq_true h, by omega⟩
    · exact .inr ⟨eq_false h, by omega⟩
  · by_cases h : t > 15
    · exact .inl ⟨eq_true h, by omega⟩
    · exact .inr ⟨eq_false h, by omega⟩
theorem nib_even (x : List UInt8) (j : Nat) : nib x (2 * j) = (x.getD j 0).toNat / 16 := by
  unfold nib
  have := (x.getD j 0).toNat_lt
  rw [show 2 * j / 2 = j by omega, show 2 * j % 2 = 0 by omega]
  simp only [Nat.mul_zero, Nat.sub_zero, Nat.reducePow]; omega
theorem nib_odd (x : List UInt8) (j : Nat) : nib x (2 * j + 1) = (x.getD j 0).toNat % 16 := by
  unfold nib
  rw [show (2 * j + 1) / 2 = j by omega, show (2 * j + 1) % 2 = 1 by omega]
  simp
theorem take_two {α : Type} (l : List α) (i : Nat) (d : α) (h : i + 1 < l.length) : l.take (i + 1 + 1) = l.take i ++ [l.getD i d, l.getD (i + 1) d] := by
  rw [take_snoc l (i + 1) d h, take_snoc l i d (by omega)]; simp
theorem RDigits_sp (x : Id16) : Rt 105 [.agg (bv x.1)] (.sl true 1 35 (iv (digs x.1))) := by
  have hx := x.2
  have hdl := digs_len x.1
  intro M mn
  refine fnL (C := kc 41 [11, 31] []) (rs := [.tmp 2]) envOk Tryd.func105 (by kernel_rfl) rfl rfl rfl rfl rfl rfl (lowSl (FlatS.iv _)) ?_
  intro E hG hM
  repeat' (first | (with_reducible first | refine pa ?_ | refine pb ?_ | refine pc ?_ | refine nxt_n ?_ | refine nxt_e ?_ | refine nxt_r ?_ | refine blk_n ?_ | refine blk_r ?_ | refine blk_hit ?_ | refine blk_miss (by rfl) ?_ | refine pd ?_ | refine pe ?_ | refine pf ?_ | refine pg ?_ | apply And.intro) | (refine hK _ ?_; clear hK K hΘ Θ) | (with_reducible first | refine cw1 ?_ | refine cw2 ?_ | exact cw3 | exact cw4) | ((with_reducible first | refine cw5 (fun gg => ?_) | refine cw6 (fun gg => ?_) | refine cw7 (fun gg => ?_)); try simp only [gg]) | refine cs1 hG rfl ?_ ?_ | refine cs2 hG rfl ?_ ?_ | ((first | refine rga hG (by kernel_rfl) (fun Θ K hΘ hK => ?_) | refine rgb hG (by kernel_rfl) (fun Θ K hΘ hK => ?_)); simp (maxSteps := 2000000) only [go_sem, seval, reduceCtorEq, List.append_eq]) | ((first | refine Post.splitN (fun gg => ?_) (fun gg => ?_) | refine Post.split (fun gg => ?_) (fun gg => ?_)) <;> simp (maxSteps := 2000000) only [go_sem, seval, reduceCtorEq, List.append_eq, gg]) | (refine finR (by simp only [go_sem, seval, reduceCtorEq, List.append_eq]; exact rfl) ?_; simp only [go_sem, seval, reduceCtorEq, List.append_eq]) | refine updL hM ?_ (by omega) | (with_reducible exact fun _ _ => rfl))
  all_goals (first | omega | (simp only [decide_eq_true_eq, decide_eq_false_iff_not] at *; omega) | (simp only [List.length_append, List.length_cons, List.length_nil] <;> omega) | exact one_bv _ | exact one_sv _ | skip)
  refine WC.loopA (fun j : Nat => ⟨[(8, .flat (.int .i64 j)), (7, .agg (bv x.1)), (4, .flat (.int .i64 (lft x.1 (2 * j) : Nat))), (3, .sl true 1 ((digs x.1).take (2 * j)).length (iv ((digs x.1).take (2 * j)))), (1, .bp mn 0)], upd M mn (some (bv x.1)), mn + 1⟩) (fun j => 16 - j) (fun j => j ≤ 16) 0 (by omega) (sbs (by simp (maxSteps := 2000000) only [go_sem, seval, reduceCtorEq, List.append_eq, Nat.mul_zero, lft, List.length_nil]) rfl rfl) ?_
  intro j hj
  by_cases h : j < 16
  · have f1 : ((j : Int) < 16) = True := eq_true (by omega)
    have g1 : (j < 16) = True := eq_true h
    have v1 := wi1 (n := j) (by omega)
    have hN := take_two (digs x.1) (2 * j) 0 (by omega)
    rw [digs_get _ _ (by omega), digs_get _ _ (by omega), nib_even, nib_odd] at hN
    have hT : ((digs x.1).take (2 * j)).length = 2 * j := by rw [List.length_take]; omega
    have hl : lft x.1 (2 * j + 1 + 1) = lft x.1 (2 * j) + (15 - nib x.1 (2 * j)) + (15 - nib x.1 (2 * j + 1)) := rfl
    have h1 := nib_lt x.1 (2 * j)
    have h2 := nib_lt x.1 (2 * j + 1)
    have hlf := lft_le x.1 (2 * j)
    rw [nib_even, nib_odd] at hl
    rw [nib_even] at h1
    rw [nib_odd] at h2
    have e2 : 2 * (j + 1) = 2 * j + 1 + 1 := by omega
    generalize hc : (x.1.getD j 0) = c at *
    have hc2 := c.toNat_lt
    have v2 : IntKind.i64.wrap (c.toNat : Int) = (c.toNat : Int) := wi0 (by omega)
    have v3 : quoI .i64 (c.toNat : Int) 16 = _ := quoN c.toNat 16 (by omega)
    have v4 : (c.toNat : Int).tmod 16 = _ := tmodN c.toNat 16
    generalize lft x.1 (2 * j) = A at *
    have v5 : IntKind.i64.wrap ((A : Int) + 30) = ((A + 30 : Nat) : Int) := by rw [wi (by omega) (by omega)]; omega
    have v6 : IntKind.i64.wrap (((A + 30 : Nat) : Int) - ((c.toNat / 16 : Nat) : Int)) = ((A + 30 - c.toNat / 16 : Nat) : Int) := by rw [wi (by omega) (by omega)]; omega
    have v7 : IntKind.i64.wrap (((A + 30 - c.toNat / 16 : Nat) : Int) - ((c.toNat % 16 : Nat) : Int)) = ((lft x.1 (2 * j + 1 + 1) : Nat) : Int) := by rw [hl, wi (by omega) (by omega)]; omega
    generalize (digs x.1).take (2 * j) = D at *
    repeat' (first | (with_reducible first | refine pa ?_ | refine pb ?_ | refine pc ?_ | refine nxt_n ?_ | refine nxt_e ?_ | refine nxt_r ?_ | refine blk_n ?_ | refine blk_r ?_ | refine blk_hit ?_ | refine blk_miss (by rfl) ?_ | refine pd ?_ | refine pe ?_ | refine pf ?_ | refine pg ?_ | apply And.intro) | (refine hK _ ?_; clear hK K hΘ Θ) | (with_reducible first | refine cw1 ?_ | refine cw2 ?_ | exact cw3 | exact cw4) | ((with_reducible first | refine cw5 (fun gg => ?_) | refine cw6 (fun gg => ?_) | refine cw7 (fun gg => ?_)); try simp only [gg]) | refine cs1 hG rfl ?_ ?_ | refine cs2 hG rfl ?_ ?_ | ((first | refine rga hG (by kernel_rfl) (fun Θ K hΘ hK => ?_) | refine rgb hG (by kernel_rfl) (fun Θ K hΘ hK => ?_)); simp (maxSteps := 2000000) only [go_sem, seval, reduceCtorEq, List.append_eq, f1, g1, v1, v2, v3, v4, v5, v6, v7, hc, hx, hT]) | ((first | refine Post.splitN (fun gg => ?_) (fun gg => ?_) | refine Post.split (fun gg => ?_) (fun gg => ?_)) <;> simp (maxSteps := 2000000) only [go_sem, seval, reduceCtorEq, List.append_eq, gg, f1, g1, v1, v2, v3, v4, v5, v6, v7, hc, hx, hT]) | (refine finR (by simp only [go_sem, seval, reduceCtorEq, List.append_eq, f1, g1, v1, v2, v3, v4, v5, v6, v7, hc, hx, hT]; exact rfl) ?_; simp only [go_sem, seval, reduceCtorEq, List.append_eq, f1, g1, v1, v2, v3, v4, v5, v6, v7, hc, hx, hT]) | refine updL hM ?_ (by omega) | (with_reducible exact fun _ _ => rfl))
    all_goals (first | omega | (simp only [decide_eq_true_eq, decide_eq_false_iff_not] at *; omega) | (simp only [List.length_append, List.length_cons, List.length_nil] <;> omega) | exact one_bv _ | exact one_sv _ | skip)
    exact ⟨j + 1, by omega, by omega, (sbs (by simp (maxSteps := 2000000) only [go_sem, seval, reduceCtorEq, List.append_eq, e2, hN, List.length_append, List.length_cons, List.length_nil, hT]) rfl rfl)⟩
  · have f1 : ((j : Int) < 16) = False := eq_false (by omega)
    have e : j = 16 := by omega
    subst e
    have hT : ((digs x.1).take 32).length = 32 := by rw [List.length_take]; omega
    have hE : digs x.1 = (digs x.1).take 32 ++ [((lft x.1 32 / 256 : Nat) : Int), ((lft x.1 32 / 16 % 16 : Nat) : Int), ((lft x.1 32 % 16 : Nat) : Int)] := by
      rw [digs, List.take_left' (by simp)]
    have hlf := lft_le x.1 32
    simp only [Nat.reduceMul]
    generalize hD : (digs x.1).take 32 = D at *
    generalize lft x.1 32 = A at *
    have v3 : quoI .i64 (A : Int) 256 = _ := quoN A 256 (by omega)
    have v4 : quoI .i64 (A : Int) 16 = _ := quoN A 16 (by omega)
    have v5 : ((A / 16 : Nat) : Int).tmod 16 = _ := tmodN (A / 16) 16
    have v6 : (A : Int).tmod 16 = _ := tmodN A 16
    repeat' (first | (with_reducible first | refine pa ?_ | refine pb ?_ | refine pc ?_ | refine nxt_n ?_ | refine nxt_e ?_ | refine nxt_r ?_ | refine blk_n ?_ | refine blk_r ?_ | refine blk_hit ?_ | refine blk_miss (by rfl) ?_ | refine pd ?_ | refine pe ?_ | refine pf ?_ | refine pg ?_ | apply And.intro) | (refine hK _ ?_; clear hK K hΘ Θ) | (with_reducible first | refine cw1 ?_ | refine cw2 ?_ | exact cw3 | exact cw4) | ((with_reducible first | refine cw5 (fun gg => ?_) | refine cw6 (fun gg => ?_) | refine cw7 (fun gg => ?_)); try simp only [gg]) | refine cs1 hG rfl ?_ ?_ | refine cs2 hG rfl ?_ ?_ | ((first | refine rga hG (by kernel_rfl) (fun Θ K hΘ hK => ?_) | refine rgb hG (by kernel_rfl) (fun Θ K hΘ hK => ?_)); simp (maxSteps := 2000000) only [go_sem, seval, reduceCtorEq, List.append_eq, f1, v3, v4, v5, v6, hT]) | ((first | refine Post.splitN (fun gg => ?_) (fun gg => ?_) | refine Post.split (fun gg => ?_) (fun gg => ?_)) <;> simp (maxSteps := 2000000) only [go_sem, seval, reduceCtorEq, List.append_eq, gg, f1, v3, v4, v5, v6, hT]) | (refine finR (by simp only [go_sem, seval, reduceCtorEq, List.append_eq, f1, v3, v4, v5, v6, hT]; exact rfl) ?_; simp only [go_sem, seval, reduceCtorEq, List.append_eq, f1, v3, v4, v5, v6, hT]) | refine updL hM ?_ (by omega) | (with_reducible exact fun _ _ => rfl))
    all_goals (first | omega | (simp only [decide_eq_true_eq, decide_eq_false_iff_not] at *; omega) | (simp only [List.length_append, List.length_cons, List.length_nil] <;> omega) | exact one_bv _ | exact one_sv _ | skip)
    rw [hE]
end Go.VL

set_option linter.unusedVariables false
set_option linter.unusedSimpArgs false
set_option maxRecDepth 100000
set_option maxHeartbeats 8000000
open Go.RowKit
namespace Go.VL
open Go.Proofs
theorem R4num_sp (n : Int) (hn : n < 9223372036854775808) : Rt 121 [.flat (.int .i64 n)] (.flat (.string (bs (numB n.toNat)))) := by
  intro M mn
  refine fnL (C := kc 7 [] []) (rs := [.tmp 2]) envOk Tryd.func121 (by kernel_rfl) rfl rfl rfl rfl rfl rfl (Low.flat _) ?_
  intro E hG hM
  by_cases h : n < 0
  · have f1 := eq_true h
    have e : n.toNat = 0 := by omega
    repeat' (first | (with_reducible first | refine pa ?_ | refine pb ?_ | refine pc ?_ | refine nxt_n ?_ | refine nxt_e ?_ | refine nxt_r ?_ | refine blk_n ?_ | refine blk_r ?_ | refine blk_hit ?_ | refine blk_miss (by rfl) ?_ | refine pd ?_ | refine pe ?_ | refine pf ?_ | refine pg ?_ | apply And.intro) | (refine hK _ ?_; clear hK K hΘ Θ) | (with_reducible first | refine cw1 ?_ | refine cw2 ?_ | exact cw3 | exact cw4) | ((with_reducible first | refine cw5 (fun gg => ?_) | refine cw6 (fun gg => ?_) | refine cw7 (fun gg => ?_)); try simp only [gg]) | refine cs1 hG rfl ?_ ?_ | refine cs2 hG rfl ?_ ?_ | ((first | refine kg (RNum_sp 0 (by omega) _ _) rfl hΘ ?_ | refine rga hG (by kernel_rfl) (fun Θ K hΘ hK => ?_) | refine rgb hG (by kernel_rfl) (fun Θ K hΘ hK => ?_)); simp (maxSteps := 2000000) only [go_sem, seval, reduceCtorEq, f1, e]) | ((first | refine Post.splitN (fun gg => ?_) (fun gg => ?_) | refine Post.split (fun gg => ?_) (fun gg => ?_)) <;> simp (maxSteps := 2000000) only [go_sem, seval, reduceCtorEq, gg, f1, e]) | (refine finR (by simp only [go_sem, seval, reduceCtorEq, f1, e]; exact rfl) ?_; simp only [go_sem, seval, reduceCtorEq, f1, e]) | refine updL hM ?_ (by omega) | (with_reducible exact fun _ _ => rfl))
    all_goals (first | omega | (simp only [decide_eq_true_eq, decide_eq_false_iff_not] at *; omega) | (simp only [List.length_append, List.length_cons, List.length_nil] <;> omega) | exact one_bv _ | exact one_sv _ | skip)
  · have f1 := eq_false h
    have e : ((n.toNat : Nat) : Int) = n := by omega
    have hR := RNum_sp n.toNat (by omega)
    rw [e] at hR
    repeat' (first | (with_reducible first | refine pa ?_ | refine pb ?_ | refine pc ?_ | refine nxt_n ?_ | refine nxt_e ?_ | refine nxt_r ?_ | refine blk_n ?_ | refine blk_r ?_ | refine blk_hit ?_ | refine blk_miss (by rfl) ?_ | refine pd ?_ | refine pe ?_ | refine pf ?_ | refine pg ?_ | apply And.intro) | (refine hK _ ?_; clear hK K hΘ Θ) | (with_reducible first | refine cw1 ?_ | refine cw2 ?_ | exact cw3 | exact cw4) | ((with_reducible first | refine cw5 (fun gg => ?_) | refine cw6 (fun gg => ?_) | refine cw7 (fun gg => ?_)); try simp only [gg]) | refine cs1 hG rfl ?_ ?_ | refine cs2 hG rfl ?_ ?_ | ((first | refine kg (hR _ _) rfl hΘ ?_ | refine rga hG (by kernel_rfl) (fun Θ K hΘ hK => ?_) | refine rgb hG (by kernel_rfl) (fun Θ K hΘ hK => ?_)); simp (maxSteps := 2000000) only [go_sem, seval, reduceCtorEq, f1]) | ((first | refine Post.splitN (fun gg => ?_) (fun gg => ?_) | refine Post.split (fun gg => ?_) (fun gg => ?_)) <;> simp (maxSteps := 2000000) only [go_sem, seval, reduceCtorEq, gg, f1]) | (refine finR (by simp only [go_sem, seval, reduceCtorEq, f1]; exact rfl) ?_; simp only [go_sem, seval, reduceCtorEq, f1]) | refine updL hM ?_ (by omega) | (with_reducible exact fun _ _ => rfl))
    all_goals (first | omega | (simp only [decide_eq_true_eq, decide_eq_false_iff_not] at *; omega) | (simp only [List.length_append, List.length_cons, List.length_nil] <;> omega) | exact one_bv _ | exact one_sv _ | skip)
theorem R4Of_sp (e : List UInt8) (he : e.length ≤ 100000) (ix : Int) (hix : inR ix) : Rt 101 [.flat (.string (bs e)), .flat (.int .i64 ix)] (.agg (bv (leafE e ix).1)) := by
  have a1 : ix < 9223372036854775808 := by have := hix.2; omega
  have h1 := numB_length ix.toNat (by omega)
  have ht : total [e, numB ix.toNat] ≤ 100100 := by
    simp only [total, List.map_cons, List.map_nil, List.sum_cons, List.sum_nil]; omega
  have hst : cutE (shaSum [108] [e, numB ix.toNat]) = leafE e ix := rfl
  intro M mn
  refine fnL (C := kc 11 [] []) (rs := [.cell 4 31]) envOk Tryd.func101 (by kernel_rfl) rfl rfl rfl rfl rfl rfl (lowAgg (FlatS.bv _)) ?_
  intro E hG hM
  repeat' (first | (with_reducible first | refine pa ?_ | refine pb ?_ | refine pc ?_ | refine nxt_n ?_ | refine nxt_e ?_ | refine nxt_r ?_ | refine blk_n ?_ | refine blk_r ?_ | refine blk_hit ?_ | refine blk_miss (by rfl) ?_ | refine pd ?_ | refine pe ?_ | refine pf ?_ | refine pg ?_ | apply And.intro) | (refine hK _ ?_; clear hK K hΘ Θ) | (with_reducible first | refine cw1 ?_ | refine cw2 ?_ | exact cw3 | exact cw4) | ((with_reducible first | refine cw5 (fun gg => ?_) | refine cw6 (fun gg => ?_) | refine cw7 (fun gg => ?_)); try simp only [gg]) | refine cs1 hG rfl ?_ ?_ | refine cs2 hG rfl ?_ ?_ | ((first | refine kg (R4num_sp ix a1 _ _) rfl hΘ ?_ | refine kg (RSum_sp [108] [e, numB ix.toNat] (by simp) (by omega) (by simp) _ _) rfl hΘ ?_ | refine kg (RCut_sp (shaSum [108] [e, numB ix.toNat]) _ _) rfl hΘ ?_ | refine rga hG (by kernel_rfl) (fun Θ K hΘ hK => ?_) | refine rgb hG (by kernel_rfl) (fun Θ K hΘ hK => ?_)); simp (maxSteps := 2000000) only [go_sem, seval, reduceCtorEq, hst]) | ((first | refine Post.splitN (fun gg => ?_) (fun gg => ?_) | refine Post.split (fun gg => ?_) (fun gg => ?_)) <;> simp (maxSteps := 2000000) only [go_sem, seval, reduceCtorEq, gg, hst]) | (refine finR (by simp only [go_sem, seval, reduceCtorEq, hst]; exact rfl) ?_; simp only [go_sem, seval, reduceCtorEq, hst]) | refine updL hM ?_ (by omega) | (with_reducible exact fun _ _ => rfl))
  all_goals (first | omega | (simp only [decide_eq_true_eq, decide_eq_false_iff_not] at *; omega) | (simp only [List.length_append, List.length_cons, List.length_nil] <;> omega) | exact one_bv _ | exact one_sv _ | skip)
def fillC (l : List UInt8) (n i : Nat) : List UInt8 := l.take i ++ List.replicate (n - i) 0
theorem fillC_len (l : List UInt8) (n i : Nat) (h : i ≤ l.length) (hn : i ≤ n) : (fillC l n i).length = n := by simp [fillC]; omega
theorem fillC_set (l : List UInt8) (n i : Nat) (h : i < l.length) (hn : i < n) : (fillC l n i).set i (l.getD i 0) = fillC l n (i + 1) := by
  have hl : (l.take i).length = i := by simp; omega
  unfold fillC
  rw [List.set_append_right _ _ (by omega), hl, Nat.sub_self, show n - i = (n - (i + 1)) + 1 by omega, List.replicate_succ, List.set_cons_zero, take_snoc l i 0 h]; simp
theorem R4Meet_sp (s : List UInt8) (hs : s.length = 560) (ix : Int) (hix : inR ix) (d : Id16) : Rt 70 [.flat (.string (bs s)), .flat (.int .i64 ix), .agg (bv d.1)] (.tup [.agg (bv (meetE s ix d).1), .flat (.bool true)]) := by
  have hd := d.2
  have hdt : (bv d.1).take 16 = bv d.1 := tk16 d
  have hdl := digs_len d.1
  have f0 : ((s.length : Int) = 560) = True := eq_true (by omega)
  intro M mn
  refine fnL (C := kc 50 [] []) (rs := [.cell 6 31, .tmp 7]) envOk Tryd.func70 (by kernel_rfl) rfl rfl rfl rfl rfl rfl (lowTup (lowC1 (lowAgg (FlatS.bv _)) (lowC1 (Low.flat _) lowC0))) ?_
  intro E hG hM
  repeat' (first | (with_reducible first | refine pa ?_ | refine pb ?_ | refine pc ?_ | refine nxt_n ?_ | refine nxt_e ?_ | refine nxt_r ?_ | refine blk_n ?_ | refine blk_r ?_ | refine blk_hit ?_ | refine blk_miss (by rfl) ?_ | refine pd ?_ | refine pe ?_ | refine pf ?_ | refine pg ?_ | apply And.intro) | (refine hK _ ?_; clear hK K hΘ Θ) | (with_reducible first | refine cw1 ?_ | refine cw2 ?_ | exact cw3 | exact cw4) | ((with_reducible first | refine cw5 (fun gg => ?_) | refine cw6 (fun gg => ?_) | refine cw7 (fun gg => ?_)); try simp only [gg]) | refine cs1 hG rfl ?_ ?_ | refine cs2 hG rfl ?_ ?_ | ((first | refine kg (RDigits_sp d _ _) rfl hΘ ?_ | refine rga hG (by kernel_rfl) (fun Θ K hΘ hK => ?_) | refine rgb hG (by kernel_rfl) (fun Θ K hΘ hK => ?_)); simp (maxSteps := 2000000) only [go_sem, seval, reduceCtorEq, hd, hdt, f0]) | ((first | refine Post.splitN (fun gg => ?_) (fun gg => ?_) | refine Post.split (fun gg => ?_) (fun gg => ?_)) <;> simp (maxSteps := 2000000) only [go_sem, seval, reduceCtorEq, gg, hd, hdt, f0]) | (refine finR (by simp only [go_sem, seval, reduceCtorEq, hd, hdt, f0]; exact rfl) ?_; simp only [go_sem, seval, reduceCtorEq, hd, hdt, f0]) | refine updL hM ?_ (by omega) | (with_reducible exact fun _ _ => rfl))
  all_goals (first | omega | (simp only [decide_eq_true_eq, decide_eq_false_iff_not] at *; omega) | (simp only [List.length_append, List.length_cons, List.length_nil] <;> omega) | exact one_bv _ | exact one_sv _ | skip)
  refine WC.loopA (fun q : Nat × Mem × Nat => ⟨[(20, .flat (.int .i64 q.1)), (19, .flat (.int .i64 35)), (18, .sl false 1 35 (iv (digs d.1))), (8, .flat (.string (bs (endsN (meetF s ix d) q.1)))), (6, .bp (mn + 1) 0), (1, .flat (.int .i64 ix)), (0, .flat (.string (bs s)))], q.2.1, q.2.2⟩) (fun q => 35 - q.1) (fun q => q.1 ≤ 35 ∧ (∀ b, M b ≠ none → q.2.1 b = M b) ∧ q.2.1 (mn + 1) = some (bv z16.1) ∧ mn + 2 ≤ q.2.2) (0, upd (upd M mn (some (bv d.1))) (mn + 1) (some (bv z16.1)), mn + 2) ⟨by simp only; omega, updL (fun b hb => hM b (by omega)) (updL hM (fun _ _ => rfl) (by omega)) (by omega), upd_same _ _ _, Nat.le_refl _⟩ (sbs (by simp (maxSteps := 2000000) only [go_sem, seval, reduceCtorEq, List.append_eq, endsN_0]) rfl rfl) ?_
  rintro ⟨i, m, n⟩ ⟨hi, hk, h1, hn⟩
  simp only at hi hk h1 hn ⊢
  by_cases h : i < 35
  · have f1 : ((i : Int) < 35) = True := eq_true (by omega)
    have g1 : (i < 35) = True := eq_true h
    have v1 := wi1 (n := i) (by omega)
    have hc : inR (i : Int) := by unfold inR; omega
    have h15 : inR (15 : Int) := by unfold inR; omega
    have hW := RWalk_sp (partE s i) ix i hix hc ((digs d.1).getD i 0) 15 (digs_inR d i h) h15
    have hkf : walkE (partE s i) ix i ((digs d.1).getD i 0) 15 = meetF s ix d i := rfl
    have hel := endsN_len (meetF s ix d) i
    have hkl := (meetF s ix d i).2
    have hpl := (partE s i).2
    have hpt : (bv (partE s i).1).take 16 = bv (partE s i).1 := tk16 _
    have hA : endsN (meetF s ix d) i ++ (meetF s ix d i).1 = endsN (meetF s ix d) (i + 1) := rfl
    have hkt : (bv (meetF s ix d i).1).take 16 = bv (meetF s ix d i).1 := tk16 _
    repeat' (first | (with_reducible first | refine pa ?_ | refine pb ?_ | refine pc ?_ | refine nxt_n ?_ | refine nxt_e ?_ | refine nxt_r ?_ | refine blk_n ?_ | refine blk_r ?_ | refine blk_hit ?_ | refine blk_miss (by rfl) ?_ | refine pd ?_ | refine pe ?_ | refine pf ?_ | refine pg ?_ | apply And.intro) | (refine hK _ ?_; clear hK K hΘ Θ) | (with_reducible first | refine cw1 ?_ | refine cw2 ?_ | exact cw3 | exact cw4) | ((with_reducible first | refine cw5 (fun gg => ?_) | refine cw6 (fun gg => ?_) | refine cw7 (fun gg => ?_)); try simp only [gg]) | refine cs1 hG rfl ?_ ?_ | refine cs2 hG rfl ?_ ?_ | ((first | refine rga hG (by kernel_rfl) (fun Θ K hΘ hK => ?_) | refine rgb hG (by kernel_rfl) (fun Θ K hΘ hK => ?_)); simp (maxSteps := 2000000) only [go_sem, seval, reduceCtorEq, f1, g1, v1, hdl]) | ((first | refine Post.splitN (fun gg => ?_) (fun gg => ?_) | refine Post.split (fun gg => ?_) (fun gg => ?_)) <;> simp (maxSteps := 2000000) only [go_sem, seval, reduceCtorEq, gg, f1, g1, v1, hdl]) | (refine finR (by simp only [go_sem, seval, reduceCtorEq, f1, g1, v1, hdl]; exact rfl) ?_; simp only [go_sem, seval, reduceCtorEq, f1, g1, v1, hdl]) | refine updL hM ?_ (by omega) | (with_reducible exact fun _ _ => rfl))
    all_goals (first | omega | (simp only [decide_eq_true_eq, decide_eq_false_iff_not] at *; omega) | (simp only [List.length_append, List.length_cons, List.length_nil] <;> omega) | exact one_bv _ | exact one_sv _ | skip)
    refine WC.loopA (fun k : Nat => ⟨[(25, .flat (.int .i64 k)), (11, .bp n 0), (9, .flat (.int .i64 i)), (10, .flat (.int .i64 ((digs d.1).getD i 0))), (20, .flat (.int .i64 i)), (19, .flat (.int .i64 35)), (18, .sl false 1 35 (iv (digs d.1))), (8, .flat (.string (bs (endsN (meetF s ix d) i)))), (6, .bp (mn + 1) 0), (1, .flat (.int .i64 ix)), (0, .flat (.string (bs s)))], upd m n (some (bv (fillC (partE s i).1 16 k))), n + 1⟩) (fun k => 16 - k) (fun k => k ≤ 16) 0 (by omega) (sbs (by simp (maxSteps := 2000000) only [go_sem, seval, reduceCtorEq, List.append_eq]) rfl rfl) ?_
    intro k hk16
    by_cases h2 : k < 16
    · have f2 : ((k : Int) < 16) = True := eq_true (by omega)
      have g2 : (k < 16) = True := eq_true h2
      have v2 := wi1 (n := k) (by omega)
      have v3 : IntKind.i64.wrap (16 * (i : Int)) = ((16 * i : Nat) : Int) := by rw [wi (by omega) (by omega)]; omega
      have v4 : IntKind.i64.wrap (((16 * i : Nat) : Int) + (k : Int)) = ((16 * i + k : Nat) : Int) := by rw [wi (by omega) (by omega)]; omega
      have g3 : (16 * i + k < s.length) = True := eq_true (by omega)
      have hfl := fillC_len (partE s i).1 16 k (by omega) (by omega)
      have hget : s.getD (16 * i + k) 0 = (partE s i).1.getD k 0 := by simp [partE, List.getD_eq_getElem?_getD, h2]
      have hfs := fillC_set (partE s i).1 16 k (by omega) (by omega)
      repeat' (first | (with_reducible first | refine pa ?_ | refine pb ?_ | refine pc ?_ | refine nxt_n ?_ | refine nxt_e ?_ | refine nxt_r ?_ | refine blk_n ?_ | refine blk_r ?_ | refine blk_hit ?_ | refine blk_miss (by rfl) ?_ | refine pd ?_ | refine pe ?_ | refine pf ?_ | refine pg ?_ | apply And.intro) | (refine hK _ ?_; clear hK K hΘ Θ) | (with_reducible first | refine cw1 ?_ | refine cw2 ?_ | exact cw3 | exact cw4) | ((with_reducible first | refine cw5 (fun gg => ?_) | refine cw6 (fun gg => ?_) | refine cw7 (fun gg => ?_)); try simp only [gg]) | refine cs1 hG rfl ?_ ?_ | refine cs2 hG rfl ?_ ?_ | ((first | refine rga hG (by kernel_rfl) (fun Θ K hΘ hK => ?_) | refine rgb hG (by kernel_rfl) (fun Θ K hΘ hK => ?_)); simp (maxSteps := 2000000) only [go_sem, seval, reduceCtorEq, f2, g2, v2, v3, v4, g3, hfl, hget, hfs]) | ((first | refine Post.splitN (fun gg => ?_) (fun gg => ?_) | refine Post.split (fun gg => ?_) (fun gg => ?_)) <;> simp (maxSteps := 2000000) only [go_sem, seval, reduceCtorEq, gg, f2, g2, v2, v3, v4, g3, hfl, hget, hfs]) | (refine finR (by simp only [go_sem, seval, reduceCtorEq, f2, g2, v2, v3, v4, g3, hfl, hget, hfs]; exact rfl) ?_; simp only [go_sem, seval, reduceCtorEq, f2, g2, v2, v3, v4, g3, hfl, hget, hfs]) | refine updL hM ?_ (by omega) | (with_reducible exact fun _ _ => rfl))
      all_goals (first | omega | (simp only [decide_eq_true_eq, decide_eq_false_iff_not] at *; omega) | (simp only [List.length_append, List.length_cons, List.length_nil] <;> omega) | exact one_bv _ | exact one_sv _ | skip)
      exact ⟨k + 1, by omega, by omega, (sbs (by simp (maxSteps := 2000000) only [go_sem, seval, reduceCtorEq, List.append_eq]) rfl rfl)⟩
    · have f2 : ((k : Int) < 16) = False := eq_false (by omega)
      have e2 : k = 16 := by omega
      subst e2
      have hff : fillC (partE s i).1 16 16 = (partE s i).1 := by simp [fillC, List.take_of_length_le (Nat.le_of_eq hpl)]
      repeat' (first | (with_reducible first | refine pa ?_ | refine pb ?_ | refine pc ?_ | refine nxt_n ?_ | refine nxt_e ?_ | refine nxt_r ?_ | refine blk_n ?_ | refine blk_r ?_ | refine blk_hit ?_ | refine blk_miss (by rfl) ?_ | refine pd ?_ | refine pe ?_ | refine pf ?_ | refine pg ?_ | apply And.intro) | (refine hK _ ?_; clear hK K hΘ Θ) | (with_reducible first | refine cw1 ?_ | refine cw2 ?_ | exact cw3 | exact cw4) | ((with_reducible first | refine cw5 (fun gg => ?_) | refine cw6 (fun gg => ?_) | refine cw7 (fun gg => ?_)); try simp only [gg]) | refine cs1 hG rfl ?_ ?_ | refine cs2 hG rfl ?_ ?_ | ((first | refine kg (hW _ _) rfl hΘ ?_ | refine rga hG (by kernel_rfl) (fun Θ K hΘ hK => ?_) | refine rgb hG (by kernel_rfl) (fun Θ K hΘ hK => ?_)); simp (maxSteps := 2000000) only [go_sem, seval, reduceCtorEq, f2, hff, hpt, hkf, hkt, hA, v1]) | ((first | refine Post.splitN (fun gg => ?_) (fun gg => ?_) | refine Post.split (fun gg => ?_) (fun gg => ?_)) <;> simp (maxSteps := 2000000) only [go_sem, seval, reduceCtorEq, gg, f2, hff, hpt, hkf, hkt, hA, v1]) | (refine finR (by simp only [go_sem, seval, reduceCtorEq, f2, hff, hpt, hkf, hkt, hA, v1]; exact rfl) ?_; simp only [go_sem, seval, reduceCtorEq, f2, hff, hpt, hkf, hkt, hA, v1]) | refine updL hM ?_ (by omega) | (with_reducible exact fun _ _ => rfl))
      all_goals (first | omega | (simp only [decide_eq_true_eq, decide_eq_false_iff_not] at *; omega) | (simp only [List.length_append, List.length_cons, List.length_nil] <;> omega) | exact one_bv _ | exact one_sv _ | skip)
      exact ⟨(i + 1, upd m n (some (bv (meetF s ix d i).1)), n + 1), ⟨by simp only; omega, updL hM hk (by omega), by simp only; rw [upd_ne _ _ (by omega)]; exact h1, by simp only; omega⟩, by simp only; omega, (sbs (by simp (maxSteps := 2000000) only [go_sem, seval, reduceCtorEq, List.append_eq]) rfl rfl)⟩
  · have f1 : ((i : Int) < 35) = False := eq_false (by omega)
    have e : i = 35 := by omega
    subst e
    have hel := endsN_len (meetF s ix d) 35
    have hlf := R4Of_sp (endsN (meetF s ix d) 35) (by rw [hel]; omega) ix hix
    have hke : leafE (endsN (meetF s ix d) 35) ix = meetE s ix d := rfl
    rw [hke] at hlf
    repeat' (first | (with_reducible first | refine pa ?_ | refine pb ?_ | refine pc ?_ | refine nxt_n ?_ | refine nxt_e ?_ | refine nxt_r ?_ | refine blk_n ?_ | refine blk_r ?_ | refine blk_hit ?_ | refine blk_miss (by rfl) ?_ | refine pd ?_ | refine pe ?_ | refine pf ?_ | refine pg ?_ | apply And.intro) | (refine hK _ ?_; clear hK K hΘ Θ) | (with_reducible first | refine cw1 ?_ | refine cw2 ?_ | exact cw3 | exact cw4) | ((with_reducible first | refine cw5 (fun gg => ?_) | refine cw6 (fun gg => ?_) | refine cw7 (fun gg => ?_)); try simp only [gg]) | refine cs1 hG rfl ?_ ?_ | refine cs2 hG rfl ?_ ?_ | ((first | refine kg (hlf _ _) rfl hΘ ?_ | refine rga hG (by kernel_rfl) (fun Θ K hΘ hK => ?_) | refine rgb hG (by kernel_rfl) (fun Θ K hΘ hK => ?_)); simp (maxSteps := 2000000) only [go_sem, seval, reduceCtorEq, f1, h1]) | ((first | refine Post.splitN (fun gg => ?_) (fun gg => ?_) | refine Post.split (fun gg => ?_) (fun gg => ?_)) <;> simp (maxSteps := 2000000) only [go_sem, seval, reduceCtorEq, gg, f1, h1]) | (refine finR (by simp only [go_sem, seval, reduceCtorEq, f1, h1]; exact rfl) ?_; simp only [go_sem, seval, reduceCtorEq, f1, h1]) | refine updL hM ?_ (by omega) | (with_reducible exact fun _ _ => rfl))
    all_goals (first | omega | (simp only [decide_eq_true_eq, decide_eq_false_iff_not] at *; omega) | (simp only [List.length_append, List.length_cons, List.length_nil] <;> omega) | exact one_bv _ | exact one_sv _ | skip)
end Go.VL

set_option linter.unusedVariables false
set_option linter.unusedSimpArgs false
set_option maxRecDepth 100000
set_option maxHeartbeats 8000000
open Go.RowKit
namespace Go.VL
open Go.Proofs
theorem max0i (a : Int) : (if (0 : Int) > a then 0 else a) = ((a.toNat : Nat) : Int) := by split <;> omega
theorem RUp_sp (l r : Id16) (a b : Int) (ha : a < 9223372036854775808) (hb : b < 9223372036854775808) : Rt 102 [.agg (bv l.1), .agg (bv r.1), .flat (.int .i64 a), .flat (.int .i64 b)] (.agg (bv (upE l r a b).1)) := by
  have ht := up_tot l r a.toNat b.toNat (by omega) (by omega)
  have hst : cutE (shaSum [110] [l.1 ++ r.1, numB a.toNat, numB b.toNat]) = upE l r a b := rfl
  have hl := l.2
  have hr := r.2
  have f1 : (bv l.1).take 16 = bv l.1 := tk16 l
  have f2 : (bv r.1).take 16 = bv r.1 := tk16 r
  have m1 := max0i a
  have m2 := max0i b
  intro M mn
  refine fnL (C := kc 23 [] []) (rs := [.cell 8 31]) envOk Tryd.func102 (by kernel_rfl) rfl rfl rfl rfl rfl rfl (lowAgg (FlatS.bv _)) ?_
  intro E hG hM
  repeat' (first | (with_reducible first | refine pa ?_ | refine pb ?_ | refine pc ?_ | refine nxt_n ?_ | refine nxt_e ?_ | refine nxt_r ?_ | refine blk_n ?_ | refine blk_r ?_ | refine blk_hit ?_ | refine blk_miss (by rfl) ?_ | refine pd ?_ | refine pe ?_ | refine pf ?_ | refine pg ?_ | apply And.intro) | (refine hK _ ?_; first | clear hK K hn0 hcl hΘ Θ | clear hK K hΘ Θ) | (with_reducible first | refine cw1 ?_ | refine cw2 ?_ | exact cw3 | exact cw4) | ((with_reducible first | refine cw5 (fun gg => ?_) | refine cw6 (fun gg => ?_) | refine cw7 (fun gg => ?_)); try simp only [gg]) | refine cs1 hG rfl ?_ ?_ | refine cs2 hG rfl ?_ ?_ | ((first | refine kf (fun M n => RNum_sp a.toNat (by omega) M n) rfl (by decide) cl0 hΘ hcl hn0 ?_ | refine kf (fun M n => RNum_sp b.toNat (by omega) M n) rfl (by decide) cl0 hΘ hcl hn0 ?_ | refine kf (fun M n => RSum_sp [110] [l.1 ++ r.1, numB a.toNat, numB b.toNat] (by simp) (by omega) (by simp) M n) rfl (by decide) cl0 hΘ hcl hn0 ?_ | refine kf (fun M n => RCut_sp (shaSum [110] [l.1 ++ r.1, numB a.toNat, numB b.toNat]) M n) rfl (by decide) cl0 hΘ hcl hn0 ?_ | refine rga hG (by kernel_rfl) (fun Θ K hΘ hK => ?_) | refine rgb hG (by kernel_rfl) (fun Θ K hΘ hK => ?_) | refine rgc defCl hG (by kernel_rfl) cl0 (by rfl) (by kernel_rfl) (fun Θ K hΘ hcl hn0 hK => ?_) | refine rgd defCl hG (by kernel_rfl) cl0 (by rfl) (by kernel_rfl) (fun Θ K hΘ hcl hn0 hK => ?_)); simp (maxSteps := 2000000) only [go_sem, seval, reduceCtorEq, f1, f2, hst, m1, m2]) | ((first | refine Post.splitN (fun gg => ?_) (fun gg => ?_) | refine PostB.splitN (fun gg => ?_) (fun gg => ?_) | refine Post.split (fun gg => ?_) (fun gg => ?_) | refine PostB.split (fun gg => ?_) (fun gg => ?_)) <;> simp (maxSteps := 2000000) only [go_sem, seval, reduceCtorEq, gg, f1, f2, hst, m1, m2]) | (refine finR (by simp only [go_sem, seval, reduceCtorEq, f1, f2, hst, m1, m2]; exact rfl) ?_; simp only [go_sem, seval, reduceCtorEq, f1, f2, hst, m1, m2]) | refine updL hM ?_ (by omega) | (with_reducible exact fun _ _ => rfl))
  all_goals (first | omega | (simp only [decide_eq_true_eq, decide_eq_false_iff_not] at *; omega) | (simp only [List.length_append, List.length_cons, List.length_nil] <;> omega) | exact one_bv _ | exact one_sv _ | skip)
end Go.VL
