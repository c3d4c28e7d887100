/- Part TNum of the proof: made for this claim. -/
import Derived.Test.YtnajgcmdkmlimaaVL22
import Derived.Test.YtnajgcmdkmlimaaTEnv
set_option linter.unusedVariables false
set_option linter.unusedSimpArgs false
set_option maxRecDepth 100000
open Go.RowKit
namespace Go.VL
open Go.Proofs

def le (n : Nat) : List UInt8 := if h : n = 0 then [] else UInt8.ofNat (n % 256) :: le (n / 256)
theorem le_zero : le 0 = [] := by rw [le]; simp
theorem le_pos {n : Nat} (h : 0 < n) : le n = UInt8.ofNat (n % 256) :: le (n / 256) := by rw [le]; rw [dif_neg (by omega)]
theorem le_length : ∀ (k n : Nat), n < 256 ^ k → (le n).length ≤ k
  | 0, n, h => by have : n = 0 := by simpa using h
                  subst this; rw [le_zero]; simp
  | k + 1, n, h => by
    rcases Nat.eq_zero_or_pos n with rfl | hp
    · rw [le_zero]; simp
    · rw [le_pos hp]
      have := le_length k (n / 256) (by rw [Nat.div_lt_iff_lt_mul (by omega)]; rw [Nat.pow_succ] at h; exact h)
      simpa using this
def numB (n : Nat) : List UInt8 := UInt8.ofNat (le n).length :: (le n).reverse

theorem wrap_u8 (x : Nat) : IntKind.u8.wrap (x : Int) = ((UInt8.ofNat (x % 256)).toNat : Int) := by
  simp [IntKind.wrap, IntKind.bits, IntKind.signed]
theorem shr8 (x : Nat) : ((x : Int).fdiv (2 ^ min 8 IntKind.i64.bits)) = ((x / 256 : Nat) : Int) := by
  show ((x : Int).fdiv 256) = _
  rw [Int.fdiv_eq_ediv_of_nonneg _ (by omega)]
  omega


def c17 : Cfg := ⟨envH, envL, GL, 38, [13,29], []⟩
theorem c17H : c17.H = envH := rfl
theorem c17L : c17.L = envL := rfl
theorem c17n : c17.nt = 38 := rfl
theorem c17T : c17.T = [13,29] := rfl
theorem c17B : c17.B = [] := rfl
theorem c17g : c17.gl = GL := rfl
theorem Num_sp (n : Int) (hn : n < 9223372036854775808) (M : Nat → Option (List V)) (mn : Nat) : Sp Try.prog GL 48 [.flat (.int .i64 n)] M mn (fun r m k => r = .flat (.string (bs (numB n.toNat))) ∧ m = M ∧ k = mn) := by
  refine Sp.intro (C := c17) (fn := Try.f48) envOk Try.func48 (by kernel_rfl) rfl rfl (by simp [c17n]) (distinctT_one _) (by simp [noOwnB]) ?_
  intro E hG hM
  iterate 2
    repeat (with_reducible first | refine WC.block ?_ | refine WC.seq (WC.block ?_) | refine WC.seq (WC.seq ?_) | refine nxt_n ?_ | refine nxt_e ?_ | refine nxt_r ?_ | refine blk_n ?_ | refine blk_r ?_ | refine blk_hit ?_ | refine blk_miss (by rfl) ?_ | refine WC.skip ?_ | refine WC.exit ?_ | refine WC.ret ?_)
    first | refine WC.regionSeq envOk lenvOk hG (by kernel_rfl) (fun Θ K hΘ hK => ?_) | refine WC.region envOk lenvOk hG (by kernel_rfl) (fun Θ K hΘ hK => ?_)
    simp (maxSteps := 2000000) only [run, wantV, stepV, takeV, evR, evC, ev1, evO, constOk, ofConst, ofC1, isNilSl, flatOk, V.fzT, V.fz, S.set, argSl, Post, reduceIte, reduceCtorEq, ne_eq, not_false_eq_true, eq_self, true_and, and_self, Nat.reduceLT, Bool.false_eq_true, c17n]
    repeat' (with_reducible apply And.intro)
    any_goals (first | (refine hK _ ?_; (first | clear hK K hΘ Θ | clear hK K hn0 hcl hΘ Θ)) | omega | (simp only [List.length_append, List.length_cons, List.length_nil] <;> omega) | exact one_bv _ | exact one_sv _ | skip)
  refine WC.seq ?_
  repeat (with_reducible first | refine WC.block ?_ | refine WC.seq (WC.block ?_) | refine WC.seq (WC.seq ?_) | refine nxt_n ?_ | refine nxt_e ?_ | refine nxt_r ?_ | refine blk_n ?_ | refine blk_r ?_ | refine blk_hit ?_ | refine blk_miss (by rfl) ?_ | refine WC.skip ?_ | refine WC.exit ?_ | refine WC.ret ?_)
  first | refine WC.regionSeq envOk lenvOk hG (by kernel_rfl) (fun Θ K hΘ hK => ?_) | refine WC.region envOk lenvOk hG (by kernel_rfl) (fun Θ K hΘ hK => ?_)
  simp (maxSteps := 2000000) only [run, wantV, stepV, takeV, evR, evC, ev1, evO, lk, constOk, ofConst, ofC1, isNilSl, flatOk, V.fzT, V.fz, S.set, Post, mxV, bltV, reduceIte, reduceCtorEq, ne_eq, not_false_eq_true, eq_self, true_and, and_self, Nat.reduceLT, Nat.reduceEqDiff, Nat.reduceBEq, Bool.false_eq_true, List.contains, List.elem, List.map_cons, List.map_nil, c17n, c17T, c17g]
  repeat' (with_reducible apply And.intro)
  any_goals (first | (refine hK _ ?_; (first | clear hK K hΘ Θ | clear hK K hn0 hcl hΘ Θ)) | omega | (simp only [List.length_append, List.length_cons, List.length_nil] <;> omega) | exact one_bv _ | exact one_sv _ | skip)
  have hmax : (if (0 : Int) > n then 0 else n) = ((n.toNat : Nat) : Int) := by split <;> omega
  rw [hmax]
  refine WC.block ?_
  refine WC.loop (fun m σ => ∃ (pre : List UInt8), pre ++ le m = le n.toNat ∧ σ = ⟨[(4, .flat (.int .i64 m)), (3, .sl true 1 pre.length (bv pre))], M, mn⟩) (n0 := n.toNat) ⟨[], by simp, rfl⟩
    (Sub.of (by simp only [subL, lk, reduceIte, Nat.reduceEqDiff]; exact ⟨.refl _, .nil _ _, trivial⟩) (.refl _) rfl) ?_
  rintro x σ ⟨pre, hpre, rfl⟩
  have hl8 : (le n.toNat).length ≤ 8 := le_length 8 _ (by omega)
  have hl : pre.length ≤ 8 := by
    have := congrArg List.length hpre
    rw [List.length_append] at this; omega
  refine WC.seq ?_
  repeat (with_reducible first | refine WC.block ?_ | refine WC.seq (WC.block ?_) | refine WC.seq (WC.seq ?_) | refine nxt_n ?_ | refine nxt_e ?_ | refine nxt_r ?_ | refine blk_n ?_ | refine blk_r ?_ | refine blk_hit ?_ | refine blk_miss (by rfl) ?_ | refine WC.skip ?_ | refine WC.exit ?_ | refine WC.ret ?_)
  first | refine WC.regionSeq envOk lenvOk hG (by kernel_rfl) (fun Θ K hΘ hK => ?_) | refine WC.region envOk lenvOk hG (by kernel_rfl) (fun Θ K hΘ hK => ?_)
  simp (maxSteps := 2000000) only [run, wantV, stepV, takeV, evR, evC, ev1, evO, lk, constOk, ofConst, ofC1, isNilSl, flatOk, V.fzT, V.fz, S.set, Post, binV, binInt, reduceIte, reduceCtorEq, ne_eq, not_false_eq_true, eq_self, true_and, and_self, Nat.reduceLT, Nat.reduceEqDiff, Nat.reduceBEq, Bool.false_eq_true, List.contains, List.elem, c17n, c17T]
  repeat' (with_reducible apply And.intro)
  any_goals (first | (refine hK _ ?_; (first | clear hK K hΘ Θ | clear hK K hn0 hcl hΘ Θ)) | omega | (simp only [List.length_append, List.length_cons, List.length_nil] <;> omega) | exact one_bv _ | exact one_sv _ | skip)
  refine WC.cond hG (t := decide ((0:Int) < x)) (by simp [lk, evO]) (fun ht => ?_) (fun ht => ?_)
  · refine WC.skip ?_
    repeat' (with_reducible first | refine nxt_n ?_ | refine nxt_e ?_ | refine nxt_r ?_ | refine blk_n ?_ | refine blk_r ?_ | refine blk_hit ?_ | refine blk_miss (by rfl) ?_)
    have hx : 0 < x := by simpa using ht
    refine WC.seq (WC.block (WC.region envOk lenvOk hG (by kernel_rfl) (fun Θ K hΘ hK => ?_)))
    simp (maxSteps := 2000000) only [run, wantV, cvM, stepV, takeV, bslV, cvtV, appV, srcV, notIntT, evR, evC, ev1, evO, lk, constOk, ofConst, ofC1, isNilSl, flatOk, V.fzT, V.fz, V.cells, S.set, Post, cvV, fillV, nobs, reduceIte, reduceCtorEq, ne_eq, not_false_eq_true, eq_self, true_and, and_true, and_self, and_assoc, Nat.reduceLT, Nat.reduceLeDiff, Nat.reduceEqDiff, Nat.reduceBEq, Nat.reduceSub, Bool.false_eq_true, List.contains, List.elem, List.map_cons, List.map_nil, beq_self_eq_true, Nat.mul_one, Nat.zero_add, List.length_cons, List.length_nil, List.mem_cons, List.not_mem_nil, or_false, forall_eq, rep1, putV_z, maxLen, Nat.reducePow, bv_length, c17n, c17H, c17T, c17g, e3, e5, e53]
    repeat' (with_reducible apply And.intro)
    any_goals (first | (refine hK _ (blk_n (nxt_n ?_)); (first | clear hK K hΘ Θ | clear hK K hn0 hcl hΘ Θ)) | omega | (simp only [List.length_append, List.length_cons, List.length_nil] <;> omega) | exact one_bv _ | exact one_sv _ | skip)
    refine WC.region envOk lenvOk hG (by kernel_rfl) (fun Θ K hΘ hK => ?_)
    simp (maxSteps := 2000000) only [run, wantV, stepV, takeV, evR, evC, ev1, evO, lk, constOk, ofConst, ofC1, isNilSl, flatOk, V.fzT, V.fz, S.set, Post, binV, binInt, reduceIte, reduceCtorEq, ne_eq, not_false_eq_true, eq_self, true_and, and_self, Nat.reduceLT, Nat.reduceEqDiff, Nat.reduceBEq, Bool.false_eq_true, List.contains, List.elem, Int.reduceLE, Int.reduceToNat, c17n, c17T]
    repeat' (with_reducible apply And.intro)
    any_goals (first | (refine hK _ ?_; (first | clear hK K hΘ Θ | clear hK K hn0 hcl hΘ Θ)) | omega | (simp only [List.length_append, List.length_cons, List.length_nil] <;> omega) | exact one_bv _ | exact one_sv _ | skip)
    repeat' (with_reducible first | refine nxt_n ?_ | refine nxt_e ?_ | refine nxt_r ?_ | refine blk_n ?_ | refine blk_r ?_ | refine blk_hit ?_ | refine blk_miss (by rfl) ?_)
    rw [shr8, wrap_u8]
    refine ⟨x / 256, _, by omega, ?_, pre ++ [UInt8.ofNat (x % 256)], ?_, rfl⟩
    · exact Sub.of (by simp only [subL, lk, reduceIte, Nat.reduceEqDiff]; (repeat' (with_reducible apply And.intro)); all_goals first | exact SubV.refl _ | exact SubV.nil _ _ | exact SubV.fz _ _ _ | exact trivial | exact SubV.of_eq (by simp [bv, List.length_append])) (.refl _) rfl
    rw [List.append_assoc, ← hpre, le_pos hx]; rfl
  · refine WC.exit ?_
    repeat' (with_reducible first | refine nxt_n ?_ | refine nxt_e ?_ | refine nxt_r ?_ | refine blk_n ?_ | refine blk_r ?_ | refine blk_hit ?_ | refine blk_miss (by rfl) ?_)
    repeat (with_reducible first | refine WC.block ?_ | refine WC.seq (WC.block ?_) | refine WC.seq (WC.seq ?_) | refine nxt_n ?_ | refine nxt_e ?_ | refine nxt_r ?_ | refine blk_n ?_ | refine blk_r ?_ | refine blk_hit ?_ | refine blk_miss (by rfl) ?_ | refine WC.skip ?_ | refine WC.exit ?_ | refine WC.ret ?_)
    first | refine WC.regionSeq envOk lenvOk hG (by kernel_rfl) (fun Θ K hΘ hK => ?_) | refine WC.region envOk lenvOk hG (by kernel_rfl) (fun Θ K hΘ hK => ?_)
    simp (maxSteps := 2000000) only [run, wantV, cvM, stepV, takeV, bslV, cvtV, evR, evC, ev1, evO, lk, constOk, ofConst, ofC1, isNilSl, flatOk, V.known, V.fzT, V.fz, V.cells, S.set, Post, cvV, lenV, bltV, fillV, reduceIte, reduceCtorEq, ne_eq, not_false_eq_true, eq_self, true_and, and_self, Nat.reduceLT, Nat.reduceLeDiff, Nat.reduceEqDiff, Nat.reduceBEq, Bool.false_eq_true, List.contains, List.elem, List.map_cons, List.map_nil, Nat.mul_one, Nat.zero_add, List.length_cons, List.length_nil, List.mem_cons, List.not_mem_nil, or_false, forall_eq, rep1, putV_z, Nat.reducePow, c17n, c17H, c17T, c17g, e3, e5, e53]
    repeat' (with_reducible apply And.intro)
    any_goals (first | (refine hK _ ?_; (first | clear hK K hΘ Θ | clear hK K hn0 hcl hΘ Θ)) | omega | (simp only [List.length_append, List.length_cons, List.length_nil] <;> omega) | exact one_bv _ | exact one_sv _ | skip)
    have hx : x = 0 := by simpa using ht
    subst hx
    have hpe : pre = le n.toNat := by rw [← hpre, le_zero, List.append_nil]
    refine WC.seq ?_
    repeat (with_reducible first | refine WC.block ?_ | refine WC.seq (WC.block ?_) | refine WC.seq (WC.seq ?_) | refine nxt_n ?_ | refine nxt_e ?_ | refine nxt_r ?_ | refine blk_n ?_ | refine blk_r ?_ | refine blk_hit ?_ | refine blk_miss (by rfl) ?_ | refine WC.skip ?_ | refine WC.exit ?_ | refine WC.ret ?_)
    first | refine WC.regionSeq envOk lenvOk hG (by kernel_rfl) (fun Θ K hΘ hK => ?_) | refine WC.region envOk lenvOk hG (by kernel_rfl) (fun Θ K hΘ hK => ?_)
    simp (maxSteps := 2000000) only [run, wantV, stepV, takeV, evR, evC, ev1, evO, lk, constOk, ofConst, ofC1, isNilSl, flatOk, V.known, V.fzT, V.fz, S.set, Post, binV, binInt, lenV, bltV, reduceIte, reduceCtorEq, ne_eq, not_false_eq_true, eq_self, true_and, and_self, Nat.reduceLT, Nat.reduceEqDiff, Nat.reduceBEq, Bool.false_eq_true, List.contains, List.elem, List.map_cons, List.map_nil, decide_false, Int.reduceGT, nat0, c17n, c17H, c17T, c17g, e53]
    repeat' (with_reducible apply And.intro)
    any_goals (first | (refine hK _ ?_; (first | clear hK K hΘ Θ | clear hK K hn0 hcl hΘ Θ)) | omega | (simp only [List.length_append, List.length_cons, List.length_nil] <;> omega) | exact one_bv _ | exact one_sv _ | skip)
    rw [wrap_u8, show IntKind.i64.wrap ((pre.length : Int) - 1) = (pre.length : Int) - 1 from wi (by omega) (by omega)]
    refine WC.block ?_
    refine WC.loop (fun m σ => m ≤ pre.length ∧ σ = ⟨[(6, .flat (.int .i64 ((m : Int) - 1))), (3, .sl true 1 pre.length (bv pre)), (5, .sl true 1 (1 + (pre.length - m)) (bv (UInt8.ofNat pre.length :: (pre.drop m).reverse)))], M, mn⟩) (n0 := pre.length) ⟨Nat.le_refl _, rfl⟩
      (Sub.of (by simp only [subL, lk, reduceIte, Nat.reduceEqDiff]; rw [Nat.sub_self, List.drop_length, Nat.mod_eq_of_lt (by omega)]; exact ⟨.refl _, .refl _, .refl _, trivial⟩) (.refl _) rfl) ?_
    rintro m σ ⟨hm, rfl⟩
    refine WC.seq ?_
    repeat (with_reducible first | refine WC.block ?_ | refine WC.seq (WC.block ?_) | refine WC.seq (WC.seq ?_) | refine nxt_n ?_ | refine nxt_e ?_ | refine nxt_r ?_ | refine blk_n ?_ | refine blk_r ?_ | refine blk_hit ?_ | refine blk_miss (by rfl) ?_ | refine WC.skip ?_ | refine WC.exit ?_ | refine WC.ret ?_)
    first | refine WC.regionSeq envOk lenvOk hG (by kernel_rfl) (fun Θ K hΘ hK => ?_) | refine WC.region envOk lenvOk hG (by kernel_rfl) (fun Θ K hΘ hK => ?_)
    simp (maxSteps := 2000000) only [run, wantV, stepV, takeV, evR, evC, ev1, evO, lk, constOk, ofConst, ofC1, isNilSl, flatOk, V.fzT, V.fz, S.set, Post, binV, binInt, reduceIte, reduceCtorEq, ne_eq, not_false_eq_true, eq_self, true_and, and_self, Nat.reduceLT, Nat.reduceEqDiff, Nat.reduceBEq, Bool.false_eq_true, List.contains, List.elem, c17n, c17T]
    repeat' (with_reducible apply And.intro)
    any_goals (first | (refine hK _ ?_; (first | clear hK K hΘ Θ | clear hK K hn0 hcl hΘ Θ)) | omega | (simp only [List.length_append, List.length_cons, List.length_nil] <;> omega) | exact one_bv _ | exact one_sv _ | skip)
    refine WC.cond hG (t := decide ((0:Int) ≤ (m : Int) - 1)) (by simp [lk, evO]) (fun ht => ?_) (fun ht => ?_)
    · refine WC.skip ?_
      repeat' (with_reducible first | refine nxt_n ?_ | refine nxt_e ?_ | refine nxt_r ?_ | refine blk_n ?_ | refine blk_r ?_ | refine blk_hit ?_ | refine blk_miss (by rfl) ?_)
      have hm1 : 0 < m := by have := of_decide_eq_true ht; omega
      have hget : (bv pre).getD ((m : Int) - 1).toNat V.unk = .flat (.int .u8 (pre.getD (m - 1) 0).toNat) := by
        rw [show ((m : Int) - 1).toNat = m - 1 by omega]; exact bv_getD _ _ (by omega)
      have hdl : (UInt8.ofNat pre.length :: (pre.drop m).reverse).length = 1 + (pre.length - m) := by simp; omega
      refine WC.seq (WC.block (WC.region envOk lenvOk hG (by kernel_rfl) (fun Θ K hΘ hK => ?_)))
      simp (maxSteps := 2000000) only [run, wantV, stepV, takeV, takeCellV, bslV, appV, srcV, notIntT, evR, evC, ev1, evO, lk, constOk, ofConst, ofC1, isNilSl, flatOk, V.fzT, V.fz, V.cells, S.set, Post, iaV, ldV, fillV, mkV, nobs, reduceIte, reduceCtorEq, ne_eq, not_false_eq_true, eq_self, true_and, and_true, and_self, and_assoc, Nat.reduceLT, Nat.reduceLeDiff, Nat.reduceEqDiff, Nat.reduceBEq, Nat.reduceSub, Bool.false_eq_true, Bool.or_true, List.contains, List.elem, List.map_cons, List.map_nil, beq_self_eq_true, Nat.mul_one, Nat.zero_add, List.length_cons, List.length_nil, List.mem_cons, List.not_mem_nil, or_false, forall_eq, rep1, putV_z, maxLen, Nat.reducePow, bv_length, c17n, c17H, c17T, c17g, e5, e53, hget, hdl]
      repeat' (with_reducible apply And.intro)
      any_goals (first | (refine hK _ (blk_n (nxt_n ?_)); (first | clear hK K hΘ Θ | clear hK K hn0 hcl hΘ Θ)) | omega | (simp only [List.length_append, List.length_cons, List.length_nil] <;> omega) | exact one_bv _ | exact one_sv _ | skip)
      refine WC.region envOk lenvOk hG (by kernel_rfl) (fun Θ K hΘ hK => ?_)
      simp (maxSteps := 2000000) only [run, wantV, stepV, takeV, evR, evC, ev1, evO, lk, constOk, ofConst, ofC1, isNilSl, flatOk, V.fzT, V.fz, S.set, Post, binV, binInt, reduceIte, reduceCtorEq, ne_eq, not_false_eq_true, eq_self, true_and, and_self, Nat.reduceLT, Nat.reduceEqDiff, Nat.reduceBEq, Bool.false_eq_true, List.contains, List.elem, c17n, c17T]
      repeat' (with_reducible apply And.intro)
      any_goals (first | (refine hK _ ?_; (first | clear hK K hΘ Θ | clear hK K hn0 hcl hΘ Θ)) | omega | (simp only [List.length_append, List.length_cons, List.length_nil] <;> omega) | exact one_bv _ | exact one_sv _ | skip)
      repeat' (with_reducible first | refine nxt_n ?_ | refine nxt_e ?_ | refine nxt_r ?_ | refine blk_n ?_ | refine blk_r ?_ | refine blk_hit ?_ | refine blk_miss (by rfl) ?_)
      rw [wi (by omega) (by omega), show (m : Int) - 1 - 1 = ((m - 1 : Nat) : Int) - 1 by omega]
      have hrev : (pre.drop (m - 1)).reverse = (pre.drop m).reverse ++ [pre.getD (m - 1) 0] := by
        have := List.drop_eq_getElem_cons (l := pre) (i := m - 1) (by omega)
        rw [show m - 1 + 1 = m by omega] at this
        rw [this, List.reverse_cons, List.getD_eq_getElem?_getD, List.getElem?_eq_getElem (by omega)]; rfl
      refine ⟨m - 1, _, by omega, ?_, ⟨by omega, rfl⟩⟩
      refine Sub.of ?_ (.refl _) rfl
      rw [hrev, ← List.cons_append, bv_append, bv_one, show 1 + (pre.length - (m - 1)) = 1 + (pre.length - m) + 1 by omega]
      exact (by simp only [subL, lk, reduceIte, Nat.reduceEqDiff]; (repeat' (with_reducible apply And.intro)); all_goals first | exact SubV.refl _ | exact SubV.nil _ _ | exact SubV.fz _ _ _ | exact trivial | exact SubV.of_eq (by simp [bv, List.length_append]))
    · refine WC.exit ?_
      repeat' (with_reducible first | refine nxt_n ?_ | refine nxt_e ?_ | refine nxt_r ?_ | refine blk_n ?_ | refine blk_r ?_ | refine blk_hit ?_ | refine blk_miss (by rfl) ?_)
      have hdl : (UInt8.ofNat pre.length :: (pre.drop m).reverse).length = 1 + (pre.length - m) := by simp; omega
      repeat (with_reducible first | refine WC.block ?_ | refine WC.seq (WC.block ?_) | refine WC.seq (WC.seq ?_) | refine nxt_n ?_ | refine nxt_e ?_ | refine nxt_r ?_ | refine blk_n ?_ | refine blk_r ?_ | refine blk_hit ?_ | refine blk_miss (by rfl) ?_ | refine WC.skip ?_ | refine WC.exit ?_ | refine WC.ret ?_)
      first | refine WC.regionSeq envOk lenvOk hG (by kernel_rfl) (fun Θ K hΘ hK => ?_) | refine WC.region envOk lenvOk hG (by kernel_rfl) (fun Θ K hΘ hK => ?_)
      simp (maxSteps := 2000000) only [run, wantV, cvM, stepV, takeV, cvtV, evR, evC, ev1, evO, lk, V.fzT, V.fz, S.set, Post, cvV, reduceIte, reduceCtorEq, ne_eq, not_false_eq_true, eq_self, true_and, and_self, Nat.reduceLT, Nat.reduceEqDiff, Nat.reduceBEq, Bool.false_eq_true, List.contains, List.elem, bv_length, allBytes_bv, bytesV_bv, c17n, c17H, c17T, e5, e9, e53, hdl]
      repeat' (with_reducible apply And.intro)
      any_goals (first | (refine hK _ ?_; (first | clear hK K hΘ Θ | clear hK K hn0 hcl hΘ Θ)) | omega | (simp only [List.length_append, List.length_cons, List.length_nil] <;> omega) | exact one_bv _ | exact one_sv _ | skip)
      refine WC.ret ?_
      have : m = 0 := by have := of_decide_eq_false ht; omega
      subst this
      first | refine ⟨.inr rfl, _, _, (by simp (maxSteps := 2000000) only [lk, okRes, resV, resA, reduceIte, eq_self, Nat.reduceEqDiff, List.drop_zero, nat0, Try.f48]; exact rfl), ?_⟩ | refine ⟨.inl rfl, _, _, (by simp (maxSteps := 2000000) only [false_implies, implies_true, zeroB, takB, apdB, run, binAgg,  wantV, gV, splitG, runB, stepB, valB, stoB, alcB, boxB, rowB, S.setO, PostB, runA.isCall, defCl, cvM, apV, stepV, takeV, takeTupV, takeCellV, allocV, boxV_agg, boxV_flat, bslV, mkSlV, cvtV, appV, stoV, srcV, notIntT, evR, evC, ev1, evO, lk, constOk, ofConst, ofC1, isNilSl, flatOk, V.known, V.fzT, V.fz, V.cells, S.set, S.setU, S.back, argSl, Post, binV, binInt, binStr, binBool, binPtr, nilEq, unV, cvV, extV, chkV, fieldV, indexV, faV, iaV, ldV, slV, bnd, lenV, mxV, mnV, bltV, buildV, fillV, mkV, nobs, okRes, resV, resL, resA, reduceIte, reduceCtorEq, ne_eq, not_false_eq_true, not_true_eq_false, eq_self, true_and, and_true, and_self, and_assoc, Nat.reduceLT, Nat.reduceLeDiff, Nat.reduceEqDiff, Nat.reduceBEq, Nat.reduceMul, Nat.reduceAdd, Nat.reduceSub, Bool.false_eq_true, Bool.or_true, Bool.true_or, Bool.or_false, Bool.false_or, Bool.not_true, Bool.not_false, cond_true, cond_false, List.contains, List.elem, List.map_cons, List.map_nil, List.all_cons, List.all_nil, List.any_cons, List.any_nil, List.getElem?_cons_zero, List.getElem?_cons_succ, List.getElem?_nil, List.getD_cons_zero, List.getD_cons_succ, List.getD_nil, Option.bind_some, Option.bind_none, Option.map_some, Option.map_none, Option.getD_some, Option.getD_none, id, beq_self_eq_true, BEq.rfl, Nat.zero_mul, Nat.mul_one, Nat.one_mul, Nat.zero_add, Nat.add_zero, upd_same, List.length_cons, List.length_nil, upd_upd, List.mem_cons, List.not_mem_nil, or_false, forall_eq, List.isEmpty, true_implies, List.set_cons_zero, List.set_cons_succ, List.cons_append, List.nil_append, Option.isSome_some, Option.isSome_none, Bool.and_true, Bool.true_and, Bool.and_false, Bool.false_and, forall_eq_or_imp, rep1, rep0, rep2, rep3, rep4, rep5, rep6, rep7, rep8, putV_z, putV_s, maxLen, Nat.reducePow, bv_length, allBytes_bv, bytesV_bv, decide_eq_true_eq, decide_true, decide_false, List.drop_zero, bs_size, bs_append, bs_inj, bs_extract, bytesC_bs, bs_bytes, bv_app, bytesV_one, allBytes_one, sv_length, Int.reduceEq, Int.reduceLT, Int.reduceLE, Int.reduceGT, Int.reduceGE, Bool.true_bne, Bool.false_bne, Bool.bne_true, Bool.bne_false, Bool.true_beq, Bool.false_beq, imax, nat0, nat1, Int.toNat_natCast, Int.toNat_zero, Int.reduceToNat, c17n, c17H, c17L, c17T, c17B, c17g, e3, e4, e5, e9, e22, e23, e25, e26, e28, e35, e39, e40, e43, e48, e53, e63, e85, e95, e108, l23, l25, l35, l22, Try.f48]; exact rfl), ?_⟩
      simp (maxSteps := 2000000) only [reduceCtorEq, ne_eq, not_false_eq_true, eq_self, true_and, and_true, and_self]
      subst hpe
      rfl
end Go.VL
