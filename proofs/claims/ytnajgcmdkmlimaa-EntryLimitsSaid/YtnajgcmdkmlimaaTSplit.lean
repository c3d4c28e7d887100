/- Part TSplit of the proof: made for this claim. -/
import Derived.Test.YtnajgcmdkmlimaaTList
set_option linter.unusedVariables false
set_option linter.unusedSimpArgs false
set_option maxHeartbeats 4000000
set_option maxRecDepth 100000
open Go.RowKit
namespace Go.VL
open Go.Proofs

def sL (s : List UInt8) : List (List UInt8) × (List UInt8 × Bool) := rList s (decide ((s.length : Int) > 262144))
def sE (s : List UInt8) : Int := rEnd (sL s).2.1 (sL s).2.2
def sR (s : List UInt8) : List (List UInt8) := if sE s = 0 then (sL s).1 else []

def c28 : Cfg := ⟨envH, envL, GL, 17, [], []⟩
theorem c28H : c28.H = envH := rfl
theorem c28L : c28.L = envL := rfl
theorem c28n : c28.nt = 17 := rfl
theorem c28T : c28.T = [] := rfl
theorem c28B : c28.B = [] := rfl
theorem c28g : c28.gl = GL := rfl
theorem Split_sp (s : List UInt8) (M : Nat → Option (List V)) (mn : Nat) : Sp Try.prog GL 54 [.flat (.string (bs s))] M mn (fun r m k => r = .tup [.sl false 1 (sR s).length (sv (sR s)), .flat (.int .i64 (sE s))] ∧ m = upd M mn (rd (sL s).2.1 (sL s).2.2) ∧ k = mn + 1) := by
  refine Sp.intro (C := c28) (fn := Try.f54) envOk Try.func54 (by kernel_rfl) rfl rfl (by simp [c28n]) (distinctB_spec _ [] rfl) (by simp [noOwnB]) ?_
  intro E hG hM
  iterate 2
    repeat (with_reducible first | refine WC.block ?_ | refine WC.seq (WC.block ?_) | refine WC.seq (WC.seq ?_) | refine nxt_n ?_ | refine nxt_e ?_ | refine nxt_r ?_ | refine blk_n ?_ | refine blk_r ?_ | refine blk_hit ?_ | refine blk_miss (by rfl) ?_ | refine WC.skip ?_ | refine WC.exit ?_ | refine WC.ret ?_)
    first | refine WC.regionSeq envOk lenvOk hG (by kernel_rfl) (fun Θ K hΘ hK => ?_) | refine WC.region envOk lenvOk hG (by kernel_rfl) (fun Θ K hΘ hK => ?_)
    simp (maxSteps := 2000000) only [run, wantV, stepV, takeV, evR, evC, ev1, evO, lk, constOk, ofConst, ofC1, isNilSl, flatOk, V.fzT, V.fz, S.set, argSl, Post, reduceIte, reduceCtorEq, ne_eq, not_false_eq_true, eq_self, true_and, and_self, Nat.reduceLT, Nat.reduceEqDiff, Bool.false_eq_true, List.contains, List.elem, List.map_cons, List.map_nil, c28n, c28T, c28g]
    repeat' (with_reducible apply And.intro)
    any_goals (first | (refine hK _ ?_; (first | clear hK K hΘ Θ | clear hK K hn0 hcl hΘ Θ)) | omega | (simp only [List.length_append, List.length_cons, List.length_nil] <;> omega) | exact one_bv _ | exact one_sv _ | skip)
  refine CallG.intro (Open_sp _ _ _) (by intro x hx; simp only [List.mem_cons, List.not_mem_nil, or_false] at hx; (try rcases hx with rfl | rfl | rfl | rfl | rfl); all_goals (first | rfl | (subst hx; rfl) | contradiction)) (fun r m k hR => ?_)
  obtain ⟨rfl, rfl, rfl⟩ := hR
  refine WR.go (congrArg (List.map (·.dst)) hΘ.symm) ?_
  simp (maxSteps := 2000000) only [run, wantV, stepV, takeV, evR, evC, ev1, evO, lk, V.fzT, V.fz, S.set, S.back, Post, reduceIte, reduceCtorEq, ne_eq, not_false_eq_true, eq_self, true_and, and_self, Nat.reduceLT, Nat.reduceEqDiff, c28n]
  repeat' (with_reducible apply And.intro)
  any_goals (first | (refine hK _ ?_; (first | clear hK K hΘ Θ | clear hK K hn0 hcl hΘ Θ)) | omega | (simp only [List.length_append, List.length_cons, List.length_nil] <;> omega) | exact one_bv _ | exact one_sv _ | skip)
  repeat (with_reducible first | refine WC.block ?_ | refine WC.seq (WC.block ?_) | refine WC.seq (WC.seq ?_) | refine nxt_n ?_ | refine nxt_e ?_ | refine nxt_r ?_ | refine blk_n ?_ | refine blk_r ?_ | refine blk_hit ?_ | refine blk_miss (by rfl) ?_ | refine WC.skip ?_ | refine WC.exit ?_ | refine WC.ret ?_)
  first | refine WC.regionSeq envOk lenvOk hG (by kernel_rfl) (fun Θ K hΘ hK => ?_) | refine WC.region envOk lenvOk hG (by kernel_rfl) (fun Θ K hΘ hK => ?_)
  simp (maxSteps := 2000000) only [run, wantV, stepV, takeV, evR, evC, ev1, evO, lk, constOk, ofConst, ofC1, isNilSl, flatOk, V.fzT, V.fz, S.set, Post, reduceIte, reduceCtorEq, ne_eq, not_false_eq_true, eq_self, true_and, and_self, Nat.reduceLT, Nat.reduceEqDiff, Bool.false_eq_true, List.contains, List.elem, List.map_cons, List.map_nil, c28n, c28T, c28g]
  repeat' (with_reducible apply And.intro)
  any_goals (first | (refine hK _ ?_; (first | clear hK K hΘ Θ | clear hK K hn0 hcl hΘ Θ)) | omega | (simp only [List.length_append, List.length_cons, List.length_nil] <;> omega) | exact one_bv _ | exact one_sv _ | skip)
  refine CallG.intro (RdList_sp mn _ _ _ _ (upd_same _ _ _)) (by intro x hx; simp only [List.mem_cons, List.not_mem_nil, or_false] at hx; (try rcases hx with rfl | rfl | rfl | rfl | rfl); all_goals (first | rfl | (subst hx; rfl) | contradiction)) (fun r m k hR => ?_)
  obtain ⟨rfl, rfl, rfl⟩ := hR
  refine WR.go (congrArg (List.map (·.dst)) hΘ.symm) ?_
  simp (maxSteps := 2000000) only [run, wantV, stepV, takeV, evR, evC, ev1, evO, lk, V.fzT, V.fz, S.set, S.back, Post, reduceIte, reduceCtorEq, ne_eq, not_false_eq_true, eq_self, true_and, and_self, Nat.reduceLT, Nat.reduceEqDiff, upd_upd, c28n]
  repeat' (with_reducible apply And.intro)
  any_goals (first | (refine hK _ ?_; (first | clear hK K hΘ Θ | clear hK K hn0 hcl hΘ Θ)) | omega | (simp only [List.length_append, List.length_cons, List.length_nil] <;> omega) | exact one_bv _ | exact one_sv _ | skip)
  repeat (with_reducible first | refine WC.block ?_ | refine WC.seq (WC.block ?_) | refine WC.seq (WC.seq ?_) | refine nxt_n ?_ | refine nxt_e ?_ | refine nxt_r ?_ | refine blk_n ?_ | refine blk_r ?_ | refine blk_hit ?_ | refine blk_miss (by rfl) ?_ | refine WC.skip ?_ | refine WC.exit ?_ | refine WC.ret ?_)
  first | refine WC.regionSeq envOk lenvOk hG (by kernel_rfl) (fun Θ K hΘ hK => ?_) | refine WC.region envOk lenvOk hG (by kernel_rfl) (fun Θ K hΘ hK => ?_)
  simp (maxSteps := 2000000) only [run, wantV, stepV, takeV, evR, evC, ev1, evO, lk, constOk, ofConst, ofC1, isNilSl, flatOk, V.fzT, V.fz, S.set, Post, reduceIte, reduceCtorEq, ne_eq, not_false_eq_true, eq_self, true_and, and_self, Nat.reduceLT, Nat.reduceEqDiff, Bool.false_eq_true, List.contains, List.elem, List.map_cons, List.map_nil, c28n, c28T, c28g]
  repeat' (with_reducible apply And.intro)
  any_goals (first | (refine hK _ ?_; (first | clear hK K hΘ Θ | clear hK K hn0 hcl hΘ Θ)) | omega | (simp only [List.length_append, List.length_cons, List.length_nil] <;> omega) | exact one_bv _ | exact one_sv _ | skip)
  refine CallG.intro (End_sp mn _ _ _ _ (upd_same _ _ _)) (by intro x hx; simp only [List.mem_cons, List.not_mem_nil, or_false] at hx; (try rcases hx with rfl | rfl | rfl | rfl | rfl); all_goals (first | rfl | (subst hx; rfl) | contradiction)) (fun r m k hR => ?_)
  obtain ⟨rfl, rfl, rfl⟩ := hR
  refine WR.go (congrArg (List.map (·.dst)) hΘ.symm) ?_
  simp (maxSteps := 2000000) only [run, wantV, stepV, takeV, evR, evC, ev1, evO, lk, V.fzT, V.fz, S.set, S.back, Post, reduceIte, reduceCtorEq, ne_eq, not_false_eq_true, eq_self, true_and, and_self, Nat.reduceLT, Nat.reduceEqDiff, c28n]
  repeat' (with_reducible apply And.intro)
  any_goals (first | (refine hK _ ?_; (first | clear hK K hΘ Θ | clear hK K hn0 hcl hΘ Θ)) | omega | (simp only [List.length_append, List.length_cons, List.length_nil] <;> omega) | exact one_bv _ | exact one_sv _ | skip)
  have he : rEnd (sL s).2.1 (sL s).2.2 = sE s := rfl
  have hl : rList s (decide ((s.length : Int) > 262144)) = sL s := rfl
  repeat (with_reducible first | refine WC.block ?_ | refine WC.seq (WC.block ?_) | refine WC.seq (WC.seq ?_) | refine nxt_n ?_ | refine nxt_e ?_ | refine nxt_r ?_ | refine blk_n ?_ | refine blk_r ?_ | refine blk_hit ?_ | refine blk_miss (by rfl) ?_ | refine WC.skip ?_ | refine WC.exit ?_ | refine WC.ret ?_)
  first | refine WC.regionSeq envOk lenvOk hG (by kernel_rfl) (fun Θ K hΘ hK => ?_) | refine WC.region envOk lenvOk hG (by kernel_rfl) (fun Θ K hΘ hK => ?_)
  simp (maxSteps := 2000000) only [run, wantV, stepV, takeV, evR, evC, ev1, evO, lk, constOk, ofConst, ofC1, isNilSl, flatOk, V.fzT, V.fz, S.set, Post, binV, binInt, reduceIte, reduceCtorEq, ne_eq, not_false_eq_true, eq_self, true_and, and_self, Nat.reduceLT, Nat.reduceEqDiff, Bool.false_eq_true, List.contains, List.elem, c28n, c28T, he, hl]
  repeat' (with_reducible apply And.intro)
  any_goals (first | (refine hK _ ?_; (first | clear hK K hΘ Θ | clear hK K hn0 hcl hΘ Θ)) | omega | (simp only [List.length_append, List.length_cons, List.length_nil] <;> omega) | exact one_bv _ | exact one_sv _ | skip)
  repeat (with_reducible first | refine WC.block ?_ | refine WC.seq (WC.block ?_) | refine WC.seq (WC.seq ?_) | refine nxt_n ?_ | refine nxt_e ?_ | refine nxt_r ?_ | refine blk_n ?_ | refine blk_r ?_ | refine blk_hit ?_ | refine blk_miss (by rfl) ?_ | refine WC.skip ?_ | refine WC.exit ?_ | refine WC.ret ?_)
  first | refine WC.cond hG (t := (!decide (sE s = 0))) (by simp [lk, evO]) (fun hu => ?_) (fun hu => ?_) | refine WC.seq (WC.cond hG (t := (!decide (sE s = 0))) (by simp [lk, evO]) (fun hu => ?_) (fun hu => ?_))
  · skip
    have hu' : ¬ sE s = 0 := by simpa using hu
    have hr : sR s = [] := by simp only [sR, if_neg hu']
    repeat (with_reducible first | refine WC.block ?_ | refine WC.seq (WC.block ?_) | refine WC.seq (WC.seq ?_) | refine nxt_n ?_ | refine nxt_e ?_ | refine nxt_r ?_ | refine blk_n ?_ | refine blk_r ?_ | refine blk_hit ?_ | refine blk_miss (by rfl) ?_ | refine WC.skip ?_ | refine WC.exit ?_ | refine WC.ret ?_)
    first | refine WC.regionSeq envOk lenvOk hG (by kernel_rfl) (fun Θ K hΘ hK => ?_) | refine WC.region envOk lenvOk hG (by kernel_rfl) (fun Θ K hΘ hK => ?_)
    simp (maxSteps := 2000000) only [run, wantV, stepV, takeV, evR, evC, ev1, evO, lk, constOk, ofConst, ofC1, isNilSl, flatOk, V.fzT, V.fz, S.set, Post, reduceIte, reduceCtorEq, ne_eq, not_false_eq_true, eq_self, true_and, and_self, Nat.reduceLT, Nat.reduceEqDiff, Bool.false_eq_true, List.contains, List.elem, c28n, c28T]
    repeat' (with_reducible apply And.intro)
    any_goals (first | (refine hK _ ?_; (first | clear hK K hΘ Θ | clear hK K hn0 hcl hΘ Θ)) | omega | (simp only [List.length_append, List.length_cons, List.length_nil] <;> omega) | exact one_bv _ | exact one_sv _ | skip)
    refine WC.sub (σ' := ⟨[(2, .sl false 1 0 []), (3, .flat (.int .i64 (sE s)))], upd M mn (rd (sL s).2.1 (sL s).2.2), mn + 1⟩) (Sub.of (by simp only [subL, lk, reduceIte, Nat.reduceEqDiff]; (repeat' (with_reducible apply And.intro)); all_goals first | exact SubV.refl _ | exact SubV.nil _ _ | exact SubV.fz _ _ _ | exact trivial | exact SubV.of_eq (by simp [bv, List.length_append])) (.refl _) rfl) ?_
    repeat (with_reducible first | refine WC.block ?_ | refine WC.seq (WC.block ?_) | refine WC.seq (WC.seq ?_) | refine nxt_n ?_ | refine nxt_e ?_ | refine nxt_r ?_ | refine blk_n ?_ | refine blk_r ?_ | refine blk_hit ?_ | refine blk_miss (by rfl) ?_ | refine WC.skip ?_ | refine WC.exit ?_ | refine WC.ret ?_)
    first | refine ⟨.inr rfl, _, _, (by simp (maxSteps := 2000000) only [lk, okRes, resV, resL, resA, reduceIte, eq_self, and_self, Nat.reduceEqDiff, Try.f54]; exact rfl), ?_⟩ | refine ⟨.inl rfl, _, _, (by simp (maxSteps := 2000000) only [false_implies, implies_true, zeroB, takB, apdB, run, binAgg,  wantV, gV, splitG, runB, stepB, valB, stoB, alcB, boxB, rowB, S.setO, PostB, runA.isCall, defCl, cvM, apV, stepV, takeV, takeTupV, takeCellV, allocV, boxV_agg, boxV_flat, bslV, mkSlV, cvtV, appV, stoV, srcV, notIntT, evR, evC, ev1, evO, lk, constOk, ofConst, ofC1, isNilSl, flatOk, V.known, V.fzT, V.fz, V.cells, S.set, S.setU, S.back, argSl, Post, binV, binInt, binStr, binBool, binPtr, nilEq, unV, cvV, extV, chkV, fieldV, indexV, faV, iaV, ldV, slV, bnd, lenV, mxV, mnV, bltV, buildV, fillV, mkV, nobs, okRes, resV, resL, resA, reduceIte, reduceCtorEq, ne_eq, not_false_eq_true, not_true_eq_false, eq_self, true_and, and_true, and_self, and_assoc, Nat.reduceLT, Nat.reduceLeDiff, Nat.reduceEqDiff, Nat.reduceBEq, Nat.reduceMul, Nat.reduceAdd, Nat.reduceSub, Bool.false_eq_true, Bool.or_true, Bool.true_or, Bool.or_false, Bool.false_or, Bool.not_true, Bool.not_false, cond_true, cond_false, List.contains, List.elem, List.map_cons, List.map_nil, List.all_cons, List.all_nil, List.any_cons, List.any_nil, List.getElem?_cons_zero, List.getElem?_cons_succ, List.getElem?_nil, List.getD_cons_zero, List.getD_cons_succ, List.getD_nil, Option.bind_some, Option.bind_none, Option.map_some, Option.map_none, Option.getD_some, Option.getD_none, id, beq_self_eq_true, BEq.rfl, Nat.zero_mul, Nat.mul_one, Nat.one_mul, Nat.zero_add, Nat.add_zero, upd_same, List.length_cons, List.length_nil, upd_upd, List.mem_cons, List.not_mem_nil, or_false, forall_eq, List.isEmpty, true_implies, List.set_cons_zero, List.set_cons_succ, List.cons_append, List.nil_append, Option.isSome_some, Option.isSome_none, Bool.and_true, Bool.true_and, Bool.and_false, Bool.false_and, forall_eq_or_imp, rep1, rep0, rep2, rep3, rep4, rep5, rep6, rep7, rep8, putV_z, putV_s, maxLen, Nat.reducePow, bv_length, allBytes_bv, bytesV_bv, decide_eq_true_eq, decide_true, decide_false, List.drop_zero, bs_size, bs_append, bs_inj, bs_extract, bytesC_bs, bs_bytes, bv_app, bytesV_one, allBytes_one, sv_length, Int.reduceEq, Int.reduceLT, Int.reduceLE, Int.reduceGT, Int.reduceGE, Bool.true_bne, Bool.false_bne, Bool.bne_true, Bool.bne_false, Bool.true_beq, Bool.false_beq, imax, nat0, nat1, Int.toNat_natCast, Int.toNat_zero, Int.reduceToNat, c28n, c28H, c28L, c28T, c28B, c28g, e3, e4, e5, e9, e22, e23, e25, e26, e28, e35, e39, e40, e43, e48, e53, e63, e85, e95, e108, l23, l25, l35, l22, Try.f54]; exact rfl), ?_⟩
    simp (maxSteps := 2000000) only [reduceCtorEq, ne_eq, not_false_eq_true, eq_self, true_and, and_true, and_self]
    rw [hr]
    first | rfl | exact ⟨rfl, rfl⟩
  · skip
    have hu' : sE s = 0 := by simpa using hu
    have hr : sR s = (sL s).1 := by simp only [sR, if_pos hu']
    repeat (with_reducible first | refine WC.block ?_ | refine WC.seq (WC.block ?_) | refine WC.seq (WC.seq ?_) | refine nxt_n ?_ | refine nxt_e ?_ | refine nxt_r ?_ | refine blk_n ?_ | refine blk_r ?_ | refine blk_hit ?_ | refine blk_miss (by rfl) ?_ | refine WC.skip ?_ | refine WC.exit ?_ | refine WC.ret ?_)
    first | refine WC.regionSeq envOk lenvOk hG (by kernel_rfl) (fun Θ K hΘ hK => ?_) | refine WC.region envOk lenvOk hG (by kernel_rfl) (fun Θ K hΘ hK => ?_)
    simp (maxSteps := 2000000) only [run, wantV, stepV, takeV, evR, evC, ev1, evO, lk, constOk, ofConst, ofC1, isNilSl, flatOk, V.fzT, V.fz, S.set, Post, reduceIte, reduceCtorEq, ne_eq, not_false_eq_true, eq_self, true_and, and_self, Nat.reduceLT, Nat.reduceEqDiff, Bool.false_eq_true, List.contains, List.elem, c28n, c28T]
    repeat' (with_reducible apply And.intro)
    any_goals (first | (refine hK _ ?_; (first | clear hK K hΘ Θ | clear hK K hn0 hcl hΘ Θ)) | omega | (simp only [List.length_append, List.length_cons, List.length_nil] <;> omega) | exact one_bv _ | exact one_sv _ | skip)
    refine WC.sub (σ' := ⟨[(2, .sl false 1 (sL s).1.length (sv (sL s).1)), (3, .flat (.int .i64 0))], upd M mn (rd (sL s).2.1 (sL s).2.2), mn + 1⟩) (Sub.of (by simp only [subL, lk, reduceIte, Nat.reduceEqDiff]; (repeat' (with_reducible apply And.intro)); all_goals first | exact SubV.refl _ | exact SubV.nil _ _ | exact SubV.fz _ _ _ | exact trivial | exact SubV.of_eq (by simp [bv, List.length_append])) (.refl _) rfl) ?_
    repeat (with_reducible first | refine WC.block ?_ | refine WC.seq (WC.block ?_) | refine WC.seq (WC.seq ?_) | refine nxt_n ?_ | refine nxt_e ?_ | refine nxt_r ?_ | refine blk_n ?_ | refine blk_r ?_ | refine blk_hit ?_ | refine blk_miss (by rfl) ?_ | refine WC.skip ?_ | refine WC.exit ?_ | refine WC.ret ?_)
    first | refine ⟨.inr rfl, _, _, (by simp (maxSteps := 2000000) only [lk, okRes, resV, resL, resA, reduceIte, eq_self, and_self, Nat.reduceEqDiff, Try.f54]; exact rfl), ?_⟩ | refine ⟨.inl rfl, _, _, (by simp (maxSteps := 2000000) only [false_implies, implies_true, zeroB, takB, apdB, run, binAgg,  wantV, gV, splitG, runB, stepB, valB, stoB, alcB, boxB, rowB, S.setO, PostB, runA.isCall, defCl, cvM, apV, stepV, takeV, takeTupV, takeCellV, allocV, boxV_agg, boxV_flat, bslV, mkSlV, cvtV, appV, stoV, srcV, notIntT, evR, evC, ev1, evO, lk, constOk, ofConst, ofC1, isNilSl, flatOk, V.known, V.fzT, V.fz, V.cells, S.set, S.setU, S.back, argSl, Post, binV, binInt, binStr, binBool, binPtr, nilEq, unV, cvV, extV, chkV, fieldV, indexV, faV, iaV, ldV, slV, bnd, lenV, mxV, mnV, bltV, buildV, fillV, mkV, nobs, okRes, resV, resL, resA, reduceIte, reduceCtorEq, ne_eq, not_false_eq_true, not_true_eq_false, eq_self, true_and, and_true, and_self, and_assoc, Nat.reduceLT, Nat.reduceLeDiff, Nat.reduceEqDiff, Nat.reduceBEq, Nat.reduceMul, Nat.reduceAdd, Nat.reduceSub, Bool.false_eq_true, Bool.or_true, Bool.true_or, Bool.or_false, Bool.false_or, Bool.not_true, Bool.not_false, cond_true, cond_false, List.contains, List.elem, List.map_cons, List.map_nil, List.all_cons, List.all_nil, List.any_cons, List.any_nil, List.getElem?_cons_zero, List.getElem?_cons_succ, List.getElem?_nil, List.getD_cons_zero, List.getD_cons_succ, List.getD_nil, Option.bind_some, Option.bind_none, Option.map_some, Option.map_none, Option.getD_some, Option.getD_none, id, beq_self_eq_true, BEq.rfl, Nat.zero_mul, Nat.mul_one, Nat.one_mul, Nat.zero_add, Nat.add_zero, upd_same, List.length_cons, List.length_nil, upd_upd, List.mem_cons, List.not_mem_nil, or_false, forall_eq, List.isEmpty, true_implies, List.set_cons_zero, List.set_cons_succ, List.cons_append, List.nil_append, Option.isSome_some, Option.isSome_none, Bool.and_true, Bool.true_and, Bool.and_false, Bool.false_and, forall_eq_or_imp, rep1, rep0, rep2, rep3, rep4, rep5, rep6, rep7, rep8, putV_z, putV_s, maxLen, Nat.reducePow, bv_length, allBytes_bv, bytesV_bv, decide_eq_true_eq, decide_true, decide_false, List.drop_zero, bs_size, bs_append, bs_inj, bs_extract, bytesC_bs, bs_bytes, bv_app, bytesV_one, allBytes_one, sv_length, Int.reduceEq, Int.reduceLT, Int.reduceLE, Int.reduceGT, Int.reduceGE, Bool.true_bne, Bool.false_bne, Bool.bne_true, Bool.bne_false, Bool.true_beq, Bool.false_beq, imax, nat0, nat1, Int.toNat_natCast, Int.toNat_zero, Int.reduceToNat, c28n, c28H, c28L, c28T, c28B, c28g, e3, e4, e5, e9, e22, e23, e25, e26, e28, e35, e39, e40, e43, e48, e53, e63, e85, e95, e108, l23, l25, l35, l22, Try.f54]; exact rfl), ?_⟩
    simp (maxSteps := 2000000) only [reduceCtorEq, ne_eq, not_false_eq_true, eq_self, true_and, and_true, and_self]
    rw [hr, hu']

/-! The two borders. -/
theorem sL_short {s : List UInt8} (h : s.length ≤ 262144) : sL s = rList s false := by
  rw [sL, decide_eq_false (by omega)]
theorem sL_long {s : List UInt8} (h : 262144 < s.length) : sL s = ([], ([], true)) := by
  rw [sL, decide_eq_true (by omega), show rList s true = ([], ([], true)) by simp [rList, rStart, rNum, rTake, rTexts]]

end Go.VL
