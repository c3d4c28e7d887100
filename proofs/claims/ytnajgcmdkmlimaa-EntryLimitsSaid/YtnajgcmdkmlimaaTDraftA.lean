/- Part TDraftA of the proof: made for this claim. -/
import Derived.Test.YtnajgcmdkmlimaaTOp
import Derived.Test.YtnajgcmdkmlimaaTLaw0
import Derived.Test.YtnajgcmdkmlimaaVLSub
set_option linter.unusedVariables false
set_option linter.unusedSimpArgs false
set_option maxRecDepth 100000
set_option maxHeartbeats 4000000
open Go.RowKit
namespace Go.VL
open Go.Proofs
/-! A draft's bytes; what lives; the law OpGood. -/
def Dr.parts (d : Dr) : List (List UInt8) := [numB d.k.toNat, d.key, d.val, d.ref.1]
def Dr.text (d : Dr) : List UInt8 := listB d.parts

theorem take_bv32 (x : Id32) : (bv x.1).take 32 = bv x.1 := List.take_of_length_le (by rw [bv_length, x.2]; omega)

def o53 : Cfg := ⟨envH, envL, GL, 15, [], []⟩
theorem o53H : o53.H = envH := rfl
theorem o53L : o53.L = envL := rfl
theorem o53n : o53.nt = 15 := rfl
theorem o53T : o53.T = [] := rfl
theorem o53B : o53.B = [] := rfl
theorem o53g : o53.gl = GL := rfl
theorem draft_sp (d : Dr) (hd : d.ok) (ht : d.key.length + d.val.length ≤ 900000) (M : Nat → Option (List V)) (mn : Nat) : Sp Try.prog GL 53 [.agg d.c] M mn (fun r m k => r = .flat (.string (bs d.text)) ∧ m = M ∧ k = mn) := by
  obtain ⟨hk, h1, h2⟩ := id hd
  have hk2 : d.k < 9223372036854775808 := by have := hk.2; omega
  have hn := numB_length d.k.toNat (by omega)
  refine Sp.low (.flat (.string (bs d.text))) (R := fun r m k => r = .flat (.string (bs d.text)) ∧ ∀ b, M b ≠ none → m b = M b) ?_ (fun _ _ _ h => h) (Low.flat _)
  refine Sp.intro (C := o53) (fn := Try.f53) envOk Try.func53 (by kernel_rfl) rfl rfl (by simp [o53n]) (distinctT_one _) (by simp [noOwnB]) ?_
  intro E hG hM
  repeat (with_reducible first | refine WC.block ?_ | refine WC.seq (WC.block ?_) | refine WC.seq (WC.seq ?_) | refine nxt_n ?_ | refine nxt_e ?_ | refine nxt_r ?_ | refine blk_n ?_ | refine blk_r ?_ | refine blk_hit ?_ | refine blk_miss (by rfl) ?_ | refine WC.skip ?_ | refine WC.exit ?_ | refine WC.ret ?_)
  first | refine WC.regionSeq envOk lenvOk hG (by kernel_rfl) (fun Θ K hΘ hK => ?_) | refine WC.region envOk lenvOk hG (by kernel_rfl) (fun Θ K hΘ hK => ?_)
  simp (maxSteps := 2000000) only [run, wantV, stepV, takeV, boxV_agg, evR, evC, ev1, evO, lk, constOk, ofConst, ofC1, isNilSl, flatOk, V.fzT, V.fz, S.set, argSl, Post, reduceIte, reduceCtorEq, ne_eq, not_false_eq_true, eq_self, true_and, and_self, Nat.reduceLT, Bool.false_eq_true, o53n, Dr.sm]
  repeat' (with_reducible apply And.intro)
  any_goals (first | (refine hK _ ?_; (first | clear hK K hΘ Θ | clear hK K hn0 hcl hΘ Θ)) | omega | (simp only [List.length_append, List.length_cons, List.length_nil] <;> omega) | exact one_bv _ | exact one_sv _ | skip)
  have hb := bytesV_bv d.ref.1
  repeat (with_reducible first | refine WC.block ?_ | refine WC.seq (WC.block ?_) | refine WC.seq (WC.seq ?_) | refine nxt_n ?_ | refine nxt_e ?_ | refine nxt_r ?_ | refine blk_n ?_ | refine blk_r ?_ | refine blk_hit ?_ | refine blk_miss (by rfl) ?_ | refine WC.skip ?_ | refine WC.exit ?_ | refine WC.ret ?_)
  first | refine WC.seq (WC.regionB defCl envOk lenvOk hG (by kernel_rfl) (by kernel_rfl) defCl_le (by rfl) (by kernel_rfl) (fun Θ K hΘ hcl hn0 hK => ?_)) | refine WC.regionB defCl envOk lenvOk hG (by kernel_rfl) (by kernel_rfl) defCl_le (by rfl) (by kernel_rfl) (fun Θ K hΘ hcl hn0 hK => ?_)
  simp (maxSteps := 2000000) only [zeroB, wantV, runB, stepB, valB, rowB, PostB, runA.isCall, defCl, evC, ev1, evO, lk, constOk, ofConst, ofC1, isNilSl, flatOk, V.fzT, V.fz, S.set, faV, ldV, mkV, reduceIte, reduceCtorEq, eq_self, true_and, and_self, Nat.reduceLeDiff, Nat.reduceEqDiff, Nat.reduceAdd, Bool.or_true, List.map_cons, List.map_nil, List.getElem?_cons_zero, beq_self_eq_true, Nat.zero_add, Nat.add_zero, upd_same, o53H, o53g, e3, e25, Dr.sm]
  repeat' (with_reducible apply And.intro)
  any_goals (first | (refine hK _ ?_; (first | clear hK K hΘ Θ | clear hK K hn0 hcl hΘ Θ)) | omega | (simp only [List.length_append, List.length_cons, List.length_nil] <;> omega) | exact one_bv _ | exact one_sv _ | skip)
  refine CallB.free _ (fun M n => Num_sp d.k hk2 M n) (by simp) (by intro x hx; simp only [List.mem_cons, List.not_mem_nil, or_false] at hx; (try rcases hx with rfl | rfl | rfl | rfl | rfl); all_goals (first | rfl | (subst hx; rfl) | contradiction)) ?_
  refine WRB.go (by first | exact defCl_le | exact clW_le (by rfl)) (congrArg (List.map (·.dst)) hΘ.symm) hcl.symm ?_
  simp (maxSteps := 2000000) only [zeroB, wantV, runB, stepB, valB, rowB, PostB, runA.isCall, defCl, cvM, evC, ev1, evO, lk, constOk, ofConst, ofC1, isNilSl, flatOk, V.fzT, V.fz, V.cells, S.set, faV, ldV, slV, bnd, fillV, mkV, reduceIte, reduceCtorEq, ne_eq, not_false_eq_true, eq_self, true_and, and_true, and_self, and_assoc, Nat.reduceLT, Nat.reduceLeDiff, Nat.reduceEqDiff, Nat.reduceAdd, Nat.reduceSub, Bool.or_true, List.map_cons, List.map_nil, List.getElem?_cons_zero, List.getElem?_cons_succ, Option.getD_none, beq_self_eq_true, Nat.mul_one, Nat.zero_add, Nat.add_zero, upd_same, List.length_cons, List.length_nil, List.mem_cons, List.not_mem_nil, or_false, forall_eq, forall_eq_or_imp, rep4, putV_z, putV_s, Nat.reducePow, allBytes_bv, bytesV_bv, Int.reduceLE, Int.toNat_natCast, Int.toNat_zero, Option.map, o53H, o53g, e5, e9, e23, e25, e53, e85, Dr.sm]
  repeat' (with_reducible apply And.intro)
  any_goals (first | (refine hK _ ?_; (first | clear hK K hΘ Θ | clear hK K hn0 hcl hΘ Θ)) | omega | (simp only [List.length_append, List.length_cons, List.length_nil] <;> omega) | exact one_bv _ | exact one_sv _ | skip)
  refine CallB.free _ (fun M n => List_sp d.parts (by simp [Dr.parts, total, d.ref.2]; omega) (by simp [Dr.parts]) M n) (by simp) (by intro x hx; simp only [List.mem_cons, List.not_mem_nil, or_false] at hx; (try rcases hx with rfl | rfl | rfl | rfl | rfl); all_goals (first | rfl | (subst hx; rfl) | contradiction)) ?_
  refine WRB.go (by first | exact defCl_le | exact clW_le (by rfl)) (congrArg (List.map (·.dst)) hΘ.symm) hcl.symm ?_
  simp (maxSteps := 2000000) only [zeroB, takB, wantV, runB, stepB, valB, rowB, PostB, runA.isCall, defCl, evC, ev1, evO, lk, V.fzT, V.fz, S.set, reduceIte, reduceCtorEq, ne_eq, not_false_eq_true, eq_self, true_and, and_self, Nat.reduceEqDiff]
  repeat' (with_reducible apply And.intro)
  any_goals (first | (refine hK _ ?_; (first | clear hK K hΘ Θ | clear hK K hn0 hcl hΘ Θ)) | omega | (simp only [List.length_append, List.length_cons, List.length_nil] <;> omega) | exact one_bv _ | exact one_sv _ | skip)
  repeat (with_reducible first | refine WC.block ?_ | refine WC.seq (WC.block ?_) | refine WC.seq (WC.seq ?_) | refine nxt_n ?_ | refine nxt_e ?_ | refine nxt_r ?_ | refine blk_n ?_ | refine blk_r ?_ | refine blk_hit ?_ | refine blk_miss (by rfl) ?_ | refine WC.skip ?_ | refine WC.exit ?_ | refine WC.ret ?_)
  first | refine ⟨.inr rfl, _, _, (by simp (maxSteps := 2000000) only [lk, okRes, resV, resA, reduceIte, reduceCtorEq, eq_self, Nat.reduceEqDiff, Try.f53]; exact rfl), ?_⟩ | refine ⟨.inl rfl, _, _, (by simp (maxSteps := 2000000) only [false_implies, implies_true, zeroB, takB, apdB, run, binAgg,  wantV, gV, splitG, runB, stepB, valB, stoB, alcB, boxB, rowB, S.setO, PostB, runA.isCall, defCl, cvM, apV, stepV, takeV, takeTupV, takeCellV, allocV, boxV_agg, boxV_flat, bslV, mkSlV, cvtV, appV, stoV, srcV, notIntT, evR, evC, ev1, evO, lk, constOk, ofConst, ofC1, isNilSl, flatOk, V.known, V.fzT, V.fz, V.cells, S.set, S.setU, S.back, argSl, Post, binV, binInt, binStr, binBool, binPtr, nilEq, unV, cvV, extV, chkV, fieldV, indexV, faV, iaV, ldV, slV, bnd, lenV, mxV, mnV, bltV, buildV, fillV, mkV, nobs, okRes, resV, resL, resA, reduceIte, reduceCtorEq, ne_eq, not_false_eq_true, not_true_eq_false, eq_self, true_and, and_true, and_self, and_assoc, Nat.reduceLT, Nat.reduceLeDiff, Nat.reduceEqDiff, Nat.reduceBEq, Nat.reduceMul, Nat.reduceAdd, Nat.reduceSub, Bool.false_eq_true, Bool.or_true, Bool.true_or, Bool.or_false, Bool.false_or, Bool.not_true, Bool.not_false, cond_true, cond_false, List.contains, List.elem, List.map_cons, List.map_nil, List.all_cons, List.all_nil, List.any_cons, List.any_nil, List.getElem?_cons_zero, List.getElem?_cons_succ, List.getElem?_nil, List.getD_cons_zero, List.getD_cons_succ, List.getD_nil, Option.bind_some, Option.bind_none, Option.map_some, Option.map_none, Option.getD_some, Option.getD_none, id, beq_self_eq_true, BEq.rfl, Nat.zero_mul, Nat.mul_one, Nat.one_mul, Nat.zero_add, Nat.add_zero, upd_same, List.length_cons, List.length_nil, upd_upd, List.mem_cons, List.not_mem_nil, or_false, forall_eq, List.isEmpty, true_implies, List.set_cons_zero, List.set_cons_succ, List.cons_append, List.nil_append, Option.isSome_some, Option.isSome_none, Bool.and_true, Bool.true_and, Bool.and_false, Bool.false_and, forall_eq_or_imp, rep1, rep0, rep2, rep3, rep4, rep5, rep6, rep7, rep8, putV_z, putV_s, maxLen, Nat.reducePow, bv_length, allBytes_bv, bytesV_bv, decide_eq_true_eq, decide_true, decide_false, List.drop_zero, bs_size, bs_append, bs_inj, bs_extract, bytesC_bs, bs_bytes, bv_app, bytesV_one, allBytes_one, sv_length, Int.reduceEq, Int.reduceLT, Int.reduceLE, Int.reduceGT, Int.reduceGE, Bool.true_bne, Bool.false_bne, Bool.bne_true, Bool.bne_false, Bool.true_beq, Bool.false_beq, imax, nat0, nat1, Int.toNat_natCast, Int.toNat_zero, Int.reduceToNat, o53n, o53H, o53L, o53T, o53B, o53g, e3, e4, e5, e9, e22, e23, e25, e26, e28, e35, e39, e40, e43, e48, e53, e63, e85, e95, e108, l23, l25, l35, l22, idS, updN, Dr.sm, Try.f53]; exact rfl), ?_⟩
  simp (maxSteps := 2000000) only [reduceCtorEq, ne_eq, not_false_eq_true, true_and]
  exact ⟨rfl, (by intro b hb; have hlt := Nat.lt_of_not_le (fun q => hb (hM b q)); simp only [upd]; repeat (rw [if_neg (by omega)]))⟩

def o31 : Cfg := ⟨envH, envL, GL, 5, [], []⟩
theorem o31H : o31.H = envH := rfl
theorem o31L : o31.L = envL := rfl
theorem o31n : o31.nt = 5 := rfl
theorem o31T : o31.T = [] := rfl
theorem o31B : o31.B = [] := rfl
theorem o31g : o31.gl = GL := rfl
theorem DraftText_sp (d : Dr) (hd : d.ok) (ht : d.key.length + d.val.length ≤ 900000) (M : Nat → Option (List V)) (mn : Nat) : Sp Try.prog GL 31 [.agg d.c] M mn (fun r m k => r = .flat (.string (bs d.text)) ∧ m = M ∧ k = mn) := by
  refine Sp.low (.flat (.string (bs d.text))) (R := fun r m k => r = .flat (.string (bs d.text)) ∧ ∀ b, M b ≠ none → m b = M b) ?_ (fun _ _ _ h => h) (Low.flat _)
  refine Sp.intro (C := o31) (fn := Try.f31) envOk Try.func31 (by kernel_rfl) rfl rfl (by simp [o31n]) (distinctT_one _) (by simp [noOwnB]) ?_
  intro E hG hM
  iterate 2
    repeat (with_reducible first | refine WC.block ?_ | refine WC.seq (WC.block ?_) | refine WC.seq (WC.seq ?_) | refine nxt_n ?_ | refine nxt_e ?_ | refine nxt_r ?_ | refine blk_n ?_ | refine blk_r ?_ | refine blk_hit ?_ | refine blk_miss (by rfl) ?_ | refine WC.skip ?_ | refine WC.exit ?_ | refine WC.ret ?_)
    first | refine WC.regionSeq envOk lenvOk hG (by kernel_rfl) (fun Θ K hΘ hK => ?_) | refine WC.region envOk lenvOk hG (by kernel_rfl) (fun Θ K hΘ hK => ?_)
    simp (maxSteps := 2000000) only [run, wantV, stepV, takeV, takeCellV, boxV_agg, evR, evC, ev1, evO, lk, constOk, ofConst, ofC1, isNilSl, flatOk, V.fzT, V.fz, S.set, argSl, Post, ldV, mkV, reduceIte, reduceCtorEq, ne_eq, not_false_eq_true, eq_self, true_and, and_self, Nat.reduceLT, Nat.reduceLeDiff, Nat.reduceEqDiff, Nat.reduceBEq, Bool.false_eq_true, Bool.or_false, List.contains, List.elem, List.map_cons, List.map_nil, Nat.zero_add, upd_same, List.drop_zero, o31n, o31H, o31T, o31g, e25, Dr.sm]
    repeat' (with_reducible apply And.intro)
    any_goals (first | (refine hK _ ?_; (first | clear hK K hΘ Θ | clear hK K hn0 hcl hΘ Θ)) | omega | (simp only [List.length_append, List.length_cons, List.length_nil] <;> omega) | exact one_bv _ | exact one_sv _ | skip)
  refine CallG.intro (draft_sp d hd ht _ _) (by intro x hx; simp only [List.mem_cons, List.not_mem_nil, or_false] at hx; (try rcases hx with rfl | rfl | rfl | rfl | rfl); all_goals (first | rfl | (subst hx; rfl) | contradiction)) (fun r m k hR => ?_)
  obtain ⟨rfl, rfl, rfl⟩ := hR
  refine WR.go (congrArg (List.map (·.dst)) hΘ.symm) ?_
  simp (maxSteps := 2000000) only [run, wantV, stepV, takeV, evR, evC, ev1, evO, lk, V.fzT, V.fz, S.set, S.back, Post, reduceIte, reduceCtorEq, ne_eq, not_false_eq_true, eq_self, true_and, and_self, Nat.reduceLT, Nat.reduceEqDiff, o31n]
  repeat' (with_reducible apply And.intro)
  any_goals (first | (refine hK _ ?_; (first | clear hK K hΘ Θ | clear hK K hn0 hcl hΘ Θ)) | omega | (simp only [List.length_append, List.length_cons, List.length_nil] <;> omega) | exact one_bv _ | exact one_sv _ | skip)
  repeat (with_reducible first | refine WC.block ?_ | refine WC.seq (WC.block ?_) | refine WC.seq (WC.seq ?_) | refine nxt_n ?_ | refine nxt_e ?_ | refine nxt_r ?_ | refine blk_n ?_ | refine blk_r ?_ | refine blk_hit ?_ | refine blk_miss (by rfl) ?_ | refine WC.skip ?_ | refine WC.exit ?_ | refine WC.ret ?_)
  first | refine ⟨.inr rfl, _, _, (by simp (maxSteps := 2000000) only [lk, okRes, resV, resA, reduceIte, reduceCtorEq, eq_self, Nat.reduceEqDiff, Try.f31]; exact rfl), ?_⟩ | refine ⟨.inl rfl, _, _, (by simp (maxSteps := 2000000) only [false_implies, implies_true, zeroB, takB, apdB, run, binAgg,  wantV, gV, splitG, runB, stepB, valB, stoB, alcB, boxB, rowB, S.setO, PostB, runA.isCall, defCl, cvM, apV, stepV, takeV, takeTupV, takeCellV, allocV, boxV_agg, boxV_flat, bslV, mkSlV, cvtV, appV, stoV, srcV, notIntT, evR, evC, ev1, evO, lk, constOk, ofConst, ofC1, isNilSl, flatOk, V.known, V.fzT, V.fz, V.cells, S.set, S.setU, S.back, argSl, Post, binV, binInt, binStr, binBool, binPtr, nilEq, unV, cvV, extV, chkV, fieldV, indexV, faV, iaV, ldV, slV, bnd, lenV, mxV, mnV, bltV, buildV, fillV, mkV, nobs, okRes, resV, resL, resA, reduceIte, reduceCtorEq, ne_eq, not_false_eq_true, not_true_eq_false, eq_self, true_and, and_true, and_self, and_assoc, Nat.reduceLT, Nat.reduceLeDiff, Nat.reduceEqDiff, Nat.reduceBEq, Nat.reduceMul, Nat.reduceAdd, Nat.reduceSub, Bool.false_eq_true, Bool.or_true, Bool.true_or, Bool.or_false, Bool.false_or, Bool.not_true, Bool.not_false, cond_true, cond_false, List.contains, List.elem, List.map_cons, List.map_nil, List.all_cons, List.all_nil, List.any_cons, List.any_nil, List.getElem?_cons_zero, List.getElem?_cons_succ, List.getElem?_nil, List.getD_cons_zero, List.getD_cons_succ, List.getD_nil, Option.bind_some, Option.bind_none, Option.map_some, Option.map_none, Option.getD_some, Option.getD_none, id, beq_self_eq_true, BEq.rfl, Nat.zero_mul, Nat.mul_one, Nat.one_mul, Nat.zero_add, Nat.add_zero, upd_same, List.length_cons, List.length_nil, upd_upd, List.mem_cons, List.not_mem_nil, or_false, forall_eq, List.isEmpty, true_implies, List.set_cons_zero, List.set_cons_succ, List.cons_append, List.nil_append, Option.isSome_some, Option.isSome_none, Bool.and_true, Bool.true_and, Bool.and_false, Bool.false_and, forall_eq_or_imp, rep1, rep0, rep2, rep3, rep4, rep5, rep6, rep7, rep8, putV_z, putV_s, maxLen, Nat.reducePow, bv_length, allBytes_bv, bytesV_bv, decide_eq_true_eq, decide_true, decide_false, List.drop_zero, bs_size, bs_append, bs_inj, bs_extract, bytesC_bs, bs_bytes, bv_app, bytesV_one, allBytes_one, sv_length, Int.reduceEq, Int.reduceLT, Int.reduceLE, Int.reduceGT, Int.reduceGE, Bool.true_bne, Bool.false_bne, Bool.bne_true, Bool.bne_false, Bool.true_beq, Bool.false_beq, imax, nat0, nat1, Int.toNat_natCast, Int.toNat_zero, Int.reduceToNat, o31n, o31H, o31L, o31T, o31B, o31g, e3, e4, e5, e9, e22, e23, e25, e26, e28, e35, e39, e40, e43, e48, e53, e63, e85, e95, e108, l23, l25, l35, l22, idS, updN, Dr.sm, Try.f31]; exact rfl), ?_⟩
  simp (maxSteps := 2000000) only [reduceCtorEq, ne_eq, not_false_eq_true, eq_self, true_and]
  exact (by intro b hb; have hlt := Nat.lt_of_not_le (fun q => hb (hM b q)); simp only [upd]; repeat (rw [if_neg (by omega)]))

end Go.VL
