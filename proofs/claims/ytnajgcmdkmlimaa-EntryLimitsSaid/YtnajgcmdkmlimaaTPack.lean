/- Part TPack of the proof: made for this claim. -/
import Derived.Test.YtnajgcmdkmlimaaTNum
import Derived.Test.YtnajgcmdkmlimaaVL23
set_option linter.unusedVariables false
set_option linter.unusedSimpArgs false
set_option maxRecDepth 100000
open Go.RowKit
namespace Go.VL
open Go.Proofs

theorem numB_length (n : Nat) (hn : n < 9223372036854775808) : (numB n).length ≤ 9 := by
  have := le_length 8 n (by omega)
  simp [numB]; omega

def textB (s : List UInt8) : List UInt8 := numB s.length ++ s

def c15 : Cfg := ⟨envH, envL, GL, 8, [], []⟩
theorem c15H : c15.H = envH := rfl
theorem c15L : c15.L = envL := rfl
theorem c15n : c15.nt = 8 := rfl
theorem c15T : c15.T = [] := rfl
theorem c15B : c15.B = [] := rfl
theorem c15g : c15.gl = GL := rfl
/-- What List writes. -/
def listTail : List (List UInt8) → List UInt8
  | [] => []
  | s :: r => textB s ++ listTail r
def listB (l : List (List UInt8)) : List UInt8 := numB l.length ++ listTail l
def total (l : List (List UInt8)) : Nat := (l.map List.length).sum
theorem listTail_append (a b : List (List UInt8)) : listTail (a ++ b) = listTail a ++ listTail b := by
  induction a with
  | nil => rfl
  | cons x r ih => simp [listTail, ih]
theorem listTail_one (s : List UInt8) : listTail [s] = textB s := by simp [listTail]
theorem total_append (a b : List (List UInt8)) : total (a ++ b) = total a + total b := by simp [total]
theorem total_take (l : List (List UInt8)) (i : Nat) : total (l.take i) ≤ total l := by
  have := total_append (l.take i) (l.drop i)
  rw [List.take_append_drop] at this; omega
theorem mem_total {l : List (List UInt8)} {s : List UInt8} (h : s ∈ l) : s.length ≤ total l := by
  obtain ⟨a, b, rfl⟩ := List.append_of_mem h
  rw [total_append]; simp [total]; omega
theorem listTail_length : ∀ l : List (List UInt8), (total l < 9223372036854775808) → (listTail l).length ≤ total l + 9 * l.length
  | [], _ => by simp [listTail]
  | s :: r, h => by
    have h1 : total (s :: r) = s.length + total r := by simp [total]
    have h2 := listTail_length r (by omega)
    have h3 := numB_length s.length (by omega)
    simp only [listTail, textB, List.length_append, List.length_cons, h1]
    omega
theorem take_succ' {l : List (List UInt8)} {i : Nat} (h : i < l.length) : l.take (i + 1) = l.take i ++ [l.getD i []] := by
  rw [List.take_add_one, List.getD_eq_getElem?_getD]
  rw [List.getElem?_eq_getElem h]; rfl

def c13 : Cfg := ⟨envH, envL, GL, 26, [16], []⟩
theorem c13H : c13.H = envH := rfl
theorem c13L : c13.L = envL := rfl
theorem c13n : c13.nt = 26 := rfl
theorem c13T : c13.T = [16] := rfl
theorem c13B : c13.B = [] := rfl
theorem c13g : c13.gl = GL := rfl
theorem List_sp (l : List (List UInt8)) (hs : total l ≤ 1000000) (hl : l.length ≤ 1000000) (M : Nat → Option (List V)) (mn : Nat) : Sp Try.prog GL 47 [.sl false 1 l.length (sv l)] M mn (fun r m k => r = .flat (.string (bs (listB l))) ∧ m = M ∧ k = mn) := by
  refine Sp.intro (C := c13) (fn := Try.f47) envOk Try.func47 (by kernel_rfl) rfl rfl (by simp [c13n]) (distinctT_one _) (by simp [noOwnB]) ?_
  intro E hG hM
  have hn := numB_length l.length (by omega)
  iterate 2
    repeat (with_reducible first | refine WC.block ?_ | refine WC.seq (WC.block ?_) | refine WC.seq (WC.seq ?_) | refine nxt_n ?_ | refine nxt_e ?_ | refine nxt_r ?_ | refine blk_n ?_ | refine blk_r ?_ | refine blk_hit ?_ | refine blk_miss (by rfl) ?_ | refine WC.skip ?_ | refine WC.exit ?_ | refine WC.ret ?_)
    first | refine WC.regionSeq envOk lenvOk hG (by kernel_rfl) (fun Θ K hΘ hK => ?_) | refine WC.region envOk lenvOk hG (by kernel_rfl) (fun Θ K hΘ hK => ?_)
    simp (maxSteps := 2000000) only [run, wantV, stepV, takeV, evR, evC, ev1, evO, lk, constOk, ofConst, ofC1, isNilSl, flatOk, V.known, V.fzT, V.fz, S.set, argSl, Post, lenV, bltV, reduceIte, reduceCtorEq, ne_eq, not_false_eq_true, eq_self, true_and, and_self, Nat.reduceLT, Nat.reduceEqDiff, Nat.reduceBEq, Bool.false_eq_true, List.contains, List.elem, List.map_cons, List.map_nil, c13n, c13H, c13T, c13g, e85]
    repeat' (with_reducible apply And.intro)
    any_goals (first | (refine hK _ ?_; (first | clear hK K hΘ Θ | clear hK K hn0 hcl hΘ Θ)) | omega | (simp only [List.length_append, List.length_cons, List.length_nil] <;> omega) | exact one_bv _ | exact one_sv _ | skip)
  refine CallG.intro (Num_sp _ (by omega) _ _) (by intro x hx; simp only [List.mem_cons, List.not_mem_nil, or_false] at hx; (try rcases hx with rfl | rfl | rfl | rfl | rfl); all_goals (first | rfl | (subst hx; rfl) | contradiction)) (fun r m k hR => ?_)
  obtain ⟨rfl, rfl, rfl⟩ := hR
  refine WR.go (congrArg (List.map (·.dst)) hΘ.symm) ?_
  simp (maxSteps := 2000000) only [run, wantV, stepV, takeV, cvtV, evO, lk, S.set, S.back, Post, reduceIte, reduceCtorEq, eq_self, true_and, and_true, Nat.reduceLT, Nat.reduceEqDiff, Nat.reduceSub, maxLen, Nat.reducePow, bs_size, bytesC_bs, Int.toNat_natCast, c13n, c13H, e5, e9, e53]
  repeat' (with_reducible apply And.intro)
  any_goals (first | (refine hK _ ?_; (first | clear hK K hΘ Θ | clear hK K hn0 hcl hΘ Θ)) | omega | (simp only [List.length_append, List.length_cons, List.length_nil] <;> omega) | exact one_bv _ | exact one_sv _ | skip)
  refine WC.seq ?_
  repeat (with_reducible first | refine WC.block ?_ | refine WC.seq (WC.block ?_) | refine WC.seq (WC.seq ?_) | refine nxt_n ?_ | refine nxt_e ?_ | refine nxt_r ?_ | refine blk_n ?_ | refine blk_r ?_ | refine blk_hit ?_ | refine blk_miss (by rfl) ?_ | refine WC.skip ?_ | refine WC.exit ?_ | refine WC.ret ?_)
  first | refine WC.regionSeq envOk lenvOk hG (by kernel_rfl) (fun Θ K hΘ hK => ?_) | refine WC.region envOk lenvOk hG (by kernel_rfl) (fun Θ K hΘ hK => ?_)
  simp (maxSteps := 2000000) only [run, wantV, stepV, takeV, evR, evC, ev1, evO, lk, constOk, ofConst, ofC1, isNilSl, flatOk, V.known, V.fzT, V.fz, S.set, Post, lenV, bltV, reduceIte, reduceCtorEq, ne_eq, not_false_eq_true, eq_self, true_and, and_self, Nat.reduceLT, Nat.reduceEqDiff, Nat.reduceBEq, Bool.false_eq_true, List.contains, List.elem, List.map_cons, List.map_nil, c13n, c13H, c13T, c13g, e85]
  repeat' (with_reducible apply And.intro)
  any_goals (first | (refine hK _ ?_; (first | clear hK K hΘ Θ | clear hK K hn0 hcl hΘ Θ)) | omega | (simp only [List.length_append, List.length_cons, List.length_nil] <;> omega) | exact one_bv _ | exact one_sv _ | skip)
  refine WC.block ?_
  refine WC.loop (fun x σ => ∃ i, i + x = l.length ∧ σ = ⟨[(10, .sl false 1 l.length (sv l)), (11, .flat (.int .i64 l.length)), (12, .flat (.int .i64 i)), (3, .sl true 1 (numB l.length ++ listTail (l.take i)).length (bv (numB l.length ++ listTail (l.take i))))], m, k⟩) (n0 := l.length) ⟨0, by simp, rfl⟩
    (Sub.of (by simp only [subL, lk, reduceIte, Nat.reduceEqDiff]; (repeat' (with_reducible apply And.intro)); all_goals first | exact SubV.refl _ | exact SubV.nil _ _ | exact SubV.fz _ _ _ | exact trivial | exact SubV.of_eq (by simp [bv, listTail])) (.refl _) rfl) ?_
  rintro x σ ⟨i, hi, rfl⟩
  refine WC.seq ?_
  refine WC.region envOk lenvOk hG (by kernel_rfl) (fun Θ K hΘ hK => ?_)
  simp (maxSteps := 2000000) only [run, wantV, stepV, evR, evC, ev1, evO, lk, V.fzT, V.fz, S.set, Post, binV, binInt, reduceIte, eq_self, true_and, and_self, Nat.reduceLT, Nat.reduceEqDiff, c13n]
  repeat' (with_reducible apply And.intro)
  any_goals (first | (refine hK _ ?_; (first | clear hK K hΘ Θ | clear hK K hn0 hcl hΘ Θ)) | omega | (simp only [List.length_append, List.length_cons, List.length_nil] <;> omega) | exact one_bv _ | exact one_sv _ | skip)
  refine nxt_n (WC.seq ?_)
  repeat (with_reducible first | refine WC.block ?_ | refine WC.seq (WC.block ?_) | refine WC.seq (WC.seq ?_) | refine nxt_n ?_ | refine nxt_e ?_ | refine nxt_r ?_ | refine blk_n ?_ | refine blk_r ?_ | refine blk_hit ?_ | refine blk_miss (by rfl) ?_ | refine WC.skip ?_ | refine WC.exit ?_ | refine WC.ret ?_)
  first | refine WC.cond hG (t := decide ((i : Int) < l.length)) (by simp [lk, evO]) (fun ht => ?_) (fun ht => ?_) | refine WC.seq (WC.cond hG (t := decide ((i : Int) < l.length)) (by simp [lk, evO]) (fun ht => ?_) (fun ht => ?_))
  · refine WC.skip ?_
    repeat' (with_reducible first | refine nxt_n ?_ | refine nxt_e ?_ | refine nxt_r ?_ | refine blk_n ?_ | refine blk_r ?_ | refine blk_hit ?_ | refine blk_miss (by rfl) ?_)
    have hi' : i < l.length := by simpa using ht
    have hget : (sv l).getD i .unk = .flat (.string (bs (l.getD i []))) := sv_getD l i hi'
    refine WC.seq (WC.block ?_)
    repeat (with_reducible first | refine WC.block ?_ | refine WC.seq (WC.block ?_) | refine WC.seq (WC.seq ?_) | refine nxt_n ?_ | refine nxt_e ?_ | refine nxt_r ?_ | refine blk_n ?_ | refine blk_r ?_ | refine blk_hit ?_ | refine blk_miss (by rfl) ?_ | refine WC.skip ?_ | refine WC.exit ?_ | refine WC.ret ?_)
    first | refine WC.regionSeq envOk lenvOk hG (by kernel_rfl) (fun Θ K hΘ hK => ?_) | refine WC.region envOk lenvOk hG (by kernel_rfl) (fun Θ K hΘ hK => ?_)
    simp (maxSteps := 2000000) only [run, wantV, stepV, takeV, takeCellV, evR, evC, ev1, evO, lk, V.fzT, V.fz, S.set, Post, iaV, ldV, mkV, reduceIte, reduceCtorEq, ne_eq, not_false_eq_true, eq_self, true_and, and_true, and_self, and_assoc, Nat.reduceLT, Nat.reduceEqDiff, Nat.reduceBEq, Bool.false_eq_true, Bool.or_true, List.contains, List.elem, beq_self_eq_true, Nat.mul_one, sv_length, Int.toNat_natCast, c13n, c13H, c13T, e9, e85, hget]
    repeat' (with_reducible apply And.intro)
    any_goals (first | (refine hK _ ?_; (first | clear hK K hΘ Θ | clear hK K hn0 hcl hΘ Θ)) | omega | (simp only [List.length_append, List.length_cons, List.length_nil] <;> omega) | exact one_bv _ | exact one_sv _ | skip)
    have hmem : l.getD i [] ∈ l := by
      rw [List.getD_eq_getElem?_getD, List.getElem?_eq_getElem hi']; exact List.getElem_mem _
    have hsz := mem_total hmem
    have hnl := numB_length (l.getD i []).length (by omega)
    have htl := listTail_length (l.take i) (by have := total_take l i; omega)
    have htt := total_take l i
    have hll : (l.take i).length ≤ l.length := by simp; omega
    have htn : (numB l.length ++ listTail (l.take i)).length ≤ 100000000 := by rw [List.length_append]; omega
    repeat (with_reducible first | refine WC.block ?_ | refine WC.seq (WC.block ?_) | refine WC.seq (WC.seq ?_) | refine nxt_n ?_ | refine nxt_e ?_ | refine nxt_r ?_ | refine blk_n ?_ | refine blk_r ?_ | refine blk_hit ?_ | refine blk_miss (by rfl) ?_ | refine WC.skip ?_ | refine WC.exit ?_ | refine WC.ret ?_)
    first | refine WC.regionSeq envOk lenvOk hG (by kernel_rfl) (fun Θ K hΘ hK => ?_) | refine WC.region envOk lenvOk hG (by kernel_rfl) (fun Θ K hΘ hK => ?_)
    simp (maxSteps := 2000000) only [run, wantV, stepV, takeV, evR, evC, ev1, evO, lk, constOk, ofConst, ofC1, isNilSl, flatOk, V.known, V.fzT, V.fz, S.set, Post, lenV, bltV, reduceIte, reduceCtorEq, ne_eq, not_false_eq_true, eq_self, true_and, and_self, Nat.reduceLT, Nat.reduceEqDiff, Nat.reduceBEq, Bool.false_eq_true, List.contains, List.elem, List.map_cons, List.map_nil, beq_self_eq_true, bs_size, c13n, c13H, c13T, c13g, e9]
    repeat' (with_reducible apply And.intro)
    any_goals (first | (refine hK _ ?_; (first | clear hK K hΘ Θ | clear hK K hn0 hcl hΘ Θ)) | omega | (simp only [List.length_append] <;> omega) | exact one_bv _ | exact one_sv _ | skip)
    refine CallG.intro (Num_sp _ (by omega) _ _) (by intro x hx; simp only [List.mem_cons, List.not_mem_nil, or_false] at hx; (try rcases hx with rfl | rfl | rfl | rfl | rfl); all_goals (first | rfl | (subst hx; rfl) | contradiction)) (fun r m k hR => ?_)
    obtain ⟨rfl, rfl, rfl⟩ := hR
    refine WR.go (congrArg (List.map (·.dst)) hΘ.symm) ?_
    simp (maxSteps := 2000000) only [run, wantV, stepV, takeV, appV, srcV, notIntT, evR, evC, ev1, evO, lk, V.fzT, V.fz, S.set, S.back, Post, reduceIte, reduceCtorEq, ne_eq, not_false_eq_true, eq_self, true_and, and_true, and_self, and_assoc, Nat.reduceLT, Nat.reduceEqDiff, Nat.reduceBEq, Nat.reduceSub, Bool.false_eq_true, List.contains, List.elem, Nat.mul_one, maxLen, Nat.reducePow, bv_length, bs_size, bs_bytes, bv_app, Int.toNat_natCast, c13n, c13H, c13T, e5, e9, e53]
    repeat' (with_reducible apply And.intro)
    any_goals (first | (refine hK _ ?_; (first | clear hK K hΘ Θ | clear hK K hn0 hcl hΘ Θ)) | omega | (simp only [List.length_append] <;> omega) | exact one_bv _ | exact one_sv _ | skip)
    repeat (with_reducible first | refine WC.block ?_ | refine WC.seq (WC.block ?_) | refine WC.seq (WC.seq ?_) | refine nxt_n ?_ | refine nxt_e ?_ | refine nxt_r ?_ | refine blk_n ?_ | refine blk_r ?_ | refine blk_hit ?_ | refine blk_miss (by rfl) ?_ | refine WC.skip ?_ | refine WC.exit ?_ | refine WC.ret ?_)
    first | refine WC.regionSeq envOk lenvOk hG (by kernel_rfl) (fun Θ K hΘ hK => ?_) | refine WC.region envOk lenvOk hG (by kernel_rfl) (fun Θ K hΘ hK => ?_)
    simp (maxSteps := 2000000) only [run, wantV, stepV, takeV, evR, evC, ev1, evO, lk, constOk, ofConst, ofC1, isNilSl, flatOk, V.fzT, V.fz, S.set, Post, binV, binInt, reduceIte, reduceCtorEq, ne_eq, not_false_eq_true, eq_self, true_and, and_self, Nat.reduceLT, Nat.reduceEqDiff, Nat.reduceBEq, Bool.false_eq_true, List.contains, List.elem, c13n, c13T]
    repeat' (with_reducible apply And.intro)
    any_goals (first | (refine hK _ ?_; (first | clear hK K hΘ Θ | clear hK K hn0 hcl hΘ Θ)) | omega | (simp only [List.length_append, List.length_cons, List.length_nil] <;> omega) | exact one_bv _ | exact one_sv _ | skip)
    repeat (with_reducible first | refine WC.block ?_ | refine WC.seq (WC.block ?_) | refine WC.seq (WC.seq ?_) | refine nxt_n ?_ | refine nxt_e ?_ | refine nxt_r ?_ | refine blk_n ?_ | refine blk_r ?_ | refine blk_hit ?_ | refine blk_miss (by rfl) ?_ | refine WC.skip ?_ | refine WC.exit ?_ | refine WC.ret ?_)
    rw [wi (by omega) (by omega)]
    refine ⟨x - 1, _, by omega, ?_, i + 1, by omega, rfl⟩
    exact Sub.of (by simp only [subL, lk, reduceIte, Nat.reduceEqDiff]; (repeat' (with_reducible apply And.intro)); all_goals first | exact SubV.refl _ | exact SubV.nil _ _ | exact SubV.fz _ _ _ | exact trivial | exact SubV.of_eq (by simp [bv, List.length_append, take_succ' hi', listTail_append, listTail_one, textB, Nat.add_assoc])) (.refl _) rfl
  · skip
    repeat (with_reducible first | refine WC.block ?_ | refine WC.seq (WC.block ?_) | refine WC.seq (WC.seq ?_) | refine nxt_n ?_ | refine nxt_e ?_ | refine nxt_r ?_ | refine blk_n ?_ | refine blk_r ?_ | refine blk_hit ?_ | refine blk_miss (by rfl) ?_ | refine WC.skip ?_ | refine WC.exit ?_ | refine WC.ret ?_)
    first | refine WC.regionSeq envOk lenvOk hG (by kernel_rfl) (fun Θ K hΘ hK => ?_) | refine WC.region envOk lenvOk hG (by kernel_rfl) (fun Θ K hΘ hK => ?_)
    simp (maxSteps := 2000000) only [run, wantV, cvM, stepV, takeV, cvtV, evR, evC, ev1, evO, lk, V.fzT, V.fz, S.set, Post, cvV, reduceIte, reduceCtorEq, ne_eq, not_false_eq_true, eq_self, true_and, and_self, Nat.reduceLT, Nat.reduceEqDiff, Nat.reduceBEq, Bool.false_eq_true, List.contains, List.elem, bv_length, allBytes_bv, bytesV_bv, c13n, c13H, c13T, e5, e9, e53]
    repeat' (with_reducible apply And.intro)
    any_goals (first | (refine hK _ ?_; (first | clear hK K hΘ Θ | clear hK K hn0 hcl hΘ Θ)) | omega | (simp only [List.length_append, List.length_cons, List.length_nil] <;> omega) | exact one_bv _ | exact one_sv _ | skip)
    repeat (with_reducible first | refine WC.block ?_ | refine WC.seq (WC.block ?_) | refine WC.seq (WC.seq ?_) | refine nxt_n ?_ | refine nxt_e ?_ | refine nxt_r ?_ | refine blk_n ?_ | refine blk_r ?_ | refine blk_hit ?_ | refine blk_miss (by rfl) ?_ | refine WC.skip ?_ | refine WC.exit ?_ | refine WC.ret ?_)
    first | refine ⟨.inr rfl, _, _, (by simp (maxSteps := 2000000) only [lk, okRes, resV, resA, reduceIte, eq_self, Nat.reduceEqDiff, Try.f47]; exact rfl), ?_⟩ | refine ⟨.inl rfl, _, _, (by simp (maxSteps := 2000000) only [false_implies, implies_true, zeroB, takB, apdB, run, binAgg,  wantV, gV, splitG, runB, stepB, valB, stoB, alcB, boxB, rowB, S.setO, PostB, runA.isCall, defCl, cvM, apV, stepV, takeV, takeTupV, takeCellV, allocV, boxV_agg, boxV_flat, bslV, mkSlV, cvtV, appV, stoV, srcV, notIntT, evR, evC, ev1, evO, lk, constOk, ofConst, ofC1, isNilSl, flatOk, V.known, V.fzT, V.fz, V.cells, S.set, S.setU, S.back, argSl, Post, binV, binInt, binStr, binBool, binPtr, nilEq, unV, cvV, extV, chkV, fieldV, indexV, faV, iaV, ldV, slV, bnd, lenV, mxV, mnV, bltV, buildV, fillV, mkV, nobs, okRes, resV, resL, resA, reduceIte, reduceCtorEq, ne_eq, not_false_eq_true, not_true_eq_false, eq_self, true_and, and_true, and_self, and_assoc, Nat.reduceLT, Nat.reduceLeDiff, Nat.reduceEqDiff, Nat.reduceBEq, Nat.reduceMul, Nat.reduceAdd, Nat.reduceSub, Bool.false_eq_true, Bool.or_true, Bool.true_or, Bool.or_false, Bool.false_or, Bool.not_true, Bool.not_false, cond_true, cond_false, List.contains, List.elem, List.map_cons, List.map_nil, List.all_cons, List.all_nil, List.any_cons, List.any_nil, List.getElem?_cons_zero, List.getElem?_cons_succ, List.getElem?_nil, List.getD_cons_zero, List.getD_cons_succ, List.getD_nil, Option.bind_some, Option.bind_none, Option.map_some, Option.map_none, Option.getD_some, Option.getD_none, id, beq_self_eq_true, BEq.rfl, Nat.zero_mul, Nat.mul_one, Nat.one_mul, Nat.zero_add, Nat.add_zero, upd_same, List.length_cons, List.length_nil, upd_upd, List.mem_cons, List.not_mem_nil, or_false, forall_eq, List.isEmpty, true_implies, List.set_cons_zero, List.set_cons_succ, List.cons_append, List.nil_append, Option.isSome_some, Option.isSome_none, Bool.and_true, Bool.true_and, Bool.and_false, Bool.false_and, forall_eq_or_imp, rep1, rep0, rep2, rep3, rep4, rep5, rep6, rep7, rep8, putV_z, putV_s, maxLen, Nat.reducePow, bv_length, allBytes_bv, bytesV_bv, decide_eq_true_eq, decide_true, decide_false, List.drop_zero, bs_size, bs_append, bs_inj, bs_extract, bytesC_bs, bs_bytes, bv_app, bytesV_one, allBytes_one, sv_length, Int.reduceEq, Int.reduceLT, Int.reduceLE, Int.reduceGT, Int.reduceGE, Bool.true_bne, Bool.false_bne, Bool.bne_true, Bool.bne_false, Bool.true_beq, Bool.false_beq, imax, nat0, nat1, Int.toNat_natCast, Int.toNat_zero, Int.reduceToNat, c13n, c13H, c13L, c13T, c13B, c13g, e3, e4, e5, e9, e22, e23, e25, e26, e28, e35, e39, e40, e43, e48, e53, e63, e85, e95, e108, l23, l25, l35, l22, Try.f47]; exact rfl), ?_⟩
    simp (maxSteps := 2000000) only [reduceCtorEq, ne_eq, not_false_eq_true, eq_self, true_and, and_true, and_self]
    have : i = l.length := by have := of_decide_eq_false ht; omega
    subst this
    rw [List.take_length]; rfl

def c14 : Cfg := ⟨envH, envL, GL, 26, [], []⟩
theorem c14H : c14.H = envH := rfl
theorem c14L : c14.L = envL := rfl
theorem c14n : c14.nt = 26 := rfl
theorem c14T : c14.T = [] := rfl
theorem c14B : c14.B = [] := rfl
theorem c14g : c14.gl = GL := rfl
end Go.VL
