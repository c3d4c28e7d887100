/- Part TList of the proof: made for this claim. -/
import Derived.Test.YtnajgcmdkmlimaaTRead
set_option linter.unusedVariables false
set_option linter.unusedSimpArgs false
set_option maxHeartbeats 4000000
set_option maxRecDepth 100000
open Go.RowKit
namespace Go.VL
open Go.Proofs

/-- Two ways that lead to a state that is named. -/
theorem WC.condTo {P : Program} {E : Entry} {C : Cfg} (mid : S) (hG : GlOk E.g0 E.w0 C.gl) {c : Operand} {x y : Code} {σ : S} {Q : QC} {t : Bool} (hc : evO (lk σ.sl) C.gl c = .flat (.bool t))
    (ht : t = true → WC P E C x σ (fun e s => e = .normal ∧ Sub E C.nt s mid)) (hf : t = false → WC P E C y σ (fun e s => e = .normal ∧ Sub E C.nt s mid)) (h2 : Q .normal mid) : WC P E C (.cond c x y) σ Q := by
  intro a w hA
  refine wp_mono (WC.cond hG hc ht hf a w hA) ?_
  rintro e a' w' ⟨s, k1, rfl, k2⟩
  exact ⟨mid, k2 a' w' k1, h2⟩

def rText (s : List UInt8) (f : Bool) : List UInt8 × (List UInt8 × Bool) := rTake (rNum s f).1 (rNum s f).2.1 (rNum s f).2.2

def c25 : Cfg := ⟨envH, envL, GL, 9, [], []⟩
theorem c25H : c25.H = envH := rfl
theorem c25L : c25.L = envL := rfl
theorem c25n : c25.nt = 9 := rfl
theorem c25T : c25.T = [] := rfl
theorem c25B : c25.B = [] := rfl
theorem c25g : c25.gl = GL := rfl
theorem RdText_sp (b : Nat) (s : List UInt8) (f : Bool) (M : Nat → Option (List V)) (mn : Nat) (hb : M b = rd s f) : Sp Try.prog GL 72 [.bp b 0] M mn (fun r m k => r = .flat (.string (bs (rText s f).1)) ∧ m = upd M b (rd (rText s f).2.1 (rText s f).2.2) ∧ k = mn) := by
  refine Sp.intro (C := c25) (fn := Try.f72) envOk Try.func72 (by kernel_rfl) rfl rfl (by simp [c25n]) (distinctB_spec _ [] rfl) (by simp [noOwnB]) ?_
  intro E hG hM
  iterate 2
    repeat (with_reducible first | refine WC.block ?_ | refine WC.seq (WC.block ?_) | refine WC.seq (WC.seq ?_) | refine nxt_n ?_ | refine nxt_e ?_ | refine nxt_r ?_ | refine blk_n ?_ | refine blk_r ?_ | refine blk_hit ?_ | refine blk_miss (by rfl) ?_ | refine WC.skip ?_ | refine WC.exit ?_ | refine WC.ret ?_)
    first | refine WC.regionSeq envOk lenvOk hG (by kernel_rfl) (fun Θ K hΘ hK => ?_) | refine WC.region envOk lenvOk hG (by kernel_rfl) (fun Θ K hΘ hK => ?_)
    simp (maxSteps := 2000000) only [run, wantV, stepV, takeV, evR, evC, ev1, evO, lk, constOk, ofConst, ofC1, isNilSl, flatOk, V.fzT, V.fz, S.set, argSl, Post, binV, binPtr, nilEq, reduceIte, reduceCtorEq, ne_eq, not_false_eq_true, eq_self, true_and, and_self, Nat.reduceLT, Nat.reduceEqDiff, Bool.false_eq_true, List.contains, List.elem, c25n, c25H, c25T, e95]
    repeat' (with_reducible apply And.intro)
    any_goals (first | (refine hK _ ?_; (first | clear hK K hΘ Θ | clear hK K hn0 hcl hΘ Θ)) | omega | (simp only [List.length_append, List.length_cons, List.length_nil] <;> omega) | exact one_bv _ | exact one_sv _ | skip)
  repeat (with_reducible first | refine WC.block ?_ | refine WC.seq (WC.block ?_) | refine WC.seq (WC.seq ?_) | refine nxt_n ?_ | refine nxt_e ?_ | refine nxt_r ?_ | refine blk_n ?_ | refine blk_r ?_ | refine blk_hit ?_ | refine blk_miss (by rfl) ?_ | refine WC.skip ?_ | refine WC.exit ?_ | refine WC.ret ?_)
  first | refine WC.cond hG (t := false) (by simp [lk, evO]) (fun hu => ?_) (fun hu => ?_) | refine WC.seq (WC.cond hG (t := false) (by simp [lk, evO]) (fun hu => ?_) (fun hu => ?_))
  · exact absurd hu (by simp)
  clear hu
  repeat (with_reducible first | refine WC.block ?_ | refine WC.seq (WC.block ?_) | refine WC.seq (WC.seq ?_) | refine nxt_n ?_ | refine nxt_e ?_ | refine nxt_r ?_ | refine blk_n ?_ | refine blk_r ?_ | refine blk_hit ?_ | refine blk_miss (by rfl) ?_ | refine WC.skip ?_ | refine WC.exit ?_ | refine WC.ret ?_)
  first | refine WC.regionSeq envOk lenvOk hG (by kernel_rfl) (fun Θ K hΘ hK => ?_) | refine WC.region envOk lenvOk hG (by kernel_rfl) (fun Θ K hΘ hK => ?_)
  simp (maxSteps := 2000000) only [run, wantV, stepV, takeV, evR, evC, ev1, evO, lk, constOk, ofConst, ofC1, isNilSl, flatOk, V.fzT, V.fz, S.set, Post, reduceIte, reduceCtorEq, ne_eq, not_false_eq_true, eq_self, true_and, and_self, Nat.reduceLT, Nat.reduceEqDiff, Bool.false_eq_true, List.contains, List.elem, List.map_cons, List.map_nil, c25n, c25T, c25g]
  repeat' (with_reducible apply And.intro)
  any_goals (first | (refine hK _ ?_; (first | clear hK K hΘ Θ | clear hK K hn0 hcl hΘ Θ)) | omega | (simp only [List.length_append, List.length_cons, List.length_nil] <;> omega) | exact one_bv _ | exact one_sv _ | skip)
  refine CallG.intro (RdNum_sp b s f _ _ hb) (by intro x hx; simp only [List.mem_cons, List.not_mem_nil, or_false] at hx; (try rcases hx with rfl | rfl | rfl | rfl | rfl); all_goals (first | rfl | (subst hx; rfl) | contradiction)) (fun r m k hR => ?_)
  obtain ⟨rfl, rfl, rfl⟩ := hR
  refine WR.go (congrArg (List.map (·.dst)) hΘ.symm) ?_
  simp (maxSteps := 2000000) only [run, wantV, stepV, evO, lk, constOk, ofConst, ofC1, isNilSl, flatOk, V.fz, S.back, Post, reduceIte, reduceCtorEq, eq_self, true_and, Nat.reduceEqDiff, List.map_cons, List.map_nil, c25g]
  repeat' (with_reducible apply And.intro)
  any_goals (first | (refine hK _ ?_; (first | clear hK K hΘ Θ | clear hK K hn0 hcl hΘ Θ)) | omega | (simp only [List.length_append, List.length_cons, List.length_nil] <;> omega) | exact one_bv _ | exact one_sv _ | skip)
  refine CallG.intro (take_sp b _ _ _ _ _ (upd_same _ _ _)) (by intro x hx; simp only [List.mem_cons, List.not_mem_nil, or_false] at hx; (try rcases hx with rfl | rfl | rfl | rfl | rfl); all_goals (first | rfl | (subst hx; rfl) | contradiction)) (fun r m k hR => ?_)
  obtain ⟨rfl, rfl, rfl⟩ := hR
  refine WR.go (congrArg (List.map (·.dst)) hΘ.symm) ?_
  simp (maxSteps := 2000000) only [run, wantV, stepV, takeV, evR, evC, ev1, evO, lk, V.fzT, V.fz, S.set, S.back, Post, reduceIte, reduceCtorEq, ne_eq, not_false_eq_true, eq_self, true_and, and_self, Nat.reduceLT, Nat.reduceEqDiff, upd_upd, c25n]
  repeat' (with_reducible apply And.intro)
  any_goals (first | (refine hK _ ?_; (first | clear hK K hΘ Θ | clear hK K hn0 hcl hΘ Θ)) | omega | (simp only [List.length_append, List.length_cons, List.length_nil] <;> omega) | exact one_bv _ | exact one_sv _ | skip)
  repeat (with_reducible first | refine WC.block ?_ | refine WC.seq (WC.block ?_) | refine WC.seq (WC.seq ?_) | refine nxt_n ?_ | refine nxt_e ?_ | refine nxt_r ?_ | refine blk_n ?_ | refine blk_r ?_ | refine blk_hit ?_ | refine blk_miss (by rfl) ?_ | refine WC.skip ?_ | refine WC.exit ?_ | refine WC.ret ?_)
  first | refine ⟨.inr rfl, _, _, (by simp (maxSteps := 2000000) only [lk, okRes, resV, resA, reduceIte, reduceCtorEq, eq_self, Nat.reduceEqDiff, Try.f72]; exact rfl), ?_⟩ | refine ⟨.inl rfl, _, _, (by simp (maxSteps := 2000000) only [false_implies, implies_true, zeroB, takB, apdB, run, binAgg,  wantV, gV, splitG, runB, stepB, valB, stoB, alcB, boxB, rowB, S.setO, PostB, runA.isCall, defCl, cvM, apV, stepV, takeV, takeTupV, takeCellV, allocV, boxV_agg, boxV_flat, bslV, mkSlV, cvtV, appV, stoV, srcV, notIntT, evR, evC, ev1, evO, lk, constOk, ofConst, ofC1, isNilSl, flatOk, V.known, V.fzT, V.fz, V.cells, S.set, S.setU, S.back, argSl, Post, binV, binInt, binStr, binBool, binPtr, nilEq, unV, cvV, extV, chkV, fieldV, indexV, faV, iaV, ldV, slV, bnd, lenV, mxV, mnV, bltV, buildV, fillV, mkV, nobs, okRes, resV, resL, resA, reduceIte, reduceCtorEq, ne_eq, not_false_eq_true, not_true_eq_false, eq_self, true_and, and_true, and_self, and_assoc, Nat.reduceLT, Nat.reduceLeDiff, Nat.reduceEqDiff, Nat.reduceBEq, Nat.reduceMul, Nat.reduceAdd, Nat.reduceSub, Bool.false_eq_true, Bool.or_true, Bool.true_or, Bool.or_false, Bool.false_or, Bool.not_true, Bool.not_false, cond_true, cond_false, List.contains, List.elem, List.map_cons, List.map_nil, List.all_cons, List.all_nil, List.any_cons, List.any_nil, List.getElem?_cons_zero, List.getElem?_cons_succ, List.getElem?_nil, List.getD_cons_zero, List.getD_cons_succ, List.getD_nil, Option.bind_some, Option.bind_none, Option.map_some, Option.map_none, Option.getD_some, Option.getD_none, id, beq_self_eq_true, BEq.rfl, Nat.zero_mul, Nat.mul_one, Nat.one_mul, Nat.zero_add, Nat.add_zero, upd_same, List.length_cons, List.length_nil, upd_upd, List.mem_cons, List.not_mem_nil, or_false, forall_eq, List.isEmpty, true_implies, List.set_cons_zero, List.set_cons_succ, List.cons_append, List.nil_append, Option.isSome_some, Option.isSome_none, Bool.and_true, Bool.true_and, Bool.and_false, Bool.false_and, forall_eq_or_imp, rep1, rep0, rep2, rep3, rep4, rep5, rep6, rep7, rep8, putV_z, putV_s, maxLen, Nat.reducePow, bv_length, allBytes_bv, bytesV_bv, decide_eq_true_eq, decide_true, decide_false, List.drop_zero, bs_size, bs_append, bs_inj, bs_extract, bytesC_bs, bs_bytes, bv_app, bytesV_one, allBytes_one, sv_length, Int.reduceEq, Int.reduceLT, Int.reduceLE, Int.reduceGT, Int.reduceGE, Bool.true_bne, Bool.false_bne, Bool.bne_true, Bool.bne_false, Bool.true_beq, Bool.false_beq, imax, nat0, nat1, Int.toNat_natCast, Int.toNat_zero, Int.reduceToNat, c25n, c25H, c25L, c25T, c25B, c25g, e3, e4, e5, e9, e22, e23, e25, e26, e28, e35, e39, e40, e43, e48, e53, e63, e85, e95, e108, l23, l25, l35, l22, Try.f72]; exact rfl), ?_⟩
  simp (maxSteps := 2000000) only [reduceCtorEq, ne_eq, not_false_eq_true, eq_self, true_and, and_true]
  exact ⟨rfl, rfl⟩

def rTexts : Nat → List UInt8 → Bool → List (List UInt8) × (List UInt8 × Bool)
  | 0, s, f => ([], (s, f))
  | n + 1, s, f => if f = true then ([], (s, f)) else
    ((rText s f).1 :: (rTexts n (rText s f).2.1 (rText s f).2.2).1, (rTexts n (rText s f).2.1 (rText s f).2.2).2)
def rStart (s : List UInt8) (f : Bool) : List UInt8 × Bool := if 4096 < (rNum s f).1 then ([], true) else (rNum s f).2
def rList (s : List UInt8) (f : Bool) : List (List UInt8) × (List UInt8 × Bool) :=
  if (rTexts (rNum s f).1 (rStart s f).1 (rStart s f).2).2.2 = true then ([], (rTexts (rNum s f).1 (rStart s f).1 (rStart s f).2).2) else rTexts (rNum s f).1 (rStart s f).1 (rStart s f).2
theorem rTexts_stop (n : Nat) (s : List UInt8) : rTexts n s true = ([], (s, true)) := by cases n <;> simp [rTexts]
theorem rNum_lt (s : List UInt8) (f : Bool) : (rNum s f).1 < 9223372036854775808 := by
  simp only [rNum]
  split
  · simp
  · split
    · simp
    · rename_i h
      exact (be_good (by simpa using h)).1

def c27 : Cfg := ⟨envH, envL, GL, 36, [26], []⟩
theorem c27H : c27.H = envH := rfl
theorem c27L : c27.L = envL := rfl
theorem c27n : c27.nt = 36 := rfl
theorem c27T : c27.T = [26] := rfl
theorem c27B : c27.B = [] := rfl
theorem c27g : c27.gl = GL := rfl
theorem RdList_sp (b : Nat) (s : List UInt8) (f : Bool) (M : Nat → Option (List V)) (mn : Nat) (hb : M b = rd s f) : Sp Try.prog GL 66 [.bp b 0] M mn (fun r m k => r = .sl false 1 (rList s f).1.length (sv (rList s f).1) ∧ m = upd M b (rd (rList s f).2.1 (rList s f).2.2) ∧ k = mn) := by
  refine Sp.intro (C := c27) (fn := Try.f66) envOk Try.func66 (by kernel_rfl) rfl rfl (by simp [c27n]) (distinctB_spec _ [] rfl) (by simp [noOwnB]) ?_
  intro E hG hM
  iterate 2
    repeat (with_reducible first | refine WC.block ?_ | refine WC.seq (WC.block ?_) | refine WC.seq (WC.seq ?_) | refine nxt_n ?_ | refine nxt_e ?_ | refine nxt_r ?_ | refine blk_n ?_ | refine blk_r ?_ | refine blk_hit ?_ | refine blk_miss (by rfl) ?_ | refine WC.skip ?_ | refine WC.exit ?_ | refine WC.ret ?_)
    first | refine WC.regionSeq envOk lenvOk hG (by kernel_rfl) (fun Θ K hΘ hK => ?_) | refine WC.region envOk lenvOk hG (by kernel_rfl) (fun Θ K hΘ hK => ?_)
    simp (maxSteps := 2000000) only [run, wantV, stepV, takeV, evR, evC, ev1, evO, lk, constOk, ofConst, ofC1, isNilSl, flatOk, V.fzT, V.fz, S.set, argSl, Post, binV, binPtr, nilEq, reduceIte, reduceCtorEq, ne_eq, not_false_eq_true, eq_self, true_and, and_self, Nat.reduceLT, Nat.reduceEqDiff, Nat.reduceBEq, Bool.false_eq_true, List.contains, List.elem, c27n, c27H, c27T, e95]
    repeat' (with_reducible apply And.intro)
    any_goals (first | (refine hK _ ?_; (first | clear hK K hΘ Θ | clear hK K hn0 hcl hΘ Θ)) | omega | (simp only [List.length_append, List.length_cons, List.length_nil] <;> omega) | exact one_bv _ | exact one_sv _ | skip)
  repeat (with_reducible first | refine WC.block ?_ | refine WC.seq (WC.block ?_) | refine WC.seq (WC.seq ?_) | refine nxt_n ?_ | refine nxt_e ?_ | refine nxt_r ?_ | refine blk_n ?_ | refine blk_r ?_ | refine blk_hit ?_ | refine blk_miss (by rfl) ?_ | refine WC.skip ?_ | refine WC.exit ?_ | refine WC.ret ?_)
  first | refine WC.cond hG (t := false) (by simp [lk, evO]) (fun hu => ?_) (fun hu => ?_) | refine WC.seq (WC.cond hG (t := false) (by simp [lk, evO]) (fun hu => ?_) (fun hu => ?_))
  · exact absurd hu (by simp)
  clear hu
  repeat (with_reducible first | refine WC.block ?_ | refine WC.seq (WC.block ?_) | refine WC.seq (WC.seq ?_) | refine nxt_n ?_ | refine nxt_e ?_ | refine nxt_r ?_ | refine blk_n ?_ | refine blk_r ?_ | refine blk_hit ?_ | refine blk_miss (by rfl) ?_ | refine WC.skip ?_ | refine WC.exit ?_ | refine WC.ret ?_)
  first | refine WC.regionSeq envOk lenvOk hG (by kernel_rfl) (fun Θ K hΘ hK => ?_) | refine WC.region envOk lenvOk hG (by kernel_rfl) (fun Θ K hΘ hK => ?_)
  simp (maxSteps := 2000000) only [run, wantV, stepV, takeV, evR, evC, ev1, evO, lk, constOk, ofConst, ofC1, isNilSl, flatOk, V.fzT, V.fz, S.set, Post, reduceIte, reduceCtorEq, ne_eq, not_false_eq_true, eq_self, true_and, and_self, Nat.reduceLT, Nat.reduceEqDiff, Nat.reduceBEq, Bool.false_eq_true, List.contains, List.elem, List.map_cons, List.map_nil, c27n, c27T, c27g]
  repeat' (with_reducible apply And.intro)
  any_goals (first | (refine hK _ ?_; (first | clear hK K hΘ Θ | clear hK K hn0 hcl hΘ Θ)) | omega | (simp only [List.length_append, List.length_cons, List.length_nil] <;> omega) | exact one_bv _ | exact one_sv _ | skip)
  refine CallG.intro (RdNum_sp b s f _ _ hb) (by intro x hx; simp only [List.mem_cons, List.not_mem_nil, or_false] at hx; (try rcases hx with rfl | rfl | rfl | rfl | rfl); all_goals (first | rfl | (subst hx; rfl) | contradiction)) (fun r m k hR => ?_)
  obtain ⟨rfl, rfl, rfl⟩ := hR
  refine WR.go (congrArg (List.map (·.dst)) hΘ.symm) ?_
  simp (maxSteps := 2000000) only [run, wantV, stepV, takeV, evR, evC, ev1, evO, lk, V.fzT, V.fz, S.set, S.back, Post, reduceIte, reduceCtorEq, ne_eq, not_false_eq_true, eq_self, true_and, and_self, Nat.reduceLT, Nat.reduceEqDiff, c27n]
  repeat' (with_reducible apply And.intro)
  any_goals (first | (refine hK _ ?_; (first | clear hK K hΘ Θ | clear hK K hn0 hcl hΘ Θ)) | omega | (simp only [List.length_append, List.length_cons, List.length_nil] <;> omega) | exact one_bv _ | exact one_sv _ | skip)
  have hlt := rNum_lt s f
  have hst : rStart s f = if 4096 < (rNum s f).1 then ([], true) else (rNum s f).2 := rfl
  have hrl : rList s f = if (rTexts (rNum s f).1 (rStart s f).1 (rStart s f).2).2.2 = true then ([], (rTexts (rNum s f).1 (rStart s f).1 (rStart s f).2).2) else rTexts (rNum s f).1 (rStart s f).1 (rStart s f).2 := rfl
  generalize hA : rNum s f = A at *
  obtain ⟨n, s1, f1⟩ := A
  generalize hB : rStart s f = B at *
  obtain ⟨s2, f2⟩ := B
  generalize rList s f = RL at *
  simp only at *
  repeat (with_reducible first | refine WC.block ?_ | refine WC.seq (WC.block ?_) | refine WC.seq (WC.seq ?_) | refine nxt_n ?_ | refine nxt_e ?_ | refine nxt_r ?_ | refine blk_n ?_ | refine blk_r ?_ | refine blk_hit ?_ | refine blk_miss (by rfl) ?_ | refine WC.skip ?_ | refine WC.exit ?_ | refine WC.ret ?_)
  first | refine WC.regionSeq envOk lenvOk hG (by kernel_rfl) (fun Θ K hΘ hK => ?_) | refine WC.region envOk lenvOk hG (by kernel_rfl) (fun Θ K hΘ hK => ?_)
  simp (maxSteps := 2000000) only [run, wantV, stepV, takeV, evR, evC, ev1, evO, lk, constOk, ofConst, ofC1, isNilSl, flatOk, V.fzT, V.fz, S.set, Post, binV, binInt, reduceIte, reduceCtorEq, ne_eq, not_false_eq_true, eq_self, true_and, and_self, Nat.reduceLT, Nat.reduceEqDiff, Nat.reduceBEq, Bool.false_eq_true, List.contains, List.elem, c27n, c27T]
  repeat' (with_reducible apply And.intro)
  any_goals (first | (refine hK _ ?_; (first | clear hK K hΘ Θ | clear hK K hn0 hcl hΘ Θ)) | omega | (simp only [List.length_append, List.length_cons, List.length_nil] <;> omega) | exact one_bv _ | exact one_sv _ | skip)
  repeat (with_reducible first | refine WC.block ?_ | refine WC.seq (WC.block ?_) | refine WC.seq (WC.seq ?_) | refine nxt_n ?_ | refine nxt_e ?_ | refine nxt_r ?_ | refine blk_n ?_ | refine blk_r ?_ | refine blk_hit ?_ | refine blk_miss (by rfl) ?_ | refine WC.skip ?_ | refine WC.exit ?_ | refine WC.ret ?_)
  refine WC.condTo ⟨[(0, .bp b 0), (3, .flat (.int .i64 n))], upd M b (rd s2 f2), k⟩ hG (t := decide ((n : Int) > 4096)) (by simp [lk, evO]) (fun hu => ?_) (fun hu => ?_) ?_
  · skip
    have hu' : 4096 < n := by have := of_decide_eq_true hu; omega
    rw [if_pos hu'] at hst
    simp only [Prod.mk.injEq] at hst
    obtain ⟨rfl, rfl⟩ := hst
    repeat (with_reducible first | refine WC.block ?_ | refine WC.seq (WC.block ?_) | refine WC.seq (WC.seq ?_) | refine nxt_n ?_ | refine nxt_e ?_ | refine nxt_r ?_ | refine blk_n ?_ | refine blk_r ?_ | refine blk_hit ?_ | refine blk_miss (by rfl) ?_ | refine WC.skip ?_ | refine WC.exit ?_ | refine WC.ret ?_)
    first | refine WC.regionSeq envOk lenvOk hG (by kernel_rfl) (fun Θ K hΘ hK => ?_) | refine WC.region envOk lenvOk hG (by kernel_rfl) (fun Θ K hΘ hK => ?_)
    simp (maxSteps := 2000000) only [run, wantV, stepV, takeV, evR, evC, ev1, evO, lk, constOk, ofConst, ofC1, isNilSl, flatOk, V.fzT, V.fz, S.set, Post, reduceIte, reduceCtorEq, ne_eq, not_false_eq_true, eq_self, true_and, and_self, Nat.reduceLT, Nat.reduceEqDiff, Nat.reduceBEq, Bool.false_eq_true, List.contains, List.elem, List.map_cons, List.map_nil, c27n, c27T, c27g]
    repeat' (with_reducible apply And.intro)
    any_goals (first | (refine hK _ ?_; (first | clear hK K hΘ Θ | clear hK K hn0 hcl hΘ Θ)) | omega | (simp only [List.length_append, List.length_cons, List.length_nil] <;> omega) | exact one_bv _ | exact one_sv _ | skip)
    refine CallG.intro (fail_sp b s1 f1 _ _ (upd_same _ _ _)) (by intro x hx; simp only [List.mem_cons, List.not_mem_nil, or_false] at hx; (try rcases hx with rfl | rfl | rfl | rfl | rfl); all_goals (first | rfl | (subst hx; rfl) | contradiction)) (fun r m k hR => ?_)
    obtain ⟨rfl, rfl, rfl⟩ := hR
    refine WR.go (congrArg (List.map (·.dst)) hΘ.symm) ?_
    simp (maxSteps := 2000000) only [run, S.back, Post, true_and, upd_upd]
    repeat' (with_reducible apply And.intro)
    any_goals (first | (refine hK _ ?_; (first | clear hK K hΘ Θ | clear hK K hn0 hcl hΘ Θ)) | omega | (simp only [List.length_append, List.length_cons, List.length_nil] <;> omega) | exact one_bv _ | exact one_sv _ | skip)
    exact ⟨rfl, Sub.of (by simp only [subL, lk, reduceIte, Nat.reduceEqDiff]; (repeat' (with_reducible apply And.intro)); all_goals first | exact SubV.refl _ | exact SubV.nil _ _ | exact SubV.fz _ _ _ | exact trivial | exact SubV.of_eq (by simp [bv, List.length_append])) (.refl _) rfl⟩
  · skip
    have hu' : ¬ 4096 < n := by have := of_decide_eq_false hu; omega
    rw [if_neg hu'] at hst
    simp only [Prod.mk.injEq] at hst
    obtain ⟨rfl, rfl⟩ := hst
    repeat (with_reducible first | refine WC.block ?_ | refine WC.seq (WC.block ?_) | refine WC.seq (WC.seq ?_) | refine nxt_n ?_ | refine nxt_e ?_ | refine nxt_r ?_ | refine blk_n ?_ | refine blk_r ?_ | refine blk_hit ?_ | refine blk_miss (by rfl) ?_ | refine WC.skip ?_ | refine WC.exit ?_ | refine WC.ret ?_)
    exact ⟨rfl, Sub.of (by simp only [subL, lk, reduceIte, Nat.reduceEqDiff]; (repeat' (with_reducible apply And.intro)); all_goals first | exact SubV.refl _ | exact SubV.nil _ _ | exact SubV.fz _ _ _ | exact trivial | exact SubV.of_eq (by simp [bv, List.length_append])) (.refl _) rfl⟩
  have hsmall : f2 = false → n ≤ 4096 := by
    intro h
    split at hst
    · simp only [Prod.mk.injEq] at hst; rw [hst.2] at h; cases h
    · omega
  iterate 2
    repeat (with_reducible first | refine WC.block ?_ | refine WC.seq (WC.block ?_) | refine WC.seq (WC.seq ?_) | refine nxt_n ?_ | refine nxt_e ?_ | refine nxt_r ?_ | refine blk_n ?_ | refine blk_r ?_ | refine blk_hit ?_ | refine blk_miss (by rfl) ?_ | refine WC.skip ?_ | refine WC.exit ?_ | refine WC.ret ?_)
    first | refine WC.regionSeq envOk lenvOk hG (by kernel_rfl) (fun Θ K hΘ hK => ?_) | refine WC.region envOk lenvOk hG (by kernel_rfl) (fun Θ K hΘ hK => ?_)
    simp (maxSteps := 2000000) only [run, wantV, stepV, takeV, evR, evC, ev1, evO, constOk, ofConst, ofC1, isNilSl, flatOk, V.fzT, V.fz, S.set, Post, reduceIte, reduceCtorEq, ne_eq, not_false_eq_true, eq_self, true_and, and_self, Nat.reduceLT, Bool.false_eq_true, c27n]
    repeat' (with_reducible apply And.intro)
    any_goals (first | (refine hK _ ?_; (first | clear hK K hΘ Θ | clear hK K hn0 hcl hΘ Θ)) | omega | (simp only [List.length_append, List.length_cons, List.length_nil] <;> omega) | exact one_bv _ | exact one_sv _ | skip)
  repeat (with_reducible first | refine WC.block ?_ | refine WC.seq (WC.block ?_) | refine WC.seq (WC.seq ?_) | refine nxt_n ?_ | refine nxt_e ?_ | refine nxt_r ?_ | refine blk_n ?_ | refine blk_r ?_ | refine blk_hit ?_ | refine blk_miss (by rfl) ?_ | refine WC.skip ?_ | refine WC.exit ?_ | refine WC.ret ?_)
  refine WC.loop (fun x σ => ∃ i out s' f', i + x = n ∧ (f' = false → n ≤ 4096) ∧ out.length = i ∧ rTexts n s2 f2 = (out ++ (rTexts x s' f').1, (rTexts x s' f').2) ∧ σ = ⟨[(0, .bp b 0), (3, .flat (.int .i64 n)), (4, .sl true 1 out.length (sv out)), (5, .flat (.int .i64 i))], upd M b (rd s' f'), k⟩) (n0 := n) ⟨0, [], s2, f2, by simp, hsmall, rfl, by simp, rfl⟩
    (Sub.of (by simp only [subL, lk, reduceIte, Nat.reduceEqDiff]; (repeat' (with_reducible apply And.intro)); all_goals first | exact SubV.refl _ | exact SubV.nil _ _ | exact SubV.fz _ _ _ | exact trivial | exact SubV.of_eq (by simp [bv, List.length_append])) (.refl _) rfl) ?_
  rintro x σ ⟨i, out, s', f', hi, hsm, hol, hspec, rfl⟩
  have key : ∀ t : Bool, t = (decide ((i : Int) < n) && !f') → t = true ∨ rTexts x s' f' = ([], (s', f')) := by
    intro t ht
    cases f'
    · by_cases h : i < n
      · left; rw [ht]; simp; omega
      · right; have : x = 0 := by omega
        subst this; rfl
    · right; exact rTexts_stop _ _
  repeat (with_reducible first | refine WC.block ?_ | refine WC.seq (WC.block ?_) | refine WC.seq (WC.seq ?_) | refine nxt_n ?_ | refine nxt_e ?_ | refine nxt_r ?_ | refine blk_n ?_ | refine blk_r ?_ | refine blk_hit ?_ | refine blk_miss (by rfl) ?_ | refine WC.skip ?_ | refine WC.exit ?_ | refine WC.ret ?_)
  first | refine WC.regionTo (⟨[(0, .bp b 0), (3, .flat (.int .i64 n)), (4, .sl true 1 out.length (sv out)), (5, .flat (.int .i64 i)), (23, .flat (.bool (decide ((i : Int) < n) && !f')))], upd M b (rd s' f'), k⟩) envOk lenvOk hG (by kernel_rfl) (fun Θ K hΘ hK => ?_) ?_ | refine WC.seq (WC.regionTo (⟨[(0, .bp b 0), (3, .flat (.int .i64 n)), (4, .sl true 1 out.length (sv out)), (5, .flat (.int .i64 i)), (23, .flat (.bool (decide ((i : Int) < n) && !f')))], upd M b (rd s' f'), k⟩) envOk lenvOk hG (by kernel_rfl) (fun Θ K hΘ hK => ?_) ?_)
  · skip
    by_cases h : (i : Int) < n
    · skip
      have e1 : ((i : Int) < n) = True := eq_true h
      rw [decide_eq_true h] at hK
      cases f'
      · skip
        simp (maxSteps := 2000000) only [run, wantV, stepV, takeV, takeCellV, evR, evC, ev1, evO, lk, constOk, ofConst, ofC1, isNilSl, flatOk, V.fzT, V.fz, S.set, Post, binV, binInt, unV, chkV, faV, ldV, mkV, reduceIte, reduceCtorEq, ne_eq, not_false_eq_true, eq_self, true_and, and_self, Nat.reduceLT, Nat.reduceLeDiff, Nat.reduceEqDiff, Nat.reduceBEq, Nat.reduceAdd, Bool.false_eq_true, Bool.or_true, Bool.not_false, cond_true, List.contains, List.elem, List.map_cons, List.map_nil, List.getElem?_cons_zero, List.getElem?_cons_succ, List.getD_cons_zero, List.getD_cons_succ, Option.bind_some, id, beq_self_eq_true, Nat.zero_add, upd_same, List.length_cons, List.length_nil, List.cons_append, List.nil_append, decide_true, c27n, c27H, c27T, e4, e108, e1, rd]
        repeat' (with_reducible apply And.intro)
        any_goals (first | (refine hK _ (Sub.of ?_ (.refl _) rfl); simp only [subL, lk, reduceIte, Nat.reduceEqDiff]; (repeat' (with_reducible apply And.intro)); all_goals (first | exact SubV.refl _ | exact SubV.nil _ _ | exact SubV.fz _ _ _ | exact trivial | (refine SubV.of_eq ?_; simp only [*, decide_true, decide_false, Bool.not_true, Bool.not_false, Bool.true_and, Bool.and_true, Bool.false_and, Bool.and_false, Bool.or_true, Bool.true_or, Bool.or_false, Bool.false_or, not_true_eq_false, not_false_eq_true]; done) | (refine SubV.of_eq ?_; simp [*]; done)); done) | omega | (simp only [List.length_append, List.length_cons, List.length_nil] <;> omega) | exact one_bv _ | exact one_sv _ | skip)
      · skip
        simp (maxSteps := 2000000) only [run, wantV, stepV, takeV, takeCellV, evR, evC, ev1, evO, lk, constOk, ofConst, ofC1, isNilSl, flatOk, V.fzT, V.fz, S.set, Post, binV, binInt, unV, chkV, faV, ldV, mkV, reduceIte, reduceCtorEq, ne_eq, not_false_eq_true, eq_self, true_and, and_self, Nat.reduceLT, Nat.reduceLeDiff, Nat.reduceEqDiff, Nat.reduceBEq, Nat.reduceAdd, Bool.false_eq_true, Bool.or_true, Bool.not_true, cond_true, List.contains, List.elem, List.map_cons, List.map_nil, List.getElem?_cons_zero, List.getElem?_cons_succ, List.getD_cons_zero, List.getD_cons_succ, Option.bind_some, id, beq_self_eq_true, Nat.zero_add, upd_same, List.length_cons, List.length_nil, List.cons_append, List.nil_append, decide_true, c27n, c27H, c27T, e4, e108, e1, rd]
        repeat' (with_reducible apply And.intro)
        any_goals (first | (refine hK _ (Sub.of ?_ (.refl _) rfl); simp only [subL, lk, reduceIte, Nat.reduceEqDiff]; (repeat' (with_reducible apply And.intro)); all_goals (first | exact SubV.refl _ | exact SubV.nil _ _ | exact SubV.fz _ _ _ | exact trivial | (refine SubV.of_eq ?_; simp only [*, decide_true, decide_false, Bool.not_true, Bool.not_false, Bool.true_and, Bool.and_true, Bool.false_and, Bool.and_false, Bool.or_true, Bool.true_or, Bool.or_false, Bool.false_or, not_true_eq_false, not_false_eq_true]; done) | (refine SubV.of_eq ?_; simp [*]; done)); done) | omega | (simp only [List.length_append, List.length_cons, List.length_nil] <;> omega) | exact one_bv _ | exact one_sv _ | skip)
    · skip
      have e1 : ((i : Int) < n) = False := eq_false h
      rw [decide_eq_false h] at hK
      simp (maxSteps := 2000000) only [run, wantV, stepV, takeV, evR, evC, ev1, evO, lk, constOk, ofConst, ofC1, isNilSl, flatOk, V.fzT, V.fz, S.set, S.setU, Post, binV, binInt, reduceIte, reduceCtorEq, ne_eq, not_false_eq_true, eq_self, true_and, and_self, Nat.reduceLT, Nat.reduceEqDiff, Nat.reduceBEq, Bool.false_eq_true, Bool.not_true, cond_false, List.contains, List.elem, List.map_cons, List.map_nil, List.getElem?_cons_zero, List.getElem?_cons_succ, Option.bind_some, id, decide_false, c27n, c27T, e1]
      repeat' (with_reducible apply And.intro)
      any_goals (first | (refine hK _ (Sub.of ?_ (.refl _) rfl); simp only [subL, lk, reduceIte, Nat.reduceEqDiff]; (repeat' (with_reducible apply And.intro)); all_goals (first | exact SubV.refl _ | exact SubV.nil _ _ | exact SubV.fz _ _ _ | exact trivial | (refine SubV.of_eq ?_; simp only [*, decide_true, decide_false, Bool.not_true, Bool.not_false, Bool.true_and, Bool.and_true, Bool.false_and, Bool.and_false, Bool.or_true, Bool.true_or, Bool.or_false, Bool.false_or, not_true_eq_false, not_false_eq_true]; done) | (refine SubV.of_eq ?_; simp [*]; done)); done) | omega | (simp only [List.length_append, List.length_cons, List.length_nil] <;> omega) | exact one_bv _ | exact one_sv _ | skip)
  repeat (with_reducible first | refine WC.block ?_ | refine WC.seq (WC.block ?_) | refine WC.seq (WC.seq ?_) | refine nxt_n ?_ | refine nxt_e ?_ | refine nxt_r ?_ | refine blk_n ?_ | refine blk_r ?_ | refine blk_hit ?_ | refine blk_miss (by rfl) ?_ | refine WC.skip ?_ | refine WC.exit ?_ | refine WC.ret ?_)
  first | refine WC.cond hG (t := (decide ((i : Int) < n) && !f')) (by simp [lk, evO]) (fun hc => ?_) (fun hc => ?_) | refine WC.seq (WC.cond hG (t := (decide ((i : Int) < n) && !f')) (by simp [lk, evO]) (fun hc => ?_) (fun hc => ?_))
  · skip
    have hin : i < n := by simp at hc; omega
    have hf' : f' = false := by simp at hc; exact hc.2
    subst hf'
    have hn4 := hsm rfl
    have hx : x = (x - 1) + 1 := by omega
    rw [hx] at hspec
    simp only [rTexts, Bool.false_eq_true, if_false] at hspec
    repeat (with_reducible first | refine WC.block ?_ | refine WC.seq (WC.block ?_) | refine WC.seq (WC.seq ?_) | refine nxt_n ?_ | refine nxt_e ?_ | refine nxt_r ?_ | refine blk_n ?_ | refine blk_r ?_ | refine blk_hit ?_ | refine blk_miss (by rfl) ?_ | refine WC.skip ?_ | refine WC.exit ?_ | refine WC.ret ?_)
    first | refine WC.regionSeq envOk lenvOk hG (by kernel_rfl) (fun Θ K hΘ hK => ?_) | refine WC.region envOk lenvOk hG (by kernel_rfl) (fun Θ K hΘ hK => ?_)
    simp (maxSteps := 2000000) only [run, wantV, stepV, takeV, evR, evC, ev1, evO, lk, constOk, ofConst, ofC1, isNilSl, flatOk, V.fzT, V.fz, S.set, Post, reduceIte, reduceCtorEq, ne_eq, not_false_eq_true, eq_self, true_and, and_self, Nat.reduceLT, Nat.reduceEqDiff, Nat.reduceBEq, Bool.false_eq_true, Bool.not_false, List.contains, List.elem, List.map_cons, List.map_nil, beq_self_eq_true, Bool.and_true, c27n, c27T, c27g]
    repeat' (with_reducible apply And.intro)
    any_goals (first | (refine hK _ ?_; (first | clear hK K hΘ Θ | clear hK K hn0 hcl hΘ Θ)) | omega | (simp only [List.length_append, List.length_cons, List.length_nil] <;> omega) | exact one_bv _ | exact one_sv _ | skip)
    refine CallG.intro (RdText_sp b s' false _ _ (upd_same _ _ _)) (by intro x hx; simp only [List.mem_cons, List.not_mem_nil, or_false] at hx; (try rcases hx with rfl | rfl | rfl | rfl | rfl); all_goals (first | rfl | (subst hx; rfl) | contradiction)) (fun r m k hR => ?_)
    obtain ⟨rfl, rfl, rfl⟩ := hR
    refine WR.go (congrArg (List.map (·.dst)) hΘ.symm) ?_
    simp (maxSteps := 2000000) only [run, wantV, stepV, takeV, bslV, appV, srcV, notIntT, evO, lk, constOk, ofConst, ofC1, isNilSl, flatOk, V.fz, V.cells, S.set, S.back, Post, fillV, nobs, reduceIte, reduceCtorEq, ne_eq, not_false_eq_true, eq_self, true_and, and_true, and_self, and_assoc, Nat.reduceLT, Nat.reduceLeDiff, Nat.reduceEqDiff, Nat.reduceSub, List.map_cons, List.map_nil, Nat.mul_one, Nat.zero_add, List.length_cons, List.length_nil, upd_upd, List.mem_cons, List.not_mem_nil, or_false, forall_eq, rep1, putV_z, maxLen, Nat.reducePow, sv_length, c27n, c27H, c27g, e9, e85]
    repeat' (with_reducible apply And.intro)
    any_goals (first | (refine hK _ ?_; (first | clear hK K hΘ Θ | clear hK K hn0 hcl hΘ Θ)) | omega | (simp only [List.length_append, List.length_cons, List.length_nil] <;> omega) | exact one_bv _ | exact one_sv _ | skip)
    repeat (with_reducible first | refine WC.block ?_ | refine WC.seq (WC.block ?_) | refine WC.seq (WC.seq ?_) | refine nxt_n ?_ | refine nxt_e ?_ | refine nxt_r ?_ | refine blk_n ?_ | refine blk_r ?_ | refine blk_hit ?_ | refine blk_miss (by rfl) ?_ | refine WC.skip ?_ | refine WC.exit ?_ | refine WC.ret ?_)
    first | refine WC.regionSeq envOk lenvOk hG (by kernel_rfl) (fun Θ K hΘ hK => ?_) | refine WC.region envOk lenvOk hG (by kernel_rfl) (fun Θ K hΘ hK => ?_)
    simp (maxSteps := 2000000) only [run, wantV, stepV, takeV, evR, evC, ev1, evO, lk, constOk, ofConst, ofC1, isNilSl, flatOk, V.fzT, V.fz, S.set, Post, binV, binInt, reduceIte, reduceCtorEq, ne_eq, not_false_eq_true, eq_self, true_and, and_self, Nat.reduceLT, Nat.reduceEqDiff, Nat.reduceBEq, Bool.false_eq_true, List.contains, List.elem, c27n, c27T]
    repeat' (with_reducible apply And.intro)
    any_goals (first | (refine hK _ ?_; (first | clear hK K hΘ Θ | clear hK K hn0 hcl hΘ Θ)) | omega | (simp only [List.length_append, List.length_cons, List.length_nil] <;> omega) | exact one_bv _ | exact one_sv _ | skip)
    repeat (with_reducible first | refine WC.block ?_ | refine WC.seq (WC.block ?_) | refine WC.seq (WC.seq ?_) | refine nxt_n ?_ | refine nxt_e ?_ | refine nxt_r ?_ | refine blk_n ?_ | refine blk_r ?_ | refine blk_hit ?_ | refine blk_miss (by rfl) ?_ | refine WC.skip ?_ | refine WC.exit ?_ | refine WC.ret ?_)
    rw [wi (by omega) (by omega)]
    refine ⟨x - 1, _, by omega, ?_, i + 1, out ++ [(rText s' false).1], (rText s' false).2.1, (rText s' false).2.2, by omega, fun _ => hn4, by simp [hol], ?_, rfl⟩
    · refine Sub.of ?_ (.refl _) rfl
      exact (by simp only [subL, lk, reduceIte, Nat.reduceEqDiff]; (repeat' (with_reducible apply And.intro)); all_goals first | exact SubV.refl _ | exact SubV.nil _ _ | exact SubV.fz _ _ _ | exact trivial | exact SubV.of_eq (by simp [List.length_append, sv]))
    · rw [hspec]; simp
  · skip
    have hstop := (key _ rfl).resolve_left (by rw [hc]; simp)
    rw [hstop] at hspec
    simp only [List.append_nil] at hspec
    rw [hspec] at hrl
    repeat (with_reducible first | refine WC.block ?_ | refine WC.seq (WC.block ?_) | refine WC.seq (WC.seq ?_) | refine nxt_n ?_ | refine nxt_e ?_ | refine nxt_r ?_ | refine blk_n ?_ | refine blk_r ?_ | refine blk_hit ?_ | refine blk_miss (by rfl) ?_ | refine WC.skip ?_ | refine WC.exit ?_ | refine WC.ret ?_)
    first | refine WC.regionSeq envOk lenvOk hG (by kernel_rfl) (fun Θ K hΘ hK => ?_) | refine WC.region envOk lenvOk hG (by kernel_rfl) (fun Θ K hΘ hK => ?_)
    simp (maxSteps := 2000000) only [run, wantV, stepV, takeV, takeCellV, evR, evC, ev1, evO, lk, V.fzT, V.fz, S.set, Post, chkV, faV, ldV, mkV, reduceIte, reduceCtorEq, ne_eq, not_false_eq_true, eq_self, true_and, and_self, Nat.reduceLT, Nat.reduceLeDiff, Nat.reduceEqDiff, Nat.reduceBEq, Nat.reduceAdd, Bool.false_eq_true, Bool.or_true, List.contains, List.elem, List.getElem?_cons_zero, List.getElem?_cons_succ, List.getD_cons_zero, List.getD_cons_succ, beq_self_eq_true, Nat.zero_add, upd_same, List.length_cons, List.length_nil, List.cons_append, List.nil_append, c27n, c27H, c27T, e4, e108, rd]
    repeat' (with_reducible apply And.intro)
    any_goals (first | (refine hK _ ?_; (first | clear hK K hΘ Θ | clear hK K hn0 hcl hΘ Θ)) | omega | (simp only [List.length_append, List.length_cons, List.length_nil] <;> omega) | exact one_bv _ | exact one_sv _ | skip)
    cases f'
    · skip
      repeat (with_reducible first | refine WC.block ?_ | refine WC.seq (WC.block ?_) | refine WC.seq (WC.seq ?_) | refine nxt_n ?_ | refine nxt_e ?_ | refine nxt_r ?_ | refine blk_n ?_ | refine blk_r ?_ | refine blk_hit ?_ | refine blk_miss (by rfl) ?_ | refine WC.skip ?_ | refine WC.exit ?_ | refine WC.ret ?_)
      first | refine WC.cond hG (t := false) (by simp [lk, evO]) (fun hv => ?_) (fun hv => ?_) | refine WC.seq (WC.cond hG (t := false) (by simp [lk, evO]) (fun hv => ?_) (fun hv => ?_))
      · exact absurd hv (by simp)
      simp only [Bool.false_eq_true, if_false] at hrl
      subst hrl
      repeat (with_reducible first | refine WC.block ?_ | refine WC.seq (WC.block ?_) | refine WC.seq (WC.seq ?_) | refine nxt_n ?_ | refine nxt_e ?_ | refine nxt_r ?_ | refine blk_n ?_ | refine blk_r ?_ | refine blk_hit ?_ | refine blk_miss (by rfl) ?_ | refine WC.skip ?_ | refine WC.exit ?_ | refine WC.ret ?_)
      first | refine WC.regionSeq envOk lenvOk hG (by kernel_rfl) (fun Θ K hΘ hK => ?_) | refine WC.region envOk lenvOk hG (by kernel_rfl) (fun Θ K hΘ hK => ?_)
      simp (maxSteps := 2000000) only [run, wantV, stepV, takeV, evR, evC, ev1, evO, lk, V.fzT, V.fz, S.set, Post, reduceIte, reduceCtorEq, ne_eq, not_false_eq_true, eq_self, true_and, and_self, Nat.reduceLT, Nat.reduceEqDiff, Nat.reduceBEq, Bool.false_eq_true, Bool.not_false, List.contains, List.elem, Bool.and_true, c27n, c27T]
      repeat' (with_reducible apply And.intro)
      any_goals (first | (refine hK _ ?_; (first | clear hK K hΘ Θ | clear hK K hn0 hcl hΘ Θ)) | omega | (simp only [List.length_append, List.length_cons, List.length_nil] <;> omega) | exact one_bv _ | exact one_sv _ | skip)
      refine WC.sub (σ' := ⟨[(2, .sl false 1 out.length (sv out))], upd M b (rd s' false), k⟩) (Sub.of (by simp only [subL, lk, reduceIte, Nat.reduceEqDiff]; (repeat' (with_reducible apply And.intro)); all_goals first | exact SubV.refl _ | exact SubV.nil _ _ | exact SubV.fz _ _ _ | exact trivial | exact SubV.of_eq (by simp [bv, List.length_append])) (.refl _) rfl) ?_
      repeat (with_reducible first | refine WC.block ?_ | refine WC.seq (WC.block ?_) | refine WC.seq (WC.seq ?_) | refine nxt_n ?_ | refine nxt_e ?_ | refine nxt_r ?_ | refine blk_n ?_ | refine blk_r ?_ | refine blk_hit ?_ | refine blk_miss (by rfl) ?_ | refine WC.skip ?_ | refine WC.exit ?_ | refine WC.ret ?_)
      first | refine ⟨.inr rfl, _, _, (by simp (maxSteps := 2000000) only [lk, okRes, resV, resA, reduceIte, eq_self, Try.f66]; exact rfl), ?_⟩ | refine ⟨.inl rfl, _, _, (by simp (maxSteps := 2000000) only [false_implies, implies_true, zeroB, takB, apdB, run, binAgg,  wantV, gV, splitG, runB, stepB, valB, stoB, alcB, boxB, rowB, S.setO, PostB, runA.isCall, defCl, cvM, apV, stepV, takeV, takeTupV, takeCellV, allocV, boxV_agg, boxV_flat, bslV, mkSlV, cvtV, appV, stoV, srcV, notIntT, evR, evC, ev1, evO, lk, constOk, ofConst, ofC1, isNilSl, flatOk, V.known, V.fzT, V.fz, V.cells, S.set, S.setU, S.back, argSl, Post, binV, binInt, binStr, binBool, binPtr, nilEq, unV, cvV, extV, chkV, fieldV, indexV, faV, iaV, ldV, slV, bnd, lenV, mxV, mnV, bltV, buildV, fillV, mkV, nobs, okRes, resV, resL, resA, reduceIte, reduceCtorEq, ne_eq, not_false_eq_true, not_true_eq_false, eq_self, true_and, and_true, and_self, and_assoc, Nat.reduceLT, Nat.reduceLeDiff, Nat.reduceEqDiff, Nat.reduceBEq, Nat.reduceMul, Nat.reduceAdd, Nat.reduceSub, Bool.false_eq_true, Bool.or_true, Bool.true_or, Bool.or_false, Bool.false_or, Bool.not_true, Bool.not_false, cond_true, cond_false, List.contains, List.elem, List.map_cons, List.map_nil, List.all_cons, List.all_nil, List.any_cons, List.any_nil, List.getElem?_cons_zero, List.getElem?_cons_succ, List.getElem?_nil, List.getD_cons_zero, List.getD_cons_succ, List.getD_nil, Option.bind_some, Option.bind_none, Option.map_some, Option.map_none, Option.getD_some, Option.getD_none, id, beq_self_eq_true, BEq.rfl, Nat.zero_mul, Nat.mul_one, Nat.one_mul, Nat.zero_add, Nat.add_zero, upd_same, List.length_cons, List.length_nil, upd_upd, List.mem_cons, List.not_mem_nil, or_false, forall_eq, List.isEmpty, true_implies, List.set_cons_zero, List.set_cons_succ, List.cons_append, List.nil_append, Option.isSome_some, Option.isSome_none, Bool.and_true, Bool.true_and, Bool.and_false, Bool.false_and, forall_eq_or_imp, rep1, rep0, rep2, rep3, rep4, rep5, rep6, rep7, rep8, putV_z, putV_s, maxLen, Nat.reducePow, bv_length, allBytes_bv, bytesV_bv, decide_eq_true_eq, decide_true, decide_false, List.drop_zero, bs_size, bs_append, bs_inj, bs_extract, bytesC_bs, bs_bytes, bv_app, bytesV_one, allBytes_one, sv_length, Int.reduceEq, Int.reduceLT, Int.reduceLE, Int.reduceGT, Int.reduceGE, Bool.true_bne, Bool.false_bne, Bool.bne_true, Bool.bne_false, Bool.true_beq, Bool.false_beq, imax, nat0, nat1, Int.toNat_natCast, Int.toNat_zero, Int.reduceToNat, c27n, c27H, c27L, c27T, c27B, c27g, e3, e4, e5, e9, e22, e23, e25, e26, e28, e35, e39, e40, e43, e48, e53, e63, e85, e95, e108, l23, l25, l35, l22, Try.f66]; exact rfl), ?_⟩
      simp (maxSteps := 2000000) only [reduceCtorEq, ne_eq, not_false_eq_true, eq_self, and_self]
    · skip
      repeat (with_reducible first | refine WC.block ?_ | refine WC.seq (WC.block ?_) | refine WC.seq (WC.seq ?_) | refine nxt_n ?_ | refine nxt_e ?_ | refine nxt_r ?_ | refine blk_n ?_ | refine blk_r ?_ | refine blk_hit ?_ | refine blk_miss (by rfl) ?_ | refine WC.skip ?_ | refine WC.exit ?_ | refine WC.ret ?_)
      first | refine WC.cond hG (t := true) (by simp [lk, evO]) (fun hv => ?_) (fun hv => ?_) | refine WC.seq (WC.cond hG (t := true) (by simp [lk, evO]) (fun hv => ?_) (fun hv => ?_))
      · skip
        simp only [if_true] at hrl
        subst hrl
        repeat (with_reducible first | refine WC.block ?_ | refine WC.seq (WC.block ?_) | refine WC.seq (WC.seq ?_) | refine nxt_n ?_ | refine nxt_e ?_ | refine nxt_r ?_ | refine blk_n ?_ | refine blk_r ?_ | refine blk_hit ?_ | refine blk_miss (by rfl) ?_ | refine WC.skip ?_ | refine WC.exit ?_ | refine WC.ret ?_)
        first | refine WC.regionSeq envOk lenvOk hG (by kernel_rfl) (fun Θ K hΘ hK => ?_) | refine WC.region envOk lenvOk hG (by kernel_rfl) (fun Θ K hΘ hK => ?_)
        simp (maxSteps := 2000000) only [run, wantV, stepV, takeV, evR, evC, ev1, evO, constOk, ofConst, ofC1, isNilSl, flatOk, V.fzT, V.fz, S.set, Post, reduceIte, reduceCtorEq, ne_eq, not_false_eq_true, eq_self, true_and, and_self, Nat.reduceLT, Bool.false_eq_true, Bool.not_true, Bool.and_false, c27n]
        repeat' (with_reducible apply And.intro)
        any_goals (first | (refine hK _ ?_; (first | clear hK K hΘ Θ | clear hK K hn0 hcl hΘ Θ)) | omega | (simp only [List.length_append, List.length_cons, List.length_nil] <;> omega) | exact one_bv _ | exact one_sv _ | skip)
        refine WC.sub (σ' := ⟨[(2, .sl false 1 0 [])], upd M b (rd s' true), k⟩) (Sub.of (by simp only [subL, lk, reduceIte, Nat.reduceEqDiff]; (repeat' (with_reducible apply And.intro)); all_goals first | exact SubV.refl _ | exact SubV.nil _ _ | exact SubV.fz _ _ _ | exact trivial | exact SubV.of_eq (by simp [bv, List.length_append])) (.refl _) rfl) ?_
        repeat (with_reducible first | refine WC.block ?_ | refine WC.seq (WC.block ?_) | refine WC.seq (WC.seq ?_) | refine nxt_n ?_ | refine nxt_e ?_ | refine nxt_r ?_ | refine blk_n ?_ | refine blk_r ?_ | refine blk_hit ?_ | refine blk_miss (by rfl) ?_ | refine WC.skip ?_ | refine WC.exit ?_ | refine WC.ret ?_)
        first | refine ⟨.inr rfl, _, _, (by simp (maxSteps := 2000000) only [lk, okRes, resV, resA, reduceIte, eq_self, Try.f66]; exact rfl), ?_⟩ | refine ⟨.inl rfl, _, _, (by simp (maxSteps := 2000000) only [false_implies, implies_true, zeroB, takB, apdB, run, binAgg,  wantV, gV, splitG, runB, stepB, valB, stoB, alcB, boxB, rowB, S.setO, PostB, runA.isCall, defCl, cvM, apV, stepV, takeV, takeTupV, takeCellV, allocV, boxV_agg, boxV_flat, bslV, mkSlV, cvtV, appV, stoV, srcV, notIntT, evR, evC, ev1, evO, lk, constOk, ofConst, ofC1, isNilSl, flatOk, V.known, V.fzT, V.fz, V.cells, S.set, S.setU, S.back, argSl, Post, binV, binInt, binStr, binBool, binPtr, nilEq, unV, cvV, extV, chkV, fieldV, indexV, faV, iaV, ldV, slV, bnd, lenV, mxV, mnV, bltV, buildV, fillV, mkV, nobs, okRes, resV, resL, resA, reduceIte, reduceCtorEq, ne_eq, not_false_eq_true, not_true_eq_false, eq_self, true_and, and_true, and_self, and_assoc, Nat.reduceLT, Nat.reduceLeDiff, Nat.reduceEqDiff, Nat.reduceBEq, Nat.reduceMul, Nat.reduceAdd, Nat.reduceSub, Bool.false_eq_true, Bool.or_true, Bool.true_or, Bool.or_false, Bool.false_or, Bool.not_true, Bool.not_false, cond_true, cond_false, List.contains, List.elem, List.map_cons, List.map_nil, List.all_cons, List.all_nil, List.any_cons, List.any_nil, List.getElem?_cons_zero, List.getElem?_cons_succ, List.getElem?_nil, List.getD_cons_zero, List.getD_cons_succ, List.getD_nil, Option.bind_some, Option.bind_none, Option.map_some, Option.map_none, Option.getD_some, Option.getD_none, id, beq_self_eq_true, BEq.rfl, Nat.zero_mul, Nat.mul_one, Nat.one_mul, Nat.zero_add, Nat.add_zero, upd_same, List.length_cons, List.length_nil, upd_upd, List.mem_cons, List.not_mem_nil, or_false, forall_eq, List.isEmpty, true_implies, List.set_cons_zero, List.set_cons_succ, List.cons_append, List.nil_append, Option.isSome_some, Option.isSome_none, Bool.and_true, Bool.true_and, Bool.and_false, Bool.false_and, forall_eq_or_imp, rep1, rep0, rep2, rep3, rep4, rep5, rep6, rep7, rep8, putV_z, putV_s, maxLen, Nat.reducePow, bv_length, allBytes_bv, bytesV_bv, decide_eq_true_eq, decide_true, decide_false, List.drop_zero, bs_size, bs_append, bs_inj, bs_extract, bytesC_bs, bs_bytes, bv_app, bytesV_one, allBytes_one, sv_length, Int.reduceEq, Int.reduceLT, Int.reduceLE, Int.reduceGT, Int.reduceGE, Bool.true_bne, Bool.false_bne, Bool.bne_true, Bool.bne_false, Bool.true_beq, Bool.false_beq, imax, nat0, nat1, Int.toNat_natCast, Int.toNat_zero, Int.reduceToNat, c27n, c27H, c27L, c27T, c27B, c27g, e3, e4, e5, e9, e22, e23, e25, e26, e28, e35, e39, e40, e43, e48, e53, e63, e85, e95, e108, l23, l25, l35, l22, Try.f66]; exact rfl), ?_⟩
        simp (maxSteps := 2000000) only [reduceCtorEq, ne_eq, not_false_eq_true, eq_self, true_and, and_true, and_self, List.length_nil]
        rfl
      · exact absurd hv (by simp)

end Go.VL
