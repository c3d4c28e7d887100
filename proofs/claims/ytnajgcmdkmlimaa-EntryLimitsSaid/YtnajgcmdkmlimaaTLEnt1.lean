/- Part TLEnt1 of the proof: made for this claim. -/
import Derived.Test.YtnajgcmdkmlimaaTEnt3
import Derived.Test.YtnajgcmdkmlimaaTDrInj
set_option linter.unusedVariables false
set_option linter.unusedSimpArgs false
set_option maxRecDepth 100000
set_option maxHeartbeats 16000000
open Go.RowKit
namespace Go.VL
open Go.Proofs
/-! The plain law of EntryOne, and the row's contract. -/
theorem Ent.total_le {e : Ent} (he : e.ok) (h : e.good = true) : total e.parts ≤ 1000000 ∧ e.parts.length ≤ 7 := by
  obtain ⟨i1, i2, i3, i4, i5, i6, i7⟩ := he
  have n5 : e.d.k < 9223372036854775808 := by have := i2.1.2; omega
  have b1 := numB_length e.kind.toNat (by have := i1.2; omega)
  have b2 := numB_length e.from_.toNat (by have := i3.2; omega)
  have b3 := numB_length e.seq.toNat (by have := i4.2; omega)
  have b4 := numB_length e.mask.toNat (by have := i5.2; omega)
  obtain ⟨c1, c2, c3, c4⟩ := Ent.good_le h
  have b5 := Dr.text_le e.d c3 c4 n5
  unfold Ent.parts
  split
  · simp [total]; omega
  · split
    · simp [total, e.prev.2]; omega
    · simp [total]; omega
theorem Ent.kinds {e : Ent} (h : e.good = true) : e.kind = 1 ∨ e.kind = 2 ∨ e.kind = 3 := by
  by_cases h1 : e.kind = 1
  · exact .inl h1
  · by_cases h2 : e.kind = 2
    · exact .inr (.inl h2)
    · by_cases h3 : e.kind = 3
      · exact .inr (.inr h3)
      · rw [Ent.good0 h1 h2 h3] at h; cases h
theorem Ent.out_ge {e : Ent} (h : e.out = true) : 1 ≤ e.mask := by
  simp only [Ent.out, Bool.and_eq_true, decide_eq_true_eq] at h
  omega
theorem Ent.text_inj {a b : Ent} (ha : a.ok) (hb : b.ok) (ga : a.good = true) (gb : b.good = true) : a.text = b.text ↔ a = b := by
  have ka := Ent.kinds ga
  have kb := Ent.kinds gb
  obtain ⟨ta, na⟩ := Ent.total_le ha ga
  obtain ⟨tb, nb⟩ := Ent.total_le hb gb
  obtain ⟨a1, a2, a3, a4, a5, a6, a7⟩ := ha
  obtain ⟨b1, b2, b3, b4, b5, b6, b7⟩ := hb
  have a1' := a1.2; have a3' := a3.2; have a4' := a4.2; have a5' := a5.2
  have b1' := b1.2; have b3' := b3.2; have b4' := b4.2; have b5' := b5.2
  rw [Ent.text, Ent.text, if_pos ga, if_pos gb, listB_inj (by omega) (by omega) (by omega) (by omega)]
  refine ⟨fun h => ?_, fun h => by rw [h]⟩
  have la := Ent.good_le ga
  have lb := Ent.good_le gb
  have hk : a.kind = b.kind := by
    have h0 := congrArg (fun l => l.headD []) h
    have e1 : a.parts.headD [] = numB a.kind.toNat := by unfold Ent.parts; split; · rfl
                                                         · split <;> rfl
    have e2 : b.parts.headD [] = numB b.kind.toNat := by unfold Ent.parts; split; · rfl
                                                         · split <;> rfl
    simp only [e1, e2] at h0
    have := numB_inj (by omega) (by omega) h0
    omega
  rcases ka with k | k | k
  · have k' : b.kind = 1 := by omega
    rw [Ent.parts, if_pos k, Ent.parts, if_pos k'] at h
    rw [Ent.good1 k, Bool.and_eq_true, decide_eq_true_eq] at ga
    rw [Ent.good1 k', Bool.and_eq_true, decide_eq_true_eq] at gb
    simp only [List.cons.injEq, and_true] at h
    have ga1 := Dr.good_k ga.1
    have gb1 := Dr.good_k gb.1
    have hd := (Dr.text_inj a2 b2 ⟨by omega, by omega⟩ ⟨by omega, by omega⟩ (by omega) (by omega)).1 h.2
    rw [ga.2, gb.2, hd]
  · have k' : b.kind = 2 := by omega
    rw [Ent.parts, if_neg (by omega), if_pos k, Ent.parts, if_neg (by omega), if_pos k'] at h
    rw [Ent.good2 k] at ga
    rw [Ent.good2 k'] at gb
    simp only [Bool.and_eq_true, decide_eq_true_eq] at ga gb
    simp only [List.cons.injEq, and_true] at h
    obtain ⟨_, h1, h2, h3, h4, h5, h6⟩ := h
    obtain ⟨⟨⟨⟨⟨p1, p2⟩, p3⟩, p4⟩, p5⟩, p6⟩ := ga
    obtain ⟨⟨⟨⟨⟨q1, q2⟩, q3⟩, q4⟩, q5⟩, q6⟩ := gb
    have m1 := Ent.out_ge p1
    have m2 := Ent.out_ge q1
    have e1 := numB_inj (by omega) (by omega) h1
    have e2 := numB_inj (by omega) (by omega) h2
    have e3 := Subtype.ext h3
    have e4 := numB_inj (by omega) (by omega) h4
    cases a; cases b
    simp only at *
    subst k k' p2 q2 e3 h5 h6
    congr 1 <;> omega
  · have k' : b.kind = 3 := by omega
    rw [Ent.parts, if_neg (by omega), if_neg (by omega), Ent.parts, if_neg (by omega), if_neg (by omega)] at h
    rw [Ent.good3 k, Bool.and_eq_true, decide_eq_true_eq] at ga
    rw [Ent.good3 k', Bool.and_eq_true, decide_eq_true_eq] at gb
    simp only [List.cons.injEq, and_true] at h
    have m1 := Ent.out_ge ga.1
    have m2 := Ent.out_ge gb.1
    have e4 := numB_inj (by omega) (by omega) h.2.1
    rw [ga.2, gb.2, h.2.2, show a.mask = b.mask by omega]

def o20 : Cfg := ⟨envH, envL, GL, 12, [], []⟩
theorem o20H : o20.H = envH := rfl
theorem o20L : o20.L = envL := rfl
theorem o20n : o20.nt = 12 := rfl
theorem o20T : o20.T = [] := rfl
theorem o20B : o20.B = [] := rfl
theorem o20g : o20.gl = GL := rfl
theorem entO_ok {m : Int} {p : List UInt8} (hm : inR m) (hp : p.length ≤ 140737488351232) : (entO m p).ok :=
  ⟨by unfold inR entO; simp, by unfold Dr.ok inR; simp [entO, ent0, dr0], by unfold inR; simp [entO, ent0], by unfold inR; simp [entO, ent0], hm, hp, by simp [entO, ent0]⟩
theorem alive15_sp (M : Nat → Option (List V)) (mn : Nat) : Sp Try.prog GL 20 [] M mn (fun r m k => r = .flat (.bool true) ∧ m = M ∧ k = mn) := by
  have g1 : (entO 1 []).good = true := by decide
  have g0 : (entO 0 []).good = false := by decide
  have hO : ({ mask := 1, pay := ou0.pay } : Ou) = ⟨1, []⟩ := rfl
  refine Sp.intro (C := o20) (fn := Try.f20) envOk Try.func20 (by kernel_rfl) rfl rfl (by simp [o20n]) (distinctT_one _) (by simp [noOwnB]) ?_
  intro E hG hM
  repeat' (first | (refine ⟨by first | exact .inr rfl | exact .inl rfl, _, _, (by simp (maxSteps := 2000000) only [Try.f20, lk, okRes, resV, resA, reduceIte, reduceCtorEq, eq_self]; exact rfl), ?_⟩; refine ⟨trivial, by simp, ?_⟩) | (with_reducible first | refine WC.block ?_ | refine WC.seq (WC.block ?_) | refine WC.seq (WC.seq ?_) | refine nxt_n ?_ | refine nxt_e ?_ | refine nxt_r ?_ | refine blk_n ?_ | refine blk_r ?_ | refine blk_hit ?_ | refine blk_miss (by rfl) ?_ | refine WC.skip ?_ | refine WC.exit ?_ | refine WC.ret ?_ | refine WC.seq (WC.skip ?_) | apply And.intro) | (refine hK _ ?_; first | clear hK K hΘ Θ | clear hK K hn0 hcl hΘ Θ) | (refine WC.condT hG ?_ ?_; focus (simp only [lk, evO, reduceIte, Nat.reduceEqDiff]; done)) | (refine WC.condF hG ?_ ?_; focus (simp only [lk, evO, reduceIte, Nat.reduceEqDiff]; done)) | (refine WC.seq (WC.condT hG ?_ ?_); focus (simp only [lk, evO, reduceIte, Nat.reduceEqDiff]; done)) | (refine WC.seq (WC.condF hG ?_ ?_); focus (simp only [lk, evO, reduceIte, Nat.reduceEqDiff]; done)) | (refine Way.intro (fun gg => ?_); try simp only [gg]) | (apply WC.condSN hG; focus (first | rfl | (simp only [lk, evO, reduceIte, Nat.reduceEqDiff]; rfl))) | (apply WC.condSsN hG; focus (first | rfl | (simp only [lk, evO, reduceIte, Nat.reduceEqDiff]; rfl))) | (apply WC.condS hG; focus (first | rfl | (simp only [lk, evO, reduceIte, Nat.reduceEqDiff]; rfl))) | (apply WC.condSs hG; focus (first | rfl | (simp only [lk, evO, reduceIte, Nat.reduceEqDiff]; rfl))) | ((first | refine WC.regionSeq envOk lenvOk hG (by kernel_rfl) (fun Θ K hΘ hK => ?_) | refine WC.region envOk lenvOk hG (by kernel_rfl) (fun Θ K hΘ hK => ?_) | refine WC.seq (WC.regionB defCl envOk lenvOk hG (by kernel_rfl) (by kernel_rfl) defCl_le (by rfl) (by kernel_rfl) (fun Θ K hΘ hcl hn0 hK => ?_)) | refine WC.regionB defCl envOk lenvOk hG (by kernel_rfl) (by kernel_rfl) defCl_le (by rfl) (by kernel_rfl) (fun Θ K hΘ hcl hn0 hK => ?_) | (refine CallG.intro (Out_sp ⟨1, []⟩ _ _) (by intro x hx; simp only [List.mem_cons, List.not_mem_nil, or_false] at hx; (try rcases hx with rfl | rfl | rfl | rfl | rfl); all_goals (first | rfl | (subst hx; rfl) | contradiction)) (fun r m k hR => ?_); obtain ⟨rfl, rfl, rfl⟩ := hR; refine WR.go (congrArg (List.map (·.dst)) hΘ.symm) ?_) | (refine CallG.intro (Out_sp ⟨0, []⟩ _ _) (by intro x hx; simp only [List.mem_cons, List.not_mem_nil, or_false] at hx; (try rcases hx with rfl | rfl | rfl | rfl | rfl); all_goals (first | rfl | (subst hx; rfl) | contradiction)) (fun r m k hR => ?_); obtain ⟨rfl, rfl, rfl⟩ := hR; refine WR.go (congrArg (List.map (·.dst)) hΘ.symm) ?_) | (refine CallG.intro (Good15_sp _ (entO_ok (m := 1) (p := []) (by unfold inR; simp) (by simp)) _ _) (by intro x hx; simp only [List.mem_cons, List.not_mem_nil, or_false] at hx; (try rcases hx with rfl | rfl | rfl | rfl | rfl); all_goals (first | rfl | (subst hx; rfl) | contradiction)) (fun r m k hR => ?_); obtain ⟨rfl, rfl, rfl⟩ := hR; refine WR.go (congrArg (List.map (·.dst)) hΘ.symm) ?_) | (refine CallG.intro (Good15_sp _ (entO_ok (m := 0) (p := []) (by unfold inR; simp) (by simp)) _ _) (by intro x hx; simp only [List.mem_cons, List.not_mem_nil, or_false] at hx; (try rcases hx with rfl | rfl | rfl | rfl | rfl); all_goals (first | rfl | (subst hx; rfl) | contradiction)) (fun r m k hR => ?_); obtain ⟨rfl, rfl, rfl⟩ := hR; refine WR.go (congrArg (List.map (·.dst)) hΘ.symm) ?_)); simp (maxSteps := 2000000) only [false_implies, implies_true, stepV, takeV, evR, evC, ev1, evO, lk, constOk, ofConst, ofC1, isNilSl, flatOk, V.fzT, V.fz, V.cells, S.set, S.back, argSl, unV, buildV, fillV, reduceIte, reduceCtorEq, ne_eq, not_false_eq_true, eq_self, true_and, and_self, Nat.reduceLT, Nat.reduceLeDiff, Nat.reduceEqDiff, Bool.false_eq_true, Bool.not_false, cond_true, List.contains, List.elem, List.map_cons, List.map_nil, List.all_cons, List.all_nil, List.getElem?_cons_zero, List.getElem?_cons_succ, Option.bind_some, id, Nat.zero_add, List.length_cons, List.length_nil, List.mem_cons, List.not_mem_nil, or_false, forall_eq, Option.isSome_some, Bool.and_true, run_nil, run_cons, gW, goR_true, Post_done, Post_call, o20n, o20H, o20T, o20g, e3, e9, e43, Ou.sm, g1, g0, hO]) | ((first | refine Post.splitN (fun gg => ?_) (fun gg => ?_) | refine PostB.splitN (fun gg => ?_) (fun gg => ?_) | refine Post.split (fun gg => ?_) (fun gg => ?_) | refine PostB.split (fun gg => ?_) (fun gg => ?_)) <;> simp (maxSteps := 2000000) only [gg, false_implies, implies_true, zeroB, takB, apdB, binAgg,  stepB, valB, stoB, alcB, boxB, rowB, S.setO, runA.isCall, defCl, cvM, apV, stepV, takeV, takeTupV, takeCellV, allocV, boxV_agg, boxV_flat, bslV, mkSlV, cvtV, appV, stoV, srcV, notIntT, evR, evC, ev1, evO, lk, constOk, ofConst, ofC1, isNilSl, flatOk, V.known, V.fzT, V.fz, V.cells, S.set, S.setU, S.back, argSl, binV, binInt, binStr, binBool, binPtr, nilEq, unV, cvV, extV, chkV, fieldV, indexV, faV, iaV, ldV, slV, bnd, lenV, mxV, mnV, bltV, buildV, fillV, mkV, nobs, okRes, resV, resL, resA, reduceIte, reduceCtorEq, ne_eq, not_false_eq_true, not_true_eq_false, eq_self, true_and, and_true, and_self, and_assoc, Nat.reduceLT, Nat.reduceLeDiff, Nat.reduceEqDiff, Nat.reduceBEq, Nat.reduceMul, Nat.reduceAdd, Nat.reduceSub, Bool.false_eq_true, Bool.or_true, Bool.true_or, Bool.or_false, Bool.false_or, Bool.not_true, Bool.not_false, cond_true, cond_false, List.contains, List.elem, List.map_cons, List.map_nil, List.all_cons, List.all_nil, List.any_cons, List.any_nil, List.getElem?_cons_zero, List.getElem?_cons_succ, List.getElem?_nil, List.getD_cons_zero, List.getD_cons_succ, List.getD_nil, Option.bind_some, Option.bind_none, Option.map_some, Option.map_none, Option.getD_some, Option.getD_none, id, beq_self_eq_true, BEq.rfl, Nat.zero_mul, Nat.mul_one, Nat.one_mul, Nat.zero_add, Nat.add_zero, upd_same, List.length_cons, List.length_nil, upd_upd, List.mem_cons, List.not_mem_nil, or_false, forall_eq, List.isEmpty, true_implies, List.set_cons_zero, List.set_cons_succ, List.cons_append, List.nil_append, Option.isSome_some, Option.isSome_none, Bool.and_true, Bool.true_and, Bool.and_false, Bool.false_and, forall_eq_or_imp, rep1, rep0, rep2, rep3, rep4, rep5, rep6, rep7, rep8, putV_z, putV_s, maxLen, Nat.reducePow, bv_length, allBytes_bv, bytesV_bv, decide_eq_true_eq, decide_true, decide_false, List.drop_zero, bs_size, bs_append, bs_inj, bs_extract, bytesC_bs, bs_bytes, bv_app, bytesV_one, allBytes_one, sv_length, Int.reduceEq, Int.reduceLT, Int.reduceLE, Int.reduceGT, Int.reduceGE, Bool.true_bne, Bool.false_bne, Bool.bne_true, Bool.bne_false, Bool.true_beq, Bool.false_beq, imax, nat0, nat1, Int.toNat_natCast, Int.toNat_zero, Int.reduceToNat, run_nil, run_cons, gW, goR_true, goR_false, Post_done, Post_call, Post_stuck, runB_nil, runB_cons, goB_true, goB_false, PostB_done, PostB_call, PostB_stuck, clW, List.find?, Option.map, o20n, o20H, o20L, o20T, o20B, o20g, e3, e4, e5, e9, e22, e23, e25, e26, e28, e35, e39, e40, e43, e48, e53, e63, e85, e95, e108, l23, l25, l35, l22, idS, updN, Dr.sm, Ent.sm, Ou.sm, g1, g0, hO]))
  any_goals (first | (intro b hb; have hlt := Nat.lt_of_not_le (fun q => hb (hM b q)); simp only [upd]; (repeat (rw [if_neg (by omega)])); done) | omega | (simp only []; omega) | exact one_bv _ | exact one_sv _ | skip)
  all_goals rfl

def o4 : Cfg := ⟨envH, envL, GL, 32, [], []⟩
theorem o4H : o4.H = envH := rfl
theorem o4L : o4.L = envL := rfl
theorem o4n : o4.nt = 32 := rfl
theorem o4T : o4.T = [] := rfl
theorem o4B : o4.B = [] := rfl
theorem o4g : o4.gl = GL := rfl
theorem EntryOne_sp (a b : Ent) (ha : a.ok) (hb : b.ok) (M : Nat → Option (List V)) (mn : Nat) : Sp Try.prog GL 4 [.agg a.c, .agg b.c] M mn (fun r m k => r = .flat (.bool true)) := by
  have f1 := Ent.fit a ha
  have f2 := Ent.fit b hb
  refine Sp.intro (C := o4) (fn := Try.f4) envOk Try.func4 (by kernel_rfl) rfl rfl (by simp [o4n]) (distinctT_one _) (by simp [noOwnB]) ?_
  intro E hG hM
  repeat' (first | (refine ⟨by first | exact .inr rfl | exact .inl rfl, _, _, (by simp (maxSteps := 2000000) only [Try.f4, lk, okRes, resV, resA, reduceIte, reduceCtorEq, eq_self, Nat.reduceEqDiff]; exact rfl), ?_⟩; refine ⟨trivial, by simp, ?_⟩) | (with_reducible first | refine WC.block ?_ | refine WC.seq (WC.block ?_) | refine WC.seq (WC.seq ?_) | refine nxt_n ?_ | refine nxt_e ?_ | refine nxt_r ?_ | refine blk_n ?_ | refine blk_r ?_ | refine blk_hit ?_ | refine blk_miss (by rfl) ?_ | refine WC.skip ?_ | refine WC.exit ?_ | refine WC.ret ?_ | refine WC.seq (WC.skip ?_) | apply And.intro) | (refine hK _ ?_; first | clear hK K hΘ Θ | clear hK K hn0 hcl hΘ Θ) | (refine WC.condT hG ?_ ?_; focus (simp only [lk, evO, reduceIte, Nat.reduceEqDiff]; done)) | (refine WC.condF hG ?_ ?_; focus (simp only [lk, evO, reduceIte, Nat.reduceEqDiff]; done)) | (refine WC.seq (WC.condT hG ?_ ?_); focus (simp only [lk, evO, reduceIte, Nat.reduceEqDiff]; done)) | (refine WC.seq (WC.condF hG ?_ ?_); focus (simp only [lk, evO, reduceIte, Nat.reduceEqDiff]; done)) | (refine Way.intro (fun gg => ?_); try simp only [gg]) | (apply WC.condSN hG; focus (first | rfl | (simp only [lk, evO, reduceIte, Nat.reduceEqDiff]; rfl))) | (apply WC.condSsN hG; focus (first | rfl | (simp only [lk, evO, reduceIte, Nat.reduceEqDiff]; rfl))) | (apply WC.condS hG; focus (first | rfl | (simp only [lk, evO, reduceIte, Nat.reduceEqDiff]; rfl))) | (apply WC.condSs hG; focus (first | rfl | (simp only [lk, evO, reduceIte, Nat.reduceEqDiff]; rfl))) | ((first | refine WC.regionSeq envOk lenvOk hG (by kernel_rfl) (fun Θ K hΘ hK => ?_) | refine WC.region envOk lenvOk hG (by kernel_rfl) (fun Θ K hΘ hK => ?_) | refine WC.seq (WC.regionB defCl envOk lenvOk hG (by kernel_rfl) (by kernel_rfl) defCl_le (by rfl) (by kernel_rfl) (fun Θ K hΘ hcl hn0 hK => ?_)) | refine WC.regionB defCl envOk lenvOk hG (by kernel_rfl) (by kernel_rfl) defCl_le (by rfl) (by kernel_rfl) (fun Θ K hΘ hcl hn0 hK => ?_) | (refine CallG.intro (alive15_sp _ _) (by intro x hx; simp only [List.not_mem_nil] at hx; (try rcases hx with rfl | rfl | rfl | rfl | rfl); all_goals (first | rfl | (subst hx; rfl) | contradiction)) (fun r m k hR => ?_); obtain ⟨rfl, rfl, rfl⟩ := hR; refine WR.go (congrArg (List.map (·.dst)) hΘ.symm) ?_) | (refine CallG.intro (great15_sp a _ _) (by intro x hx; simp only [List.mem_cons, List.not_mem_nil, or_false] at hx; (try rcases hx with rfl | rfl | rfl | rfl | rfl); all_goals (first | rfl | (subst hx; rfl) | contradiction)) (fun r m k hR => ?_); obtain ⟨rfl, rfl, rfl⟩ := hR; refine WR.go (congrArg (List.map (·.dst)) hΘ.symm) ?_) | (refine CallG.intro (great15_sp b _ _) (by intro x hx; simp only [List.mem_cons, List.not_mem_nil, or_false] at hx; (try rcases hx with rfl | rfl | rfl | rfl | rfl); all_goals (first | rfl | (subst hx; rfl) | contradiction)) (fun r m k hR => ?_); obtain ⟨rfl, rfl, rfl⟩ := hR; refine WR.go (congrArg (List.map (·.dst)) hΘ.symm) ?_) | (refine CallG.intro (EGood_sp a ha _ _) (by intro x hx; simp only [List.mem_cons, List.not_mem_nil, or_false] at hx; (try rcases hx with rfl | rfl | rfl | rfl | rfl); all_goals (first | rfl | (subst hx; rfl) | contradiction)) (fun r m k hR => ?_); obtain ⟨rfl, rfl, rfl⟩ := hR; refine WR.go (congrArg (List.map (·.dst)) hΘ.symm) ?_) | (refine CallG.intro (EGood_sp b hb _ _) (by intro x hx; simp only [List.mem_cons, List.not_mem_nil, or_false] at hx; (try rcases hx with rfl | rfl | rfl | rfl | rfl); all_goals (first | rfl | (subst hx; rfl) | contradiction)) (fun r m k hR => ?_); obtain ⟨rfl, rfl, rfl⟩ := hR; refine WR.go (congrArg (List.map (·.dst)) hΘ.symm) ?_) | (refine CallB.free _ (fun M n => Text15_sp a ha M n) (by simp) (by intro x hx; simp only [List.mem_cons, List.not_mem_nil, or_false] at hx; (try rcases hx with rfl | rfl | rfl | rfl | rfl); all_goals (first | rfl | (subst hx; rfl) | contradiction)) ?_; refine WRB.go (by first | exact defCl_le | exact clW_le (by rfl)) (congrArg (List.map (·.dst)) hΘ.symm) hcl.symm ?_) | (refine CallB.free _ (fun M n => Text15_sp b hb M n) (by simp) (by intro x hx; simp only [List.mem_cons, List.not_mem_nil, or_false] at hx; (try rcases hx with rfl | rfl | rfl | rfl | rfl); all_goals (first | rfl | (subst hx; rfl) | contradiction)) ?_; refine WRB.go (by first | exact defCl_le | exact clW_le (by rfl)) (congrArg (List.map (·.dst)) hΘ.symm) hcl.symm ?_)); simp (maxSteps := 2000000) only [zeroB, takB, binAgg,  stepB, valB, rowB, runA.isCall, defCl, stepV, takeV, takeCellV, boxV_agg, evR, evC, ev1, evO, lk, constOk, ofConst, ofC1, isNilSl, flatOk, V.fzT, V.fz, S.set, S.back, argSl, binV, binStr, binBool, unV, ldV, mkV, reduceIte, reduceCtorEq, ne_eq, not_false_eq_true, eq_self, true_and, and_true, and_self, and_assoc, Nat.reduceLT, Nat.reduceLeDiff, Nat.reduceEqDiff, Nat.reduceBEq, Nat.reduceAdd, Bool.false_eq_true, Bool.or_false, Bool.not_true, Bool.not_false, cond_false, List.contains, List.elem, List.map_cons, List.map_nil, List.getElem?_cons_zero, List.getElem?_cons_succ, Option.bind_some, id, Nat.zero_add, upd_same, List.cons_append, List.nil_append, List.drop_zero, bs_inj, run_nil, run_cons, gW, goR_true, Post_done, Post_call, runB_nil, runB_cons, goB_true, PostB_done, PostB_call, o4n, o4H, o4L, o4T, o4g, e4, e35, l35, updN, Ent.sm]) | ((first | refine Post.splitN (fun gg => ?_) (fun gg => ?_) | refine PostB.splitN (fun gg => ?_) (fun gg => ?_) | refine Post.split (fun gg => ?_) (fun gg => ?_) | refine PostB.split (fun gg => ?_) (fun gg => ?_)) <;> simp (maxSteps := 2000000) only [gg, stepV, takeV, takeCellV, evR, evC, ev1, evO, lk, constOk, ofConst, ofC1, isNilSl, flatOk, V.fzT, V.fz, S.set, S.setU, ldV, mkV, reduceIte, reduceCtorEq, ne_eq, not_false_eq_true, eq_self, true_and, and_self, Nat.reduceLT, Nat.reduceLeDiff, Nat.reduceEqDiff, Nat.reduceBEq, Bool.false_eq_true, Bool.or_false, Bool.not_true, Bool.not_false, cond_true, List.contains, List.elem, List.map_cons, List.map_nil, List.getElem?_cons_zero, List.getElem?_cons_succ, Option.bind_some, id, Nat.zero_add, upd_same, List.drop_zero, run_nil, run_cons, gW, goR_true, goR_false, Post_done, Post_call, o4n, o4H, o4T, o4g, e35, updN, Ent.sm]))
  any_goals (first | (intro b hb; have hlt := Nat.lt_of_not_le (fun q => hb (hM b q)); simp only [upd]; (repeat (rw [if_neg (by omega)])); done) | omega | (simp only []; omega) | exact one_bv _ | exact one_sv _ | skip)
  any_goals first | exact f1 | exact f2
  all_goals first
    | rfl
    | (have h := Ent.text_inj ha hb (by simp_all) (by simp_all); simp [h])

theorem dr_cells {cs : List V} {d0 : Nat} (h : TC Try.prog (d0 + 3) 25 cs) : ∃ d : Dr, cs = d.c ∧ d.ok := by
  replace h := tc_struct Try.underlying25 h
  obtain ⟨c1, r1, rfl, k1, h⟩ := h
  obtain ⟨c2, r2, rfl, k2, h⟩ := h
  obtain ⟨c3, r3, rfl, k3, h⟩ := h
  obtain ⟨c4, r4, rfl, k4, h⟩ := h
  have hr4 : r4 = [] := h
  subst hr4
  obtain ⟨n, rfl, hn⟩ := tc_int Try.underlying3 k1
  obtain ⟨s, rfl, hs⟩ := tc_str Try.underlying9 k2
  obtain ⟨t, rfl, ht⟩ := tc_str Try.underlying9 k3
  obtain ⟨x, rfl⟩ := tc_id32 Try.underlying23 Try.underlying5 k4
  exact ⟨⟨n, s, t, x⟩, by simp [Dr.c], hn, hs, ht⟩
theorem ent_cells {cs : List V} {d0 : Nat} (h : TC Try.prog (d0 + 4) 35 cs) : ∃ e : Ent, cs = e.c ∧ e.ok := by
  replace h := tc_struct Try.underlying35 h
  obtain ⟨c1, r1, rfl, k1, h⟩ := h
  obtain ⟨c2, r2, rfl, k2, h⟩ := h
  obtain ⟨c3, r3, rfl, k3, h⟩ := h
  obtain ⟨c4, r4, rfl, k4, h⟩ := h
  obtain ⟨c5, r5, rfl, k5, h⟩ := h
  obtain ⟨c6, r6, rfl, k6, h⟩ := h
  obtain ⟨c7, r7, rfl, k7, h⟩ := h
  obtain ⟨c8, r8, rfl, k8, h⟩ := h
  have hr8 : r8 = [] := h
  subst hr8
  obtain ⟨n1, rfl, h1⟩ := tc_int Try.underlying3 k1
  obtain ⟨d, rfl, h2⟩ := dr_cells k2
  obtain ⟨n3, rfl, h3⟩ := tc_int Try.underlying3 k3
  obtain ⟨n4, rfl, h4⟩ := tc_int Try.underlying3 k4
  obtain ⟨x5, rfl⟩ := tc_id32 Try.underlying23 Try.underlying5 k5
  obtain ⟨n6, rfl, h6⟩ := tc_int Try.underlying3 k6
  obtain ⟨s7, rfl, h7⟩ := tc_str Try.underlying9 k7
  obtain ⟨s8, rfl, h8⟩ := tc_str Try.underlying9 k8
  exact ⟨⟨n1, d, n3, n4, x5, n6, s7, s8⟩, by simp [Ent.c], h1, h2, h3, h4, h6, h7, h8⟩
theorem ent_arg {x : V} (h : TV Try.prog 4 35 x) : ∃ e : Ent, x = .agg e.c ∧ e.ok := by
  obtain ⟨cs, rfl, k0⟩ := tv_agg Try.underlying35 h
  obtain ⟨e, rfl, he⟩ := ent_cells (d0 := 0) k0
  exact ⟨e, rfl, he⟩

end Go.VL
