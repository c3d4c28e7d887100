/- Part TEnt of the proof: made for this claim. -/
import Derived.Test.YtnajgcmdkmlimaaTGood
import Derived.Test.YtnajgcmdkmlimaaTDraftA
set_option linter.unusedVariables false
set_option linter.unusedSimpArgs false
set_option maxRecDepth 100000
set_option maxHeartbeats 16000000
open Go.RowKit
namespace Go.VL
open Go.Proofs
/-! Entries that can be. -/
def Ent.out (e : Ent) : Bool := decide (e.mask ≥ 1) && decide (e.mask ≤ 31) && decide ((e.pay.length : Int) ≤ 2048)
def Ent.none (e : Ent) : Bool := decide (e.d.k = 0) && decide (e.d.key = []) && decide (e.d.val = []) && decide (e.d.ref = z32)
def Ent.bare (e : Ent) : Bool := decide (e.from_ = 0) && decide (e.seq = 0) && decide (e.prev = z32) && decide (e.sig = [])
def Ent.good (e : Ent) : Bool :=
  if e.kind = 1 then e.d.good && e.bare && decide (e.mask = 0) && decide (e.pay = [])
  else if e.kind = 2 then e.out && e.none && decide (e.from_ ≥ 0) && decide (e.from_ ≤ 4) && decide (e.seq ≥ 1) && decide ((e.sig.length : Int) ≤ 1024)
  else decide (e.kind = 3) && e.out && e.none && e.bare

def o22 : Cfg := ⟨envH, envL, GL, 121, [], []⟩
theorem o22H : o22.H = envH := rfl
theorem o22L : o22.L = envL := rfl
theorem o22n : o22.nt = 121 := rfl
theorem o22T : o22.T = [] := rfl
theorem o22B : o22.B = [] := rfl
theorem o22g : o22.gl = GL := rfl
theorem EGood_sp (e : Ent) (he : e.ok) (M : Nat → Option (List V)) (mn : Nat) : Sp Try.prog GL 22 [.agg e.c] M mn (fun r m k => r = .flat (.bool e.good) ∧ m = M ∧ k = mn) := by
  have hd := he.2.1
  refine Sp.low (.flat (.bool e.good)) (R := fun r m k => r = .flat (.bool e.good) ∧ ∀ b, M b ≠ none → m b = M b) ?_ (fun _ _ _ h => h) (Low.flat _)
  refine Sp.intro (C := o22) (fn := Try.f22) envOk Try.func22 (by kernel_rfl) rfl rfl (by simp [o22n]) (distinctT_one _) (by simp [noOwnB]) ?_
  intro E hG hM
  repeat (with_reducible first | refine WC.block ?_ | refine WC.seq (WC.block ?_) | refine WC.seq (WC.seq ?_) | refine nxt_n ?_ | refine nxt_e ?_ | refine nxt_r ?_ | refine blk_n ?_ | refine blk_r ?_ | refine blk_hit ?_ | refine blk_miss (by rfl) ?_ | refine WC.skip ?_ | refine WC.exit ?_ | refine WC.ret ?_)
  first | refine WC.regionSeq envOk lenvOk hG (by kernel_rfl) (fun Θ K hΘ hK => ?_) | refine WC.region envOk lenvOk hG (by kernel_rfl) (fun Θ K hΘ hK => ?_)
  simp (maxSteps := 2000000) only [run, wantV, stepV, takeV, boxV_agg, evR, evC, ev1, evO, lk, constOk, ofConst, ofC1, isNilSl, flatOk, V.fzT, V.fz, S.set, argSl, Post, reduceIte, reduceCtorEq, ne_eq, not_false_eq_true, eq_self, true_and, and_self, Nat.reduceLT, Bool.false_eq_true, o22n, Ent.sm]
  repeat' (with_reducible apply And.intro)
  any_goals (first | (refine hK _ ?_; (first | clear hK K hΘ Θ | clear hK K hn0 hcl hΘ Θ)) | omega | (simp only [List.length_append, List.length_cons, List.length_nil] <;> omega) | exact one_bv _ | exact one_sv _ | skip)
  have h1 : e.out = (decide (e.mask ≥ 1) && decide (e.mask ≤ 31) && decide ((e.pay.length : Int) ≤ 2048)) := rfl
  have h2 : e.none = (decide (e.d.k = 0) && decide (e.d.key = []) && decide (e.d.val = []) && decide (e.d.ref = z32)) := rfl
  have h3 : e.bare = (decide (e.from_ = 0) && decide (e.seq = 0) && decide (e.prev = z32) && decide (e.sig = [])) := rfl
  repeat (with_reducible first | refine WC.block ?_ | refine WC.seq (WC.block ?_) | refine WC.seq (WC.seq ?_) | refine nxt_n ?_ | refine nxt_e ?_ | refine nxt_r ?_ | refine blk_n ?_ | refine blk_r ?_ | refine blk_hit ?_ | refine blk_miss (by rfl) ?_ | refine WC.skip ?_ | refine WC.exit ?_ | refine WC.ret ?_)
  first | refine WC.regionTo (⟨[(1, .bp mn 0), (3, .flat (.bool e.out))], upd M mn (some e.c), mn + 1⟩) envOk lenvOk hG (by kernel_rfl) (fun Θ K hΘ hK => ?_) ?_ | refine WC.seq (WC.regionTo (⟨[(1, .bp mn 0), (3, .flat (.bool e.out))], upd M mn (some e.c), mn + 1⟩) envOk lenvOk hG (by kernel_rfl) (fun Θ K hΘ hK => ?_) ?_)
  focus (simp (maxSteps := 2000000) only [stepV, takeV, takeCellV, evR, evC, ev1, evO, lk, constOk, ofConst, ofC1, isNilSl, flatOk, V.fzT, V.fz, S.set, binV, binInt, faV, ldV, mkV, reduceIte, reduceCtorEq, ne_eq, not_false_eq_true, eq_self, and_self, Nat.reduceLT, Nat.reduceLeDiff, Nat.reduceEqDiff, Nat.reduceAdd, Bool.false_eq_true, Bool.or_true, List.contains, List.elem, List.map_cons, List.map_nil, List.getElem?_cons_zero, List.getElem?_cons_succ, Option.bind_some, id, beq_self_eq_true, Nat.zero_add, upd_same, upd_upd, run_cons, gW, goR_true, o22n, o22H, o22T, e3, e35, Ent.sm]; (repeat' (first | (with_reducible apply And.intro) | ((first | refine Post.splitN (fun gg => ?_) (fun gg => ?_) | refine Post.split (fun gg => ?_) (fun gg => ?_)) <;> simp (maxSteps := 2000000) only [gg, stepV, takeV, takeCellV, evR, evC, ev1, evO, lk, constOk, ofConst, ofC1, isNilSl, flatOk, V.known, V.fzT, V.fz, S.set, S.setU, binV, binInt, faV, ldV, lenV, bltV, mkV, reduceIte, reduceCtorEq, ne_eq, not_false_eq_true, eq_self, true_and, and_self, Nat.reduceLT, Nat.reduceLeDiff, Nat.reduceEqDiff, Nat.reduceAdd, Bool.false_eq_true, Bool.or_true, cond_true, cond_false, List.contains, List.elem, List.map_cons, List.map_nil, List.getElem?_cons_zero, List.getElem?_cons_succ, Option.bind_some, id, beq_self_eq_true, Nat.zero_add, upd_same, upd_upd, bs_size, run_nil, run_cons, gW, goR_true, goR_false, Post_done, o22n, o22H, o22T, o22g, e3, e9, e35, Ent.sm]))); any_goals (first | (refine hK _ (Sub.of ?_ (.refl _) rfl); simp only [subL, lk, reduceIte, Nat.reduceEqDiff]; (repeat' (with_reducible apply And.intro)); all_goals (first | exact SubV.refl _ | exact SubV.nil _ _ | exact SubV.fz _ _ _ | exact trivial | (refine SubV.of_eq ?_; simp_all; done)); done) | omega | (simp only [List.length_append, List.length_cons, List.length_nil]; omega) | exact one_bv _ | exact one_sv _ | skip); done)
  repeat (with_reducible first | refine WC.block ?_ | refine WC.seq (WC.block ?_) | refine WC.seq (WC.seq ?_) | refine nxt_n ?_ | refine nxt_e ?_ | refine nxt_r ?_ | refine blk_n ?_ | refine blk_r ?_ | refine blk_hit ?_ | refine blk_miss (by rfl) ?_ | refine WC.skip ?_ | refine WC.exit ?_ | refine WC.ret ?_)
  first | refine WC.regionTo (⟨[(1, .bp mn 0), (3, .flat (.bool e.out)), (4, .flat (.bool e.none))], upd M mn (some e.c), mn + 1⟩) envOk lenvOk hG (by kernel_rfl) (fun Θ K hΘ hK => ?_) ?_ | refine WC.seq (WC.regionTo (⟨[(1, .bp mn 0), (3, .flat (.bool e.out)), (4, .flat (.bool e.none))], upd M mn (some e.c), mn + 1⟩) envOk lenvOk hG (by kernel_rfl) (fun Θ K hΘ hK => ?_) ?_)
  focus (simp (maxSteps := 2000000) only [stepV, takeV, takeCellV, evR, evC, ev1, evO, lk, constOk, ofConst, ofC1, isNilSl, flatOk, V.fzT, V.fz, S.set, binV, binInt, faV, ldV, mkV, reduceIte, reduceCtorEq, ne_eq, not_false_eq_true, eq_self, and_self, Nat.reduceLT, Nat.reduceLeDiff, Nat.reduceEqDiff, Nat.reduceAdd, Bool.false_eq_true, Bool.or_true, List.contains, List.elem, List.map_cons, List.map_nil, List.getElem?_cons_zero, List.getElem?_cons_succ, Option.bind_some, id, beq_self_eq_true, Nat.zero_add, Nat.add_zero, upd_same, upd_upd, run_cons, gW, goR_true, o22n, o22H, o22T, e3, e25, e35, Ent.sm]; (repeat' (first | (with_reducible apply And.intro) | ((first | refine Post.splitN (fun gg => ?_) (fun gg => ?_) | refine Post.split (fun gg => ?_) (fun gg => ?_)) <;> simp (maxSteps := 2000000) only [gg, false_implies, implies_true, binAgg,  stepV, takeV, takeCellV, evR, evC, ev1, evO, lk, constOk, ofConst, ofC1, isNilSl, flatOk, V.fzT, V.fz, S.set, S.setU, binV, binStr, faV, ldV, buildV, fillV, mkV, reduceIte, reduceCtorEq, ne_eq, not_false_eq_true, eq_self, true_and, and_self, Nat.reduceLT, Nat.reduceLeDiff, Nat.reduceEqDiff, Nat.reduceBEq, Nat.reduceAdd, Bool.false_eq_true, Bool.or_true, Bool.or_false, cond_true, cond_false, List.contains, List.elem, List.map_nil, List.getElem?_cons_zero, List.getElem?_cons_succ, Option.bind_some, id, beq_self_eq_true, Nat.mul_one, Nat.zero_add, upd_same, upd_upd, List.not_mem_nil, run_nil, run_cons, gW, goR_true, goR_false, Post_done, o22n, o22H, o22L, o22T, o22g, e5, e9, e23, e25, e35, l23, idS, Ent.sm]))); any_goals (first | (refine hK _ (Sub.of ?_ (.refl _) rfl); simp only [subL, lk, reduceIte, Nat.reduceEqDiff]; (repeat' (with_reducible apply And.intro)); all_goals (first | exact SubV.refl _ | exact SubV.nil _ _ | exact SubV.fz _ _ _ | exact trivial | (refine SubV.of_eq ?_; simp_all; done)); done) | omega | (simp only [List.length_append, List.length_cons, List.length_nil]; omega) | exact one_bv _ | exact one_sv _ | skip); done)
  repeat (with_reducible first | refine WC.block ?_ | refine WC.seq (WC.block ?_) | refine WC.seq (WC.seq ?_) | refine nxt_n ?_ | refine nxt_e ?_ | refine nxt_r ?_ | refine blk_n ?_ | refine blk_r ?_ | refine blk_hit ?_ | refine blk_miss (by rfl) ?_ | refine WC.skip ?_ | refine WC.exit ?_ | refine WC.ret ?_)
  first | refine WC.regionTo (⟨[(1, .bp mn 0), (3, .flat (.bool e.out)), (4, .flat (.bool e.none)), (5, .flat (.bool e.bare))], upd M mn (some e.c), mn + 1⟩) envOk lenvOk hG (by kernel_rfl) (fun Θ K hΘ hK => ?_) ?_ | refine WC.seq (WC.regionTo (⟨[(1, .bp mn 0), (3, .flat (.bool e.out)), (4, .flat (.bool e.none)), (5, .flat (.bool e.bare))], upd M mn (some e.c), mn + 1⟩) envOk lenvOk hG (by kernel_rfl) (fun Θ K hΘ hK => ?_) ?_)
  focus (simp (maxSteps := 2000000) only [stepV, takeV, takeCellV, evR, evC, ev1, evO, lk, constOk, ofConst, ofC1, isNilSl, flatOk, V.fzT, V.fz, S.set, binV, binInt, faV, ldV, mkV, reduceIte, reduceCtorEq, ne_eq, not_false_eq_true, eq_self, and_self, Nat.reduceLT, Nat.reduceLeDiff, Nat.reduceEqDiff, Nat.reduceAdd, Bool.false_eq_true, Bool.or_true, List.contains, List.elem, List.map_cons, List.map_nil, List.getElem?_cons_zero, List.getElem?_cons_succ, Option.bind_some, id, beq_self_eq_true, Nat.zero_add, upd_same, upd_upd, run_cons, gW, goR_true, o22n, o22H, o22T, e3, e35, Ent.sm]; (repeat' (first | (with_reducible apply And.intro) | ((first | refine Post.splitN (fun gg => ?_) (fun gg => ?_) | refine Post.split (fun gg => ?_) (fun gg => ?_)) <;> simp (maxSteps := 2000000) only [gg, false_implies, implies_true, binAgg,  stepV, takeV, takeCellV, evR, evC, ev1, evO, lk, constOk, ofConst, ofC1, isNilSl, flatOk, V.fzT, V.fz, S.set, S.setU, binV, binInt, binStr, faV, ldV, buildV, fillV, mkV, reduceIte, reduceCtorEq, ne_eq, not_false_eq_true, eq_self, true_and, and_self, Nat.reduceLT, Nat.reduceLeDiff, Nat.reduceEqDiff, Nat.reduceBEq, Nat.reduceAdd, Bool.false_eq_true, Bool.or_true, Bool.or_false, cond_true, cond_false, List.contains, List.elem, List.map_nil, List.getElem?_cons_zero, List.getElem?_cons_succ, Option.bind_some, id, beq_self_eq_true, Nat.mul_one, Nat.zero_add, upd_same, upd_upd, List.not_mem_nil, run_nil, run_cons, gW, goR_true, goR_false, Post_done, o22n, o22H, o22L, o22T, o22g, e3, e5, e9, e23, e35, l23, idS, Ent.sm]))); any_goals (first | (refine hK _ (Sub.of ?_ (.refl _) rfl); simp only [subL, lk, reduceIte, Nat.reduceEqDiff]; (repeat' (with_reducible apply And.intro)); all_goals (first | exact SubV.refl _ | exact SubV.nil _ _ | exact SubV.fz _ _ _ | exact trivial | (refine SubV.of_eq ?_; simp_all; done)); done) | omega | (simp only [List.length_append, List.length_cons, List.length_nil]; omega) | exact one_bv _ | exact one_sv _ | skip); done)
  clear h1 h2 h3
  repeat' (first | (refine ⟨by first | exact .inr rfl | exact .inl rfl, _, _, (by simp (maxSteps := 2000000) only [Try.f22, lk, okRes, resV, resA, reduceIte, eq_self, Nat.reduceEqDiff]; exact rfl), ?_⟩; refine ⟨trivial, by simp, ?_⟩) | (with_reducible first | refine WC.block ?_ | refine WC.seq (WC.block ?_) | refine WC.seq (WC.seq ?_) | refine nxt_n ?_ | refine nxt_e ?_ | refine nxt_r ?_ | refine blk_n ?_ | refine blk_r ?_ | refine blk_hit ?_ | refine blk_miss (by rfl) ?_ | refine WC.skip ?_ | refine WC.exit ?_ | refine WC.ret ?_ | refine WC.seq (WC.skip ?_) | apply And.intro) | (refine hK _ ?_; first | clear hK K hΘ Θ | clear hK K hn0 hcl hΘ Θ) | (refine WC.condT hG ?_ ?_; focus (simp only [lk, evO, reduceIte, Nat.reduceEqDiff]; done)) | (refine WC.condF hG ?_ ?_; focus (simp only [lk, evO, reduceIte, Nat.reduceEqDiff]; done)) | (refine WC.seq (WC.condT hG ?_ ?_); focus (simp only [lk, evO, reduceIte, Nat.reduceEqDiff]; done)) | (refine WC.seq (WC.condF hG ?_ ?_); focus (simp only [lk, evO, reduceIte, Nat.reduceEqDiff]; done)) | (refine Way.intro (fun gg => ?_); try simp only [gg]) | (apply WC.condSN hG; focus (first | rfl | (simp only [lk, evO, reduceIte, Nat.reduceEqDiff]; rfl))) | (apply WC.condSsN hG; focus (first | rfl | (simp only [lk, evO, reduceIte, Nat.reduceEqDiff]; rfl))) | (apply WC.condS hG; focus (first | rfl | (simp only [lk, evO, reduceIte, Nat.reduceEqDiff]; rfl))) | (apply WC.condSs hG; focus (first | rfl | (simp only [lk, evO, reduceIte, Nat.reduceEqDiff]; rfl))) | ((first | refine WC.regionSeq envOk lenvOk hG (by kernel_rfl) (fun Θ K hΘ hK => ?_) | refine WC.region envOk lenvOk hG (by kernel_rfl) (fun Θ K hΘ hK => ?_) | refine WC.seq (WC.regionB defCl envOk lenvOk hG (by kernel_rfl) (by kernel_rfl) defCl_le (by rfl) (by kernel_rfl) (fun Θ K hΘ hcl hn0 hK => ?_)) | refine WC.regionB defCl envOk lenvOk hG (by kernel_rfl) (by kernel_rfl) defCl_le (by rfl) (by kernel_rfl) (fun Θ K hΘ hcl hn0 hK => ?_) | (refine CallG.intro (RGoodDraft_sp e.d hd _ _) (by intro x hx; simp only [List.mem_cons, List.not_mem_nil, or_false] at hx; (try rcases hx with rfl | rfl | rfl | rfl | rfl); all_goals (first | rfl | (subst hx; rfl) | contradiction)) (fun r m k hR => ?_); obtain ⟨rfl, rfl, rfl⟩ := hR; refine WR.go (congrArg (List.map (·.dst)) hΘ.symm) ?_)); simp (maxSteps := 2000000) only [stepV, takeV, takeCellV, evR, evC, ev1, evO, lk, constOk, ofConst, ofC1, isNilSl, flatOk, V.fzT, V.fz, S.set, S.back, binV, binInt, faV, ldV, mkV, reduceIte, reduceCtorEq, ne_eq, not_false_eq_true, eq_self, true_and, and_self, Nat.reduceLT, Nat.reduceLeDiff, Nat.reduceEqDiff, Nat.reduceBEq, Nat.reduceAdd, Bool.false_eq_true, Bool.or_true, Bool.or_false, List.contains, List.elem, List.map_cons, List.map_nil, List.getElem?_cons_zero, List.getElem?_cons_succ, Option.bind_some, id, beq_self_eq_true, Nat.zero_add, Nat.add_zero, upd_same, upd_upd, run_nil, run_cons, gW, goR_true, Post_done, Post_call, o22n, o22H, o22T, o22g, e3, e25, e35, Ent.sm]) | ((first | refine Post.splitN (fun gg => ?_) (fun gg => ?_) | refine PostB.splitN (fun gg => ?_) (fun gg => ?_) | refine Post.split (fun gg => ?_) (fun gg => ?_) | refine PostB.split (fun gg => ?_) (fun gg => ?_)) <;> simp (maxSteps := 2000000) only [gg, stepV, takeV, takeCellV, evR, evC, ev1, evO, lk, constOk, ofConst, ofC1, isNilSl, flatOk, V.known, V.fzT, V.fz, S.set, S.setU, binV, binInt, binStr, faV, ldV, lenV, bltV, mkV, reduceIte, reduceCtorEq, ne_eq, not_false_eq_true, eq_self, true_and, and_self, Nat.reduceLT, Nat.reduceLeDiff, Nat.reduceEqDiff, Nat.reduceAdd, Bool.false_eq_true, Bool.or_true, cond_true, cond_false, List.contains, List.elem, List.map_cons, List.map_nil, List.getElem?_cons_zero, List.getElem?_cons_succ, Option.bind_some, id, beq_self_eq_true, Nat.zero_add, upd_same, upd_upd, bs_size, run_nil, run_cons, gW, goR_true, goR_false, Post_done, o22n, o22H, o22T, o22g, e3, e9, e35, idS, Ent.sm]))
  any_goals (first | (intro b hb; have hlt := Nat.lt_of_not_le (fun q => hb (hM b q)); simp only [upd]; (repeat (rw [if_neg (by omega)])); done) | omega | (simp only [List.length_append, List.length_cons, List.length_nil]; omega) | exact one_bv _ | exact one_sv _ | skip)
  all_goals (simp_all [Ent.good] <;> (intros; omega))


theorem Ent.out_mask (e : Ent) : (decide (e.mask > 0) && decide (e.mask < 32) && decide ((e.pay.length : Int) ≤ 2048)) = e.out := by
  unfold Ent.out
  rw [Bool.eq_iff_iff]
  simp only [Bool.and_eq_true, decide_eq_true_eq]
  omega
theorem Ent.none_eq (e : Ent) : e.none = decide (e.d = dr0) := by
  rw [Bool.eq_iff_iff]
  simp only [Ent.none, Bool.and_eq_true, decide_eq_true_eq]
  constructor
  · rintro ⟨⟨⟨a, b⟩, c⟩, d⟩
    cases hd : e.d
    rw [hd] at a b c d
    simp only at a b c d
    subst a b c d
    rfl
  · intro h; rw [h]; exact ⟨⟨⟨rfl, rfl⟩, rfl⟩, rfl⟩
/-- What a draft's entry is; what something that goes out is. -/
def entD (d : Dr) : Ent := { ent0 with kind := 1, d := d }
def entO (m : Int) (p : List UInt8) : Ent := { ent0 with kind := 3, mask := m, pay := p }
theorem Ent.good1 {e : Ent} (h : e.kind = 1) : e.good = (e.d.good && decide (e = entD e.d)) := by
  rw [Ent.good, if_pos h, Bool.eq_iff_iff]
  simp only [Ent.bare, Bool.and_eq_true, decide_eq_true_eq]
  constructor
  · rintro ⟨⟨⟨a, ⟨⟨b1, b2⟩, b3⟩, b4⟩, c⟩, d⟩
    refine ⟨a, ?_⟩
    cases e
    simp only at h b1 b2 b3 b4 c d
    subst h b1 b2 b3 b4 c d
    rfl
  · rintro ⟨a, b⟩
    rw [b]
    exact ⟨⟨⟨by rw [← b]; exact a, ⟨⟨rfl, rfl⟩, rfl⟩, rfl⟩, rfl⟩, rfl⟩
theorem Ent.good3 {e : Ent} (h : e.kind = 3) : e.good = (e.out && decide (e = entO e.mask e.pay)) := by
  rw [Ent.good, if_neg (by omega), if_neg (by omega), Ent.none_eq, Bool.eq_iff_iff]
  simp only [Ent.bare, Bool.and_eq_true, decide_eq_true_eq]
  constructor
  · rintro ⟨⟨⟨_, a⟩, n⟩, ⟨⟨b1, b2⟩, b3⟩, b4⟩
    refine ⟨a, ?_⟩
    cases e
    simp only at h n b1 b2 b3 b4
    subst h n b1 b2 b3 b4
    rfl
  · rintro ⟨a, b⟩
    rw [b]
    exact ⟨⟨⟨rfl, by rw [← b]; exact a⟩, rfl⟩, ⟨⟨rfl, rfl⟩, rfl⟩, rfl⟩
theorem Ent.good2 {e : Ent} (h : e.kind = 2) : e.good = (e.out && decide (e.d = dr0) && decide (e.from_ ≥ 0) && decide (e.from_ < 5) && decide (e.seq > 0) && decide ((e.sig.length : Int) ≤ 1024)) := by
  rw [Ent.good, if_neg (by omega), if_pos h, Ent.none_eq, Bool.eq_iff_iff]
  simp only [Bool.and_eq_true, decide_eq_true_eq]
  constructor <;> (rintro ⟨⟨⟨⟨⟨a, b⟩, c⟩, d⟩, e1⟩, f⟩; exact ⟨⟨⟨⟨⟨a, b⟩, c⟩, by omega⟩, by omega⟩, f⟩)
theorem Ent.good0 {e : Ent} (h1 : e.kind ≠ 1) (h2 : e.kind ≠ 2) (h3 : e.kind ≠ 3) : e.good = false := by
  rw [Ent.good, if_neg h1, if_neg h2, decide_eq_false h3]; rfl

def o24 : Cfg := ⟨envH, envL, GL, 74, [], []⟩
theorem o24H : o24.H = envH := rfl
theorem o24L : o24.L = envL := rfl
theorem o24n : o24.nt = 74 := rfl
theorem o24T : o24.T = [] := rfl
theorem o24B : o24.B = [] := rfl
theorem o24g : o24.gl = GL := rfl
theorem Good15_sp (e : Ent) (he : e.ok) (M : Nat → Option (List V)) (mn : Nat) : Sp Try.prog GL 24 [.agg e.c] M mn (fun r m k => r = .flat (.bool e.good) ∧ m = M ∧ k = mn) := by
  have hd := he.2.1
  obtain ⟨i1, i2, i3, i4, i5, i6, i7⟩ := id he
  have hin : ∀ n : Int, 0 ≤ n → n ≤ 3 → inR n := fun n _ _ => ⟨by omega, by omega⟩
  have okD : (entD e.d).ok := ⟨hin 1 (by omega) (by omega), hd, hin 0 (by omega) (by omega), hin 0 (by omega) (by omega), hin 0 (by omega) (by omega), by simp [entD, ent0], by simp [entD, ent0]⟩
  have okO : (entO e.mask e.pay).ok := ⟨hin 3 (by omega) (by omega), by unfold Dr.ok inR; simp [entO, ent0, dr0], hin 0 (by omega) (by omega), hin 0 (by omega) (by omega), i5, i6, by simp [entO, ent0]⟩
  have f0 := Dr.fit dr0 (by unfold Dr.ok inR; simp [dr0])
  have f1 := Ent.fit e he
  have f2 := Ent.fit _ okD
  have f3 := Ent.fit _ okO
  have f4 := Dr.fit _ hd
  have hD : ({ kind := 1, d := e.d, from_ := ent0.from_, seq := ent0.seq, prev := ent0.prev, mask := ent0.mask, pay := ent0.pay, sig := ent0.sig } : Ent) = entD e.d := rfl
  have hO : ({ kind := 3, d := ent0.d, from_ := ent0.from_, seq := ent0.seq, prev := ent0.prev, mask := e.mask, pay := e.pay, sig := ent0.sig } : Ent) = entO e.mask e.pay := rfl
  refine Sp.low (.flat (.bool e.good)) (R := fun r m k => r = .flat (.bool e.good) ∧ ∀ b, M b ≠ none → m b = M b) ?_ (fun _ _ _ h => h) (Low.flat _)
  refine Sp.intro (C := o24) (fn := Try.f24) envOk Try.func24 (by kernel_rfl) rfl rfl (by simp [o24n]) (distinctT_one _) (by simp [noOwnB]) ?_
  intro E hG hM
  repeat (with_reducible first | refine WC.block ?_ | refine WC.seq (WC.block ?_) | refine WC.seq (WC.seq ?_) | refine nxt_n ?_ | refine nxt_e ?_ | refine nxt_r ?_ | refine blk_n ?_ | refine blk_r ?_ | refine blk_hit ?_ | refine blk_miss (by rfl) ?_ | refine WC.skip ?_ | refine WC.exit ?_ | refine WC.ret ?_)
  first | refine WC.regionSeq envOk lenvOk hG (by kernel_rfl) (fun Θ K hΘ hK => ?_) | refine WC.region envOk lenvOk hG (by kernel_rfl) (fun Θ K hΘ hK => ?_)
  simp (maxSteps := 2000000) only [run, wantV, stepV, takeV, boxV_agg, evR, evC, ev1, evO, lk, constOk, ofConst, ofC1, isNilSl, flatOk, V.fzT, V.fz, S.set, argSl, Post, reduceIte, reduceCtorEq, ne_eq, not_false_eq_true, eq_self, true_and, and_self, Nat.reduceLT, Bool.false_eq_true, o24n, Ent.sm]
  repeat' (with_reducible apply And.intro)
  any_goals (first | (refine hK _ ?_; (first | clear hK K hΘ Θ | clear hK K hn0 hcl hΘ Θ)) | omega | (simp only [List.length_append, List.length_cons, List.length_nil] <;> omega) | exact one_bv _ | exact one_sv _ | skip)
  have h1 := Ent.out_mask e
  repeat (with_reducible first | refine WC.block ?_ | refine WC.seq (WC.block ?_) | refine WC.seq (WC.seq ?_) | refine nxt_n ?_ | refine nxt_e ?_ | refine nxt_r ?_ | refine blk_n ?_ | refine blk_r ?_ | refine blk_hit ?_ | refine blk_miss (by rfl) ?_ | refine WC.skip ?_ | refine WC.exit ?_ | refine WC.ret ?_)
  first | refine WC.regionTo (⟨[(1, .bp mn 0), (3, .flat (.bool e.out))], upd M mn (some e.c), mn + 1⟩) envOk lenvOk hG (by kernel_rfl) (fun Θ K hΘ hK => ?_) ?_ | refine WC.seq (WC.regionTo (⟨[(1, .bp mn 0), (3, .flat (.bool e.out))], upd M mn (some e.c), mn + 1⟩) envOk lenvOk hG (by kernel_rfl) (fun Θ K hΘ hK => ?_) ?_)
  focus (simp (maxSteps := 2000000) only [stepV, takeV, takeCellV, evR, evC, ev1, evO, lk, constOk, ofConst, ofC1, isNilSl, flatOk, V.fzT, V.fz, S.set, binV, binInt, faV, ldV, mkV, reduceIte, reduceCtorEq, ne_eq, not_false_eq_true, eq_self, and_self, Nat.reduceLT, Nat.reduceLeDiff, Nat.reduceEqDiff, Nat.reduceAdd, Bool.false_eq_true, Bool.or_true, List.contains, List.elem, List.map_cons, List.map_nil, List.getElem?_cons_zero, List.getElem?_cons_succ, Option.bind_some, id, beq_self_eq_true, Nat.zero_add, upd_same, upd_upd, run_cons, gW, goR_true, o24n, o24H, o24T, e3, e35, Ent.sm]; (repeat' (first | (with_reducible apply And.intro) | ((first | refine Post.splitN (fun gg => ?_) (fun gg => ?_) | refine Post.split (fun gg => ?_) (fun gg => ?_)) <;> simp (maxSteps := 2000000) only [gg, stepV, takeV, takeCellV, evR, evC, ev1, evO, lk, constOk, ofConst, ofC1, isNilSl, flatOk, V.known, V.fzT, V.fz, S.set, S.setU, binV, binInt, faV, ldV, lenV, bltV, mkV, reduceIte, reduceCtorEq, ne_eq, not_false_eq_true, eq_self, true_and, and_self, Nat.reduceLT, Nat.reduceLeDiff, Nat.reduceEqDiff, Nat.reduceAdd, Bool.false_eq_true, Bool.or_true, cond_true, cond_false, List.contains, List.elem, List.map_cons, List.map_nil, List.getElem?_cons_zero, List.getElem?_cons_succ, Option.bind_some, id, beq_self_eq_true, Nat.zero_add, upd_same, upd_upd, bs_size, run_nil, run_cons, gW, goR_true, goR_false, Post_done, o24n, o24H, o24T, o24g, e3, e9, e35, Ent.sm]))); any_goals (first | (refine hK _ (Sub.of ?_ (.refl _) rfl); simp only [subL, lk, reduceIte, Nat.reduceEqDiff]; (repeat' (with_reducible apply And.intro)); all_goals (first | exact SubV.refl _ | exact SubV.nil _ _ | exact SubV.fz _ _ _ | exact trivial | (refine SubV.of_eq ?_; simp_all; done)); done) | omega | (simp only [List.length_append, List.length_cons, List.length_nil]; omega) | exact one_bv _ | exact one_sv _ | skip); done)
  clear h1
  repeat' (first | (refine ⟨by first | exact .inr rfl | exact .inl rfl, _, _, (by simp (maxSteps := 2000000) only [Try.f24, lk, okRes, resV, resA, reduceIte, eq_self, Nat.reduceEqDiff]; exact rfl), ?_⟩; refine ⟨trivial, by simp, ?_⟩) | (with_reducible first | refine WC.block ?_ | refine WC.seq (WC.block ?_) | refine WC.seq (WC.seq ?_) | refine nxt_n ?_ | refine nxt_e ?_ | refine nxt_r ?_ | refine blk_n ?_ | refine blk_r ?_ | refine blk_hit ?_ | refine blk_miss (by rfl) ?_ | refine WC.skip ?_ | refine WC.exit ?_ | refine WC.ret ?_ | refine WC.seq (WC.skip ?_) | apply And.intro) | (refine hK _ ?_; first | clear hK K hΘ Θ | clear hK K hn0 hcl hΘ Θ) | (refine WC.condT hG ?_ ?_; focus (simp only [lk, evO, reduceIte, Nat.reduceEqDiff]; done)) | (refine WC.condF hG ?_ ?_; focus (simp only [lk, evO, reduceIte, Nat.reduceEqDiff]; done)) | (refine WC.seq (WC.condT hG ?_ ?_); focus (simp only [lk, evO, reduceIte, Nat.reduceEqDiff]; done)) | (refine WC.seq (WC.condF hG ?_ ?_); focus (simp only [lk, evO, reduceIte, Nat.reduceEqDiff]; done)) | (refine Way.intro (fun gg => ?_); try simp only [gg]) | (apply WC.condSN hG; focus (first | rfl | (simp only [lk, evO, reduceIte, Nat.reduceEqDiff]; rfl))) | (apply WC.condSsN hG; focus (first | rfl | (simp only [lk, evO, reduceIte, Nat.reduceEqDiff]; rfl))) | (apply WC.condS hG; focus (first | rfl | (simp only [lk, evO, reduceIte, Nat.reduceEqDiff]; rfl))) | (apply WC.condSs hG; focus (first | rfl | (simp only [lk, evO, reduceIte, Nat.reduceEqDiff]; rfl))) | ((first | refine WC.regionSeq envOk lenvOk hG (by kernel_rfl) (fun Θ K hΘ hK => ?_) | refine WC.region envOk lenvOk hG (by kernel_rfl) (fun Θ K hΘ hK => ?_) | refine WC.seq (WC.regionB defCl envOk lenvOk hG (by kernel_rfl) (by kernel_rfl) defCl_le (by rfl) (by kernel_rfl) (fun Θ K hΘ hcl hn0 hK => ?_)) | refine WC.regionB defCl envOk lenvOk hG (by kernel_rfl) (by kernel_rfl) defCl_le (by rfl) (by kernel_rfl) (fun Θ K hΘ hcl hn0 hK => ?_) | (refine CallG.intro (GoodDraft_sp e.d hd _ _) (by intro x hx; simp only [List.mem_cons, List.not_mem_nil, or_false] at hx; (try rcases hx with rfl | rfl | rfl | rfl | rfl); all_goals (first | rfl | (subst hx; rfl) | contradiction)) (fun r m k hR => ?_); obtain ⟨rfl, rfl, rfl⟩ := hR; refine WR.go (congrArg (List.map (·.dst)) hΘ.symm) ?_)); simp (maxSteps := 2000000) only [stepV, takeV, takeCellV, evR, evC, ev1, evO, lk, constOk, ofConst, ofC1, isNilSl, flatOk, V.fzT, V.fz, S.set, S.back, binV, binInt, faV, ldV, mkV, reduceIte, reduceCtorEq, ne_eq, not_false_eq_true, eq_self, true_and, and_self, Nat.reduceLT, Nat.reduceLeDiff, Nat.reduceEqDiff, Nat.reduceBEq, Nat.reduceAdd, Bool.false_eq_true, Bool.or_true, Bool.or_false, List.contains, List.elem, List.map_cons, List.map_nil, List.getElem?_cons_zero, List.getElem?_cons_succ, Option.bind_some, id, beq_self_eq_true, Nat.zero_add, Nat.add_zero, upd_same, upd_upd, run_nil, run_cons, gW, goR_true, Post_done, Post_call, o24n, o24H, o24T, o24g, e3, e25, e35, Ent.sm]) | ((first | refine Post.splitN (fun gg => ?_) (fun gg => ?_) | refine PostB.splitN (fun gg => ?_) (fun gg => ?_) | refine Post.split (fun gg => ?_) (fun gg => ?_) | refine PostB.split (fun gg => ?_) (fun gg => ?_)) <;> simp (maxSteps := 2000000) only [gg, false_implies, implies_true, binAgg,  stepV, takeV, takeCellV, evR, evC, ev1, evO, lk, constOk, ofConst, ofC1, isNilSl, flatOk, V.known, V.fzT, V.fz, V.cells, S.set, S.setU, binV, binInt, faV, ldV, lenV, bltV, buildV, fillV, mkV, reduceIte, reduceCtorEq, ne_eq, not_false_eq_true, eq_self, true_and, and_true, and_self, and_assoc, Nat.reduceLT, Nat.reduceLeDiff, Nat.reduceEqDiff, Nat.reduceBEq, Nat.reduceAdd, Bool.false_eq_true, Bool.or_true, Bool.or_false, cond_true, cond_false, List.contains, List.elem, List.map_cons, List.map_nil, List.all_cons, List.all_nil, List.getElem?_cons_zero, List.getElem?_cons_succ, Option.bind_some, id, beq_self_eq_true, Nat.zero_add, upd_same, List.length_cons, List.length_nil, upd_upd, List.mem_cons, List.not_mem_nil, or_false, forall_eq, List.cons_append, List.nil_append, Option.isSome_some, Bool.and_true, forall_eq_or_imp, List.drop_zero, bs_size, run_nil, run_cons, gW, goR_true, goR_false, Post_done, o24n, o24H, o24L, o24T, o24g, e3, e9, e23, e25, e35, l25, l35, Dr.sm, Ent.sm, hD, hO]))
  any_goals (first | (intro b hb; have hlt := Nat.lt_of_not_le (fun q => hb (hM b q)); simp only [upd]; (repeat (rw [if_neg (by omega)])); done) | omega | (simp only [List.length_append, List.length_cons, List.length_nil]; omega) | exact one_bv _ | exact one_sv _ | skip)
  any_goals (first | exact f0 | exact f1 | exact f2 | exact f3 | exact f4)
  all_goals clear f0 f1 f2 f3 f4 hD hO okD okO hin
  all_goals
    have g1 := @Ent.good1 e
    have g2 := @Ent.good2 e
    have g3 := @Ent.good3 e
    have g0 := @Ent.good0 e
  all_goals (simp_all <;> (intros; omega))

end Go.VL
