/- Part SB of the proof: made for this claim. -/
import Derived.Test.YtbceglggojnnaaaDoorSA
set_option linter.unusedVariables false
set_option linter.unusedSimpArgs false
set_option maxRecDepth 100000
set_option maxHeartbeats 8000000
open Go.RowKit
namespace Go.VL
open Go.Proofs
theorem Of_sp (s : List UInt8) (hs : s.length ≤ 1099511627776) : Rt 103 [.flat (.string (bs s))] (.agg (bv (sha s).1)) := by
  intro M mn
  refine fnL (C := kc 79 [21, 28] []) (rs := [.cell 2 52]) envOk Tryd.func103 (by kernel_rfl) rfl rfl rfl rfl rfl rfl (lowAgg (FlatS.bv _)) ?_
  intro E hG hM
  repeat' (first | (with_reducible first | refine pa ?_ | refine pb ?_ | refine pc ?_ | refine nxt_n ?_ | refine nxt_e ?_ | refine nxt_r ?_ | refine blk_n ?_ | refine blk_r ?_ | refine blk_hit ?_ | refine blk_miss (by rfl) ?_ | refine pd ?_ | refine pe ?_ | refine pf ?_ | refine pg ?_ | apply And.intro) | (refine hK _ ?_; clear hK K hΘ Θ) | (with_reducible first | refine cw1 ?_ | refine cw2 ?_ | exact cw3 | exact cw4) | ((with_reducible first | refine cw5 (fun gg => ?_) | refine cw6 (fun gg => ?_) | refine cw7 (fun gg => ?_)); try simp only [gg]) | refine cs1 hG rfl ?_ ?_ | refine cs2 hG rfl ?_ ?_ | ((first | refine rga hG (by kernel_rfl) (fun Θ K hΘ hK => ?_) | refine rgb hG (by kernel_rfl) (fun Θ K hΘ hK => ?_)); simp (maxSteps := 2000000) only [go_sem, seval, reduceCtorEq, List.append_eq]) | ((first | refine Post.splitN (fun gg => ?_) (fun gg => ?_) | refine Post.split (fun gg => ?_) (fun gg => ?_)) <;> simp (maxSteps := 2000000) only [go_sem, seval, reduceCtorEq, List.append_eq, gg]) | (refine finR (by simp only [go_sem, seval, reduceCtorEq, List.append_eq]; exact rfl) ?_; simp only [go_sem, seval, reduceCtorEq, List.append_eq]) | refine updL hM ?_ (by omega) | (with_reducible exact fun _ _ => rfl))
  all_goals (first | omega | (simp only [decide_eq_true_eq, decide_eq_false_iff_not] at *; omega) | (simp only [List.length_append, List.length_cons, List.length_nil] <;> omega) | exact one_bv _ | exact one_sv _ | skip)
  refine WC.loopA (fun l : List UInt8 => ⟨[(5, .sl true 1 l.length (bv l)), (4, .flat (.int .i64 s.length)), (3, .bp (mn + 1) 0), (2, .bp mn 0)], upd (upd M mn (some (bv z32.1))) (mn + 1) (some (uv startN)), mn + 1 + 1⟩) (fun l => s.length + 100 - l.length) (fun l => ∃ j, j ≤ padN s.length ∧ l = s ++ [128] ++ List.replicate j 0) (s ++ [128]) ⟨0, by omega, by simp⟩ (sbs (by simp (maxSteps := 2000000) only [go_sem, seval, reduceCtorEq, List.append_eq, bv_snoc128, len_snoc]) rfl rfl) ?_
  rintro l ⟨j, hj, hl⟩
  have hpd : padN s.length = (120 - (s.length + 1) % 64) % 64 := rfl
  have hll : l.length = s.length + 1 + j := by rw [hl]; simp; omega
  have e0 : ((l.length : Int).tmod 64) = ((l.length % 64 : Nat) : Int) := tmodN _ 64
  by_cases hm : l.length % 64 = 56
  · have f0 : (((l.length % 64 : Nat) : Int) = 56) = True := eq_true (by omega)
    have ej : j = padN s.length := by omega
    subst ej
    repeat' (first | (with_reducible first | refine pa ?_ | refine pb ?_ | refine pc ?_ | refine nxt_n ?_ | refine nxt_e ?_ | refine nxt_r ?_ | refine blk_n ?_ | refine blk_r ?_ | refine blk_hit ?_ | refine blk_miss (by rfl) ?_ | refine pd ?_ | refine pe ?_ | refine pf ?_ | refine pg ?_ | apply And.intro) | (refine hK _ ?_; clear hK K hΘ Θ) | (with_reducible first | refine cw1 ?_ | refine cw2 ?_ | exact cw3 | exact cw4) | ((with_reducible first | refine cw5 (fun gg => ?_) | refine cw6 (fun gg => ?_) | refine cw7 (fun gg => ?_)); try simp only [gg]) | refine cs1 hG rfl ?_ ?_ | refine cs2 hG rfl ?_ ?_ | ((first | refine rga hG (by kernel_rfl) (fun Θ K hΘ hK => ?_) | refine rgb hG (by kernel_rfl) (fun Θ K hΘ hK => ?_)); simp (maxSteps := 2000000) only [go_sem, seval, reduceCtorEq, List.append_eq, e0, f0]) | ((first | refine Post.splitN (fun gg => ?_) (fun gg => ?_) | refine Post.split (fun gg => ?_) (fun gg => ?_)) <;> simp (maxSteps := 2000000) only [go_sem, seval, reduceCtorEq, List.append_eq, gg, e0, f0]) | (refine finR (by simp only [go_sem, seval, reduceCtorEq, List.append_eq, e0, f0]; exact rfl) ?_; simp only [go_sem, seval, reduceCtorEq, List.append_eq, e0, f0]) | refine updL hM ?_ (by omega) | (with_reducible exact fun _ _ => rfl))
    all_goals (first | omega | (simp only [decide_eq_true_eq, decide_eq_false_iff_not] at *; omega) | (simp only [List.length_append, List.length_cons, List.length_nil] <;> omega) | exact one_bv _ | exact one_sv _ | skip)
    generalize hpr : l = pre at hll
    refine WC.loopA (fun j : Nat => ⟨[(6, .flat (.int .i64 (7 - j))), (5, .sl true 1 (pre ++ (lenB (s.length * 8)).take j).length (bv (pre ++ (lenB (s.length * 8)).take j))), (4, .flat (.int .i64 s.length)), (3, .bp (mn + 1) 0), (2, .bp mn 0)], upd (upd M mn (some (bv z32.1))) (mn + 1) (some (uv startN)), mn + 1 + 1⟩) (fun j => 8 - j) (fun j => j ≤ 8) 0 (by omega) (sbs (by simp (maxSteps := 2000000) only [go_sem, seval, reduceCtorEq, List.append_eq, List.take_zero, List.append_nil, hpr, Int.natCast_zero, Int.sub_zero]) rfl rfl) ?_
    intro j hj8
    generalize hL : pre ++ (lenB (s.length * 8)).take j = L
    have hLl : L.length = pre.length + j := by rw [← hL, List.length_append, List.length_take, lenB_len]; omega
    by_cases h8 : j < 8
    · have f8 : ((7 - (j : Int)) ≥ 0) = True := eq_true (by omega)
      have w1 : IntKind.u64.wrap (s.length : Int) = (s.length : Int) := wu (by omega) (by omega)
      have w2 : IntKind.u64.wrap ((s.length : Int) * 8) = ((s.length * 8 : Nat) : Int) := by rw [wu (by omega) (by omega)]; omega
      have w3 : IntKind.i64.wrap (8 * (7 - (j : Int))) = ((8 * (7 - j) : Nat) : Int) := by rw [wi (by omega) (by omega)]; omega
      have w4 : IntKind.i64.wrap (7 - (j : Int) - 1) = 7 - ((j + 1 : Nat) : Int) := by rw [wi (by omega) (by omega)]; omega
      have w5 := w_shr64 (s.length * 8) (8 * (7 - j)) (by omega)
      have hn := lenB_take (s.length * 8) j h8
      have hN : pre ++ (lenB (s.length * 8)).take (j + 1) = L ++ [UInt8.ofNat (s.length * 8 / 2 ^ (8 * (7 - j)))] := by rw [hn, ← List.append_assoc, hL]
      repeat' (first | (with_reducible first | refine pa ?_ | refine pb ?_ | refine pc ?_ | refine nxt_n ?_ | refine nxt_e ?_ | refine nxt_r ?_ | refine blk_n ?_ | refine blk_r ?_ | refine blk_hit ?_ | refine blk_miss (by rfl) ?_ | refine pd ?_ | refine pe ?_ | refine pf ?_ | refine pg ?_ | apply And.intro) | (refine hK _ ?_; clear hK K hΘ Θ) | (with_reducible first | refine cw1 ?_ | refine cw2 ?_ | exact cw3 | exact cw4) | ((with_reducible first | refine cw5 (fun gg => ?_) | refine cw6 (fun gg => ?_) | refine cw7 (fun gg => ?_)); try simp only [gg]) | refine cs1 hG rfl ?_ ?_ | refine cs2 hG rfl ?_ ?_ | ((first | refine rga hG (by kernel_rfl) (fun Θ K hΘ hK => ?_) | refine rgb hG (by kernel_rfl) (fun Θ K hΘ hK => ?_)); simp (maxSteps := 2000000) only [go_sem, seval, reduceCtorEq, List.append_eq, f8, w1, w2, w3, w4, w5, w_byteN]) | ((first | refine Post.splitN (fun gg => ?_) (fun gg => ?_) | refine Post.split (fun gg => ?_) (fun gg => ?_)) <;> simp (maxSteps := 2000000) only [go_sem, seval, reduceCtorEq, List.append_eq, gg, f8, w1, w2, w3, w4, w5, w_byteN]) | (refine finR (by simp only [go_sem, seval, reduceCtorEq, List.append_eq, f8, w1, w2, w3, w4, w5, w_byteN]; exact rfl) ?_; simp only [go_sem, seval, reduceCtorEq, List.append_eq, f8, w1, w2, w3, w4, w5, w_byteN]) | refine updL hM ?_ (by omega) | (with_reducible exact fun _ _ => rfl))
      all_goals (first | omega | (simp only [decide_eq_true_eq, decide_eq_false_iff_not] at *; omega) | (simp only [List.length_append, List.length_cons, List.length_nil] <;> omega) | exact one_bv _ | exact one_sv _ | skip)
      refine ⟨j + 1, by omega, by omega, (sbs (by simp (maxSteps := 2000000) only [go_sem, seval, reduceCtorEq, List.append_eq, hN, len_snoc]) rfl rfl)⟩
    · have f8 : ((7 - (j : Int)) ≥ 0) = False := eq_false (by omega)
      have e8 : j = 8 := by omega
      subst e8
      rw [List.take_of_length_le (by rw [lenB_len]; omega), ← hpr, hl, ← pad] at hL
      have hpd := pad_mod s
      rw [hL] at hpd
      have hsw : foldB (L.length / 64) startN L = shaW s := by rw [← hL]; rfl
      repeat' (first | (with_reducible first | refine pa ?_ | refine pb ?_ | refine pc ?_ | refine nxt_n ?_ | refine nxt_e ?_ | refine nxt_r ?_ | refine blk_n ?_ | refine blk_r ?_ | refine blk_hit ?_ | refine blk_miss (by rfl) ?_ | refine pd ?_ | refine pe ?_ | refine pf ?_ | refine pg ?_ | apply And.intro) | (refine hK _ ?_; clear hK K hΘ Θ) | (with_reducible first | refine cw1 ?_ | refine cw2 ?_ | exact cw3 | exact cw4) | ((with_reducible first | refine cw5 (fun gg => ?_) | refine cw6 (fun gg => ?_) | refine cw7 (fun gg => ?_)); try simp only [gg]) | refine cs1 hG rfl ?_ ?_ | refine cs2 hG rfl ?_ ?_ | ((first | refine rga hG (by kernel_rfl) (fun Θ K hΘ hK => ?_) | refine rgb hG (by kernel_rfl) (fun Θ K hΘ hK => ?_)); simp (maxSteps := 2000000) only [go_sem, seval, reduceCtorEq, List.append_eq, f8]) | ((first | refine Post.splitN (fun gg => ?_) (fun gg => ?_) | refine Post.split (fun gg => ?_) (fun gg => ?_)) <;> simp (maxSteps := 2000000) only [go_sem, seval, reduceCtorEq, List.append_eq, gg, f8]) | (refine finR (by simp only [go_sem, seval, reduceCtorEq, List.append_eq, f8]; exact rfl) ?_; simp only [go_sem, seval, reduceCtorEq, List.append_eq, f8]) | refine updL hM ?_ (by omega) | (with_reducible exact fun _ _ => rfl))
      all_goals (first | omega | (simp only [decide_eq_true_eq, decide_eq_false_iff_not] at *; omega) | (simp only [List.length_append, List.length_cons, List.length_nil] <;> omega) | exact one_bv _ | exact one_sv _ | skip)
      have hLb : L.length < 2000000000000 := by have : padN s.length < 64 := Nat.mod_lt _ (by omega); omega
      clear hl hll hpr hL
      refine WC.loopA (fun q : List UInt32 × List UInt8 => ⟨[(5, .sl false 1 q.2.length (bv q.2)), (3, .bp (mn + 1) 0), (2, .bp mn 0)], upd (upd M mn (some (bv z32.1))) (mn + 1) (some (uv q.1)), mn + 1 + 1⟩) (fun q => q.2.length) (fun q => q.1.length = 8 ∧ q.2.length % 64 = 0 ∧ q.2.length < 2000000000000 ∧ foldB (q.2.length / 64) q.1 q.2 = shaW s) (startN, L) ⟨startN_len, hpd, hLb, hsw⟩ (sbs (by simp (maxSteps := 2000000) only [go_sem, seval, reduceCtorEq, List.append_eq]) rfl rfl) ?_
      rintro ⟨h, l⟩ ⟨hh, hm, hll, hf⟩
      simp only at hh hm hll hf ⊢
      by_cases h0 : 0 < l.length
      · have f0 : ((l.length : Int) > 0) = True := eq_true (by omega)
        have t1 := bv_take l 64
        have t2 := bv_tkl l
        have t3 := bv_drop l 64
        have l1 : (l.take 64).length = 64 := by rw [List.length_take]; omega
        have l2 : (l.drop 64).length = l.length - 64 := List.length_drop
        repeat' (first | (with_reducible first | refine pa ?_ | refine pb ?_ | refine pc ?_ | refine nxt_n ?_ | refine nxt_e ?_ | refine nxt_r ?_ | refine blk_n ?_ | refine blk_r ?_ | refine blk_hit ?_ | refine blk_miss (by rfl) ?_ | refine pd ?_ | refine pe ?_ | refine pf ?_ | refine pg ?_ | apply And.intro) | (refine hK _ ?_; clear hK K hΘ Θ) | (with_reducible first | refine cw1 ?_ | refine cw2 ?_ | exact cw3 | exact cw4) | ((with_reducible first | refine cw5 (fun gg => ?_) | refine cw6 (fun gg => ?_) | refine cw7 (fun gg => ?_)); try simp only [gg]) | refine cs1 hG rfl ?_ ?_ | refine cs2 hG rfl ?_ ?_ | ((first | refine kg (mix_sp h (l.take 64) hh l1 (mn + 1) _ _ (upd_same _ _ _)) rfl hΘ ?_ | refine rga hG (by kernel_rfl) (fun Θ K hΘ hK => ?_) | refine rgb hG (by kernel_rfl) (fun Θ K hΘ hK => ?_)); simp (maxSteps := 2000000) only [go_sem, seval, reduceCtorEq, List.append_eq, f0, t1, t2, t3]) | ((first | refine Post.splitN (fun gg => ?_) (fun gg => ?_) | refine Post.split (fun gg => ?_) (fun gg => ?_)) <;> simp (maxSteps := 2000000) only [go_sem, seval, reduceCtorEq, List.append_eq, gg, f0, t1, t2, t3]) | (refine finR (by simp only [go_sem, seval, reduceCtorEq, List.append_eq, f0, t1, t2, t3]; exact rfl) ?_; simp only [go_sem, seval, reduceCtorEq, List.append_eq, f0, t1, t2, t3]) | refine updL hM ?_ (by omega) | (with_reducible exact fun _ _ => rfl))
        all_goals (first | omega | (simp only [decide_eq_true_eq, decide_eq_false_iff_not] at *; omega) | (simp only [List.length_append, List.length_cons, List.length_nil] <;> omega) | exact one_bv _ | exact one_sv _ | skip)
        have hc : (compress h (l.take 64)).length = 8 := by rw [compress_len, hh]
        refine ⟨(compress h (l.take 64), l.drop 64), ⟨hc, by simp only; omega, by simp only; omega, ?_⟩, by simp only; omega, (sbs (by simp (maxSteps := 2000000) only [go_sem, seval, reduceCtorEq, List.append_eq, l2]) rfl rfl)⟩
        rw [← hf]
        obtain ⟨k, hk⟩ : ∃ k, l.length / 64 = k + 1 := ⟨l.length / 64 - 1, by omega⟩
        simp only
        rw [show (l.drop 64).length / 64 = k by omega, hk, foldB]
      · have f0 : ((l.length : Int) > 0) = False := eq_false (by omega)
        have hl0 : l = [] := List.eq_nil_of_length_eq_zero (by omega)
        subst hl0
        have hf : h = shaW s := hf
        repeat' (first | (with_reducible first | refine pa ?_ | refine pb ?_ | refine pc ?_ | refine nxt_n ?_ | refine nxt_e ?_ | refine nxt_r ?_ | refine blk_n ?_ | refine blk_r ?_ | refine blk_hit ?_ | refine blk_miss (by rfl) ?_ | refine pd ?_ | refine pe ?_ | refine pf ?_ | refine pg ?_ | apply And.intro) | (refine hK _ ?_; clear hK K hΘ Θ) | (with_reducible first | refine cw1 ?_ | refine cw2 ?_ | exact cw3 | exact cw4) | ((with_reducible first | refine cw5 (fun gg => ?_) | refine cw6 (fun gg => ?_) | refine cw7 (fun gg => ?_)); try simp only [gg]) | refine cs1 hG rfl ?_ ?_ | refine cs2 hG rfl ?_ ?_ | ((first | refine rga hG (by kernel_rfl) (fun Θ K hΘ hK => ?_) | refine rgb hG (by kernel_rfl) (fun Θ K hΘ hK => ?_)); simp (maxSteps := 2000000) only [go_sem, seval, reduceCtorEq, List.append_eq, f0, hh]) | ((first | refine Post.splitN (fun gg => ?_) (fun gg => ?_) | refine Post.split (fun gg => ?_) (fun gg => ?_)) <;> simp (maxSteps := 2000000) only [go_sem, seval, reduceCtorEq, List.append_eq, gg, f0, hh]) | (refine finR (by simp only [go_sem, seval, reduceCtorEq, List.append_eq, f0, hh]; exact rfl) ?_; simp only [go_sem, seval, reduceCtorEq, List.append_eq, f0, hh]) | refine updL hM ?_ (by omega) | (with_reducible exact fun _ _ => rfl))
        all_goals (first | omega | (simp only [decide_eq_true_eq, decide_eq_false_iff_not] at *; omega) | (simp only [List.length_append, List.length_cons, List.length_nil] <;> omega) | exact one_bv _ | exact one_sv _ | skip)
        refine WC.loopA (fun i : Nat => ⟨[(47, .flat (.int .i64 i)), (46, .agg (uv h)), (7, .bp (mn + 1 + 1) 0), (3, .bp (mn + 1) 0), (2, .bp mn 0)], upd (upd (upd M mn (some (bv z32.1))) (mn + 1) (some (uv h))) (mn + 1 + 1) (some (bv (dArr h i))), mn + 1 + 1 + 1⟩) (fun i => 8 - i) (fun i => i ≤ 8) 0 (by omega) (sbs (by simp (maxSteps := 2000000) only [go_sem, seval, reduceCtorEq, List.append_eq]) rfl rfl) ?_
        intro i hi
        have hd := dArr_len h i
        generalize hD : dArr h i = d at hd ⊢
        by_cases h8 : i < 8
        · have f8 : ((i : Int) < 8) = True := eq_true (by omega)
          have g8 : (i < 8) = True := eq_true h8
          have w1 : IntKind.i64.wrap (i + 1) = ((i + 1 : Nat) : Int) := by rw [wi (by omega) (by omega)]; omega
          have a0 : IntKind.i64.wrap (4 * i) = ((4 * i : Nat) : Int) := by rw [wi (by omega) (by omega)]; omega
          have a1 : IntKind.i64.wrap (((4 * i : Nat) : Int) + 1) = ((4 * i + 1 : Nat) : Int) := by rw [wi (by omega) (by omega)]; omega
          have a2 : IntKind.i64.wrap (((4 * i : Nat) : Int) + 2) = ((4 * i + 2 : Nat) : Int) := by rw [wi (by omega) (by omega)]; omega
          have a3 : IntKind.i64.wrap (((4 * i : Nat) : Int) + 3) = ((4 * i + 3 : Nat) : Int) := by rw [wi (by omega) (by omega)]; omega
          have b0 : (4 * i < 32) = True := eq_true (by omega)
          have b1 : (4 * i + 1 < 32) = True := eq_true (by omega)
          have b2 : (4 * i + 2 < 32) = True := eq_true (by omega)
          have b3 : (4 * i + 3 < 32) = True := eq_true (by omega)
          repeat' (first | (with_reducible first | refine pa ?_ | refine pb ?_ | refine pc ?_ | refine nxt_n ?_ | refine nxt_e ?_ | refine nxt_r ?_ | refine blk_n ?_ | refine blk_r ?_ | refine blk_hit ?_ | refine blk_miss (by rfl) ?_ | refine pd ?_ | refine pe ?_ | refine pf ?_ | refine pg ?_ | apply And.intro) | (refine hK _ ?_; clear hK K hΘ Θ) | (with_reducible first | refine cw1 ?_ | refine cw2 ?_ | exact cw3 | exact cw4) | ((with_reducible first | refine cw5 (fun gg => ?_) | refine cw6 (fun gg => ?_) | refine cw7 (fun gg => ?_)); try simp only [gg]) | refine cs1 hG rfl ?_ ?_ | refine cs2 hG rfl ?_ ?_ | ((first | refine rga hG (by kernel_rfl) (fun Θ K hΘ hK => ?_) | refine rgb hG (by kernel_rfl) (fun Θ K hΘ hK => ?_)); simp (maxSteps := 2000000) only [go_sem, seval, reduceCtorEq, List.append_eq, f8, g8, w1, a0, a1, a2, a3, b0, b1, b2, b3, hh, hd]) | ((first | refine Post.splitN (fun gg => ?_) (fun gg => ?_) | refine Post.split (fun gg => ?_) (fun gg => ?_)) <;> simp (maxSteps := 2000000) only [go_sem, seval, reduceCtorEq, List.append_eq, gg, f8, g8, w1, a0, a1, a2, a3, b0, b1, b2, b3, hh, hd]) | (refine finR (by simp only [go_sem, seval, reduceCtorEq, List.append_eq, f8, g8, w1, a0, a1, a2, a3, b0, b1, b2, b3, hh, hd]; exact rfl) ?_; simp only [go_sem, seval, reduceCtorEq, List.append_eq, f8, g8, w1, a0, a1, a2, a3, b0, b1, b2, b3, hh, hd]) | refine updL hM ?_ (by omega) | (with_reducible exact fun _ _ => rfl))
          all_goals (first | omega | (simp only [decide_eq_true_eq, decide_eq_false_iff_not] at *; omega) | (simp only [List.length_append, List.length_cons, List.length_nil] <;> omega) | exact one_bv _ | exact one_sv _ | skip)
          refine ⟨i + 1, by omega, by omega, sbs (by simp (maxSteps := 2000000) only [go_sem, seval, reduceCtorEq, List.append_eq]) (by rw [dArr, hD]) rfl⟩
        · have f8 : ((i : Int) < 8) = False := eq_false (by omega)
          have e : i = 8 := by omega
          subst e
          have hq : d = (sha s).1 := by rw [← hD, dArr_8 h hh, hf]; rfl
          subst hq
          repeat' (first | (with_reducible first | refine pa ?_ | refine pb ?_ | refine pc ?_ | refine nxt_n ?_ | refine nxt_e ?_ | refine nxt_r ?_ | refine blk_n ?_ | refine blk_r ?_ | refine blk_hit ?_ | refine blk_miss (by rfl) ?_ | refine pd ?_ | refine pe ?_ | refine pf ?_ | refine pg ?_ | apply And.intro) | (refine hK _ ?_; clear hK K hΘ Θ) | (with_reducible first | refine cw1 ?_ | refine cw2 ?_ | exact cw3 | exact cw4) | ((with_reducible first | refine cw5 (fun gg => ?_) | refine cw6 (fun gg => ?_) | refine cw7 (fun gg => ?_)); try simp only [gg]) | refine cs1 hG rfl ?_ ?_ | refine cs2 hG rfl ?_ ?_ | ((first | refine rga hG (by kernel_rfl) (fun Θ K hΘ hK => ?_) | refine rgb hG (by kernel_rfl) (fun Θ K hΘ hK => ?_)); simp (maxSteps := 2000000) only [go_sem, seval, reduceCtorEq, List.append_eq, f8]) | ((first | refine Post.splitN (fun gg => ?_) (fun gg => ?_) | refine Post.split (fun gg => ?_) (fun gg => ?_)) <;> simp (maxSteps := 2000000) only [go_sem, seval, reduceCtorEq, List.append_eq, gg, f8]) | (refine finR (by simp only [go_sem, seval, reduceCtorEq, List.append_eq, f8]; exact rfl) ?_; simp only [go_sem, seval, reduceCtorEq, List.append_eq, f8]) | refine updL hM ?_ (by omega) | (with_reducible exact fun _ _ => rfl))
          all_goals (first | omega | (simp only [decide_eq_true_eq, decide_eq_false_iff_not] at *; omega) | (simp only [List.length_append, List.length_cons, List.length_nil] <;> omega) | exact one_bv _ | exact one_sv _ | skip)
  · have f0 : (((l.length % 64 : Nat) : Int) = 56) = False := eq_false (by omega)
    repeat' (first | (with_reducible first | refine pa ?_ | refine pb ?_ | refine pc ?_ | refine nxt_n ?_ | refine nxt_e ?_ | refine nxt_r ?_ | refine blk_n ?_ | refine blk_r ?_ | refine blk_hit ?_ | refine blk_miss (by rfl) ?_ | refine pd ?_ | refine pe ?_ | refine pf ?_ | refine pg ?_ | apply And.intro) | (refine hK _ ?_; clear hK K hΘ Θ) | (with_reducible first | refine cw1 ?_ | refine cw2 ?_ | exact cw3 | exact cw4) | ((with_reducible first | refine cw5 (fun gg => ?_) | refine cw6 (fun gg => ?_) | refine cw7 (fun gg => ?_)); try simp only [gg]) | refine cs1 hG rfl ?_ ?_ | refine cs2 hG rfl ?_ ?_ | ((first | refine rga hG (by kernel_rfl) (fun Θ K hΘ hK => ?_) | refine rgb hG (by kernel_rfl) (fun Θ K hΘ hK => ?_)); simp (maxSteps := 2000000) only [go_sem, seval, reduceCtorEq, List.append_eq, e0, f0]) | ((first | refine Post.splitN (fun gg => ?_) (fun gg => ?_) | refine Post.split (fun gg => ?_) (fun gg => ?_)) <;> simp (maxSteps := 2000000) only [go_sem, seval, reduceCtorEq, List.append_eq, gg, e0, f0]) | (refine finR (by simp only [go_sem, seval, reduceCtorEq, List.append_eq, e0, f0]; exact rfl) ?_; simp only [go_sem, seval, reduceCtorEq, List.append_eq, e0, f0]) | refine updL hM ?_ (by omega) | (with_reducible exact fun _ _ => rfl))
    all_goals (first | omega | (simp only [decide_eq_true_eq, decide_eq_false_iff_not] at *; omega) | (simp only [List.length_append, List.length_cons, List.length_nil] <;> omega) | exact one_bv _ | exact one_sv _ | skip)
    refine ⟨l ++ [0], ⟨j + 1, by omega, ?_⟩, ?_, (sbs (by simp (maxSteps := 2000000) only [go_sem, seval, reduceCtorEq, List.append_eq, len_snoc]) rfl rfl)⟩
    · rw [hl, List.replicate_succ']; simp
    · rw [len_snoc]; omega
end Go.VL

set_option linter.unusedVariables false
set_option linter.unusedSimpArgs false
set_option maxRecDepth 100000
set_option maxHeartbeats 8000000
open Go.RowKit
namespace Go.VL
open Go.Proofs
@[go_sem] theorem sv_cons (s : List UInt8) (l : List (List UInt8)) : V.flat (.string (bs s)) :: sv l = sv (s :: l) := rfl
theorem Sum_sp (p : List UInt8) (l : List (List UInt8)) (hp : p.length ≤ 100000000) (hs : total l ≤ 100000000) (hl : l.length ≤ 100000) : Rt 63 [.flat (.string (bs p)), .sl false 1 l.length (sv l)] (.agg (bv (shaSum p l).1)) := by
  have ht := total_cons p l
  have hb := listB_le (p :: l) (by omega) (by simp; omega)
  have e1 : 1 + l.length = (p :: l).length := by simp; omega
  simp only [List.length_cons] at hb
  intro M mn
  refine fnL (C := kc 11 [] []) (rs := [.cell 4 52]) envOk Tryd.func63 (by kernel_rfl) rfl rfl rfl rfl rfl rfl (lowAgg (FlatS.bv _)) ?_
  intro E hG hM
  repeat' (first | (with_reducible first | refine pa ?_ | refine pb ?_ | refine pc ?_ | refine nxt_n ?_ | refine nxt_e ?_ | refine nxt_r ?_ | refine blk_n ?_ | refine blk_r ?_ | refine blk_hit ?_ | refine blk_miss (by rfl) ?_ | refine pd ?_ | refine pe ?_ | refine pf ?_ | refine pg ?_ | apply And.intro) | (refine hK _ ?_; clear hK K hΘ Θ) | (with_reducible first | refine cw1 ?_ | refine cw2 ?_ | exact cw3 | exact cw4) | ((with_reducible first | refine cw5 (fun gg => ?_) | refine cw6 (fun gg => ?_) | refine cw7 (fun gg => ?_)); try simp only [gg]) | refine cs1 hG rfl ?_ ?_ | refine cs2 hG rfl ?_ ?_ | ((first | refine kg (List_sp (p :: l) (by omega) (by simp; omega) _ _) rfl hΘ ?_ | refine kg (Of_sp (listB (p :: l)) (by omega) _ _) rfl hΘ ?_ | refine rga hG (by kernel_rfl) (fun Θ K hΘ hK => ?_) | refine rgb hG (by kernel_rfl) (fun Θ K hΘ hK => ?_)); simp (maxSteps := 2000000) only [go_sem, seval, reduceCtorEq, List.append_eq, e1]) | ((first | refine Post.splitN (fun gg => ?_) (fun gg => ?_) | refine Post.split (fun gg => ?_) (fun gg => ?_)) <;> simp (maxSteps := 2000000) only [go_sem, seval, reduceCtorEq, List.append_eq, gg, e1]) | (refine finR (by simp only [go_sem, seval, reduceCtorEq, List.append_eq, e1]; exact rfl) ?_; simp only [go_sem, seval, reduceCtorEq, List.append_eq, e1]) | refine updL hM ?_ (by omega) | (with_reducible exact fun _ _ => rfl))
  all_goals (first | omega | (simp only [decide_eq_true_eq, decide_eq_false_iff_not] at *; omega) | (simp only [List.length_append, List.length_cons, List.length_nil] <;> omega) | exact one_bv _ | exact one_sv _ | skip)
  all_goals rfl
end Go.VL

set_option linter.unusedVariables false
set_option linter.unusedSimpArgs false
set_option maxRecDepth 100000
set_option maxHeartbeats 8000000
open Go.RowKit
namespace Go.VL
open Go.Proofs
theorem Cut_sp (d : Id32) : Rt 62 [.agg (bv d.1)] (.agg (bv (cutE d).1)) := by
  intro M mn
  refine fnL (C := kc 6 [] []) (rs := [.cell 2 31]) envOk Tryd.func62 (by kernel_rfl) rfl rfl rfl rfl rfl rfl (lowAgg (FlatS.bv _)) ?_
  intro E hG hM
  repeat' (first | (with_reducible first | refine pa ?_ | refine pb ?_ | refine pc ?_ | refine nxt_n ?_ | refine nxt_e ?_ | refine nxt_r ?_ | refine blk_n ?_ | refine blk_r ?_ | refine blk_hit ?_ | refine blk_miss (by rfl) ?_ | refine pd ?_ | refine pe ?_ | refine pf ?_ | refine pg ?_ | apply And.intro) | (refine hK _ ?_; clear hK K hΘ Θ) | (with_reducible first | refine cw1 ?_ | refine cw2 ?_ | exact cw3 | exact cw4) | ((with_reducible first | refine cw5 (fun gg => ?_) | refine cw6 (fun gg => ?_) | refine cw7 (fun gg => ?_)); try simp only [gg]) | refine cs1 hG rfl ?_ ?_ | refine cs2 hG rfl ?_ ?_ | ((first | refine rga hG (by kernel_rfl) (fun Θ K hΘ hK => ?_) | refine rgb hG (by kernel_rfl) (fun Θ K hΘ hK => ?_)); simp (maxSteps := 2000000) only [go_sem, seval, reduceCtorEq, cut_take]) | ((first | refine Post.splitN (fun gg => ?_) (fun gg => ?_) | refine Post.split (fun gg => ?_) (fun gg => ?_)) <;> simp (maxSteps := 2000000) only [go_sem, seval, reduceCtorEq, gg, cut_take]) | (refine finR (by simp only [go_sem, seval, reduceCtorEq, cut_take]; exact rfl) ?_; simp only [go_sem, seval, reduceCtorEq, cut_take]) | refine updL hM ?_ (by omega) | (with_reducible exact fun _ _ => rfl))
  all_goals (first | omega | (simp only [decide_eq_true_eq, decide_eq_false_iff_not] at *; omega) | (simp only [List.length_append, List.length_cons, List.length_nil] <;> omega) | exact one_bv _ | exact one_sv _ | skip)
end Go.VL

set_option linter.unusedVariables false
set_option linter.unusedSimpArgs false
set_option maxRecDepth 100000
set_option maxHeartbeats 8000000
open Go.RowKit
namespace Go.VL
open Go.Proofs
theorem text_sp (p : Pl) (hp : inR p.index ∧ inR p.chain) : Rt 119 [.agg p.c] (.flat (.string (bs (plT p.index p.chain)))) := by
  have h1 := numB_length p.index.toNat (by have := hp.1.2; omega)
  have h2 := numB_length p.chain.toNat (by have := hp.2.2; omega)
  have a1 : p.index < 9223372036854775808 := by have := hp.1.2; omega
  have a2 : p.chain < 9223372036854775808 := by have := hp.2.2; omega
  intro M mn
  refine fnL (C := kc 10 [] []) (rs := [.tmp 2]) envOk Tryd.func119 (by kernel_rfl) rfl rfl rfl rfl rfl rfl (Low.flat _) ?_
  intro E hG hM
  repeat' (first | (with_reducible first | refine pa ?_ | refine pb ?_ | refine pc ?_ | refine nxt_n ?_ | refine nxt_e ?_ | refine nxt_r ?_ | refine blk_n ?_ | refine blk_r ?_ | refine blk_hit ?_ | refine blk_miss (by rfl) ?_ | refine pd ?_ | refine pe ?_ | refine pf ?_ | refine pg ?_ | apply And.intro) | (refine hK _ ?_; first | clear hK K hn0 hcl hΘ Θ | clear hK K hΘ Θ) | (with_reducible first | refine cw1 ?_ | refine cw2 ?_ | exact cw3 | exact cw4) | ((with_reducible first | refine cw5 (fun gg => ?_) | refine cw6 (fun gg => ?_) | refine cw7 (fun gg => ?_)); try simp only [gg]) | refine cs1 hG rfl ?_ ?_ | refine cs2 hG rfl ?_ ?_ | ((first | refine kf (fun M n => Num_sp _ (by omega) M n) rfl (by decide) cl0 hΘ hcl hn0 ?_ | refine rga hG (by kernel_rfl) (fun Θ K hΘ hK => ?_) | refine rgb hG (by kernel_rfl) (fun Θ K hΘ hK => ?_) | refine rgc defCl hG (by kernel_rfl) cl0 (by rfl) (by kernel_rfl) (fun Θ K hΘ hcl hn0 hK => ?_) | refine rgd defCl hG (by kernel_rfl) cl0 (by rfl) (by kernel_rfl) (fun Θ K hΘ hcl hn0 hK => ?_)); simp (maxSteps := 2000000) only [go_sem, seval, reduceCtorEq]) | ((first | refine Post.splitN (fun gg => ?_) (fun gg => ?_) | refine PostB.splitN (fun gg => ?_) (fun gg => ?_) | refine Post.split (fun gg => ?_) (fun gg => ?_) | refine PostB.split (fun gg => ?_) (fun gg => ?_)) <;> simp (maxSteps := 2000000) only [go_sem, seval, reduceCtorEq, gg]) | (refine finR (by simp only [go_sem, seval, reduceCtorEq]; exact rfl) ?_; simp only [go_sem, seval, reduceCtorEq]) | refine updL hM ?_ (by omega) | (with_reducible exact fun _ _ => rfl))
  all_goals (first | omega | (simp only [decide_eq_true_eq, decide_eq_false_iff_not] at *; omega) | (simp only [List.length_append, List.length_cons, List.length_nil] <;> omega) | exact one_bv _ | exact one_sv _ | skip)
  all_goals rfl
theorem plT_len (p : Pl) (hp : inR p.index ∧ inR p.chain) : (plT p.index p.chain).length ≤ 18 := by
  have h1 := numB_length p.index.toNat (by have := hp.1.2; omega)
  have h2 := numB_length p.chain.toNat (by have := hp.2.2; omega)
  rw [plT, List.length_append]; omega
theorem Walk_sp (x : Id16) (p : Pl) (hp : inR p.index ∧ inR p.chain) (s t : Int) (hs : inR s) (ht : inR t) : Rt 93 [.agg (bv x.1), .agg p.c, .flat (.int .i64 s), .flat (.int .i64 t)] (.agg (bv (walkE x p.index p.chain s t).1)) := by
  obtain ⟨m, hm⟩ : ∃ m : Nat, (if (0 : Int) > s then 0 else s) = (m : Int) := ⟨(max s 0).toNat, by split <;> omega⟩
  obtain ⟨T, hT, hT15⟩ : ∃ T : Int, (if (15 : Int) < t then 15 else t) = T ∧ T ≤ 15 := ⟨_, rfl, by split <;> omega⟩
  have hms : m = (max s 0).toNat := by split at hm <;> omega
  have hTs : T = min t 15 := by split at hT <;> omega
  have hmb : m < 9223372036854775808 := by have := hs.2; omega
  have hpl := plT_len p hp
  intro M mn
  refine fnL (C := kc 28 [] []) (rs := [.cell 8 31]) envOk Tryd.func93 (by kernel_rfl) rfl rfl rfl rfl rfl rfl (lowAgg (FlatS.bv _)) ?_
  intro E hG hM
  repeat' (first | (with_reducible first | refine pa ?_ | refine pb ?_ | refine pc ?_ | refine nxt_n ?_ | refine nxt_e ?_ | refine nxt_r ?_ | refine blk_n ?_ | refine blk_r ?_ | refine blk_hit ?_ | refine blk_miss (by rfl) ?_ | refine pd ?_ | refine pe ?_ | refine pf ?_ | refine pg ?_ | apply And.intro) | (refine hK _ ?_; first | clear hK K hn0 hcl hΘ Θ | clear hK K hΘ Θ) | (with_reducible first | refine cw1 ?_ | refine cw2 ?_ | exact cw3 | exact cw4) | ((with_reducible first | refine cw5 (fun gg => ?_) | refine cw6 (fun gg => ?_) | refine cw7 (fun gg => ?_)); try simp only [gg]) | refine cs1 hG rfl ?_ ?_ | refine cs2 hG rfl ?_ ?_ | ((first | refine rga hG (by kernel_rfl) (fun Θ K hΘ hK => ?_) | refine rgb hG (by kernel_rfl) (fun Θ K hΘ hK => ?_) | refine rgc defCl hG (by kernel_rfl) cl0 (by rfl) (by kernel_rfl) (fun Θ K hΘ hcl hn0 hK => ?_) | refine rgd defCl hG (by kernel_rfl) cl0 (by rfl) (by kernel_rfl) (fun Θ K hΘ hcl hn0 hK => ?_)); simp (maxSteps := 2000000) only [go_sem, seval, reduceCtorEq, hm]) | ((first | refine Post.splitN (fun gg => ?_) (fun gg => ?_) | refine PostB.splitN (fun gg => ?_) (fun gg => ?_) | refine Post.split (fun gg => ?_) (fun gg => ?_) | refine PostB.split (fun gg => ?_) (fun gg => ?_)) <;> simp (maxSteps := 2000000) only [go_sem, seval, reduceCtorEq, gg, hm]) | (refine finR (by simp only [go_sem, seval, reduceCtorEq, hm]; exact rfl) ?_; simp only [go_sem, seval, reduceCtorEq, hm]) | refine updL hM ?_ (by omega) | (with_reducible exact fun _ _ => rfl))
  all_goals (first | omega | (simp only [decide_eq_true_eq, decide_eq_false_iff_not] at *; omega) | (simp only [List.length_append, List.length_cons, List.length_nil] <;> omega) | exact one_bv _ | exact one_sv _ | skip)
  refine WC.loopA (fun q : Nat × Id16 => ⟨[(9, .flat (.int .i64 q.1)), (8, .bp (mn + 1 + 1) 0), (5, .bp (mn + 1) 0), (4, .bp mn 0), (3, .flat (.int .i64 t))], upd (upd (upd M mn (some (bv q.2.1))) (mn + 1) (some p.c)) (mn + 1 + 1) (some (bv z16.1)), mn + 1 + 1 + 1⟩) (fun q => (T - q.1).toNat) (fun q => q.1 < 9223372036854775808 ∧ walkN p.index p.chain (T - q.1).toNat q.1 q.2 = walkE x p.index p.chain s t) (m, x) ⟨hmb, by simp only; rw [walkE, hms, hTs]; congr 1; omega⟩ (sbs (by simp (maxSteps := 2000000) only [go_sem, seval, reduceCtorEq, List.append_eq]) rfl rfl) ?_
  rintro ⟨i, y⟩ ⟨hi, hy⟩
  simp only at hi hy ⊢
  by_cases h : (i : Int) < T
  · have f1 := eq_true h
    have v1 := wi1 (n := i) (by omega)
    have hy2 := y.2
    have h3 : total [y.1, numB i, plT p.index p.chain] ≤ 100 := by
      have := numB_length i (by omega)
      simp only [total, List.map_cons, List.map_nil, List.sum_cons, List.sum_nil]; omega
    have f16 : (bv y.1).take 16 = bv y.1 := by rw [bv_take, List.take_of_length_le (by omega)]
    have hsw : ∀ (a b c d : Option (List V)), upd (upd (upd (upd M mn a) (mn + 1) b) (mn + 1 + 1) c) mn d = upd (upd (upd M mn d) (mn + 1) b) (mn + 1 + 1) c := fun a b c d => by
      rw [upd_swap (by omega), upd_swap (M := upd M mn a) (by omega), upd_upd]
    have hst : cutE (shaSum [115] [y.1, numB i, plT p.index p.chain]) = stepE y p.index p.chain i := rfl
    repeat' (first | (with_reducible first | refine pa ?_ | refine pb ?_ | refine pc ?_ | refine nxt_n ?_ | refine nxt_e ?_ | refine nxt_r ?_ | refine blk_n ?_ | refine blk_r ?_ | refine blk_hit ?_ | refine blk_miss (by rfl) ?_ | refine pd ?_ | refine pe ?_ | refine pf ?_ | refine pg ?_ | apply And.intro) | (refine hK _ ?_; first | clear hK K hn0 hcl hΘ Θ | clear hK K hΘ Θ) | (with_reducible first | refine cw1 ?_ | refine cw2 ?_ | exact cw3 | exact cw4) | ((with_reducible first | refine cw5 (fun gg => ?_) | refine cw6 (fun gg => ?_) | refine cw7 (fun gg => ?_)); try simp only [gg]) | refine cs1 hG rfl ?_ ?_ | refine cs2 hG rfl ?_ ?_ | ((first | refine kf (fun M n => Num_sp _ (by omega) M n) rfl (by decide) cl0 hΘ hcl hn0 ?_ | refine kf (fun M n => text_sp p hp M n) rfl (by decide) cl0 hΘ hcl hn0 ?_ | refine kf (fun M n => Sum_sp [115] [y.1, numB i, plT p.index p.chain] (by simp) (by omega) (by simp) M n) rfl (by decide) cl0 hΘ hcl hn0 ?_ | refine kf (fun M n => Cut_sp (shaSum [115] [y.1, numB i, plT p.index p.chain]) M n) rfl (by decide) cl0 hΘ hcl hn0 ?_ | refine rga hG (by kernel_rfl) (fun Θ K hΘ hK => ?_) | refine rgb hG (by kernel_rfl) (fun Θ K hΘ hK => ?_) | refine rgc defCl hG (by kernel_rfl) cl0 (by rfl) (by kernel_rfl) (fun Θ K hΘ hcl hn0 hK => ?_) | refine rgd defCl hG (by kernel_rfl) cl0 (by rfl) (by kernel_rfl) (fun Θ K hΘ hcl hn0 hK => ?_)); simp (maxSteps := 2000000) only [go_sem, seval, reduceCtorEq, hT, f1, v1, f16, hsw, hst, Int.toNat_natCast]) | ((first | refine Post.splitN (fun gg => ?_) (fun gg => ?_) | refine PostB.splitN (fun gg => ?_) (fun gg => ?_) | refine Post.split (fun gg => ?_) (fun gg => ?_) | refine PostB.split (fun gg => ?_) (fun gg => ?_)) <;> simp (maxSteps := 2000000) only [go_sem, seval, reduceCtorEq, gg, hT, f1, v1, f16, hsw, hst, Int.toNat_natCast]) | (refine finR (by simp only [go_sem, seval, reduceCtorEq, hT, f1, v1, f16, hsw, hst, Int.toNat_natCast]; exact rfl) ?_; simp only [go_sem, seval, reduceCtorEq, hT, f1, v1, f16, hsw, hst, Int.toNat_natCast]) | refine updL hM ?_ (by omega) | (with_reducible exact fun _ _ => rfl))
    all_goals (first | omega | (simp only [decide_eq_true_eq, decide_eq_false_iff_not] at *; omega) | (simp only [List.length_append, List.length_cons, List.length_nil] <;> omega) | exact one_bv _ | exact one_sv _ | skip)
    refine ⟨(i + 1, stepE y p.index p.chain i), ⟨by simp only; omega, ?_⟩, by simp only; omega, (sbs (by simp (maxSteps := 2000000) only [go_sem, seval, reduceCtorEq, List.append_eq]) rfl rfl)⟩
    simp only
    rw [← hy, show (T - i).toNat = (T - ((i + 1 : Nat) : Int)).toNat + 1 by omega]; rfl
  · have f1 := eq_false h
    have hy : y = walkE x p.index p.chain s t := by rw [← hy, show (T - i).toNat = 0 by omega]; rfl
    rw [← hy]
    repeat' (first | (with_reducible first | refine pa ?_ | refine pb ?_ | refine pc ?_ | refine nxt_n ?_ | refine nxt_e ?_ | refine nxt_r ?_ | refine blk_n ?_ | refine blk_r ?_ | refine blk_hit ?_ | refine blk_miss (by rfl) ?_ | refine pd ?_ | refine pe ?_ | refine pf ?_ | refine pg ?_ | apply And.intro) | (refine hK _ ?_; first | clear hK K hn0 hcl hΘ Θ | clear hK K hΘ Θ) | (with_reducible first | refine cw1 ?_ | refine cw2 ?_ | exact cw3 | exact cw4) | ((with_reducible first | refine cw5 (fun gg => ?_) | refine cw6 (fun gg => ?_) | refine cw7 (fun gg => ?_)); try simp only [gg]) | refine cs1 hG rfl ?_ ?_ | refine cs2 hG rfl ?_ ?_ | ((first | refine rga hG (by kernel_rfl) (fun Θ K hΘ hK => ?_) | refine rgb hG (by kernel_rfl) (fun Θ K hΘ hK => ?_) | refine rgc defCl hG (by kernel_rfl) cl0 (by rfl) (by kernel_rfl) (fun Θ K hΘ hcl hn0 hK => ?_) | refine rgd defCl hG (by kernel_rfl) cl0 (by rfl) (by kernel_rfl) (fun Θ K hΘ hcl hn0 hK => ?_)); simp (maxSteps := 2000000) only [go_sem, seval, reduceCtorEq, hT, f1]) | ((first | refine Post.splitN (fun gg => ?_) (fun gg => ?_) | refine PostB.splitN (fun gg => ?_) (fun gg => ?_) | refine Post.split (fun gg => ?_) (fun gg => ?_) | refine PostB.split (fun gg => ?_) (fun gg => ?_)) <;> simp (maxSteps := 2000000) only [go_sem, seval, reduceCtorEq, gg, hT, f1]) | (refine finR (by simp only [go_sem, seval, reduceCtorEq, hT, f1]; exact rfl) ?_; simp only [go_sem, seval, reduceCtorEq, hT, f1]) | refine updL hM ?_ (by omega) | (with_reducible exact fun _ _ => rfl))
    all_goals (first | omega | (simp only [decide_eq_true_eq, decide_eq_false_iff_not] at *; omega) | (simp only [List.length_append, List.length_cons, List.length_nil] <;> omega) | exact one_bv _ | exact one_sv _ | skip)
theorem Digits_sp (x : Id16) : Rt 98 [.agg (bv x.1)] (.agg (iv (digs x.1))) := by
  have hx := x.2
  have hdl := digs_len x.1
  intro M mn
  refine fnL (C := kc 44 [] []) (rs := [.cell 2 147]) envOk Tryd.func98 (by kernel_rfl) rfl rfl rfl rfl rfl rfl (lowAgg (FlatS.iv _)) ?_
  intro E hG hM
  repeat' (first | (with_reducible first | refine pa ?_ | refine pb ?_ | refine pc ?_ | refine nxt_n ?_ | refine nxt_e ?_ | refine nxt_r ?_ | refine blk_n ?_ | refine blk_r ?_ | refine blk_hit ?_ | refine blk_miss (by rfl) ?_ | refine pd ?_ | refine pe ?_ | refine pf ?_ | refine pg ?_ | apply And.intro) | (refine hK _ ?_; clear hK K hΘ Θ) | (with_reducible first | refine cw1 ?_ | refine cw2 ?_ | exact cw3 | exact cw4) | ((with_reducible first | refine cw5 (fun gg => ?_) | refine cw6 (fun gg => ?_) | refine cw7 (fun gg => ?_)); try simp only [gg]) | refine cs1 hG rfl ?_ ?_ | refine cs2 hG rfl ?_ ?_ | ((first | refine rga hG (by kernel_rfl) (fun Θ K hΘ hK => ?_) | refine rgb hG (by kernel_rfl) (fun Θ K hΘ hK => ?_)); simp (maxSteps := 2000000) only [go_sem, seval, reduceCtorEq]) | ((first | refine Post.splitN (fun gg => ?_) (fun gg => ?_) | refine Post.split (fun gg => ?_) (fun gg => ?_)) <;> simp (maxSteps := 2000000) only [go_sem, seval, reduceCtorEq, gg]) | (refine finR (by simp only [go_sem, seval, reduceCtorEq]; exact rfl) ?_; simp only [go_sem, seval, reduceCtorEq]) | refine updL hM ?_ (by omega) | (with_reducible exact fun _ _ => rfl))
  all_goals (first | omega | (simp only [decide_eq_true_eq, decide_eq_false_iff_not] at *; omega) | (simp only [List.length_append, List.length_cons, List.length_nil] <;> omega) | exact one_bv _ | exact one_sv _ | skip)
  refine WC.loopA (fun i : Nat => ⟨[(7, .flat (.int .i64 i)), (4, .flat (.int .i64 (lft x.1 i : Nat))), (3, .bp (mn + 1 + 1) 0), (2, .bp (mn + 1) 0), (1, .bp mn 0)], upd (upd (upd M mn (some (bv x.1))) (mn + 1) (some (iv (iz 35)))) (mn + 1 + 1) (some (iv (fillI (digs x.1) 35 i))), mn + 1 + 1 + 1⟩) (fun i => 32 - i) (fun i => i ≤ 32) 0 (by omega) (sbs (by simp (maxSteps := 2000000) only [go_sem, seval, reduceCtorEq, List.append_eq, lft]) rfl rfl) ?_
  intro i hi
  have hfl := fillI_len (digs x.1) 35 i (by omega) (by omega)
  by_cases h : i < 32
  · have f1 : ((i : Int) < 32) = True := eq_true (by omega)
    have g1 : (i < 35) = True := eq_true (by omega)
    have g2 : (i / 2 < 16) = True := eq_true (by omega)
    have v1 := wi1 (n := i) (by omega)
    have v2 : quoI .i64 (i : Int) 2 = _ := quoN i 2 (by omega)
    have v3 : (i : Int).tmod 2 = _ := tmodN i 2
    have v4 : IntKind.i64.wrap (4 * ((i % 2 : Nat) : Int)) = ((4 * (i % 2) : Nat) : Int) := by rw [wi (by omega) (by omega)]; omega
    have v5 : IntKind.i64.wrap (4 - ((4 * (i % 2) : Nat) : Int)) = ((4 - 4 * (i % 2) : Nat) : Int) := by rw [wi (by omega) (by omega)]; omega
    have v6 : ∀ c : UInt8, shrI .u8 (c.toNat : Int) ((4 - 4 * (i % 2) : Nat) : Int) = _ := fun c => w_shr8N c (4 - 4 * (i % 2)) (by omega)
    have hb : ∀ k : Nat, (x.1.getD (i / 2) 0).toNat / 2 ^ k < 256 := fun k => Nat.lt_of_le_of_lt (Nat.div_le_self _ _) (x.1.getD (i / 2) 0).toNat_lt
    have v7 : IntKind.i64.wrap (((x.1.getD (i / 2) 0).toNat / 2 ^ (4 - 4 * (i % 2)) : Nat) : Int) = _ := wi0 (by have := hb (4 - 4 * (i % 2)); omega)
    have v8 : andI .i64 (((x.1.getD (i / 2) 0).toNat / 2 ^ (4 - 4 * (i % 2)) : Nat) : Int) 15 = (digs x.1).getD i 0 := by
      rw [andI_15 _ (by have := hb (4 - 4 * (i % 2)); omega), digs_get _ _ h]; rfl
    have v9 : (fillI (digs x.1) 35 i).set i ((digs x.1).getD i 0) = fillI (digs x.1) 35 (i + 1) := fillI_set _ _ _ (by omega) (by omega)
    have va : (fillI (digs x.1) 35 (i + 1)).getD i 0 = (nib x.1 i : Int) := by rw [fillI_get _ _ _ (by omega), digs_get _ _ h]
    have hfl2 := fillI_len (digs x.1) 35 (i + 1) (by omega) (by omega)
    have hn := nib_lt x.1 i
    have hlf := lft_le x.1 i
    have hl2 : lft x.1 (i + 1) = lft x.1 i + (15 - nib x.1 i) := rfl
    have vb : IntKind.i64.wrap (15 - (nib x.1 i : Int)) = ((15 - nib x.1 i : Nat) : Int) := by rw [wi (by omega) (by omega)]; omega
    have vc : IntKind.i64.wrap ((lft x.1 i : Int) + ((15 - nib x.1 i : Nat) : Int)) = ((lft x.1 (i + 1) : Nat) : Int) := by rw [hl2, wi (by omega) (by omega)]; omega
    generalize hq : (x.1.getD (i / 2) 0).toNat / 2 ^ (4 - 4 * (i % 2)) = q at *
    repeat' (first | (with_reducible first | refine pa ?_ | refine pb ?_ | refine pc ?_ | refine nxt_n ?_ | refine nxt_e ?_ | refine nxt_r ?_ | refine blk_n ?_ | refine blk_r ?_ | refine blk_hit ?_ | refine blk_miss (by rfl) ?_ | refine pd ?_ | refine pe ?_ | refine pf ?_ | refine pg ?_ | apply And.intro) | (refine hK _ ?_; clear hK K hΘ Θ) | (with_reducible first | refine cw1 ?_ | refine cw2 ?_ | exact cw3 | exact cw4) | ((with_reducible first | refine cw5 (fun gg => ?_) | refine cw6 (fun gg => ?_) | refine cw7 (fun gg => ?_)); try simp only [gg]) | refine cs1 hG rfl ?_ ?_ | refine cs2 hG rfl ?_ ?_ | ((first | refine rga hG (by kernel_rfl) (fun Θ K hΘ hK => ?_) | refine rgb hG (by kernel_rfl) (fun Θ K hΘ hK => ?_)); simp (maxSteps := 2000000) only [go_sem, seval, reduceCtorEq, f1, g1, g2, v1, v2, v3, v4, v5, v6, v7, v8, v9, va, vb, vc, hq, hx, hfl, hfl2]) | ((first | refine Post.splitN (fun gg => ?_) (fun gg => ?_) | refine Post.split (fun gg => ?_) (fun gg => ?_)) <;> simp (maxSteps := 2000000) only [go_sem, seval, reduceCtorEq, gg, f1, g1, g2, v1, v2, v3, v4, v5, v6, v7, v8, v9, va, vb, vc, hq, hx, hfl, hfl2]) | (refine finR (by simp only [go_sem, seval, reduceCtorEq, f1, g1, g2, v1, v2, v3, v4, v5, v6, v7, v8, v9, va, vb, vc, hq, hx, hfl, hfl2]; exact rfl) ?_; simp only [go_sem, seval, reduceCtorEq, f1, g1, g2, v1, v2, v3, v4, v5, v6, v7, v8, v9, va, vb, vc, hq, hx, hfl, hfl2]) | refine updL hM ?_ (by omega) | (with_reducible exact fun _ _ => rfl))
    all_goals (first | omega | (simp only [decide_eq_true_eq, decide_eq_false_iff_not] at *; omega) | (simp only [List.length_append, List.length_cons, List.length_nil] <;> omega) | exact one_bv _ | exact one_sv _ | skip)
    exact ⟨i + 1, by omega, by omega, (sbs (by simp (maxSteps := 2000000) only [go_sem, seval, reduceCtorEq, List.append_eq]) rfl rfl)⟩
  · have f1 : ((i : Int) < 32) = False := eq_false (by omega)
    have e : i = 32 := by omega
    subst e
    have hlf := lft_le x.1 32
    have d2 := digs_32 x.1
    have d3 := digs_33 x.1
    have d4 := digs_34 x.1
    generalize lft x.1 32 = L at *
    repeat' (first | (with_reducible first | refine pa ?_ | refine pb ?_ | refine pc ?_ | refine nxt_n ?_ | refine nxt_e ?_ | refine nxt_r ?_ | refine blk_n ?_ | refine blk_r ?_ | refine blk_hit ?_ | refine blk_miss (by rfl) ?_ | refine pd ?_ | refine pe ?_ | refine pf ?_ | refine pg ?_ | apply And.intro) | (refine hK _ ?_; clear hK K hΘ Θ) | (with_reducible first | refine cw1 ?_ | refine cw2 ?_ | exact cw3 | exact cw4) | ((with_reducible first | refine cw5 (fun gg => ?_) | refine cw6 (fun gg => ?_) | refine cw7 (fun gg => ?_)); try simp only [gg]) | refine cs1 hG rfl ?_ ?_ | refine cs2 hG rfl ?_ ?_ | ((first | refine rga hG (by kernel_rfl) (fun Θ K hΘ hK => ?_) | refine rgb hG (by kernel_rfl) (fun Θ K hΘ hK => ?_)); simp (maxSteps := 2000000) only [go_sem, seval, reduceCtorEq, f1]) | ((first | refine Post.splitN (fun gg => ?_) (fun gg => ?_) | refine Post.split (fun gg => ?_) (fun gg => ?_)) <;> simp (maxSteps := 2000000) only [go_sem, seval, reduceCtorEq, gg, f1]) | (refine finR (by simp only [go_sem, seval, reduceCtorEq, f1]; exact rfl) ?_; simp only [go_sem, seval, reduceCtorEq, f1]) | refine updL hM ?_ (by omega) | (with_reducible exact fun _ _ => rfl))
    all_goals (first | omega | (simp only [decide_eq_true_eq, decide_eq_false_iff_not] at *; omega) | (simp only [List.length_append, List.length_cons, List.length_nil] <;> omega) | exact one_bv _ | exact one_sv _ | skip)
    refine WC.loopA (fun i : Nat => ⟨[(30, .flat (.int .i64 i)), (4, .flat (.int .i64 L)), (3, .bp (mn + 1 + 1) 0), (2, .bp (mn + 1) 0), (1, .bp mn 0)], upd (upd (upd M mn (some (bv x.1))) (mn + 1) (some (iv (iz 35)))) (mn + 1 + 1) (some (iv (fillI (digs x.1) 35 (32 + i)))), mn + 1 + 1 + 1⟩) (fun i => 3 - i) (fun i => i ≤ 3) 0 (by omega) (sbs (by simp (maxSteps := 2000000) only [go_sem, seval, reduceCtorEq, List.append_eq]) rfl rfl) ?_
    intro i hi
    have hfl := fillI_len (digs x.1) 35 (32 + i) (by omega) (by omega)
    by_cases h : i < 3
    · have f1 : ((i : Int) < 3) = True := eq_true (by omega)
      have g1 : (32 + i < 35) = True := eq_true (by omega)
      have v1 := wi1 (n := i) (by omega)
      have v2 : IntKind.i64.wrap (32 + (i : Int)) = ((32 + i : Nat) : Int) := by rw [wi (by omega) (by omega)]; omega
      have v3 : IntKind.i64.wrap (4 * (i : Int)) = ((4 * i : Nat) : Int) := by rw [wi (by omega) (by omega)]; omega
      have v4 : IntKind.i64.wrap (8 - ((4 * i : Nat) : Int)) = ((8 - 4 * i : Nat) : Int) := by rw [wi (by omega) (by omega)]; omega
      have v5 := w_shrI L (8 - 4 * i) (by omega)
      have v6 : andI .i64 ((L / 2 ^ (8 - 4 * i) : Nat) : Int) 15 = (digs x.1).getD (32 + i) 0 := by
        rw [andI_15 _ (by have := Nat.div_le_self L (2 ^ (8 - 4 * i)); omega)]
        rcases (by omega : i = 0 ∨ i = 1 ∨ i = 2) with rfl | rfl | rfl
        · rw [d2]; simp only [Nat.mul_zero, Nat.sub_zero, Nat.reducePow]; omega
        · rw [d3]
        · rw [d4]; simp
      have v9 : (fillI (digs x.1) 35 (32 + i)).set (32 + i) ((digs x.1).getD (32 + i) 0) = fillI (digs x.1) 35 (32 + i + 1) := fillI_set _ _ _ (by omega) (by omega)
      repeat' (first | (with_reducible first | refine pa ?_ | refine pb ?_ | refine pc ?_ | refine nxt_n ?_ | refine nxt_e ?_ | refine nxt_r ?_ | refine blk_n ?_ | refine blk_r ?_ | refine blk_hit ?_ | refine blk_miss (by rfl) ?_ | refine pd ?_ | refine pe ?_ | refine pf ?_ | refine pg ?_ | apply And.intro) | (refine hK _ ?_; clear hK K hΘ Θ) | (with_reducible first | refine cw1 ?_ | refine cw2 ?_ | exact cw3 | exact cw4) | ((with_reducible first | refine cw5 (fun gg => ?_) | refine cw6 (fun gg => ?_) | refine cw7 (fun gg => ?_)); try simp only [gg]) | refine cs1 hG rfl ?_ ?_ | refine cs2 hG rfl ?_ ?_ | ((first | refine rga hG (by kernel_rfl) (fun Θ K hΘ hK => ?_) | refine rgb hG (by kernel_rfl) (fun Θ K hΘ hK => ?_)); simp (maxSteps := 2000000) only [go_sem, seval, reduceCtorEq, f1, g1, v1, v2, v3, v4, v5, v6, v9, hfl]) | ((first | refine Post.splitN (fun gg => ?_) (fun gg => ?_) | refine Post.split (fun gg => ?_) (fun gg => ?_)) <;> simp (maxSteps := 2000000) only [go_sem, seval, reduceCtorEq, gg, f1, g1, v1, v2, v3, v4, v5, v6, v9, hfl]) | (refine finR (by simp only [go_sem, seval, reduceCtorEq, f1, g1, v1, v2, v3, v4, v5, v6, v9, hfl]; exact rfl) ?_; simp only [go_sem, seval, reduceCtorEq, f1, g1, v1, v2, v3, v4, v5, v6, v9, hfl]) | refine updL hM ?_ (by omega) | (with_reducible exact fun _ _ => rfl))
      all_goals (first | omega | (simp only [decide_eq_true_eq, decide_eq_false_iff_not] at *; omega) | (simp only [List.length_append, List.length_cons, List.length_nil] <;> omega) | exact one_bv _ | exact one_sv _ | skip)
      exact ⟨i + 1, by omega, by omega, (sbs (by simp (maxSteps := 2000000) only [go_sem, seval, reduceCtorEq, List.append_eq]) rfl rfl)⟩
    · have f1 : ((i : Int) < 3) = False := eq_false (by omega)
      have e : i = 3 := by omega
      subst e
      have hal := fillI_all (digs x.1) 35 hdl
      have hi : (iz 35).length = 35 := iz_len 35
      repeat' (first | (with_reducible first | refine pa ?_ | refine pb ?_ | refine pc ?_ | refine nxt_n ?_ | refine nxt_e ?_ | refine nxt_r ?_ | refine blk_n ?_ | refine blk_r ?_ | refine blk_hit ?_ | refine blk_miss (by rfl) ?_ | refine pd ?_ | refine pe ?_ | refine pf ?_ | refine pg ?_ | apply And.intro) | (refine hK _ ?_; clear hK K hΘ Θ) | (with_reducible first | refine cw1 ?_ | refine cw2 ?_ | exact cw3 | exact cw4) | ((with_reducible first | refine cw5 (fun gg => ?_) | refine cw6 (fun gg => ?_) | refine cw7 (fun gg => ?_)); try simp only [gg]) | refine cs1 hG rfl ?_ ?_ | refine cs2 hG rfl ?_ ?_ | ((first | refine rga hG (by kernel_rfl) (fun Θ K hΘ hK => ?_) | refine rgb hG (by kernel_rfl) (fun Θ K hΘ hK => ?_)); simp (maxSteps := 2000000) only [go_sem, seval, reduceCtorEq, f1, hal, hdl, hi]) | ((first | refine Post.splitN (fun gg => ?_) (fun gg => ?_) | refine Post.split (fun gg => ?_) (fun gg => ?_)) <;> simp (maxSteps := 2000000) only [go_sem, seval, reduceCtorEq, gg, f1, hal, hdl, hi]) | (refine finR (by simp only [go_sem, seval, reduceCtorEq, f1, hal, hdl, hi]; exact rfl) ?_; simp only [go_sem, seval, reduceCtorEq, f1, hal, hdl, hi]) | refine updL hM ?_ (by omega) | (with_reducible exact fun _ _ => rfl))
      all_goals (first | omega | (simp only [decide_eq_true_eq, decide_eq_false_iff_not] at *; omega) | (simp only [List.length_append, List.length_cons, List.length_nil] <;> omega) | exact one_bv _ | exact one_sv _ | skip)
end Go.VL

set_option linter.unusedVariables false
set_option linter.unusedSimpArgs false
set_option maxRecDepth 100000
set_option maxHeartbeats 8000000
open Go.RowKit
namespace Go.VL
open Go.Proofs
theorem Secret_sp (s : List UInt8) (hs : s.length ≤ 100000) (p : Pl) (hp : inR p.index ∧ inR p.chain) : Rt 94 [.flat (.string (bs s)), .agg p.c] (.agg (bv (secE s p.index p.chain).1)) := by
  have h1 := numB_length p.index.toNat (by have := hp.1.2; omega)
  have h2 := numB_length p.chain.toNat (by have := hp.2.2; omega)
  have a1 : p.index < 9223372036854775808 := by have := hp.1.2; omega
  have a2 : p.chain < 9223372036854775808 := by have := hp.2.2; omega
  have ht : total [s, numB p.index.toNat, numB p.chain.toNat] ≤ 100100 := by
    simp only [total, List.map_cons, List.map_nil, List.sum_cons, List.sum_nil]; omega
  have hst : cutE (shaSum [107] [s, numB p.index.toNat, numB p.chain.toNat]) = secE s p.index p.chain := rfl
  intro M mn
  refine fnL (C := kc 15 [] []) (rs := [.cell 4 31]) envOk Tryd.func94 (by kernel_rfl) rfl rfl rfl rfl rfl rfl (lowAgg (FlatS.bv _)) ?_
  intro E hG hM
  repeat' (first | (with_reducible first | refine pa ?_ | refine pb ?_ | refine pc ?_ | refine nxt_n ?_ | refine nxt_e ?_ | refine nxt_r ?_ | refine blk_n ?_ | refine blk_r ?_ | refine blk_hit ?_ | refine blk_miss (by rfl) ?_ | refine pd ?_ | refine pe ?_ | refine pf ?_ | refine pg ?_ | apply And.intro) | (refine hK _ ?_; first | clear hK K hn0 hcl hΘ Θ | clear hK K hΘ Θ) | (with_reducible first | refine cw1 ?_ | refine cw2 ?_ | exact cw3 | exact cw4) | ((with_reducible first | refine cw5 (fun gg => ?_) | refine cw6 (fun gg => ?_) | refine cw7 (fun gg => ?_)); try simp only [gg]) | refine cs1 hG rfl ?_ ?_ | refine cs2 hG rfl ?_ ?_ | ((first | refine kf (fun M n => Num_sp p.index a1 M n) rfl (by decide) cl0 hΘ hcl hn0 ?_ | refine kf (fun M n => Num_sp p.chain a2 M n) rfl (by decide) cl0 hΘ hcl hn0 ?_ | refine kf (fun M n => Sum_sp [107] [s, numB p.index.toNat, numB p.chain.toNat] (by simp) (by omega) (by simp) M n) rfl (by decide) cl0 hΘ hcl hn0 ?_ | refine kf (fun M n => Cut_sp (shaSum [107] [s, numB p.index.toNat, numB p.chain.toNat]) M n) rfl (by decide) cl0 hΘ hcl hn0 ?_ | refine rga hG (by kernel_rfl) (fun Θ K hΘ hK => ?_) | refine rgb hG (by kernel_rfl) (fun Θ K hΘ hK => ?_) | refine rgc defCl hG (by kernel_rfl) cl0 (by rfl) (by kernel_rfl) (fun Θ K hΘ hcl hn0 hK => ?_) | refine rgd defCl hG (by kernel_rfl) cl0 (by rfl) (by kernel_rfl) (fun Θ K hΘ hcl hn0 hK => ?_)); simp (maxSteps := 2000000) only [go_sem, seval, reduceCtorEq, hst]) | ((first | refine Post.splitN (fun gg => ?_) (fun gg => ?_) | refine PostB.splitN (fun gg => ?_) (fun gg => ?_) | refine Post.split (fun gg => ?_) (fun gg => ?_) | refine PostB.split (fun gg => ?_) (fun gg => ?_)) <;> simp (maxSteps := 2000000) only [go_sem, seval, reduceCtorEq, gg, hst]) | (refine finR (by simp only [go_sem, seval, reduceCtorEq, hst]; exact rfl) ?_; simp only [go_sem, seval, reduceCtorEq, hst]) | refine updL hM ?_ (by omega) | (with_reducible exact fun _ _ => rfl))
  all_goals (first | omega | (simp only [decide_eq_true_eq, decide_eq_false_iff_not] at *; omega) | (simp only [List.length_append, List.length_cons, List.length_nil] <;> omega) | exact one_bv _ | exact one_sv _ | skip)
theorem leaf_sp (e : List UInt8) (he : e.length ≤ 100000) (ix : Int) (hix : inR ix) : Rt 95 [.sl false 1 e.length (bv e), .flat (.int .i64 ix)] (.agg (bv (leafE e ix).1)) := by
  have h1 := numB_length ix.toNat (by have := hix.2; omega)
  have a1 : ix < 9223372036854775808 := by have := hix.2; omega
  have ht : total [e, numB ix.toNat] ≤ 100100 := by
    simp only [total, List.map_cons, List.map_nil, List.sum_cons, List.sum_nil]; omega
  have hst : cutE (shaSum [108] [e, numB ix.toNat]) = leafE e ix := rfl
  intro M mn
  refine fnL (C := kc 12 [] []) (rs := [.cell 4 31]) envOk Tryd.func95 (by kernel_rfl) rfl rfl rfl rfl rfl rfl (lowAgg (FlatS.bv _)) ?_
  intro E hG hM
  repeat' (first | (with_reducible first | refine pa ?_ | refine pb ?_ | refine pc ?_ | refine nxt_n ?_ | refine nxt_e ?_ | refine nxt_r ?_ | refine blk_n ?_ | refine blk_r ?_ | refine blk_hit ?_ | refine blk_miss (by rfl) ?_ | refine pd ?_ | refine pe ?_ | refine pf ?_ | refine pg ?_ | apply And.intro) | (refine hK _ ?_; first | clear hK K hn0 hcl hΘ Θ | clear hK K hΘ Θ) | (with_reducible first | refine cw1 ?_ | refine cw2 ?_ | exact cw3 | exact cw4) | ((with_reducible first | refine cw5 (fun gg => ?_) | refine cw6 (fun gg => ?_) | refine cw7 (fun gg => ?_)); try simp only [gg]) | refine cs1 hG rfl ?_ ?_ | refine cs2 hG rfl ?_ ?_ | ((first | refine kf (fun M n => Num_sp ix a1 M n) rfl (by decide) cl0 hΘ hcl hn0 ?_ | refine kf (fun M n => Sum_sp [108] [e, numB ix.toNat] (by simp) (by omega) (by simp) M n) rfl (by decide) cl0 hΘ hcl hn0 ?_ | refine kf (fun M n => Cut_sp (shaSum [108] [e, numB ix.toNat]) M n) rfl (by decide) cl0 hΘ hcl hn0 ?_ | refine rga hG (by kernel_rfl) (fun Θ K hΘ hK => ?_) | refine rgb hG (by kernel_rfl) (fun Θ K hΘ hK => ?_) | refine rgc defCl hG (by kernel_rfl) cl0 (by rfl) (by kernel_rfl) (fun Θ K hΘ hcl hn0 hK => ?_) | refine rgd defCl hG (by kernel_rfl) cl0 (by rfl) (by kernel_rfl) (fun Θ K hΘ hcl hn0 hK => ?_)); simp (maxSteps := 2000000) only [go_sem, seval, reduceCtorEq, hst]) | ((first | refine Post.splitN (fun gg => ?_) (fun gg => ?_) | refine PostB.splitN (fun gg => ?_) (fun gg => ?_) | refine Post.split (fun gg => ?_) (fun gg => ?_) | refine PostB.split (fun gg => ?_) (fun gg => ?_)) <;> simp (maxSteps := 2000000) only [go_sem, seval, reduceCtorEq, gg, hst]) | (refine finR (by simp only [go_sem, seval, reduceCtorEq, hst]; exact rfl) ?_; simp only [go_sem, seval, reduceCtorEq, hst]) | refine updL hM ?_ (by omega) | (with_reducible exact fun _ _ => rfl))
  all_goals (first | omega | (simp only [decide_eq_true_eq, decide_eq_false_iff_not] at *; omega) | (simp only [List.length_append, List.length_cons, List.length_nil] <;> omega) | exact one_bv _ | exact one_sv _ | skip)
theorem Leaf_sp (s : List UInt8) (hs : s.length ≤ 100000) (ix : Int) (hix : inR ix) : Rt 55 [.flat (.string (bs s)), .flat (.int .i64 ix)] (.agg (bv (keyE s ix).1)) := by
  intro M mn
  refine fnL (C := kc 27 [20] []) (rs := [.cell 4 31]) envOk Tryd.func55 (by kernel_rfl) rfl rfl rfl rfl rfl rfl (lowAgg (FlatS.bv _)) ?_
  intro E hG hM
  repeat' (first | (with_reducible first | refine pa ?_ | refine pb ?_ | refine pc ?_ | refine nxt_n ?_ | refine nxt_e ?_ | refine nxt_r ?_ | refine blk_n ?_ | refine blk_r ?_ | refine blk_hit ?_ | refine blk_miss (by rfl) ?_ | refine pd ?_ | refine pe ?_ | refine pf ?_ | refine pg ?_ | apply And.intro) | (refine hK _ ?_; first | clear hK K hn0 hcl hΘ Θ | clear hK K hΘ Θ) | (with_reducible first | refine cw1 ?_ | refine cw2 ?_ | exact cw3 | exact cw4) | ((with_reducible first | refine cw5 (fun gg => ?_) | refine cw6 (fun gg => ?_) | refine cw7 (fun gg => ?_)); try simp only [gg]) | refine cs1 hG rfl ?_ ?_ | refine cs2 hG rfl ?_ ?_ | ((first | refine rga hG (by kernel_rfl) (fun Θ K hΘ hK => ?_) | refine rgb hG (by kernel_rfl) (fun Θ K hΘ hK => ?_) | refine rgc defCl hG (by kernel_rfl) cl0 (by rfl) (by kernel_rfl) (fun Θ K hΘ hcl hn0 hK => ?_) | refine rgd defCl hG (by kernel_rfl) cl0 (by rfl) (by kernel_rfl) (fun Θ K hΘ hcl hn0 hK => ?_)); simp (maxSteps := 2000000) only [go_sem, seval, reduceCtorEq, List.append_eq]) | ((first | refine Post.splitN (fun gg => ?_) (fun gg => ?_) | refine PostB.splitN (fun gg => ?_) (fun gg => ?_) | refine Post.split (fun gg => ?_) (fun gg => ?_) | refine PostB.split (fun gg => ?_) (fun gg => ?_)) <;> simp (maxSteps := 2000000) only [go_sem, seval, reduceCtorEq, List.append_eq, gg]) | (refine finR (by simp only [go_sem, seval, reduceCtorEq, List.append_eq]; exact rfl) ?_; simp only [go_sem, seval, reduceCtorEq, List.append_eq]) | refine updL hM ?_ (by omega) | (with_reducible exact fun _ _ => rfl))
  all_goals (first | omega | (simp only [decide_eq_true_eq, decide_eq_false_iff_not] at *; omega) | (simp only [List.length_append, List.length_cons, List.length_nil] <;> omega) | exact one_bv _ | exact one_sv _ | skip)
  refine WC.loopA (fun q : Nat × Mem × Nat => ⟨[(9, .flat (.int .i64 q.1)), (5, .sl true 1 (16 * q.1) (bv (endsN (keyF s ix) q.1))), (4, .bp mn 0), (1, .flat (.int .i64 ix)), (0, .flat (.string (bs s)))], q.2.1, q.2.2⟩) (fun q => 35 - q.1) (fun q => q.1 ≤ 35 ∧ (∀ b, M b ≠ none → q.2.1 b = M b) ∧ q.2.1 mn = some (bv z16.1) ∧ mn + 1 ≤ q.2.2) (0, upd M mn (some (bv z16.1)), mn + 1) ⟨by simp only; omega, updL hM (fun _ _ => rfl) (by omega), upd_same _ _ _, Nat.le_refl _⟩ (sbs (by simp (maxSteps := 2000000) only [go_sem, seval, reduceCtorEq, List.append_eq, endsN_0]) rfl rfl) ?_
  rintro ⟨i, m, n⟩ ⟨hi, hk, h1, hn⟩
  simp only at hi hk h1 hn ⊢
  by_cases h : i < 35
  · have f1 : ((i : Int) < 35) = True := eq_true (by omega)
    have v1 := wi1 (n := i) (by omega)
    have hc : inR (i : Int) := by unfold inR; omega
    have h0 : inR (0 : Int) := by unfold inR; omega
    have h15 : inR (15 : Int) := by unfold inR; omega
    have hW := Walk_sp (secE s ix i) ⟨ix, i⟩ ⟨hix, hc⟩ 0 15 h0 h15
    have hkf : walkE (secE s ix i) ix i 0 15 = keyF s ix i := rfl
    have hel := endsN_len (keyF s ix) i
    have hel2 : (endsN (keyF s ix) (i + 1)).length = 16 * (i + 1) := endsN_len _ _
    have hA : bv (endsN (keyF s ix) i) ++ bv (keyF s ix i).1 = bv (endsN (keyF s ix) (i + 1)) := by rw [← bv_append]; rfl
    have hm16 : 16 * i + 16 = 16 * (i + 1) := by omega
    have hkt : (bv (keyF s ix i).1).take 16 = bv (keyF s ix i).1 := tk16 _
    simp only at hW
    repeat' (first | (with_reducible first | refine pa ?_ | refine pb ?_ | refine pc ?_ | refine nxt_n ?_ | refine nxt_e ?_ | refine nxt_r ?_ | refine blk_n ?_ | refine blk_r ?_ | refine blk_hit ?_ | refine blk_miss (by rfl) ?_ | refine pd ?_ | refine pe ?_ | refine pf ?_ | refine pg ?_ | apply And.intro) | (refine hK _ ?_; first | clear hK K hn0 hcl hΘ Θ | clear hK K hΘ Θ) | (with_reducible first | refine cw1 ?_ | refine cw2 ?_ | exact cw3 | exact cw4) | ((with_reducible first | refine cw5 (fun gg => ?_) | refine cw6 (fun gg => ?_) | refine cw7 (fun gg => ?_)); try simp only [gg]) | refine cs1 hG rfl ?_ ?_ | refine cs2 hG rfl ?_ ?_ | ((fail_if_success (with_reducible first | show WC _ _ _ (.region 7 _ _) _ _ | show WC _ _ _ (.seq (.region 7 _ _) _) _ _)); (first | refine kf (fun M n => Secret_sp s hs ⟨ix, i⟩ ⟨hix, hc⟩ M n) rfl (by decide) (clW_le (by rfl)) hΘ hcl hn0 ?_ | refine kf (fun M n => hW M n) rfl (by decide) (clW_le (by rfl)) hΘ hcl hn0 ?_ | refine rga hG (by kernel_rfl) (fun Θ K hΘ hK => ?_) | refine rgb hG (by kernel_rfl) (fun Θ K hΘ hK => ?_) | refine rgc (clW [(1, 4), (3, 4)] defCl) hG (by kernel_rfl) (clW_le (by rfl)) (by rfl) (by kernel_rfl) (fun Θ K hΘ hcl hn0 hK => ?_) | refine rgd (clW [(1, 4), (3, 4)] defCl) hG (by kernel_rfl) (clW_le (by rfl)) (by rfl) (by kernel_rfl) (fun Θ K hΘ hcl hn0 hK => ?_)); simp (maxSteps := 2000000) only [go_sem, seval, reduceCtorEq, List.append_eq, f1, v1, hkf]) | ((first | refine Post.splitN (fun gg => ?_) (fun gg => ?_) | refine PostB.splitN (fun gg => ?_) (fun gg => ?_) | refine Post.split (fun gg => ?_) (fun gg => ?_) | refine PostB.split (fun gg => ?_) (fun gg => ?_)) <;> simp (maxSteps := 2000000) only [go_sem, seval, reduceCtorEq, List.append_eq, gg, f1, v1, hkf]) | (refine finR (by simp only [go_sem, seval, reduceCtorEq, List.append_eq, f1, v1, hkf]; exact rfl) ?_; simp only [go_sem, seval, reduceCtorEq, List.append_eq, f1, v1, hkf]) | refine updL hM ?_ (by omega) | (with_reducible exact fun _ _ => rfl))
    all_goals (first | omega | (simp only [decide_eq_true_eq, decide_eq_false_iff_not] at *; omega) | (simp only [List.length_append, List.length_cons, List.length_nil] <;> omega) | exact one_bv _ | exact one_sv _ | skip)
    repeat' (first | (with_reducible first | refine pa ?_ | refine pb ?_ | refine pc ?_ | refine nxt_n ?_ | refine nxt_e ?_ | refine nxt_r ?_ | refine blk_n ?_ | refine blk_r ?_ | refine blk_hit ?_ | refine blk_miss (by rfl) ?_ | refine pd ?_ | refine pe ?_ | refine pf ?_ | refine pg ?_ | apply And.intro) | (refine hK _ ?_; first | clear hK K hn0 hcl hΘ Θ | clear hK K hΘ Θ) | (with_reducible first | refine cw1 ?_ | refine cw2 ?_ | exact cw3 | exact cw4) | ((with_reducible first | refine cw5 (fun gg => ?_) | refine cw6 (fun gg => ?_) | refine cw7 (fun gg => ?_)); try simp only [gg]) | refine cs1 hG rfl ?_ ?_ | refine cs2 hG rfl ?_ ?_ | ((first | refine rga hG (by kernel_rfl) (fun Θ K hΘ hK => ?_) | refine rgb hG (by kernel_rfl) (fun Θ K hΘ hK => ?_) | refine rgc defCl hG (by kernel_rfl) cl0 (by rfl) (by kernel_rfl) (fun Θ K hΘ hcl hn0 hK => ?_) | refine rgd defCl hG (by kernel_rfl) cl0 (by rfl) (by kernel_rfl) (fun Θ K hΘ hcl hn0 hK => ?_)); simp (maxSteps := 2000000) only [go_sem, seval, reduceCtorEq, List.append_eq, hkt, hA, hm16, v1]) | ((first | refine Post.splitN (fun gg => ?_) (fun gg => ?_) | refine PostB.splitN (fun gg => ?_) (fun gg => ?_) | refine Post.split (fun gg => ?_) (fun gg => ?_) | refine PostB.split (fun gg => ?_) (fun gg => ?_)) <;> simp (maxSteps := 2000000) only [go_sem, seval, reduceCtorEq, List.append_eq, gg, hkt, hA, hm16, v1]) | (refine finR (by simp only [go_sem, seval, reduceCtorEq, List.append_eq, hkt, hA, hm16, v1]; exact rfl) ?_; simp only [go_sem, seval, reduceCtorEq, List.append_eq, hkt, hA, hm16, v1]) | refine updL hM ?_ (by omega) | (with_reducible exact fun _ _ => rfl))
    all_goals (first | omega | (simp only [decide_eq_true_eq, decide_eq_false_iff_not] at *; omega) | (simp only [List.length_append, List.length_cons, List.length_nil] <;> omega) | exact one_bv _ | exact one_sv _ | skip)
    exact ⟨(i + 1, upd (upd m n (some (Pl.c ⟨ix, i⟩))) (n + 1) (some (bv (keyF s ix i).1)), n + 1 + 1), ⟨by simp only; omega, updL (fun b hb => hM b (by omega)) (updL hM hk (by omega)) (by omega), by simp only; rw [upd_ne _ _ (by omega), upd_ne _ _ (by omega)]; exact h1, by simp only; omega⟩, by simp only; omega, (sbs (by simp (maxSteps := 2000000) only [go_sem, seval, reduceCtorEq, List.append_eq]) rfl rfl)⟩
  · have f1 : ((i : Int) < 35) = False := eq_false (by omega)
    have e : i = 35 := by omega
    subst e
    have hel := endsN_len (keyF s ix) 35
    have hlf := leaf_sp (endsN (keyF s ix) 35) (by rw [hel]; omega) ix hix
    rw [hel] at hlf
    have hke : leafE (endsN (keyF s ix) 35) ix = keyE s ix := rfl
    rw [hke] at hlf
    repeat' (first | (with_reducible first | refine pa ?_ | refine pb ?_ | refine pc ?_ | refine nxt_n ?_ | refine nxt_e ?_ | refine nxt_r ?_ | refine blk_n ?_ | refine blk_r ?_ | refine blk_hit ?_ | refine blk_miss (by rfl) ?_ | refine pd ?_ | refine pe ?_ | refine pf ?_ | refine pg ?_ | apply And.intro) | (refine hK _ ?_; first | clear hK K hn0 hcl hΘ Θ | clear hK K hΘ Θ) | (with_reducible first | refine cw1 ?_ | refine cw2 ?_ | exact cw3 | exact cw4) | ((with_reducible first | refine cw5 (fun gg => ?_) | refine cw6 (fun gg => ?_) | refine cw7 (fun gg => ?_)); try simp only [gg]) | refine cs1 hG rfl ?_ ?_ | refine cs2 hG rfl ?_ ?_ | ((first | refine kg (hlf _ _) rfl hΘ ?_ | refine rga hG (by kernel_rfl) (fun Θ K hΘ hK => ?_) | refine rgb hG (by kernel_rfl) (fun Θ K hΘ hK => ?_) | refine rgc defCl hG (by kernel_rfl) cl0 (by rfl) (by kernel_rfl) (fun Θ K hΘ hcl hn0 hK => ?_) | refine rgd defCl hG (by kernel_rfl) cl0 (by rfl) (by kernel_rfl) (fun Θ K hΘ hcl hn0 hK => ?_)); simp (maxSteps := 2000000) only [go_sem, seval, reduceCtorEq, List.append_eq, f1, h1]) | ((first | refine Post.splitN (fun gg => ?_) (fun gg => ?_) | refine PostB.splitN (fun gg => ?_) (fun gg => ?_) | refine Post.split (fun gg => ?_) (fun gg => ?_) | refine PostB.split (fun gg => ?_) (fun gg => ?_)) <;> simp (maxSteps := 2000000) only [go_sem, seval, reduceCtorEq, List.append_eq, gg, f1, h1]) | (refine finR (by simp only [go_sem, seval, reduceCtorEq, List.append_eq, f1, h1]; exact rfl) ?_; simp only [go_sem, seval, reduceCtorEq, List.append_eq, f1, h1]) | refine updL hM ?_ (by omega) | (with_reducible exact fun _ _ => rfl))
    all_goals (first | omega | (simp only [decide_eq_true_eq, decide_eq_false_iff_not] at *; omega) | (simp only [List.length_append, List.length_cons, List.length_nil] <;> omega) | exact one_bv _ | exact one_sv _ | skip)


end Go.VL

set_option linter.unusedVariables false
set_option linter.unusedSimpArgs false
set_option maxRecDepth 100000
set_option maxHeartbeats 8000000
open Go.RowKit
namespace Go.VL
open Go.Proofs
theorem digs_inR (d : Id16) (i : Nat) (h : i < 35) : inR ((digs d.1).getD i 0) := by
  have := digs_ge d.1 i h
  unfold inR; omega
theorem Sign_sp (s : List UInt8) (hs : s.length ≤ 100000) (ix : Int) (hix : inR ix) (d : Id16) : Rt 57 [.flat (.string (bs s)), .flat (.int .i64 ix), .agg (bv d.1)] (.flat (.string (bs (signE s ix d)))) := by
  have hd := d.2
  have hdt : (bv d.1).take 16 = bv d.1 := tk16 d
  have hdl := digs_len d.1
  intro M mn
  refine fnL (C := kc 33 [27] []) (rs := [.tmp 6]) envOk Tryd.func57 (by kernel_rfl) rfl rfl rfl rfl rfl rfl (Low.flat _) ?_
  intro E hG hM
  repeat' (first | (with_reducible first | refine pa ?_ | refine pb ?_ | refine pc ?_ | refine nxt_n ?_ | refine nxt_e ?_ | refine nxt_r ?_ | refine blk_n ?_ | refine blk_r ?_ | refine blk_hit ?_ | refine blk_miss (by rfl) ?_ | refine pd ?_ | refine pe ?_ | refine pf ?_ | refine pg ?_ | apply And.intro) | (refine hK _ ?_; first | clear hK K hn0 hcl hΘ Θ | clear hK K hΘ Θ) | (with_reducible first | refine cw1 ?_ | refine cw2 ?_ | exact cw3 | exact cw4) | ((with_reducible first | refine cw5 (fun gg => ?_) | refine cw6 (fun gg => ?_) | refine cw7 (fun gg => ?_)); try simp only [gg]) | refine cs1 hG rfl ?_ ?_ | refine cs2 hG rfl ?_ ?_ | ((first | refine kg (Digits_sp d _ _) rfl hΘ ?_ | refine rga hG (by kernel_rfl) (fun Θ K hΘ hK => ?_) | refine rgb hG (by kernel_rfl) (fun Θ K hΘ hK => ?_) | refine rgc defCl hG (by kernel_rfl) cl0 (by rfl) (by kernel_rfl) (fun Θ K hΘ hcl hn0 hK => ?_) | refine rgd defCl hG (by kernel_rfl) cl0 (by rfl) (by kernel_rfl) (fun Θ K hΘ hcl hn0 hK => ?_)); simp (maxSteps := 2000000) only [go_sem, seval, reduceCtorEq, List.append_eq, hd, hdt]) | ((first | refine Post.splitN (fun gg => ?_) (fun gg => ?_) | refine PostB.splitN (fun gg => ?_) (fun gg => ?_) | refine Post.split (fun gg => ?_) (fun gg => ?_) | refine PostB.split (fun gg => ?_) (fun gg => ?_)) <;> simp (maxSteps := 2000000) only [go_sem, seval, reduceCtorEq, List.append_eq, gg, hd, hdt]) | (refine finR (by simp only [go_sem, seval, reduceCtorEq, List.append_eq, hd, hdt]; exact rfl) ?_; simp only [go_sem, seval, reduceCtorEq, List.append_eq, hd, hdt]) | refine updL hM ?_ (by omega) | (with_reducible exact fun _ _ => rfl))
  all_goals (first | omega | (simp only [decide_eq_true_eq, decide_eq_false_iff_not] at *; omega) | (simp only [List.length_append, List.length_cons, List.length_nil] <;> omega) | exact one_bv _ | exact one_sv _ | skip)
  refine WC.loopA (fun q : Nat × Mem × Nat => ⟨[(14, .flat (.int .i64 q.1)), (13, .agg (iv (digs d.1))), (7, .sl true 1 (16 * q.1) (bv (endsN (signF s ix d) q.1))), (1, .flat (.int .i64 ix)), (0, .flat (.string (bs s)))], q.2.1, q.2.2⟩) (fun q => 35 - q.1) (fun q => q.1 ≤ 35 ∧ (∀ b, M b ≠ none → q.2.1 b = M b) ∧ mn + 1 ≤ q.2.2) (0, upd M mn (some (bv d.1)), mn + 1) ⟨by simp only; omega, updL hM (fun _ _ => rfl) (by omega), Nat.le_refl _⟩ (sbs (by simp (maxSteps := 2000000) only [go_sem, seval, reduceCtorEq, List.append_eq, endsN_0]) rfl rfl) ?_
  rintro ⟨i, m, n⟩ ⟨hi, hk, hn⟩
  simp only at hi hk hn ⊢
  by_cases h : i < 35
  · have f1 : ((i : Int) < 35) = True := eq_true (by omega)
    have g1 : (i < 35) = True := eq_true h
    have v1 := wi1 (n := i) (by omega)
    have hc : inR (i : Int) := by unfold inR; omega
    have h0 : inR (0 : Int) := by unfold inR; omega
    have hW := Walk_sp (secE s ix i) ⟨ix, i⟩ ⟨hix, hc⟩ 0 ((digs d.1).getD i 0) h0 (digs_inR d i h)
    have hkf : walkE (secE s ix i) ix i 0 ((digs d.1).getD i 0) = signF s ix d i := rfl
    have hA : bv (endsN (signF s ix d) i) ++ bv (signF s ix d i).1 = bv (endsN (signF s ix d) (i + 1)) := by rw [← bv_append]; rfl
    have hm16 : 16 * i + 16 = 16 * (i + 1) := by omega
    have hel := endsN_len (signF s ix d) i
    have hkl := (signF s ix d i).2
    have hkt : (bv (signF s ix d i).1).take 16 = bv (signF s ix d i).1 := tk16 _
    simp only at hW
    repeat' (first | (with_reducible first | refine pa ?_ | refine pb ?_ | refine pc ?_ | refine nxt_n ?_ | refine nxt_e ?_ | refine nxt_r ?_ | refine blk_n ?_ | refine blk_r ?_ | refine blk_hit ?_ | refine blk_miss (by rfl) ?_ | refine pd ?_ | refine pe ?_ | refine pf ?_ | refine pg ?_ | apply And.intro) | (refine hK _ ?_; first | clear hK K hn0 hcl hΘ Θ | clear hK K hΘ Θ) | (with_reducible first | refine cw1 ?_ | refine cw2 ?_ | exact cw3 | exact cw4) | ((with_reducible first | refine cw5 (fun gg => ?_) | refine cw6 (fun gg => ?_) | refine cw7 (fun gg => ?_)); try simp only [gg]) | refine cs1 hG rfl ?_ ?_ | refine cs2 hG rfl ?_ ?_ | ((fail_if_success (with_reducible first | show WC _ _ _ (.region 7 _ _) _ _ | show WC _ _ _ (.seq (.region 7 _ _) _) _ _)); (first | refine kf (fun M n => Secret_sp s hs ⟨ix, i⟩ ⟨hix, hc⟩ M n) rfl (by decide) (clW_le (by rfl)) hΘ hcl hn0 ?_ | refine kf (fun M n => hW M n) rfl (by decide) (clW_le (by rfl)) hΘ hcl hn0 ?_ | refine rga hG (by kernel_rfl) (fun Θ K hΘ hK => ?_) | refine rgb hG (by kernel_rfl) (fun Θ K hΘ hK => ?_) | refine rgc (clW [(1, 4), (3, 4)] defCl) hG (by kernel_rfl) (clW_le (by rfl)) (by rfl) (by kernel_rfl) (fun Θ K hΘ hcl hn0 hK => ?_) | refine rgd (clW [(1, 4), (3, 4)] defCl) hG (by kernel_rfl) (clW_le (by rfl)) (by rfl) (by kernel_rfl) (fun Θ K hΘ hcl hn0 hK => ?_)); simp (maxSteps := 2000000) only [go_sem, seval, reduceCtorEq, List.append_eq, f1, g1, v1, hkf, hdl]) | ((first | refine Post.splitN (fun gg => ?_) (fun gg => ?_) | refine PostB.splitN (fun gg => ?_) (fun gg => ?_) | refine Post.split (fun gg => ?_) (fun gg => ?_) | refine PostB.split (fun gg => ?_) (fun gg => ?_)) <;> simp (maxSteps := 2000000) only [go_sem, seval, reduceCtorEq, List.append_eq, gg, f1, g1, v1, hkf, hdl]) | (refine finR (by simp only [go_sem, seval, reduceCtorEq, List.append_eq, f1, g1, v1, hkf, hdl]; exact rfl) ?_; simp only [go_sem, seval, reduceCtorEq, List.append_eq, f1, g1, v1, hkf, hdl]) | refine updL hM ?_ (by omega) | (with_reducible exact fun _ _ => rfl))
    all_goals (first | omega | (simp only [decide_eq_true_eq, decide_eq_false_iff_not] at *; omega) | (simp only [List.length_append, List.length_cons, List.length_nil] <;> omega) | exact one_bv _ | exact one_sv _ | skip)
    repeat' (first | (with_reducible first | refine pa ?_ | refine pb ?_ | refine pc ?_ | refine nxt_n ?_ | refine nxt_e ?_ | refine nxt_r ?_ | refine blk_n ?_ | refine blk_r ?_ | refine blk_hit ?_ | refine blk_miss (by rfl) ?_ | refine pd ?_ | refine pe ?_ | refine pf ?_ | refine pg ?_ | apply And.intro) | (refine hK _ ?_; first | clear hK K hn0 hcl hΘ Θ | clear hK K hΘ Θ) | (with_reducible first | refine cw1 ?_ | refine cw2 ?_ | exact cw3 | exact cw4) | ((with_reducible first | refine cw5 (fun gg => ?_) | refine cw6 (fun gg => ?_) | refine cw7 (fun gg => ?_)); try simp only [gg]) | refine cs1 hG rfl ?_ ?_ | refine cs2 hG rfl ?_ ?_ | ((first | refine rga hG (by kernel_rfl) (fun Θ K hΘ hK => ?_) | refine rgb hG (by kernel_rfl) (fun Θ K hΘ hK => ?_) | refine rgc defCl hG (by kernel_rfl) cl0 (by rfl) (by kernel_rfl) (fun Θ K hΘ hcl hn0 hK => ?_) | refine rgd defCl hG (by kernel_rfl) cl0 (by rfl) (by kernel_rfl) (fun Θ K hΘ hcl hn0 hK => ?_)); simp (maxSteps := 2000000) only [go_sem, seval, reduceCtorEq, List.append_eq, hkt, hA, hm16, v1]) | ((first | refine Post.splitN (fun gg => ?_) (fun gg => ?_) | refine PostB.splitN (fun gg => ?_) (fun gg => ?_) | refine Post.split (fun gg => ?_) (fun gg => ?_) | refine PostB.split (fun gg => ?_) (fun gg => ?_)) <;> simp (maxSteps := 2000000) only [go_sem, seval, reduceCtorEq, List.append_eq, gg, hkt, hA, hm16, v1]) | (refine finR (by simp only [go_sem, seval, reduceCtorEq, List.append_eq, hkt, hA, hm16, v1]; exact rfl) ?_; simp only [go_sem, seval, reduceCtorEq, List.append_eq, hkt, hA, hm16, v1]) | refine updL hM ?_ (by omega) | (with_reducible exact fun _ _ => rfl))
    all_goals (first | omega | (simp only [decide_eq_true_eq, decide_eq_false_iff_not] at *; omega) | (simp only [List.length_append, List.length_cons, List.length_nil] <;> omega) | exact one_bv _ | exact one_sv _ | skip)
    exact ⟨(i + 1, upd (upd m n (some (Pl.c ⟨ix, i⟩))) (n + 1) (some (bv (signF s ix d i).1)), n + 1 + 1), ⟨by simp only; omega, updL (fun b hb => hM b (by omega)) (updL hM hk (by omega)) (by omega), by simp only; omega⟩, by simp only; omega, (sbs (by simp (maxSteps := 2000000) only [go_sem, seval, reduceCtorEq, List.append_eq]) rfl rfl)⟩
  · have f1 : ((i : Int) < 35) = False := eq_false (by omega)
    have e : i = 35 := by omega
    subst e
    have hse : endsN (signF s ix d) 35 = signE s ix d := rfl
    have hsl := signE_len s ix d
    repeat' (first | (with_reducible first | refine pa ?_ | refine pb ?_ | refine pc ?_ | refine nxt_n ?_ | refine nxt_e ?_ | refine nxt_r ?_ | refine blk_n ?_ | refine blk_r ?_ | refine blk_hit ?_ | refine blk_miss (by rfl) ?_ | refine pd ?_ | refine pe ?_ | refine pf ?_ | refine pg ?_ | apply And.intro) | (refine hK _ ?_; first | clear hK K hn0 hcl hΘ Θ | clear hK K hΘ Θ) | (with_reducible first | refine cw1 ?_ | refine cw2 ?_ | exact cw3 | exact cw4) | ((with_reducible first | refine cw5 (fun gg => ?_) | refine cw6 (fun gg => ?_) | refine cw7 (fun gg => ?_)); try simp only [gg]) | refine cs1 hG rfl ?_ ?_ | refine cs2 hG rfl ?_ ?_ | ((first | refine rga hG (by kernel_rfl) (fun Θ K hΘ hK => ?_) | refine rgb hG (by kernel_rfl) (fun Θ K hΘ hK => ?_) | refine rgc defCl hG (by kernel_rfl) cl0 (by rfl) (by kernel_rfl) (fun Θ K hΘ hcl hn0 hK => ?_) | refine rgd defCl hG (by kernel_rfl) cl0 (by rfl) (by kernel_rfl) (fun Θ K hΘ hcl hn0 hK => ?_)); simp (maxSteps := 2000000) only [go_sem, seval, reduceCtorEq, List.append_eq, f1, hse]) | ((first | refine Post.splitN (fun gg => ?_) (fun gg => ?_) | refine PostB.splitN (fun gg => ?_) (fun gg => ?_) | refine Post.split (fun gg => ?_) (fun gg => ?_) | refine PostB.split (fun gg => ?_) (fun gg => ?_)) <;> simp (maxSteps := 2000000) only [go_sem, seval, reduceCtorEq, List.append_eq, gg, f1, hse]) | (refine finR (by simp only [go_sem, seval, reduceCtorEq, List.append_eq, f1, hse]; exact rfl) ?_; simp only [go_sem, seval, reduceCtorEq, List.append_eq, f1, hse]) | refine updL hM ?_ (by omega) | (with_reducible exact fun _ _ => rfl))
    all_goals (first | omega | (simp only [decide_eq_true_eq, decide_eq_false_iff_not] at *; omega) | (simp only [List.length_append, List.length_cons, List.length_nil] <;> omega) | exact one_bv _ | exact one_sv _ | skip)
theorem Meet_sp (s : List UInt8) (hs : s.length = 560) (ix : Int) (hix : inR ix) (d : Id16) : Rt 68 [.flat (.string (bs s)), .flat (.int .i64 ix), .agg (bv d.1)] (.tup [.agg (bv (meetE s ix d).1), .flat (.int .i64 0)]) := by
  have hd := d.2
  have hdt : (bv d.1).take 16 = bv d.1 := tk16 d
  have hdl := digs_len d.1
  have f0 : ((s.length : Int) = 560) = True := eq_true (by omega)
  intro M mn
  refine fnL (C := kc 44 [37] []) (rs := [.cell 6 31, .tmp 7]) envOk Tryd.func68 (by kernel_rfl) rfl rfl rfl rfl rfl rfl (lowTup (lowC1 (lowAgg (FlatS.bv _)) (lowC1 (Low.flat _) lowC0))) ?_
  intro E hG hM
  repeat' (first | (with_reducible first | refine pa ?_ | refine pb ?_ | refine pc ?_ | refine nxt_n ?_ | refine nxt_e ?_ | refine nxt_r ?_ | refine blk_n ?_ | refine blk_r ?_ | refine blk_hit ?_ | refine blk_miss (by rfl) ?_ | refine pd ?_ | refine pe ?_ | refine pf ?_ | refine pg ?_ | apply And.intro) | (refine hK _ ?_; clear hK K hΘ Θ) | (with_reducible first | refine cw1 ?_ | refine cw2 ?_ | exact cw3 | exact cw4) | ((with_reducible first | refine cw5 (fun gg => ?_) | refine cw6 (fun gg => ?_) | refine cw7 (fun gg => ?_)); try simp only [gg]) | refine cs1 hG rfl ?_ ?_ | refine cs2 hG rfl ?_ ?_ | ((first | refine kg (Digits_sp d _ _) rfl hΘ ?_ | refine rga hG (by kernel_rfl) (fun Θ K hΘ hK => ?_) | refine rgb hG (by kernel_rfl) (fun Θ K hΘ hK => ?_)); simp (maxSteps := 2000000) only [go_sem, seval, reduceCtorEq, List.append_eq, hd, hdt, f0]) | ((first | refine Post.splitN (fun gg => ?_) (fun gg => ?_) | refine Post.split (fun gg => ?_) (fun gg => ?_)) <;> simp (maxSteps := 2000000) only [go_sem, seval, reduceCtorEq, List.append_eq, gg, hd, hdt, f0]) | (refine finR (by simp only [go_sem, seval, reduceCtorEq, List.append_eq, hd, hdt, f0]; exact rfl) ?_; simp only [go_sem, seval, reduceCtorEq, List.append_eq, hd, hdt, f0]) | refine updL hM ?_ (by omega) | (with_reducible exact fun _ _ => rfl))
  all_goals (first | omega | (simp only [decide_eq_true_eq, decide_eq_false_iff_not] at *; omega) | (simp only [List.length_append, List.length_cons, List.length_nil] <;> omega) | exact one_bv _ | exact one_sv _ | skip)
  refine WC.loopA (fun q : Nat × Mem × Nat => ⟨[(18, .flat (.int .i64 q.1)), (17, .agg (iv (digs d.1))), (8, .sl true 1 (16 * q.1) (bv (endsN (meetF s ix d) q.1))), (6, .bp (mn + 1) 0), (1, .flat (.int .i64 ix)), (0, .flat (.string (bs s)))], q.2.1, q.2.2⟩) (fun q => 35 - q.1) (fun q => q.1 ≤ 35 ∧ (∀ b, M b ≠ none → q.2.1 b = M b) ∧ q.2.1 (mn + 1) = some (bv z16.1) ∧ mn + 2 ≤ q.2.2) (0, upd (upd M mn (some (bv d.1))) (mn + 1) (some (bv z16.1)), mn + 2) ⟨by simp only; omega, updL (fun b hb => hM b (by omega)) (updL hM (fun _ _ => rfl) (by omega)) (by omega), upd_same _ _ _, Nat.le_refl _⟩ (sbs (by simp (maxSteps := 2000000) only [go_sem, seval, reduceCtorEq, List.append_eq, endsN_0]) rfl rfl) ?_
  rintro ⟨i, m, n⟩ ⟨hi, hk, h1, hn⟩
  simp only at hi hk h1 hn ⊢
  by_cases h : i < 35
  · have f1 : ((i : Int) < 35) = True := eq_true (by omega)
    have g1 : (i < 35) = True := eq_true h
    have v1 := wi1 (n := i) (by omega)
    have hc : inR (i : Int) := by unfold inR; omega
    have h15 : inR (15 : Int) := by unfold inR; omega
    have hW := Walk_sp (partE s i) ⟨ix, i⟩ ⟨hix, hc⟩ ((digs d.1).getD i 0) 15 (digs_inR d i h) h15
    have hkf : walkE (partE s i) ix i ((digs d.1).getD i 0) 15 = meetF s ix d i := rfl
    have hA : bv (endsN (meetF s ix d) i) ++ bv (meetF s ix d i).1 = bv (endsN (meetF s ix d) (i + 1)) := by rw [← bv_append]; rfl
    have hm16 : 16 * i + 16 = 16 * (i + 1) := by omega
    have hel := endsN_len (meetF s ix d) i
    have hkl := (meetF s ix d i).2
    have hpl := (partE s i).2
    have hpt : List.drop (16 * i) (List.take (16 * i + 16) s) = (partE s i).1 := by rw [List.drop_take, show 16 * i + 16 - 16 * i = 16 by omega]; exact partE_take s i (by omega)
    have hpk : (bv (partE s i).1).take 16 = bv (partE s i).1 := tk16 _
    have hkt : (bv (meetF s ix d i).1).take 16 = bv (meetF s ix d i).1 := tk16 _
    have v2 : IntKind.i64.wrap (16 * (i : Int)) = ((16 * i : Nat) : Int) := by rw [wi (by omega) (by omega)]; omega
    have v3 : IntKind.i64.wrap (((16 * i : Nat) : Int) + 16) = ((16 * i + 16 : Nat) : Int) := by rw [wi (by omega) (by omega)]; omega
    simp only at hW
    repeat' (first | (with_reducible first | refine pa ?_ | refine pb ?_ | refine pc ?_ | refine nxt_n ?_ | refine nxt_e ?_ | refine nxt_r ?_ | refine blk_n ?_ | refine blk_r ?_ | refine blk_hit ?_ | refine blk_miss (by rfl) ?_ | refine pd ?_ | refine pe ?_ | refine pf ?_ | refine pg ?_ | apply And.intro) | (refine hK _ ?_; clear hK K hΘ Θ) | (with_reducible first | refine cw1 ?_ | refine cw2 ?_ | exact cw3 | exact cw4) | ((with_reducible first | refine cw5 (fun gg => ?_) | refine cw6 (fun gg => ?_) | refine cw7 (fun gg => ?_)); try simp only [gg]) | refine cs1 hG rfl ?_ ?_ | refine cs2 hG rfl ?_ ?_ | ((fail_if_success (with_reducible first | show WC _ _ _ (.region 8 _ _) _ _ | show WC _ _ _ (.seq (.region 8 _ _) _) _ _)); (first | refine kg (hW _ _) rfl hΘ ?_ | refine rga hG (by kernel_rfl) (fun Θ K hΘ hK => ?_) | refine rgb hG (by kernel_rfl) (fun Θ K hΘ hK => ?_)); simp (maxSteps := 2000000) only [go_sem, seval, reduceCtorEq, List.append_eq, f1, g1, v1, v2, v3, hkf, hdl, hpt, hpl, hpk]) | ((first | refine Post.splitN (fun gg => ?_) (fun gg => ?_) | refine Post.split (fun gg => ?_) (fun gg => ?_)) <;> simp (maxSteps := 2000000) only [go_sem, seval, reduceCtorEq, List.append_eq, gg, f1, g1, v1, v2, v3, hkf, hdl, hpt, hpl, hpk]) | (refine finR (by simp only [go_sem, seval, reduceCtorEq, List.append_eq, f1, g1, v1, v2, v3, hkf, hdl, hpt, hpl, hpk]; exact rfl) ?_; simp only [go_sem, seval, reduceCtorEq, List.append_eq, f1, g1, v1, v2, v3, hkf, hdl, hpt, hpl, hpk]) | refine updL hM ?_ (by omega) | (with_reducible exact fun _ _ => rfl))
    all_goals (first | omega | (simp only [decide_eq_true_eq, decide_eq_false_iff_not] at *; omega) | (simp only [List.length_append, List.length_cons, List.length_nil] <;> omega) | exact one_bv _ | exact one_sv _ | skip)
    repeat' (first | (with_reducible first | refine pa ?_ | refine pb ?_ | refine pc ?_ | refine nxt_n ?_ | refine nxt_e ?_ | refine nxt_r ?_ | refine blk_n ?_ | refine blk_r ?_ | refine blk_hit ?_ | refine blk_miss (by rfl) ?_ | refine pd ?_ | refine pe ?_ | refine pf ?_ | refine pg ?_ | apply And.intro) | (refine hK _ ?_; clear hK K hΘ Θ) | (with_reducible first | refine cw1 ?_ | refine cw2 ?_ | exact cw3 | exact cw4) | ((with_reducible first | refine cw5 (fun gg => ?_) | refine cw6 (fun gg => ?_) | refine cw7 (fun gg => ?_)); try simp only [gg]) | refine cs1 hG rfl ?_ ?_ | refine cs2 hG rfl ?_ ?_ | ((first | refine rga hG (by kernel_rfl) (fun Θ K hΘ hK => ?_) | refine rgb hG (by kernel_rfl) (fun Θ K hΘ hK => ?_)); simp (maxSteps := 2000000) only [go_sem, seval, reduceCtorEq, List.append_eq, hkt, hA, hm16, v1]) | ((first | refine Post.splitN (fun gg => ?_) (fun gg => ?_) | refine Post.split (fun gg => ?_) (fun gg => ?_)) <;> simp (maxSteps := 2000000) only [go_sem, seval, reduceCtorEq, List.append_eq, gg, hkt, hA, hm16, v1]) | (refine finR (by simp only [go_sem, seval, reduceCtorEq, List.append_eq, hkt, hA, hm16, v1]; exact rfl) ?_; simp only [go_sem, seval, reduceCtorEq, List.append_eq, hkt, hA, hm16, v1]) | refine updL hM ?_ (by omega) | (with_reducible exact fun _ _ => rfl))
    all_goals (first | omega | (simp only [decide_eq_true_eq, decide_eq_false_iff_not] at *; omega) | (simp only [List.length_append, List.length_cons, List.length_nil] <;> omega) | exact one_bv _ | exact one_sv _ | skip)
    exact ⟨(i + 1, upd m n (some (bv (meetF s ix d i).1)), n + 1), ⟨by simp only; omega, updL hM hk (by omega), by simp only; rw [upd_ne _ _ (by omega)]; exact h1, by simp only; omega⟩, by simp only; omega, (sbs (by simp (maxSteps := 2000000) only [go_sem, seval, reduceCtorEq, List.append_eq]) rfl rfl)⟩
  · have f1 : ((i : Int) < 35) = False := eq_false (by omega)
    have e : i = 35 := by omega
    subst e
    have hel := endsN_len (meetF s ix d) 35
    have hlf := leaf_sp (endsN (meetF s ix d) 35) (by rw [hel]; omega) ix hix
    rw [hel] at hlf
    have hke : leafE (endsN (meetF s ix d) 35) ix = meetE s ix d := rfl
    rw [hke] at hlf
    repeat' (first | (with_reducible first | refine pa ?_ | refine pb ?_ | refine pc ?_ | refine nxt_n ?_ | refine nxt_e ?_ | refine nxt_r ?_ | refine blk_n ?_ | refine blk_r ?_ | refine blk_hit ?_ | refine blk_miss (by rfl) ?_ | refine pd ?_ | refine pe ?_ | refine pf ?_ | refine pg ?_ | apply And.intro) | (refine hK _ ?_; clear hK K hΘ Θ) | (with_reducible first | refine cw1 ?_ | refine cw2 ?_ | exact cw3 | exact cw4) | ((with_reducible first | refine cw5 (fun gg => ?_) | refine cw6 (fun gg => ?_) | refine cw7 (fun gg => ?_)); try simp only [gg]) | refine cs1 hG rfl ?_ ?_ | refine cs2 hG rfl ?_ ?_ | ((first | refine kg (hlf _ _) rfl hΘ ?_ | refine rga hG (by kernel_rfl) (fun Θ K hΘ hK => ?_) | refine rgb hG (by kernel_rfl) (fun Θ K hΘ hK => ?_)); simp (maxSteps := 2000000) only [go_sem, seval, reduceCtorEq, List.append_eq, f1, h1]) | ((first | refine Post.splitN (fun gg => ?_) (fun gg => ?_) | refine Post.split (fun gg => ?_) (fun gg => ?_)) <;> simp (maxSteps := 2000000) only [go_sem, seval, reduceCtorEq, List.append_eq, gg, f1, h1]) | (refine finR (by simp only [go_sem, seval, reduceCtorEq, List.append_eq, f1, h1]; exact rfl) ?_; simp only [go_sem, seval, reduceCtorEq, List.append_eq, f1, h1]) | refine updL hM ?_ (by omega) | (with_reducible exact fun _ _ => rfl))
    all_goals (first | omega | (simp only [decide_eq_true_eq, decide_eq_false_iff_not] at *; omega) | (simp only [List.length_append, List.length_cons, List.length_nil] <;> omega) | exact one_bv _ | exact one_sv _ | skip)
end Go.VL
