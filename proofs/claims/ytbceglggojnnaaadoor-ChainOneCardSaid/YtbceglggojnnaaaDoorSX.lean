/- Part SX of the proof: made for this claim. -/
import Derived.Test.YtbceglggojnnaaaDoorSG
set_option linter.unusedVariables false
set_option linter.unusedSimpArgs false
set_option maxRecDepth 100000
set_option maxHeartbeats 8000000
open Go.RowKit
namespace Go.VL
open Go.Proofs
theorem le_inj {n m : Nat} (h : le n = le m) : n = m := by rw [← val_le n, ← val_le m, h]
theorem numB_pre {n m : Nat} (hn : n < 9223372036854775808) (hm : m < 9223372036854775808) {r r' : List UInt8} (h : numB n ++ r = numB m ++ r') : n = m ∧ r = r' := by
  have h1 := le_length 8 n (by omega)
  have h2 := le_length 8 m (by omega)
  simp only [numB, List.cons_append, List.cons.injEq] at h
  obtain ⟨h3, h4⟩ := h
  have h5 : (le n).length = (le m).length := by
    have := congrArg UInt8.toNat h3
    simp at this
    omega
  obtain ⟨h6, h7⟩ := List.append_inj h4 (by simp [h5])
  exact ⟨le_inj (by have := congrArg List.reverse h6; simpa using this), h7⟩
theorem textB_pre {s s' r r' : List UInt8} (hn : s.length < 9223372036854775808) (hm : s'.length < 9223372036854775808) (h : textB s ++ r = textB s' ++ r') : s = s' ∧ r = r' := by
  simp only [textB, List.append_assoc] at h
  obtain ⟨h1, h2⟩ := numB_pre hn hm h
  exact List.append_inj h2 h1
theorem listTail_pre : ∀ {a b : List (List UInt8)} {r r' : List UInt8}, total a < 9223372036854775808 → total b < 9223372036854775808 → a.length = b.length → listTail a ++ r = listTail b ++ r' → a = b ∧ r = r'
  | [], [], r, r', _, _, _, h => ⟨rfl, by simpa [listTail] using h⟩
  | [], _ :: _, _, _, _, _, hl, _ => by simp at hl
  | _ :: _, [], _, _, _, _, hl, _ => by simp at hl
  | s :: a, s' :: b, r, r', ha, hb, hl, h => by
    have e1 : total (s :: a) = s.length + total a := by simp [total]
    have e2 : total (s' :: b) = s'.length + total b := by simp [total]
    simp only [listTail, List.append_assoc] at h
    obtain ⟨rfl, h1⟩ := textB_pre (by omega) (by omega) h
    obtain ⟨rfl, h2⟩ := listTail_pre (by omega) (by omega) (by simpa using hl) h1
    exact ⟨rfl, h2⟩
theorem listB_pre {a b : List (List UInt8)} {r r' : List UInt8} (ha : total a < 9223372036854775808) (hb : total b < 9223372036854775808) (la : a.length < 9223372036854775808) (lb : b.length < 9223372036854775808) (h : listB a ++ r = listB b ++ r') : a = b ∧ r = r' := by
  simp only [listB, List.append_assoc] at h
  obtain ⟨h1, h2⟩ := numB_pre la lb h
  exact listTail_pre ha hb h1 h2
theorem listB_inj {a b : List (List UInt8)} (ha : total a < 9223372036854775808) (hb : total b < 9223372036854775808) (la : a.length < 9223372036854775808) (lb : b.length < 9223372036854775808) : (listB a = listB b) ↔ (a = b) :=
  ⟨fun h => (listB_pre (r := []) (r' := []) ha hb la lb (by rw [h])).1, fun h => by rw [h]⟩
theorem rNum_numB (n : Nat) (hn : n < 9223372036854775808) (r : List UInt8) : rNum (numB n ++ r) false = (n, (r, false)) := by
  have h8 := le_length 8 n (by omega)
  have h1 : rTake 1 (numB n ++ r) false = ([UInt8.ofNat (le n).length], ((le n).reverse ++ r, false)) := by
    simp [rTake, numB]
  have h2 : rTake (le n).length ((le n).reverse ++ r) false = ((le n).reverse, (r, false)) := by
    have e : ¬ ((le n).reverse ++ r).length < (le n).length := by simp
    simp only [rTake, e, or_false, Bool.false_eq_true, if_false]
    rw [← List.length_reverse, List.take_left, List.drop_left]
  have h3 : (UInt8.ofNat (le n).length).toNat = (le n).length := by simp; omega
  simp only [rNum, h1]
  simp only [Bool.false_eq_true, if_false, List.getD_cons_zero, h3, h2, good_le n hn]
  rw [be_rev, val_le]
theorem rTake_app (s r : List UInt8) : rTake s.length (s ++ r) false = (s, (r, false)) := by
  have e : ¬ (s ++ r).length < s.length := by simp
  simp only [rTake, e, or_false, Bool.false_eq_true, if_false, List.take_left, List.drop_left]
theorem rText_textB (s : List UInt8) (hs : s.length < 9223372036854775808) (r : List UInt8) : rText (textB s ++ r) false = (s, (r, false)) := by
  simp only [rText, textB, List.append_assoc, rNum_numB s.length hs (s ++ r), rTake_app]
theorem rTexts_tail : ∀ (l : List (List UInt8)) (r : List UInt8), total l < 9223372036854775808 → rTexts l.length (listTail l ++ r) false = (l, (r, false))
  | [], r, _ => by simp [rTexts, listTail]
  | s :: l, r, h => by
    have h1 : total (s :: l) = s.length + total l := by simp [total]
    simp only [List.length_cons, rTexts, listTail, List.append_assoc, Bool.false_eq_true, if_false, rText_textB s (by omega), rTexts_tail l r (by omega)]
theorem rList_listB (l : List (List UInt8)) (r : List UInt8) (h : total l < 9223372036854775808) (hl : l.length ≤ 4096) : rList (listB l ++ r) false = (l, (r, false)) := by
  have h1 := rNum_numB l.length (by omega) (listTail l ++ r)
  rw [← List.append_assoc] at h1
  have h2 : rNum (listB l ++ r) false = (l.length, (listTail l ++ r, false)) := h1
  simp only [rList, rStart, h2, show ¬ 4096 < l.length by omega, if_false, rTexts_tail l r h]
  simp
theorem split_listB (l : List (List UInt8)) (h : total l < 9223372036854775808) (hl : l.length ≤ 4096) (hb : (listB l).length ≤ 262144) : sE (listB l) = 0 ∧ sR (listB l) = l := by
  have h1 := rList_listB l [] h hl
  rw [List.append_nil] at h1
  have h2 : sL (listB l) = (l, ([], false)) := by rw [sL_short hb, h1]
  have h3 : sE (listB l) = 0 := by unfold sE; rw [h2]; rfl
  refine ⟨h3, ?_⟩
  unfold sR
  rw [if_pos h3, h2]
theorem numB_inj {n m : Nat} (hn : n < 9223372036854775808) (hm : m < 9223372036854775808) (h : numB n = numB m) : n = m :=
  (numB_pre (r := []) (r' := []) hn hm (by rw [h])).1
theorem Dr.good_k {d : Dr} (h : d.good = true) : 1 ≤ d.k := by
  have := Dr.good_of_bad (d := d)
  cases hb : d.bad2 with
  | true => rw [this hb] at h; cases h
  | false =>
    simp only [Dr.bad2, Bool.or_eq_false_iff, decide_eq_false_iff_not] at hb
    omega
theorem rdDr_of {s a b c : List UInt8} {x : Id32} (h0 : sE s = 0) (h : sR s = [a, b, c, x.1]) : rdDr s = (⟨wholeN a, b, c, x⟩, wholeOk a) := by
  unfold rdDr
  rw [dif_pos ⟨h0, by rw [h]; rfl, by rw [h]; exact x.2⟩]
  simp only [h]
  rfl
theorem wholeN_numB (n : Nat) (hn : n < 9223372036854775808) : wholeN (numB n) = n ∧ wholeOk (numB n) = true := by
  have h1 := numB_length n hn
  have hb : isBig (numB n) = false := by unfold isBig; simp; omega
  have h2 := rNum_numB n hn []
  rw [List.append_nil] at h2
  unfold wholeN wholeOk
  rw [hb, h2]
  exact ⟨rfl, rfl⟩
theorem rdDr_text {d : Dr} (hd : d.ok) (hk : 0 ≤ d.k) (l1 : d.key.length ≤ 1000) (l2 : d.val.length ≤ 1000) : rdDr d.text = (d, true) := by
  have k1 := hd.1.2
  have h1 := numB_length d.k.toNat (by omega)
  have ht : total d.parts = (numB d.k.toNat).length + d.key.length + d.val.length + 32 := by simp [total, Dr.parts, d.ref.2]; omega
  have hb := listB_le d.parts (by omega) (by simp [Dr.parts])
  rw [show d.parts.length = 4 from rfl] at hb
  obtain ⟨h3, h4⟩ := split_listB d.parts (by omega) (by simp [Dr.parts]) (by omega)
  have := rdDr_of (s := d.text) (a := numB d.k.toNat) (b := d.key) (c := d.val) (x := d.ref) h3 h4
  rw [this]
  obtain ⟨w1, w2⟩ := wholeN_numB d.k.toNat (by omega)
  rw [w1, w2, show ((d.k.toNat : Nat) : Int) = d.k by omega]
theorem rdDrG_text {d : Dr} (hd : d.ok) (hg : d.good = true) : rdDr d.text = (d, true) ∧ rdDrG d.text = (d, 0) := by
  have h1 := Dr.good_le hg
  have h2 := Dr.good_k hg
  have h3 := rdDr_text hd (by omega) (by omega) (by omega)
  refine ⟨h3, ?_⟩
  unfold rdDrG
  rw [h3, if_pos ⟨rfl, hg⟩]
theorem numT_numB (n : Int) (h0 : 0 ≤ n) (hn : n < 9223372036854775808) : numT (numB n.toNat) = n := by
  obtain ⟨w1, w2⟩ := wholeN_numB n.toNat (by omega)
  unfold numT
  rw [if_pos w2, w1]
  omega
theorem shE_parts {e : Ent} (he : e.ok) (h : e.good = true) : shE e.parts = (e, true) := by
  obtain ⟨i1, i2, i3, i4, i5, i6, i7⟩ := id he
  have hmk : ∀ n : Int, inR n → n < 9223372036854775808 := fun n hn => by have := hn.2; omega
  rcases Ent.kinds h with hk | hk | hk
  · have hp : e.parts = [numB e.kind.toNat, e.d.text] := by unfold Ent.parts; rw [if_pos hk]
    have hg := h
    rw [Ent.good1 hk, Bool.and_eq_true, decide_eq_true_eq] at hg
    have hn := numT_numB e.kind (by omega) (hmk _ i1)
    have hd := (rdDrG_text i2 hg.1).2
    unfold shE
    rw [if_pos (by rw [hp]; exact ⟨by simp only [List.getD_cons_zero]; rw [hn, hk], rfl⟩), hp]
    simp only [List.getD_cons_succ, List.getD_cons_zero, hd, decide_true]
    rw [hg.2]; rfl
  · have hp : e.parts = [numB e.kind.toNat, numB e.from_.toNat, numB e.seq.toNat, e.prev.1, numB e.mask.toNat, e.pay, e.sig] := by unfold Ent.parts; rw [if_neg (by omega), if_pos hk]
    have hg := h
    rw [Ent.good2 hk] at hg
    simp only [Bool.and_eq_true, decide_eq_true_eq] at hg
    obtain ⟨⟨⟨⟨⟨q1, q2⟩, q3⟩, q4⟩, q5⟩, q6⟩ := hg
    have hm := Ent.out_ge q1
    have n1 := numT_numB e.kind (by omega) (hmk _ i1)
    have n2 := numT_numB e.from_ (by omega) (hmk _ i3)
    have n3 := numT_numB e.seq (by omega) (hmk _ i4)
    have n5 := numT_numB e.mask (by omega) (hmk _ i5)
    have hE : ({ entK 2 with from_ := e.from_, seq := e.seq, prev := e.prev, mask := e.mask, pay := e.pay, sig := e.sig } : Ent) = e := by
      show ({ kind := 2, d := dr0, from_ := e.from_, seq := e.seq, prev := e.prev, mask := e.mask, pay := e.pay, sig := e.sig } : Ent) = e
      rw [← q2, ← hk]
    unfold shE
    rw [if_neg (by rw [hp]; simp)]
    have hc : numT (e.parts.getD 0 []) = 2 ∧ e.parts.length = 7 ∧ (e.parts.getD 3 []).length = 32 := by
      rw [hp]; exact ⟨by simp only [List.getD_cons_zero]; rw [n1, hk], rfl, e.prev.2⟩
    rw [dif_pos hc]
    have hE2 : ({ entK 2 with from_ := numT (e.parts.getD 1 []), seq := numT (e.parts.getD 2 []), prev := ⟨e.parts.getD 3 [], hc.2.2⟩, mask := numT (e.parts.getD 4 []), pay := e.parts.getD 5 [], sig := e.parts.getD 6 [] } : Ent) = e := by
      refine Eq.trans ?_ hE
      simp only [hp, List.getD_cons_succ, List.getD_cons_zero, n2, n3, n5]
    rw [hE2, h]
  · have hp : e.parts = [numB e.kind.toNat, numB e.mask.toNat, e.pay] := by unfold Ent.parts; rw [if_neg (by omega), if_neg (by omega)]
    have hg := h
    rw [Ent.good3 hk] at hg
    simp only [Bool.and_eq_true, decide_eq_true_eq] at hg
    have hm := Ent.out_ge hg.1
    have n1 := numT_numB e.kind (by omega) (hmk _ i1)
    have n5 := numT_numB e.mask (by omega) (hmk _ i5)
    have hE : ({ entK 3 with mask := e.mask, pay := e.pay } : Ent) = e := hg.2.symm
    unfold shE
    rw [if_neg (by rw [hp]; simp), dif_neg (by rw [hp]; simp), if_pos (by rw [hp]; exact ⟨by simp only [List.getD_cons_zero]; rw [n1, hk], rfl⟩)]
    rw [hp]
    simp only [List.getD_cons_succ, List.getD_cons_zero, n5, hE, h]
theorem parts_ne {e : Ent} : e.parts.length ≠ 0 := by
  unfold Ent.parts
  split
  · simp
  · split <;> simp
theorem rdE_text {e : Ent} (he : e.ok) (h : e.good = true) : rdE e.text = (e, true) := by
  obtain ⟨t1, t2⟩ := Ent.total_le he h
  have ht : e.text = listB e.parts := if_pos h
  have hl := Ent.text_le he
  rw [ht] at hl
  obtain ⟨s1, s2⟩ := split_listB e.parts (by omega) (by omega) (by omega)
  unfold rdE
  rw [ht, s2, shE_parts he h, if_pos ⟨s1, parts_ne, rfl⟩]
theorem takeE_succ {l : List Ent} {i : Nat} (h : i < l.length) : l.take (i + 1) = l.take i ++ [l.getD i ent0] := take_snoc l i ent0 h
theorem R15Same_sp (a b : List Ent) (ka : ∀ e ∈ a, e.ok) (kb : ∀ e ∈ b, e.ok) (ha : a.length ≤ 140737488355328) (hb : b.length ≤ 140737488355328) : Rt 32 [.sl false 73 a.length (Ent.lC a), .sl false 73 b.length (Ent.lC b)] (.flat (.bool (decide (a = b)))) := by
  by_cases hl : a.length = b.length
  · have f0 : ((a.length : Int) = (b.length : Int)) = True := eq_true (by omega)
    intro M mn
    refine fnL (C := kc 26 [] []) (rs := [.tmp 4]) envOk Tryd.func32 (by kernel_rfl) rfl rfl rfl rfl rfl rfl (Low.flat _) ?_
    intro E hG hM
    repeat' (first | (with_reducible first | refine pa ?_ | refine pb ?_ | refine pc ?_ | refine nxt_n ?_ | refine nxt_e ?_ | refine nxt_r ?_ | refine blk_n ?_ | refine blk_r ?_ | refine blk_hit ?_ | refine blk_miss (by rfl) ?_ | refine pd ?_ | refine pe ?_ | refine pf ?_ | refine pg ?_ | apply And.intro) | (refine hK _ ?_; first | clear hK K hn0 hcl hΘ Θ | clear hK K hΘ Θ) | (with_reducible first | refine cw1 ?_ | refine cw2 ?_ | exact cw3 | exact cw4) | ((with_reducible first | refine cw5 (fun gg => ?_) | refine cw6 (fun gg => ?_) | refine cw7 (fun gg => ?_)); try simp only [gg]) | refine cs1 hG rfl ?_ ?_ | refine cs2 hG rfl ?_ ?_ | ((first | refine rga hG (by kernel_rfl) (fun Θ K hΘ hK => ?_) | refine rgb hG (by kernel_rfl) (fun Θ K hΘ hK => ?_) | refine rgc defCl hG (by kernel_rfl) cl0 (by rfl) (by kernel_rfl) (fun Θ K hΘ hcl hn0 hK => ?_) | refine rgd defCl hG (by kernel_rfl) cl0 (by rfl) (by kernel_rfl) (fun Θ K hΘ hcl hn0 hK => ?_)); simp (maxSteps := 2000000) only [go_sem, seval, reduceCtorEq, f0]) | ((first | refine Post.splitN (fun gg => ?_) (fun gg => ?_) | refine PostB.splitN (fun gg => ?_) (fun gg => ?_) | refine Post.split (fun gg => ?_) (fun gg => ?_) | refine PostB.split (fun gg => ?_) (fun gg => ?_)) <;> simp (maxSteps := 2000000) only [go_sem, seval, reduceCtorEq, gg, f0]) | (refine finR (by simp only [go_sem, seval, reduceCtorEq, f0]; exact rfl) ?_; simp only [go_sem, seval, reduceCtorEq, f0]) | refine updL hM ?_ (by omega) | (with_reducible exact fun _ _ => rfl))
    all_goals (first | omega | (simp only [decide_eq_true_eq, decide_eq_false_iff_not] at *; omega) | (simp only [List.length_append, List.length_cons, List.length_nil] <;> omega) | exact one_bv _ | exact one_sv _ | skip)
    refine WC.loopA (fun i : Nat => ⟨[(13, .flat (.int .i64 i)), (12, .flat (.int .i64 a.length)), (1, .sl false 73 b.length (Ent.lC b)), (0, .sl false 73 a.length (Ent.lC a))], M, mn⟩) (fun i => a.length - i) (fun i => i ≤ a.length ∧ a.take i = b.take i) 0 ⟨by omega, by simp⟩ (sbs (by simp (maxSteps := 2000000) only [go_sem, seval, reduceCtorEq, List.append_eq]) rfl rfl) ?_
    rintro i ⟨hi, ht⟩
    by_cases h : i < a.length
    · have f1 : ((i : Int) < (a.length : Int)) = True := eq_true (by omega)
      have g1 : (i < a.length) = True := eq_true h
      have g2 : (i < b.length) = True := eq_true (by omega)
      have v1 := wi1 (n := i) (by omega)
      have oa : (a.getD i ent0).ok := ka _ (by rw [List.getD_eq_getElem?_getD, List.getElem?_eq_getElem h]; exact List.getElem_mem _)
      have ob : (b.getD i ent0).ok := kb _ (by rw [List.getD_eq_getElem?_getD, List.getElem?_eq_getElem (by omega)]; exact List.getElem_mem _)
      have fa := Ent.fit _ oa
      have fb := Ent.fit _ ob
      have ga := Ent.l_get a ent0 i h
      have gb := Ent.l_get b ent0 i (by omega)
      have la := Ent.l_len a
      have lb := Ent.l_len b
      have g3 : (i * 73 + 73 ≤ a.length * 73) = True := eq_true (by omega)
      have g4 : (i * 73 + 73 ≤ b.length * 73) = True := eq_true (by omega)
      by_cases he : a.getD i ent0 = b.getD i ent0
      · have f2 : (a.getD i ent0 = b.getD i ent0) = True := eq_true he
        repeat' (first | (with_reducible first | refine pa ?_ | refine pb ?_ | refine pc ?_ | refine nxt_n ?_ | refine nxt_e ?_ | refine nxt_r ?_ | refine blk_n ?_ | refine blk_r ?_ | refine blk_hit ?_ | refine blk_miss (by rfl) ?_ | refine pd ?_ | refine pe ?_ | refine pf ?_ | refine pg ?_ | apply And.intro) | (refine hK _ ?_; first | clear hK K hn0 hcl hΘ Θ | clear hK K hΘ Θ) | (with_reducible first | refine cw1 ?_ | refine cw2 ?_ | exact cw3 | exact cw4) | ((with_reducible first | refine cw5 (fun gg => ?_) | refine cw6 (fun gg => ?_) | refine cw7 (fun gg => ?_)); try simp only [gg]) | refine cs1 hG rfl ?_ ?_ | refine cs2 hG rfl ?_ ?_ | ((first | refine rga hG (by kernel_rfl) (fun Θ K hΘ hK => ?_) | refine rgb hG (by kernel_rfl) (fun Θ K hΘ hK => ?_) | refine rgc (clW [(3, 0), (7, 0)] defCl) hG (by kernel_rfl) (clW_le (by rfl)) (by rfl) (by kernel_rfl) (fun Θ K hΘ hcl hn0 hK => ?_) | refine rgd (clW [(3, 0), (7, 0)] defCl) hG (by kernel_rfl) (clW_le (by rfl)) (by rfl) (by kernel_rfl) (fun Θ K hΘ hcl hn0 hK => ?_)); simp (maxSteps := 2000000) only [go_sem, seval, reduceCtorEq, f1, g1, g2, v1, ga, gb, la, lb, g3, g4, f2]) | ((first | refine Post.splitN (fun gg => ?_) (fun gg => ?_) | refine PostB.splitN (fun gg => ?_) (fun gg => ?_) | refine Post.split (fun gg => ?_) (fun gg => ?_) | refine PostB.split (fun gg => ?_) (fun gg => ?_)) <;> simp (maxSteps := 2000000) only [go_sem, seval, reduceCtorEq, gg, f1, g1, g2, v1, ga, gb, la, lb, g3, g4, f2]) | (refine finR (by simp only [go_sem, seval, reduceCtorEq, f1, g1, g2, v1, ga, gb, la, lb, g3, g4, f2]; exact rfl) ?_; simp only [go_sem, seval, reduceCtorEq, f1, g1, g2, v1, ga, gb, la, lb, g3, g4, f2]) | refine updL hM ?_ (by omega) | (with_reducible exact fun _ _ => rfl))
        all_goals (first | omega | (simp only [decide_eq_true_eq, decide_eq_false_iff_not] at *; omega) | (simp only [List.length_append, List.length_cons, List.length_nil] <;> omega) | exact one_bv _ | exact one_sv _ | skip)
        any_goals (first | exact fa | exact fb)
        exact ⟨i + 1, ⟨by omega, by rw [takeE_succ h, takeE_succ (by omega), ht, he]⟩, by omega, (sbs (by simp (maxSteps := 2000000) only [go_sem, seval, reduceCtorEq, List.append_eq]) rfl rfl)⟩
      · have f2 : (a.getD i ent0 = b.getD i ent0) = False := eq_false he
        have hne : decide (a = b) = false := decide_eq_false fun e => he (by rw [e])
        rw [hne]
        repeat' (first | (with_reducible first | refine pa ?_ | refine pb ?_ | refine pc ?_ | refine nxt_n ?_ | refine nxt_e ?_ | refine nxt_r ?_ | refine blk_n ?_ | refine blk_r ?_ | refine blk_hit ?_ | refine blk_miss (by rfl) ?_ | refine pd ?_ | refine pe ?_ | refine pf ?_ | refine pg ?_ | apply And.intro) | (refine hK _ ?_; first | clear hK K hn0 hcl hΘ Θ | clear hK K hΘ Θ) | (with_reducible first | refine cw1 ?_ | refine cw2 ?_ | exact cw3 | exact cw4) | ((with_reducible first | refine cw5 (fun gg => ?_) | refine cw6 (fun gg => ?_) | refine cw7 (fun gg => ?_)); try simp only [gg]) | refine cs1 hG rfl ?_ ?_ | refine cs2 hG rfl ?_ ?_ | ((first | refine rga hG (by kernel_rfl) (fun Θ K hΘ hK => ?_) | refine rgb hG (by kernel_rfl) (fun Θ K hΘ hK => ?_) | refine rgc (clW [(3, 0), (7, 0)] defCl) hG (by kernel_rfl) (clW_le (by rfl)) (by rfl) (by kernel_rfl) (fun Θ K hΘ hcl hn0 hK => ?_) | refine rgd (clW [(3, 0), (7, 0)] defCl) hG (by kernel_rfl) (clW_le (by rfl)) (by rfl) (by kernel_rfl) (fun Θ K hΘ hcl hn0 hK => ?_)); simp (maxSteps := 2000000) only [go_sem, seval, reduceCtorEq, f1, g1, g2, v1, ga, gb, la, lb, g3, g4, f2]) | ((first | refine Post.splitN (fun gg => ?_) (fun gg => ?_) | refine PostB.splitN (fun gg => ?_) (fun gg => ?_) | refine Post.split (fun gg => ?_) (fun gg => ?_) | refine PostB.split (fun gg => ?_) (fun gg => ?_)) <;> simp (maxSteps := 2000000) only [go_sem, seval, reduceCtorEq, gg, f1, g1, g2, v1, ga, gb, la, lb, g3, g4, f2]) | (refine finR (by simp only [go_sem, seval, reduceCtorEq, f1, g1, g2, v1, ga, gb, la, lb, g3, g4, f2]; exact rfl) ?_; simp only [go_sem, seval, reduceCtorEq, f1, g1, g2, v1, ga, gb, la, lb, g3, g4, f2]) | refine updL hM ?_ (by omega) | (with_reducible exact fun _ _ => rfl))
        all_goals (first | omega | (simp only [decide_eq_true_eq, decide_eq_false_iff_not] at *; omega) | (simp only [List.length_append, List.length_cons, List.length_nil] <;> omega) | exact one_bv _ | exact one_sv _ | skip)
        any_goals (first | exact fa | exact fb)
    · have f1 : ((i : Int) < (a.length : Int)) = False := eq_false (by omega)
      rw [List.take_of_length_le (by omega), List.take_of_length_le (by omega)] at ht
      rw [decide_eq_true ht]
      repeat' (first | (with_reducible first | refine pa ?_ | refine pb ?_ | refine pc ?_ | refine nxt_n ?_ | refine nxt_e ?_ | refine nxt_r ?_ | refine blk_n ?_ | refine blk_r ?_ | refine blk_hit ?_ | refine blk_miss (by rfl) ?_ | refine pd ?_ | refine pe ?_ | refine pf ?_ | refine pg ?_ | apply And.intro) | (refine hK _ ?_; first | clear hK K hn0 hcl hΘ Θ | clear hK K hΘ Θ) | (with_reducible first | refine cw1 ?_ | refine cw2 ?_ | exact cw3 | exact cw4) | ((with_reducible first | refine cw5 (fun gg => ?_) | refine cw6 (fun gg => ?_) | refine cw7 (fun gg => ?_)); try simp only [gg]) | refine cs1 hG rfl ?_ ?_ | refine cs2 hG rfl ?_ ?_ | ((first | refine rga hG (by kernel_rfl) (fun Θ K hΘ hK => ?_) | refine rgb hG (by kernel_rfl) (fun Θ K hΘ hK => ?_) | refine rgc defCl hG (by kernel_rfl) cl0 (by rfl) (by kernel_rfl) (fun Θ K hΘ hcl hn0 hK => ?_) | refine rgd defCl hG (by kernel_rfl) cl0 (by rfl) (by kernel_rfl) (fun Θ K hΘ hcl hn0 hK => ?_)); simp (maxSteps := 2000000) only [go_sem, seval, reduceCtorEq, f1]) | ((first | refine Post.splitN (fun gg => ?_) (fun gg => ?_) | refine PostB.splitN (fun gg => ?_) (fun gg => ?_) | refine Post.split (fun gg => ?_) (fun gg => ?_) | refine PostB.split (fun gg => ?_) (fun gg => ?_)) <;> simp (maxSteps := 2000000) only [go_sem, seval, reduceCtorEq, gg, f1]) | (refine finR (by simp only [go_sem, seval, reduceCtorEq, f1]; exact rfl) ?_; simp only [go_sem, seval, reduceCtorEq, f1]) | refine updL hM ?_ (by omega) | (with_reducible exact fun _ _ => rfl))
      all_goals (first | omega | (simp only [decide_eq_true_eq, decide_eq_false_iff_not] at *; omega) | (simp only [List.length_append, List.length_cons, List.length_nil] <;> omega) | exact one_bv _ | exact one_sv _ | skip)
  · have f0 : ((a.length : Int) = (b.length : Int)) = False := eq_false (by omega)
    have hne : decide (a = b) = false := decide_eq_false fun e => hl (by rw [e])
    rw [hne]
    intro M mn
    refine fnL (C := kc 26 [] []) (rs := [.tmp 4]) envOk Tryd.func32 (by kernel_rfl) rfl rfl rfl rfl rfl rfl (Low.flat _) ?_
    intro E hG hM
    repeat' (first | (with_reducible first | refine pa ?_ | refine pb ?_ | refine pc ?_ | refine nxt_n ?_ | refine nxt_e ?_ | refine nxt_r ?_ | refine blk_n ?_ | refine blk_r ?_ | refine blk_hit ?_ | refine blk_miss (by rfl) ?_ | refine pd ?_ | refine pe ?_ | refine pf ?_ | refine pg ?_ | apply And.intro) | (refine hK _ ?_; first | clear hK K hn0 hcl hΘ Θ | clear hK K hΘ Θ) | (with_reducible first | refine cw1 ?_ | refine cw2 ?_ | exact cw3 | exact cw4) | ((with_reducible first | refine cw5 (fun gg => ?_) | refine cw6 (fun gg => ?_) | refine cw7 (fun gg => ?_)); try simp only [gg]) | refine cs1 hG rfl ?_ ?_ | refine cs2 hG rfl ?_ ?_ | ((first | refine rga hG (by kernel_rfl) (fun Θ K hΘ hK => ?_) | refine rgb hG (by kernel_rfl) (fun Θ K hΘ hK => ?_) | refine rgc defCl hG (by kernel_rfl) cl0 (by rfl) (by kernel_rfl) (fun Θ K hΘ hcl hn0 hK => ?_) | refine rgd defCl hG (by kernel_rfl) cl0 (by rfl) (by kernel_rfl) (fun Θ K hΘ hcl hn0 hK => ?_)); simp (maxSteps := 2000000) only [go_sem, seval, reduceCtorEq, f0]) | ((first | refine Post.splitN (fun gg => ?_) (fun gg => ?_) | refine PostB.splitN (fun gg => ?_) (fun gg => ?_) | refine Post.split (fun gg => ?_) (fun gg => ?_) | refine PostB.split (fun gg => ?_) (fun gg => ?_)) <;> simp (maxSteps := 2000000) only [go_sem, seval, reduceCtorEq, gg, f0]) | (refine finR (by simp only [go_sem, seval, reduceCtorEq, f0]; exact rfl) ?_; simp only [go_sem, seval, reduceCtorEq, f0]) | refine updL hM ?_ (by omega) | (with_reducible exact fun _ _ => rfl))
    all_goals (first | omega | (simp only [decide_eq_true_eq, decide_eq_false_iff_not] at *; omega) | (simp only [List.length_append, List.length_cons, List.length_nil] <;> omega) | exact one_bv _ | exact one_sv _ | skip)
end Go.VL
set_option linter.unusedVariables false
set_option linter.unusedSimpArgs false
set_option maxRecDepth 100000
set_option maxHeartbeats 4000000
open Go.RowKit
namespace Go.VL
def ltE (p : Id32) (q : Int) (e : Ent) : List UInt8 := listB ([108, 105, 110, 107] :: linkP p q e)
def txL (p : Id32) (q : Int) : List Ent → List (List UInt8)
  | [] => []
  | e :: l => ltE p q e :: txL (linkE p q e) (q + 1) l
theorem txL_len : ∀ (l : List Ent) (p : Id32) (q : Int), (txL p q l).length = l.length
  | [], _, _ => rfl
  | e :: l, p, q => by simp [txL, txL_len l]
theorem txL_app : ∀ (a b : List Ent) (p : Id32) (q : Int), txL p q (a ++ b) = txL p q a ++ txL (lastL p q a) (q + a.length) b
  | [], b, p, q => by simp [txL, lastL_nil]
  | e :: a, b, p, q => by
    rw [List.cons_append, txL, txL, txL_app a b, lastL_cons, List.cons_append, List.length_cons, show q + 1 + (a.length : Int) = q + ((a.length + 1 : Nat) : Int) by omega]
theorem txL_take (l : List Ent) (p : Id32) (q : Int) (i : Nat) (d : Ent) (h : i < l.length) : txL p q (l.take (i + 1)) = txL p q (l.take i) ++ [ltE (lastL p q (l.take i)) (q + i) (l.getD i d)] := by
  rw [take_snoc l i d h, txL_app, txL, txL, List.length_take, Nat.min_eq_left (by omega)]
theorem txL_get (l : List Ent) (p : Id32) (q : Int) (i : Nat) (h : i < l.length) : (txL p q l).getD i [] = ltE (lastL p q (l.take i)) (q + i) (l.getD i ent0) := by
  have h1 := txL_take l p q i ent0 h
  have h2 : txL p q l = txL p q (l.take (i + 1)) ++ txL (lastL p q (l.take (i + 1))) (q + ((l.take (i + 1)).length : Int)) (l.drop (i + 1)) := by
    rw [← txL_app, List.take_append_drop]
  rw [h2, h1, List.getD_eq_getElem?_getD, List.getElem?_append_left (by simp [txL_len]; omega), List.getElem?_append_right (by rw [txL_len, List.length_take]; exact Nat.min_le_left _ _)]
  simp [txL_len, Nat.min_eq_left (show i ≤ l.length by omega)]
theorem lt_inj {p q : Id32} {i k : Int} {e f : Ent} (hi : inR i) (hk : inR k) (i0 : 0 ≤ i) (k0 : 0 ≤ k) (he : e.ok) (hf : f.ok) (ge : e.good = true) (gf : f.good = true) (h : ltE p i e = ltE q k f) : p = q ∧ i = k ∧ e = f := by
  have t1 := link_tot p i hi he
  have t2 := link_tot q k hk hf
  have u1 := hi.2; have u2 := hk.2
  have a1 := total_cons [108, 105, 110, 107] (linkP p i e)
  have a2 := total_cons [108, 105, 110, 107] (linkP q k f)
  simp only [List.length_cons, List.length_nil] at a1 a2
  unfold ltE at h
  rw [listB_inj (by omega) (by omega) (by simp [linkP]) (by simp [linkP])] at h
  simp only [linkP, List.cons.injEq, and_true, true_and] at h
  obtain ⟨x, y, z⟩ := h
  have y := numB_inj (by omega) (by omega) y
  have e1 := rdE_text he ge
  have f1 := rdE_text hf gf
  rw [z, f1] at e1
  exact ⟨Subtype.ext x, by omega, (Prod.mk.inj e1).1.symm⟩
def cl2 (t : List (List UInt8)) (x y : Nat) : Bool := !decide (t.getD x [] = t.getD y []) && decide (sha (t.getD x []) = sha (t.getD y []))
def clB (t : List (List UInt8)) : Bool := (List.range t.length).any fun x => (List.range x).any fun y => cl2 t x y
theorem clB_iff (t : List (List UInt8)) : clB t = true ↔ ∃ x y, x < t.length ∧ y < x ∧ cl2 t x y = true := by
  simp only [clB, List.any_eq_true, List.mem_range]
  constructor
  · rintro ⟨x, hx, y, hy, h⟩; exact ⟨x, y, hx, hy, h⟩
  · rintro ⟨x, y, hx, hy, h⟩; exact ⟨x, hx, y, hy, h⟩
theorem one_law (p q : Id32) (i k : Int) (a b : List Ent) (hl : a.length = b.length) (h0 : 0 < a.length) (hn : a.length ≤ 12) (i0 : 1 ≤ i) (k0 : 1 ≤ k) (i1 : i ≤ 1152921504606846976) (k1 : k ≤ 1152921504606846976) (ha : ∀ e ∈ a, e.ok) (hb : ∀ e ∈ b, e.ok) (ga : ∀ e ∈ a, e.good = true) (gb : ∀ e ∈ b, e.good = true)
    (h : lastL p i a = lastL q k b) : (p = q ∧ i = k ∧ a = b) ∨ clB (txL p i a ++ txL q k b) = true := by
  have key : ∀ n, n ≤ a.length → lastL p i (a.take n) = lastL q k (b.take n) → (∃ j, j < n ∧ cl2 (txL p i a ++ txL q k b) (a.length + j) j = true) ∨ (p = q ∧ (0 < n → i = k) ∧ a.take n = b.take n) := by
    intro n
    induction n with
    | zero => intro _ h; exact .inr ⟨by simpa [lastL_nil] using h, fun k => absurd k (by omega), rfl⟩
    | succ n ih =>
      intro hn2 h
      have na : n < a.length := by omega
      have nb : n < b.length := by omega
      have ma : a.getD n ent0 ∈ a := by rw [List.getD_eq_getElem?_getD, List.getElem?_eq_getElem na]; exact List.getElem_mem _
      have mb : b.getD n ent0 ∈ b := by rw [List.getD_eq_getElem?_getD, List.getElem?_eq_getElem nb]; exact List.getElem_mem _
      have h' := h
      rw [lastL_take a p i n ent0 na, lastL_take b q k n ent0 nb] at h'
      have ta := txL_get a p i n na
      have tb := txL_get b q k n nb
      by_cases e : ltE (lastL p i (a.take n)) (i + n) (a.getD n ent0) = ltE (lastL q k (b.take n)) (k + n) (b.getD n ent0)
      · obtain ⟨e1, e2, e3⟩ := lt_inj (by unfold inR; omega) (by unfold inR; omega) (by omega) (by omega) (ha _ ma) (hb _ mb) (ga _ ma) (gb _ mb) e
        rcases ih (by omega) e1 with ⟨j, hj, hc⟩ | ⟨r1, r2, r3⟩
        · exact .inl ⟨j, by omega, hc⟩
        · exact .inr ⟨r1, fun _ => by omega, by rw [take_snoc a n ent0 na, take_snoc b n ent0 nb, r3, e3]⟩
      · refine .inl ⟨n, by omega, ?_⟩
        have xa : (txL p i a ++ txL q k b).getD n [] = ltE (lastL p i (a.take n)) (i + n) (a.getD n ent0) := by
          rw [← ta, List.getD_eq_getElem?_getD, List.getD_eq_getElem?_getD, List.getElem?_append_left (by rw [txL_len]; exact na)]
        have xb : (txL p i a ++ txL q k b).getD (a.length + n) [] = ltE (lastL q k (b.take n)) (k + n) (b.getD n ent0) := by
          rw [← tb, List.getD_eq_getElem?_getD, List.getD_eq_getElem?_getD, List.getElem?_append_right (by rw [txL_len]; omega), txL_len, Nat.add_sub_cancel_left]
        unfold cl2
        rw [xa, xb, Bool.and_eq_true, Bool.not_eq_true', decide_eq_false_iff_not, decide_eq_true_eq]
        exact ⟨fun q => e q.symm, h'.symm⟩
  rcases key a.length (Nat.le_refl _) (by rw [List.take_length, hl, List.take_length]; exact h) with ⟨j, hj, hc⟩ | ⟨r1, r2, r3⟩
  · refine .inr ((clB_iff _).2 ⟨a.length + j, j, ?_, by omega, hc⟩)
    rw [List.length_append, txL_len, txL_len]; omega
  · refine .inl ⟨r1, r2 h0, ?_⟩
    rw [List.take_length] at r3
    rw [r3, hl, List.take_length]
end Go.VL
set_option linter.unusedVariables false
set_option linter.unusedSimpArgs false
set_option maxRecDepth 100000
set_option maxHeartbeats 8000000
open Go.RowKit
namespace Go.VL
open Go.Proofs
theorem R16LinkText_sp (p : Id32) (q : Int) (hq : inR q) (e : Ent) (he : e.ok) : Rt 75 [.agg (bv p.1), .flat (.int .i64 q), .agg e.c] (.flat (.string (bs (ltE p q e)))) := by
  have n1 : q < 9223372036854775808 := by have := hq.2; omega
  have ht := link_tot p q hq he
  have ht2 := total_cons [108, 105, 110, 107] (linkP p q e)
  simp only [List.length_cons, List.length_nil] at ht2
  have tb := take_bv32 p
  have hp := p.2
  have hL : Rt 91 [.sl false 1 4 (sv [[108, 105, 110, 107], p.1, numB q.toNat, e.text])] (.flat (.string (bs (ltE p q e)))) := RList_sp ([108, 105, 110, 107] :: linkP p q e) (by omega) (by simp [linkP])
  intro M mn
  refine fnL (C := kc 15 [] []) (rs := [.tmp 6]) envOk Tryd.func75 (by kernel_rfl) rfl rfl rfl rfl rfl rfl (Low.flat _) ?_
  intro E hG hM
  repeat' (first | (with_reducible first | refine pa ?_ | refine pb ?_ | refine pc ?_ | refine nxt_n ?_ | refine nxt_e ?_ | refine nxt_r ?_ | refine blk_n ?_ | refine blk_r ?_ | refine blk_hit ?_ | refine blk_miss (by rfl) ?_ | refine pd ?_ | refine pe ?_ | refine pf ?_ | refine pg ?_ | apply And.intro) | (refine hK _ ?_; first | clear hK K hn0 hcl hΘ Θ | clear hK K hΘ Θ) | (with_reducible first | refine cw1 ?_ | refine cw2 ?_ | exact cw3 | exact cw4) | ((with_reducible first | refine cw5 (fun gg => ?_) | refine cw6 (fun gg => ?_) | refine cw7 (fun gg => ?_)); try simp only [gg]) | refine cs1 hG rfl ?_ ?_ | refine cs2 hG rfl ?_ ?_ | ((first | refine kf (fun M n => R16num_sp q n1 M n) rfl (by decide) cl0 hΘ hcl hn0 ?_ | refine kf (fun M n => R15Text_sp e he M n) rfl (by decide) cl0 hΘ hcl hn0 ?_ | refine kf (fun M n => hL M n) rfl (by decide) cl0 hΘ hcl hn0 ?_ | refine rga hG (by kernel_rfl) (fun Θ K hΘ hK => ?_) | refine rgb hG (by kernel_rfl) (fun Θ K hΘ hK => ?_) | refine rgc defCl hG (by kernel_rfl) cl0 (by rfl) (by kernel_rfl) (fun Θ K hΘ hcl hn0 hK => ?_) | refine rgd defCl hG (by kernel_rfl) cl0 (by rfl) (by kernel_rfl) (fun Θ K hΘ hcl hn0 hK => ?_)); simp (maxSteps := 2000000) only [go_sem, seval, reduceCtorEq, tb, hp]) | ((first | refine Post.splitN (fun gg => ?_) (fun gg => ?_) | refine PostB.splitN (fun gg => ?_) (fun gg => ?_) | refine Post.split (fun gg => ?_) (fun gg => ?_) | refine PostB.split (fun gg => ?_) (fun gg => ?_)) <;> simp (maxSteps := 2000000) only [go_sem, seval, reduceCtorEq, gg, tb, hp]) | (refine finR (by simp only [go_sem, seval, reduceCtorEq, tb, hp]; exact rfl) ?_; simp only [go_sem, seval, reduceCtorEq, tb, hp]) | refine updL hM ?_ (by omega) | (with_reducible exact fun _ _ => rfl))
  all_goals (first | omega | (simp only [decide_eq_true_eq, decide_eq_false_iff_not] at *; omega) | (simp only [List.length_append, List.length_cons, List.length_nil] <;> omega) | exact one_bv _ | exact one_sv _ | skip)
theorem ltE_le (p : Id32) (q : Int) (hq : inR q) (e : Ent) (he : e.ok) : (ltE p q e).length ≤ 10000 := by
  have ht := link_tot p q hq he
  have ht2 := total_cons [108, 105, 110, 107] (linkP p q e)
  simp only [List.length_cons, List.length_nil] at ht2
  have hle := listB_le ([108, 105, 110, 107] :: linkP p q e) (by omega) (by simp [linkP])
  simp only [linkP, List.length_cons, List.length_nil] at hle ht ht2
  unfold ltE
  simp only [linkP]
  omega
theorem txL_le : ∀ (l : List Ent) (p : Id32) (q : Int), (∀ e ∈ l, e.ok) → -9223372036854775808 ≤ q → q + l.length ≤ 4611686018427387904 → l.length ≤ 1000 → ∀ t ∈ txL p q l, t.length ≤ 10000
  | [], _, _, _, _, _, _, t, h => by cases h
  | e :: l, p, q, hok, h1, h2, h3, t, h => by
    simp only [List.length_cons] at h2 h3
    rcases List.mem_cons.1 h with rfl | h
    · exact ltE_le p q (by unfold inR; omega) e (hok e (by simp))
    · exact txL_le l _ _ (fun e he => hok e (by simp [he])) (by omega) (by omega) (by omega) t h
theorem Clash_sp (p : Id32) (i : Int) (a : List Ent) (q : Id32) (k : Int) (b : List Ent) (ha : ∀ e ∈ a, e.ok) (hb : ∀ e ∈ b, e.ok) (la : a.length ≤ 12) (lb : b.length ≤ 12) (hi : inR i) (hk : inR k) (hi2 : i ≤ 1152921504606846976) (hk2 : k ≤ 1152921504606846976) :
    Rt 33 [.agg (bv p.1), .flat (.int .i64 i), .sl false 73 a.length (Ent.lC a), .agg (bv q.1), .flat (.int .i64 k), .sl false 73 b.length (Ent.lC b)] (.flat (.bool (clB (txL p i a ++ txL q k b)))) := by
  have i1 := hi.1
  have k1 := hk.1
  have tbp : ∀ x : Id32, (bv x.1).take 32 = bv x.1 := take_bv32
  intro M mn
  refine fnL (C := kc 102 [27, 50] []) (rs := [.tmp 12]) envOk Tryd.func33 (by kernel_rfl) rfl rfl rfl rfl rfl rfl (Low.flat _) ?_
  intro E hG hM
  repeat' (first | (with_reducible first | refine pa ?_ | refine pb ?_ | refine pc ?_ | refine nxt_n ?_ | refine nxt_e ?_ | refine nxt_r ?_ | refine blk_n ?_ | refine blk_r ?_ | refine blk_hit ?_ | refine blk_miss (by rfl) ?_ | refine pd ?_ | refine pe ?_ | refine pf ?_ | refine pg ?_ | apply And.intro) | (refine hK _ ?_; first | clear hK K hn0 hcl hΘ Θ | clear hK K hΘ Θ) | (with_reducible first | refine cw1 ?_ | refine cw2 ?_ | exact cw3 | exact cw4) | ((with_reducible first | refine cw5 (fun gg => ?_) | refine cw6 (fun gg => ?_) | refine cw7 (fun gg => ?_)); try simp only [gg]) | refine cs1 hG rfl ?_ ?_ | refine cs2 hG rfl ?_ ?_ | ((first | refine rga hG (by kernel_rfl) (fun Θ K hΘ hK => ?_) | refine rgb hG (by kernel_rfl) (fun Θ K hΘ hK => ?_) | refine rgc defCl hG (by kernel_rfl) cl0 (by rfl) (by kernel_rfl) (fun Θ K hΘ hcl hn0 hK => ?_) | refine rgd defCl hG (by kernel_rfl) cl0 (by rfl) (by kernel_rfl) (fun Θ K hΘ hcl hn0 hK => ?_)); simp (maxSteps := 2000000) only [go_sem, seval, reduceCtorEq, List.append_eq]) | ((first | refine Post.splitN (fun gg => ?_) (fun gg => ?_) | refine PostB.splitN (fun gg => ?_) (fun gg => ?_) | refine Post.split (fun gg => ?_) (fun gg => ?_) | refine PostB.split (fun gg => ?_) (fun gg => ?_)) <;> simp (maxSteps := 2000000) only [go_sem, seval, reduceCtorEq, List.append_eq, gg]) | (refine finR (by simp only [go_sem, seval, reduceCtorEq, List.append_eq]; exact rfl) ?_; simp only [go_sem, seval, reduceCtorEq, List.append_eq]) | refine updL hM ?_ (by omega) | (with_reducible exact fun _ _ => rfl))
  all_goals (first | omega | (simp only [decide_eq_true_eq, decide_eq_false_iff_not] at *; omega) | (simp only [List.length_append, List.length_cons, List.length_nil] <;> omega) | exact one_bv _ | exact one_sv _ | skip)
  have hk0 : ∀ b, M b ≠ none → upd (upd M mn (some (bv p.1))) (mn + 1) (some (bv q.1)) b = M b := updL hM (updL hM (fun _ _ => rfl) (Nat.le_refl _)) (Nat.le_succ _)
  refine WC.loopA (fun s : Nat × Mem × Nat => ⟨[(22, .flat (.int .i64 s.1)), (21, .flat (.int .i64 a.length)), (20, .sl false 73 a.length (Ent.lC a)), (13, .sl true 1 s.1 (sv (txL p i (a.take s.1)))), (9, .bp (mn + 1) 0), (6, .bp mn 0), (1, .flat (.int .i64 i)), (4, .flat (.int .i64 k)), (5, .sl false 73 b.length (Ent.lC b))], s.2.1, s.2.2⟩) (fun s => a.length - s.1) (fun s => s.1 ≤ a.length ∧ (∀ b, M b ≠ none → s.2.1 b = M b) ∧ mn + 1 + 1 ≤ s.2.2 ∧ s.2.1 mn = some (bv (lastL p i (a.take s.1)).1) ∧ s.2.1 (mn + 1) = some (bv q.1)) (0, upd (upd M mn (some (bv p.1))) (mn + 1) (some (bv q.1)), mn + 1 + 1) ⟨by simp only; omega, hk0, Nat.le_refl _, by simp [upd, lastL_nil], by simp [upd]⟩ (sbs (by simp (maxSteps := 2000000) only [go_sem, seval, reduceCtorEq, List.append_eq, List.take_zero, txL]) rfl rfl) ?_
  rintro ⟨j, μ, n⟩ ⟨hj, hkk, hn, hbx, hby⟩
  simp only at hj hkk hn hbx hby ⊢
  by_cases h : j < a.length
  · have f1 : ((j : Int) < (a.length : Int)) = True := eq_true (by omega)
    have g1 : (j < a.length) = True := eq_true h
    have v1 := wi1 (n := j) (by omega)
    have v2 : IntKind.i64.wrap (i + (j : Int)) = i + (j : Int) := wi (by omega) (by omega)
    have he : (a.getD j ent0).ok := ha _ (by rw [List.getD_eq_getElem?_getD, List.getElem?_eq_getElem h]; exact List.getElem_mem _)
    have hgt := Ent.l_get a ent0 j h
    have hll := Ent.l_len a
    have ht1 := Ent.tk (a.getD j ent0)
    have g2 : (j * 73 + 73 ≤ a.length * 73) = True := eq_true (by omega)
    have cT := R16LinkText_sp (lastL p i (a.take j)) (i + j) (by unfold inR; omega) (a.getD j ent0) he
    have cL := R16Link_sp (lastL p i (a.take j)) (i + j) (by unfold inR; omega) (a.getD j ent0) he
    have hw := txL_take a p i j ent0 h
    have hla := lastL_take a p i j ent0 h
    have hlen := txL_len (a.take j) p i
    rw [List.length_take, Nat.min_eq_left (by omega)] at hlen
    rw [← hla] at cL
    have hw' := hw.symm
    have u1 : ∀ (A : Mem) z, upd A n z mn = A mn := fun A z => upd_ne _ _ (by omega)
    have u2 : ∀ (A : Mem) z, upd A mn z n = A n := fun A z => upd_ne _ _ (by omega)
    have hk9 : ∀ x y, ∀ b, M b ≠ none → upd (upd μ n x) mn y b = M b := fun x y => updL hM (updL hM hkk (by omega)) (Nat.le_refl _)
    repeat' (first | (with_reducible first | refine pa ?_ | refine pb ?_ | refine pc ?_ | refine nxt_n ?_ | refine nxt_e ?_ | refine nxt_r ?_ | refine blk_n ?_ | refine blk_r ?_ | refine blk_hit ?_ | refine blk_miss (by rfl) ?_ | refine pd ?_ | refine pe ?_ | refine pf ?_ | refine pg ?_ | apply And.intro) | (refine hK _ ?_; first | clear hK K hn0 hcl hΘ Θ | clear hK K hΘ Θ) | (with_reducible first | refine cw1 ?_ | refine cw2 ?_ | exact cw3 | exact cw4) | ((with_reducible first | refine cw5 (fun gg => ?_) | refine cw6 (fun gg => ?_) | refine cw7 (fun gg => ?_)); try simp only [gg]) | refine cs1 hG rfl ?_ ?_ | refine cs2 hG rfl ?_ ?_ | ((first | refine kg (cT _ _) rfl hΘ ?_ | refine kg (cL _ _) rfl hΘ ?_ | refine rga hG (by kernel_rfl) (fun Θ K hΘ hK => ?_) | refine rgb hG (by kernel_rfl) (fun Θ K hΘ hK => ?_) | refine rgc defCl hG (by kernel_rfl) cl0 (by rfl) (by kernel_rfl) (fun Θ K hΘ hcl hn0 hK => ?_) | refine rgd defCl hG (by kernel_rfl) cl0 (by rfl) (by kernel_rfl) (fun Θ K hΘ hcl hn0 hK => ?_)); simp (maxSteps := 2000000) only [go_sem, seval, reduceCtorEq, List.append_eq, f1, g1, v1, v2, hgt, hll, ht1, g2, hbx, u1, u2, tbp, hw', hlen, sv_length]) | ((first | refine Post.splitN (fun gg => ?_) (fun gg => ?_) | refine PostB.splitN (fun gg => ?_) (fun gg => ?_) | refine Post.split (fun gg => ?_) (fun gg => ?_) | refine PostB.split (fun gg => ?_) (fun gg => ?_)) <;> simp (maxSteps := 2000000) only [go_sem, seval, reduceCtorEq, List.append_eq, gg, f1, g1, v1, v2, hgt, hll, ht1, g2, hbx, u1, u2, tbp, hw', hlen, sv_length]) | (refine finR (by simp only [go_sem, seval, reduceCtorEq, List.append_eq, f1, g1, v1, v2, hgt, hll, ht1, g2, hbx, u1, u2, tbp, hw', hlen, sv_length]; exact rfl) ?_; simp only [go_sem, seval, reduceCtorEq, List.append_eq, f1, g1, v1, v2, hgt, hll, ht1, g2, hbx, u1, u2, tbp, hw', hlen, sv_length]) | refine updL hM ?_ (by omega) | (with_reducible exact fun _ _ => rfl))
    all_goals (first | omega | (simp only [decide_eq_true_eq, decide_eq_false_iff_not] at *; omega) | (simp only [List.length_append, List.length_cons, List.length_nil] <;> omega) | exact one_bv _ | exact one_sv _ | skip)
    refine ⟨(j + 1, upd (upd μ n (some (a.getD j ent0).c)) mn (some (bv (lastL p i (a.take (j + 1))).1)), n + 1), ⟨by simp only; omega, hk9 _ _, by simp only; omega, upd_same _ _ _, ?_⟩, by simp only; omega, (sbs (by simp (maxSteps := 2000000) only [go_sem, seval, reduceCtorEq, List.append_eq]) rfl rfl)⟩
    simp only
    rw [upd_ne _ _ (by omega), upd_ne _ _ (by omega)]; exact hby
  have f1 : ((j : Int) < (a.length : Int)) = False := eq_false (by omega)
  have ej : j = a.length := by omega
  subst ej
  rw [List.take_length]
  repeat' (first | (with_reducible first | refine pa ?_ | refine pb ?_ | refine pc ?_ | refine nxt_n ?_ | refine nxt_e ?_ | refine nxt_r ?_ | refine blk_n ?_ | refine blk_r ?_ | refine blk_hit ?_ | refine blk_miss (by rfl) ?_ | refine pd ?_ | refine pe ?_ | refine pf ?_ | refine pg ?_ | apply And.intro) | (refine hK _ ?_; first | clear hK K hn0 hcl hΘ Θ | clear hK K hΘ Θ) | (with_reducible first | refine cw1 ?_ | refine cw2 ?_ | exact cw3 | exact cw4) | ((with_reducible first | refine cw5 (fun gg => ?_) | refine cw6 (fun gg => ?_) | refine cw7 (fun gg => ?_)); try simp only [gg]) | refine cs1 hG rfl ?_ ?_ | refine cs2 hG rfl ?_ ?_ | ((fail_if_success (with_reducible first | show WC _ _ _ (.region 9 _ _) _ _ | show WC _ _ _ (.seq (.region 9 _ _) _) _ _)); (first | refine rga hG (by kernel_rfl) (fun Θ K hΘ hK => ?_) | refine rgb hG (by kernel_rfl) (fun Θ K hΘ hK => ?_) | refine rgc defCl hG (by kernel_rfl) cl0 (by rfl) (by kernel_rfl) (fun Θ K hΘ hcl hn0 hK => ?_) | refine rgd defCl hG (by kernel_rfl) cl0 (by rfl) (by kernel_rfl) (fun Θ K hΘ hcl hn0 hK => ?_)); simp (maxSteps := 2000000) only [go_sem, seval, reduceCtorEq, List.append_eq, f1]) | ((first | refine Post.splitN (fun gg => ?_) (fun gg => ?_) | refine PostB.splitN (fun gg => ?_) (fun gg => ?_) | refine Post.split (fun gg => ?_) (fun gg => ?_) | refine PostB.split (fun gg => ?_) (fun gg => ?_)) <;> simp (maxSteps := 2000000) only [go_sem, seval, reduceCtorEq, List.append_eq, gg, f1]) | (refine finR (by simp only [go_sem, seval, reduceCtorEq, List.append_eq, f1]; exact rfl) ?_; simp only [go_sem, seval, reduceCtorEq, List.append_eq, f1]) | refine updL hM ?_ (by omega) | (with_reducible exact fun _ _ => rfl))
  all_goals (first | omega | (simp only [decide_eq_true_eq, decide_eq_false_iff_not] at *; omega) | (simp only [List.length_append, List.length_cons, List.length_nil] <;> omega) | exact one_bv _ | exact one_sv _ | skip)
  refine WC.loopA (fun s : Nat × Mem × Nat => ⟨[(45, .flat (.int .i64 s.1)), (44, .flat (.int .i64 b.length)), (43, .sl false 73 b.length (Ent.lC b)), (13, .sl true 1 (a.length + s.1) (sv (txL p i a ++ txL q k (b.take s.1)))), (9, .bp (mn + 1) 0), (4, .flat (.int .i64 k))], s.2.1, s.2.2⟩) (fun s => b.length - s.1) (fun s => s.1 ≤ b.length ∧ (∀ b, M b ≠ none → s.2.1 b = M b) ∧ mn + 1 + 1 ≤ s.2.2 ∧ s.2.1 (mn + 1) = some (bv (lastL q k (b.take s.1)).1)) (0, μ, n) ⟨by simp only; omega, hkk, hn, by simpa [lastL_nil] using hby⟩ (sbs (by simp (maxSteps := 2000000) only [go_sem, seval, reduceCtorEq, List.append_eq, List.take_zero, txL, List.append_nil, Nat.add_zero]) rfl rfl) ?_
  clear hbx hby
  rintro ⟨j, ν, m⟩ ⟨hj, hkk, hn, hbx⟩
  simp only at hj hkk hn hbx ⊢
  by_cases h : j < b.length
  · have f1 : ((j : Int) < (b.length : Int)) = True := eq_true (by omega)
    have g1 : (j < b.length) = True := eq_true h
    have v1 := wi1 (n := j) (by omega)
    have v2 : IntKind.i64.wrap (k + (j : Int)) = k + (j : Int) := wi (by omega) (by omega)
    have he : (b.getD j ent0).ok := hb _ (by rw [List.getD_eq_getElem?_getD, List.getElem?_eq_getElem h]; exact List.getElem_mem _)
    have hgt := Ent.l_get b ent0 j h
    have hll := Ent.l_len b
    have ht1 := Ent.tk (b.getD j ent0)
    have g2 : (j * 73 + 73 ≤ b.length * 73) = True := eq_true (by omega)
    have cT := R16LinkText_sp (lastL q k (b.take j)) (k + j) (by unfold inR; omega) (b.getD j ent0) he
    have cL := R16Link_sp (lastL q k (b.take j)) (k + j) (by unfold inR; omega) (b.getD j ent0) he
    have hw := txL_take b q k j ent0 h
    have hla := lastL_take b q k j ent0 h
    have hlen : (txL p i a ++ txL q k (b.take j)).length = a.length + j := by
      rw [List.length_append, txL_len, txL_len, List.length_take, Nat.min_eq_left (by omega)]
    rw [← hla] at cL
    have hw' : txL p i a ++ txL q k (b.take j) ++ [ltE (lastL q k (b.take j)) (k + j) (b.getD j ent0)] = txL p i a ++ txL q k (b.take (j + 1)) := by rw [hw, List.append_assoc]
    have u1 : ∀ (A : Mem) z, upd A m z (mn + 1) = A (mn + 1) := fun A z => upd_ne _ _ (by omega)
    have u2 : ∀ (A : Mem) z, upd A (mn + 1) z m = A m := fun A z => upd_ne _ _ (by omega)
    have hk9 : ∀ x y, ∀ b, M b ≠ none → upd (upd ν m x) (mn + 1) y b = M b := fun x y => updL hM (updL hM hkk (by omega)) (Nat.le_succ _)
    repeat' (first | (with_reducible first | refine pa ?_ | refine pb ?_ | refine pc ?_ | refine nxt_n ?_ | refine nxt_e ?_ | refine nxt_r ?_ | refine blk_n ?_ | refine blk_r ?_ | refine blk_hit ?_ | refine blk_miss (by rfl) ?_ | refine pd ?_ | refine pe ?_ | refine pf ?_ | refine pg ?_ | apply And.intro) | (refine hK _ ?_; first | clear hK K hn0 hcl hΘ Θ | clear hK K hΘ Θ) | (with_reducible first | refine cw1 ?_ | refine cw2 ?_ | exact cw3 | exact cw4) | ((with_reducible first | refine cw5 (fun gg => ?_) | refine cw6 (fun gg => ?_) | refine cw7 (fun gg => ?_)); try simp only [gg]) | refine cs1 hG rfl ?_ ?_ | refine cs2 hG rfl ?_ ?_ | ((first | refine kg (cT _ _) rfl hΘ ?_ | refine kg (cL _ _) rfl hΘ ?_ | refine rga hG (by kernel_rfl) (fun Θ K hΘ hK => ?_) | refine rgb hG (by kernel_rfl) (fun Θ K hΘ hK => ?_) | refine rgc defCl hG (by kernel_rfl) cl0 (by rfl) (by kernel_rfl) (fun Θ K hΘ hcl hn0 hK => ?_) | refine rgd defCl hG (by kernel_rfl) cl0 (by rfl) (by kernel_rfl) (fun Θ K hΘ hcl hn0 hK => ?_)); simp (maxSteps := 2000000) only [go_sem, seval, reduceCtorEq, List.append_eq, f1, g1, v1, v2, hgt, hll, ht1, g2, hbx, u1, u2, tbp, hw', hlen, sv_length]) | ((first | refine Post.splitN (fun gg => ?_) (fun gg => ?_) | refine PostB.splitN (fun gg => ?_) (fun gg => ?_) | refine Post.split (fun gg => ?_) (fun gg => ?_) | refine PostB.split (fun gg => ?_) (fun gg => ?_)) <;> simp (maxSteps := 2000000) only [go_sem, seval, reduceCtorEq, List.append_eq, gg, f1, g1, v1, v2, hgt, hll, ht1, g2, hbx, u1, u2, tbp, hw', hlen, sv_length]) | (refine finR (by simp only [go_sem, seval, reduceCtorEq, List.append_eq, f1, g1, v1, v2, hgt, hll, ht1, g2, hbx, u1, u2, tbp, hw', hlen, sv_length]; exact rfl) ?_; simp only [go_sem, seval, reduceCtorEq, List.append_eq, f1, g1, v1, v2, hgt, hll, ht1, g2, hbx, u1, u2, tbp, hw', hlen, sv_length]) | refine updL hM ?_ (by omega) | (with_reducible exact fun _ _ => rfl))
    all_goals (first | omega | (simp only [decide_eq_true_eq, decide_eq_false_iff_not] at *; omega) | (simp only [List.length_append, List.length_cons, List.length_nil] <;> omega) | exact one_bv _ | exact one_sv _ | skip)
    exact ⟨(j + 1, upd (upd ν m (some (b.getD j ent0).c)) (mn + 1) (some (bv (lastL q k (b.take (j + 1))).1)), m + 1), ⟨by simp only; omega, hk9 _ _, by simp only; omega, upd_same _ _ _⟩, by simp only; omega, (sbs (by simp (maxSteps := 2000000) only [go_sem, seval, reduceCtorEq, List.append_eq, Nat.add_assoc]) rfl rfl)⟩
  have f1 : ((j : Int) < (b.length : Int)) = False := eq_false (by omega)
  have ej : j = b.length := by omega
  subst ej
  rw [List.take_length]
  have hTl : ∀ x, x < a.length + b.length → ((txL p i a ++ txL q k b).getD x []).length ≤ 10000 := fun x hx => by
    have hm : (txL p i a ++ txL q k b).getD x [] ∈ txL p i a ++ txL q k b := by
      rw [List.getD_eq_getElem?_getD, List.getElem?_eq_getElem (by rw [List.length_append, txL_len, txL_len]; exact hx)]; exact List.getElem_mem _
    rcases List.mem_append.1 hm with h | h
    · exact txL_le a p i ha (by omega) (by omega) (by omega) _ h
    · exact txL_le b q k hb (by omega) (by omega) (by omega) _ h
  have hTn : (txL p i a ++ txL q k b).length = a.length + b.length := by rw [List.length_append, txL_len, txL_len]
  generalize txL p i a ++ txL q k b = T at *
  generalize hN : a.length + b.length = N at *
  repeat' (first | (with_reducible first | refine pa ?_ | refine pb ?_ | refine pc ?_ | refine nxt_n ?_ | refine nxt_e ?_ | refine nxt_r ?_ | refine blk_n ?_ | refine blk_r ?_ | refine blk_hit ?_ | refine blk_miss (by rfl) ?_ | refine pd ?_ | refine pe ?_ | refine pf ?_ | refine pg ?_ | apply And.intro) | (refine hK _ ?_; first | clear hK K hn0 hcl hΘ Θ | clear hK K hΘ Θ) | (with_reducible first | refine cw1 ?_ | refine cw2 ?_ | exact cw3 | exact cw4) | ((with_reducible first | refine cw5 (fun gg => ?_) | refine cw6 (fun gg => ?_) | refine cw7 (fun gg => ?_)); try simp only [gg]) | refine cs1 hG rfl ?_ ?_ | refine cs2 hG rfl ?_ ?_ | ((fail_if_success (with_reducible first | show WC _ _ _ (.region 15 _ _) _ _ | show WC _ _ _ (.seq (.region 15 _ _) _) _ _)); (first | refine rga hG (by kernel_rfl) (fun Θ K hΘ hK => ?_) | refine rgb hG (by kernel_rfl) (fun Θ K hΘ hK => ?_) | refine rgc defCl hG (by kernel_rfl) cl0 (by rfl) (by kernel_rfl) (fun Θ K hΘ hcl hn0 hK => ?_) | refine rgd defCl hG (by kernel_rfl) cl0 (by rfl) (by kernel_rfl) (fun Θ K hΘ hcl hn0 hK => ?_)); simp (maxSteps := 2000000) only [go_sem, seval, reduceCtorEq, List.append_eq, f1]) | ((first | refine Post.splitN (fun gg => ?_) (fun gg => ?_) | refine PostB.splitN (fun gg => ?_) (fun gg => ?_) | refine Post.split (fun gg => ?_) (fun gg => ?_) | refine PostB.split (fun gg => ?_) (fun gg => ?_)) <;> simp (maxSteps := 2000000) only [go_sem, seval, reduceCtorEq, List.append_eq, gg, f1]) | (refine finR (by simp only [go_sem, seval, reduceCtorEq, List.append_eq, f1]; exact rfl) ?_; simp only [go_sem, seval, reduceCtorEq, List.append_eq, f1]) | refine updL hM ?_ (by omega) | (with_reducible exact fun _ _ => rfl))
  all_goals (first | omega | (simp only [decide_eq_true_eq, decide_eq_false_iff_not] at *; omega) | (simp only [List.length_append, List.length_cons, List.length_nil] <;> omega) | exact one_bv _ | exact one_sv _ | skip)
  refine WC.loopA (fun x : Nat => ⟨[(68, .flat (.int .i64 x)), (67, .flat (.int .i64 N)), (13, .sl true 1 N (sv T))], ν, m⟩) (fun x => N - x) (fun x => x ≤ N ∧ ∀ x', x' < x → ∀ y, y < x' → cl2 T x' y = false) 0 ⟨by omega, fun x' h => absurd h (by omega)⟩ (sbs (by simp (maxSteps := 2000000) only [go_sem, seval, reduceCtorEq, List.append_eq]) rfl rfl) ?_
  rintro x ⟨hx, hcl⟩
  by_cases hxN : x < N
  · have f2 : ((x : Int) < (N : Int)) = True := eq_true (by omega)
    have g2 : (x < N) = True := eq_true hxN
    have g3 : (x ≤ N) = True := eq_true hx
    have v1 := wi1 (n := x) (by omega)
    have c0 : x - 0 = x := Nat.sub_zero x
    repeat' (first | (with_reducible first | refine pa ?_ | refine pb ?_ | refine pc ?_ | refine nxt_n ?_ | refine nxt_e ?_ | refine nxt_r ?_ | refine blk_n ?_ | refine blk_r ?_ | refine blk_hit ?_ | refine blk_miss (by rfl) ?_ | refine pd ?_ | refine pe ?_ | refine pf ?_ | refine pg ?_ | apply And.intro) | (refine hK _ ?_; first | clear hK K hn0 hcl hΘ Θ | clear hK K hΘ Θ) | (with_reducible first | refine cw1 ?_ | refine cw2 ?_ | exact cw3 | exact cw4) | ((with_reducible first | refine cw5 (fun gg => ?_) | refine cw6 (fun gg => ?_) | refine cw7 (fun gg => ?_)); try simp only [gg]) | refine cs1 hG rfl ?_ ?_ | refine cs2 hG rfl ?_ ?_ | ((fail_if_success (with_reducible first | show WC _ _ _ (.region 18 _ _) _ _ | show WC _ _ _ (.seq (.region 18 _ _) _) _ _)); (first | refine rga hG (by kernel_rfl) (fun Θ K hΘ hK => ?_) | refine rgb hG (by kernel_rfl) (fun Θ K hΘ hK => ?_) | refine rgc defCl hG (by kernel_rfl) cl0 (by rfl) (by kernel_rfl) (fun Θ K hΘ hcl hn0 hK => ?_) | refine rgd defCl hG (by kernel_rfl) cl0 (by rfl) (by kernel_rfl) (fun Θ K hΘ hcl hn0 hK => ?_)); simp (maxSteps := 2000000) only [go_sem, seval, reduceCtorEq, List.append_eq, f2, g2, g3, c0, hTn, sv_length]) | ((first | refine Post.splitN (fun gg => ?_) (fun gg => ?_) | refine PostB.splitN (fun gg => ?_) (fun gg => ?_) | refine Post.split (fun gg => ?_) (fun gg => ?_) | refine PostB.split (fun gg => ?_) (fun gg => ?_)) <;> simp (maxSteps := 2000000) only [go_sem, seval, reduceCtorEq, List.append_eq, gg, f2, g2, g3, c0, hTn, sv_length]) | (refine finR (by simp only [go_sem, seval, reduceCtorEq, List.append_eq, f2, g2, g3, c0, hTn, sv_length]; exact rfl) ?_; simp only [go_sem, seval, reduceCtorEq, List.append_eq, f2, g2, g3, c0, hTn, sv_length]) | refine updL hM ?_ (by omega) | (with_reducible exact fun _ _ => rfl))
    all_goals (first | omega | (simp only [decide_eq_true_eq, decide_eq_false_iff_not] at *; omega) | (simp only [List.length_append, List.length_cons, List.length_nil] <;> omega) | exact one_bv _ | exact one_sv _ | skip)
    refine WC.loopA (fun y : Nat => ⟨[(75, .flat (.int .i64 y)), (74, .flat (.int .i64 x)), (18, .flat (.int .i64 x)), (68, .flat (.int .i64 x)), (67, .flat (.int .i64 N)), (13, .sl true 1 N (sv T))], ν, m⟩) (fun y => x - y) (fun y => y ≤ x ∧ ∀ y', y' < y → cl2 T x y' = false) 0 ⟨by omega, fun y' h => absurd h (by omega)⟩ (sbs (by simp (maxSteps := 2000000) only [go_sem, seval, reduceCtorEq, List.append_eq]) rfl rfl) ?_
    rintro y ⟨hy, hcy⟩
    by_cases hyx : y < x
    · have f3 : ((y : Int) < (x : Int)) = True := eq_true (by omega)
      have g4 : (y < N) = True := eq_true (by omega)
      have v2 := wi1 (n := y) (by omega)
      have cOx := ROf_sp (T.getD x []) (by have := hTl x hxN; omega)
      have cOy := ROf_sp (T.getD y []) (by have := hTl y (by omega); omega)
      have hnext : cl2 T x y = false → ∀ y', y' < y + 1 → cl2 T x y' = false := fun h y' h1 => by
        by_cases h2 : y' = y
        · rw [h2]; exact h
        · exact hcy y' (by omega)
      by_cases e1 : T.getD x [] = T.getD y []
      · have d1 := eq_true e1
        have hc := hnext (by unfold cl2; rw [decide_eq_true e1]; rfl)
        repeat' (first | (with_reducible first | refine pa ?_ | refine pb ?_ | refine pc ?_ | refine nxt_n ?_ | refine nxt_e ?_ | refine nxt_r ?_ | refine blk_n ?_ | refine blk_r ?_ | refine blk_hit ?_ | refine blk_miss (by rfl) ?_ | refine pd ?_ | refine pe ?_ | refine pf ?_ | refine pg ?_ | apply And.intro) | (refine hK _ ?_; first | clear hK K hn0 hcl hΘ Θ | clear hK K hΘ Θ) | (with_reducible first | refine cw1 ?_ | refine cw2 ?_ | exact cw3 | exact cw4) | ((with_reducible first | refine cw5 (fun gg => ?_) | refine cw6 (fun gg => ?_) | refine cw7 (fun gg => ?_)); try simp only [gg]) | refine cs1 hG rfl ?_ ?_ | refine cs2 hG rfl ?_ ?_ | ((first | refine rga hG (by kernel_rfl) (fun Θ K hΘ hK => ?_) | refine rgb hG (by kernel_rfl) (fun Θ K hΘ hK => ?_) | refine rgc defCl hG (by kernel_rfl) cl0 (by rfl) (by kernel_rfl) (fun Θ K hΘ hcl hn0 hK => ?_) | refine rgd defCl hG (by kernel_rfl) cl0 (by rfl) (by kernel_rfl) (fun Θ K hΘ hcl hn0 hK => ?_)); simp (maxSteps := 2000000) only [go_sem, seval, reduceCtorEq, List.append_eq, f3, g2, g4, v2, d1, hTn, sv_length]) | ((first | refine Post.splitN (fun gg => ?_) (fun gg => ?_) | refine PostB.splitN (fun gg => ?_) (fun gg => ?_) | refine Post.split (fun gg => ?_) (fun gg => ?_) | refine PostB.split (fun gg => ?_) (fun gg => ?_)) <;> simp (maxSteps := 2000000) only [go_sem, seval, reduceCtorEq, List.append_eq, gg, f3, g2, g4, v2, d1, hTn, sv_length]) | (refine finR (by simp only [go_sem, seval, reduceCtorEq, List.append_eq, f3, g2, g4, v2, d1, hTn, sv_length]; exact rfl) ?_; simp only [go_sem, seval, reduceCtorEq, List.append_eq, f3, g2, g4, v2, d1, hTn, sv_length]) | refine updL hM ?_ (by omega) | (with_reducible exact fun _ _ => rfl))
        all_goals (first | omega | (simp only [decide_eq_true_eq, decide_eq_false_iff_not] at *; omega) | (simp only [List.length_append, List.length_cons, List.length_nil] <;> omega) | exact one_bv _ | exact one_sv _ | skip)
        exact ⟨y + 1, ⟨by omega, hc⟩, by omega, (sbs (by simp (maxSteps := 2000000) only [go_sem, seval, reduceCtorEq, List.append_eq]) rfl rfl)⟩
      have d1 := eq_false e1
      by_cases e2 : sha (T.getD x []) = sha (T.getD y [])
      · have d2 : decide (sha (T.getD x []) = sha (T.getD y [])) = true := decide_eq_true e2
        have hcB : clB T = true := (clB_iff T).2 ⟨x, y, by omega, hyx, by unfold cl2; rw [decide_eq_false e1, d2]; rfl⟩
        rw [hcB]
        repeat' (first | (with_reducible first | refine pa ?_ | refine pb ?_ | refine pc ?_ | refine nxt_n ?_ | refine nxt_e ?_ | refine nxt_r ?_ | refine blk_n ?_ | refine blk_r ?_ | refine blk_hit ?_ | refine blk_miss (by rfl) ?_ | refine pd ?_ | refine pe ?_ | refine pf ?_ | refine pg ?_ | apply And.intro) | (refine hK _ ?_; first | clear hK K hn0 hcl hΘ Θ | clear hK K hΘ Θ) | (with_reducible first | refine cw1 ?_ | refine cw2 ?_ | exact cw3 | exact cw4) | ((with_reducible first | refine cw5 (fun gg => ?_) | refine cw6 (fun gg => ?_) | refine cw7 (fun gg => ?_)); try simp only [gg]) | refine cs1 hG rfl ?_ ?_ | refine cs2 hG rfl ?_ ?_ | ((first | refine kf (fun M n => cOx M n) rfl (by decide) cl0 hΘ hcl hn0 ?_ | refine kf (fun M n => cOy M n) rfl (by decide) cl0 hΘ hcl hn0 ?_ | refine rga hG (by kernel_rfl) (fun Θ K hΘ hK => ?_) | refine rgb hG (by kernel_rfl) (fun Θ K hΘ hK => ?_) | refine rgc defCl hG (by kernel_rfl) cl0 (by rfl) (by kernel_rfl) (fun Θ K hΘ hcl hn0 hK => ?_) | refine rgd defCl hG (by kernel_rfl) cl0 (by rfl) (by kernel_rfl) (fun Θ K hΘ hcl hn0 hK => ?_)); simp (maxSteps := 2000000) only [go_sem, seval, reduceCtorEq, List.append_eq, f3, g2, g4, v2, d1, d2, hTn, sv_length]) | ((first | refine Post.splitN (fun gg => ?_) (fun gg => ?_) | refine PostB.splitN (fun gg => ?_) (fun gg => ?_) | refine Post.split (fun gg => ?_) (fun gg => ?_) | refine PostB.split (fun gg => ?_) (fun gg => ?_)) <;> simp (maxSteps := 2000000) only [go_sem, seval, reduceCtorEq, List.append_eq, gg, f3, g2, g4, v2, d1, d2, hTn, sv_length]) | (refine finR (by simp only [go_sem, seval, reduceCtorEq, List.append_eq, f3, g2, g4, v2, d1, d2, hTn, sv_length]; exact rfl) ?_; simp only [go_sem, seval, reduceCtorEq, List.append_eq, f3, g2, g4, v2, d1, d2, hTn, sv_length]) | refine updL hM ?_ (by omega) | (with_reducible exact fun _ _ => rfl))
        all_goals (first | omega | (simp only [decide_eq_true_eq, decide_eq_false_iff_not] at *; omega) | (simp only [List.length_append, List.length_cons, List.length_nil] <;> omega) | exact one_bv _ | exact one_sv _ | skip)
        all_goals exact hkk
      · have d2 : decide (sha (T.getD x []) = sha (T.getD y [])) = false := decide_eq_false e2
        have hc := hnext (by unfold cl2; rw [decide_eq_false e1, d2]; rfl)
        repeat' (first | (with_reducible first | refine pa ?_ | refine pb ?_ | refine pc ?_ | refine nxt_n ?_ | refine nxt_e ?_ | refine nxt_r ?_ | refine blk_n ?_ | refine blk_r ?_ | refine blk_hit ?_ | refine blk_miss (by rfl) ?_ | refine pd ?_ | refine pe ?_ | refine pf ?_ | refine pg ?_ | apply And.intro) | (refine hK _ ?_; first | clear hK K hn0 hcl hΘ Θ | clear hK K hΘ Θ) | (with_reducible first | refine cw1 ?_ | refine cw2 ?_ | exact cw3 | exact cw4) | ((with_reducible first | refine cw5 (fun gg => ?_) | refine cw6 (fun gg => ?_) | refine cw7 (fun gg => ?_)); try simp only [gg]) | refine cs1 hG rfl ?_ ?_ | refine cs2 hG rfl ?_ ?_ | ((first | refine kf (fun M n => cOx M n) rfl (by decide) cl0 hΘ hcl hn0 ?_ | refine kf (fun M n => cOy M n) rfl (by decide) cl0 hΘ hcl hn0 ?_ | refine rga hG (by kernel_rfl) (fun Θ K hΘ hK => ?_) | refine rgb hG (by kernel_rfl) (fun Θ K hΘ hK => ?_) | refine rgc defCl hG (by kernel_rfl) cl0 (by rfl) (by kernel_rfl) (fun Θ K hΘ hcl hn0 hK => ?_) | refine rgd defCl hG (by kernel_rfl) cl0 (by rfl) (by kernel_rfl) (fun Θ K hΘ hcl hn0 hK => ?_)); simp (maxSteps := 2000000) only [go_sem, seval, reduceCtorEq, List.append_eq, f3, g2, g4, v2, d1, d2, hTn, sv_length]) | ((first | refine Post.splitN (fun gg => ?_) (fun gg => ?_) | refine PostB.splitN (fun gg => ?_) (fun gg => ?_) | refine Post.split (fun gg => ?_) (fun gg => ?_) | refine PostB.split (fun gg => ?_) (fun gg => ?_)) <;> simp (maxSteps := 2000000) only [go_sem, seval, reduceCtorEq, List.append_eq, gg, f3, g2, g4, v2, d1, d2, hTn, sv_length]) | (refine finR (by simp only [go_sem, seval, reduceCtorEq, List.append_eq, f3, g2, g4, v2, d1, d2, hTn, sv_length]; exact rfl) ?_; simp only [go_sem, seval, reduceCtorEq, List.append_eq, f3, g2, g4, v2, d1, d2, hTn, sv_length]) | refine updL hM ?_ (by omega) | (with_reducible exact fun _ _ => rfl))
        all_goals (first | omega | (simp only [decide_eq_true_eq, decide_eq_false_iff_not] at *; omega) | (simp only [List.length_append, List.length_cons, List.length_nil] <;> omega) | exact one_bv _ | exact one_sv _ | skip)
        exact ⟨y + 1, ⟨by omega, hc⟩, by omega, (sbs (by simp (maxSteps := 2000000) only [go_sem, seval, reduceCtorEq, List.append_eq]) rfl rfl)⟩
    have f3 : ((y : Int) < (x : Int)) = False := eq_false (by omega)
    have hnx : ∀ x', x' < x + 1 → ∀ y, y < x' → cl2 T x' y = false := fun x' h1 y' h2 => by
      by_cases h3 : x' = x
      · subst h3; exact hcy y' (by omega)
      · exact hcl x' (by omega) y' h2
    repeat' (first | (with_reducible first | refine pa ?_ | refine pb ?_ | refine pc ?_ | refine nxt_n ?_ | refine nxt_e ?_ | refine nxt_r ?_ | refine blk_n ?_ | refine blk_r ?_ | refine blk_hit ?_ | refine blk_miss (by rfl) ?_ | refine pd ?_ | refine pe ?_ | refine pf ?_ | refine pg ?_ | apply And.intro) | (refine hK _ ?_; first | clear hK K hn0 hcl hΘ Θ | clear hK K hΘ Θ) | (with_reducible first | refine cw1 ?_ | refine cw2 ?_ | exact cw3 | exact cw4) | ((with_reducible first | refine cw5 (fun gg => ?_) | refine cw6 (fun gg => ?_) | refine cw7 (fun gg => ?_)); try simp only [gg]) | refine cs1 hG rfl ?_ ?_ | refine cs2 hG rfl ?_ ?_ | ((first | refine rga hG (by kernel_rfl) (fun Θ K hΘ hK => ?_) | refine rgb hG (by kernel_rfl) (fun Θ K hΘ hK => ?_) | refine rgc defCl hG (by kernel_rfl) cl0 (by rfl) (by kernel_rfl) (fun Θ K hΘ hcl hn0 hK => ?_) | refine rgd defCl hG (by kernel_rfl) cl0 (by rfl) (by kernel_rfl) (fun Θ K hΘ hcl hn0 hK => ?_)); simp (maxSteps := 2000000) only [go_sem, seval, reduceCtorEq, List.append_eq, f3, v1]) | ((first | refine Post.splitN (fun gg => ?_) (fun gg => ?_) | refine PostB.splitN (fun gg => ?_) (fun gg => ?_) | refine Post.split (fun gg => ?_) (fun gg => ?_) | refine PostB.split (fun gg => ?_) (fun gg => ?_)) <;> simp (maxSteps := 2000000) only [go_sem, seval, reduceCtorEq, List.append_eq, gg, f3, v1]) | (refine finR (by simp only [go_sem, seval, reduceCtorEq, List.append_eq, f3, v1]; exact rfl) ?_; simp only [go_sem, seval, reduceCtorEq, List.append_eq, f3, v1]) | refine updL hM ?_ (by omega) | (with_reducible exact fun _ _ => rfl))
    all_goals (first | omega | (simp only [decide_eq_true_eq, decide_eq_false_iff_not] at *; omega) | (simp only [List.length_append, List.length_cons, List.length_nil] <;> omega) | exact one_bv _ | exact one_sv _ | skip)
    exact ⟨x + 1, ⟨by omega, hnx⟩, by omega, (sbs (by simp (maxSteps := 2000000) only [go_sem, seval, reduceCtorEq, List.append_eq]) rfl rfl)⟩
  have f2 : ((x : Int) < (N : Int)) = False := eq_false (by omega)
  have hcB : clB T = false := by
    rw [Bool.eq_false_iff]
    intro hc
    obtain ⟨x', y, h1, h2, h3⟩ := (clB_iff T).1 hc
    rw [hcl x' (by omega) y h2] at h3
    cases h3
  rw [hcB]
  repeat' (first | (with_reducible first | refine pa ?_ | refine pb ?_ | refine pc ?_ | refine nxt_n ?_ | refine nxt_e ?_ | refine nxt_r ?_ | refine blk_n ?_ | refine blk_r ?_ | refine blk_hit ?_ | refine blk_miss (by rfl) ?_ | refine pd ?_ | refine pe ?_ | refine pf ?_ | refine pg ?_ | apply And.intro) | (refine hK _ ?_; first | clear hK K hn0 hcl hΘ Θ | clear hK K hΘ Θ) | (with_reducible first | refine cw1 ?_ | refine cw2 ?_ | exact cw3 | exact cw4) | ((with_reducible first | refine cw5 (fun gg => ?_) | refine cw6 (fun gg => ?_) | refine cw7 (fun gg => ?_)); try simp only [gg]) | refine cs1 hG rfl ?_ ?_ | refine cs2 hG rfl ?_ ?_ | ((first | refine rga hG (by kernel_rfl) (fun Θ K hΘ hK => ?_) | refine rgb hG (by kernel_rfl) (fun Θ K hΘ hK => ?_) | refine rgc defCl hG (by kernel_rfl) cl0 (by rfl) (by kernel_rfl) (fun Θ K hΘ hcl hn0 hK => ?_) | refine rgd defCl hG (by kernel_rfl) cl0 (by rfl) (by kernel_rfl) (fun Θ K hΘ hcl hn0 hK => ?_)); simp (maxSteps := 2000000) only [go_sem, seval, reduceCtorEq, List.append_eq, f2]) | ((first | refine Post.splitN (fun gg => ?_) (fun gg => ?_) | refine PostB.splitN (fun gg => ?_) (fun gg => ?_) | refine Post.split (fun gg => ?_) (fun gg => ?_) | refine PostB.split (fun gg => ?_) (fun gg => ?_)) <;> simp (maxSteps := 2000000) only [go_sem, seval, reduceCtorEq, List.append_eq, gg, f2]) | (refine finR (by simp only [go_sem, seval, reduceCtorEq, List.append_eq, f2]; exact rfl) ?_; simp only [go_sem, seval, reduceCtorEq, List.append_eq, f2]) | refine updL hM ?_ (by omega) | (with_reducible exact fun _ _ => rfl))
  all_goals (first | omega | (simp only [decide_eq_true_eq, decide_eq_false_iff_not] at *; omega) | (simp only [List.length_append, List.length_cons, List.length_nil] <;> omega) | exact one_bv _ | exact one_sv _ | skip)
  all_goals exact hkk
end Go.VL
set_option linter.unusedVariables false
set_option linter.unusedSimpArgs false
set_option maxRecDepth 100000
set_option maxHeartbeats 8000000
open Go.RowKit
namespace Go.VL
open Go.Proofs
theorem ChainOne_sp (p : Id32) (i : Int) (hi : inR i) (a : List Ent) (ha : ∀ e ∈ a, e.ok) (hal : a.length ≤ 140737488351232) (q : Id32) (k : Int) (hk : inR k) (b : List Ent) (hb : ∀ e ∈ b, e.ok) (hbl : b.length ≤ 140737488351232) : Rt 8 [.agg (bv p.1), .flat (.int .i64 i), .sl false 73 a.length (Ent.lC a), .agg (bv q.1), .flat (.int .i64 k), .sl false 73 b.length (Ent.lC b)] (.flat (.bool true)) := by
  have cA := alive16_sp
  have hga := great16_sp a ha hal
  have hgb := great16_sp b hb hbl
  cases ga : g16 a
  case true =>
    rw [ga] at hga
    intro M mn
    refine fnL (C := kc 118 [] []) (rs := [.tmp 12]) envOk Tryd.func8 (by kernel_rfl) rfl rfl rfl rfl rfl rfl (Low.flat _) ?_
    intro E hG hM
    repeat' (first | (with_reducible first | refine pa ?_ | refine pb ?_ | refine pc ?_ | refine nxt_n ?_ | refine nxt_e ?_ | refine nxt_r ?_ | refine blk_n ?_ | refine blk_r ?_ | refine blk_hit ?_ | refine blk_miss (by rfl) ?_ | refine pd ?_ | refine pe ?_ | refine pf ?_ | refine pg ?_ | apply And.intro) | (refine hK _ ?_; first | clear hK K hn0 hcl hΘ Θ | clear hK K hΘ Θ) | (with_reducible first | refine cw1 ?_ | refine cw2 ?_ | exact cw3 | exact cw4) | ((with_reducible first | refine cw5 (fun gg => ?_) | refine cw6 (fun gg => ?_) | refine cw7 (fun gg => ?_)); try simp only [gg]) | refine cs1 hG rfl ?_ ?_ | refine cs2 hG rfl ?_ ?_ | ((first | refine kg (cA _ _) rfl hΘ ?_ | refine kg (hga _ _) rfl hΘ ?_ | refine rga hG (by kernel_rfl) (fun Θ K hΘ hK => ?_) | refine rgb hG (by kernel_rfl) (fun Θ K hΘ hK => ?_) | refine rgc defCl hG (by kernel_rfl) cl0 (by rfl) (by kernel_rfl) (fun Θ K hΘ hcl hn0 hK => ?_) | refine rgd defCl hG (by kernel_rfl) cl0 (by rfl) (by kernel_rfl) (fun Θ K hΘ hcl hn0 hK => ?_)); simp (maxSteps := 2000000) only [go_sem, seval, reduceCtorEq, List.append_eq]) | ((first | refine Post.splitN (fun gg => ?_) (fun gg => ?_) | refine PostB.splitN (fun gg => ?_) (fun gg => ?_) | refine Post.split (fun gg => ?_) (fun gg => ?_) | refine PostB.split (fun gg => ?_) (fun gg => ?_)) <;> simp (maxSteps := 2000000) only [go_sem, seval, reduceCtorEq, List.append_eq, gg]) | (refine finR (by simp only [go_sem, seval, reduceCtorEq, List.append_eq]; exact rfl) ?_; simp only [go_sem, seval, reduceCtorEq, List.append_eq]) | refine updL hM ?_ (by omega) | (with_reducible exact fun _ _ => rfl))
    all_goals (first | omega | (simp only [decide_eq_true_eq, decide_eq_false_iff_not] at *; omega) | (simp only [List.length_append, List.length_cons, List.length_nil] <;> omega) | exact one_bv _ | exact one_sv _ | skip)
  rw [ga] at hga
  cases gb : g16 b
  case true =>
    rw [gb] at hgb
    intro M mn
    refine fnL (C := kc 118 [] []) (rs := [.tmp 12]) envOk Tryd.func8 (by kernel_rfl) rfl rfl rfl rfl rfl rfl (Low.flat _) ?_
    intro E hG hM
    repeat' (first | (with_reducible first | refine pa ?_ | refine pb ?_ | refine pc ?_ | refine nxt_n ?_ | refine nxt_e ?_ | refine nxt_r ?_ | refine blk_n ?_ | refine blk_r ?_ | refine blk_hit ?_ | refine blk_miss (by rfl) ?_ | refine pd ?_ | refine pe ?_ | refine pf ?_ | refine pg ?_ | apply And.intro) | (refine hK _ ?_; first | clear hK K hn0 hcl hΘ Θ | clear hK K hΘ Θ) | (with_reducible first | refine cw1 ?_ | refine cw2 ?_ | exact cw3 | exact cw4) | ((with_reducible first | refine cw5 (fun gg => ?_) | refine cw6 (fun gg => ?_) | refine cw7 (fun gg => ?_)); try simp only [gg]) | refine cs1 hG rfl ?_ ?_ | refine cs2 hG rfl ?_ ?_ | ((first | refine kg (cA _ _) rfl hΘ ?_ | refine kg (hga _ _) rfl hΘ ?_ | refine kg (hgb _ _) rfl hΘ ?_ | refine rga hG (by kernel_rfl) (fun Θ K hΘ hK => ?_) | refine rgb hG (by kernel_rfl) (fun Θ K hΘ hK => ?_) | refine rgc defCl hG (by kernel_rfl) cl0 (by rfl) (by kernel_rfl) (fun Θ K hΘ hcl hn0 hK => ?_) | refine rgd defCl hG (by kernel_rfl) cl0 (by rfl) (by kernel_rfl) (fun Θ K hΘ hcl hn0 hK => ?_)); simp (maxSteps := 2000000) only [go_sem, seval, reduceCtorEq, List.append_eq]) | ((first | refine Post.splitN (fun gg => ?_) (fun gg => ?_) | refine PostB.splitN (fun gg => ?_) (fun gg => ?_) | refine Post.split (fun gg => ?_) (fun gg => ?_) | refine PostB.split (fun gg => ?_) (fun gg => ?_)) <;> simp (maxSteps := 2000000) only [go_sem, seval, reduceCtorEq, List.append_eq, gg]) | (refine finR (by simp only [go_sem, seval, reduceCtorEq, List.append_eq]; exact rfl) ?_; simp only [go_sem, seval, reduceCtorEq, List.append_eq]) | refine updL hM ?_ (by omega) | (with_reducible exact fun _ _ => rfl))
    all_goals (first | omega | (simp only [decide_eq_true_eq, decide_eq_false_iff_not] at *; omega) | (simp only [List.length_append, List.length_cons, List.length_nil] <;> omega) | exact one_bv _ | exact one_sv _ | skip)
  rw [gb] at hgb
  obtain ⟨za, la⟩ := (g16_iff a).1 ga
  obtain ⟨zb, lb⟩ := (g16_iff b).1 gb
  by_cases w0 : (a.length : Int) = 0
  · have c0 := eq_true w0
    intro M mn
    refine fnL (C := kc 118 [] []) (rs := [.tmp 12]) envOk Tryd.func8 (by kernel_rfl) rfl rfl rfl rfl rfl rfl (Low.flat _) ?_
    intro E hG hM
    repeat' (first | (with_reducible first | refine pa ?_ | refine pb ?_ | refine pc ?_ | refine nxt_n ?_ | refine nxt_e ?_ | refine nxt_r ?_ | refine blk_n ?_ | refine blk_r ?_ | refine blk_hit ?_ | refine blk_miss (by rfl) ?_ | refine pd ?_ | refine pe ?_ | refine pf ?_ | refine pg ?_ | apply And.intro) | (refine hK _ ?_; first | clear hK K hn0 hcl hΘ Θ | clear hK K hΘ Θ) | (with_reducible first | refine cw1 ?_ | refine cw2 ?_ | exact cw3 | exact cw4) | ((with_reducible first | refine cw5 (fun gg => ?_) | refine cw6 (fun gg => ?_) | refine cw7 (fun gg => ?_)); try simp only [gg]) | refine cs1 hG rfl ?_ ?_ | refine cs2 hG rfl ?_ ?_ | ((first | refine kg (cA _ _) rfl hΘ ?_ | refine kg (hga _ _) rfl hΘ ?_ | refine kg (hgb _ _) rfl hΘ ?_ | refine rga hG (by kernel_rfl) (fun Θ K hΘ hK => ?_) | refine rgb hG (by kernel_rfl) (fun Θ K hΘ hK => ?_) | refine rgc defCl hG (by kernel_rfl) cl0 (by rfl) (by kernel_rfl) (fun Θ K hΘ hcl hn0 hK => ?_) | refine rgd defCl hG (by kernel_rfl) cl0 (by rfl) (by kernel_rfl) (fun Θ K hΘ hcl hn0 hK => ?_)); simp (maxSteps := 2000000) only [go_sem, seval, reduceCtorEq, List.append_eq, c0]) | ((first | refine Post.splitN (fun gg => ?_) (fun gg => ?_) | refine PostB.splitN (fun gg => ?_) (fun gg => ?_) | refine Post.split (fun gg => ?_) (fun gg => ?_) | refine PostB.split (fun gg => ?_) (fun gg => ?_)) <;> simp (maxSteps := 2000000) only [go_sem, seval, reduceCtorEq, List.append_eq, gg, c0]) | (refine finR (by simp only [go_sem, seval, reduceCtorEq, List.append_eq, c0]; exact rfl) ?_; simp only [go_sem, seval, reduceCtorEq, List.append_eq, c0]) | refine updL hM ?_ (by omega) | (with_reducible exact fun _ _ => rfl))
    all_goals (first | omega | (simp only [decide_eq_true_eq, decide_eq_false_iff_not] at *; omega) | (simp only [List.length_append, List.length_cons, List.length_nil] <;> omega) | exact one_bv _ | exact one_sv _ | skip)
  have c0 := eq_false w0
  by_cases w1 : (a.length : Int) = (b.length : Int)
  case neg =>
    have c1 := eq_false w1
    intro M mn
    refine fnL (C := kc 118 [] []) (rs := [.tmp 12]) envOk Tryd.func8 (by kernel_rfl) rfl rfl rfl rfl rfl rfl (Low.flat _) ?_
    intro E hG hM
    repeat' (first | (with_reducible first | refine pa ?_ | refine pb ?_ | refine pc ?_ | refine nxt_n ?_ | refine nxt_e ?_ | refine nxt_r ?_ | refine blk_n ?_ | refine blk_r ?_ | refine blk_hit ?_ | refine blk_miss (by rfl) ?_ | refine pd ?_ | refine pe ?_ | refine pf ?_ | refine pg ?_ | apply And.intro) | (refine hK _ ?_; first | clear hK K hn0 hcl hΘ Θ | clear hK K hΘ Θ) | (with_reducible first | refine cw1 ?_ | refine cw2 ?_ | exact cw3 | exact cw4) | ((with_reducible first | refine cw5 (fun gg => ?_) | refine cw6 (fun gg => ?_) | refine cw7 (fun gg => ?_)); try simp only [gg]) | refine cs1 hG rfl ?_ ?_ | refine cs2 hG rfl ?_ ?_ | ((first | refine kg (cA _ _) rfl hΘ ?_ | refine kg (hga _ _) rfl hΘ ?_ | refine kg (hgb _ _) rfl hΘ ?_ | refine rga hG (by kernel_rfl) (fun Θ K hΘ hK => ?_) | refine rgb hG (by kernel_rfl) (fun Θ K hΘ hK => ?_) | refine rgc defCl hG (by kernel_rfl) cl0 (by rfl) (by kernel_rfl) (fun Θ K hΘ hcl hn0 hK => ?_) | refine rgd defCl hG (by kernel_rfl) cl0 (by rfl) (by kernel_rfl) (fun Θ K hΘ hcl hn0 hK => ?_)); simp (maxSteps := 2000000) only [go_sem, seval, reduceCtorEq, List.append_eq, c0, c1]) | ((first | refine Post.splitN (fun gg => ?_) (fun gg => ?_) | refine PostB.splitN (fun gg => ?_) (fun gg => ?_) | refine Post.split (fun gg => ?_) (fun gg => ?_) | refine PostB.split (fun gg => ?_) (fun gg => ?_)) <;> simp (maxSteps := 2000000) only [go_sem, seval, reduceCtorEq, List.append_eq, gg, c0, c1]) | (refine finR (by simp only [go_sem, seval, reduceCtorEq, List.append_eq, c0, c1]; exact rfl) ?_; simp only [go_sem, seval, reduceCtorEq, List.append_eq, c0, c1]) | refine updL hM ?_ (by omega) | (with_reducible exact fun _ _ => rfl))
    all_goals (first | omega | (simp only [decide_eq_true_eq, decide_eq_false_iff_not] at *; omega) | (simp only [List.length_append, List.length_cons, List.length_nil] <;> omega) | exact one_bv _ | exact one_sv _ | skip)
  have c1 := eq_true w1
  by_cases w2 : i < 1
  · have c2 := eq_true w2
    intro M mn
    refine fnL (C := kc 118 [] []) (rs := [.tmp 12]) envOk Tryd.func8 (by kernel_rfl) rfl rfl rfl rfl rfl rfl (Low.flat _) ?_
    intro E hG hM
    repeat' (first | (with_reducible first | refine pa ?_ | refine pb ?_ | refine pc ?_ | refine nxt_n ?_ | refine nxt_e ?_ | refine nxt_r ?_ | refine blk_n ?_ | refine blk_r ?_ | refine blk_hit ?_ | refine blk_miss (by rfl) ?_ | refine pd ?_ | refine pe ?_ | refine pf ?_ | refine pg ?_ | apply And.intro) | (refine hK _ ?_; first | clear hK K hn0 hcl hΘ Θ | clear hK K hΘ Θ) | (with_reducible first | refine cw1 ?_ | refine cw2 ?_ | exact cw3 | exact cw4) | ((with_reducible first | refine cw5 (fun gg => ?_) | refine cw6 (fun gg => ?_) | refine cw7 (fun gg => ?_)); try simp only [gg]) | refine cs1 hG rfl ?_ ?_ | refine cs2 hG rfl ?_ ?_ | ((first | refine kg (cA _ _) rfl hΘ ?_ | refine kg (hga _ _) rfl hΘ ?_ | refine kg (hgb _ _) rfl hΘ ?_ | refine rga hG (by kernel_rfl) (fun Θ K hΘ hK => ?_) | refine rgb hG (by kernel_rfl) (fun Θ K hΘ hK => ?_) | refine rgc defCl hG (by kernel_rfl) cl0 (by rfl) (by kernel_rfl) (fun Θ K hΘ hcl hn0 hK => ?_) | refine rgd defCl hG (by kernel_rfl) cl0 (by rfl) (by kernel_rfl) (fun Θ K hΘ hcl hn0 hK => ?_)); simp (maxSteps := 2000000) only [go_sem, seval, reduceCtorEq, List.append_eq, c0, c1, c2]) | ((first | refine Post.splitN (fun gg => ?_) (fun gg => ?_) | refine PostB.splitN (fun gg => ?_) (fun gg => ?_) | refine Post.split (fun gg => ?_) (fun gg => ?_) | refine PostB.split (fun gg => ?_) (fun gg => ?_)) <;> simp (maxSteps := 2000000) only [go_sem, seval, reduceCtorEq, List.append_eq, gg, c0, c1, c2]) | (refine finR (by simp only [go_sem, seval, reduceCtorEq, List.append_eq, c0, c1, c2]; exact rfl) ?_; simp only [go_sem, seval, reduceCtorEq, List.append_eq, c0, c1, c2]) | refine updL hM ?_ (by omega) | (with_reducible exact fun _ _ => rfl))
    all_goals (first | omega | (simp only [decide_eq_true_eq, decide_eq_false_iff_not] at *; omega) | (simp only [List.length_append, List.length_cons, List.length_nil] <;> omega) | exact one_bv _ | exact one_sv _ | skip)
  have c2 := eq_false w2
  by_cases w3 : k < 1
  · have c3 := eq_true w3
    intro M mn
    refine fnL (C := kc 118 [] []) (rs := [.tmp 12]) envOk Tryd.func8 (by kernel_rfl) rfl rfl rfl rfl rfl rfl (Low.flat _) ?_
    intro E hG hM
    repeat' (first | (with_reducible first | refine pa ?_ | refine pb ?_ | refine pc ?_ | refine nxt_n ?_ | refine nxt_e ?_ | refine nxt_r ?_ | refine blk_n ?_ | refine blk_r ?_ | refine blk_hit ?_ | refine blk_miss (by rfl) ?_ | refine pd ?_ | refine pe ?_ | refine pf ?_ | refine pg ?_ | apply And.intro) | (refine hK _ ?_; first | clear hK K hn0 hcl hΘ Θ | clear hK K hΘ Θ) | (with_reducible first | refine cw1 ?_ | refine cw2 ?_ | exact cw3 | exact cw4) | ((with_reducible first | refine cw5 (fun gg => ?_) | refine cw6 (fun gg => ?_) | refine cw7 (fun gg => ?_)); try simp only [gg]) | refine cs1 hG rfl ?_ ?_ | refine cs2 hG rfl ?_ ?_ | ((first | refine kg (cA _ _) rfl hΘ ?_ | refine kg (hga _ _) rfl hΘ ?_ | refine kg (hgb _ _) rfl hΘ ?_ | refine rga hG (by kernel_rfl) (fun Θ K hΘ hK => ?_) | refine rgb hG (by kernel_rfl) (fun Θ K hΘ hK => ?_) | refine rgc defCl hG (by kernel_rfl) cl0 (by rfl) (by kernel_rfl) (fun Θ K hΘ hcl hn0 hK => ?_) | refine rgd defCl hG (by kernel_rfl) cl0 (by rfl) (by kernel_rfl) (fun Θ K hΘ hcl hn0 hK => ?_)); simp (maxSteps := 2000000) only [go_sem, seval, reduceCtorEq, List.append_eq, c0, c1, c2, c3]) | ((first | refine Post.splitN (fun gg => ?_) (fun gg => ?_) | refine PostB.splitN (fun gg => ?_) (fun gg => ?_) | refine Post.split (fun gg => ?_) (fun gg => ?_) | refine PostB.split (fun gg => ?_) (fun gg => ?_)) <;> simp (maxSteps := 2000000) only [go_sem, seval, reduceCtorEq, List.append_eq, gg, c0, c1, c2, c3]) | (refine finR (by simp only [go_sem, seval, reduceCtorEq, List.append_eq, c0, c1, c2, c3]; exact rfl) ?_; simp only [go_sem, seval, reduceCtorEq, List.append_eq, c0, c1, c2, c3]) | refine updL hM ?_ (by omega) | (with_reducible exact fun _ _ => rfl))
    all_goals (first | omega | (simp only [decide_eq_true_eq, decide_eq_false_iff_not] at *; omega) | (simp only [List.length_append, List.length_cons, List.length_nil] <;> omega) | exact one_bv _ | exact one_sv _ | skip)
  have c3 := eq_false w3
  by_cases w4 : i > 1152921504606846976
  · have c4 := eq_true w4
    intro M mn
    refine fnL (C := kc 118 [] []) (rs := [.tmp 12]) envOk Tryd.func8 (by kernel_rfl) rfl rfl rfl rfl rfl rfl (Low.flat _) ?_
    intro E hG hM
    repeat' (first | (with_reducible first | refine pa ?_ | refine pb ?_ | refine pc ?_ | refine nxt_n ?_ | refine nxt_e ?_ | refine nxt_r ?_ | refine blk_n ?_ | refine blk_r ?_ | refine blk_hit ?_ | refine blk_miss (by rfl) ?_ | refine pd ?_ | refine pe ?_ | refine pf ?_ | refine pg ?_ | apply And.intro) | (refine hK _ ?_; first | clear hK K hn0 hcl hΘ Θ | clear hK K hΘ Θ) | (with_reducible first | refine cw1 ?_ | refine cw2 ?_ | exact cw3 | exact cw4) | ((with_reducible first | refine cw5 (fun gg => ?_) | refine cw6 (fun gg => ?_) | refine cw7 (fun gg => ?_)); try simp only [gg]) | refine cs1 hG rfl ?_ ?_ | refine cs2 hG rfl ?_ ?_ | ((first | refine kg (cA _ _) rfl hΘ ?_ | refine kg (hga _ _) rfl hΘ ?_ | refine kg (hgb _ _) rfl hΘ ?_ | refine rga hG (by kernel_rfl) (fun Θ K hΘ hK => ?_) | refine rgb hG (by kernel_rfl) (fun Θ K hΘ hK => ?_) | refine rgc defCl hG (by kernel_rfl) cl0 (by rfl) (by kernel_rfl) (fun Θ K hΘ hcl hn0 hK => ?_) | refine rgd defCl hG (by kernel_rfl) cl0 (by rfl) (by kernel_rfl) (fun Θ K hΘ hcl hn0 hK => ?_)); simp (maxSteps := 2000000) only [go_sem, seval, reduceCtorEq, List.append_eq, c0, c1, c2, c3, c4]) | ((first | refine Post.splitN (fun gg => ?_) (fun gg => ?_) | refine PostB.splitN (fun gg => ?_) (fun gg => ?_) | refine Post.split (fun gg => ?_) (fun gg => ?_) | refine PostB.split (fun gg => ?_) (fun gg => ?_)) <;> simp (maxSteps := 2000000) only [go_sem, seval, reduceCtorEq, List.append_eq, gg, c0, c1, c2, c3, c4]) | (refine finR (by simp only [go_sem, seval, reduceCtorEq, List.append_eq, c0, c1, c2, c3, c4]; exact rfl) ?_; simp only [go_sem, seval, reduceCtorEq, List.append_eq, c0, c1, c2, c3, c4]) | refine updL hM ?_ (by omega) | (with_reducible exact fun _ _ => rfl))
    all_goals (first | omega | (simp only [decide_eq_true_eq, decide_eq_false_iff_not] at *; omega) | (simp only [List.length_append, List.length_cons, List.length_nil] <;> omega) | exact one_bv _ | exact one_sv _ | skip)
  have c4 := eq_false w4
  by_cases w5 : k > 1152921504606846976
  · have c5 := eq_true w5
    intro M mn
    refine fnL (C := kc 118 [] []) (rs := [.tmp 12]) envOk Tryd.func8 (by kernel_rfl) rfl rfl rfl rfl rfl rfl (Low.flat _) ?_
    intro E hG hM
    repeat' (first | (with_reducible first | refine pa ?_ | refine pb ?_ | refine pc ?_ | refine nxt_n ?_ | refine nxt_e ?_ | refine nxt_r ?_ | refine blk_n ?_ | refine blk_r ?_ | refine blk_hit ?_ | refine blk_miss (by rfl) ?_ | refine pd ?_ | refine pe ?_ | refine pf ?_ | refine pg ?_ | apply And.intro) | (refine hK _ ?_; first | clear hK K hn0 hcl hΘ Θ | clear hK K hΘ Θ) | (with_reducible first | refine cw1 ?_ | refine cw2 ?_ | exact cw3 | exact cw4) | ((with_reducible first | refine cw5 (fun gg => ?_) | refine cw6 (fun gg => ?_) | refine cw7 (fun gg => ?_)); try simp only [gg]) | refine cs1 hG rfl ?_ ?_ | refine cs2 hG rfl ?_ ?_ | ((first | refine kg (cA _ _) rfl hΘ ?_ | refine kg (hga _ _) rfl hΘ ?_ | refine kg (hgb _ _) rfl hΘ ?_ | refine rga hG (by kernel_rfl) (fun Θ K hΘ hK => ?_) | refine rgb hG (by kernel_rfl) (fun Θ K hΘ hK => ?_) | refine rgc defCl hG (by kernel_rfl) cl0 (by rfl) (by kernel_rfl) (fun Θ K hΘ hcl hn0 hK => ?_) | refine rgd defCl hG (by kernel_rfl) cl0 (by rfl) (by kernel_rfl) (fun Θ K hΘ hcl hn0 hK => ?_)); simp (maxSteps := 2000000) only [go_sem, seval, reduceCtorEq, List.append_eq, c0, c1, c2, c3, c4, c5]) | ((first | refine Post.splitN (fun gg => ?_) (fun gg => ?_) | refine PostB.splitN (fun gg => ?_) (fun gg => ?_) | refine Post.split (fun gg => ?_) (fun gg => ?_) | refine PostB.split (fun gg => ?_) (fun gg => ?_)) <;> simp (maxSteps := 2000000) only [go_sem, seval, reduceCtorEq, List.append_eq, gg, c0, c1, c2, c3, c4, c5]) | (refine finR (by simp only [go_sem, seval, reduceCtorEq, List.append_eq, c0, c1, c2, c3, c4, c5]; exact rfl) ?_; simp only [go_sem, seval, reduceCtorEq, List.append_eq, c0, c1, c2, c3, c4, c5]) | refine updL hM ?_ (by omega) | (with_reducible exact fun _ _ => rfl))
    all_goals (first | omega | (simp only [decide_eq_true_eq, decide_eq_false_iff_not] at *; omega) | (simp only [List.length_append, List.length_cons, List.length_nil] <;> omega) | exact one_bv _ | exact one_sv _ | skip)
  have c5 := eq_false w5
  have hl : a.length = b.length := by omega
  have tbp : ∀ x : Id32, (bv x.1).take 32 = bv x.1 := take_bv32
  have hla := Ent.l_len a
  have hlb := Ent.l_len b
  intro M mn
  refine fnL (C := kc 118 [] []) (rs := [.tmp 12]) envOk Tryd.func8 (by kernel_rfl) rfl rfl rfl rfl rfl rfl (Low.flat _) ?_
  intro E hG hM
  repeat' (first | (with_reducible first | refine pa ?_ | refine pb ?_ | refine pc ?_ | refine nxt_n ?_ | refine nxt_e ?_ | refine nxt_r ?_ | refine blk_n ?_ | refine blk_r ?_ | refine blk_hit ?_ | refine blk_miss (by rfl) ?_ | refine pd ?_ | refine pe ?_ | refine pf ?_ | refine pg ?_ | apply And.intro) | (refine hK _ ?_; first | clear hK K hn0 hcl hΘ Θ | clear hK K hΘ Θ) | (with_reducible first | refine cw1 ?_ | refine cw2 ?_ | exact cw3 | exact cw4) | ((with_reducible first | refine cw5 (fun gg => ?_) | refine cw6 (fun gg => ?_) | refine cw7 (fun gg => ?_)); try simp only [gg]) | refine cs1 hG rfl ?_ ?_ | refine cs2 hG rfl ?_ ?_ | ((fail_if_success (with_reducible first | show WC _ _ _ (.region 6 _ _) _ _ | show WC _ _ _ (.seq (.region 6 _ _) _) _ _)); (first | refine kg (cA _ _) rfl hΘ ?_ | refine kg (hga _ _) rfl hΘ ?_ | refine kg (hgb _ _) rfl hΘ ?_ | refine rga hG (by kernel_rfl) (fun Θ K hΘ hK => ?_) | refine rgb hG (by kernel_rfl) (fun Θ K hΘ hK => ?_) | refine rgc defCl hG (by kernel_rfl) cl0 (by rfl) (by kernel_rfl) (fun Θ K hΘ hcl hn0 hK => ?_) | refine rgd defCl hG (by kernel_rfl) cl0 (by rfl) (by kernel_rfl) (fun Θ K hΘ hcl hn0 hK => ?_)); simp (maxSteps := 2000000) only [go_sem, seval, reduceCtorEq, List.append_eq, c0, c1, c2, c3, c4, c5]) | ((first | refine Post.splitN (fun gg => ?_) (fun gg => ?_) | refine PostB.splitN (fun gg => ?_) (fun gg => ?_) | refine Post.split (fun gg => ?_) (fun gg => ?_) | refine PostB.split (fun gg => ?_) (fun gg => ?_)) <;> simp (maxSteps := 2000000) only [go_sem, seval, reduceCtorEq, List.append_eq, gg, c0, c1, c2, c3, c4, c5]) | (refine finR (by simp only [go_sem, seval, reduceCtorEq, List.append_eq, c0, c1, c2, c3, c4, c5]; exact rfl) ?_; simp only [go_sem, seval, reduceCtorEq, List.append_eq, c0, c1, c2, c3, c4, c5]) | refine updL hM ?_ (by omega) | (with_reducible exact fun _ _ => rfl))
  all_goals (first | omega | (simp only [decide_eq_true_eq, decide_eq_false_iff_not] at *; omega) | (simp only [List.length_append, List.length_cons, List.length_nil] <;> omega) | exact one_bv _ | exact one_sv _ | skip)
  obtain ⟨M4, hM4⟩ : ∃ m : Mem, m = upd (upd M mn (some (bv p.1))) (mn + 1) (some (bv q.1)) := ⟨_, rfl⟩
  have r4 : M4 mn = some (bv p.1) := by rw [hM4, upd_ne _ _ (by omega), upd_same]
  have r5 : M4 (mn + 1) = some (bv q.1) := by rw [hM4, upd_same]
  have hk4 : ∀ b, M b ≠ none → M4 b = M b := fun b hb2 => by
    have hlt : b < mn := Nat.lt_of_not_le fun k => hb2 (hM b k)
    rw [hM4, upd_ne _ _ (by omega), upd_ne _ _ (by omega)]
  rw [← hM4]
  refine WC.loopA (fun j : Nat => ⟨[(55, .flat (.int .i64 j)), (54, .flat (.int .i64 a.length)), (9, .bp (mn + 1) 0), (6, .bp mn 0), (1, .flat (.int .i64 i)), (2, .sl false 73 a.length (Ent.lC a)), (4, .flat (.int .i64 k)), (5, .sl false 73 b.length (Ent.lC b))], M4, mn + 1 + 1⟩) (fun j => a.length - j) (fun j => j ≤ a.length ∧ ∀ j', j' < j → (a.getD j' ent0).good = true ∧ (b.getD j' ent0).good = true) 0 ⟨by omega, fun j' h => absurd h (by omega)⟩ (sbs (by simp (maxSteps := 2000000) only [go_sem, seval, reduceCtorEq, List.append_eq]) rfl rfl) ?_
  rintro j ⟨hj, hjg⟩
  by_cases h : j < a.length
  · have f1 : ((j : Int) < (a.length : Int)) = True := eq_true (by omega)
    have g1 : (j < a.length) = True := eq_true h
    have g2 : (j < b.length) = True := eq_true (by omega)
    have v1 := wi1 (n := j) (by omega)
    have ea : (a.getD j ent0).ok := ha _ (by rw [List.getD_eq_getElem?_getD, List.getElem?_eq_getElem h]; exact List.getElem_mem _)
    have eb : (b.getD j ent0).ok := hb _ (by rw [List.getD_eq_getElem?_getD, List.getElem?_eq_getElem (by omega)]; exact List.getElem_mem _)
    have h1 := Ent.l_get a ent0 j h
    have h2 := Ent.l_get b ent0 j (by omega)
    have t1 := Ent.tk (a.getD j ent0)
    have t2 := Ent.tk (b.getD j ent0)
    have g3 : (j * 73 + 73 ≤ a.length * 73) = True := eq_true (by omega)
    have g4 : (j * 73 + 73 ≤ b.length * 73) = True := eq_true (by omega)
    have cG1 := R15Good_sp (a.getD j ent0) ea
    have cG2 := R15Good_sp (b.getD j ent0) eb
    have hnx : (a.getD j ent0).good = true → (b.getD j ent0).good = true → ∀ j', j' < j + 1 → (a.getD j' ent0).good = true ∧ (b.getD j' ent0).good = true := fun x y j' h3 => by
      by_cases h4 : j' = j
      · rw [h4]; exact ⟨x, y⟩
      · exact hjg j' (by omega)
    cases q1 : (a.getD j ent0).good
    · rw [q1] at cG1
      repeat' (first | (with_reducible first | refine pa ?_ | refine pb ?_ | refine pc ?_ | refine nxt_n ?_ | refine nxt_e ?_ | refine nxt_r ?_ | refine blk_n ?_ | refine blk_r ?_ | refine blk_hit ?_ | refine blk_miss (by rfl) ?_ | refine pd ?_ | refine pe ?_ | refine pf ?_ | refine pg ?_ | apply And.intro) | (refine hK _ ?_; first | clear hK K hn0 hcl hΘ Θ | clear hK K hΘ Θ) | (with_reducible first | refine cw1 ?_ | refine cw2 ?_ | exact cw3 | exact cw4) | ((with_reducible first | refine cw5 (fun gg => ?_) | refine cw6 (fun gg => ?_) | refine cw7 (fun gg => ?_)); try simp only [gg]) | refine cs1 hG rfl ?_ ?_ | refine cs2 hG rfl ?_ ?_ | ((first | refine kg (cG1 _ _) rfl hΘ ?_ | refine rga hG (by kernel_rfl) (fun Θ K hΘ hK => ?_) | refine rgb hG (by kernel_rfl) (fun Θ K hΘ hK => ?_) | refine rgc defCl hG (by kernel_rfl) cl0 (by rfl) (by kernel_rfl) (fun Θ K hΘ hcl hn0 hK => ?_) | refine rgd defCl hG (by kernel_rfl) cl0 (by rfl) (by kernel_rfl) (fun Θ K hΘ hcl hn0 hK => ?_)); simp (maxSteps := 2000000) only [go_sem, seval, reduceCtorEq, List.append_eq, f1, g1, g2, v1, h1, h2, t1, t2, g3, g4, hla, hlb]) | ((first | refine Post.splitN (fun gg => ?_) (fun gg => ?_) | refine PostB.splitN (fun gg => ?_) (fun gg => ?_) | refine Post.split (fun gg => ?_) (fun gg => ?_) | refine PostB.split (fun gg => ?_) (fun gg => ?_)) <;> simp (maxSteps := 2000000) only [go_sem, seval, reduceCtorEq, List.append_eq, gg, f1, g1, g2, v1, h1, h2, t1, t2, g3, g4, hla, hlb]) | (refine finR (by simp only [go_sem, seval, reduceCtorEq, List.append_eq, f1, g1, g2, v1, h1, h2, t1, t2, g3, g4, hla, hlb]; exact rfl) ?_; simp only [go_sem, seval, reduceCtorEq, List.append_eq, f1, g1, g2, v1, h1, h2, t1, t2, g3, g4, hla, hlb]) | refine updL hM ?_ (by omega) | (with_reducible exact fun _ _ => rfl))
      all_goals (first | omega | (simp only [decide_eq_true_eq, decide_eq_false_iff_not] at *; omega) | (simp only [List.length_append, List.length_cons, List.length_nil] <;> omega) | exact one_bv _ | exact one_sv _ | skip)
      all_goals exact hk4
    rw [q1] at cG1
    cases q2 : (b.getD j ent0).good
    · rw [q2] at cG2
      repeat' (first | (with_reducible first | refine pa ?_ | refine pb ?_ | refine pc ?_ | refine nxt_n ?_ | refine nxt_e ?_ | refine nxt_r ?_ | refine blk_n ?_ | refine blk_r ?_ | refine blk_hit ?_ | refine blk_miss (by rfl) ?_ | refine pd ?_ | refine pe ?_ | refine pf ?_ | refine pg ?_ | apply And.intro) | (refine hK _ ?_; first | clear hK K hn0 hcl hΘ Θ | clear hK K hΘ Θ) | (with_reducible first | refine cw1 ?_ | refine cw2 ?_ | exact cw3 | exact cw4) | ((with_reducible first | refine cw5 (fun gg => ?_) | refine cw6 (fun gg => ?_) | refine cw7 (fun gg => ?_)); try simp only [gg]) | refine cs1 hG rfl ?_ ?_ | refine cs2 hG rfl ?_ ?_ | ((first | refine kg (cG1 _ _) rfl hΘ ?_ | refine kg (cG2 _ _) rfl hΘ ?_ | refine rga hG (by kernel_rfl) (fun Θ K hΘ hK => ?_) | refine rgb hG (by kernel_rfl) (fun Θ K hΘ hK => ?_) | refine rgc defCl hG (by kernel_rfl) cl0 (by rfl) (by kernel_rfl) (fun Θ K hΘ hcl hn0 hK => ?_) | refine rgd defCl hG (by kernel_rfl) cl0 (by rfl) (by kernel_rfl) (fun Θ K hΘ hcl hn0 hK => ?_)); simp (maxSteps := 2000000) only [go_sem, seval, reduceCtorEq, List.append_eq, f1, g1, g2, v1, h1, h2, t1, t2, g3, g4, hla, hlb]) | ((first | refine Post.splitN (fun gg => ?_) (fun gg => ?_) | refine PostB.splitN (fun gg => ?_) (fun gg => ?_) | refine Post.split (fun gg => ?_) (fun gg => ?_) | refine PostB.split (fun gg => ?_) (fun gg => ?_)) <;> simp (maxSteps := 2000000) only [go_sem, seval, reduceCtorEq, List.append_eq, gg, f1, g1, g2, v1, h1, h2, t1, t2, g3, g4, hla, hlb]) | (refine finR (by simp only [go_sem, seval, reduceCtorEq, List.append_eq, f1, g1, g2, v1, h1, h2, t1, t2, g3, g4, hla, hlb]; exact rfl) ?_; simp only [go_sem, seval, reduceCtorEq, List.append_eq, f1, g1, g2, v1, h1, h2, t1, t2, g3, g4, hla, hlb]) | refine updL hM ?_ (by omega) | (with_reducible exact fun _ _ => rfl))
      all_goals (first | omega | (simp only [decide_eq_true_eq, decide_eq_false_iff_not] at *; omega) | (simp only [List.length_append, List.length_cons, List.length_nil] <;> omega) | exact one_bv _ | exact one_sv _ | skip)
      all_goals exact hk4
    rw [q2] at cG2
    repeat' (first | (with_reducible first | refine pa ?_ | refine pb ?_ | refine pc ?_ | refine nxt_n ?_ | refine nxt_e ?_ | refine nxt_r ?_ | refine blk_n ?_ | refine blk_r ?_ | refine blk_hit ?_ | refine blk_miss (by rfl) ?_ | refine pd ?_ | refine pe ?_ | refine pf ?_ | refine pg ?_ | apply And.intro) | (refine hK _ ?_; first | clear hK K hn0 hcl hΘ Θ | clear hK K hΘ Θ) | (with_reducible first | refine cw1 ?_ | refine cw2 ?_ | exact cw3 | exact cw4) | ((with_reducible first | refine cw5 (fun gg => ?_) | refine cw6 (fun gg => ?_) | refine cw7 (fun gg => ?_)); try simp only [gg]) | refine cs1 hG rfl ?_ ?_ | refine cs2 hG rfl ?_ ?_ | ((first | refine kg (cG1 _ _) rfl hΘ ?_ | refine kg (cG2 _ _) rfl hΘ ?_ | refine rga hG (by kernel_rfl) (fun Θ K hΘ hK => ?_) | refine rgb hG (by kernel_rfl) (fun Θ K hΘ hK => ?_) | refine rgc defCl hG (by kernel_rfl) cl0 (by rfl) (by kernel_rfl) (fun Θ K hΘ hcl hn0 hK => ?_) | refine rgd defCl hG (by kernel_rfl) cl0 (by rfl) (by kernel_rfl) (fun Θ K hΘ hcl hn0 hK => ?_)); simp (maxSteps := 2000000) only [go_sem, seval, reduceCtorEq, List.append_eq, f1, g1, g2, v1, h1, h2, t1, t2, g3, g4, hla, hlb]) | ((first | refine Post.splitN (fun gg => ?_) (fun gg => ?_) | refine PostB.splitN (fun gg => ?_) (fun gg => ?_) | refine Post.split (fun gg => ?_) (fun gg => ?_) | refine PostB.split (fun gg => ?_) (fun gg => ?_)) <;> simp (maxSteps := 2000000) only [go_sem, seval, reduceCtorEq, List.append_eq, gg, f1, g1, g2, v1, h1, h2, t1, t2, g3, g4, hla, hlb]) | (refine finR (by simp only [go_sem, seval, reduceCtorEq, List.append_eq, f1, g1, g2, v1, h1, h2, t1, t2, g3, g4, hla, hlb]; exact rfl) ?_; simp only [go_sem, seval, reduceCtorEq, List.append_eq, f1, g1, g2, v1, h1, h2, t1, t2, g3, g4, hla, hlb]) | refine updL hM ?_ (by omega) | (with_reducible exact fun _ _ => rfl))
    all_goals (first | omega | (simp only [decide_eq_true_eq, decide_eq_false_iff_not] at *; omega) | (simp only [List.length_append, List.length_cons, List.length_nil] <;> omega) | exact one_bv _ | exact one_sv _ | skip)
    exact ⟨j + 1, ⟨by omega, hnx q1 q2⟩, by omega, (sbs (by simp (maxSteps := 2000000) only [go_sem, seval, reduceCtorEq, List.append_eq]) rfl rfl)⟩
  have f1 : ((j : Int) < (a.length : Int)) = False := eq_false (by omega)
  have hga' : ∀ e ∈ a, e.good = true := fun e he => by
    obtain ⟨n, hn, rfl⟩ := List.getElem_of_mem he
    have := (hjg n (by omega)).1
    rwa [List.getD_eq_getElem?_getD, List.getElem?_eq_getElem hn] at this
  have hgb' : ∀ e ∈ b, e.good = true := fun e he => by
    obtain ⟨n, hn, rfl⟩ := List.getElem_of_mem he
    have := (hjg n (by omega)).2
    rwa [List.getD_eq_getElem?_getD, List.getElem?_eq_getElem hn] at this
  have cW1 := CWalk_sp p i a ha (by omega) hi (by omega)
  have cW2 := CWalk_sp q k b hb (by omega) hk (by omega)
  have cS := R15Same_sp a b ha hb (by omega) (by omega)
  have cC := Clash_sp p i a q k b ha hb la lb hi hk (by omega) (by omega)
  have hlaw := one_law p q i k a b hl (by omega) la (by omega) (by omega) (by omega) (by omega) ha hb hga' hgb'
  have w1 := ids_len (walkL p i a)
  have w2 := ids_len (walkL q k b)
  rw [walkL_len] at w1 w2
  have x1 := ids_get (walkL p i a) (a.length - 1) (by rw [walkL_len]; omega)
  have x2 := ids_get (walkL q k b) (b.length - 1) (by rw [walkL_len]; omega)
  have y1 := walk_last p i a a.length (by omega) (Nat.le_refl _)
  have y2 := walk_last q k b b.length (by omega) (Nat.le_refl _)
  rw [List.take_length] at y1 y2
  rw [y1] at x1
  rw [y2] at x2
  have v1 : IntKind.i64.wrap ((a.length : Int) - 1) = ((a.length - 1 : Nat) : Int) := by rw [wi (by omega) (by omega)]; omega
  have v2 : IntKind.i64.wrap ((b.length : Int) - 1) = ((b.length - 1 : Nat) : Int) := by rw [wi (by omega) (by omega)]; omega
  have g1 : (a.length - 1 < a.length) = True := eq_true (by omega)
  have g2 : (b.length - 1 < b.length) = True := eq_true (by omega)
  have g3 : ((a.length - 1) * 32 + 32 ≤ a.length * 32) = True := eq_true (by omega)
  have g4 : ((b.length - 1) * 32 + 32 ≤ b.length * 32) = True := eq_true (by omega)
  by_cases s1 : p = q ∧ i = k ∧ a = b
  · obtain ⟨s1, s2, s3⟩ := s1
    have d1 : decide (p = q) = true := decide_eq_true s1
    have d2 : (i = k) = True := eq_true s2
    have d3 : decide (a = b) = true := decide_eq_true s3
    have d4 : decide (lastL p i a = lastL q k b) = true := decide_eq_true (by rw [s1, s2, s3])
    rw [d3] at cS
    repeat' (first | (with_reducible first | refine pa ?_ | refine pb ?_ | refine pc ?_ | refine nxt_n ?_ | refine nxt_e ?_ | refine nxt_r ?_ | refine blk_n ?_ | refine blk_r ?_ | refine blk_hit ?_ | refine blk_miss (by rfl) ?_ | refine pd ?_ | refine pe ?_ | refine pf ?_ | refine pg ?_ | apply And.intro) | (refine hK _ ?_; first | clear hK K hn0 hcl hΘ Θ | clear hK K hΘ Θ) | (with_reducible first | refine cw1 ?_ | refine cw2 ?_ | exact cw3 | exact cw4) | ((with_reducible first | refine cw5 (fun gg => ?_) | refine cw6 (fun gg => ?_) | refine cw7 (fun gg => ?_)); try simp only [gg]) | refine cs1 hG rfl ?_ ?_ | refine cs2 hG rfl ?_ ?_ | ((first | refine kg (cS _ _) rfl hΘ ?_ | refine kf (fun M n => cW1 M n) rfl (by decide) cl0 hΘ hcl hn0 ?_ | refine kf (fun M n => cW2 M n) rfl (by decide) cl0 hΘ hcl hn0 ?_ | refine kf (fun M n => cC M n) rfl (by decide) cl0 hΘ hcl hn0 ?_ | refine rga hG (by kernel_rfl) (fun Θ K hΘ hK => ?_) | refine rgb hG (by kernel_rfl) (fun Θ K hΘ hK => ?_) | refine rgc defCl hG (by kernel_rfl) cl0 (by rfl) (by kernel_rfl) (fun Θ K hΘ hcl hn0 hK => ?_) | refine rgd defCl hG (by kernel_rfl) cl0 (by rfl) (by kernel_rfl) (fun Θ K hΘ hcl hn0 hK => ?_)); simp (maxSteps := 2000000) only [go_sem, seval, reduceCtorEq, List.append_eq, f1, r4, r5, tbp, d1, d2, d4, v1, v2, g1, g2, g3, g4, w1, w2, x1, x2]) | ((first | refine Post.splitN (fun gg => ?_) (fun gg => ?_) | refine PostB.splitN (fun gg => ?_) (fun gg => ?_) | refine Post.split (fun gg => ?_) (fun gg => ?_) | refine PostB.split (fun gg => ?_) (fun gg => ?_)) <;> simp (maxSteps := 2000000) only [go_sem, seval, reduceCtorEq, List.append_eq, gg, f1, r4, r5, tbp, d1, d2, d4, v1, v2, g1, g2, g3, g4, w1, w2, x1, x2]) | (refine finR (by simp only [go_sem, seval, reduceCtorEq, List.append_eq, f1, r4, r5, tbp, d1, d2, d4, v1, v2, g1, g2, g3, g4, w1, w2, x1, x2]; exact rfl) ?_; simp only [go_sem, seval, reduceCtorEq, List.append_eq, f1, r4, r5, tbp, d1, d2, d4, v1, v2, g1, g2, g3, g4, w1, w2, x1, x2]) | refine updL hM ?_ (by omega) | (with_reducible exact fun _ _ => rfl))
    all_goals (first | omega | (simp only [decide_eq_true_eq, decide_eq_false_iff_not] at *; omega) | (simp only [List.length_append, List.length_cons, List.length_nil] <;> omega) | exact one_bv _ | exact one_sv _ | skip)
    all_goals exact hk4
  have hS : (p = q → i = k → a = b → False) := fun x y z => s1 ⟨x, y, z⟩
  have hcl : lastL p i a = lastL q k b → clB (txL p i a ++ txL q k b) = true := fun x => (hlaw x).resolve_left s1
  by_cases s1 : p = q
  case neg =>
    have d1 : decide (p = q) = false := decide_eq_false s1
    by_cases e : lastL p i a = lastL q k b
    · have d4 : decide (lastL p i a = lastL q k b) = true := decide_eq_true e
      rw [hcl e] at cC
      repeat' (first | (with_reducible first | refine pa ?_ | refine pb ?_ | refine pc ?_ | refine nxt_n ?_ | refine nxt_e ?_ | refine nxt_r ?_ | refine blk_n ?_ | refine blk_r ?_ | refine blk_hit ?_ | refine blk_miss (by rfl) ?_ | refine pd ?_ | refine pe ?_ | refine pf ?_ | refine pg ?_ | apply And.intro) | (refine hK _ ?_; first | clear hK K hn0 hcl hΘ Θ | clear hK K hΘ Θ) | (with_reducible first | refine cw1 ?_ | refine cw2 ?_ | exact cw3 | exact cw4) | ((with_reducible first | refine cw5 (fun gg => ?_) | refine cw6 (fun gg => ?_) | refine cw7 (fun gg => ?_)); try simp only [gg]) | refine cs1 hG rfl ?_ ?_ | refine cs2 hG rfl ?_ ?_ | ((first | refine kf (fun M n => cW1 M n) rfl (by decide) cl0 hΘ hcl hn0 ?_ | refine kf (fun M n => cW2 M n) rfl (by decide) cl0 hΘ hcl hn0 ?_ | refine kf (fun M n => cC M n) rfl (by decide) cl0 hΘ hcl hn0 ?_ | refine rga hG (by kernel_rfl) (fun Θ K hΘ hK => ?_) | refine rgb hG (by kernel_rfl) (fun Θ K hΘ hK => ?_) | refine rgc defCl hG (by kernel_rfl) cl0 (by rfl) (by kernel_rfl) (fun Θ K hΘ hcl hn0 hK => ?_) | refine rgd defCl hG (by kernel_rfl) cl0 (by rfl) (by kernel_rfl) (fun Θ K hΘ hcl hn0 hK => ?_)); simp (maxSteps := 2000000) only [go_sem, seval, reduceCtorEq, List.append_eq, f1, r4, r5, tbp, d1, d4, v1, v2, g1, g2, g3, g4, w1, w2, x1, x2]) | ((first | refine Post.splitN (fun gg => ?_) (fun gg => ?_) | refine PostB.splitN (fun gg => ?_) (fun gg => ?_) | refine Post.split (fun gg => ?_) (fun gg => ?_) | refine PostB.split (fun gg => ?_) (fun gg => ?_)) <;> simp (maxSteps := 2000000) only [go_sem, seval, reduceCtorEq, List.append_eq, gg, f1, r4, r5, tbp, d1, d4, v1, v2, g1, g2, g3, g4, w1, w2, x1, x2]) | (refine finR (by simp only [go_sem, seval, reduceCtorEq, List.append_eq, f1, r4, r5, tbp, d1, d4, v1, v2, g1, g2, g3, g4, w1, w2, x1, x2]; exact rfl) ?_; simp only [go_sem, seval, reduceCtorEq, List.append_eq, f1, r4, r5, tbp, d1, d4, v1, v2, g1, g2, g3, g4, w1, w2, x1, x2]) | refine updL hM ?_ (by omega) | (with_reducible exact fun _ _ => rfl))
      all_goals (first | omega | (simp only [decide_eq_true_eq, decide_eq_false_iff_not] at *; omega) | (simp only [List.length_append, List.length_cons, List.length_nil] <;> omega) | exact one_bv _ | exact one_sv _ | skip)
      all_goals exact hk4
    · have d4 : decide (lastL p i a = lastL q k b) = false := decide_eq_false e
      repeat' (first | (with_reducible first | refine pa ?_ | refine pb ?_ | refine pc ?_ | refine nxt_n ?_ | refine nxt_e ?_ | refine nxt_r ?_ | refine blk_n ?_ | refine blk_r ?_ | refine blk_hit ?_ | refine blk_miss (by rfl) ?_ | refine pd ?_ | refine pe ?_ | refine pf ?_ | refine pg ?_ | apply And.intro) | (refine hK _ ?_; first | clear hK K hn0 hcl hΘ Θ | clear hK K hΘ Θ) | (with_reducible first | refine cw1 ?_ | refine cw2 ?_ | exact cw3 | exact cw4) | ((with_reducible first | refine cw5 (fun gg => ?_) | refine cw6 (fun gg => ?_) | refine cw7 (fun gg => ?_)); try simp only [gg]) | refine cs1 hG rfl ?_ ?_ | refine cs2 hG rfl ?_ ?_ | ((first | refine kf (fun M n => cW1 M n) rfl (by decide) cl0 hΘ hcl hn0 ?_ | refine kf (fun M n => cW2 M n) rfl (by decide) cl0 hΘ hcl hn0 ?_ | refine kf (fun M n => cC M n) rfl (by decide) cl0 hΘ hcl hn0 ?_ | refine rga hG (by kernel_rfl) (fun Θ K hΘ hK => ?_) | refine rgb hG (by kernel_rfl) (fun Θ K hΘ hK => ?_) | refine rgc defCl hG (by kernel_rfl) cl0 (by rfl) (by kernel_rfl) (fun Θ K hΘ hcl hn0 hK => ?_) | refine rgd defCl hG (by kernel_rfl) cl0 (by rfl) (by kernel_rfl) (fun Θ K hΘ hcl hn0 hK => ?_)); simp (maxSteps := 2000000) only [go_sem, seval, reduceCtorEq, List.append_eq, f1, r4, r5, tbp, d1, d4, v1, v2, g1, g2, g3, g4, w1, w2, x1, x2]) | ((first | refine Post.splitN (fun gg => ?_) (fun gg => ?_) | refine PostB.splitN (fun gg => ?_) (fun gg => ?_) | refine Post.split (fun gg => ?_) (fun gg => ?_) | refine PostB.split (fun gg => ?_) (fun gg => ?_)) <;> simp (maxSteps := 2000000) only [go_sem, seval, reduceCtorEq, List.append_eq, gg, f1, r4, r5, tbp, d1, d4, v1, v2, g1, g2, g3, g4, w1, w2, x1, x2]) | (refine finR (by simp only [go_sem, seval, reduceCtorEq, List.append_eq, f1, r4, r5, tbp, d1, d4, v1, v2, g1, g2, g3, g4, w1, w2, x1, x2]; exact rfl) ?_; simp only [go_sem, seval, reduceCtorEq, List.append_eq, f1, r4, r5, tbp, d1, d4, v1, v2, g1, g2, g3, g4, w1, w2, x1, x2]) | refine updL hM ?_ (by omega) | (with_reducible exact fun _ _ => rfl))
      all_goals (first | omega | (simp only [decide_eq_true_eq, decide_eq_false_iff_not] at *; omega) | (simp only [List.length_append, List.length_cons, List.length_nil] <;> omega) | exact one_bv _ | exact one_sv _ | skip)
      all_goals exact hk4
  have d1 : decide (p = q) = true := decide_eq_true s1
  by_cases s2 : i = k
  case neg =>
    have d2 : (i = k) = False := eq_false s2
    by_cases e : lastL p i a = lastL q k b
    · have d4 : decide (lastL p i a = lastL q k b) = true := decide_eq_true e
      rw [hcl e] at cC
      repeat' (first | (with_reducible first | refine pa ?_ | refine pb ?_ | refine pc ?_ | refine nxt_n ?_ | refine nxt_e ?_ | refine nxt_r ?_ | refine blk_n ?_ | refine blk_r ?_ | refine blk_hit ?_ | refine blk_miss (by rfl) ?_ | refine pd ?_ | refine pe ?_ | refine pf ?_ | refine pg ?_ | apply And.intro) | (refine hK _ ?_; first | clear hK K hn0 hcl hΘ Θ | clear hK K hΘ Θ) | (with_reducible first | refine cw1 ?_ | refine cw2 ?_ | exact cw3 | exact cw4) | ((with_reducible first | refine cw5 (fun gg => ?_) | refine cw6 (fun gg => ?_) | refine cw7 (fun gg => ?_)); try simp only [gg]) | refine cs1 hG rfl ?_ ?_ | refine cs2 hG rfl ?_ ?_ | ((first | refine kf (fun M n => cW1 M n) rfl (by decide) cl0 hΘ hcl hn0 ?_ | refine kf (fun M n => cW2 M n) rfl (by decide) cl0 hΘ hcl hn0 ?_ | refine kf (fun M n => cC M n) rfl (by decide) cl0 hΘ hcl hn0 ?_ | refine rga hG (by kernel_rfl) (fun Θ K hΘ hK => ?_) | refine rgb hG (by kernel_rfl) (fun Θ K hΘ hK => ?_) | refine rgc defCl hG (by kernel_rfl) cl0 (by rfl) (by kernel_rfl) (fun Θ K hΘ hcl hn0 hK => ?_) | refine rgd defCl hG (by kernel_rfl) cl0 (by rfl) (by kernel_rfl) (fun Θ K hΘ hcl hn0 hK => ?_)); simp (maxSteps := 2000000) only [go_sem, seval, reduceCtorEq, List.append_eq, f1, r4, r5, tbp, d1, d2, d4, v1, v2, g1, g2, g3, g4, w1, w2, x1, x2]) | ((first | refine Post.splitN (fun gg => ?_) (fun gg => ?_) | refine PostB.splitN (fun gg => ?_) (fun gg => ?_) | refine Post.split (fun gg => ?_) (fun gg => ?_) | refine PostB.split (fun gg => ?_) (fun gg => ?_)) <;> simp (maxSteps := 2000000) only [go_sem, seval, reduceCtorEq, List.append_eq, gg, f1, r4, r5, tbp, d1, d2, d4, v1, v2, g1, g2, g3, g4, w1, w2, x1, x2]) | (refine finR (by simp only [go_sem, seval, reduceCtorEq, List.append_eq, f1, r4, r5, tbp, d1, d2, d4, v1, v2, g1, g2, g3, g4, w1, w2, x1, x2]; exact rfl) ?_; simp only [go_sem, seval, reduceCtorEq, List.append_eq, f1, r4, r5, tbp, d1, d2, d4, v1, v2, g1, g2, g3, g4, w1, w2, x1, x2]) | refine updL hM ?_ (by omega) | (with_reducible exact fun _ _ => rfl))
      all_goals (first | omega | (simp only [decide_eq_true_eq, decide_eq_false_iff_not] at *; omega) | (simp only [List.length_append, List.length_cons, List.length_nil] <;> omega) | exact one_bv _ | exact one_sv _ | skip)
      all_goals exact hk4
    · have d4 : decide (lastL p i a = lastL q k b) = false := decide_eq_false e
      repeat' (first | (with_reducible first | refine pa ?_ | refine pb ?_ | refine pc ?_ | refine nxt_n ?_ | refine nxt_e ?_ | refine nxt_r ?_ | refine blk_n ?_ | refine blk_r ?_ | refine blk_hit ?_ | refine blk_miss (by rfl) ?_ | refine pd ?_ | refine pe ?_ | refine pf ?_ | refine pg ?_ | apply And.intro) | (refine hK _ ?_; first | clear hK K hn0 hcl hΘ Θ | clear hK K hΘ Θ) | (with_reducible first | refine cw1 ?_ | refine cw2 ?_ | exact cw3 | exact cw4) | ((with_reducible first | refine cw5 (fun gg => ?_) | refine cw6 (fun gg => ?_) | refine cw7 (fun gg => ?_)); try simp only [gg]) | refine cs1 hG rfl ?_ ?_ | refine cs2 hG rfl ?_ ?_ | ((first | refine kf (fun M n => cW1 M n) rfl (by decide) cl0 hΘ hcl hn0 ?_ | refine kf (fun M n => cW2 M n) rfl (by decide) cl0 hΘ hcl hn0 ?_ | refine kf (fun M n => cC M n) rfl (by decide) cl0 hΘ hcl hn0 ?_ | refine rga hG (by kernel_rfl) (fun Θ K hΘ hK => ?_) | refine rgb hG (by kernel_rfl) (fun Θ K hΘ hK => ?_) | refine rgc defCl hG (by kernel_rfl) cl0 (by rfl) (by kernel_rfl) (fun Θ K hΘ hcl hn0 hK => ?_) | refine rgd defCl hG (by kernel_rfl) cl0 (by rfl) (by kernel_rfl) (fun Θ K hΘ hcl hn0 hK => ?_)); simp (maxSteps := 2000000) only [go_sem, seval, reduceCtorEq, List.append_eq, f1, r4, r5, tbp, d1, d2, d4, v1, v2, g1, g2, g3, g4, w1, w2, x1, x2]) | ((first | refine Post.splitN (fun gg => ?_) (fun gg => ?_) | refine PostB.splitN (fun gg => ?_) (fun gg => ?_) | refine Post.split (fun gg => ?_) (fun gg => ?_) | refine PostB.split (fun gg => ?_) (fun gg => ?_)) <;> simp (maxSteps := 2000000) only [go_sem, seval, reduceCtorEq, List.append_eq, gg, f1, r4, r5, tbp, d1, d2, d4, v1, v2, g1, g2, g3, g4, w1, w2, x1, x2]) | (refine finR (by simp only [go_sem, seval, reduceCtorEq, List.append_eq, f1, r4, r5, tbp, d1, d2, d4, v1, v2, g1, g2, g3, g4, w1, w2, x1, x2]; exact rfl) ?_; simp only [go_sem, seval, reduceCtorEq, List.append_eq, f1, r4, r5, tbp, d1, d2, d4, v1, v2, g1, g2, g3, g4, w1, w2, x1, x2]) | refine updL hM ?_ (by omega) | (with_reducible exact fun _ _ => rfl))
      all_goals (first | omega | (simp only [decide_eq_true_eq, decide_eq_false_iff_not] at *; omega) | (simp only [List.length_append, List.length_cons, List.length_nil] <;> omega) | exact one_bv _ | exact one_sv _ | skip)
      all_goals exact hk4
  have d2 : (i = k) = True := eq_true s2
  have d3 : decide (a = b) = false := decide_eq_false fun z => hS s1 s2 z
  rw [d3] at cS
  by_cases e : lastL p i a = lastL q k b
  · have d4 : decide (lastL p i a = lastL q k b) = true := decide_eq_true e
    rw [hcl e] at cC
    repeat' (first | (with_reducible first | refine pa ?_ | refine pb ?_ | refine pc ?_ | refine nxt_n ?_ | refine nxt_e ?_ | refine nxt_r ?_ | refine blk_n ?_ | refine blk_r ?_ | refine blk_hit ?_ | refine blk_miss (by rfl) ?_ | refine pd ?_ | refine pe ?_ | refine pf ?_ | refine pg ?_ | apply And.intro) | (refine hK _ ?_; first | clear hK K hn0 hcl hΘ Θ | clear hK K hΘ Θ) | (with_reducible first | refine cw1 ?_ | refine cw2 ?_ | exact cw3 | exact cw4) | ((with_reducible first | refine cw5 (fun gg => ?_) | refine cw6 (fun gg => ?_) | refine cw7 (fun gg => ?_)); try simp only [gg]) | refine cs1 hG rfl ?_ ?_ | refine cs2 hG rfl ?_ ?_ | ((first | refine kg (cS _ _) rfl hΘ ?_ | refine kf (fun M n => cW1 M n) rfl (by decide) cl0 hΘ hcl hn0 ?_ | refine kf (fun M n => cW2 M n) rfl (by decide) cl0 hΘ hcl hn0 ?_ | refine kf (fun M n => cC M n) rfl (by decide) cl0 hΘ hcl hn0 ?_ | refine rga hG (by kernel_rfl) (fun Θ K hΘ hK => ?_) | refine rgb hG (by kernel_rfl) (fun Θ K hΘ hK => ?_) | refine rgc defCl hG (by kernel_rfl) cl0 (by rfl) (by kernel_rfl) (fun Θ K hΘ hcl hn0 hK => ?_) | refine rgd defCl hG (by kernel_rfl) cl0 (by rfl) (by kernel_rfl) (fun Θ K hΘ hcl hn0 hK => ?_)); simp (maxSteps := 2000000) only [go_sem, seval, reduceCtorEq, List.append_eq, f1, r4, r5, tbp, d1, d2, d4, v1, v2, g1, g2, g3, g4, w1, w2, x1, x2]) | ((first | refine Post.splitN (fun gg => ?_) (fun gg => ?_) | refine PostB.splitN (fun gg => ?_) (fun gg => ?_) | refine Post.split (fun gg => ?_) (fun gg => ?_) | refine PostB.split (fun gg => ?_) (fun gg => ?_)) <;> simp (maxSteps := 2000000) only [go_sem, seval, reduceCtorEq, List.append_eq, gg, f1, r4, r5, tbp, d1, d2, d4, v1, v2, g1, g2, g3, g4, w1, w2, x1, x2]) | (refine finR (by simp only [go_sem, seval, reduceCtorEq, List.append_eq, f1, r4, r5, tbp, d1, d2, d4, v1, v2, g1, g2, g3, g4, w1, w2, x1, x2]; exact rfl) ?_; simp only [go_sem, seval, reduceCtorEq, List.append_eq, f1, r4, r5, tbp, d1, d2, d4, v1, v2, g1, g2, g3, g4, w1, w2, x1, x2]) | refine updL hM ?_ (by omega) | (with_reducible exact fun _ _ => rfl))
    all_goals (first | omega | (simp only [decide_eq_true_eq, decide_eq_false_iff_not] at *; omega) | (simp only [List.length_append, List.length_cons, List.length_nil] <;> omega) | exact one_bv _ | exact one_sv _ | skip)
    all_goals exact hk4
  · have d4 : decide (lastL p i a = lastL q k b) = false := decide_eq_false e
    repeat' (first | (with_reducible first | refine pa ?_ | refine pb ?_ | refine pc ?_ | refine nxt_n ?_ | refine nxt_e ?_ | refine nxt_r ?_ | refine blk_n ?_ | refine blk_r ?_ | refine blk_hit ?_ | refine blk_miss (by rfl) ?_ | refine pd ?_ | refine pe ?_ | refine pf ?_ | refine pg ?_ | apply And.intro) | (refine hK _ ?_; first | clear hK K hn0 hcl hΘ Θ | clear hK K hΘ Θ) | (with_reducible first | refine cw1 ?_ | refine cw2 ?_ | exact cw3 | exact cw4) | ((with_reducible first | refine cw5 (fun gg => ?_) | refine cw6 (fun gg => ?_) | refine cw7 (fun gg => ?_)); try simp only [gg]) | refine cs1 hG rfl ?_ ?_ | refine cs2 hG rfl ?_ ?_ | ((first | refine kg (cS _ _) rfl hΘ ?_ | refine kf (fun M n => cW1 M n) rfl (by decide) cl0 hΘ hcl hn0 ?_ | refine kf (fun M n => cW2 M n) rfl (by decide) cl0 hΘ hcl hn0 ?_ | refine kf (fun M n => cC M n) rfl (by decide) cl0 hΘ hcl hn0 ?_ | refine rga hG (by kernel_rfl) (fun Θ K hΘ hK => ?_) | refine rgb hG (by kernel_rfl) (fun Θ K hΘ hK => ?_) | refine rgc defCl hG (by kernel_rfl) cl0 (by rfl) (by kernel_rfl) (fun Θ K hΘ hcl hn0 hK => ?_) | refine rgd defCl hG (by kernel_rfl) cl0 (by rfl) (by kernel_rfl) (fun Θ K hΘ hcl hn0 hK => ?_)); simp (maxSteps := 2000000) only [go_sem, seval, reduceCtorEq, List.append_eq, f1, r4, r5, tbp, d1, d2, d4, v1, v2, g1, g2, g3, g4, w1, w2, x1, x2]) | ((first | refine Post.splitN (fun gg => ?_) (fun gg => ?_) | refine PostB.splitN (fun gg => ?_) (fun gg => ?_) | refine Post.split (fun gg => ?_) (fun gg => ?_) | refine PostB.split (fun gg => ?_) (fun gg => ?_)) <;> simp (maxSteps := 2000000) only [go_sem, seval, reduceCtorEq, List.append_eq, gg, f1, r4, r5, tbp, d1, d2, d4, v1, v2, g1, g2, g3, g4, w1, w2, x1, x2]) | (refine finR (by simp only [go_sem, seval, reduceCtorEq, List.append_eq, f1, r4, r5, tbp, d1, d2, d4, v1, v2, g1, g2, g3, g4, w1, w2, x1, x2]; exact rfl) ?_; simp only [go_sem, seval, reduceCtorEq, List.append_eq, f1, r4, r5, tbp, d1, d2, d4, v1, v2, g1, g2, g3, g4, w1, w2, x1, x2]) | refine updL hM ?_ (by omega) | (with_reducible exact fun _ _ => rfl))
    all_goals (first | omega | (simp only [decide_eq_true_eq, decide_eq_false_iff_not] at *; omega) | (simp only [List.length_append, List.length_cons, List.length_nil] <;> omega) | exact one_bv _ | exact one_sv _ | skip)
    all_goals exact hk4
end Go.VL

