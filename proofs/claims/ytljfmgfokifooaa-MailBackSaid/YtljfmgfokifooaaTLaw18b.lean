/- Part TLaw18b of the proof: made for this claim. -/
import Derived.Test.YtljfmgfokifooaaTMSame
set_option linter.unusedVariables false
set_option linter.unusedSimpArgs false
set_option maxRecDepth 100000
set_option maxHeartbeats 8000000
open Go.RowKit
namespace Go.VL
open Go.Proofs
theorem Mail.small_bytes {m : Mail} (hm : m.ok) (h : m.Facts) (hs : m.small) : m.bytes.length ≤ 262144 := by
  obtain ⟨i1, i2, i3, i4, i5, i6, i7, i8, ⟨i9, _⟩, ⟨j1, _⟩, j2, _⟩ := hm
  obtain ⟨_, c1, c2, c3⟩ := id hs
  obtain ⟨t1, t2, t3, t4⟩ := Mail.small_tot hs
  have b1 := numB_length m.kind.toNat (by have := i1.2; omega)
  have b2 := numB_length m.from_.toNat (by have := i2.2; omega)
  have b3 := numB_length m.to.toNat (by have := i3.2; omega)
  have b4 := numB_length m.seq.toNat (by have := i4.2; omega)
  have b5 := numB_length m.mask.toNat (by have := i5.2; omega)
  have b6 := numB_length m.other.toNat (by have := i7.2; omega)
  have hw := (Au.word_iff m.auth).1 h.auth
  have b7 := Au.text_le i8 1024 hw.2.2 (by omega)
  have h1 := total_auts m.auths i9 h.auths.2
  have b8 := listB_le (m.auths.map Au.text) (by omega) (by simp; omega)
  rw [List.length_map] at b8
  have h2 := total_texts m.ents j1
  have b9 := listB_le (m.ents.map Ent.text) (by omega) (by simp; omega)
  rw [List.length_map] at b9
  have b10 := listB_le m.proofs (by omega) (by omega)
  have ht : total m.parts ≤ 150000 := by
    simp only [total, Mail.parts, autsB, textsB, List.map_cons, List.map_nil, List.sum_cons, List.sum_nil, m.prev.2]
    omega
  have := listB_le m.parts (by omega) (by simp [Mail.parts])
  rw [show m.parts.length = 12 from rfl] at this
  show (listB m.parts).length ≤ _
  omega
theorem MailBack_sp (a b : Mail) (ha : a.ok) (hb : b.ok) : Rt 5 [.agg a.ml.c, .agg b.ml.c] (.flat (.bool true)) := by
  have ca := great18_sp a ha
  have cb := great18_sp b hb
  have ga := MGood_sp a ha
  have gb := MGood_sp b hb
  cases h1 : a.great
  case true =>
    rw [h1] at ca
    intro M mn
    refine fnL (C := kc 49 [] []) (rs := [.tmp 4]) envOk Try.func5 (by kernel_rfl) rfl rfl rfl rfl rfl rfl (Low.flat _) ?_
    intro E hG hM
    have w1 : ∀ x y, upd (upd M mn x) (mn + 1) y mn = x := fun x y => by rw [upd_ne _ _ (by omega), upd_same]
    repeat' (first | (with_reducible first | refine pa ?_ | refine pb ?_ | refine pc ?_ | refine nxt_n ?_ | refine nxt_e ?_ | refine nxt_r ?_ | refine blk_n ?_ | refine blk_r ?_ | refine blk_hit ?_ | refine blk_miss (by rfl) ?_ | refine pd ?_ | refine pe ?_ | refine pf ?_ | refine pg ?_ | apply And.intro) | (refine hK _ ?_; first | clear hK K hn0 hcl hΘ Θ | clear hK K hΘ Θ) | (with_reducible first | refine cw1 ?_ | refine cw2 ?_ | exact cw3 | exact cw4) | ((with_reducible first | refine cw5 (fun gg => ?_) | refine cw6 (fun gg => ?_) | refine cw7 (fun gg => ?_)); try simp only [gg]) | refine cs1 hG rfl ?_ ?_ | refine cs2 hG rfl ?_ ?_ | ((first | refine kg (alive18_sp _ _) rfl hΘ ?_ | refine kg (ca _ _) rfl hΘ ?_ | refine rga hG (by kernel_rfl) (fun Θ K hΘ hK => ?_) | refine rgb hG (by kernel_rfl) (fun Θ K hΘ hK => ?_) | refine rgc defCl hG (by kernel_rfl) cl0 (by rfl) (by kernel_rfl) (fun Θ K hΘ hcl hn0 hK => ?_) | refine rgd defCl hG (by kernel_rfl) cl0 (by rfl) (by kernel_rfl) (fun Θ K hΘ hcl hn0 hK => ?_)); simp (maxSteps := 2000000) only [go_sem, seval, reduceCtorEq, w1]) | ((first | refine Post.splitN (fun gg => ?_) (fun gg => ?_) | refine PostB.splitN (fun gg => ?_) (fun gg => ?_) | refine Post.split (fun gg => ?_) (fun gg => ?_) | refine PostB.split (fun gg => ?_) (fun gg => ?_)) <;> simp (maxSteps := 2000000) only [go_sem, seval, reduceCtorEq, gg, w1]) | (refine finR (by simp only [go_sem, seval, reduceCtorEq, w1]; exact rfl) ?_; simp only [go_sem, seval, reduceCtorEq, w1]) | refine updL hM ?_ (by omega) | (with_reducible exact fun _ _ => rfl))
    all_goals (first | omega | (simp only [decide_eq_true_eq, decide_eq_false_iff_not] at *; omega) | (simp only [List.length_append, List.length_cons, List.length_nil] <;> omega) | exact one_bv _ | exact one_sv _ | skip)
  cases h2 : b.great
  case true =>
    rw [h1] at ca
    rw [h2] at cb
    intro M mn
    refine fnL (C := kc 49 [] []) (rs := [.tmp 4]) envOk Try.func5 (by kernel_rfl) rfl rfl rfl rfl rfl rfl (Low.flat _) ?_
    intro E hG hM
    have w1 : ∀ x y, upd (upd M mn x) (mn + 1) y mn = x := fun x y => by rw [upd_ne _ _ (by omega), upd_same]
    repeat' (first | (with_reducible first | refine pa ?_ | refine pb ?_ | refine pc ?_ | refine nxt_n ?_ | refine nxt_e ?_ | refine nxt_r ?_ | refine blk_n ?_ | refine blk_r ?_ | refine blk_hit ?_ | refine blk_miss (by rfl) ?_ | refine pd ?_ | refine pe ?_ | refine pf ?_ | refine pg ?_ | apply And.intro) | (refine hK _ ?_; first | clear hK K hn0 hcl hΘ Θ | clear hK K hΘ Θ) | (with_reducible first | refine cw1 ?_ | refine cw2 ?_ | exact cw3 | exact cw4) | ((with_reducible first | refine cw5 (fun gg => ?_) | refine cw6 (fun gg => ?_) | refine cw7 (fun gg => ?_)); try simp only [gg]) | refine cs1 hG rfl ?_ ?_ | refine cs2 hG rfl ?_ ?_ | ((first | refine kg (alive18_sp _ _) rfl hΘ ?_ | refine kg (ca _ _) rfl hΘ ?_ | refine kg (cb _ _) rfl hΘ ?_ | refine rga hG (by kernel_rfl) (fun Θ K hΘ hK => ?_) | refine rgb hG (by kernel_rfl) (fun Θ K hΘ hK => ?_) | refine rgc defCl hG (by kernel_rfl) cl0 (by rfl) (by kernel_rfl) (fun Θ K hΘ hcl hn0 hK => ?_) | refine rgd defCl hG (by kernel_rfl) cl0 (by rfl) (by kernel_rfl) (fun Θ K hΘ hcl hn0 hK => ?_)); simp (maxSteps := 2000000) only [go_sem, seval, reduceCtorEq, w1]) | ((first | refine Post.splitN (fun gg => ?_) (fun gg => ?_) | refine PostB.splitN (fun gg => ?_) (fun gg => ?_) | refine Post.split (fun gg => ?_) (fun gg => ?_) | refine PostB.split (fun gg => ?_) (fun gg => ?_)) <;> simp (maxSteps := 2000000) only [go_sem, seval, reduceCtorEq, gg, w1]) | (refine finR (by simp only [go_sem, seval, reduceCtorEq, w1]; exact rfl) ?_; simp only [go_sem, seval, reduceCtorEq, w1]) | refine updL hM ?_ (by omega) | (with_reducible exact fun _ _ => rfl))
    all_goals (first | omega | (simp only [decide_eq_true_eq, decide_eq_false_iff_not] at *; omega) | (simp only [List.length_append, List.length_cons, List.length_nil] <;> omega) | exact one_bv _ | exact one_sv _ | skip)
  have s1 := (Mail.great_iff ha).1 h1
  have s2 := (Mail.great_iff hb).1 h2
  rw [h1] at ca
  rw [h2] at cb
  cases h3 : a.good
  case false =>
    rw [h3] at ga
    intro M mn
    refine fnL (C := kc 49 [] []) (rs := [.tmp 4]) envOk Try.func5 (by kernel_rfl) rfl rfl rfl rfl rfl rfl (Low.flat _) ?_
    intro E hG hM
    have w1 : ∀ x y, upd (upd M mn x) (mn + 1) y mn = x := fun x y => by rw [upd_ne _ _ (by omega), upd_same]
    repeat' (first | (with_reducible first | refine pa ?_ | refine pb ?_ | refine pc ?_ | refine nxt_n ?_ | refine nxt_e ?_ | refine nxt_r ?_ | refine blk_n ?_ | refine blk_r ?_ | refine blk_hit ?_ | refine blk_miss (by rfl) ?_ | refine pd ?_ | refine pe ?_ | refine pf ?_ | refine pg ?_ | apply And.intro) | (refine hK _ ?_; first | clear hK K hn0 hcl hΘ Θ | clear hK K hΘ Θ) | (with_reducible first | refine cw1 ?_ | refine cw2 ?_ | exact cw3 | exact cw4) | ((with_reducible first | refine cw5 (fun gg => ?_) | refine cw6 (fun gg => ?_) | refine cw7 (fun gg => ?_)); try simp only [gg]) | refine cs1 hG rfl ?_ ?_ | refine cs2 hG rfl ?_ ?_ | ((first | refine kg (alive18_sp _ _) rfl hΘ ?_ | refine kg (ca _ _) rfl hΘ ?_ | refine kg (cb _ _) rfl hΘ ?_ | refine kg (ga _ _) rfl hΘ ?_ | refine rga hG (by kernel_rfl) (fun Θ K hΘ hK => ?_) | refine rgb hG (by kernel_rfl) (fun Θ K hΘ hK => ?_) | refine rgc defCl hG (by kernel_rfl) cl0 (by rfl) (by kernel_rfl) (fun Θ K hΘ hcl hn0 hK => ?_) | refine rgd defCl hG (by kernel_rfl) cl0 (by rfl) (by kernel_rfl) (fun Θ K hΘ hcl hn0 hK => ?_)); simp (maxSteps := 2000000) only [go_sem, seval, reduceCtorEq, w1]) | ((first | refine Post.splitN (fun gg => ?_) (fun gg => ?_) | refine PostB.splitN (fun gg => ?_) (fun gg => ?_) | refine Post.split (fun gg => ?_) (fun gg => ?_) | refine PostB.split (fun gg => ?_) (fun gg => ?_)) <;> simp (maxSteps := 2000000) only [go_sem, seval, reduceCtorEq, gg, w1]) | (refine finR (by simp only [go_sem, seval, reduceCtorEq, w1]; exact rfl) ?_; simp only [go_sem, seval, reduceCtorEq, w1]) | refine updL hM ?_ (by omega) | (with_reducible exact fun _ _ => rfl))
    all_goals (first | omega | (simp only [decide_eq_true_eq, decide_eq_false_iff_not] at *; omega) | (simp only [List.length_append, List.length_cons, List.length_nil] <;> omega) | exact one_bv _ | exact one_sv _ | skip)
  cases h4 : b.good
  case false =>
    rw [h3] at ga
    rw [h4] at gb
    intro M mn
    refine fnL (C := kc 49 [] []) (rs := [.tmp 4]) envOk Try.func5 (by kernel_rfl) rfl rfl rfl rfl rfl rfl (Low.flat _) ?_
    intro E hG hM
    have w1 : ∀ x y, upd (upd M mn x) (mn + 1) y mn = x := fun x y => by rw [upd_ne _ _ (by omega), upd_same]
    repeat' (first | (with_reducible first | refine pa ?_ | refine pb ?_ | refine pc ?_ | refine nxt_n ?_ | refine nxt_e ?_ | refine nxt_r ?_ | refine blk_n ?_ | refine blk_r ?_ | refine blk_hit ?_ | refine blk_miss (by rfl) ?_ | refine pd ?_ | refine pe ?_ | refine pf ?_ | refine pg ?_ | apply And.intro) | (refine hK _ ?_; first | clear hK K hn0 hcl hΘ Θ | clear hK K hΘ Θ) | (with_reducible first | refine cw1 ?_ | refine cw2 ?_ | exact cw3 | exact cw4) | ((with_reducible first | refine cw5 (fun gg => ?_) | refine cw6 (fun gg => ?_) | refine cw7 (fun gg => ?_)); try simp only [gg]) | refine cs1 hG rfl ?_ ?_ | refine cs2 hG rfl ?_ ?_ | ((first | refine kg (alive18_sp _ _) rfl hΘ ?_ | refine kg (ca _ _) rfl hΘ ?_ | refine kg (cb _ _) rfl hΘ ?_ | refine kg (ga _ _) rfl hΘ ?_ | refine kg (gb _ _) rfl hΘ ?_ | refine rga hG (by kernel_rfl) (fun Θ K hΘ hK => ?_) | refine rgb hG (by kernel_rfl) (fun Θ K hΘ hK => ?_) | refine rgc defCl hG (by kernel_rfl) cl0 (by rfl) (by kernel_rfl) (fun Θ K hΘ hcl hn0 hK => ?_) | refine rgd defCl hG (by kernel_rfl) cl0 (by rfl) (by kernel_rfl) (fun Θ K hΘ hcl hn0 hK => ?_)); simp (maxSteps := 2000000) only [go_sem, seval, reduceCtorEq, w1]) | ((first | refine Post.splitN (fun gg => ?_) (fun gg => ?_) | refine PostB.splitN (fun gg => ?_) (fun gg => ?_) | refine Post.split (fun gg => ?_) (fun gg => ?_) | refine PostB.split (fun gg => ?_) (fun gg => ?_)) <;> simp (maxSteps := 2000000) only [go_sem, seval, reduceCtorEq, gg, w1]) | (refine finR (by simp only [go_sem, seval, reduceCtorEq, w1]; exact rfl) ?_; simp only [go_sem, seval, reduceCtorEq, w1]) | refine updL hM ?_ (by omega) | (with_reducible exact fun _ _ => rfl))
    all_goals (first | omega | (simp only [decide_eq_true_eq, decide_eq_false_iff_not] at *; omega) | (simp only [List.length_append, List.length_cons, List.length_nil] <;> omega) | exact one_bv _ | exact one_sv _ | skip)
  have Fa := (Mail.good_iff a).1 h3
  have Fb := (Mail.good_iff b).1 h4
  have l1 := Mail.small_bytes ha Fa s1
  have l2 := Mail.small_bytes hb Fb s2
  have p1 := Mail.small_tot s1
  have p2 := Mail.small_tot s2
  have xa : a.text = a.bytes := by unfold Mail.text; rw [if_pos h3, if_neg (by omega)]
  have xb : b.text = b.bytes := by unfold Mail.text; rw [if_pos h4, if_neg (by omega)]
  have ta := MText_sp a ha (by omega)
  have tb := MText_sp b hb (by omega)
  rw [xa] at ta
  rw [xb] at tb
  rw [h3] at ga
  rw [h4] at gb
  have cR := MRead_sp a.bytes
  rw [rdM_bytes ha Fa (by omega) l1] at cR
  simp only [if_true] at cR
  have cS := R18Same_sp a a ha ha
  have hd : decide (a = a) = true := decide_eq_true rfl
  rw [hd] at cS
  have cT := R18Same_sp a b ha hb
  have he : (a.bytes = b.bytes) = (a = b) := propext (Mail.bytes_inj ha hb Fa Fb (by omega) (by omega))
  generalize a.bytes = A at *
  generalize b.bytes = B at *
  intro M mn
  refine fnL (C := kc 49 [] []) (rs := [.tmp 4]) envOk Try.func5 (by kernel_rfl) rfl rfl rfl rfl rfl rfl (Low.flat _) ?_
  intro E hG hM
  have w1 : ∀ x y, upd (upd M mn x) (mn + 1) y mn = x := fun x y => by rw [upd_ne _ _ (by omega), upd_same]
  have w2 : ∀ x y z, upd (upd (upd M mn x) (mn + 1) y) (mn + 1 + 1) z mn = x := fun x y z => by rw [upd_ne _ _ (by omega), upd_ne _ _ (by omega), upd_same]
  have w3 : ∀ x y z, upd (upd (upd M mn x) (mn + 1) y) (mn + 1 + 1) z (mn + 1) = y := fun x y z => by rw [upd_ne _ _ (by omega), upd_same]
  repeat' (first | (with_reducible first | refine pa ?_ | refine pb ?_ | refine pc ?_ | refine nxt_n ?_ | refine nxt_e ?_ | refine nxt_r ?_ | refine blk_n ?_ | refine blk_r ?_ | refine blk_hit ?_ | refine blk_miss (by rfl) ?_ | refine pd ?_ | refine pe ?_ | refine pf ?_ | refine pg ?_ | apply And.intro) | (refine hK _ ?_; first | clear hK K hn0 hcl hΘ Θ | clear hK K hΘ Θ) | (with_reducible first | refine cw1 ?_ | refine cw2 ?_ | exact cw3 | exact cw4) | ((with_reducible first | refine cw5 (fun gg => ?_) | refine cw6 (fun gg => ?_) | refine cw7 (fun gg => ?_)); try simp only [gg]) | refine cs1 hG rfl ?_ ?_ | refine cs2 hG rfl ?_ ?_ | ((fail_if_success (with_reducible first | show WC _ _ _ (.region 6 _ _) _ _ | show WC _ _ _ (.seq (.region 6 _ _) _) _ _)); (first | refine kg (alive18_sp _ _) rfl hΘ ?_ | refine kg (ca _ _) rfl hΘ ?_ | refine kg (cb _ _) rfl hΘ ?_ | refine kg (ga _ _) rfl hΘ ?_ | refine kg (gb _ _) rfl hΘ ?_ | refine kg (ta _ _) rfl hΘ ?_ | refine kg (cR _ _) rfl hΘ ?_ | refine rga hG (by kernel_rfl) (fun Θ K hΘ hK => ?_) | refine rgb hG (by kernel_rfl) (fun Θ K hΘ hK => ?_) | refine rgc defCl hG (by kernel_rfl) cl0 (by rfl) (by kernel_rfl) (fun Θ K hΘ hcl hn0 hK => ?_) | refine rgd defCl hG (by kernel_rfl) cl0 (by rfl) (by kernel_rfl) (fun Θ K hΘ hcl hn0 hK => ?_)); simp (maxSteps := 2000000) only [go_sem, seval, reduceCtorEq, w1, w2, w3, he]) | ((first | refine Post.splitN (fun gg => ?_) (fun gg => ?_) | refine PostB.splitN (fun gg => ?_) (fun gg => ?_) | refine Post.split (fun gg => ?_) (fun gg => ?_) | refine PostB.split (fun gg => ?_) (fun gg => ?_)) <;> simp (maxSteps := 2000000) only [go_sem, seval, reduceCtorEq, gg, w1, w2, w3, he]) | (refine finR (by simp only [go_sem, seval, reduceCtorEq, w1, w2, w3, he]; exact rfl) ?_; simp only [go_sem, seval, reduceCtorEq, w1, w2, w3, he]) | refine updL hM ?_ (by omega) | (with_reducible exact fun _ _ => rfl))
  all_goals (first | omega | (simp only [decide_eq_true_eq, decide_eq_false_iff_not] at *; omega) | (simp only [List.length_append, List.length_cons, List.length_nil] <;> omega) | exact one_bv _ | exact one_sv _ | skip)
  repeat' (first | (with_reducible first | refine pa ?_ | refine pb ?_ | refine pc ?_ | refine nxt_n ?_ | refine nxt_e ?_ | refine nxt_r ?_ | refine blk_n ?_ | refine blk_r ?_ | refine blk_hit ?_ | refine blk_miss (by rfl) ?_ | refine pd ?_ | refine pe ?_ | refine pf ?_ | refine pg ?_ | apply And.intro) | (refine hK _ ?_; first | clear hK K hn0 hcl hΘ Θ | clear hK K hΘ Θ) | (with_reducible first | refine cw1 ?_ | refine cw2 ?_ | exact cw3 | exact cw4) | ((with_reducible first | refine cw5 (fun gg => ?_) | refine cw6 (fun gg => ?_) | refine cw7 (fun gg => ?_)); try simp only [gg]) | refine cs1 hG rfl ?_ ?_ | refine cs2 hG rfl ?_ ?_ | ((first | refine kf (fun M n => ta M n) rfl (by decide) cl0 hΘ hcl hn0 ?_ | refine kf (fun M n => tb M n) rfl (by decide) cl0 hΘ hcl hn0 ?_ | refine kf (fun M n => cS M n) rfl (by decide) cl0 hΘ hcl hn0 ?_ | refine kf (fun M n => cT M n) rfl (by decide) cl0 hΘ hcl hn0 ?_ | refine rga hG (by kernel_rfl) (fun Θ K hΘ hK => ?_) | refine rgb hG (by kernel_rfl) (fun Θ K hΘ hK => ?_) | refine rgc defCl hG (by kernel_rfl) cl0 (by rfl) (by kernel_rfl) (fun Θ K hΘ hcl hn0 hK => ?_) | refine rgd defCl hG (by kernel_rfl) cl0 (by rfl) (by kernel_rfl) (fun Θ K hΘ hcl hn0 hK => ?_)); simp (maxSteps := 2000000) only [go_sem, seval, reduceCtorEq, w1, w2, w3, he]) | ((first | refine Post.splitN (fun gg => ?_) (fun gg => ?_) | refine PostB.splitN (fun gg => ?_) (fun gg => ?_) | refine Post.split (fun gg => ?_) (fun gg => ?_) | refine PostB.split (fun gg => ?_) (fun gg => ?_)) <;> simp (maxSteps := 2000000) only [go_sem, seval, reduceCtorEq, gg, w1, w2, w3, he]) | (refine finR (by simp only [go_sem, seval, reduceCtorEq, w1, w2, w3, he]; exact rfl) ?_; simp only [go_sem, seval, reduceCtorEq, w1, w2, w3, he]) | refine updL hM ?_ (by omega) | (with_reducible exact fun _ _ => rfl))
  all_goals (first | omega | (simp only [decide_eq_true_eq, decide_eq_false_iff_not] at *; omega) | (simp only [List.length_append, List.length_cons, List.length_nil] <;> omega) | exact one_bv _ | exact one_sv _ | skip)
end Go.VL
