/- Part SD of the proof: made for this claim. -/
import Derived.Test.YtbceglggojnnaaaDoorSC
set_option linter.unusedVariables false
set_option linter.unusedSimpArgs false
set_option maxRecDepth 100000
set_option maxHeartbeats 8000000
open Go.RowKit
namespace Go.VL
open Go.Proofs
def hashL (l : List Ent) : List Id32 := z32 :: walkL z32 1 l
def lgC (node : Int) (kb : Nat) (l : List Ent) : List V := [.flat (.int .i64 node), .bp kb 0, .sl true 73 l.length (Ent.lC l), .sl true 32 (l.length + 1) (idsC (hashL l))]
theorem hashL_len (l : List Ent) : (hashL l).length = l.length + 1 := by simp [hashL, walkL_len]
theorem hashL_get (l : List Ent) (i : Nat) (hi : i ≤ l.length) : (hashL l).getD i z32 = lastL z32 1 (l.take i) := by
  induction i with
  | zero => simp [hashL, lastL_nil]
  | succ i ih =>
    rw [lastL_take l z32 1 i ent0 (by omega)]
    unfold hashL
    rw [List.getD_cons_succ]
    have h1 := walkL_take l z32 1 i ent0 (by omega)
    have h2 : (walkL z32 1 l) = walkL z32 1 (l.take (i + 1)) ++ walkL (lastL z32 1 (l.take (i + 1))) (1 + ((l.take (i + 1)).length : Int)) (l.drop (i + 1)) := by
      rw [← walkL_app, List.take_append_drop]
    rw [h2, h1, List.getD_eq_getElem?_getD, List.getElem?_append_left (by simp [walkL_len]; omega), List.getElem?_append_right (by rw [walkL_len, List.length_take]; exact Nat.min_le_left _ _)]
    simp [walkL_len, Nat.min_eq_left (show i ≤ l.length by omega)]
theorem ids_get (l : List Id32) (i : Nat) (hi : i < l.length) : ((idsC l).drop (i * 32)).take 32 = bv (l.getD i z32).1 := by
  unfold idsC
  rw [flat_chunk 32 _ i (fun c hc => by obtain ⟨x, _, rfl⟩ := List.mem_map.1 hc; rw [bv_length]; exact x.2) (by simpa using hi)]
  simp [List.getD_eq_getElem?_getD, hi]
theorem hashL_app (l es : List Ent) : idsC (hashL l) ++ idsC (walkL (lastL z32 1 l) (l.length + 1) es) = idsC (hashL (l ++ es)) := by
  unfold hashL
  rw [walkL_app, show (1 : Int) + (l.length : Int) = (l.length : Int) + 1 by omega]
  simp [idsC]
theorem Ent.lone (l : List Ent) : (∀ z ∈ Ent.lC l, oneB z = true) = True := eq_true fun z hz => by
  obtain ⟨c, hc, hz⟩ := List.mem_flatten.1 hz
  obtain ⟨e, _, rfl⟩ := List.mem_map.1 hc
  exact of_eq_true (Ent.one e) z hz
theorem ids_one (l : List Id32) : (∀ z ∈ idsC l, oneB z = true) = True := eq_true fun z hz => by
  obtain ⟨c, hc, hz⟩ := List.mem_flatten.1 hz
  obtain ⟨e, _, rfl⟩ := List.mem_map.1 hc
  exact one_bv _ z hz
theorem ent_app (l es : List Ent) : Ent.lC l ++ Ent.lC es = Ent.lC (l ++ es) := by simp [Ent.lC]
theorem badA_sp (e : Ent) (he : e.ok) : Rt 81 [.agg e.c] (.flat (.bool (!e.good))) := by
  intro M mn
  refine fnL (C := kc 6 [] []) (rs := [.tmp 2]) envOk Tryd.func81 (by kernel_rfl) rfl rfl rfl rfl rfl rfl (Low.flat _) ?_
  intro E hG hM
  repeat' (first | (with_reducible first | refine pa ?_ | refine pb ?_ | refine pc ?_ | refine nxt_n ?_ | refine nxt_e ?_ | refine nxt_r ?_ | refine blk_n ?_ | refine blk_r ?_ | refine blk_hit ?_ | refine blk_miss (by rfl) ?_ | refine pd ?_ | refine pe ?_ | refine pf ?_ | refine pg ?_ | apply And.intro) | (refine hK _ ?_; clear hK K hΘ Θ) | (with_reducible first | refine cw1 ?_ | refine cw2 ?_ | exact cw3 | exact cw4) | ((with_reducible first | refine cw5 (fun gg => ?_) | refine cw6 (fun gg => ?_) | refine cw7 (fun gg => ?_)); try simp only [gg]) | refine cs1 hG rfl ?_ ?_ | refine cs2 hG rfl ?_ ?_ | ((first | refine kg (EGood_sp e he _ _) rfl hΘ ?_ | refine rga hG (by kernel_rfl) (fun Θ K hΘ hK => ?_) | refine rgb hG (by kernel_rfl) (fun Θ K hΘ hK => ?_)); simp (maxSteps := 2000000) only [go_sem, seval, reduceCtorEq]) | ((first | refine Post.splitN (fun gg => ?_) (fun gg => ?_) | refine Post.split (fun gg => ?_) (fun gg => ?_)) <;> simp (maxSteps := 2000000) only [go_sem, seval, reduceCtorEq, gg]) | (refine finR (by simp only [go_sem, seval, reduceCtorEq]; exact rfl) ?_; simp only [go_sem, seval, reduceCtorEq]) | refine updL hM ?_ (by omega) | (with_reducible exact fun _ _ => rfl))
  all_goals (first | omega | (simp only [decide_eq_true_eq, decide_eq_false_iff_not] at *; omega) | (simp only [List.length_append, List.length_cons, List.length_nil] <;> omega) | exact one_bv _ | exact one_sv _ | skip)
theorem LNew_sp (node : Int) (h0 : 0 ≤ node) (h5 : node < 5) (kb : Nat) (s : List UInt8) (h : Nat) (M : Mem) (mn : Nat) (hk : M kb = some (kyV s h).c) (hM : ∀ k, mn ≤ k → M k = none) :
    Sp Tryd.prog GL 45 [.flat (.int .i64 node), .bp kb 0] M mn (fun r m k => r = .tup [.bp (mn + 1) 0, .flat (.int .i64 0)] ∧ m = upd M (mn + 1) (some (lgC node kb [])) ∧ k = mn + 1 + 1) := by
  have f1 : (node < 0) = False := eq_false (by omega)
  have f2 : (node ≥ 5) = False := eq_false (by omega)
  have tz := take_bv32 z32
  have base : Sp Tryd.prog GL 45 [.flat (.int .i64 node), .bp kb 0] M mn (fun r m k => r = .tup [.bp (mn + 1) 0, .flat (.int .i64 0)] ∧ m = upd (upd M mn (some (bv z32.1))) (mn + 1) (some [.flat (.int .i64 node), .bp kb 0, .nil, .bs mn 0 1 1]) ∧ k = mn + 1 + 1) := by
    refine fnP (C := kc 22 [] [19]) (rs := [.tmp 4, .tmp 5]) envOk Tryd.func45 (by kernel_rfl) rfl rfl rfl rfl rfl rfl ?_
    intro E hG hM
    repeat' (first | (with_reducible first | refine pa ?_ | refine pb ?_ | refine pc ?_ | refine nxt_n ?_ | refine nxt_e ?_ | refine nxt_r ?_ | refine blk_n ?_ | refine blk_r ?_ | refine blk_hit ?_ | refine blk_miss (by rfl) ?_ | refine pd ?_ | refine pe ?_ | refine pf ?_ | refine pg ?_ | apply And.intro) | (refine hK _ ?_; clear hK K hΘ Θ) | (with_reducible first | refine cw1 ?_ | refine cw2 ?_ | exact cw3 | exact cw4) | ((with_reducible first | refine cw5 (fun gg => ?_) | refine cw6 (fun gg => ?_) | refine cw7 (fun gg => ?_)); try simp only [gg]) | refine cs1 hG rfl ?_ ?_ | refine cs2 hG rfl ?_ ?_ | ((first | refine rga hG (by kernel_rfl) (fun Θ K hΘ hK => ?_) | refine rgb hG (by kernel_rfl) (fun Θ K hΘ hK => ?_)); simp (maxSteps := 2000000) only [go_sem, seval, reduceCtorEq, f1, f2, tz]) | ((first | refine Post.splitN (fun gg => ?_) (fun gg => ?_) | refine Post.split (fun gg => ?_) (fun gg => ?_)) <;> simp (maxSteps := 2000000) only [go_sem, seval, reduceCtorEq, gg, f1, f2, tz]) | (refine finR (by simp only [go_sem, seval, reduceCtorEq, f1, f2, tz]; exact rfl) ?_; simp only [go_sem, seval, reduceCtorEq, f1, f2, tz]) | refine updL hM ?_ (by omega) | (with_reducible exact fun _ _ => rfl))
    all_goals (first | omega | (simp only [decide_eq_true_eq, decide_eq_false_iff_not] at *; omega) | (simp only [List.length_append, List.length_cons, List.length_nil] <;> omega) | exact one_bv _ | exact one_sv _ | skip)
  refine Sp.ghost base (fun r m k hR => ?_)
  obtain ⟨rfl, rfl, rfl⟩ := hR
  refine ⟨_, ⟨rfl, rfl, rfl⟩, fun {E g ob st tm w} hst hmn => ?_⟩
  obtain ⟨g', e1, h1⟩ := hst.cellFull (b := mn + 1) (off := 3) (hb := mn) (n := 1) (sz := 32) (cs := bv z32.1) (l := [.flat (.int .i64 node), .bp kb 0, .nil, .bs mn 0 1 1]) (upd_same _ _ _) (by simp) rfl (by rw [upd_ne _ _ (by omega), upd_same]) (by omega) (by rw [bv_length, z32.2]) (by unfold maxLen; omega)
  have h2 := h1.cellNil (b := mn + 1) (off := 2) 73 (upd_same _ _ _) (by simp [putV]) rfl
  refine ⟨g', e1, ?_⟩
  have e : upd (upd (upd (upd (upd M mn (some (bv z32.1))) (mn + 1) (some [.flat (.int .i64 node), .bp kb 0, .nil, .bs mn 0 1 1])) mn none) (mn + 1) (some (putV [.flat (.int .i64 node), .bp kb 0, .nil, .bs mn 0 1 1] 3 [.sl true 32 1 (bv z32.1)]))) (mn + 1) (some (putV (putV [.flat (.int .i64 node), .bp kb 0, .nil, .bs mn 0 1 1] 3 [.sl true 32 1 (bv z32.1)]) 2 [.sl true 73 0 []])) = upd M (mn + 1) (some (lgC node kb [])) := by
    funext b
    by_cases q1 : b = mn + 1
    · subst q1
      rw [upd_same, upd_same]; rfl
    · rw [upd_ne _ _ q1, upd_ne _ _ q1, upd_ne _ _ q1]
      by_cases q2 : b = mn
      · subst q2; rw [upd_same, hM b (Nat.le_refl _)]
      · rw [upd_ne _ _ q2, upd_ne _ _ q1, upd_ne _ _ q2]
  rw [e] at h2
  exact h2
theorem LLen_sp (node : Int) (kb b : Nat) (l : List Ent) (M : Mem) (mn : Nat) (hb : M b = some (lgC node kb l)) : Sp Tryd.prog GL 41 [.bp b 0] M mn (fun r m k => r = .flat (.int .i64 l.length) ∧ m = M ∧ k = mn) := by
  unfold lgC at hb
  refine fnP (C := kc 10 [] []) (rs := [.tmp 2]) envOk Tryd.func41 (by kernel_rfl) rfl rfl rfl rfl rfl rfl ?_
  intro E hG hM
  repeat' (first | (with_reducible first | refine pa ?_ | refine pb ?_ | refine pc ?_ | refine nxt_n ?_ | refine nxt_e ?_ | refine nxt_r ?_ | refine blk_n ?_ | refine blk_r ?_ | refine blk_hit ?_ | refine blk_miss (by rfl) ?_ | refine pd ?_ | refine pe ?_ | refine pf ?_ | refine pg ?_ | apply And.intro) | (refine hK _ ?_; clear hK K hΘ Θ) | (with_reducible first | refine cw1 ?_ | refine cw2 ?_ | exact cw3 | exact cw4) | ((with_reducible first | refine cw5 (fun gg => ?_) | refine cw6 (fun gg => ?_) | refine cw7 (fun gg => ?_)); try simp only [gg]) | refine cs1 hG rfl ?_ ?_ | refine cs2 hG rfl ?_ ?_ | ((first | refine rga hG (by kernel_rfl) (fun Θ K hΘ hK => ?_) | refine rgb hG (by kernel_rfl) (fun Θ K hΘ hK => ?_)); simp (maxSteps := 2000000) only [go_sem, seval, reduceCtorEq, hb]) | ((first | refine Post.splitN (fun gg => ?_) (fun gg => ?_) | refine Post.split (fun gg => ?_) (fun gg => ?_)) <;> simp (maxSteps := 2000000) only [go_sem, seval, reduceCtorEq, gg, hb]) | (refine finR (by simp only [go_sem, seval, reduceCtorEq, hb]; exact rfl) ?_; simp only [go_sem, seval, reduceCtorEq, hb]) | refine updL hM ?_ (by omega) | (with_reducible exact fun _ _ => rfl))
  all_goals (first | omega | (simp only [decide_eq_true_eq, decide_eq_false_iff_not] at *; omega) | (simp only [List.length_append, List.length_cons, List.length_nil] <;> omega) | exact one_bv _ | exact one_sv _ | skip)
theorem LLeft_sp (node : Int) (kb b : Nat) (s : List UInt8) (h : Nat) (h8 : h ≤ 8) (l : List Ent) (hl : l.length ≤ 2 ^ h) (M : Mem) (mn : Nat) (hk : M kb = some (kyV s h).c) (hb : M b = some (lgC node kb l)) : Sp Tryd.prog GL 42 [.bp b 0] M mn (fun r m k => r = .flat (.int .i64 (2 ^ h - l.length : Nat)) ∧ m = M ∧ k = mn) := by
  unfold lgC at hb
  have hp := pow_le8 h h8
  have v1 : IntKind.i64.wrap (((2 ^ h : Nat) : Int) - (l.length : Int)) = ((2 ^ h - l.length : Nat) : Int) := by rw [wi (by omega) (by omega)]; omega
  refine fnP (C := kc 16 [] []) (rs := [.tmp 2]) envOk Tryd.func42 (by kernel_rfl) rfl rfl rfl rfl rfl rfl ?_
  intro E hG hM
  have hlt := box_lt hM hb
  have hlk := box_lt hM hk
  repeat' (first | (with_reducible first | refine pa ?_ | refine pb ?_ | refine pc ?_ | refine nxt_n ?_ | refine nxt_e ?_ | refine nxt_r ?_ | refine blk_n ?_ | refine blk_r ?_ | refine blk_hit ?_ | refine blk_miss (by rfl) ?_ | refine pd ?_ | refine pe ?_ | refine pf ?_ | refine pg ?_ | apply And.intro) | (refine hK _ ?_; first | clear hK K hn0 hcl hΘ Θ | clear hK K hΘ Θ) | (with_reducible first | refine cw1 ?_ | refine cw2 ?_ | exact cw3 | exact cw4) | ((with_reducible first | refine cw5 (fun gg => ?_) | refine cw6 (fun gg => ?_) | refine cw7 (fun gg => ?_)); try simp only [gg]) | refine cs1 hG rfl ?_ ?_ | refine cs2 hG rfl ?_ ?_ | ((first | refine kr ([kb]) (fun M n hA => Count_sp kb s h h8 M n ((hA kb (by simp)).trans hk)) (by first | exact .inl rfl | (refine .inr ⟨rfl, ?_⟩; rw [hn0]; first | (simp; done) | (simp; omega))) rfl (clW_le (by rfl)) hΘ hcl hn0 ?_ | refine rga hG (by kernel_rfl) (fun Θ K hΘ hK => ?_) | refine rgb hG (by kernel_rfl) (fun Θ K hΘ hK => ?_) | refine rgc (clW [(4, 4), (8, 8)] defCl) hG (by kernel_rfl) (clW_le (by rfl)) (by rfl) (by kernel_rfl) (fun Θ K hΘ hcl hn0 hK => ?_) | refine rgd (clW [(4, 4), (8, 8)] defCl) hG (by kernel_rfl) (clW_le (by rfl)) (by rfl) (by kernel_rfl) (fun Θ K hΘ hcl hn0 hK => ?_)); simp (maxSteps := 2000000) only [go_sem, seval, reduceCtorEq, hb, v1]) | ((first | refine Post.splitN (fun gg => ?_) (fun gg => ?_) | refine PostB.splitN (fun gg => ?_) (fun gg => ?_) | refine Post.split (fun gg => ?_) (fun gg => ?_) | refine PostB.split (fun gg => ?_) (fun gg => ?_)) <;> simp (maxSteps := 2000000) only [go_sem, seval, reduceCtorEq, gg, hb, v1]) | (refine finR (by simp only [go_sem, seval, reduceCtorEq, hb, v1]; exact rfl) ?_; simp only [go_sem, seval, reduceCtorEq, hb, v1]) | refine updL hM ?_ (by omega) | (with_reducible exact fun _ _ => rfl))
  all_goals (first | omega | (simp only [decide_eq_true_eq, decide_eq_false_iff_not] at *; omega) | (simp only [List.length_append, List.length_cons, List.length_nil] <;> omega) | exact one_bv _ | exact one_sv _ | skip)
theorem LAppend_sp (node : Int) (kb b : Nat) (s : List UInt8) (h : Nat) (h8 : h ≤ 8) (l es : List Ent) (hok : ∀ e ∈ es, e.ok) (hg : ∀ e ∈ es, e.good = true) (hn : l.length + es.length ≤ 2 ^ h) (M : Mem) (mn : Nat) (hk : M kb = some (kyV s h).c) (hb : M b = some (lgC node kb l)) (hbm : b < mn) :
    Sp Tryd.prog GL 40 [.bp b 0, .sl false 73 es.length (Ent.lC es)] M mn (fun r m k => r = .flat (.int .i64 0) ∧ m = upd M b (some (lgC node kb (l ++ es))) ∧ k = mn) := by
  have hp := pow_le8 h h8
  have hbl := hb
  unfold lgC at hb
  have cC := ContE_sp 81 (fun e => !e.good) badA_sp es hok (by omega)
  have hany : es.any (fun e => !e.good) = false := by
    rw [List.any_eq_false]
    intro e he
    rw [hg e he]; simp
  rw [hany] at cC
  have g1 : ((es.length : Int) > ((2 ^ h - l.length : Nat) : Int)) = False := eq_false (by omega)
  have g2 : (l.length < l.length + 1) = True := eq_true (by omega)
  have hlen := ids_len (hashL l)
  rw [hashL_len] at hlen
  have hget := ids_get (hashL l) l.length (by rw [hashL_len]; omega)
  rw [hashL_get l l.length (Nat.le_refl _), List.take_length] at hget
  have g3 : (l.length * 32 + 32 ≤ (l.length + 1) * 32) = True := eq_true (by omega)
  have v1 := wi1 (n := l.length) (by omega)
  have hll := Ent.l_len l
  have hle := Ent.l_len es
  have hW := CWalk_sp (lastL z32 1 l) (l.length + 1 : Nat) es hok (by omega) (by unfold inR; omega) (by omega)
  have hwl := ids_len (walkL (lastL z32 1 l) (l.length + 1 : Nat) es)
  rw [walkL_len] at hwl
  have hA1 := hashL_app l es
  have hA2 := ent_app l es
  rw [show ((l.length : Int) + 1) = ((l.length + 1 : Nat) : Int) by omega] at hA1
  have hlg : lgC node kb (l ++ es) = [.flat (.int .i64 node), .bp kb 0, .sl true 73 (l ++ es).length (Ent.lC (l ++ es)), .sl true 32 ((l ++ es).length + 1) (idsC (hashL (l ++ es)))] := rfl
  have o1 := Ent.lone es
  have o2 := ids_one (walkL (lastL z32 1 l) (l.length + 1 : Nat) es)
  have e1 : l.length + 1 + es.length = (l ++ es).length + 1 := by rw [List.length_append]; omega
  have e2 : l.length + es.length = (l ++ es).length := by rw [List.length_append]
  refine fnP (C := kc 53 [21, 41, 48, 50] []) (rs := [.tmp 4]) envOk Tryd.func40 (by kernel_rfl) rfl rfl rfl rfl rfl rfl ?_
  intro E hG hM
  repeat' (first | (with_reducible first | refine pa ?_ | refine pb ?_ | refine pc ?_ | refine nxt_n ?_ | refine nxt_e ?_ | refine nxt_r ?_ | refine blk_n ?_ | refine blk_r ?_ | refine blk_hit ?_ | refine blk_miss (by rfl) ?_ | refine pd ?_ | refine pe ?_ | refine pf ?_ | refine pg ?_ | apply And.intro) | (refine hK _ ?_; first | clear hK K hn0 hcl hΘ Θ | clear hK K hΘ Θ) | (with_reducible first | refine cw1 ?_ | refine cw2 ?_ | exact cw3 | exact cw4) | ((with_reducible first | refine cw5 (fun gg => ?_) | refine cw6 (fun gg => ?_) | refine cw7 (fun gg => ?_)); try simp only [gg]) | refine cs1 hG rfl ?_ ?_ | refine cs2 hG rfl ?_ ?_ | ((fail_if_success (with_reducible first | show WC _ _ _ (.region 7 _ _) _ _ | show WC _ _ _ (.seq (.region 7 _ _) _) _ _)); (first | refine kg (cC _ _) rfl hΘ ?_ | refine kg (LLeft_sp node kb b s h h8 l (by omega) _ _ hk hbl) rfl hΘ ?_ | refine rga hG (by kernel_rfl) (fun Θ K hΘ hK => ?_) | refine rgb hG (by kernel_rfl) (fun Θ K hΘ hK => ?_) | refine rgc defCl hG (by kernel_rfl) cl0 (by rfl) (by kernel_rfl) (fun Θ K hΘ hcl hn0 hK => ?_) | refine rgd defCl hG (by kernel_rfl) cl0 (by rfl) (by kernel_rfl) (fun Θ K hΘ hcl hn0 hK => ?_)); simp (maxSteps := 2000000) only [go_sem, seval, reduceCtorEq, List.append_eq, hb, g1]) | ((first | refine Post.splitN (fun gg => ?_) (fun gg => ?_) | refine PostB.splitN (fun gg => ?_) (fun gg => ?_) | refine Post.split (fun gg => ?_) (fun gg => ?_) | refine PostB.split (fun gg => ?_) (fun gg => ?_)) <;> simp (maxSteps := 2000000) only [go_sem, seval, reduceCtorEq, List.append_eq, gg, hb, g1]) | (refine finR (by simp only [go_sem, seval, reduceCtorEq, List.append_eq, hb, g1]; exact rfl) ?_; simp only [go_sem, seval, reduceCtorEq, List.append_eq, hb, g1]) | refine updL hM ?_ (by omega) | (with_reducible exact fun _ _ => rfl))
  all_goals (first | omega | (simp only [decide_eq_true_eq, decide_eq_false_iff_not] at *; omega) | (simp only [List.length_append, List.length_cons, List.length_nil] <;> omega) | exact one_bv _ | exact one_sv _ | skip)
  repeat' (first | (with_reducible first | refine pa ?_ | refine pb ?_ | refine pc ?_ | refine nxt_n ?_ | refine nxt_e ?_ | refine nxt_r ?_ | refine blk_n ?_ | refine blk_r ?_ | refine blk_hit ?_ | refine blk_miss (by rfl) ?_ | refine pd ?_ | refine pe ?_ | refine pf ?_ | refine pg ?_ | apply And.intro) | (refine hK _ ?_; first | clear hK K hn0 hcl hΘ Θ | clear hK K hΘ Θ) | (with_reducible first | refine cw1 ?_ | refine cw2 ?_ | exact cw3 | exact cw4) | ((with_reducible first | refine cw5 (fun gg => ?_) | refine cw6 (fun gg => ?_) | refine cw7 (fun gg => ?_)); try simp only [gg]) | refine cs1 hG rfl ?_ ?_ | refine cs2 hG rfl ?_ ?_ | ((first | refine kf (fun M n => hW M n) rfl (by decide) (clW_le (by rfl)) hΘ hcl hn0 ?_ | refine rga hG (by kernel_rfl) (fun Θ K hΘ hK => ?_) | refine rgb hG (by kernel_rfl) (fun Θ K hΘ hK => ?_) | refine rgc (clW [(4, 7), (8, 8), (12, 8), (15, 0), (19, 8)] defCl) hG (by kernel_rfl) (clW_le (by rfl)) (by rfl) (by kernel_rfl) (fun Θ K hΘ hcl hn0 hK => ?_) | refine rgd (clW [(4, 7), (8, 8), (12, 8), (15, 0), (19, 8)] defCl) hG (by kernel_rfl) (clW_le (by rfl)) (by rfl) (by kernel_rfl) (fun Θ K hΘ hcl hn0 hK => ?_)); simp (maxSteps := 2000000) only [go_sem, seval, reduceCtorEq, List.append_eq, hb, g2, hlen, hget, g3, v1, hll, hle, hwl, hA1, hA2, e1, e2, hlg, o1, o2]) | ((first | refine Post.splitN (fun gg => ?_) (fun gg => ?_) | refine PostB.splitN (fun gg => ?_) (fun gg => ?_) | refine Post.split (fun gg => ?_) (fun gg => ?_) | refine PostB.split (fun gg => ?_) (fun gg => ?_)) <;> simp (maxSteps := 2000000) only [go_sem, seval, reduceCtorEq, List.append_eq, gg, hb, g2, hlen, hget, g3, v1, hll, hle, hwl, hA1, hA2, e1, e2, hlg, o1, o2]) | (refine finR (by simp only [go_sem, seval, reduceCtorEq, List.append_eq, hb, g2, hlen, hget, g3, v1, hll, hle, hwl, hA1, hA2, e1, e2, hlg, o1, o2]; exact rfl) ?_; simp only [go_sem, seval, reduceCtorEq, List.append_eq, hb, g2, hlen, hget, g3, v1, hll, hle, hwl, hA1, hA2, e1, e2, hlg, o1, o2]) | refine updL hM ?_ (by omega) | (with_reducible exact fun _ _ => rfl))
  all_goals (first | omega | (simp only [decide_eq_true_eq, decide_eq_false_iff_not] at *; omega) | (simp only [List.length_append, List.length_cons, List.length_nil] <;> omega) | exact one_bv _ | exact one_sv _ | skip)
theorem auT3 (a : Au) (v : Value) : Low (.tup [.agg a.c, .flat v]) := lowTup (lowC1 (lowAgg (Au.flat a)) (lowC1 (Low.flat _) lowC0))
theorem idT3 (x : Id32) (v : Value) : Low (.tup [.agg (bv x.1), .flat v]) := lowTup (lowC1 (lowAgg (FlatS.bv _)) (lowC1 (Low.flat _) lowC0))
theorem LHash_none (node : Int) (kb b : Nat) (l : List Ent) (q : Int) (hq : (l.length : Int) < q) (M : Mem) (mn : Nat) (hb : M b = some (lgC node kb l)) : Sp Tryd.prog GL 44 [.bp b 0, .flat (.int .i64 q)] M mn (fun r m k => r = .tup [.agg (bv z32.1), .flat (.int .i64 5)] ∧ m = M ∧ k = mn) := by
  unfold lgC at hb
  have f1 : (q < 0) = False := eq_false (by omega)
  have f2 : (q > (l.length : Int)) = True := eq_true (by omega)
  have tz := take_bv32 z32
  refine fnL (C := kc 30 [] []) (rs := [.cell 4 52, .tmp 5]) envOk Tryd.func44 (by kernel_rfl) rfl rfl rfl rfl rfl rfl (idT3 _ _) ?_
  intro E hG hM
  have hlt := box_lt hM hb
  have u1 : ∀ z, upd M mn z b = M b := fun z => upd_ne _ _ (by omega)
  repeat' (first | (with_reducible first | refine pa ?_ | refine pb ?_ | refine pc ?_ | refine nxt_n ?_ | refine nxt_e ?_ | refine nxt_r ?_ | refine blk_n ?_ | refine blk_r ?_ | refine blk_hit ?_ | refine blk_miss (by rfl) ?_ | refine pd ?_ | refine pe ?_ | refine pf ?_ | refine pg ?_ | apply And.intro) | (refine hK _ ?_; clear hK K hΘ Θ) | (with_reducible first | refine cw1 ?_ | refine cw2 ?_ | exact cw3 | exact cw4) | ((with_reducible first | refine cw5 (fun gg => ?_) | refine cw6 (fun gg => ?_) | refine cw7 (fun gg => ?_)); try simp only [gg]) | refine cs1 hG rfl ?_ ?_ | refine cs2 hG rfl ?_ ?_ | ((first | refine rga hG (by kernel_rfl) (fun Θ K hΘ hK => ?_) | refine rgb hG (by kernel_rfl) (fun Θ K hΘ hK => ?_)); simp (maxSteps := 2000000) only [go_sem, seval, reduceCtorEq, f1, f2, hb, u1, tz]) | ((first | refine Post.splitN (fun gg => ?_) (fun gg => ?_) | refine Post.split (fun gg => ?_) (fun gg => ?_)) <;> simp (maxSteps := 2000000) only [go_sem, seval, reduceCtorEq, gg, f1, f2, hb, u1, tz]) | (refine finR (by simp only [go_sem, seval, reduceCtorEq, f1, f2, hb, u1, tz]; exact rfl) ?_; simp only [go_sem, seval, reduceCtorEq, f1, f2, hb, u1, tz]) | refine updL hM ?_ (by omega) | (with_reducible exact fun _ _ => rfl))
  all_goals (first | omega | (simp only [decide_eq_true_eq, decide_eq_false_iff_not] at *; omega) | (simp only [List.length_append, List.length_cons, List.length_nil] <;> omega) | exact one_bv _ | exact one_sv _ | skip)
theorem LAuth_none (node : Int) (kb b : Nat) (l : List Ent) (q : Int) (hq : (l.length : Int) < q) (M : Mem) (mn : Nat) (hb : M b = some (lgC node kb l)) : Sp Tryd.prog GL 39 [.bp b 0, .flat (.int .i64 q)] M mn (fun r m k => r = .tup [.agg au0.c, .flat (.int .i64 5)] ∧ m = M ∧ k = mn) := by
  refine fnL (C := kc 50 [] []) (rs := [.cell 4 64, .tmp 5]) envOk Tryd.func39 (by kernel_rfl) rfl rfl rfl rfl rfl rfl (auT3 _ _) ?_
  intro E hG hM
  have hlt := box_lt hM hb
  have u5 : ∀ (m : Mem) x, upd m (mn + 1) x mn = m mn := fun m x => upd_ne _ _ (by omega)
  have cH := LHash_none node kb b l q hq (upd M mn (some au0.c)) (mn + 1) (by rw [upd_ne _ _ (show b ≠ mn by omega)]; exact hb)
  repeat' (first | (with_reducible first | refine pa ?_ | refine pb ?_ | refine pc ?_ | refine nxt_n ?_ | refine nxt_e ?_ | refine nxt_r ?_ | refine blk_n ?_ | refine blk_r ?_ | refine blk_hit ?_ | refine blk_miss (by rfl) ?_ | refine pd ?_ | refine pe ?_ | refine pf ?_ | refine pg ?_ | apply And.intro) | (refine hK _ ?_; first | clear hK K hn0 hcl hΘ Θ | clear hK K hΘ Θ) | (with_reducible first | refine cw1 ?_ | refine cw2 ?_ | exact cw3 | exact cw4) | ((with_reducible first | refine cw5 (fun gg => ?_) | refine cw6 (fun gg => ?_) | refine cw7 (fun gg => ?_)); try simp only [gg]) | refine cs1 hG rfl ?_ ?_ | refine cs2 hG rfl ?_ ?_ | ((first | refine kg (cH) rfl hΘ ?_ | refine rga hG (by kernel_rfl) (fun Θ K hΘ hK => ?_) | refine rgb hG (by kernel_rfl) (fun Θ K hΘ hK => ?_) | refine rgc defCl hG (by kernel_rfl) cl0 (by rfl) (by kernel_rfl) (fun Θ K hΘ hcl hn0 hK => ?_) | refine rgd defCl hG (by kernel_rfl) cl0 (by rfl) (by kernel_rfl) (fun Θ K hΘ hcl hn0 hK => ?_)); simp (maxSteps := 2000000) only [go_sem, seval, reduceCtorEq, u5]) | ((first | refine Post.splitN (fun gg => ?_) (fun gg => ?_) | refine PostB.splitN (fun gg => ?_) (fun gg => ?_) | refine Post.split (fun gg => ?_) (fun gg => ?_) | refine PostB.split (fun gg => ?_) (fun gg => ?_)) <;> simp (maxSteps := 2000000) only [go_sem, seval, reduceCtorEq, gg, u5]) | (refine finR (by simp only [go_sem, seval, reduceCtorEq, u5]; exact rfl) ?_; simp only [go_sem, seval, reduceCtorEq, u5]) | refine updL hM ?_ (by omega) | (with_reducible exact fun _ _ => rfl))
  all_goals (first | omega | (simp only [decide_eq_true_eq, decide_eq_false_iff_not] at *; omega) | (simp only [List.length_append, List.length_cons, List.length_nil] <;> omega) | exact one_bv _ | exact one_sv _ | skip)
theorem entO_good1 : (entO 1 []).good = true := by
  rw [Ent.good3 rfl]
  simp [Ent.out, entO, ent0]
theorem alive16_sp : Rt 28 [] (.flat (.bool true)) := by
  have hE : ({ kind := 3, d := ent0.d, from_ := ent0.from_, seq := ent0.seq, prev := ent0.prev, mask := 1, pay := ent0.pay, sig := ent0.sig } : Ent) = entO 1 [] := rfl
  have ok1 : (entO 1 []).ok := entO_ok (by unfold inR; omega) (by simp)
  have k2 : ((2 ^ 1 - ([] : List Ent).length : Nat) : Int) = 2 := rfl
  have k3 : ([] ++ [entO 1 []] : List Ent) = [entO 1 []] := rfl
  intro M mn
  refine fnL (C := kc 44 [] []) (rs := [.tmp 0]) envOk Tryd.func28 (by kernel_rfl) rfl rfl rfl rfl rfl rfl (Low.flat _) ?_
  intro E hG hM
  have hMk : ∀ z k, mn + 1 ≤ k → upd M mn z k = none := fun z k hk => by rw [upd_ne _ _ (by omega)]; exact hM k (by omega)
  have cN := New_sp [115, 101, 101, 100] 1 (by simp) (by decide) (by decide)
  have cL := LNew_sp 0 (by omega) (by omega) mn [115, 101, 101, 100] 1 (upd M mn (some (kyV [115, 101, 101, 100] 1).c)) (mn + 1) (upd_same _ _ _) (hMk _)
  have u1 : ∀ (A : Mem) x y z, upd (upd (upd A mn x) (mn + 1 + 1) y) (mn + 1 + 1 + 1) z mn = x := fun A x y z => by rw [upd_ne _ _ (by omega), upd_ne _ _ (by omega), upd_same]
  have u2 : ∀ (A : Mem) x y z, upd (upd (upd A mn x) (mn + 1 + 1) y) (mn + 1 + 1 + 1) z (mn + 1 + 1) = y := fun A x y z => by rw [upd_ne _ _ (by omega), upd_same]
  repeat' (first | (with_reducible first | refine pa ?_ | refine pb ?_ | refine pc ?_ | refine nxt_n ?_ | refine nxt_e ?_ | refine nxt_r ?_ | refine blk_n ?_ | refine blk_r ?_ | refine blk_hit ?_ | refine blk_miss (by rfl) ?_ | refine pd ?_ | refine pe ?_ | refine pf ?_ | refine pg ?_ | apply And.intro) | (refine hK _ ?_; clear hK K hΘ Θ) | (with_reducible first | refine cw1 ?_ | refine cw2 ?_ | exact cw3 | exact cw4) | ((with_reducible first | refine cw5 (fun gg => ?_) | refine cw6 (fun gg => ?_) | refine cw7 (fun gg => ?_)); try simp only [gg]) | refine cs1 hG rfl ?_ ?_ | refine cs2 hG rfl ?_ ?_ | ((fail_if_success (with_reducible first | show WC _ _ _ (.region 2 _ _) _ _ | show WC _ _ _ (.seq (.region 2 _ _) _) _ _)); (first | refine kg (cN _ _) rfl hΘ ?_ | refine rga hG (by kernel_rfl) (fun Θ K hΘ hK => ?_) | refine rgb hG (by kernel_rfl) (fun Θ K hΘ hK => ?_)); simp (maxSteps := 2000000) only [go_sem, seval, reduceCtorEq]) | ((first | refine Post.splitN (fun gg => ?_) (fun gg => ?_) | refine Post.split (fun gg => ?_) (fun gg => ?_)) <;> simp (maxSteps := 2000000) only [go_sem, seval, reduceCtorEq, gg]) | (refine finR (by simp only [go_sem, seval, reduceCtorEq]; exact rfl) ?_; simp only [go_sem, seval, reduceCtorEq]) | refine updL hM ?_ (by omega) | (with_reducible exact fun _ _ => rfl))
  all_goals (first | omega | (simp only [decide_eq_true_eq, decide_eq_false_iff_not] at *; omega) | (simp only [List.length_append, List.length_cons, List.length_nil] <;> omega) | exact one_bv _ | exact one_sv _ | skip)
  repeat' (first | (with_reducible first | refine pa ?_ | refine pb ?_ | refine pc ?_ | refine nxt_n ?_ | refine nxt_e ?_ | refine nxt_r ?_ | refine blk_n ?_ | refine blk_r ?_ | refine blk_hit ?_ | refine blk_miss (by rfl) ?_ | refine pd ?_ | refine pe ?_ | refine pf ?_ | refine pg ?_ | apply And.intro) | (refine hK _ ?_; clear hK K hΘ Θ) | (with_reducible first | refine cw1 ?_ | refine cw2 ?_ | exact cw3 | exact cw4) | ((with_reducible first | refine cw5 (fun gg => ?_) | refine cw6 (fun gg => ?_) | refine cw7 (fun gg => ?_)); try simp only [gg]) | refine cs1 hG rfl ?_ ?_ | refine cs2 hG rfl ?_ ?_ | ((fail_if_success (with_reducible first | show WC _ _ _ (.region 3 _ _) _ _ | show WC _ _ _ (.seq (.region 3 _ _) _) _ _)); (first | refine kg (cL) rfl hΘ ?_ | refine rga hG (by kernel_rfl) (fun Θ K hΘ hK => ?_) | refine rgb hG (by kernel_rfl) (fun Θ K hΘ hK => ?_)); simp (maxSteps := 2000000) only [go_sem, seval, reduceCtorEq]) | ((first | refine Post.splitN (fun gg => ?_) (fun gg => ?_) | refine Post.split (fun gg => ?_) (fun gg => ?_)) <;> simp (maxSteps := 2000000) only [go_sem, seval, reduceCtorEq, gg]) | (refine finR (by simp only [go_sem, seval, reduceCtorEq]; exact rfl) ?_; simp only [go_sem, seval, reduceCtorEq]) | refine updL hM ?_ (by omega) | (with_reducible exact fun _ _ => rfl))
  all_goals (first | omega | (simp only [decide_eq_true_eq, decide_eq_false_iff_not] at *; omega) | (simp only [List.length_append, List.length_cons, List.length_nil] <;> omega) | exact one_bv _ | exact one_sv _ | skip)
  repeat' (first | (with_reducible first | refine pa ?_ | refine pb ?_ | refine pc ?_ | refine nxt_n ?_ | refine nxt_e ?_ | refine nxt_r ?_ | refine blk_n ?_ | refine blk_r ?_ | refine blk_hit ?_ | refine blk_miss (by rfl) ?_ | refine pd ?_ | refine pe ?_ | refine pf ?_ | refine pg ?_ | apply And.intro) | (refine hK _ ?_; clear hK K hΘ Θ) | (with_reducible first | refine cw1 ?_ | refine cw2 ?_ | exact cw3 | exact cw4) | ((with_reducible first | refine cw5 (fun gg => ?_) | refine cw6 (fun gg => ?_) | refine cw7 (fun gg => ?_)); try simp only [gg]) | refine cs1 hG rfl ?_ ?_ | refine cs2 hG rfl ?_ ?_ | ((fail_if_success (with_reducible first | show WC _ _ _ (.region 4 _ _) _ _ | show WC _ _ _ (.seq (.region 4 _ _) _) _ _)); (first | refine kg (LAuth_none 0 mn (mn + 1 + 1) [] 1 (by simp) _ _ (upd_same _ _ _)) rfl hΘ ?_ | refine rga hG (by kernel_rfl) (fun Θ K hΘ hK => ?_) | refine rgb hG (by kernel_rfl) (fun Θ K hΘ hK => ?_)); simp (maxSteps := 2000000) only [go_sem, seval, reduceCtorEq]) | ((first | refine Post.splitN (fun gg => ?_) (fun gg => ?_) | refine Post.split (fun gg => ?_) (fun gg => ?_)) <;> simp (maxSteps := 2000000) only [go_sem, seval, reduceCtorEq, gg]) | (refine finR (by simp only [go_sem, seval, reduceCtorEq]; exact rfl) ?_; simp only [go_sem, seval, reduceCtorEq]) | refine updL hM ?_ (by omega) | (with_reducible exact fun _ _ => rfl))
  all_goals (first | omega | (simp only [decide_eq_true_eq, decide_eq_false_iff_not] at *; omega) | (simp only [List.length_append, List.length_cons, List.length_nil] <;> omega) | exact one_bv _ | exact one_sv _ | skip)
  obtain ⟨M4, hM4⟩ : ∃ m : Mem, m = upd (upd (upd M mn (some (kyV [115, 101, 101, 100] 1).c)) (mn + 1 + 1) (some (lgC 0 mn []))) (mn + 1 + 1 + 1) (some au0.c) := ⟨_, rfl⟩
  have hk : M4 mn = some (kyV [115, 101, 101, 100] 1).c := by rw [hM4]; exact u1 _ _ _ _
  have hb : M4 (mn + 1 + 1) = some (lgC 0 mn []) := by rw [hM4]; exact u2 _ _ _ _
  have hMb : ∀ b, M b ≠ none → upd M4 (mn + 1 + 1) (some (lgC 0 mn [entO 1 []])) b = M b := fun b hb2 => by
    have hlt : b < mn := Nat.lt_of_not_le fun k => hb2 (hM b k)
    rw [upd_ne _ _ (by omega), hM4, upd_ne _ _ (by omega), upd_ne _ _ (by omega), upd_ne _ _ (by omega)]
  rw [← hM4]
  have hEl : Ent.lC [entO 1 []] = (entO 1 []).c := by simp [Ent.lC]
  have hEl2 : (entO 1 []).c ++ [] = (entO 1 []).c := List.append_nil _
  have cF := LLeft_sp 0 mn (mn + 1 + 1) [115, 101, 101, 100] 1 (by omega) [] (by simp) M4 (mn + 1 + 1 + 1 + 1) hk hb
  rw [k2] at cF
  have cA := LAppend_sp 0 mn (mn + 1 + 1) [115, 101, 101, 100] 1 (by omega) [] [entO 1 []] (by simpa using ok1) (by simpa using entO_good1) (by simp) M4 (mn + 1 + 1 + 1 + 1) hk hb (by omega)
  rw [hEl, List.nil_append] at cA
  have cN2 := LLen_sp 0 mn (mn + 1 + 1) [entO 1 []] (upd M4 (mn + 1 + 1) (some (lgC 0 mn [entO 1 []]))) (mn + 1 + 1 + 1 + 1) (upd_same _ _ _)
  simp only [List.length_singleton] at cA cN2
  have hMb2 : ∀ b, M b ≠ none → M4 b = M b := fun b hb2 => by
    have hlt : b < mn := Nat.lt_of_not_le fun k => hb2 (hM b k)
    rw [hM4, upd_ne _ _ (by omega), upd_ne _ _ (by omega), upd_ne _ _ (by omega)]
  repeat' (first | (with_reducible first | refine pa ?_ | refine pb ?_ | refine pc ?_ | refine nxt_n ?_ | refine nxt_e ?_ | refine nxt_r ?_ | refine blk_n ?_ | refine blk_r ?_ | refine blk_hit ?_ | refine blk_miss (by rfl) ?_ | refine pd ?_ | refine pe ?_ | refine pf ?_ | refine pg ?_ | apply And.intro) | (refine hK _ ?_; clear hK K hΘ Θ) | (with_reducible first | refine cw1 ?_ | refine cw2 ?_ | exact cw3 | exact cw4) | ((with_reducible first | refine cw5 (fun gg => ?_) | refine cw6 (fun gg => ?_) | refine cw7 (fun gg => ?_)); try simp only [gg]) | refine cs1 hG rfl ?_ ?_ | refine cs2 hG rfl ?_ ?_ | ((first | refine kg (cF) rfl hΘ ?_ | refine kg (cA) rfl hΘ ?_ | refine kg (cN2) rfl hΘ ?_ | refine rga hG (by kernel_rfl) (fun Θ K hΘ hK => ?_) | refine rgb hG (by kernel_rfl) (fun Θ K hΘ hK => ?_)); simp (maxSteps := 2000000) only [go_sem, seval, reduceCtorEq, hE, hEl2, hMb]) | ((first | refine Post.splitN (fun gg => ?_) (fun gg => ?_) | refine Post.split (fun gg => ?_) (fun gg => ?_)) <;> simp (maxSteps := 2000000) only [go_sem, seval, reduceCtorEq, gg, hE, hEl2, hMb]) | (refine finR (by simp only [go_sem, seval, reduceCtorEq, hE, hEl2, hMb]; exact rfl) ?_; simp only [go_sem, seval, reduceCtorEq, hE, hEl2, hMb]) | refine updL hM ?_ (by omega) | (with_reducible exact fun _ _ => rfl))
  all_goals (first | omega | (simp only [decide_eq_true_eq, decide_eq_false_iff_not] at *; omega) | (simp only [List.length_append, List.length_cons, List.length_nil] <;> omega) | exact one_bv _ | exact one_sv _ | skip)
end Go.VL

set_option linter.unusedVariables false
set_option linter.unusedSimpArgs false
set_option maxRecDepth 100000
set_option maxHeartbeats 8000000
open Go.RowKit
namespace Go.VL
open Go.Proofs
theorem turn_sp (x : UInt32) (n : Int) (h : decide (1 ≤ n) && decide (n ≤ 31) = true) : Rt 109 [.flat (.int .u32 x.toNat), .flat (.int .u32 n)] (.flat (.int .u32 (rotr x n.toNat).toNat)) := by
  simp only [Bool.and_eq_true, decide_eq_true_eq] at h
  obtain ⟨k, rfl⟩ : ∃ k : Nat, n = (k : Int) := ⟨n.toNat, by omega⟩
  have e2 : IntKind.u32.wrap (32 - (k : Int)) = ((32 - k : Nat) : Int) := by rw [show (32 - (k : Int)) = ((32 - k : Nat) : Int) by omega, wrap_u32, Nat.mod_eq_of_lt (by omega)]
  have e3 := w_shlN x (32 - k) (by omega)
  have e4 := w_shrN x k (by omega)
  rw [Int.toNat_natCast]
  intro M mn
  refine fnL (C := kc 13 [] []) (rs := [.tmp 4]) envOk Tryd.func109 (by kernel_rfl) rfl rfl rfl rfl rfl rfl (Low.flat _) ?_
  intro E hG hM
  repeat' (first | (with_reducible first | refine pa ?_ | refine pb ?_ | refine pc ?_ | refine nxt_n ?_ | refine nxt_e ?_ | refine nxt_r ?_ | refine blk_n ?_ | refine blk_r ?_ | refine blk_hit ?_ | refine blk_miss (by rfl) ?_ | refine pd ?_ | refine pe ?_ | refine pf ?_ | refine pg ?_ | apply And.intro) | (refine hK _ ?_; clear hK K hΘ Θ) | (with_reducible first | refine cw1 ?_ | refine cw2 ?_ | exact cw3 | exact cw4) | ((with_reducible first | refine cw5 (fun gg => ?_) | refine cw6 (fun gg => ?_) | refine cw7 (fun gg => ?_)); try simp only [gg]) | refine cs1 hG rfl ?_ ?_ | refine cs2 hG rfl ?_ ?_ | ((first | refine rga hG (by kernel_rfl) (fun Θ K hΘ hK => ?_) | refine rgb hG (by kernel_rfl) (fun Θ K hΘ hK => ?_)); simp (maxSteps := 2000000) only [go_sem, seval, reduceCtorEq, e2, e3, e4]) | ((first | refine Post.splitN (fun gg => ?_) (fun gg => ?_) | refine Post.split (fun gg => ?_) (fun gg => ?_)) <;> simp (maxSteps := 2000000) only [go_sem, seval, reduceCtorEq, gg, e2, e3, e4]) | (refine finR (by simp only [go_sem, seval, reduceCtorEq, e2, e3, e4]; exact rfl) ?_; simp only [go_sem, seval, reduceCtorEq, e2, e3, e4]) | refine updL hM ?_ (by omega) | (with_reducible exact fun _ _ => rfl))
  all_goals (first | omega | (simp only [decide_eq_true_eq, decide_eq_false_iff_not] at *; omega) | (simp only [List.length_append, List.length_cons, List.length_nil] <;> omega) | exact one_bv _ | exact one_sv _ | skip)
  rfl
theorem known_sp (M : Mem) (mn : Nat) : Sp Tryd.prog GL 108 [] M mn (fun r m k => r = .tup [.bs mn 0 8 8, .bs (mn + 1) 0 64 64] ∧ m = upd (upd M mn (some (uv startN))) (mn + 1) (some (uv roundN)) ∧ k = mn + 1 + 1) := by
  refine fnP (C := kc 8 [] [4, 5]) (rs := [.tmp 0, .tmp 1]) envOk Tryd.func108 (by kernel_rfl) rfl rfl rfl rfl rfl rfl ?_
  intro E hG hM
  repeat' (first | (with_reducible first | refine pa ?_ | refine pb ?_ | refine pc ?_ | refine nxt_n ?_ | refine nxt_e ?_ | refine nxt_r ?_ | refine blk_n ?_ | refine blk_r ?_ | refine blk_hit ?_ | refine blk_miss (by rfl) ?_ | refine pd ?_ | refine pe ?_ | refine pf ?_ | refine pg ?_ | apply And.intro) | (refine hK _ ?_; clear hK K hΘ Θ) | (with_reducible first | refine cw1 ?_ | refine cw2 ?_ | exact cw3 | exact cw4) | ((with_reducible first | refine cw5 (fun gg => ?_) | refine cw6 (fun gg => ?_) | refine cw7 (fun gg => ?_)); try simp only [gg]) | refine cs1 hG rfl ?_ ?_ | refine cs2 hG rfl ?_ ?_ | ((first | refine rga hG (by kernel_rfl) (fun Θ K hΘ hK => ?_) | refine rgb hG (by kernel_rfl) (fun Θ K hΘ hK => ?_)); simp (maxSteps := 2000000) only [go_sem, seval, reduceCtorEq, rep_one]) | ((first | refine Post.splitN (fun gg => ?_) (fun gg => ?_) | refine Post.split (fun gg => ?_) (fun gg => ?_)) <;> simp (maxSteps := 2000000) only [go_sem, seval, reduceCtorEq, gg, rep_one]) | (refine finR (by simp only [go_sem, seval, reduceCtorEq, rep_one]; exact rfl) ?_; simp only [go_sem, seval, reduceCtorEq, rep_one]) | refine updL hM ?_ (by omega) | (with_reducible exact fun _ _ => rfl))
  all_goals (first | omega | (simp only [decide_eq_true_eq, decide_eq_false_iff_not] at *; omega) | (simp only [List.length_append, List.length_cons, List.length_nil] <;> omega) | exact one_bv _ | exact one_sv _ | skip)
  rfl
def mB (M : Mem) (mn : Nat) (h : List UInt32) : Mem := upd (upd (upd M mn (some (bv z32.1))) (mn + 1) (some (uv h))) (mn + 1 + 1) (some (uv roundN))
theorem mB_h (M : Mem) (mn : Nat) (h : List UInt32) : mB M mn h (mn + 1) = some (uv h) := by rw [mB, upd_ne _ _ (by omega), upd_same]
theorem mB_k (M : Mem) (mn : Nat) (h : List UInt32) : mB M mn h (mn + 1 + 1) = some (uv roundN) := by rw [mB, upd_same]
theorem mB_s (M : Mem) (mn : Nat) (h g : List UInt32) : upd (mB M mn h) (mn + 1) (some (uv g)) = mB M mn g := by rw [mB, upd_swap (by omega), upd_upd, mB]
theorem set_zero {p : List UInt8} {i : Nat} : (wArr p i).set i 0 = wArr p i := by
  apply List.ext_getElem?
  intro j
  by_cases h : i = j
  · subst h
    have := wArr_zero p i i (Nat.le_refl _)
    rw [List.getD_eq_getElem?_getD] at this
    rw [List.getElem?_set_self']
    cases e : (wArr p i)[i]? with
    | none => rfl
    | some x => rw [e] at this; simp at this; simp [this]
  · rw [List.getElem?_set_ne h]
theorem ROf_sp (s : List UInt8) (hs : s.length ≤ 1099511627776) : Rt 76 [.flat (.string (bs s))] (.agg (bv (sha s).1)) := by
  intro M mn
  refine fnL (C := kc 287 [34, 45] [59]) (rs := [.cell 2 52]) envOk Tryd.func76 (by kernel_rfl) rfl rfl rfl rfl rfl rfl (lowAgg (FlatS.bv _)) ?_
  intro E hG hM
  repeat' (first | (with_reducible first | refine pa ?_ | refine pb ?_ | refine pc ?_ | refine nxt_n ?_ | refine nxt_e ?_ | refine nxt_r ?_ | refine blk_n ?_ | refine blk_r ?_ | refine blk_hit ?_ | refine blk_miss (by rfl) ?_ | refine pd ?_ | refine pe ?_ | refine pf ?_ | refine pg ?_ | apply And.intro) | (refine hK _ ?_; first | clear hK K hn0 hcl hΘ Θ | clear hK K hΘ Θ) | (with_reducible first | refine cw1 ?_ | refine cw2 ?_ | exact cw3 | exact cw4) | ((with_reducible first | refine cw5 (fun gg => ?_) | refine cw6 (fun gg => ?_) | refine cw7 (fun gg => ?_)); try simp only [gg]) | refine cs1 hG rfl ?_ ?_ | refine cs2 hG rfl ?_ ?_ | ((first | refine kg (known_sp _ _) rfl hΘ ?_ | refine rga hG (by kernel_rfl) (fun Θ K hΘ hK => ?_) | refine rgb hG (by kernel_rfl) (fun Θ K hΘ hK => ?_) | refine rgc defCl hG (by kernel_rfl) cl0 (by rfl) (by kernel_rfl) (fun Θ K hΘ hcl hn0 hK => ?_) | refine rgd defCl hG (by kernel_rfl) cl0 (by rfl) (by kernel_rfl) (fun Θ K hΘ hcl hn0 hK => ?_)); simp (maxSteps := 2000000) only [go_sem, seval, reduceCtorEq, List.append_eq]) | ((first | refine Post.splitN (fun gg => ?_) (fun gg => ?_) | refine PostB.splitN (fun gg => ?_) (fun gg => ?_) | refine Post.split (fun gg => ?_) (fun gg => ?_) | refine PostB.split (fun gg => ?_) (fun gg => ?_)) <;> simp (maxSteps := 2000000) only [go_sem, seval, reduceCtorEq, List.append_eq, gg]) | (refine finR (by simp only [go_sem, seval, reduceCtorEq, List.append_eq]; exact rfl) ?_; simp only [go_sem, seval, reduceCtorEq, List.append_eq]) | refine updL hM ?_ (by omega) | (with_reducible exact fun _ _ => rfl))
  all_goals (first | omega | (simp only [decide_eq_true_eq, decide_eq_false_iff_not] at *; omega) | (simp only [List.length_append, List.length_cons, List.length_nil] <;> omega) | exact one_bv _ | exact one_sv _ | skip)
  refine WC.loopA (fun l : List UInt8 => ⟨[(5, .sl true 1 l.length (bv l)), (4, .bs (mn + 1 + 1) 0 64 64), (3, .bs (mn + 1) 0 8 8), (2, .bp mn 0), (0, .flat (.string (bs s)))], mB M mn startN, mn + 1 + 1 + 1⟩) (fun l => s.length + 100 - l.length) (fun l => ∃ j, j ≤ padN s.length ∧ l = s ++ [128] ++ List.replicate j 0) (s ++ [128]) ⟨0, by omega, by simp⟩ (sbs (by simp (maxSteps := 2000000) only [go_sem, seval, reduceCtorEq, List.append_eq, bv_snoc128, len_snoc]) rfl rfl) ?_
  rintro l ⟨j, hj, hl⟩
  have hpd : padN s.length = (120 - (s.length + 1) % 64) % 64 := rfl
  have hll : l.length = s.length + 1 + j := by rw [hl]; simp; omega
  have e0 : ((l.length : Int).tmod 64) = ((l.length % 64 : Nat) : Int) := tmodN _ 64
  by_cases hm : l.length % 64 ≠ 56
  · have f0 : (((l.length % 64 : Nat) : Int) = 56) = False := eq_false (by omega)
    repeat' (first | (with_reducible first | refine pa ?_ | refine pb ?_ | refine pc ?_ | refine nxt_n ?_ | refine nxt_e ?_ | refine nxt_r ?_ | refine blk_n ?_ | refine blk_r ?_ | refine blk_hit ?_ | refine blk_miss (by rfl) ?_ | refine pd ?_ | refine pe ?_ | refine pf ?_ | refine pg ?_ | apply And.intro) | (refine hK _ ?_; first | clear hK K hn0 hcl hΘ Θ | clear hK K hΘ Θ) | (with_reducible first | refine cw1 ?_ | refine cw2 ?_ | exact cw3 | exact cw4) | ((with_reducible first | refine cw5 (fun gg => ?_) | refine cw6 (fun gg => ?_) | refine cw7 (fun gg => ?_)); try simp only [gg]) | refine cs1 hG rfl ?_ ?_ | refine cs2 hG rfl ?_ ?_ | ((first | refine rga hG (by kernel_rfl) (fun Θ K hΘ hK => ?_) | refine rgb hG (by kernel_rfl) (fun Θ K hΘ hK => ?_) | refine rgc defCl hG (by kernel_rfl) cl0 (by rfl) (by kernel_rfl) (fun Θ K hΘ hcl hn0 hK => ?_) | refine rgd defCl hG (by kernel_rfl) cl0 (by rfl) (by kernel_rfl) (fun Θ K hΘ hcl hn0 hK => ?_)); simp (maxSteps := 2000000) only [go_sem, seval, reduceCtorEq, List.append_eq, e0, f0]) | ((first | refine Post.splitN (fun gg => ?_) (fun gg => ?_) | refine PostB.splitN (fun gg => ?_) (fun gg => ?_) | refine Post.split (fun gg => ?_) (fun gg => ?_) | refine PostB.split (fun gg => ?_) (fun gg => ?_)) <;> simp (maxSteps := 2000000) only [go_sem, seval, reduceCtorEq, List.append_eq, gg, e0, f0]) | (refine finR (by simp only [go_sem, seval, reduceCtorEq, List.append_eq, e0, f0]; exact rfl) ?_; simp only [go_sem, seval, reduceCtorEq, List.append_eq, e0, f0]) | refine updL hM ?_ (by omega) | (with_reducible exact fun _ _ => rfl))
    all_goals (first | omega | (simp only [decide_eq_true_eq, decide_eq_false_iff_not] at *; omega) | (simp only [List.length_append, List.length_cons, List.length_nil] <;> omega) | exact one_bv _ | exact one_sv _ | skip)
    refine ⟨l ++ [0], ⟨j + 1, by omega, ?_⟩, ?_, (sbs (by simp (maxSteps := 2000000) only [go_sem, seval, reduceCtorEq, List.append_eq, len_snoc]) rfl rfl)⟩
    · rw [hl, List.replicate_succ']; simp
    · rw [len_snoc]; omega
  have f0 : (((l.length % 64 : Nat) : Int) = 56) = True := eq_true (by omega)
  have ej : j = padN s.length := by omega
  subst ej
  have w1 : IntKind.u64.wrap (s.length : Int) = (s.length : Int) := wu (by omega) (by omega)
  have w2 : IntKind.u64.wrap ((s.length : Int) * 8) = ((s.length * 8 : Nat) : Int) := by rw [wu (by omega) (by omega)]; omega
  repeat' (first | (with_reducible first | refine pa ?_ | refine pb ?_ | refine pc ?_ | refine nxt_n ?_ | refine nxt_e ?_ | refine nxt_r ?_ | refine blk_n ?_ | refine blk_r ?_ | refine blk_hit ?_ | refine blk_miss (by rfl) ?_ | refine pd ?_ | refine pe ?_ | refine pf ?_ | refine pg ?_ | apply And.intro) | (refine hK _ ?_; first | clear hK K hn0 hcl hΘ Θ | clear hK K hΘ Θ) | (with_reducible first | refine cw1 ?_ | refine cw2 ?_ | exact cw3 | exact cw4) | ((with_reducible first | refine cw5 (fun gg => ?_) | refine cw6 (fun gg => ?_) | refine cw7 (fun gg => ?_)); try simp only [gg]) | refine cs1 hG rfl ?_ ?_ | refine cs2 hG rfl ?_ ?_ | ((first | refine rga hG (by kernel_rfl) (fun Θ K hΘ hK => ?_) | refine rgb hG (by kernel_rfl) (fun Θ K hΘ hK => ?_) | refine rgc defCl hG (by kernel_rfl) cl0 (by rfl) (by kernel_rfl) (fun Θ K hΘ hcl hn0 hK => ?_) | refine rgd defCl hG (by kernel_rfl) cl0 (by rfl) (by kernel_rfl) (fun Θ K hΘ hcl hn0 hK => ?_)); simp (maxSteps := 2000000) only [go_sem, seval, reduceCtorEq, List.append_eq, e0, f0, w1, w2]) | ((first | refine Post.splitN (fun gg => ?_) (fun gg => ?_) | refine PostB.splitN (fun gg => ?_) (fun gg => ?_) | refine Post.split (fun gg => ?_) (fun gg => ?_) | refine PostB.split (fun gg => ?_) (fun gg => ?_)) <;> simp (maxSteps := 2000000) only [go_sem, seval, reduceCtorEq, List.append_eq, gg, e0, f0, w1, w2]) | (refine finR (by simp only [go_sem, seval, reduceCtorEq, List.append_eq, e0, f0, w1, w2]; exact rfl) ?_; simp only [go_sem, seval, reduceCtorEq, List.append_eq, e0, f0, w1, w2]) | refine updL hM ?_ (by omega) | (with_reducible exact fun _ _ => rfl))
  all_goals (first | omega | (simp only [decide_eq_true_eq, decide_eq_false_iff_not] at *; omega) | (simp only [List.length_append, List.length_cons, List.length_nil] <;> omega) | exact one_bv _ | exact one_sv _ | skip)
  generalize hpr : l = pre at hll
  generalize hN : s.length * 8 = N
  have hNb : N < 18446744073709551616 := by omega
  refine WC.loopA (fun j : Nat => ⟨[(7, .flat (.int .i64 j)), (6, .flat (.int .u64 (N * 256 ^ j % 18446744073709551616 : Nat))), (5, .sl true 1 (pre ++ (lenB N).take j).length (bv (pre ++ (lenB N).take j))), (4, .bs (mn + 1 + 1) 0 64 64), (3, .bs (mn + 1) 0 8 8), (2, .bp mn 0)], mB M mn startN, mn + 1 + 1 + 1⟩) (fun j => 8 - j) (fun j => j ≤ 8) 0 (by omega) (sbs (by simp (maxSteps := 2000000) only [go_sem, seval, reduceCtorEq, List.append_eq, List.take_zero, List.append_nil, hpr, Int.natCast_zero, Nat.pow_zero, Nat.mul_one, Nat.mod_eq_of_lt hNb]) rfl rfl) ?_
  intro j hj8
  generalize hL : pre ++ (lenB N).take j = L
  have hLl : L.length = pre.length + j := by rw [← hL, List.length_append, List.length_take, lenB_len]; omega
  by_cases h8 : j < 8
  · have f8 : ((j : Int) < 8) = True := eq_true (by omega)
    have v1 : IntKind.i64.wrap (j + 1) = ((j + 1 : Nat) : Int) := by rw [wi (by omega) (by omega)]; omega
    have v2 : quoI .u64 ((N * 256 ^ j % 18446744073709551616 : Nat) : Int) 72057594037927936 = _ := quo64 (N * 256 ^ j % 18446744073709551616) 72057594037927936 (Nat.mod_lt _ (by omega))
    have v3 : IntKind.u64.wrap ((N * 256 ^ j % 18446744073709551616 : Nat) * 256 : Int) = ((N * 256 ^ (j + 1) % 18446744073709551616 : Nat) : Int) := by
      have := wrap_u64n (N * 256 ^ j % 18446744073709551616 * 256)
      rw [Int.natCast_mul] at this
      rw [show ((256 : Nat) : Int) = 256 from rfl] at this
      rw [this, Nat.mod_mul_mod, Nat.mul_assoc, ← Nat.pow_succ]
    have v4 := w_byteN ((N * 256 ^ j % 18446744073709551616) / 72057594037927936)
    rw [lenB_ref N hNb j h8] at v4
    have hn := lenB_take N j h8
    have hN : pre ++ (lenB N).take (j + 1) = L ++ [UInt8.ofNat (N / 2 ^ (8 * (7 - j)))] := by rw [hn, ← List.append_assoc, hL]
    generalize N * 256 ^ j % 18446744073709551616 = A at v2 v3 v4 ⊢
    repeat' (first | (with_reducible first | refine pa ?_ | refine pb ?_ | refine pc ?_ | refine nxt_n ?_ | refine nxt_e ?_ | refine nxt_r ?_ | refine blk_n ?_ | refine blk_r ?_ | refine blk_hit ?_ | refine blk_miss (by rfl) ?_ | refine pd ?_ | refine pe ?_ | refine pf ?_ | refine pg ?_ | apply And.intro) | (refine hK _ ?_; first | clear hK K hn0 hcl hΘ Θ | clear hK K hΘ Θ) | (with_reducible first | refine cw1 ?_ | refine cw2 ?_ | exact cw3 | exact cw4) | ((with_reducible first | refine cw5 (fun gg => ?_) | refine cw6 (fun gg => ?_) | refine cw7 (fun gg => ?_)); try simp only [gg]) | refine cs1 hG rfl ?_ ?_ | refine cs2 hG rfl ?_ ?_ | ((first | refine rga hG (by kernel_rfl) (fun Θ K hΘ hK => ?_) | refine rgb hG (by kernel_rfl) (fun Θ K hΘ hK => ?_) | refine rgc defCl hG (by kernel_rfl) cl0 (by rfl) (by kernel_rfl) (fun Θ K hΘ hcl hn0 hK => ?_) | refine rgd defCl hG (by kernel_rfl) cl0 (by rfl) (by kernel_rfl) (fun Θ K hΘ hcl hn0 hK => ?_)); simp (maxSteps := 2000000) only [go_sem, seval, reduceCtorEq, List.append_eq, f8, v1, v2, v3, v4]) | ((first | refine Post.splitN (fun gg => ?_) (fun gg => ?_) | refine PostB.splitN (fun gg => ?_) (fun gg => ?_) | refine Post.split (fun gg => ?_) (fun gg => ?_) | refine PostB.split (fun gg => ?_) (fun gg => ?_)) <;> simp (maxSteps := 2000000) only [go_sem, seval, reduceCtorEq, List.append_eq, gg, f8, v1, v2, v3, v4]) | (refine finR (by simp only [go_sem, seval, reduceCtorEq, List.append_eq, f8, v1, v2, v3, v4]; exact rfl) ?_; simp only [go_sem, seval, reduceCtorEq, List.append_eq, f8, v1, v2, v3, v4]) | refine updL hM ?_ (by omega) | (with_reducible exact fun _ _ => rfl))
    all_goals (first | omega | (simp only [decide_eq_true_eq, decide_eq_false_iff_not] at *; omega) | (simp only [List.length_append, List.length_cons, List.length_nil] <;> omega) | exact one_bv _ | exact one_sv _ | skip)
    refine ⟨j + 1, by omega, by omega, (sbs (by simp (maxSteps := 2000000) only [go_sem, seval, reduceCtorEq, List.append_eq, hN, len_snoc]) rfl rfl)⟩
  have f8 : ((j : Int) < 8) = False := eq_false (by omega)
  have e8 : j = 8 := by omega
  subst e8
  rw [List.take_of_length_le (by rw [lenB_len]; omega), ← hpr, hl, ← hN, ← pad] at hL
  have hpd := pad_mod s
  rw [hL] at hpd
  have hLb : L.length < 2000000000000 := by have : padN s.length < 64 := Nat.mod_lt _ (by omega); omega
  repeat' (first | (with_reducible first | refine pa ?_ | refine pb ?_ | refine pc ?_ | refine nxt_n ?_ | refine nxt_e ?_ | refine nxt_r ?_ | refine blk_n ?_ | refine blk_r ?_ | refine blk_hit ?_ | refine blk_miss (by rfl) ?_ | refine pd ?_ | refine pe ?_ | refine pf ?_ | refine pg ?_ | apply And.intro) | (refine hK _ ?_; first | clear hK K hn0 hcl hΘ Θ | clear hK K hΘ Θ) | (with_reducible first | refine cw1 ?_ | refine cw2 ?_ | exact cw3 | exact cw4) | ((with_reducible first | refine cw5 (fun gg => ?_) | refine cw6 (fun gg => ?_) | refine cw7 (fun gg => ?_)); try simp only [gg]) | refine cs1 hG rfl ?_ ?_ | refine cs2 hG rfl ?_ ?_ | ((first | refine rga hG (by kernel_rfl) (fun Θ K hΘ hK => ?_) | refine rgb hG (by kernel_rfl) (fun Θ K hΘ hK => ?_) | refine rgc defCl hG (by kernel_rfl) cl0 (by rfl) (by kernel_rfl) (fun Θ K hΘ hcl hn0 hK => ?_) | refine rgd defCl hG (by kernel_rfl) cl0 (by rfl) (by kernel_rfl) (fun Θ K hΘ hcl hn0 hK => ?_)); simp (maxSteps := 2000000) only [go_sem, seval, reduceCtorEq, List.append_eq, f8]) | ((first | refine Post.splitN (fun gg => ?_) (fun gg => ?_) | refine PostB.splitN (fun gg => ?_) (fun gg => ?_) | refine Post.split (fun gg => ?_) (fun gg => ?_) | refine PostB.split (fun gg => ?_) (fun gg => ?_)) <;> simp (maxSteps := 2000000) only [go_sem, seval, reduceCtorEq, List.append_eq, gg, f8]) | (refine finR (by simp only [go_sem, seval, reduceCtorEq, List.append_eq, f8]; exact rfl) ?_; simp only [go_sem, seval, reduceCtorEq, List.append_eq, f8]) | refine updL hM ?_ (by omega) | (with_reducible exact fun _ _ => rfl))
  all_goals (first | omega | (simp only [decide_eq_true_eq, decide_eq_false_iff_not] at *; omega) | (simp only [List.length_append, List.length_cons, List.length_nil] <;> omega) | exact one_bv _ | exact one_sv _ | skip)
  clear hl hll hpr
  refine WC.loopA (fun q : List UInt32 × Nat × Nat => ⟨[(8, .flat (.int .i64 (64 * q.2.1 : Nat))), (5, .sl false 1 L.length (bv L)), (4, .bs (mn + 1 + 1) 0 64 64), (3, .bs (mn + 1) 0 8 8), (2, .bp mn 0)], mB M mn q.1, q.2.2⟩) (fun q => L.length - 64 * q.2.1) (fun q => q.1.length = 8 ∧ q.1 = foldB q.2.1 startN L ∧ 64 * q.2.1 ≤ L.length ∧ mn + 3 ≤ q.2.2) (startN, 0, mn + 3) ⟨startN_len, rfl, by simp only; omega, by simp only; omega⟩ (sbs (by simp (maxSteps := 2000000) only [go_sem, seval, reduceCtorEq, List.append_eq, Nat.mul_zero, Int.natCast_zero]) rfl rfl) ?_
  rintro ⟨h, i, k⟩ ⟨hh, hf, hil, hk⟩
  simp only at hh hf hil hk ⊢
  generalize hat : 64 * i = at'
  by_cases hend : at' < L.length
  · have f0 : ((at' : Int) < (L.length : Int)) = True := eq_true (by omega)
    have hr := uv_rep 64
    repeat' (first | (with_reducible first | refine pa ?_ | refine pb ?_ | refine pc ?_ | refine nxt_n ?_ | refine nxt_e ?_ | refine nxt_r ?_ | refine blk_n ?_ | refine blk_r ?_ | refine blk_hit ?_ | refine blk_miss (by rfl) ?_ | refine pd ?_ | refine pe ?_ | refine pf ?_ | refine pg ?_ | apply And.intro) | (refine hK _ ?_; first | clear hK K hn0 hcl hΘ Θ | clear hK K hΘ Θ) | (with_reducible first | refine cw1 ?_ | refine cw2 ?_ | exact cw3 | exact cw4) | ((with_reducible first | refine cw5 (fun gg => ?_) | refine cw6 (fun gg => ?_) | refine cw7 (fun gg => ?_)); try simp only [gg]) | refine cs1 hG rfl ?_ ?_ | refine cs2 hG rfl ?_ ?_ | ((first | refine rga hG (by kernel_rfl) (fun Θ K hΘ hK => ?_) | refine rgb hG (by kernel_rfl) (fun Θ K hΘ hK => ?_) | refine rgc defCl hG (by kernel_rfl) cl0 (by rfl) (by kernel_rfl) (fun Θ K hΘ hcl hn0 hK => ?_) | refine rgd defCl hG (by kernel_rfl) cl0 (by rfl) (by kernel_rfl) (fun Θ K hΘ hcl hn0 hK => ?_)); simp (maxSteps := 2000000) only [go_sem, seval, reduceCtorEq, List.append_eq, f0, hr]) | ((first | refine Post.splitN (fun gg => ?_) (fun gg => ?_) | refine PostB.splitN (fun gg => ?_) (fun gg => ?_) | refine Post.split (fun gg => ?_) (fun gg => ?_) | refine PostB.split (fun gg => ?_) (fun gg => ?_)) <;> simp (maxSteps := 2000000) only [go_sem, seval, reduceCtorEq, List.append_eq, gg, f0, hr]) | (refine finR (by simp only [go_sem, seval, reduceCtorEq, List.append_eq, f0, hr]; exact rfl) ?_; simp only [go_sem, seval, reduceCtorEq, List.append_eq, f0, hr]) | refine updL hM ?_ (by omega) | (with_reducible exact fun _ _ => rfl))
    all_goals (first | omega | (simp only [decide_eq_true_eq, decide_eq_false_iff_not] at *; omega) | (simp only [List.length_append, List.length_cons, List.length_nil] <;> omega) | exact one_bv _ | exact one_sv _ | skip)
    generalize hP : (L.drop at').take 64 = p
    have hp : p.length = 64 := by rw [← hP, List.length_take, List.length_drop]; omega
    have hpg : ∀ a, a < 64 → p.getD a 0 = L.getD (at' + a) 0 := fun a ha => by
      rw [← hP, List.getD_eq_getElem?_getD, List.getElem?_take, if_pos ha, List.getElem?_drop, ← List.getD_eq_getElem?_getD]
    have m1 : ∀ x, upd (mB M mn h) k x (mn + 1) = some (uv h) := fun x => by rw [upd_ne _ _ (by omega), mB_h]
    have m2 : ∀ x, upd (mB M mn h) k x (mn + 1 + 1) = some (uv roundN) := fun x => by rw [upd_ne _ _ (by omega), mB_k]
    refine WC.loopA (fun i : Nat => ⟨[(10, .flat (.int .i64 i)), (9, .bs k 0 64 64), (8, .flat (.int .i64 at')), (5, .sl false 1 L.length (bv L)), (4, .bs (mn + 1 + 1) 0 64 64), (3, .bs (mn + 1) 0 8 8), (2, .bp mn 0)], upd (mB M mn h) k (some (uv (wArr p i))), k + 1⟩) (fun i => 16 - i) (fun i => i ≤ 16) 0 (by omega) (sbs (by simp (maxSteps := 2000000) only [go_sem, seval, reduceCtorEq, List.append_eq, Int.natCast_zero]) rfl rfl) ?_
    intro i hi
    have hw := wArr_len p i
    by_cases h16 : i < 16
    · have f1 : ((i : Int) < 16) = True := eq_true (by omega)
      have g1 : (i < 64) = True := eq_true (by omega)
      have v1 : IntKind.i64.wrap (i + 1) = ((i + 1 : Nat) : Int) := by rw [wi (by omega) (by omega)]; omega
      have v2 : IntKind.i64.wrap (4 * i) = ((4 * i : Nat) : Int) := by rw [wi (by omega) (by omega)]; omega
      have v3 : IntKind.i64.wrap ((at' : Int) + ((4 * i : Nat) : Int)) = ((at' + 4 * i : Nat) : Int) := by rw [wi (by omega) (by omega)]; omega
      repeat' (first | (with_reducible first | refine pa ?_ | refine pb ?_ | refine pc ?_ | refine nxt_n ?_ | refine nxt_e ?_ | refine nxt_r ?_ | refine blk_n ?_ | refine blk_r ?_ | refine blk_hit ?_ | refine blk_miss (by rfl) ?_ | refine pd ?_ | refine pe ?_ | refine pf ?_ | refine pg ?_ | apply And.intro) | (refine hK _ ?_; first | clear hK K hn0 hcl hΘ Θ | clear hK K hΘ Θ) | (with_reducible first | refine cw1 ?_ | refine cw2 ?_ | exact cw3 | exact cw4) | ((with_reducible first | refine cw5 (fun gg => ?_) | refine cw6 (fun gg => ?_) | refine cw7 (fun gg => ?_)); try simp only [gg]) | refine cs1 hG rfl ?_ ?_ | refine cs2 hG rfl ?_ ?_ | ((first | refine rga hG (by kernel_rfl) (fun Θ K hΘ hK => ?_) | refine rgb hG (by kernel_rfl) (fun Θ K hΘ hK => ?_) | refine rgc defCl hG (by kernel_rfl) cl0 (by rfl) (by kernel_rfl) (fun Θ K hΘ hcl hn0 hK => ?_) | refine rgd defCl hG (by kernel_rfl) cl0 (by rfl) (by kernel_rfl) (fun Θ K hΘ hcl hn0 hK => ?_)); simp (maxSteps := 2000000) only [go_sem, seval, reduceCtorEq, List.append_eq, f1]) | ((first | refine Post.splitN (fun gg => ?_) (fun gg => ?_) | refine PostB.splitN (fun gg => ?_) (fun gg => ?_) | refine Post.split (fun gg => ?_) (fun gg => ?_) | refine PostB.split (fun gg => ?_) (fun gg => ?_)) <;> simp (maxSteps := 2000000) only [go_sem, seval, reduceCtorEq, List.append_eq, gg, f1]) | (refine finR (by simp only [go_sem, seval, reduceCtorEq, List.append_eq, f1]; exact rfl) ?_; simp only [go_sem, seval, reduceCtorEq, List.append_eq, f1]) | refine updL hM ?_ (by omega) | (with_reducible exact fun _ _ => rfl))
      all_goals (first | omega | (simp only [decide_eq_true_eq, decide_eq_false_iff_not] at *; omega) | (simp only [List.length_append, List.length_cons, List.length_nil] <;> omega) | exact one_bv _ | exact one_sv _ | skip)
      refine WC.loopA (fun q : Nat => ⟨[(11, .flat (.int .i64 q)), (10, .flat (.int .i64 i)), (9, .bs k 0 64 64), (8, .flat (.int .i64 at')), (5, .sl false 1 L.length (bv L)), (4, .bs (mn + 1 + 1) 0 64 64), (3, .bs (mn + 1) 0 8 8), (2, .bp mn 0)], upd (mB M mn h) k (some (uv ((wArr p i).set i (wQ p i q)))), k + 1⟩) (fun q => 4 - q) (fun q => q ≤ 4) 0 (by omega) (sbs (by simp (maxSteps := 2000000) only [go_sem, seval, reduceCtorEq, List.append_eq, Int.natCast_zero]) (by rw [wQ, set_zero]) rfl) ?_
      intro q hq
      by_cases h4 : q < 4
      · have f2 : ((q : Int) < 4) = True := eq_true (by omega)
        have v4 : IntKind.i64.wrap (q + 1) = ((q + 1 : Nat) : Int) := by rw [wi (by omega) (by omega)]; omega
        have v5 : IntKind.i64.wrap (((at' + 4 * i : Nat) : Int) + (q : Int)) = ((at' + 4 * i + q : Nat) : Int) := by rw [wi (by omega) (by omega)]; omega
        have v6 : (at' + 4 * i + q < L.length) = True := eq_true (by omega)
        have v7 : L.getD (at' + 4 * i + q) 0 = p.getD (4 * i + q) 0 := by rw [hpg _ (by omega), Nat.add_assoc]
        have v8 : ∀ x : UInt32, ((wArr p i).set i x).getD i 0 = x := fun x => by rw [List.getD_eq_getElem?_getD, List.getElem?_set_self (by omega)]; rfl
        repeat' (first | (with_reducible first | refine pa ?_ | refine pb ?_ | refine pc ?_ | refine nxt_n ?_ | refine nxt_e ?_ | refine nxt_r ?_ | refine blk_n ?_ | refine blk_r ?_ | refine blk_hit ?_ | refine blk_miss (by rfl) ?_ | refine pd ?_ | refine pe ?_ | refine pf ?_ | refine pg ?_ | apply And.intro) | (refine hK _ ?_; first | clear hK K hn0 hcl hΘ Θ | clear hK K hΘ Θ) | (with_reducible first | refine cw1 ?_ | refine cw2 ?_ | exact cw3 | exact cw4) | ((with_reducible first | refine cw5 (fun gg => ?_) | refine cw6 (fun gg => ?_) | refine cw7 (fun gg => ?_)); try simp only [gg]) | refine cs1 hG rfl ?_ ?_ | refine cs2 hG rfl ?_ ?_ | ((first | refine rga hG (by kernel_rfl) (fun Θ K hΘ hK => ?_) | refine rgb hG (by kernel_rfl) (fun Θ K hΘ hK => ?_) | refine rgc defCl hG (by kernel_rfl) cl0 (by rfl) (by kernel_rfl) (fun Θ K hΘ hcl hn0 hK => ?_) | refine rgd defCl hG (by kernel_rfl) cl0 (by rfl) (by kernel_rfl) (fun Θ K hΘ hcl hn0 hK => ?_)); simp (maxSteps := 2000000) only [go_sem, seval, reduceCtorEq, List.append_eq, f2, g1, v1, v2, v3, v4, v5, v6, v7, v8, hw]) | ((first | refine Post.splitN (fun gg => ?_) (fun gg => ?_) | refine PostB.splitN (fun gg => ?_) (fun gg => ?_) | refine Post.split (fun gg => ?_) (fun gg => ?_) | refine PostB.split (fun gg => ?_) (fun gg => ?_)) <;> simp (maxSteps := 2000000) only [go_sem, seval, reduceCtorEq, List.append_eq, gg, f2, g1, v1, v2, v3, v4, v5, v6, v7, v8, hw]) | (refine finR (by simp only [go_sem, seval, reduceCtorEq, List.append_eq, f2, g1, v1, v2, v3, v4, v5, v6, v7, v8, hw]; exact rfl) ?_; simp only [go_sem, seval, reduceCtorEq, List.append_eq, f2, g1, v1, v2, v3, v4, v5, v6, v7, v8, hw]) | refine updL hM ?_ (by omega) | (with_reducible exact fun _ _ => rfl))
        all_goals (first | omega | (simp only [decide_eq_true_eq, decide_eq_false_iff_not] at *; omega) | (simp only [List.length_append, List.length_cons, List.length_nil] <;> omega) | exact one_bv _ | exact one_sv _ | skip)
        refine ⟨q + 1, by omega, by omega, sbs (by simp (maxSteps := 2000000) only [go_sem, seval, reduceCtorEq, List.append_eq]) (by rw [List.set_set]; rfl) rfl⟩
      · have f2 : ((q : Int) < 4) = False := eq_false (by omega)
        have e4 : q = 4 := by omega
        subst e4
        repeat' (first | (with_reducible first | refine pa ?_ | refine pb ?_ | refine pc ?_ | refine nxt_n ?_ | refine nxt_e ?_ | refine nxt_r ?_ | refine blk_n ?_ | refine blk_r ?_ | refine blk_hit ?_ | refine blk_miss (by rfl) ?_ | refine pd ?_ | refine pe ?_ | refine pf ?_ | refine pg ?_ | apply And.intro) | (refine hK _ ?_; first | clear hK K hn0 hcl hΘ Θ | clear hK K hΘ Θ) | (with_reducible first | refine cw1 ?_ | refine cw2 ?_ | exact cw3 | exact cw4) | ((with_reducible first | refine cw5 (fun gg => ?_) | refine cw6 (fun gg => ?_) | refine cw7 (fun gg => ?_)); try simp only [gg]) | refine cs1 hG rfl ?_ ?_ | refine cs2 hG rfl ?_ ?_ | ((first | refine rga hG (by kernel_rfl) (fun Θ K hΘ hK => ?_) | refine rgb hG (by kernel_rfl) (fun Θ K hΘ hK => ?_) | refine rgc defCl hG (by kernel_rfl) cl0 (by rfl) (by kernel_rfl) (fun Θ K hΘ hcl hn0 hK => ?_) | refine rgd defCl hG (by kernel_rfl) cl0 (by rfl) (by kernel_rfl) (fun Θ K hΘ hcl hn0 hK => ?_)); simp (maxSteps := 2000000) only [go_sem, seval, reduceCtorEq, List.append_eq, f2, v1]) | ((first | refine Post.splitN (fun gg => ?_) (fun gg => ?_) | refine PostB.splitN (fun gg => ?_) (fun gg => ?_) | refine Post.split (fun gg => ?_) (fun gg => ?_) | refine PostB.split (fun gg => ?_) (fun gg => ?_)) <;> simp (maxSteps := 2000000) only [go_sem, seval, reduceCtorEq, List.append_eq, gg, f2, v1]) | (refine finR (by simp only [go_sem, seval, reduceCtorEq, List.append_eq, f2, v1]; exact rfl) ?_; simp only [go_sem, seval, reduceCtorEq, List.append_eq, f2, v1]) | refine updL hM ?_ (by omega) | (with_reducible exact fun _ _ => rfl))
        all_goals (first | omega | (simp only [decide_eq_true_eq, decide_eq_false_iff_not] at *; omega) | (simp only [List.length_append, List.length_cons, List.length_nil] <;> omega) | exact one_bv _ | exact one_sv _ | skip)
        refine ⟨i + 1, by omega, by omega, sbs (by simp (maxSteps := 2000000) only [go_sem, seval, reduceCtorEq, List.append_eq]) (by rw [wQ_4, wArr_lo h16]) rfl⟩
    have f1 : ((i : Int) < 16) = False := eq_false (by omega)
    have e16 : i = 16 := by omega
    subst e16
    repeat' (first | (with_reducible first | refine pa ?_ | refine pb ?_ | refine pc ?_ | refine nxt_n ?_ | refine nxt_e ?_ | refine nxt_r ?_ | refine blk_n ?_ | refine blk_r ?_ | refine blk_hit ?_ | refine blk_miss (by rfl) ?_ | refine pd ?_ | refine pe ?_ | refine pf ?_ | refine pg ?_ | apply And.intro) | (refine hK _ ?_; first | clear hK K hn0 hcl hΘ Θ | clear hK K hΘ Θ) | (with_reducible first | refine cw1 ?_ | refine cw2 ?_ | exact cw3 | exact cw4) | ((with_reducible first | refine cw5 (fun gg => ?_) | refine cw6 (fun gg => ?_) | refine cw7 (fun gg => ?_)); try simp only [gg]) | refine cs1 hG rfl ?_ ?_ | refine cs2 hG rfl ?_ ?_ | ((first | refine rga hG (by kernel_rfl) (fun Θ K hΘ hK => ?_) | refine rgb hG (by kernel_rfl) (fun Θ K hΘ hK => ?_) | refine rgc defCl hG (by kernel_rfl) cl0 (by rfl) (by kernel_rfl) (fun Θ K hΘ hcl hn0 hK => ?_) | refine rgd defCl hG (by kernel_rfl) cl0 (by rfl) (by kernel_rfl) (fun Θ K hΘ hcl hn0 hK => ?_)); simp (maxSteps := 2000000) only [go_sem, seval, reduceCtorEq, List.append_eq, f1]) | ((first | refine Post.splitN (fun gg => ?_) (fun gg => ?_) | refine PostB.splitN (fun gg => ?_) (fun gg => ?_) | refine Post.split (fun gg => ?_) (fun gg => ?_) | refine PostB.split (fun gg => ?_) (fun gg => ?_)) <;> simp (maxSteps := 2000000) only [go_sem, seval, reduceCtorEq, List.append_eq, gg, f1]) | (refine finR (by simp only [go_sem, seval, reduceCtorEq, List.append_eq, f1]; exact rfl) ?_; simp only [go_sem, seval, reduceCtorEq, List.append_eq, f1]) | refine updL hM ?_ (by omega) | (with_reducible exact fun _ _ => rfl))
    all_goals (first | omega | (simp only [decide_eq_true_eq, decide_eq_false_iff_not] at *; omega) | (simp only [List.length_append, List.length_cons, List.length_nil] <;> omega) | exact one_bv _ | exact one_sv _ | skip)
    refine WC.loopA (fun i : Nat => ⟨[(12, .flat (.int .i64 i)), (9, .bs k 0 64 64), (8, .flat (.int .i64 at')), (5, .sl false 1 L.length (bv L)), (4, .bs (mn + 1 + 1) 0 64 64), (3, .bs (mn + 1) 0 8 8), (2, .bp mn 0)], upd (mB M mn h) k (some (uv (wArr p i))), k + 1⟩) (fun i => 64 - i) (fun i => 16 ≤ i ∧ i ≤ 64) 16 (by omega) (sbs (by simp (maxSteps := 2000000) only [go_sem, seval, reduceCtorEq, List.append_eq]) rfl rfl) ?_
    rintro j ⟨hj1, hj2⟩
    have hw := wArr_len p j
    by_cases h64 : j < 64
    · have f1 : ((j : Int) < 64) = True := eq_true (by omega)
      have g64 : (j < 64) = True := eq_true h64
      have v1 : IntKind.i64.wrap (j + 1) = ((j + 1 : Nat) : Int) := by rw [wi (by omega) (by omega)]; omega
      have a0 : IntKind.i64.wrap (j - 15) = ((j - 15 : Nat) : Int) := by rw [wi (by omega) (by omega)]; omega
      have a1 : IntKind.i64.wrap (j - 2) = ((j - 2 : Nat) : Int) := by rw [wi (by omega) (by omega)]; omega
      have a2 : IntKind.i64.wrap (j - 16) = ((j - 16 : Nat) : Int) := by rw [wi (by omega) (by omega)]; omega
      have a3 : IntKind.i64.wrap (j - 7) = ((j - 7 : Nat) : Int) := by rw [wi (by omega) (by omega)]; omega
      have b0 : (j - 15 < 64) = True := eq_true (by omega)
      have b1 : (j - 2 < 64) = True := eq_true (by omega)
      have b2 : (j - 16 < 64) = True := eq_true (by omega)
      have b3 : (j - 7 < 64) = True := eq_true (by omega)
      repeat' (first | (with_reducible first | refine pa ?_ | refine pb ?_ | refine pc ?_ | refine nxt_n ?_ | refine nxt_e ?_ | refine nxt_r ?_ | refine blk_n ?_ | refine blk_r ?_ | refine blk_hit ?_ | refine blk_miss (by rfl) ?_ | refine pd ?_ | refine pe ?_ | refine pf ?_ | refine pg ?_ | apply And.intro) | (refine hK _ ?_; first | clear hK K hn0 hcl hΘ Θ | clear hK K hΘ Θ) | (with_reducible first | refine cw1 ?_ | refine cw2 ?_ | exact cw3 | exact cw4) | ((with_reducible first | refine cw5 (fun gg => ?_) | refine cw6 (fun gg => ?_) | refine cw7 (fun gg => ?_)); try simp only [gg]) | refine cs1 hG rfl ?_ ?_ | refine cs2 hG rfl ?_ ?_ | ((first | refine kf (fun M n => turn_sp _ _ (by decide) M n) rfl (by decide) cl0 hΘ hcl hn0 ?_ | refine rga hG (by kernel_rfl) (fun Θ K hΘ hK => ?_) | refine rgb hG (by kernel_rfl) (fun Θ K hΘ hK => ?_) | refine rgc defCl hG (by kernel_rfl) cl0 (by rfl) (by kernel_rfl) (fun Θ K hΘ hcl hn0 hK => ?_) | refine rgd defCl hG (by kernel_rfl) cl0 (by rfl) (by kernel_rfl) (fun Θ K hΘ hcl hn0 hK => ?_)); simp (maxSteps := 2000000) only [go_sem, seval, reduceCtorEq, List.append_eq, f1, g64, v1, a0, a1, a2, a3, b0, b1, b2, b3, hw]) | ((first | refine Post.splitN (fun gg => ?_) (fun gg => ?_) | refine PostB.splitN (fun gg => ?_) (fun gg => ?_) | refine Post.split (fun gg => ?_) (fun gg => ?_) | refine PostB.split (fun gg => ?_) (fun gg => ?_)) <;> simp (maxSteps := 2000000) only [go_sem, seval, reduceCtorEq, List.append_eq, gg, f1, g64, v1, a0, a1, a2, a3, b0, b1, b2, b3, hw]) | (refine finR (by simp only [go_sem, seval, reduceCtorEq, List.append_eq, f1, g64, v1, a0, a1, a2, a3, b0, b1, b2, b3, hw]; exact rfl) ?_; simp only [go_sem, seval, reduceCtorEq, List.append_eq, f1, g64, v1, a0, a1, a2, a3, b0, b1, b2, b3, hw]) | refine updL hM ?_ (by omega) | (with_reducible exact fun _ _ => rfl))
      all_goals (first | omega | (simp only [decide_eq_true_eq, decide_eq_false_iff_not] at *; omega) | (simp only [List.length_append, List.length_cons, List.length_nil] <;> omega) | exact one_bv _ | exact one_sv _ | skip)
      refine ⟨j + 1, ⟨by omega, by omega⟩, by omega, sbs (by simp (maxSteps := 2000000) only [go_sem, seval, reduceCtorEq, List.append_eq]) (by rw [wArr_hi (by omega)]; rfl) rfl⟩
    have f1 : ((j : Int) < 64) = False := eq_false (by omega)
    have e64 : j = 64 := by omega
    subst e64
    generalize hW : wArr p 64 = W at hw ⊢
    repeat' (first | (with_reducible first | refine pa ?_ | refine pb ?_ | refine pc ?_ | refine nxt_n ?_ | refine nxt_e ?_ | refine nxt_r ?_ | refine blk_n ?_ | refine blk_r ?_ | refine blk_hit ?_ | refine blk_miss (by rfl) ?_ | refine pd ?_ | refine pe ?_ | refine pf ?_ | refine pg ?_ | apply And.intro) | (refine hK _ ?_; first | clear hK K hn0 hcl hΘ Θ | clear hK K hΘ Θ) | (with_reducible first | refine cw1 ?_ | refine cw2 ?_ | exact cw3 | exact cw4) | ((with_reducible first | refine cw5 (fun gg => ?_) | refine cw6 (fun gg => ?_) | refine cw7 (fun gg => ?_)); try simp only [gg]) | refine cs1 hG rfl ?_ ?_ | refine cs2 hG rfl ?_ ?_ | ((first | refine rga hG (by kernel_rfl) (fun Θ K hΘ hK => ?_) | refine rgb hG (by kernel_rfl) (fun Θ K hΘ hK => ?_) | refine rgc defCl hG (by kernel_rfl) cl0 (by rfl) (by kernel_rfl) (fun Θ K hΘ hcl hn0 hK => ?_) | refine rgd defCl hG (by kernel_rfl) cl0 (by rfl) (by kernel_rfl) (fun Θ K hΘ hcl hn0 hK => ?_)); simp (maxSteps := 2000000) only [go_sem, seval, reduceCtorEq, List.append_eq, f1, m1, hh]) | ((first | refine Post.splitN (fun gg => ?_) (fun gg => ?_) | refine PostB.splitN (fun gg => ?_) (fun gg => ?_) | refine Post.split (fun gg => ?_) (fun gg => ?_) | refine PostB.split (fun gg => ?_) (fun gg => ?_)) <;> simp (maxSteps := 2000000) only [go_sem, seval, reduceCtorEq, List.append_eq, gg, f1, m1, hh]) | (refine finR (by simp only [go_sem, seval, reduceCtorEq, List.append_eq, f1, m1, hh]; exact rfl) ?_; simp only [go_sem, seval, reduceCtorEq, List.append_eq, f1, m1, hh]) | refine updL hM ?_ (by omega) | (with_reducible exact fun _ _ => rfl))
    all_goals (first | omega | (simp only [decide_eq_true_eq, decide_eq_false_iff_not] at *; omega) | (simp only [List.length_append, List.length_cons, List.length_nil] <;> omega) | exact one_bv _ | exact one_sv _ | skip)
    refine WC.loopA (fun i : Nat => ⟨[(16, .flat (.int .i64 i)), (15, .sl false 1 8 (uv (rounds h W i))), (9, .bs k 0 64 64), (8, .flat (.int .i64 at')), (5, .sl false 1 L.length (bv L)), (4, .bs (mn + 1 + 1) 0 64 64), (3, .bs (mn + 1) 0 8 8), (2, .bp mn 0)], upd (mB M mn h) k (some (uv W)), k + 1⟩) (fun i => 64 - i) (fun i => i ≤ 64) 0 (by omega) (sbs (by simp (maxSteps := 2000000) only [go_sem, seval, reduceCtorEq, List.append_eq, Int.natCast_zero, rounds]) rfl rfl) ?_
    intro j hj2
    have hv := rounds_len h W hh j
    generalize hV : rounds h W j = v at hv ⊢
    by_cases h64 : j < 64
    · have f1 : ((j : Int) < 64) = True := eq_true (by omega)
      have g64 : (j < 64) = True := eq_true h64
      have v1 : IntKind.i64.wrap (j + 1) = ((j + 1 : Nat) : Int) := by rw [wi (by omega) (by omega)]; omega
      have hR : uv (rounds h W (j + 1)) = uv (rnd v (roundN.getD j 0) (W.getD j 0)) := by rw [rounds, hV]
      repeat' (first | (with_reducible first | refine pa ?_ | refine pb ?_ | refine pc ?_ | refine nxt_n ?_ | refine nxt_e ?_ | refine nxt_r ?_ | refine blk_n ?_ | refine blk_r ?_ | refine blk_hit ?_ | refine blk_miss (by rfl) ?_ | refine pd ?_ | refine pe ?_ | refine pf ?_ | refine pg ?_ | apply And.intro) | (refine hK _ ?_; first | clear hK K hn0 hcl hΘ Θ | clear hK K hΘ Θ) | (with_reducible first | refine cw1 ?_ | refine cw2 ?_ | exact cw3 | exact cw4) | ((with_reducible first | refine cw5 (fun gg => ?_) | refine cw6 (fun gg => ?_) | refine cw7 (fun gg => ?_)); try simp only [gg]) | refine cs1 hG rfl ?_ ?_ | refine cs2 hG rfl ?_ ?_ | ((first | refine kf (fun M n => turn_sp _ _ (by decide) M n) rfl (by decide) cl0 hΘ hcl hn0 ?_ | refine rga hG (by kernel_rfl) (fun Θ K hΘ hK => ?_) | refine rgb hG (by kernel_rfl) (fun Θ K hΘ hK => ?_) | refine rgc defCl hG (by kernel_rfl) cl0 (by rfl) (by kernel_rfl) (fun Θ K hΘ hcl hn0 hK => ?_) | refine rgd defCl hG (by kernel_rfl) cl0 (by rfl) (by kernel_rfl) (fun Θ K hΘ hcl hn0 hK => ?_)); simp (maxSteps := 2000000) only [go_sem, seval, reduceCtorEq, List.append_eq, f1, g64, v1, hw, hv, m2]) | ((first | refine Post.splitN (fun gg => ?_) (fun gg => ?_) | refine PostB.splitN (fun gg => ?_) (fun gg => ?_) | refine Post.split (fun gg => ?_) (fun gg => ?_) | refine PostB.split (fun gg => ?_) (fun gg => ?_)) <;> simp (maxSteps := 2000000) only [go_sem, seval, reduceCtorEq, List.append_eq, gg, f1, g64, v1, hw, hv, m2]) | (refine finR (by simp only [go_sem, seval, reduceCtorEq, List.append_eq, f1, g64, v1, hw, hv, m2]; exact rfl) ?_; simp only [go_sem, seval, reduceCtorEq, List.append_eq, f1, g64, v1, hw, hv, m2]) | refine updL hM ?_ (by omega) | (with_reducible exact fun _ _ => rfl))
      all_goals (first | omega | (simp only [decide_eq_true_eq, decide_eq_false_iff_not] at *; omega) | (simp only [List.length_append, List.length_cons, List.length_nil] <;> omega) | exact one_bv _ | exact one_sv _ | skip)
      refine ⟨j + 1, by omega, by omega, sbs (by simp (maxSteps := 2000000) only [go_sem, seval, reduceCtorEq, List.append_eq, hR]; exact SubV.of_eq rfl) rfl rfl⟩
    have f1 : ((j : Int) < 64) = False := eq_false (by omega)
    have e64 : j = 64 := by omega
    subst e64
    repeat' (first | (with_reducible first | refine pa ?_ | refine pb ?_ | refine pc ?_ | refine nxt_n ?_ | refine nxt_e ?_ | refine nxt_r ?_ | refine blk_n ?_ | refine blk_r ?_ | refine blk_hit ?_ | refine blk_miss (by rfl) ?_ | refine pd ?_ | refine pe ?_ | refine pf ?_ | refine pg ?_ | apply And.intro) | (refine hK _ ?_; first | clear hK K hn0 hcl hΘ Θ | clear hK K hΘ Θ) | (with_reducible first | refine cw1 ?_ | refine cw2 ?_ | exact cw3 | exact cw4) | ((with_reducible first | refine cw5 (fun gg => ?_) | refine cw6 (fun gg => ?_) | refine cw7 (fun gg => ?_)); try simp only [gg]) | refine cs1 hG rfl ?_ ?_ | refine cs2 hG rfl ?_ ?_ | ((first | refine rga hG (by kernel_rfl) (fun Θ K hΘ hK => ?_) | refine rgb hG (by kernel_rfl) (fun Θ K hΘ hK => ?_) | refine rgc defCl hG (by kernel_rfl) cl0 (by rfl) (by kernel_rfl) (fun Θ K hΘ hcl hn0 hK => ?_) | refine rgd defCl hG (by kernel_rfl) cl0 (by rfl) (by kernel_rfl) (fun Θ K hΘ hcl hn0 hK => ?_)); simp (maxSteps := 2000000) only [go_sem, seval, reduceCtorEq, List.append_eq, f1]) | ((first | refine Post.splitN (fun gg => ?_) (fun gg => ?_) | refine PostB.splitN (fun gg => ?_) (fun gg => ?_) | refine Post.split (fun gg => ?_) (fun gg => ?_) | refine PostB.split (fun gg => ?_) (fun gg => ?_)) <;> simp (maxSteps := 2000000) only [go_sem, seval, reduceCtorEq, List.append_eq, gg, f1]) | (refine finR (by simp only [go_sem, seval, reduceCtorEq, List.append_eq, f1]; exact rfl) ?_; simp only [go_sem, seval, reduceCtorEq, List.append_eq, f1]) | refine updL hM ?_ (by omega) | (with_reducible exact fun _ _ => rfl))
    all_goals (first | omega | (simp only [decide_eq_true_eq, decide_eq_false_iff_not] at *; omega) | (simp only [List.length_append, List.length_cons, List.length_nil] <;> omega) | exact one_bv _ | exact one_sv _ | skip)
    have m4 : ∀ g y x, upd (upd (mB M mn g) k x) (mn + 1) (some (uv y)) = upd (mB M mn y) k x := fun g y x => by rw [upd_swap (by omega), mB_s]
    have m5 : ∀ g x, upd (mB M mn g) k x (mn + 1) = some (uv g) := fun g x => by rw [upd_ne _ _ (by omega), mB_h]
    refine WC.loopA (fun i : Nat => ⟨[(252, .flat (.int .i64 i)), (251, .flat (.int .i64 8)), (15, .sl false 1 8 (uv v)), (8, .flat (.int .i64 at')), (5, .sl false 1 L.length (bv L)), (4, .bs (mn + 1 + 1) 0 64 64), (3, .bs (mn + 1) 0 8 8), (2, .bp mn 0)], upd (mB M mn (addTo h v i)) k (some (uv W)), k + 1⟩) (fun i => 8 - i) (fun i => i ≤ 8) 0 (by omega) (sbs (by simp (maxSteps := 2000000) only [go_sem, seval, reduceCtorEq, List.append_eq, Int.natCast_zero]) rfl rfl) ?_
    intro j hj2
    have hg := addTo_len h v j
    rw [hh] at hg
    generalize hA : addTo h v j = g at hg ⊢
    by_cases h64 : j < 8
    · have f1 : ((j : Int) < 8) = True := eq_true (by omega)
      have g64 : (j < 8) = True := eq_true h64
      have v1 : IntKind.i64.wrap (j + 1) = ((j + 1 : Nat) : Int) := by rw [wi (by omega) (by omega)]; omega
      repeat' (first | (with_reducible first | refine pa ?_ | refine pb ?_ | refine pc ?_ | refine nxt_n ?_ | refine nxt_e ?_ | refine nxt_r ?_ | refine blk_n ?_ | refine blk_r ?_ | refine blk_hit ?_ | refine blk_miss (by rfl) ?_ | refine pd ?_ | refine pe ?_ | refine pf ?_ | refine pg ?_ | apply And.intro) | (refine hK _ ?_; first | clear hK K hn0 hcl hΘ Θ | clear hK K hΘ Θ) | (with_reducible first | refine cw1 ?_ | refine cw2 ?_ | exact cw3 | exact cw4) | ((with_reducible first | refine cw5 (fun gg => ?_) | refine cw6 (fun gg => ?_) | refine cw7 (fun gg => ?_)); try simp only [gg]) | refine cs1 hG rfl ?_ ?_ | refine cs2 hG rfl ?_ ?_ | ((first | refine rga hG (by kernel_rfl) (fun Θ K hΘ hK => ?_) | refine rgb hG (by kernel_rfl) (fun Θ K hΘ hK => ?_) | refine rgc defCl hG (by kernel_rfl) cl0 (by rfl) (by kernel_rfl) (fun Θ K hΘ hcl hn0 hK => ?_) | refine rgd defCl hG (by kernel_rfl) cl0 (by rfl) (by kernel_rfl) (fun Θ K hΘ hcl hn0 hK => ?_)); simp (maxSteps := 2000000) only [go_sem, seval, reduceCtorEq, List.append_eq, f1, g64, v1, hv, hg, m4, m5]) | ((first | refine Post.splitN (fun gg => ?_) (fun gg => ?_) | refine PostB.splitN (fun gg => ?_) (fun gg => ?_) | refine Post.split (fun gg => ?_) (fun gg => ?_) | refine PostB.split (fun gg => ?_) (fun gg => ?_)) <;> simp (maxSteps := 2000000) only [go_sem, seval, reduceCtorEq, List.append_eq, gg, f1, g64, v1, hv, hg, m4, m5]) | (refine finR (by simp only [go_sem, seval, reduceCtorEq, List.append_eq, f1, g64, v1, hv, hg, m4, m5]; exact rfl) ?_; simp only [go_sem, seval, reduceCtorEq, List.append_eq, f1, g64, v1, hv, hg, m4, m5]) | refine updL hM ?_ (by omega) | (with_reducible exact fun _ _ => rfl))
      all_goals (first | omega | (simp only [decide_eq_true_eq, decide_eq_false_iff_not] at *; omega) | (simp only [List.length_append, List.length_cons, List.length_nil] <;> omega) | exact one_bv _ | exact one_sv _ | skip)
      refine ⟨j + 1, by omega, by omega, sbs (by simp (maxSteps := 2000000) only [go_sem, seval, reduceCtorEq, List.append_eq]) (by rw [addTo, hA]) rfl⟩
    have f1 : ((j : Int) < 8) = False := eq_false (by omega)
    have e64 : j = 8 := by omega
    subst e64
    have v1 : IntKind.i64.wrap ((at' : Int) + 64) = ((64 * (i + 1) : Nat) : Int) := by rw [wi (by omega) (by omega)]; omega
    repeat' (first | (with_reducible first | refine pa ?_ | refine pb ?_ | refine pc ?_ | refine nxt_n ?_ | refine nxt_e ?_ | refine nxt_r ?_ | refine blk_n ?_ | refine blk_r ?_ | refine blk_hit ?_ | refine blk_miss (by rfl) ?_ | refine pd ?_ | refine pe ?_ | refine pf ?_ | refine pg ?_ | apply And.intro) | (refine hK _ ?_; first | clear hK K hn0 hcl hΘ Θ | clear hK K hΘ Θ) | (with_reducible first | refine cw1 ?_ | refine cw2 ?_ | exact cw3 | exact cw4) | ((with_reducible first | refine cw5 (fun gg => ?_) | refine cw6 (fun gg => ?_) | refine cw7 (fun gg => ?_)); try simp only [gg]) | refine cs1 hG rfl ?_ ?_ | refine cs2 hG rfl ?_ ?_ | ((first | refine rga hG (by kernel_rfl) (fun Θ K hΘ hK => ?_) | refine rgb hG (by kernel_rfl) (fun Θ K hΘ hK => ?_) | refine rgc defCl hG (by kernel_rfl) cl0 (by rfl) (by kernel_rfl) (fun Θ K hΘ hcl hn0 hK => ?_) | refine rgd defCl hG (by kernel_rfl) cl0 (by rfl) (by kernel_rfl) (fun Θ K hΘ hcl hn0 hK => ?_)); simp (maxSteps := 2000000) only [go_sem, seval, reduceCtorEq, List.append_eq, f1, v1]) | ((first | refine Post.splitN (fun gg => ?_) (fun gg => ?_) | refine PostB.splitN (fun gg => ?_) (fun gg => ?_) | refine Post.split (fun gg => ?_) (fun gg => ?_) | refine PostB.split (fun gg => ?_) (fun gg => ?_)) <;> simp (maxSteps := 2000000) only [go_sem, seval, reduceCtorEq, List.append_eq, gg, f1, v1]) | (refine finR (by simp only [go_sem, seval, reduceCtorEq, List.append_eq, f1, v1]; exact rfl) ?_; simp only [go_sem, seval, reduceCtorEq, List.append_eq, f1, v1]) | refine updL hM ?_ (by omega) | (with_reducible exact fun _ _ => rfl))
    all_goals (first | omega | (simp only [decide_eq_true_eq, decide_eq_false_iff_not] at *; omega) | (simp only [List.length_append, List.length_cons, List.length_nil] <;> omega) | exact one_bv _ | exact one_sv _ | skip)
    refine ⟨(g, i + 1, k + 1), ⟨hg, ?_, ?_, by simp only; omega⟩, by simp only; omega, Sub.of (by simp (maxSteps := 2000000) only [go_sem, seval, reduceCtorEq, List.append_eq]) (MemSub.upd (.refl _) (by simp only [mB]; rw [upd_ne _ _ (by omega), upd_ne _ _ (by omega), upd_ne _ _ (by omega)]; exact hM _ (by omega))) rfl⟩
    · rw [foldB_snoc, ← hf, hat, hP, compress, hW, hV, hA]
    · simp only
      have : L.length - at' ≥ 64 := by omega
      omega
  · have f0 : ((at' : Int) < (L.length : Int)) = False := eq_false (by omega)
    repeat' (first | (with_reducible first | refine pa ?_ | refine pb ?_ | refine pc ?_ | refine nxt_n ?_ | refine nxt_e ?_ | refine nxt_r ?_ | refine blk_n ?_ | refine blk_r ?_ | refine blk_hit ?_ | refine blk_miss (by rfl) ?_ | refine pd ?_ | refine pe ?_ | refine pf ?_ | refine pg ?_ | apply And.intro) | (refine hK _ ?_; first | clear hK K hn0 hcl hΘ Θ | clear hK K hΘ Θ) | (with_reducible first | refine cw1 ?_ | refine cw2 ?_ | exact cw3 | exact cw4) | ((with_reducible first | refine cw5 (fun gg => ?_) | refine cw6 (fun gg => ?_) | refine cw7 (fun gg => ?_)); try simp only [gg]) | refine cs1 hG rfl ?_ ?_ | refine cs2 hG rfl ?_ ?_ | ((first | refine rga hG (by kernel_rfl) (fun Θ K hΘ hK => ?_) | refine rgb hG (by kernel_rfl) (fun Θ K hΘ hK => ?_) | refine rgc defCl hG (by kernel_rfl) cl0 (by rfl) (by kernel_rfl) (fun Θ K hΘ hcl hn0 hK => ?_) | refine rgd defCl hG (by kernel_rfl) cl0 (by rfl) (by kernel_rfl) (fun Θ K hΘ hcl hn0 hK => ?_)); simp (maxSteps := 2000000) only [go_sem, seval, reduceCtorEq, List.append_eq, f0]) | ((first | refine Post.splitN (fun gg => ?_) (fun gg => ?_) | refine PostB.splitN (fun gg => ?_) (fun gg => ?_) | refine Post.split (fun gg => ?_) (fun gg => ?_) | refine PostB.split (fun gg => ?_) (fun gg => ?_)) <;> simp (maxSteps := 2000000) only [go_sem, seval, reduceCtorEq, List.append_eq, gg, f0]) | (refine finR (by simp only [go_sem, seval, reduceCtorEq, List.append_eq, f0]; exact rfl) ?_; simp only [go_sem, seval, reduceCtorEq, List.append_eq, f0]) | refine updL hM ?_ (by omega) | (with_reducible exact fun _ _ => rfl))
    all_goals (first | omega | (simp only [decide_eq_true_eq, decide_eq_false_iff_not] at *; omega) | (simp only [List.length_append, List.length_cons, List.length_nil] <;> omega) | exact one_bv _ | exact one_sv _ | skip)
    have hsw : h = shaW s := by rw [hf, shaW, hL, show i = L.length / 64 by omega]
    refine WC.loopA (fun i : Nat => ⟨[(268, .flat (.int .i64 i)), (20, .bp k 0), (3, .bs (mn + 1) 0 8 8), (2, .bp mn 0)], upd (mB M mn h) k (some (bv (dRef h i))), k + 1⟩) (fun i => 32 - i) (fun i => i ≤ 32) 0 (by omega) (sbs (by simp (maxSteps := 2000000) only [go_sem, seval, reduceCtorEq, List.append_eq, Int.natCast_zero, dRef]) rfl rfl) ?_
    intro j hj2
    have hd := dRef_len h j
    generalize hD : dRef h j = d at hd ⊢
    by_cases h32 : j < 32
    · have f1 : ((j : Int) < 32) = True := eq_true (by omega)
      have g1 : (j < 32) = True := eq_true h32
      have g2 : (j / 4 < 8) = True := eq_true (by omega)
      have v1 : IntKind.i64.wrap (j + 1) = ((j + 1 : Nat) : Int) := by rw [wi (by omega) (by omega)]; omega
      have v2 : quoI .i64 (j : Int) 4 = _ := quoN j 4 (by omega)
      have v3 : (j : Int).tmod 4 = _ := tmodN j 4
      have v4 : IntKind.i64.wrap (8 * ((j % 4 : Nat) : Int)) = ((8 * (j % 4) : Nat) : Int) := by rw [wi (by omega) (by omega)]; omega
      have v5 : IntKind.i64.wrap (24 - ((8 * (j % 4) : Nat) : Int)) = ((24 - 8 * (j % 4) : Nat) : Int) := by rw [wi (by omega) (by omega)]; omega
      have v6 : IntKind.u64.wrap ((24 - 8 * (j % 4) : Nat) : Int) = ((24 - 8 * (j % 4) : Nat) : Int) := wu (by omega) (by omega)
      have v7 : ∀ x : UInt32, shrI .u32 (x.toNat : Int) ((24 - 8 * (j % 4) : Nat) : Int) = _ := fun x => w_shrN x (24 - 8 * (j % 4)) (by omega)
      have m5 : ∀ g x, upd (mB M mn g) k x (mn + 1) = some (uv g) := fun g x => by rw [upd_ne _ _ (by omega), mB_h]
      repeat' (first | (with_reducible first | refine pa ?_ | refine pb ?_ | refine pc ?_ | refine nxt_n ?_ | refine nxt_e ?_ | refine nxt_r ?_ | refine blk_n ?_ | refine blk_r ?_ | refine blk_hit ?_ | refine blk_miss (by rfl) ?_ | refine pd ?_ | refine pe ?_ | refine pf ?_ | refine pg ?_ | apply And.intro) | (refine hK _ ?_; first | clear hK K hn0 hcl hΘ Θ | clear hK K hΘ Θ) | (with_reducible first | refine cw1 ?_ | refine cw2 ?_ | exact cw3 | exact cw4) | ((with_reducible first | refine cw5 (fun gg => ?_) | refine cw6 (fun gg => ?_) | refine cw7 (fun gg => ?_)); try simp only [gg]) | refine cs1 hG rfl ?_ ?_ | refine cs2 hG rfl ?_ ?_ | ((first | refine rga hG (by kernel_rfl) (fun Θ K hΘ hK => ?_) | refine rgb hG (by kernel_rfl) (fun Θ K hΘ hK => ?_) | refine rgc defCl hG (by kernel_rfl) cl0 (by rfl) (by kernel_rfl) (fun Θ K hΘ hcl hn0 hK => ?_) | refine rgd defCl hG (by kernel_rfl) cl0 (by rfl) (by kernel_rfl) (fun Θ K hΘ hcl hn0 hK => ?_)); simp (maxSteps := 2000000) only [go_sem, seval, reduceCtorEq, List.append_eq, f1, g1, g2, v1, v2, v3, v4, v5, v6, v7, hd, hh, m5]) | ((first | refine Post.splitN (fun gg => ?_) (fun gg => ?_) | refine PostB.splitN (fun gg => ?_) (fun gg => ?_) | refine Post.split (fun gg => ?_) (fun gg => ?_) | refine PostB.split (fun gg => ?_) (fun gg => ?_)) <;> simp (maxSteps := 2000000) only [go_sem, seval, reduceCtorEq, List.append_eq, gg, f1, g1, g2, v1, v2, v3, v4, v5, v6, v7, hd, hh, m5]) | (refine finR (by simp only [go_sem, seval, reduceCtorEq, List.append_eq, f1, g1, g2, v1, v2, v3, v4, v5, v6, v7, hd, hh, m5]; exact rfl) ?_; simp only [go_sem, seval, reduceCtorEq, List.append_eq, f1, g1, g2, v1, v2, v3, v4, v5, v6, v7, hd, hh, m5]) | refine updL hM ?_ (by omega) | (with_reducible exact fun _ _ => rfl))
      all_goals (first | omega | (simp only [decide_eq_true_eq, decide_eq_false_iff_not] at *; omega) | (simp only [List.length_append, List.length_cons, List.length_nil] <;> omega) | exact one_bv _ | exact one_sv _ | skip)
      refine ⟨j + 1, by omega, by omega, sbs (by simp (maxSteps := 2000000) only [go_sem, seval, reduceCtorEq, List.append_eq]) (by rw [dRef, hD]) rfl⟩
    have f1 : ((j : Int) < 32) = False := eq_false (by omega)
    have e32 : j = 32 := by omega
    subst e32
    have hq : d = (sha s).1 := by rw [← hD, dRef_32 h hh, hsw]; rfl
    subst hq
    have m6 : ∀ x, upd (mB M mn h) k x mn = some (bv z32.1) := fun x => by rw [upd_ne _ _ (by omega), mB, upd_ne _ _ (by omega), upd_ne _ _ (by omega), upd_same]
    repeat' (first | (with_reducible first | refine pa ?_ | refine pb ?_ | refine pc ?_ | refine nxt_n ?_ | refine nxt_e ?_ | refine nxt_r ?_ | refine blk_n ?_ | refine blk_r ?_ | refine blk_hit ?_ | refine blk_miss (by rfl) ?_ | refine pd ?_ | refine pe ?_ | refine pf ?_ | refine pg ?_ | apply And.intro) | (refine hK _ ?_; first | clear hK K hn0 hcl hΘ Θ | clear hK K hΘ Θ) | (with_reducible first | refine cw1 ?_ | refine cw2 ?_ | exact cw3 | exact cw4) | ((with_reducible first | refine cw5 (fun gg => ?_) | refine cw6 (fun gg => ?_) | refine cw7 (fun gg => ?_)); try simp only [gg]) | refine cs1 hG rfl ?_ ?_ | refine cs2 hG rfl ?_ ?_ | ((first | refine rga hG (by kernel_rfl) (fun Θ K hΘ hK => ?_) | refine rgb hG (by kernel_rfl) (fun Θ K hΘ hK => ?_) | refine rgc defCl hG (by kernel_rfl) cl0 (by rfl) (by kernel_rfl) (fun Θ K hΘ hcl hn0 hK => ?_) | refine rgd defCl hG (by kernel_rfl) cl0 (by rfl) (by kernel_rfl) (fun Θ K hΘ hcl hn0 hK => ?_)); simp (maxSteps := 2000000) only [go_sem, seval, reduceCtorEq, List.append_eq, f1, m6]) | ((first | refine Post.splitN (fun gg => ?_) (fun gg => ?_) | refine PostB.splitN (fun gg => ?_) (fun gg => ?_) | refine Post.split (fun gg => ?_) (fun gg => ?_) | refine PostB.split (fun gg => ?_) (fun gg => ?_)) <;> simp (maxSteps := 2000000) only [go_sem, seval, reduceCtorEq, List.append_eq, gg, f1, m6]) | (refine finR (by simp only [go_sem, seval, reduceCtorEq, List.append_eq, f1, m6]; exact rfl) ?_; simp only [go_sem, seval, reduceCtorEq, List.append_eq, f1, m6]) | refine updL hM ?_ (by omega) | (with_reducible exact fun _ _ => rfl))
    all_goals (first | omega | (simp only [decide_eq_true_eq, decide_eq_false_iff_not] at *; omega) | (simp only [List.length_append, List.length_cons, List.length_nil] <;> omega) | exact one_bv _ | exact one_sv _ | skip)
end Go.VL

set_option linter.unusedVariables false
set_option linter.unusedSimpArgs false
set_option maxRecDepth 100000
set_option maxHeartbeats 8000000
open Go.RowKit
namespace Go.VL
open Go.Proofs
theorem RSum_sp (p : List UInt8) (l : List (List UInt8)) (hp : p.length ≤ 100000000) (hs : total l ≤ 100000000) (hl : l.length ≤ 100000) : Rt 66 [.flat (.string (bs p)), .sl false 1 l.length (sv l)] (.agg (bv (shaSum p l).1)) := by
  have ht := total_cons p l
  have hb := listB_le (p :: l) (by omega) (by simp; omega)
  have e1 : 1 + l.length = (p :: l).length := by simp; omega
  simp only [List.length_cons] at hb
  intro M mn
  refine fnL (C := kc 11 [] []) (rs := [.cell 4 52]) envOk Tryd.func66 (by kernel_rfl) rfl rfl rfl rfl rfl rfl (lowAgg (FlatS.bv _)) ?_
  intro E hG hM
  repeat' (first | (with_reducible first | refine pa ?_ | refine pb ?_ | refine pc ?_ | refine nxt_n ?_ | refine nxt_e ?_ | refine nxt_r ?_ | refine blk_n ?_ | refine blk_r ?_ | refine blk_hit ?_ | refine blk_miss (by rfl) ?_ | refine pd ?_ | refine pe ?_ | refine pf ?_ | refine pg ?_ | apply And.intro) | (refine hK _ ?_; clear hK K hΘ Θ) | (with_reducible first | refine cw1 ?_ | refine cw2 ?_ | exact cw3 | exact cw4) | ((with_reducible first | refine cw5 (fun gg => ?_) | refine cw6 (fun gg => ?_) | refine cw7 (fun gg => ?_)); try simp only [gg]) | refine cs1 hG rfl ?_ ?_ | refine cs2 hG rfl ?_ ?_ | ((first | refine kg (RList_sp (p :: l) (by omega) (by simp; omega) _ _) rfl hΘ ?_ | refine kg (ROf_sp (listB (p :: l)) (by omega) _ _) rfl hΘ ?_ | refine rga hG (by kernel_rfl) (fun Θ K hΘ hK => ?_) | refine rgb hG (by kernel_rfl) (fun Θ K hΘ hK => ?_)); simp (maxSteps := 2000000) only [go_sem, seval, reduceCtorEq, List.append_eq, e1]) | ((first | refine Post.splitN (fun gg => ?_) (fun gg => ?_) | refine Post.split (fun gg => ?_) (fun gg => ?_)) <;> simp (maxSteps := 2000000) only [go_sem, seval, reduceCtorEq, List.append_eq, gg, e1]) | (refine finR (by simp only [go_sem, seval, reduceCtorEq, List.append_eq, e1]; exact rfl) ?_; simp only [go_sem, seval, reduceCtorEq, List.append_eq, e1]) | refine updL hM ?_ (by omega) | (with_reducible exact fun _ _ => rfl))
  all_goals (first | omega | (simp only [decide_eq_true_eq, decide_eq_false_iff_not] at *; omega) | (simp only [List.length_append, List.length_cons, List.length_nil] <;> omega) | exact one_bv _ | exact one_sv _ | skip)
  all_goals rfl
theorem RCut_sp (d : Id32) : Rt 65 [.agg (bv d.1)] (.agg (bv (cutE d).1)) := by
  have hd := d.2
  intro M mn
  refine fnL (C := kc 15 [] []) (rs := [.cell 2 31]) envOk Tryd.func65 (by kernel_rfl) rfl rfl rfl rfl rfl rfl (lowAgg (FlatS.bv _)) ?_
  intro E hG hM
  repeat' (first | (with_reducible first | refine pa ?_ | refine pb ?_ | refine pc ?_ | refine nxt_n ?_ | refine nxt_e ?_ | refine nxt_r ?_ | refine blk_n ?_ | refine blk_r ?_ | refine blk_hit ?_ | refine blk_miss (by rfl) ?_ | refine pd ?_ | refine pe ?_ | refine pf ?_ | refine pg ?_ | apply And.intro) | (refine hK _ ?_; clear hK K hΘ Θ) | (with_reducible first | refine cw1 ?_ | refine cw2 ?_ | exact cw3 | exact cw4) | ((with_reducible first | refine cw5 (fun gg => ?_) | refine cw6 (fun gg => ?_) | refine cw7 (fun gg => ?_)); try simp only [gg]) | refine cs1 hG rfl ?_ ?_ | refine cs2 hG rfl ?_ ?_ | ((first | refine rga hG (by kernel_rfl) (fun Θ K hΘ hK => ?_) | refine rgb hG (by kernel_rfl) (fun Θ K hΘ hK => ?_)); simp (maxSteps := 2000000) only [go_sem, seval, reduceCtorEq]) | ((first | refine Post.splitN (fun gg => ?_) (fun gg => ?_) | refine Post.split (fun gg => ?_) (fun gg => ?_)) <;> simp (maxSteps := 2000000) only [go_sem, seval, reduceCtorEq, gg]) | (refine finR (by simp only [go_sem, seval, reduceCtorEq]; exact rfl) ?_; simp only [go_sem, seval, reduceCtorEq]) | refine updL hM ?_ (by omega) | (with_reducible exact fun _ _ => rfl))
  all_goals (first | omega | (simp only [decide_eq_true_eq, decide_eq_false_iff_not] at *; omega) | (simp only [List.length_append, List.length_cons, List.length_nil] <;> omega) | exact one_bv _ | exact one_sv _ | skip)
  refine WC.loopA (fun q : Nat × Id16 => ⟨[(5, .flat (.int .i64 q.1)), (3, .bp (mn + 1 + 1) 0), (2, .bp (mn + 1) 0), (1, .bp mn 0)], upd (upd (upd M mn (some (bv d.1))) (mn + 1) (some (bv z16.1))) (mn + 1 + 1) (some (bv q.2.1)), mn + 1 + 1 + 1⟩) (fun q => 16 - q.1) (fun q => q.1 ≤ 16 ∧ q.2.1.take q.1 = d.1.take q.1) (0, z16) ⟨by simp, by simp⟩ (sbs (by simp (maxSteps := 2000000) only [go_sem, seval, reduceCtorEq, List.append_eq]) rfl rfl) ?_
  rintro ⟨i, l⟩ ⟨hi, hq⟩
  simp only at hi hq ⊢
  have hl := l.2
  by_cases h : i < 16
  · have f3 : ((i : Int) < 16) = True := eq_true (by omega)
    have g3 : (i < 16) = True := eq_true h
    have g4 : (i < 32) = True := eq_true (by omega)
    have v1 := wi1 (n := i) (by omega)
    repeat' (first | (with_reducible first | refine pa ?_ | refine pb ?_ | refine pc ?_ | refine nxt_n ?_ | refine nxt_e ?_ | refine nxt_r ?_ | refine blk_n ?_ | refine blk_r ?_ | refine blk_hit ?_ | refine blk_miss (by rfl) ?_ | refine pd ?_ | refine pe ?_ | refine pf ?_ | refine pg ?_ | apply And.intro) | (refine hK _ ?_; clear hK K hΘ Θ) | (with_reducible first | refine cw1 ?_ | refine cw2 ?_ | exact cw3 | exact cw4) | ((with_reducible first | refine cw5 (fun gg => ?_) | refine cw6 (fun gg => ?_) | refine cw7 (fun gg => ?_)); try simp only [gg]) | refine cs1 hG rfl ?_ ?_ | refine cs2 hG rfl ?_ ?_ | ((first | refine rga hG (by kernel_rfl) (fun Θ K hΘ hK => ?_) | refine rgb hG (by kernel_rfl) (fun Θ K hΘ hK => ?_)); simp (maxSteps := 2000000) only [go_sem, seval, reduceCtorEq, f3, g3, g4, v1, hd, hl]) | ((first | refine Post.splitN (fun gg => ?_) (fun gg => ?_) | refine Post.split (fun gg => ?_) (fun gg => ?_)) <;> simp (maxSteps := 2000000) only [go_sem, seval, reduceCtorEq, gg, f3, g3, g4, v1, hd, hl]) | (refine finR (by simp only [go_sem, seval, reduceCtorEq, f3, g3, g4, v1, hd, hl]; exact rfl) ?_; simp only [go_sem, seval, reduceCtorEq, f3, g3, g4, v1, hd, hl]) | refine updL hM ?_ (by omega) | (with_reducible exact fun _ _ => rfl))
    all_goals (first | omega | (simp only [decide_eq_true_eq, decide_eq_false_iff_not] at *; omega) | (simp only [List.length_append, List.length_cons, List.length_nil] <;> omega) | exact one_bv _ | exact one_sv _ | skip)
    exact ⟨(i + 1, ⟨l.1.set i (d.1.getD i 0), by rw [List.length_set]; exact l.2⟩), ⟨by simp only; omega, by simp only; rw [take_set_snoc _ _ _ (by omega), hq, take_snoc _ _ 0 (by omega)]⟩, by simp only; omega, (sbs (by simp (maxSteps := 2000000) only [go_sem, seval, reduceCtorEq, List.append_eq]) rfl rfl)⟩
  · have f3 : ((i : Int) < 16) = False := eq_false (by omega)
    have e : i = 16 := by omega
    subst e
    rw [List.take_of_length_le (by omega)] at hq
    have hle : l = cutE d := Subtype.ext hq
    subst hle
    repeat' (first | (with_reducible first | refine pa ?_ | refine pb ?_ | refine pc ?_ | refine nxt_n ?_ | refine nxt_e ?_ | refine nxt_r ?_ | refine blk_n ?_ | refine blk_r ?_ | refine blk_hit ?_ | refine blk_miss (by rfl) ?_ | refine pd ?_ | refine pe ?_ | refine pf ?_ | refine pg ?_ | apply And.intro) | (refine hK _ ?_; clear hK K hΘ Θ) | (with_reducible first | refine cw1 ?_ | refine cw2 ?_ | exact cw3 | exact cw4) | ((with_reducible first | refine cw5 (fun gg => ?_) | refine cw6 (fun gg => ?_) | refine cw7 (fun gg => ?_)); try simp only [gg]) | refine cs1 hG rfl ?_ ?_ | refine cs2 hG rfl ?_ ?_ | ((first | refine rga hG (by kernel_rfl) (fun Θ K hΘ hK => ?_) | refine rgb hG (by kernel_rfl) (fun Θ K hΘ hK => ?_)); simp (maxSteps := 2000000) only [go_sem, seval, reduceCtorEq, f3]) | ((first | refine Post.splitN (fun gg => ?_) (fun gg => ?_) | refine Post.split (fun gg => ?_) (fun gg => ?_)) <;> simp (maxSteps := 2000000) only [go_sem, seval, reduceCtorEq, gg, f3]) | (refine finR (by simp only [go_sem, seval, reduceCtorEq, f3]; exact rfl) ?_; simp only [go_sem, seval, reduceCtorEq, f3]) | refine updL hM ?_ (by omega) | (with_reducible exact fun _ _ => rfl))
    all_goals (first | omega | (simp only [decide_eq_true_eq, decide_eq_false_iff_not] at *; omega) | (simp only [List.length_append, List.length_cons, List.length_nil] <;> omega) | exact one_bv _ | exact one_sv _ | skip)
end Go.VL
