/- Part SB of the proof: made for this claim. -/
import Derived.Test.YtbceglggojnnaaaDoorSA
set_option linter.unusedVariables false
set_option linter.unusedSimpArgs false
set_option maxRecDepth 100000
set_option maxHeartbeats 8000000
open Go.RowKit
namespace Go.VL
open Go.Proofs
theorem IdxE_sp (f : FuncId) (p : Ent → Bool) (hf : ∀ e : Ent, e.ok → Rt f [.agg e.c] (.flat (.bool (p e)))) (l : List Ent) (hok : ∀ e ∈ l, e.ok) (hl : l.length ≤ 140737488355328) : Rt 110 [.sl false 73 l.length (Ent.lC l), .fn f []] (.flat (.int .i64 (idxE p l 0))) := by
  intro M mn
  refine fnL (C := kc 19 [] []) (rs := [.tmp 4]) envOk Tryd.func110 (by kernel_rfl) rfl rfl rfl rfl rfl rfl (Low.flat _) ?_
  intro E hG hM
  repeat' (first | (with_reducible first | refine pa ?_ | refine pb ?_ | refine pc ?_ | refine nxt_n ?_ | refine nxt_e ?_ | refine nxt_r ?_ | refine blk_n ?_ | refine blk_r ?_ | refine blk_hit ?_ | refine blk_miss (by rfl) ?_ | refine pd ?_ | refine pe ?_ | refine pf ?_ | refine pg ?_ | apply And.intro) | (refine hK _ ?_; clear hK K hΘ Θ) | (with_reducible first | refine cw1 ?_ | refine cw2 ?_ | exact cw3 | exact cw4) | ((with_reducible first | refine cw5 (fun gg => ?_) | refine cw6 (fun gg => ?_) | refine cw7 (fun gg => ?_)); try simp only [gg]) | refine cs1 hG rfl ?_ ?_ | refine cs2 hG rfl ?_ ?_ | ((first | refine rga hG (by kernel_rfl) (fun Θ K hΘ hK => ?_) | refine rgb hG (by kernel_rfl) (fun Θ K hΘ hK => ?_)); simp (maxSteps := 2000000) only [go_sem, seval, reduceCtorEq]) | ((first | refine Post.splitN (fun gg => ?_) (fun gg => ?_) | refine Post.split (fun gg => ?_) (fun gg => ?_)) <;> simp (maxSteps := 2000000) only [go_sem, seval, reduceCtorEq, gg]) | (refine finR (by simp only [go_sem, seval, reduceCtorEq]; exact rfl) ?_; simp only [go_sem, seval, reduceCtorEq]) | refine updL hM ?_ (by omega) | (with_reducible exact fun _ _ => rfl))
  all_goals (first | omega | (simp only [decide_eq_true_eq, decide_eq_false_iff_not] at *; omega) | (simp only [List.length_append, List.length_cons, List.length_nil] <;> omega) | exact one_bv _ | exact one_sv _ | skip)
  refine WC.loopA (fun i : Nat => ⟨[(8, .flat (.int .i64 i)), (7, .flat (.int .i64 l.length)), (1, .fn f []), (0, .sl false 73 l.length (Ent.lC l))], M, mn⟩) (fun i => l.length - i) (fun i => i ≤ l.length ∧ idxE p l 0 = idxE p (l.drop i) i) 0 ⟨Nat.zero_le _, by simp⟩ (sbs (by simp (maxSteps := 2000000) only [go_sem, seval, reduceCtorEq, List.append_eq]) rfl rfl) ?_
  rintro i ⟨hi, hx⟩
  by_cases h : i < l.length
  · have f1 : ((i : Int) < (l.length : Int)) = True := eq_true (by omega)
    have g1 : (i < l.length) = True := eq_true h
    have v1 := wi1 (n := i) (by omega)
    have hgt := Ent.l_get l ent0 i h
    have hll := Ent.l_len l
    have ht := Ent.tk (l.getD i ent0)
    have he : (l.getD i ent0).ok := hok _ (by rw [List.getD_eq_getElem?_getD, List.getElem?_eq_getElem h]; exact List.getElem_mem _)
    have g2 : (i * 73 + 73 ≤ l.length * 73) = True := eq_true (by omega)
    rw [idxE_drop p l ent0 i i h] at hx
    by_cases hp : p (l.getD i ent0) = true
    · rw [if_pos hp] at hx
      repeat' (first | (with_reducible first | refine pa ?_ | refine pb ?_ | refine pc ?_ | refine nxt_n ?_ | refine nxt_e ?_ | refine nxt_r ?_ | refine blk_n ?_ | refine blk_r ?_ | refine blk_hit ?_ | refine blk_miss (by rfl) ?_ | refine pd ?_ | refine pe ?_ | refine pf ?_ | refine pg ?_ | apply And.intro) | (refine hK _ ?_; clear hK K hΘ Θ) | (with_reducible first | refine cw1 ?_ | refine cw2 ?_ | exact cw3 | exact cw4) | ((with_reducible first | refine cw5 (fun gg => ?_) | refine cw6 (fun gg => ?_) | refine cw7 (fun gg => ?_)); try simp only [gg]) | refine cs1 hG rfl ?_ ?_ | refine cs2 hG rfl ?_ ?_ | ((first | refine kg (hf (l.getD i ent0) he _ _) rfl hΘ ?_ | refine rga hG (by kernel_rfl) (fun Θ K hΘ hK => ?_) | refine rgb hG (by kernel_rfl) (fun Θ K hΘ hK => ?_)); simp (maxSteps := 2000000) only [go_sem, seval, reduceCtorEq, f1, g1, v1, hgt, hll, ht, g2, hp]) | ((first | refine Post.splitN (fun gg => ?_) (fun gg => ?_) | refine Post.split (fun gg => ?_) (fun gg => ?_)) <;> simp (maxSteps := 2000000) only [go_sem, seval, reduceCtorEq, gg, f1, g1, v1, hgt, hll, ht, g2, hp]) | (refine finR (by simp only [go_sem, seval, reduceCtorEq, f1, g1, v1, hgt, hll, ht, g2, hp]; exact rfl) ?_; simp only [go_sem, seval, reduceCtorEq, f1, g1, v1, hgt, hll, ht, g2, hp]) | refine updL hM ?_ (by omega) | (with_reducible exact fun _ _ => rfl))
      all_goals (first | omega | (simp only [decide_eq_true_eq, decide_eq_false_iff_not] at *; omega) | (simp only [List.length_append, List.length_cons, List.length_nil] <;> omega) | exact one_bv _ | exact one_sv _ | skip)
      all_goals rw [hx]
    · have hp' : p (l.getD i ent0) = false := by simpa using hp
      rw [if_neg hp] at hx
      repeat' (first | (with_reducible first | refine pa ?_ | refine pb ?_ | refine pc ?_ | refine nxt_n ?_ | refine nxt_e ?_ | refine nxt_r ?_ | refine blk_n ?_ | refine blk_r ?_ | refine blk_hit ?_ | refine blk_miss (by rfl) ?_ | refine pd ?_ | refine pe ?_ | refine pf ?_ | refine pg ?_ | apply And.intro) | (refine hK _ ?_; clear hK K hΘ Θ) | (with_reducible first | refine cw1 ?_ | refine cw2 ?_ | exact cw3 | exact cw4) | ((with_reducible first | refine cw5 (fun gg => ?_) | refine cw6 (fun gg => ?_) | refine cw7 (fun gg => ?_)); try simp only [gg]) | refine cs1 hG rfl ?_ ?_ | refine cs2 hG rfl ?_ ?_ | ((first | refine kg (hf (l.getD i ent0) he _ _) rfl hΘ ?_ | refine rga hG (by kernel_rfl) (fun Θ K hΘ hK => ?_) | refine rgb hG (by kernel_rfl) (fun Θ K hΘ hK => ?_)); simp (maxSteps := 2000000) only [go_sem, seval, reduceCtorEq, f1, g1, v1, hgt, hll, ht, g2, hp']) | ((first | refine Post.splitN (fun gg => ?_) (fun gg => ?_) | refine Post.split (fun gg => ?_) (fun gg => ?_)) <;> simp (maxSteps := 2000000) only [go_sem, seval, reduceCtorEq, gg, f1, g1, v1, hgt, hll, ht, g2, hp']) | (refine finR (by simp only [go_sem, seval, reduceCtorEq, f1, g1, v1, hgt, hll, ht, g2, hp']; exact rfl) ?_; simp only [go_sem, seval, reduceCtorEq, f1, g1, v1, hgt, hll, ht, g2, hp']) | refine updL hM ?_ (by omega) | (with_reducible exact fun _ _ => rfl))
      all_goals (first | omega | (simp only [decide_eq_true_eq, decide_eq_false_iff_not] at *; omega) | (simp only [List.length_append, List.length_cons, List.length_nil] <;> omega) | exact one_bv _ | exact one_sv _ | skip)
      exact ⟨i + 1, ⟨by omega, by rw [hx]; rfl⟩, by omega, (sbs (by simp (maxSteps := 2000000) only [go_sem, seval, reduceCtorEq, List.append_eq]) rfl rfl)⟩
  · have f1 : ((i : Int) < (l.length : Int)) = False := eq_false (by omega)
    have e : i = l.length := by omega
    subst e
    have hx : idxE p l 0 = -1 := by rw [hx, List.drop_length]; rfl
    rw [hx]
    repeat' (first | (with_reducible first | refine pa ?_ | refine pb ?_ | refine pc ?_ | refine nxt_n ?_ | refine nxt_e ?_ | refine nxt_r ?_ | refine blk_n ?_ | refine blk_r ?_ | refine blk_hit ?_ | refine blk_miss (by rfl) ?_ | refine pd ?_ | refine pe ?_ | refine pf ?_ | refine pg ?_ | apply And.intro) | (refine hK _ ?_; clear hK K hΘ Θ) | (with_reducible first | refine cw1 ?_ | refine cw2 ?_ | exact cw3 | exact cw4) | ((with_reducible first | refine cw5 (fun gg => ?_) | refine cw6 (fun gg => ?_) | refine cw7 (fun gg => ?_)); try simp only [gg]) | refine cs1 hG rfl ?_ ?_ | refine cs2 hG rfl ?_ ?_ | ((first | refine rga hG (by kernel_rfl) (fun Θ K hΘ hK => ?_) | refine rgb hG (by kernel_rfl) (fun Θ K hΘ hK => ?_)); simp (maxSteps := 2000000) only [go_sem, seval, reduceCtorEq, f1]) | ((first | refine Post.splitN (fun gg => ?_) (fun gg => ?_) | refine Post.split (fun gg => ?_) (fun gg => ?_)) <;> simp (maxSteps := 2000000) only [go_sem, seval, reduceCtorEq, gg, f1]) | (refine finR (by simp only [go_sem, seval, reduceCtorEq, f1]; exact rfl) ?_; simp only [go_sem, seval, reduceCtorEq, f1]) | refine updL hM ?_ (by omega) | (with_reducible exact fun _ _ => rfl))
    all_goals (first | omega | (simp only [decide_eq_true_eq, decide_eq_false_iff_not] at *; omega) | (simp only [List.length_append, List.length_cons, List.length_nil] <;> omega) | exact one_bv _ | exact one_sv _ | skip)
theorem ContE_sp (f : FuncId) (p : Ent → Bool) (hf : ∀ e : Ent, e.ok → Rt f [.agg e.c] (.flat (.bool (p e)))) (l : List Ent) (hok : ∀ e ∈ l, e.ok) (hl : l.length ≤ 140737488355328) : Rt 80 [.sl false 73 l.length (Ent.lC l), .fn f []] (.flat (.bool (l.any p))) := by
  have e := idxE_any p l 0 (by omega)
  rw [← e]
  intro M mn
  refine fnL (C := kc 9 [] []) (rs := [.tmp 4]) envOk Tryd.func80 (by kernel_rfl) rfl rfl rfl rfl rfl rfl (Low.flat _) ?_
  intro E hG hM
  repeat' (first | (with_reducible first | refine pa ?_ | refine pb ?_ | refine pc ?_ | refine nxt_n ?_ | refine nxt_e ?_ | refine nxt_r ?_ | refine blk_n ?_ | refine blk_r ?_ | refine blk_hit ?_ | refine blk_miss (by rfl) ?_ | refine pd ?_ | refine pe ?_ | refine pf ?_ | refine pg ?_ | apply And.intro) | (refine hK _ ?_; clear hK K hΘ Θ) | (with_reducible first | refine cw1 ?_ | refine cw2 ?_ | exact cw3 | exact cw4) | ((with_reducible first | refine cw5 (fun gg => ?_) | refine cw6 (fun gg => ?_) | refine cw7 (fun gg => ?_)); try simp only [gg]) | refine cs1 hG rfl ?_ ?_ | refine cs2 hG rfl ?_ ?_ | ((first | refine kg (IdxE_sp f p hf l hok hl _ _) rfl hΘ ?_ | refine rga hG (by kernel_rfl) (fun Θ K hΘ hK => ?_) | refine rgb hG (by kernel_rfl) (fun Θ K hΘ hK => ?_)); simp (maxSteps := 2000000) only [go_sem, seval, reduceCtorEq]) | ((first | refine Post.splitN (fun gg => ?_) (fun gg => ?_) | refine Post.split (fun gg => ?_) (fun gg => ?_)) <;> simp (maxSteps := 2000000) only [go_sem, seval, reduceCtorEq, gg]) | (refine finR (by simp only [go_sem, seval, reduceCtorEq]; exact rfl) ?_; simp only [go_sem, seval, reduceCtorEq]) | refine updL hM ?_ (by omega) | (with_reducible exact fun _ _ => rfl))
  all_goals (first | omega | (simp only [decide_eq_true_eq, decide_eq_false_iff_not] at *; omega) | (simp only [List.length_append, List.length_cons, List.length_nil] <;> omega) | exact one_bv _ | exact one_sv _ | skip)
theorem AuText_sp (a : Au) (ha : a.ok) (hs : a.sig.length ≤ 1000000) : Rt 52 [.agg a.c] (.flat (.string (bs a.text))) := by
  have n1 : a.node < 9223372036854775808 := by have := ha.1.2; omega
  have n2 : a.seq < 9223372036854775808 := by have := ha.2.1.2; omega
  have t1 := Au.total_le ha hs
  have tb := take_bv32 a.hash
  have hL := List_sp a.parts (by omega) (by omega)
  simp only [Au.parts] at hL
  intro M mn
  refine fnL (C := kc 16 [] []) (rs := [.tmp 2]) envOk Tryd.func52 (by kernel_rfl) rfl rfl rfl rfl rfl rfl (Low.flat _) ?_
  intro E hG hM
  repeat' (first | (with_reducible first | refine pa ?_ | refine pb ?_ | refine pc ?_ | refine nxt_n ?_ | refine nxt_e ?_ | refine nxt_r ?_ | refine blk_n ?_ | refine blk_r ?_ | refine blk_hit ?_ | refine blk_miss (by rfl) ?_ | refine pd ?_ | refine pe ?_ | refine pf ?_ | refine pg ?_ | apply And.intro) | (refine hK _ ?_; first | clear hK K hn0 hcl hΘ Θ | clear hK K hΘ Θ) | (with_reducible first | refine cw1 ?_ | refine cw2 ?_ | exact cw3 | exact cw4) | ((with_reducible first | refine cw5 (fun gg => ?_) | refine cw6 (fun gg => ?_) | refine cw7 (fun gg => ?_)); try simp only [gg]) | refine cs1 hG rfl ?_ ?_ | refine cs2 hG rfl ?_ ?_ | ((first | refine kf (fun M n => Num_sp a.node n1 M n) rfl (by decide) cl0 hΘ hcl hn0 ?_ | refine kf (fun M n => Num_sp a.seq n2 M n) rfl (by decide) cl0 hΘ hcl hn0 ?_ | refine kf (fun M n => hL M n) rfl (by decide) cl0 hΘ hcl hn0 ?_ | refine rga hG (by kernel_rfl) (fun Θ K hΘ hK => ?_) | refine rgb hG (by kernel_rfl) (fun Θ K hΘ hK => ?_) | refine rgc defCl hG (by kernel_rfl) cl0 (by rfl) (by kernel_rfl) (fun Θ K hΘ hcl hn0 hK => ?_) | refine rgd defCl hG (by kernel_rfl) cl0 (by rfl) (by kernel_rfl) (fun Θ K hΘ hcl hn0 hK => ?_)); simp (maxSteps := 2000000) only [go_sem, seval, reduceCtorEq, tb]) | ((first | refine Post.splitN (fun gg => ?_) (fun gg => ?_) | refine PostB.splitN (fun gg => ?_) (fun gg => ?_) | refine Post.split (fun gg => ?_) (fun gg => ?_) | refine PostB.split (fun gg => ?_) (fun gg => ?_)) <;> simp (maxSteps := 2000000) only [go_sem, seval, reduceCtorEq, gg, tb]) | (refine finR (by simp only [go_sem, seval, reduceCtorEq, tb]; exact rfl) ?_; simp only [go_sem, seval, reduceCtorEq, tb]) | refine updL hM ?_ (by omega) | (with_reducible exact fun _ _ => rfl))
  all_goals (first | omega | (simp only [decide_eq_true_eq, decide_eq_false_iff_not] at *; omega) | (simp only [List.length_append, List.length_cons, List.length_nil] <;> omega) | exact one_bv _ | exact one_sv _ | skip)
  all_goals rfl
def cameE (m : Mail) : Ent := ⟨2, dr0, m.auth.node, m.auth.seq, m.prev, m.mask, m.pay, m.auth.sig⟩
end Go.VL

set_option linter.unusedVariables false
set_option linter.unusedSimpArgs false
set_option maxRecDepth 100000
set_option maxHeartbeats 4000000
open Go.RowKit
namespace Go.VL
open Go.Proofs
theorem rot_and : ∀ k : Fin 32, 1 ≤ k.val → andI .u64 (IntKind.u64.wrap (-(k.val : Int))) 31 = ((32 - k.val : Nat) : Int) := by decide
theorem Rot_sp (x : UInt32) (n : Int) (h : decide (-31 ≤ n) && decide (n ≤ -1) = true) : Rt 127 [.flat (.int .u32 x.toNat), .flat (.int .i64 n)] (.flat (.int .u32 (rotr x (-n).toNat).toNat)) := by
  simp only [Bool.and_eq_true, decide_eq_true_eq] at h
  obtain ⟨k, hk, rfl⟩ : ∃ k : Nat, k < 32 ∧ n = -(k : Int) := ⟨(-n).toNat, by omega, by omega⟩
  have e1 := rot_and ⟨k, hk⟩ (show 1 ≤ k by omega)
  simp only at e1
  have e2 : IntKind.u64.wrap (32 - ((32 - k : Nat) : Int)) = (k : Int) := by rw [show (32 - ((32 - k : Nat) : Int)) = (k : Int) by omega, wrap_u64n, Nat.mod_eq_of_lt (by omega)]
  have e3 := w_shlN x (32 - k) (by omega)
  have e4 := w_shrN x k (by omega)
  have e5 : (- -(k : Int)).toNat = k := by omega
  rw [e5]
  have e6 : rotr x k = shl32 x (32 - k) ||| shr32 x k := UInt32.or_comm _ _
  rw [e6]
  intro M mn
  refine fnL (C := kc 17 [] []) (rs := [.tmp 4]) envOk Tryd.func127 (by kernel_rfl) rfl rfl rfl rfl rfl rfl (Low.flat _) ?_
  intro E hG hM
  repeat' (first | (with_reducible first | refine pa ?_ | refine pb ?_ | refine pc ?_ | refine nxt_n ?_ | refine nxt_e ?_ | refine nxt_r ?_ | refine blk_n ?_ | refine blk_r ?_ | refine blk_hit ?_ | refine blk_miss (by rfl) ?_ | refine pd ?_ | refine pe ?_ | refine pf ?_ | refine pg ?_ | apply And.intro) | (refine hK _ ?_; clear hK K hΘ Θ) | (with_reducible first | refine cw1 ?_ | refine cw2 ?_ | exact cw3 | exact cw4) | ((with_reducible first | refine cw5 (fun gg => ?_) | refine cw6 (fun gg => ?_) | refine cw7 (fun gg => ?_)); try simp only [gg]) | refine cs1 hG rfl ?_ ?_ | refine cs2 hG rfl ?_ ?_ | ((first | refine rga hG (by kernel_rfl) (fun Θ K hΘ hK => ?_) | refine rgb hG (by kernel_rfl) (fun Θ K hΘ hK => ?_)); simp (maxSteps := 2000000) only [go_sem, seval, reduceCtorEq, e1, e2, e3, e4]) | ((first | refine Post.splitN (fun gg => ?_) (fun gg => ?_) | refine Post.split (fun gg => ?_) (fun gg => ?_)) <;> simp (maxSteps := 2000000) only [go_sem, seval, reduceCtorEq, gg, e1, e2, e3, e4]) | (refine finR (by simp only [go_sem, seval, reduceCtorEq, e1, e2, e3, e4]; exact rfl) ?_; simp only [go_sem, seval, reduceCtorEq, e1, e2, e3, e4]) | refine updL hM ?_ (by omega) | (with_reducible exact fun _ _ => rfl))
  all_goals (first | omega | (simp only [decide_eq_true_eq, decide_eq_false_iff_not] at *; omega) | (simp only [List.length_append, List.length_cons, List.length_nil] <;> omega) | exact one_bv _ | exact one_sv _ | skip)
end Go.VL

set_option linter.unusedVariables false
set_option linter.unusedSimpArgs false
set_option maxRecDepth 100000
set_option maxHeartbeats 8000000
open Go.RowKit
namespace Go.VL
open Go.Proofs
theorem wArr_lo {p : List UInt8} {i : Nat} (h : i < 16) : wArr p (i + 1) = (wArr p i).set i (wordAt p i) := by rw [wArr, wVal, if_pos h]
theorem wArr_hi {p : List UInt8} {i : Nat} (h : ¬ i < 16) : wArr p (i + 1) = (wArr p i).set i (wNext (wArr p i) i) := by rw [wArr, wVal, if_neg h]
theorem mix_sp (h : List UInt32) (p : List UInt8) (hh : h.length = 8) (hp : p.length = 64) (b : Nat) (M : Mem) (mn : Nat) (hb : M b = some (uv h)) :
    Sp Tryd.prog GL 122 [.bp b 0, .sl false 1 64 (bv p)] M mn (fun r m k => r = .tup [] ∧ m = upd M b (some (uv (compress h p))) ∧ k = mn) := by
  refine fnW (C := kc 191 [] []) (rs := []) (cs0 := uv (compress h p)) envOk Tryd.func122 (by kernel_rfl) rfl rfl rfl rfl rfl rfl (lowTup lowC0) (by rw [hb]; exact fun e => nomatch e) ((FlatS.uv _).low) ?_
  intro E hG hM
  have hbn : b < mn := Nat.lt_of_not_le fun e => by rw [hM b e] at hb; cases hb
  repeat' (first | (with_reducible first | refine pa ?_ | refine pb ?_ | refine pc ?_ | refine nxt_n ?_ | refine nxt_e ?_ | refine nxt_r ?_ | refine blk_n ?_ | refine blk_r ?_ | refine blk_hit ?_ | refine blk_miss (by rfl) ?_ | refine pd ?_ | refine pe ?_ | refine pf ?_ | refine pg ?_ | apply And.intro) | (refine hK _ ?_; first | clear hK K hn0 hcl hΘ Θ | clear hK K hΘ Θ) | (with_reducible first | refine cw1 ?_ | refine cw2 ?_ | exact cw3 | exact cw4) | ((with_reducible first | refine cw5 (fun gg => ?_) | refine cw6 (fun gg => ?_) | refine cw7 (fun gg => ?_)); try simp only [gg]) | refine cs1 hG rfl ?_ ?_ | refine cs2 hG rfl ?_ ?_ | ((first | refine rga hG (by kernel_rfl) (fun Θ K hΘ hK => ?_) | refine rgb hG (by kernel_rfl) (fun Θ K hΘ hK => ?_) | refine rgc defCl hG (by kernel_rfl) cl0 (by rfl) (by kernel_rfl) (fun Θ K hΘ hcl hn0 hK => ?_) | refine rgd defCl hG (by kernel_rfl) cl0 (by rfl) (by kernel_rfl) (fun Θ K hΘ hcl hn0 hK => ?_)); simp (maxSteps := 2000000) only [go_sem, seval, reduceCtorEq, List.append_eq]) | ((first | refine Post.splitN (fun gg => ?_) (fun gg => ?_) | refine PostB.splitN (fun gg => ?_) (fun gg => ?_) | refine Post.split (fun gg => ?_) (fun gg => ?_) | refine PostB.split (fun gg => ?_) (fun gg => ?_)) <;> simp (maxSteps := 2000000) only [go_sem, seval, reduceCtorEq, List.append_eq, gg]) | ((first | refine finR (by simp only [go_sem, seval, reduceCtorEq, List.append_eq]; exact rfl) ?_ | refine finN (by simp only [go_sem, seval, reduceCtorEq, List.append_eq]; exact rfl) ?_); simp only [go_sem, seval, reduceCtorEq, List.append_eq]) | refine updL hM ?_ (by omega) | (with_reducible exact fun _ _ => rfl))
  all_goals (first | omega | (simp only [decide_eq_true_eq, decide_eq_false_iff_not] at *; omega) | (simp only [List.length_append, List.length_cons, List.length_nil] <;> omega) | exact one_bv _ | exact one_sv _ | skip)
  refine WC.loopA (fun i : Nat => ⟨[(15, .flat (.int .i64 i)), (4, .bp mn 0), (1, .sl false 1 64 (bv p)), (0, .bp b 0)], upd M mn (some (uv (wArr p i))), mn + 1⟩) (fun i => 64 - i) (fun i => i ≤ 64) 0 (by omega) (sbs (by simp (maxSteps := 2000000) only [go_sem, seval, reduceCtorEq, List.append_eq]) rfl rfl) ?_
  · intro i hi
    have hl := wArr_len p i
    by_cases h64 : i < 64
    · have f64 : ((i : Int) < 64) = True := eq_true (by omega)
      have g64 : (i < 64) = True := eq_true h64
      have w1 : IntKind.i64.wrap (i + 1) = ((i + 1 : Nat) : Int) := by rw [wi (by omega) (by omega)]; omega
      by_cases h16 : i < 16
      · have f16 : ((i : Int) < 16) = True := eq_true (by omega)
        have a0 : IntKind.i64.wrap (4 * i) = ((4 * i : Nat) : Int) := by rw [wi (by omega) (by omega)]; omega
        have a1 : IntKind.i64.wrap (((4 * i : Nat) : Int) + 1) = ((4 * i + 1 : Nat) : Int) := by rw [wi (by omega) (by omega)]; omega
        have a2 : IntKind.i64.wrap (((4 * i : Nat) : Int) + 2) = ((4 * i + 2 : Nat) : Int) := by rw [wi (by omega) (by omega)]; omega
        have a3 : IntKind.i64.wrap (((4 * i : Nat) : Int) + 3) = ((4 * i + 3 : Nat) : Int) := by rw [wi (by omega) (by omega)]; omega
        have b0 : (4 * i < 64) = True := eq_true (by omega)
        have b1 : (4 * i + 1 < 64) = True := eq_true (by omega)
        have b2 : (4 * i + 2 < 64) = True := eq_true (by omega)
        have b3 : (4 * i + 3 < 64) = True := eq_true (by omega)
        repeat' (first | (with_reducible first | refine pa ?_ | refine pb ?_ | refine pc ?_ | refine nxt_n ?_ | refine nxt_e ?_ | refine nxt_r ?_ | refine blk_n ?_ | refine blk_r ?_ | refine blk_hit ?_ | refine blk_miss (by rfl) ?_ | refine pd ?_ | refine pe ?_ | refine pf ?_ | refine pg ?_ | apply And.intro) | (refine hK _ ?_; first | clear hK K hn0 hcl hΘ Θ | clear hK K hΘ Θ) | (with_reducible first | refine cw1 ?_ | refine cw2 ?_ | exact cw3 | exact cw4) | ((with_reducible first | refine cw5 (fun gg => ?_) | refine cw6 (fun gg => ?_) | refine cw7 (fun gg => ?_)); try simp only [gg]) | refine cs1 hG rfl ?_ ?_ | refine cs2 hG rfl ?_ ?_ | ((first | refine rga hG (by kernel_rfl) (fun Θ K hΘ hK => ?_) | refine rgb hG (by kernel_rfl) (fun Θ K hΘ hK => ?_) | refine rgc defCl hG (by kernel_rfl) cl0 (by rfl) (by kernel_rfl) (fun Θ K hΘ hcl hn0 hK => ?_) | refine rgd defCl hG (by kernel_rfl) cl0 (by rfl) (by kernel_rfl) (fun Θ K hΘ hcl hn0 hK => ?_)); simp (maxSteps := 2000000) only [go_sem, seval, reduceCtorEq, List.append_eq, f64, g64, f16, w1, a0, a1, a2, a3, b0, b1, b2, b3, hl, hp]) | ((first | refine Post.splitN (fun gg => ?_) (fun gg => ?_) | refine PostB.splitN (fun gg => ?_) (fun gg => ?_) | refine Post.split (fun gg => ?_) (fun gg => ?_) | refine PostB.split (fun gg => ?_) (fun gg => ?_)) <;> simp (maxSteps := 2000000) only [go_sem, seval, reduceCtorEq, List.append_eq, gg, f64, g64, f16, w1, a0, a1, a2, a3, b0, b1, b2, b3, hl, hp]) | ((first | refine finR (by simp only [go_sem, seval, reduceCtorEq, List.append_eq, f64, g64, f16, w1, a0, a1, a2, a3, b0, b1, b2, b3, hl, hp]; exact rfl) ?_ | refine finN (by simp only [go_sem, seval, reduceCtorEq, List.append_eq, f64, g64, f16, w1, a0, a1, a2, a3, b0, b1, b2, b3, hl, hp]; exact rfl) ?_); simp only [go_sem, seval, reduceCtorEq, List.append_eq, f64, g64, f16, w1, a0, a1, a2, a3, b0, b1, b2, b3, hl, hp]) | refine updL hM ?_ (by omega) | (with_reducible exact fun _ _ => rfl))
        all_goals (first | omega | (simp only [decide_eq_true_eq, decide_eq_false_iff_not] at *; omega) | (simp only [List.length_append, List.length_cons, List.length_nil] <;> omega) | exact one_bv _ | exact one_sv _ | skip)
        · refine ⟨i + 1, by omega, by omega, sbs (by simp (maxSteps := 2000000) only [go_sem, seval, reduceCtorEq, List.append_eq]) (by rw [wArr_lo h16]; rfl) rfl⟩
        all_goals trace_state
      · have f16 : ((i : Int) < 16) = False := eq_false (by omega)
        have a0 : IntKind.i64.wrap (i - 15) = ((i - 15 : Nat) : Int) := by rw [wi (by omega) (by omega)]; omega
        have a1 : IntKind.i64.wrap (i - 2) = ((i - 2 : Nat) : Int) := by rw [wi (by omega) (by omega)]; omega
        have a2 : IntKind.i64.wrap (i - 16) = ((i - 16 : Nat) : Int) := by rw [wi (by omega) (by omega)]; omega
        have a3 : IntKind.i64.wrap (i - 7) = ((i - 7 : Nat) : Int) := by rw [wi (by omega) (by omega)]; omega
        have b0 : (i - 15 < 64) = True := eq_true (by omega)
        have b1 : (i - 2 < 64) = True := eq_true (by omega)
        have b2 : (i - 16 < 64) = True := eq_true (by omega)
        have b3 : (i - 7 < 64) = True := eq_true (by omega)
        repeat' (first | (with_reducible first | refine pa ?_ | refine pb ?_ | refine pc ?_ | refine nxt_n ?_ | refine nxt_e ?_ | refine nxt_r ?_ | refine blk_n ?_ | refine blk_r ?_ | refine blk_hit ?_ | refine blk_miss (by rfl) ?_ | refine pd ?_ | refine pe ?_ | refine pf ?_ | refine pg ?_ | apply And.intro) | (refine hK _ ?_; first | clear hK K hn0 hcl hΘ Θ | clear hK K hΘ Θ) | (with_reducible first | refine cw1 ?_ | refine cw2 ?_ | exact cw3 | exact cw4) | ((with_reducible first | refine cw5 (fun gg => ?_) | refine cw6 (fun gg => ?_) | refine cw7 (fun gg => ?_)); try simp only [gg]) | refine cs1 hG rfl ?_ ?_ | refine cs2 hG rfl ?_ ?_ | ((first | refine kf (fun M n => Rot_sp _ _ (by decide) M n) rfl (by decide) cl0 hΘ hcl hn0 ?_ | refine rga hG (by kernel_rfl) (fun Θ K hΘ hK => ?_) | refine rgb hG (by kernel_rfl) (fun Θ K hΘ hK => ?_) | refine rgc defCl hG (by kernel_rfl) cl0 (by rfl) (by kernel_rfl) (fun Θ K hΘ hcl hn0 hK => ?_) | refine rgd defCl hG (by kernel_rfl) cl0 (by rfl) (by kernel_rfl) (fun Θ K hΘ hcl hn0 hK => ?_)); simp (maxSteps := 2000000) only [go_sem, seval, reduceCtorEq, List.append_eq, f64, g64, f16, w1, a0, a1, a2, a3, b0, b1, b2, b3, hl]) | ((first | refine Post.splitN (fun gg => ?_) (fun gg => ?_) | refine PostB.splitN (fun gg => ?_) (fun gg => ?_) | refine Post.split (fun gg => ?_) (fun gg => ?_) | refine PostB.split (fun gg => ?_) (fun gg => ?_)) <;> simp (maxSteps := 2000000) only [go_sem, seval, reduceCtorEq, List.append_eq, gg, f64, g64, f16, w1, a0, a1, a2, a3, b0, b1, b2, b3, hl]) | ((first | refine finR (by simp only [go_sem, seval, reduceCtorEq, List.append_eq, f64, g64, f16, w1, a0, a1, a2, a3, b0, b1, b2, b3, hl]; exact rfl) ?_ | refine finN (by simp only [go_sem, seval, reduceCtorEq, List.append_eq, f64, g64, f16, w1, a0, a1, a2, a3, b0, b1, b2, b3, hl]; exact rfl) ?_); simp only [go_sem, seval, reduceCtorEq, List.append_eq, f64, g64, f16, w1, a0, a1, a2, a3, b0, b1, b2, b3, hl]) | refine updL hM ?_ (by omega) | (with_reducible exact fun _ _ => rfl))
        all_goals (first | omega | (simp only [decide_eq_true_eq, decide_eq_false_iff_not] at *; omega) | (simp only [List.length_append, List.length_cons, List.length_nil] <;> omega) | exact one_bv _ | exact one_sv _ | skip)
        · refine ⟨i + 1, by omega, by omega, sbs (by simp (maxSteps := 2000000) only [go_sem, seval, reduceCtorEq, List.append_eq]) (by rw [wArr_hi h16]; rfl) rfl⟩
        all_goals trace_state
    · have f64 : ((i : Int) < 64) = False := eq_false (by omega)
      have e : i = 64 := by omega
      subst e
      generalize hW : wArr p 64 = W at hl ⊢
      have q1 : ∀ x, upd M mn x b = some (uv h) := fun x => by rw [upd_ne _ _ (by omega)]; exact hb
      repeat' (first | (with_reducible first | refine pa ?_ | refine pb ?_ | refine pc ?_ | refine nxt_n ?_ | refine nxt_e ?_ | refine nxt_r ?_ | refine blk_n ?_ | refine blk_r ?_ | refine blk_hit ?_ | refine blk_miss (by rfl) ?_ | refine pd ?_ | refine pe ?_ | refine pf ?_ | refine pg ?_ | apply And.intro) | (refine hK _ ?_; first | clear hK K hn0 hcl hΘ Θ | clear hK K hΘ Θ) | (with_reducible first | refine cw1 ?_ | refine cw2 ?_ | exact cw3 | exact cw4) | ((with_reducible first | refine cw5 (fun gg => ?_) | refine cw6 (fun gg => ?_) | refine cw7 (fun gg => ?_)); try simp only [gg]) | refine cs1 hG rfl ?_ ?_ | refine cs2 hG rfl ?_ ?_ | ((first | refine rga hG (by kernel_rfl) (fun Θ K hΘ hK => ?_) | refine rgb hG (by kernel_rfl) (fun Θ K hΘ hK => ?_) | refine rgc defCl hG (by kernel_rfl) cl0 (by rfl) (by kernel_rfl) (fun Θ K hΘ hcl hn0 hK => ?_) | refine rgd defCl hG (by kernel_rfl) cl0 (by rfl) (by kernel_rfl) (fun Θ K hΘ hcl hn0 hK => ?_)); simp (maxSteps := 2000000) only [go_sem, seval, reduceCtorEq, List.append_eq, f64, q1, hh, hl]) | ((first | refine Post.splitN (fun gg => ?_) (fun gg => ?_) | refine PostB.splitN (fun gg => ?_) (fun gg => ?_) | refine Post.split (fun gg => ?_) (fun gg => ?_) | refine PostB.split (fun gg => ?_) (fun gg => ?_)) <;> simp (maxSteps := 2000000) only [go_sem, seval, reduceCtorEq, List.append_eq, gg, f64, q1, hh, hl]) | ((first | refine finR (by simp only [go_sem, seval, reduceCtorEq, List.append_eq, f64, q1, hh, hl]; exact rfl) ?_ | refine finN (by simp only [go_sem, seval, reduceCtorEq, List.append_eq, f64, q1, hh, hl]; exact rfl) ?_); simp only [go_sem, seval, reduceCtorEq, List.append_eq, f64, q1, hh, hl]) | refine updL hM ?_ (by omega) | (with_reducible exact fun _ _ => rfl))
      all_goals (first | omega | (simp only [decide_eq_true_eq, decide_eq_false_iff_not] at *; omega) | (simp only [List.length_append, List.length_cons, List.length_nil] <;> omega) | exact one_bv _ | exact one_sv _ | skip)
      refine WC.loopA (fun i : Nat => ⟨[(96, .flat (.int .i64 i)), (8, .bp (mn + 1) 0), (4, .bp mn 0), (0, .bp b 0)], upd (upd M mn (some (uv W))) (mn + 1) (some (uv (rounds h W i))), mn + 1 + 1⟩) (fun i => 64 - i) (fun i => i ≤ 64) 0 (by omega) (sbs (by simp (maxSteps := 2000000) only [go_sem, seval, reduceCtorEq, List.append_eq]) rfl rfl) ?_
      intro i hi
      have hs := rounds_len h W hh i
      generalize hS : rounds h W i = s at hs ⊢
      by_cases h64 : i < 64
      · have f64 : ((i : Int) < 64) = True := eq_true (by omega)
        have g64 : (i < 64) = True := eq_true h64
        have w1 : IntKind.i64.wrap (i + 1) = ((i + 1 : Nat) : Int) := by rw [wi (by omega) (by omega)]; omega
        repeat' (first | (with_reducible first | refine pa ?_ | refine pb ?_ | refine pc ?_ | refine nxt_n ?_ | refine nxt_e ?_ | refine nxt_r ?_ | refine blk_n ?_ | refine blk_r ?_ | refine blk_hit ?_ | refine blk_miss (by rfl) ?_ | refine pd ?_ | refine pe ?_ | refine pf ?_ | refine pg ?_ | apply And.intro) | (refine hK _ ?_; first | clear hK K hn0 hcl hΘ Θ | clear hK K hΘ Θ) | (with_reducible first | refine cw1 ?_ | refine cw2 ?_ | exact cw3 | exact cw4) | ((with_reducible first | refine cw5 (fun gg => ?_) | refine cw6 (fun gg => ?_) | refine cw7 (fun gg => ?_)); try simp only [gg]) | refine cs1 hG rfl ?_ ?_ | refine cs2 hG rfl ?_ ?_ | ((first | refine kf (fun M n => Rot_sp _ _ (by decide) M n) rfl (by decide) cl0 hΘ hcl hn0 ?_ | refine rga hG (by kernel_rfl) (fun Θ K hΘ hK => ?_) | refine rgb hG (by kernel_rfl) (fun Θ K hΘ hK => ?_) | refine rgc defCl hG (by kernel_rfl) cl0 (by rfl) (by kernel_rfl) (fun Θ K hΘ hcl hn0 hK => ?_) | refine rgd defCl hG (by kernel_rfl) cl0 (by rfl) (by kernel_rfl) (fun Θ K hΘ hcl hn0 hK => ?_)); simp (maxSteps := 2000000) only [go_sem, seval, reduceCtorEq, List.append_eq, f64, g64, w1, hs, hl]) | ((first | refine Post.splitN (fun gg => ?_) (fun gg => ?_) | refine PostB.splitN (fun gg => ?_) (fun gg => ?_) | refine Post.split (fun gg => ?_) (fun gg => ?_) | refine PostB.split (fun gg => ?_) (fun gg => ?_)) <;> simp (maxSteps := 2000000) only [go_sem, seval, reduceCtorEq, List.append_eq, gg, f64, g64, w1, hs, hl]) | ((first | refine finR (by simp only [go_sem, seval, reduceCtorEq, List.append_eq, f64, g64, w1, hs, hl]; exact rfl) ?_ | refine finN (by simp only [go_sem, seval, reduceCtorEq, List.append_eq, f64, g64, w1, hs, hl]; exact rfl) ?_); simp only [go_sem, seval, reduceCtorEq, List.append_eq, f64, g64, w1, hs, hl]) | refine updL hM ?_ (by omega) | (with_reducible exact fun _ _ => rfl))
        all_goals (first | omega | (simp only [decide_eq_true_eq, decide_eq_false_iff_not] at *; omega) | (simp only [List.length_append, List.length_cons, List.length_nil] <;> omega) | exact one_bv _ | exact one_sv _ | skip)
        refine ⟨i + 1, by omega, by omega, sbs (by simp (maxSteps := 2000000) only [go_sem, seval, reduceCtorEq, List.append_eq]) (by rw [rounds, hS]; rfl) rfl⟩
      · have f64 : ((i : Int) < 64) = False := eq_false (by omega)
        have e : i = 64 := by omega
        subst e
        have q2 : ∀ x y, upd (upd M mn x) (mn + 1) y b = some (uv h) := fun x y => by rw [upd_ne _ _ (by omega), q1]
        repeat' (first | (with_reducible first | refine pa ?_ | refine pb ?_ | refine pc ?_ | refine nxt_n ?_ | refine nxt_e ?_ | refine nxt_r ?_ | refine blk_n ?_ | refine blk_r ?_ | refine blk_hit ?_ | refine blk_miss (by rfl) ?_ | refine pd ?_ | refine pe ?_ | refine pf ?_ | refine pg ?_ | apply And.intro) | (refine hK _ ?_; first | clear hK K hn0 hcl hΘ Θ | clear hK K hΘ Θ) | (with_reducible first | refine cw1 ?_ | refine cw2 ?_ | exact cw3 | exact cw4) | ((with_reducible first | refine cw5 (fun gg => ?_) | refine cw6 (fun gg => ?_) | refine cw7 (fun gg => ?_)); try simp only [gg]) | refine cs1 hG rfl ?_ ?_ | refine cs2 hG rfl ?_ ?_ | ((first | refine rga hG (by kernel_rfl) (fun Θ K hΘ hK => ?_) | refine rgb hG (by kernel_rfl) (fun Θ K hΘ hK => ?_) | refine rgc defCl hG (by kernel_rfl) cl0 (by rfl) (by kernel_rfl) (fun Θ K hΘ hcl hn0 hK => ?_) | refine rgd defCl hG (by kernel_rfl) cl0 (by rfl) (by kernel_rfl) (fun Θ K hΘ hcl hn0 hK => ?_)); simp (maxSteps := 2000000) only [go_sem, seval, reduceCtorEq, List.append_eq, f64]) | ((first | refine Post.splitN (fun gg => ?_) (fun gg => ?_) | refine PostB.splitN (fun gg => ?_) (fun gg => ?_) | refine Post.split (fun gg => ?_) (fun gg => ?_) | refine PostB.split (fun gg => ?_) (fun gg => ?_)) <;> simp (maxSteps := 2000000) only [go_sem, seval, reduceCtorEq, List.append_eq, gg, f64]) | ((first | refine finR (by simp only [go_sem, seval, reduceCtorEq, List.append_eq, f64]; exact rfl) ?_ | refine finN (by simp only [go_sem, seval, reduceCtorEq, List.append_eq, f64]; exact rfl) ?_); simp only [go_sem, seval, reduceCtorEq, List.append_eq, f64]) | refine updL hM ?_ (by omega) | (with_reducible exact fun _ _ => rfl))
        all_goals (first | omega | (simp only [decide_eq_true_eq, decide_eq_false_iff_not] at *; omega) | (simp only [List.length_append, List.length_cons, List.length_nil] <;> omega) | exact one_bv _ | exact one_sv _ | skip)
        refine WC.loopA (fun i : Nat => ⟨[(176, .flat (.int .i64 i)), (8, .bp (mn + 1) 0), (4, .bp mn 0), (0, .bp b 0)], upd (upd (upd M b (some (uv (addTo h s i)))) mn (some (uv W))) (mn + 1) (some (uv s)), mn + 1 + 1⟩) (fun i => 8 - i) (fun i => i ≤ 8) 0 (by omega) (sbs (by simp (maxSteps := 2000000) only [go_sem, seval, reduceCtorEq, List.append_eq]) (by rw [addTo, upd_id hb]) rfl) ?_
        intro i hi
        have hg := addTo_len h s i
        rw [hh] at hg
        generalize hA : addTo h s i = g at hg ⊢
        by_cases h8 : i < 8
        · have f8 : ((i : Int) < 8) = True := eq_true (by omega)
          have g8 : (i < 8) = True := eq_true h8
          have w1 : IntKind.i64.wrap (i + 1) = ((i + 1 : Nat) : Int) := by rw [wi (by omega) (by omega)]; omega
          have q3 : ∀ x y z, upd (upd (upd M b z) mn x) (mn + 1) y b = z := fun x y z => by rw [upd_ne _ _ (by omega), upd_ne _ _ (by omega), upd_same]
          have q4 : ∀ x y z t, upd (upd (upd (upd M b z) mn x) (mn + 1) y) b t = upd (upd (upd M b t) mn x) (mn + 1) y := fun x y z t => by rw [upd_swap (by omega), upd_swap (M := upd M b z) (by omega), upd_upd]
          repeat' (first | (with_reducible first | refine pa ?_ | refine pb ?_ | refine pc ?_ | refine nxt_n ?_ | refine nxt_e ?_ | refine nxt_r ?_ | refine blk_n ?_ | refine blk_r ?_ | refine blk_hit ?_ | refine blk_miss (by rfl) ?_ | refine pd ?_ | refine pe ?_ | refine pf ?_ | refine pg ?_ | apply And.intro) | (refine hK _ ?_; first | clear hK K hn0 hcl hΘ Θ | clear hK K hΘ Θ) | (with_reducible first | refine cw1 ?_ | refine cw2 ?_ | exact cw3 | exact cw4) | ((with_reducible first | refine cw5 (fun gg => ?_) | refine cw6 (fun gg => ?_) | refine cw7 (fun gg => ?_)); try simp only [gg]) | refine cs1 hG rfl ?_ ?_ | refine cs2 hG rfl ?_ ?_ | ((first | refine rga hG (by kernel_rfl) (fun Θ K hΘ hK => ?_) | refine rgb hG (by kernel_rfl) (fun Θ K hΘ hK => ?_) | refine rgc defCl hG (by kernel_rfl) cl0 (by rfl) (by kernel_rfl) (fun Θ K hΘ hcl hn0 hK => ?_) | refine rgd defCl hG (by kernel_rfl) cl0 (by rfl) (by kernel_rfl) (fun Θ K hΘ hcl hn0 hK => ?_)); simp (maxSteps := 2000000) only [go_sem, seval, reduceCtorEq, List.append_eq, f8, g8, w1, hs, hl, hg, q3, q4]) | ((first | refine Post.splitN (fun gg => ?_) (fun gg => ?_) | refine PostB.splitN (fun gg => ?_) (fun gg => ?_) | refine Post.split (fun gg => ?_) (fun gg => ?_) | refine PostB.split (fun gg => ?_) (fun gg => ?_)) <;> simp (maxSteps := 2000000) only [go_sem, seval, reduceCtorEq, List.append_eq, gg, f8, g8, w1, hs, hl, hg, q3, q4]) | ((first | refine finR (by simp only [go_sem, seval, reduceCtorEq, List.append_eq, f8, g8, w1, hs, hl, hg, q3, q4]; exact rfl) ?_ | refine finN (by simp only [go_sem, seval, reduceCtorEq, List.append_eq, f8, g8, w1, hs, hl, hg, q3, q4]; exact rfl) ?_); simp only [go_sem, seval, reduceCtorEq, List.append_eq, f8, g8, w1, hs, hl, hg, q3, q4]) | refine updL hM ?_ (by omega) | (with_reducible exact fun _ _ => rfl))
          all_goals (first | omega | (simp only [decide_eq_true_eq, decide_eq_false_iff_not] at *; omega) | (simp only [List.length_append, List.length_cons, List.length_nil] <;> omega) | exact one_bv _ | exact one_sv _ | skip)
          refine ⟨i + 1, by omega, by omega, sbs (by simp (maxSteps := 2000000) only [go_sem, seval, reduceCtorEq, List.append_eq]) (by rw [addTo, hA]) rfl⟩
        · have f8 : ((i : Int) < 8) = False := eq_false (by omega)
          have e : i = 8 := by omega
          subst e
          repeat' (first | (with_reducible first | refine pa ?_ | refine pb ?_ | refine pc ?_ | refine nxt_n ?_ | refine nxt_e ?_ | refine nxt_r ?_ | refine blk_n ?_ | refine blk_r ?_ | refine blk_hit ?_ | refine blk_miss (by rfl) ?_ | refine pd ?_ | refine pe ?_ | refine pf ?_ | refine pg ?_ | apply And.intro) | (refine hK _ ?_; first | clear hK K hn0 hcl hΘ Θ | clear hK K hΘ Θ) | (with_reducible first | refine cw1 ?_ | refine cw2 ?_ | exact cw3 | exact cw4) | ((with_reducible first | refine cw5 (fun gg => ?_) | refine cw6 (fun gg => ?_) | refine cw7 (fun gg => ?_)); try simp only [gg]) | refine cs1 hG rfl ?_ ?_ | refine cs2 hG rfl ?_ ?_ | ((first | refine rga hG (by kernel_rfl) (fun Θ K hΘ hK => ?_) | refine rgb hG (by kernel_rfl) (fun Θ K hΘ hK => ?_) | refine rgc defCl hG (by kernel_rfl) cl0 (by rfl) (by kernel_rfl) (fun Θ K hΘ hcl hn0 hK => ?_) | refine rgd defCl hG (by kernel_rfl) cl0 (by rfl) (by kernel_rfl) (fun Θ K hΘ hcl hn0 hK => ?_)); simp (maxSteps := 2000000) only [go_sem, seval, reduceCtorEq, List.append_eq, f8]) | ((first | refine Post.splitN (fun gg => ?_) (fun gg => ?_) | refine PostB.splitN (fun gg => ?_) (fun gg => ?_) | refine Post.split (fun gg => ?_) (fun gg => ?_) | refine PostB.split (fun gg => ?_) (fun gg => ?_)) <;> simp (maxSteps := 2000000) only [go_sem, seval, reduceCtorEq, List.append_eq, gg, f8]) | ((first | refine finR (by simp only [go_sem, seval, reduceCtorEq, List.append_eq, f8]; exact rfl) ?_ | refine finN (by simp only [go_sem, seval, reduceCtorEq, List.append_eq, f8]; exact rfl) ?_); simp only [go_sem, seval, reduceCtorEq, List.append_eq, f8]) | refine updL hM ?_ (by omega) | (with_reducible exact fun _ _ => rfl))
          all_goals (first | omega | (simp only [decide_eq_true_eq, decide_eq_false_iff_not] at *; omega) | (simp only [List.length_append, List.length_cons, List.length_nil] <;> omega) | exact one_bv _ | exact one_sv _ | skip)
          have hc : compress h p = g := by rw [compress, hW, hS, hA]
          rw [hc]
          have hs : ∀ b', upd M b (some (uv g)) b' ≠ none → b' < mn := fun b' h' => Nat.lt_of_not_le fun e => by
            rw [upd_ne _ _ (by omega)] at h'
            exact h' (hM b' e)
          exact updW hM (updW hM (fun _ _ => rfl) hs (by omega)) hs (by omega)
end Go.VL

set_option linter.unusedVariables false
set_option linter.unusedSimpArgs false
set_option maxRecDepth 100000
set_option maxHeartbeats 8000000
open Go.RowKit
namespace Go.VL
open Go.Proofs
theorem Of_sp (s : List UInt8) (hs : s.length ≤ 1099511627776) : Rt 103 [.flat (.string (bs s))] (.agg (bv (sha s).1)) := by
  intro M mn
  refine fnL (C := kc 79 [21, 28] []) (rs := [.cell 2 52]) envOk Tryd.func103 (by kernel_rfl) rfl rfl rfl rfl rfl rfl (lowAgg (FlatS.bv _)) ?_
  intro E hG hM
  repeat' (first | (with_reducible first | refine pa ?_ | refine pb ?_ | refine pc ?_ | refine nxt_n ?_ | refine nxt_e ?_ | refine nxt_r ?_ | refine blk_n ?_ | refine blk_r ?_ | refine blk_hit ?_ | refine blk_miss (by rfl) ?_ | refine pd ?_ | refine pe ?_ | refine pf ?_ | refine pg ?_ | apply And.intro) | (refine hK _ ?_; clear hK K hΘ Θ) | (with_reducible first | refine cw1 ?_ | refine cw2 ?_ | exact cw3 | exact cw4) | ((with_reducible first | refine cw5 (fun gg => ?_) | refine cw6 (fun gg => ?_) | refine cw7 (fun gg => ?_)); try simp only [gg]) | refine cs1 hG rfl ?_ ?_ | refine cs2 hG rfl ?_ ?_ | ((first | refine rga hG (by kernel_rfl) (fun Θ K hΘ hK => ?_) | refine rgb hG (by kernel_rfl) (fun Θ K hΘ hK => ?_)); simp (maxSteps := 2000000) only [go_sem, seval, reduceCtorEq, List.append_eq]) | ((first | refine Post.splitN (fun gg => ?_) (fun gg => ?_) | refine Post.split (fun gg => ?_) (fun gg => ?_)) <;> simp (maxSteps := 2000000) only [go_sem, seval, reduceCtorEq, List.append_eq, gg]) | (refine finR (by simp only [go_sem, seval, reduceCtorEq, List.append_eq]; exact rfl) ?_; simp only [go_sem, seval, reduceCtorEq, List.append_eq]) | refine updL hM ?_ (by omega) | (with_reducible exact fun _ _ => rfl))
  all_goals (first | omega | (simp only [decide_eq_true_eq, decide_eq_false_iff_not] at *; omega) | (simp only [List.length_append, List.length_cons, List.length_nil] <;> omega) | exact one_bv _ | exact one_sv _ | skip)
  refine WC.loopA (fun l : List UInt8 => ⟨[(5, .sl true 1 l.length (bv l)), (4, .flat (.int .i64 s.length)), (3, .bp (mn + 1) 0), (2, .bp mn 0)], upd (upd M mn (some (bv z32.1))) (mn + 1) (some (uv startN)), mn + 1 + 1⟩) (fun l => s.length + 100 - l.length) (fun l => ∃ j, j ≤ padN s.length ∧ l = s ++ [128] ++ List.replicate j 0) (s ++ [128]) ⟨0, by omega, by simp⟩ (sbs (by simp (maxSteps := 2000000) only [go_sem, seval, reduceCtorEq, List.append_eq, bv_snoc128, len_snoc]) rfl rfl) ?_
  rintro l ⟨j, hj, hl⟩
  have hpd : padN s.length = (120 - (s.length + 1) % 64) % 64 := rfl
  have hll : l.length = s.length + 1 + j := by rw [hl]; simp; omega
  have e0 : ((l.length : Int).tmod 64) = ((l.length % 64 : Nat) : Int) := tmodN _ 64
  by_cases hm : l.length % 64 = 56
  · have f0 : (((l.length % 64 : Nat) : Int) = 56) = True := eq_true (by omega)
    have ej : j = padN s.length := by omega
    subst ej
    repeat' (first | (with_reducible first | refine pa ?_ | refine pb ?_ | refine pc ?_ | refine nxt_n ?_ | refine nxt_e ?_ | refine nxt_r ?_ | refine blk_n ?_ | refine blk_r ?_ | refine blk_hit ?_ | refine blk_miss (by rfl) ?_ | refine pd ?_ | refine pe ?_ | refine pf ?_ | refine pg ?_ | apply And.intro) | (refine hK _ ?_; clear hK K hΘ Θ) | (with_reducible first | refine cw1 ?_ | refine cw2 ?_ | exact cw3 | exact cw4) | ((with_reducible first | refine cw5 (fun gg => ?_) | refine cw6 (fun gg => ?_) | refine cw7 (fun gg => ?_)); try simp only [gg]) | refine cs1 hG rfl ?_ ?_ | refine cs2 hG rfl ?_ ?_ | ((first | refine rga hG (by kernel_rfl) (fun Θ K hΘ hK => ?_) | refine rgb hG (by kernel_rfl) (fun Θ K hΘ hK => ?_)); simp (maxSteps := 2000000) only [go_sem, seval, reduceCtorEq, List.append_eq, e0, f0]) | ((first | refine Post.splitN (fun gg => ?_) (fun gg => ?_) | refine Post.split (fun gg => ?_) (fun gg => ?_)) <;> simp (maxSteps := 2000000) only [go_sem, seval, reduceCtorEq, List.append_eq, gg, e0, f0]) | (refine finR (by simp only [go_sem, seval, reduceCtorEq, List.append_eq, e0, f0]; exact rfl) ?_; simp only [go_sem, seval, reduceCtorEq, List.append_eq, e0, f0]) | refine updL hM ?_ (by omega) | (with_reducible exact fun _ _ => rfl))
    all_goals (first | omega | (simp only [decide_eq_true_eq, decide_eq_false_iff_not] at *; omega) | (simp only [List.length_append, List.length_cons, List.length_nil] <;> omega) | exact one_bv _ | exact one_sv _ | skip)
    generalize hpr : l = pre at hll
    refine WC.loopA (fun j : Nat => ⟨[(6, .flat (.int .i64 (7 - j))), (5, .sl true 1 (pre ++ (lenB (s.length * 8)).take j).length (bv (pre ++ (lenB (s.length * 8)).take j))), (4, .flat (.int .i64 s.length)), (3, .bp (mn + 1) 0), (2, .bp mn 0)], upd (upd M mn (some (bv z32.1))) (mn + 1) (some (uv startN)), mn + 1 + 1⟩) (fun j => 8 - j) (fun j => j ≤ 8) 0 (by omega) (sbs (by simp (maxSteps := 2000000) only [go_sem, seval, reduceCtorEq, List.append_eq, List.take_zero, List.append_nil, hpr, Int.natCast_zero, Int.sub_zero]) rfl rfl) ?_
    intro j hj8
    generalize hL : pre ++ (lenB (s.length * 8)).take j = L
    have hLl : L.length = pre.length + j := by rw [← hL, List.length_append, List.length_take, lenB_len]; omega
    by_cases h8 : j < 8
    · have f8 : ((7 - (j : Int)) ≥ 0) = True := eq_true (by omega)
      have w1 : IntKind.u64.wrap (s.length : Int) = (s.length : Int) := wu (by omega) (by omega)
      have w2 : IntKind.u64.wrap ((s.length : Int) * 8) = ((s.length * 8 : Nat) : Int) := by rw [wu (by omega) (by omega)]; omega
      have w3 : IntKind.i64.wrap (8 * (7 - (j : Int))) = ((8 * (7 - j) : Nat) : Int) := by rw [wi (by omega) (by omega)]; omega
      have w4 : IntKind.i64.wrap (7 - (j : Int) - 1) = 7 - ((j + 1 : Nat) : Int) := by rw [wi (by omega) (by omega)]; omega
      have w5 := w_shr64 (s.length * 8) (8 * (7 - j)) (by omega)
      have hn := lenB_take (s.length * 8) j h8
      have hN : pre ++ (lenB (s.length * 8)).take (j + 1) = L ++ [UInt8.ofNat (s.length * 8 / 2 ^ (8 * (7 - j)))] := by rw [hn, ← List.append_assoc, hL]
      repeat' (first | (with_reducible first | refine pa ?_ | refine pb ?_ | refine pc ?_ | refine nxt_n ?_ | refine nxt_e ?_ | refine nxt_r ?_ | refine blk_n ?_ | refine blk_r ?_ | refine blk_hit ?_ | refine blk_miss (by rfl) ?_ | refine pd ?_ | refine pe ?_ | refine pf ?_ | refine pg ?_ | apply And.intro) | (refine hK _ ?_; clear hK K hΘ Θ) | (with_reducible first | refine cw1 ?_ | refine cw2 ?_ | exact cw3 | exact cw4) | ((with_reducible first | refine cw5 (fun gg => ?_) | refine cw6 (fun gg => ?_) | refine cw7 (fun gg => ?_)); try simp only [gg]) | refine cs1 hG rfl ?_ ?_ | refine cs2 hG rfl ?_ ?_ | ((first | refine rga hG (by kernel_rfl) (fun Θ K hΘ hK => ?_) | refine rgb hG (by kernel_rfl) (fun Θ K hΘ hK => ?_)); simp (maxSteps := 2000000) only [go_sem, seval, reduceCtorEq, List.append_eq, f8, w1, w2, w3, w4, w5, w_byteN]) | ((first | refine Post.splitN (fun gg => ?_) (fun gg => ?_) | refine Post.split (fun gg => ?_) (fun gg => ?_)) <;> simp (maxSteps := 2000000) only [go_sem, seval, reduceCtorEq, List.append_eq, gg, f8, w1, w2, w3, w4, w5, w_byteN]) | (refine finR (by simp only [go_sem, seval, reduceCtorEq, List.append_eq, f8, w1, w2, w3, w4, w5, w_byteN]; exact rfl) ?_; simp only [go_sem, seval, reduceCtorEq, List.append_eq, f8, w1, w2, w3, w4, w5, w_byteN]) | refine updL hM ?_ (by omega) | (with_reducible exact fun _ _ => rfl))
      all_goals (first | omega | (simp only [decide_eq_true_eq, decide_eq_false_iff_not] at *; omega) | (simp only [List.length_append, List.length_cons, List.length_nil] <;> omega) | exact one_bv _ | exact one_sv _ | skip)
      refine ⟨j + 1, by omega, by omega, (sbs (by simp (maxSteps := 2000000) only [go_sem, seval, reduceCtorEq, List.append_eq, hN, len_snoc]) rfl rfl)⟩
    · have f8 : ((7 - (j : Int)) ≥ 0) = False := eq_false (by omega)
      have e8 : j = 8 := by omega
      subst e8
      rw [List.take_of_length_le (by rw [lenB_len]; omega), ← hpr, hl, ← pad] at hL
      have hpd := pad_mod s
      rw [hL] at hpd
      have hsw : foldB (L.length / 64) startN L = shaW s := by rw [← hL]; rfl
      repeat' (first | (with_reducible first | refine pa ?_ | refine pb ?_ | refine pc ?_ | refine nxt_n ?_ | refine nxt_e ?_ | refine nxt_r ?_ | refine blk_n ?_ | refine blk_r ?_ | refine blk_hit ?_ | refine blk_miss (by rfl) ?_ | refine pd ?_ | refine pe ?_ | refine pf ?_ | refine pg ?_ | apply And.intro) | (refine hK _ ?_; clear hK K hΘ Θ) | (with_reducible first | refine cw1 ?_ | refine cw2 ?_ | exact cw3 | exact cw4) | ((with_reducible first | refine cw5 (fun gg => ?_) | refine cw6 (fun gg => ?_) | refine cw7 (fun gg => ?_)); try simp only [gg]) | refine cs1 hG rfl ?_ ?_ | refine cs2 hG rfl ?_ ?_ | ((first | refine rga hG (by kernel_rfl) (fun Θ K hΘ hK => ?_) | refine rgb hG (by kernel_rfl) (fun Θ K hΘ hK => ?_)); simp (maxSteps := 2000000) only [go_sem, seval, reduceCtorEq, List.append_eq, f8]) | ((first | refine Post.splitN (fun gg => ?_) (fun gg => ?_) | refine Post.split (fun gg => ?_) (fun gg => ?_)) <;> simp (maxSteps := 2000000) only [go_sem, seval, reduceCtorEq, List.append_eq, gg, f8]) | (refine finR (by simp only [go_sem, seval, reduceCtorEq, List.append_eq, f8]; exact rfl) ?_; simp only [go_sem, seval, reduceCtorEq, List.append_eq, f8]) | refine updL hM ?_ (by omega) | (with_reducible exact fun _ _ => rfl))
      all_goals (first | omega | (simp only [decide_eq_true_eq, decide_eq_false_iff_not] at *; omega) | (simp only [List.length_append, List.length_cons, List.length_nil] <;> omega) | exact one_bv _ | exact one_sv _ | skip)
      have hLb : L.length < 2000000000000 := by have : padN s.length < 64 := Nat.mod_lt _ (by omega); omega
      clear hl hll hpr hL
      refine WC.loopA (fun q : List UInt32 × List UInt8 => ⟨[(5, .sl false 1 q.2.length (bv q.2)), (3, .bp (mn + 1) 0), (2, .bp mn 0)], upd (upd M mn (some (bv z32.1))) (mn + 1) (some (uv q.1)), mn + 1 + 1⟩) (fun q => q.2.length) (fun q => q.1.length = 8 ∧ q.2.length % 64 = 0 ∧ q.2.length < 2000000000000 ∧ foldB (q.2.length / 64) q.1 q.2 = shaW s) (startN, L) ⟨startN_len, hpd, hLb, hsw⟩ (sbs (by simp (maxSteps := 2000000) only [go_sem, seval, reduceCtorEq, List.append_eq]) rfl rfl) ?_
      rintro ⟨h, l⟩ ⟨hh, hm, hll, hf⟩
      simp only at hh hm hll hf ⊢
      by_cases h0 : 0 < l.length
      · have f0 : ((l.length : Int) > 0) = True := eq_true (by omega)
        have t1 := bv_take l 64
        have t2 := bv_tkl l
        have t3 := bv_drop l 64
        have l1 : (l.take 64).length = 64 := by rw [List.length_take]; omega
        have l2 : (l.drop 64).length = l.length - 64 := List.length_drop
        repeat' (first | (with_reducible first | refine pa ?_ | refine pb ?_ | refine pc ?_ | refine nxt_n ?_ | refine nxt_e ?_ | refine nxt_r ?_ | refine blk_n ?_ | refine blk_r ?_ | refine blk_hit ?_ | refine blk_miss (by rfl) ?_ | refine pd ?_ | refine pe ?_ | refine pf ?_ | refine pg ?_ | apply And.intro) | (refine hK _ ?_; clear hK K hΘ Θ) | (with_reducible first | refine cw1 ?_ | refine cw2 ?_ | exact cw3 | exact cw4) | ((with_reducible first | refine cw5 (fun gg => ?_) | refine cw6 (fun gg => ?_) | refine cw7 (fun gg => ?_)); try simp only [gg]) | refine cs1 hG rfl ?_ ?_ | refine cs2 hG rfl ?_ ?_ | ((first | refine kg (mix_sp h (l.take 64) hh l1 (mn + 1) _ _ (upd_same _ _ _)) rfl hΘ ?_ | refine rga hG (by kernel_rfl) (fun Θ K hΘ hK => ?_) | refine rgb hG (by kernel_rfl) (fun Θ K hΘ hK => ?_)); simp (maxSteps := 2000000) only [go_sem, seval, reduceCtorEq, List.append_eq, f0, t1, t2, t3]) | ((first | refine Post.splitN (fun gg => ?_) (fun gg => ?_) | refine Post.split (fun gg => ?_) (fun gg => ?_)) <;> simp (maxSteps := 2000000) only [go_sem, seval, reduceCtorEq, List.append_eq, gg, f0, t1, t2, t3]) | (refine finR (by simp only [go_sem, seval, reduceCtorEq, List.append_eq, f0, t1, t2, t3]; exact rfl) ?_; simp only [go_sem, seval, reduceCtorEq, List.append_eq, f0, t1, t2, t3]) | refine updL hM ?_ (by omega) | (with_reducible exact fun _ _ => rfl))
        all_goals (first | omega | (simp only [decide_eq_true_eq, decide_eq_false_iff_not] at *; omega) | (simp only [List.length_append, List.length_cons, List.length_nil] <;> omega) | exact one_bv _ | exact one_sv _ | skip)
        have hc : (compress h (l.take 64)).length = 8 := by rw [compress_len, hh]
        refine ⟨(compress h (l.take 64), l.drop 64), ⟨hc, by simp only; omega, by simp only; omega, ?_⟩, by simp only; omega, (sbs (by simp (maxSteps := 2000000) only [go_sem, seval, reduceCtorEq, List.append_eq, l2]) rfl rfl)⟩
        rw [← hf]
        obtain ⟨k, hk⟩ : ∃ k, l.length / 64 = k + 1 := ⟨l.length / 64 - 1, by omega⟩
        simp only
        rw [show (l.drop 64).length / 64 = k by omega, hk, foldB]
      · have f0 : ((l.length : Int) > 0) = False := eq_false (by omega)
        have hl0 : l = [] := List.eq_nil_of_length_eq_zero (by omega)
        subst hl0
        have hf : h = shaW s := hf
        repeat' (first | (with_reducible first | refine pa ?_ | refine pb ?_ | refine pc ?_ | refine nxt_n ?_ | refine nxt_e ?_ | refine nxt_r ?_ | refine blk_n ?_ | refine blk_r ?_ | refine blk_hit ?_ | refine blk_miss (by rfl) ?_ | refine pd ?_ | refine pe ?_ | refine pf ?_ | refine pg ?_ | apply And.intro) | (refine hK _ ?_; clear hK K hΘ Θ) | (with_reducible first | refine cw1 ?_ | refine cw2 ?_ | exact cw3 | exact cw4) | ((with_reducible first | refine cw5 (fun gg => ?_) | refine cw6 (fun gg => ?_) | refine cw7 (fun gg => ?_)); try simp only [gg]) | refine cs1 hG rfl ?_ ?_ | refine cs2 hG rfl ?_ ?_ | ((first | refine rga hG (by kernel_rfl) (fun Θ K hΘ hK => ?_) | refine rgb hG (by kernel_rfl) (fun Θ K hΘ hK => ?_)); simp (maxSteps := 2000000) only [go_sem, seval, reduceCtorEq, List.append_eq, f0, hh]) | ((first | refine Post.splitN (fun gg => ?_) (fun gg => ?_) | refine Post.split (fun gg => ?_) (fun gg => ?_)) <;> simp (maxSteps := 2000000) only [go_sem, seval, reduceCtorEq, List.append_eq, gg, f0, hh]) | (refine finR (by simp only [go_sem, seval, reduceCtorEq, List.append_eq, f0, hh]; exact rfl) ?_; simp only [go_sem, seval, reduceCtorEq, List.append_eq, f0, hh]) | refine updL hM ?_ (by omega) | (with_reducible exact fun _ _ => rfl))
        all_goals (first | omega | (simp only [decide_eq_true_eq, decide_eq_false_iff_not] at *; omega) | (simp only [List.length_append, List.length_cons, List.length_nil] <;> omega) | exact one_bv _ | exact one_sv _ | skip)
        refine WC.loopA (fun i : Nat => ⟨[(47, .flat (.int .i64 i)), (46, .agg (uv h)), (7, .bp (mn + 1 + 1) 0), (3, .bp (mn + 1) 0), (2, .bp mn 0)], upd (upd (upd M mn (some (bv z32.1))) (mn + 1) (some (uv h))) (mn + 1 + 1) (some (bv (dArr h i))), mn + 1 + 1 + 1⟩) (fun i => 8 - i) (fun i => i ≤ 8) 0 (by omega) (sbs (by simp (maxSteps := 2000000) only [go_sem, seval, reduceCtorEq, List.append_eq]) rfl rfl) ?_
        intro i hi
        have hd := dArr_len h i
        generalize hD : dArr h i = d at hd ⊢
        by_cases h8 : i < 8
        · have f8 : ((i : Int) < 8) = True := eq_true (by omega)
          have g8 : (i < 8) = True := eq_true h8
          have w1 : IntKind.i64.wrap (i + 1) = ((i + 1 : Nat) : Int) := by rw [wi (by omega) (by omega)]; omega
          have a0 : IntKind.i64.wrap (4 * i) = ((4 * i : Nat) : Int) := by rw [wi (by omega) (by omega)]; omega
          have a1 : IntKind.i64.wrap (((4 * i : Nat) : Int) + 1) = ((4 * i + 1 : Nat) : Int) := by rw [wi (by omega) (by omega)]; omega
          have a2 : IntKind.i64.wrap (((4 * i : Nat) : Int) + 2) = ((4 * i + 2 : Nat) : Int) := by rw [wi (by omega) (by omega)]; omega
          have a3 : IntKind.i64.wrap (((4 * i : Nat) : Int) + 3) = ((4 * i + 3 : Nat) : Int) := by rw [wi (by omega) (by omega)]; omega
          have b0 : (4 * i < 32) = True := eq_true (by omega)
          have b1 : (4 * i + 1 < 32) = True := eq_true (by omega)
          have b2 : (4 * i + 2 < 32) = True := eq_true (by omega)
          have b3 : (4 * i + 3 < 32) = True := eq_true (by omega)
          repeat' (first | (with_reducible first | refine pa ?_ | refine pb ?_ | refine pc ?_ | refine nxt_n ?_ | refine nxt_e ?_ | refine nxt_r ?_ | refine blk_n ?_ | refine blk_r ?_ | refine blk_hit ?_ | refine blk_miss (by rfl) ?_ | refine pd ?_ | refine pe ?_ | refine pf ?_ | refine pg ?_ | apply And.intro) | (refine hK _ ?_; clear hK K hΘ Θ) | (with_reducible first | refine cw1 ?_ | refine cw2 ?_ | exact cw3 | exact cw4) | ((with_reducible first | refine cw5 (fun gg => ?_) | refine cw6 (fun gg => ?_) | refine cw7 (fun gg => ?_)); try simp only [gg]) | refine cs1 hG rfl ?_ ?_ | refine cs2 hG rfl ?_ ?_ | ((first | refine rga hG (by kernel_rfl) (fun Θ K hΘ hK => ?_) | refine rgb hG (by kernel_rfl) (fun Θ K hΘ hK => ?_)); simp (maxSteps := 2000000) only [go_sem, seval, reduceCtorEq, List.append_eq, f8, g8, w1, a0, a1, a2, a3, b0, b1, b2, b3, hh, hd]) | ((first | refine Post.splitN (fun gg => ?_) (fun gg => ?_) | refine Post.split (fun gg => ?_) (fun gg => ?_)) <;> simp (maxSteps := 2000000) only [go_sem, seval, reduceCtorEq, List.append_eq, gg, f8, g8, w1, a0, a1, a2, a3, b0, b1, b2, b3, hh, hd]) | (refine finR (by simp only [go_sem, seval, reduceCtorEq, List.append_eq, f8, g8, w1, a0, a1, a2, a3, b0, b1, b2, b3, hh, hd]; exact rfl) ?_; simp only [go_sem, seval, reduceCtorEq, List.append_eq, f8, g8, w1, a0, a1, a2, a3, b0, b1, b2, b3, hh, hd]) | refine updL hM ?_ (by omega) | (with_reducible exact fun _ _ => rfl))
          all_goals (first | omega | (simp only [decide_eq_true_eq, decide_eq_false_iff_not] at *; omega) | (simp only [List.length_append, List.length_cons, List.length_nil] <;> omega) | exact one_bv _ | exact one_sv _ | skip)
          refine ⟨i + 1, by omega, by omega, sbs (by simp (maxSteps := 2000000) only [go_sem, seval, reduceCtorEq, List.append_eq]) (by rw [dArr, hD]) rfl⟩
        · have f8 : ((i : Int) < 8) = False := eq_false (by omega)
          have e : i = 8 := by omega
          subst e
          have hq : d = (sha s).1 := by rw [← hD, dArr_8 h hh, hf]; rfl
          subst hq
          repeat' (first | (with_reducible first | refine pa ?_ | refine pb ?_ | refine pc ?_ | refine nxt_n ?_ | refine nxt_e ?_ | refine nxt_r ?_ | refine blk_n ?_ | refine blk_r ?_ | refine blk_hit ?_ | refine blk_miss (by rfl) ?_ | refine pd ?_ | refine pe ?_ | refine pf ?_ | refine pg ?_ | apply And.intro) | (refine hK _ ?_; clear hK K hΘ Θ) | (with_reducible first | refine cw1 ?_ | refine cw2 ?_ | exact cw3 | exact cw4) | ((with_reducible first | refine cw5 (fun gg => ?_) | refine cw6 (fun gg => ?_) | refine cw7 (fun gg => ?_)); try simp only [gg]) | refine cs1 hG rfl ?_ ?_ | refine cs2 hG rfl ?_ ?_ | ((first | refine rga hG (by kernel_rfl) (fun Θ K hΘ hK => ?_) | refine rgb hG (by kernel_rfl) (fun Θ K hΘ hK => ?_)); simp (maxSteps := 2000000) only [go_sem, seval, reduceCtorEq, List.append_eq, f8]) | ((first | refine Post.splitN (fun gg => ?_) (fun gg => ?_) | refine Post.split (fun gg => ?_) (fun gg => ?_)) <;> simp (maxSteps := 2000000) only [go_sem, seval, reduceCtorEq, List.append_eq, gg, f8]) | (refine finR (by simp only [go_sem, seval, reduceCtorEq, List.append_eq, f8]; exact rfl) ?_; simp only [go_sem, seval, reduceCtorEq, List.append_eq, f8]) | refine updL hM ?_ (by omega) | (with_reducible exact fun _ _ => rfl))
          all_goals (first | omega | (simp only [decide_eq_true_eq, decide_eq_false_iff_not] at *; omega) | (simp only [List.length_append, List.length_cons, List.length_nil] <;> omega) | exact one_bv _ | exact one_sv _ | skip)
  · have f0 : (((l.length % 64 : Nat) : Int) = 56) = False := eq_false (by omega)
    repeat' (first | (with_reducible first | refine pa ?_ | refine pb ?_ | refine pc ?_ | refine nxt_n ?_ | refine nxt_e ?_ | refine nxt_r ?_ | refine blk_n ?_ | refine blk_r ?_ | refine blk_hit ?_ | refine blk_miss (by rfl) ?_ | refine pd ?_ | refine pe ?_ | refine pf ?_ | refine pg ?_ | apply And.intro) | (refine hK _ ?_; clear hK K hΘ Θ) | (with_reducible first | refine cw1 ?_ | refine cw2 ?_ | exact cw3 | exact cw4) | ((with_reducible first | refine cw5 (fun gg => ?_) | refine cw6 (fun gg => ?_) | refine cw7 (fun gg => ?_)); try simp only [gg]) | refine cs1 hG rfl ?_ ?_ | refine cs2 hG rfl ?_ ?_ | ((first | refine rga hG (by kernel_rfl) (fun Θ K hΘ hK => ?_) | refine rgb hG (by kernel_rfl) (fun Θ K hΘ hK => ?_)); simp (maxSteps := 2000000) only [go_sem, seval, reduceCtorEq, List.append_eq, e0, f0]) | ((first | refine Post.splitN (fun gg => ?_) (fun gg => ?_) | refine Post.split (fun gg => ?_) (fun gg => ?_)) <;> simp (maxSteps := 2000000) only [go_sem, seval, reduceCtorEq, List.append_eq, gg, e0, f0]) | (refine finR (by simp only [go_sem, seval, reduceCtorEq, List.append_eq, e0, f0]; exact rfl) ?_; simp only [go_sem, seval, reduceCtorEq, List.append_eq, e0, f0]) | refine updL hM ?_ (by omega) | (with_reducible exact fun _ _ => rfl))
    all_goals (first | omega | (simp only [decide_eq_true_eq, decide_eq_false_iff_not] at *; omega) | (simp only [List.length_append, List.length_cons, List.length_nil] <;> omega) | exact one_bv _ | exact one_sv _ | skip)
    refine ⟨l ++ [0], ⟨j + 1, by omega, ?_⟩, ?_, (sbs (by simp (maxSteps := 2000000) only [go_sem, seval, reduceCtorEq, List.append_eq, len_snoc]) rfl rfl)⟩
    · rw [hl, List.replicate_succ']; simp
    · rw [len_snoc]; omega
end Go.VL

set_option linter.unusedVariables false
set_option linter.unusedSimpArgs false
set_option maxRecDepth 100000
set_option maxHeartbeats 8000000
open Go.RowKit
namespace Go.VL
open Go.Proofs
@[go_sem] theorem sv_cons (s : List UInt8) (l : List (List UInt8)) : V.flat (.string (bs s)) :: sv l = sv (s :: l) := rfl
theorem Sum_sp (p : List UInt8) (l : List (List UInt8)) (hp : p.length ≤ 100000000) (hs : total l ≤ 100000000) (hl : l.length ≤ 100000) : Rt 63 [.flat (.string (bs p)), .sl false 1 l.length (sv l)] (.agg (bv (shaSum p l).1)) := by
  have ht := total_cons p l
  have hb := listB_le (p :: l) (by omega) (by simp; omega)
  have e1 : 1 + l.length = (p :: l).length := by simp; omega
  simp only [List.length_cons] at hb
  intro M mn
  refine fnL (C := kc 11 [] []) (rs := [.cell 4 52]) envOk Tryd.func63 (by kernel_rfl) rfl rfl rfl rfl rfl rfl (lowAgg (FlatS.bv _)) ?_
  intro E hG hM
  repeat' (first | (with_reducible first | refine pa ?_ | refine pb ?_ | refine pc ?_ | refine nxt_n ?_ | refine nxt_e ?_ | refine nxt_r ?_ | refine blk_n ?_ | refine blk_r ?_ | refine blk_hit ?_ | refine blk_miss (by rfl) ?_ | refine pd ?_ | refine pe ?_ | refine pf ?_ | refine pg ?_ | apply And.intro) | (refine hK _ ?_; clear hK K hΘ Θ) | (with_reducible first | refine cw1 ?_ | refine cw2 ?_ | exact cw3 | exact cw4) | ((with_reducible first | refine cw5 (fun gg => ?_) | refine cw6 (fun gg => ?_) | refine cw7 (fun gg => ?_)); try simp only [gg]) | refine cs1 hG rfl ?_ ?_ | refine cs2 hG rfl ?_ ?_ | ((first | refine kg (List_sp (p :: l) (by omega) (by simp; omega) _ _) rfl hΘ ?_ | refine kg (Of_sp (listB (p :: l)) (by omega) _ _) rfl hΘ ?_ | refine rga hG (by kernel_rfl) (fun Θ K hΘ hK => ?_) | refine rgb hG (by kernel_rfl) (fun Θ K hΘ hK => ?_)); simp (maxSteps := 2000000) only [go_sem, seval, reduceCtorEq, List.append_eq, e1]) | ((first | refine Post.splitN (fun gg => ?_) (fun gg => ?_) | refine Post.split (fun gg => ?_) (fun gg => ?_)) <;> simp (maxSteps := 2000000) only [go_sem, seval, reduceCtorEq, List.append_eq, gg, e1]) | (refine finR (by simp only [go_sem, seval, reduceCtorEq, List.append_eq, e1]; exact rfl) ?_; simp only [go_sem, seval, reduceCtorEq, List.append_eq, e1]) | refine updL hM ?_ (by omega) | (with_reducible exact fun _ _ => rfl))
  all_goals (first | omega | (simp only [decide_eq_true_eq, decide_eq_false_iff_not] at *; omega) | (simp only [List.length_append, List.length_cons, List.length_nil] <;> omega) | exact one_bv _ | exact one_sv _ | skip)
  all_goals rfl
end Go.VL

set_option linter.unusedVariables false
set_option linter.unusedSimpArgs false
set_option maxRecDepth 100000
set_option maxHeartbeats 8000000
open Go.RowKit
namespace Go.VL
open Go.Proofs
theorem Cut_sp (d : Id32) : Rt 62 [.agg (bv d.1)] (.agg (bv (cutE d).1)) := by
  intro M mn
  refine fnL (C := kc 6 [] []) (rs := [.cell 2 31]) envOk Tryd.func62 (by kernel_rfl) rfl rfl rfl rfl rfl rfl (lowAgg (FlatS.bv _)) ?_
  intro E hG hM
  repeat' (first | (with_reducible first | refine pa ?_ | refine pb ?_ | refine pc ?_ | refine nxt_n ?_ | refine nxt_e ?_ | refine nxt_r ?_ | refine blk_n ?_ | refine blk_r ?_ | refine blk_hit ?_ | refine blk_miss (by rfl) ?_ | refine pd ?_ | refine pe ?_ | refine pf ?_ | refine pg ?_ | apply And.intro) | (refine hK _ ?_; clear hK K hΘ Θ) | (with_reducible first | refine cw1 ?_ | refine cw2 ?_ | exact cw3 | exact cw4) | ((with_reducible first | refine cw5 (fun gg => ?_) | refine cw6 (fun gg => ?_) | refine cw7 (fun gg => ?_)); try simp only [gg]) | refine cs1 hG rfl ?_ ?_ | refine cs2 hG rfl ?_ ?_ | ((first | refine rga hG (by kernel_rfl) (fun Θ K hΘ hK => ?_) | refine rgb hG (by kernel_rfl) (fun Θ K hΘ hK => ?_)); simp (maxSteps := 2000000) only [go_sem, seval, reduceCtorEq, cut_take]) | ((first | refine Post.splitN (fun gg => ?_) (fun gg => ?_) | refine Post.split (fun gg => ?_) (fun gg => ?_)) <;> simp (maxSteps := 2000000) only [go_sem, seval, reduceCtorEq, gg, cut_take]) | (refine finR (by simp only [go_sem, seval, reduceCtorEq, cut_take]; exact rfl) ?_; simp only [go_sem, seval, reduceCtorEq, cut_take]) | refine updL hM ?_ (by omega) | (with_reducible exact fun _ _ => rfl))
  all_goals (first | omega | (simp only [decide_eq_true_eq, decide_eq_false_iff_not] at *; omega) | (simp only [List.length_append, List.length_cons, List.length_nil] <;> omega) | exact one_bv _ | exact one_sv _ | skip)
end Go.VL

set_option linter.unusedVariables false
set_option linter.unusedSimpArgs false
set_option maxRecDepth 100000
set_option maxHeartbeats 8000000
open Go.RowKit
namespace Go.VL
open Go.Proofs
theorem text_sp (p : Pl) (hp : inR p.index ∧ inR p.chain) : Rt 119 [.agg p.c] (.flat (.string (bs (plT p.index p.chain)))) := by
  have h1 := numB_length p.index.toNat (by have := hp.1.2; omega)
  have h2 := numB_length p.chain.toNat (by have := hp.2.2; omega)
  have a1 : p.index < 9223372036854775808 := by have := hp.1.2; omega
  have a2 : p.chain < 9223372036854775808 := by have := hp.2.2; omega
  intro M mn
  refine fnL (C := kc 10 [] []) (rs := [.tmp 2]) envOk Tryd.func119 (by kernel_rfl) rfl rfl rfl rfl rfl rfl (Low.flat _) ?_
  intro E hG hM
  repeat' (first | (with_reducible first | refine pa ?_ | refine pb ?_ | refine pc ?_ | refine nxt_n ?_ | refine nxt_e ?_ | refine nxt_r ?_ | refine blk_n ?_ | refine blk_r ?_ | refine blk_hit ?_ | refine blk_miss (by rfl) ?_ | refine pd ?_ | refine pe ?_ | refine pf ?_ | refine pg ?_ | apply And.intro) | (refine hK _ ?_; first | clear hK K hn0 hcl hΘ Θ | clear hK K hΘ Θ) | (with_reducible first | refine cw1 ?_ | refine cw2 ?_ | exact cw3 | exact cw4) | ((with_reducible first | refine cw5 (fun gg => ?_) | refine cw6 (fun gg => ?_) | refine cw7 (fun gg => ?_)); try simp only [gg]) | refine cs1 hG rfl ?_ ?_ | refine cs2 hG rfl ?_ ?_ | ((first | refine kf (fun M n => Num_sp _ (by omega) M n) rfl (by decide) cl0 hΘ hcl hn0 ?_ | refine rga hG (by kernel_rfl) (fun Θ K hΘ hK => ?_) | refine rgb hG (by kernel_rfl) (fun Θ K hΘ hK => ?_) | refine rgc defCl hG (by kernel_rfl) cl0 (by rfl) (by kernel_rfl) (fun Θ K hΘ hcl hn0 hK => ?_) | refine rgd defCl hG (by kernel_rfl) cl0 (by rfl) (by kernel_rfl) (fun Θ K hΘ hcl hn0 hK => ?_)); simp (maxSteps := 2000000) only [go_sem, seval, reduceCtorEq]) | ((first | refine Post.splitN (fun gg => ?_) (fun gg => ?_) | refine PostB.splitN (fun gg => ?_) (fun gg => ?_) | refine Post.split (fun gg => ?_) (fun gg => ?_) | refine PostB.split (fun gg => ?_) (fun gg => ?_)) <;> simp (maxSteps := 2000000) only [go_sem, seval, reduceCtorEq, gg]) | (refine finR (by simp only [go_sem, seval, reduceCtorEq]; exact rfl) ?_; simp only [go_sem, seval, reduceCtorEq]) | refine updL hM ?_ (by omega) | (with_reducible exact fun _ _ => rfl))
  all_goals (first | omega | (simp only [decide_eq_true_eq, decide_eq_false_iff_not] at *; omega) | (simp only [List.length_append, List.length_cons, List.length_nil] <;> omega) | exact one_bv _ | exact one_sv _ | skip)
  all_goals rfl
theorem plT_len (p : Pl) (hp : inR p.index ∧ inR p.chain) : (plT p.index p.chain).length ≤ 18 := by
  have h1 := numB_length p.index.toNat (by have := hp.1.2; omega)
  have h2 := numB_length p.chain.toNat (by have := hp.2.2; omega)
  rw [plT, List.length_append]; omega
theorem Walk_sp (x : Id16) (p : Pl) (hp : inR p.index ∧ inR p.chain) (s t : Int) (hs : inR s) (ht : inR t) : Rt 93 [.agg (bv x.1), .agg p.c, .flat (.int .i64 s), .flat (.int .i64 t)] (.agg (bv (walkE x p.index p.chain s t).1)) := by
  obtain ⟨m, hm⟩ : ∃ m : Nat, (if (0 : Int) > s then 0 else s) = (m : Int) := ⟨(max s 0).toNat, by split <;> omega⟩
  obtain ⟨T, hT, hT15⟩ : ∃ T : Int, (if (15 : Int) < t then 15 else t) = T ∧ T ≤ 15 := ⟨_, rfl, by split <;> omega⟩
  have hms : m = (max s 0).toNat := by split at hm <;> omega
  have hTs : T = min t 15 := by split at hT <;> omega
  have hmb : m < 9223372036854775808 := by have := hs.2; omega
  have hpl := plT_len p hp
  intro M mn
  refine fnL (C := kc 28 [] []) (rs := [.cell 8 31]) envOk Tryd.func93 (by kernel_rfl) rfl rfl rfl rfl rfl rfl (lowAgg (FlatS.bv _)) ?_
  intro E hG hM
  repeat' (first | (with_reducible first | refine pa ?_ | refine pb ?_ | refine pc ?_ | refine nxt_n ?_ | refine nxt_e ?_ | refine nxt_r ?_ | refine blk_n ?_ | refine blk_r ?_ | refine blk_hit ?_ | refine blk_miss (by rfl) ?_ | refine pd ?_ | refine pe ?_ | refine pf ?_ | refine pg ?_ | apply And.intro) | (refine hK _ ?_; first | clear hK K hn0 hcl hΘ Θ | clear hK K hΘ Θ) | (with_reducible first | refine cw1 ?_ | refine cw2 ?_ | exact cw3 | exact cw4) | ((with_reducible first | refine cw5 (fun gg => ?_) | refine cw6 (fun gg => ?_) | refine cw7 (fun gg => ?_)); try simp only [gg]) | refine cs1 hG rfl ?_ ?_ | refine cs2 hG rfl ?_ ?_ | ((first | refine rga hG (by kernel_rfl) (fun Θ K hΘ hK => ?_) | refine rgb hG (by kernel_rfl) (fun Θ K hΘ hK => ?_) | refine rgc defCl hG (by kernel_rfl) cl0 (by rfl) (by kernel_rfl) (fun Θ K hΘ hcl hn0 hK => ?_) | refine rgd defCl hG (by kernel_rfl) cl0 (by rfl) (by kernel_rfl) (fun Θ K hΘ hcl hn0 hK => ?_)); simp (maxSteps := 2000000) only [go_sem, seval, reduceCtorEq, hm]) | ((first | refine Post.splitN (fun gg => ?_) (fun gg => ?_) | refine PostB.splitN (fun gg => ?_) (fun gg => ?_) | refine Post.split (fun gg => ?_) (fun gg => ?_) | refine PostB.split (fun gg => ?_) (fun gg => ?_)) <;> simp (maxSteps := 2000000) only [go_sem, seval, reduceCtorEq, gg, hm]) | (refine finR (by simp only [go_sem, seval, reduceCtorEq, hm]; exact rfl) ?_; simp only [go_sem, seval, reduceCtorEq, hm]) | refine updL hM ?_ (by omega) | (with_reducible exact fun _ _ => rfl))
  all_goals (first | omega | (simp only [decide_eq_true_eq, decide_eq_false_iff_not] at *; omega) | (simp only [List.length_append, List.length_cons, List.length_nil] <;> omega) | exact one_bv _ | exact one_sv _ | skip)
  refine WC.loopA (fun q : Nat × Id16 => ⟨[(9, .flat (.int .i64 q.1)), (8, .bp (mn + 1 + 1) 0), (5, .bp (mn + 1) 0), (4, .bp mn 0), (3, .flat (.int .i64 t))], upd (upd (upd M mn (some (bv q.2.1))) (mn + 1) (some p.c)) (mn + 1 + 1) (some (bv z16.1)), mn + 1 + 1 + 1⟩) (fun q => (T - q.1).toNat) (fun q => q.1 < 9223372036854775808 ∧ walkN p.index p.chain (T - q.1).toNat q.1 q.2 = walkE x p.index p.chain s t) (m, x) ⟨hmb, by simp only; rw [walkE, hms, hTs]; congr 1; omega⟩ (sbs (by simp (maxSteps := 2000000) only [go_sem, seval, reduceCtorEq, List.append_eq]) rfl rfl) ?_
  rintro ⟨i, y⟩ ⟨hi, hy⟩
  simp only at hi hy ⊢
  by_cases h : (i : Int) < T
  · have f1 := eq_true h
    have v1 := wi1 (n := i) (by omega)
    have hy2 := y.2
    have h3 : total [y.1, numB i, plT p.index p.chain] ≤ 100 := by
      have := numB_length i (by omega)
      simp only [total, List.map_cons, List.map_nil, List.sum_cons, List.sum_nil]; omega
    have f16 : (bv y.1).take 16 = bv y.1 := by rw [bv_take, List.take_of_length_le (by omega)]
    have hsw : ∀ (a b c d : Option (List V)), upd (upd (upd (upd M mn a) (mn + 1) b) (mn + 1 + 1) c) mn d = upd (upd (upd M mn d) (mn + 1) b) (mn + 1 + 1) c := fun a b c d => by
      rw [upd_swap (by omega), upd_swap (M := upd M mn a) (by omega), upd_upd]
    have hst : cutE (shaSum [115] [y.1, numB i, plT p.index p.chain]) = stepE y p.index p.chain i := rfl
    repeat' (first | (with_reducible first | refine pa ?_ | refine pb ?_ | refine pc ?_ | refine nxt_n ?_ | refine nxt_e ?_ | refine nxt_r ?_ | refine blk_n ?_ | refine blk_r ?_ | refine blk_hit ?_ | refine blk_miss (by rfl) ?_ | refine pd ?_ | refine pe ?_ | refine pf ?_ | refine pg ?_ | apply And.intro) | (refine hK _ ?_; first | clear hK K hn0 hcl hΘ Θ | clear hK K hΘ Θ) | (with_reducible first | refine cw1 ?_ | refine cw2 ?_ | exact cw3 | exact cw4) | ((with_reducible first | refine cw5 (fun gg => ?_) | refine cw6 (fun gg => ?_) | refine cw7 (fun gg => ?_)); try simp only [gg]) | refine cs1 hG rfl ?_ ?_ | refine cs2 hG rfl ?_ ?_ | ((first | refine kf (fun M n => Num_sp _ (by omega) M n) rfl (by decide) cl0 hΘ hcl hn0 ?_ | refine kf (fun M n => text_sp p hp M n) rfl (by decide) cl0 hΘ hcl hn0 ?_ | refine kf (fun M n => Sum_sp [115] [y.1, numB i, plT p.index p.chain] (by simp) (by omega) (by simp) M n) rfl (by decide) cl0 hΘ hcl hn0 ?_ | refine kf (fun M n => Cut_sp (shaSum [115] [y.1, numB i, plT p.index p.chain]) M n) rfl (by decide) cl0 hΘ hcl hn0 ?_ | refine rga hG (by kernel_rfl) (fun Θ K hΘ hK => ?_) | refine rgb hG (by kernel_rfl) (fun Θ K hΘ hK => ?_) | refine rgc defCl hG (by kernel_rfl) cl0 (by rfl) (by kernel_rfl) (fun Θ K hΘ hcl hn0 hK => ?_) | refine rgd defCl hG (by kernel_rfl) cl0 (by rfl) (by kernel_rfl) (fun Θ K hΘ hcl hn0 hK => ?_)); simp (maxSteps := 2000000) only [go_sem, seval, reduceCtorEq, hT, f1, v1, f16, hsw, hst, Int.toNat_natCast]) | ((first | refine Post.splitN (fun gg => ?_) (fun gg => ?_) | refine PostB.splitN (fun gg => ?_) (fun gg => ?_) | refine Post.split (fun gg => ?_) (fun gg => ?_) | refine PostB.split (fun gg => ?_) (fun gg => ?_)) <;> simp (maxSteps := 2000000) only [go_sem, seval, reduceCtorEq, gg, hT, f1, v1, f16, hsw, hst, Int.toNat_natCast]) | (refine finR (by simp only [go_sem, seval, reduceCtorEq, hT, f1, v1, f16, hsw, hst, Int.toNat_natCast]; exact rfl) ?_; simp only [go_sem, seval, reduceCtorEq, hT, f1, v1, f16, hsw, hst, Int.toNat_natCast]) | refine updL hM ?_ (by omega) | (with_reducible exact fun _ _ => rfl))
    all_goals (first | omega | (simp only [decide_eq_true_eq, decide_eq_false_iff_not] at *; omega) | (simp only [List.length_append, List.length_cons, List.length_nil] <;> omega) | exact one_bv _ | exact one_sv _ | skip)
    refine ⟨(i + 1, stepE y p.index p.chain i), ⟨by simp only; omega, ?_⟩, by simp only; omega, (sbs (by simp (maxSteps := 2000000) only [go_sem, seval, reduceCtorEq, List.append_eq]) rfl rfl)⟩
    simp only
    rw [← hy, show (T - i).toNat = (T - ((i + 1 : Nat) : Int)).toNat + 1 by omega]; rfl
  · have f1 := eq_false h
    have hy : y = walkE x p.index p.chain s t := by rw [← hy, show (T - i).toNat = 0 by omega]; rfl
    rw [← hy]
    repeat' (first | (with_reducible first | refine pa ?_ | refine pb ?_ | refine pc ?_ | refine nxt_n ?_ | refine nxt_e ?_ | refine nxt_r ?_ | refine blk_n ?_ | refine blk_r ?_ | refine blk_hit ?_ | refine blk_miss (by rfl) ?_ | refine pd ?_ | refine pe ?_ | refine pf ?_ | refine pg ?_ | apply And.intro) | (refine hK _ ?_; first | clear hK K hn0 hcl hΘ Θ | clear hK K hΘ Θ) | (with_reducible first | refine cw1 ?_ | refine cw2 ?_ | exact cw3 | exact cw4) | ((with_reducible first | refine cw5 (fun gg => ?_) | refine cw6 (fun gg => ?_) | refine cw7 (fun gg => ?_)); try simp only [gg]) | refine cs1 hG rfl ?_ ?_ | refine cs2 hG rfl ?_ ?_ | ((first | refine rga hG (by kernel_rfl) (fun Θ K hΘ hK => ?_) | refine rgb hG (by kernel_rfl) (fun Θ K hΘ hK => ?_) | refine rgc defCl hG (by kernel_rfl) cl0 (by rfl) (by kernel_rfl) (fun Θ K hΘ hcl hn0 hK => ?_) | refine rgd defCl hG (by kernel_rfl) cl0 (by rfl) (by kernel_rfl) (fun Θ K hΘ hcl hn0 hK => ?_)); simp (maxSteps := 2000000) only [go_sem, seval, reduceCtorEq, hT, f1]) | ((first | refine Post.splitN (fun gg => ?_) (fun gg => ?_) | refine PostB.splitN (fun gg => ?_) (fun gg => ?_) | refine Post.split (fun gg => ?_) (fun gg => ?_) | refine PostB.split (fun gg => ?_) (fun gg => ?_)) <;> simp (maxSteps := 2000000) only [go_sem, seval, reduceCtorEq, gg, hT, f1]) | (refine finR (by simp only [go_sem, seval, reduceCtorEq, hT, f1]; exact rfl) ?_; simp only [go_sem, seval, reduceCtorEq, hT, f1]) | refine updL hM ?_ (by omega) | (with_reducible exact fun _ _ => rfl))
    all_goals (first | omega | (simp only [decide_eq_true_eq, decide_eq_false_iff_not] at *; omega) | (simp only [List.length_append, List.length_cons, List.length_nil] <;> omega) | exact one_bv _ | exact one_sv _ | skip)
end Go.VL

set_option linter.unusedVariables false
set_option linter.unusedSimpArgs false
set_option maxRecDepth 100000
set_option maxHeartbeats 8000000
open Go.RowKit
namespace Go.VL
open Go.Proofs
theorem Secret_sp (s : List UInt8) (hs : s.length ≤ 100000) (p : Pl) (hp : inR p.index ∧ inR p.chain) : Rt 94 [.flat (.string (bs s)), .agg p.c] (.agg (bv (secE s p.index p.chain).1)) := by
  have h1 := numB_length p.index.toNat (by have := hp.1.2; omega)
  have h2 := numB_length p.chain.toNat (by have := hp.2.2; omega)
  have a1 : p.index < 9223372036854775808 := by have := hp.1.2; omega
  have a2 : p.chain < 9223372036854775808 := by have := hp.2.2; omega
  have ht : total [s, numB p.index.toNat, numB p.chain.toNat] ≤ 100100 := by
    simp only [total, List.map_cons, List.map_nil, List.sum_cons, List.sum_nil]; omega
  have hst : cutE (shaSum [107] [s, numB p.index.toNat, numB p.chain.toNat]) = secE s p.index p.chain := rfl
  intro M mn
  refine fnL (C := kc 15 [] []) (rs := [.cell 4 31]) envOk Tryd.func94 (by kernel_rfl) rfl rfl rfl rfl rfl rfl (lowAgg (FlatS.bv _)) ?_
  intro E hG hM
  repeat' (first | (with_reducible first | refine pa ?_ | refine pb ?_ | refine pc ?_ | refine nxt_n ?_ | refine nxt_e ?_ | refine nxt_r ?_ | refine blk_n ?_ | refine blk_r ?_ | refine blk_hit ?_ | refine blk_miss (by rfl) ?_ | refine pd ?_ | refine pe ?_ | refine pf ?_ | refine pg ?_ | apply And.intro) | (refine hK _ ?_; first | clear hK K hn0 hcl hΘ Θ | clear hK K hΘ Θ) | (with_reducible first | refine cw1 ?_ | refine cw2 ?_ | exact cw3 | exact cw4) | ((with_reducible first | refine cw5 (fun gg => ?_) | refine cw6 (fun gg => ?_) | refine cw7 (fun gg => ?_)); try simp only [gg]) | refine cs1 hG rfl ?_ ?_ | refine cs2 hG rfl ?_ ?_ | ((first | refine kf (fun M n => Num_sp p.index a1 M n) rfl (by decide) cl0 hΘ hcl hn0 ?_ | refine kf (fun M n => Num_sp p.chain a2 M n) rfl (by decide) cl0 hΘ hcl hn0 ?_ | refine kf (fun M n => Sum_sp [107] [s, numB p.index.toNat, numB p.chain.toNat] (by simp) (by omega) (by simp) M n) rfl (by decide) cl0 hΘ hcl hn0 ?_ | refine kf (fun M n => Cut_sp (shaSum [107] [s, numB p.index.toNat, numB p.chain.toNat]) M n) rfl (by decide) cl0 hΘ hcl hn0 ?_ | refine rga hG (by kernel_rfl) (fun Θ K hΘ hK => ?_) | refine rgb hG (by kernel_rfl) (fun Θ K hΘ hK => ?_) | refine rgc defCl hG (by kernel_rfl) cl0 (by rfl) (by kernel_rfl) (fun Θ K hΘ hcl hn0 hK => ?_) | refine rgd defCl hG (by kernel_rfl) cl0 (by rfl) (by kernel_rfl) (fun Θ K hΘ hcl hn0 hK => ?_)); simp (maxSteps := 2000000) only [go_sem, seval, reduceCtorEq, hst]) | ((first | refine Post.splitN (fun gg => ?_) (fun gg => ?_) | refine PostB.splitN (fun gg => ?_) (fun gg => ?_) | refine Post.split (fun gg => ?_) (fun gg => ?_) | refine PostB.split (fun gg => ?_) (fun gg => ?_)) <;> simp (maxSteps := 2000000) only [go_sem, seval, reduceCtorEq, gg, hst]) | (refine finR (by simp only [go_sem, seval, reduceCtorEq, hst]; exact rfl) ?_; simp only [go_sem, seval, reduceCtorEq, hst]) | refine updL hM ?_ (by omega) | (with_reducible exact fun _ _ => rfl))
  all_goals (first | omega | (simp only [decide_eq_true_eq, decide_eq_false_iff_not] at *; omega) | (simp only [List.length_append, List.length_cons, List.length_nil] <;> omega) | exact one_bv _ | exact one_sv _ | skip)
theorem leaf_sp (e : List UInt8) (he : e.length ≤ 100000) (ix : Int) (hix : inR ix) : Rt 95 [.sl false 1 e.length (bv e), .flat (.int .i64 ix)] (.agg (bv (leafE e ix).1)) := by
  have h1 := numB_length ix.toNat (by have := hix.2; omega)
  have a1 : ix < 9223372036854775808 := by have := hix.2; omega
  have ht : total [e, numB ix.toNat] ≤ 100100 := by
    simp only [total, List.map_cons, List.map_nil, List.sum_cons, List.sum_nil]; omega
  have hst : cutE (shaSum [108] [e, numB ix.toNat]) = leafE e ix := rfl
  intro M mn
  refine fnL (C := kc 12 [] []) (rs := [.cell 4 31]) envOk Tryd.func95 (by kernel_rfl) rfl rfl rfl rfl rfl rfl (lowAgg (FlatS.bv _)) ?_
  intro E hG hM
  repeat' (first | (with_reducible first | refine pa ?_ | refine pb ?_ | refine pc ?_ | refine nxt_n ?_ | refine nxt_e ?_ | refine nxt_r ?_ | refine blk_n ?_ | refine blk_r ?_ | refine blk_hit ?_ | refine blk_miss (by rfl) ?_ | refine pd ?_ | refine pe ?_ | refine pf ?_ | refine pg ?_ | apply And.intro) | (refine hK _ ?_; first | clear hK K hn0 hcl hΘ Θ | clear hK K hΘ Θ) | (with_reducible first | refine cw1 ?_ | refine cw2 ?_ | exact cw3 | exact cw4) | ((with_reducible first | refine cw5 (fun gg => ?_) | refine cw6 (fun gg => ?_) | refine cw7 (fun gg => ?_)); try simp only [gg]) | refine cs1 hG rfl ?_ ?_ | refine cs2 hG rfl ?_ ?_ | ((first | refine kf (fun M n => Num_sp ix a1 M n) rfl (by decide) cl0 hΘ hcl hn0 ?_ | refine kf (fun M n => Sum_sp [108] [e, numB ix.toNat] (by simp) (by omega) (by simp) M n) rfl (by decide) cl0 hΘ hcl hn0 ?_ | refine kf (fun M n => Cut_sp (shaSum [108] [e, numB ix.toNat]) M n) rfl (by decide) cl0 hΘ hcl hn0 ?_ | refine rga hG (by kernel_rfl) (fun Θ K hΘ hK => ?_) | refine rgb hG (by kernel_rfl) (fun Θ K hΘ hK => ?_) | refine rgc defCl hG (by kernel_rfl) cl0 (by rfl) (by kernel_rfl) (fun Θ K hΘ hcl hn0 hK => ?_) | refine rgd defCl hG (by kernel_rfl) cl0 (by rfl) (by kernel_rfl) (fun Θ K hΘ hcl hn0 hK => ?_)); simp (maxSteps := 2000000) only [go_sem, seval, reduceCtorEq, hst]) | ((first | refine Post.splitN (fun gg => ?_) (fun gg => ?_) | refine PostB.splitN (fun gg => ?_) (fun gg => ?_) | refine Post.split (fun gg => ?_) (fun gg => ?_) | refine PostB.split (fun gg => ?_) (fun gg => ?_)) <;> simp (maxSteps := 2000000) only [go_sem, seval, reduceCtorEq, gg, hst]) | (refine finR (by simp only [go_sem, seval, reduceCtorEq, hst]; exact rfl) ?_; simp only [go_sem, seval, reduceCtorEq, hst]) | refine updL hM ?_ (by omega) | (with_reducible exact fun _ _ => rfl))
  all_goals (first | omega | (simp only [decide_eq_true_eq, decide_eq_false_iff_not] at *; omega) | (simp only [List.length_append, List.length_cons, List.length_nil] <;> omega) | exact one_bv _ | exact one_sv _ | skip)
theorem Leaf_sp (s : List UInt8) (hs : s.length ≤ 100000) (ix : Int) (hix : inR ix) : Rt 55 [.flat (.string (bs s)), .flat (.int .i64 ix)] (.agg (bv (keyE s ix).1)) := by
  intro M mn
  refine fnL (C := kc 27 [20] []) (rs := [.cell 4 31]) envOk Tryd.func55 (by kernel_rfl) rfl rfl rfl rfl rfl rfl (lowAgg (FlatS.bv _)) ?_
  intro E hG hM
  repeat' (first | (with_reducible first | refine pa ?_ | refine pb ?_ | refine pc ?_ | refine nxt_n ?_ | refine nxt_e ?_ | refine nxt_r ?_ | refine blk_n ?_ | refine blk_r ?_ | refine blk_hit ?_ | refine blk_miss (by rfl) ?_ | refine pd ?_ | refine pe ?_ | refine pf ?_ | refine pg ?_ | apply And.intro) | (refine hK _ ?_; first | clear hK K hn0 hcl hΘ Θ | clear hK K hΘ Θ) | (with_reducible first | refine cw1 ?_ | refine cw2 ?_ | exact cw3 | exact cw4) | ((with_reducible first | refine cw5 (fun gg => ?_) | refine cw6 (fun gg => ?_) | refine cw7 (fun gg => ?_)); try simp only [gg]) | refine cs1 hG rfl ?_ ?_ | refine cs2 hG rfl ?_ ?_ | ((first | refine rga hG (by kernel_rfl) (fun Θ K hΘ hK => ?_) | refine rgb hG (by kernel_rfl) (fun Θ K hΘ hK => ?_) | refine rgc defCl hG (by kernel_rfl) cl0 (by rfl) (by kernel_rfl) (fun Θ K hΘ hcl hn0 hK => ?_) | refine rgd defCl hG (by kernel_rfl) cl0 (by rfl) (by kernel_rfl) (fun Θ K hΘ hcl hn0 hK => ?_)); simp (maxSteps := 2000000) only [go_sem, seval, reduceCtorEq, List.append_eq]) | ((first | refine Post.splitN (fun gg => ?_) (fun gg => ?_) | refine PostB.splitN (fun gg => ?_) (fun gg => ?_) | refine Post.split (fun gg => ?_) (fun gg => ?_) | refine PostB.split (fun gg => ?_) (fun gg => ?_)) <;> simp (maxSteps := 2000000) only [go_sem, seval, reduceCtorEq, List.append_eq, gg]) | (refine finR (by simp only [go_sem, seval, reduceCtorEq, List.append_eq]; exact rfl) ?_; simp only [go_sem, seval, reduceCtorEq, List.append_eq]) | refine updL hM ?_ (by omega) | (with_reducible exact fun _ _ => rfl))
  all_goals (first | omega | (simp only [decide_eq_true_eq, decide_eq_false_iff_not] at *; omega) | (simp only [List.length_append, List.length_cons, List.length_nil] <;> omega) | exact one_bv _ | exact one_sv _ | skip)
  refine WC.loopA (fun q : Nat × Mem × Nat => ⟨[(9, .flat (.int .i64 q.1)), (5, .sl true 1 (16 * q.1) (bv (endsN (keyF s ix) q.1))), (4, .bp mn 0), (1, .flat (.int .i64 ix)), (0, .flat (.string (bs s)))], q.2.1, q.2.2⟩) (fun q => 35 - q.1) (fun q => q.1 ≤ 35 ∧ (∀ b, M b ≠ none → q.2.1 b = M b) ∧ q.2.1 mn = some (bv z16.1) ∧ mn + 1 ≤ q.2.2) (0, upd M mn (some (bv z16.1)), mn + 1) ⟨by simp only; omega, updL hM (fun _ _ => rfl) (by omega), upd_same _ _ _, Nat.le_refl _⟩ (sbs (by simp (maxSteps := 2000000) only [go_sem, seval, reduceCtorEq, List.append_eq, endsN_0]) rfl rfl) ?_
  rintro ⟨i, m, n⟩ ⟨hi, hk, h1, hn⟩
  simp only at hi hk h1 hn ⊢
  by_cases h : i < 35
  · have f1 : ((i : Int) < 35) = True := eq_true (by omega)
    have v1 := wi1 (n := i) (by omega)
    have hc : inR (i : Int) := by unfold inR; omega
    have h0 : inR (0 : Int) := by unfold inR; omega
    have h15 : inR (15 : Int) := by unfold inR; omega
    have hW := Walk_sp (secE s ix i) ⟨ix, i⟩ ⟨hix, hc⟩ 0 15 h0 h15
    have hkf : walkE (secE s ix i) ix i 0 15 = keyF s ix i := rfl
    have hel := endsN_len (keyF s ix) i
    have hel2 : (endsN (keyF s ix) (i + 1)).length = 16 * (i + 1) := endsN_len _ _
    have hA : bv (endsN (keyF s ix) i) ++ bv (keyF s ix i).1 = bv (endsN (keyF s ix) (i + 1)) := by rw [← bv_append]; rfl
    have hm16 : 16 * i + 16 = 16 * (i + 1) := by omega
    have hkt : (bv (keyF s ix i).1).take 16 = bv (keyF s ix i).1 := tk16 _
    simp only at hW
    repeat' (first | (with_reducible first | refine pa ?_ | refine pb ?_ | refine pc ?_ | refine nxt_n ?_ | refine nxt_e ?_ | refine nxt_r ?_ | refine blk_n ?_ | refine blk_r ?_ | refine blk_hit ?_ | refine blk_miss (by rfl) ?_ | refine pd ?_ | refine pe ?_ | refine pf ?_ | refine pg ?_ | apply And.intro) | (refine hK _ ?_; first | clear hK K hn0 hcl hΘ Θ | clear hK K hΘ Θ) | (with_reducible first | refine cw1 ?_ | refine cw2 ?_ | exact cw3 | exact cw4) | ((with_reducible first | refine cw5 (fun gg => ?_) | refine cw6 (fun gg => ?_) | refine cw7 (fun gg => ?_)); try simp only [gg]) | refine cs1 hG rfl ?_ ?_ | refine cs2 hG rfl ?_ ?_ | ((fail_if_success (with_reducible first | show WC _ _ _ (.region 7 _ _) _ _ | show WC _ _ _ (.seq (.region 7 _ _) _) _ _)); (first | refine kf (fun M n => Secret_sp s hs ⟨ix, i⟩ ⟨hix, hc⟩ M n) rfl (by decide) (clW_le (by rfl)) hΘ hcl hn0 ?_ | refine kf (fun M n => hW M n) rfl (by decide) (clW_le (by rfl)) hΘ hcl hn0 ?_ | refine rga hG (by kernel_rfl) (fun Θ K hΘ hK => ?_) | refine rgb hG (by kernel_rfl) (fun Θ K hΘ hK => ?_) | refine rgc (clW [(1, 4), (3, 4)] defCl) hG (by kernel_rfl) (clW_le (by rfl)) (by rfl) (by kernel_rfl) (fun Θ K hΘ hcl hn0 hK => ?_) | refine rgd (clW [(1, 4), (3, 4)] defCl) hG (by kernel_rfl) (clW_le (by rfl)) (by rfl) (by kernel_rfl) (fun Θ K hΘ hcl hn0 hK => ?_)); simp (maxSteps := 2000000) only [go_sem, seval, reduceCtorEq, List.append_eq, f1, v1, hkf]) | ((first | refine Post.splitN (fun gg => ?_) (fun gg => ?_) | refine PostB.splitN (fun gg => ?_) (fun gg => ?_) | refine Post.split (fun gg => ?_) (fun gg => ?_) | refine PostB.split (fun gg => ?_) (fun gg => ?_)) <;> simp (maxSteps := 2000000) only [go_sem, seval, reduceCtorEq, List.append_eq, gg, f1, v1, hkf]) | (refine finR (by simp only [go_sem, seval, reduceCtorEq, List.append_eq, f1, v1, hkf]; exact rfl) ?_; simp only [go_sem, seval, reduceCtorEq, List.append_eq, f1, v1, hkf]) | refine updL hM ?_ (by omega) | (with_reducible exact fun _ _ => rfl))
    all_goals (first | omega | (simp only [decide_eq_true_eq, decide_eq_false_iff_not] at *; omega) | (simp only [List.length_append, List.length_cons, List.length_nil] <;> omega) | exact one_bv _ | exact one_sv _ | skip)
    repeat' (first | (with_reducible first | refine pa ?_ | refine pb ?_ | refine pc ?_ | refine nxt_n ?_ | refine nxt_e ?_ | refine nxt_r ?_ | refine blk_n ?_ | refine blk_r ?_ | refine blk_hit ?_ | refine blk_miss (by rfl) ?_ | refine pd ?_ | refine pe ?_ | refine pf ?_ | refine pg ?_ | apply And.intro) | (refine hK _ ?_; first | clear hK K hn0 hcl hΘ Θ | clear hK K hΘ Θ) | (with_reducible first | refine cw1 ?_ | refine cw2 ?_ | exact cw3 | exact cw4) | ((with_reducible first | refine cw5 (fun gg => ?_) | refine cw6 (fun gg => ?_) | refine cw7 (fun gg => ?_)); try simp only [gg]) | refine cs1 hG rfl ?_ ?_ | refine cs2 hG rfl ?_ ?_ | ((first | refine rga hG (by kernel_rfl) (fun Θ K hΘ hK => ?_) | refine rgb hG (by kernel_rfl) (fun Θ K hΘ hK => ?_) | refine rgc defCl hG (by kernel_rfl) cl0 (by rfl) (by kernel_rfl) (fun Θ K hΘ hcl hn0 hK => ?_) | refine rgd defCl hG (by kernel_rfl) cl0 (by rfl) (by kernel_rfl) (fun Θ K hΘ hcl hn0 hK => ?_)); simp (maxSteps := 2000000) only [go_sem, seval, reduceCtorEq, List.append_eq, hkt, hA, hm16, v1]) | ((first | refine Post.splitN (fun gg => ?_) (fun gg => ?_) | refine PostB.splitN (fun gg => ?_) (fun gg => ?_) | refine Post.split (fun gg => ?_) (fun gg => ?_) | refine PostB.split (fun gg => ?_) (fun gg => ?_)) <;> simp (maxSteps := 2000000) only [go_sem, seval, reduceCtorEq, List.append_eq, gg, hkt, hA, hm16, v1]) | (refine finR (by simp only [go_sem, seval, reduceCtorEq, List.append_eq, hkt, hA, hm16, v1]; exact rfl) ?_; simp only [go_sem, seval, reduceCtorEq, List.append_eq, hkt, hA, hm16, v1]) | refine updL hM ?_ (by omega) | (with_reducible exact fun _ _ => rfl))
    all_goals (first | omega | (simp only [decide_eq_true_eq, decide_eq_false_iff_not] at *; omega) | (simp only [List.length_append, List.length_cons, List.length_nil] <;> omega) | exact one_bv _ | exact one_sv _ | skip)
    exact ⟨(i + 1, upd (upd m n (some (Pl.c ⟨ix, i⟩))) (n + 1) (some (bv (keyF s ix i).1)), n + 1 + 1), ⟨by simp only; omega, updL (fun b hb => hM b (by omega)) (updL hM hk (by omega)) (by omega), by simp only; rw [upd_ne _ _ (by omega), upd_ne _ _ (by omega)]; exact h1, by simp only; omega⟩, by simp only; omega, (sbs (by simp (maxSteps := 2000000) only [go_sem, seval, reduceCtorEq, List.append_eq]) rfl rfl)⟩
  · have f1 : ((i : Int) < 35) = False := eq_false (by omega)
    have e : i = 35 := by omega
    subst e
    have hel := endsN_len (keyF s ix) 35
    have hlf := leaf_sp (endsN (keyF s ix) 35) (by rw [hel]; omega) ix hix
    rw [hel] at hlf
    have hke : leafE (endsN (keyF s ix) 35) ix = keyE s ix := rfl
    rw [hke] at hlf
    repeat' (first | (with_reducible first | refine pa ?_ | refine pb ?_ | refine pc ?_ | refine nxt_n ?_ | refine nxt_e ?_ | refine nxt_r ?_ | refine blk_n ?_ | refine blk_r ?_ | refine blk_hit ?_ | refine blk_miss (by rfl) ?_ | refine pd ?_ | refine pe ?_ | refine pf ?_ | refine pg ?_ | apply And.intro) | (refine hK _ ?_; first | clear hK K hn0 hcl hΘ Θ | clear hK K hΘ Θ) | (with_reducible first | refine cw1 ?_ | refine cw2 ?_ | exact cw3 | exact cw4) | ((with_reducible first | refine cw5 (fun gg => ?_) | refine cw6 (fun gg => ?_) | refine cw7 (fun gg => ?_)); try simp only [gg]) | refine cs1 hG rfl ?_ ?_ | refine cs2 hG rfl ?_ ?_ | ((first | refine kg (hlf _ _) rfl hΘ ?_ | refine rga hG (by kernel_rfl) (fun Θ K hΘ hK => ?_) | refine rgb hG (by kernel_rfl) (fun Θ K hΘ hK => ?_) | refine rgc defCl hG (by kernel_rfl) cl0 (by rfl) (by kernel_rfl) (fun Θ K hΘ hcl hn0 hK => ?_) | refine rgd defCl hG (by kernel_rfl) cl0 (by rfl) (by kernel_rfl) (fun Θ K hΘ hcl hn0 hK => ?_)); simp (maxSteps := 2000000) only [go_sem, seval, reduceCtorEq, List.append_eq, f1, h1]) | ((first | refine Post.splitN (fun gg => ?_) (fun gg => ?_) | refine PostB.splitN (fun gg => ?_) (fun gg => ?_) | refine Post.split (fun gg => ?_) (fun gg => ?_) | refine PostB.split (fun gg => ?_) (fun gg => ?_)) <;> simp (maxSteps := 2000000) only [go_sem, seval, reduceCtorEq, List.append_eq, gg, f1, h1]) | (refine finR (by simp only [go_sem, seval, reduceCtorEq, List.append_eq, f1, h1]; exact rfl) ?_; simp only [go_sem, seval, reduceCtorEq, List.append_eq, f1, h1]) | refine updL hM ?_ (by omega) | (with_reducible exact fun _ _ => rfl))
    all_goals (first | omega | (simp only [decide_eq_true_eq, decide_eq_false_iff_not] at *; omega) | (simp only [List.length_append, List.length_cons, List.length_nil] <;> omega) | exact one_bv _ | exact one_sv _ | skip)


end Go.VL

set_option linter.unusedVariables false
set_option linter.unusedSimpArgs false
set_option maxRecDepth 100000
set_option maxHeartbeats 8000000
open Go.RowKit
namespace Go.VL
open Go.Proofs
end Go.VL
