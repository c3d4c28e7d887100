/- Part TLaw18 of the proof: made for this claim. -/
import Derived.Test.YtljfmgfokifooaaTMailR2
set_option linter.unusedVariables false
set_option linter.unusedSimpArgs false
set_option maxRecDepth 100000
set_option maxHeartbeats 8000000
open Go.RowKit
namespace Go.VL
open Go.Proofs
def mailK (k : Int) : Mail := ⟨k, 0, 0, 0, z32, 0, [], 0, au0, [], [], []⟩
theorem mailK_ok {k : Int} (h : inR k) : (mailK k).ok := by
  have z : inR 0 := by unfold inR; omega
  exact ⟨h, z, z, z, z, by simp [mailK], z, au0_ok, ⟨fun a h => absurd h List.not_mem_nil, by simp [mailK]⟩, ⟨fun a h => absurd h List.not_mem_nil, by simp [mailK]⟩, fun a h => absurd h List.not_mem_nil, by simp [mailK]⟩
theorem mailK_imp (k : Int) : ImpL [.agg (Ml.c ⟨k, 0, 0, 0, z32, 0, [], 0, au0, .nil, .nil, .nil⟩)] [.agg (mailK k).ml.c] :=
  ImpL.cons (Ml.imp (mailK k) .nil .nil .nil (Imp.nil _ _) (Imp.nil _ _) (Imp.nil _ _)) .nil
theorem MGood_k (k : Int) (h : inR k) : Rt 9 [.agg (Ml.c ⟨k, 0, 0, 0, z32, 0, [], 0, au0, .nil, .nil, .nil⟩)] (.flat (.bool (mailK k).good)) := fun M mn => Sp.argsI (MGood_sp (mailK k) (mailK_ok h) M mn) (mailK_imp k)
theorem MText_k (k : Int) (h : inR k) : Rt 11 [.agg (Ml.c ⟨k, 0, 0, 0, z32, 0, [], 0, au0, .nil, .nil, .nil⟩)] (.flat (.string (bs (mailK k).text))) := fun M mn => Sp.argsI (MText_sp (mailK k) (mailK_ok h) (by simp [mailK, total]) M mn) (mailK_imp k)
theorem mailK_good (k : Int) (h1 : 1 ≤ k) (h7 : k ≤ 7) : (mailK k).good = true := by
  rw [Mail.good_iff]
  exact ⟨⟨h1, h7⟩, ⟨by simp [mailK], by simp [mailK]⟩, ⟨by simp [mailK], by simp [mailK]⟩, ⟨by simp [mailK], by simp [mailK]⟩, by simp [mailK], ⟨by simp [mailK], by simp [mailK]⟩, by simp [mailK], by rw [Au.word_iff]; simp [mailK, au0], ⟨by simp [mailK], fun a h => absurd h List.not_mem_nil⟩, ⟨by simp [mailK], fun a h => absurd h List.not_mem_nil⟩, by simp [mailK]⟩
theorem mailK_bad : (mailK 8).good = false := by
  unfold Mail.good
  rw [show decide ((mailK 8).kind ≤ 7) = false from rfl, Bool.and_false]; rfl
theorem mailK_text : ((mailK 1).text.length : Int) > 50 := by
  have hg := mailK_good 1 (by omega) (by omega)
  have b0 := numB_length 0 (by omega)
  have b1 := numB_length 1 (by omega)
  have hok : inR 1 := by unfold inR; omega
  have ha := Au.text_le au0_ok 0 (by simp [au0]) (by omega)
  have e0 : listB [] = numB 0 := by simp [listB, listTail]
  have hp : (mailK 1).parts = [numB 1, numB 0, numB 0, numB 0, z32.1, numB 0, [], numB 0, au0.text, numB 0, numB 0, numB 0] := by
    simp only [Mail.parts, mailK, autsB, textsB, List.map_nil, e0]; rfl
  have hz : z32.1.length = 32 := z32.2
  have hau : au0.text.length ≥ 32 := by
    have h1 := listTail_ge au0.parts
    have h2 : total au0.parts ≥ 32 := by simp [Au.parts, total, au0, hz]; omega
    show (listB au0.parts).length ≥ 32
    rw [listB, List.length_append]; omega
  have ht : total (mailK 1).parts ≤ 1000 ∧ total (mailK 1).parts ≥ 64 := by
    rw [hp]; simp only [total, List.map_cons, List.map_nil, List.sum_cons, List.sum_nil, List.length_nil]; omega
  have hl : (mailK 1).parts.length = 12 := by rw [hp]; rfl
  have h1 := listB_le (mailK 1).parts (by omega) (by omega)
  have h2 := listTail_ge (mailK 1).parts
  have h3 : (mailK 1).bytes.length ≥ 64 := by
    show (listB (mailK 1).parts).length ≥ 64
    rw [listB, List.length_append]; omega
  have h4 : (mailK 1).bytes.length ≤ 262144 := by show (listB (mailK 1).parts).length ≤ _; omega
  unfold Mail.text
  rw [if_pos hg, if_neg (by omega)]
  omega
theorem alive18_sp : Rt 7 [] (.flat (.bool true)) := by
  have g7 := mailK_good 7 (by omega) (by omega)
  have g8 := mailK_bad
  have gt := eq_true mailK_text
  have r1 : inR 1 := by unfold inR; omega
  have r7 : inR 7 := by unfold inR; omega
  have r8 : inR 8 := by unfold inR; omega
  have e1 : ∀ k : Int, ({ kind := k, from_ := ml0.from_, to := ml0.to, seq := ml0.seq, prev := ml0.prev, mask := ml0.mask, pay := ml0.pay, other := ml0.other, auth := ml0.auth, auths := ml0.auths, ents := ml0.ents, proofs := ml0.proofs } : Ml) = ⟨k, 0, 0, 0, z32, 0, [], 0, au0, .nil, .nil, .nil⟩ := fun _ => rfl
  intro M mn
  refine fnL (C := kc 14 [] []) (rs := [.tmp 0]) envOk Try.func7 (by kernel_rfl) rfl rfl rfl rfl rfl rfl (Low.flat _) ?_
  intro E hG hM
  repeat' (first | (with_reducible first | refine pa ?_ | refine pb ?_ | refine pc ?_ | refine nxt_n ?_ | refine nxt_e ?_ | refine nxt_r ?_ | refine blk_n ?_ | refine blk_r ?_ | refine blk_hit ?_ | refine blk_miss (by rfl) ?_ | refine pd ?_ | refine pe ?_ | refine pf ?_ | refine pg ?_ | apply And.intro) | (refine hK _ ?_; clear hK K hΘ Θ) | (with_reducible first | refine cw1 ?_ | refine cw2 ?_ | exact cw3 | exact cw4) | ((with_reducible first | refine cw5 (fun gg => ?_) | refine cw6 (fun gg => ?_) | refine cw7 (fun gg => ?_)); try simp only [gg]) | refine cs1 hG rfl ?_ ?_ | refine cs2 hG rfl ?_ ?_ | ((first | refine kg (MGood_k 7 r7 _ _) rfl hΘ ?_ | refine kg (MGood_k 8 r8 _ _) rfl hΘ ?_ | refine kg (MText_k 1 r1 _ _) rfl hΘ ?_ | refine rga hG (by kernel_rfl) (fun Θ K hΘ hK => ?_) | refine rgb hG (by kernel_rfl) (fun Θ K hΘ hK => ?_)); simp (maxSteps := 2000000) only [go_sem, seval, reduceCtorEq, e1, g7, g8, gt]) | ((first | refine Post.splitN (fun gg => ?_) (fun gg => ?_) | refine Post.split (fun gg => ?_) (fun gg => ?_)) <;> simp (maxSteps := 2000000) only [go_sem, seval, reduceCtorEq, gg, e1, g7, g8, gt]) | (refine finR (by simp only [go_sem, seval, reduceCtorEq, e1, g7, g8, gt]; exact rfl) ?_; simp only [go_sem, seval, reduceCtorEq, e1, g7, g8, gt]) | refine updL hM ?_ (by omega) | (with_reducible exact fun _ _ => rfl))
  all_goals (first | omega | (simp only [decide_eq_true_eq, decide_eq_false_iff_not] at *; omega) | (simp only [List.length_append, List.length_cons, List.length_nil] <;> omega) | exact one_bv _ | exact one_sv _ | skip)
end Go.VL
