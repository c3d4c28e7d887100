/- Part FB of the proof: made for this claim. -/
import Derived.Test.YtbceglggojnnaaaDoorFA
import Derived.Test.YtbceglggojnnaaaDoorVLc
set_option linter.unusedVariables false
set_option linter.unusedSimpArgs false
set_option maxRecDepth 100000
set_option maxHeartbeats 4000000
open Go.RowKit
namespace Go.VL
theorem whole_back {s : List UInt8} (h : wholeOk s = true) : s = numB (wholeN s).toNat := by
  unfold wholeOk at h
  unfold wholeN
  cases hb : isBig s with
  | true =>
    rw [hb] at h
    have : rNum s true = (0, ([], true)) := by simp [rNum, rTake]
    rw [this] at h
    simp [rEnd] at h
  | false =>
    rw [hb] at h
    have hr := @rNum_back s
    generalize rNum s false = A at *
    obtain ⟨n, r, f⟩ := A
    have h0 := of_decide_eq_true h
    simp only [rEnd] at h0
    have h2 : ¬ (f = true ∨ r ≠ []) := fun q => by rw [if_pos q] at h0; omega
    have h3 : f = false := by cases f <;> simp_all
    have h4 : r = [] := Classical.byContradiction fun q => h2 (.inr q)
    subst h3 h4
    have := hr rfl
    rw [List.append_nil] at this
    simpa using this
theorem wholeN_lt (s : List UInt8) : wholeN s < 9223372036854775808 := by
  unfold wholeN
  have := rNum_lt s (isBig s)
  omega
theorem wholeN_inR (s : List UInt8) : inR (wholeN s) := by
  have := wholeN_lt s
  have := wholeN_range s
  unfold inR; omega
theorem numT_inR (s : List UInt8) : inR (numT s) := by
  unfold numT
  split
  · exact wholeN_inR s
  · unfold inR; omega
theorem numT_back {s : List UInt8} (h : 0 ≤ numT s) : s = numB (numT s).toNat := by
  unfold numT at *
  split at h
  · rename_i hw
    rw [if_pos hw]
    exact whole_back hw
  · omega
theorem list4 {α : Type} {l : List α} (h : l.length = 4) : ∃ a b c d, l = [a, b, c, d] := by
  match l, h with
  | [a, b, c, d], _ => exact ⟨a, b, c, d, rfl⟩
theorem dr0_ok : dr0.ok := by unfold Dr.ok inR; simp [dr0]
def entK (k : Int) : Ent := { ent0 with kind := k }
def shE (l : List (List UInt8)) : Ent × Bool :=
  if numT (l.getD 0 []) = 1 ∧ l.length = 2 then ({ entK 1 with d := (rdDrG (l.getD 1 [])).1 }, decide ((rdDrG (l.getD 1 [])).2 = 0))
  else if h : numT (l.getD 0 []) = 2 ∧ l.length = 7 ∧ (l.getD 3 []).length = 32 then
    ({ entK 2 with from_ := numT (l.getD 1 []), seq := numT (l.getD 2 []), prev := ⟨l.getD 3 [], h.2.2⟩, mask := numT (l.getD 4 []), pay := l.getD 5 [], sig := l.getD 6 [] },
      ({ entK 2 with from_ := numT (l.getD 1 []), seq := numT (l.getD 2 []), prev := ⟨l.getD 3 [], h.2.2⟩, mask := numT (l.getD 4 []), pay := l.getD 5 [], sig := l.getD 6 [] } : Ent).good)
  else if numT (l.getD 0 []) = 3 ∧ l.length = 3 then ({ entK 3 with mask := numT (l.getD 1 []), pay := l.getD 2 [] }, ({ entK 3 with mask := numT (l.getD 1 []), pay := l.getD 2 [] } : Ent).good)
  else (entK (numT (l.getD 0 [])), false)
def rdE (s : List UInt8) : Ent × Bool := if sE s = 0 ∧ (sR s).length ≠ 0 ∧ (shE (sR s)).2 = true then ((shE (sR s)).1, true) else (ent0, false)
def rdAll (s : List UInt8) : List Ent × Bool := if sE s = 0 ∧ ∀ t ∈ sR s, (rdE t).2 = true then ((sR s).map fun t => (rdE t).1, true) else ([], false)
end Go.VL

set_option linter.unusedVariables false
set_option linter.unusedSimpArgs false
namespace Go.VL

structure Ml where
  kind : Int
  from_ : Int
  to : Int
  seq : Int
  prev : Id32
  mask : Int
  pay : List UInt8
  other : Int
  auth : Au
  auths : V
  ents : V
  proofs : V
def Ml.c (o : Ml) : List V := [.flat (.int .i64 o.kind)] ++ ([.flat (.int .i64 o.from_)] ++ ([.flat (.int .i64 o.to)] ++ ([.flat (.int .i64 o.seq)] ++ (bv o.prev.1 ++ ([.flat (.int .i64 o.mask)] ++ ([.flat (.string (bs o.pay))] ++ ([.flat (.int .i64 o.other)] ++ (o.auth.c ++ ([o.auths] ++ ([o.ents] ++ ([o.proofs])))))))))))
theorem Ml.c_len (o : Ml) : o.c.length = 77 := by
  simp [Ml.c, Au.c_len, bv_length, o.prev.2]
theorem Ml.tk (o : Ml) : o.c.take 77 = o.c := List.take_of_length_le (by rw [Ml.c_len]; omega)
theorem Ml.wh (o p : Ml) : putV o.c 0 p.c = p.c := putV_all (by rw [Ml.c_len, Ml.c_len])
theorem Ml.split0 (o : Ml) : o.c = ([]) ++ (([.flat (.int .i64 o.kind)]) ++ ([.flat (.int .i64 o.from_)] ++ ([.flat (.int .i64 o.to)] ++ ([.flat (.int .i64 o.seq)] ++ (bv o.prev.1 ++ ([.flat (.int .i64 o.mask)] ++ ([.flat (.string (bs o.pay))] ++ ([.flat (.int .i64 o.other)] ++ (o.auth.c ++ ([o.auths] ++ ([o.ents] ++ ([o.proofs])))))))))))) := by simp [Ml.c]
theorem Ml.r0 (o : Ml) : o.c.getD 0 .unk = .flat (.int .i64 o.kind) := by
  have := getD_mid ([]) (.flat (.int .i64 o.kind)) ([.flat (.int .i64 o.from_)] ++ ([.flat (.int .i64 o.to)] ++ ([.flat (.int .i64 o.seq)] ++ (bv o.prev.1 ++ ([.flat (.int .i64 o.mask)] ++ ([.flat (.string (bs o.pay))] ++ ([.flat (.int .i64 o.other)] ++ (o.auth.c ++ ([o.auths] ++ ([o.ents] ++ ([o.proofs]))))))))))) 0 (by simp [Au.c_len, bv_length])
  rw [← Ml.split0] at this; simpa using this
theorem Ml.w0 (o : Ml) (x : Int) : putV o.c 0 ([.flat (.int .i64 x)]) = ({ o with kind := x } : Ml).c := by
  have := putV_mid ([]) ([.flat (.int .i64 o.kind)]) ([.flat (.int .i64 o.from_)] ++ ([.flat (.int .i64 o.to)] ++ ([.flat (.int .i64 o.seq)] ++ (bv o.prev.1 ++ ([.flat (.int .i64 o.mask)] ++ ([.flat (.string (bs o.pay))] ++ ([.flat (.int .i64 o.other)] ++ (o.auth.c ++ ([o.auths] ++ ([o.ents] ++ ([o.proofs]))))))))))) ([.flat (.int .i64 x)]) 0 (by simp [Au.c_len, bv_length]) (by rw [show ([.flat (.int .i64 x)] : List V).length = 1 from by simp [Au.c_len, bv_length], show ([.flat (.int .i64 o.kind)] : List V).length = 1 from by simp [Au.c_len, bv_length]])
  rw [← Ml.split0] at this; rw [this]; simp [Ml.c]
theorem Ml.split1 (o : Ml) : o.c = ([.flat (.int .i64 o.kind)]) ++ (([.flat (.int .i64 o.from_)]) ++ ([.flat (.int .i64 o.to)] ++ ([.flat (.int .i64 o.seq)] ++ (bv o.prev.1 ++ ([.flat (.int .i64 o.mask)] ++ ([.flat (.string (bs o.pay))] ++ ([.flat (.int .i64 o.other)] ++ (o.auth.c ++ ([o.auths] ++ ([o.ents] ++ ([o.proofs]))))))))))) := by simp [Ml.c]
theorem Ml.r1 (o : Ml) : o.c.getD 1 .unk = .flat (.int .i64 o.from_) := by
  have := getD_mid ([.flat (.int .i64 o.kind)]) (.flat (.int .i64 o.from_)) ([.flat (.int .i64 o.to)] ++ ([.flat (.int .i64 o.seq)] ++ (bv o.prev.1 ++ ([.flat (.int .i64 o.mask)] ++ ([.flat (.string (bs o.pay))] ++ ([.flat (.int .i64 o.other)] ++ (o.auth.c ++ ([o.auths] ++ ([o.ents] ++ ([o.proofs])))))))))) 1 (by simp [Au.c_len, bv_length])
  rw [← Ml.split1] at this; simpa using this
theorem Ml.w1 (o : Ml) (x : Int) : putV o.c 1 ([.flat (.int .i64 x)]) = ({ o with from_ := x } : Ml).c := by
  have := putV_mid ([.flat (.int .i64 o.kind)]) ([.flat (.int .i64 o.from_)]) ([.flat (.int .i64 o.to)] ++ ([.flat (.int .i64 o.seq)] ++ (bv o.prev.1 ++ ([.flat (.int .i64 o.mask)] ++ ([.flat (.string (bs o.pay))] ++ ([.flat (.int .i64 o.other)] ++ (o.auth.c ++ ([o.auths] ++ ([o.ents] ++ ([o.proofs])))))))))) ([.flat (.int .i64 x)]) 1 (by simp [Au.c_len, bv_length]) (by rw [show ([.flat (.int .i64 x)] : List V).length = 1 from by simp [Au.c_len, bv_length], show ([.flat (.int .i64 o.from_)] : List V).length = 1 from by simp [Au.c_len, bv_length]])
  rw [← Ml.split1] at this; rw [this]; simp [Ml.c]
theorem Ml.split2 (o : Ml) : o.c = ([.flat (.int .i64 o.kind)] ++ [.flat (.int .i64 o.from_)]) ++ (([.flat (.int .i64 o.to)]) ++ ([.flat (.int .i64 o.seq)] ++ (bv o.prev.1 ++ ([.flat (.int .i64 o.mask)] ++ ([.flat (.string (bs o.pay))] ++ ([.flat (.int .i64 o.other)] ++ (o.auth.c ++ ([o.auths] ++ ([o.ents] ++ ([o.proofs])))))))))) := by simp [Ml.c]
theorem Ml.r2 (o : Ml) : o.c.getD 2 .unk = .flat (.int .i64 o.to) := by
  have := getD_mid ([.flat (.int .i64 o.kind)] ++ [.flat (.int .i64 o.from_)]) (.flat (.int .i64 o.to)) ([.flat (.int .i64 o.seq)] ++ (bv o.prev.1 ++ ([.flat (.int .i64 o.mask)] ++ ([.flat (.string (bs o.pay))] ++ ([.flat (.int .i64 o.other)] ++ (o.auth.c ++ ([o.auths] ++ ([o.ents] ++ ([o.proofs]))))))))) 2 (by simp [Au.c_len, bv_length])
  rw [← Ml.split2] at this; simpa using this
theorem Ml.w2 (o : Ml) (x : Int) : putV o.c 2 ([.flat (.int .i64 x)]) = ({ o with to := x } : Ml).c := by
  have := putV_mid ([.flat (.int .i64 o.kind)] ++ [.flat (.int .i64 o.from_)]) ([.flat (.int .i64 o.to)]) ([.flat (.int .i64 o.seq)] ++ (bv o.prev.1 ++ ([.flat (.int .i64 o.mask)] ++ ([.flat (.string (bs o.pay))] ++ ([.flat (.int .i64 o.other)] ++ (o.auth.c ++ ([o.auths] ++ ([o.ents] ++ ([o.proofs]))))))))) ([.flat (.int .i64 x)]) 2 (by simp [Au.c_len, bv_length]) (by rw [show ([.flat (.int .i64 x)] : List V).length = 1 from by simp [Au.c_len, bv_length], show ([.flat (.int .i64 o.to)] : List V).length = 1 from by simp [Au.c_len, bv_length]])
  rw [← Ml.split2] at this; rw [this]; simp [Ml.c]
theorem Ml.split3 (o : Ml) : o.c = ([.flat (.int .i64 o.kind)] ++ [.flat (.int .i64 o.from_)] ++ [.flat (.int .i64 o.to)]) ++ (([.flat (.int .i64 o.seq)]) ++ (bv o.prev.1 ++ ([.flat (.int .i64 o.mask)] ++ ([.flat (.string (bs o.pay))] ++ ([.flat (.int .i64 o.other)] ++ (o.auth.c ++ ([o.auths] ++ ([o.ents] ++ ([o.proofs]))))))))) := by simp [Ml.c]
theorem Ml.r3 (o : Ml) : o.c.getD 3 .unk = .flat (.int .i64 o.seq) := by
  have := getD_mid ([.flat (.int .i64 o.kind)] ++ [.flat (.int .i64 o.from_)] ++ [.flat (.int .i64 o.to)]) (.flat (.int .i64 o.seq)) (bv o.prev.1 ++ ([.flat (.int .i64 o.mask)] ++ ([.flat (.string (bs o.pay))] ++ ([.flat (.int .i64 o.other)] ++ (o.auth.c ++ ([o.auths] ++ ([o.ents] ++ ([o.proofs])))))))) 3 (by simp [Au.c_len, bv_length])
  rw [← Ml.split3] at this; simpa using this
theorem Ml.w3 (o : Ml) (x : Int) : putV o.c 3 ([.flat (.int .i64 x)]) = ({ o with seq := x } : Ml).c := by
  have := putV_mid ([.flat (.int .i64 o.kind)] ++ [.flat (.int .i64 o.from_)] ++ [.flat (.int .i64 o.to)]) ([.flat (.int .i64 o.seq)]) (bv o.prev.1 ++ ([.flat (.int .i64 o.mask)] ++ ([.flat (.string (bs o.pay))] ++ ([.flat (.int .i64 o.other)] ++ (o.auth.c ++ ([o.auths] ++ ([o.ents] ++ ([o.proofs])))))))) ([.flat (.int .i64 x)]) 3 (by simp [Au.c_len, bv_length]) (by rw [show ([.flat (.int .i64 x)] : List V).length = 1 from by simp [Au.c_len, bv_length], show ([.flat (.int .i64 o.seq)] : List V).length = 1 from by simp [Au.c_len, bv_length]])
  rw [← Ml.split3] at this; rw [this]; simp [Ml.c]
theorem Ml.split4 (o : Ml) : o.c = ([.flat (.int .i64 o.kind)] ++ [.flat (.int .i64 o.from_)] ++ [.flat (.int .i64 o.to)] ++ [.flat (.int .i64 o.seq)]) ++ ((bv o.prev.1) ++ ([.flat (.int .i64 o.mask)] ++ ([.flat (.string (bs o.pay))] ++ ([.flat (.int .i64 o.other)] ++ (o.auth.c ++ ([o.auths] ++ ([o.ents] ++ ([o.proofs])))))))) := by simp [Ml.c]
theorem Ml.r4 (o : Ml) : (o.c.drop 4).take 32 = bv o.prev.1 := by
  have := drop_take_mid ([.flat (.int .i64 o.kind)] ++ [.flat (.int .i64 o.from_)] ++ [.flat (.int .i64 o.to)] ++ [.flat (.int .i64 o.seq)]) (bv o.prev.1) ([.flat (.int .i64 o.mask)] ++ ([.flat (.string (bs o.pay))] ++ ([.flat (.int .i64 o.other)] ++ (o.auth.c ++ ([o.auths] ++ ([o.ents] ++ ([o.proofs]))))))) 4 32 (by simp [Au.c_len, bv_length]) (by simp [Au.c_len, bv_length, o.prev.2])
  rw [← Ml.split4] at this; simpa using this
theorem Ml.w4 (o : Ml) (x : Id32) : putV o.c 4 (bv x.1) = ({ o with prev := x } : Ml).c := by
  have := putV_mid ([.flat (.int .i64 o.kind)] ++ [.flat (.int .i64 o.from_)] ++ [.flat (.int .i64 o.to)] ++ [.flat (.int .i64 o.seq)]) (bv o.prev.1) ([.flat (.int .i64 o.mask)] ++ ([.flat (.string (bs o.pay))] ++ ([.flat (.int .i64 o.other)] ++ (o.auth.c ++ ([o.auths] ++ ([o.ents] ++ ([o.proofs]))))))) (bv x.1) 4 (by simp [Au.c_len, bv_length]) (by rw [show (bv x.1 : List V).length = 32 from by simp [Au.c_len, bv_length, x.2], show (bv o.prev.1 : List V).length = 32 from by simp [Au.c_len, bv_length, o.prev.2]])
  rw [← Ml.split4] at this; rw [this]; simp [Ml.c]
theorem Ml.split5 (o : Ml) : o.c = ([.flat (.int .i64 o.kind)] ++ [.flat (.int .i64 o.from_)] ++ [.flat (.int .i64 o.to)] ++ [.flat (.int .i64 o.seq)] ++ bv o.prev.1) ++ (([.flat (.int .i64 o.mask)]) ++ ([.flat (.string (bs o.pay))] ++ ([.flat (.int .i64 o.other)] ++ (o.auth.c ++ ([o.auths] ++ ([o.ents] ++ ([o.proofs]))))))) := by simp [Ml.c]
theorem Ml.r5 (o : Ml) : o.c.getD 36 .unk = .flat (.int .i64 o.mask) := by
  have := getD_mid ([.flat (.int .i64 o.kind)] ++ [.flat (.int .i64 o.from_)] ++ [.flat (.int .i64 o.to)] ++ [.flat (.int .i64 o.seq)] ++ bv o.prev.1) (.flat (.int .i64 o.mask)) ([.flat (.string (bs o.pay))] ++ ([.flat (.int .i64 o.other)] ++ (o.auth.c ++ ([o.auths] ++ ([o.ents] ++ ([o.proofs])))))) 36 (by simp [Au.c_len, bv_length, o.prev.2])
  rw [← Ml.split5] at this; simpa using this
theorem Ml.w5 (o : Ml) (x : Int) : putV o.c 36 ([.flat (.int .i64 x)]) = ({ o with mask := x } : Ml).c := by
  have := putV_mid ([.flat (.int .i64 o.kind)] ++ [.flat (.int .i64 o.from_)] ++ [.flat (.int .i64 o.to)] ++ [.flat (.int .i64 o.seq)] ++ bv o.prev.1) ([.flat (.int .i64 o.mask)]) ([.flat (.string (bs o.pay))] ++ ([.flat (.int .i64 o.other)] ++ (o.auth.c ++ ([o.auths] ++ ([o.ents] ++ ([o.proofs])))))) ([.flat (.int .i64 x)]) 36 (by simp [Au.c_len, bv_length, o.prev.2]) (by rw [show ([.flat (.int .i64 x)] : List V).length = 1 from by simp [Au.c_len, bv_length], show ([.flat (.int .i64 o.mask)] : List V).length = 1 from by simp [Au.c_len, bv_length]])
  rw [← Ml.split5] at this; rw [this]; simp [Ml.c]
theorem Ml.split6 (o : Ml) : o.c = ([.flat (.int .i64 o.kind)] ++ [.flat (.int .i64 o.from_)] ++ [.flat (.int .i64 o.to)] ++ [.flat (.int .i64 o.seq)] ++ bv o.prev.1 ++ [.flat (.int .i64 o.mask)]) ++ (([.flat (.string (bs o.pay))]) ++ ([.flat (.int .i64 o.other)] ++ (o.auth.c ++ ([o.auths] ++ ([o.ents] ++ ([o.proofs])))))) := by simp [Ml.c]
theorem Ml.r6 (o : Ml) : o.c.getD 37 .unk = .flat (.string (bs o.pay)) := by
  have := getD_mid ([.flat (.int .i64 o.kind)] ++ [.flat (.int .i64 o.from_)] ++ [.flat (.int .i64 o.to)] ++ [.flat (.int .i64 o.seq)] ++ bv o.prev.1 ++ [.flat (.int .i64 o.mask)]) (.flat (.string (bs o.pay))) ([.flat (.int .i64 o.other)] ++ (o.auth.c ++ ([o.auths] ++ ([o.ents] ++ ([o.proofs]))))) 37 (by simp [Au.c_len, bv_length, o.prev.2])
  rw [← Ml.split6] at this; simpa using this
theorem Ml.w6 (o : Ml) (x : List UInt8) : putV o.c 37 ([.flat (.string (bs x))]) = ({ o with pay := x } : Ml).c := by
  have := putV_mid ([.flat (.int .i64 o.kind)] ++ [.flat (.int .i64 o.from_)] ++ [.flat (.int .i64 o.to)] ++ [.flat (.int .i64 o.seq)] ++ bv o.prev.1 ++ [.flat (.int .i64 o.mask)]) ([.flat (.string (bs o.pay))]) ([.flat (.int .i64 o.other)] ++ (o.auth.c ++ ([o.auths] ++ ([o.ents] ++ ([o.proofs]))))) ([.flat (.string (bs x))]) 37 (by simp [Au.c_len, bv_length, o.prev.2]) (by rw [show ([.flat (.string (bs x))] : List V).length = 1 from by simp [Au.c_len, bv_length], show ([.flat (.string (bs o.pay))] : List V).length = 1 from by simp [Au.c_len, bv_length]])
  rw [← Ml.split6] at this; rw [this]; simp [Ml.c]
theorem Ml.split7 (o : Ml) : o.c = ([.flat (.int .i64 o.kind)] ++ [.flat (.int .i64 o.from_)] ++ [.flat (.int .i64 o.to)] ++ [.flat (.int .i64 o.seq)] ++ bv o.prev.1 ++ [.flat (.int .i64 o.mask)] ++ [.flat (.string (bs o.pay))]) ++ (([.flat (.int .i64 o.other)]) ++ (o.auth.c ++ ([o.auths] ++ ([o.ents] ++ ([o.proofs]))))) := by simp [Ml.c]
theorem Ml.r7 (o : Ml) : o.c.getD 38 .unk = .flat (.int .i64 o.other) := by
  have := getD_mid ([.flat (.int .i64 o.kind)] ++ [.flat (.int .i64 o.from_)] ++ [.flat (.int .i64 o.to)] ++ [.flat (.int .i64 o.seq)] ++ bv o.prev.1 ++ [.flat (.int .i64 o.mask)] ++ [.flat (.string (bs o.pay))]) (.flat (.int .i64 o.other)) (o.auth.c ++ ([o.auths] ++ ([o.ents] ++ ([o.proofs])))) 38 (by simp [Au.c_len, bv_length, o.prev.2])
  rw [← Ml.split7] at this; simpa using this
theorem Ml.w7 (o : Ml) (x : Int) : putV o.c 38 ([.flat (.int .i64 x)]) = ({ o with other := x } : Ml).c := by
  have := putV_mid ([.flat (.int .i64 o.kind)] ++ [.flat (.int .i64 o.from_)] ++ [.flat (.int .i64 o.to)] ++ [.flat (.int .i64 o.seq)] ++ bv o.prev.1 ++ [.flat (.int .i64 o.mask)] ++ [.flat (.string (bs o.pay))]) ([.flat (.int .i64 o.other)]) (o.auth.c ++ ([o.auths] ++ ([o.ents] ++ ([o.proofs])))) ([.flat (.int .i64 x)]) 38 (by simp [Au.c_len, bv_length, o.prev.2]) (by rw [show ([.flat (.int .i64 x)] : List V).length = 1 from by simp [Au.c_len, bv_length], show ([.flat (.int .i64 o.other)] : List V).length = 1 from by simp [Au.c_len, bv_length]])
  rw [← Ml.split7] at this; rw [this]; simp [Ml.c]
theorem Ml.split8 (o : Ml) : o.c = ([.flat (.int .i64 o.kind)] ++ [.flat (.int .i64 o.from_)] ++ [.flat (.int .i64 o.to)] ++ [.flat (.int .i64 o.seq)] ++ bv o.prev.1 ++ [.flat (.int .i64 o.mask)] ++ [.flat (.string (bs o.pay))] ++ [.flat (.int .i64 o.other)]) ++ ((o.auth.c) ++ ([o.auths] ++ ([o.ents] ++ ([o.proofs])))) := by simp [Ml.c]
theorem Ml.r8 (o : Ml) : (o.c.drop 39).take 35 = o.auth.c := by
  have := drop_take_mid ([.flat (.int .i64 o.kind)] ++ [.flat (.int .i64 o.from_)] ++ [.flat (.int .i64 o.to)] ++ [.flat (.int .i64 o.seq)] ++ bv o.prev.1 ++ [.flat (.int .i64 o.mask)] ++ [.flat (.string (bs o.pay))] ++ [.flat (.int .i64 o.other)]) (o.auth.c) ([o.auths] ++ ([o.ents] ++ ([o.proofs]))) 39 35 (by simp [Au.c_len, bv_length, o.prev.2]) (by simp [Au.c_len, bv_length])
  rw [← Ml.split8] at this; simpa using this
theorem Ml.w8 (o : Ml) (x : Au) : putV o.c 39 (x.c) = ({ o with auth := x } : Ml).c := by
  have := putV_mid ([.flat (.int .i64 o.kind)] ++ [.flat (.int .i64 o.from_)] ++ [.flat (.int .i64 o.to)] ++ [.flat (.int .i64 o.seq)] ++ bv o.prev.1 ++ [.flat (.int .i64 o.mask)] ++ [.flat (.string (bs o.pay))] ++ [.flat (.int .i64 o.other)]) (o.auth.c) ([o.auths] ++ ([o.ents] ++ ([o.proofs]))) (x.c) 39 (by simp [Au.c_len, bv_length, o.prev.2]) (by rw [show (x.c : List V).length = 35 from by simp [Au.c_len, bv_length], show (o.auth.c : List V).length = 35 from by simp [Au.c_len, bv_length]])
  rw [← Ml.split8] at this; rw [this]; simp [Ml.c]
theorem Ml.r8_0 (o : Ml) : o.c.getD 39 .unk = .flat (.int .i64 o.auth.node) := by
  have := getD_in o.c 39 35 0 (by omega)
  rw [this, show (o.c.drop 39).take 35 = o.auth.c from by simpa using Ml.r8 o]; exact Au.r0 _
theorem Ml.r8_1 (o : Ml) : o.c.getD 40 .unk = .flat (.int .i64 o.auth.seq) := by
  have := getD_in o.c 39 35 1 (by omega)
  rw [this, show (o.c.drop 39).take 35 = o.auth.c from by simpa using Ml.r8 o]; exact Au.r1 _
theorem Ml.r8_2 (o : Ml) : (o.c.drop 41).take 32 = bv o.auth.hash.1 := by
  have := drop_take_in o.c 39 35 2 32 (by omega)
  rw [this, show (o.c.drop 39).take 35 = o.auth.c from by simpa using Ml.r8 o]; exact Au.r2 _
theorem Ml.r8_3 (o : Ml) : o.c.getD 73 .unk = .flat (.string (bs o.auth.sig)) := by
  have := getD_in o.c 39 35 34 (by omega)
  rw [this, show (o.c.drop 39).take 35 = o.auth.c from by simpa using Ml.r8 o]; exact Au.r3 _
theorem Ml.split9 (o : Ml) : o.c = ([.flat (.int .i64 o.kind)] ++ [.flat (.int .i64 o.from_)] ++ [.flat (.int .i64 o.to)] ++ [.flat (.int .i64 o.seq)] ++ bv o.prev.1 ++ [.flat (.int .i64 o.mask)] ++ [.flat (.string (bs o.pay))] ++ [.flat (.int .i64 o.other)] ++ o.auth.c) ++ (([o.auths]) ++ ([o.ents] ++ ([o.proofs]))) := by simp [Ml.c]
theorem Ml.r9 (o : Ml) : o.c.getD 74 .unk = o.auths := by
  have := getD_mid ([.flat (.int .i64 o.kind)] ++ [.flat (.int .i64 o.from_)] ++ [.flat (.int .i64 o.to)] ++ [.flat (.int .i64 o.seq)] ++ bv o.prev.1 ++ [.flat (.int .i64 o.mask)] ++ [.flat (.string (bs o.pay))] ++ [.flat (.int .i64 o.other)] ++ o.auth.c) (o.auths) ([o.ents] ++ ([o.proofs])) 74 (by simp [Au.c_len, bv_length, o.prev.2])
  rw [← Ml.split9] at this; simpa using this
theorem Ml.w9 (o : Ml) (x : V) : putV o.c 74 ([x]) = ({ o with auths := x } : Ml).c := by
  have := putV_mid ([.flat (.int .i64 o.kind)] ++ [.flat (.int .i64 o.from_)] ++ [.flat (.int .i64 o.to)] ++ [.flat (.int .i64 o.seq)] ++ bv o.prev.1 ++ [.flat (.int .i64 o.mask)] ++ [.flat (.string (bs o.pay))] ++ [.flat (.int .i64 o.other)] ++ o.auth.c) ([o.auths]) ([o.ents] ++ ([o.proofs])) ([x]) 74 (by simp [Au.c_len, bv_length, o.prev.2]) (by rw [show ([x] : List V).length = 1 from by simp [Au.c_len, bv_length], show ([o.auths] : List V).length = 1 from by simp [Au.c_len, bv_length]])
  rw [← Ml.split9] at this; rw [this]; simp [Ml.c]
theorem Ml.split10 (o : Ml) : o.c = ([.flat (.int .i64 o.kind)] ++ [.flat (.int .i64 o.from_)] ++ [.flat (.int .i64 o.to)] ++ [.flat (.int .i64 o.seq)] ++ bv o.prev.1 ++ [.flat (.int .i64 o.mask)] ++ [.flat (.string (bs o.pay))] ++ [.flat (.int .i64 o.other)] ++ o.auth.c ++ [o.auths]) ++ (([o.ents]) ++ ([o.proofs])) := by simp [Ml.c]
theorem Ml.r10 (o : Ml) : o.c.getD 75 .unk = o.ents := by
  have := getD_mid ([.flat (.int .i64 o.kind)] ++ [.flat (.int .i64 o.from_)] ++ [.flat (.int .i64 o.to)] ++ [.flat (.int .i64 o.seq)] ++ bv o.prev.1 ++ [.flat (.int .i64 o.mask)] ++ [.flat (.string (bs o.pay))] ++ [.flat (.int .i64 o.other)] ++ o.auth.c ++ [o.auths]) (o.ents) ([o.proofs]) 75 (by simp [Au.c_len, bv_length, o.prev.2])
  rw [← Ml.split10] at this; simpa using this
theorem Ml.w10 (o : Ml) (x : V) : putV o.c 75 ([x]) = ({ o with ents := x } : Ml).c := by
  have := putV_mid ([.flat (.int .i64 o.kind)] ++ [.flat (.int .i64 o.from_)] ++ [.flat (.int .i64 o.to)] ++ [.flat (.int .i64 o.seq)] ++ bv o.prev.1 ++ [.flat (.int .i64 o.mask)] ++ [.flat (.string (bs o.pay))] ++ [.flat (.int .i64 o.other)] ++ o.auth.c ++ [o.auths]) ([o.ents]) ([o.proofs]) ([x]) 75 (by simp [Au.c_len, bv_length, o.prev.2]) (by rw [show ([x] : List V).length = 1 from by simp [Au.c_len, bv_length], show ([o.ents] : List V).length = 1 from by simp [Au.c_len, bv_length]])
  rw [← Ml.split10] at this; rw [this]; simp [Ml.c]
theorem Ml.split11 (o : Ml) : o.c = ([.flat (.int .i64 o.kind)] ++ [.flat (.int .i64 o.from_)] ++ [.flat (.int .i64 o.to)] ++ [.flat (.int .i64 o.seq)] ++ bv o.prev.1 ++ [.flat (.int .i64 o.mask)] ++ [.flat (.string (bs o.pay))] ++ [.flat (.int .i64 o.other)] ++ o.auth.c ++ [o.auths] ++ [o.ents]) ++ (([o.proofs]) ++ ([])) := by simp [Ml.c]
theorem Ml.r11 (o : Ml) : o.c.getD 76 .unk = o.proofs := by
  have := getD_mid ([.flat (.int .i64 o.kind)] ++ [.flat (.int .i64 o.from_)] ++ [.flat (.int .i64 o.to)] ++ [.flat (.int .i64 o.seq)] ++ bv o.prev.1 ++ [.flat (.int .i64 o.mask)] ++ [.flat (.string (bs o.pay))] ++ [.flat (.int .i64 o.other)] ++ o.auth.c ++ [o.auths] ++ [o.ents]) (o.proofs) ([]) 76 (by simp [Au.c_len, bv_length, o.prev.2])
  rw [← Ml.split11] at this; simpa using this
theorem Ml.w11 (o : Ml) (x : V) : putV o.c 76 ([x]) = ({ o with proofs := x } : Ml).c := by
  have := putV_mid ([.flat (.int .i64 o.kind)] ++ [.flat (.int .i64 o.from_)] ++ [.flat (.int .i64 o.to)] ++ [.flat (.int .i64 o.seq)] ++ bv o.prev.1 ++ [.flat (.int .i64 o.mask)] ++ [.flat (.string (bs o.pay))] ++ [.flat (.int .i64 o.other)] ++ o.auth.c ++ [o.auths] ++ [o.ents]) ([o.proofs]) ([]) ([x]) 76 (by simp [Au.c_len, bv_length, o.prev.2]) (by rw [show ([x] : List V).length = 1 from by simp [Au.c_len, bv_length], show ([o.proofs] : List V).length = 1 from by simp [Au.c_len, bv_length]])
  rw [← Ml.split11] at this; rw [this]; simp [Ml.c]
def Ml.z (o : Ml) : Ml := { o with auths := o.auths.fz, ents := o.ents.fz, proofs := o.proofs.fz }
theorem Ml.fz (o : Ml) : o.c.map V.fz = o.z.c := by simp [Ml.c, V.fz, bv_fz, Au.fz, Ml.z]
theorem Ml.own1 (o : Ml) : (∀ z ∈ o.c, noOwnB z = true) = (noOwnB o.auths = true ∧ noOwnB o.ents = true ∧ noOwnB o.proofs = true) := by
  simp only [Ml.c, List.forall_mem_append, List.forall_mem_singleton, own1_bv, Au.own1]; simp [noOwnB, and_assoc]
theorem Ml.own2 (o : Ml) : (∀ z ∈ o.c, noOwnB z = true ∧ oneB z = true) = (noOwnB o.auths = true ∧ oneB o.auths = true ∧ noOwnB o.ents = true ∧ oneB o.ents = true ∧ noOwnB o.proofs = true ∧ oneB o.proofs = true) := by
  simp only [Ml.c, List.forall_mem_append, List.forall_mem_singleton, own2_bv, Au.own2]; simp [noOwnB, oneB, and_assoc]

def ml0 : Ml := ⟨0, 0, 0, 0, z32, 0, [], 0, au0, .nil, .nil, .nil⟩
theorem Ml.sm : (type_of% @Ml.c_len) ∧ (type_of% @Ml.tk) ∧ (type_of% @Ml.wh) ∧ (type_of% @Ml.r0) ∧ (type_of% @Ml.w0) ∧ (type_of% @Ml.r1) ∧ (type_of% @Ml.w1) ∧ (type_of% @Ml.r2) ∧ (type_of% @Ml.w2) ∧ (type_of% @Ml.r3) ∧ (type_of% @Ml.w3) ∧ (type_of% @Ml.r4) ∧ (type_of% @Ml.w4) ∧ (type_of% @Ml.r5) ∧ (type_of% @Ml.w5) ∧ (type_of% @Ml.r6) ∧ (type_of% @Ml.w6) ∧ (type_of% @Ml.r7) ∧ (type_of% @Ml.w7) ∧ (type_of% @Ml.r8) ∧ (type_of% @Ml.w8) ∧ (type_of% @Ml.r8_0) ∧ (type_of% @Ml.r8_1) ∧ (type_of% @Ml.r8_2) ∧ (type_of% @Ml.r8_3) ∧ (type_of% @Ml.r9) ∧ (type_of% @Ml.w9) ∧ (type_of% @Ml.r10) ∧ (type_of% @Ml.w10) ∧ (type_of% @Ml.r11) ∧ (type_of% @Ml.w11) ∧ (type_of% @Ml.fz) ∧ (type_of% @Ml.own1) ∧ (type_of% @Ml.own2) := ⟨@Ml.c_len, @Ml.tk, @Ml.wh, @Ml.r0, @Ml.w0, @Ml.r1, @Ml.w1, @Ml.r2, @Ml.w2, @Ml.r3, @Ml.w3, @Ml.r4, @Ml.w4, @Ml.r5, @Ml.w5, @Ml.r6, @Ml.w6, @Ml.r7, @Ml.w7, @Ml.r8, @Ml.w8, @Ml.r8_0, @Ml.r8_1, @Ml.r8_2, @Ml.r8_3, @Ml.r9, @Ml.w9, @Ml.r10, @Ml.w10, @Ml.r11, @Ml.w11, @Ml.fz, @Ml.own1, @Ml.own2⟩
attribute [go_sem] Ml.sm
end Go.VL

set_option linter.unusedVariables false
set_option linter.unusedSimpArgs false
open Go.RowKit
namespace Go.VL
variable {P : Program} {C : Cfg}
def Imp (x y : V) : Prop := ∀ (g : G) (w : World) (v : Value), VR g w x v → VR g w y v
theorem Imp.refl (x : V) : Imp x x := fun _ _ _ h => h
theorem Imp.sub {x y : V} (h : SubV x y) : Imp x y := fun _ _ _ k => k.subV h
theorem Imp.nil (own : Bool) (sz : Nat) : Imp .nil (.sl own sz 0 []) := Imp.sub (SubV.nil own sz)
theorem Imp.fz (own : Bool) (sz n : Nat) (cs : List V) : Imp (.sl own sz n cs) (.sl false sz n cs) := by
  cases own
  · exact Imp.refl _
  · exact Imp.sub (SubV.fz sz n cs)
structure ImpL (xs ys : List V) : Prop where
  len : xs.length = ys.length
  at_ : ∀ i, i < ys.length → Imp (xs.getD i .unk) (ys.getD i .unk)
theorem ImpL.refl (xs : List V) : ImpL xs xs := ⟨rfl, fun _ _ => Imp.refl _⟩
theorem ImpL.nil : ImpL [] [] := ImpL.refl _
theorem ImpL.cons {x y : V} {xs ys : List V} (h : Imp x y) (hs : ImpL xs ys) : ImpL (x :: xs) (y :: ys) :=
  ⟨by simp [hs.len], fun i hi => by
    cases i with
    | zero => simpa using h
    | succ i => simpa using hs.at_ i (by simpa using hi)⟩
theorem ImpL.app {a b c d : List V} (h : ImpL a b) (k : ImpL c d) : ImpL (a ++ c) (b ++ d) :=
  ⟨by simp [h.len, k.len], fun i hi => by
    rw [List.length_append] at hi
    by_cases q : i < b.length
    · rw [List.getD_eq_getElem?_getD, List.getD_eq_getElem?_getD, List.getElem?_append_left (by rw [h.len]; exact q), List.getElem?_append_left q, ← List.getD_eq_getElem?_getD, ← List.getD_eq_getElem?_getD]
      exact h.at_ i q
    · rw [List.getD_eq_getElem?_getD, List.getD_eq_getElem?_getD, List.getElem?_append_right (by rw [h.len]; omega), List.getElem?_append_right (by omega), h.len, ← List.getD_eq_getElem?_getD, ← List.getD_eq_getElem?_getD]
      exact k.at_ _ (by omega)⟩
theorem Imp.agg {xs ys : List V} (h : ImpL xs ys) : Imp (.agg xs) (.agg ys) := fun g w v k => by
  cases k with
  | agg _ us hl hv => exact .agg _ us (by rw [hl, h.len]) fun i hi => h.at_ i hi g w _ (hv i (by rw [h.len]; exact hi))
theorem Imp.tup {xs ys : List V} (h : ImpL xs ys) : Imp (.tup xs) (.tup ys) := fun g w v k => by
  cases k with
  | tup _ us hl hv => exact .tup _ us (by rw [hl, h.len]) fun i hi => h.at_ i hi g w _ (hv i (by rw [h.len]; exact hi))
theorem Sp.imp {gl : Nat → Option (List V)} {f : FuncId} {args : List V} {M : Mem} {n : Nat} {R R' : V → Mem → Nat → Prop} (h : Sp P gl f args M n R) (hR : ∀ r m k, R r m k → ∃ r', Imp r r' ∧ r' ≠ .unk ∧ V.noOwn r' ∧ R' r' m k) : Sp P gl f args M n R' := by
  refine ⟨h.1, fun g ob w vs a b c d e k => (h.2 g ob w vs a b c d e k).mono fun _ w' ⟨v, r, m, g', ob', x1, x2, x3, st⟩ => ?_⟩
  obtain ⟨r', hs, hu, hno, hr⟩ := hR _ _ _ x2
  refine ⟨v, r', m, g', ob', x1, hr, hu, ?_⟩
  have hr0 : VR g' w' r v := by
    have := st.slot 0 (by rw [upd_same]; exact x3)
    rw [upd_same] at this; simpa using this
  exact { st with
    slot := fun i hi => by
      by_cases q : i = 0
      · subst q; rw [upd_same]; simpa using hs _ _ _ hr0
      · rw [upd_ne _ _ q] at hi; exact absurd rfl hi
    ownS := fun i j sz n cs hi => by
      by_cases q : i = 0
      · subst q
        rw [upd_same] at hi
        exact absurd hi (hno j sz n cs)
      · rw [upd_ne _ _ q] at hi; have := comp_unk _ _ hi; cases this }
end Go.VL

set_option linter.unusedVariables false
set_option linter.unusedSimpArgs false
set_option maxRecDepth 100000
set_option maxHeartbeats 4000000
open Go.RowKit
namespace Go.VL
def ndOk (n : Int) : Bool := decide (n ≥ 0) && decide (n < 5)
def Au.word (a : Au) : Bool := ndOk a.node && decide (a.seq ≥ 0) && decide ((a.sig.length : Int) ≤ 1024)
def Au.parts (a : Au) : List (List UInt8) := [numB a.node.toNat, numB a.seq.toNat, a.hash.1, a.sig]
def Au.text (a : Au) : List UInt8 := listB a.parts
theorem Au.total_le {a : Au} (ha : a.ok) (hs : a.sig.length ≤ 1000000) : total a.parts ≤ 1000100 ∧ a.parts.length = 4 := by
  obtain ⟨h1, h2, h3⟩ := ha
  have b1 := numB_length a.node.toNat (by have := h1.2; omega)
  have b2 := numB_length a.seq.toNat (by have := h2.2; omega)
  unfold Au.parts
  simp [total, a.hash.2]; omega
theorem Au.text_le {a : Au} (ha : a.ok) (n : Nat) (hs : a.sig.length ≤ n) (hn : n ≤ 1000000) : a.text.length ≤ n + 100 := by
  obtain ⟨h1, h2, h3⟩ := id ha
  have b1 := numB_length a.node.toNat (by have := h1.2; omega)
  have b2 := numB_length a.seq.toNat (by have := h2.2; omega)
  have ht : total a.parts ≤ n + 50 := by unfold Au.parts; simp [total, a.hash.2]; omega
  have := listB_le a.parts (by omega) (by simp [Au.parts])
  rw [show a.parts.length = 4 from rfl] at this
  show (listB a.parts).length ≤ _
  omega
structure Mail where
  kind : Int
  from_ : Int
  to : Int
  seq : Int
  prev : Id32
  mask : Int
  pay : List UInt8
  other : Int
  auth : Au
  auths : List Au
  ents : List Ent
  proofs : List (List UInt8)
  deriving DecidableEq
def Mail.ml (m : Mail) : Ml := ⟨m.kind, m.from_, m.to, m.seq, m.prev, m.mask, m.pay, m.other, m.auth, .sl false 35 m.auths.length (Au.lC m.auths), .sl false 73 m.ents.length (Ent.lC m.ents), .sl false 1 m.proofs.length (sv m.proofs)⟩
def Mail.c (m : Mail) : List V := m.ml.c
@[go_sem] theorem Mail.ml_kind (m : Mail) : m.ml.kind = m.kind := rfl
@[go_sem] theorem Mail.ml_from_ (m : Mail) : m.ml.from_ = m.from_ := rfl
@[go_sem] theorem Mail.ml_to (m : Mail) : m.ml.to = m.to := rfl
@[go_sem] theorem Mail.ml_seq (m : Mail) : m.ml.seq = m.seq := rfl
@[go_sem] theorem Mail.ml_prev (m : Mail) : m.ml.prev = m.prev := rfl
@[go_sem] theorem Mail.ml_mask (m : Mail) : m.ml.mask = m.mask := rfl
@[go_sem] theorem Mail.ml_pay (m : Mail) : m.ml.pay = m.pay := rfl
@[go_sem] theorem Mail.ml_other (m : Mail) : m.ml.other = m.other := rfl
@[go_sem] theorem Mail.ml_auth (m : Mail) : m.ml.auth = m.auth := rfl
@[go_sem] theorem Mail.ml_auths (m : Mail) : m.ml.auths = .sl false 35 m.auths.length (Au.lC m.auths) := rfl
@[go_sem] theorem Mail.ml_ents (m : Mail) : m.ml.ents = .sl false 73 m.ents.length (Ent.lC m.ents) := rfl
@[go_sem] theorem Mail.ml_proofs (m : Mail) : m.ml.proofs = .sl false 1 m.proofs.length (sv m.proofs) := rfl
@[go_sem] theorem Mail.ml_z (m : Mail) : m.ml.z = m.ml := rfl
theorem Ml.imp (a : Mail) (x y z : V) (h1 : Imp x (.sl false 35 a.auths.length (Au.lC a.auths))) (h2 : Imp y (.sl false 73 a.ents.length (Ent.lC a.ents))) (h3 : Imp z (.sl false 1 a.proofs.length (sv a.proofs))) :
    Imp (.agg (Ml.c ⟨a.kind, a.from_, a.to, a.seq, a.prev, a.mask, a.pay, a.other, a.auth, x, y, z⟩)) (.agg a.ml.c) := by
  refine Imp.agg ?_
  unfold Mail.ml Ml.c
  repeat' (first | exact ImpL.refl _ | refine ImpL.app (ImpL.refl _) ?_)
  exact ImpL.app (ImpL.cons h1 .nil) (ImpL.app (ImpL.cons h2 .nil) (ImpL.cons h3 .nil))
def idxE {α : Type} (p : α → Bool) : List α → Int → Int
  | [], _ => -1
  | a :: l, i => if p a = true then i else idxE p l (i + 1)
theorem idxE_drop {α : Type} (p : α → Bool) (l : List α) (d : α) (i : Nat) (k : Int) (h : i < l.length) : idxE p (l.drop i) k = if p (l.getD i d) = true then k else idxE p (l.drop (i + 1)) (k + 1) := by
  rw [List.drop_eq_getElem_cons h, idxE, List.getD_eq_getElem?_getD, List.getElem?_eq_getElem h]; rfl
theorem idxE_any {α : Type} (p : α → Bool) : ∀ (l : List α) (i : Int), 0 ≤ i → decide (idxE p l i ≥ 0) = l.any p
  | [], i, h => by simp [idxE]
  | a :: l, i, h => by
    unfold idxE
    by_cases hp : p a = true
    · rw [if_pos hp]; simp [hp, h]
    · rw [if_neg hp, idxE_any p l (i + 1) (by omega)]; simp [hp]
def Mail.ok (m : Mail) : Prop := inR m.kind ∧ inR m.from_ ∧ inR m.to ∧ inR m.seq ∧ inR m.mask ∧ m.pay.length ≤ 140737488351232 ∧ inR m.other ∧ m.auth.ok ∧ ((∀ a ∈ m.auths, a.ok) ∧ m.auths.length ≤ 140737488351232) ∧ ((∀ e ∈ m.ents, e.ok) ∧ m.ents.length ≤ 140737488351232) ∧ ((∀ s ∈ m.proofs, s.length ≤ 140737488351232) ∧ m.proofs.length ≤ 140737488351232)
def Mail.good (m : Mail) : Bool :=
  decide (m.kind ≥ 1) && decide (m.kind ≤ 7) && ndOk m.from_ && ndOk m.to && ndOk m.other && decide (m.seq ≥ 0) && decide (m.mask ≥ 0) && decide (m.mask < 32) && decide ((m.pay.length : Int) ≤ 2048) && m.auth.word
    && decide ((m.auths.length : Int) ≤ 512) && m.auths.all Au.word && decide ((m.ents.length : Int) ≤ 4096) && m.ents.all Ent.good && decide ((m.proofs.length : Int) ≤ 4096)
def autsB (l : List Au) : List UInt8 := listB (l.map Au.text)
def Mail.parts (m : Mail) : List (List UInt8) := [numB m.kind.toNat, numB m.from_.toNat, numB m.to.toNat, numB m.seq.toNat, m.prev.1, numB m.mask.toNat, m.pay, numB m.other.toNat, m.auth.text, autsB m.auths, textsB m.ents, listB m.proofs]
def Mail.bytes (m : Mail) : List UInt8 := listB m.parts
def Mail.text (m : Mail) : List UInt8 := if m.good = true then (if m.bytes.length > 262144 then [] else m.bytes) else []
def Mail.size (m : Mail) : Nat := m.pay.length + m.auth.sig.length + (m.auths.map fun a => a.sig.length).sum + (m.ents.map fun e => e.pay.length + e.sig.length + e.d.key.length + e.d.val.length).sum + total m.proofs
def Mail.small (m : Mail) : Prop := m.size ≤ 8192 ∧ m.auths.length ≤ 20 ∧ m.ents.length ≤ 20 ∧ m.proofs.length ≤ 20
structure Mail.Facts (m : Mail) : Prop where
  kind : 1 ≤ m.kind ∧ m.kind ≤ 7
  from_ : 0 ≤ m.from_ ∧ m.from_ < 5
  to : 0 ≤ m.to ∧ m.to < 5
  other : 0 ≤ m.other ∧ m.other < 5
  seq : 0 ≤ m.seq
  mask : 0 ≤ m.mask ∧ m.mask < 32
  pay : m.pay.length ≤ 2048
  auth : m.auth.word = true
  auths : m.auths.length ≤ 512 ∧ ∀ a ∈ m.auths, a.word = true
  ents : m.ents.length ≤ 4096 ∧ ∀ e ∈ m.ents, e.good = true
  proofs : m.proofs.length ≤ 4096
theorem ndOk_iff (n : Int) : ndOk n = true ↔ 0 ≤ n ∧ n < 5 := by simp [ndOk]
theorem Au.word_iff (a : Au) : a.word = true ↔ (0 ≤ a.node ∧ a.node < 5) ∧ 0 ≤ a.seq ∧ a.sig.length ≤ 1024 := by
  simp only [Au.word, Bool.and_eq_true, decide_eq_true_eq, ndOk_iff]
  constructor
  · rintro ⟨⟨a, b⟩, c⟩; exact ⟨a, b, by omega⟩
  · rintro ⟨a, b, c⟩; exact ⟨⟨a, b⟩, by omega⟩
theorem total_auts : ∀ (l : List Au), (∀ a ∈ l, a.ok) → (∀ a ∈ l, a.word = true) → total (l.map Au.text) ≤ 1124 * l.length
  | [], _, _ => by simp [total]
  | e :: l, h, k => by
    have h1 := Au.text_le (h e (by simp)) 1024 ((Au.word_iff e).1 (k e (by simp))).2.2 (by omega)
    have h2 := total_auts l (fun x hx => h x (by simp [hx])) (fun x hx => k x (by simp [hx]))
    have e1 : total ((e :: l).map Au.text) = e.text.length + total (l.map Au.text) := by simp [total]
    rw [e1, List.length_cons]
    omega
theorem autsB_le {l : List Au} (h : ∀ a ∈ l, a.ok) (k : ∀ a ∈ l, a.word = true) (hl : l.length ≤ 512) : (autsB l).length ≤ 590000 := by
  have h1 := total_auts l h k
  have := listB_le (l.map Au.text) (by omega) (by simp; omega)
  rw [List.length_map] at this
  show (listB (l.map Au.text)).length ≤ _
  omega
theorem textsB_le {l : List Ent} (h : ∀ a ∈ l, a.ok) (hl : l.length ≤ 4096) : (textsB l).length ≤ 17000000 := by
  have h1 := total_texts l h
  have := listB_le (l.map Ent.text) (by omega) (by simp; omega)
  rw [List.length_map] at this
  show (listB (l.map Ent.text)).length ≤ _
  omega
theorem Mail.total_le {m : Mail} (hm : m.ok) (h : m.Facts) (n : Nat) (hn : total m.proofs ≤ n) (hb : n ≤ 100000000000) : total m.parts ≤ 18000000 + n ∧ m.parts.length = 12 := by
  obtain ⟨i1, i2, i3, i4, i5, i6, i7, i8, ⟨i9, _⟩, ⟨j1, _⟩, j2, _⟩ := hm
  have b1 := numB_length m.kind.toNat (by have := i1.2; omega)
  have b2 := numB_length m.from_.toNat (by have := i2.2; omega)
  have b3 := numB_length m.to.toNat (by have := i3.2; omega)
  have b4 := numB_length m.seq.toNat (by have := i4.2; omega)
  have b5 := numB_length m.mask.toNat (by have := i5.2; omega)
  have b6 := numB_length m.other.toNat (by have := i7.2; omega)
  have hw := (Au.word_iff m.auth).1 h.auth
  have b7 := Au.text_le i8 1024 hw.2.2 (by omega)
  have b8 := autsB_le i9 h.auths.2 h.auths.1
  have b9 := textsB_le j1 h.ents.1
  have c1 := listB_le m.proofs (by omega) (by have := h.proofs; omega)
  have c2 := h.pay
  have c3 := h.proofs
  unfold Mail.parts
  simp [total, m.prev.2] at *
  omega
end Go.VL

set_option linter.unusedVariables false
set_option linter.unusedSimpArgs false
namespace Go.VL
def leafN (s : List UInt8) (n : Nat) : List Id16 := (List.range n).map fun i : Nat => keyE s (i : Int)
theorem leafN_len (s : List UInt8) (n : Nat) : (leafN s n).length = n := by simp [leafN]
theorem leafN_0 (s : List UInt8) : leafN s 0 = [] := rfl
theorem leafN_succ (s : List UInt8) (n : Nat) : leafN s (n + 1) = leafN s n ++ [keyE s n] := by simp [leafN, List.range_succ]
def rootK (s : List UInt8) (h : Nat) : Id16 := atE (leafN s (2 ^ h)) h 0
def digE (root : Id16) (ix : Int) (t : List UInt8) : Id16 := cutE (shaSum [116, 101, 120, 116] [root.1, numB ix.toNat, t])
def cat16 : List Id16 → List UInt8
  | [] => []
  | x :: l => x.1 ++ cat16 l
def sigK (s : List UInt8) (h : Nat) (i : Nat) (t : List UInt8) : List UInt8 := signE s i (digE (rootK s h) i t) ++ cat16 (pathF (leafN s (2 ^ h)) 0 i h)
end Go.VL
namespace Go.VL
def kyV (s : List UInt8) (h : Nat) : Ky := ⟨s, h, .sl true 16 (2 ^ h) (esC (leafN s (2 ^ h))), rootK s h⟩
def pathS (g : List UInt8) (h : Nat) : List Id16 := (List.range h).map fun i => partE g (35 + i)
def verOk (height ix : Int) (g : List UInt8) : Bool := decide (1 ≤ height ∧ height ≤ 8 ∧ 0 ≤ ix ∧ ix < (2 ^ height.toNat : Nat) ∧ g.length = 560 + 16 * height.toNat)
def verE (n : Nd) (ix : Int) (t g : List UInt8) : Bool := verOk n.height ix g && decide (climbE (meetE (g.take 560) ix (digE n.root ix t)) ix (pathS g n.height.toNat) = n.root)
theorem shl_1 (h : Nat) (hh : h ≤ 8) : shlI .i64 1 (h : Int) = ((2 ^ h : Nat) : Int) := by
  have : ∀ k : _root_.Fin 9, shlI .i64 1 (k.val : Int) = ((2 ^ k.val : Nat) : Int) := by decide
  exact this ⟨h, by omega⟩
theorem pow_le8 (h : Nat) (hh : h ≤ 8) : 2 ^ h ≤ 256 := by
  have := Nat.pow_le_pow_right (n := 2) (by omega) hh
  simpa using this
end Go.VL
namespace Go.VL
theorem goodN_two (h : Nat) (hh : h ≤ 8) : goodN (2 ^ h) := by
  have : ∀ k : _root_.Fin 9, goodN (2 ^ k.val) := by decide
  exact this ⟨h, by omega⟩
end Go.VL
namespace Go.VL
def ndK (s : List UInt8) (h : Nat) : Nd := ⟨rootK s h, h⟩
end Go.VL

set_option linter.unusedVariables false
set_option linter.unusedSimpArgs false
namespace Go.VL
def catI : List Id32 → List UInt8
  | [] => []
  | x :: l => x.1 ++ catI l
theorem catI_len (l : List Id32) : (catI l).length = 32 * l.length := by
  induction l with
  | nil => rfl
  | cons x a ih => simp [catI, ih, x.2]; omega
def Opn.parts (o : Opn) : List (List UInt8) := [numB o.a.toNat, numB o.dep.toNat, catI o.ps, o.d.text]
def Opn.text (o : Opn) : List UInt8 := listB o.parts
theorem Dr.text_le2 (d : Dr) (h1 : d.key.length ≤ 1000) (h2 : d.val.length ≤ 1000) (h3 : d.k < 9223372036854775808) : d.text.length ≤ 2500 := by
  have h4 := numB_length d.k.toNat (by omega)
  have h5 : total d.parts = (numB d.k.toNat).length + d.key.length + d.val.length + 32 := by simp [total, Dr.parts, d.ref.2]; omega
  have := listB_le d.parts (by omega) (by simp [Dr.parts])
  rw [show d.parts.length = 4 from rfl] at this
  show (listB d.parts).length ≤ 2500
  omega
theorem Opn.total_le (o : Opn) (ho : o.ok) (h0 : o.ps.length ≤ 1000) (h1 : o.d.key.length ≤ 1000) (h2 : o.d.val.length ≤ 1000) : total o.parts ≤ 40000 := by
  obtain ⟨⟨⟨_, k2⟩, _⟩, ⟨_, a2⟩, ⟨_, b2⟩, _⟩ := ho
  have h3 := numB_length o.a.toNat (by omega)
  have h4 := numB_length o.dep.toNat (by omega)
  have h5 := Dr.text_le2 o.d h1 h2 (by omega)
  have h6 := catI_len o.ps
  simp only [total, Opn.parts, List.map_cons, List.map_nil, List.sum_cons, List.sum_nil]
  omega
theorem Opn.text_le (o : Opn) (ho : o.ok) (h0 : o.ps.length ≤ 1000) (h1 : o.d.key.length ≤ 1000) (h2 : o.d.val.length ≤ 1000) : o.text.length ≤ 50000 := by
  have h := Opn.total_le o ho h0 h1 h2
  have := listB_le o.parts (by omega) (by simp [Opn.parts])
  rw [show o.parts.length = 4 from rfl] at this
  show (listB o.parts).length ≤ 50000
  omega
theorem idsC_flat (l : List Id32) : FlatS (idsC l) := FlatS.rows (f := fun x : Id32 => bv x.1) (fun x => FlatS.bv x.1) l
def opnV (d : Dr) (a dep : Int) : Opn := ⟨d, a, dep, []⟩
end Go.VL

set_option linter.unusedVariables false
set_option linter.unusedSimpArgs false
set_option maxRecDepth 100000
set_option maxHeartbeats 4000000
open Go.RowKit
namespace Go.VL
def linkP (p : Id32) (q : Int) (e : Ent) : List (List UInt8) := [p.1, numB q.toNat, e.text]
def linkE (p : Id32) (q : Int) (e : Ent) : Id32 := shaSum [108, 105, 110, 107] (linkP p q e)
def walkL (p : Id32) (q : Int) : List Ent → List Id32
  | [] => []
  | e :: l => linkE p q e :: walkL (linkE p q e) (q + 1) l
def lastL (p : Id32) (q : Int) (l : List Ent) : Id32 := (walkL p q l).getLastD p
theorem walkL_len : ∀ (l : List Ent) (p : Id32) (q : Int), (walkL p q l).length = l.length
  | [], _, _ => rfl
  | e :: l, p, q => by simp [walkL, walkL_len l]
theorem lastL_nil (p : Id32) (q : Int) : lastL p q [] = p := rfl
theorem lastL_cons (p : Id32) (q : Int) (e : Ent) (l : List Ent) : lastL p q (e :: l) = lastL (linkE p q e) (q + 1) l := by
  unfold lastL
  rw [walkL, List.getLastD_cons]
theorem walkL_app : ∀ (a b : List Ent) (p : Id32) (q : Int), walkL p q (a ++ b) = walkL p q a ++ walkL (lastL p q a) (q + a.length) b
  | [], b, p, q => by simp [walkL, lastL_nil]
  | e :: a, b, p, q => by
    rw [List.cons_append, walkL, walkL, walkL_app a b, lastL_cons, List.cons_append, List.length_cons, show q + 1 + (a.length : Int) = q + ((a.length + 1 : Nat) : Int) by omega]
theorem lastL_app : ∀ (a b : List Ent) (p : Id32) (q : Int), lastL p q (a ++ b) = lastL (lastL p q a) (q + a.length) b
  | [], b, p, q => by simp [lastL_nil]
  | e :: a, b, p, q => by
    rw [List.cons_append, lastL_cons, lastL_app a b, lastL_cons, List.length_cons, show q + 1 + (a.length : Int) = q + ((a.length + 1 : Nat) : Int) by omega]
theorem walkL_take (l : List Ent) (p : Id32) (q : Int) (i : Nat) (d : Ent) (h : i < l.length) : walkL p q (l.take (i + 1)) = walkL p q (l.take i) ++ [linkE (lastL p q (l.take i)) (q + i) (l.getD i d)] := by
  rw [take_snoc l i d h, walkL_app, walkL, walkL, List.length_take, Nat.min_eq_left (by omega)]
theorem lastL_take (l : List Ent) (p : Id32) (q : Int) (i : Nat) (d : Ent) (h : i < l.length) : lastL p q (l.take (i + 1)) = linkE (lastL p q (l.take i)) (q + i) (l.getD i d) := by
  rw [take_snoc l i d h, lastL_app, lastL_cons, lastL_nil, List.length_take, Nat.min_eq_left (by omega)]
def wordP (n q : Int) (h : Id32) : List (List UInt8) := [[119, 111, 114, 100], numB n.toNat, numB q.toNat, h.1]
def wordB (n q : Int) (h : Id32) : List UInt8 := listB (wordP n q h)
theorem word_tot (n q : Int) (h : Id32) (hn : inR n) (hq : inR q) : total (wordP n q h) ≤ 100 ∧ (wordP n q h).length = 4 := by
  have b1 := numB_length n.toNat (by have := hn.2; omega)
  have b2 := numB_length q.toNat (by have := hq.2; omega)
  refine ⟨?_, rfl⟩
  simp [wordP, total, h.2]; omega
def chkE (a : Au) (l : List Nd) : Bool := decide (0 ≤ a.node) && decide (a.node < (l.length : Int)) && decide (0 < a.seq) && verE (l.getD a.node.toNat nd0) (a.seq - 1) (wordB a.node a.seq a.hash) a.sig
theorem link_tot (p : Id32) (q : Int) (hq : inR q) {e : Ent} (he : e.ok) : total (linkP p q e) ≤ 5000 := by
  have b2 := numB_length q.toNat (by have := hq.2; omega)
  have := Ent.text_le he
  simp [linkP, total, p.2]; omega
end Go.VL

set_option linter.unusedVariables false
set_option linter.unusedSimpArgs false
open Go.RowKit
namespace Go.VL
variable {P : Program} {C : Cfg}
theorem Sp.ghost {gl : Nat → Option (List V)} {f : FuncId} {args : List V} {M : Mem} {n : Nat} {R R' : V → Mem → Nat → Prop} (h : Sp P gl f args M n R)
    (hR : ∀ r m k, R r m k → ∃ m', R' r m' k ∧ ∀ {E : Entry} {g : G} {ob : Pos → Option Nat} {s : Nat → V} {tm : Array Value} {w : World}, St E g ob s m tm w → g.mn = k → ∃ g', g'.mn = g.mn ∧ St E g' ob s m' tm w) : Sp P gl f args M n R' := by
  refine ⟨h.1, fun g ob w vs a b c d e k => (h.2 g ob w vs a b c d e k).mono fun _ w' ⟨v, r, m, g', ob', x1, x2, x3, st⟩ => ?_⟩
  obtain ⟨m', hr, hst⟩ := hR _ _ _ x2
  obtain ⟨g2, e1, st2⟩ := hst st rfl
  exact ⟨v, r, m', g2, ob', x1, by rw [e1]; exact hr, x3, st2⟩
end Go.VL

set_option linter.unusedVariables false
set_option linter.unusedSimpArgs false
set_option maxRecDepth 100000
set_option maxHeartbeats 4000000
open Go.RowKit
namespace Go.VL
def shA (l : List (List UInt8)) (h : (l.getD 2 []).length = 32) : Au := ⟨numT (l.getD 0 []), numT (l.getD 1 []), ⟨l.getD 2 [], h⟩, l.getD 3 []⟩
def auS (s : List UInt8) : Prop := sE s = 0 ∧ (sR s).length = 4 ∧ ((sR s).getD 2 []).length = 32
instance (s : List UInt8) : Decidable (auS s) := by unfold auS; exact inferInstance
def rdAu (s : List UInt8) : Au × Bool := if h : auS s then (if (shA (sR s) h.2.2).word = true then (shA (sR s) h.2.2, true) else (au0, false)) else (au0, false)
theorem au0_ok : au0.ok := by refine ⟨?_, ?_, ?_⟩ <;> (unfold au0; simp [inR])
theorem getD_le {l : List (List UInt8)} {n : Nat} (h : ∀ t ∈ l, t.length ≤ n) (i : Nat) : (l.getD i []).length ≤ n := by
  rw [List.getD_eq_getElem?_getD]
  cases hi : l[i]? with
  | none => simp
  | some t => exact h t (List.mem_of_getElem? hi)
theorem rdAu_ok (s : List UInt8) : (rdAu s).1.ok := by
  unfold rdAu
  split
  · rename_i h
    split
    · exact ⟨numT_inR _, numT_inR _, getD_le (fun t ht => by have := split_len h.1 ht; have := (split_back h.1).2; omega) 3⟩
    · exact au0_ok
  · exact au0_ok
theorem rdAu_back {s : List UInt8} (h : (rdAu s).2 = true) : (rdAu s).1.ok ∧ (rdAu s).1.word = true ∧ (rdAu s).1.text = s := by
  have ho := rdAu_ok s
  unfold rdAu at *
  split at h
  · rename_i hc
    rw [dif_pos hc] at ho ⊢
    split at h
    · rename_i hw
      rw [if_pos hw] at ho ⊢
      refine ⟨ho, hw, ?_⟩
      have hb := (split_back hc.1).1
      obtain ⟨a, b, c, d, hl⟩ := list4 hc.2.1
      have w := (Au.word_iff _).1 hw
      unfold Au.text Au.parts
      simp only [shA, hl, List.getD_cons_zero, List.getD_cons_succ] at w ⊢
      rw [← numT_back w.1.1, ← numT_back w.2.1, ← hl]
      exact hb.symm
    · cases h
  · cases h
theorem rdAu_no {s : List UInt8} (h : ¬ auS s) : rdAu s = (au0, false) := dif_neg h
theorem rdAu_eq {s a b d : List UInt8} {x : Id32} (h0 : sE s = 0) (hl : sR s = [a, b, x.1, d]) : rdAu s = if wholeOk a = true ∧ wholeOk b = true ∧ wholeN a < 5 ∧ d.length ≤ 1024 then (⟨wholeN a, wholeN b, x, d⟩, true) else (au0, false) := by
  have hS : auS s := ⟨h0, by rw [hl]; rfl, by rw [hl]; exact x.2⟩
  have e : shA (sR s) hS.2.2 = ⟨numT a, numT b, x, d⟩ := by
    simp only [shA, hl, List.getD_cons_zero, List.getD_cons_succ]
  unfold rdAu
  rw [dif_pos hS, e]
  have ra := wholeN_range a
  have rb := wholeN_range b
  by_cases h : wholeOk a = true ∧ wholeOk b = true ∧ wholeN a < 5 ∧ d.length ≤ 1024
  · obtain ⟨h1, h2, h3, h4⟩ := id h
    have na : numT a = wholeN a := if_pos h1
    have nb : numT b = wholeN b := if_pos h2
    rw [if_pos h, na, nb, if_pos]
    rw [Au.word_iff]
    exact ⟨⟨ra, h3⟩, rb, h4⟩
  · rw [if_neg h, if_neg]
    intro q
    rw [Au.word_iff] at q
    simp only at q
    apply h
    have wa : wholeOk a = true := by
      by_cases w : wholeOk a = true
      · exact w
      · have : numT a = -1 := if_neg w
        omega
    have wb : wholeOk b = true := by
      by_cases w : wholeOk b = true
      · exact w
      · have : numT b = -1 := if_neg w
        omega
    have na : numT a = wholeN a := if_pos wa
    exact ⟨wa, wb, by omega, q.2.2⟩
def shM (l : List (List UInt8)) (h : (l.getD 4 []).length = 32) : Mail :=
  ⟨numT (l.getD 0 []), numT (l.getD 1 []), numT (l.getD 2 []), numT (l.getD 3 []), ⟨l.getD 4 [], h⟩, numT (l.getD 5 []), l.getD 6 [], numT (l.getD 7 []), (rdAu (l.getD 8 [])).1, (sR (l.getD 9 [])).map fun t => (rdAu t).1, (rdAll (l.getD 10 [])).1, sR (l.getD 11 [])⟩
def mlS (s : List UInt8) : Prop := sE s = 0 ∧ (sR s).length = 12 ∧ ((sR s).getD 4 []).length = 32
instance (s : List UInt8) : Decidable (mlS s) := by unfold mlS; exact inferInstance
def mlR (l : List (List UInt8)) : Prop := (rdAu (l.getD 8 [])).2 = true ∧ sE (l.getD 9 []) = 0 ∧ (∀ t ∈ sR (l.getD 9 []), (rdAu t).2 = true) ∧ (rdAll (l.getD 10 [])).2 = true ∧ sE (l.getD 11 []) = 0
def rdrC (l : List (List UInt8)) (f : Bool) : List V := [.sl false 1 l.length (sv l), .flat (.bool f)]
instance (l : List (List UInt8)) : Decidable (mlR l) := by unfold mlR; exact inferInstance
def mail0 : Mail := ⟨0, 0, 0, 0, z32, 0, [], 0, au0, [], [], []⟩
def rdM (s : List UInt8) : Mail × Bool := if h : mlS s then (if mlR (sR s) ∧ (shM (sR s) h.2.2).good = true then (shM (sR s) h.2.2, true) else (mail0, false)) else (mail0, false)
end Go.VL

set_option linter.unusedVariables false
set_option linter.unusedSimpArgs false
set_option maxRecDepth 100000
namespace Go.VL
def wSum (n : Int) (l : List Int) : Int := l.foldl (fun a k => IntKind.i64.wrap (a + k)) n
def Ent.sz (e : Ent) : Nat := e.pay.length + e.sig.length + e.d.key.length + e.d.val.length
def Mail.n1 (m : Mail) : Int := wSum (IntKind.i64.wrap ((m.pay.length : Int) + (m.auth.sig.length : Int))) (m.auths.map fun a => (a.sig.length : Int))
def Mail.n2 (m : Mail) : Int := wSum m.n1 (m.ents.map fun e => (e.sz : Int))
def Mail.n3 (m : Mail) : Int := wSum m.n2 (m.proofs.map fun s => (s.length : Int))
def Mail.great (m : Mail) : Bool := decide (m.n3 > 8192) || decide ((m.auths.length : Int) > 20) || decide ((m.ents.length : Int) > 20) || decide ((m.proofs.length : Int) > 20)
end Go.VL

set_option linter.unusedVariables false
set_option linter.unusedSimpArgs false
open Go.RowKit
namespace Go.VL
variable {P : Program} {E : Entry} {w : World} {C : Cfg} {ops : List Oper}
theorem Does.callN (hdst : dstOk C.nt ops = true) (hG : GlOk E.g0 E.w0 C.gl) {o : Oper} {d : Nat} {s : Nat → V} {M M' : Mem} {n n' : Nat} {x : V} {f : FuncId} {xs : Array Operand} {ats : Array TypeId} (hd : o.dst = some d) (hw : wantedV ops s o = some true)
    (hop : o.op = .call { callee := .value (.func f), args := xs, argTypes := ats }) (hkn : ∀ y ∈ xs.toList, (evO s C.gl y).fz.known = true) {args : List V} (hargs : args = xs.toList.map fun y => (evO s C.gl y).fz)
    (hsp : Sp P C.gl f args M n (fun r m k => r = x ∧ m = M' ∧ k = n')) (hM : ∀ b, M' b = none → M b = none) : Does P E C ops o s M n x M' n' [] := by
  intro s2 h2 i ho K' Q a w hA hK
  have ho' : ops.toArray[i]? = some o := by simpa using ho
  obtain ⟨⟨g, ob, h1, hn, h3, h4⟩, hb⟩ := hA
  have hdl := dst_lt hdst ho d hd
  have hs2 : ∀ y ∈ xs.toList, evO s2 C.gl y = evO s C.gl y := fun y hy => evO_congr (gl := C.gl) h2 y (by rw [hop]; simp only [Op.operands, Call.operands]; simp at hy; simp [hy])
  unfold wpOp
  rw [ho']
  simp only
  rw [wantedV_rel h1.slot h4 (by rw [wantedV_congr h2]; exact hw) (dstOk_any hdst), if_pos rfl]
  left
  obtain ⟨⟨fn, hf, hnm, hbd⟩, hcall⟩ := hsp
  have hrun : (execOp a.eval o).run P w = .ok (.enter f (#[] ++ xs.map a.eval ++ #[])) w := by
    obtain ⟨dst, op, ty, pos, after, guard⟩ := o
    simp only at hop
    subst hop
    exact run_callFunc hf hnm hbd _
  simp only [Oper.wp, hrun, Oper.upon, Array.empty_append, Array.append_empty]
  have hc := hcall g (cellsOnly ob) w (xs.map a.eval) hn (hG.onto h1.onto) (by rw [hargs]; simp) (fun i hi => by
    rw [hargs] at hi ⊢
    simp only [List.length_map, Array.length_toList] at hi
    have e1 : (xs.toList.map fun x => (evO s C.gl x).fz).getD i .unk = (evO s2 C.gl xs[i]).fz := by
      rw [hs2 xs[i] (by simp)]
      simp [List.getD_eq_getElem?_getD, Array.getElem?_eq_getElem hi]
    have e2 : (xs.map a.eval).getD i undef = a.eval xs[i] := by simp [Array.getD_eq_getD_getElem?, Array.getElem?_eq_getElem hi]
    rw [e1, e2]
    have hne : evO s2 C.gl xs[i] ≠ .unk := by
      intro hu
      have := hkn xs[i] (by simp)
      rw [← hs2 xs[i] (by simp), hu] at this
      cases this
    exact (evO_rel (d := a.defers) h1.slot (hG.onto h1.onto) xs[i] hne).fz) (fun i j => rfl) h1.handOver
  refine hc.mono ?_
  rintro e w' ⟨v, r, mem', g', ob', rfl, ⟨rfl, rfl, hmn⟩, hru, hst⟩
  simp only
  refine hK _ _ ⟨?_, putS_big (dem_big hb) (dst_lt hdst ho)⟩
  rw [putD_nil, hd, put_some]
  exact AtF.filled ⟨g', joinOb ob ob' d, h1.comeBack hst (by rw [h4]; exact hdl) hru, hmn, h3, by simpa using h4⟩ hM

theorem CallB.make {Θ : CtxB P E C} {k cls : Nat} {o : Oper} {rest : List Oper} {d : Nat} {f : FuncId} {args : List V} {σ : S} {K : S → Prop} (z : List V) (hs : ∀ M n, Sp P C.gl f args M n (fun r m k => r = .bp n 0 ∧ m = upd M n (some z) ∧ k = n + 1)) (hc : cls = 3) (hk : ∀ x ∈ args, x.known = true)
    (h : WRB Θ (k + 1) rest { sl := (d, .bp σ.mn 0) :: σ.sl, mem := upd σ.mem σ.mn (some z), mn := σ.mn + 1 } K) : CallB Θ k cls o rest d f args σ K := by
  rintro hn hd' hcl hd hw ⟨xs, ats, hop, rfl⟩
  obtain ⟨k1, k2⟩ := drop_cons hd'
  have hdo : ∀ M2 n2, Does P E C Θ.ops o (lk σ.sl) M2 n2 (.bp n2 0) (upd M2 n2 (some z)) (n2 + 1) [] := fun M2 n2 => by
    exact Does.callN Θ.dst Θ.G hd hw hop (fun y hy => hk _ (List.mem_map.2 ⟨y, hy, rfl⟩)) rfl (hs M2 n2) (fun _ h => upd_none h)
  refine ⟨.bp σ.mn 0, upd σ.mem σ.mn (some z), σ.mn + 1, [], ?_, ?_⟩
  · rw [hcl]; subst hc
    exact ⟨hn, nodm, _, rfl, rfl, rfl, hdo⟩
  · have := h (by show Θ.n0 ≤ σ.mn + 1; omega) k2
    simp only [lk_cons] at this
    rw [putD_nil, hd]
    exact this
theorem km {Θ : CtxB P E C} {k cls : Nat} {o : Oper} {rest ops : List Oper} {d : Nat} {f : FuncId} {args : List V} {σ : S} {K : S → Prop} {cl : Cl} {n0 : Nat} {z : List V} (hs : ∀ M n, Sp P C.gl f args M n (fun r m k => r = .bp n 0 ∧ m = upd M n (some z) ∧ k = n + 1)) (hk : args.all V.known = true) (hc : cls = 3) (hΘ : Θ.ops = ops) (hcl : Θ.cl = cl) (h0 : Θ.n0 = n0)
    (h : PostB Θ (runB C n0 cl (ops.map (·.dst)) (k + 1) rest { sl := (d, .bp σ.mn 0) :: σ.sl, mem := upd σ.mem σ.mn (some z), mn := σ.mn + 1 } True) K) : CallB Θ k cls o rest d f args σ K :=
  CallB.make z hs hc (all_known hk) (WRB.go (congrArg (List.map (·.dst)) hΘ.symm) hcl.symm h0.symm h)
end Go.VL

set_option linter.unusedVariables false
set_option linter.unusedSimpArgs false
set_option maxRecDepth 100000
set_option maxHeartbeats 4000000
open Go.RowKit
namespace Go.VL
def rawM (a b c d : List UInt8) (x : Id32) (f g i j k m n : List UInt8) : Mail :=
  ⟨wholeN a, wholeN b, wholeN c, wholeN d, x, wholeN f, g, wholeN i, (rdAu j).1, (sR k).map fun t => (rdAu t).1, (rdAll m).1, sR n⟩
def rawF (a b c d e f i j k n : List UInt8) : Prop := wholeOk a = true ∧ wholeOk b = true ∧ wholeOk c = true ∧ wholeOk d = true ∧ e.length = 32 ∧ wholeOk f = true ∧ wholeOk i = true ∧ (rdAu j).2 = true ∧ sE k = 0 ∧ (∀ t ∈ sR k, (rdAu t).2 = true) ∧ sE n = 0
instance (a b c d e f i j k n : List UInt8) : Decidable (rawF a b c d e f i j k n) := by unfold rawF; exact inferInstance
theorem rdAu_sh {s a b d : List UInt8} {x : Id32} (h0 : sE s = 0) (hl : sR s = [a, b, x.1, d]) : rdAu s = if (⟨numT a, numT b, x, d⟩ : Au).word = true then (⟨numT a, numT b, x, d⟩, true) else (au0, false) := by
  have hS : auS s := ⟨h0, by rw [hl]; rfl, by rw [hl]; exact x.2⟩
  have e : shA (sR s) hS.2.2 = ⟨numT a, numT b, x, d⟩ := by
    simp only [shA, hl, List.getD_cons_zero, List.getD_cons_succ]
  unfold rdAu
  rw [dif_pos hS, e]
def shR (a b c d : List UInt8) (x : Id32) (f g i j k m n : List UInt8) : Mail :=
  ⟨numT a, numT b, numT c, numT d, x, numT f, g, numT i, (rdAu j).1, (sR k).map fun t => (rdAu t).1, (rdAll m).1, sR n⟩
end Go.VL
