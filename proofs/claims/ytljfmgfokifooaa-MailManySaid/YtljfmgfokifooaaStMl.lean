/- Part StMl of the proof: made for this claim. -/
import Derived.Test.YtljfmgfokifooaaStAu
set_option linter.unusedVariables false
set_option linter.unusedSimpArgs false
namespace Go.VL

structure Ml where
  kind : Int
  from_ : Int
  to : Int
  seq : Int
  prev : Id32
  mask : Int
  pay : List UInt8
  other : Int
  auth : Au
  auths : V
  ents : V
  proofs : V
def Ml.c (o : Ml) : List V := [.flat (.int .i64 o.kind)] ++ ([.flat (.int .i64 o.from_)] ++ ([.flat (.int .i64 o.to)] ++ ([.flat (.int .i64 o.seq)] ++ (bv o.prev.1 ++ ([.flat (.int .i64 o.mask)] ++ ([.flat (.string (bs o.pay))] ++ ([.flat (.int .i64 o.other)] ++ (o.auth.c ++ ([o.auths] ++ ([o.ents] ++ ([o.proofs])))))))))))
theorem Ml.c_len (o : Ml) : o.c.length = 77 := by
  simp [Ml.c, Au.c_len, bv_length, o.prev.2]
theorem Ml.tk (o : Ml) : o.c.take 77 = o.c := List.take_of_length_le (by rw [Ml.c_len]; omega)
theorem Ml.wh (o p : Ml) : putV o.c 0 p.c = p.c := putV_all (by rw [Ml.c_len, Ml.c_len])
theorem Ml.split0 (o : Ml) : o.c = ([]) ++ (([.flat (.int .i64 o.kind)]) ++ ([.flat (.int .i64 o.from_)] ++ ([.flat (.int .i64 o.to)] ++ ([.flat (.int .i64 o.seq)] ++ (bv o.prev.1 ++ ([.flat (.int .i64 o.mask)] ++ ([.flat (.string (bs o.pay))] ++ ([.flat (.int .i64 o.other)] ++ (o.auth.c ++ ([o.auths] ++ ([o.ents] ++ ([o.proofs])))))))))))) := by simp [Ml.c]
theorem Ml.r0 (o : Ml) : o.c.getD 0 .unk = .flat (.int .i64 o.kind) := by
  have := getD_mid ([]) (.flat (.int .i64 o.kind)) ([.flat (.int .i64 o.from_)] ++ ([.flat (.int .i64 o.to)] ++ ([.flat (.int .i64 o.seq)] ++ (bv o.prev.1 ++ ([.flat (.int .i64 o.mask)] ++ ([.flat (.string (bs o.pay))] ++ ([.flat (.int .i64 o.other)] ++ (o.auth.c ++ ([o.auths] ++ ([o.ents] ++ ([o.proofs]))))))))))) 0 (by simp [Au.c_len, bv_length])
  rw [← Ml.split0] at this; simpa using this
theorem Ml.w0 (o : Ml) (x : Int) : putV o.c 0 ([.flat (.int .i64 x)]) = ({ o with kind := x } : Ml).c := by
  have := putV_mid ([]) ([.flat (.int .i64 o.kind)]) ([.flat (.int .i64 o.from_)] ++ ([.flat (.int .i64 o.to)] ++ ([.flat (.int .i64 o.seq)] ++ (bv o.prev.1 ++ ([.flat (.int .i64 o.mask)] ++ ([.flat (.string (bs o.pay))] ++ ([.flat (.int .i64 o.other)] ++ (o.auth.c ++ ([o.auths] ++ ([o.ents] ++ ([o.proofs]))))))))))) ([.flat (.int .i64 x)]) 0 (by simp [Au.c_len, bv_length]) (by rw [show ([.flat (.int .i64 x)] : List V).length = 1 from by simp [Au.c_len, bv_length], show ([.flat (.int .i64 o.kind)] : List V).length = 1 from by simp [Au.c_len, bv_length]])
  rw [← Ml.split0] at this; rw [this]; simp [Ml.c]
theorem Ml.split1 (o : Ml) : o.c = ([.flat (.int .i64 o.kind)]) ++ (([.flat (.int .i64 o.from_)]) ++ ([.flat (.int .i64 o.to)] ++ ([.flat (.int .i64 o.seq)] ++ (bv o.prev.1 ++ ([.flat (.int .i64 o.mask)] ++ ([.flat (.string (bs o.pay))] ++ ([.flat (.int .i64 o.other)] ++ (o.auth.c ++ ([o.auths] ++ ([o.ents] ++ ([o.proofs]))))))))))) := by simp [Ml.c]
theorem Ml.r1 (o : Ml) : o.c.getD 1 .unk = .flat (.int .i64 o.from_) := by
  have := getD_mid ([.flat (.int .i64 o.kind)]) (.flat (.int .i64 o.from_)) ([.flat (.int .i64 o.to)] ++ ([.flat (.int .i64 o.seq)] ++ (bv o.prev.1 ++ ([.flat (.int .i64 o.mask)] ++ ([.flat (.string (bs o.pay))] ++ ([.flat (.int .i64 o.other)] ++ (o.auth.c ++ ([o.auths] ++ ([o.ents] ++ ([o.proofs])))))))))) 1 (by simp [Au.c_len, bv_length])
  rw [← Ml.split1] at this; simpa using this
theorem Ml.w1 (o : Ml) (x : Int) : putV o.c 1 ([.flat (.int .i64 x)]) = ({ o with from_ := x } : Ml).c := by
  have := putV_mid ([.flat (.int .i64 o.kind)]) ([.flat (.int .i64 o.from_)]) ([.flat (.int .i64 o.to)] ++ ([.flat (.int .i64 o.seq)] ++ (bv o.prev.1 ++ ([.flat (.int .i64 o.mask)] ++ ([.flat (.string (bs o.pay))] ++ ([.flat (.int .i64 o.other)] ++ (o.auth.c ++ ([o.auths] ++ ([o.ents] ++ ([o.proofs])))))))))) ([.flat (.int .i64 x)]) 1 (by simp [Au.c_len, bv_length]) (by rw [show ([.flat (.int .i64 x)] : List V).length = 1 from by simp [Au.c_len, bv_length], show ([.flat (.int .i64 o.from_)] : List V).length = 1 from by simp [Au.c_len, bv_length]])
  rw [← Ml.split1] at this; rw [this]; simp [Ml.c]
theorem Ml.split2 (o : Ml) : o.c = ([.flat (.int .i64 o.kind)] ++ [.flat (.int .i64 o.from_)]) ++ (([.flat (.int .i64 o.to)]) ++ ([.flat (.int .i64 o.seq)] ++ (bv o.prev.1 ++ ([.flat (.int .i64 o.mask)] ++ ([.flat (.string (bs o.pay))] ++ ([.flat (.int .i64 o.other)] ++ (o.auth.c ++ ([o.auths] ++ ([o.ents] ++ ([o.proofs])))))))))) := by simp [Ml.c]
theorem Ml.r2 (o : Ml) : o.c.getD 2 .unk = .flat (.int .i64 o.to) := by
  have := getD_mid ([.flat (.int .i64 o.kind)] ++ [.flat (.int .i64 o.from_)]) (.flat (.int .i64 o.to)) ([.flat (.int .i64 o.seq)] ++ (bv o.prev.1 ++ ([.flat (.int .i64 o.mask)] ++ ([.flat (.string (bs o.pay))] ++ ([.flat (.int .i64 o.other)] ++ (o.auth.c ++ ([o.auths] ++ ([o.ents] ++ ([o.proofs]))))))))) 2 (by simp [Au.c_len, bv_length])
  rw [← Ml.split2] at this; simpa using this
theorem Ml.w2 (o : Ml) (x : Int) : putV o.c 2 ([.flat (.int .i64 x)]) = ({ o with to := x } : Ml).c := by
  have := putV_mid ([.flat (.int .i64 o.kind)] ++ [.flat (.int .i64 o.from_)]) ([.flat (.int .i64 o.to)]) ([.flat (.int .i64 o.seq)] ++ (bv o.prev.1 ++ ([.flat (.int .i64 o.mask)] ++ ([.flat (.string (bs o.pay))] ++ ([.flat (.int .i64 o.other)] ++ (o.auth.c ++ ([o.auths] ++ ([o.ents] ++ ([o.proofs]))))))))) ([.flat (.int .i64 x)]) 2 (by simp [Au.c_len, bv_length]) (by rw [show ([.flat (.int .i64 x)] : List V).length = 1 from by simp [Au.c_len, bv_length], show ([.flat (.int .i64 o.to)] : List V).length = 1 from by simp [Au.c_len, bv_length]])
  rw [← Ml.split2] at this; rw [this]; simp [Ml.c]
theorem Ml.split3 (o : Ml) : o.c = ([.flat (.int .i64 o.kind)] ++ [.flat (.int .i64 o.from_)] ++ [.flat (.int .i64 o.to)]) ++ (([.flat (.int .i64 o.seq)]) ++ (bv o.prev.1 ++ ([.flat (.int .i64 o.mask)] ++ ([.flat (.string (bs o.pay))] ++ ([.flat (.int .i64 o.other)] ++ (o.auth.c ++ ([o.auths] ++ ([o.ents] ++ ([o.proofs]))))))))) := by simp [Ml.c]
theorem Ml.r3 (o : Ml) : o.c.getD 3 .unk = .flat (.int .i64 o.seq) := by
  have := getD_mid ([.flat (.int .i64 o.kind)] ++ [.flat (.int .i64 o.from_)] ++ [.flat (.int .i64 o.to)]) (.flat (.int .i64 o.seq)) (bv o.prev.1 ++ ([.flat (.int .i64 o.mask)] ++ ([.flat (.string (bs o.pay))] ++ ([.flat (.int .i64 o.other)] ++ (o.auth.c ++ ([o.auths] ++ ([o.ents] ++ ([o.proofs])))))))) 3 (by simp [Au.c_len, bv_length])
  rw [← Ml.split3] at this; simpa using this
theorem Ml.w3 (o : Ml) (x : Int) : putV o.c 3 ([.flat (.int .i64 x)]) = ({ o with seq := x } : Ml).c := by
  have := putV_mid ([.flat (.int .i64 o.kind)] ++ [.flat (.int .i64 o.from_)] ++ [.flat (.int .i64 o.to)]) ([.flat (.int .i64 o.seq)]) (bv o.prev.1 ++ ([.flat (.int .i64 o.mask)] ++ ([.flat (.string (bs o.pay))] ++ ([.flat (.int .i64 o.other)] ++ (o.auth.c ++ ([o.auths] ++ ([o.ents] ++ ([o.proofs])))))))) ([.flat (.int .i64 x)]) 3 (by simp [Au.c_len, bv_length]) (by rw [show ([.flat (.int .i64 x)] : List V).length = 1 from by simp [Au.c_len, bv_length], show ([.flat (.int .i64 o.seq)] : List V).length = 1 from by simp [Au.c_len, bv_length]])
  rw [← Ml.split3] at this; rw [this]; simp [Ml.c]
theorem Ml.split4 (o : Ml) : o.c = ([.flat (.int .i64 o.kind)] ++ [.flat (.int .i64 o.from_)] ++ [.flat (.int .i64 o.to)] ++ [.flat (.int .i64 o.seq)]) ++ ((bv o.prev.1) ++ ([.flat (.int .i64 o.mask)] ++ ([.flat (.string (bs o.pay))] ++ ([.flat (.int .i64 o.other)] ++ (o.auth.c ++ ([o.auths] ++ ([o.ents] ++ ([o.proofs])))))))) := by simp [Ml.c]
theorem Ml.r4 (o : Ml) : (o.c.drop 4).take 32 = bv o.prev.1 := by
  have := drop_take_mid ([.flat (.int .i64 o.kind)] ++ [.flat (.int .i64 o.from_)] ++ [.flat (.int .i64 o.to)] ++ [.flat (.int .i64 o.seq)]) (bv o.prev.1) ([.flat (.int .i64 o.mask)] ++ ([.flat (.string (bs o.pay))] ++ ([.flat (.int .i64 o.other)] ++ (o.auth.c ++ ([o.auths] ++ ([o.ents] ++ ([o.proofs]))))))) 4 32 (by simp [Au.c_len, bv_length]) (by simp [Au.c_len, bv_length, o.prev.2])
  rw [← Ml.split4] at this; simpa using this
theorem Ml.w4 (o : Ml) (x : Id32) : putV o.c 4 (bv x.1) = ({ o with prev := x } : Ml).c := by
  have := putV_mid ([.flat (.int .i64 o.kind)] ++ [.flat (.int .i64 o.from_)] ++ [.flat (.int .i64 o.to)] ++ [.flat (.int .i64 o.seq)]) (bv o.prev.1) ([.flat (.int .i64 o.mask)] ++ ([.flat (.string (bs o.pay))] ++ ([.flat (.int .i64 o.other)] ++ (o.auth.c ++ ([o.auths] ++ ([o.ents] ++ ([o.proofs]))))))) (bv x.1) 4 (by simp [Au.c_len, bv_length]) (by rw [show (bv x.1 : List V).length = 32 from by simp [Au.c_len, bv_length, x.2], show (bv o.prev.1 : List V).length = 32 from by simp [Au.c_len, bv_length, o.prev.2]])
  rw [← Ml.split4] at this; rw [this]; simp [Ml.c]
theorem Ml.split5 (o : Ml) : o.c = ([.flat (.int .i64 o.kind)] ++ [.flat (.int .i64 o.from_)] ++ [.flat (.int .i64 o.to)] ++ [.flat (.int .i64 o.seq)] ++ bv o.prev.1) ++ (([.flat (.int .i64 o.mask)]) ++ ([.flat (.string (bs o.pay))] ++ ([.flat (.int .i64 o.other)] ++ (o.auth.c ++ ([o.auths] ++ ([o.ents] ++ ([o.proofs]))))))) := by simp [Ml.c]
theorem Ml.r5 (o : Ml) : o.c.getD 36 .unk = .flat (.int .i64 o.mask) := by
  have := getD_mid ([.flat (.int .i64 o.kind)] ++ [.flat (.int .i64 o.from_)] ++ [.flat (.int .i64 o.to)] ++ [.flat (.int .i64 o.seq)] ++ bv o.prev.1) (.flat (.int .i64 o.mask)) ([.flat (.string (bs o.pay))] ++ ([.flat (.int .i64 o.other)] ++ (o.auth.c ++ ([o.auths] ++ ([o.ents] ++ ([o.proofs])))))) 36 (by simp [Au.c_len, bv_length, o.prev.2])
  rw [← Ml.split5] at this; simpa using this
theorem Ml.w5 (o : Ml) (x : Int) : putV o.c 36 ([.flat (.int .i64 x)]) = ({ o with mask := x } : Ml).c := by
  have := putV_mid ([.flat (.int .i64 o.kind)] ++ [.flat (.int .i64 o.from_)] ++ [.flat (.int .i64 o.to)] ++ [.flat (.int .i64 o.seq)] ++ bv o.prev.1) ([.flat (.int .i64 o.mask)]) ([.flat (.string (bs o.pay))] ++ ([.flat (.int .i64 o.other)] ++ (o.auth.c ++ ([o.auths] ++ ([o.ents] ++ ([o.proofs])))))) ([.flat (.int .i64 x)]) 36 (by simp [Au.c_len, bv_length, o.prev.2]) (by rw [show ([.flat (.int .i64 x)] : List V).length = 1 from by simp [Au.c_len, bv_length], show ([.flat (.int .i64 o.mask)] : List V).length = 1 from by simp [Au.c_len, bv_length]])
  rw [← Ml.split5] at this; rw [this]; simp [Ml.c]
theorem Ml.split6 (o : Ml) : o.c = ([.flat (.int .i64 o.kind)] ++ [.flat (.int .i64 o.from_)] ++ [.flat (.int .i64 o.to)] ++ [.flat (.int .i64 o.seq)] ++ bv o.prev.1 ++ [.flat (.int .i64 o.mask)]) ++ (([.flat (.string (bs o.pay))]) ++ ([.flat (.int .i64 o.other)] ++ (o.auth.c ++ ([o.auths] ++ ([o.ents] ++ ([o.proofs])))))) := by simp [Ml.c]
theorem Ml.r6 (o : Ml) : o.c.getD 37 .unk = .flat (.string (bs o.pay)) := by
  have := getD_mid ([.flat (.int .i64 o.kind)] ++ [.flat (.int .i64 o.from_)] ++ [.flat (.int .i64 o.to)] ++ [.flat (.int .i64 o.seq)] ++ bv o.prev.1 ++ [.flat (.int .i64 o.mask)]) (.flat (.string (bs o.pay))) ([.flat (.int .i64 o.other)] ++ (o.auth.c ++ ([o.auths] ++ ([o.ents] ++ ([o.proofs]))))) 37 (by simp [Au.c_len, bv_length, o.prev.2])
  rw [← Ml.split6] at this; simpa using this
theorem Ml.w6 (o : Ml) (x : List UInt8) : putV o.c 37 ([.flat (.string (bs x))]) = ({ o with pay := x } : Ml).c := by
  have := putV_mid ([.flat (.int .i64 o.kind)] ++ [.flat (.int .i64 o.from_)] ++ [.flat (.int .i64 o.to)] ++ [.flat (.int .i64 o.seq)] ++ bv o.prev.1 ++ [.flat (.int .i64 o.mask)]) ([.flat (.string (bs o.pay))]) ([.flat (.int .i64 o.other)] ++ (o.auth.c ++ ([o.auths] ++ ([o.ents] ++ ([o.proofs]))))) ([.flat (.string (bs x))]) 37 (by simp [Au.c_len, bv_length, o.prev.2]) (by rw [show ([.flat (.string (bs x))] : List V).length = 1 from by simp [Au.c_len, bv_length], show ([.flat (.string (bs o.pay))] : List V).length = 1 from by simp [Au.c_len, bv_length]])
  rw [← Ml.split6] at this; rw [this]; simp [Ml.c]
theorem Ml.split7 (o : Ml) : o.c = ([.flat (.int .i64 o.kind)] ++ [.flat (.int .i64 o.from_)] ++ [.flat (.int .i64 o.to)] ++ [.flat (.int .i64 o.seq)] ++ bv o.prev.1 ++ [.flat (.int .i64 o.mask)] ++ [.flat (.string (bs o.pay))]) ++ (([.flat (.int .i64 o.other)]) ++ (o.auth.c ++ ([o.auths] ++ ([o.ents] ++ ([o.proofs]))))) := by simp [Ml.c]
theorem Ml.r7 (o : Ml) : o.c.getD 38 .unk = .flat (.int .i64 o.other) := by
  have := getD_mid ([.flat (.int .i64 o.kind)] ++ [.flat (.int .i64 o.from_)] ++ [.flat (.int .i64 o.to)] ++ [.flat (.int .i64 o.seq)] ++ bv o.prev.1 ++ [.flat (.int .i64 o.mask)] ++ [.flat (.string (bs o.pay))]) (.flat (.int .i64 o.other)) (o.auth.c ++ ([o.auths] ++ ([o.ents] ++ ([o.proofs])))) 38 (by simp [Au.c_len, bv_length, o.prev.2])
  rw [← Ml.split7] at this; simpa using this
theorem Ml.w7 (o : Ml) (x : Int) : putV o.c 38 ([.flat (.int .i64 x)]) = ({ o with other := x } : Ml).c := by
  have := putV_mid ([.flat (.int .i64 o.kind)] ++ [.flat (.int .i64 o.from_)] ++ [.flat (.int .i64 o.to)] ++ [.flat (.int .i64 o.seq)] ++ bv o.prev.1 ++ [.flat (.int .i64 o.mask)] ++ [.flat (.string (bs o.pay))]) ([.flat (.int .i64 o.other)]) (o.auth.c ++ ([o.auths] ++ ([o.ents] ++ ([o.proofs])))) ([.flat (.int .i64 x)]) 38 (by simp [Au.c_len, bv_length, o.prev.2]) (by rw [show ([.flat (.int .i64 x)] : List V).length = 1 from by simp [Au.c_len, bv_length], show ([.flat (.int .i64 o.other)] : List V).length = 1 from by simp [Au.c_len, bv_length]])
  rw [← Ml.split7] at this; rw [this]; simp [Ml.c]
theorem Ml.split8 (o : Ml) : o.c = ([.flat (.int .i64 o.kind)] ++ [.flat (.int .i64 o.from_)] ++ [.flat (.int .i64 o.to)] ++ [.flat (.int .i64 o.seq)] ++ bv o.prev.1 ++ [.flat (.int .i64 o.mask)] ++ [.flat (.string (bs o.pay))] ++ [.flat (.int .i64 o.other)]) ++ ((o.auth.c) ++ ([o.auths] ++ ([o.ents] ++ ([o.proofs])))) := by simp [Ml.c]
theorem Ml.r8 (o : Ml) : (o.c.drop 39).take 35 = o.auth.c := by
  have := drop_take_mid ([.flat (.int .i64 o.kind)] ++ [.flat (.int .i64 o.from_)] ++ [.flat (.int .i64 o.to)] ++ [.flat (.int .i64 o.seq)] ++ bv o.prev.1 ++ [.flat (.int .i64 o.mask)] ++ [.flat (.string (bs o.pay))] ++ [.flat (.int .i64 o.other)]) (o.auth.c) ([o.auths] ++ ([o.ents] ++ ([o.proofs]))) 39 35 (by simp [Au.c_len, bv_length, o.prev.2]) (by simp [Au.c_len, bv_length])
  rw [← Ml.split8] at this; simpa using this
theorem Ml.w8 (o : Ml) (x : Au) : putV o.c 39 (x.c) = ({ o with auth := x } : Ml).c := by
  have := putV_mid ([.flat (.int .i64 o.kind)] ++ [.flat (.int .i64 o.from_)] ++ [.flat (.int .i64 o.to)] ++ [.flat (.int .i64 o.seq)] ++ bv o.prev.1 ++ [.flat (.int .i64 o.mask)] ++ [.flat (.string (bs o.pay))] ++ [.flat (.int .i64 o.other)]) (o.auth.c) ([o.auths] ++ ([o.ents] ++ ([o.proofs]))) (x.c) 39 (by simp [Au.c_len, bv_length, o.prev.2]) (by rw [show (x.c : List V).length = 35 from by simp [Au.c_len, bv_length], show (o.auth.c : List V).length = 35 from by simp [Au.c_len, bv_length]])
  rw [← Ml.split8] at this; rw [this]; simp [Ml.c]
theorem Ml.r8_0 (o : Ml) : o.c.getD 39 .unk = .flat (.int .i64 o.auth.node) := by
  have := getD_in o.c 39 35 0 (by omega)
  rw [this, show (o.c.drop 39).take 35 = o.auth.c from by simpa using Ml.r8 o]; exact Au.r0 _
theorem Ml.r8_1 (o : Ml) : o.c.getD 40 .unk = .flat (.int .i64 o.auth.seq) := by
  have := getD_in o.c 39 35 1 (by omega)
  rw [this, show (o.c.drop 39).take 35 = o.auth.c from by simpa using Ml.r8 o]; exact Au.r1 _
theorem Ml.r8_2 (o : Ml) : (o.c.drop 41).take 32 = bv o.auth.hash.1 := by
  have := drop_take_in o.c 39 35 2 32 (by omega)
  rw [this, show (o.c.drop 39).take 35 = o.auth.c from by simpa using Ml.r8 o]; exact Au.r2 _
theorem Ml.r8_3 (o : Ml) : o.c.getD 73 .unk = .flat (.string (bs o.auth.sig)) := by
  have := getD_in o.c 39 35 34 (by omega)
  rw [this, show (o.c.drop 39).take 35 = o.auth.c from by simpa using Ml.r8 o]; exact Au.r3 _
theorem Ml.split9 (o : Ml) : o.c = ([.flat (.int .i64 o.kind)] ++ [.flat (.int .i64 o.from_)] ++ [.flat (.int .i64 o.to)] ++ [.flat (.int .i64 o.seq)] ++ bv o.prev.1 ++ [.flat (.int .i64 o.mask)] ++ [.flat (.string (bs o.pay))] ++ [.flat (.int .i64 o.other)] ++ o.auth.c) ++ (([o.auths]) ++ ([o.ents] ++ ([o.proofs]))) := by simp [Ml.c]
theorem Ml.r9 (o : Ml) : o.c.getD 74 .unk = o.auths := by
  have := getD_mid ([.flat (.int .i64 o.kind)] ++ [.flat (.int .i64 o.from_)] ++ [.flat (.int .i64 o.to)] ++ [.flat (.int .i64 o.seq)] ++ bv o.prev.1 ++ [.flat (.int .i64 o.mask)] ++ [.flat (.string (bs o.pay))] ++ [.flat (.int .i64 o.other)] ++ o.auth.c) (o.auths) ([o.ents] ++ ([o.proofs])) 74 (by simp [Au.c_len, bv_length, o.prev.2])
  rw [← Ml.split9] at this; simpa using this
theorem Ml.w9 (o : Ml) (x : V) : putV o.c 74 ([x]) = ({ o with auths := x } : Ml).c := by
  have := putV_mid ([.flat (.int .i64 o.kind)] ++ [.flat (.int .i64 o.from_)] ++ [.flat (.int .i64 o.to)] ++ [.flat (.int .i64 o.seq)] ++ bv o.prev.1 ++ [.flat (.int .i64 o.mask)] ++ [.flat (.string (bs o.pay))] ++ [.flat (.int .i64 o.other)] ++ o.auth.c) ([o.auths]) ([o.ents] ++ ([o.proofs])) ([x]) 74 (by simp [Au.c_len, bv_length, o.prev.2]) (by rw [show ([x] : List V).length = 1 from by simp [Au.c_len, bv_length], show ([o.auths] : List V).length = 1 from by simp [Au.c_len, bv_length]])
  rw [← Ml.split9] at this; rw [this]; simp [Ml.c]
theorem Ml.split10 (o : Ml) : o.c = ([.flat (.int .i64 o.kind)] ++ [.flat (.int .i64 o.from_)] ++ [.flat (.int .i64 o.to)] ++ [.flat (.int .i64 o.seq)] ++ bv o.prev.1 ++ [.flat (.int .i64 o.mask)] ++ [.flat (.string (bs o.pay))] ++ [.flat (.int .i64 o.other)] ++ o.auth.c ++ [o.auths]) ++ (([o.ents]) ++ ([o.proofs])) := by simp [Ml.c]
theorem Ml.r10 (o : Ml) : o.c.getD 75 .unk = o.ents := by
  have := getD_mid ([.flat (.int .i64 o.kind)] ++ [.flat (.int .i64 o.from_)] ++ [.flat (.int .i64 o.to)] ++ [.flat (.int .i64 o.seq)] ++ bv o.prev.1 ++ [.flat (.int .i64 o.mask)] ++ [.flat (.string (bs o.pay))] ++ [.flat (.int .i64 o.other)] ++ o.auth.c ++ [o.auths]) (o.ents) ([o.proofs]) 75 (by simp [Au.c_len, bv_length, o.prev.2])
  rw [← Ml.split10] at this; simpa using this
theorem Ml.w10 (o : Ml) (x : V) : putV o.c 75 ([x]) = ({ o with ents := x } : Ml).c := by
  have := putV_mid ([.flat (.int .i64 o.kind)] ++ [.flat (.int .i64 o.from_)] ++ [.flat (.int .i64 o.to)] ++ [.flat (.int .i64 o.seq)] ++ bv o.prev.1 ++ [.flat (.int .i64 o.mask)] ++ [.flat (.string (bs o.pay))] ++ [.flat (.int .i64 o.other)] ++ o.auth.c ++ [o.auths]) ([o.ents]) ([o.proofs]) ([x]) 75 (by simp [Au.c_len, bv_length, o.prev.2]) (by rw [show ([x] : List V).length = 1 from by simp [Au.c_len, bv_length], show ([o.ents] : List V).length = 1 from by simp [Au.c_len, bv_length]])
  rw [← Ml.split10] at this; rw [this]; simp [Ml.c]
theorem Ml.split11 (o : Ml) : o.c = ([.flat (.int .i64 o.kind)] ++ [.flat (.int .i64 o.from_)] ++ [.flat (.int .i64 o.to)] ++ [.flat (.int .i64 o.seq)] ++ bv o.prev.1 ++ [.flat (.int .i64 o.mask)] ++ [.flat (.string (bs o.pay))] ++ [.flat (.int .i64 o.other)] ++ o.auth.c ++ [o.auths] ++ [o.ents]) ++ (([o.proofs]) ++ ([])) := by simp [Ml.c]
theorem Ml.r11 (o : Ml) : o.c.getD 76 .unk = o.proofs := by
  have := getD_mid ([.flat (.int .i64 o.kind)] ++ [.flat (.int .i64 o.from_)] ++ [.flat (.int .i64 o.to)] ++ [.flat (.int .i64 o.seq)] ++ bv o.prev.1 ++ [.flat (.int .i64 o.mask)] ++ [.flat (.string (bs o.pay))] ++ [.flat (.int .i64 o.other)] ++ o.auth.c ++ [o.auths] ++ [o.ents]) (o.proofs) ([]) 76 (by simp [Au.c_len, bv_length, o.prev.2])
  rw [← Ml.split11] at this; simpa using this
theorem Ml.w11 (o : Ml) (x : V) : putV o.c 76 ([x]) = ({ o with proofs := x } : Ml).c := by
  have := putV_mid ([.flat (.int .i64 o.kind)] ++ [.flat (.int .i64 o.from_)] ++ [.flat (.int .i64 o.to)] ++ [.flat (.int .i64 o.seq)] ++ bv o.prev.1 ++ [.flat (.int .i64 o.mask)] ++ [.flat (.string (bs o.pay))] ++ [.flat (.int .i64 o.other)] ++ o.auth.c ++ [o.auths] ++ [o.ents]) ([o.proofs]) ([]) ([x]) 76 (by simp [Au.c_len, bv_length, o.prev.2]) (by rw [show ([x] : List V).length = 1 from by simp [Au.c_len, bv_length], show ([o.proofs] : List V).length = 1 from by simp [Au.c_len, bv_length]])
  rw [← Ml.split11] at this; rw [this]; simp [Ml.c]
def Ml.z (o : Ml) : Ml := { o with auths := o.auths.fz, ents := o.ents.fz, proofs := o.proofs.fz }
theorem Ml.fz (o : Ml) : o.c.map V.fz = o.z.c := by simp [Ml.c, V.fz, bv_fz, Au.fz, Ml.z]
theorem Ml.own1 (o : Ml) : (∀ z ∈ o.c, noOwnB z = true) = (noOwnB o.auths = true ∧ noOwnB o.ents = true ∧ noOwnB o.proofs = true) := by
  simp only [Ml.c, List.forall_mem_append, List.forall_mem_singleton, own1_bv, Au.own1]; simp [noOwnB, and_assoc]
theorem Ml.own2 (o : Ml) : (∀ z ∈ o.c, noOwnB z = true ∧ oneB z = true) = (noOwnB o.auths = true ∧ oneB o.auths = true ∧ noOwnB o.ents = true ∧ oneB o.ents = true ∧ noOwnB o.proofs = true ∧ oneB o.proofs = true) := by
  simp only [Ml.c, List.forall_mem_append, List.forall_mem_singleton, own2_bv, Au.own2]; simp [noOwnB, oneB, and_assoc]

def ml0 : Ml := ⟨0, 0, 0, 0, z32, 0, [], 0, au0, .nil, .nil, .nil⟩
theorem Ml.sm : (type_of% @Ml.c_len) ∧ (type_of% @Ml.tk) ∧ (type_of% @Ml.wh) ∧ (type_of% @Ml.r0) ∧ (type_of% @Ml.w0) ∧ (type_of% @Ml.r1) ∧ (type_of% @Ml.w1) ∧ (type_of% @Ml.r2) ∧ (type_of% @Ml.w2) ∧ (type_of% @Ml.r3) ∧ (type_of% @Ml.w3) ∧ (type_of% @Ml.r4) ∧ (type_of% @Ml.w4) ∧ (type_of% @Ml.r5) ∧ (type_of% @Ml.w5) ∧ (type_of% @Ml.r6) ∧ (type_of% @Ml.w6) ∧ (type_of% @Ml.r7) ∧ (type_of% @Ml.w7) ∧ (type_of% @Ml.r8) ∧ (type_of% @Ml.w8) ∧ (type_of% @Ml.r8_0) ∧ (type_of% @Ml.r8_1) ∧ (type_of% @Ml.r8_2) ∧ (type_of% @Ml.r8_3) ∧ (type_of% @Ml.r9) ∧ (type_of% @Ml.w9) ∧ (type_of% @Ml.r10) ∧ (type_of% @Ml.w10) ∧ (type_of% @Ml.r11) ∧ (type_of% @Ml.w11) ∧ (type_of% @Ml.fz) ∧ (type_of% @Ml.own1) ∧ (type_of% @Ml.own2) := ⟨@Ml.c_len, @Ml.tk, @Ml.wh, @Ml.r0, @Ml.w0, @Ml.r1, @Ml.w1, @Ml.r2, @Ml.w2, @Ml.r3, @Ml.w3, @Ml.r4, @Ml.w4, @Ml.r5, @Ml.w5, @Ml.r6, @Ml.w6, @Ml.r7, @Ml.w7, @Ml.r8, @Ml.w8, @Ml.r8_0, @Ml.r8_1, @Ml.r8_2, @Ml.r8_3, @Ml.r9, @Ml.w9, @Ml.r10, @Ml.w10, @Ml.r11, @Ml.w11, @Ml.fz, @Ml.own1, @Ml.own2⟩
attribute [go_sem] Ml.sm
end Go.VL
