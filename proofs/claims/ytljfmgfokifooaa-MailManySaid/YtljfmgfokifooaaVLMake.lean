/- Part VLMake of the proof: made for this claim. -/
import Derived.Test.YtljfmgfokifooaaVLc
set_option linter.unusedVariables false
set_option linter.unusedSimpArgs false
open Go.RowKit
namespace Go.VL
variable {P : Program} {E : Entry} {w : World} {C : Cfg} {ops : List Oper}
theorem Does.callN (hdst : dstOk C.nt ops = true) (hG : GlOk E.g0 E.w0 C.gl) {o : Oper} {d : Nat} {s : Nat → V} {M M' : Mem} {n n' : Nat} {x : V} {f : FuncId} {xs : Array Operand} {ats : Array TypeId} (hd : o.dst = some d) (hw : wantedV ops s o = some true)
    (hop : o.op = .call { callee := .value (.func f), args := xs, argTypes := ats }) (hkn : ∀ y ∈ xs.toList, (evO s C.gl y).fz.known = true) {args : List V} (hargs : args = xs.toList.map fun y => (evO s C.gl y).fz)
    (hsp : Sp P C.gl f args M n (fun r m k => r = x ∧ m = M' ∧ k = n')) (hM : ∀ b, M' b = none → M b = none) : Does P E C ops o s M n x M' n' [] := by
  intro s2 h2 i ho K' Q a w hA hK
  have ho' : ops.toArray[i]? = some o := by simpa using ho
  obtain ⟨⟨g, ob, h1, hn, h3, h4⟩, hb⟩ := hA
  have hdl := dst_lt hdst ho d hd
  have hs2 : ∀ y ∈ xs.toList, evO s2 C.gl y = evO s C.gl y := fun y hy => evO_congr (gl := C.gl) h2 y (by rw [hop]; simp only [Op.operands, Call.operands]; simp at hy; simp [hy])
  unfold wpOp
  rw [ho']
  simp only
  rw [wantedV_rel h1.slot h4 (by rw [wantedV_congr h2]; exact hw) (dstOk_any hdst), if_pos rfl]
  left
  obtain ⟨⟨fn, hf, hnm, hbd⟩, hcall⟩ := hsp
  have hrun : (execOp a.eval o).run P w = .ok (.enter f (#[] ++ xs.map a.eval ++ #[])) w := by
    obtain ⟨dst, op, ty, pos, after, guard⟩ := o
    simp only at hop
    subst hop
    exact run_callFunc hf hnm hbd _
  simp only [Oper.wp, hrun, Oper.upon, Array.empty_append, Array.append_empty]
  have hc := hcall g (cellsOnly ob) w (xs.map a.eval) hn (hG.onto h1.onto) (by rw [hargs]; simp) (fun i hi => by
    rw [hargs] at hi ⊢
    simp only [List.length_map, Array.length_toList] at hi
    have e1 : (xs.toList.map fun x => (evO s C.gl x).fz).getD i .unk = (evO s2 C.gl xs[i]).fz := by
      rw [hs2 xs[i] (by simp)]
      simp [List.getD_eq_getElem?_getD, Array.getElem?_eq_getElem hi]
    have e2 : (xs.map a.eval).getD i undef = a.eval xs[i] := by simp [Array.getD_eq_getD_getElem?, Array.getElem?_eq_getElem hi]
    rw [e1, e2]
    have hne : evO s2 C.gl xs[i] ≠ .unk := by
      intro hu
      have := hkn xs[i] (by simp)
      rw [← hs2 xs[i] (by simp), hu] at this
      cases this
    exact (evO_rel (d := a.defers) h1.slot (hG.onto h1.onto) xs[i] hne).fz) (fun i j => rfl) h1.handOver
  refine hc.mono ?_
  rintro e w' ⟨v, r, mem', g', ob', rfl, ⟨rfl, rfl, hmn⟩, hru, hst⟩
  simp only
  refine hK _ _ ⟨?_, putS_big (dem_big hb) (dst_lt hdst ho)⟩
  rw [putD_nil, hd, put_some]
  exact AtF.filled ⟨g', joinOb ob ob' d, h1.comeBack hst (by rw [h4]; exact hdl) hru, hmn, h3, by simpa using h4⟩ hM

theorem CallB.make {Θ : CtxB P E C} {k cls : Nat} {o : Oper} {rest : List Oper} {d : Nat} {f : FuncId} {args : List V} {σ : S} {K : S → Prop} (z : List V) (hs : ∀ M n, Sp P C.gl f args M n (fun r m k => r = .bp n 0 ∧ m = upd M n (some z) ∧ k = n + 1)) (hc : cls = 3) (hk : ∀ x ∈ args, x.known = true)
    (h : WRB Θ (k + 1) rest { sl := (d, .bp σ.mn 0) :: σ.sl, mem := upd σ.mem σ.mn (some z), mn := σ.mn + 1 } K) : CallB Θ k cls o rest d f args σ K := by
  rintro hn hd' hcl hd hw ⟨xs, ats, hop, rfl⟩
  obtain ⟨k1, k2⟩ := drop_cons hd'
  have hdo : ∀ M2 n2, Does P E C Θ.ops o (lk σ.sl) M2 n2 (.bp n2 0) (upd M2 n2 (some z)) (n2 + 1) [] := fun M2 n2 => by
    exact Does.callN Θ.dst Θ.G hd hw hop (fun y hy => hk _ (List.mem_map.2 ⟨y, hy, rfl⟩)) rfl (hs M2 n2) (fun _ h => upd_none h)
  refine ⟨.bp σ.mn 0, upd σ.mem σ.mn (some z), σ.mn + 1, [], ?_, ?_⟩
  · rw [hcl]; subst hc
    exact ⟨hn, nodm, _, rfl, rfl, rfl, hdo⟩
  · have := h (by show Θ.n0 ≤ σ.mn + 1; omega) k2
    simp only [lk_cons] at this
    rw [putD_nil, hd]
    exact this
theorem km {Θ : CtxB P E C} {k cls : Nat} {o : Oper} {rest ops : List Oper} {d : Nat} {f : FuncId} {args : List V} {σ : S} {K : S → Prop} {cl : Cl} {n0 : Nat} {z : List V} (hs : ∀ M n, Sp P C.gl f args M n (fun r m k => r = .bp n 0 ∧ m = upd M n (some z) ∧ k = n + 1)) (hk : args.all V.known = true) (hc : cls = 3) (hΘ : Θ.ops = ops) (hcl : Θ.cl = cl) (h0 : Θ.n0 = n0)
    (h : PostB Θ (runB C n0 cl (ops.map (·.dst)) (k + 1) rest { sl := (d, .bp σ.mn 0) :: σ.sl, mem := upd σ.mem σ.mn (some z), mn := σ.mn + 1 } True) K) : CallB Θ k cls o rest d f args σ K :=
  CallB.make z hs hc (all_known hk) (WRB.go (congrArg (List.map (·.dst)) hΘ.symm) hcl.symm h0.symm h)
end Go.VL
