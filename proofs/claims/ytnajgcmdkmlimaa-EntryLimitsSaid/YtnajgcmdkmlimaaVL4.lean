/- Part VL4 of the proof: made for this claim. -/
import Derived.Test.YtnajgcmdkmlimaaVL3b
import Derived.Laws.Cells
import Derived.Laws.BytesArg
/-! VL part 4: the other operations that only compute. -/
set_option linter.unusedVariables false
set_option linter.unusedSimpArgs false
open Go.RowKit
namespace Go.VL
variable {P : Program} {H : Env} {w : World} {g : G}

def ofConst : Value → V
  | .agg cs => .agg (cs.toList.map ofC1)
  | v => ofC1 v
theorem ofC1_rel (v : Value) (h : ofC1 v ≠ .unk) : VR g w (ofC1 v) v := by
  unfold ofC1 at h ⊢
  split
  · rename_i k
    have : v = .slice none 0 0 := by
      unfold isNilSl at k
      split at k
      · rfl
      · cases k
    subst this
    exact .nil
  · rename_i k
    rw [if_neg k] at h
    split
    · rename_i hf; exact .flat _ hf
    · rename_i hf; rw [if_neg hf] at h; exact absurd rfl h
def constOk : Value → Bool
  | .agg cs => (cs.toList.map ofC1).all V.known
  | _ => true
theorem ofConst_rel (v : Value) (h : ofConst v ≠ .unk) (hk : constOk v = true) : VR g w (ofConst v) v := by
  cases v with
  | agg cs =>
    refine .agg _ _ (by simp) (fun i hi => ?_)
    simp only [List.length_map, Array.length_toList] at hi
    have e1 : ((cs.toList.map ofC1).getD i .unk) = ofC1 (cs.getD i undef) := by
      simp [List.getD_eq_getElem?_getD, Array.getD_eq_getD_getElem?, hi]
    rw [e1]
    refine ofC1_rel _ ?_
    simp only [constOk, List.all_eq_true] at hk
    have := hk (ofC1 (cs.getD i undef)) (by simp only [List.mem_map]; exact ⟨_, by simp [Array.getD_eq_getD_getElem?, hi], rfl⟩)
    intro e; rw [e] at this; cases this
  | _ => (simp only [ofConst] at h ⊢; exact ofC1_rel _ h)

/-- An operand, abstractly. -/
def evO (s : Nat → V) (gl : Nat → Option (List V)) : Operand → V
  | .tmp t => s t
  | .const v => if constOk v then ofConst v else .unk
  | .global n => match gl n with | some cs => .ref cs 0 | none => .unk
  | .func f => .flat (.func (.func f) #[] #[])

/-- Package-level variables that hold what is known. -/
def GlOk (g : G) (w : World) (gl : Nat → Option (List V)) : Prop := ∀ n cs, gl n = some cs → VR g w (.ref cs 0) (.pointer (some ⟨n, 0, none⟩))
theorem GlOk.onto {g g' : G} {w w' : World} {gl : Nat → Option (List V)} (h : GlOk g w gl) (ho : Onto g g' w w') : GlOk g' w' gl := fun n cs hn => (h n cs hn).onto ho

theorem evO_rel {s : Nat → V} {gl : Nat → Option (List V)} {tm : Array Value} {d : List Deferred} (hs : ∀ i, s i ≠ .unk → VR g w (s i) (tm.getD i undef)) (hg : GlOk g w gl) (x : Operand) (h : evO s gl x ≠ .unk) :
    VR g w (evO s gl x) (Act.eval { tmps := tm, defers := d } x) := by
  cases x with
  | tmp t => exact hs t h
  | const v =>
    simp only [evO] at h ⊢
    split
    · rename_i k; rw [if_pos k] at h; exact ofConst_rel v h k
    · rename_i k; rw [if_neg k] at h; exact absurd rfl h
  | global n =>
    simp only [evO] at h ⊢
    split
    · rename_i cs k; exact hg n cs k
    · rename_i k; rw [k] at h; exact absurd rfl h
  | func f => exact .flat _ rfl

/-! ### unary, conversions -/
def unV (op : UnOp) : V → Option (Prop × V)
  | .flat (.bool b) => match op with | .not => some (True, .flat (.bool (!b))) | _ => none
  | .flat (.int k n) => match op with
    | .neg => some (True, .flat (.int k (k.wrap (0 - n))))
    | .xor => some (True, .flat (.int k (k.wrap (BitVec.ofInt k.bits (if k.signed then -1 else k.max) ^^^ BitVec.ofInt k.bits n).toNat)))
    | _ => none
  | _ => none
theorem unV_gives (op : UnOp) {x : V} {a : Value} (hx : VR g w x a) : Gives P g w (Op.unary op a) (unV op x) := by
  cases hx <;> (try simp only [unV]) <;> (try exact Gives.none)
  case flat h =>
    cases a <;> (try simp only [unV]) <;> (try exact Gives.none) <;> cases op <;> (try simp only []) <;> (try exact Gives.none) <;>
      refine Gives.some_ (fun _ => ⟨_, ?_, .flat _ rfl⟩) <;> simp [Op.unary, Op.intArith, Op.intBits]

/-- The bytes of cells. -/
def numOf : V → Int
  | .flat (.int .u8 n) => n
  | _ => 0
def isByte : V → Bool
  | .flat (.int .u8 _) => true
  | _ => false
def bytesV (cs : List V) : ByteArray := strOfNums (cs.map numOf)
def AllBytes (cs : List V) : Prop := ∀ x ∈ cs, isByte x = true
theorem byte_cells {cs : List V} {us : List Value} (hb : AllBytes cs) (hv : ∀ i, i < cs.length → VR g w (cs.getD i .unk) (us.getD i undef)) (i : Nat) (hi : i < cs.length) : us.getD i undef = .int .u8 ((cs.map numOf).getD i 0) := by
  have h1 := hv i hi
  have h2 := hb (cs.getD i .unk) (by simp [List.getD_eq_getElem?_getD, hi])
  have e : (cs.map numOf).getD i 0 = numOf (cs.getD i .unk) := by simp [List.getD_eq_getElem?_getD, hi]
  rw [e]
  generalize cs.getD i .unk = x at h1 h2 ⊢
  generalize us.getD i undef = u at h1 ⊢
  cases h1 <;> simp [isByte] at h2
  cases u <;> (try simp [isByte] at h2)
  rename_i k n _
  cases k <;> simp [isByte] at h2
  rfl

/-- 'T(x)': between whole numbers; bytes to a text; a text to a text. -/
def cvV (H : Env) (src dst : TypeId) (x : V) : Option (Prop × V) := match H.get src, H.get dst with
  | some i, some j => match x with
    | .flat (.int _ n) => match j.k with
      | .int k => some (True, .flat (.int k (k.wrap n)))
      | _ => none
    | .flat (.string s) => match i.k, j.k with
      | .str, .str => some (True, .flat (.string s))
      | _, _ => none
    | .nil => match i.k, j.k with
      | .sl e, .str => match H.get e with
        | some ie => match ie.k with
          | .int .u8 => some (True, .flat (.string ByteArray.empty))
          | _ => none
        | none => none
      | _, _ => none
    | .sl _ _ n cs => match i.k, j.k with
      | .sl e, .str => match H.get e with
        | some ie => match ie.k with
          | .int .u8 => some (AllBytes cs ∧ cs.length = n, .flat (.string (bytesV cs)))
          | _ => none
        | none => none
      | _, _ => none
    | _ => none
  | _, _ => none

theorem cvV_gives (hH : EnvOk P H) (src dst : TypeId) {x : V} {a : Value} (hx : VR g w x a) : Gives P g w (convert src dst a) (cvV H src dst x) := by
  unfold cvV
  cases hs : H.get src with
  | none => exact Gives.none
  | some i =>
    cases hd : H.get dst with
    | none => exact Gives.none
    | some j =>
      have hTs := hH.tells hs
      have hTd := hH.tells hd
      simp only []
      split <;> try exact Gives.none
      · cases hx
        cases hk : j.k <;> simp only [hk] <;> try exact Gives.none
        have hu := hTd.und_int hk
        obtain ⟨_, d0, _, hu0, _⟩ := hTs.ex
        refine Gives.some_ (fun _ => ⟨_, ?_, .flat _ rfl⟩)
        cases d0 <;> simp [convert, run_underlying' hu, run_underlying' hu0, Conv.intToInt]
      · cases hx
        split <;> try exact Gives.none
        rename_i k1 k2
        have hu := hTd.und_str k2
        have hu0 := hTs.und_str k1
        refine Gives.some_ (fun _ => ⟨_, ?_, .flat _ rfl⟩)
        simp [convert, run_underlying' hu, run_underlying' hu0]
      · cases hx
        split <;> try exact Gives.none
        rename_i e k1 k2
        cases he : H.get e with
        | none => exact Gives.none
        | some ie =>
          simp only []
          split <;> try exact Gives.none
          rename_i k3
          exact Gives.some_ (fun _ => ⟨_, run_convert_bytes_nil w src e (hTs.und_sl k1) ((hH.tells he).und_int k3) 0 0 dst (hTd.und_str k2), .flat _ rfl⟩)
      · rename_i own sz n cs
        split <;> try exact Gives.none
        rename_i e k1 k2
        cases he : H.get e with
        | none => exact Gives.none
        | some ie =>
          simp only []
          split <;> try exact Gives.none
          rename_i k3
          refine Gives.some_ (fun hc => ?_)
          obtain ⟨hb, hl⟩ := hc
          refine ⟨.string (bytesV cs), ?_, .flat _ rfl⟩
          cases hx with
          | sl0 _ _ ad cap =>
            cases ad with
            | none => exact run_convert_bytes_nil w src e (hTs.und_sl k1) ((hH.tells he).und_int k3) 0 cap dst (hTd.und_str k2)
            | some ad =>
              rw [run_convert_bytes_string w src dst e _ 0 cap (hTs.und_sl k1) ((hH.tells he).und_int k3) (hTd.und_str k2)]
              simp [Conv.bytesToString, loadCells, loadCellsFrom]
              rfl
          | sl _ _ _ _ blk off cap us hn hcap hcm hp hu hv =>
            refine run_convert_bytes_arg w src e (hTs.und_sl k1) ((hH.tells he).und_int k3) blk off n cap _ (by simpa using hl) (fun i hi => ?_) dst (hTd.und_str k2)
            rw [hu i (by omega), byte_cells hb hv i (by omega)]

end Go.VL
