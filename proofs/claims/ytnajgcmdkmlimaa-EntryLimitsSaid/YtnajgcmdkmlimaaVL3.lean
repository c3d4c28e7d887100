/- Part VL3 of the proof: made for this claim. -/
import Derived.Test.YtnajgcmdkmlimaaVL2
import Derived.Laws.Sem
import Derived.Laws.StructEq
import Derived.DeepKeys
/-! VL part 3: operations that only compute. -/
set_option linter.unusedVariables false
set_option linter.unusedSimpArgs false
open Go.RowKit
namespace Go.VL

def isNilSl : Value → Bool
  | .slice none 0 0 => true
  | _ => false
def ofC1 (v : Value) : V := if isNilSl v = true then .nil else if flatOk v = true then .flat v else .unk
def V.known : V → Bool
  | .unk => false
  | _ => true

inductive TyK where
  | int (k : IntKind)
  | bool
  | str
  | sl (e : TypeId)
  | arr (n : Nat) (e : TypeId)
  | st (fs : List (Nat × TypeId × Bool))
  | ptr (e : TypeId)
  | oth

structure TyI where
  k : TyK
  sz : Nat
  bytes : Nat
  agg : Bool
  zok : Bool
  zero : List V

def tyOf (P : Program) (t : TypeId) : Option TyI :=
  match P.info? t, P.underlying t with
  | some i, some d => some {
      k := match d with
        | .int k => .int k
        | .bool => .bool
        | .string => .str
        | .slice e => .sl e
        | .array n e => .arr n e
        | .struct fs => .st (fs.toList.map fun f => (f.offset, f.type, f.name != "_"))
        | .pointer e => .ptr e
        | _ => .oth
      sz := i.size
      bytes := i.bytes
      agg := match d with | .struct _ | .array _ _ => true | _ => false
      zok := match i.zero with | some z => (z.cells.toList.map ofC1).all V.known && z.cells.size == i.size | none => false
      zero := match i.zero with | some z => z.cells.toList.map ofC1 | none => [] }
  | _, _ => none

abbrev Env := List (TypeId × TyI)
def Env.get (H : Env) (t : TypeId) : Option TyI :=
  match H with
  | [] => none
  | (u, i) :: r => if u = t then some i else Env.get r t
def EnvOk (P : Program) (H : Env) : Prop := ∀ t i, H.get t = some i → tyOf P t = some i
theorem EnvOk.of {P : Program} {H : Env} (h : H.map (fun p => tyOf P p.1) = H.map (fun p => some p.2)) : EnvOk P H := by
  induction H with
  | nil => intro t i hi; cases hi
  | cons p r ih =>
    obtain ⟨u, j⟩ := p
    simp only [List.map_cons, List.cons.injEq] at h
    intro t i hi
    simp only [Env.get] at hi
    split at hi
    · rename_i e; subst e; cases hi; exact h.1
    · exact ih h.2 t i hi

section
variable {P : Program} {H : Env} {w : World}
theorem run_underlying' {t : TypeId} {d : TypeDesc} (h : P.underlying t = some d) : (underlying t).run P w = .ok d w := by
  simp [underlying, bind, Sem.bind, program, Sem.run, h]
theorem run_typeInfo' {t : TypeId} {i : TypeInfo} (h : P.info? t = some i) : (typeInfo t).run P w = .ok i w := by
  simp [typeInfo, bind, Sem.bind, program, Sem.run, h]

/-- What the table says of a type. -/
structure Tells (P : Program) (t : TypeId) (i : TyI) : Prop where
  ex : ∃ (ti : TypeInfo) (d : TypeDesc), P.info? t = some ti ∧ P.underlying t = some d ∧ ti.size = i.sz ∧ ti.bytes = i.bytes ∧
    (match d with | .struct _ | .array _ _ => true | _ => false) = i.agg ∧ (match ti.zero with | some z => (z.cells.toList.map ofC1).all V.known && z.cells.size == ti.size | none => false) = i.zok ∧ (match ti.zero with | some z => z.cells.toList.map ofC1 | none => []) = i.zero ∧
    (match d with
        | .int k => .int k
        | .bool => .bool
        | .string => .str
        | .slice e => .sl e
        | .array n e => .arr n e
        | .struct fs => .st (fs.toList.map fun f => (f.offset, f.type, f.name != "_"))
        | .pointer e => .ptr e
        | _ => .oth) = i.k
theorem EnvOk.tells (h : EnvOk P H) {t : TypeId} {i : TyI} (hi : H.get t = some i) : Tells P t i := by
  have := h t i hi
  unfold tyOf at this
  cases h1 : P.info? t with
  | none => simp [h1] at this
  | some ti =>
    cases h2 : P.underlying t with
    | none => simp [h1, h2] at this
    | some d =>
      simp only [h1, h2, Option.some.injEq] at this
      subst this
      exact ⟨ti, d, h1, h2, rfl, rfl, rfl, rfl, rfl, rfl⟩
theorem Tells.size {t : TypeId} {i : TyI} (h : Tells P t i) : (sizeOf t).run P w = .ok i.sz w := by
  obtain ⟨ti, d, h1, h2, h3, _⟩ := h
  simp [sizeOf, Sem.run_bind, run_typeInfo' h1, h3]

theorem Tells.agg {t : TypeId} {i : TyI} (h : Tells P t i) : (isAgg t).run P w = .ok i.agg w := by
  obtain ⟨ti, d, h1, h2, h3, h4, h5, _⟩ := h
  cases d <;> simp_all [isAgg, run_underlying' h2]
theorem Tells.und_int {t : TypeId} {i : TyI} (h : Tells P t i) {k : IntKind} (hk : i.k = .int k) : P.underlying t = some (.int k) := by
  obtain ⟨ti, d, h1, h2, h3, h4, h5, h6, h7, h8⟩ := h
  rw [hk] at h8
  cases d <;> simp at h8
  rw [h2, h8]
theorem Tells.und_bool {t : TypeId} {i : TyI} (h : Tells P t i) (hk : i.k = .bool) : P.underlying t = some .bool := by
  obtain ⟨ti, d, h1, h2, h3, h4, h5, h6, h7, h8⟩ := h
  rw [hk] at h8
  cases d <;> simp at h8
  exact h2
theorem Tells.und_str {t : TypeId} {i : TyI} (h : Tells P t i) (hk : i.k = .str) : P.underlying t = some .string := by
  obtain ⟨ti, d, h1, h2, h3, h4, h5, h6, h7, h8⟩ := h
  rw [hk] at h8
  cases d <;> simp at h8
  exact h2
theorem Tells.und_sl {t : TypeId} {i : TyI} (h : Tells P t i) {e : TypeId} (hk : i.k = .sl e) : P.underlying t = some (.slice e) := by
  obtain ⟨ti, d, h1, h2, h3, h4, h5, h6, h7, h8⟩ := h
  rw [hk] at h8
  cases d <;> simp at h8
  rw [h2, h8]
theorem Tells.und_ptr {t : TypeId} {i : TyI} (h : Tells P t i) {e : TypeId} (hk : i.k = .ptr e) : P.underlying t = some (.pointer e) := by
  obtain ⟨ti, d, h1, h2, h3, h4, h5, h6, h7, h8⟩ := h
  rw [hk] at h8
  cases d <;> simp at h8
  rw [h2, h8]
theorem Tells.und_arr {t : TypeId} {i : TyI} (h : Tells P t i) {n : Nat} {e : TypeId} (hk : i.k = .arr n e) : P.underlying t = some (.array n e) := by
  obtain ⟨ti, d, h1, h2, h3, h4, h5, h6, h7, h8⟩ := h
  rw [hk] at h8
  cases d <;> simp at h8
  rw [h2, h8.1, h8.2]
theorem Tells.und_st {t : TypeId} {i : TyI} (h : Tells P t i) {fs : List (Nat × TypeId × Bool)} (hk : i.k = .st fs) : ∃ fa : Array Field, P.underlying t = some (.struct fa) ∧ fa.toList.map (fun f => (f.offset, f.type, f.name != "_")) = fs := by
  obtain ⟨ti, d, h1, h2, h3, h4, h5, h6, h7, h8⟩ := h
  rw [hk] at h8
  cases d <;> simp at h8
  exact ⟨_, h2, by simpa using h8⟩
theorem Tells.isz {t : TypeId} {i : TyI} (h : Tells P t i) : ∃ ti, P.info? t = some ti ∧ ti.size = i.sz ∧ ti.bytes = i.bytes ∧ (match ti.zero with | some z => (z.cells.toList.map ofC1).all V.known && z.cells.size == ti.size | none => false) = i.zok ∧ (match ti.zero with | some z => z.cells.toList.map ofC1 | none => []) = i.zero := by
  obtain ⟨ti, d, h1, h2, h3, h4, h5, h6, h7, h8⟩ := h
  exact ⟨ti, h1, h3, h4, h6, h7⟩

/-- What an operation that only computes comes to. -/
def Gives (P : Program) (g : G) (w : World) (m : Sem Value) (r : Option (Prop × V)) : Prop := ∀ c x, r = some (c, x) → c → ∃ v, m.run P w = .ok v w ∧ VR g w x v

theorem Gives.none {g : G} {m : Sem Value} : Gives P g w m none := fun _ _ h => by cases h
theorem Gives.some_ {g : G} {m : Sem Value} {c : Prop} {x : V} (h : c → ∃ v, m.run P w = .ok v w ∧ VR g w x v) : Gives P g w m (some (c, x)) := by
  intro c' x' e hc
  cases e
  exact h hc

/-! ### Parts of a row of cells -/
/-- A value out of cells. -/
def mkV (agg : Bool) (sz : Nat) (cs : List V) (off : Nat) : V := match agg with
  | true => .agg ((cs.drop off).take sz)
  | false => cs.getD off .unk

theorem part_gives {g : G} {t : TypeId} {i : TyI} (h : Tells P t i) (cs : List V) (us : Array Value) (off : Nat) (hl : us.size = cs.length) (hv : ∀ i, i < cs.length → VR g w (cs.getD i .unk) (us.getD i undef))
    (hc : off + i.sz ≤ cs.length) (h1 : i.agg = false → i.sz = 1) : ∃ v, (part t us off).run P w = .ok v w ∧ VR g w (mkV i.agg i.sz cs off) v := by
  cases ha : i.agg with
  | false =>
    have h1 := h1 ha
    have hoff : off < us.size := by omega
    refine ⟨us.getD off undef, ?_, ?_⟩
    · simp [part, Sem.run_bind, h.agg, ha, Array.getD_eq_getD_getElem?, Array.getElem?_eq_getElem hoff]
    · simp only [mkV]
      exact hv off (by omega)
  | true =>
    refine ⟨.agg (us.extract off (off + i.sz)), ?_, ?_⟩
    · simp [part, Sem.run_bind, h.agg, ha, h.size]
    · simp only [mkV]
      refine .agg _ _ (by simp; omega) (fun j hj => ?_)
      simp only [List.length_take, List.length_drop] at hj
      have e1 : ((cs.drop off).take i.sz).getD j .unk = cs.getD (off + j) .unk := by
        simp only [List.getD_eq_getElem?_getD, List.getElem?_take, List.getElem?_drop]
        rw [if_pos (by omega)]
      have e2 : (us.extract off (off + i.sz)).getD j undef = us.getD (off + j) undef := by
        simp only [Array.getD_eq_getD_getElem?, Array.getElem?_extract]
        rw [if_pos (by omega)]
      rw [e1, e2]
      exact hv _ (by omega)

/-! ### Whole numbers, texts, bools -/
def binInt (op : BinOp) (k : IntKind) (a : Int) (k' : IntKind) (b : Int) : Option (Prop × V) := match op with
  | .shl => some (0 ≤ b, .flat (.int k (k.wrap (a * 2 ^ min b.toNat k.bits))))
  | .shr => some (0 ≤ b, .flat (.int k (a.fdiv (2 ^ min b.toNat k.bits))))
  | .add => if k = k' then some (True, .flat (.int k (k.wrap (a + b)))) else none
  | .sub => if k = k' then some (True, .flat (.int k (k.wrap (a - b)))) else none
  | .mul => if k = k' then some (True, .flat (.int k (k.wrap (a * b)))) else none
  | .quo => if k = k' then some (b ≠ 0, .flat (.int k (k.wrap (a.tdiv b)))) else none
  | .rem => if k = k' then some (b ≠ 0, .flat (.int k (a.tmod b))) else none
  | .and => if k = k' then some (True, .flat (.int k (k.wrap (BitVec.ofInt k.bits a &&& BitVec.ofInt k.bits b).toNat))) else none
  | .or => if k = k' then some (True, .flat (.int k (k.wrap (BitVec.ofInt k.bits a ||| BitVec.ofInt k.bits b).toNat))) else none
  | .xor => if k = k' then some (True, .flat (.int k (k.wrap (BitVec.ofInt k.bits a ^^^ BitVec.ofInt k.bits b).toNat))) else none
  | .andNot => if k = k' then some (True, .flat (.int k (k.wrap (BitVec.ofInt k.bits a &&& ~~~ BitVec.ofInt k.bits b).toNat))) else none
  | .eql => if k = k' then some (True, .flat (.bool (decide (a = b)))) else none
  | .neq => if k = k' then some (True, .flat (.bool (!decide (a = b)))) else none
  | .lss => if k = k' then some (True, .flat (.bool (decide (a < b)))) else none
  | .leq => if k = k' then some (True, .flat (.bool (decide (a ≤ b)))) else none
  | .gtr => if k = k' then some (True, .flat (.bool (decide (a > b)))) else none
  | .geq => if k = k' then some (True, .flat (.bool (decide (a ≥ b)))) else none

theorem binInt_gives {g : G} (op : BinOp) (t : TypeId) (x y : Operand) (k k' : IntKind) (a b : Int) :
    Gives P g w (do eqGuard op t x y (.int k a) (.int k' b); binOp op t (.int k a) (.int k' b)) (binInt op k a k' b) := by
  cases op <;> simp only [binInt] <;> (try split) <;> (try exact Gives.none) <;> refine Gives.some_ (fun hc => ⟨_, ?_, .flat _ rfl⟩) <;> (try subst k') <;>
    simp_all [eqGuard, binOp, Op.intArith, Op.intDiv, Op.intBits, Op.intCmp, Op.shift, Int.not_lt.2]
  all_goals (by_cases h : a = b <;> simp [bne, h])

theorem toList_beq (a b : ByteArray) : (a.toList == b.toList) = decide (a = b) := by
  rw [ByteArray.toList_eq, ByteArray.toList_eq, Bool.eq_iff_iff]
  simp only [beq_iff_eq, decide_eq_true_eq]
  constructor
  · intro h
    obtain ⟨⟨x⟩⟩ := a
    obtain ⟨⟨y⟩⟩ := b
    simp at h
    rw [h]
  · intro h; rw [h]

def binStr (op : BinOp) (a b : ByteArray) : Option (Prop × V) := match op with
  | .add => some (((a.size + b.size : Nat) : Int) ≤ IntKind.i64.max, .flat (.string (a ++ b)))
  | .eql => some (True, .flat (.bool (decide (a = b))))
  | .neq => some (True, .flat (.bool (!decide (a = b))))
  | .lss => some (True, .flat (.bool (Op.bytesLess a.toList b.toList)))
  | _ => none
theorem binStr_gives {g : G} (op : BinOp) (t : TypeId) (x y : Operand) (a b : ByteArray) :
    Gives P g w (do eqGuard op t x y (.string a) (.string b); binOp op t (.string a) (.string b)) (binStr op a b) := by
  cases op <;> simp only [binStr] <;> (try exact Gives.none) <;> refine Gives.some_ (fun hc => ⟨_, ?_, .flat _ rfl⟩) <;>
    simp_all [eqGuard, binOp, Op.stringOp, toList_beq]

def binBool (H : Env) (t : TypeId) (op : BinOp) (a b : Bool) : Option (Prop × V) := match H.get t with
  | some i => match i.k with
    | .bool => match op with
      | .eql => some (True, .flat (.bool (a == b)))
      | .neq => some (True, .flat (.bool (a != b)))
      | _ => none
    | _ => none
  | none => none
theorem binBool_gives {g : G} (hH : EnvOk P H) (op : BinOp) (t : TypeId) (x y : Operand) (a b : Bool) :
    Gives P g w (do eqGuard op t x y (.bool a) (.bool b); binOp op t (.bool a) (.bool b)) (binBool H t op a b) := by
  unfold binBool
  cases hi : H.get t with
  | none => exact Gives.none
  | some i =>
    have hT := hH.tells hi
    cases hk : i.k <;> simp only [hk] <;> try exact Gives.none
    have hu := hT.und_bool hk
    have he : (Op.equal t (.bool a) (.bool b)).run P w = .ok (a == b) w := by
      exact run_equalIn_bool' w 9999 t a b hu
    cases op <;> simp only [] <;> (try exact Gives.none) <;> refine Gives.some_ (fun hc => ⟨_, ?_, .flat _ rfl⟩) <;>
      simp [eqGuard, binOp, he, bne]

/-- Pointers against nil. -/
def nilEq : V → V → Option Bool
  | .flat (.pointer none), .flat (.pointer none) => some true
  | .bp _ _, .flat (.pointer none) => some false
  | .flat (.pointer none), .bp _ _ => some false
  | _, _ => none
def binPtr (H : Env) (t : TypeId) (op : BinOp) (x y : V) : Option (Prop × V) := match H.get t with
  | some i => match i.k with
    | .ptr _ => match nilEq x y with
      | some r => match op with
        | .eql => some (True, .flat (.bool r))
        | .neq => some (True, .flat (.bool (!r)))
        | _ => none
      | none => none
    | _ => none
  | none => none
theorem run_eq_ptr1 (d : Nat) {t e : TypeId} (hu : P.underlying t = some (.pointer e)) (q : Option Addr) : (Op.equalIn (d + 1) t (.pointer none) (.pointer q)).run P w = .ok q.isNone w := by
  simp only [Op.equalIn, Sem.run_bind, run_underlying' hu, Result.andThen_ok, Sem.run_pure]
theorem run_eq_ptr2 (d : Nat) {t e : TypeId} (hu : P.underlying t = some (.pointer e)) (q : Addr) : (Op.equalIn (d + 1) t (.pointer (some q)) (.pointer none)).run P w = .ok false w := by
  simp only [Op.equalIn, Sem.run_bind, run_underlying' hu, Result.andThen_ok, Sem.run_pure]
theorem binPtr_gives {g : G} (hH : EnvOk P H) (op : BinOp) (t : TypeId) (ox oy : Operand) {x y : V} {a b : Value} (hx : VR g w x a) (hy : VR g w y b) :
    Gives P g w (do eqGuard op t ox oy a b; binOp op t a b) (binPtr H t op x y) := by
  unfold binPtr
  cases hi : H.get t with
  | none => exact Gives.none
  | some i =>
    have hT := hH.tells hi
    cases hk : i.k <;> simp only [hk] <;> try exact Gives.none
    have hu := hT.und_ptr hk
    cases hn : nilEq x y with
    | none => exact Gives.none
    | some r =>
      have key : ∃ p q, a = .pointer p ∧ b = .pointer q ∧ (Op.equal t (.pointer p) (.pointer q)).run P w = .ok r w := by
        unfold nilEq at hn
        split at hn <;> try cases hn
        · cases hx; cases hy; exact ⟨_, _, rfl, rfl, run_eq_ptr1 9999 hu _⟩
        · cases hx; cases hy; exact ⟨_, _, rfl, rfl, run_eq_ptr2 9999 hu _⟩
        · cases hx; cases hy; exact ⟨_, _, rfl, rfl, run_eq_ptr1 9999 hu _⟩
      obtain ⟨p, q, rfl, rfl, hr⟩ := key
      cases op <;> simp only [] <;> (try exact Gives.none) <;> refine Gives.some_ (fun hc => ⟨_, ?_, .flat _ rfl⟩) <;>
        simp [eqGuard, binOp, hr]

/-! ### Equality of plain structs and arrays -/
inductive CK where
  | int (k : IntKind)
  | bool
  | str
  deriving DecidableEq
def CK.fit : CK → V → Prop
  | .int k, .flat (.int k' n) => k' = k ∧ (k.min ≤ n ∧ n ≤ k.max)
  | .bool, .flat (.bool _) => True
  | .str, .flat (.string s) => s.size ≤ maxLen
  | _, _ => False
def Fit : List CK → List V → Prop
  | [], [] => True
  | k :: ks, x :: xs => k.fit x ∧ Fit ks xs
  | _, _ => False
def vlit : V → Lit
  | .flat (.int k n) => .int k n
  | .flat (.bool b) => .bool b
  | .flat (.string s) => .string s.data.toList
  | _ => .nil
/-- The kinds of a type's cells. -/
def layOf (P : Program) : Nat → TypeId → Option (List CK)
  | 0, _ => none
  | d + 1, t => match P.underlying t with
    | some .bool => some [.bool]
    | some (.int k) => some [.int k]
    | some .string => some [.str]
    | some (.array n e) => (layOf P d e).map fun l => (List.replicate n l).flatten
    | some (.struct fs) => (fs.toList.mapM fun f => layOf P d f.type).map List.flatten
    | _ => none
/-- A struct's fields lie one behind the other, and everything has the size of its cells. -/
def laidOut (P : Program) : Nat → TypeId → Bool
  | 0, _ => false
  | d + 1, t => match P.underlying t with
    | some .bool | some (.int _) | some .string => P.cellsOf t == 1
    | some (.array n e) => laidOut P d e && P.cellsOf t == n * P.cellsOf e
    | some (.struct fs) => (fs.toList.all fun f => laidOut P d f.type && f.name != "_") &&
        (fs.toList.foldl (fun (o : Option Nat) f => o.bind fun o => if f.offset = o then some (o + P.cellsOf f.type) else none) (some 0)) == some (P.cellsOf t)
    | _ => false

end
end Go.VL
