/- What the quiet operations yield. -/
import Derived.Test.YtcaffacganffjaaDoorVOps
import Derived.Laws.LoneSync
namespace Go.Vg
open Go

def QR (P : Program) (a : Act) (w : World) (o : Oper) (v : Value) : Prop := (execOp a.eval o).run P w = .ok (.value v) w

abbrev vI (n : Int) : Value := .int .i64 n
abbrev v8 (b : UInt8) : Value := .int .u8 (b.toNat : Int)
abbrev v32 (x : UInt32) : Value := .int .u32 (x.toNat : Int)
abbrev v64 (x : UInt64) : Value := .int .u64 (x.toNat : Int)
abbrev vp (b off : Nat) : Value := .pointer (some ⟨b, off, none⟩)

section
variable {P : Program} {n : Sh} {a : Act} {E : List (Nat × Value)} {w : World} {dst : Option Tmp} {ty : TypeId} {pos : String} {af : Array Edge} {gd : Option (Nat × Bool)}

theorem q_move (hT : Tm n a E) {x : Operand} {v : Value} (hx : evO E x = some v) : QR P a w ⟨dst, .move x, ty, pos, af, gd⟩ v := by
  simp [QR, execOp, hT.ev hx]
theorem q_assign (hT : Tm n a E) {x : Operand} {v : Value} (hx : evO E x = some v) : QR P a w ⟨dst, .assign x, ty, pos, af, gd⟩ v := by
  simp [QR, execOp, hT.ev hx]
theorem q_pick (hT : Tm n a E) {c x y : Operand} {b : Bool} {u v : Value} (hc : evO E c = some (.bool b)) (hx : evO E x = some u) (hy : evO E y = some v) :
    QR P a w ⟨dst, .pick c x y, ty, pos, af, gd⟩ (if b then u else v) := by
  simp [QR, execOp, hT.ev hc, hT.ev hx, hT.ev hy, asBool]

/-! loads -/
theorem q_load_agg (hT : Tm n a E) {t : TypeId} {x : Operand} {b off m : Nat} {z cs : List Value} (hx : evO E x = some (vp b off)) (ht : tyOf P t = some (m, true, z)) (h : Rd w b off cs) (hn : cs.length = m) :
    QR P a w ⟨dst, .load t x, ty, pos, af, gd⟩ (.agg cs.toArray) := by
  simp [QR, execOp, hT.ev hx, Instr.loadAt, Instr.sureAddr, run_loadVar_agg ht h hn]
theorem q_load (hT : Tm n a E) {t : TypeId} {x : Operand} {b off m : Nat} {z : List Value} {v : Value} (hx : evO E x = some (vp b off)) (ht : tyOf P t = some (m, false, z)) (h : Rd w b off [v]) :
    QR P a w ⟨dst, .load t x, ty, pos, af, gd⟩ v := by
  simp [QR, execOp, hT.ev hx, Instr.loadAt, Instr.sureAddr, run_loadVar_prim ht h]

/-! places -/
/-- A field: its place, its size, is it a struct or an array. -/
def fldOf (P : Program) (s : TypeId) (f : Nat) : Option (Nat × Nat × Bool) :=
  match P.underlying s with
  | some (.struct fs) => match fs[f]? with
    | some fl => match tyOf P fl.type with
      | some (m, g, _) => some (fl.offset, m, g)
      | none => none
    | none => none
  | _ => none

theorem fldSpec {s : TypeId} {f off m : Nat} {g : Bool} (h : fldOf P s f = some (off, m, g)) : ∃ fs fl z, P.underlying s = some (.struct fs) ∧ fs[f]? = some fl ∧ fl.offset = off ∧ tyOf P fl.type = some (m, g, z) := by
  unfold fldOf at h
  split at h
  · rename_i fs hu
    split at h
    · rename_i fl hf
      split at h
      · rename_i m' g' z ht
        simp only [Option.some.injEq, Prod.mk.injEq] at h
        obtain ⟨h1, h2, h3⟩ := h
        subst h2; subst h3
        exact ⟨fs, fl, z, hu, hf, h1, ht⟩
      · cases h
    · cases h
  · cases h

theorem add_none (b off k : Nat) : (⟨b, off, none⟩ : Addr).add k = ⟨b, off + k, none⟩ := by
  unfold Addr.add; split
  · rename_i h; subst h; rfl
  · rfl

theorem q_fieldAddr (hT : Tm n a E) {s : TypeId} {x : Operand} {f b off off' k m : Nat} {g : Bool} (hx : evO E x = some (vp b off)) (hf : fldOf P s f = some (k, m + 1, g)) (ho : off + k = off') :
    QR P a w ⟨dst, .fieldAddr s x f, ty, pos, af, gd⟩ (vp b off') := by
  obtain ⟨fs, fl, z, hu, hg, hk, ht⟩ := fldSpec hf
  subst ho; subst hk
  simp [QR, execOp, hT.ev hx, Instr.fieldAt, Instr.sureAddr, run_underlying hu, hg, fieldPlace, run_sizeOf ht, add_none]

theorem run_part_agg {t : TypeId} {m off : Nat} {z : List Value} {cs : List Value} (ht : tyOf P t = some (m, true, z)) {ds : List Value} (hd : (cs.drop off).take m = ds) :
    (part t cs.toArray off).run P w = .ok (.agg ds.toArray) w := by
  subst hd
  simp [part, run_isAgg ht, run_sizeOf ht]
theorem run_part {t : TypeId} {m off : Nat} {z : List Value} {cs : List Value} (ht : tyOf P t = some (m, false, z)) {v : Value} (hd : cs[off]? = some v) :
    (part t cs.toArray off).run P w = .ok v w := by
  have hd' : cs.toArray[off]? = some v := by simpa using hd
  simp [part, run_isAgg ht, hd']

theorem q_field_agg (hT : Tm n a E) {s : TypeId} {x : Operand} {f k m : Nat} {cs ds : List Value} (hx : evO E x = some (.agg cs.toArray)) (hf : fldOf P s f = some (k, m, true)) (hd : (cs.drop k).take m = ds) :
    QR P a w ⟨dst, .field s x f, ty, pos, af, gd⟩ (.agg ds.toArray) := by
  obtain ⟨fs, fl, z, hu, hg, hk, ht⟩ := fldSpec hf
  subst hk
  simp [QR, execOp, hT.ev hx, Instr.field, run_underlying hu, hg, asAgg, run_part_agg ht hd]
theorem q_field (hT : Tm n a E) {s : TypeId} {x : Operand} {f k m : Nat} {cs : List Value} {v : Value} (hx : evO E x = some (.agg cs.toArray)) (hf : fldOf P s f = some (k, m, false)) (hd : cs[k]? = some v) :
    QR P a w ⟨dst, .field s x f, ty, pos, af, gd⟩ v := by
  obtain ⟨fs, fl, z, hu, hg, hk, ht⟩ := fldSpec hf
  subst hk
  simp [QR, execOp, hT.ev hx, Instr.field, run_underlying hu, hg, asAgg, run_part ht hd]

/-- An element type: its size, is it a struct or an array. -/
def elmOf (P : Program) (t : TypeId) : Option (TypeId × Nat × Bool) :=
  match P.underlying t with
  | some (.slice e) | some (.array _ e) => match tyOf P e with
    | some (m, g, _) => some (e, m, g)
    | none => none
  | _ => none

def isSlice (P : Program) (t : TypeId) : Option (TypeId × Nat) :=
  match P.underlying t with
  | some (.slice e) => match tyOf P e with
    | some (m, _, _) => some (e, m)
    | none => none
  | _ => none
theorem isSlice_spec {t e : TypeId} {m : Nat} (h : isSlice P t = some (e, m)) : ∃ g z, P.underlying t = some (.slice e) ∧ tyOf P e = some (m, g, z) := by
  unfold isSlice at h
  split at h
  · rename_i e' hu
    split at h
    · rename_i m' g z ht
      simp only [Option.some.injEq, Prod.mk.injEq] at h
      obtain ⟨h1, h2⟩ := h
      subst h1; subst h2
      exact ⟨g, z, hu, ht⟩
    · cases h
  · cases h
/-- An array type: its length, its element type and that one's size. -/
def isArray (P : Program) (t : TypeId) : Option (Nat × TypeId × Nat × Bool) :=
  match P.underlying t with
  | some (.array l e) => match tyOf P e with
    | some (m, g, _) => some (l, e, m, g)
    | none => none
  | _ => none
theorem isArray_spec {t e : TypeId} {l m : Nat} {g : Bool} (h : isArray P t = some (l, e, m, g)) : ∃ z, P.underlying t = some (.array l e) ∧ tyOf P e = some (m, g, z) := by
  unfold isArray at h
  split at h
  · rename_i l' e' hu
    split at h
    · rename_i m' g' z ht
      simp only [Option.some.injEq, Prod.mk.injEq] at h
      obtain ⟨h1, h2, h3, h4⟩ := h
      subst h1; subst h2; subst h3; subst h4
      exact ⟨z, hu, ht⟩
    · cases h
  · cases h

theorem q_indexAddr (hT : Tm n a E) {t e : TypeId} {x y : Operand} {b off len cap m : Nat} {k : IntKind} {i : Int} (hx : evO E x = some (.slice (some ⟨b, off, none⟩) len cap)) (hy : evO E y = some (.int k i))
    (ht : isSlice P t = some (e, m)) (h0 : 0 ≤ i) (h1 : i < (len : Int)) : QR P a w ⟨dst, .indexAddr t x y, ty, pos, af, gd⟩ (vp b (off + i.toNat * m)) := by
  obtain ⟨g, z, hu, hs⟩ := isSlice_spec ht
  simp [QR, execOp, hT.ev hx, hT.ev hy, Instr.indexAt, run_underlying hu, asIntOf, h0, h1, run_sizeOf hs, add_none]
theorem q_indexAddr_arr (hT : Tm n a E) {t e : TypeId} {x y : Operand} {b off len m : Nat} {g : Bool} {k : IntKind} {i : Int} (hx : evO E x = some (vp b off)) (hy : evO E y = some (.int k i))
    (ht : isArray P t = some (len, e, m, g)) (h0 : 0 ≤ i) (h1 : i < (len : Int)) : QR P a w ⟨dst, .indexAddr t x y, ty, pos, af, gd⟩ (vp b (off + i.toNat * m)) := by
  obtain ⟨z, hu, hs⟩ := isArray_spec ht
  simp [QR, execOp, hT.ev hx, hT.ev hy, Instr.indexAt, Instr.sureAddr, run_underlying hu, asIntOf, h0, h1, run_sizeOf hs, add_none]
theorem q_index_arr (hT : Tm n a E) {t e : TypeId} {x y : Operand} {len m : Nat} {k : IntKind} {i : Int} {cs : List Value} {v : Value} (hx : evO E x = some (.agg cs.toArray)) (hy : evO E y = some (.int k i))
    (ht : isArray P t = some (len, e, m, false)) (h0 : 0 ≤ i) (h1 : i < (len : Int)) (hv : cs[i.toNat * m]? = some v) : QR P a w ⟨dst, .index t x y, ty, pos, af, gd⟩ v := by
  obtain ⟨z, hu, hs⟩ := isArray_spec ht
  simp [QR, execOp, hT.ev hx, hT.ev hy, Instr.index, run_underlying hu, asIntOf, h0, h1, run_sizeOf hs, run_part hs hv]
theorem q_index_str (hT : Tm n a E) {t : TypeId} {x y : Operand} {k : IntKind} {i : Int} {s : ByteArray} {u : UInt8} (hx : evO E x = some (.string s)) (hy : evO E y = some (.int k i))
    (ht : P.underlying t = some .string) (h0 : 0 ≤ i) (hv : s[i.toNat]? = some u) : QR P a w ⟨dst, .index t x y, ty, pos, af, gd⟩ (v8 u) := by
  simp [QR, execOp, hT.ev hx, hT.ev hy, Instr.index, run_underlying ht, asIntOf, h0, hv]

theorem q_nilCheck (hT : Tm n a E) {x : Operand} {ad : Addr} (hx : evO E x = some (.pointer (some ad))) : QR P a w ⟨dst, .nilCheck x, ty, pos, af, gd⟩ (.pointer (some ad)) := by
  simp [QR, execOp, hT.ev hx]
theorem q_extract (hT : Tm n a E) {x : Operand} {i : Nat} {vs : Array Value} {v : Value} (hx : evO E x = some (.tuple vs)) (hv : vs[i]? = some v) : QR P a w ⟨dst, .extract x i, ty, pos, af, gd⟩ v := by
  simp [QR, execOp, hT.ev hx, Instr.extract, hv]
theorem map_ev (hT : Tm n a E) {xs : Array Operand} {l : List Operand} (hl : xs = l.toArray) {vs : List Value} (h : evL E l = some vs) : xs.map a.eval = vs.toArray := by
  subst hl
  simp [hT.evL h]
theorem q_makeFunc (hT : Tm n a E) {fn : Fn} {fs cs : List Operand} {vf vc : List Value} (hf : evL E fs = some vf) (hc : evL E cs = some vc) :
    QR P a w ⟨dst, .makeFunc fn fs.toArray cs.toArray, ty, pos, af, gd⟩ (.func fn vf.toArray vc.toArray) := by
  simp [QR, execOp, Instr.makeFunc, hT.evL hf, hT.evL hc]

/-! arithmetic -/
theorem wrap_i64_id {z : Int} (h0 : -9223372036854775808 ≤ z) (h1 : z < 9223372036854775808) : IntKind.i64.wrap z = z := by
  rw [IntKind.wrap_i64]
  omega
theorem wrap_u8 (z : Int) : IntKind.u8.wrap z = z % 256 := by simp [IntKind.wrap, IntKind.bits, IntKind.signed]
theorem wrap_u32 (z : Int) : IntKind.u32.wrap z = z % 4294967296 := by simp [IntKind.wrap, IntKind.bits, IntKind.signed]
theorem wrap_u64 (z : Int) : IntKind.u64.wrap z = z % 18446744073709551616 := by simp [IntKind.wrap, IntKind.bits, IntKind.signed]

theorem run_guard_int {op : BinOp} {t : TypeId} {x y : Operand} {k k' : IntKind} {i j : Int} : (eqGuard op t x y (.int k i) (.int k' j)).run P w = .ok () w := by
  simp only [eqGuard]
  split <;> simp

theorem q_bin (hT : Tm n a E) {op : BinOp} {t yt : TypeId} {x y : Operand} {u v r : Value} (hx : evO E x = some u) (hy : evO E y = some v)
    (hg : (eqGuard op t x y u v).run P w = .ok () w) (hr : (binOp op t u v).run P w = .ok r w) : QR P a w ⟨dst, .binOp op t x y yt, ty, pos, af, gd⟩ r := by
  simp [QR, execOp, hT.ev hx, hT.ev hy, hg, hr]

theorem q_add (hT : Tm n a E) {t yt : TypeId} {x y : Operand} {k : IntKind} {i j : Int} (hx : evO E x = some (.int k i)) (hy : evO E y = some (.int k j)) : QR P a w ⟨dst, .binOp .add t x y yt, ty, pos, af, gd⟩ (.int k (k.wrap (i + j))) :=
  q_bin hT hx hy run_guard_int (by simp [binOp, Op.intArith])
theorem q_sub (hT : Tm n a E) {t yt : TypeId} {x y : Operand} {k : IntKind} {i j : Int} (hx : evO E x = some (.int k i)) (hy : evO E y = some (.int k j)) : QR P a w ⟨dst, .binOp .sub t x y yt, ty, pos, af, gd⟩ (.int k (k.wrap (i - j))) :=
  q_bin hT hx hy run_guard_int (by simp [binOp, Op.intArith])
theorem q_mul (hT : Tm n a E) {t yt : TypeId} {x y : Operand} {k : IntKind} {i j : Int} (hx : evO E x = some (.int k i)) (hy : evO E y = some (.int k j)) : QR P a w ⟨dst, .binOp .mul t x y yt, ty, pos, af, gd⟩ (.int k (k.wrap (i * j))) :=
  q_bin hT hx hy run_guard_int (by simp [binOp, Op.intArith])
/-- The three in int, within its bounds. -/
theorem q_addI (hT : Tm n a E) {t yt : TypeId} {x y : Operand} {i j r : Int} (hx : evO E x = some (vI i)) (hy : evO E y = some (vI j)) (hr : i + j = r) (h0 : -9223372036854775808 ≤ r) (h1 : r < 9223372036854775808) : QR P a w ⟨dst, .binOp .add t x y yt, ty, pos, af, gd⟩ (vI r) := by
  have := q_add (P := P) (w := w) (dst := dst) (ty := ty) (pos := pos) (af := af) (gd := gd) (t := t) (yt := yt) hT hx hy
  rwa [hr, wrap_i64_id h0 h1] at this
theorem q_subI (hT : Tm n a E) {t yt : TypeId} {x y : Operand} {i j r : Int} (hx : evO E x = some (vI i)) (hy : evO E y = some (vI j)) (hr : i - j = r) (h0 : -9223372036854775808 ≤ r) (h1 : r < 9223372036854775808) : QR P a w ⟨dst, .binOp .sub t x y yt, ty, pos, af, gd⟩ (vI r) := by
  have := q_sub (P := P) (w := w) (dst := dst) (ty := ty) (pos := pos) (af := af) (gd := gd) (t := t) (yt := yt) hT hx hy
  rwa [hr, wrap_i64_id h0 h1] at this
theorem q_mulI (hT : Tm n a E) {t yt : TypeId} {x y : Operand} {i j r : Int} (hx : evO E x = some (vI i)) (hy : evO E y = some (vI j)) (hr : i * j = r) (h0 : -9223372036854775808 ≤ r) (h1 : r < 9223372036854775808) : QR P a w ⟨dst, .binOp .mul t x y yt, ty, pos, af, gd⟩ (vI r) := by
  have := q_mul (P := P) (w := w) (dst := dst) (ty := ty) (pos := pos) (af := af) (gd := gd) (t := t) (yt := yt) hT hx hy
  rwa [hr, wrap_i64_id h0 h1] at this
theorem q_lss (hT : Tm n a E) {t yt : TypeId} {x y : Operand} {k : IntKind} {i j : Int} (hx : evO E x = some (.int k i)) (hy : evO E y = some (.int k j)) : QR P a w ⟨dst, .binOp .lss t x y yt, ty, pos, af, gd⟩ (.bool (decide (i < j))) :=
  q_bin hT hx hy run_guard_int (by simp [binOp, Op.intCmp])
theorem q_leq (hT : Tm n a E) {t yt : TypeId} {x y : Operand} {k : IntKind} {i j : Int} (hx : evO E x = some (.int k i)) (hy : evO E y = some (.int k j)) : QR P a w ⟨dst, .binOp .leq t x y yt, ty, pos, af, gd⟩ (.bool (decide (i ≤ j))) :=
  q_bin hT hx hy run_guard_int (by simp [binOp, Op.intCmp])
theorem q_gtr (hT : Tm n a E) {t yt : TypeId} {x y : Operand} {k : IntKind} {i j : Int} (hx : evO E x = some (.int k i)) (hy : evO E y = some (.int k j)) : QR P a w ⟨dst, .binOp .gtr t x y yt, ty, pos, af, gd⟩ (.bool (decide (j < i))) :=
  q_bin hT hx hy run_guard_int (by simp [binOp, Op.intCmp])
theorem q_geq (hT : Tm n a E) {t yt : TypeId} {x y : Operand} {k : IntKind} {i j : Int} (hx : evO E x = some (.int k i)) (hy : evO E y = some (.int k j)) : QR P a w ⟨dst, .binOp .geq t x y yt, ty, pos, af, gd⟩ (.bool (decide (j ≤ i))) :=
  q_bin hT hx hy run_guard_int (by simp [binOp, Op.intCmp])
theorem q_eql (hT : Tm n a E) {t yt : TypeId} {x y : Operand} {k : IntKind} {i j : Int} (hx : evO E x = some (.int k i)) (hy : evO E y = some (.int k j)) : QR P a w ⟨dst, .binOp .eql t x y yt, ty, pos, af, gd⟩ (.bool (decide (i = j))) :=
  q_bin hT hx hy run_guard_int (by simp [binOp, Op.intCmp, BEq.beq])
theorem q_neq (hT : Tm n a E) {t yt : TypeId} {x y : Operand} {k : IntKind} {i j : Int} (hx : evO E x = some (.int k i)) (hy : evO E y = some (.int k j)) : QR P a w ⟨dst, .binOp .neq t x y yt, ty, pos, af, gd⟩ (.bool (decide (i ≠ j))) :=
  q_bin hT hx hy run_guard_int (by
    have : (i != j) = decide (i ≠ j) := by by_cases h : i = j <;> simp [h]
    simp [binOp, Op.intCmp, this])
theorem q_not (hT : Tm n a E) {t : TypeId} {x : Operand} {b : Bool} (hx : evO E x = some (.bool b)) : QR P a w ⟨dst, .unOp .not t x, ty, pos, af, gd⟩ (.bool (!b)) := by
  simp [QR, execOp, hT.ev hx, Op.unary]
/-- '/' and '%' of int, neither negative. -/
theorem q_quoI (hT : Tm n a E) {t yt : TypeId} {x y : Operand} {i j : Int} (hx : evO E x = some (vI i)) (hy : evO E y = some (vI j)) (hi : 0 ≤ i) (hi' : i < 9223372036854775808) (hj : 0 < j) : QR P a w ⟨dst, .binOp .quo t x y yt, ty, pos, af, gd⟩ (vI (i / j)) :=
  q_bin hT hx hy run_guard_int (by
    have h0 : j ≠ 0 := by omega
    have e : i.tdiv j = i / j := by rw [Int.tdiv_eq_ediv_of_nonneg hi]
    have h2 : i / j ≤ i := Int.ediv_le_self j hi
    have h3 : 0 ≤ i / j := Int.ediv_nonneg hi (by omega)
    simp [binOp, Op.intDiv, h0, e, wrap_i64_id (show -9223372036854775808 ≤ i / j by omega) (by omega)])
theorem q_remI (hT : Tm n a E) {t yt : TypeId} {x y : Operand} {i j : Int} (hx : evO E x = some (vI i)) (hy : evO E y = some (vI j)) (hi : 0 ≤ i) (hj : 0 < j) : QR P a w ⟨dst, .binOp .rem t x y yt, ty, pos, af, gd⟩ (vI (i % j)) :=
  q_bin hT hx hy run_guard_int (by
    have h0 : j ≠ 0 := by omega
    have e : i.tmod j = i % j := by rw [Int.tmod_eq_emod_of_nonneg hi]
    simp [binOp, Op.intDiv, h0, e])
theorem q_conv_int (hT : Tm n a E) {s d : TypeId} {x : Operand} {k k' : IntKind} {i : Int} {ds : TypeDesc} (hx : evO E x = some (.int k i)) (hs : P.underlying s = some ds) (hd : P.underlying d = some (.int k')) : QR P a w ⟨dst, .convert s d x, ty, pos, af, gd⟩ (.int k' (k'.wrap i)) := by
  cases ds <;> simp [QR, execOp, hT.ev hx, convert, run_underlying hs, run_underlying hd, Conv.intToInt]

theorem q_conv_unsafe (hT : Tm n a E) {s d t : TypeId} {x : Operand} {ad : Addr} {v : Value} (hx : evO E x = some (.pointer (some ad))) (hs : P.underlying s = some (.pointer t)) (hd : P.underlying d = some .unsafePointer) (hsz : (P.info? t).map (fun i => decide (i.size = 0)) = some false) (hc : w.cell? ad = some v) :
    QR P a w ⟨dst, .convert s d x, ty, pos, af, gd⟩ (.pointer (some ad)) := by
  simp [QR, execOp, hT.ev hx, run_convert_to_unsafe hs hd hsz hc]

/-! nil -/
theorem run_equalIn_ptr_nil {t e : TypeId} (d : Nat) (p : Option Addr) (ht : P.underlying t = some (.pointer e)) : (Op.equalIn (d + 1) t (.pointer p) (.pointer none)).run P w = .ok p.isNone w := by
  unfold Op.equalIn
  cases p <;> simp [run_underlying ht]
theorem run_equal_ptr_nil {t e : TypeId} (p : Option Addr) (ht : P.underlying t = some (.pointer e)) : (Op.equal t (.pointer p) (.pointer none)).run P w = .ok p.isNone w := run_equalIn_ptr_nil 9999 p ht
theorem q_eq_nil (hT : Tm n a E) {t e yt : TypeId} {x y : Operand} {p : Option Addr} (hx : evO E x = some (.pointer p)) (hy : evO E y = some (.pointer none)) (ht : P.underlying t = some (.pointer e)) : QR P a w ⟨dst, .binOp .eql t x y yt, ty, pos, af, gd⟩ (.bool p.isNone) :=
  q_bin hT hx hy (by simp [eqGuard]) (by simp only [binOp, Sem.run_bind, run_equal_ptr_nil p ht, Result.andThen_ok, Sem.run_pure])
theorem q_ne_nil (hT : Tm n a E) {t e yt : TypeId} {x y : Operand} {p : Option Addr} (hx : evO E x = some (.pointer p)) (hy : evO E y = some (.pointer none)) (ht : P.underlying t = some (.pointer e)) : QR P a w ⟨dst, .binOp .neq t x y yt, ty, pos, af, gd⟩ (.bool p.isSome) :=
  q_bin hT hx hy (by simp [eqGuard]) (by
    have : (!p.isNone) = p.isSome := by cases p <;> rfl
    simp only [binOp, Sem.run_bind, run_equal_ptr_nil p ht, Result.andThen_ok, Sem.run_pure, this])

/-! builtins -/
theorem q_len_slice (hT : Tm n a E) {x : Operand} {t e : TypeId} {p : Option Addr} {l c : Nat} (hx : evO E x = some (.slice p l c)) (ht : P.underlying t = some (.slice e)) : QR P a w ⟨dst, .call { callee := .builtin .len, args := #[x], argTypes := #[t] }, ty, pos, af, gd⟩ (vI l) := by
  simp [QR, execOp, resolve, invoke, builtin, Builtin.len_, hT.ev hx, run_underlying ht, goInt]
theorem q_len_str (hT : Tm n a E) {x : Operand} {t : TypeId} {s : ByteArray} (hx : evO E x = some (.string s)) (ht : P.underlying t = some .string) : QR P a w ⟨dst, .call { callee := .builtin .len, args := #[x], argTypes := #[t] }, ty, pos, af, gd⟩ (vI s.size) := by
  simp [QR, execOp, resolve, invoke, builtin, Builtin.len_, hT.ev hx, run_underlying ht, goInt]
end
end Go.Vg
