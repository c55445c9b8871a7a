/- Words of 8, 32 and 64 bits: what the operations yield, over UInt8, UInt32, UInt64. -/
import Derived.Test.YtcaffacganffjaaDoorVCode
namespace Go.Vg
open Go

def shr8 (x : UInt8) (s : Nat) : UInt8 := UInt8.ofNat (x.toNat >>> s)
def shl8 (x : UInt8) (s : Nat) : UInt8 := UInt8.ofNat (x.toNat <<< s)
def shr32 (x : UInt32) (s : Nat) : UInt32 := UInt32.ofNat (x.toNat >>> s)
def shl32 (x : UInt32) (s : Nat) : UInt32 := UInt32.ofNat (x.toNat <<< s)
def shr64 (x : UInt64) (s : Nat) : UInt64 := UInt64.ofNat (x.toNat >>> s)
def shl64 (x : UInt64) (s : Nat) : UInt64 := UInt64.ofNat (x.toNat <<< s)

section
variable {P : Program} {n : Sh} {a : Act} {E : List (Nat × Value)} {w : World} {dst : Option Tmp} {ty : TypeId} {pos : String} {af : Array Edge} {gd : Option (Nat × Bool)} {t yt : TypeId} {x y : Operand}

theorem wrapNat (k : IntKind) (h : k.signed = false) (z : Nat) : k.wrap (z : Int) = ((z % 2 ^ k.bits : Nat) : Int) := by
  simp only [IntKind.wrap, h, Bool.false_and]
  simp

theorem q_add32 (hT : Tm n a E) {u v : UInt32} (hx : evO E x = some (v32 u)) (hy : evO E y = some (v32 v)) : QR P a w ⟨dst, .binOp .add t x y yt, ty, pos, af, gd⟩ (v32 (u + v)) := by
  have := q_add (P := P) (w := w) (dst := dst) (ty := ty) (pos := pos) (af := af) (gd := gd) (t := t) (yt := yt) hT hx hy
  rw [← Int.natCast_add, wrapNat .u32 rfl] at this
  simpa [v32, UInt32.toNat_add, IntKind.bits] using this
theorem q_add8 (hT : Tm n a E) {u v : UInt8} (hx : evO E x = some (v8 u)) (hy : evO E y = some (v8 v)) : QR P a w ⟨dst, .binOp .add t x y yt, ty, pos, af, gd⟩ (v8 (u + v)) := by
  have := q_add (P := P) (w := w) (dst := dst) (ty := ty) (pos := pos) (af := af) (gd := gd) (t := t) (yt := yt) hT hx hy
  rw [← Int.natCast_add, wrapNat .u8 rfl] at this
  simpa [v8, UInt8.toNat_add, IntKind.bits] using this
theorem q_add64 (hT : Tm n a E) {u v : UInt64} (hx : evO E x = some (v64 u)) (hy : evO E y = some (v64 v)) : QR P a w ⟨dst, .binOp .add t x y yt, ty, pos, af, gd⟩ (v64 (u + v)) := by
  have := q_add (P := P) (w := w) (dst := dst) (ty := ty) (pos := pos) (af := af) (gd := gd) (t := t) (yt := yt) hT hx hy
  rw [← Int.natCast_add, wrapNat .u64 rfl] at this
  simpa [v64, UInt64.toNat_add, IntKind.bits] using this
theorem q_mul64 (hT : Tm n a E) {u v : UInt64} (hx : evO E x = some (v64 u)) (hy : evO E y = some (v64 v)) : QR P a w ⟨dst, .binOp .mul t x y yt, ty, pos, af, gd⟩ (v64 (u * v)) := by
  have := q_mul (P := P) (w := w) (dst := dst) (ty := ty) (pos := pos) (af := af) (gd := gd) (t := t) (yt := yt) hT hx hy
  rw [← Int.natCast_mul, wrapNat .u64 rfl] at this
  simpa [v64, UInt64.toNat_mul, IntKind.bits] using this

theorem bits_run (op : BinOp) (k : IntKind) (hk : k.signed = false) (u v : Nat) (hu : u < 2 ^ k.bits) (hv : v < 2 ^ k.bits) (r : Nat) (hr : (op = .and ∧ r = u &&& v) ∨ (op = .or ∧ r = u ||| v) ∨ (op = .xor ∧ r = u ^^^ v)) :
    (Op.intBits op k (u : Int) (v : Int)).run P w = .ok (.int k (r : Int)) w := by
  have e1 : BitVec.ofInt k.bits (u : Int) = BitVec.ofNat k.bits u := BitVec.ofInt_natCast _ _
  have e2 : BitVec.ofInt k.bits (v : Int) = BitVec.ofNat k.bits v := BitVec.ofInt_natCast _ _
  have hu' : u % 2 ^ k.bits = u := Nat.mod_eq_of_lt hu
  have hv' : v % 2 ^ k.bits = v := Nat.mod_eq_of_lt hv
  rcases hr with ⟨rfl, rfl⟩ | ⟨rfl, rfl⟩ | ⟨rfl, rfl⟩
  · simp only [Op.intBits, e1, e2, BitVec.toNat_and, BitVec.toNat_ofNat, hu', hv', wrapNat k hk, Sem.run_pure]
    rw [Nat.mod_eq_of_lt (Nat.lt_of_le_of_lt Nat.and_le_left hu)]
  · simp only [Op.intBits, e1, e2, BitVec.toNat_or, BitVec.toNat_ofNat, hu', hv', wrapNat k hk, Sem.run_pure]
    rw [Nat.mod_eq_of_lt (Nat.or_lt_two_pow hu hv)]
  · simp only [Op.intBits, e1, e2, BitVec.toNat_xor, BitVec.toNat_ofNat, hu', hv', wrapNat k hk, Sem.run_pure]
    rw [Nat.mod_eq_of_lt (Nat.xor_lt_two_pow hu hv)]

theorem q_bits (hT : Tm n a E) {op : BinOp} {k : IntKind} {u v : Nat} (hx : evO E x = some (.int k u)) (hy : evO E y = some (.int k v)) (hk : k.signed = false) (hu : u < 2 ^ k.bits) (hv : v < 2 ^ k.bits) {r : Nat}
    (hr : (op = .and ∧ r = u &&& v) ∨ (op = .or ∧ r = u ||| v) ∨ (op = .xor ∧ r = u ^^^ v)) : QR P a w ⟨dst, .binOp op t x y yt, ty, pos, af, gd⟩ (.int k (r : Int)) :=
  q_bin hT hx hy run_guard_int (by
    have := bits_run (P := P) (w := w) op k hk u v hu hv r hr
    rcases hr with ⟨rfl, _⟩ | ⟨rfl, _⟩ | ⟨rfl, _⟩ <;> simpa [binOp] using this)

theorem q_and8 (hT : Tm n a E) {u v : UInt8} (hx : evO E x = some (v8 u)) (hy : evO E y = some (v8 v)) : QR P a w ⟨dst, .binOp .and t x y yt, ty, pos, af, gd⟩ (v8 (u &&& v)) :=
  q_bits hT hx hy rfl u.toNat_lt v.toNat_lt (.inl ⟨rfl, by simp⟩)
theorem q_or8 (hT : Tm n a E) {u v : UInt8} (hx : evO E x = some (v8 u)) (hy : evO E y = some (v8 v)) : QR P a w ⟨dst, .binOp .or t x y yt, ty, pos, af, gd⟩ (v8 (u ||| v)) :=
  q_bits hT hx hy rfl u.toNat_lt v.toNat_lt (.inr (.inl ⟨rfl, by simp⟩))
theorem q_xor8 (hT : Tm n a E) {u v : UInt8} (hx : evO E x = some (v8 u)) (hy : evO E y = some (v8 v)) : QR P a w ⟨dst, .binOp .xor t x y yt, ty, pos, af, gd⟩ (v8 (u ^^^ v)) :=
  q_bits hT hx hy rfl u.toNat_lt v.toNat_lt (.inr (.inr ⟨rfl, by simp⟩))
theorem q_and32 (hT : Tm n a E) {u v : UInt32} (hx : evO E x = some (v32 u)) (hy : evO E y = some (v32 v)) : QR P a w ⟨dst, .binOp .and t x y yt, ty, pos, af, gd⟩ (v32 (u &&& v)) :=
  q_bits hT hx hy rfl u.toNat_lt v.toNat_lt (.inl ⟨rfl, by simp⟩)
theorem q_or32 (hT : Tm n a E) {u v : UInt32} (hx : evO E x = some (v32 u)) (hy : evO E y = some (v32 v)) : QR P a w ⟨dst, .binOp .or t x y yt, ty, pos, af, gd⟩ (v32 (u ||| v)) :=
  q_bits hT hx hy rfl u.toNat_lt v.toNat_lt (.inr (.inl ⟨rfl, by simp⟩))
theorem q_xor32 (hT : Tm n a E) {u v : UInt32} (hx : evO E x = some (v32 u)) (hy : evO E y = some (v32 v)) : QR P a w ⟨dst, .binOp .xor t x y yt, ty, pos, af, gd⟩ (v32 (u ^^^ v)) :=
  q_bits hT hx hy rfl u.toNat_lt v.toNat_lt (.inr (.inr ⟨rfl, by simp⟩))
theorem q_and64 (hT : Tm n a E) {u v : UInt64} (hx : evO E x = some (v64 u)) (hy : evO E y = some (v64 v)) : QR P a w ⟨dst, .binOp .and t x y yt, ty, pos, af, gd⟩ (v64 (u &&& v)) :=
  q_bits hT hx hy rfl u.toNat_lt v.toNat_lt (.inl ⟨rfl, by simp⟩)
theorem q_or64 (hT : Tm n a E) {u v : UInt64} (hx : evO E x = some (v64 u)) (hy : evO E y = some (v64 v)) : QR P a w ⟨dst, .binOp .or t x y yt, ty, pos, af, gd⟩ (v64 (u ||| v)) :=
  q_bits hT hx hy rfl u.toNat_lt v.toNat_lt (.inr (.inl ⟨rfl, by simp⟩))

theorem shl_run (k yk : IntKind) (hk : k.signed = false) (u s : Nat) (hs : s ≤ k.bits) : (Op.shift .shl k (u : Int) yk (s : Int)).run P w = .ok (.int k (((u <<< s) % 2 ^ k.bits : Nat) : Int)) w := by
  have h0 : ¬ ((s : Int) < 0) := by omega
  have e : ((u : Int) * 2 ^ s) = ((u <<< s : Nat) : Int) := by rw [Nat.shiftLeft_eq]; simp
  simp only [Op.shift, h0, if_false, Int.toNat_natCast, Nat.min_eq_left hs, e, wrapNat k hk, Sem.run_pure]
theorem shr_run (k yk : IntKind) (u s : Nat) (hs : s ≤ k.bits) : (Op.shift .shr k (u : Int) yk (s : Int)).run P w = .ok (.int k ((u >>> s : Nat) : Int)) w := by
  have h0 : ¬ ((s : Int) < 0) := by omega
  have e : (u : Int).fdiv (2 ^ s) = ((u >>> s : Nat) : Int) := by
    rw [Nat.shiftRight_eq_div_pow]
    rw [Int.fdiv_eq_ediv_of_nonneg _ (by exact_mod_cast Nat.zero_le (2 ^ s))]
    simp
  simp only [Op.shift, h0, if_false, Int.toNat_natCast, Nat.min_eq_left hs, e, Sem.run_pure]

theorem q_shl (hT : Tm n a E) {k yk : IntKind} {u s : Nat} (hx : evO E x = some (.int k u)) (hy : evO E y = some (.int yk s)) (hk : k.signed = false) (hs : s ≤ k.bits) : QR P a w ⟨dst, .binOp .shl t x y yt, ty, pos, af, gd⟩ (.int k (((u <<< s) % 2 ^ k.bits : Nat) : Int)) :=
  q_bin hT hx hy run_guard_int (by simpa [binOp] using shl_run (P := P) (w := w) k yk hk u s hs)
theorem q_shr (hT : Tm n a E) {k yk : IntKind} {u s : Nat} (hx : evO E x = some (.int k u)) (hy : evO E y = some (.int yk s)) (hs : s ≤ k.bits) : QR P a w ⟨dst, .binOp .shr t x y yt, ty, pos, af, gd⟩ (.int k ((u >>> s : Nat) : Int)) :=
  q_bin hT hx hy run_guard_int (by simpa [binOp] using shr_run (P := P) (w := w) k yk u s hs)

theorem q_shl8 (hT : Tm n a E) {yk : IntKind} {u : UInt8} {s : Nat} (hx : evO E x = some (v8 u)) (hy : evO E y = some (.int yk s)) (hs : s ≤ 8) : QR P a w ⟨dst, .binOp .shl t x y yt, ty, pos, af, gd⟩ (v8 (shl8 u s)) := by
  have := q_shl (P := P) (w := w) (dst := dst) (ty := ty) (pos := pos) (af := af) (gd := gd) (t := t) (yt := yt) hT hx hy rfl hs
  simpa [v8, shl8, IntKind.bits] using this
theorem q_shl32 (hT : Tm n a E) {yk : IntKind} {u : UInt32} {s : Nat} (hx : evO E x = some (v32 u)) (hy : evO E y = some (.int yk s)) (hs : s ≤ 32) : QR P a w ⟨dst, .binOp .shl t x y yt, ty, pos, af, gd⟩ (v32 (shl32 u s)) := by
  have := q_shl (P := P) (w := w) (dst := dst) (ty := ty) (pos := pos) (af := af) (gd := gd) (t := t) (yt := yt) hT hx hy rfl hs
  simpa [v32, shl32, IntKind.bits] using this
theorem q_shl64 (hT : Tm n a E) {yk : IntKind} {u : UInt64} {s : Nat} (hx : evO E x = some (v64 u)) (hy : evO E y = some (.int yk s)) (hs : s ≤ 64) : QR P a w ⟨dst, .binOp .shl t x y yt, ty, pos, af, gd⟩ (v64 (shl64 u s)) := by
  have := q_shl (P := P) (w := w) (dst := dst) (ty := ty) (pos := pos) (af := af) (gd := gd) (t := t) (yt := yt) hT hx hy rfl hs
  simpa [v64, shl64, IntKind.bits] using this
theorem shr_lt {u m : Nat} (s : Nat) (h : u < m) : u >>> s < m := Nat.lt_of_le_of_lt (Nat.shiftRight_le u s) h
theorem q_shr8 (hT : Tm n a E) {yk : IntKind} {u : UInt8} {s : Nat} (hx : evO E x = some (v8 u)) (hy : evO E y = some (.int yk s)) (hs : s ≤ 8) : QR P a w ⟨dst, .binOp .shr t x y yt, ty, pos, af, gd⟩ (v8 (shr8 u s)) := by
  have := q_shr (P := P) (w := w) (dst := dst) (ty := ty) (pos := pos) (af := af) (gd := gd) (t := t) (yt := yt) hT hx hy hs
  have e : (shr8 u s).toNat = u.toNat >>> s := by simp only [shr8, UInt8.toNat_ofNat']; exact Nat.mod_eq_of_lt (shr_lt s u.toNat_lt)
  simpa [v8, e] using this
theorem q_shr32 (hT : Tm n a E) {yk : IntKind} {u : UInt32} {s : Nat} (hx : evO E x = some (v32 u)) (hy : evO E y = some (.int yk s)) (hs : s ≤ 32) : QR P a w ⟨dst, .binOp .shr t x y yt, ty, pos, af, gd⟩ (v32 (shr32 u s)) := by
  have := q_shr (P := P) (w := w) (dst := dst) (ty := ty) (pos := pos) (af := af) (gd := gd) (t := t) (yt := yt) hT hx hy hs
  have e : (shr32 u s).toNat = u.toNat >>> s := by simp only [shr32, UInt32.toNat_ofNat']; exact Nat.mod_eq_of_lt (shr_lt s u.toNat_lt)
  simpa [v32, e] using this
theorem q_shr64 (hT : Tm n a E) {yk : IntKind} {u : UInt64} {s : Nat} (hx : evO E x = some (v64 u)) (hy : evO E y = some (.int yk s)) (hs : s ≤ 64) : QR P a w ⟨dst, .binOp .shr t x y yt, ty, pos, af, gd⟩ (v64 (shr64 u s)) := by
  have := q_shr (P := P) (w := w) (dst := dst) (ty := ty) (pos := pos) (af := af) (gd := gd) (t := t) (yt := yt) hT hx hy hs
  have e : (shr64 u s).toNat = u.toNat >>> s := by simp only [shr64, UInt64.toNat_ofNat']; exact Nat.mod_eq_of_lt (shr_lt s u.toNat_lt)
  simpa [v64, e] using this

/-! conversions -/
theorem q_conv (hT : Tm n a E) {s d : TypeId} {k k' : IntKind} {u : Nat} {ds : TypeDesc} (hx : evO E x = some (.int k u)) (hs : P.underlying s = some ds) (hd : P.underlying d = some (.int k')) (hk : k'.signed = false) : QR P a w ⟨dst, .convert s d x, ty, pos, af, gd⟩ (.int k' ((u % 2 ^ k'.bits : Nat) : Int)) := by
  have := q_conv_int (P := P) (w := w) (dst := dst) (ty := ty) (pos := pos) (af := af) (gd := gd) hT hx hs hd
  rwa [wrapNat k' hk] at this
theorem q_conv_8_32 (hT : Tm n a E) {s d : TypeId} {u : UInt8} {ds : TypeDesc} (hx : evO E x = some (v8 u)) (hs : P.underlying s = some ds) (hd : P.underlying d = some (.int .u32)) : QR P a w ⟨dst, .convert s d x, ty, pos, af, gd⟩ (v32 u.toUInt32) := by
  have := q_conv (P := P) (w := w) (dst := dst) (ty := ty) (pos := pos) (af := af) (gd := gd) hT hx hs hd rfl
  have h : u.toNat % 2 ^ 32 = u.toNat := Nat.mod_eq_of_lt (by have := u.toNat_lt; omega)
  simpa [v32, IntKind.bits, h] using this
theorem q_conv_32_8 (hT : Tm n a E) {s d : TypeId} {u : UInt32} {ds : TypeDesc} (hx : evO E x = some (v32 u)) (hs : P.underlying s = some ds) (hd : P.underlying d = some (.int .u8)) : QR P a w ⟨dst, .convert s d x, ty, pos, af, gd⟩ (v8 u.toUInt8) := by
  have := q_conv (P := P) (w := w) (dst := dst) (ty := ty) (pos := pos) (af := af) (gd := gd) hT hx hs hd rfl
  simpa [v8, IntKind.bits] using this
theorem q_conv_64_8 (hT : Tm n a E) {s d : TypeId} {u : UInt64} {ds : TypeDesc} (hx : evO E x = some (v64 u)) (hs : P.underlying s = some ds) (hd : P.underlying d = some (.int .u8)) : QR P a w ⟨dst, .convert s d x, ty, pos, af, gd⟩ (v8 u.toUInt8) := by
  have := q_conv (P := P) (w := w) (dst := dst) (ty := ty) (pos := pos) (af := af) (gd := gd) hT hx hs hd rfl
  simpa [v8, IntKind.bits] using this
theorem q_conv_8_i (hT : Tm n a E) {s d : TypeId} {u : UInt8} {ds : TypeDesc} (hx : evO E x = some (v8 u)) (hs : P.underlying s = some ds) (hd : P.underlying d = some (.int .i64)) : QR P a w ⟨dst, .convert s d x, ty, pos, af, gd⟩ (vI (u.toNat : Int)) := by
  have := q_conv_int (P := P) (w := w) (dst := dst) (ty := ty) (pos := pos) (af := af) (gd := gd) hT hx hs hd
  rwa [wrap_i64_id (by omega) (by have := u.toNat_lt; omega)] at this
theorem q_conv_i_64 (hT : Tm n a E) {s d : TypeId} {u : Nat} {ds : TypeDesc} (hx : evO E x = some (vI (u : Int))) (hs : P.underlying s = some ds) (hd : P.underlying d = some (.int .u64)) : QR P a w ⟨dst, .convert s d x, ty, pos, af, gd⟩ (v64 (UInt64.ofNat u)) := by
  have := q_conv (P := P) (w := w) (dst := dst) (ty := ty) (pos := pos) (af := af) (gd := gd) hT hx hs hd rfl
  simpa [v64, IntKind.bits] using this
theorem q_conv_i_8 (hT : Tm n a E) {s d : TypeId} {u : Nat} {ds : TypeDesc} (hx : evO E x = some (vI (u : Int))) (hs : P.underlying s = some ds) (hd : P.underlying d = some (.int .u8)) : QR P a w ⟨dst, .convert s d x, ty, pos, af, gd⟩ (v8 (UInt8.ofNat u)) := by
  have := q_conv (P := P) (w := w) (dst := dst) (ty := ty) (pos := pos) (af := af) (gd := gd) hT hx hs hd rfl
  simpa [v8, IntKind.bits] using this
theorem q_conv_i_i (hT : Tm n a E) {s d : TypeId} {i : Int} {ds : TypeDesc} (hx : evO E x = some (vI i)) (hs : P.underlying s = some ds) (hd : P.underlying d = some (.int .i64)) (h0 : -9223372036854775808 ≤ i) (h1 : i < 9223372036854775808) : QR P a w ⟨dst, .convert s d x, ty, pos, af, gd⟩ (vI i) := by
  have := q_conv_int (P := P) (w := w) (dst := dst) (ty := ty) (pos := pos) (af := af) (gd := gd) hT hx hs hd
  rwa [wrap_i64_id h0 h1] at this
theorem q_eq8 (hT : Tm n a E) {u v : UInt8} (hx : evO E x = some (v8 u)) (hy : evO E y = some (v8 v)) : QR P a w ⟨dst, .binOp .eql t x y yt, ty, pos, af, gd⟩ (.bool (decide (u = v))) := by
  have := q_eql (P := P) (w := w) (dst := dst) (ty := ty) (pos := pos) (af := af) (gd := gd) (t := t) (yt := yt) hT hx hy
  have e : decide ((u.toNat : Int) = v.toNat) = decide (u = v) := by
    refine decide_eq_decide.2 ?_; rw [Int.natCast_inj, UInt8.toNat_inj]
  rwa [e] at this
theorem q_ne8 (hT : Tm n a E) {u v : UInt8} (hx : evO E x = some (v8 u)) (hy : evO E y = some (v8 v)) : QR P a w ⟨dst, .binOp .neq t x y yt, ty, pos, af, gd⟩ (.bool (decide (u ≠ v))) := by
  have := q_neq (P := P) (w := w) (dst := dst) (ty := ty) (pos := pos) (af := af) (gd := gd) (t := t) (yt := yt) hT hx hy
  have e : decide ((u.toNat : Int) ≠ v.toNat) = decide (u ≠ v) := by
    refine decide_eq_decide.2 ?_; rw [ne_eq, Int.natCast_inj, UInt8.toNat_inj]
  rwa [e] at this
end
end Go.Vg
