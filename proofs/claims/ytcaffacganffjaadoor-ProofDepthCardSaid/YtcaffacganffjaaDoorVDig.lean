/- Digests and the plain words over them. -/
import Derived.Test.YtcaffacganffjaaDoorVBits
namespace Go.Vg
open Go

structure Dig where
  l : List UInt8
  h : l.length = 32
  deriving DecidableEq

theorem Dig.ext' {d e : Dig} (h : d.l = e.l) : d = e := by cases d; cases e; simp_all
def Dig.get (d : Dig) (i : Nat) : UInt8 := d.l.getD i 0
def digC (d : Dig) : List Value := (List.range 32).map fun i => v8 (d.get i)
abbrev dv (d : Dig) : Value := .agg (digC d).toArray
theorem digC_len (d : Dig) : (digC d).length = 32 := rfl

theorem digC_get (d : Dig) {i : Nat} (h : i < 32) : (digC d)[i]? = some (v8 (d.get i)) := by
  simp [digC, h]

def Dig.zero : Dig := ⟨List.replicate 32 0, by simp⟩

/-- Bytes as cells. -/
def byC (l : List UInt8) : List Value := l.map v8
theorem digC_by (d : Dig) : digC d = byC d.l := by
  apply List.ext_getElem?
  intro i
  by_cases h : i < 32
  · rw [digC_get d h]
    have h' : i < d.l.length := by rw [d.h]; exact h
    simp [byC, Dig.get, List.getD_eq_getElem?_getD, h']
  · rw [List.getElem?_eq_none (by rw [digC_len]; omega), List.getElem?_eq_none (by simp [byC, d.h]; omega)]

theorem v8_inj {a b : UInt8} (h : v8 a = v8 b) : a = b := by
  simp only [v8, Value.int.injEq, true_and, Int.natCast_inj, UInt8.toNat_inj] at h
  exact h
theorem byC_inj : ∀ {l m : List UInt8}, byC l = byC m → l = m
  | [], [], _ => rfl
  | [], _ :: _, h => by simp [byC] at h
  | _ :: _, [], h => by simp [byC] at h
  | a :: l, b :: m, h => by
    simp only [byC, List.map_cons, List.cons.injEq] at h
    rw [v8_inj h.1, byC_inj h.2]
theorem digC_inj {d e : Dig} (h : digC d = digC e) : d = e := Dig.ext' (byC_inj (by rw [← digC_by, ← digC_by, h]))

theorem Rd.dig {w : World} {b off : Nat} {d : Dig} (h : Rd w b off (digC d)) {i : Nat} (hi : i < 32) : Rd w b (off + i) [v8 (d.get i)] := by
  obtain ⟨c, T, fr, h1, h2⟩ := h
  refine ⟨c, T, fr, h1, fun j v hv => ?_⟩
  have : j = 0 ∧ v = v8 (d.get i) := by cases j <;> simp_all
  obtain ⟨rfl, rfl⟩ := this
  exact h2 i _ (digC_get d hi)

/-- The i-th bit, the highest of the first byte first. -/
def Dig.bit (d : Dig) (i : Nat) : Bool := (d.get (i / 8)).toNat.testBit (7 - i % 8)
theorem bit_and (u : UInt8) (k : Nat) (hk : k < 8) : decide ((u &&& UInt8.ofNat (2 ^ k)) ≠ 0) = u.toNat.testBit k := by
  have h2 : (UInt8.ofNat (2 ^ k)).toNat = 2 ^ k := by
    simp only [UInt8.toNat_ofNat']; exact Nat.mod_eq_of_lt (Nat.pow_lt_pow_right (by omega) hk)
  have e : ((u &&& UInt8.ofNat (2 ^ k)) ≠ 0) ↔ u.toNat.testBit k = true := by
    rw [ne_eq, ← UInt8.toNat_inj, UInt8.toNat_and, h2]
    constructor
    · intro h
      apply Decidable.byContradiction
      intro hb
      apply h
      apply Nat.eq_of_testBit_eq
      intro i
      rw [Nat.testBit_and, Nat.testBit_two_pow]
      by_cases hk : k = i
      · subst hk; simp at hb; simp [hb]
      · simp [hk]
    · intro h h0
      have := congrArg (fun z => Nat.testBit z k) h0
      simp [Nat.testBit_and, Nat.testBit_two_pow, h] at this
  cases hb : u.toNat.testBit k
  · rw [hb] at e; simp at e; simp [e]
  · rw [hb] at e; simp at e; simp [e]
end Go.Vg
