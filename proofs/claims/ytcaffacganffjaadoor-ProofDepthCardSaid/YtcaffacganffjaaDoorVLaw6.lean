/- The examples that the statements ask. -/
import Derived.Test.YtcaffacganffjaaDoorVCommon
namespace Go.Vg
open Go

def dig1 (u : UInt8) : Dig := ⟨u :: List.replicate 31 0, rfl⟩
def aL : Leaf := ⟨Dig.zero, dig1 5⟩
def bL : Leaf := ⟨dig1 128, dig1 6⟩
theorem ab_root : rootE 32 [aL, bL] = 0 := by decide +kernel
theorem a_root : rootE 32 [aL] = 0 := by decide +kernel
theorem ab_go : goL 32 aL.p 257 [aL, bL] 0 = ([leafD 32 bL], [aL]) := by
  have h1 : diffL aL.p [aL, bL] 0 = [bL] := by decide +kernel
  have h2 : sameL aL.p [aL, bL] 0 = [aL] := by decide +kernel
  rw [show (257 : Nat) = 256 + 1 from rfl, goL_step (by decide), h1, h2, goL_end (by decide)]
  rfl
theorem a_go : goL 32 bL.p 257 [aL] 0 = ([], [aL]) := goL_end (by decide)
theorem a_says : saysL aL.p [aL] = (true, aL.v, false, Dig.zero, Dig.zero) := by simp [saysL]
theorem b_says : saysL bL.p [aL] = (false, Dig.zero, true, aL.p, aL.v) := by
  have : ¬ aL.p = bL.p := by decide +kernel
  simp [saysL, this]

theorem go_most (w : Int) (p : Dig) (ls : List Leaf) : ((goL w p 257 ls 0).1.length : Int) = (mostL p ls).2 + 1 := by
  have h := goL_len w p ls 257 0 rfl
  have h1 : (ls.filter fun l => decide (0 ≤ common l.p p)) = ls := List.filter_eq_self.2 fun _ _ => by simp
  rw [h1] at h
  have := most_all p ls
  omega
theorem most_bound (p : Dig) (ls : List Leaf) : -1 ≤ (mostL p ls).2 ∧ (mostL p ls).2 ≤ 256 := by
  have := most_all p ls
  omega
theorem most_take {p : Dig} {ls : List Leaf} {t : Nat} (h : t < ls.length) : mostL p (ls.take (t + 1)) = mostStep p (mostL p (ls.take t)) (ls.getD t noLeaf) := by
  rw [List.take_succ_eq_append_getElem h, mostL_snoc]
  simp [List.getD_eq_getElem?_getD, h]
section
variable {P : Program} {n : Sh} {a : Act} {E : List (Nat × Value)} {w : World} {dst : Option Nat} {ty : TypeId} {pos : String} {af : Array Edge} {gd : Option (Nat × Bool)}
theorem q_maxI (hT : Tm n a E) {x y : Operand} {ta : Array TypeId} {i j : Int} (hx : evO E x = some (vI i)) (hy : evO E y = some (vI j)) : QR P a w ⟨dst, .call { callee := .builtin .max, args := #[x, y], argTypes := ta }, ty, pos, af, gd⟩ (vI (max i j)) := by
  simp [QR, execOp, resolve, invoke, builtin, Builtin.max_, Builtin.max2, hT.ev hx, hT.ev hy]
  split <;> omega
end
end Go.Vg
