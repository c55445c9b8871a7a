/- What a proof is made of. -/
import Derived.Test.YtcaffacganffjaaDoorVOwn
namespace Go.Vg
open Go

def sameL (p : Dig) (S : List Leaf) (n : Nat) : List Leaf := S.filter fun l => l.p.bit n == p.bit n
def diffL (p : Dig) (S : List Leaf) (n : Nat) : List Leaf := S.filter fun l => !(l.p.bit n == p.bit n)
theorem sameL_snoc {p : Dig} {ls : List Leaf} {t n : Nat} (h : t < ls.length) : sameL p (ls.take (t + 1)) n = if ((ls.getD t noLeaf).p.bit n == p.bit n) = true then sameL p (ls.take t) n ++ [ls.getD t noLeaf] else sameL p (ls.take t) n := by
  unfold sameL
  rw [List.take_succ_eq_append_getElem h, List.filter_append]
  simp only [List.getD_eq_getElem?_getD, List.getElem?_eq_getElem h, Option.getD_some]
  cases hb : ls[t].p.bit n == p.bit n <;> simp [hb]
theorem diffL_snoc {p : Dig} {ls : List Leaf} {t n : Nat} (h : t < ls.length) : diffL p (ls.take (t + 1)) n = if ((ls.getD t noLeaf).p.bit n == p.bit n) = true then diffL p (ls.take t) n else diffL p (ls.take t) n ++ [ls.getD t noLeaf] := by
  unfold diffL
  rw [List.take_succ_eq_append_getElem h, List.filter_append]
  simp only [List.getD_eq_getElem?_getD, List.getElem?_eq_getElem h, Option.getD_some]
  cases hb : ls[t].p.bit n == p.bit n <;> simp [hb]
theorem GoodL.same {S : List Leaf} {n : Nat} (p : Dig) (h : GoodL S n) : GoodL (sameL p S n) (n + 1) :=
  h.filter _ fun x _ y _ hx hy => by rw [eq_of_beq hx, eq_of_beq hy]
theorem GoodL.diff {S : List Leaf} {n : Nat} (p : Dig) (h : GoodL S n) : GoodL (diffL p S n) (n + 1) :=
  h.filter _ fun x _ y _ hx hy => by
    revert hx hy
    cases x.p.bit n <;> cases y.p.bit n <;> cases p.bit n <;> simp
/-- The siblings from a depth on, and the leaves that are left. -/
def goL (w : Int) (p : Dig) : Nat → List Leaf → Nat → List Dig × List Leaf
  | 0, S, _ => ([], S)
  | k + 1, S, n => if S.length ≤ 1 then ([], S) else (dg w k (diffL p S n) (n + 1) :: (goL w p k (sameL p S n) (n + 1)).1, (goL w p k (sameL p S n) (n + 1)).2)
theorem goL_end {w : Int} {p : Dig} {k n : Nat} {S : List Leaf} (h : S.length ≤ 1) : goL w p k S n = ([], S) := by
  cases k with
  | zero => rfl
  | succ k => simp [goL, h]
theorem goL_step {w : Int} {p : Dig} {k n : Nat} {S : List Leaf} (h : 1 < S.length) : goL w p (k + 1) S n = (dg w k (diffL p S n) (n + 1) :: (goL w p k (sameL p S n) (n + 1)).1, (goL w p k (sameL p S n) (n + 1)).2) := by
  rw [goL, if_neg (by omega)]
/-- What is said of the path: is its leaf there, its value; is another in its place, its path and value. -/
def saysL (p : Dig) : List Leaf → Bool × Dig × Bool × Dig × Dig
  | [] => (false, Dig.zero, false, Dig.zero, Dig.zero)
  | x :: _ => if x.p = p then (true, x.v, false, Dig.zero, Dig.zero) else (false, Dig.zero, true, x.p, x.v)
def claimC (b : Bool) (d : Dig) : List Value := [.bool b] ++ digC d
def proofC (s : Value) (o : Bool) (x y : Dig) : List Value := [s, .bool o] ++ (digC x ++ digC y)

theorem rootE_good {w : Int} {ls : List Leaf} (h : rootE w ls = 0) : GoodL ls 0 := by
  unfold rootE at h
  split at h
  · cases h
  · split at h
    · cases h
    · split at h
      · cases h
      · rename_i htt
        exact ⟨twins_false (by simpa using htt), fun _ _ _ _ i hi => by omega⟩
theorem Loc.turnedM {M : List Nat} {w w1 w2 : World} {b : Nat} {o : Obj} (h : Vg.Loc M w w1 []) (ht : Turned w1 w2 b o) (hb : b ∈ M) : Vg.Loc M w w2 [] :=
  ⟨ht.os.trans h.os, ht.tape.trans h.tape, ht.output.trans h.output, by rw [ht.drawn]; exact h.drawn, by rw [ht.size]; exact h.size, fun k hk hm => by rw [ht.ne k (fun e => hm (e ▸ hb))]; exact h.old k hk hm, List.nodup_nil, by simp [keys], by simp⟩

section
variable {P : Program} {n : Sh} {a : Act} {E : List (Nat × Value)} {w : World} {dst : Option Nat} {ty : TypeId} {pos : String} {af : Array Edge} {gd : Option (Nat × Bool)}
theorem run_equal_bool {t : TypeId} (x y : Bool) (ht : P.underlying t = some .bool) {w : World} : (Op.equal t (.bool x) (.bool y)).run P w = .ok (x == y) w := by
  show (Op.equalIn (9999 + 1) t (.bool x) (.bool y)).run P w = _
  unfold Op.equalIn
  simp [run_underlying ht]
theorem q_eq_bool (hT : Tm n a E) {t yt : TypeId} {x y : Operand} {u v : Bool} (hx : evO E x = some (.bool u)) (hy : evO E y = some (.bool v)) (ht : P.underlying t = some .bool) : QR P a w ⟨dst, .binOp .eql t x y yt, ty, pos, af, gd⟩ (.bool (u == v)) :=
  q_bin hT hx hy (by simp [eqGuard]) (by simp only [binOp, Sem.run_bind, run_equal_bool u v ht, Result.andThen_ok, Sem.run_pure])
end
end Go.Vg
