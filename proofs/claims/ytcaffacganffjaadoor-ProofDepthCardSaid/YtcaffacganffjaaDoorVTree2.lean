/- The tree of leaves in a row. -/
import Derived.Test.YtcaffacganffjaaDoorVTree
namespace Go.Vg
open Go

def twins (ls : List Leaf) : Bool := !decide (ls.Pairwise fun x y => x.p ≠ y.p)
theorem twins_false {ls : List Leaf} (h : twins ls = false) : ls.Pairwise fun x y => x.p ≠ y.p := by
  simpa [twins] using h
theorem rev_take_succ (ls : List Leaf) (t : Nat) (h : t < ls.length) : (ls.take (t + 1)).reverse = ls.getD t noLeaf :: (ls.take t).reverse := by
  rw [List.take_succ_eq_append_getElem h]
  simp [List.getD_eq_getElem?_getD, h]
theorem twins_good {ls : List Leaf} (h : twins ls = false) (k : Nat) : GoodL (ls.take k).reverse 0 where
  apart := by
    rw [List.pairwise_reverse]
    exact ((twins_false h).sublist (List.take_sublist _ _)).imp fun hxy e => hxy e.symm
  along := fun _ _ _ _ i hi => by omega
theorem twins_good_cons {ls : List Leaf} (h : twins ls = false) {t : Nat} (ht : t < ls.length) : GoodL (ls.getD t noLeaf :: (ls.take t).reverse) 0 := by
  rw [← rev_take_succ ls t ht]; exact twins_good h _

/-- What the row's root is, and whether there is one. -/
def rootE (w : Int) (ls : List Leaf) : Int := if widthB w = false then 1 else if 4096 < ls.length then 2 else if twins ls = true then 30 else 0
def rootD (w : Int) (ls : List Leaf) : Dig := if rootE w ls = 0 then dg w 257 ls.reverse 0 else Dig.zero
/-- The digest of some leaves does not hang on their order. -/
theorem dg_perm (w : Int) : ∀ (fuel : Nat) (S S' : List Leaf) (n : Nat), S.Perm S' → dg w fuel S n = dg w fuel S' n
  | 0, _, _, _, _ => rfl
  | fuel + 1, S, S', n, h => by
    match S, S', h with
    | [], S', h => rw [List.nil_perm.1 h]
    | [l], S', h => rw [List.singleton_perm.1 h]
    | a :: b :: r, S', h =>
      match S', h with
      | [], h => exact absurd h.length_eq (by simp)
      | [l], h => exact absurd h.length_eq (by simp)
      | a' :: b' :: r', h =>
        show nodeD w _ _ = nodeD w _ _
        have hz : (zerosL (a :: b :: r) n).Perm (zerosL (a' :: b' :: r') n) := h.filter _
        have ho : (onesL (a :: b :: r) n).Perm (onesL (a' :: b' :: r') n) := h.filter _
        rw [dg_perm w fuel _ _ (n + 1) hz, dg_perm w fuel _ _ (n + 1) ho]
/-- A block apart from the first chunk. -/
theorem Loc.apart0 {M : List Nat} {w0 w : World} {c : Chunk} {cs : List Chunk} (h : Vg.Loc M w0 w (c :: cs)) {i b : Nat} {o : Obj} (hi : cs[i]? = some [(b, o)]) : b ∉ keys [c] := fun hb => by
  have hnd := h.nd
  simp only [keys, List.flatten_cons, List.flatten_nil, List.append_nil, List.map_append] at hnd hb
  rw [List.nodup_append] at hnd
  exact hnd.2.2 b hb b (List.mem_map.2 ⟨(b, o), List.mem_flatten.2 ⟨_, List.mem_of_getElem? hi, by simp⟩, rfl⟩) rfl
def TwiceOK (P : Program) (f : FuncId) : Prop := ∀ (ls : List Leaf) (p : Option Addr) (len cap : Nat) (w0 : World), SlT w0 p len 64 leafC noLeaf ls → len ≤ 4096 → Calls P f #[.slice p len cap] w0 fun e w' => e = .returned (.bool (twins ls)) ∧ Ext w0 w'
end Go.Vg
