/- The tree of knots: as it lies in memory, and what it says of some leaves. -/
import Derived.Test.YtcaffacganffjaaDoorVEq
namespace Go.Vg
open Go

inductive KT where
  | nil
  | leaf (b : Nat) (l : Leaf)
  | node (b : Nat) (x y : KT)
def KT.ad : KT → Option Addr
  | .nil => none
  | .leaf b _ => some ⟨b, 0, none⟩
  | .node b _ _ => some ⟨b, 0, none⟩
/-- A knot's cells: is its digest made; the digest; the leaf; the two parts. -/
def knotC (d0 : UInt32) (d : Dig) (l : Leaf) (p q : Option Addr) : List Value := [v32 d0, .int .i32 0, v32 0] ++ (digC d ++ (digC l.p ++ (digC l.v ++ [.pointer p, .pointer q])))
def noLeaf : Leaf := ⟨Dig.zero, Dig.zero⟩
/-- The blocks of a tree no digest of which is made. -/
def KT.ents (T : TypeId) : KT → Chunk
  | .nil => []
  | .leaf b l => [(b, ob (knotC 0 Dig.zero l none none) T)]
  | .node b x y => (b, ob (knotC 0 Dig.zero noLeaf x.ad y.ad) T) :: (x.ents T ++ y.ents T)

/-- Two paths go along up to a depth. -/
def along (x y : Dig) (n : Nat) : Prop := ∀ i, i < n → x.bit i = y.bit i
theorem along_256 {x y : Dig} (h : along x y 256) : x = y := by
  apply digC_inj
  rw [digC_arr, digC_arr]
  refine arr8_congr fun i hi => ?_
  rw [← UInt8.toNat_inj]
  apply Nat.eq_of_testBit_eq
  intro j
  by_cases hj : j < 8
  · have := h (8 * i + (7 - j)) (by omega)
    unfold Dig.bit at this
    rw [show (8 * i + (7 - j)) / 8 = i from by omega, show 7 - (8 * i + (7 - j)) % 8 = j from by omega] at this
    exact this
  · rw [Nat.testBit_lt_two_pow (Nat.lt_of_lt_of_le (x.get i).toNat_lt (Nat.pow_le_pow_right (by omega) (show 8 ≤ j by omega))),
      Nat.testBit_lt_two_pow (Nat.lt_of_lt_of_le (y.get i).toNat_lt (Nat.pow_le_pow_right (by omega) (show 8 ≤ j by omega)))]
/-- Leaves of unlike paths that go along up to a depth. -/
structure GoodL (S : List Leaf) (n : Nat) : Prop where
  apart : S.Pairwise fun x y => x.p ≠ y.p
  along : ∀ x ∈ S, ∀ y ∈ S, Vg.along x.p y.p n
theorem GoodL.lt {S : List Leaf} {n : Nat} (h : GoodL S n) (h2 : 2 ≤ S.length) : n < 256 := by
  match S, h2 with
  | x :: y :: r, _ =>
    refine Nat.lt_of_not_le fun hn => ?_
    have h1 := h.apart
    rw [List.pairwise_cons] at h1
    exact h1.1 y (by simp) (along_256 fun i hi => h.along x (by simp) y (by simp) i (by omega))
def zerosL (S : List Leaf) (n : Nat) : List Leaf := S.filter fun l => !l.p.bit n
def onesL (S : List Leaf) (n : Nat) : List Leaf := S.filter fun l => l.p.bit n
theorem GoodL.filter {S : List Leaf} {n : Nat} (h : GoodL S n) (f : Leaf → Bool) (hf : ∀ x ∈ S, ∀ y ∈ S, f x = true → f y = true → x.p.bit n = y.p.bit n) : GoodL (S.filter f) (n + 1) where
  apart := h.apart.filter _
  along := fun x hx y hy i hi => by
    rw [List.mem_filter] at hx hy
    by_cases hin : i < n
    · exact h.along x hx.1 y hy.1 i hin
    · have : i = n := by omega
      subst this
      exact hf x hx.1 y hy.1 hx.2 hy.2
theorem GoodL.zeros {S : List Leaf} {n : Nat} (h : GoodL S n) : GoodL (zerosL S n) (n + 1) :=
  h.filter _ fun x _ y _ hx hy => by simp at hx hy; rw [hx, hy]
theorem GoodL.ones {S : List Leaf} {n : Nat} (h : GoodL S n) : GoodL (onesL S n) (n + 1) :=
  h.filter _ fun x _ y _ hx hy => by rw [hx, hy]
theorem GoodL.sub {S S' : List Leaf} {n : Nat} (h : GoodL S n) (hs : S'.Sublist S) : GoodL S' n :=
  ⟨h.apart.sublist hs, fun x hx y hy => h.along x (hs.subset hx) y (hs.subset hy)⟩

/-- What a tree at a depth says: just these leaves. -/
def Rep : KT → List Leaf → Nat → Prop
  | .nil, S, _ => S = []
  | .leaf _ l, S, _ => S = [l]
  | .node _ x y, S, n => 2 ≤ S.length ∧ Rep x (zerosL S n) (n + 1) ∧ Rep y (onesL S n) (n + 1)
theorem len_split (S : List Leaf) (n : Nat) : (zerosL S n).length + (onesL S n).length = S.length := by
  unfold zerosL onesL
  induction S with
  | nil => rfl
  | cons l r ih =>
    cases h : l.p.bit n <;> simp [h] at ih ⊢ <;> omega
/-- A knot of two parts has one that is no nil. -/
theorem Rep.some {b : Nat} {x y : KT} {S : List Leaf} {n : Nat} (h : Rep (.node b x y) S n) : (x.ad.isSome || y.ad.isSome) = true := by
  obtain ⟨h2, hx, hy⟩ := h
  have := len_split S n
  cases x <;> cases y <;> simp_all [KT.ad, Rep]
  omega

/-- The digest of leaves at a depth. -/
def dg (w : Int) : Nat → List Leaf → Nat → Dig
  | 0, _, _ => emptyD w
  | fuel + 1, S, n => match S with
    | [] => emptyD w
    | [l] => leafD w l
    | _ => nodeD w (dg w fuel (zerosL S n) (n + 1)) (dg w fuel (onesL S n) (n + 1))
def KT.dig (w : Int) : KT → Dig
  | .nil => emptyD w
  | .leaf _ l => leafD w l
  | .node _ x y => nodeD w (x.dig w) (y.dig w)
theorem Rep.dig {w : Int} : ∀ (t : KT) (S : List Leaf) (n fuel : Nat), Rep t S n → GoodL S n → n ≤ 256 → 257 ≤ n + fuel → t.dig w = dg w fuel S n
  | .nil, S, n, fuel, h, _, _, _ => by
    cases h
    cases fuel <;> rfl
  | .leaf b l, S, n, fuel, h, _, h6, hf => by
    cases h
    cases fuel with
    | zero => omega
    | succ m => rfl
  | .node b x y, S, n, fuel, h, hg, _, hf => by
    obtain ⟨h2, hx, hy⟩ := h
    have hn := hg.lt h2
    cases fuel with
    | zero => omega
    | succ m =>
      match S, h2 with
      | a :: c :: r, _ =>
        show nodeD w (x.dig w) (y.dig w) = nodeD w _ _
        rw [Rep.dig x _ _ m hx hg.zeros (by omega) (by omega), Rep.dig y _ _ m hy hg.ones (by omega) (by omega)]
end Go.Vg
namespace Go.Vg
open Go
theorem Loc.join {M : List Nat} {w0 w : World} {cs : List Chunk} (h : Vg.Loc M w0 w cs) {c : Chunk} (hc : cs.flatten = c) : Vg.Loc M w0 w [c] :=
  h.perm (by simp [hc])
theorem Loc.regroup {M : List Nat} {w0 w : World} {cs cs' : List Chunk} (h : Vg.Loc M w0 w cs) (hc : cs.flatten = cs'.flatten) : Vg.Loc M w0 w cs' :=
  h.perm (by rw [hc])
/-- Chunks seen from the world in which they lie. -/
theorem Loc.self {M : List Nat} {w0 w : World} {cs cs' : List Chunk} (h : Vg.Loc M w0 w (cs ++ cs')) : Vg.Loc (keys cs) w w cs :=
  Loc.start ((List.nodup_append.1 (by have := h.nd; simpa only [keys, List.flatten_append, List.map_append] using this)).1) fun p hp => h.has p (by simp only [List.flatten_append, List.mem_append]; exact .inl hp)

def leafV (l : Leaf) : Value := .agg (digC l.p ++ digC l.v).toArray
/-- What '(*knot).with' is to do at a depth. -/
def WithOK (P : Program) (f : FuncId) (T : TypeId) (n : Nat) : Prop := ∀ (t : KT) (l : Leaf) (S : List Leaf) (w : World), Rep t S n → GoodL (l :: S) n → Vg.Loc (keys [t.ents T]) w w [t.ents T] →
  Calls P f #[.pointer t.ad, leafV l, vI (n : Int)] w fun e w' => ∃ t', e = .returned (.pointer t'.ad) ∧ Vg.Loc (keys [t.ents T]) w w' [t'.ents T] ∧ Rep t' (l :: S) n
theorem GoodL.zeros_cons {l : Leaf} {S : List Leaf} {n : Nat} (h : GoodL (l :: S) n) (hb : l.p.bit n = false) : GoodL (l :: zerosL S n) (n + 1) := by
  have := h.zeros; simpa [zerosL, hb] using this
theorem GoodL.ones_cons {l : Leaf} {S : List Leaf} {n : Nat} (h : GoodL (l :: S) n) (hb : l.p.bit n = true) : GoodL (l :: onesL S n) (n + 1) := by
  have := h.ones; simpa [onesL, hb] using this
end Go.Vg
namespace Go.Vg
open Go
theorem Loc.call_all {M : List Nat} {w0 w w' : World} {ci co : List Chunk} (h : Vg.Loc M w0 w ci) (hc : Vg.Loc (keys ci) w w' co) : Vg.Loc M w0 w' co := by
  have := Loc.call (ci := ci) (cr := []) (by simpa using h) hc
  simpa using this
theorem Loc.self_all {M : List Nat} {w0 w : World} {cs : List Chunk} (h : Vg.Loc M w0 w cs) : Vg.Loc (keys cs) w w cs := Loc.start h.nd h.has
/-- What a region's calls may turn, apart from what it reads. -/
theorem Loc.frame {M : List Nat} {w w1 w2 : World} {ci co : List Chunk} (h : Vg.Loc M w w1 []) (hc : Vg.Loc (keys ci) w1 w2 co) (hs : ∀ k ∈ keys ci, k ∈ M ∨ w.heap.size ≤ k) : Vg.Loc M w w2 [] where
  os := hc.os.trans h.os
  tape := hc.tape.trans h.tape
  output := hc.output.trans h.output
  drawn := Nat.le_trans h.drawn hc.drawn
  size := Nat.le_trans h.size hc.size
  old := fun b hb hm => by
    rw [hc.old b (Nat.lt_of_lt_of_le hb h.size) (fun hk => by
      rcases hs b hk with h1 | h1
      · exact hm h1
      · omega)]
    exact h.old b hb hm
  nd := List.nodup_nil
  own := by simp [keys]
  has := by simp
theorem Loc.head_ne {M : List Nat} {w0 w : World} {b : Nat} {o : Obj} {cs : List Chunk} (h : Vg.Loc M w0 w ([(b, o)] :: cs)) : b ∉ keys cs := by
  have := h.nd
  simp only [keys, List.flatten_cons, List.singleton_append, List.map_cons, List.nodup_cons] at this
  exact this.1
def KC (d0 : UInt32) (st : Int) (d : Dig) (l : Leaf) (p q : Option Addr) : List Value := [v32 d0, .int .i32 st, v32 0] ++ (digC d ++ (digC l.p ++ (digC l.v ++ [.pointer p, .pointer q])))
end Go.Vg
namespace Go.Vg
open Go
theorem Loc.zero_app {M : List Nat} {w0 w : World} {ci cr : List Chunk} (h : Vg.Loc M w0 w (ci ++ cr)) (hp : 0 < w0.heap.size) (h0 : 0 ∉ M) : 0 ∉ keys ci := fun hk => by
  rcases h.own 0 (by simp only [keys, List.flatten_append, List.map_append, List.mem_append] at hk ⊢; exact .inl hk) with h1 | h1
  · omega
  · exact h0 h1
theorem Loc.mono_ext {M : List Nat} {w0 w : World} (h : Vg.Loc [] w0 w []) : Vg.Loc M w0 w [] := ⟨h.os, h.tape, h.output, h.drawn, h.size, fun b hb _ => h.old b hb (by simp), h.nd, by simp [keys], h.has⟩
end Go.Vg
