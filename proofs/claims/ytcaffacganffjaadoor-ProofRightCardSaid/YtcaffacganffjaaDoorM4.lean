/- The tree of knots: as it lies in memory, and what it says of some leaves. The tree of leaves in a row. Bytes compared. -/
import Derived.Test.YtcaffacganffjaaDoorM3

section
namespace Go.Vg
open Go

inductive KT where
  | nil
  | leaf (b : Nat) (l : Leaf)
  | node (b : Nat) (x y : KT)
def KT.ad : KT → Option Addr
  | .nil => none
  | .leaf b _ => some ⟨b, 0, none⟩
  | .node b _ _ => some ⟨b, 0, none⟩
/-- A knot's cells: is its digest made; the digest; the leaf; the two parts. -/
def knotC (d0 : UInt32) (d : Dig) (l : Leaf) (p q : Option Addr) : List Value := [v32 d0, .int .i32 0, v32 0] ++ (digC d ++ (digC l.p ++ (digC l.v ++ [.pointer p, .pointer q])))
def noLeaf : Leaf := ⟨Dig.zero, Dig.zero⟩
/-- The blocks of a tree no digest of which is made. -/
def KT.ents (T : TypeId) : KT → Chunk
  | .nil => []
  | .leaf b l => [(b, ob (knotC 0 Dig.zero l none none) T)]
  | .node b x y => (b, ob (knotC 0 Dig.zero noLeaf x.ad y.ad) T) :: (x.ents T ++ y.ents T)

/-- Two paths go along up to a depth. -/
def along (x y : Dig) (n : Nat) : Prop := ∀ i, i < n → x.bit i = y.bit i
theorem along_256 {x y : Dig} (h : along x y 256) : x = y := by
  apply digC_inj
  rw [digC_arr, digC_arr]
  refine arr8_congr fun i hi => ?_
  rw [← UInt8.toNat_inj]
  apply Nat.eq_of_testBit_eq
  intro j
  by_cases hj : j < 8
  · have := h (8 * i + (7 - j)) (by omega)
    unfold Dig.bit at this
    rw [show (8 * i + (7 - j)) / 8 = i from by omega, show 7 - (8 * i + (7 - j)) % 8 = j from by omega] at this
    exact this
  · rw [Nat.testBit_lt_two_pow (Nat.lt_of_lt_of_le (x.get i).toNat_lt (Nat.pow_le_pow_right (by omega) (show 8 ≤ j by omega))),
      Nat.testBit_lt_two_pow (Nat.lt_of_lt_of_le (y.get i).toNat_lt (Nat.pow_le_pow_right (by omega) (show 8 ≤ j by omega)))]
/-- Leaves of unlike paths that go along up to a depth. -/
structure GoodL (S : List Leaf) (n : Nat) : Prop where
  apart : S.Pairwise fun x y => x.p ≠ y.p
  along : ∀ x ∈ S, ∀ y ∈ S, Vg.along x.p y.p n
theorem GoodL.lt {S : List Leaf} {n : Nat} (h : GoodL S n) (h2 : 2 ≤ S.length) : n < 256 := by
  match S, h2 with
  | x :: y :: r, _ =>
    refine Nat.lt_of_not_le fun hn => ?_
    have h1 := h.apart
    rw [List.pairwise_cons] at h1
    exact h1.1 y (by simp) (along_256 fun i hi => h.along x (by simp) y (by simp) i (by omega))
def zerosL (S : List Leaf) (n : Nat) : List Leaf := S.filter fun l => !l.p.bit n
def onesL (S : List Leaf) (n : Nat) : List Leaf := S.filter fun l => l.p.bit n
theorem GoodL.filter {S : List Leaf} {n : Nat} (h : GoodL S n) (f : Leaf → Bool) (hf : ∀ x ∈ S, ∀ y ∈ S, f x = true → f y = true → x.p.bit n = y.p.bit n) : GoodL (S.filter f) (n + 1) where
  apart := h.apart.filter _
  along := fun x hx y hy i hi => by
    rw [List.mem_filter] at hx hy
    by_cases hin : i < n
    · exact h.along x hx.1 y hy.1 i hin
    · have : i = n := by omega
      subst this
      exact hf x hx.1 y hy.1 hx.2 hy.2
theorem GoodL.zeros {S : List Leaf} {n : Nat} (h : GoodL S n) : GoodL (zerosL S n) (n + 1) :=
  h.filter _ fun x _ y _ hx hy => by simp at hx hy; rw [hx, hy]
theorem GoodL.ones {S : List Leaf} {n : Nat} (h : GoodL S n) : GoodL (onesL S n) (n + 1) :=
  h.filter _ fun x _ y _ hx hy => by rw [hx, hy]
theorem GoodL.sub {S S' : List Leaf} {n : Nat} (h : GoodL S n) (hs : S'.Sublist S) : GoodL S' n :=
  ⟨h.apart.sublist hs, fun x hx y hy => h.along x (hs.subset hx) y (hs.subset hy)⟩

/-- What a tree at a depth says: just these leaves. -/
def Rep : KT → List Leaf → Nat → Prop
  | .nil, S, _ => S = []
  | .leaf _ l, S, _ => S = [l]
  | .node _ x y, S, n => 2 ≤ S.length ∧ Rep x (zerosL S n) (n + 1) ∧ Rep y (onesL S n) (n + 1)
theorem len_split (S : List Leaf) (n : Nat) : (zerosL S n).length + (onesL S n).length = S.length := by
  unfold zerosL onesL
  induction S with
  | nil => rfl
  | cons l r ih =>
    cases h : l.p.bit n <;> simp [h] at ih ⊢ <;> omega
/-- A knot of two parts has one that is no nil. -/
theorem Rep.some {b : Nat} {x y : KT} {S : List Leaf} {n : Nat} (h : Rep (.node b x y) S n) : (x.ad.isSome || y.ad.isSome) = true := by
  obtain ⟨h2, hx, hy⟩ := h
  have := len_split S n
  cases x <;> cases y <;> simp_all [KT.ad, Rep]
  omega

/-- The digest of leaves at a depth. -/
def dg (w : Int) : Nat → List Leaf → Nat → Dig
  | 0, _, _ => emptyD w
  | fuel + 1, S, n => match S with
    | [] => emptyD w
    | [l] => leafD w l
    | _ => nodeD w (dg w fuel (zerosL S n) (n + 1)) (dg w fuel (onesL S n) (n + 1))
def KT.dig (w : Int) : KT → Dig
  | .nil => emptyD w
  | .leaf _ l => leafD w l
  | .node _ x y => nodeD w (x.dig w) (y.dig w)
theorem Rep.dig {w : Int} : ∀ (t : KT) (S : List Leaf) (n fuel : Nat), Rep t S n → GoodL S n → n ≤ 256 → 257 ≤ n + fuel → t.dig w = dg w fuel S n
  | .nil, S, n, fuel, h, _, _, _ => by
    cases h
    cases fuel <;> rfl
  | .leaf b l, S, n, fuel, h, _, h6, hf => by
    cases h
    cases fuel with
    | zero => omega
    | succ m => rfl
  | .node b x y, S, n, fuel, h, hg, _, hf => by
    obtain ⟨h2, hx, hy⟩ := h
    have hn := hg.lt h2
    cases fuel with
    | zero => omega
    | succ m =>
      match S, h2 with
      | a :: c :: r, _ =>
        show nodeD w (x.dig w) (y.dig w) = nodeD w _ _
        rw [Rep.dig x _ _ m hx hg.zeros (by omega) (by omega), Rep.dig y _ _ m hy hg.ones (by omega) (by omega)]
end Go.Vg
namespace Go.Vg
open Go
theorem Loc.join {M : List Nat} {w0 w : World} {cs : List Chunk} (h : Vg.Loc M w0 w cs) {c : Chunk} (hc : cs.flatten = c) : Vg.Loc M w0 w [c] :=
  h.perm (by simp [hc])
theorem Loc.regroup {M : List Nat} {w0 w : World} {cs cs' : List Chunk} (h : Vg.Loc M w0 w cs) (hc : cs.flatten = cs'.flatten) : Vg.Loc M w0 w cs' :=
  h.perm (by rw [hc])
/-- Chunks seen from the world in which they lie. -/
theorem Loc.self {M : List Nat} {w0 w : World} {cs cs' : List Chunk} (h : Vg.Loc M w0 w (cs ++ cs')) : Vg.Loc (keys cs) w w cs :=
  Loc.start ((List.nodup_append.1 (by have := h.nd; simpa only [keys, List.flatten_append, List.map_append] using this)).1) fun p hp => h.has p (by simp only [List.flatten_append, List.mem_append]; exact .inl hp)

def leafV (l : Leaf) : Value := .agg (digC l.p ++ digC l.v).toArray
/-- What '(*knot).with' is to do at a depth. -/
def WithOK (P : Program) (f : FuncId) (T : TypeId) (n : Nat) : Prop := ∀ (t : KT) (l : Leaf) (S : List Leaf) (w : World), Rep t S n → GoodL (l :: S) n → Vg.Loc (keys [t.ents T]) w w [t.ents T] →
  Calls P f #[.pointer t.ad, leafV l, vI (n : Int)] w fun e w' => ∃ t', e = .returned (.pointer t'.ad) ∧ Vg.Loc (keys [t.ents T]) w w' [t'.ents T] ∧ Rep t' (l :: S) n
theorem GoodL.zeros_cons {l : Leaf} {S : List Leaf} {n : Nat} (h : GoodL (l :: S) n) (hb : l.p.bit n = false) : GoodL (l :: zerosL S n) (n + 1) := by
  have := h.zeros; simpa [zerosL, hb] using this
theorem GoodL.ones_cons {l : Leaf} {S : List Leaf} {n : Nat} (h : GoodL (l :: S) n) (hb : l.p.bit n = true) : GoodL (l :: onesL S n) (n + 1) := by
  have := h.ones; simpa [onesL, hb] using this
end Go.Vg
namespace Go.Vg
open Go
theorem Loc.call_all {M : List Nat} {w0 w w' : World} {ci co : List Chunk} (h : Vg.Loc M w0 w ci) (hc : Vg.Loc (keys ci) w w' co) : Vg.Loc M w0 w' co := by
  have := Loc.call (ci := ci) (cr := []) (by simpa using h) hc
  simpa using this
theorem Loc.self_all {M : List Nat} {w0 w : World} {cs : List Chunk} (h : Vg.Loc M w0 w cs) : Vg.Loc (keys cs) w w cs := Loc.start h.nd h.has
/-- What a region's calls may turn, apart from what it reads. -/
theorem Loc.frame {M : List Nat} {w w1 w2 : World} {ci co : List Chunk} (h : Vg.Loc M w w1 []) (hc : Vg.Loc (keys ci) w1 w2 co) (hs : ∀ k ∈ keys ci, k ∈ M ∨ w.heap.size ≤ k) : Vg.Loc M w w2 [] where
  os := hc.os.trans h.os
  tape := hc.tape.trans h.tape
  output := hc.output.trans h.output
  drawn := Nat.le_trans h.drawn hc.drawn
  size := Nat.le_trans h.size hc.size
  old := fun b hb hm => by
    rw [hc.old b (Nat.lt_of_lt_of_le hb h.size) (fun hk => by
      rcases hs b hk with h1 | h1
      · exact hm h1
      · omega)]
    exact h.old b hb hm
  nd := List.nodup_nil
  own := by simp [keys]
  has := by simp
theorem Loc.head_ne {M : List Nat} {w0 w : World} {b : Nat} {o : Obj} {cs : List Chunk} (h : Vg.Loc M w0 w ([(b, o)] :: cs)) : b ∉ keys cs := by
  have := h.nd
  simp only [keys, List.flatten_cons, List.singleton_append, List.map_cons, List.nodup_cons] at this
  exact this.1
def KC (d0 : UInt32) (st : Int) (d : Dig) (l : Leaf) (p q : Option Addr) : List Value := [v32 d0, .int .i32 st, v32 0] ++ (digC d ++ (digC l.p ++ (digC l.v ++ [.pointer p, .pointer q])))
end Go.Vg
namespace Go.Vg
open Go
theorem Loc.zero_app {M : List Nat} {w0 w : World} {ci cr : List Chunk} (h : Vg.Loc M w0 w (ci ++ cr)) (hp : 0 < w0.heap.size) (h0 : 0 ∉ M) : 0 ∉ keys ci := fun hk => by
  rcases h.own 0 (by simp only [keys, List.flatten_append, List.map_append, List.mem_append] at hk ⊢; exact .inl hk) with h1 | h1
  · omega
  · exact h0 h1
theorem Loc.mono_ext {M : List Nat} {w0 w : World} (h : Vg.Loc [] w0 w []) : Vg.Loc M w0 w [] := ⟨h.os, h.tape, h.output, h.drawn, h.size, fun b hb _ => h.old b hb (by simp), h.nd, by simp [keys], h.has⟩
end Go.Vg
end

section
namespace Go.Vg
open Go

def twins (ls : List Leaf) : Bool := !decide (ls.Pairwise fun x y => x.p ≠ y.p)
theorem twins_false {ls : List Leaf} (h : twins ls = false) : ls.Pairwise fun x y => x.p ≠ y.p := by
  simpa [twins] using h
theorem rev_take_succ (ls : List Leaf) (t : Nat) (h : t < ls.length) : (ls.take (t + 1)).reverse = ls.getD t noLeaf :: (ls.take t).reverse := by
  rw [List.take_succ_eq_append_getElem h]
  simp [List.getD_eq_getElem?_getD, h]
theorem twins_good {ls : List Leaf} (h : twins ls = false) (k : Nat) : GoodL (ls.take k).reverse 0 where
  apart := by
    rw [List.pairwise_reverse]
    exact ((twins_false h).sublist (List.take_sublist _ _)).imp fun hxy e => hxy e.symm
  along := fun _ _ _ _ i hi => by omega
theorem twins_good_cons {ls : List Leaf} (h : twins ls = false) {t : Nat} (ht : t < ls.length) : GoodL (ls.getD t noLeaf :: (ls.take t).reverse) 0 := by
  rw [← rev_take_succ ls t ht]; exact twins_good h _

/-- What the row's root is, and whether there is one. -/
def rootE (w : Int) (ls : List Leaf) : Int := if widthB w = false then 1 else if 4096 < ls.length then 2 else if twins ls = true then 30 else 0
def rootD (w : Int) (ls : List Leaf) : Dig := if rootE w ls = 0 then dg w 257 ls.reverse 0 else Dig.zero
/-- The digest of some leaves does not hang on their order. -/
theorem dg_perm (w : Int) : ∀ (fuel : Nat) (S S' : List Leaf) (n : Nat), S.Perm S' → dg w fuel S n = dg w fuel S' n
  | 0, _, _, _, _ => rfl
  | fuel + 1, S, S', n, h => by
    match S, S', h with
    | [], S', h => rw [List.nil_perm.1 h]
    | [l], S', h => rw [List.singleton_perm.1 h]
    | a :: b :: r, S', h =>
      match S', h with
      | [], h => exact absurd h.length_eq (by simp)
      | [l], h => exact absurd h.length_eq (by simp)
      | a' :: b' :: r', h =>
        show nodeD w _ _ = nodeD w _ _
        have hz : (zerosL (a :: b :: r) n).Perm (zerosL (a' :: b' :: r') n) := h.filter _
        have ho : (onesL (a :: b :: r) n).Perm (onesL (a' :: b' :: r') n) := h.filter _
        rw [dg_perm w fuel _ _ (n + 1) hz, dg_perm w fuel _ _ (n + 1) ho]
/-- A block apart from the first chunk. -/
theorem Loc.apart0 {M : List Nat} {w0 w : World} {c : Chunk} {cs : List Chunk} (h : Vg.Loc M w0 w (c :: cs)) {i b : Nat} {o : Obj} (hi : cs[i]? = some [(b, o)]) : b ∉ keys [c] := fun hb => by
  have hnd := h.nd
  simp only [keys, List.flatten_cons, List.flatten_nil, List.append_nil, List.map_append] at hnd hb
  rw [List.nodup_append] at hnd
  exact hnd.2.2 b hb b (List.mem_map.2 ⟨(b, o), List.mem_flatten.2 ⟨_, List.mem_of_getElem? hi, by simp⟩, rfl⟩) rfl
def TwiceOK (P : Program) (f : FuncId) : Prop := ∀ (ls : List Leaf) (p : Option Addr) (len cap : Nat) (w0 : World), SlT w0 p len 64 leafC noLeaf ls → len ≤ 4096 → Calls P f #[.slice p len cap] w0 fun e w' => e = .returned (.bool (twins ls)) ∧ Ext w0 w'
end Go.Vg
end

section
namespace Go.Vg
open Go

def cmpB (x y : UInt8) : Int := if x < y then -1 else if y < x then 1 else 0
def cmpL : List UInt8 → List UInt8 → Int
  | [], [] => 0
  | [], _ :: _ => -1
  | _ :: _, [] => 1
  | x :: xs, y :: ys => if cmpB x y = 0 then cmpL xs ys else cmpB x y
theorem cmpL_step {xs ys : List UInt8} {t : Nat} (h1 : t < xs.length) (h2 : t < ys.length) : cmpL (xs.drop t) (ys.drop t) = if cmpB (xs.getD t 0) (ys.getD t 0) = 0 then cmpL (xs.drop (t + 1)) (ys.drop (t + 1)) else cmpB (xs.getD t 0) (ys.getD t 0) := by
  rw [List.drop_eq_getElem_cons h1, List.drop_eq_getElem_cons h2]
  simp [cmpL, List.getD_eq_getElem?_getD, h1, h2]
theorem cmpL_end1 {xs ys : List UInt8} {t : Nat} (h1 : t < xs.length) (h2 : ys.length ≤ t) : cmpL (xs.drop t) (ys.drop t) = 1 := by
  rw [List.drop_eq_getElem_cons h1, List.drop_of_length_le h2]
  rfl
theorem cmpL_end2 {xs ys : List UInt8} {t : Nat} (h1 : xs.length ≤ t) : cmpL (xs.drop t) (ys.drop t) = if t < ys.length then -1 else 0 := by
  rw [List.drop_of_length_le h1]
  split
  · rename_i h; rw [List.drop_eq_getElem_cons h]; rfl
  · rename_i h; rw [List.drop_of_length_le (by omega)]; rfl

def valL : List UInt8 → Nat
  | [] => 0
  | x :: r => x.toNat * 256 ^ r.length + valL r
theorem valL_lt : ∀ l : List UInt8, valL l < 256 ^ l.length
  | [] => by simp [valL]
  | x :: r => by
    have h1 := valL_lt r
    have h2 := x.toNat_lt
    have h3 : (x.toNat + 1) * 256 ^ r.length ≤ 256 * 256 ^ r.length := Nat.mul_le_mul_right _ (by omega)
    rw [Nat.add_mul, Nat.one_mul] at h3
    simp only [valL, List.length_cons, Nat.pow_succ]
    omega
theorem cmpL_val : ∀ (xs ys : List UInt8), xs.length = ys.length → cmpL xs ys = if valL xs < valL ys then -1 else if valL ys < valL xs then 1 else 0
  | [], [], _ => rfl
  | [], _ :: _, h => by simp at h
  | _ :: _, [], h => by simp at h
  | x :: xs, y :: ys, h => by
    have hl : xs.length = ys.length := by simpa using h
    have ih := cmpL_val xs ys hl
    have h1 := valL_lt xs
    have h2 := valL_lt ys
    rw [hl] at h1
    simp only [valL, cmpL, hl]
    unfold cmpB
    rcases Nat.lt_trichotomy x.toNat y.toNat with hxy | hxy | hxy
    · have hlt : x < y := hxy
      have h3 : (x.toNat + 1) * 256 ^ ys.length ≤ y.toNat * 256 ^ ys.length := Nat.mul_le_mul_right _ hxy
      rw [Nat.add_mul, Nat.one_mul] at h3
      rw [if_pos hlt, if_neg (by decide), if_pos (by omega)]
    · have hn1 : ¬ x < y := fun hh => by have : x.toNat < y.toNat := hh; omega
      have hn2 : ¬ y < x := fun hh => by have : y.toNat < x.toNat := hh; omega
      rw [if_neg hn1, if_neg hn2, if_pos rfl, ih, hxy]
      simp only [Nat.add_lt_add_iff_left]
    · have hlt : y < x := hxy
      have hn1 : ¬ x < y := fun hh => by have : x.toNat < y.toNat := hh; omega
      have h3 : (y.toNat + 1) * 256 ^ ys.length ≤ x.toNat * 256 ^ ys.length := Nat.mul_le_mul_right _ hxy
      rw [Nat.add_mul, Nat.one_mul] at h3
      rw [if_neg hn1, if_pos hlt, if_neg (by decide), if_neg (by omega), if_pos (by omega)]
theorem valL_inj : ∀ (xs ys : List UInt8), xs.length = ys.length → valL xs = valL ys → xs = ys
  | [], [], _, _ => rfl
  | [], _ :: _, h, _ => by simp at h
  | _ :: _, [], h, _ => by simp at h
  | x :: xs, y :: ys, h, hv => by
    have hl : xs.length = ys.length := by simpa using h
    have h1 := valL_lt xs
    have h2 := valL_lt ys
    rw [hl] at h1
    simp only [valL, hl] at hv
    have hxy : x.toNat = y.toNat := by
      rcases Nat.lt_trichotomy x.toNat y.toNat with q | q | q
      · have h3 : (x.toNat + 1) * 256 ^ ys.length ≤ y.toNat * 256 ^ ys.length := Nat.mul_le_mul_right _ q
        rw [Nat.add_mul, Nat.one_mul] at h3; omega
      · exact q
      · have h3 : (y.toNat + 1) * 256 ^ ys.length ≤ x.toNat * 256 ^ ys.length := Nat.mul_le_mul_right _ q
        rw [Nat.add_mul, Nat.one_mul] at h3; omega
    rw [hxy] at hv
    rw [UInt8.toNat_inj.1 hxy, valL_inj xs ys hl (by omega)]
def cmpLeaf (x y : Leaf) : Int := cmpL x.p.l y.p.l
def leafN (x : Leaf) : Nat := valL x.p.l
theorem cmpLeaf_val (x y : Leaf) : cmpLeaf x y = if leafN x < leafN y then -1 else if leafN y < leafN x then 1 else 0 := cmpL_val _ _ (by rw [x.p.h, y.p.h])
theorem leafN_inj {x y : Leaf} (h : leafN x = leafN y) : x.p = y.p := by
  have := valL_inj x.p.l y.p.l (by rw [x.p.h, y.p.h]) h
  cases hx : x.p; cases hy : y.p
  simp_all

section
variable {P : Program} {n : Sh} {a : Act} {E : List (Nat × Value)} {w : World} {dst : Option Nat} {ty : TypeId} {pos : String} {af : Array Edge} {gd : Option (Nat × Bool)}
theorem q_ls8 (hT : Tm n a E) {t yt : TypeId} {x y : Operand} {u v : UInt8} (hx : evO E x = some (v8 u)) (hy : evO E y = some (v8 v)) : QR P a w ⟨dst, .binOp .lss t x y yt, ty, pos, af, gd⟩ (.bool (decide (u < v))) := by
  refine (q_lss hT hx hy).v ?_
  congr 1
  exact decide_eq_decide.2 ⟨fun h => by have : u.toNat < v.toNat := by omega
                                        exact this, fun h => by have : u.toNat < v.toNat := h
                                                                omega⟩
theorem q_gt8 (hT : Tm n a E) {t yt : TypeId} {x y : Operand} {u v : UInt8} (hx : evO E x = some (v8 u)) (hy : evO E y = some (v8 v)) : QR P a w ⟨dst, .binOp .gtr t x y yt, ty, pos, af, gd⟩ (.bool (decide (v < u))) := by
  refine (q_gtr hT hx hy).v ?_
  congr 1
  exact decide_eq_decide.2 ⟨fun h => by have : v.toNat < u.toNat := by omega
                                        exact this, fun h => by have : v.toNat < u.toNat := h
                                                                omega⟩
end
section
variable {P : Program} {n : Sh} {a : Act} {E : List (Nat × Value)} {w : World} {dst : Option Nat} {ty : TypeId} {pos : String} {af : Array Edge} {gd : Option (Nat × Bool)}
theorem run_equalIn_sl_nil {t e : TypeId} (k : Nat) (p : Option Addr) (l c : Nat) (ht : P.underlying t = some (.slice e)) {w : World} : (Op.equalIn (k + 1) t (.slice p l c) (.slice none 0 0)).run P w = .ok p.isNone w := by
  unfold Op.equalIn
  cases p <;> simp [run_underlying ht]
theorem run_equal_sl_nil {t e : TypeId} (p : Option Addr) (l c : Nat) (ht : P.underlying t = some (.slice e)) {w : World} : (Op.equal t (.slice p l c) (.slice none 0 0)).run P w = .ok p.isNone w := run_equalIn_sl_nil 9999 p l c ht
theorem q_eq_slnil (hT : Tm n a E) {t e yt : TypeId} {x y : Operand} {p : Option Addr} {l c : Nat} (hx : evO E x = some (.slice p l c)) (hy : evO E y = some (.slice none 0 0)) (ht : P.underlying t = some (.slice e)) : QR P a w ⟨dst, .binOp .eql t x y yt, ty, pos, af, gd⟩ (.bool p.isNone) :=
  q_bin hT hx hy (by simp [eqGuard]) (by simp only [binOp, Sem.run_bind, run_equal_sl_nil p l c ht, Result.andThen_ok, Sem.run_pure])
end
theorem SlB.t {w : World} {p : Option Addr} {len : Nat} {bs : List UInt8} (h : SlB w p len bs) : SlT w p len 1 (fun u => [v8 u]) 0 bs := by
  refine ⟨h.1, fun h0 => ?_⟩
  obtain ⟨b, off, hp, hr⟩ := h.2 h0
  refine ⟨b, off, hp, fun i hi => ?_⟩
  rw [Nat.mul_one]
  refine hr.part i ?_
  have hi' : i < bs.length := by rw [h.1]; exact hi
  have e : (byC bs).drop i = v8 (bs.getD i 0) :: (byC bs).drop (i + 1) := by
    rw [List.drop_eq_getElem_cons (by simpa [byC] using hi')]
    simp [byC, List.getD_eq_getElem?_getD, hi']
  rw [e]; rfl
/-- The cells of a row of things, one behind the other. -/
theorem SlT.run {α : Type} {w : World} {b off k : Nat} {enc : α → List Value} {d0 : α} (hk : ∀ x, (enc x).length = k) : ∀ (l : List α), (∀ i, i < l.length → Rd w b (off + i * k) (enc (l.getD i d0))) → 0 < l.length → Rd w b off (l.flatMap enc)
  | [], _, h => by simp at h
  | [x], h, _ => by simpa using h 0 (by simp)
  | x :: y :: r, h, _ => by
    have h0 : Rd w b off (enc x) := by simpa using h 0 (by simp)
    have h1 := SlT.run (off := off + k) hk (y :: r) (fun i hi => by
      have := h (i + 1) (by simpa using hi)
      rw [show off + (i + 1) * k = off + k + i * k from by rw [Nat.add_mul]; omega] at this
      simpa using this) (by simp)
    obtain ⟨c, T, fr, hc, hv⟩ := h0
    obtain ⟨c', T', fr', hc', hv'⟩ := h1
    rw [hc] at hc'
    cases hc'
    refine ⟨c, T, fr, hc, fun i v hi => ?_⟩
    rw [List.flatMap_cons] at hi
    by_cases hlt : i < (enc x).length
    · rw [List.getElem?_append_left hlt] at hi; exact hv i v hi
    · rw [List.getElem?_append_right (by omega), hk] at hi
      rw [hk] at hlt
      have := hv' (i - k) v hi
      rwa [show off + k + (i - k) = off + i from by omega] at this
theorem SlT.src {α : Type} {w : World} {p : Option Addr} {len k : Nat} {enc : α → List Value} {d0 : α} {l : List α} (hk : ∀ x, (enc x).length = k) (h1 : ∀ x, oneCells (enc x) = true) (h : SlT w p len k enc d0 l) : Src w p len k (l.flatMap enc) := by
  refine ⟨?_, ?_, fun h0 => ?_⟩
  · rw [← h.1]
    clear h
    induction l with
    | nil => simp
    | cons x r ih => rw [List.flatMap_cons, List.length_append, hk, ih, List.length_cons, Nat.add_mul]; omega
  · clear h
    induction l with
    | nil => rfl
    | cons x r ih =>
      rw [List.flatMap_cons]
      unfold oneCells at *
      rw [List.all_append, h1, ih]; rfl
  · obtain ⟨b, off, hp, hr⟩ := h.2 h0
    refine ⟨b, off, hp, SlT.run hk l (fun i hi => hr i (by rw [← h.1]; exact hi)) (by rw [h.1]; exact h0)⟩
theorem oneCells_dig (d : Dig) : oneCells (digC d) = true := by rw [digC_by]; exact oneCells_byC _
theorem leafC_one (l : Leaf) : oneCells (leafC l) = true := by
  unfold leafC oneCells
  rw [List.all_append, Bool.and_eq_true]
  exact ⟨oneCells_dig l.p, oneCells_dig l.v⟩
end Go.Vg
end
