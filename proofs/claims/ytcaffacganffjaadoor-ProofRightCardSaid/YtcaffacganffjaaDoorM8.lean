/- What the document's answer reckons, in plain functions. The words of a block, as the document's answer reckons them. The document's sum: a block's rounds, the padding, the bytes that are summed. -/
import Derived.Test.YtcaffacganffjaaDoorM6
import Derived.Test.YtcaffacganffjaaDoorM5

section
namespace Go.Vg
open Go
theorem pow7 (t : Nat) : 0 < 2 ^ (7 - t) ∧ 2 ^ (7 - t) ≤ 128 := by
  refine ⟨Nat.two_pow_pos _, ?_⟩
  have : 2 ^ (7 - t) ≤ 2 ^ 7 := Nat.pow_le_pow_right (by omega) (by omega)
  simpa using this
theorem pow_half {t : Nat} (h : t < 7) : ((2 ^ (7 - t) : Nat) : Int) / 2 = ((2 ^ (7 - (t + 1)) : Nat) : Int) := by
  have e : 7 - t = (7 - (t + 1)) + 1 := by omega
  rw [e, Nat.pow_succ]
  omega
theorem bit_div (p : Dig) (i : Nat) : (((p.get (i / 8)).toNat : Int) / ((2 ^ (7 - i % 8) : Nat) : Int)) % 2 = if p.bit i then 1 else 0 := by
  have h1 : ((p.get (i / 8)).toNat : Int) / ((2 ^ (7 - i % 8) : Nat) : Int) = (((p.get (i / 8)).toNat / 2 ^ (7 - i % 8) : Nat) : Int) := rfl
  rw [h1]
  unfold Dig.bit
  rw [Nat.testBit_eq_decide_div_mod_eq]
  by_cases h : (p.get (i / 8)).toNat / 2 ^ (7 - i % 8) % 2 = 1
  · rw [if_pos (by simpa using h)]; omega
  · rw [if_neg (by simpa using h)]; omega
def halfL (ls : List Leaf) (n : Nat) (b : Bool) : List Leaf := ls.filter fun l => l.p.bit n == b
def bitI (b : Bool) : Int := if b then 1 else 0
theorem bitI_inj {x b : Bool} : (if x then (1 : Int) else 0) = bitI b ↔ x = b := by cases x <;> cases b <;> simp [bitI]
theorem halfL_yes {ls : List Leaf} {t n : Nat} {b : Bool} (h : t < ls.length) (hc : (if (ls.getD t noLeaf).p.bit n then (1 : Int) else 0) = bitI b) : halfL (ls.take (t + 1)) n b = halfL (ls.take t) n b ++ [ls.getD t noLeaf] := by
  rw [bitI_inj] at hc
  unfold halfL
  rw [List.take_succ_eq_append_getElem h, List.filter_append]
  simp only [List.getD_eq_getElem?_getD, List.getElem?_eq_getElem h, Option.getD_some] at hc ⊢
  simp [hc]
theorem halfL_no {ls : List Leaf} {t n : Nat} {b : Bool} (h : t < ls.length) (hc : ¬ (if (ls.getD t noLeaf).p.bit n then (1 : Int) else 0) = bitI b) : halfL (ls.take (t + 1)) n b = halfL (ls.take t) n b := by
  rw [bitI_inj] at hc
  unfold halfL
  rw [List.take_succ_eq_append_getElem h, List.filter_append]
  simp only [List.getD_eq_getElem?_getD, List.getElem?_eq_getElem h, Option.getD_some] at hc ⊢
  simp [hc]
def getL (ls : List Leaf) (p : Dig) : Dig × Bool := match ls.find? fun l => decide (l.p = p) with
  | some l => (l.v, true)
  | none => (Dig.zero, false)
theorem getL_no {ls : List Leaf} {p : Dig} (h : ∀ i, i < ls.length → (ls.getD i noLeaf).p ≠ p) : getL ls p = (Dig.zero, false) := by
  have : (ls.find? fun l => decide (l.p = p)) = none := by
    rw [List.find?_eq_none]
    intro x hx
    obtain ⟨i, hi, rfl⟩ := List.mem_iff_getElem.1 hx
    have := h i hi
    simpa [List.getD_eq_getElem?_getD, hi] using this
  unfold getL
  rw [this]
theorem getL_at {ls : List Leaf} {p : Dig} {t : Nat} (ht : t < ls.length) (h : ∀ i, i < t → (ls.getD i noLeaf).p ≠ p) (he : (ls.getD t noLeaf).p = p) : getL ls p = ((ls.getD t noLeaf).v, true) := by
  have e : ls.getD t noLeaf = ls[t] := by simp [List.getD_eq_getElem?_getD, ht]
  have : (ls.find? fun l => decide (l.p = p)) = some (ls.getD t noLeaf) := by
    rw [List.find?_eq_some_iff_getElem]
    refine ⟨by simpa using he, t, ht, e.symm, fun j hj => ?_⟩
    have := h j hj
    simpa [List.getD_eq_getElem?_getD, show j < ls.length by omega] using this
  unfold getL
  rw [this]
theorem twins_yes {ls : List Leaf} {i k : Nat} (hi : i < ls.length) (hk : k < i) (h : (ls.getD i noLeaf).p = (ls.getD k noLeaf).p) : twins ls = true := by
  unfold twins
  rw [Bool.not_eq_true', decide_eq_false_iff_not, List.pairwise_iff_getElem]
  intro hp
  refine hp k i (by omega) hi hk ?_
  simpa [List.getD_eq_getElem?_getD, hi, show k < ls.length by omega] using h.symm
theorem twins_no {ls : List Leaf} (h : ∀ i, i < ls.length → ∀ k, k < i → (ls.getD i noLeaf).p ≠ (ls.getD k noLeaf).p) : twins ls = false := by
  unfold twins
  rw [Bool.not_eq_false', decide_eq_true_eq, List.pairwise_iff_getElem]
  intro k i hk hi hki he
  refine h i hi k hki ?_
  simpa [List.getD_eq_getElem?_getD, hi, hk] using he.symm
theorem rotl_or (x : UInt32) (n : Nat) (h : n ≤ 32) : shr32 x n ||| shl32 x (32 - n) = rotl x (32 - n) := by
  unfold rotl
  rw [UInt32.or_comm, show 32 - (32 - n) = n from by omega]
end Go.Vg
end

section
namespace Go.Vg
open Go
theorem or_add {a b : Nat} (k : Nat) (hb : b < 2 ^ k) : a * 2 ^ k + b = a * 2 ^ k ||| b := by
  rw [Nat.mul_comm]
  exact Nat.two_pow_add_eq_or_of_lt hb a
theorem shl_nat (a : UInt8) (s : Nat) (hs : s ≤ 24) : (shl32 a.toUInt32 s).toNat = a.toNat * 2 ^ s := by
  unfold shl32
  have h1 : a.toUInt32.toNat = a.toNat := by simp
  have h2 := a.toNat_lt
  have h3 : 2 ^ s ≤ 2 ^ 24 := Nat.pow_le_pow_right (by omega) hs
  have h4 : a.toNat * 2 ^ s ≤ 255 * 2 ^ 24 := Nat.mul_le_mul (by omega) h3
  rw [h1, Nat.shiftLeft_eq, UInt32.toNat_ofNat']
  exact Nat.mod_eq_of_lt (by omega)
theorem be32_add (a b c d : UInt8) : shl32 a.toUInt32 24 + shl32 b.toUInt32 16 + shl32 c.toUInt32 8 + d.toUInt32 = be32 a b c d := by
  have ha := a.toNat_lt
  have hb := b.toNat_lt
  have hc := c.toNat_lt
  have hd := d.toNat_lt
  have hd1 : d.toUInt32.toNat = d.toNat := by simp
  apply UInt32.toNat_inj.1
  unfold be32
  simp only [UInt32.toNat_or, UInt32.toNat_add, shl_nat a 24 (by omega), shl_nat b 16 (by omega), shl_nat c 8 (by omega), hd1]
  rw [← or_add (a := a.toNat) 24 (by omega)]
  rw [show a.toNat * 2 ^ 24 + b.toNat * 2 ^ 16 = (a.toNat * 2 ^ 8 + b.toNat) * 2 ^ 16 from by omega]
  rw [← or_add 16 (by omega)]
  rw [show (a.toNat * 2 ^ 8 + b.toNat) * 2 ^ 16 + c.toNat * 2 ^ 8 = (a.toNat * 2 ^ 16 + b.toNat * 2 ^ 8 + c.toNat) * 2 ^ 8 from by omega]
  rw [← or_add 8 (by omega)]
  omega
theorem ch_eq (e f g : UInt32) : (e &&& f) ^^^ (~~~e &&& g) = e &&& (f ^^^ g) ^^^ g := by
  apply UInt32.toBitVec_inj.1
  simp only [UInt32.toBitVec_xor, UInt32.toBitVec_and, UInt32.toBitVec_not]
  ext i hi
  simp only [BitVec.getElem_xor, BitVec.getElem_and, BitVec.getElem_not]
  cases e.toBitVec[i] <;> cases f.toBitVec[i] <;> cases g.toBitVec[i] <;> rfl
theorem maj_eq (a b c : UInt32) : (a &&& b) ^^^ (a &&& c) ^^^ (b &&& c) = a &&& b ||| c &&& (a ||| b) := by
  apply UInt32.toBitVec_inj.1
  simp only [UInt32.toBitVec_xor, UInt32.toBitVec_and, UInt32.toBitVec_or]
  ext i hi
  simp only [BitVec.getElem_xor, BitVec.getElem_and, BitVec.getElem_or]
  cases a.toBitVec[i] <;> cases b.toBitVec[i] <;> cases c.toBitVec[i] <;> rfl
section
variable {P : Program} {n : Sh} {a : Act} {E : List (Nat × Value)} {w : World} {dst : Option Nat} {ty : TypeId} {pos : String} {af : Array Edge} {gd : Option (Nat × Bool)}
theorem not32_nat (u : UInt32) : (~~~u).toNat = 4294967295 ^^^ u.toNat := by
  have : ~~~u = 4294967295 ^^^ u := by
    apply UInt32.toBitVec_inj.1
    simp only [UInt32.toBitVec_xor, UInt32.toBitVec_not]
    ext i hi
    simp only [BitVec.getElem_xor, BitVec.getElem_not]
    have : (4294967295 : UInt32).toBitVec[i] = true := by
      have h1 : (4294967295 : UInt32).toBitVec = BitVec.allOnes 32 := by decide
      have h2 : (4294967295 : UInt32).toBitVec[i] = (BitVec.allOnes 32)[i] := congrArg (fun b : BitVec 32 => b[i]) h1
      exact h2.trans (BitVec.getElem_allOnes _ hi)
    rw [this]; cases u.toBitVec[i] <;> rfl
  rw [this]; simp
theorem q_not32 (hT : Tm n a E) {t : TypeId} {x : Operand} {u : UInt32} (hx : evO E x = some (v32 u)) : QR P a w ⟨dst, .unOp .xor t x, ty, pos, af, gd⟩ (v32 (~~~u)) := by
  have h := bits_run (P := P) (w := w) .xor .u32 rfl 4294967295 u.toNat (by decide) u.toNat_lt (4294967295 ^^^ u.toNat) (.inr (.inr ⟨rfl, rfl⟩))
  have hm : (if IntKind.u32.signed = true then (-1 : Int) else IntKind.u32.max) = ((4294967295 : Nat) : Int) := by decide
  simp only [QR, execOp, hT.ev hx, Op.unary, Sem.run_bind, hm, h, Result.andThen_ok, Sem.run_pure, v32, not32_nat]
end
end Go.Vg
end

section
namespace Go.Vg
open Go
/-- The words k of the document's answer lie in its variable. -/
def Key2At (w : World) : Prop := Rd w 0 0 (arr32 64 keyF)
theorem Key2At.of {w w' : World} {M : List Nat} {cs : List Chunk} (h : Key2At w) (he : Vg.Loc M w w' cs) (hm : 0 ∉ M) : Key2At w' := Rd.loc h he hm
theorem Key2At.ext {w w' : World} {cs : List Chunk} (h : Key2At w) (he : Vg.Loc [] w w' cs) : Key2At w' := h.of he (by simp)
theorem Key2At.lt {w : World} (h : Key2At w) : 0 < w.heap.size := Rd.lt h

theorem sched_lo2 (buf : Nat → UInt8) (t : Nat) (h : t < 16) : upd (sched buf t) t (shl32 (buf (4 * t)).toUInt32 24 + shl32 (buf (4 * t + 1)).toUInt32 16 + shl32 (buf (4 * t + 2)).toUInt32 8 + (buf (4 * t + 3)).toUInt32) = sched buf (t + 1) := by
  rw [be32_add]; exact sched_lo buf t h
theorem sched_hi2 (buf : Nat → UInt8) (t : Nat) (h : ¬ t < 16) : upd (sched buf t) t ((rotl (sched buf t (t - 2)) 15 ^^^ rotl (sched buf t (t - 2)) 13 ^^^ shr32 (sched buf t (t - 2)) 10) + sched buf t (t - 7) + (rotl (sched buf t (t - 15)) 25 ^^^ rotl (sched buf t (t - 15)) 14 ^^^ shr32 (sched buf t (t - 15)) 3) + sched buf t (t - 16)) = sched buf (t + 1) := by
  rw [← sched_hi buf t h]
  congr 1
  ac_rfl
theorem round_cells (R : W8) (k x : UInt32) (one two : UInt32) (h1 : one = R.k + (rotl R.e 26 ^^^ rotl R.e 21 ^^^ rotl R.e 7) + ((R.e &&& R.f) ^^^ (~~~R.e &&& R.g)) + k + x)
    (h2 : two = (rotl R.a 30 ^^^ rotl R.a 19 ^^^ rotl R.a 10) + ((R.a &&& R.b) ^^^ (R.a &&& R.c) ^^^ (R.b &&& R.c))) :
    [v32 (one + two), v32 R.a, v32 R.b, v32 R.c, v32 (R.d + one), v32 R.e, v32 R.f, v32 R.g] = arr32 8 (R.round k x).at := by
  rw [ch_eq] at h1
  rw [maj_eq] at h2
  subst h1 h2
  rfl
/-- The bytes of a block. -/
abbrev bufL (bs : List UInt8) : Nat → UInt8 := fun j => bs.getD j 0
theorem words_step (m : List UInt8) (k : Nat) (hk : 64 * k + 64 ≤ m.length) : mixF (wordsAt m k) (bufL ((m.drop (64 * k)).take (64 * k + 64 - 64 * k))) = wordsAt m (k + 1) := by
  show _ = mixF (wordsAt m k) (fun j => m.getD (64 * k + j) 0)
  refine mixF_congr fun j hj => ?_
  unfold bufL
  simp only [List.getD_eq_getElem?_getD]
  rw [List.getElem?_take_of_lt (by omega), List.getElem?_drop]
/-- Bytes of one's own. -/
abbrev OwnB (T : TypeId) (p : Option Addr) (n cap : Nat) (l : List UInt8) (c : Chunk) : Prop := OwnE (fun u : UInt8 => [v8 u]) 1 T p n cap l c
theorem byC_flat (l : List UInt8) : l.flatMap (fun u => [v8 u]) = byC l := by
  unfold byC
  induction l with
  | nil => rfl
  | cons x r ih => simp [ih]
theorem OwnE.slb {T : TypeId} {p : Option Addr} {n cap : Nat} {l : List UInt8} {c : Chunk} {M : List Nat} {w0 w : World} {cs : List Chunk} (h : OwnB T p n cap l c) (hL : Vg.Loc M w0 w cs) {i : Nat} (hi : cs[i]? = .some c) : SlB w p n l := by
  refine ⟨h.1, fun h0 => ?_⟩
  obtain ⟨g, junk, rfl, rfl⟩ := h.some h0
  refine ⟨g, 0, rfl, ?_⟩
  have := hL.rd i hi 0 (ds := l.flatMap (fun u => [v8 u])) (by simp)
  rwa [byC_flat] at this
theorem OwnE.more {α : Type} {enc : α → List Value} {k m : Nat} {T : TypeId} {p : Option Addr} {n cap : Nat} {l l' : List α} {c : Chunk} {p' : Option Addr} {cap' : Nat} {c' : Chunk} (h : OwnE enc k T p n cap l c) (hm : l'.length = m) (h' : OwnC T k p' (n + m) cap' (l.flatMap enc ++ l'.flatMap enc) c') : OwnE enc k T p' (n + m) cap' (l ++ l') c' :=
  ⟨by simp [h.1, hm], by simpa using h'⟩
theorem SlB.src {w : World} {p : Option Addr} {len : Nat} {bs : List UInt8} (h : SlB w p len bs) : Src w p len 1 (bs.flatMap fun u => [v8 u]) := by
  rw [byC_flat]
  exact ⟨by simp [byC, h.1], oneCells_byC _, h.2⟩
theorem OwnE.lit {T g : Nat} {l : List UInt8} {cs : List Value} (hc : cs = byC l) (hl : l.length ≤ 1000) : OwnB T (Option.some ⟨g, 0, Option.none⟩) l.length l.length l [(g, ob cs T)] := by
  subst hc
  exact ⟨rfl, by rw [byC_flat]; simp [byC], Nat.le_refl _, by simp only [maxLen]; omega, .inr ⟨g, [], rfl, by rw [byC_flat]; simp, by rw [byC_flat]; simp [byC]⟩⟩
theorem padLen_rem (n : Nat) : (n + 1 + padLen n) % 64 = 56 := by unfold padLen; omega
theorem padLen_no {n t : Nat} (h : t < padLen n) : (n + 1 + t) % 64 ≠ 56 := by unfold padLen at h; omega
theorem pad_more (bs : List UInt8) (t : Nat) : (bs ++ [128] ++ List.replicate t 0) ++ [0] = bs ++ [128] ++ List.replicate (t + 1) (0 : UInt8) := by
  rw [List.replicate_succ', List.append_assoc]
theorem lenBytes_take {n j : Nat} (h : j < 8) : (lenBytes n).take (j + 1) = (lenBytes n).take j ++ [(shr64 (UInt64.ofNat n * 8) (56 - 8 * j)).toUInt8] := by
  have hl : (lenBytes n).length = 8 := by simp [lenBytes]
  rw [List.take_succ_eq_append_getElem (by omega)]
  simp [lenBytes]
theorem lenBytes_all (n : Nat) : (lenBytes n).take 8 = lenBytes n := List.take_of_length_le (by simp [lenBytes])
theorem padded_eq (bs : List UInt8) : (bs ++ [128] ++ List.replicate (padLen bs.length) 0) ++ (lenBytes bs.length).take 8 = padded bs := by
  rw [lenBytes_all]; unfold padded; rw [List.append_assoc]
theorem padded_len (bs : List UInt8) : (padded bs).length = bs.length + 1 + padLen bs.length + 8 := by simp [padded, lenBytes]; omega
theorem padded_64 (bs : List UInt8) : (padded bs).length % 64 = 0 := by rw [padded_len]; have := padLen_rem bs.length; omega
/-- A part of some bytes. -/
theorem SlB.mid {w : World} {p : Option Addr} {len cap l h : Nat} {bs : List UInt8} (hs : SlB w p len bs) (hl : l ≤ h) (hh : h ≤ len) (hc : len ≤ cap) : SlB w (if cap = l then p else p.map (·.add (l * 1))) (h - l) ((bs.drop l).take (h - l)) := by
  refine ⟨by simp [hs.1]; omega, fun h0 => ?_⟩
  obtain ⟨b, off, hp, hr⟩ := hs.2 (by omega)
  rw [if_neg (by omega), hp]
  refine ⟨b, off + l, by simp [add_none], ?_⟩
  have := (hr.drop l).take (h - l)
  rwa [show ((byC bs).drop l).take (h - l) = byC ((bs.drop l).take (h - l)) from by simp [byC]] at this
section
variable {P : Program} {n : Sh} {a : Act} {E : List (Nat × Value)} {w : World} {dst : Option Nat} {ty : TypeId} {pos : String} {af : Array Edge} {gd : Option (Nat × Bool)}
/-- s[l:h] of a slice. -/
theorem q_slice_both (hT : Tm n a E) {t e : TypeId} {x y z : Operand} {p : Option Addr} {len cap m l h : Nat} {k k' : IntKind} (hx : evO E x = some (.slice p len cap)) (hy : evO E y = some (.int k (l : Int))) (hz : evO E z = some (.int k' (h : Int))) (ht : isSlice P t = some (e, m)) (hl : l ≤ h) (hh : h ≤ cap) :
    QR P a w ⟨dst, .slice t x (some y) (some z) none, ty, pos, af, gd⟩ (.slice (if cap = l then p else p.map (·.add (l * m))) (h - l) (cap - l)) := by
  obtain ⟨g, z', hu, hs⟩ := isSlice_spec ht
  simp [QR, execOp, hT.ev hx, hT.ev hy, hT.ev hz, Instr.sliceAt, Instr.slice, run_underlying hu, bounds_both hl hh, run_sizeOf hs]
end
end Go.Vg
end
