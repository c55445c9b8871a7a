/- Rows of one's own, grown by append; what 'at' and 'Make' part leaves into. What a proof is made of. How far two paths go along; what 'Len8' reads. -/
import Derived.Test.YtcaffacganffjaaDoorM4

section
namespace Go.Vg
open Go

def OwnE {α : Type} (enc : α → List Value) (k : Nat) (T : TypeId) (p : Option Addr) (n cap : Nat) (l : List α) (c : Chunk) : Prop := l.length = n ∧ OwnC T k p n cap (l.flatMap enc) c
section
variable {α : Type} {enc : α → List Value} {k : Nat} {T : TypeId} {p : Option Addr} {n cap : Nat} {l : List α} {c : Chunk} {d0 : α}
theorem OwnE.nil : OwnE enc k T none 0 0 ([] : List α) [] := ⟨rfl, OwnC.none⟩
theorem OwnE.snoc {x : α} {p' : Option Addr} {cap' : Nat} {c' : Chunk} (h : OwnE enc k T p n cap l c) (h' : OwnC T k p' (n + 1) cap' (l.flatMap enc ++ enc x) c') : OwnE enc k T p' (n + 1) cap' (l ++ [x]) c' :=
  ⟨by simp [h.1], by simpa using h'⟩
theorem OwnE.some (h : OwnE enc k T p n cap l c) (h0 : 0 < n) : ∃ g junk, p = .some ⟨g, 0, none⟩ ∧ c = [(g, ob (l.flatMap enc ++ junk) T)] := by
  obtain ⟨_, _, hlc, _, hcase⟩ := h
  rcases hcase with ⟨_, h1, _⟩ | ⟨g, junk, h1, h2, _⟩
  · omega
  · exact ⟨g, junk, h1, h2⟩
theorem OwnE.slt {M : List Nat} {w0 w : World} {cs : List Chunk} (h : OwnE enc k T p n cap l c) (hk : ∀ x, (enc x).length = k) (hL : Vg.Loc M w0 w cs) {i : Nat} (hi : cs[i]? = .some c) : SlT w p n k enc d0 l := by
  refine ⟨h.1, fun h0 => ?_⟩
  obtain ⟨g, junk, rfl, rfl⟩ := h.some h0
  exact ⟨g, 0, rfl, fun j hj => SlT.flat0 hk l g 0 (hL.rd i hi 0 (by simp)) j (by rw [h.1]; exact hj)⟩
theorem OwnE.cap_le (h : OwnE enc k T p n cap l c) : n ≤ cap := h.2.2.1
theorem OwnE.len (h : OwnE enc k T p n cap l c) : l.length = n := h.1
end
/-- One thing, as it lies in a block of its own. -/
theorem Src.one {w : World} {b k : Nat} {xs : List Value} (hk : xs.length = k) (h1 : oneCells xs = true) (h : Rd w b 0 xs) : Src w (some ⟨b, 0, none⟩) 1 k xs := ⟨by simpa using hk, h1, fun _ => ⟨b, 0, rfl, h⟩⟩

theorem zerosL_snoc {ls : List Leaf} {t n : Nat} (h : t < ls.length) : zerosL (ls.take (t + 1)) n = if (ls.getD t noLeaf).p.bit n = true then zerosL (ls.take t) n else zerosL (ls.take t) n ++ [ls.getD t noLeaf] := by
  unfold zerosL
  rw [List.take_succ_eq_append_getElem h, List.filter_append]
  simp only [List.getD_eq_getElem?_getD, List.getElem?_eq_getElem h, Option.getD_some]
  cases hb : ls[t].p.bit n <;> simp [hb]
theorem onesL_snoc {ls : List Leaf} {t n : Nat} (h : t < ls.length) : onesL (ls.take (t + 1)) n = if (ls.getD t noLeaf).p.bit n = true then onesL (ls.take t) n ++ [ls.getD t noLeaf] else onesL (ls.take t) n := by
  unfold onesL
  rw [List.take_succ_eq_append_getElem h, List.filter_append]
  simp only [List.getD_eq_getElem?_getD, List.getElem?_eq_getElem h, Option.getD_some]
  cases hb : ls[t].p.bit n <;> simp [hb]
theorem dg_nil (w : Int) (fuel n : Nat) : dg w fuel [] n = emptyD w := by cases fuel <;> rfl
theorem dg_two {w : Int} {fuel n : Nat} {S : List Leaf} (h : 2 ≤ S.length) : dg w (fuel + 1) S n = nodeD w (dg w fuel (zerosL S n) (n + 1)) (dg w fuel (onesL S n) (n + 1)) := by
  match S, h with
  | a :: b :: r, _ => rfl
theorem dg_left {w : Int} {fuel n : Nat} {S : List Leaf} (h : 2 ≤ S.length) (ho : ∀ x ∈ S, x.p.bit n = false) : dg w (fuel + 1) S n = nodeD w (dg w fuel S (n + 1)) (emptyD w) := by
  rw [dg_two h]
  have h1 : zerosL S n = S := List.filter_eq_self.2 fun x hx => by simp [ho x hx]
  have h2 : onesL S n = [] := List.filter_eq_nil_iff.2 fun x hx => by simp [ho x hx]
  rw [h1, h2, dg_nil]
theorem GoodL.left {S : List Leaf} {n : Nat} (h : GoodL S n) (ho : ∀ x ∈ S, x.p.bit n = false) : GoodL S (n + 1) := by
  have := h.zeros
  rwa [show zerosL S n = S from List.filter_eq_self.2 fun x hx => by simp [ho x hx]] at this
def AtOK (P : Program) (f : FuncId) (w : Int) (fuel : Nat) : Prop := ∀ (ls : List Leaf) (p : Option Addr) (len cap n : Nat) (w0 : World), KeysAt w0 → SlT w0 p len 64 leafC noLeaf ls → GoodL ls n → fuel + n = 257 → 1 ≤ fuel → len ≤ 4096 →
  Calls P f #[vI w, .slice p len cap, vI (n : Int)] w0 fun e w' => e = .returned (dv (dg w fuel ls n)) ∧ Ext w0 w'
end Go.Vg
end

section
namespace Go.Vg
open Go

def sameL (p : Dig) (S : List Leaf) (n : Nat) : List Leaf := S.filter fun l => l.p.bit n == p.bit n
def diffL (p : Dig) (S : List Leaf) (n : Nat) : List Leaf := S.filter fun l => !(l.p.bit n == p.bit n)
theorem sameL_snoc {p : Dig} {ls : List Leaf} {t n : Nat} (h : t < ls.length) : sameL p (ls.take (t + 1)) n = if ((ls.getD t noLeaf).p.bit n == p.bit n) = true then sameL p (ls.take t) n ++ [ls.getD t noLeaf] else sameL p (ls.take t) n := by
  unfold sameL
  rw [List.take_succ_eq_append_getElem h, List.filter_append]
  simp only [List.getD_eq_getElem?_getD, List.getElem?_eq_getElem h, Option.getD_some]
  cases hb : ls[t].p.bit n == p.bit n <;> simp [hb]
theorem diffL_snoc {p : Dig} {ls : List Leaf} {t n : Nat} (h : t < ls.length) : diffL p (ls.take (t + 1)) n = if ((ls.getD t noLeaf).p.bit n == p.bit n) = true then diffL p (ls.take t) n else diffL p (ls.take t) n ++ [ls.getD t noLeaf] := by
  unfold diffL
  rw [List.take_succ_eq_append_getElem h, List.filter_append]
  simp only [List.getD_eq_getElem?_getD, List.getElem?_eq_getElem h, Option.getD_some]
  cases hb : ls[t].p.bit n == p.bit n <;> simp [hb]
theorem GoodL.same {S : List Leaf} {n : Nat} (p : Dig) (h : GoodL S n) : GoodL (sameL p S n) (n + 1) :=
  h.filter _ fun x _ y _ hx hy => by rw [eq_of_beq hx, eq_of_beq hy]
theorem GoodL.diff {S : List Leaf} {n : Nat} (p : Dig) (h : GoodL S n) : GoodL (diffL p S n) (n + 1) :=
  h.filter _ fun x _ y _ hx hy => by
    revert hx hy
    cases x.p.bit n <;> cases y.p.bit n <;> cases p.bit n <;> simp
/-- The siblings from a depth on, and the leaves that are left. -/
def goL (w : Int) (p : Dig) : Nat → List Leaf → Nat → List Dig × List Leaf
  | 0, S, _ => ([], S)
  | k + 1, S, n => if S.length ≤ 1 then ([], S) else (dg w k (diffL p S n) (n + 1) :: (goL w p k (sameL p S n) (n + 1)).1, (goL w p k (sameL p S n) (n + 1)).2)
theorem goL_end {w : Int} {p : Dig} {k n : Nat} {S : List Leaf} (h : S.length ≤ 1) : goL w p k S n = ([], S) := by
  cases k with
  | zero => rfl
  | succ k => simp [goL, h]
theorem goL_step {w : Int} {p : Dig} {k n : Nat} {S : List Leaf} (h : 1 < S.length) : goL w p (k + 1) S n = (dg w k (diffL p S n) (n + 1) :: (goL w p k (sameL p S n) (n + 1)).1, (goL w p k (sameL p S n) (n + 1)).2) := by
  rw [goL, if_neg (by omega)]
/-- What is said of the path: is its leaf there, its value; is another in its place, its path and value. -/
def saysL (p : Dig) : List Leaf → Bool × Dig × Bool × Dig × Dig
  | [] => (false, Dig.zero, false, Dig.zero, Dig.zero)
  | x :: _ => if x.p = p then (true, x.v, false, Dig.zero, Dig.zero) else (false, Dig.zero, true, x.p, x.v)
def claimC (b : Bool) (d : Dig) : List Value := [.bool b] ++ digC d
def proofC (s : Value) (o : Bool) (x y : Dig) : List Value := [s, .bool o] ++ (digC x ++ digC y)

theorem rootE_good {w : Int} {ls : List Leaf} (h : rootE w ls = 0) : GoodL ls 0 := by
  unfold rootE at h
  split at h
  · cases h
  · split at h
    · cases h
    · split at h
      · cases h
      · rename_i htt
        exact ⟨twins_false (by simpa using htt), fun _ _ _ _ i hi => by omega⟩
theorem Loc.turnedM {M : List Nat} {w w1 w2 : World} {b : Nat} {o : Obj} (h : Vg.Loc M w w1 []) (ht : Turned w1 w2 b o) (hb : b ∈ M) : Vg.Loc M w w2 [] :=
  ⟨ht.os.trans h.os, ht.tape.trans h.tape, ht.output.trans h.output, by rw [ht.drawn]; exact h.drawn, by rw [ht.size]; exact h.size, fun k hk hm => by rw [ht.ne k (fun e => hm (e ▸ hb))]; exact h.old k hk hm, List.nodup_nil, by simp [keys], by simp⟩

section
variable {P : Program} {n : Sh} {a : Act} {E : List (Nat × Value)} {w : World} {dst : Option Nat} {ty : TypeId} {pos : String} {af : Array Edge} {gd : Option (Nat × Bool)}
theorem run_equal_bool {t : TypeId} (x y : Bool) (ht : P.underlying t = some .bool) {w : World} : (Op.equal t (.bool x) (.bool y)).run P w = .ok (x == y) w := by
  show (Op.equalIn (9999 + 1) t (.bool x) (.bool y)).run P w = _
  unfold Op.equalIn
  simp [run_underlying ht]
theorem q_eq_bool (hT : Tm n a E) {t yt : TypeId} {x y : Operand} {u v : Bool} (hx : evO E x = some (.bool u)) (hy : evO E y = some (.bool v)) (ht : P.underlying t = some .bool) : QR P a w ⟨dst, .binOp .eql t x y yt, ty, pos, af, gd⟩ (.bool (u == v)) :=
  q_bin hT hx hy (by simp [eqGuard]) (by simp only [binOp, Sem.run_bind, run_equal_bool u v ht, Result.andThen_ok, Sem.run_pure])
end
end Go.Vg
end

section
namespace Go.Vg
open Go

def lenTab : ByteArray := ⟨#[0, 1, 2, 2, 3, 3, 3, 3, 4, 4, 4, 4, 4, 4, 4, 4, 5, 5, 5, 5, 5, 5, 5, 5, 5, 5, 5, 5, 5, 5, 5, 5, 6, 6, 6, 6, 6, 6, 6, 6, 6, 6, 6, 6, 6, 6, 6, 6, 6, 6, 6, 6, 6, 6, 6, 6, 6, 6, 6, 6, 6, 6, 6, 6, 7, 7, 7, 7, 7, 7, 7, 7, 7, 7, 7, 7, 7, 7, 7, 7, 7, 7, 7, 7, 7, 7, 7, 7, 7, 7, 7, 7, 7, 7, 7, 7, 7, 7, 7, 7, 7, 7, 7, 7, 7, 7, 7, 7, 7, 7, 7, 7, 7, 7, 7, 7, 7, 7, 7, 7, 7, 7, 7, 7, 7, 7, 7, 7, 8, 8, 8, 8, 8, 8, 8, 8, 8, 8, 8, 8, 8, 8, 8, 8, 8, 8, 8, 8, 8, 8, 8, 8, 8, 8, 8, 8, 8, 8, 8, 8, 8, 8, 8, 8, 8, 8, 8, 8, 8, 8, 8, 8, 8, 8, 8, 8, 8, 8, 8, 8, 8, 8, 8, 8, 8, 8, 8, 8, 8, 8, 8, 8, 8, 8, 8, 8, 8, 8, 8, 8, 8, 8, 8, 8, 8, 8, 8, 8, 8, 8, 8, 8, 8, 8, 8, 8, 8, 8, 8, 8, 8, 8, 8, 8, 8, 8, 8, 8, 8, 8, 8, 8, 8, 8, 8, 8, 8, 8, 8, 8, 8, 8, 8, 8, 8, 8, 8, 8, 8, 8, 8, 8, 8, 8, 8, 8]⟩
def lenN (n : Nat) : Nat := if n = 0 then 0 else if n < 2 then 1 else if n < 4 then 2 else if n < 8 then 3 else if n < 16 then 4 else if n < 32 then 5 else if n < 64 then 6 else if n < 128 then 7 else 8
theorem lenTab_all : ∀ n : Fin 256, lenTab[n.val]? = some (UInt8.ofNat (lenN n.val)) := by decide +kernel
theorem lenTab_get (x : UInt8) : lenTab[x.toNat]? = some (UInt8.ofNat (lenN x.toNat)) := lenTab_all ⟨x.toNat, x.toNat_lt⟩
theorem lenN_le (n : Nat) : lenN n ≤ 8 := by unfold lenN; (repeat' split) <;> omega
theorem lenN_cast (n : Nat) : (UInt8.ofNat (lenN n)).toNat = lenN n := by
  have := lenN_le n
  simp only [UInt8.toNat_ofNat']
  omega
theorem lenN_all : ∀ n : Fin 256, n.val ≠ 0 → 1 ≤ lenN n.val ∧ (∀ j : Fin 8, j.val < 8 - lenN n.val → n.val.testBit (7 - j.val) = false) ∧ n.val.testBit (7 - (8 - lenN n.val)) = true := by decide +kernel

/-- Two paths go along just so far. -/
structure IsCommon (a b : Dig) (c : Nat) : Prop where
  le : c ≤ 256
  eq : ∀ i, i < c → a.bit i = b.bit i
  ne : c < 256 → a.bit c ≠ b.bit c
def common (a b : Dig) : Nat := ((List.range 256).find? fun i => a.bit i != b.bit i).getD 256
theorem IsCommon.is {a b : Dig} {c : Nat} (h : IsCommon a b c) : common a b = c := by
  unfold common
  by_cases hc : c < 256
  · have : (List.range 256).find? (fun i => a.bit i != b.bit i) = some c := by
      rw [List.find?_range_eq_some]
      refine ⟨by simpa using h.ne hc, by simpa using hc, fun j hj => by simpa using h.eq j hj⟩
    rw [this]; rfl
  · have hc' : c = 256 := by have := h.le; omega
    have : (List.range 256).find? (fun i => a.bit i != b.bit i) = none := by
      rw [List.find?_eq_none]
      intro i hi
      have := h.eq i (by have := List.mem_range.1 hi; omega)
      simpa using this
    rw [this, hc']; rfl
theorem common_is (a b : Dig) : IsCommon a b (common a b) := by
  unfold common
  cases hf : (List.range 256).find? (fun i => a.bit i != b.bit i) with
  | none =>
    rw [List.find?_eq_none] at hf
    exact ⟨Nat.le_refl _, fun i hi => by simpa using hf i (List.mem_range.2 hi), fun h => absurd h (Nat.lt_irrefl _)⟩
  | some c =>
    rw [List.find?_range_eq_some] at hf
    obtain ⟨h1, h2, h3⟩ := hf
    have h2' : c < 256 := by simpa using h2
    exact ⟨Nat.le_of_lt h2', fun i hi => by simpa using h3 i hi, fun _ => by simpa using h1⟩
theorem common_step (a b : Dig) (n : Nat) (hn : n < 256) : n + 1 ≤ common a b ↔ n ≤ common a b ∧ a.bit n = b.bit n := by
  have h := common_is a b
  constructor
  · intro h1; exact ⟨by omega, h.eq n (by omega)⟩
  · rintro ⟨h1, h2⟩
    rcases Nat.eq_or_lt_of_le h1 with q | q
    · exact absurd h2 (q ▸ h.ne (by omega))
    · omega

/-- The first byte that is not the same tells. -/
theorem common_byte {a b : Dig} {t : Nat} (ht : t < 32) (h : ∀ i, i < t → a.get i = b.get i) (hne : a.get t ^^^ b.get t ≠ 0) : IsCommon a b (8 * t + (8 - lenN (a.get t ^^^ b.get t).toNat)) ∧ 1 ≤ lenN (a.get t ^^^ b.get t).toNat := by
  have hx : (a.get t ^^^ b.get t).toNat ≠ 0 := fun e => hne (UInt8.toNat_inj.1 (by simpa using e))
  obtain ⟨h1, h2, h3⟩ := lenN_all ⟨_, (a.get t ^^^ b.get t).toNat_lt⟩ hx
  simp only [UInt8.toNat_xor, Nat.testBit_xor] at h1 h2 h3 ⊢
  have hl := lenN_le ((a.get t).toNat ^^^ (b.get t).toNat)
  refine ⟨⟨by omega, fun i hi => ?_, fun _ => ?_⟩, h1⟩
  · unfold Dig.bit
    by_cases hit : i / 8 < t
    · rw [h _ hit]
    · have e : i / 8 = t := by omega
      have := h2 ⟨i % 8, by omega⟩ (by simp only; omega)
      rw [e]
      revert this
      cases (a.get t).toNat.testBit (7 - i % 8) <;> cases (b.get t).toNat.testBit (7 - i % 8) <;> simp
  · unfold Dig.bit
    have e : (8 * t + (8 - lenN ((a.get t).toNat ^^^ (b.get t).toNat))) / 8 = t := by omega
    have e2 : (8 * t + (8 - lenN ((a.get t).toNat ^^^ (b.get t).toNat))) % 8 = 8 - lenN ((a.get t).toNat ^^^ (b.get t).toNat) := by omega
    rw [e, e2]
    revert h3
    cases (a.get t).toNat.testBit (7 - (8 - lenN ((a.get t).toNat ^^^ (b.get t).toNat))) <;> cases (b.get t).toNat.testBit (7 - (8 - lenN ((a.get t).toNat ^^^ (b.get t).toNat))) <;> simp
theorem common_same {a b : Dig} (h : ∀ i, i < 32 → a.get i = b.get i) : IsCommon a b 256 :=
  ⟨Nat.le_refl _, fun i hi => by unfold Dig.bit; rw [h _ (by omega)], fun h => absurd h (Nat.lt_irrefl _)⟩

theorem xor_zero {u v : UInt8} (h : u ^^^ v = 0) : u = v := UInt8.xor_eq_zero_iff.1 h

/-! ### How many siblings -/
def mostStep (p : Dig) (s : Int × Int) (l : Leaf) : Int × Int := if s.1 < (common l.p p : Int) then ((common l.p p : Int), s.1) else (s.1, max s.2 (common l.p p : Int))
def mostL (p : Dig) (ls : List Leaf) : Int × Int := ls.foldl (mostStep p) (-1, -1)
theorem mostL_snoc (p : Dig) (ls : List Leaf) (l : Leaf) : mostL p (ls ++ [l]) = mostStep p (mostL p ls) l := by simp [mostL]
def cntL (p : Dig) (n : Nat) (ls : List Leaf) : Nat := (ls.filter fun l => decide (n ≤ common l.p p)).length
theorem cntL_snoc (p : Dig) (n : Nat) (ls : List Leaf) (l : Leaf) : cntL p n (ls ++ [l]) = cntL p n ls + if n ≤ common l.p p then 1 else 0 := by
  unfold cntL
  rw [List.filter_append, List.length_append]
  by_cases h : n ≤ common l.p p <;> simp [h]
theorem most_rev (p : Dig) : ∀ r : List Leaf, -1 ≤ (mostL p r.reverse).2 ∧ (mostL p r.reverse).2 ≤ (mostL p r.reverse).1 ∧ (mostL p r.reverse).1 ≤ 256 ∧ ∀ n : Nat, (1 ≤ cntL p n r.reverse ↔ (n : Int) ≤ (mostL p r.reverse).1) ∧ (2 ≤ cntL p n r.reverse ↔ (n : Int) ≤ (mostL p r.reverse).2)
  | [] => ⟨by simp [mostL], by simp [mostL], by simp [mostL], fun n => ⟨by simp [cntL, mostL]; omega, by simp [cntL, mostL]; omega⟩⟩
  | l :: r => by
    obtain ⟨h1, h2, h3, h4⟩ := most_rev p r
    rw [List.reverse_cons, mostL_snoc]
    have hc := (common_is l.p p).le
    generalize mostL p r.reverse = s at h1 h2 h3 h4 ⊢
    obtain ⟨m, x⟩ := s
    simp only at h1 h2 h3 h4 ⊢
    unfold mostStep
    simp only
    split
    · rename_i hlt
      refine ⟨by omega, by simp only; omega, by simp only; omega, fun n => ?_⟩
      obtain ⟨q1, q2⟩ := h4 n
      rw [cntL_snoc]
      simp only
      split <;> constructor <;> constructor <;> intro q <;> omega
    · rename_i hlt
      refine ⟨by simp only; omega, by simp only; omega, by simp only; omega, fun n => ?_⟩
      obtain ⟨q1, q2⟩ := h4 n
      rw [cntL_snoc]
      simp only
      split <;> constructor <;> constructor <;> intro q <;> omega
theorem most_all (p : Dig) (ls : List Leaf) : -1 ≤ (mostL p ls).2 ∧ (mostL p ls).2 ≤ (mostL p ls).1 ∧ (mostL p ls).1 ≤ 256 ∧ ∀ n : Nat, (1 ≤ cntL p n ls ↔ (n : Int) ≤ (mostL p ls).1) ∧ (2 ≤ cntL p n ls ↔ (n : Int) ≤ (mostL p ls).2) := by
  have := most_rev p ls.reverse
  rwa [List.reverse_reverse] at this
theorem same_near (p : Dig) (ls : List Leaf) (n : Nat) (hn : n < 256) : sameL p (ls.filter fun l => decide (n ≤ common l.p p)) n = ls.filter fun l => decide (n + 1 ≤ common l.p p) := by
  unfold sameL
  rw [List.filter_filter]
  congr 1
  funext l
  rw [Bool.eq_iff_iff]
  simp only [Bool.and_eq_true, beq_iff_eq, decide_eq_true_eq]
  rw [common_step l.p p n hn]
  exact And.comm
theorem goL_len (w : Int) (p : Dig) (ls : List Leaf) : ∀ k n : Nat, k + n = 257 → ((goL w p k (ls.filter fun l => decide (n ≤ common l.p p)) n).1.length : Int) = max 0 ((mostL p ls).2 + 1 - n)
  | 0, n, h => by
    have := most_all p ls
    simp only [goL, List.length_nil]
    omega
  | k + 1, n, h => by
    obtain ⟨h1, h2, h3, h4⟩ := most_all p ls
    obtain ⟨q1, q2⟩ := h4 n
    by_cases hc : (ls.filter fun l => decide (n ≤ common l.p p)).length ≤ 1
    · rw [goL_end hc]
      have : ¬ 2 ≤ cntL p n ls := by unfold cntL; omega
      rw [q2] at this
      simp only [List.length_nil]
      omega
    · have h2c : 2 ≤ cntL p n ls := by unfold cntL; omega
      have hx := q2.1 h2c
      rw [goL_step (by omega)]
      rcases Nat.lt_or_ge n 256 with hn | hn
      · have ih := goL_len w p ls k (n + 1) (by omega)
        rw [same_near p ls n hn]
        simp only [List.length_cons]
        omega
      · obtain rfl : k = 0 := by omega
        simp only [goL, List.length_cons, List.length_nil]
        omega
end Go.Vg
end
