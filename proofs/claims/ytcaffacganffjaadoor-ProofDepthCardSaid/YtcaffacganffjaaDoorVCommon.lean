/- How far two paths go along; what 'Len8' reads. -/
import Derived.Test.YtcaffacganffjaaDoorVMake
namespace Go.Vg
open Go

def lenTab : ByteArray := ⟨#[0, 1, 2, 2, 3, 3, 3, 3, 4, 4, 4, 4, 4, 4, 4, 4, 5, 5, 5, 5, 5, 5, 5, 5, 5, 5, 5, 5, 5, 5, 5, 5, 6, 6, 6, 6, 6, 6, 6, 6, 6, 6, 6, 6, 6, 6, 6, 6, 6, 6, 6, 6, 6, 6, 6, 6, 6, 6, 6, 6, 6, 6, 6, 6, 7, 7, 7, 7, 7, 7, 7, 7, 7, 7, 7, 7, 7, 7, 7, 7, 7, 7, 7, 7, 7, 7, 7, 7, 7, 7, 7, 7, 7, 7, 7, 7, 7, 7, 7, 7, 7, 7, 7, 7, 7, 7, 7, 7, 7, 7, 7, 7, 7, 7, 7, 7, 7, 7, 7, 7, 7, 7, 7, 7, 7, 7, 7, 7, 8, 8, 8, 8, 8, 8, 8, 8, 8, 8, 8, 8, 8, 8, 8, 8, 8, 8, 8, 8, 8, 8, 8, 8, 8, 8, 8, 8, 8, 8, 8, 8, 8, 8, 8, 8, 8, 8, 8, 8, 8, 8, 8, 8, 8, 8, 8, 8, 8, 8, 8, 8, 8, 8, 8, 8, 8, 8, 8, 8, 8, 8, 8, 8, 8, 8, 8, 8, 8, 8, 8, 8, 8, 8, 8, 8, 8, 8, 8, 8, 8, 8, 8, 8, 8, 8, 8, 8, 8, 8, 8, 8, 8, 8, 8, 8, 8, 8, 8, 8, 8, 8, 8, 8, 8, 8, 8, 8, 8, 8, 8, 8, 8, 8, 8, 8, 8, 8, 8, 8, 8, 8, 8, 8, 8, 8, 8, 8]⟩
def lenN (n : Nat) : Nat := if n = 0 then 0 else if n < 2 then 1 else if n < 4 then 2 else if n < 8 then 3 else if n < 16 then 4 else if n < 32 then 5 else if n < 64 then 6 else if n < 128 then 7 else 8
theorem lenTab_all : ∀ n : Fin 256, lenTab[n.val]? = some (UInt8.ofNat (lenN n.val)) := by decide +kernel
theorem lenTab_get (x : UInt8) : lenTab[x.toNat]? = some (UInt8.ofNat (lenN x.toNat)) := lenTab_all ⟨x.toNat, x.toNat_lt⟩
theorem lenN_le (n : Nat) : lenN n ≤ 8 := by unfold lenN; (repeat' split) <;> omega
theorem lenN_cast (n : Nat) : (UInt8.ofNat (lenN n)).toNat = lenN n := by
  have := lenN_le n
  simp only [UInt8.toNat_ofNat']
  omega
theorem lenN_all : ∀ n : Fin 256, n.val ≠ 0 → 1 ≤ lenN n.val ∧ (∀ j : Fin 8, j.val < 8 - lenN n.val → n.val.testBit (7 - j.val) = false) ∧ n.val.testBit (7 - (8 - lenN n.val)) = true := by decide +kernel

/-- Two paths go along just so far. -/
structure IsCommon (a b : Dig) (c : Nat) : Prop where
  le : c ≤ 256
  eq : ∀ i, i < c → a.bit i = b.bit i
  ne : c < 256 → a.bit c ≠ b.bit c
def common (a b : Dig) : Nat := ((List.range 256).find? fun i => a.bit i != b.bit i).getD 256
theorem IsCommon.is {a b : Dig} {c : Nat} (h : IsCommon a b c) : common a b = c := by
  unfold common
  by_cases hc : c < 256
  · have : (List.range 256).find? (fun i => a.bit i != b.bit i) = some c := by
      rw [List.find?_range_eq_some]
      refine ⟨by simpa using h.ne hc, by simpa using hc, fun j hj => by simpa using h.eq j hj⟩
    rw [this]; rfl
  · have hc' : c = 256 := by have := h.le; omega
    have : (List.range 256).find? (fun i => a.bit i != b.bit i) = none := by
      rw [List.find?_eq_none]
      intro i hi
      have := h.eq i (by have := List.mem_range.1 hi; omega)
      simpa using this
    rw [this, hc']; rfl
theorem common_is (a b : Dig) : IsCommon a b (common a b) := by
  unfold common
  cases hf : (List.range 256).find? (fun i => a.bit i != b.bit i) with
  | none =>
    rw [List.find?_eq_none] at hf
    exact ⟨Nat.le_refl _, fun i hi => by simpa using hf i (List.mem_range.2 hi), fun h => absurd h (Nat.lt_irrefl _)⟩
  | some c =>
    rw [List.find?_range_eq_some] at hf
    obtain ⟨h1, h2, h3⟩ := hf
    have h2' : c < 256 := by simpa using h2
    exact ⟨Nat.le_of_lt h2', fun i hi => by simpa using h3 i hi, fun _ => by simpa using h1⟩
theorem common_step (a b : Dig) (n : Nat) (hn : n < 256) : n + 1 ≤ common a b ↔ n ≤ common a b ∧ a.bit n = b.bit n := by
  have h := common_is a b
  constructor
  · intro h1; exact ⟨by omega, h.eq n (by omega)⟩
  · rintro ⟨h1, h2⟩
    rcases Nat.eq_or_lt_of_le h1 with q | q
    · exact absurd h2 (q ▸ h.ne (by omega))
    · omega

/-- The first byte that is not the same tells. -/
theorem common_byte {a b : Dig} {t : Nat} (ht : t < 32) (h : ∀ i, i < t → a.get i = b.get i) (hne : a.get t ^^^ b.get t ≠ 0) : IsCommon a b (8 * t + (8 - lenN (a.get t ^^^ b.get t).toNat)) ∧ 1 ≤ lenN (a.get t ^^^ b.get t).toNat := by
  have hx : (a.get t ^^^ b.get t).toNat ≠ 0 := fun e => hne (UInt8.toNat_inj.1 (by simpa using e))
  obtain ⟨h1, h2, h3⟩ := lenN_all ⟨_, (a.get t ^^^ b.get t).toNat_lt⟩ hx
  simp only [UInt8.toNat_xor, Nat.testBit_xor] at h1 h2 h3 ⊢
  have hl := lenN_le ((a.get t).toNat ^^^ (b.get t).toNat)
  refine ⟨⟨by omega, fun i hi => ?_, fun _ => ?_⟩, h1⟩
  · unfold Dig.bit
    by_cases hit : i / 8 < t
    · rw [h _ hit]
    · have e : i / 8 = t := by omega
      have := h2 ⟨i % 8, by omega⟩ (by simp only; omega)
      rw [e]
      revert this
      cases (a.get t).toNat.testBit (7 - i % 8) <;> cases (b.get t).toNat.testBit (7 - i % 8) <;> simp
  · unfold Dig.bit
    have e : (8 * t + (8 - lenN ((a.get t).toNat ^^^ (b.get t).toNat))) / 8 = t := by omega
    have e2 : (8 * t + (8 - lenN ((a.get t).toNat ^^^ (b.get t).toNat))) % 8 = 8 - lenN ((a.get t).toNat ^^^ (b.get t).toNat) := by omega
    rw [e, e2]
    revert h3
    cases (a.get t).toNat.testBit (7 - (8 - lenN ((a.get t).toNat ^^^ (b.get t).toNat))) <;> cases (b.get t).toNat.testBit (7 - (8 - lenN ((a.get t).toNat ^^^ (b.get t).toNat))) <;> simp
theorem common_same {a b : Dig} (h : ∀ i, i < 32 → a.get i = b.get i) : IsCommon a b 256 :=
  ⟨Nat.le_refl _, fun i hi => by unfold Dig.bit; rw [h _ (by omega)], fun h => absurd h (Nat.lt_irrefl _)⟩

theorem xor_zero {u v : UInt8} (h : u ^^^ v = 0) : u = v := UInt8.xor_eq_zero_iff.1 h

/-! ### How many siblings -/
def mostStep (p : Dig) (s : Int × Int) (l : Leaf) : Int × Int := if s.1 < (common l.p p : Int) then ((common l.p p : Int), s.1) else (s.1, max s.2 (common l.p p : Int))
def mostL (p : Dig) (ls : List Leaf) : Int × Int := ls.foldl (mostStep p) (-1, -1)
theorem mostL_snoc (p : Dig) (ls : List Leaf) (l : Leaf) : mostL p (ls ++ [l]) = mostStep p (mostL p ls) l := by simp [mostL]
def cntL (p : Dig) (n : Nat) (ls : List Leaf) : Nat := (ls.filter fun l => decide (n ≤ common l.p p)).length
theorem cntL_snoc (p : Dig) (n : Nat) (ls : List Leaf) (l : Leaf) : cntL p n (ls ++ [l]) = cntL p n ls + if n ≤ common l.p p then 1 else 0 := by
  unfold cntL
  rw [List.filter_append, List.length_append]
  by_cases h : n ≤ common l.p p <;> simp [h]
theorem most_rev (p : Dig) : ∀ r : List Leaf, -1 ≤ (mostL p r.reverse).2 ∧ (mostL p r.reverse).2 ≤ (mostL p r.reverse).1 ∧ (mostL p r.reverse).1 ≤ 256 ∧ ∀ n : Nat, (1 ≤ cntL p n r.reverse ↔ (n : Int) ≤ (mostL p r.reverse).1) ∧ (2 ≤ cntL p n r.reverse ↔ (n : Int) ≤ (mostL p r.reverse).2)
  | [] => ⟨by simp [mostL], by simp [mostL], by simp [mostL], fun n => ⟨by simp [cntL, mostL]; omega, by simp [cntL, mostL]; omega⟩⟩
  | l :: r => by
    obtain ⟨h1, h2, h3, h4⟩ := most_rev p r
    rw [List.reverse_cons, mostL_snoc]
    have hc := (common_is l.p p).le
    generalize mostL p r.reverse = s at h1 h2 h3 h4 ⊢
    obtain ⟨m, x⟩ := s
    simp only at h1 h2 h3 h4 ⊢
    unfold mostStep
    simp only
    split
    · rename_i hlt
      refine ⟨by omega, by simp only; omega, by simp only; omega, fun n => ?_⟩
      obtain ⟨q1, q2⟩ := h4 n
      rw [cntL_snoc]
      simp only
      split <;> constructor <;> constructor <;> intro q <;> omega
    · rename_i hlt
      refine ⟨by simp only; omega, by simp only; omega, by simp only; omega, fun n => ?_⟩
      obtain ⟨q1, q2⟩ := h4 n
      rw [cntL_snoc]
      simp only
      split <;> constructor <;> constructor <;> intro q <;> omega
theorem most_all (p : Dig) (ls : List Leaf) : -1 ≤ (mostL p ls).2 ∧ (mostL p ls).2 ≤ (mostL p ls).1 ∧ (mostL p ls).1 ≤ 256 ∧ ∀ n : Nat, (1 ≤ cntL p n ls ↔ (n : Int) ≤ (mostL p ls).1) ∧ (2 ≤ cntL p n ls ↔ (n : Int) ≤ (mostL p ls).2) := by
  have := most_rev p ls.reverse
  rwa [List.reverse_reverse] at this
theorem same_near (p : Dig) (ls : List Leaf) (n : Nat) (hn : n < 256) : sameL p (ls.filter fun l => decide (n ≤ common l.p p)) n = ls.filter fun l => decide (n + 1 ≤ common l.p p) := by
  unfold sameL
  rw [List.filter_filter]
  congr 1
  funext l
  rw [Bool.eq_iff_iff]
  simp only [Bool.and_eq_true, beq_iff_eq, decide_eq_true_eq]
  rw [common_step l.p p n hn]
  exact And.comm
theorem goL_len (w : Int) (p : Dig) (ls : List Leaf) : ∀ k n : Nat, k + n = 257 → ((goL w p k (ls.filter fun l => decide (n ≤ common l.p p)) n).1.length : Int) = max 0 ((mostL p ls).2 + 1 - n)
  | 0, n, h => by
    have := most_all p ls
    simp only [goL, List.length_nil]
    omega
  | k + 1, n, h => by
    obtain ⟨h1, h2, h3, h4⟩ := most_all p ls
    obtain ⟨q1, q2⟩ := h4 n
    by_cases hc : (ls.filter fun l => decide (n ≤ common l.p p)).length ≤ 1
    · rw [goL_end hc]
      have : ¬ 2 ≤ cntL p n ls := by unfold cntL; omega
      rw [q2] at this
      simp only [List.length_nil]
      omega
    · have h2c : 2 ≤ cntL p n ls := by unfold cntL; omega
      have hx := q2.1 h2c
      rw [goL_step (by omega)]
      rcases Nat.lt_or_ge n 256 with hn | hn
      · have ih := goL_len w p ls k (n + 1) (by omega)
        rw [same_near p ls n hn]
        simp only [List.length_cons]
        omega
      · obtain rfl : k = 0 := by omega
        simp only [goL, List.length_cons, List.length_nil]
        omega
end Go.Vg
