/- Arrays of words whose length is known: as functions of the index. -/
import Derived.Test.YtcaffacganffjaaDoorVDig
namespace Go.Vg
open Go

def upd {α : Type} (f : Nat → α) (i : Nat) (x : α) : Nat → α := fun j => if j = i then x else f j
def arr32 (n : Nat) (f : Nat → UInt32) : List Value := (List.range n).map fun i => v32 (f i)
def arr8 (n : Nat) (f : Nat → UInt8) : List Value := (List.range n).map fun i => v8 (f i)
theorem arr32_len (n : Nat) (f : Nat → UInt32) : (arr32 n f).length = n := by simp [arr32]
theorem arr8_len (n : Nat) (f : Nat → UInt8) : (arr8 n f).length = n := by simp [arr8]
theorem arr32_get {n i : Nat} (f : Nat → UInt32) (h : i < n) : (arr32 n f)[i]? = some (v32 (f i)) := by simp [arr32, h]
theorem arr8_get {n i : Nat} (f : Nat → UInt8) (h : i < n) : (arr8 n f)[i]? = some (v8 (f i)) := by simp [arr8, h]
theorem arr32_congr {n : Nat} {f g : Nat → UInt32} (h : ∀ i, i < n → f i = g i) : arr32 n f = arr32 n g := by
  unfold arr32; exact List.map_congr_left fun i hi => by rw [h i (List.mem_range.1 hi)]
theorem arr8_congr {n : Nat} {f g : Nat → UInt8} (h : ∀ i, i < n → f i = g i) : arr8 n f = arr8 n g := by
  unfold arr8; exact List.map_congr_left fun i hi => by rw [h i (List.mem_range.1 hi)]
theorem digC_arr (d : Dig) : digC d = arr8 32 d.get := rfl
def Dig.of (f : Nat → UInt8) : Dig := ⟨(List.range 32).map f, by simp⟩
theorem Dig.of_get (f : Nat → UInt8) {i : Nat} (h : i < 32) : (Dig.of f).get i = f i := by simp [Dig.of, Dig.get, h]
theorem digC_of (f : Nat → UInt8) : digC (Dig.of f) = arr8 32 f := arr8_congr fun _ hi => Dig.of_get f hi

theorem Rd.at32 {w : World} {b off n : Nat} {f : Nat → UInt32} (h : Rd w b off (arr32 n f)) {i : Nat} (hi : i < n) : Rd w b (off + i) [v32 (f i)] := by
  obtain ⟨c, T, fr, h1, h2⟩ := h
  refine ⟨c, T, fr, h1, fun j v hv => ?_⟩
  have : j = 0 ∧ v = v32 (f i) := by cases j <;> simp_all
  obtain ⟨rfl, rfl⟩ := this
  exact h2 i _ (arr32_get f hi)
theorem Rd.at8 {w : World} {b off n : Nat} {f : Nat → UInt8} (h : Rd w b off (arr8 n f)) {i : Nat} (hi : i < n) : Rd w b (off + i) [v8 (f i)] := by
  obtain ⟨c, T, fr, h1, h2⟩ := h
  refine ⟨c, T, fr, h1, fun j v hv => ?_⟩
  have : j = 0 ∧ v = v8 (f i) := by cases j <;> simp_all
  obtain ⟨rfl, rfl⟩ := this
  exact h2 i _ (arr8_get f hi)

theorem lay_mid (pre mid post : List Value) (i : Nat) (vs : List Value) (h : i + vs.length ≤ mid.length) : lay (pre ++ (mid ++ post)) (pre.length + i) vs = pre ++ (lay mid i vs ++ post) := by
  unfold lay
  have e1 : (pre ++ (mid ++ post)).take (pre.length + i) = pre ++ mid.take i := by
    rw [List.take_append, List.take_of_length_le (by omega), Nat.add_sub_cancel_left, List.take_append, show i - mid.length = 0 from by omega]
    simp
  have e2 : (pre ++ (mid ++ post)).drop (pre.length + i + vs.length) = mid.drop (i + vs.length) ++ post := by
    rw [List.drop_append, List.drop_of_length_le (by omega), List.nil_append, show pre.length + i + vs.length - pre.length = i + vs.length from by omega, List.drop_append, show i + vs.length - mid.length = 0 from by omega]
    simp
  rw [e1, e2]
  simp
theorem lay_arr32 {n : Nat} (f : Nat → UInt32) {i : Nat} (x : UInt32) (h : i < n) : lay (arr32 n f) i [v32 x] = arr32 n (upd f i x) := by
  apply List.ext_getElem?
  intro j
  unfold lay
  have hl : ((arr32 n f).take i).length = i := by simp [arr32_len]; omega
  rw [List.append_assoc, List.getElem?_append, hl]
  by_cases h1 : j < i
  · rw [if_pos h1, List.getElem?_take_of_lt h1, arr32_get f (by omega), arr32_get _ (by omega)]
    simp [upd, show j ≠ i from by omega]
  · rw [if_neg h1]
    by_cases h2 : j = i
    · subst h2
      rw [arr32_get _ h]
      simp [upd]
    · rw [List.getElem?_append_right (by simp; omega), List.getElem?_drop]
      simp only [List.length_cons, List.length_nil]
      rw [show i + (0 + 1) + (j - i - (0 + 1)) = j from by omega]
      by_cases h3 : j < n
      · rw [arr32_get f h3, arr32_get _ h3]; simp [upd, h2]
      · rw [List.getElem?_eq_none (by rw [arr32_len]; omega), List.getElem?_eq_none (by rw [arr32_len]; omega)]
/-- Bytes laid over a row of bytes. -/
def over (f : Nat → UInt8) (i : Nat) (l : List UInt8) : Nat → UInt8 := fun j => if i ≤ j ∧ j < i + l.length then l.getD (j - i) 0 else f j
theorem lay_arr8 {n : Nat} (f : Nat → UInt8) {i : Nat} (l : List UInt8) (h : i + l.length ≤ n) : lay (arr8 n f) i (byC l) = arr8 n (over f i l) := by
  apply List.ext_getElem?
  intro j
  unfold lay
  have hl : ((arr8 n f).take i).length = i := by simp [arr8_len]; omega
  have hb : (byC l).length = l.length := by simp [byC]
  rw [List.append_assoc, List.getElem?_append, hl]
  by_cases h1 : j < i
  · rw [if_pos h1, List.getElem?_take_of_lt h1, arr8_get f (by omega), arr8_get _ (by omega)]
    simp [over, show ¬ i ≤ j from by omega]
  · rw [if_neg h1, List.getElem?_append, hb]
    by_cases h2 : j - i < l.length
    · rw [if_pos h2, arr8_get _ (by omega)]
      have : i ≤ j ∧ j < i + l.length := by omega
      simp [byC, over, this, List.getD_eq_getElem?_getD, h2]
    · rw [if_neg h2, List.getElem?_drop, show i + l.length + (j - i - l.length) = j from by omega]
      by_cases h3 : j < n
      · rw [arr8_get f h3, arr8_get _ h3]
        have : ¬ (i ≤ j ∧ j < i + l.length) := by omega
        simp [over, this]
      · rw [List.getElem?_eq_none (by rw [arr8_len]; omega), List.getElem?_eq_none (by rw [arr8_len]; omega)]
theorem over_one (f : Nat → UInt8) (i : Nat) (x : UInt8) : over f i [x] = upd f i x := by
  funext j
  unfold over upd
  by_cases h : j = i
  · subst h; simp
  · have : ¬ (i ≤ j ∧ j < i + [x].length) := by simp; omega
    rw [if_neg this, if_neg h]
theorem lay_arr8_one {n : Nat} (f : Nat → UInt8) {i : Nat} (x : UInt8) (h : i < n) : lay (arr8 n f) i [v8 x] = arr8 n (upd f i x) := by
  rw [← over_one]; exact lay_arr8 f [x] (by simp; omega)

theorem lay_at {c c' pre mid mid' post vs : List Value} {off i : Nat} (hc : c = pre ++ (mid ++ post)) (ho : off = pre.length + i) (hi : i + vs.length ≤ mid.length) (hm : lay mid i vs = mid') (hc' : c' = pre ++ (mid' ++ post)) : lay c off vs = c' := by
  rw [hc, ho, lay_mid pre mid post i vs hi, hm, hc']

/-- The i-th of some bytes that a slice begins with. -/
def SlB (w : World) (p : Option Addr) (len : Nat) (l : List UInt8) : Prop := l.length = len ∧ (0 < len → ∃ b off, p = some ⟨b, off, none⟩ ∧ Rd w b off (byC l))
theorem SlB.ext {w w' : World} {p : Option Addr} {len : Nat} {l : List UInt8} {cs : List Chunk} (h : SlB w p len l) (he : Loc [] w w' cs) : SlB w' p len l :=
  ⟨h.1, fun h0 => let ⟨b, off, hp, hr⟩ := h.2 h0; ⟨b, off, hp, hr.loc he (by simp)⟩⟩
theorem Rd.take {w : World} {b off : Nat} {cs : List Value} (h : Rd w b off cs) (k : Nat) : Rd w b off (cs.take k) := by
  obtain ⟨c, T, fr, h1, h2⟩ := h
  refine ⟨c, T, fr, h1, fun i v hv => h2 i v ?_⟩
  rw [List.getElem?_take] at hv
  split at hv
  · exact hv
  · cases hv
theorem Rd.drop {w : World} {b off : Nat} {cs : List Value} (h : Rd w b off cs) (k : Nat) : Rd w b (off + k) (cs.drop k) := by
  obtain ⟨c, T, fr, h1, h2⟩ := h
  refine ⟨c, T, fr, h1, fun i v hv => ?_⟩
  rw [List.getElem?_drop] at hv
  have := h2 _ v hv
  rwa [← Nat.add_assoc] at this
theorem Rd.byte {w : World} {b off : Nat} {l : List UInt8} (h : Rd w b off (byC l)) {i : Nat} (hi : i < l.length) : Rd w b (off + i) [v8 (l.getD i 0)] := by
  obtain ⟨c, T, fr, h1, h2⟩ := h
  refine ⟨c, T, fr, h1, fun j v hv => ?_⟩
  have : j = 0 ∧ v = v8 (l.getD i 0) := by cases j <;> simp_all
  obtain ⟨rfl, rfl⟩ := this
  exact h2 i _ (by simp [byC, List.getD_eq_getElem?_getD, hi])
end Go.Vg
