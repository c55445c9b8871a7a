/- Digests and the plain words over them. Arrays of words whose length is known: as functions of the index. SHA-256 as the program reckons it, in plain functions. -/
import Derived.Test.YtcaffacganffjaaDoorM1

section
namespace Go.Vg
open Go

structure Dig where
  l : List UInt8
  h : l.length = 32
  deriving DecidableEq

theorem Dig.ext' {d e : Dig} (h : d.l = e.l) : d = e := by cases d; cases e; simp_all
def Dig.get (d : Dig) (i : Nat) : UInt8 := d.l.getD i 0
def digC (d : Dig) : List Value := (List.range 32).map fun i => v8 (d.get i)
abbrev dv (d : Dig) : Value := .agg (digC d).toArray
theorem digC_len (d : Dig) : (digC d).length = 32 := rfl

theorem digC_get (d : Dig) {i : Nat} (h : i < 32) : (digC d)[i]? = some (v8 (d.get i)) := by
  simp [digC, h]

def Dig.zero : Dig := ⟨List.replicate 32 0, by simp⟩

/-- Bytes as cells. -/
def byC (l : List UInt8) : List Value := l.map v8
theorem digC_by (d : Dig) : digC d = byC d.l := by
  apply List.ext_getElem?
  intro i
  by_cases h : i < 32
  · rw [digC_get d h]
    have h' : i < d.l.length := by rw [d.h]; exact h
    simp [byC, Dig.get, List.getD_eq_getElem?_getD, h']
  · rw [List.getElem?_eq_none (by rw [digC_len]; omega), List.getElem?_eq_none (by simp [byC, d.h]; omega)]

theorem v8_inj {a b : UInt8} (h : v8 a = v8 b) : a = b := by
  simp only [v8, Value.int.injEq, true_and, Int.natCast_inj, UInt8.toNat_inj] at h
  exact h
theorem byC_inj : ∀ {l m : List UInt8}, byC l = byC m → l = m
  | [], [], _ => rfl
  | [], _ :: _, h => by simp [byC] at h
  | _ :: _, [], h => by simp [byC] at h
  | a :: l, b :: m, h => by
    simp only [byC, List.map_cons, List.cons.injEq] at h
    rw [v8_inj h.1, byC_inj h.2]
theorem digC_inj {d e : Dig} (h : digC d = digC e) : d = e := Dig.ext' (byC_inj (by rw [← digC_by, ← digC_by, h]))

theorem Rd.dig {w : World} {b off : Nat} {d : Dig} (h : Rd w b off (digC d)) {i : Nat} (hi : i < 32) : Rd w b (off + i) [v8 (d.get i)] := by
  obtain ⟨c, T, fr, h1, h2⟩ := h
  refine ⟨c, T, fr, h1, fun j v hv => ?_⟩
  have : j = 0 ∧ v = v8 (d.get i) := by cases j <;> simp_all
  obtain ⟨rfl, rfl⟩ := this
  exact h2 i _ (digC_get d hi)

/-- The i-th bit, the highest of the first byte first. -/
def Dig.bit (d : Dig) (i : Nat) : Bool := (d.get (i / 8)).toNat.testBit (7 - i % 8)
theorem bit_and (u : UInt8) (k : Nat) (hk : k < 8) : decide ((u &&& UInt8.ofNat (2 ^ k)) ≠ 0) = u.toNat.testBit k := by
  have h2 : (UInt8.ofNat (2 ^ k)).toNat = 2 ^ k := by
    simp only [UInt8.toNat_ofNat']; exact Nat.mod_eq_of_lt (Nat.pow_lt_pow_right (by omega) hk)
  have e : ((u &&& UInt8.ofNat (2 ^ k)) ≠ 0) ↔ u.toNat.testBit k = true := by
    rw [ne_eq, ← UInt8.toNat_inj, UInt8.toNat_and, h2]
    constructor
    · intro h
      apply Decidable.byContradiction
      intro hb
      apply h
      apply Nat.eq_of_testBit_eq
      intro i
      rw [Nat.testBit_and, Nat.testBit_two_pow]
      by_cases hk : k = i
      · subst hk; simp at hb; simp [hb]
      · simp [hk]
    · intro h h0
      have := congrArg (fun z => Nat.testBit z k) h0
      simp [Nat.testBit_and, Nat.testBit_two_pow, h] at this
  cases hb : u.toNat.testBit k
  · rw [hb] at e; simp at e; simp [e]
  · rw [hb] at e; simp at e; simp [e]
end Go.Vg
end

section
namespace Go.Vg
open Go

def upd {α : Type} (f : Nat → α) (i : Nat) (x : α) : Nat → α := fun j => if j = i then x else f j
def arr32 (n : Nat) (f : Nat → UInt32) : List Value := (List.range n).map fun i => v32 (f i)
def arr8 (n : Nat) (f : Nat → UInt8) : List Value := (List.range n).map fun i => v8 (f i)
theorem arr32_len (n : Nat) (f : Nat → UInt32) : (arr32 n f).length = n := by simp [arr32]
theorem arr8_len (n : Nat) (f : Nat → UInt8) : (arr8 n f).length = n := by simp [arr8]
theorem arr32_get {n i : Nat} (f : Nat → UInt32) (h : i < n) : (arr32 n f)[i]? = some (v32 (f i)) := by simp [arr32, h]
theorem arr8_get {n i : Nat} (f : Nat → UInt8) (h : i < n) : (arr8 n f)[i]? = some (v8 (f i)) := by simp [arr8, h]
theorem arr32_congr {n : Nat} {f g : Nat → UInt32} (h : ∀ i, i < n → f i = g i) : arr32 n f = arr32 n g := by
  unfold arr32; exact List.map_congr_left fun i hi => by rw [h i (List.mem_range.1 hi)]
theorem arr8_congr {n : Nat} {f g : Nat → UInt8} (h : ∀ i, i < n → f i = g i) : arr8 n f = arr8 n g := by
  unfold arr8; exact List.map_congr_left fun i hi => by rw [h i (List.mem_range.1 hi)]
theorem digC_arr (d : Dig) : digC d = arr8 32 d.get := rfl
def Dig.of (f : Nat → UInt8) : Dig := ⟨(List.range 32).map f, by simp⟩
theorem Dig.of_get (f : Nat → UInt8) {i : Nat} (h : i < 32) : (Dig.of f).get i = f i := by simp [Dig.of, Dig.get, h]
theorem digC_of (f : Nat → UInt8) : digC (Dig.of f) = arr8 32 f := arr8_congr fun _ hi => Dig.of_get f hi

theorem Rd.at32 {w : World} {b off n : Nat} {f : Nat → UInt32} (h : Rd w b off (arr32 n f)) {i : Nat} (hi : i < n) : Rd w b (off + i) [v32 (f i)] := by
  obtain ⟨c, T, fr, h1, h2⟩ := h
  refine ⟨c, T, fr, h1, fun j v hv => ?_⟩
  have : j = 0 ∧ v = v32 (f i) := by cases j <;> simp_all
  obtain ⟨rfl, rfl⟩ := this
  exact h2 i _ (arr32_get f hi)
theorem Rd.at8 {w : World} {b off n : Nat} {f : Nat → UInt8} (h : Rd w b off (arr8 n f)) {i : Nat} (hi : i < n) : Rd w b (off + i) [v8 (f i)] := by
  obtain ⟨c, T, fr, h1, h2⟩ := h
  refine ⟨c, T, fr, h1, fun j v hv => ?_⟩
  have : j = 0 ∧ v = v8 (f i) := by cases j <;> simp_all
  obtain ⟨rfl, rfl⟩ := this
  exact h2 i _ (arr8_get f hi)

theorem lay_mid (pre mid post : List Value) (i : Nat) (vs : List Value) (h : i + vs.length ≤ mid.length) : lay (pre ++ (mid ++ post)) (pre.length + i) vs = pre ++ (lay mid i vs ++ post) := by
  unfold lay
  have e1 : (pre ++ (mid ++ post)).take (pre.length + i) = pre ++ mid.take i := by
    rw [List.take_append, List.take_of_length_le (by omega), Nat.add_sub_cancel_left, List.take_append, show i - mid.length = 0 from by omega]
    simp
  have e2 : (pre ++ (mid ++ post)).drop (pre.length + i + vs.length) = mid.drop (i + vs.length) ++ post := by
    rw [List.drop_append, List.drop_of_length_le (by omega), List.nil_append, show pre.length + i + vs.length - pre.length = i + vs.length from by omega, List.drop_append, show i + vs.length - mid.length = 0 from by omega]
    simp
  rw [e1, e2]
  simp
theorem lay_arr32 {n : Nat} (f : Nat → UInt32) {i : Nat} (x : UInt32) (h : i < n) : lay (arr32 n f) i [v32 x] = arr32 n (upd f i x) := by
  apply List.ext_getElem?
  intro j
  unfold lay
  have hl : ((arr32 n f).take i).length = i := by simp [arr32_len]; omega
  rw [List.append_assoc, List.getElem?_append, hl]
  by_cases h1 : j < i
  · rw [if_pos h1, List.getElem?_take_of_lt h1, arr32_get f (by omega), arr32_get _ (by omega)]
    simp [upd, show j ≠ i from by omega]
  · rw [if_neg h1]
    by_cases h2 : j = i
    · subst h2
      rw [arr32_get _ h]
      simp [upd]
    · rw [List.getElem?_append_right (by simp; omega), List.getElem?_drop]
      simp only [List.length_cons, List.length_nil]
      rw [show i + (0 + 1) + (j - i - (0 + 1)) = j from by omega]
      by_cases h3 : j < n
      · rw [arr32_get f h3, arr32_get _ h3]; simp [upd, h2]
      · rw [List.getElem?_eq_none (by rw [arr32_len]; omega), List.getElem?_eq_none (by rw [arr32_len]; omega)]
/-- Bytes laid over a row of bytes. -/
def over (f : Nat → UInt8) (i : Nat) (l : List UInt8) : Nat → UInt8 := fun j => if i ≤ j ∧ j < i + l.length then l.getD (j - i) 0 else f j
theorem lay_arr8 {n : Nat} (f : Nat → UInt8) {i : Nat} (l : List UInt8) (h : i + l.length ≤ n) : lay (arr8 n f) i (byC l) = arr8 n (over f i l) := by
  apply List.ext_getElem?
  intro j
  unfold lay
  have hl : ((arr8 n f).take i).length = i := by simp [arr8_len]; omega
  have hb : (byC l).length = l.length := by simp [byC]
  rw [List.append_assoc, List.getElem?_append, hl]
  by_cases h1 : j < i
  · rw [if_pos h1, List.getElem?_take_of_lt h1, arr8_get f (by omega), arr8_get _ (by omega)]
    simp [over, show ¬ i ≤ j from by omega]
  · rw [if_neg h1, List.getElem?_append, hb]
    by_cases h2 : j - i < l.length
    · rw [if_pos h2, arr8_get _ (by omega)]
      have : i ≤ j ∧ j < i + l.length := by omega
      simp [byC, over, this, List.getD_eq_getElem?_getD, h2]
    · rw [if_neg h2, List.getElem?_drop, show i + l.length + (j - i - l.length) = j from by omega]
      by_cases h3 : j < n
      · rw [arr8_get f h3, arr8_get _ h3]
        have : ¬ (i ≤ j ∧ j < i + l.length) := by omega
        simp [over, this]
      · rw [List.getElem?_eq_none (by rw [arr8_len]; omega), List.getElem?_eq_none (by rw [arr8_len]; omega)]
theorem over_one (f : Nat → UInt8) (i : Nat) (x : UInt8) : over f i [x] = upd f i x := by
  funext j
  unfold over upd
  by_cases h : j = i
  · subst h; simp
  · have : ¬ (i ≤ j ∧ j < i + [x].length) := by simp; omega
    rw [if_neg this, if_neg h]
theorem lay_arr8_one {n : Nat} (f : Nat → UInt8) {i : Nat} (x : UInt8) (h : i < n) : lay (arr8 n f) i [v8 x] = arr8 n (upd f i x) := by
  rw [← over_one]; exact lay_arr8 f [x] (by simp; omega)

theorem lay_at {c c' pre mid mid' post vs : List Value} {off i : Nat} (hc : c = pre ++ (mid ++ post)) (ho : off = pre.length + i) (hi : i + vs.length ≤ mid.length) (hm : lay mid i vs = mid') (hc' : c' = pre ++ (mid' ++ post)) : lay c off vs = c' := by
  rw [hc, ho, lay_mid pre mid post i vs hi, hm, hc']

/-- The i-th of some bytes that a slice begins with. -/
def SlB (w : World) (p : Option Addr) (len : Nat) (l : List UInt8) : Prop := l.length = len ∧ (0 < len → ∃ b off, p = some ⟨b, off, none⟩ ∧ Rd w b off (byC l))
theorem SlB.ext {w w' : World} {p : Option Addr} {len : Nat} {l : List UInt8} {cs : List Chunk} (h : SlB w p len l) (he : Loc [] w w' cs) : SlB w' p len l :=
  ⟨h.1, fun h0 => let ⟨b, off, hp, hr⟩ := h.2 h0; ⟨b, off, hp, hr.loc he (by simp)⟩⟩
theorem Rd.take {w : World} {b off : Nat} {cs : List Value} (h : Rd w b off cs) (k : Nat) : Rd w b off (cs.take k) := by
  obtain ⟨c, T, fr, h1, h2⟩ := h
  refine ⟨c, T, fr, h1, fun i v hv => h2 i v ?_⟩
  rw [List.getElem?_take] at hv
  split at hv
  · exact hv
  · cases hv
theorem Rd.drop {w : World} {b off : Nat} {cs : List Value} (h : Rd w b off cs) (k : Nat) : Rd w b (off + k) (cs.drop k) := by
  obtain ⟨c, T, fr, h1, h2⟩ := h
  refine ⟨c, T, fr, h1, fun i v hv => ?_⟩
  rw [List.getElem?_drop] at hv
  have := h2 _ v hv
  rwa [← Nat.add_assoc] at this
theorem Rd.byte {w : World} {b off : Nat} {l : List UInt8} (h : Rd w b off (byC l)) {i : Nat} (hi : i < l.length) : Rd w b (off + i) [v8 (l.getD i 0)] := by
  obtain ⟨c, T, fr, h1, h2⟩ := h
  refine ⟨c, T, fr, h1, fun j v hv => ?_⟩
  have : j = 0 ∧ v = v8 (l.getD i 0) := by cases j <;> simp_all
  obtain ⟨rfl, rfl⟩ := this
  exact h2 i _ (by simp [byC, List.getD_eq_getElem?_getD, hi])
end Go.Vg
end

section
namespace Go.Vg
open Go

def keyL : List UInt32 := [1116352408, 1899447441, 3049323471, 3921009573, 961987163, 1508970993, 2453635748, 2870763221, 3624381080, 310598401, 607225278, 1426881987, 1925078388, 2162078206, 2614888103, 3248222580, 3835390401, 4022224774, 264347078, 604807628, 770255983, 1249150122, 1555081692, 1996064986, 2554220882, 2821834349, 2952996808, 3210313671, 3336571891, 3584528711, 113926993, 338241895, 666307205, 773529912, 1294757372, 1396182291, 1695183700, 1986661051, 2177026350, 2456956037, 2730485921, 2820302411, 3259730800, 3345764771, 3516065817, 3600352804, 4094571909, 275423344, 430227734, 506948616, 659060556, 883997877, 958139571, 1322822218, 1537002063, 1747873779, 1955562222, 2024104815, 2227730452, 2361852424, 2428436474, 2756734187, 3204031479, 3329325298]
def keyF (i : Nat) : UInt32 := keyL.getD i 0
/-- The words k lie in the program's variable. -/
def KeysAt (w : World) : Prop := Rd w 0 0 (arr32 64 keyF)
theorem KeysAt.of {w w' : World} {M : List Nat} {cs : List Chunk} (h : KeysAt w) (he : Loc M w w' cs) (hm : 0 ∉ M) : KeysAt w' := Rd.loc h he hm
theorem KeysAt.ext {w w' : World} {cs : List Chunk} (h : KeysAt w) (he : Loc [] w w' cs) : KeysAt w' := h.of he (by simp)
theorem KeysAt.lt {w : World} (h : KeysAt w) : 0 < w.heap.size := Rd.lt h

/-- The words at first. -/
def ivL : List UInt32 := [1779033703, 3144134277, 1013904242, 2773480762, 1359893119, 2600822924, 528734635, 1541459225]
def ivF (i : Nat) : UInt32 := ivL.getD i 0
def rotl (x : UInt32) (s : Nat) : UInt32 := shl32 x s ||| shr32 x (32 - s)
def be32 (a b c d : UInt8) : UInt32 := shl32 a.toUInt32 24 ||| shl32 b.toUInt32 16 ||| shl32 c.toUInt32 8 ||| d.toUInt32
/-- The words of a block: those before t. -/
def sched (buf : Nat → UInt8) : Nat → Nat → UInt32
  | 0 => fun _ => 0
  | t + 1 =>
    let f := sched buf t
    upd f t (if t < 16 then be32 (buf (4 * t)) (buf (4 * t + 1)) (buf (4 * t + 2)) (buf (4 * t + 3))
      else f (t - 16) + (rotl (f (t - 15)) 25 ^^^ rotl (f (t - 15)) 14 ^^^ shr32 (f (t - 15)) 3) + f (t - 7) + (rotl (f (t - 2)) 15 ^^^ rotl (f (t - 2)) 13 ^^^ shr32 (f (t - 2)) 10))

theorem sched_lo (buf : Nat → UInt8) (t : Nat) (h : t < 16) : upd (sched buf t) t (be32 (buf (4 * t)) (buf (4 * t + 1)) (buf (4 * t + 2)) (buf (4 * t + 3))) = sched buf (t + 1) := by
  simp only [sched, if_pos h]
theorem sched_hi (buf : Nat → UInt8) (t : Nat) (h : ¬ t < 16) : upd (sched buf t) t (sched buf t (t - 16) + (rotl (sched buf t (t - 15)) 25 ^^^ rotl (sched buf t (t - 15)) 14 ^^^ shr32 (sched buf t (t - 15)) 3) + sched buf t (t - 7) + (rotl (sched buf t (t - 2)) 15 ^^^ rotl (sched buf t (t - 2)) 13 ^^^ shr32 (sched buf t (t - 2)) 10)) = sched buf (t + 1) := by
  simp only [sched, if_neg h]

structure W8 where
  (a b c d e f g k : UInt32)
def W8.round (s : W8) (key x : UInt32) : W8 :=
  let one := s.k + (rotl s.e 26 ^^^ rotl s.e 21 ^^^ rotl s.e 7) + (s.e &&& (s.f ^^^ s.g) ^^^ s.g) + key + x
  let two := (rotl s.a 30 ^^^ rotl s.a 19 ^^^ rotl s.a 10) + (s.a &&& s.b ||| s.c &&& (s.a ||| s.b))
  ⟨one + two, s.a, s.b, s.c, s.d + one, s.e, s.f, s.g⟩
def W8.of (h : Nat → UInt32) : W8 := ⟨h 0, h 1, h 2, h 3, h 4, h 5, h 6, h 7⟩
def rounds (h : Nat → UInt32) (x : Nat → UInt32) : Nat → W8
  | 0 => W8.of h
  | t + 1 => (rounds h x t).round (keyF t) (x t)
def W8.at (s : W8) (i : Nat) : UInt32 := match i with | 0 => s.a | 1 => s.b | 2 => s.c | 3 => s.d | 4 => s.e | 5 => s.f | 6 => s.g | _ => s.k
/-- The words behind a block. -/
def mixF (h : Nat → UInt32) (buf : Nat → UInt8) : Nat → UInt32 := fun i => if i < 8 then h i + (rounds h (sched buf 64) 64).at i else h i
/-- The words, those before t turned. -/
def mixTo (h : Nat → UInt32) (s : W8) (t : Nat) : Nat → UInt32 := fun i => if i < t then h i + s.at i else h i
theorem mixTo_succ (h : Nat → UInt32) (s : W8) (t : Nat) : mixTo h s (t + 1) = upd (mixTo h s t) t (mixTo h s t t + s.at t) := by
  funext i
  simp only [mixTo, upd]
  by_cases h1 : i = t
  · subst h1; simp
  · by_cases h2 : i < t
    · rw [if_pos (by omega), if_neg h1, if_pos h2]
    · rw [if_neg (by omega), if_neg h1, if_neg h2]
theorem mixTo_8 (h : Nat → UInt32) (buf : Nat → UInt8) : mixTo h (rounds h (sched buf 64) 64) 8 = mixF h buf := rfl
end Go.Vg
namespace Go.Vg
open Go
theorem sched_congr {buf buf' : Nat → UInt8} (h : ∀ j, j < 64 → buf j = buf' j) : ∀ t, t ≤ 64 → sched buf t = sched buf' t
  | 0, _ => rfl
  | t + 1, ht => by
    have ih := sched_congr h t (by omega)
    simp only [sched, ih]
    by_cases h16 : t < 16
    · rw [if_pos h16, if_pos h16, h _ (by omega), h _ (by omega), h _ (by omega), h _ (by omega)]
    · rw [if_neg h16, if_neg h16]
theorem mixF_congr {h : Nat → UInt32} {buf buf' : Nat → UInt8} (hb : ∀ j, j < 64 → buf j = buf' j) : mixF h buf = mixF h buf' := by
  unfold mixF; rw [sched_congr hb 64 (Nat.le_refl _)]
/-- The words behind the first k blocks of a message. -/
def wordsAt (m : List UInt8) : Nat → Nat → UInt32
  | 0 => ivF
  | k + 1 => mixF (wordsAt m k) (fun j => m.getD (64 * k + j) 0)
theorem wordsAt_append (m l : List UInt8) : ∀ k, 64 * k ≤ m.length → wordsAt (m ++ l) k = wordsAt m k
  | 0, _ => rfl
  | k + 1, hk => by
    unfold wordsAt
    rw [wordsAt_append m l k (by omega)]
    refine mixF_congr fun j hj => ?_
    simp only [List.getD_eq_getElem?_getD]
    rw [List.getElem?_append_left (by omega)]
/-- What a Hash holds of a message. -/
structure HOk (h : Nat → UInt32) (buf : Nat → UInt8) (m : List UInt8) : Prop where
  words : h = wordsAt m (m.length / 64)
  tail : ∀ j, j < m.length % 64 → buf j = m.getD (64 * (m.length / 64) + j) 0
theorem HOk.new : HOk ivF (fun _ => 0) [] := ⟨rfl, fun j hj => by simp at hj⟩
theorem over_get {f : Nat → UInt8} {i : Nat} {l : List UInt8} {j : Nat} (h : i ≤ j) (h' : j < i + l.length) : over f i l j = l.getD (j - i) 0 := by
  unfold over; rw [if_pos ⟨h, h'⟩]
theorem over_lt {f : Nat → UInt8} {i : Nat} {l : List UInt8} {j : Nat} (h : j < i) : over f i l j = f j := by
  unfold over; rw [if_neg (by omega)]
theorem getD_append_left {m l : List UInt8} {j : Nat} (h : j < m.length) : (m ++ l).getD j 0 = m.getD j 0 := by
  simp only [List.getD_eq_getElem?_getD]; rw [List.getElem?_append_left h]
theorem getD_append_right {m l : List UInt8} {j : Nat} (h : m.length ≤ j) : (m ++ l).getD j 0 = l.getD (j - m.length) 0 := by
  simp only [List.getD_eq_getElem?_getD]; rw [List.getElem?_append_right h]
theorem HOk.tail' {h : Nat → UInt32} {buf : Nat → UInt8} {m l : List UInt8} (hk : HOk h buf m) (hl : l.length ≤ 64 - m.length % 64) :
    ∀ j, j < m.length % 64 + l.length → over buf (m.length % 64) l j = (m ++ l).getD (64 * (m.length / 64) + j) 0 := by
  intro j hj
  by_cases h1 : j < m.length % 64
  · rw [over_lt h1, hk.tail j h1, getD_append_left (by omega)]
  · rw [over_get (by omega) hj, getD_append_right (by omega)]
    congr 1
    omega
theorem HOk.more {h : Nat → UInt32} {buf : Nat → UInt8} {m l : List UInt8} (hk : HOk h buf m) (hl : l.length ≤ 64 - m.length % 64) (h0 : (m.length + l.length) % 64 ≠ 0) : HOk h (over buf (m.length % 64) l) (m ++ l) := by
  have e : (m ++ l).length / 64 = m.length / 64 := by rw [List.length_append]; omega
  have e' : (m ++ l).length % 64 = m.length % 64 + l.length := by rw [List.length_append]; omega
  refine ⟨?_, ?_⟩
  · rw [e, wordsAt_append _ _ _ (by omega)]; exact hk.words
  · rw [e, e']; exact hk.tail' hl
theorem HOk.full {h : Nat → UInt32} {buf : Nat → UInt8} {m l : List UInt8} (hk : HOk h buf m) (hl : l.length ≤ 64 - m.length % 64) (hp : 0 < l.length) (h0 : (m.length + l.length) % 64 = 0) :
    HOk (mixF h (over buf (m.length % 64) l)) (over buf (m.length % 64) l) (m ++ l) := by
  have e : (m ++ l).length / 64 = m.length / 64 + 1 := by rw [List.length_append]; omega
  have e' : (m ++ l).length % 64 = 0 := by rw [List.length_append]; exact h0
  have hsum : m.length % 64 + l.length = 64 := by omega
  refine ⟨?_, fun j hj => by omega⟩
  rw [e]
  unfold wordsAt
  rw [wordsAt_append _ _ _ (by omega), ← hk.words]
  exact mixF_congr fun j hj => hk.tail' hl j (by omega)
/-- The digest that the words make. -/
def digOf (h : Nat → UInt32) : Dig := Dig.of fun i => (shr32 (h (i / 4)) (24 - 8 * (i % 4))).toUInt8
/-- What comes behind a message of n bytes, but for the first byte 128. -/
def padLen (n : Nat) : Nat := (120 - (n + 1) % 64) % 64
def lenBytes (n : Nat) : List UInt8 := (List.range 8).map fun i => (shr64 (UInt64.ofNat n * 8) (56 - 8 * i)).toUInt8
def padded (m : List UInt8) : List UInt8 := m ++ [128] ++ (List.replicate (padLen m.length) 0 ++ lenBytes m.length)
/-- The program's SHA-256. -/
def sha (m : List UInt8) : Dig := digOf (wordsAt (padded m) ((padded m).length / 64))
end Go.Vg
namespace Go.Vg
open Go
def lenByte (n i : Nat) : UInt8 := (shr64 (UInt64.ofNat n * 8) (56 - 8 * i)).toUInt8
def tailTo (n t : Nat) : Nat → UInt8 := fun j => if padLen n ≤ j ∧ j < padLen n + t then lenByte n (j - padLen n) else 0
theorem tailTo_zero (n : Nat) : tailTo n 0 = fun _ => 0 := by
  funext j; unfold tailTo; rw [if_neg (by omega)]
theorem tailTo_succ (n t : Nat) : tailTo n (t + 1) = upd (tailTo n t) (padLen n + t) (lenByte n t) := by
  funext j
  simp only [tailTo, upd]
  by_cases h : j = padLen n + t
  · subst h; rw [if_pos (by omega), if_pos rfl]; congr 1; omega
  · rw [if_neg h]
    by_cases h2 : padLen n ≤ j ∧ j < padLen n + t
    · rw [if_pos h2, if_pos (by omega)]
    · rw [if_neg h2, if_neg (by omega)]
theorem padLen_lt (n : Nat) : padLen n < 64 := Nat.mod_lt _ (by omega)
theorem tail_list (n : Nat) : (List.range (padLen n + 8)).map (tailTo n 8) = List.replicate (padLen n) 0 ++ lenBytes n := by
  apply List.ext_getElem?
  intro j
  rw [List.getElem?_map, List.getElem?_append, List.length_replicate]
  by_cases h : j < padLen n
  · rw [if_pos h, List.getElem?_replicate, if_pos h, List.getElem?_range (by omega)]
    simp [tailTo, show ¬ padLen n ≤ j from by omega]
  · rw [if_neg h]
    by_cases h2 : j < padLen n + 8
    · rw [List.getElem?_range h2]
      have h3 : padLen n ≤ j ∧ j < padLen n + 8 := by omega
      simp only [Option.map_some, tailTo, if_pos h3, lenBytes, List.getElem?_map]
      rw [List.getElem?_range (by omega)]
      rfl
    · rw [List.getElem?_eq_none (by simp; omega), List.getElem?_eq_none (by simp [lenBytes]; omega)]
      rfl
def digTo (h : Nat → UInt32) (t : Nat) : Nat → UInt8 := fun i => if i < t then (shr32 (h (i / 4)) (24 - 8 * (i % 4))).toUInt8 else 0
theorem digTo_zero (h : Nat → UInt32) : digC Dig.zero = arr8 32 (digTo h 0) := by
  refine arr8_congr fun i hi => ?_
  have e : Dig.zero.get i = 0 := by
    show (List.replicate 32 (0 : UInt8)).getD i 0 = 0
    rw [List.getD_eq_getElem?_getD, List.getElem?_replicate]
    split <;> rfl
  rw [e]
  simp [digTo]
theorem digTo_succ (h : Nat → UInt32) (t : Nat) : digTo h (t + 1) = upd (digTo h t) t (shr32 (h (t / 4)) (24 - 8 * (t % 4))).toUInt8 := by
  funext j
  simp only [digTo, upd]
  by_cases h1 : j = t
  · subst h1; rw [if_pos (by omega), if_pos rfl]
  · rw [if_neg h1]
    by_cases h2 : j < t
    · rw [if_pos h2, if_pos (by omega)]
    · rw [if_neg h2, if_neg (by omega)]
theorem digTo_all (h : Nat → UInt32) : arr8 32 (digTo h 32) = digC (digOf h) := by
  unfold digOf
  rw [digC_of]
  exact arr8_congr fun i hi => by simp [digTo, hi]
theorem Rd.prefix8 {w : World} {b off N k : Nat} {f : Nat → UInt8} (h : Rd w b off (arr8 N f)) (hk : k ≤ N) : Rd w b off (byC ((List.range k).map f)) := by
  have h1 := h.take k
  have e : (arr8 N f).take k = byC ((List.range k).map f) := by
    unfold arr8 byC
    rw [← List.map_take, List.map_map, List.take_range, Nat.min_eq_left hk]
    rfl
  rwa [e] at h1
theorem Loc.ne {M : List Nat} {w0 w : World} {cs : List Chunk} (h : Vg.Loc M w0 w cs) (i j : Nat) (hij : i < j) {b b' : Nat} {o o' : Obj} (hi : cs[i]? = some [(b, o)]) (hj : cs[j]? = some [(b', o')]) : b ≠ b' := by
  intro e
  subst e
  have hnd := h.nd
  obtain ⟨hjl, hjg⟩ := List.getElem?_eq_some_iff.1 hj
  obtain ⟨hil, hig⟩ := List.getElem?_eq_some_iff.1 hi
  have h1 : cs = cs.take j ++ cs.drop j := (List.take_append_drop j cs).symm
  rw [h1] at hnd
  simp only [keys, List.flatten_append, List.map_append] at hnd
  rw [List.nodup_append] at hnd
  refine hnd.2.2 b ?_ b ?_ rfl
  · refine List.mem_map.2 ⟨(b, o), List.mem_flatten.2 ⟨[(b, o)], ?_, by simp⟩, rfl⟩
    exact List.mem_of_getElem? (i := i) (by rw [List.getElem?_take_of_lt hij]; exact hi)
  · refine List.mem_map.2 ⟨(b, o'), List.mem_flatten.2 ⟨[(b, o')], ?_, by simp⟩, rfl⟩
    exact List.mem_of_getElem? (i := 0) (by rw [List.getElem?_drop]; exact hj)
end Go.Vg
end
