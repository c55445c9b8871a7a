/- Slicing, copying. -/
import Derived.Test.YtcaffacganffjaaDoorVSha
namespace Go.Vg
open Go

section
variable {P : Program} {n : Sh} {a : Act} {E : List (Nat × Value)} {w w0 : World} {M : List Nat} {cs : List Chunk} {K : Act → World → Prop} {Q : Exit → Act → World → Prop}
  {dst : Option Tmp} {ty : TypeId} {pos : String} {af : Array Edge} {gd : Option (Nat × Bool)} {d : Nat} {t e : TypeId} {x y : Operand}

theorem run_bound {k : IntKind} {v u : Nat} {c : BoundsCode} (h : v ≤ u) : (Instr.sliceBound (.int k (v : Int)) u c).run P w = .ok v w := by
  have h' : (0 : Int) ≤ (v : Int) ∧ (v : Int) ≤ (u : Int) := ⟨by omega, by omega⟩
  simp only [Instr.sliceBound, Sem.run_bind, asIntOf, Sem.run_pure, Result.andThen_ok]
  rw [if_pos h']
  simp
theorem bounds_lo {s : Bool} {k : IntKind} {l len cap : Nat} (h : l ≤ len) : (Instr.sliceBounds s len cap (some (.int k (l : Int))) none none).run P w = .ok (l, len, cap) w := by
  simp [Instr.sliceBounds, run_bound h]
theorem bounds_no {s : Bool} {len cap : Nat} : (Instr.sliceBounds s len cap none none none).run P w = .ok (0, len, cap) w := by
  simp [Instr.sliceBounds]
theorem bounds_hi {s : Bool} {k : IntKind} {h len cap : Nat} (hh : h ≤ cap) : (Instr.sliceBounds s len cap none (some (.int k (h : Int))) none).run P w = .ok (0, h, cap) w := by
  simp [Instr.sliceBounds, run_bound hh]
theorem bounds_both {s : Bool} {k k' : IntKind} {l h len cap : Nat} (hl : l ≤ h) (hh : h ≤ cap) : (Instr.sliceBounds s len cap (some (.int k (l : Int))) (some (.int k' (h : Int))) none).run P w = .ok (l, h, cap) w := by
  simp [Instr.sliceBounds, run_bound hh, run_bound hl]

/-- An array that lies in memory, sliced: arr[l:], arr[:], arr[:h]. -/
theorem q_slice_arr_lo (hT : Tm n a E) {b off N m l : Nat} {g : Bool} {k : IntKind} (hx : evO E x = some (vp b off)) (hy : evO E y = some (.int k (l : Int))) (ht : isArray P t = some (N, e, m, g)) (hl : l < N) :
    QR P a w ⟨dst, .slice t x (some y) none none, ty, pos, af, gd⟩ (.slice (some ⟨b, off + l * m, none⟩) (N - l) (N - l)) := by
  obtain ⟨z, hu, hs⟩ := isArray_spec ht
  have hne : ¬ N = l := by omega
  simp [QR, execOp, hT.ev hx, hT.ev hy, Instr.sliceAt, Instr.sureAddr, run_underlying hu, bounds_lo (show l ≤ N by omega), run_sizeOf hs, hne, add_none]
theorem q_slice_arr (hT : Tm n a E) {b off N m : Nat} {g : Bool} (hx : evO E x = some (vp b off)) (ht : isArray P t = some (N, e, m, g)) (hN : 0 < N) :
    QR P a w ⟨dst, .slice t x none none none, ty, pos, af, gd⟩ (.slice (some ⟨b, off, none⟩) N N) := by
  obtain ⟨z, hu, hs⟩ := isArray_spec ht
  have hne : ¬ N = 0 := by omega
  simp [QR, execOp, hT.ev hx, Instr.sliceAt, Instr.sureAddr, run_underlying hu, bounds_no, run_sizeOf hs, hne, add_none]
theorem q_slice_arr_hi (hT : Tm n a E) {b off N m h : Nat} {g : Bool} {k : IntKind} (hx : evO E x = some (vp b off)) (hy : evO E y = some (.int k (h : Int))) (ht : isArray P t = some (N, e, m, g)) (hN : 0 < N) (hh : h ≤ N) :
    QR P a w ⟨dst, .slice t x none (some y) none, ty, pos, af, gd⟩ (.slice (some ⟨b, off, none⟩) h N) := by
  obtain ⟨z, hu, hs⟩ := isArray_spec ht
  have hne : ¬ N = 0 := by omega
  simp [QR, execOp, hT.ev hx, hT.ev hy, Instr.sliceAt, Instr.sureAddr, run_underlying hu, bounds_hi hh, run_sizeOf hs, hne, add_none]
/-- s[l:] of a slice. -/
theorem q_slice_lo (hT : Tm n a E) {p : Option Addr} {len cap m l : Nat} {k : IntKind} (hx : evO E x = some (.slice p len cap)) (hy : evO E y = some (.int k (l : Int))) (ht : isSlice P t = some (e, m)) (hl : l ≤ len) :
    QR P a w ⟨dst, .slice t x (some y) none none, ty, pos, af, gd⟩ (.slice (if cap = l then p else p.map (·.add (l * m))) (len - l) (cap - l)) := by
  obtain ⟨g, z, hu, hs⟩ := isSlice_spec ht
  simp [QR, execOp, hT.ev hx, hT.ev hy, Instr.sliceAt, Instr.slice, run_underlying hu, bounds_lo hl, run_sizeOf hs]
theorem q_slice_hi (hT : Tm n a E) {p : Option Addr} {len cap m h : Nat} {k : IntKind} (hx : evO E x = some (.slice p len cap)) (hy : evO E y = some (.int k (h : Int))) (ht : isSlice P t = some (e, m)) (hh : h ≤ cap) :
    QR P a w ⟨dst, .slice t x none (some y) none, ty, pos, af, gd⟩ (.slice p h cap) := by
  obtain ⟨g, z, hu, hs⟩ := isSlice_spec ht
  have : (if cap = 0 then p else p.map (·.add (0 * m))) = p := by
    split
    · rfl
    · cases p <;> simp [Addr.add]
  simp [QR, execOp, hT.ev hx, hT.ev hy, Instr.sliceAt, Instr.slice, run_underlying hu, bounds_hi hh, run_sizeOf hs]
  cases p <;> simp [Addr.add]

theorem SlB.lo {p : Option Addr} {len cap l : Nat} {bs : List UInt8} (h : SlB w p len bs) (hl : l ≤ len) (hc : len ≤ cap) : SlB w (if cap = l then p else p.map (·.add (l * 1))) (len - l) (bs.drop l) := by
  refine ⟨by simp [h.1], fun h0 => ?_⟩
  obtain ⟨b, off, hp, hr⟩ := h.2 (by omega)
  rw [if_neg (by omega), hp]
  refine ⟨b, off + l, by simp [add_none], ?_⟩
  have := hr.drop l
  rwa [show (byC bs).drop l = byC (bs.drop l) from by simp [byC]] at this
theorem SlB.loc {p : Option Addr} {len : Nat} {bs : List UInt8} {cs' : List Chunk} (h : SlB w0 p len bs) (he : Loc M w0 w cs') (hm : 0 < len → ∀ ad : Addr, p = some ad → ad.block ∉ M) : SlB w p len bs :=
  ⟨h.1, fun h0 => let ⟨b, off, hp, hr⟩ := h.2 h0; ⟨b, off, hp, hr.loc he (hm h0 _ hp)⟩⟩
theorem SlB.lt {p : Option Addr} {len : Nat} {bs : List UInt8} (h : SlB w p len bs) (h0 : 0 < len) {ad : Addr} (hp : p = some ad) : ad.block < w.heap.size := by
  obtain ⟨b, off, hp', hr⟩ := h.2 h0
  rw [hp] at hp'
  cases hp'
  exact hr.lt
theorem SlB.lo_ne {M : List Nat} {p : Option Addr} {len cap l : Nat} (h : 0 < len → ∀ ad : Addr, p = some ad → ad.block ∉ M) : 0 < len - l → ∀ ad : Addr, (if cap = l then p else p.map (·.add (l * 1))) = some ad → ad.block ∉ M := by
  intro h0 ad hp
  have h := h (by omega)
  split at hp
  · exact h ad hp
  · cases p with
    | none => cases hp
    | some a0 =>
      simp only [Option.map_some, Option.some.injEq, Addr.add] at hp
      split at hp
      · subst hp; exact h a0 rfl
      · subst hp; exact h a0 rfl
theorem SlB.nil {p : Option Addr} : SlB w p 0 [] := ⟨rfl, fun h => by omega⟩
theorem SlB.of {b off : Nat} {bs : List UInt8} (h : Rd w b off (byC bs)) : SlB w (some ⟨b, off, none⟩) bs.length bs := ⟨rfl, fun _ => ⟨b, off, rfl, h⟩⟩

/-- The first cells of a slice of bytes. -/
theorem run_first {p : Option Addr} {len cap k : Nat} {bs : List UInt8} (h : SlB w p len bs) (hk : k ≤ len) : (Builtin.firstCells 1 k (.slice p len cap)).run P w = .ok (byC (bs.take k)).toArray w := by
  cases p with
  | none =>
    have : len = 0 := by
      rcases Nat.eq_zero_or_pos len with h0 | h0
      · exact h0
      · obtain ⟨b, off, hp, _⟩ := h.2 h0; cases hp
    have hk0 : k = 0 := by omega
    subst hk0
    simp [Builtin.firstCells, byC]
  | some ad =>
    rcases Nat.eq_zero_or_pos k with h0 | h0
    · subst h0; simp [Builtin.firstCells, byC, loadCells, loadCellsFrom]
    · obtain ⟨b, off, hp, hr⟩ := h.2 (by omega)
      cases hp
      have h1 := hr.take k
      have e : (byC bs).take k = byC (bs.take k) := by simp [byC]
      rw [e] at h1
      have := run_loadCells (P := P) h1
      rw [show (byC (bs.take k)).length = k from by simp [byC, h.1]; omega] at this
      simpa [Builtin.firstCells] using this

theorem oneCells_byC (l : List UInt8) : oneCells (byC l) = true := by
  simp [oneCells, byC, prim]

/-- copy(dst, src) of bytes into a block of one's own. -/
theorem w_copy (hT : Tm n a E) (hL : Loc M w0 w cs) (hlt : d < n.n) {b off dl dc sl sc : Nat} {p : Option Addr} {bs : List UInt8} {c c' : List Value} {T : TypeId} {ta : Array TypeId} {t0 : TypeId} (i k : Nat)
    (hx : evO E x = some (.slice (some ⟨b, off, none⟩) dl dc)) (hy : evO E y = some (.slice p sl sc)) (ht0 : ta[0]? = some t0) (ht : isSlice P t0 = some (e, 1)) (hb : SlB w p sl bs) (hi : cs[i]? = some [(b, ob c T)])
    (hk : k = min sl dl) (hl : off + k ≤ c.length) (hc : lay c off (byC (bs.take k)) = c')
    (kk : ∀ a' w', Tm n a' ((d, vI (k : Int)) :: E) → Loc M w0 w' (cs.set i [(b, ob c' T)]) → Turned w w' b (ob c' T) → K a' w') :
    Oper.wp P ⟨some d, .call { callee := .builtin .copy, args := #[x, y], argTypes := ta }, ty, pos, af, gd⟩ a w K Q := by
  obtain ⟨g, z, hu, hs⟩ := isSlice_spec ht
  subst hc
  have hg : w.heap[b]? = some (ob c T) := hL.get i hi
  have hlen : (byC (bs.take k)).length = k := by simp [byC, hb.1]; omega
  obtain ⟨w', hr, hw⟩ := run_storeCells (P := P) (T := T) (byC (bs.take k)) w off 0 c hg (by rw [hlen]; simpa using hl) (oneCells_byC _)
  refine w_val (v := vI (k : Int)) (w' := w') ?_ (kk _ _ (hT.put d hlt _) (hL.mod hi hw.os hw.tape hw.output hw.drawn hw.size hw.blk hw.ne) hw)
  have hmin : Nat.min sl dl = k := hk.symm
  simp [execOp, resolve, invoke, builtin, Builtin.copy_, hT.ev hx, hT.ev hy, ht0, run_underlying hu, Builtin.lenOf, hmin, run_sizeOf hs, run_first (cap := sc) hb (show k ≤ sl by omega), hr, goInt]
end
theorem tail_sl {w : World} {b m : Nat} (h : Rd w b 0 (arr8 72 (tailTo m 8))) : SlB w (some ⟨b, 0, none⟩) (padLen m + 8) (List.replicate (padLen m) 0 ++ lenBytes m) := by
  have h1 := Rd.prefix8 (k := padLen m + 8) h (by have := padLen_lt m; omega)
  rw [tail_list] at h1
  have h2 := SlB.of h1
  have e : (List.replicate (padLen m) (0 : UInt8) ++ lenBytes m).length = padLen m + 8 := by simp [lenBytes]
  rwa [e] at h2
theorem SlB.dig {w : World} {b off : Nat} {d : Dig} (h : Rd w b off (digC d)) : SlB w (some ⟨b, off, none⟩) 32 d.l := by
  rw [digC_by] at h
  have := SlB.of h
  rwa [d.h] at this
/-- A digest's first bytes. -/
def shortD (w : Int) (d : Dig) : Dig := Dig.of fun i => if 0 ≤ w ∧ w ≤ 32 ∧ (i : Int) < w then d.get i else 0
def widthB (w : Int) : Bool := decide (0 ≤ w) && decide (w ≤ 32)
theorem short_cells {d : Dig} {k wn : Nat} (hk : k = min 32 wn) (hw : wn ≤ 32) : arr8 32 (over Dig.zero.get 0 (d.l.take k)) = digC (shortD (wn : Int) d) := by
  unfold shortD
  rw [digC_of]
  refine arr8_congr fun i hi => ?_
  have hkw : k = wn := by omega
  subst hkw
  have hz : Dig.zero.get i = 0 := by
    show (List.replicate 32 (0 : UInt8)).getD i 0 = 0
    rw [List.getD_eq_getElem?_getD, List.getElem?_replicate]
    split <;> rfl
  have hl : (d.l.take k).length = k := by rw [List.length_take, d.h]; omega
  by_cases h : i < k
  · rw [over_get (by omega) (by omega), if_pos ⟨by omega, by omega, by omega⟩]
    simp [List.getD_eq_getElem?_getD, Dig.get, List.getElem?_take, h]
  · rw [if_neg (by omega)]
    unfold over
    rw [if_neg (by omega), hz]
theorem short_zero {w : Int} {d : Dig} (h : ¬ (0 ≤ w ∧ w ≤ 32)) : Dig.zero = shortD w d := by
  apply digC_inj
  unfold shortD
  rw [digC_of, digC_arr]
  refine arr8_congr fun i hi => ?_
  rw [if_neg (fun hh => h ⟨hh.1, hh.2.1⟩)]
  show (List.replicate 32 (0 : UInt8)).getD i 0 = 0
  rw [List.getD_eq_getElem?_getD, List.getElem?_replicate]
  split <;> rfl
/-- A slice of things that lie in memory, each in k cells. -/
def SlT {α : Type} (w : World) (p : Option Addr) (len k : Nat) (enc : α → List Value) (d0 : α) (l : List α) : Prop :=
  l.length = len ∧ (0 < len → ∃ b off, p = some ⟨b, off, none⟩ ∧ ∀ i, i < len → Rd w b (off + i * k) (enc (l.getD i d0)))
section
variable {α : Type} {w w' : World} {p : Option Addr} {len k : Nat} {enc : α → List Value} {d0 : α} {l : List α}
theorem SlT.ext {cs : List Chunk} (h : SlT w p len k enc d0 l) (he : Vg.Loc [] w w' cs) : SlT w' p len k enc d0 l :=
  ⟨h.1, fun h0 => let ⟨b, off, hp, hr⟩ := h.2 h0; ⟨b, off, hp, fun i hi => (hr i hi).loc he (by simp)⟩⟩
theorem SlT.loc {M : List Nat} {cs : List Chunk} (h : SlT w p len k enc d0 l) (he : Vg.Loc M w w' cs) (hm : 0 < len → ∀ ad : Addr, p = some ad → ad.block ∉ M) : SlT w' p len k enc d0 l :=
  ⟨h.1, fun h0 => let ⟨b, off, hp, hr⟩ := h.2 h0; ⟨b, off, hp, fun i hi => (hr i hi).loc he (hm h0 _ hp)⟩⟩
theorem SlT.nil : SlT w p 0 k enc d0 [] := ⟨rfl, fun h => by omega⟩
theorem SlT.flat0 (hk : ∀ x, (enc x).length = k) : ∀ (l : List α) (b off : Nat), Rd w b off (l.flatMap enc) → ∀ i, i < l.length → Rd w b (off + i * k) (enc (l.getD i d0))
  | [], _, _, _, i, hi => by simp at hi
  | x :: r, b, off, h, i, hi => by
    have hx := h.take k
    have hr := h.drop k
    simp only [List.flatMap_cons] at hx hr
    rw [List.drop_append, List.drop_of_length_le (by rw [hk]; omega), hk, Nat.sub_self, List.drop_zero, List.nil_append] at hr
    rw [List.take_append, List.take_of_length_le (by rw [hk]; omega), hk, Nat.sub_self, List.take_zero, List.append_nil] at hx
    cases i with
    | zero => simpa using hx
    | succ i =>
      have := SlT.flat0 hk r b (off + k) hr i (by simpa using hi)
      rw [show off + (i + 1) * k = off + k + i * k from by rw [Nat.add_mul]; omega]
      simpa using this
theorem SlT.flat {b off : Nat} (hk : ∀ x, (enc x).length = k) (h : Rd w b off (l.flatMap enc)) : SlT w (some ⟨b, off, none⟩) l.length k enc d0 l :=
  ⟨rfl, fun _ => ⟨b, off, rfl, SlT.flat0 hk l b off h⟩⟩
end
end Go.Vg
namespace Go.Vg
open Go
/-- Digests one behind the other. -/
def catD (ds : List Dig) : List UInt8 := ds.flatMap Dig.l
theorem catD_len (ds : List Dig) : (catD ds).length = 32 * ds.length := by
  unfold catD
  induction ds with
  | nil => rfl
  | cons d r ih => simp only [List.flatMap_cons, List.length_append, ih, d.h, List.length_cons]; omega
theorem catD_take_succ (ds : List Dig) (t : Nat) (h : t < ds.length) : catD (ds.take t) ++ (ds.getD t Dig.zero).l = catD (ds.take (t + 1)) := by
  unfold catD
  rw [List.take_succ_eq_append_getElem h, List.flatMap_append]
  simp [List.getD_eq_getElem?_getD, h]
end Go.Vg
namespace Go.Vg
open Go
structure Leaf where
  (p v : Dig)
  deriving DecidableEq
def leafC (l : Leaf) : List Value := digC l.p ++ digC l.v
theorem leafC_len (l : Leaf) : (leafC l).length = 64 := rfl
def emptyD (w : Int) : Dig := shortD w (sha [2])
def leafD (w : Int) (l : Leaf) : Dig := shortD w (sha (0 :: catD [l.p, l.v]))
def nodeD (w : Int) (x y : Dig) : Dig := shortD w (sha (1 :: catD [x, y]))
end Go.Vg
