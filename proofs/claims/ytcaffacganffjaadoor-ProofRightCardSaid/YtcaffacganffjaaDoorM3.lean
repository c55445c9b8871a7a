/- Slicing, copying. append onto a slice of one's own. '==' on digests and on structs of them. -/
import Derived.Test.YtcaffacganffjaaDoorM2
import Derived.Laws.AppendOwn
import Derived.Laws.StructEq

section
namespace Go.Vg
open Go

section
variable {P : Program} {n : Sh} {a : Act} {E : List (Nat × Value)} {w w0 : World} {M : List Nat} {cs : List Chunk} {K : Act → World → Prop} {Q : Exit → Act → World → Prop}
  {dst : Option Tmp} {ty : TypeId} {pos : String} {af : Array Edge} {gd : Option (Nat × Bool)} {d : Nat} {t e : TypeId} {x y : Operand}

theorem run_bound {k : IntKind} {v u : Nat} {c : BoundsCode} (h : v ≤ u) : (Instr.sliceBound (.int k (v : Int)) u c).run P w = .ok v w := by
  have h' : (0 : Int) ≤ (v : Int) ∧ (v : Int) ≤ (u : Int) := ⟨by omega, by omega⟩
  simp only [Instr.sliceBound, Sem.run_bind, asIntOf, Sem.run_pure, Result.andThen_ok]
  rw [if_pos h']
  simp
theorem bounds_lo {s : Bool} {k : IntKind} {l len cap : Nat} (h : l ≤ len) : (Instr.sliceBounds s len cap (some (.int k (l : Int))) none none).run P w = .ok (l, len, cap) w := by
  simp [Instr.sliceBounds, run_bound h]
theorem bounds_no {s : Bool} {len cap : Nat} : (Instr.sliceBounds s len cap none none none).run P w = .ok (0, len, cap) w := by
  simp [Instr.sliceBounds]
theorem bounds_hi {s : Bool} {k : IntKind} {h len cap : Nat} (hh : h ≤ cap) : (Instr.sliceBounds s len cap none (some (.int k (h : Int))) none).run P w = .ok (0, h, cap) w := by
  simp [Instr.sliceBounds, run_bound hh]
theorem bounds_both {s : Bool} {k k' : IntKind} {l h len cap : Nat} (hl : l ≤ h) (hh : h ≤ cap) : (Instr.sliceBounds s len cap (some (.int k (l : Int))) (some (.int k' (h : Int))) none).run P w = .ok (l, h, cap) w := by
  simp [Instr.sliceBounds, run_bound hh, run_bound hl]

/-- An array that lies in memory, sliced: arr[l:], arr[:], arr[:h]. -/
theorem q_slice_arr_lo (hT : Tm n a E) {b off N m l : Nat} {g : Bool} {k : IntKind} (hx : evO E x = some (vp b off)) (hy : evO E y = some (.int k (l : Int))) (ht : isArray P t = some (N, e, m, g)) (hl : l < N) :
    QR P a w ⟨dst, .slice t x (some y) none none, ty, pos, af, gd⟩ (.slice (some ⟨b, off + l * m, none⟩) (N - l) (N - l)) := by
  obtain ⟨z, hu, hs⟩ := isArray_spec ht
  have hne : ¬ N = l := by omega
  simp [QR, execOp, hT.ev hx, hT.ev hy, Instr.sliceAt, Instr.sureAddr, run_underlying hu, bounds_lo (show l ≤ N by omega), run_sizeOf hs, hne, add_none]
theorem q_slice_arr (hT : Tm n a E) {b off N m : Nat} {g : Bool} (hx : evO E x = some (vp b off)) (ht : isArray P t = some (N, e, m, g)) (hN : 0 < N) :
    QR P a w ⟨dst, .slice t x none none none, ty, pos, af, gd⟩ (.slice (some ⟨b, off, none⟩) N N) := by
  obtain ⟨z, hu, hs⟩ := isArray_spec ht
  have hne : ¬ N = 0 := by omega
  simp [QR, execOp, hT.ev hx, Instr.sliceAt, Instr.sureAddr, run_underlying hu, bounds_no, run_sizeOf hs, hne, add_none]
theorem q_slice_arr_hi (hT : Tm n a E) {b off N m h : Nat} {g : Bool} {k : IntKind} (hx : evO E x = some (vp b off)) (hy : evO E y = some (.int k (h : Int))) (ht : isArray P t = some (N, e, m, g)) (hN : 0 < N) (hh : h ≤ N) :
    QR P a w ⟨dst, .slice t x none (some y) none, ty, pos, af, gd⟩ (.slice (some ⟨b, off, none⟩) h N) := by
  obtain ⟨z, hu, hs⟩ := isArray_spec ht
  have hne : ¬ N = 0 := by omega
  simp [QR, execOp, hT.ev hx, hT.ev hy, Instr.sliceAt, Instr.sureAddr, run_underlying hu, bounds_hi hh, run_sizeOf hs, hne, add_none]
/-- s[l:] of a slice. -/
theorem q_slice_lo (hT : Tm n a E) {p : Option Addr} {len cap m l : Nat} {k : IntKind} (hx : evO E x = some (.slice p len cap)) (hy : evO E y = some (.int k (l : Int))) (ht : isSlice P t = some (e, m)) (hl : l ≤ len) :
    QR P a w ⟨dst, .slice t x (some y) none none, ty, pos, af, gd⟩ (.slice (if cap = l then p else p.map (·.add (l * m))) (len - l) (cap - l)) := by
  obtain ⟨g, z, hu, hs⟩ := isSlice_spec ht
  simp [QR, execOp, hT.ev hx, hT.ev hy, Instr.sliceAt, Instr.slice, run_underlying hu, bounds_lo hl, run_sizeOf hs]
theorem q_slice_hi (hT : Tm n a E) {p : Option Addr} {len cap m h : Nat} {k : IntKind} (hx : evO E x = some (.slice p len cap)) (hy : evO E y = some (.int k (h : Int))) (ht : isSlice P t = some (e, m)) (hh : h ≤ cap) :
    QR P a w ⟨dst, .slice t x none (some y) none, ty, pos, af, gd⟩ (.slice p h cap) := by
  obtain ⟨g, z, hu, hs⟩ := isSlice_spec ht
  have : (if cap = 0 then p else p.map (·.add (0 * m))) = p := by
    split
    · rfl
    · cases p <;> simp [Addr.add]
  simp [QR, execOp, hT.ev hx, hT.ev hy, Instr.sliceAt, Instr.slice, run_underlying hu, bounds_hi hh, run_sizeOf hs]
  cases p <;> simp [Addr.add]

theorem SlB.lo {p : Option Addr} {len cap l : Nat} {bs : List UInt8} (h : SlB w p len bs) (hl : l ≤ len) (hc : len ≤ cap) : SlB w (if cap = l then p else p.map (·.add (l * 1))) (len - l) (bs.drop l) := by
  refine ⟨by simp [h.1], fun h0 => ?_⟩
  obtain ⟨b, off, hp, hr⟩ := h.2 (by omega)
  rw [if_neg (by omega), hp]
  refine ⟨b, off + l, by simp [add_none], ?_⟩
  have := hr.drop l
  rwa [show (byC bs).drop l = byC (bs.drop l) from by simp [byC]] at this
theorem SlB.loc {p : Option Addr} {len : Nat} {bs : List UInt8} {cs' : List Chunk} (h : SlB w0 p len bs) (he : Loc M w0 w cs') (hm : 0 < len → ∀ ad : Addr, p = some ad → ad.block ∉ M) : SlB w p len bs :=
  ⟨h.1, fun h0 => let ⟨b, off, hp, hr⟩ := h.2 h0; ⟨b, off, hp, hr.loc he (hm h0 _ hp)⟩⟩
theorem SlB.lt {p : Option Addr} {len : Nat} {bs : List UInt8} (h : SlB w p len bs) (h0 : 0 < len) {ad : Addr} (hp : p = some ad) : ad.block < w.heap.size := by
  obtain ⟨b, off, hp', hr⟩ := h.2 h0
  rw [hp] at hp'
  cases hp'
  exact hr.lt
theorem SlB.lo_ne {M : List Nat} {p : Option Addr} {len cap l : Nat} (h : 0 < len → ∀ ad : Addr, p = some ad → ad.block ∉ M) : 0 < len - l → ∀ ad : Addr, (if cap = l then p else p.map (·.add (l * 1))) = some ad → ad.block ∉ M := by
  intro h0 ad hp
  have h := h (by omega)
  split at hp
  · exact h ad hp
  · cases p with
    | none => cases hp
    | some a0 =>
      simp only [Option.map_some, Option.some.injEq, Addr.add] at hp
      split at hp
      · subst hp; exact h a0 rfl
      · subst hp; exact h a0 rfl
theorem SlB.nil {p : Option Addr} : SlB w p 0 [] := ⟨rfl, fun h => by omega⟩
theorem SlB.of {b off : Nat} {bs : List UInt8} (h : Rd w b off (byC bs)) : SlB w (some ⟨b, off, none⟩) bs.length bs := ⟨rfl, fun _ => ⟨b, off, rfl, h⟩⟩

/-- The first cells of a slice of bytes. -/
theorem run_first {p : Option Addr} {len cap k : Nat} {bs : List UInt8} (h : SlB w p len bs) (hk : k ≤ len) : (Builtin.firstCells 1 k (.slice p len cap)).run P w = .ok (byC (bs.take k)).toArray w := by
  cases p with
  | none =>
    have : len = 0 := by
      rcases Nat.eq_zero_or_pos len with h0 | h0
      · exact h0
      · obtain ⟨b, off, hp, _⟩ := h.2 h0; cases hp
    have hk0 : k = 0 := by omega
    subst hk0
    simp [Builtin.firstCells, byC]
  | some ad =>
    rcases Nat.eq_zero_or_pos k with h0 | h0
    · subst h0; simp [Builtin.firstCells, byC, loadCells, loadCellsFrom]
    · obtain ⟨b, off, hp, hr⟩ := h.2 (by omega)
      cases hp
      have h1 := hr.take k
      have e : (byC bs).take k = byC (bs.take k) := by simp [byC]
      rw [e] at h1
      have := run_loadCells (P := P) h1
      rw [show (byC (bs.take k)).length = k from by simp [byC, h.1]; omega] at this
      simpa [Builtin.firstCells] using this

theorem oneCells_byC (l : List UInt8) : oneCells (byC l) = true := by
  simp [oneCells, byC, prim]

/-- copy(dst, src) of bytes into a block of one's own. -/
theorem w_copy (hT : Tm n a E) (hL : Loc M w0 w cs) (hlt : d < n.n) {b off dl dc sl sc : Nat} {p : Option Addr} {bs : List UInt8} {c c' : List Value} {T : TypeId} {ta : Array TypeId} {t0 : TypeId} (i k : Nat)
    (hx : evO E x = some (.slice (some ⟨b, off, none⟩) dl dc)) (hy : evO E y = some (.slice p sl sc)) (ht0 : ta[0]? = some t0) (ht : isSlice P t0 = some (e, 1)) (hb : SlB w p sl bs) (hi : cs[i]? = some [(b, ob c T)])
    (hk : k = min sl dl) (hl : off + k ≤ c.length) (hc : lay c off (byC (bs.take k)) = c')
    (kk : ∀ a' w', Tm n a' ((d, vI (k : Int)) :: E) → Loc M w0 w' (cs.set i [(b, ob c' T)]) → Turned w w' b (ob c' T) → K a' w') :
    Oper.wp P ⟨some d, .call { callee := .builtin .copy, args := #[x, y], argTypes := ta }, ty, pos, af, gd⟩ a w K Q := by
  obtain ⟨g, z, hu, hs⟩ := isSlice_spec ht
  subst hc
  have hg : w.heap[b]? = some (ob c T) := hL.get i hi
  have hlen : (byC (bs.take k)).length = k := by simp [byC, hb.1]; omega
  obtain ⟨w', hr, hw⟩ := run_storeCells (P := P) (T := T) (byC (bs.take k)) w off 0 c hg (by rw [hlen]; simpa using hl) (oneCells_byC _)
  refine w_val (v := vI (k : Int)) (w' := w') ?_ (kk _ _ (hT.put d hlt _) (hL.mod hi hw.os hw.tape hw.output hw.drawn hw.size hw.blk hw.ne) hw)
  have hmin : Nat.min sl dl = k := hk.symm
  simp [execOp, resolve, invoke, builtin, Builtin.copy_, hT.ev hx, hT.ev hy, ht0, run_underlying hu, Builtin.lenOf, hmin, run_sizeOf hs, run_first (cap := sc) hb (show k ≤ sl by omega), hr, goInt]
end
theorem tail_sl {w : World} {b m : Nat} (h : Rd w b 0 (arr8 72 (tailTo m 8))) : SlB w (some ⟨b, 0, none⟩) (padLen m + 8) (List.replicate (padLen m) 0 ++ lenBytes m) := by
  have h1 := Rd.prefix8 (k := padLen m + 8) h (by have := padLen_lt m; omega)
  rw [tail_list] at h1
  have h2 := SlB.of h1
  have e : (List.replicate (padLen m) (0 : UInt8) ++ lenBytes m).length = padLen m + 8 := by simp [lenBytes]
  rwa [e] at h2
theorem SlB.dig {w : World} {b off : Nat} {d : Dig} (h : Rd w b off (digC d)) : SlB w (some ⟨b, off, none⟩) 32 d.l := by
  rw [digC_by] at h
  have := SlB.of h
  rwa [d.h] at this
/-- A digest's first bytes. -/
def shortD (w : Int) (d : Dig) : Dig := Dig.of fun i => if 0 ≤ w ∧ w ≤ 32 ∧ (i : Int) < w then d.get i else 0
def widthB (w : Int) : Bool := decide (0 ≤ w) && decide (w ≤ 32)
theorem short_cells {d : Dig} {k wn : Nat} (hk : k = min 32 wn) (hw : wn ≤ 32) : arr8 32 (over Dig.zero.get 0 (d.l.take k)) = digC (shortD (wn : Int) d) := by
  unfold shortD
  rw [digC_of]
  refine arr8_congr fun i hi => ?_
  have hkw : k = wn := by omega
  subst hkw
  have hz : Dig.zero.get i = 0 := by
    show (List.replicate 32 (0 : UInt8)).getD i 0 = 0
    rw [List.getD_eq_getElem?_getD, List.getElem?_replicate]
    split <;> rfl
  have hl : (d.l.take k).length = k := by rw [List.length_take, d.h]; omega
  by_cases h : i < k
  · rw [over_get (by omega) (by omega), if_pos ⟨by omega, by omega, by omega⟩]
    simp [List.getD_eq_getElem?_getD, Dig.get, List.getElem?_take, h]
  · rw [if_neg (by omega)]
    unfold over
    rw [if_neg (by omega), hz]
theorem short_zero {w : Int} {d : Dig} (h : ¬ (0 ≤ w ∧ w ≤ 32)) : Dig.zero = shortD w d := by
  apply digC_inj
  unfold shortD
  rw [digC_of, digC_arr]
  refine arr8_congr fun i hi => ?_
  rw [if_neg (fun hh => h ⟨hh.1, hh.2.1⟩)]
  show (List.replicate 32 (0 : UInt8)).getD i 0 = 0
  rw [List.getD_eq_getElem?_getD, List.getElem?_replicate]
  split <;> rfl
/-- A slice of things that lie in memory, each in k cells. -/
def SlT {α : Type} (w : World) (p : Option Addr) (len k : Nat) (enc : α → List Value) (d0 : α) (l : List α) : Prop :=
  l.length = len ∧ (0 < len → ∃ b off, p = some ⟨b, off, none⟩ ∧ ∀ i, i < len → Rd w b (off + i * k) (enc (l.getD i d0)))
section
variable {α : Type} {w w' : World} {p : Option Addr} {len k : Nat} {enc : α → List Value} {d0 : α} {l : List α}
theorem SlT.ext {cs : List Chunk} (h : SlT w p len k enc d0 l) (he : Vg.Loc [] w w' cs) : SlT w' p len k enc d0 l :=
  ⟨h.1, fun h0 => let ⟨b, off, hp, hr⟩ := h.2 h0; ⟨b, off, hp, fun i hi => (hr i hi).loc he (by simp)⟩⟩
theorem SlT.loc {M : List Nat} {cs : List Chunk} (h : SlT w p len k enc d0 l) (he : Vg.Loc M w w' cs) (hm : 0 < len → ∀ ad : Addr, p = some ad → ad.block ∉ M) : SlT w' p len k enc d0 l :=
  ⟨h.1, fun h0 => let ⟨b, off, hp, hr⟩ := h.2 h0; ⟨b, off, hp, fun i hi => (hr i hi).loc he (hm h0 _ hp)⟩⟩
theorem SlT.nil : SlT w p 0 k enc d0 [] := ⟨rfl, fun h => by omega⟩
theorem SlT.flat0 (hk : ∀ x, (enc x).length = k) : ∀ (l : List α) (b off : Nat), Rd w b off (l.flatMap enc) → ∀ i, i < l.length → Rd w b (off + i * k) (enc (l.getD i d0))
  | [], _, _, _, i, hi => by simp at hi
  | x :: r, b, off, h, i, hi => by
    have hx := h.take k
    have hr := h.drop k
    simp only [List.flatMap_cons] at hx hr
    rw [List.drop_append, List.drop_of_length_le (by rw [hk]; omega), hk, Nat.sub_self, List.drop_zero, List.nil_append] at hr
    rw [List.take_append, List.take_of_length_le (by rw [hk]; omega), hk, Nat.sub_self, List.take_zero, List.append_nil] at hx
    cases i with
    | zero => simpa using hx
    | succ i =>
      have := SlT.flat0 hk r b (off + k) hr i (by simpa using hi)
      rw [show off + (i + 1) * k = off + k + i * k from by rw [Nat.add_mul]; omega]
      simpa using this
theorem SlT.flat {b off : Nat} (hk : ∀ x, (enc x).length = k) (h : Rd w b off (l.flatMap enc)) : SlT w (some ⟨b, off, none⟩) l.length k enc d0 l :=
  ⟨rfl, fun _ => ⟨b, off, rfl, SlT.flat0 hk l b off h⟩⟩
end
end Go.Vg
namespace Go.Vg
open Go
/-- Digests one behind the other. -/
def catD (ds : List Dig) : List UInt8 := ds.flatMap Dig.l
theorem catD_len (ds : List Dig) : (catD ds).length = 32 * ds.length := by
  unfold catD
  induction ds with
  | nil => rfl
  | cons d r ih => simp only [List.flatMap_cons, List.length_append, ih, d.h, List.length_cons]; omega
theorem catD_take_succ (ds : List Dig) (t : Nat) (h : t < ds.length) : catD (ds.take t) ++ (ds.getD t Dig.zero).l = catD (ds.take (t + 1)) := by
  unfold catD
  rw [List.take_succ_eq_append_getElem h, List.flatMap_append]
  simp [List.getD_eq_getElem?_getD, h]
end Go.Vg
namespace Go.Vg
open Go
structure Leaf where
  (p v : Dig)
  deriving DecidableEq
def leafC (l : Leaf) : List Value := digC l.p ++ digC l.v
theorem leafC_len (l : Leaf) : (leafC l).length = 64 := rfl
def emptyD (w : Int) : Dig := shortD w (sha [2])
def leafD (w : Int) (l : Leaf) : Dig := shortD w (sha (0 :: catD [l.p, l.v]))
def nodeD (w : Int) (x y : Dig) : Dig := shortD w (sha (1 :: catD [x, y]))
end Go.Vg
end

section
namespace Go.Vg
open Go Go.Proofs.YtcaffacganffjaaDoorW.PrintLast

/-- A slice of one's own: none yet, or the first cells of a block of one's own. -/
def OwnC (e : TypeId) (k : Nat) (p : Option Addr) (n cap : Nat) (xs : List Value) (c : Chunk) : Prop :=
  xs.length = n * k ∧ n ≤ cap ∧ cap ≤ maxLen ∧ ((p = none ∧ cap = 0 ∧ c = []) ∨ ∃ g junk, p = some ⟨g, 0, none⟩ ∧ c = [(g, ob (xs ++ junk) e)] ∧ (xs ++ junk).length = cap * k)
theorem OwnC.none {e : TypeId} {k : Nat} : OwnC e k .none 0 0 [] [] := ⟨by simp, Nat.le_refl _, Nat.zero_le _, .inl ⟨rfl, rfl, rfl⟩⟩
theorem OwnC.empty {e : TypeId} {k g : Nat} : OwnC e k (some ⟨g, 0, .none⟩) 0 0 [] [(g, ob [] e)] := ⟨by simp, Nat.le_refl _, Nat.zero_le _, .inr ⟨g, [], rfl, rfl, by simp⟩⟩
/-- What is to be appended. -/
def Src (w : World) (q : Option Addr) (m k : Nat) (news : List Value) : Prop :=
  news.length = m * k ∧ oneCells news = true ∧ (0 < m → ∃ b off, q = some ⟨b, off, none⟩ ∧ Rd w b off news)

def appOf (P : Program) (t : TypeId) : Option (TypeId × Nat × Nat) :=
  match P.underlying t with
  | some (.slice e) => match P.info? e with
    | some i => match i.zero with
      | some z => if z.cells.size = i.size then some (e, i.size, i.bytes) else none
      | none => none
    | none => none
  | _ => none
theorem appOf_spec {P : Program} {t e : TypeId} {k y : Nat} (h : appOf P t = some (e, k, y)) : ∃ i z, P.underlying t = some (.slice e) ∧ P.info? e = some i ∧ i.zero = some z ∧ z.cells.size = k ∧ i.size = k ∧ i.bytes = y := by
  unfold appOf at h
  split at h
  · rename_i e' hu
    split at h
    · rename_i i hi
      split at h
      · rename_i z hz
        split at h
        · rename_i hs
          simp only [Option.some.injEq, Prod.mk.injEq] at h
          obtain ⟨rfl, rfl, rfl⟩ := h
          exact ⟨i, z, hu, hi, hz, hs, rfl, rfl⟩
        · cases h
      · cases h
    · cases h
  · cases h

section
variable {P : Program} {n : Sh} {a : Act} {E : List (Nat × Value)} {w w0 : World} {M : List Nat} {cs : List Chunk} {K : Act → World → Prop} {Q : Exit → Act → World → Prop}
  {ty : TypeId} {pos : String} {af : Array Edge} {gd : Option (Nat × Bool)} {d : Nat}

theorem Loc.swapIn {c' : Chunk} (h : Vg.Loc M w0 w (c' :: cs)) {i : Nat} {c : Chunk} (hi : cs[i]? = some c) : Vg.Loc M w0 w (cs.set i c') := by
  obtain ⟨hlt, hget⟩ := List.getElem?_eq_some_iff.1 hi
  have h1 : cs = cs.take i ++ c :: cs.drop (i + 1) := by rw [← hget, List.getElem_cons_drop, List.take_append_drop]
  have h2 : cs.set i c' = cs.take i ++ c' :: cs.drop (i + 1) := by rw [List.set_eq_take_append_cons_drop, if_pos hlt]
  have h3 : Vg.Loc M w0 w (c' :: (cs.take i ++ cs.drop (i + 1))) := by
    rw [h1] at h
    exact h.sub (.cons_cons _ (List.Sublist.append (List.Sublist.refl _) (List.sublist_cons_self _ _)))
  rw [h2]
  refine h3.perm ?_
  simp only [List.flatten_cons, List.flatten_append]
  rw [← List.append_assoc, ← List.append_assoc]
  exact List.Perm.append_right _ List.perm_append_comm

theorem Rd.at_add {b off : Nat} {news : List Value} (h : Rd w b off news) : ∀ j u, news[j]? = some u → w.cell? ((⟨b, off, none⟩ : Addr).add j) = some u := fun j u hu => by
  have := h.cell hu
  unfold Addr.add
  split
  · rename_i h0; subst h0; simpa using this
  · exact this
theorem oneCells_mem {l : List Value} (h : oneCells l = true) : ∀ u ∈ l, u.oneCell' = true := by
  intro u hu
  have h1 : prim u = true := by
    simp only [oneCells, List.all_eq_true] at h
    exact h u hu
  cases u <;> first | rfl | cases h1

theorem w_append (hT : Tm n a E) (hL : Vg.Loc M w0 w cs) (hlt : d < n.n) {x y : Operand} {t e : TypeId} {k yb l cap m mc : Nat} {p q : Option Addr} {xs news : List Value} {c : Chunk} {ta : Array TypeId} (i : Nat)
    (hx : evO E x = some (.slice p l cap)) (hy : evO E y = some (.slice q m mc)) (hta : ta = #[t, t]) (ht : appOf P t = some (e, k, yb)) (hk : 0 < k) (hi : cs[i]? = some c)
    (hown : OwnC e k p l cap xs c) (hsrc : Src w q m k news) (hb : (l + m) * yb ≤ 140737488355328) (h63 : l + m ≤ maxLen)
    (kk : ∀ p' cap' c' a' w', OwnC e k p' (l + m) cap' (xs ++ news) c' → Tm n a' ((d, .slice p' (l + m) cap') :: E) → Vg.Loc M w0 w' (cs.set i c') → K a' w') :
    Oper.wp P ⟨some d, .call { callee := .builtin .append, args := #[x, y], argTypes := ta }, ty, pos, af, gd⟩ a w K Q := by
  subst hta
  obtain ⟨ti, z, hu, hti, hz, hzs, rfl, rfl⟩ := appOf_spec ht
  obtain ⟨hxl, hlc, hcm, hcase⟩ := hown
  obtain ⟨hnl, hone, hrd⟩ := hsrc
  have hlen : (xs ++ news).length = (l + m) * ti.size := by rw [List.length_append, hxl, hnl, Nat.add_mul]
  have hself : cs.set i c = cs := by
    obtain ⟨hlt', hget⟩ := List.getElem?_eq_some_iff.1 hi
    rw [← hget]; exact List.set_getElem_self hlt'
  have hs63 : l + m ≤ 9223372036854775807 := by simp only [maxLen] at h63; omega
  have fin : ∀ {v : Value} {w' : World}, (Builtin.append_ #[t, t] ty #[.slice p l cap, .slice q m mc]).run P w = .ok v w' → (∀ a', a' = a.put (some d) v → K a' w') → Oper.wp P ⟨some d, .call { callee := .builtin .append, args := #[x, y], argTypes := #[t, t] }, ty, pos, af, gd⟩ a w K Q := by
    intro v w' hr hK
    refine w_val (v := v) (w' := w') ?_ (hK _ rfl)
    simp [execOp, resolve, invoke, builtin, hT.ev hx, hT.ev hy, hr]
  have big : ∀ (o : Nat), (Builtin.append_ #[t, t] ty #[.slice p l cap, .slice q m mc]).run P w = .ok (.slice (some ⟨w.heap.size, 0, none⟩) (l + m) (grownCap w (l + m) o e)) (w.drew.alloc (.cells (xs.toArray ++ news.toArray ++ Builtin.zeroCells z.cells (grownCap w (l + m) o e - (l + m))) e)) →
      Oper.wp P ⟨some d, .call { callee := .builtin .append, args := #[x, y], argTypes := #[t, t] }, ty, pos, af, gd⟩ a w K Q := by
    intro o hr
    refine fin hr ?_
    rintro _ rfl
    have hge := grownCap_ge w (l + m) o e
    have hle := grownCap_le_maxLen w (l + m) o e h63
    refine kk _ _ [(w.heap.size, ob ((xs ++ news) ++ (Builtin.zeroCells z.cells (grownCap w (l + m) o e - (l + m))).toList) e)] _ _ ⟨hlen, hge, hle, .inr ⟨_, _, rfl, rfl, ?_⟩⟩ (hT.put d hlt _) ?_
    · rw [List.length_append, hlen, Array.length_toList, size_zeroCells, hzs, ← Nat.add_mul]
      congr 1; omega
    · have h1 := (hL.drew.alloc (ob ((xs ++ news) ++ (Builtin.zeroCells z.cells (grownCap w (l + m) o e - (l + m))).toList) e)).swapIn hi
      have e1 : xs.toArray ++ news.toArray ++ Builtin.zeroCells z.cells (grownCap w (l + m) o e - (l + m)) = ((xs ++ news) ++ (Builtin.zeroCells z.cells (grownCap w (l + m) o e - (l + m))).toList).toArray := by simp
      rw [e1]
      exact h1
  rcases hcase with ⟨rfl, rfl, rfl⟩ | ⟨g, junk, rfl, rfl, hjl⟩
  · obtain rfl : l = 0 := by omega
    have hx0 : xs = [] := List.eq_nil_of_length_eq_zero (by simpa using hxl)
    subst hx0
    by_cases hm : m = 0
    · subst hm
      have hn0 : news = [] := List.eq_nil_of_length_eq_zero (by simpa using hnl)
      subst hn0
      have hr : (Builtin.append_ #[t, t] ty #[.slice none 0 0, .slice q 0 mc]).run P w = .ok (.slice none 0 0) w := by
        cases q <;> simp [Builtin.append_, run_underlying hu, sizeOf, typeInfo, hti, Builtin.lenOf, Builtin.firstCells, loadCells, loadCellsFrom]
      refine fin hr ?_
      rintro _ rfl
      exact kk none 0 [] _ _ (by simpa using OwnC.none) (hT.put d hlt _) (by rw [hself]; exact hL)
    · obtain ⟨b, off, rfl, hr⟩ := hrd (by omega)
      have := run_append_nil (P := P) w t ty e ti z hu hti hz ⟨b, off, none⟩ m mc news hnl hr.at_add (by omega) (by omega) (by simp only [Nat.zero_add] at hb; omega)
      refine big 0 ?_
      simpa using this
  · have hg : w.heap[g]? = some (ob (xs ++ junk) e) := hL.get i hi
    by_cases hroom : l + m ≤ cap
    · by_cases hm : m = 0
      · subst hm
        have hn0 : news = [] := List.eq_nil_of_length_eq_zero (by simpa using hnl)
        subst hn0
        have hr : (Builtin.append_ #[t, t] ty #[.slice (some ⟨g, 0, none⟩) l cap, .slice q 0 mc]).run P w = .ok (.slice (some ⟨g, 0, none⟩) (l + 0) cap) w := by
          cases q <;> simp [Builtin.append_, run_underlying hu, sizeOf, typeInfo, hti, Builtin.lenOf, Builtin.firstCells, loadCells, loadCellsFrom, hlc, storeCells]
        refine fin hr ?_
        rintro _ rfl
        exact kk _ _ [(g, ob (xs ++ junk) e)] _ _ ⟨by simpa using hxl, by omega, hcm, .inr ⟨g, junk, rfl, by simp, by simpa using hjl⟩⟩ (hT.put d hlt _) (by rw [hself]; exact hL)
      · obtain ⟨b, off, rfl, hr⟩ := hrd (by omega)
        have hcl : (l + m) * ti.size ≤ cap * ti.size := Nat.mul_le_mul_right _ hroom
        have hjl' := hjl
        rw [List.length_append] at hjl'
        have hmul := Nat.add_mul l m ti.size
        have hrun := run_append_room (P := P) w t ty e ti hu hti g l cap _ hg ⟨b, off, none⟩ m mc news hnl hr.at_add (oneCells_mem hone) hroom (by simp only [List.size_toArray, List.length_append]; omega)
        refine fin hrun ?_
        rintro _ rfl
        have e1 : (xs ++ junk).take (l * ti.size) ++ news ++ (xs ++ junk).drop (l * ti.size + news.length) = (xs ++ news) ++ junk.drop news.length := by
          rw [← hxl, List.take_left, List.drop_append, List.drop_of_length_le (by omega), show xs.length + news.length - xs.length = news.length from by omega, List.nil_append]
        refine kk _ _ [(g, ob ((xs ++ news) ++ junk.drop news.length) e)] _ _ ⟨hlen, hroom, hcm, .inr ⟨g, _, rfl, rfl, ?_⟩⟩ (hT.put d hlt _) ?_
        · rw [List.length_append, List.length_append, List.length_drop]; omega
        · simp only [] at e1 ⊢
          rw [e1]
          exact hL.mod hi rfl rfl rfl rfl (by simp [World.setRow]) (setRow_heap w g _ _ e _ hg) (fun k' hk' => setRow_other w g k' _ hk')
    · obtain ⟨b, off, rfl, hr⟩ := hrd (by omega)
      have hrx : Rd w g 0 xs := hL.rd i hi 0 (by simp)
      exact big cap (run_append_grow (P := P) w t ty e ti z hu hti hz ⟨g, 0, none⟩ l cap xs hxl hrx.at_add ⟨b, off, none⟩ m mc news hnl hr.at_add (by omega) (by omega) (growslice_fits (by omega) hb))
end
end Go.Vg
end

section
namespace Go.Vg
open Go

/-- Two values of a type are equal, or are not, at every depth from k on. -/
def EqR (P : Program) (k : Nat) (t : TypeId) (u v : Value) (b : Bool) : Prop := ∀ d w, (Op.equalIn (d + k) t u v).run P w = .ok b w

section
variable {P : Program}
theorem EqR.int {t : TypeId} {k' : IntKind} (h : P.underlying t = some (.int k')) (k : IntKind) (a b : Int) : EqR P 1 t (.int k a) (.int k b) (decide (a = b)) := fun d w => by
  rw [run_equalIn_int w d t k k' a b h]
  rfl
theorem EqR.bool {t : TypeId} (h : P.underlying t = some .bool) (a b : Bool) : EqR P 1 t (.bool a) (.bool b) (decide (a = b)) := fun d w => by
  rw [run_equalIn_bool' w d t a b h]
  cases a <;> cases b <;> rfl
theorem EqR.str {t : TypeId} (h : P.underlying t = some .string) (a b : ByteArray) : EqR P 1 t (.string a) (.string b) (decide (a = b)) := fun d w => by
  rw [run_equalIn_string w d t a b h]
  congr 1
  rw [ByteArray.toList_eq, ByteArray.toList_eq]
  by_cases h : a = b
  · subst h; simp
  · have : a.data.toList ≠ b.data.toList := fun e => h (by cases a; cases b; simp_all)
    simp only [h, decide_false]
    exact beq_eq_false_iff_ne.2 this
theorem EqR.up {k : Nat} {t : TypeId} {u v : Value} {b : Bool} (h : EqR P k t u v b) : EqR P (k + 1) t u v b := fun d w => by
  have := h (d + 1) w
  rwa [show d + 1 + k = d + (k + 1) from by omega] at this

theorem EqR.arr {t e : TypeId} {N k m : Nat} {g : Bool} {xs ys : Array Value} {u v : Nat → Value} {b : Nat → Bool} (ht : isArray P t = some (N, e, m, g))
    (hx : ∀ i, i < N → ∀ w, (part e xs (i * m)).run P w = .ok (u i) w) (hy : ∀ i, i < N → ∀ w, (part e ys (i * m)).run P w = .ok (v i) w) (hb : ∀ i, i < N → EqR P k e (u i) (v i) (b i)) :
    EqR P (k + 1) t (.agg xs) (.agg ys) ((List.range N).all b) := by
  obtain ⟨z, hu, hs⟩ := isArray_spec ht
  intro d w
  rw [show d + (k + 1) = (d + k) + 1 from by omega]
  simp only [Op.equalIn, Sem.run_bind, run_underlying hu, Result.andThen_ok, run_sizeOf hs]
  rw [Std.Legacy.Range.forIn_eq_forIn_range']
  simp only [Std.Legacy.Range.size, Nat.sub_zero, Nat.add_one_sub_one, Nat.div_one]
  rw [List.range_eq_range']
  have hl : ∀ i ∈ List.range' 0 N, i < N := fun i hi => by simp [List.mem_range'] at hi; omega
  revert hl
  generalize List.range' 0 N = l
  clear ht
  induction l generalizing w with
  | nil => intro _; simp
  | cons i r ih =>
    intro hl
    have hi := hl i (by simp)
    have ih' := ih w (fun j hj => hl j (by simp [hj]))
    simp only [List.forIn_cons, Sem.run_bind, hx i hi, hy i hi, Result.andThen_ok, hb i hi d, Sem.run_ite, Sem.run_pure, List.all_cons] at ih' ⊢
    cases b i
    · simp
    · simpa using ih'

theorem EqR.dig {t e : TypeId} (ht : isArray P t = some (32, e, 1, false)) (he : P.underlying e = some (.int .u8)) (x y : Dig) : EqR P 2 t (dv x) (dv y) (decide (x = y)) := by
  obtain ⟨z, hu, hs⟩ := isArray_spec ht
  have h := EqR.arr (k := 1) (u := fun i => v8 (x.get i)) (v := fun i => v8 (y.get i)) (b := fun i => decide (((x.get i).toNat : Int) = (y.get i).toNat)) (xs := (digC x).toArray) (ys := (digC y).toArray) ht
    (fun i hi w => run_part hs (by rw [Nat.mul_one]; exact digC_get x hi)) (fun i hi w => run_part hs (by rw [Nat.mul_one]; exact digC_get y hi)) (fun i _ => EqR.int he _ _ _)
  have e1 : (List.range 32).all (fun i => decide (((x.get i).toNat : Int) = (y.get i).toNat)) = decide (x = y) := by
    by_cases hxy : x = y
    · subst hxy; simp
    · simp only [hxy, decide_false]
      apply Bool.eq_false_iff.2
      intro hall
      apply hxy
      rw [List.all_eq_true] at hall
      apply digC_inj
      rw [digC_arr, digC_arr]
      refine arr8_congr fun i hi => ?_
      have := hall i (List.mem_range.2 hi)
      simp only [decide_eq_true_eq, Int.natCast_inj, UInt8.toNat_inj] at this
      exact this
  rw [e1] at h
  exact h

/-- The fields of a struct, one by one. -/
inductive EqFs (P : Program) (k : Nat) (xs ys : Array Value) : List Field → Bool → Prop where
  | nil : EqFs P k xs ys [] true
  | blank {f : Field} {fs : List Field} {b : Bool} (hn : f.name = "_") (hr : EqFs P k xs ys fs b) : EqFs P k xs ys (f :: fs) b
  | cons {f : Field} {fs : List Field} {u v : Value} {c b : Bool} (hn : f.name ≠ "_") (hx : ∀ w, (part f.type xs f.offset).run P w = .ok u w) (hy : ∀ w, (part f.type ys f.offset).run P w = .ok v w) (hc : EqR P k f.type u v c) (hr : EqFs P k xs ys fs b) : EqFs P k xs ys (f :: fs) (c && b)
theorem EqFs.run {k d : Nat} {xs ys : Array Value} {fs : List Field} {b : Bool} (h : EqFs P k xs ys fs b) (w : World) : (Op.eqFields (d + k) xs ys fs).run P w = .ok b w := by
  induction h generalizing w with
  | nil => simp [Op.eqFields]
  | blank hn _ ih => simp only [Op.eqFields, hn, ne_eq, not_true, if_false]; exact ih w
  | @cons f fs u v c b hn hx hy hc hr ih =>
    simp only [Op.eqFields, if_pos hn, Sem.run_bind, hx, hy, Result.andThen_ok, hc d w, Sem.run_ite, Sem.run_pure]
    cases c
    · simp
    · simpa using ih w
theorem EqR.struct {k : Nat} {t : TypeId} {xs ys : Array Value} {b : Bool} (ht : P.underlying t = some (.struct (P.fieldsOf t))) (hp : P.stoodInHeld t = false) (h : EqFs P k xs ys (P.fieldsOf t).toList b) : EqR P (k + 1) t (.agg xs) (.agg ys) b := fun d w => by
  rw [show d + (k + 1) = (d + k) + 1 from by omega, run_equalIn_struct w (d + k) t xs ys ht hp]
  exact h.run w

variable {n : Sh} {a : Act} {E : List (Nat × Value)} {w : World} {dst : Option Tmp} {ty : TypeId} {pos : String} {af : Array Edge} {gd : Option (Nat × Bool)} {t yt : TypeId} {x y : Operand}
theorem EqR.at_top {k : Nat} {u v : Value} {b : Bool} (h : EqR P k t u v b) (hk : k ≤ 10000) : (Op.equal t u v).run P w = .ok b w := by
  have := h (10000 - k) w
  rwa [show 10000 - k + k = 10000 from by omega] at this
theorem q_eq_agg (hT : Tm n a E) {k : Nat} {us vs : Array Value} {b : Bool} (hx : evO E x = some (.agg us)) (hy : evO E y = some (.agg vs)) (hm : P.eqGuardType P.depth t = false) (h : EqR P k t (.agg us) (.agg vs) b) (hk : k ≤ 10000) :
    QR P a w ⟨dst, .binOp .eql t x y yt, ty, pos, af, gd⟩ (.bool b) :=
  q_bin hT hx hy (run_eqGuard_agg w _ t x y us vs hm) (by simp only [binOp, Sem.run_bind, h.at_top hk, Result.andThen_ok, Sem.run_pure])
theorem q_ne_agg (hT : Tm n a E) {k : Nat} {us vs : Array Value} {b : Bool} (hx : evO E x = some (.agg us)) (hy : evO E y = some (.agg vs)) (hm : P.eqGuardType P.depth t = false) (h : EqR P k t (.agg us) (.agg vs) b) (hk : k ≤ 10000) :
    QR P a w ⟨dst, .binOp .neq t x y yt, ty, pos, af, gd⟩ (.bool (!b)) :=
  q_bin hT hx hy (run_eqGuard_agg w _ t x y us vs hm) (by simp only [binOp, Sem.run_bind, h.at_top hk, Result.andThen_ok, Sem.run_pure])
end
end Go.Vg
end
