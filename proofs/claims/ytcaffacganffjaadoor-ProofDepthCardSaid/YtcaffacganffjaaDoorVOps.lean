/- One lemma for each operation: what it yields, or what it does to the frame. -/
import Derived.Test.YtcaffacganffjaaDoorVBase
namespace Go.Vg
open Go

/-! ### Types -/
def tyOf (P : Program) (t : TypeId) : Option (Nat × Bool × List Value) :=
  match P.info? t, P.underlying t with
  | some i, some d => match i.zero with
    | some z => some (i.size, (match d with | .struct _ | .array _ _ => true | _ => false), z.cells.toList)
    | none => none
  | _, _ => none

section
variable {P : Program} {t : TypeId} {n : Nat} {g : Bool} {z : List Value}

theorem run_isAgg (h : tyOf P t = some (n, g, z)) (w : World) : (isAgg t).run P w = .ok g w := by
  unfold tyOf at h
  cases hi : P.info? t with
  | none => rw [hi] at h; simp at h
  | some i =>
    cases hu : P.underlying t with
    | none => rw [hi, hu] at h; simp at h
    | some d =>
      rw [hi, hu] at h
      simp only at h
      cases hz : i.zero with
      | none => rw [hz] at h; simp at h
      | some zz =>
        rw [hz] at h
        simp only [Option.some.injEq, Prod.mk.injEq] at h
        obtain ⟨_, h2, _⟩ := h
        simp only [isAgg, Sem.run_bind, run_underlying hu, Result.andThen_ok]
        cases d <;> simp_all

theorem tyInfo (h : tyOf P t = some (n, g, z)) : ∃ i zz, P.info? t = some i ∧ i.size = n ∧ i.zero = some zz ∧ zz.cells.toList = z := by
  unfold tyOf at h
  cases hi : P.info? t with
  | none => rw [hi] at h; simp at h
  | some i =>
    cases hu : P.underlying t with
    | none => rw [hi, hu] at h; simp at h
    | some d =>
      rw [hi, hu] at h
      simp only at h
      cases hz : i.zero with
      | none => rw [hz] at h; simp at h
      | some zz =>
        rw [hz] at h
        simp only [Option.some.injEq, Prod.mk.injEq] at h
        exact ⟨i, zz, rfl, h.1, hz, h.2.2⟩

theorem run_typeInfo {i : TypeInfo} (h : P.info? t = some i) (w : World) : (typeInfo t).run P w = .ok i w := by
  simp [typeInfo, h]

theorem run_sizeOf (h : tyOf P t = some (n, g, z)) (w : World) : (sizeOf t).run P w = .ok n w := by
  obtain ⟨i, zz, hi, hn, _, _⟩ := tyInfo h
  simp [sizeOf, run_typeInfo hi, hn]

theorem run_zeroValue (h : tyOf P t = some (n, g, z)) (w : World) : ∃ zz : Value, (zeroValue t).run P w = .ok zz w ∧ zz.cells.toList = z := by
  obtain ⟨i, zz, hi, _, hz, hc⟩ := tyInfo h
  exact ⟨zz, by simp [zeroValue, run_typeInfo hi, hz], hc⟩

/-! ### Loading and storing -/
theorem run_loadCellsFrom {w : World} {b off : Nat} {cs : List Value} (h : Rd w b off cs) : ∀ (m i : Nat) (acc : Array Value), i + m = cs.length →
    (loadCellsFrom ⟨b, off, none⟩ i m acc).run P w = .ok (acc ++ (cs.drop i).toArray) w := by
  intro m
  induction m with
  | zero => intro i acc hi; simp [loadCellsFrom, List.drop_of_length_le (show cs.length ≤ i by omega)]
  | succ m ih =>
    intro i acc hi
    have hlt : i < cs.length := by omega
    have hc : w.cell? ((⟨b, off, none⟩ : Addr).add i) = some cs[i] := by
      have := h.cell (List.getElem?_eq_getElem hlt)
      unfold Addr.add
      split
      · rename_i h0; subst h0; exact this
      · exact this
    simp only [loadCellsFrom, Sem.run_bind, run_load, hc, Result.andThen_ok]
    rw [ih (i + 1) _ (by omega), List.drop_eq_getElem_cons hlt]
    simp

theorem run_loadCells {w : World} {b off : Nat} {cs : List Value} (h : Rd w b off cs) : (loadCells ⟨b, off, none⟩ cs.length).run P w = .ok cs.toArray w := by
  have := run_loadCellsFrom (P := P) h cs.length 0 #[] (by omega)
  simpa [loadCells] using this

theorem run_loadVar_agg {w : World} {b off : Nat} {cs : List Value} (ht : tyOf P t = some (n, true, z)) (h : Rd w b off cs) (hn : cs.length = n) : (loadVar t ⟨b, off, none⟩).run P w = .ok (.agg cs.toArray) w := by
  subst hn
  simp [loadVar, run_isAgg ht, run_sizeOf ht, run_loadCells h]

theorem run_loadVar_prim {w : World} {b off : Nat} {v : Value} (ht : tyOf P t = some (n, false, z)) (h : Rd w b off [v]) : (loadVar t ⟨b, off, none⟩).run P w = .ok v w := by
  have hc : w.cell? ⟨b, off, none⟩ = some v := by simpa using h.cell (i := 0) (v := v) rfl
  simp [loadVar, run_isAgg ht, hc]

/-- Cells laid over a list from off on. -/
def lay (c : List Value) (off : Nat) (vs : List Value) : List Value := c.take off ++ vs ++ c.drop (off + vs.length)

def prim : Value → Bool
  | .agg _ | .tuple _ => false
  | _ => true
def oneCells (vs : List Value) : Bool := vs.all prim

theorem run_store_blk {w : World} {b off : Nat} {c : Array Value} {T : TypeId} {v : Value} (hb : w.heap[b]? = some (.cells c T (0, 0))) (ho : off < c.size) (hv : prim v = true) :
    (store ⟨b, off, none⟩ v).run P w = .ok () (w.setCell ⟨b, off, none⟩ v) := by
  have hc : w.cell? ⟨b, off, none⟩ = some c[off] := by simp [World.cell?, hb, ho]
  have hf : w.frozen? ⟨b, off, none⟩ = false := by simp [World.frozen?, hb]
  cases v <;> simp_all [prim, store, Sem.run]

theorem setCell_heap {w : World} {b off : Nat} {c : Array Value} {T : TypeId} {v : Value} (hb : w.heap[b]? = some (.cells c T (0, 0))) :
    (w.setCell ⟨b, off, none⟩ v).heap[b]? = some (.cells (c.setIfInBounds off v) T (0, 0)) := by
  simp [World.setCell, Array.getElem?_modify, hb]

theorem setCell_other {w : World} {b off : Nat} {v : Value} {k : Nat} (hk : k ≠ b) : (w.setCell ⟨b, off, none⟩ v).heap[k]? = w.heap[k]? := by
  simp only [World.setCell, Array.getElem?_modify]
  rw [if_neg (fun e => hk e.symm)]

/-- A world in which one block's cells are turned. -/
structure Turned (w w' : World) (b : Nat) (o : Obj) : Prop where
  os : w'.os = w.os
  tape : w'.tape = w.tape
  output : w'.output = w.output
  drawn : w'.drawn = w.drawn
  size : w'.heap.size = w.heap.size
  blk : w'.heap[b]? = some o
  ne : ∀ k, k ≠ b → w'.heap[k]? = w.heap[k]?

theorem lay_nil (c : List Value) (off : Nat) : lay c off [] = c := by simp [lay]

theorem lay_cons {c : List Value} {k : Nat} {v : Value} (r : List Value) (h : k < c.length) : lay (c.set k v) (k + 1) r = lay c k (v :: r) := by
  have hk : (c.take k).length = k := by simp; omega
  unfold lay
  rw [List.set_eq_take_append_cons_drop, if_pos h]
  have e1 : (c.take k ++ v :: c.drop (k + 1)).take (k + 1) = c.take k ++ [v] := by
    rw [List.take_append, hk, List.take_of_length_le (by omega), show k + 1 - k = 1 from by omega]
    simp
  have e2 : (c.take k ++ v :: c.drop (k + 1)).drop (k + 1 + r.length) = c.drop (k + (r.length + 1)) := by
    rw [List.drop_append, hk, List.drop_of_length_le (by omega), show k + 1 + r.length - k = r.length + 1 from by omega]
    simp only [List.drop_succ_cons, List.drop_drop, List.nil_append]
    congr 1
    omega
  rw [e1, e2]
  simp

theorem run_storeCells {b : Nat} {T : TypeId} : ∀ (vs : List Value) (w : World) (off i : Nat) (c : List Value), w.heap[b]? = some (ob c T) → off + i + vs.length ≤ c.length → oneCells vs = true →
    ∃ w', (storeCells ⟨b, off, none⟩ vs i).run P w = .ok () w' ∧ Turned w w' b (ob (lay c (off + i) vs) T)
  | [], w, off, i, c, hb, _, _ => ⟨w, by simp [storeCells], ⟨rfl, rfl, rfl, rfl, rfl, by rw [lay_nil]; exact hb, fun _ _ => rfl⟩⟩
  | v :: r, w, off, i, c, hb, hl, ho => by
    simp only [oneCells, List.all_cons, Bool.and_eq_true] at ho
    simp only [List.length_cons] at hl
    have ha : (⟨b, off, none⟩ : Addr).add i = ⟨b, off + i, none⟩ := by
      unfold Addr.add; split
      · rename_i h0; subst h0; rfl
      · rfl
    have h1 := run_store_blk (P := P) (off := off + i) (v := v) hb (by simp; omega) ho.1
    have h2 : (w.setCell ⟨b, off + i, none⟩ v).heap[b]? = some (ob (c.set (off + i) v) T) := by
      rw [setCell_heap hb]; simp
    obtain ⟨w', hr, ht⟩ := run_storeCells r (w.setCell ⟨b, off + i, none⟩ v) off (i + 1) (c.set (off + i) v) h2 (by simp; omega) ho.2
    refine ⟨w', ?_, ⟨ht.os, ht.tape, ht.output, ht.drawn, ?_, ?_, ?_⟩⟩
    · simp only [storeCells, Sem.run_bind, ha, h1, Result.andThen_ok, hr]
    · rw [ht.size]; simp [World.setCell]
    · rw [ht.blk]
      congr 2
      rw [show off + (i + 1) = (off + i) + 1 from by omega, lay_cons _ (by omega)]
    · intro k hk
      rw [ht.ne k hk, setCell_other hk]

theorem run_storeVar {w : World} {b off : Nat} {c : List Value} {T : TypeId} {v : Value} (ht : tyOf P t = some (n, g, z)) (hb : w.heap[b]? = some (ob c T)) (hn : v.cells.size = n) (hl : off + n ≤ c.length) (ho : oneCells v.cells.toList = true) :
    ∃ w', (storeVar t ⟨b, off, none⟩ v).run P w = .ok () w' ∧ Turned w w' b (ob (lay c off v.cells.toList) T) := by
  obtain ⟨w', h1, h2⟩ := run_storeCells (P := P) (T := T) v.cells.toList w off 0 c hb (by simp [hn]; omega) ho
  exact ⟨w', by simp [storeVar, run_sizeOf ht, hn, h1], h2⟩
end
end Go.Vg
