/- What makes memory, writes, or calls; regions, branches, loops, a function's entry and its end. Regions, branches, loops, a function's entry and its end. Words of 8, 32 and 64 bits: what the operations yield, over UInt8, UInt32, UInt64. -/
import Derived.Test.YtcaffacganffjaaDoorM0
import Derived.Test.YtcaffacganffjaaDoorWLast

section
namespace Go.Vg
open Go

theorem Rd.c0 {w : World} {b off : Nat} {v : Value} (h : Rd w b off [v]) : w.cell? ⟨b, off, none⟩ = some v := by simpa using h.cell (i := 0) (v := v) rfl
theorem Loc.warm {M : List Nat} {w0 w : World} {cs : List Chunk} (h : Loc M w0 w cs) (i : Nat) {b off : Nat} {c : List Value} {T : TypeId} (hi : cs[i]? = some [(b, ob c T)]) : w.frozen? ⟨b, off, none⟩ = false := by
  simp [World.frozen?, h.get i hi]
section
variable {P : Program} {n : Sh} {a : Act} {E : List (Nat × Value)} {w w0 : World} {M : List Nat} {cs : List Chunk} {K : Act → World → Prop} {Q : Exit → Act → World → Prop}
  {ty : TypeId} {pos : String} {af : Array Edge} {gd : Option (Nat × Bool)} {d : Nat}

theorem Ext.push (w : World) (o : Obj) : Ext w { w with heap := w.heap.push o } := ((Loc.refl [] w).alloc o).drop
theorem Ext.turned {w w1 w2 : World} {b : Nat} {o : Obj} (h : Ext w w1) (ht : Turned w1 w2 b o) (hb : w.heap.size ≤ b) : Ext w w2 :=
  ⟨ht.os.trans h.os, ht.tape.trans h.tape, ht.output.trans h.output, by rw [ht.drawn]; exact h.drawn, by rw [ht.size]; exact h.size, fun k hk hm => by rw [ht.ne k (by omega)]; exact h.old k hk hm, List.nodup_nil, by simp [keys], by simp⟩

theorem w_val {o : Oper} {v : Value} {w' : World} (hr : (execOp a.eval o).run P w = .ok (.value v) w') (hk : K (a.put o.dst v) w') : o.wp P a w K Q := by
  unfold Oper.wp; rw [hr]; exact hk
theorem w_skip {o : Oper} {w' : World} (hr : (execOp a.eval o).run P w = .ok .skip w') (hd : o.dst = none) (hk : K a w') : o.wp P a w K Q := by
  unfold Oper.wp; rw [hr]; simp only [Oper.upon, hd]; exact hk
theorem w_q {o : Oper} {v : Value} (hT : Tm n a E) (hr : QR P a w o v) (hd : o.dst = some d) (hlt : d < n.n) (k : ∀ a', Tm n a' ((d, v) :: E) → K a' w) : o.wp P a w K Q :=
  w_val hr (by rw [hd]; exact k _ (hT.put d hlt v))

theorem w_alloc (hT : Tm n a E) (hL : Loc M w0 w cs) (hlt : d < n.n) {t : TypeId} {m : Nat} {g : Bool} {z : List Value} (ht : tyOf P t = some (m, g, z))
    (k : ∀ b a' w', Tm n a' ((d, vp b 0) :: E) → Loc M w0 w' ([(b, ob z t)] :: cs) → Ext w w' → w.heap.size ≤ b → K a' w') : Oper.wp P ⟨some d, .alloc t, ty, pos, af, gd⟩ a w K Q := by
  obtain ⟨zz, hz, hc⟩ := run_zeroValue (P := P) ht w
  have ha : (zz.cells) = z.toArray := by rw [← hc]
  refine w_val (v := vp w.heap.size 0) (w' := { w with heap := w.heap.push (ob z t) }) ?_ (k _ _ _ (hT.put d hlt _) (hL.alloc _) (Ext.push _ _) (Nat.le_refl _))
  simp [execOp, Instr.alloc, hz, newVar, newRow, newObj, Sem.run, ha]

theorem w_box (hT : Tm n a E) (hL : Loc M w0 w cs) (hlt : d < n.n) {t : TypeId} {x : Operand} {v : Value} {c : List Value} (hx : evO E x = some v) (hc : v.cells.toList = c)
    (k : ∀ b a' w', Tm n a' ((d, vp b 0) :: E) → Loc M w0 w' ([(b, ob c t)] :: cs) → Ext w w' → w.heap.size ≤ b → K a' w') : Oper.wp P ⟨some d, .box t x, ty, pos, af, gd⟩ a w K Q := by
  have ha : v.cells = c.toArray := by rw [← hc]
  refine w_val (v := vp w.heap.size 0) (w' := { w with heap := w.heap.push (ob c t) }) ?_ (k _ _ _ (hT.put d hlt _) (hL.alloc _) (Ext.push _ _) (Nat.le_refl _))
  simp [execOp, Instr.box, hT.ev hx, newVar, newRow, newObj, Sem.run, ha]

theorem w_store (hT : Tm n a E) (hL : Loc M w0 w cs) {t T : TypeId} {x y : Operand} {b off m : Nat} {g : Bool} {z c c' vs : List Value} {v : Value} (i : Nat)
    (hx : evO E x = some (vp b off)) (hy : evO E y = some v) (ht : tyOf P t = some (m, g, z)) (hi : cs[i]? = some [(b, ob c T)]) (hv : v.cells.toList = vs) (hn : vs.length = m)
    (hl : off + vs.length ≤ c.length) (ho : oneCells vs = true) (hc : lay c off vs = c')
    (k : ∀ w', Loc M w0 w' (cs.set i [(b, ob c' T)]) → Turned w w' b (ob c' T) → K a w') : Oper.wp P ⟨none, .store t x y, ty, pos, af, gd⟩ a w K Q := by
  have hb : w.heap[b]? = some (ob c T) := hL.has (b, ob c T) (List.mem_flatten.2 ⟨_, List.mem_of_getElem? hi, by simp⟩)
  subst hv
  subst hc
  obtain ⟨w', hr, hw⟩ := run_storeVar (P := P) (v := v) ht hb (by simpa using hn) (by rw [← hn]; exact hl) ho
  refine w_skip (w' := w') ?_ rfl (k w' (hL.mod hi hw.os hw.tape hw.output hw.drawn hw.size hw.blk hw.ne) hw)
  simp [execOp, Instr.storeAt, Instr.sureAddr, hT.ev hx, hT.ev hy, hr]

def evP (E : List (Nat × Value)) : List (Nat × Operand) → Option (List (Nat × Value))
  | [] => some []
  | (i, x) :: r => match evO E x, evP E r with
    | some v, some vs => some ((i, v) :: vs)
    | _, _ => none
theorem Tm.evP (h : Tm n a E) : ∀ {ps : List (Nat × Operand)} {pv : List (Nat × Value)}, Vg.evP E ps = some pv → ps.map (fun (i, x) => (i, a.eval x)) = pv
  | [], pv, hx => by simp [Vg.evP] at hx; simp [hx]
  | (i, x) :: r, pv, hx => by
    simp only [Vg.evP] at hx
    split at hx
    · rename_i v us h1 h2
      simp only [Option.some.injEq] at hx
      subst hx
      simp [h.ev h1, h.evP h2]
    · cases hx

theorem q_build (hT : Tm n a E) {dst : Option Tmp} {t : TypeId} {ps : List (Nat × Operand)} {pv : List (Nat × Value)} {v : Value} (hp : evP E ps = some pv) (hr : ∀ w, (Instr.build t pv.toArray).run P w = .ok v w) :
    QR P a w ⟨dst, .build t ps.toArray, ty, pos, af, gd⟩ v := by
  have := hT.evP hp
  simp only [QR, execOp, List.map_toArray]
  simp [this, hr]

theorem w_buildSlice (hT : Tm n a E) (hL : Loc M w0 w cs) (hlt : d < n.n) {t e : TypeId} {len : Nat} {ps : List (Nat × Operand)} {pv : List (Nat × Value)} {c : List Value} (hp : evP E ps = some pv)
    (hr : ∀ w, (Instr.buildSlice t len pv.toArray).run P w = .ok (.slice (some ⟨w.heap.size, 0, none⟩) len len) { w with heap := w.heap.push (ob c e) })
    (k : ∀ b a' w', Tm n a' ((d, .slice (some ⟨b, 0, none⟩) len len) :: E) → Loc M w0 w' ([(b, ob c e)] :: cs) → Ext w w' → w.heap.size ≤ b → K a' w') : Oper.wp P ⟨some d, .buildSlice t len ps.toArray, ty, pos, af, gd⟩ a w K Q := by
  have := hT.evP hp
  refine w_val (v := .slice (some ⟨w.heap.size, 0, none⟩) len len) (w' := { w with heap := w.heap.push (ob c e) }) ?_ (k _ _ _ (hT.put d hlt _) (hL.alloc _) (Ext.push _ _) (Nat.le_refl _))
  simp only [execOp, List.map_toArray]
  simp [this, hr]

/-! calls -/
theorem w_call (hT : Tm n a E) {f : Operand} {xs : List Operand} {ts : Array TypeId} {fn : Func} {g : FuncId} {first cap : Array Value} {vs : List Value} {args : Array Value} (dst : Option Tmp)
    (hf : evO E f = some (.func (.func g) first cap)) (hx : evL E xs = some vs) (ha : first ++ vs.toArray ++ cap = args) (hfn : P.funcs[g]? = some fn) (hname : (fn.name == "runtime.NumGoroutine") = false) (hb : fn.body.isSome = true)
    (h : Calls P g args w fun e w' => ∃ v, e = .returned v ∧ K (a.put dst v) w') : Oper.wp P ⟨dst, .call { callee := .value f, args := xs.toArray, argTypes := ts }, ty, pos, af, gd⟩ a w K Q := by
  have hr : (execOp a.eval ⟨dst, .call { callee := .value f, args := xs.toArray, argTypes := ts }, ty, pos, af, gd⟩).run P w = .ok (.enter g args) w := by
    have he := Go.Proofs.YtcaffacganffjaaDoorW.PrintLast.enters_ hfn hname hb args w
    simp [execOp, resolve, Deferred.ofValue, invoke, hT.ev hf, hT.evL hx]
    rw [← Array.append_assoc, ha]
    exact he
  unfold Oper.wp
  rw [hr, Oper.upon_enter]
  refine h.mono fun e w'' hh => ?_
  obtain ⟨v, rfl, hk⟩ := hh
  exact hk
theorem w_defer (hT : Tm n a E) {f : Operand} {xs : List Operand} {ts : Array TypeId} {fn : Fn} {first cap : Array Value} {vs : List Value} {args : Array Value}
    (hf : evO E f = some (.func fn first cap)) (hx : evL E xs = some vs) (ha : first ++ vs.toArray = args)
    (k : ∀ a', Tm ⟨n.n, { target := .fn fn cap, args := args } :: n.ds⟩ a' E → K a' w) : Oper.wp P ⟨none, .defer { callee := .value f, args := xs.toArray, argTypes := ts }, ty, pos, af, gd⟩ a w K Q := by
  have hr : (execOp a.eval ⟨none, .defer { callee := .value f, args := xs.toArray, argTypes := ts }, ty, pos, af, gd⟩).run P w = .ok (.defer { target := .fn fn cap, args := args }) w := by
    simp [execOp, resolve, Deferred.ofValue, hT.ev hf, hT.evL hx]
    rw [← ha]
  unfold Oper.wp
  rw [hr]
  simp only [Oper.upon, Act.put]
  exact k _ ⟨hT.size, by simp [hT.defers], hT.get⟩
/-- A function without a body that yields. -/
theorem q_ext (hT : Tm n a E) {dst : Option Tmp} {f : Operand} {xs : List Operand} {ts : Array TypeId} {g : FuncId} {first cap : Array Value} {vs : List Value} {args : Array Value} {v : Value}
    (hf : evO E f = some (.func (.func g) first cap)) (hx : evL E xs = some vs) (ha : first ++ vs.toArray ++ cap = args) (hr : (callFunc g args).run P w = .ok (.value v) w) : QR P a w ⟨dst, .call { callee := .value f, args := xs.toArray, argTypes := ts }, ty, pos, af, gd⟩ v := by
  simp [QR, execOp, resolve, Deferred.ofValue, invoke, hT.ev hf, hT.evL hx]
  rw [← Array.append_assoc, ha]
  exact hr
theorem turned_setCell {b off : Nat} {c : List Value} {T : TypeId} {v : Value} (hb : w.heap[b]? = some (ob c T)) : Turned w (w.setCell ⟨b, off, none⟩ v) b (ob (c.set off v) T) where
  os := rfl
  tape := rfl
  output := rfl
  drawn := rfl
  size := by simp [World.setCell]
  blk := by rw [setCell_heap hb]; simp
  ne := fun k hk => setCell_other hk
/-- A function without a body that stores into a cell of one's own. -/
theorem w_ext (hT : Tm n a E) (hL : Loc M w0 w cs) (hlt : d < n.n) {f : Operand} {xs : List Operand} {ts : Array TypeId} {g : FuncId} {first cap : Array Value} {vs : List Value} {args : Array Value} {v x : Value} {b off : Nat} {c c' : List Value} {T : TypeId} (i : Nat)
    (hf : evO E f = some (.func (.func g) first cap)) (hx : evL E xs = some vs) (ha : first ++ vs.toArray ++ cap = args) (hi : cs[i]? = some [(b, ob c T)]) (hc : c.set off x = c')
    (hr : (callFunc g args).run P w = .ok (.value v) (w.setCell ⟨b, off, none⟩ x))
    (k : ∀ a' w', Tm n a' ((d, v) :: E) → Loc M w0 w' (cs.set i [(b, ob c' T)]) → Turned w w' b (ob c' T) → K a' w') : Oper.wp P ⟨some d, .call { callee := .value f, args := xs.toArray, argTypes := ts }, ty, pos, af, gd⟩ a w K Q := by
  subst hc
  have hb := hL.get i hi
  have ht := turned_setCell (off := off) (v := x) hb
  refine w_val (v := v) (w' := w.setCell ⟨b, off, none⟩ x) ?_ (k _ _ (hT.put d hlt _) (hL.mod hi ht.os ht.tape ht.output ht.drawn ht.size ht.blk ht.ne) ht)
  simp [execOp, resolve, Deferred.ofValue, invoke, hT.ev hf, hT.evL hx]
  rw [← Array.append_assoc, ha]
  exact hr
theorem w_callT (hT : Tm n a E) {f : Operand} {xs : List Operand} {ts : Array TypeId} {fn : Func} {g : FuncId} {first cap : Array Value} {vs : List Value} {args : Array Value}
    (hf : evO E f = some (.func (.func g) first cap)) (hx : evL E xs = some vs) (ha : first ++ vs.toArray ++ cap = args) (hfn : P.funcs[g]? = some fn) (hname : (fn.name == "runtime.NumGoroutine") = false) (hb : fn.body.isSome = true) (hlt : d < n.n)
    (h : Calls P g args w fun e w' => ∃ v, e = .returned v ∧ ∀ a', Tm n a' ((d, v) :: E) → K a' w') : Oper.wp P ⟨some d, .call { callee := .value f, args := xs.toArray, argTypes := ts }, ty, pos, af, gd⟩ a w K Q :=
  w_call hT (some d) hf hx ha hfn hname hb (h.mono fun _ _ ⟨v, he, hk⟩ => ⟨v, he, hk _ (hT.put d hlt v)⟩)
end
end Go.Vg
end

section
namespace Go.Vg
open Go Go.Proofs.YtcaffacganffjaaDoorW.PrintLast

section
variable {P : Program} {n : Sh} {a : Act} {E : List (Nat × Value)} {w w0 : World} {M : List Nat} {cs : List Chunk} {Q : Exit → Act → World → Prop} {ops : Array Oper} {rest : List Oper} {o : Oper} {d : Nat}

/-! ### A region in its own order -/
theorem l_do (hg : o.guard = none) (h : o.wp P a w (wpList P ops Q rest) Q) : wpList P ops Q (o :: rest) a w := by
  unfold wpList
  rw [if_pos (by simp [Region.wanted, hg])]
  exact .inl h
theorem l_q (hT : Tm n a E) {v : Value} (hr : QR P a w o v) (hg : o.guard = none) (hd : o.dst = some d) (hlt : d < n.n) (k : ∀ a', Tm n a' ((d, v) :: E) → wpList P ops Q rest a' w) : wpList P ops Q (o :: rest) a w :=
  l_do hg (w_q hT hr hd hlt k)
theorem l_end (h : Q .normal a w) : wpList P ops Q [] a w := h

theorem yielded_of (hT : Tm n a E) {j dj : Nat} {oj : Oper} {b : Bool} (hj : ops[j]? = some oj) (hd : oj.dst = some dj) (hl : look E dj = some (.bool b)) : yielded ops a.tmps j = some b := by
  have := hT.get dj _ hl
  simp [yielded, hj, hd, this]
/-- A guarded operation that is wanted, or is not. -/
theorem l_on (hT : Tm n a E) {j dj : Nat} {oj : Oper} {b : Bool} (hg : o.guard = some (j, b)) (hj : ops[j]? = some oj) (hd : oj.dst = some dj) (hl : look E dj = some (.bool b)) (h : o.wp P a w (wpList P ops Q rest) Q) : wpList P ops Q (o :: rest) a w := by
  unfold wpList
  rw [if_pos (by simp [Region.wanted, hg, yielded_of hT hj hd hl])]
  exact .inl h
theorem l_off (hT : Tm n a E) {j dj : Nat} {oj : Oper} {b : Bool} (hg : o.guard = some (j, b)) (hj : ops[j]? = some oj) (hdj : oj.dst = some dj) (hl : look E dj = some (.bool (!b))) (hd : o.dst = some d) (hlt : d < n.n)
    (k : ∀ a', Tm n a' ((d, undef) :: E) → wpList P ops Q rest a' w) : wpList P ops Q (o :: rest) a w := by
  unfold wpList
  rw [if_neg (by simp [Region.wanted, hg, yielded_of hT hj hdj hl])]
  rw [hd]
  exact k _ (hT.put d hlt _)

theorem yielded_undef (hT : Tm n a E) {j dj : Nat} {oj : Oper} (hj : ops[j]? = some oj) (hd : oj.dst = some dj) (hl : look E dj = some undef) : yielded ops a.tmps j = none := by
  have := hT.get dj _ hl
  simp [yielded, hj, hd, this, undef]
theorem l_off' (hT : Tm n a E) {j dj : Nat} {oj : Oper} {b : Bool} (hg : o.guard = some (j, b)) (hj : ops[j]? = some oj) (hdj : oj.dst = some dj) (hl : look E dj = some undef) (hd : o.dst = some d) (hlt : d < n.n)
    (k : ∀ a', Tm n a' ((d, undef) :: E) → wpList P ops Q rest a' w) : wpList P ops Q (o :: rest) a w := by
  unfold wpList
  rw [if_neg (by simp [Region.wanted, hg, yielded_undef hT hj hdj hl])]
  rw [hd]
  exact k _ (hT.put d hlt _)

/-! ### A region in any order -/
section draw
variable {S : World → Prop} {ds : List Nat} {fuel : Nat} {l : Array Bool} {i : Nat}

theorem d_start {id m : Nat} (l : Array Bool) (S : World → Prop) (ds : List Nat) (hm : P.follows .mixedOrders = true) (hn : ops.size = m) (hl : Array.replicate m false = l) (hS : S w.drew)
    (h : wpAnyLast P .any ops Q S ds m l a w.drew) : (Code.region id ops true).wp P Q a w := start_ l hm hn hl hS (fun _ => h)

def wants (ops : Array Oper) (E : List (Nat × Value)) (o : Oper) : Bool :=
  match o.guard with
  | none => true
  | some (j, b) => match ops[j]? with
    | some oj => match oj.dst with
      | some dj => match look E dj with
        | some (.bool c) => c == b
        | _ => false
      | none => false
    | none => false
theorem wants_spec (hT : Tm n a E) (h : wants ops E o = true) : Region.wanted o (yielded ops a.tmps) = true := by
  unfold wants at h
  split at h
  · rename_i hg; simp [Region.wanted, hg]
  · rename_i j b hg
    split at h
    · rename_i oj hj
      split at h
      · rename_i dj hd
        split at h
        · rename_i c hl
          simp only [beq_iff_eq] at h
          subst h
          simp [Region.wanted, hg, yielded_of hT hj hd hl]
        · cases h
      · cases h
    · cases h
def wantsNot (ops : Array Oper) (E : List (Nat × Value)) (o : Oper) : Bool :=
  match o.guard with
  | none => false
  | some (j, b) => match ops[j]? with
    | some oj => match oj.dst with
      | some dj => match look E dj with
        | some (.bool c) => c == !b
        | some (.tuple _) => true
        | _ => false
      | none => false
    | none => false
theorem wantsNot_spec (hT : Tm n a E) (h : wantsNot ops E o = true) : Region.wanted o (yielded ops a.tmps) = false := by
  unfold wantsNot at h
  split at h
  · cases h
  · rename_i j b hg
    split at h
    · rename_i oj hj
      split at h
      · rename_i dj hd
        split at h
        · rename_i c hl
          simp only [beq_iff_eq] at h
          subst h
          simp [Region.wanted, hg, yielded_of hT hj hd hl]
        · rename_i vs hl
          have hy : yielded ops a.tmps j = none := by
            have := hT.get dj _ hl
            simp [yielded, hj, hd, this]
          simp [Region.wanted, hg, hy]
        · cases h
      · cases h
    · cases h

/-- A quiet operation is taken first: it reads what S tells. -/
theorem d_take (hT : Tm n a E) {v : Value} (l' : Array Bool) (hi : ops[i]? = some o) (hc : takeB .any ops ds l l' i = true) (hw : wants ops E o = true) (hd : o.dst = some d) (hlt : d < n.n)
    (hQ : ∀ c a w, Q (.panic c) (a.put o.dst v) w → Q (.panic c) a w) (hy : ∀ w', S w' → QR P a w' o v) (hS : S w)
    (k : ∀ a', Tm n a' ((d, v) :: E) → wpAnyLast P .any ops Q S ds fuel l' a' w) : wpAnyLast P .any ops Q S ds (fuel + 1) l a w :=
  take_ (N := some d) l' hi hd hc hQ (.inl ⟨wants_spec hT hw, hy⟩) hS rfl (k _ (hT.put d hlt v))
/-- One that yields in every world. -/
theorem d_pure (hT : Tm n a E) {v : Value} (l' : Array Bool) (hi : ops[i]? = some o) (hc : anyB .any ops l l' i = true) (hw : wants ops E o = true) (hd : o.dst = some d) (hlt : d < n.n)
    (hQ : ∀ c a w, Q (.panic c) (a.put o.dst v) w → Q (.panic c) a w) (hy : ∀ w', QR P a w' o v)
    (k : ∀ a', Tm n a' ((d, v) :: E) → wpAnyLast P .any ops Q S ds fuel l' a' w) : wpAnyLast P .any ops Q S ds (fuel + 1) l a w :=
  pure_ (N := some d) l' hi hd hc hQ (.inl ⟨wants_spec hT hw, hy⟩) rfl (k _ (hT.put d hlt v))
/-- One that is not carried out. -/
theorem d_off (hT : Tm n a E) (l' : Array Bool) (hi : ops[i]? = some o) (hc : anyB .any ops l l' i = true) (hw : wantsNot ops E o = true) (hd : o.dst = some d) (hlt : d < n.n)
    (hQ : ∀ c a w, Q (.panic c) (a.put o.dst undef) w → Q (.panic c) a w)
    (k : ∀ a', Tm n a' ((d, undef) :: E) → wpAnyLast P .any ops Q S ds fuel l' a' w) : wpAnyLast P .any ops Q S ds (fuel + 1) l a w :=
  pure_ (N := some d) l' hi hd hc hQ (.inr ⟨wantsNot_spec hT hw, rfl⟩) rfl (k _ (hT.put d hlt undef))
/-- The one that may come up now; S is shown behind it (not of those of ds). -/
theorem d_one (hT : Tm n a E) (l' : Array Bool) (hi : ops[i]? = some o) (hc : readyB .any ops l l' i = true) (hw : wants ops E o = true)
    (h : o.wp P a w (fun a' w' => (i ∉ ds → S w') ∧ wpAnyLast P .any ops Q S ds fuel l' a' w') Q) : wpAnyLast P .any ops Q S ds (fuel + 1) l a w := by
  simp only [readyB, Bool.and_eq_true, beq_iff_eq] at hc
  obtain ⟨h1, h2⟩ := hc
  subst h2
  refine wpAnyLast_all h1 (by simp) fun j hj => ?_
  simp only [List.mem_singleton] at hj
  subst hj
  unfold wpOp
  simp only [hi, wants_spec hT hw, if_true]
  refine .inl ?_
  unfold Oper.wp at h ⊢
  generalize (execOp a.eval o).run P w = r at h ⊢
  cases r with
  | ok x w' =>
    cases x <;> simp only [Oper.upon] at h ⊢ <;> first
      | exact ⟨fun hn _ => h.1 hn, h.2⟩
      | exact h
      | (refine Calls.mono h fun e w'' he => ?_
         cases e with
         | returned u => exact ⟨fun hn _ => he.1 hn, he.2⟩
         | panicked c => exact he
         | outgrown => exact he)
      | (refine Rows.mono h fun u w'' he => ⟨fun hn _ => he.1 hn, he.2⟩)
  | halt x w' => cases x <;> simp only [Oper.upon] at h ⊢ <;> exact h
theorem d_done (hr : (Region.ready .any ops l == []) = true) (h : Q .normal a w) : wpAnyLast P .any ops Q S ds fuel l a w := done_ hr h
end draw

/-! ### Code -/
theorem c_seq {x y : Code} (h : x.wp P (Exit.then (y.wp P Q) Q) a w) : (Code.seq x y).wp P Q a w := wp_seq h
theorem c_region {id : Nat} {l : List Oper} (h : wpList P l.toArray Q l a w) : (Code.region id l.toArray false).wp P Q a w := wp_region_lit h
theorem c_cut {x y : Code} (Mid : Act → World → Prop) (h : x.wp P (Exit.then Mid Q) a w) (hy : ∀ a w, Mid a w → y.wp P Q a w) : (Code.seq x y).wp P Q a w :=
  wp_seq (Code.wp_mono (fun e a w he => by cases e <;> first | exact hy _ _ he | exact he) h)
theorem c_if (hT : Tm n a E) {c : Operand} {x y : Code} {b : Bool} (hc : evO E c = some (.bool b)) (ht : b = true → x.wp P Q a w) (hf : b = false → y.wp P Q a w) : (Code.cond c x y).wp P Q a w :=
  wp_cond_split (hT.ev hc) ht hf
theorem c_true (hT : Tm n a E) {c : Operand} {x y : Code} {b : Bool} (hc : evO E c = some (.bool b)) (hb : b = true) (h : x.wp P Q a w) : (Code.cond c x y).wp P Q a w :=
  wp_cond_true (by rw [hT.ev hc, hb]) h
theorem c_false (hT : Tm n a E) {c : Operand} {x y : Code} {b : Bool} (hc : evO E c = some (.bool b)) (hb : b = false) (h : y.wp P Q a w) : (Code.cond c x y).wp P Q a w :=
  wp_cond_false (by rw [hT.ev hc, hb]) h

/-- A loop: what holds at its head is told with a state of its own, which also bears the measure. -/
theorem c_loop {σ : Type} {c : Code} (Inv : σ → Act → World → Prop) (μ : σ → Nat) (x0 : σ) (h0 : Inv x0 a w)
    (round : ∀ x a w, Inv x a w → c.wp P (Exit.then (fun a' w' => ∃ x', Inv x' a' w' ∧ μ x' < μ x) Q) a w) : (Code.loop c).wp P Q a w := by
  intro b k fs
  have key : ∀ m x a w, μ x = m → Inv x a w → ∃ e a' w', Q e a' w' ∧ Arrives P (lone (b.at a (.code c :: .inLoop c :: k)) fs w) b k fs e a' w' := by
    intro m
    induction m using Nat.strongRecOn with
    | _ m ih =>
      intro x a w hm hI
      obtain ⟨e, a₁, w₁, hq, harr⟩ := round x a w hI b (.inLoop c :: k) fs
      cases e with
      | normal =>
        obtain ⟨x', hI', hlt⟩ := hq
        obtain ⟨e₂, a₂, w₂, hq₂, harr₂⟩ := ih (μ x') (hm ▸ hlt) x' a₁ w₁ rfl hI'
        exact ⟨e₂, a₂, w₂, hq₂, .of_steps (Steps.trans harr (.one step_inLoop)) harr₂⟩
      | exit id => exact ⟨_, a₁, w₁, hq, .pass (x := .inLoop c) rfl (fun _ _ => .inl (by simp)) harr⟩
      | goto l => exact ⟨_, a₁, w₁, hq, .pass (x := .inLoop c) rfl (fun _ _ => .inl (by simp)) harr⟩
      | ret => exact ⟨_, a₁, w₁, hq, .pass (x := .inLoop c) rfl (fun _ _ => .inl (by simp)) harr⟩
      | panic ch => exact ⟨_, a₁, w₁, hq, .pass (x := .inLoop c) rfl (fun _ _ => .inl (by simp)) harr⟩
      | outgrown => exact ⟨_, a₁, w₁, hq, .pass (x := .inLoop c) rfl (fun _ _ => .inl (by simp)) harr⟩
  obtain ⟨e, a', w', hq, harr⟩ := key _ x0 a w rfl h0
  exact ⟨e, a', w', hq, .of_steps (.one step_loop) harr⟩

/-! ### Entry and end -/
theorem c_enter {f : FuncId} {fn : Func} {c : Code} {args : List Value} {R : Ending → World → Prop} {E : List (Nat × Value)} (hf : P.funcs[f]? = some fn) (hb : fn.body = some c) (hn : fn.ntmps = n.n) (hl : args.length ≤ n.n)
    (hE : (args.zipIdx.map fun p => (p.2, p.1)) = E) (h : ∀ a, Tm n a E → c.wp P (bodyPost P fn R) a w) (hds : n.ds = [] := by rfl) : Calls P f args.toArray w R := by
  obtain ⟨k, ds⟩ := n
  simp only at hn hds hl
  subst hds
  subst hn
  exact calls_of_wp hf hb (h _ (Tm.init args fn.ntmps hl hE))

theorem c_enterD {f : FuncId} {fn : Func} {c : Code} {args : List Value} {u : FrameMode} {R : Ending → World → Prop} {E : List (Nat × Value)} (hf : P.funcs[f]? = some fn) (hb : fn.body = some c) (hn : fn.ntmps = n.n) (hl : args.length ≤ n.n)
    (hE : (args.zipIdx.map fun p => (p.2, p.1)) = E) (h : ∀ a, Tm n a E → c.wp P (bodyPost P fn R) a w) (hds : n.ds = [] := by rfl) : CallsD P f args.toArray u w fun e u' w' => u' = u ∧ R e w' := by
  obtain ⟨k, ds⟩ := n
  simp only at hn hds hl
  subst hds
  subst hn
  exact callsD_of_wp hf hb (h _ (Tm.init args fn.ntmps hl hE))
/-- A function that defers. -/
theorem c_enter_defers {f : FuncId} {fn : Func} {c : Code} {args : List Value} {R : Ending → World → Prop} {E : List (Nat × Value)} (hf : P.funcs[f]? = some fn) (hb : fn.body = some c) (hn : fn.ntmps = n.n) (hl : args.length ≤ n.n)
    (hE : (args.zipIdx.map fun p => (p.2, p.1)) = E) (h : ∀ a, Tm n a E → c.wp P (bodyPostD P fn R) a w) (hds : n.ds = [] := by rfl) : Calls P f args.toArray w R := by
  obtain ⟨k, ds⟩ := n
  simp only at hn hds hl
  subst hds
  subst hn
  exact calls_of_wp_defers hf hb (h _ (Tm.init args fn.ntmps hl hE))
theorem c_door {fn : Func} {R : Ending → World → Prop} {D : List Deferred} (hT : Tm n a E) (hD : n.ds = D) (h : ∀ a, Tm n a E → Leaves P fn a.tmps R D .returning w) : bodyPostD P fn R .normal a w := by
  have := h a hT
  rw [← hD, ← hT.defers] at this
  exact this

/-- What a function hands back. -/
def resOne (P : Program) (w : World) (E : List (Nat × Value)) (r : ResultVar) (v : Value) : Prop :=
  match r with
  | .tmp t => look E t = some v
  | .cell t ty => ∃ b off m g z cs, look E t = some (vp b off) ∧ tyOf P ty = some (m, g, z) ∧ cs.length = m ∧ Rd w b off cs ∧ (if g then v = .agg cs.toArray else cs = [v])
inductive Res (P : Program) (w : World) (E : List (Nat × Value)) : List ResultVar → List Value → Prop where
  | nil : Res P w E [] []
  | tmp {t : Nat} {v : Value} {rs : List ResultVar} {vs : List Value} (h : look E t = some v) (hr : Res P w E rs vs) : Res P w E (.tmp t :: rs) (v :: vs)
  | agg {t : Nat} {ty : TypeId} {b off m : Nat} {z cs : List Value} {rs : List ResultVar} {vs : List Value} (h : look E t = some (vp b off)) (ht : tyOf P ty = some (m, true, z)) (hd : Rd w b off cs) (hm : cs.length = m) (hr : Res P w E rs vs) : Res P w E (.cell t ty :: rs) (.agg cs.toArray :: vs)
  | one {t : Nat} {ty : TypeId} {b off m : Nat} {z : List Value} {v : Value} {rs : List ResultVar} {vs : List Value} (h : look E t = some (vp b off)) (ht : tyOf P ty = some (m, false, z)) (hd : Rd w b off [v]) (hr : Res P w E rs vs) : Res P w E (.cell t ty :: rs) (v :: vs)

theorem asAddr_vp (b off : Nat) : asAddr (vp b off) = pure ⟨b, off, none⟩ := rfl
theorem Res.mapM {rs : List ResultVar} {vs : List Value} (h : Res P w E rs vs) (hT : Tm n a E) :
    (rs.mapM fun r => (match r with | .tmp t => (pure (a.tmps.getD t undef) : Sem Value) | .cell t ty => do loadVar ty (← asAddr (a.tmps.getD t undef)) : Sem Value)).run P w = .ok vs w := by
  induction h with
  | nil => simp
  | tmp h _ ih =>
    have := hT.ev (x := .tmp _) h
    simp only [Act.eval] at this
    simp only [List.mapM_cons, Sem.run_bind, ih, this, Sem.run_pure, Result.andThen_ok]
  | agg h ht hd hm _ ih =>
    have := hT.ev (x := .tmp _) h
    simp only [Act.eval] at this
    simp only [List.mapM_cons, Sem.run_bind, ih, this, Sem.run_pure, Result.andThen_ok, asAddr_vp, run_loadVar_agg ht hd hm]
  | one h ht hd _ ih =>
    have := hT.ev (x := .tmp _) h
    simp only [Act.eval] at this
    simp only [List.mapM_cons, Sem.run_bind, ih, this, Sem.run_pure, Result.andThen_ok, asAddr_vp, run_loadVar_prim ht hd]

def packed : List Value → Value
  | [v] => v
  | vs => .tuple vs.toArray

theorem Res.run {fn : Func} {vs : List Value} (h : Res P w E fn.results.toList vs) (hT : Tm n a E) : (results fn a.tmps).run P w = .ok (packed vs) w := by
  have hm := h.mapM hT
  have hl : fn.results = fn.results.toList.toArray := by simp
  unfold results
  rw [hl, List.mapM_toArray]
  simp only [Sem.run_bind, Sem.run_map]
  refine (congrArg (fun r => Result.andThen r _) (congrArg (fun r => Result.andThen r _) hm)).trans ?_
  simp only [Result.andThen_ok]
  match vs with
  | [] => simp [packed]
  | [v] => simp [packed]
  | v :: u :: r => simp [packed]

theorem c_ret {fn : Func} {R : Ending → World → Prop} {vs : List Value} {rs : List ResultVar} (hT : Tm n a E) (hrs : fn.results.toList = rs) (h : Res P w E rs vs) (hR : R (.returned (packed vs)) w) (hds : n.ds = [] := by rfl) : bodyPost P fn R .ret a w :=
  ⟨hT.defers.trans hds, _, (hrs ▸ h : Res P w E fn.results.toList vs).run hT, hR⟩
theorem c_fall {fn : Func} {R : Ending → World → Prop} {vs : List Value} {rs : List ResultVar} (hT : Tm n a E) (hrs : fn.results.toList = rs) (h : Res P w E rs vs) (hR : R (.returned (packed vs)) w) (hds : n.ds = [] := by rfl) : bodyPost P fn R .normal a w :=
  ⟨hT.defers.trans hds, _, (hrs ▸ h : Res P w E fn.results.toList vs).run hT, hR⟩
end
end Go.Vg
namespace Go.Vg
open Go
section
variable {P : Program} {a : Act} {w : World} {Q : Exit → Act → World → Prop} {next : Act → World → Prop} {id id' : Nat}
theorem then_norm (h : next a w) : Exit.then next Q .normal a w := h
theorem then_exit (h : Q (.exit id) a w) : Exit.then next Q (.exit id) a w := h
theorem then_ret (h : Q .ret a w) : Exit.then next Q .ret a w := h
theorem blk_norm (h : Q .normal a w) : Exit.inBlock id Q .normal a w := h
theorem blk_ret (h : Q .ret a w) : Exit.inBlock id Q .ret a w := h
theorem blk_exit (h : Q .normal a w) : Exit.inBlock id Q (.exit id) a w := by simp [Exit.inBlock]; exact h
theorem blk_pass (hn : id' ≠ id) (h : Q (.exit id') a w) : Exit.inBlock id Q (.exit id') a w := by simp only [Exit.inBlock, hn, if_false]; exact h
end

theorem QR.b {P : Program} {a : Act} {w : World} {o : Oper} {c b : Bool} (h : QR P a w o (.bool c)) (hc : c = b) : QR P a w o (.bool b) := hc ▸ h
theorem QR.v {P : Program} {a : Act} {w : World} {o : Oper} {u v : Value} (h : QR P a w o u) (hc : u = v) : QR P a w o v := hc ▸ h

theorem d_start' {P : Program} {a : Act} {w w0 : World} {M : List Nat} {cs : List Chunk} {Q : Exit → Act → World → Prop} {ops : Array Oper} (hL : Loc M w0 w cs) {id m : Nat} (l : Array Bool) (ds : List Nat) (hm : P.follows .mixedOrders = true) (hn : ops.size = m) (hl : Array.replicate m false = l)
    (h : ∀ ws, Loc M w0 ws cs → Ext w ws → Go.Proofs.YtcaffacganffjaaDoorW.PrintLast.wpAnyLast P .any ops Q (fun w' => Ext ws w') ds m l a ws) : (Code.region id ops true).wp P Q a w :=
  d_start l (fun w' => Ext w.drew w') ds hm hn hl (Ext.refl _) (h _ hL.drew (Loc.drew (Ext.refl _)))

/-- The same, where calls of the region may turn some blocks. -/
theorem d_startM {P : Program} {a : Act} {w w0 : World} {M : List Nat} {cs : List Chunk} {Q : Exit → Act → World → Prop} {ops : Array Oper} (hL : Loc M w0 w cs) (MS : List Nat) {id m : Nat} (l : Array Bool) (ds : List Nat) (hm : P.follows .mixedOrders = true) (hn : ops.size = m) (hl : Array.replicate m false = l)
    (h : ∀ ws, Loc M w0 ws cs → Loc MS ws ws [] → Go.Proofs.YtcaffacganffjaaDoorW.PrintLast.wpAnyLast P .any ops Q (fun w' => Loc MS ws w' []) ds m l a ws) : (Code.region id ops true).wp P Q a w :=
  d_start l (fun w' => Loc MS w.drew w' []) ds hm hn hl ⟨rfl, rfl, rfl, Nat.le_refl _, Nat.le_refl _, fun _ _ _ => rfl, List.nodup_nil, by simp [keys], by simp⟩ (h _ hL.drew ⟨rfl, rfl, rfl, Nat.le_refl _, Nat.le_refl _, fun _ _ _ => rfl, List.nodup_nil, by simp [keys], by simp⟩)

/-- A slice that can be read: the cells of its i-th element. -/
structure SlR (w : World) (p : Option Addr) (len k : Nat) (f : Nat → List Value) : Prop where
  ad : 0 < len → ∃ b off, p = some ⟨b, off, none⟩
  rd : ∀ i, i < len → ∀ b off, p = some ⟨b, off, none⟩ → Rd w b (off + i * k) (f i)
theorem SlR.mono {w w' : World} {p : Option Addr} {len k : Nat} {f : Nat → List Value} (h : SlR w p len k f) (he : ∀ b, (∃ off, p = some ⟨b, off, none⟩) → ∀ o, w.heap[b]? = some o → w'.heap[b]? = some o) : SlR w' p len k f :=
  ⟨h.ad, fun i hi b off hp => (h.rd i hi b off hp).mono (he b ⟨off, hp⟩)⟩
theorem SlR.ext {w w' : World} {p : Option Addr} {len k : Nat} {f : Nat → List Value} {cs : List Chunk} (h : SlR w p len k f) (he : Loc [] w w' cs) : SlR w' p len k f :=
  h.mono fun _ _ _ ho => he.kept ho (by simp)
end Go.Vg
end

section
namespace Go.Vg
open Go

def shr8 (x : UInt8) (s : Nat) : UInt8 := UInt8.ofNat (x.toNat >>> s)
def shl8 (x : UInt8) (s : Nat) : UInt8 := UInt8.ofNat (x.toNat <<< s)
def shr32 (x : UInt32) (s : Nat) : UInt32 := UInt32.ofNat (x.toNat >>> s)
def shl32 (x : UInt32) (s : Nat) : UInt32 := UInt32.ofNat (x.toNat <<< s)
def shr64 (x : UInt64) (s : Nat) : UInt64 := UInt64.ofNat (x.toNat >>> s)
def shl64 (x : UInt64) (s : Nat) : UInt64 := UInt64.ofNat (x.toNat <<< s)

section
variable {P : Program} {n : Sh} {a : Act} {E : List (Nat × Value)} {w : World} {dst : Option Tmp} {ty : TypeId} {pos : String} {af : Array Edge} {gd : Option (Nat × Bool)} {t yt : TypeId} {x y : Operand}

theorem wrapNat (k : IntKind) (h : k.signed = false) (z : Nat) : k.wrap (z : Int) = ((z % 2 ^ k.bits : Nat) : Int) := by
  simp only [IntKind.wrap, h, Bool.false_and]
  simp

theorem q_add32 (hT : Tm n a E) {u v : UInt32} (hx : evO E x = some (v32 u)) (hy : evO E y = some (v32 v)) : QR P a w ⟨dst, .binOp .add t x y yt, ty, pos, af, gd⟩ (v32 (u + v)) := by
  have := q_add (P := P) (w := w) (dst := dst) (ty := ty) (pos := pos) (af := af) (gd := gd) (t := t) (yt := yt) hT hx hy
  rw [← Int.natCast_add, wrapNat .u32 rfl] at this
  simpa [v32, UInt32.toNat_add, IntKind.bits] using this
theorem q_add8 (hT : Tm n a E) {u v : UInt8} (hx : evO E x = some (v8 u)) (hy : evO E y = some (v8 v)) : QR P a w ⟨dst, .binOp .add t x y yt, ty, pos, af, gd⟩ (v8 (u + v)) := by
  have := q_add (P := P) (w := w) (dst := dst) (ty := ty) (pos := pos) (af := af) (gd := gd) (t := t) (yt := yt) hT hx hy
  rw [← Int.natCast_add, wrapNat .u8 rfl] at this
  simpa [v8, UInt8.toNat_add, IntKind.bits] using this
theorem q_add64 (hT : Tm n a E) {u v : UInt64} (hx : evO E x = some (v64 u)) (hy : evO E y = some (v64 v)) : QR P a w ⟨dst, .binOp .add t x y yt, ty, pos, af, gd⟩ (v64 (u + v)) := by
  have := q_add (P := P) (w := w) (dst := dst) (ty := ty) (pos := pos) (af := af) (gd := gd) (t := t) (yt := yt) hT hx hy
  rw [← Int.natCast_add, wrapNat .u64 rfl] at this
  simpa [v64, UInt64.toNat_add, IntKind.bits] using this
theorem q_mul64 (hT : Tm n a E) {u v : UInt64} (hx : evO E x = some (v64 u)) (hy : evO E y = some (v64 v)) : QR P a w ⟨dst, .binOp .mul t x y yt, ty, pos, af, gd⟩ (v64 (u * v)) := by
  have := q_mul (P := P) (w := w) (dst := dst) (ty := ty) (pos := pos) (af := af) (gd := gd) (t := t) (yt := yt) hT hx hy
  rw [← Int.natCast_mul, wrapNat .u64 rfl] at this
  simpa [v64, UInt64.toNat_mul, IntKind.bits] using this

theorem bits_run (op : BinOp) (k : IntKind) (hk : k.signed = false) (u v : Nat) (hu : u < 2 ^ k.bits) (hv : v < 2 ^ k.bits) (r : Nat) (hr : (op = .and ∧ r = u &&& v) ∨ (op = .or ∧ r = u ||| v) ∨ (op = .xor ∧ r = u ^^^ v)) :
    (Op.intBits op k (u : Int) (v : Int)).run P w = .ok (.int k (r : Int)) w := by
  have e1 : BitVec.ofInt k.bits (u : Int) = BitVec.ofNat k.bits u := BitVec.ofInt_natCast _ _
  have e2 : BitVec.ofInt k.bits (v : Int) = BitVec.ofNat k.bits v := BitVec.ofInt_natCast _ _
  have hu' : u % 2 ^ k.bits = u := Nat.mod_eq_of_lt hu
  have hv' : v % 2 ^ k.bits = v := Nat.mod_eq_of_lt hv
  rcases hr with ⟨rfl, rfl⟩ | ⟨rfl, rfl⟩ | ⟨rfl, rfl⟩
  · simp only [Op.intBits, e1, e2, BitVec.toNat_and, BitVec.toNat_ofNat, hu', hv', wrapNat k hk, Sem.run_pure]
    rw [Nat.mod_eq_of_lt (Nat.lt_of_le_of_lt Nat.and_le_left hu)]
  · simp only [Op.intBits, e1, e2, BitVec.toNat_or, BitVec.toNat_ofNat, hu', hv', wrapNat k hk, Sem.run_pure]
    rw [Nat.mod_eq_of_lt (Nat.or_lt_two_pow hu hv)]
  · simp only [Op.intBits, e1, e2, BitVec.toNat_xor, BitVec.toNat_ofNat, hu', hv', wrapNat k hk, Sem.run_pure]
    rw [Nat.mod_eq_of_lt (Nat.xor_lt_two_pow hu hv)]

theorem q_bits (hT : Tm n a E) {op : BinOp} {k : IntKind} {u v : Nat} (hx : evO E x = some (.int k u)) (hy : evO E y = some (.int k v)) (hk : k.signed = false) (hu : u < 2 ^ k.bits) (hv : v < 2 ^ k.bits) {r : Nat}
    (hr : (op = .and ∧ r = u &&& v) ∨ (op = .or ∧ r = u ||| v) ∨ (op = .xor ∧ r = u ^^^ v)) : QR P a w ⟨dst, .binOp op t x y yt, ty, pos, af, gd⟩ (.int k (r : Int)) :=
  q_bin hT hx hy run_guard_int (by
    have := bits_run (P := P) (w := w) op k hk u v hu hv r hr
    rcases hr with ⟨rfl, _⟩ | ⟨rfl, _⟩ | ⟨rfl, _⟩ <;> simpa [binOp] using this)

theorem q_and8 (hT : Tm n a E) {u v : UInt8} (hx : evO E x = some (v8 u)) (hy : evO E y = some (v8 v)) : QR P a w ⟨dst, .binOp .and t x y yt, ty, pos, af, gd⟩ (v8 (u &&& v)) :=
  q_bits hT hx hy rfl u.toNat_lt v.toNat_lt (.inl ⟨rfl, by simp⟩)
theorem q_or8 (hT : Tm n a E) {u v : UInt8} (hx : evO E x = some (v8 u)) (hy : evO E y = some (v8 v)) : QR P a w ⟨dst, .binOp .or t x y yt, ty, pos, af, gd⟩ (v8 (u ||| v)) :=
  q_bits hT hx hy rfl u.toNat_lt v.toNat_lt (.inr (.inl ⟨rfl, by simp⟩))
theorem q_xor8 (hT : Tm n a E) {u v : UInt8} (hx : evO E x = some (v8 u)) (hy : evO E y = some (v8 v)) : QR P a w ⟨dst, .binOp .xor t x y yt, ty, pos, af, gd⟩ (v8 (u ^^^ v)) :=
  q_bits hT hx hy rfl u.toNat_lt v.toNat_lt (.inr (.inr ⟨rfl, by simp⟩))
theorem q_and32 (hT : Tm n a E) {u v : UInt32} (hx : evO E x = some (v32 u)) (hy : evO E y = some (v32 v)) : QR P a w ⟨dst, .binOp .and t x y yt, ty, pos, af, gd⟩ (v32 (u &&& v)) :=
  q_bits hT hx hy rfl u.toNat_lt v.toNat_lt (.inl ⟨rfl, by simp⟩)
theorem q_or32 (hT : Tm n a E) {u v : UInt32} (hx : evO E x = some (v32 u)) (hy : evO E y = some (v32 v)) : QR P a w ⟨dst, .binOp .or t x y yt, ty, pos, af, gd⟩ (v32 (u ||| v)) :=
  q_bits hT hx hy rfl u.toNat_lt v.toNat_lt (.inr (.inl ⟨rfl, by simp⟩))
theorem q_xor32 (hT : Tm n a E) {u v : UInt32} (hx : evO E x = some (v32 u)) (hy : evO E y = some (v32 v)) : QR P a w ⟨dst, .binOp .xor t x y yt, ty, pos, af, gd⟩ (v32 (u ^^^ v)) :=
  q_bits hT hx hy rfl u.toNat_lt v.toNat_lt (.inr (.inr ⟨rfl, by simp⟩))
theorem q_and64 (hT : Tm n a E) {u v : UInt64} (hx : evO E x = some (v64 u)) (hy : evO E y = some (v64 v)) : QR P a w ⟨dst, .binOp .and t x y yt, ty, pos, af, gd⟩ (v64 (u &&& v)) :=
  q_bits hT hx hy rfl u.toNat_lt v.toNat_lt (.inl ⟨rfl, by simp⟩)
theorem q_or64 (hT : Tm n a E) {u v : UInt64} (hx : evO E x = some (v64 u)) (hy : evO E y = some (v64 v)) : QR P a w ⟨dst, .binOp .or t x y yt, ty, pos, af, gd⟩ (v64 (u ||| v)) :=
  q_bits hT hx hy rfl u.toNat_lt v.toNat_lt (.inr (.inl ⟨rfl, by simp⟩))

theorem shl_run (k yk : IntKind) (hk : k.signed = false) (u s : Nat) (hs : s ≤ k.bits) : (Op.shift .shl k (u : Int) yk (s : Int)).run P w = .ok (.int k (((u <<< s) % 2 ^ k.bits : Nat) : Int)) w := by
  have h0 : ¬ ((s : Int) < 0) := by omega
  have e : ((u : Int) * 2 ^ s) = ((u <<< s : Nat) : Int) := by rw [Nat.shiftLeft_eq]; simp
  simp only [Op.shift, h0, if_false, Int.toNat_natCast, Nat.min_eq_left hs, e, wrapNat k hk, Sem.run_pure]
theorem shr_run (k yk : IntKind) (u s : Nat) (hs : s ≤ k.bits) : (Op.shift .shr k (u : Int) yk (s : Int)).run P w = .ok (.int k ((u >>> s : Nat) : Int)) w := by
  have h0 : ¬ ((s : Int) < 0) := by omega
  have e : (u : Int).fdiv (2 ^ s) = ((u >>> s : Nat) : Int) := by
    rw [Nat.shiftRight_eq_div_pow]
    rw [Int.fdiv_eq_ediv_of_nonneg _ (by exact_mod_cast Nat.zero_le (2 ^ s))]
    simp
  simp only [Op.shift, h0, if_false, Int.toNat_natCast, Nat.min_eq_left hs, e, Sem.run_pure]

theorem q_shl (hT : Tm n a E) {k yk : IntKind} {u s : Nat} (hx : evO E x = some (.int k u)) (hy : evO E y = some (.int yk s)) (hk : k.signed = false) (hs : s ≤ k.bits) : QR P a w ⟨dst, .binOp .shl t x y yt, ty, pos, af, gd⟩ (.int k (((u <<< s) % 2 ^ k.bits : Nat) : Int)) :=
  q_bin hT hx hy run_guard_int (by simpa [binOp] using shl_run (P := P) (w := w) k yk hk u s hs)
theorem q_shr (hT : Tm n a E) {k yk : IntKind} {u s : Nat} (hx : evO E x = some (.int k u)) (hy : evO E y = some (.int yk s)) (hs : s ≤ k.bits) : QR P a w ⟨dst, .binOp .shr t x y yt, ty, pos, af, gd⟩ (.int k ((u >>> s : Nat) : Int)) :=
  q_bin hT hx hy run_guard_int (by simpa [binOp] using shr_run (P := P) (w := w) k yk u s hs)

theorem q_shl8 (hT : Tm n a E) {yk : IntKind} {u : UInt8} {s : Nat} (hx : evO E x = some (v8 u)) (hy : evO E y = some (.int yk s)) (hs : s ≤ 8) : QR P a w ⟨dst, .binOp .shl t x y yt, ty, pos, af, gd⟩ (v8 (shl8 u s)) := by
  have := q_shl (P := P) (w := w) (dst := dst) (ty := ty) (pos := pos) (af := af) (gd := gd) (t := t) (yt := yt) hT hx hy rfl hs
  simpa [v8, shl8, IntKind.bits] using this
theorem q_shl32 (hT : Tm n a E) {yk : IntKind} {u : UInt32} {s : Nat} (hx : evO E x = some (v32 u)) (hy : evO E y = some (.int yk s)) (hs : s ≤ 32) : QR P a w ⟨dst, .binOp .shl t x y yt, ty, pos, af, gd⟩ (v32 (shl32 u s)) := by
  have := q_shl (P := P) (w := w) (dst := dst) (ty := ty) (pos := pos) (af := af) (gd := gd) (t := t) (yt := yt) hT hx hy rfl hs
  simpa [v32, shl32, IntKind.bits] using this
theorem q_shl64 (hT : Tm n a E) {yk : IntKind} {u : UInt64} {s : Nat} (hx : evO E x = some (v64 u)) (hy : evO E y = some (.int yk s)) (hs : s ≤ 64) : QR P a w ⟨dst, .binOp .shl t x y yt, ty, pos, af, gd⟩ (v64 (shl64 u s)) := by
  have := q_shl (P := P) (w := w) (dst := dst) (ty := ty) (pos := pos) (af := af) (gd := gd) (t := t) (yt := yt) hT hx hy rfl hs
  simpa [v64, shl64, IntKind.bits] using this
theorem shr_lt {u m : Nat} (s : Nat) (h : u < m) : u >>> s < m := Nat.lt_of_le_of_lt (Nat.shiftRight_le u s) h
theorem q_shr8 (hT : Tm n a E) {yk : IntKind} {u : UInt8} {s : Nat} (hx : evO E x = some (v8 u)) (hy : evO E y = some (.int yk s)) (hs : s ≤ 8) : QR P a w ⟨dst, .binOp .shr t x y yt, ty, pos, af, gd⟩ (v8 (shr8 u s)) := by
  have := q_shr (P := P) (w := w) (dst := dst) (ty := ty) (pos := pos) (af := af) (gd := gd) (t := t) (yt := yt) hT hx hy hs
  have e : (shr8 u s).toNat = u.toNat >>> s := by simp only [shr8, UInt8.toNat_ofNat']; exact Nat.mod_eq_of_lt (shr_lt s u.toNat_lt)
  simpa [v8, e] using this
theorem q_shr32 (hT : Tm n a E) {yk : IntKind} {u : UInt32} {s : Nat} (hx : evO E x = some (v32 u)) (hy : evO E y = some (.int yk s)) (hs : s ≤ 32) : QR P a w ⟨dst, .binOp .shr t x y yt, ty, pos, af, gd⟩ (v32 (shr32 u s)) := by
  have := q_shr (P := P) (w := w) (dst := dst) (ty := ty) (pos := pos) (af := af) (gd := gd) (t := t) (yt := yt) hT hx hy hs
  have e : (shr32 u s).toNat = u.toNat >>> s := by simp only [shr32, UInt32.toNat_ofNat']; exact Nat.mod_eq_of_lt (shr_lt s u.toNat_lt)
  simpa [v32, e] using this
theorem q_shr64 (hT : Tm n a E) {yk : IntKind} {u : UInt64} {s : Nat} (hx : evO E x = some (v64 u)) (hy : evO E y = some (.int yk s)) (hs : s ≤ 64) : QR P a w ⟨dst, .binOp .shr t x y yt, ty, pos, af, gd⟩ (v64 (shr64 u s)) := by
  have := q_shr (P := P) (w := w) (dst := dst) (ty := ty) (pos := pos) (af := af) (gd := gd) (t := t) (yt := yt) hT hx hy hs
  have e : (shr64 u s).toNat = u.toNat >>> s := by simp only [shr64, UInt64.toNat_ofNat']; exact Nat.mod_eq_of_lt (shr_lt s u.toNat_lt)
  simpa [v64, e] using this

/-! conversions -/
theorem q_conv (hT : Tm n a E) {s d : TypeId} {k k' : IntKind} {u : Nat} {ds : TypeDesc} (hx : evO E x = some (.int k u)) (hs : P.underlying s = some ds) (hd : P.underlying d = some (.int k')) (hk : k'.signed = false) : QR P a w ⟨dst, .convert s d x, ty, pos, af, gd⟩ (.int k' ((u % 2 ^ k'.bits : Nat) : Int)) := by
  have := q_conv_int (P := P) (w := w) (dst := dst) (ty := ty) (pos := pos) (af := af) (gd := gd) hT hx hs hd
  rwa [wrapNat k' hk] at this
theorem q_conv_8_32 (hT : Tm n a E) {s d : TypeId} {u : UInt8} {ds : TypeDesc} (hx : evO E x = some (v8 u)) (hs : P.underlying s = some ds) (hd : P.underlying d = some (.int .u32)) : QR P a w ⟨dst, .convert s d x, ty, pos, af, gd⟩ (v32 u.toUInt32) := by
  have := q_conv (P := P) (w := w) (dst := dst) (ty := ty) (pos := pos) (af := af) (gd := gd) hT hx hs hd rfl
  have h : u.toNat % 2 ^ 32 = u.toNat := Nat.mod_eq_of_lt (by have := u.toNat_lt; omega)
  simpa [v32, IntKind.bits, h] using this
theorem q_conv_32_8 (hT : Tm n a E) {s d : TypeId} {u : UInt32} {ds : TypeDesc} (hx : evO E x = some (v32 u)) (hs : P.underlying s = some ds) (hd : P.underlying d = some (.int .u8)) : QR P a w ⟨dst, .convert s d x, ty, pos, af, gd⟩ (v8 u.toUInt8) := by
  have := q_conv (P := P) (w := w) (dst := dst) (ty := ty) (pos := pos) (af := af) (gd := gd) hT hx hs hd rfl
  simpa [v8, IntKind.bits] using this
theorem q_conv_64_8 (hT : Tm n a E) {s d : TypeId} {u : UInt64} {ds : TypeDesc} (hx : evO E x = some (v64 u)) (hs : P.underlying s = some ds) (hd : P.underlying d = some (.int .u8)) : QR P a w ⟨dst, .convert s d x, ty, pos, af, gd⟩ (v8 u.toUInt8) := by
  have := q_conv (P := P) (w := w) (dst := dst) (ty := ty) (pos := pos) (af := af) (gd := gd) hT hx hs hd rfl
  simpa [v8, IntKind.bits] using this
theorem q_conv_8_i (hT : Tm n a E) {s d : TypeId} {u : UInt8} {ds : TypeDesc} (hx : evO E x = some (v8 u)) (hs : P.underlying s = some ds) (hd : P.underlying d = some (.int .i64)) : QR P a w ⟨dst, .convert s d x, ty, pos, af, gd⟩ (vI (u.toNat : Int)) := by
  have := q_conv_int (P := P) (w := w) (dst := dst) (ty := ty) (pos := pos) (af := af) (gd := gd) hT hx hs hd
  rwa [wrap_i64_id (by omega) (by have := u.toNat_lt; omega)] at this
theorem q_conv_i_64 (hT : Tm n a E) {s d : TypeId} {u : Nat} {ds : TypeDesc} (hx : evO E x = some (vI (u : Int))) (hs : P.underlying s = some ds) (hd : P.underlying d = some (.int .u64)) : QR P a w ⟨dst, .convert s d x, ty, pos, af, gd⟩ (v64 (UInt64.ofNat u)) := by
  have := q_conv (P := P) (w := w) (dst := dst) (ty := ty) (pos := pos) (af := af) (gd := gd) hT hx hs hd rfl
  simpa [v64, IntKind.bits] using this
theorem q_conv_i_8 (hT : Tm n a E) {s d : TypeId} {u : Nat} {ds : TypeDesc} (hx : evO E x = some (vI (u : Int))) (hs : P.underlying s = some ds) (hd : P.underlying d = some (.int .u8)) : QR P a w ⟨dst, .convert s d x, ty, pos, af, gd⟩ (v8 (UInt8.ofNat u)) := by
  have := q_conv (P := P) (w := w) (dst := dst) (ty := ty) (pos := pos) (af := af) (gd := gd) hT hx hs hd rfl
  simpa [v8, IntKind.bits] using this
theorem q_conv_i_i (hT : Tm n a E) {s d : TypeId} {i : Int} {ds : TypeDesc} (hx : evO E x = some (vI i)) (hs : P.underlying s = some ds) (hd : P.underlying d = some (.int .i64)) (h0 : -9223372036854775808 ≤ i) (h1 : i < 9223372036854775808) : QR P a w ⟨dst, .convert s d x, ty, pos, af, gd⟩ (vI i) := by
  have := q_conv_int (P := P) (w := w) (dst := dst) (ty := ty) (pos := pos) (af := af) (gd := gd) hT hx hs hd
  rwa [wrap_i64_id h0 h1] at this
theorem q_eq8 (hT : Tm n a E) {u v : UInt8} (hx : evO E x = some (v8 u)) (hy : evO E y = some (v8 v)) : QR P a w ⟨dst, .binOp .eql t x y yt, ty, pos, af, gd⟩ (.bool (decide (u = v))) := by
  have := q_eql (P := P) (w := w) (dst := dst) (ty := ty) (pos := pos) (af := af) (gd := gd) (t := t) (yt := yt) hT hx hy
  have e : decide ((u.toNat : Int) = v.toNat) = decide (u = v) := by
    refine decide_eq_decide.2 ?_; rw [Int.natCast_inj, UInt8.toNat_inj]
  rwa [e] at this
theorem q_ne8 (hT : Tm n a E) {u v : UInt8} (hx : evO E x = some (v8 u)) (hy : evO E y = some (v8 v)) : QR P a w ⟨dst, .binOp .neq t x y yt, ty, pos, af, gd⟩ (.bool (decide (u ≠ v))) := by
  have := q_neq (P := P) (w := w) (dst := dst) (ty := ty) (pos := pos) (af := af) (gd := gd) (t := t) (yt := yt) hT hx hy
  have e : decide ((u.toNat : Int) ≠ v.toNat) = decide (u ≠ v) := by
    refine decide_eq_decide.2 ?_; rw [ne_eq, Int.natCast_inj, UInt8.toNat_inj]
  rwa [e] at this
end
end Go.Vg
end
