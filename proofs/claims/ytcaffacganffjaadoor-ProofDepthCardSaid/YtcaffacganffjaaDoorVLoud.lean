/- What makes memory, writes, or calls; regions, branches, loops, a function's entry and its end. -/
import Derived.Test.YtcaffacganffjaaDoorVQuiet
import Derived.Test.YtcaffacganffjaaDoorWLast
namespace Go.Vg
open Go

theorem Rd.c0 {w : World} {b off : Nat} {v : Value} (h : Rd w b off [v]) : w.cell? ⟨b, off, none⟩ = some v := by simpa using h.cell (i := 0) (v := v) rfl
theorem Loc.warm {M : List Nat} {w0 w : World} {cs : List Chunk} (h : Loc M w0 w cs) (i : Nat) {b off : Nat} {c : List Value} {T : TypeId} (hi : cs[i]? = some [(b, ob c T)]) : w.frozen? ⟨b, off, none⟩ = false := by
  simp [World.frozen?, h.get i hi]
section
variable {P : Program} {n : Sh} {a : Act} {E : List (Nat × Value)} {w w0 : World} {M : List Nat} {cs : List Chunk} {K : Act → World → Prop} {Q : Exit → Act → World → Prop}
  {ty : TypeId} {pos : String} {af : Array Edge} {gd : Option (Nat × Bool)} {d : Nat}

theorem Ext.push (w : World) (o : Obj) : Ext w { w with heap := w.heap.push o } := ((Loc.refl [] w).alloc o).drop
theorem Ext.turned {w w1 w2 : World} {b : Nat} {o : Obj} (h : Ext w w1) (ht : Turned w1 w2 b o) (hb : w.heap.size ≤ b) : Ext w w2 :=
  ⟨ht.os.trans h.os, ht.tape.trans h.tape, ht.output.trans h.output, by rw [ht.drawn]; exact h.drawn, by rw [ht.size]; exact h.size, fun k hk hm => by rw [ht.ne k (by omega)]; exact h.old k hk hm, List.nodup_nil, by simp [keys], by simp⟩

theorem w_val {o : Oper} {v : Value} {w' : World} (hr : (execOp a.eval o).run P w = .ok (.value v) w') (hk : K (a.put o.dst v) w') : o.wp P a w K Q := by
  unfold Oper.wp; rw [hr]; exact hk
theorem w_skip {o : Oper} {w' : World} (hr : (execOp a.eval o).run P w = .ok .skip w') (hd : o.dst = none) (hk : K a w') : o.wp P a w K Q := by
  unfold Oper.wp; rw [hr]; simp only [Oper.upon, hd]; exact hk
theorem w_q {o : Oper} {v : Value} (hT : Tm n a E) (hr : QR P a w o v) (hd : o.dst = some d) (hlt : d < n.n) (k : ∀ a', Tm n a' ((d, v) :: E) → K a' w) : o.wp P a w K Q :=
  w_val hr (by rw [hd]; exact k _ (hT.put d hlt v))

theorem w_alloc (hT : Tm n a E) (hL : Loc M w0 w cs) (hlt : d < n.n) {t : TypeId} {m : Nat} {g : Bool} {z : List Value} (ht : tyOf P t = some (m, g, z))
    (k : ∀ b a' w', Tm n a' ((d, vp b 0) :: E) → Loc M w0 w' ([(b, ob z t)] :: cs) → Ext w w' → w.heap.size ≤ b → K a' w') : Oper.wp P ⟨some d, .alloc t, ty, pos, af, gd⟩ a w K Q := by
  obtain ⟨zz, hz, hc⟩ := run_zeroValue (P := P) ht w
  have ha : (zz.cells) = z.toArray := by rw [← hc]
  refine w_val (v := vp w.heap.size 0) (w' := { w with heap := w.heap.push (ob z t) }) ?_ (k _ _ _ (hT.put d hlt _) (hL.alloc _) (Ext.push _ _) (Nat.le_refl _))
  simp [execOp, Instr.alloc, hz, newVar, newRow, newObj, Sem.run, ha]

theorem w_box (hT : Tm n a E) (hL : Loc M w0 w cs) (hlt : d < n.n) {t : TypeId} {x : Operand} {v : Value} {c : List Value} (hx : evO E x = some v) (hc : v.cells.toList = c)
    (k : ∀ b a' w', Tm n a' ((d, vp b 0) :: E) → Loc M w0 w' ([(b, ob c t)] :: cs) → Ext w w' → w.heap.size ≤ b → K a' w') : Oper.wp P ⟨some d, .box t x, ty, pos, af, gd⟩ a w K Q := by
  have ha : v.cells = c.toArray := by rw [← hc]
  refine w_val (v := vp w.heap.size 0) (w' := { w with heap := w.heap.push (ob c t) }) ?_ (k _ _ _ (hT.put d hlt _) (hL.alloc _) (Ext.push _ _) (Nat.le_refl _))
  simp [execOp, Instr.box, hT.ev hx, newVar, newRow, newObj, Sem.run, ha]

theorem w_store (hT : Tm n a E) (hL : Loc M w0 w cs) {t T : TypeId} {x y : Operand} {b off m : Nat} {g : Bool} {z c c' vs : List Value} {v : Value} (i : Nat)
    (hx : evO E x = some (vp b off)) (hy : evO E y = some v) (ht : tyOf P t = some (m, g, z)) (hi : cs[i]? = some [(b, ob c T)]) (hv : v.cells.toList = vs) (hn : vs.length = m)
    (hl : off + vs.length ≤ c.length) (ho : oneCells vs = true) (hc : lay c off vs = c')
    (k : ∀ w', Loc M w0 w' (cs.set i [(b, ob c' T)]) → Turned w w' b (ob c' T) → K a w') : Oper.wp P ⟨none, .store t x y, ty, pos, af, gd⟩ a w K Q := by
  have hb : w.heap[b]? = some (ob c T) := hL.has (b, ob c T) (List.mem_flatten.2 ⟨_, List.mem_of_getElem? hi, by simp⟩)
  subst hv
  subst hc
  obtain ⟨w', hr, hw⟩ := run_storeVar (P := P) (v := v) ht hb (by simpa using hn) (by rw [← hn]; exact hl) ho
  refine w_skip (w' := w') ?_ rfl (k w' (hL.mod hi hw.os hw.tape hw.output hw.drawn hw.size hw.blk hw.ne) hw)
  simp [execOp, Instr.storeAt, Instr.sureAddr, hT.ev hx, hT.ev hy, hr]

def evP (E : List (Nat × Value)) : List (Nat × Operand) → Option (List (Nat × Value))
  | [] => some []
  | (i, x) :: r => match evO E x, evP E r with
    | some v, some vs => some ((i, v) :: vs)
    | _, _ => none
theorem Tm.evP (h : Tm n a E) : ∀ {ps : List (Nat × Operand)} {pv : List (Nat × Value)}, Vg.evP E ps = some pv → ps.map (fun (i, x) => (i, a.eval x)) = pv
  | [], pv, hx => by simp [Vg.evP] at hx; simp [hx]
  | (i, x) :: r, pv, hx => by
    simp only [Vg.evP] at hx
    split at hx
    · rename_i v us h1 h2
      simp only [Option.some.injEq] at hx
      subst hx
      simp [h.ev h1, h.evP h2]
    · cases hx

theorem q_build (hT : Tm n a E) {dst : Option Tmp} {t : TypeId} {ps : List (Nat × Operand)} {pv : List (Nat × Value)} {v : Value} (hp : evP E ps = some pv) (hr : ∀ w, (Instr.build t pv.toArray).run P w = .ok v w) :
    QR P a w ⟨dst, .build t ps.toArray, ty, pos, af, gd⟩ v := by
  have := hT.evP hp
  simp only [QR, execOp, List.map_toArray]
  simp [this, hr]

theorem w_buildSlice (hT : Tm n a E) (hL : Loc M w0 w cs) (hlt : d < n.n) {t e : TypeId} {len : Nat} {ps : List (Nat × Operand)} {pv : List (Nat × Value)} {c : List Value} (hp : evP E ps = some pv)
    (hr : ∀ w, (Instr.buildSlice t len pv.toArray).run P w = .ok (.slice (some ⟨w.heap.size, 0, none⟩) len len) { w with heap := w.heap.push (ob c e) })
    (k : ∀ b a' w', Tm n a' ((d, .slice (some ⟨b, 0, none⟩) len len) :: E) → Loc M w0 w' ([(b, ob c e)] :: cs) → Ext w w' → w.heap.size ≤ b → K a' w') : Oper.wp P ⟨some d, .buildSlice t len ps.toArray, ty, pos, af, gd⟩ a w K Q := by
  have := hT.evP hp
  refine w_val (v := .slice (some ⟨w.heap.size, 0, none⟩) len len) (w' := { w with heap := w.heap.push (ob c e) }) ?_ (k _ _ _ (hT.put d hlt _) (hL.alloc _) (Ext.push _ _) (Nat.le_refl _))
  simp only [execOp, List.map_toArray]
  simp [this, hr]

/-! calls -/
theorem w_call (hT : Tm n a E) {f : Operand} {xs : List Operand} {ts : Array TypeId} {fn : Func} {g : FuncId} {first cap : Array Value} {vs : List Value} {args : Array Value} (dst : Option Tmp)
    (hf : evO E f = some (.func (.func g) first cap)) (hx : evL E xs = some vs) (ha : first ++ vs.toArray ++ cap = args) (hfn : P.funcs[g]? = some fn) (hname : (fn.name == "runtime.NumGoroutine") = false) (hb : fn.body.isSome = true)
    (h : Calls P g args w fun e w' => ∃ v, e = .returned v ∧ K (a.put dst v) w') : Oper.wp P ⟨dst, .call { callee := .value f, args := xs.toArray, argTypes := ts }, ty, pos, af, gd⟩ a w K Q := by
  have hr : (execOp a.eval ⟨dst, .call { callee := .value f, args := xs.toArray, argTypes := ts }, ty, pos, af, gd⟩).run P w = .ok (.enter g args) w := by
    have he := Go.Proofs.YtcaffacganffjaaDoorW.PrintLast.enters_ hfn hname hb args w
    simp [execOp, resolve, Deferred.ofValue, invoke, hT.ev hf, hT.evL hx]
    rw [← Array.append_assoc, ha]
    exact he
  unfold Oper.wp
  rw [hr, Oper.upon_enter]
  refine h.mono fun e w'' hh => ?_
  obtain ⟨v, rfl, hk⟩ := hh
  exact hk
theorem w_defer (hT : Tm n a E) {f : Operand} {xs : List Operand} {ts : Array TypeId} {fn : Fn} {first cap : Array Value} {vs : List Value} {args : Array Value}
    (hf : evO E f = some (.func fn first cap)) (hx : evL E xs = some vs) (ha : first ++ vs.toArray = args)
    (k : ∀ a', Tm ⟨n.n, { target := .fn fn cap, args := args } :: n.ds⟩ a' E → K a' w) : Oper.wp P ⟨none, .defer { callee := .value f, args := xs.toArray, argTypes := ts }, ty, pos, af, gd⟩ a w K Q := by
  have hr : (execOp a.eval ⟨none, .defer { callee := .value f, args := xs.toArray, argTypes := ts }, ty, pos, af, gd⟩).run P w = .ok (.defer { target := .fn fn cap, args := args }) w := by
    simp [execOp, resolve, Deferred.ofValue, hT.ev hf, hT.evL hx]
    rw [← ha]
  unfold Oper.wp
  rw [hr]
  simp only [Oper.upon, Act.put]
  exact k _ ⟨hT.size, by simp [hT.defers], hT.get⟩
/-- A function without a body that yields. -/
theorem q_ext (hT : Tm n a E) {dst : Option Tmp} {f : Operand} {xs : List Operand} {ts : Array TypeId} {g : FuncId} {first cap : Array Value} {vs : List Value} {args : Array Value} {v : Value}
    (hf : evO E f = some (.func (.func g) first cap)) (hx : evL E xs = some vs) (ha : first ++ vs.toArray ++ cap = args) (hr : (callFunc g args).run P w = .ok (.value v) w) : QR P a w ⟨dst, .call { callee := .value f, args := xs.toArray, argTypes := ts }, ty, pos, af, gd⟩ v := by
  simp [QR, execOp, resolve, Deferred.ofValue, invoke, hT.ev hf, hT.evL hx]
  rw [← Array.append_assoc, ha]
  exact hr
theorem turned_setCell {b off : Nat} {c : List Value} {T : TypeId} {v : Value} (hb : w.heap[b]? = some (ob c T)) : Turned w (w.setCell ⟨b, off, none⟩ v) b (ob (c.set off v) T) where
  os := rfl
  tape := rfl
  output := rfl
  drawn := rfl
  size := by simp [World.setCell]
  blk := by rw [setCell_heap hb]; simp
  ne := fun k hk => setCell_other hk
/-- A function without a body that stores into a cell of one's own. -/
theorem w_ext (hT : Tm n a E) (hL : Loc M w0 w cs) (hlt : d < n.n) {f : Operand} {xs : List Operand} {ts : Array TypeId} {g : FuncId} {first cap : Array Value} {vs : List Value} {args : Array Value} {v x : Value} {b off : Nat} {c c' : List Value} {T : TypeId} (i : Nat)
    (hf : evO E f = some (.func (.func g) first cap)) (hx : evL E xs = some vs) (ha : first ++ vs.toArray ++ cap = args) (hi : cs[i]? = some [(b, ob c T)]) (hc : c.set off x = c')
    (hr : (callFunc g args).run P w = .ok (.value v) (w.setCell ⟨b, off, none⟩ x))
    (k : ∀ a' w', Tm n a' ((d, v) :: E) → Loc M w0 w' (cs.set i [(b, ob c' T)]) → Turned w w' b (ob c' T) → K a' w') : Oper.wp P ⟨some d, .call { callee := .value f, args := xs.toArray, argTypes := ts }, ty, pos, af, gd⟩ a w K Q := by
  subst hc
  have hb := hL.get i hi
  have ht := turned_setCell (off := off) (v := x) hb
  refine w_val (v := v) (w' := w.setCell ⟨b, off, none⟩ x) ?_ (k _ _ (hT.put d hlt _) (hL.mod hi ht.os ht.tape ht.output ht.drawn ht.size ht.blk ht.ne) ht)
  simp [execOp, resolve, Deferred.ofValue, invoke, hT.ev hf, hT.evL hx]
  rw [← Array.append_assoc, ha]
  exact hr
theorem w_callT (hT : Tm n a E) {f : Operand} {xs : List Operand} {ts : Array TypeId} {fn : Func} {g : FuncId} {first cap : Array Value} {vs : List Value} {args : Array Value}
    (hf : evO E f = some (.func (.func g) first cap)) (hx : evL E xs = some vs) (ha : first ++ vs.toArray ++ cap = args) (hfn : P.funcs[g]? = some fn) (hname : (fn.name == "runtime.NumGoroutine") = false) (hb : fn.body.isSome = true) (hlt : d < n.n)
    (h : Calls P g args w fun e w' => ∃ v, e = .returned v ∧ ∀ a', Tm n a' ((d, v) :: E) → K a' w') : Oper.wp P ⟨some d, .call { callee := .value f, args := xs.toArray, argTypes := ts }, ty, pos, af, gd⟩ a w K Q :=
  w_call hT (some d) hf hx ha hfn hname hb (h.mono fun _ _ ⟨v, he, hk⟩ => ⟨v, he, hk _ (hT.put d hlt v)⟩)
end
end Go.Vg
