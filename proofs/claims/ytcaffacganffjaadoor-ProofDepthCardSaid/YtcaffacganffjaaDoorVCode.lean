/- Regions, branches, loops, a function's entry and its end. -/
import Derived.Test.YtcaffacganffjaaDoorVLoud
namespace Go.Vg
open Go Go.Proofs.YtcaffacganffjaaDoorW.PrintLast

section
variable {P : Program} {n : Sh} {a : Act} {E : List (Nat × Value)} {w w0 : World} {M : List Nat} {cs : List Chunk} {Q : Exit → Act → World → Prop} {ops : Array Oper} {rest : List Oper} {o : Oper} {d : Nat}

/-! ### A region in its own order -/
theorem l_do (hg : o.guard = none) (h : o.wp P a w (wpList P ops Q rest) Q) : wpList P ops Q (o :: rest) a w := by
  unfold wpList
  rw [if_pos (by simp [Region.wanted, hg])]
  exact .inl h
theorem l_q (hT : Tm n a E) {v : Value} (hr : QR P a w o v) (hg : o.guard = none) (hd : o.dst = some d) (hlt : d < n.n) (k : ∀ a', Tm n a' ((d, v) :: E) → wpList P ops Q rest a' w) : wpList P ops Q (o :: rest) a w :=
  l_do hg (w_q hT hr hd hlt k)
theorem l_end (h : Q .normal a w) : wpList P ops Q [] a w := h

theorem yielded_of (hT : Tm n a E) {j dj : Nat} {oj : Oper} {b : Bool} (hj : ops[j]? = some oj) (hd : oj.dst = some dj) (hl : look E dj = some (.bool b)) : yielded ops a.tmps j = some b := by
  have := hT.get dj _ hl
  simp [yielded, hj, hd, this]
/-- A guarded operation that is wanted, or is not. -/
theorem l_on (hT : Tm n a E) {j dj : Nat} {oj : Oper} {b : Bool} (hg : o.guard = some (j, b)) (hj : ops[j]? = some oj) (hd : oj.dst = some dj) (hl : look E dj = some (.bool b)) (h : o.wp P a w (wpList P ops Q rest) Q) : wpList P ops Q (o :: rest) a w := by
  unfold wpList
  rw [if_pos (by simp [Region.wanted, hg, yielded_of hT hj hd hl])]
  exact .inl h
theorem l_off (hT : Tm n a E) {j dj : Nat} {oj : Oper} {b : Bool} (hg : o.guard = some (j, b)) (hj : ops[j]? = some oj) (hdj : oj.dst = some dj) (hl : look E dj = some (.bool (!b))) (hd : o.dst = some d) (hlt : d < n.n)
    (k : ∀ a', Tm n a' ((d, undef) :: E) → wpList P ops Q rest a' w) : wpList P ops Q (o :: rest) a w := by
  unfold wpList
  rw [if_neg (by simp [Region.wanted, hg, yielded_of hT hj hdj hl])]
  rw [hd]
  exact k _ (hT.put d hlt _)

theorem yielded_undef (hT : Tm n a E) {j dj : Nat} {oj : Oper} (hj : ops[j]? = some oj) (hd : oj.dst = some dj) (hl : look E dj = some undef) : yielded ops a.tmps j = none := by
  have := hT.get dj _ hl
  simp [yielded, hj, hd, this, undef]
theorem l_off' (hT : Tm n a E) {j dj : Nat} {oj : Oper} {b : Bool} (hg : o.guard = some (j, b)) (hj : ops[j]? = some oj) (hdj : oj.dst = some dj) (hl : look E dj = some undef) (hd : o.dst = some d) (hlt : d < n.n)
    (k : ∀ a', Tm n a' ((d, undef) :: E) → wpList P ops Q rest a' w) : wpList P ops Q (o :: rest) a w := by
  unfold wpList
  rw [if_neg (by simp [Region.wanted, hg, yielded_undef hT hj hdj hl])]
  rw [hd]
  exact k _ (hT.put d hlt _)

/-! ### A region in any order -/
section draw
variable {S : World → Prop} {ds : List Nat} {fuel : Nat} {l : Array Bool} {i : Nat}

theorem d_start {id m : Nat} (l : Array Bool) (S : World → Prop) (ds : List Nat) (hm : P.follows .mixedOrders = true) (hn : ops.size = m) (hl : Array.replicate m false = l) (hS : S w.drew)
    (h : wpAnyLast P .any ops Q S ds m l a w.drew) : (Code.region id ops true).wp P Q a w := start_ l hm hn hl hS (fun _ => h)

def wants (ops : Array Oper) (E : List (Nat × Value)) (o : Oper) : Bool :=
  match o.guard with
  | none => true
  | some (j, b) => match ops[j]? with
    | some oj => match oj.dst with
      | some dj => match look E dj with
        | some (.bool c) => c == b
        | _ => false
      | none => false
    | none => false
theorem wants_spec (hT : Tm n a E) (h : wants ops E o = true) : Region.wanted o (yielded ops a.tmps) = true := by
  unfold wants at h
  split at h
  · rename_i hg; simp [Region.wanted, hg]
  · rename_i j b hg
    split at h
    · rename_i oj hj
      split at h
      · rename_i dj hd
        split at h
        · rename_i c hl
          simp only [beq_iff_eq] at h
          subst h
          simp [Region.wanted, hg, yielded_of hT hj hd hl]
        · cases h
      · cases h
    · cases h
def wantsNot (ops : Array Oper) (E : List (Nat × Value)) (o : Oper) : Bool :=
  match o.guard with
  | none => false
  | some (j, b) => match ops[j]? with
    | some oj => match oj.dst with
      | some dj => match look E dj with
        | some (.bool c) => c == !b
        | some (.tuple _) => true
        | _ => false
      | none => false
    | none => false
theorem wantsNot_spec (hT : Tm n a E) (h : wantsNot ops E o = true) : Region.wanted o (yielded ops a.tmps) = false := by
  unfold wantsNot at h
  split at h
  · cases h
  · rename_i j b hg
    split at h
    · rename_i oj hj
      split at h
      · rename_i dj hd
        split at h
        · rename_i c hl
          simp only [beq_iff_eq] at h
          subst h
          simp [Region.wanted, hg, yielded_of hT hj hd hl]
        · rename_i vs hl
          have hy : yielded ops a.tmps j = none := by
            have := hT.get dj _ hl
            simp [yielded, hj, hd, this]
          simp [Region.wanted, hg, hy]
        · cases h
      · cases h
    · cases h

/-- A quiet operation is taken first: it reads what S tells. -/
theorem d_take (hT : Tm n a E) {v : Value} (l' : Array Bool) (hi : ops[i]? = some o) (hc : takeB .any ops ds l l' i = true) (hw : wants ops E o = true) (hd : o.dst = some d) (hlt : d < n.n)
    (hQ : ∀ c a w, Q (.panic c) (a.put o.dst v) w → Q (.panic c) a w) (hy : ∀ w', S w' → QR P a w' o v) (hS : S w)
    (k : ∀ a', Tm n a' ((d, v) :: E) → wpAnyLast P .any ops Q S ds fuel l' a' w) : wpAnyLast P .any ops Q S ds (fuel + 1) l a w :=
  take_ (N := some d) l' hi hd hc hQ (.inl ⟨wants_spec hT hw, hy⟩) hS rfl (k _ (hT.put d hlt v))
/-- One that yields in every world. -/
theorem d_pure (hT : Tm n a E) {v : Value} (l' : Array Bool) (hi : ops[i]? = some o) (hc : anyB .any ops l l' i = true) (hw : wants ops E o = true) (hd : o.dst = some d) (hlt : d < n.n)
    (hQ : ∀ c a w, Q (.panic c) (a.put o.dst v) w → Q (.panic c) a w) (hy : ∀ w', QR P a w' o v)
    (k : ∀ a', Tm n a' ((d, v) :: E) → wpAnyLast P .any ops Q S ds fuel l' a' w) : wpAnyLast P .any ops Q S ds (fuel + 1) l a w :=
  pure_ (N := some d) l' hi hd hc hQ (.inl ⟨wants_spec hT hw, hy⟩) rfl (k _ (hT.put d hlt v))
/-- One that is not carried out. -/
theorem d_off (hT : Tm n a E) (l' : Array Bool) (hi : ops[i]? = some o) (hc : anyB .any ops l l' i = true) (hw : wantsNot ops E o = true) (hd : o.dst = some d) (hlt : d < n.n)
    (hQ : ∀ c a w, Q (.panic c) (a.put o.dst undef) w → Q (.panic c) a w)
    (k : ∀ a', Tm n a' ((d, undef) :: E) → wpAnyLast P .any ops Q S ds fuel l' a' w) : wpAnyLast P .any ops Q S ds (fuel + 1) l a w :=
  pure_ (N := some d) l' hi hd hc hQ (.inr ⟨wantsNot_spec hT hw, rfl⟩) rfl (k _ (hT.put d hlt undef))
/-- The one that may come up now; S is shown behind it (not of those of ds). -/
theorem d_one (hT : Tm n a E) (l' : Array Bool) (hi : ops[i]? = some o) (hc : readyB .any ops l l' i = true) (hw : wants ops E o = true)
    (h : o.wp P a w (fun a' w' => (i ∉ ds → S w') ∧ wpAnyLast P .any ops Q S ds fuel l' a' w') Q) : wpAnyLast P .any ops Q S ds (fuel + 1) l a w := by
  simp only [readyB, Bool.and_eq_true, beq_iff_eq] at hc
  obtain ⟨h1, h2⟩ := hc
  subst h2
  refine wpAnyLast_all h1 (by simp) fun j hj => ?_
  simp only [List.mem_singleton] at hj
  subst hj
  unfold wpOp
  simp only [hi, wants_spec hT hw, if_true]
  refine .inl ?_
  unfold Oper.wp at h ⊢
  generalize (execOp a.eval o).run P w = r at h ⊢
  cases r with
  | ok x w' =>
    cases x <;> simp only [Oper.upon] at h ⊢ <;> first
      | exact ⟨fun hn _ => h.1 hn, h.2⟩
      | exact h
      | (refine Calls.mono h fun e w'' he => ?_
         cases e with
         | returned u => exact ⟨fun hn _ => he.1 hn, he.2⟩
         | panicked c => exact he
         | outgrown => exact he)
      | (refine Rows.mono h fun u w'' he => ⟨fun hn _ => he.1 hn, he.2⟩)
  | halt x w' => cases x <;> simp only [Oper.upon] at h ⊢ <;> exact h
theorem d_done (hr : (Region.ready .any ops l == []) = true) (h : Q .normal a w) : wpAnyLast P .any ops Q S ds fuel l a w := done_ hr h
end draw

/-! ### Code -/
theorem c_seq {x y : Code} (h : x.wp P (Exit.then (y.wp P Q) Q) a w) : (Code.seq x y).wp P Q a w := wp_seq h
theorem c_region {id : Nat} {l : List Oper} (h : wpList P l.toArray Q l a w) : (Code.region id l.toArray false).wp P Q a w := wp_region_lit h
theorem c_cut {x y : Code} (Mid : Act → World → Prop) (h : x.wp P (Exit.then Mid Q) a w) (hy : ∀ a w, Mid a w → y.wp P Q a w) : (Code.seq x y).wp P Q a w :=
  wp_seq (Code.wp_mono (fun e a w he => by cases e <;> first | exact hy _ _ he | exact he) h)
theorem c_if (hT : Tm n a E) {c : Operand} {x y : Code} {b : Bool} (hc : evO E c = some (.bool b)) (ht : b = true → x.wp P Q a w) (hf : b = false → y.wp P Q a w) : (Code.cond c x y).wp P Q a w :=
  wp_cond_split (hT.ev hc) ht hf
theorem c_true (hT : Tm n a E) {c : Operand} {x y : Code} {b : Bool} (hc : evO E c = some (.bool b)) (hb : b = true) (h : x.wp P Q a w) : (Code.cond c x y).wp P Q a w :=
  wp_cond_true (by rw [hT.ev hc, hb]) h
theorem c_false (hT : Tm n a E) {c : Operand} {x y : Code} {b : Bool} (hc : evO E c = some (.bool b)) (hb : b = false) (h : y.wp P Q a w) : (Code.cond c x y).wp P Q a w :=
  wp_cond_false (by rw [hT.ev hc, hb]) h

/-- A loop: what holds at its head is told with a state of its own, which also bears the measure. -/
theorem c_loop {σ : Type} {c : Code} (Inv : σ → Act → World → Prop) (μ : σ → Nat) (x0 : σ) (h0 : Inv x0 a w)
    (round : ∀ x a w, Inv x a w → c.wp P (Exit.then (fun a' w' => ∃ x', Inv x' a' w' ∧ μ x' < μ x) Q) a w) : (Code.loop c).wp P Q a w := by
  intro b k fs
  have key : ∀ m x a w, μ x = m → Inv x a w → ∃ e a' w', Q e a' w' ∧ Arrives P (lone (b.at a (.code c :: .inLoop c :: k)) fs w) b k fs e a' w' := by
    intro m
    induction m using Nat.strongRecOn with
    | _ m ih =>
      intro x a w hm hI
      obtain ⟨e, a₁, w₁, hq, harr⟩ := round x a w hI b (.inLoop c :: k) fs
      cases e with
      | normal =>
        obtain ⟨x', hI', hlt⟩ := hq
        obtain ⟨e₂, a₂, w₂, hq₂, harr₂⟩ := ih (μ x') (hm ▸ hlt) x' a₁ w₁ rfl hI'
        exact ⟨e₂, a₂, w₂, hq₂, .of_steps (Steps.trans harr (.one step_inLoop)) harr₂⟩
      | exit id => exact ⟨_, a₁, w₁, hq, .pass (x := .inLoop c) rfl (fun _ _ => .inl (by simp)) harr⟩
      | goto l => exact ⟨_, a₁, w₁, hq, .pass (x := .inLoop c) rfl (fun _ _ => .inl (by simp)) harr⟩
      | ret => exact ⟨_, a₁, w₁, hq, .pass (x := .inLoop c) rfl (fun _ _ => .inl (by simp)) harr⟩
      | panic ch => exact ⟨_, a₁, w₁, hq, .pass (x := .inLoop c) rfl (fun _ _ => .inl (by simp)) harr⟩
      | outgrown => exact ⟨_, a₁, w₁, hq, .pass (x := .inLoop c) rfl (fun _ _ => .inl (by simp)) harr⟩
  obtain ⟨e, a', w', hq, harr⟩ := key _ x0 a w rfl h0
  exact ⟨e, a', w', hq, .of_steps (.one step_loop) harr⟩

/-! ### Entry and end -/
theorem c_enter {f : FuncId} {fn : Func} {c : Code} {args : List Value} {R : Ending → World → Prop} {E : List (Nat × Value)} (hf : P.funcs[f]? = some fn) (hb : fn.body = some c) (hn : fn.ntmps = n.n) (hl : args.length ≤ n.n)
    (hE : (args.zipIdx.map fun p => (p.2, p.1)) = E) (h : ∀ a, Tm n a E → c.wp P (bodyPost P fn R) a w) (hds : n.ds = [] := by rfl) : Calls P f args.toArray w R := by
  obtain ⟨k, ds⟩ := n
  simp only at hn hds hl
  subst hds
  subst hn
  exact calls_of_wp hf hb (h _ (Tm.init args fn.ntmps hl hE))

theorem c_enterD {f : FuncId} {fn : Func} {c : Code} {args : List Value} {u : FrameMode} {R : Ending → World → Prop} {E : List (Nat × Value)} (hf : P.funcs[f]? = some fn) (hb : fn.body = some c) (hn : fn.ntmps = n.n) (hl : args.length ≤ n.n)
    (hE : (args.zipIdx.map fun p => (p.2, p.1)) = E) (h : ∀ a, Tm n a E → c.wp P (bodyPost P fn R) a w) (hds : n.ds = [] := by rfl) : CallsD P f args.toArray u w fun e u' w' => u' = u ∧ R e w' := by
  obtain ⟨k, ds⟩ := n
  simp only at hn hds hl
  subst hds
  subst hn
  exact callsD_of_wp hf hb (h _ (Tm.init args fn.ntmps hl hE))
/-- A function that defers. -/
theorem c_enter_defers {f : FuncId} {fn : Func} {c : Code} {args : List Value} {R : Ending → World → Prop} {E : List (Nat × Value)} (hf : P.funcs[f]? = some fn) (hb : fn.body = some c) (hn : fn.ntmps = n.n) (hl : args.length ≤ n.n)
    (hE : (args.zipIdx.map fun p => (p.2, p.1)) = E) (h : ∀ a, Tm n a E → c.wp P (bodyPostD P fn R) a w) (hds : n.ds = [] := by rfl) : Calls P f args.toArray w R := by
  obtain ⟨k, ds⟩ := n
  simp only at hn hds hl
  subst hds
  subst hn
  exact calls_of_wp_defers hf hb (h _ (Tm.init args fn.ntmps hl hE))
theorem c_door {fn : Func} {R : Ending → World → Prop} {D : List Deferred} (hT : Tm n a E) (hD : n.ds = D) (h : ∀ a, Tm n a E → Leaves P fn a.tmps R D .returning w) : bodyPostD P fn R .normal a w := by
  have := h a hT
  rw [← hD, ← hT.defers] at this
  exact this

/-- What a function hands back. -/
def resOne (P : Program) (w : World) (E : List (Nat × Value)) (r : ResultVar) (v : Value) : Prop :=
  match r with
  | .tmp t => look E t = some v
  | .cell t ty => ∃ b off m g z cs, look E t = some (vp b off) ∧ tyOf P ty = some (m, g, z) ∧ cs.length = m ∧ Rd w b off cs ∧ (if g then v = .agg cs.toArray else cs = [v])
inductive Res (P : Program) (w : World) (E : List (Nat × Value)) : List ResultVar → List Value → Prop where
  | nil : Res P w E [] []
  | tmp {t : Nat} {v : Value} {rs : List ResultVar} {vs : List Value} (h : look E t = some v) (hr : Res P w E rs vs) : Res P w E (.tmp t :: rs) (v :: vs)
  | agg {t : Nat} {ty : TypeId} {b off m : Nat} {z cs : List Value} {rs : List ResultVar} {vs : List Value} (h : look E t = some (vp b off)) (ht : tyOf P ty = some (m, true, z)) (hd : Rd w b off cs) (hm : cs.length = m) (hr : Res P w E rs vs) : Res P w E (.cell t ty :: rs) (.agg cs.toArray :: vs)
  | one {t : Nat} {ty : TypeId} {b off m : Nat} {z : List Value} {v : Value} {rs : List ResultVar} {vs : List Value} (h : look E t = some (vp b off)) (ht : tyOf P ty = some (m, false, z)) (hd : Rd w b off [v]) (hr : Res P w E rs vs) : Res P w E (.cell t ty :: rs) (v :: vs)

theorem asAddr_vp (b off : Nat) : asAddr (vp b off) = pure ⟨b, off, none⟩ := rfl
theorem Res.mapM {rs : List ResultVar} {vs : List Value} (h : Res P w E rs vs) (hT : Tm n a E) :
    (rs.mapM fun r => (match r with | .tmp t => (pure (a.tmps.getD t undef) : Sem Value) | .cell t ty => do loadVar ty (← asAddr (a.tmps.getD t undef)) : Sem Value)).run P w = .ok vs w := by
  induction h with
  | nil => simp
  | tmp h _ ih =>
    have := hT.ev (x := .tmp _) h
    simp only [Act.eval] at this
    simp only [List.mapM_cons, Sem.run_bind, ih, this, Sem.run_pure, Result.andThen_ok]
  | agg h ht hd hm _ ih =>
    have := hT.ev (x := .tmp _) h
    simp only [Act.eval] at this
    simp only [List.mapM_cons, Sem.run_bind, ih, this, Sem.run_pure, Result.andThen_ok, asAddr_vp, run_loadVar_agg ht hd hm]
  | one h ht hd _ ih =>
    have := hT.ev (x := .tmp _) h
    simp only [Act.eval] at this
    simp only [List.mapM_cons, Sem.run_bind, ih, this, Sem.run_pure, Result.andThen_ok, asAddr_vp, run_loadVar_prim ht hd]

def packed : List Value → Value
  | [v] => v
  | vs => .tuple vs.toArray

theorem Res.run {fn : Func} {vs : List Value} (h : Res P w E fn.results.toList vs) (hT : Tm n a E) : (results fn a.tmps).run P w = .ok (packed vs) w := by
  have hm := h.mapM hT
  have hl : fn.results = fn.results.toList.toArray := by simp
  unfold results
  rw [hl, List.mapM_toArray]
  simp only [Sem.run_bind, Sem.run_map]
  refine (congrArg (fun r => Result.andThen r _) (congrArg (fun r => Result.andThen r _) hm)).trans ?_
  simp only [Result.andThen_ok]
  match vs with
  | [] => simp [packed]
  | [v] => simp [packed]
  | v :: u :: r => simp [packed]

theorem c_ret {fn : Func} {R : Ending → World → Prop} {vs : List Value} {rs : List ResultVar} (hT : Tm n a E) (hrs : fn.results.toList = rs) (h : Res P w E rs vs) (hR : R (.returned (packed vs)) w) (hds : n.ds = [] := by rfl) : bodyPost P fn R .ret a w :=
  ⟨hT.defers.trans hds, _, (hrs ▸ h : Res P w E fn.results.toList vs).run hT, hR⟩
theorem c_fall {fn : Func} {R : Ending → World → Prop} {vs : List Value} {rs : List ResultVar} (hT : Tm n a E) (hrs : fn.results.toList = rs) (h : Res P w E rs vs) (hR : R (.returned (packed vs)) w) (hds : n.ds = [] := by rfl) : bodyPost P fn R .normal a w :=
  ⟨hT.defers.trans hds, _, (hrs ▸ h : Res P w E fn.results.toList vs).run hT, hR⟩
end
end Go.Vg
namespace Go.Vg
open Go
section
variable {P : Program} {a : Act} {w : World} {Q : Exit → Act → World → Prop} {next : Act → World → Prop} {id id' : Nat}
theorem then_norm (h : next a w) : Exit.then next Q .normal a w := h
theorem then_exit (h : Q (.exit id) a w) : Exit.then next Q (.exit id) a w := h
theorem then_ret (h : Q .ret a w) : Exit.then next Q .ret a w := h
theorem blk_norm (h : Q .normal a w) : Exit.inBlock id Q .normal a w := h
theorem blk_ret (h : Q .ret a w) : Exit.inBlock id Q .ret a w := h
theorem blk_exit (h : Q .normal a w) : Exit.inBlock id Q (.exit id) a w := by simp [Exit.inBlock]; exact h
theorem blk_pass (hn : id' ≠ id) (h : Q (.exit id') a w) : Exit.inBlock id Q (.exit id') a w := by simp only [Exit.inBlock, hn, if_false]; exact h
end

theorem QR.b {P : Program} {a : Act} {w : World} {o : Oper} {c b : Bool} (h : QR P a w o (.bool c)) (hc : c = b) : QR P a w o (.bool b) := hc ▸ h
theorem QR.v {P : Program} {a : Act} {w : World} {o : Oper} {u v : Value} (h : QR P a w o u) (hc : u = v) : QR P a w o v := hc ▸ h

theorem d_start' {P : Program} {a : Act} {w w0 : World} {M : List Nat} {cs : List Chunk} {Q : Exit → Act → World → Prop} {ops : Array Oper} (hL : Loc M w0 w cs) {id m : Nat} (l : Array Bool) (ds : List Nat) (hm : P.follows .mixedOrders = true) (hn : ops.size = m) (hl : Array.replicate m false = l)
    (h : ∀ ws, Loc M w0 ws cs → Ext w ws → Go.Proofs.YtcaffacganffjaaDoorW.PrintLast.wpAnyLast P .any ops Q (fun w' => Ext ws w') ds m l a ws) : (Code.region id ops true).wp P Q a w :=
  d_start l (fun w' => Ext w.drew w') ds hm hn hl (Ext.refl _) (h _ hL.drew (Loc.drew (Ext.refl _)))

/-- The same, where calls of the region may turn some blocks. -/
theorem d_startM {P : Program} {a : Act} {w w0 : World} {M : List Nat} {cs : List Chunk} {Q : Exit → Act → World → Prop} {ops : Array Oper} (hL : Loc M w0 w cs) (MS : List Nat) {id m : Nat} (l : Array Bool) (ds : List Nat) (hm : P.follows .mixedOrders = true) (hn : ops.size = m) (hl : Array.replicate m false = l)
    (h : ∀ ws, Loc M w0 ws cs → Loc MS ws ws [] → Go.Proofs.YtcaffacganffjaaDoorW.PrintLast.wpAnyLast P .any ops Q (fun w' => Loc MS ws w' []) ds m l a ws) : (Code.region id ops true).wp P Q a w :=
  d_start l (fun w' => Loc MS w.drew w' []) ds hm hn hl ⟨rfl, rfl, rfl, Nat.le_refl _, Nat.le_refl _, fun _ _ _ => rfl, List.nodup_nil, by simp [keys], by simp⟩ (h _ hL.drew ⟨rfl, rfl, rfl, Nat.le_refl _, Nat.le_refl _, fun _ _ _ => rfl, List.nodup_nil, by simp [keys], by simp⟩)

/-- A slice that can be read: the cells of its i-th element. -/
structure SlR (w : World) (p : Option Addr) (len k : Nat) (f : Nat → List Value) : Prop where
  ad : 0 < len → ∃ b off, p = some ⟨b, off, none⟩
  rd : ∀ i, i < len → ∀ b off, p = some ⟨b, off, none⟩ → Rd w b (off + i * k) (f i)
theorem SlR.mono {w w' : World} {p : Option Addr} {len k : Nat} {f : Nat → List Value} (h : SlR w p len k f) (he : ∀ b, (∃ off, p = some ⟨b, off, none⟩) → ∀ o, w.heap[b]? = some o → w'.heap[b]? = some o) : SlR w' p len k f :=
  ⟨h.ad, fun i hi b off hp => (h.rd i hi b off hp).mono (he b ⟨off, hp⟩)⟩
theorem SlR.ext {w w' : World} {p : Option Addr} {len k : Nat} {f : Nat → List Value} {cs : List Chunk} (h : SlR w p len k f) (he : Loc [] w w' cs) : SlR w' p len k f :=
  h.mono fun _ _ _ ho => he.kept ho (by simp)
end Go.Vg
