/- What a row's reading says of its arguments, and what a call that changes nothing old leaves. The row of leaves, opened. A range over a function: rounds and iterators over opaque acts and worlds; code that is walked in a round. -/
import Derived.Test.YtcaffacganffjaaDoorM6
import Derived.Test.YtcaffacganffjaaDoorRows
import Derived.WalkKit
import Derived.ProofKit
import Derived.OpenShut
import Derived.WideKeyArgs
import Derived.Below
import Derived.Deep.Slices
import Derived.Deep.DeepHandedRow
import Derived.Lib.LaidTab
import Derived.Test.YtcaffacganffjaaDoorM2
import Derived.Test.YtcaffacganffjaaDoorM4
import Derived.RangeFuncRecord
import Derived.RangeFuncCalls
import Derived.OrdersIn
import Derived.TacticsIn

section
namespace Go.Vg
open Go Go.ChangeShapes Go.WideShapes Go.RowKit
section
variable {H : Type} {enc : TypeId × Value → H} {P : Program} {w : World} {base : Nat} {sp : Nat → Bool} {held : Bool}

theorem trod_dig {t e : TypeId} {fuel : Nat} {cs : List Value} {x : DataW H × List MemPlace} (ht : P.underlying t = some (.array 32 e)) (he : P.underlying e = some (.int .u8)) (ce : P.cellsOf e = 1) (ct : P.cellsOf t = 32)
    (h : DataW.trod enc P w base sp held fuel t cs = some x) : ∃ d : Dig, cs = digC d := by
  obtain ⟨xs, m, _, _, hl, hxl, hx⟩ := DataW.trod_array ht h
  rw [ct] at hl
  refine ⟨Dig.of fun i => match cs[i]? with | some (.int _ n) => UInt8.ofNat n.toNat | _ => 0, ?_⟩
  rw [digC_of]
  apply List.ext_getElem?
  intro i
  by_cases hi : i < 32
  · have h1 := hx i hi
    rw [ce, Nat.mul_one, List.getElem?_eq_getElem (by omega)] at h1
    obtain ⟨n, hn, _, hwf⟩ := DataW.trod_int he h1
    have hci : cs[i]? = some (.int .u8 n) := by
      have := congrArg (fun l => l[0]?) hn
      simpa using this
    rw [arr8_get _ hi, hci]
    simp only [Lit.wf, Bool.and_eq_true, decide_eq_true_eq, IntKind.min, IntKind.max, IntKind.signed, IntKind.bits] at hwf
    obtain ⟨h2, h3⟩ := hwf
    have h4 : 0 ≤ n := by simpa using h2
    have h5 : n < 256 := by have : n ≤ 255 := by simpa using h3
                            omega
    have h6 : ((UInt8.ofNat n.toNat).toNat : Int) = n := by
      simp only [UInt8.toNat_ofNat']
      omega
    simp only [v8, h6]
  · rw [List.getElem?_eq_none (by omega), List.getElem?_eq_none (by rw [arr8_len]; omega)]
theorem trod_leaf {t td e : TypeId} {f0 f1 : Field} {fuel : Nat} {cs : List Value} {x : DataW H × List MemPlace} (hs : P.underlying t = some (.struct #[f0, f1])) (o0 : f0.offset = 0) (o1 : f1.offset = 32) (t0 : f0.type = td) (t1 : f1.type = td)
    (ht : P.underlying td = some (.array 32 e)) (he : P.underlying e = some (.int .u8)) (ce : P.cellsOf e = 1) (ct : P.cellsOf td = 32) (cl : P.cellsOf t = 64) (h : DataW.trod enc P w base sp held fuel t cs = some x) : ∃ l : Leaf, cs = leafC l := by
  obtain ⟨xs, n, _, _, hl, hxl, hx⟩ := DataW.trod_struct hs h
  rw [cl] at hl
  have g0 := hx 0 f0 rfl
  have g1 := hx 1 f1 rfl
  rw [o0, t0, ct, List.getElem?_eq_getElem (by rw [hxl]; simp)] at g0
  rw [o1, t1, ct, List.getElem?_eq_getElem (by rw [hxl]; simp)] at g1
  obtain ⟨p, hp⟩ := trod_dig ht he ce ct g0
  obtain ⟨v, hv⟩ := trod_dig ht he ce ct g1
  refine ⟨⟨p, v⟩, ?_⟩
  unfold leafC
  rw [← hp, ← hv, List.drop_zero, List.take_of_length_le (l := cs.drop 32) (by rw [List.length_drop]; omega), List.take_append_drop]
theorem okWide_arr {W : World} {r : Reach} {b0 : Nat} {t e : TypeId} {n : Nat} {v : Value} (ht : P.underlying t = some (.array n e)) (h : Value.okWide P W r b0 t v) : ∃ cs, v = .agg cs := by
  unfold Value.okWide at h
  rw [ht] at h
  obtain ⟨cs, h1, _⟩ := h
  exact ⟨cs, h1⟩
theorem okWide_cell {W : World} {r : Reach} {b0 : Nat} {t e : TypeId} {v c : Value} (ht : P.underlying t = some (.slice e)) (h : Value.okWide P W r b0 t v) (hc : v.cells.toList = [c]) : v = c := by
  unfold Value.okWide at h
  rw [ht] at h
  cases v <;> first | (simp [Value.cells] at hc; exact hc) | (simp [Cell.okWide, Cell.ok, ht] at h)
theorem Rd.of_cells {a : Addr} {cs : List Value} (h0 : 0 < cs.length) (h : ∀ i, i < cs.length → w.cell? (a.add i) = cs[i]?) : ∃ b off, a = ⟨b, off, none⟩ ∧ Rd w b off cs := by
  obtain ⟨b, off, s⟩ := a
  have hadd : ∀ i, ∃ s', (⟨b, off, s⟩ : Addr).add i = ⟨b, off + i, s'⟩ ∧ (s' = none → s = none ∨ i ≠ 0) := by
    intro i
    unfold Addr.add
    split
    · rename_i hi; exact ⟨s, by rw [hi]; simp, fun e => .inl e⟩
    · rename_i hi; exact ⟨_, rfl, fun _ => .inr hi⟩
  have hz := h 0 h0
  rw [List.getElem?_eq_getElem h0] at hz
  have hz' : w.cell? ⟨b, off, s⟩ = some cs[0] := by simpa [Addr.add] using hz
  simp only [World.cell?] at hz'
  cases hh : w.heap[b]? with
  | none => rw [hh] at hz'; cases hz'
  | some o =>
    rw [hh] at hz'
    cases o with
    | cells c T fr =>
      simp only at hz'
      split at hz'
      · cases hz'
      · rename_i hs
        have hs' : s = none := by cases s <;> simp_all
        subst hs'
        refine ⟨b, off, rfl, c, T, fr, hh, fun i v hv => ?_⟩
        have hi : i < cs.length := (List.getElem?_eq_some_iff.1 hv).1
        have h1 := h i hi
        rw [hv] at h1
        have h2 : (⟨b, off, none⟩ : Addr).add i = ⟨b, off + i, none⟩ := by
          unfold Addr.add; split
          · rename_i h0; subst h0; rfl
          · rfl
        rw [h2] at h1
        simpa [World.cell?, hh] using h1
    | _ => cases hz'
theorem trodAll_stays {ts : List TypeId} (hl : laidOutB P = true) (hr : ∀ t ∈ ts, P.readableRec t = true ∧ t < P.types.size) : ∀ {vs : List Value} {ds : List (DataW H)} {ps : List MemPlace} {W W' : World} {sp' : Nat → Bool},
    DataW.TrodAll enc P W 0 (fun _ => true) true ts vs ds ps → (∀ p ∈ ps, W.sameAt W' p) → (∀ p ∈ ps, sp' p.block = true) → DataW.TrodAll enc P W' 0 sp' true ts vs ds ps := by
  induction ts with
  | nil =>
    intro vs ds ps W W' sp' h _ _
    match vs, ds, h with
    | [], [], h => exact h
  | cons t ts ih =>
    intro vs ds ps W W' sp' h hs hb
    match vs, ds, h with
    | v :: vs, d :: ds, ⟨p, q, h1, h2, e⟩ =>
      subst e
      exact ⟨p, q, Go.WideElems.Trod_stays hl (hr t (by simp)).1 (hr t (by simp)).2 h1 (fun x hx => hs x (by simp [hx])) (fun x hx => hb x (by simp [hx])), ih (fun t' ht' => hr t' (by simp [ht'])) h2 (fun x hx => hs x (by simp [hx])) (fun x hx => hb x (by simp [hx])), rfl⟩
/-- A law that hands back true, and changes nothing old. -/
theorem post_law {f : Func} {s : ChangeSpec} {W W' : World} {args : Array Value} {ds : List (DataW H)} {before : List MemPlace} {tb : TypeId} (hl : laidOutB P = true) (hr : ∀ t ∈ f.params.toList, P.readableRec t = true ∧ t < P.types.size)
    (hv : s.vars = []) (hW : DataW.Whole enc P f.params.toList s.vars false W args.toList ds [] before) (hres : f.resultTypes = #[tb]) (htb : P.underlying tb = some .bool) (hfn : s.fn H (ds ++ []) = { results := [.lit (.bool true)], args := ds })
    (hx : Ext W W') : s.post enc P f false true false false W args (.bool true) W' := by
  have hlt := hW.lt
  obtain ⟨p, q, hA, hV, hb, hz, hn⟩ := hW
  have hV' := hV
  rw [hv] at hV'
  have hq : q = [] := (trodVars_none hV').2
  subst hq
  have hbl := hx.below
  refine ⟨ds, [], before, [], p, [], ⟨p, [], hA, hV, hb, hz, hn⟩, ?_, ?_, ?_, hbl.frame _, fun h => by cases h⟩
  · rw [hfn, hres]
    exact trodAll_cons_mk (shut_bool htb true) trodAll_mk0
  · rw [hfn]
    refine trodAll_stays hl hr hA (fun x hx' => hbl.same (hlt x (by rw [hb]; simpa using hx'))) (fun x hx' => by simpa using hlt x (by rw [hb]; simpa using hx'))
  · rw [hfn, hv]; rfl
end
end Go.Vg
end

section
namespace Go.Proofs.YtcaffacganffjaaDoor
open Go Go.Vg Go.ChangeShapes Go.WideShapes Go.RowKit

set_option maxRecDepth 100000
theorem own : ownKnob Tryd.prog.godebug = none := by kernel_rfl
theorem gTab : Tryd.prog.globalNamed "tabellion/sha.keys" = some 0 := by kernel_rfl
theorem gTabType : (Tryd.prog.globals[0]?).map (·.type) = some 119 := by kernel_rfl
theorem cKeys : Tryd.prog.cellsOf 119 = 64 := by kernel_rfl
theorem cKey : Tryd.prog.cellsOf 86 = 1 := by kernel_rfl
theorem cLeaf : Tryd.prog.cellsOf 36 = 64 := by kernel_rfl
theorem cDig : Tryd.prog.cellsOf 24 = 32 := by kernel_rfl
theorem cByte : Tryd.prog.cellsOf 5 = 1 := by kernel_rfl
theorem laidOut : laidOutB Tryd.prog = true := by kernel_rfl
def keysZ : List Int := (List.range 64).map fun i => ((keyF i).toNat : Int)
theorem keysZ_laid : (Rows.laid_tabellion_sha_keys : DataW Unit) = Lib.tabData .u32 keysZ := by kernel_rfl
theorem keysAt {W : World} {rest : List (String × DataW Unit)} (h : laidMet Tryd.prog (("tabellion/sha.keys", Rows.laid_tabellion_sha_keys) :: rest) W) : KeysAt W := by
  rw [keysZ_laid] at h
  have ht := Lib.tabIs_of_head gTab gTabType Tryd.underlying119 Tryd.underlying86 cKey cKeys h
  have hc : ∀ i, i < (arr32 64 keyF).length → W.cell? ((⟨0, 0, none⟩ : Addr).add i) = (arr32 64 keyF)[i]? := by
    intro i hi
    rw [arr32_len] at hi
    have h1 := ht.cell gTab i (by simpa [keysZ] using hi)
    have h2 : (⟨0, 0, none⟩ : Addr).add i = ⟨0, i, none⟩ := by
      unfold Addr.add; split
      · rename_i h0; subst h0; rfl
      · simp
    rw [h2, h1, arr32_get _ hi]
    simp [keysZ, List.getD_eq_getElem?_getD, hi, v32]
  obtain ⟨b, off, he, hr⟩ := Rd.of_cells (by rw [arr32_len]; decide) hc
  cases he
  exact hr

theorem open_dig {H : Type} {enc : TypeId × Value → H} {W : World} {base : Nat} {sp : Nat → Bool} {held : Bool} {v : Value} {d : DataW H} {ps : List MemPlace} {b0 : Nat} (hval : Value.okWide Tryd.prog W .any b0 24 v)
    (h : DataW.Trod enc Tryd.prog W base sp held 24 v d ps) : ∃ p : Dig, v = dv p := by
  obtain ⟨fuel, hf⟩ := h
  obtain ⟨p, hp⟩ := trod_dig Tryd.underlying24 Tryd.underlying5 cByte cDig hf
  obtain ⟨cs, rfl⟩ := okWide_arr Tryd.underlying24 hval
  refine ⟨p, ?_⟩
  have : cs.toList = digC p := by simpa [Value.cells] using hp
  rw [dv, ← this]
theorem open_leaves {H : Type} {enc : TypeId × Value → H} {W : World} {base : Nat} {sp : Nat → Bool} {held : Bool} {v : Value} {d : DataW H} {ps : List MemPlace} {b0 : Nat} (hval : Value.okWide Tryd.prog W .any b0 22 v)
    (h : DataW.Trod enc Tryd.prog W base sp held 22 v d ps) : ∃ (p : Option Addr) (len cap : Nat) (ls : List Leaf), v = .slice p len cap ∧ SlT W p len 64 leafC noLeaf ls := by
  obtain ⟨fuel, hf⟩ := h
  have hv : ∀ c, v.cells.toList = [c] → v = c := fun c hc => okWide_cell Tryd.underlying22 hval hc
  rcases Go.Deep.open_slice Tryd.underlying22 hf with ⟨hc, _⟩ | ⟨a, len, cap, m, n, D, Pl, hc, _, hlc, _, hm, _, hx⟩
  · exact ⟨none, 0, 0, [], hv _ hc, SlT.nil⟩
  · have hlm : len ≤ m := by rw [hm]; split <;> omega
    rw [cLeaf] at hx
    have each : ∀ i, i < len → ∃ l : Leaf, ∀ j, j < 64 → W.cell? ((a.add (i * 64)).add j) = (leafC l)[j]? := by
      intro i hi
      obtain ⟨cs', h1, h2⟩ := hx i (by omega)
      obtain ⟨_, hlen, hcell⟩ := World.cells?_some h1
      obtain ⟨l, rfl⟩ := trod_leaf Tryd.underlying36 rfl rfl rfl rfl Tryd.underlying24 Tryd.underlying5 cByte cDig cLeaf h2
      exact ⟨l, hcell⟩
    haveI : Inhabited Leaf := ⟨noLeaf⟩
    obtain ⟨f, hf'⟩ := Go.Deep.choose_lt (α := Leaf) each
    refine ⟨some a, len, cap, (List.range len).map f, hv _ hc, by simp, fun h0 => ?_⟩
    obtain ⟨b, off, hba, _⟩ := Rd.of_cells (w := W) (a := a.add (0 * 64)) (cs := leafC (f 0)) (by rw [leafC_len]; decide) (fun j hj => hf' 0 h0 j (by rwa [leafC_len] at hj))
    have ha : a = ⟨b, off, none⟩ := by simpa [Addr.add] using hba
    subst ha
    refine ⟨b, off, rfl, fun i hi => ?_⟩
    obtain ⟨b', off', hba', hr⟩ := Rd.of_cells (w := W) (a := (⟨b, off, none⟩ : Addr).add (i * 64)) (cs := leafC (f i)) (by rw [leafC_len]; decide) (fun j hj => hf' i hi j (by rwa [leafC_len] at hj))
    have hadd : (⟨b, off, none⟩ : Addr).add (i * 64) = ⟨b, off + i * 64, none⟩ := by
      unfold Addr.add; split
      · rename_i h0; rw [h0]; rfl
      · rfl
    rw [hadd] at hba'
    cases hba'
    simpa [List.getD_eq_getElem?_getD, hi] using hr
/-- A world that meets the row's condition. -/
noncomputable def laidWorld (os : Os) : World :=
  { World.holding Tryd.prog os ⟨#[], #[], []⟩ with heap := (World.holding Tryd.prog os ⟨#[], #[], []⟩).heap.modify 0 fun
      | .cells _ t frozen => .cells (arr32 64 keyF).toArray t frozen
      | o => o }
end Go.Proofs.YtcaffacganffjaaDoor
end

section
namespace Go.Vg
open Go Go.Proofs.YtcaffacganffjaaDoorW.PrintLast

/-- The fence that lets everything in, or a round's in it. -/
inductive WF : Fence → Prop where
  | wide : WF Fence.wide
  | round (l : Nat) : WF (Fence.wide.inRound l)
section
variable {F : Fence} {m : Nat} {P : Program} {ops : Array Oper} {Q : Exit → Act → World → Prop} {a : Act} {w : World} {rest : List Oper} {o : Oper} {K : Act → World → Prop}
theorem WF.fn (h : WF F) (f : FuncId) : F.fn f := by cases h <;> trivial
theorem WF.deep (h : WF F) : ¬ (F.depth.isSome = true) := by cases h <;> exact fun h => by cases h
theorem WF.calls (h : WF F) {f : FuncId} {args : Array Value} {R : Ending → World → Prop} (hc : Calls P f args w R) : CallsIn F m P f args w R := by
  cases h with
  | wide => exact callsIn_wide.2 hc
  | round l => exact CallsIn.inRound l (callsIn_wide.2 hc)
theorem WF.rows (h : WF F) {row : String} {args : Array Value} {R : Value → World → Prop} (hc : Rows P row args w R) : RowsIn F m P row args w R := by
  cases h with
  | wide => exact fun c cs _ => let ⟨v, w', r, s⟩ := hc c cs; ⟨v, w', r, stepsIn_wide.2 s⟩
  | round l => exact fun c cs _ => let ⟨v, w', r, s⟩ := hc c cs; ⟨v, w', r, stepsIn_wide.2 s⟩
def noDefer (l : List Oper) : Bool := l.all fun o => match o.op with | .defer _ => false | _ => true
theorem noDefer_mem {l : List Oper} (h : noDefer l = true) {o : Oper} (ho : o ∈ l) : ∀ c, o.op ≠ .defer c := by
  intro c hc
  unfold noDefer at h
  rw [List.all_eq_true] at h
  have := h o ho
  rw [hc] at this
  cases this
theorem op_in (hF : WF F) (hd : ∀ c, o.op ≠ .defer c) (h : o.wp P a w K Q) : o.wpIn F m P a w K Q := by
  unfold Oper.wp at h
  unfold Oper.wpIn
  refine ⟨fun _ _ => hF.fn _, ?_⟩
  rw [Oper.semAt_eq _ _ _ hd]
  generalize (execOp a.eval o).run P w = r at h ⊢
  cases r with
  | ok x w' =>
    cases x <;> simp only [Oper.upon] at h <;> first
      | exact h.elim
      | exact h
      | exact ⟨fun hh => absurd hh hF.deep, hF.calls h⟩
      | exact ⟨fun hh => absurd hh hF.deep, hF.rows h⟩
  | halt x w' => cases x <;> simp only [Oper.upon] at h <;> first | exact h.elim | exact h
theorem list_in (hF : WF F) (hQ : ¬ LetsOut Q) : ∀ (l : List Oper) (a : Act) (w : World), (∀ o ∈ l, ∀ c, o.op ≠ .defer c) → wpList P ops Q l a w → wpListIn F m P ops Q l a w
  | [], _, _, _, h => h
  | o :: r, a, w, hd, h => by
    unfold wpList at h
    unfold wpListIn
    have hr : ∀ a w, wpList P ops Q r a w → wpListIn F m P ops Q r a w := fun a w => list_in hF hQ r a w fun o ho => hd o (by simp [ho])
    split
    · rename_i hw
      rw [if_pos hw] at h
      rcases h with h | ⟨_, h⟩
      · exact op_in hF (hd o (by simp)) (Oper.wp_mono hr h)
      · exact absurd h hQ
    · rename_i hw
      rw [if_neg hw] at h
      exact ⟨fun _ _ => hF.fn _, hr _ _ h⟩
theorem any_in (hF : WF F) (hQ : ¬ LetsOut Q) {md : Region.Mode} (hd : ∀ o ∈ ops.toList, ∀ c, o.op ≠ .defer c) : ∀ (fuel : Nat) (l : Array Bool) (a : Act) (w : World), wpAny P md ops Q fuel l a w → wpAnyIn F m P md ops Q fuel l a w
  | 0, _, _, _, h => h
  | fuel + 1, l, a, w, h => by
    refine ⟨h.1, fun i hi => ?_⟩
    have h1 := h.2 i hi
    have hr : ∀ a w, wpAny P md ops Q fuel (l.setIfInBounds i true) a w → wpAnyIn F m P md ops Q fuel (l.setIfInBounds i true) a w := fun a w => any_in hF hQ hd fuel _ a w
    unfold wpOp at h1
    unfold wpOpIn
    split
    · rename_i ho
      rw [ho] at h1
      exact hr _ _ h1
    · rename_i o ho
      rw [ho] at h1
      simp only at h1
      split
      · rename_i hw
        rw [if_pos hw] at h1
        rcases h1 with h1 | ⟨_, h1⟩
        · exact op_in hF (hd o (by obtain ⟨hlt, he⟩ := Array.getElem?_eq_some_iff.1 ho; rw [← he]; simp)) (Oper.wp_mono hr h1)
        · exact absurd h1 hQ
      · rename_i hw
        rw [if_neg hw] at h1
        exact ⟨fun _ _ => hF.fn _, hr _ _ h1⟩
end

section code
variable {F : Fence} {m : Nat} {P : Program} {n : Sh} {a : Act} {E : List (Nat × Value)} {w w0 : World} {M : List Nat} {cs : List Chunk} {Q : Exit → Act → World → Prop} {ops : Array Oper} {rest : List Oper} {o : Oper} {d : Nat}
theorem c_seqI {x y : Code} (h : x.wpIn F m P (Exit.then (y.wpIn F m P Q) Q) a w) : (Code.seq x y).wpIn F m P Q a w := wpIn_seq h
theorem c_regionI (hF : WF F) (hQ : ¬ LetsOut Q) {id : Nat} {l : List Oper} (hd : noDefer l = true) (h : wpList P l.toArray Q l a w) : (Code.region id l.toArray false).wpIn F m P Q a w :=
  wpIn_region_lit (list_in hF hQ l a w (fun _ ho => noDefer_mem hd ho) h)
theorem c_regionY {id : Nat} {l : List Oper} (h : wpListIn F m P l.toArray Q l a w) : (Code.region id l.toArray false).wpIn F m P Q a w := wpIn_region_lit h
theorem l_doI (hg : o.guard = none) (h : o.wpIn F m P a w (wpListIn F m P ops Q rest) Q) : wpListIn F m P ops Q (o :: rest) a w := by
  unfold wpListIn
  rw [if_pos (by simp [Region.wanted, hg])]
  exact h
theorem l_qI (hT : Tm n a E) (hF : WF F) {v : Value} (hr : QR P a w o v) (hg : o.guard = none) (hd : o.dst = some d) (hlt : d < n.n) (hn : noDefer [o] = true) (k : ∀ a', Tm n a' ((d, v) :: E) → wpListIn F m P ops Q rest a' w) : wpListIn F m P ops Q (o :: rest) a w :=
  l_doI hg (op_in hF (noDefer_mem hn (by simp)) (w_q hT hr hd hlt k))
theorem l_loudI (hF : WF F) (hg : o.guard = none) (hn : noDefer [o] = true) (h : o.wp P a w (wpListIn F m P ops Q rest) Q) : wpListIn F m P ops Q (o :: rest) a w :=
  l_doI hg (op_in hF (noDefer_mem hn (by simp)) h)
theorem l_endI (h : Q .normal a w) : wpListIn F m P ops Q [] a w := h
theorem c_ifI (hT : Tm n a E) {c : Operand} {x y : Code} {b : Bool} (hc : evO E c = some (.bool b)) (ht : b = true → x.wpIn F m P Q a w) (hf : b = false → y.wpIn F m P Q a w) : (Code.cond c x y).wpIn F m P Q a w :=
  wpIn_cond_split (hT.ev hc) ht hf
theorem c_trueI (hT : Tm n a E) {c : Operand} {x y : Code} {b : Bool} (hc : evO E c = some (.bool b)) (hb : b = true) (h : x.wpIn F m P Q a w) : (Code.cond c x y).wpIn F m P Q a w :=
  wpIn_cond_true (by rw [hT.ev hc, hb]) h
theorem c_falseI (hT : Tm n a E) {c : Operand} {x y : Code} {b : Bool} (hc : evO E c = some (.bool b)) (hb : b = false) (h : y.wpIn F m P Q a w) : (Code.cond c x y).wpIn F m P Q a w :=
  wpIn_cond_false (by rw [hT.ev hc, hb]) h
theorem c_loopI {σ : Type} {c : Code} (Inv : σ → Act → World → Prop) (μ : σ → Nat) (x0 : σ) (h0 : Inv x0 a w)
    (round : ∀ x a w, Inv x a w → c.wpIn F m P (Exit.then (fun a' w' => ∃ x', Inv x' a' w' ∧ μ x' < μ x) Q) a w) : (Code.loop c).wpIn F m P Q a w := by
  intro b k cs hro hb hr
  have key : ∀ j x a w, μ x = j → Inv x a w → ∃ e a' w', Q e a' w' ∧ ArrivesIn (Machine.fenced P F) P (lone (b.atR a (.code c :: .inLoop c :: k)) cs w) b k cs e a' w' := by
    intro j
    induction j using Nat.strongRecOn with
    | _ j ih =>
      intro x a w hn hI
      obtain ⟨e, a₁, w₁, hq, harr⟩ := round x a w hI b (.inLoop c :: k) cs hro hb hr
      cases e with
      | normal =>
        obtain ⟨x', hI₁, hlt⟩ := hq
        obtain ⟨e₂, a₂, w₂, hq₂, harr₂⟩ := ih (μ x') (hn ▸ hlt) x' a₁ w₁ rfl hI₁
        exact ⟨e₂, a₂, w₂, hq₂, .of_steps (StepsIn.trans harr (.one (fenced_calm hb hr rfl) stepR_inLoop)) harr₂⟩
      | exit id => exact ⟨_, a₁, w₁, hq, .pass (x := .inLoop c) rfl (fun _ _ => .inl (by simp)) harr⟩
      | goto l => exact ⟨_, a₁, w₁, hq, .pass (x := .inLoop c) rfl (fun _ _ => .inl (by simp)) harr⟩
      | ret => exact ⟨_, a₁, w₁, hq, .pass (x := .inLoop c) rfl (fun _ _ => .inl (by simp)) harr⟩
      | panic ch => exact ⟨_, a₁, w₁, hq, .pass (x := .inLoop c) rfl (fun _ _ => .inl (by simp)) harr⟩
      | outgrown => exact ⟨_, a₁, w₁, hq, .pass (x := .inLoop c) rfl (fun _ _ => .inl (by simp)) harr⟩
  obtain ⟨e, a', w', hq, harr⟩ := key _ x0 a w rfl h0
  exact ⟨e, a', w', hq, .of_steps (.one (fenced_calm hb hr rfl) stepR_loop) harr⟩
theorem c_enterI {f : FuncId} {fn : Func} {c : Code} {args : List Value} {R : Ending → World → Prop} {E : List (Nat × Value)} (hf : P.funcs[f]? = some fn) (hb : fn.body = some c) (hn : fn.ntmps = n.n) (hl : args.length ≤ n.n)
    (hE : (args.zipIdx.map fun p => (p.2, p.1)) = E) (h : ∀ a, Tm n a E → c.wpIn Fence.wide 0 P (bodyPostM Fence.wide 0 P fn R) a w) (hds : n.ds = [] := by rfl) : Calls P f args.toArray w R := by
  obtain ⟨k, ds⟩ := n
  simp only at hn hds hl
  subst hds
  subst hn
  exact callsIn_wide.1 (callsIn_of_wp_marks hf hb trivial (h _ (Tm.init args fn.ntmps hl hE)))
end code

/-! ### What a function with such loops hands back -/
section fin
variable {P : Program} {n : Sh} {a : Act} {E : List (Nat × Value)} {w w0 : World} {M : List Nat} {cs : List Chunk} {fn : Func} {R : Ending → World → Prop}
theorem leaves_end {vs : List Value} {rs : List ResultVar} (hT : Tm n a E) (hrs : fn.results.toList = rs) (h : Res P w E rs vs) (hR : R (.returned (packed vs)) w) : LeavesInM Fence.wide 0 P fn a.tmps R [] .returning w :=
  ⟨_, (hrs ▸ h : Res P w E fn.results.toList vs).run hT, hR⟩
theorem c_ret0 {vs : List Value} {rs : List ResultVar} (hT : Tm n a E) (hrs : fn.results.toList = rs) (h : Res P w E rs vs) (hR : R (.returned (packed vs)) w) (hds : n.ds = [] := by rfl) : bodyPostM Fence.wide 0 P fn R .ret a w := by
  show LeavesInM Fence.wide 0 P fn a.tmps R a.defers .returning w
  rw [hT.defers, hds]; exact leaves_end hT hrs h hR
theorem c_fall0 {vs : List Value} {rs : List ResultVar} (hT : Tm n a E) (hrs : fn.results.toList = rs) (h : Res P w E rs vs) (hR : R (.returned (packed vs)) w) (hds : n.ds = [] := by rfl) : bodyPostM Fence.wide 0 P fn R .normal a w := by
  show LeavesInM Fence.wide 0 P fn a.tmps R a.defers .returning w
  rw [hT.defers, hds]; exact leaves_end hT hrs h hR
theorem take_mark {i D : Nat} (hL : Vg.Loc M w0 w cs) (hi : cs[i]? = some [(D, .deferred (some []))]) : ∃ w', (Instr.takeDeferred D).run P w = .ok [] w' ∧ Vg.Loc M w0 w' (cs.set i [(D, .deferred none)]) := by
  have hD := hL.get i hi
  have hlt := lt_of_heap hD
  refine ⟨_, run_takeDeferred hD, hL.mod hi rfl rfl rfl rfl (by simp) (World.putObj_heap_same hlt) (fun k hk => World.putObj_heap_other hk)⟩
theorem c_ret1 {D : Nat} {cr : List Chunk} (hT : Tm n a E) (hL : Vg.Loc M w0 w ([(D, .deferred (some []))] :: cr)) (hds : n.ds = [{ target := .collected D, args := #[] }])
    (k : ∀ w', Vg.Loc M w0 w' cr → LeavesInM Fence.wide 0 P fn a.tmps R [] .returning w') : bodyPostM Fence.wide 0 P fn R .ret a w := by
  show LeavesInM Fence.wide 0 P fn a.tmps R a.defers .returning w
  rw [hT.defers, hds]
  obtain ⟨w', h1, h2⟩ := take_mark (P := P) (i := 0) hL rfl
  exact ⟨by simp, .inl ⟨D, w', rfl, h1, k w' (h2.sub (List.sublist_cons_self _ _))⟩⟩
theorem c_fall1 {D : Nat} {cr : List Chunk} (hT : Tm n a E) (hL : Vg.Loc M w0 w ([(D, .deferred (some []))] :: cr)) (hds : n.ds = [{ target := .collected D, args := #[] }])
    (k : ∀ w', Vg.Loc M w0 w' cr → LeavesInM Fence.wide 0 P fn a.tmps R [] .returning w') : bodyPostM Fence.wide 0 P fn R .normal a w := c_ret1 hT hL hds k
theorem noOut_M (h : ∀ w, ¬ R .outgrown w) : ¬ LetsOut (bodyPostM Fence.wide 0 P fn R) := fun ⟨_, w, hq⟩ => h w hq
theorem noOut_then {next : Act → World → Prop} {Q : Exit → Act → World → Prop} (h : ¬ LetsOut Q) : ¬ LetsOut (Exit.then next Q) := fun ⟨a, w, hq⟩ => h ⟨a, w, hq⟩
theorem noOut_block {id : Nat} {Q : Exit → Act → World → Prop} (h : ¬ LetsOut Q) : ¬ LetsOut (Exit.inBlock id Q) := fun ⟨a, w, hq⟩ => h ⟨a, w, hq⟩
end fin

/-! ### Rounds -/
/-- What an iterator is to do: it yields N times (Ar: what is known of the arguments, beside the caller's chunks and the world); what it owns lies in the chunks co; the caller's chunks are the caller's. -/
def Iter (P : Program) (g : FuncId) (lb : List Value) (N : Nat) (Ar : Nat → List Chunk → World → List Value → Prop) (co : List Chunk) (B : Nat) (w : World) : Prop :=
  ∀ (l : Nat) (ci : List Chunk) (J : Nat → List Chunk → Prop) (Jx : List Chunk → Prop), J 0 ci → Vg.Loc (keys (co ++ ci)) w w (co ++ ci) → (∀ x ∈ keys (co ++ ci), B ≤ x) →
    (∀ k c W vs, k < N → J k c → Vg.Loc (keys (co ++ ci)) w W c → Ar k c W vs → YieldAt Fence.wide 0 P l vs.toArray W fun e W' =>
      (e = .returned (.bool true) ∧ ∃ c', J (k + 1) c' ∧ Vg.Loc (keys c) W W' c') ∨ (e = .returned (.bool false) ∧ ∃ c', Jx c' ∧ Vg.Loc (keys c) W W' c')) →
    Calls P g ((Value.func (.yield l) #[] #[]) :: lb).toArray w fun e w' => (∃ v, e = .returned v) ∧ ((∃ c', J N c' ∧ Vg.Loc (keys (co ++ ci)) w w' c') ∨ (∃ c', Jx c' ∧ Vg.Loc (keys (co ++ ci)) w w' c'))
/-- How a round is left. -/
def roundQ (M : List Nat) (w0 : World) (I : Nat → List Chunk → Prop) (Ix : Code → List Chunk → Prop) (tl : List Chunk) (k : Nat) : Exit → Act → World → Prop
  | .normal, _, w => ∃ c, I k c ∧ Vg.Loc M w0 w (c ++ tl)
  | .ret, _, w => ∃ c, Ix .ret c ∧ Vg.Loc M w0 w (c ++ tl)
  | .exit id, _, w => ∃ c, Ix (.exit id) c ∧ Vg.Loc M w0 w (c ++ tl)
  | .goto t, _, w => ∃ c, Ix (.goto t) c ∧ Vg.Loc M w0 w (c ++ tl)
  | .panic _, _, _ => False
  | .outgrown, _, _ => False
theorem noOut_round {M : List Nat} {w0 : World} {I : Nat → List Chunk → Prop} {Ix : Code → List Chunk → Prop} {tl : List Chunk} {k : Nat} : ¬ LetsOut (roundQ M w0 I Ix tl k) := fun ⟨_, _, h⟩ => h
def zipE : List Tmp → List Value → List (Nat × Value) → List (Nat × Value)
  | p :: ps, v :: vs, E => zipE ps vs ((p, v) :: E)
  | _, _, E => E
theorem Tm.zip {n : Sh} : ∀ (ps : List Tmp) (vs : List Value) (E : List (Nat × Value)) (t : Array Value) (ds : List Deferred), Tm n ⟨t, ds⟩ E → (∀ p ∈ ps, p < n.n) → Tm n ⟨(ps.zip vs).foldl (fun t (p, v) => t.setIfInBounds p v) t, ds⟩ (zipE ps vs E)
  | [], _, _, _, _, h, _ => h
  | p :: ps, [], _, _, _, h, _ => h
  | p :: ps, v :: vs, E, t, ds, h, hp => by
    have h1 := h.put p (hp p (by simp)) v
    exact Tm.zip ps vs ((p, v) :: E) (t.setIfInBounds p v) ds h1 (fun q hq => hp q (by simp [hq]))
theorem Loc.snoc2 {M : List Nat} {w0 w : World} {c : List Chunk} {L D : Nat} {ol od ol' : Obj} (h : Vg.Loc M w0 w (c ++ [[(L, ol)], [(D, od)]])) {w' : World} (hos : w'.os = w.os) (ht : w'.tape = w.tape) (hout : w'.output = w.output) (hdr : w'.drawn = w.drawn)
    (hsz : w'.heap.size = w.heap.size) (hb : w'.heap[L]? = some ol') (hne : ∀ k, k ≠ L → w'.heap[k]? = w.heap[k]?) : Vg.Loc M w0 w' (c ++ [[(L, ol')], [(D, od)]]) := by
  have hi : (c ++ [[(L, ol)], [(D, od)]])[c.length]? = some [(L, ol)] := by simp
  have := h.mod hi hos ht hout hdr hsz hb hne
  simpa using this
theorem Loc.snoc2_get {M : List Nat} {w0 w : World} {c : List Chunk} {L D : Nat} {ol od : Obj} (h : Vg.Loc M w0 w (c ++ [[(L, ol)], [(D, od)]])) : w.heap[L]? = some ol ∧ w.heap[D]? = some od :=
  ⟨h.has (L, ol) (by simp), h.has (D, od) (by simp)⟩

section law
variable {P : Program} {n : Sh} {a : Act} {E : List (Nat × Value)} {w w0 : World} {M : List Nat} {cs co : List Chunk} {Q : Exit → Act → World → Prop}
theorem c_range {g : Operand} {gf : FuncId} {lb : List Value} {ps : Array Tmp} {assign body : Code} {N : Nat} {Ar : Nat → List Chunk → World → List Value → Prop} {B : Nat} (hT : Tm n a E) (hL : Vg.Loc M w0 w (co ++ cs)) (hB : ∀ x ∈ keys (co ++ cs), B ≤ x) (hBw : B ≤ w.heap.size) (hg : evO E g = some (.func (.func gf) #[] lb.toArray))
    (eg : ∀ (args : Array Value) (w : World), (callFunc gf args).run P w = .ok (.enter gf args) w) (hit : ∀ w1, Ext w w1 → Iter P gf lb N Ar co B w1) (hps : ∀ k c W vs, Ar k c W vs → vs.length = ps.size) (hpn : ∀ p ∈ ps.toList, p < n.n)
    (I : Nat → List Chunk → Prop) (Ix : Code → List Chunk → Prop) (h0 : I 0 cs)
    (hround : ∀ (l D : Nat) (ol od : Obj) (k : Nat) (c : List Chunk) (W : World) (a' : Act) (vs : List Value), k < N → I k c → Ar k (c ++ [[(l, ol)], [(D, od)]]) W vs → Tm ⟨n.n, []⟩ a' (zipE ps.toList vs E) → Vg.Loc M w0 W (c ++ [[(l, ol)], [(D, od)]]) → Vg.Loc (keys (c ++ [[(l, ol)], [(D, od)]])) W W (c ++ [[(l, ol)], [(D, od)]]) →
      assign.wpIn (Fence.wide.inRound l) 0 P (Exit.then (fun a1 w1 => ∃ c1, Vg.Loc (keys (c ++ [[(l, ol)], [(D, od)]])) W w1 (c1 ++ [[(l, ol)], [(D, od)]]) ∧
        ∀ ol' w2, Vg.Loc (keys (c ++ [[(l, ol)], [(D, od)]])) W w2 (c1 ++ [[(l, ol')], [(D, od)]]) → body.wpIn (Fence.wide.inRound l) 0 P (roundQ (keys (c ++ [[(l, ol)], [(D, od)]])) W I Ix [[(l, ol')], [(D, od)]] (k + 1)) a1 w2) (fun _ _ _ => False)) a' W)
    (hdone : ∀ D c W a', I N c → Tm ⟨n.n, { target := .collected D, args := #[] } :: n.ds⟩ a' E → Vg.Loc M w0 W ([(D, .deferred (some []))] :: c) → Q .normal a' W)
    (hstop : ∀ D code c W a', Ix code c → Tm ⟨n.n, { target := .collected D, args := #[] } :: n.ds⟩ a' E → Vg.Loc M w0 W ([(D, .deferred (some []))] :: c) → code.wpIn Fence.wide 0 P Q a' W) :
    (Code.rangeFunc g ps assign body).wpIn Fence.wide 0 P Q a w := by
  refine wpIn_rangeFunc ?_
  intro fn hfn
  obtain ⟨rec, hrec⟩ : ∃ rec : LoopState → Option Code → Loop, rec = fun st pe => { state := st, pending := pe, fn, tmps := a.tmps, params := ps, assign, body, defers := w.heap.size } := ⟨_, rfl⟩
  obtain ⟨W1, hW1⟩ : ∃ W1, (w.alloc (.deferred (some []))).alloc (.loop (rec .ready none)) = W1 := ⟨_, rfl⟩
  obtain ⟨L, hLd⟩ : ∃ L, w.heap.size + 1 = L := ⟨_, rfl⟩
  obtain ⟨D, hDd⟩ : ∃ D, w.heap.size = D := ⟨_, rfl⟩
  have hL1 : Vg.Loc M w0 W1 (co ++ (cs ++ [[(L, .loop (rec .ready none))], [(D, .deferred (some []))]])) := by
    have h1 := (hL.alloc (.deferred (some []))).alloc (.loop (rec .ready none))
    have h2 : (w.alloc (.deferred (some []))).heap.size = L := by rw [World.size_alloc]; exact hLd
    rw [← hW1]
    refine Loc.perm (cs := [(L, .loop (rec .ready none))] :: [(D, .deferred (some []))] :: (co ++ cs)) ?_ ?_
    · rw [← h2, ← hDd]; exact h1
    · have hpm := List.perm_append_comm (l₁ := [(L, Obj.loop (rec .ready none)), (D, Obj.deferred (some []))]) (l₂ := co.flatten ++ cs.flatten)
      simpa [List.append_assoc] using hpm
  have hB1 : ∀ x ∈ keys (co ++ (cs ++ [[(L, .loop (rec .ready none))], [(D, .deferred (some []))]])), B ≤ x := by
    intro x hx
    simp only [keys, List.flatten_append, List.map_append, List.mem_append, List.flatten_cons, List.flatten_nil, List.append_nil, List.map_cons, List.map_nil, List.singleton_append, List.mem_cons, List.not_mem_nil, or_false] at hx
    rcases hx with hx | hx | hx | hx
    · exact hB x (by simp only [keys, List.flatten_append, List.map_append, List.mem_append]; exact .inl hx)
    · exact hB x (by simp only [keys, List.flatten_append, List.map_append, List.mem_append]; exact .inr hx)
    · omega
    · omega
  have hE1 : Ext w W1 := by
    rw [← hW1]
    exact (((Loc.refl [] w).alloc (.deferred (some []))).alloc (.loop (rec .ready none))).drop
  refine ⟨L, [{ target := .collected D, args := #[] }], W1, { target := .fn (.func gf) lb.toArray, args := #[.func (.yield L) #[] #[]] }, W1, gf, ((Value.func (.yield L) #[] #[]) :: lb).toArray, W1, ?_, ?_, ?_, ?_, (fun h => by cases h), ?_⟩
  · rw [← hW1, hrec, ← hLd, ← hDd]; exact run_enterLoop_outer _ _ _ _ _
  · simp only [resolve, hT.ev hg]
    simp [go_sem]
  · intro f' hf'; exact trivial
  · simp [invoke, go_sem, eg]
  · have hTd : Tm ⟨n.n, []⟩ ⟨a.tmps, []⟩ E := ⟨hT.size, rfl, hT.get⟩
    have hTm : Tm ⟨n.n, { target := .collected D, args := #[] } :: n.ds⟩ { a with defers := [{ target := .collected D, args := #[] }] ++ a.defers } E := ⟨hT.size, by simp [hT.defers], hT.get⟩
    refine callsIn_wide.2 ((hit W1 hE1 L (cs ++ [[(L, .loop (rec .ready none))], [(D, .deferred (some []))]])
      (fun k c => ∃ c0, I k c0 ∧ c = c0 ++ [[(L, .loop (rec .ready none))], [(D, .deferred (some []))]])
      (fun c => ∃ code c0, Ix code c0 ∧ c = c0 ++ [[(L, .loop (rec .done (some code)))], [(D, .deferred (some []))]])
      ⟨cs, h0, rfl⟩ (Loc.self_all hL1) hB1 ?_).mono ?_)
    · rintro k c W vs hk ⟨c0, hi, rfl⟩ hF hA
      have hW : Vg.Loc M w0 W (c0 ++ [[(L, .loop (rec .ready none))], [(D, .deferred (some []))]]) := Loc.call_all hL1 hF
      have hl := hW.snoc2_get.1
      have hy := run_yield (P := P) (args := vs.toArray) hl (by rw [hrec]; simpa using hps k _ _ _ hA)
      rw [hrec] at hy
      have hz : ∀ t : Array Value, (ps.zip vs.toArray).foldl (fun tmps (t, a) => tmps.setIfInBounds t a) t = (ps.toList.zip vs).foldl (fun tmps (t, a) => tmps.setIfInBounds t a) t := by
        intro t
        rw [← Array.foldl_toList]
        simp
      refine ⟨fn, _, assign, body, hy, roundIn_of_wpIn hfn ?_⟩
      refine wpIn_mono (hround L D _ _ k c0 W _ vs hk hi hA (Tm.zip ps.toList vs E a.tmps [] hTd hpn) hW (Loc.self_all hW) |> (by simpa only [hz] using ·)) ?_
      rintro e a1 w1 hq
      cases e with
      | normal =>
        obtain ⟨c1, hl1, hb⟩ := hq
        have hl1' := hl1.snoc2_get.1
        have hlt := lt_of_heap hl1'
        refine ⟨_, run_beginRound hl1' (by rw [hrec]), ?_⟩
        have hl2 : Vg.Loc (keys (c0 ++ [[(L, .loop (rec .ready none))], [(D, .deferred (some []))]])) W (w1.putObj L (.loop { rec .ready none with state := .busy })) (c1 ++ [[(L, .loop { rec .ready none with state := .busy })], [(D, .deferred (some []))]]) :=
          hl1.snoc2 rfl rfl rfl rfl (by simp) (World.putObj_heap_same hlt) (fun k hk => World.putObj_heap_other hk)
        refine wpIn_mono (hb _ _ hl2) ?_
        have fin : ∀ (jump : Option Code) (c3 : List Chunk) (W3 : World), Vg.Loc (keys (c0 ++ [[(L, .loop (rec .ready none))], [(D, .deferred (some []))]])) W W3 (c3 ++ [[(L, .loop { rec .ready none with state := .busy })], [(D, .deferred (some []))]]) →
            ∃ W4, (Instr.endRound L jump).run P W3 = .ok (.bool jump.isNone) W4 ∧ Vg.Loc (keys (c0 ++ [[(L, .loop (rec .ready none))], [(D, .deferred (some []))]])) W W4 (c3 ++ [[(L, .loop (rec (if jump.isNone then .ready else .done) jump))], [(D, .deferred (some []))]]) := by
          intro jump c3 W3 h3
          have h4 := h3.snoc2_get.1
          have hlt := lt_of_heap h4
          refine ⟨_, run_endRound (P := P) jump h4, ?_⟩
          rw [hrec] at h3 ⊢
          exact h3.snoc2 rfl rfl rfl rfl (by simp) (World.putObj_heap_same hlt) (fun k hk => World.putObj_heap_other hk)
        rintro e a3 W3 hp
        cases e with
        | normal =>
          obtain ⟨c3, hi3, h3⟩ := hp
          obtain ⟨W4, h4, h5⟩ := fin none c3 W3 h3
          exact ⟨_, _, h4, .inl ⟨rfl, _, ⟨c3, hi3, rfl⟩, h5⟩⟩
        | ret =>
          obtain ⟨c3, hi3, h3⟩ := hp
          obtain ⟨W4, h4, h5⟩ := fin (some .ret) c3 W3 h3
          exact ⟨_, _, h4, .inr ⟨rfl, _, ⟨_, c3, hi3, rfl⟩, h5⟩⟩
        | exit id =>
          obtain ⟨c3, hi3, h3⟩ := hp
          obtain ⟨W4, h4, h5⟩ := fin (some (.exit id)) c3 W3 h3
          exact ⟨_, _, h4, .inr ⟨rfl, _, ⟨_, c3, hi3, rfl⟩, h5⟩⟩
        | goto t =>
          obtain ⟨c3, hi3, h3⟩ := hp
          obtain ⟨W4, h4, h5⟩ := fin (some (.goto t)) c3 W3 h3
          exact ⟨_, _, h4, .inr ⟨rfl, _, ⟨_, c3, hi3, rfl⟩, h5⟩⟩
        | panic ch => exact hp.elim
        | outgrown => exact hp.elim
      | ret => exact hq.elim
      | exit id => exact hq.elim
      | goto t => exact hq.elim
      | panic ch => exact hq.elim
      | outgrown => exact hq.elim
    · have out : ∀ (st : LoopState) (jump : Option Code) (c3 : List Chunk) (W2 : World), st ≠ .busy → Vg.Loc (keys (co ++ (cs ++ [[(L, .loop (rec .ready none))], [(D, .deferred (some []))]]))) W1 W2 (c3 ++ [[(L, .loop (rec st jump))], [(D, .deferred (some []))]]) →
          ∃ W4, (Instr.endLoop L).run P W2 = .ok jump W4 ∧ Vg.Loc M w0 W4 ([(D, .deferred (some []))] :: c3) := by
        intro st jump c3 W2 hst h
        have h3 := Loc.call_all hL1 h
        have h4 := h3.snoc2_get.1
        have hlt := lt_of_heap h4
        have h5 := run_endLoop (P := P) h4 (by rw [hrec]; exact hst)
        have h6 := h3.snoc2 (w' := W2.putObj L (.loop { rec st jump with state := .exhausted })) rfl rfl rfl rfl (by simp) (World.putObj_heap_same hlt) (fun k hk => World.putObj_heap_other hk)
        obtain ⟨W4, hW4⟩ : ∃ W4, W2.putObj L (.loop { rec st jump with state := .exhausted }) = W4 := ⟨_, rfl⟩
        rw [hW4] at h5 h6
        have e5 : (rec st jump).pending = jump := by rw [hrec]
        rw [e5] at h5
        refine ⟨W4, h5, ?_⟩
        have h7 : Vg.Loc M w0 W4 (c3 ++ [[(D, .deferred (some []))]]) := h6.sub (List.Sublist.append (List.Sublist.refl _) (List.sublist_cons_self _ _))
        refine h7.perm ?_
        simp only [List.flatten_append, List.flatten_cons, List.flatten_nil, List.append_nil]
        exact List.perm_append_comm
      rintro e W2 ⟨⟨v, rfl⟩, (⟨_, ⟨c3, hi, rfl⟩, hx⟩ | ⟨_, ⟨code, c3, hi, rfl⟩, hx⟩)⟩
      · obtain ⟨W4, h4, h5⟩ := out .ready none c3 W2 (by decide) hx
        exact ⟨none, W4, h4, hdone D c3 W4 _ hi hTm h5⟩
      · obtain ⟨W4, h4, h5⟩ := out .done (some code) c3 W2 (by decide) hx
        exact ⟨some code, W4, h4, hstop D code c3 W4 _ hi hTm h5⟩
end law

theorem d_startI {F : Fence} {m : Nat} {P : Program} {a : Act} {w w0 : World} {M : List Nat} {cs : List Chunk} {Q : Exit → Act → World → Prop} {ops : Array Oper} (hF : WF F) (hQ : ¬ LetsOut Q) (hL : Vg.Loc M w0 w cs) {id mm : Nat} (l : Array Bool) (ds : List Nat) (hd : noDefer ops.toList = true) (hm : P.follows .mixedOrders = true) (hn : ops.size = mm) (hl : Array.replicate mm false = l)
    (h : ∀ ws, Vg.Loc M w0 ws cs → Ext w ws → wpAnyLast P .any ops Q (fun w' => Ext ws w') ds mm l a ws) : (Code.region id ops true).wpIn F m P Q a w := by
  subst hn hl
  exact wpIn_region_any hm (any_in hF hQ (fun _ ho => noDefer_mem hd ho) _ _ _ _ (wpAny_of_last _ _ _ _ (h w.drew hL.drew (Loc.drew (Ext.refl _)))))
theorem d_startMI {F : Fence} {m : Nat} {P : Program} {a : Act} {w w0 : World} {M : List Nat} {cs : List Chunk} {Q : Exit → Act → World → Prop} {ops : Array Oper} (hF : WF F) (hQ : ¬ LetsOut Q) (hL : Vg.Loc M w0 w cs) (MS : List Nat) {id mm : Nat} (l : Array Bool) (ds : List Nat) (hd : noDefer ops.toList = true) (hm : P.follows .mixedOrders = true) (hn : ops.size = mm) (hl : Array.replicate mm false = l)
    (h : ∀ ws, Vg.Loc M w0 ws cs → Vg.Loc MS ws ws [] → wpAnyLast P .any ops Q (fun w' => Vg.Loc MS ws w' []) ds mm l a ws) : (Code.region id ops true).wpIn F m P Q a w := by
  subst hn hl
  exact wpIn_region_any hm (any_in hF hQ (fun _ ho => noDefer_mem hd ho) _ _ _ _ (wpAny_of_last _ _ _ _ (h w.drew hL.drew (Loc.refl MS _))))
theorem with_out {F : Fence} {m : Nat} {P : Program} {c : Code} {a : Act} {w : World} {Q : Exit → Act → World → Prop} (h0 : ¬ LetsOut Q) (h : ¬ LetsOut Q → c.wpIn F m P Q a w) : c.wpIn F m P Q a w := h h0
theorem with_outM {P : Program} {fn : Func} {R : Ending → World → Prop} {c : Code} {a : Act} {w : World} (h0 : ∀ w, ¬ R .outgrown w) (h : ¬ LetsOut (bodyPostM Fence.wide 0 P fn R) → c.wpIn Fence.wide 0 P (bodyPostM Fence.wide 0 P fn R) a w) : c.wpIn Fence.wide 0 P (bodyPostM Fence.wide 0 P fn R) a w := h (noOut_M h0)
theorem Loc.from0 {w0 w : World} {cs : List Chunk} (h : Vg.Loc [] w0 w cs) : ∀ x ∈ keys cs, w0.heap.size ≤ x := fun x hx => (h.own x hx).resolve_right (by simp)
theorem Loc.fromM {M : List Nat} {w0 w : World} {cs : List Chunk} {B : Nat} (h : Vg.Loc M w0 w cs) (hM : ∀ x ∈ M, B ≤ x) (hw : B ≤ w0.heap.size) : ∀ x ∈ keys cs, B ≤ x := fun x hx => by
  rcases h.own x hx with h1 | h1
  · omega
  · exact hM x h1
/-- Behind a call that may have turned the last chunks. -/
theorem Loc.call_tail {M : List Nat} {w0 w w' : World} {own c c' : List Chunk} (h : Vg.Loc M w0 w (own ++ c)) (hc : Vg.Loc (keys c) w w' c') : Vg.Loc M w0 w' (own ++ c') := by
  have h1 : Vg.Loc M w0 w (c ++ own) := h.perm (by simp only [List.flatten_append]; exact List.perm_append_comm)
  exact (Loc.call (ci := c) (cr := own) h1 hc).perm (by simp only [List.flatten_append]; exact List.perm_append_comm)
theorem Loc.call_mid {M : List Nat} {w0 w w' : World} {own c c' bk : List Chunk} (h : Vg.Loc M w0 w (own ++ (c ++ bk))) (hc : Vg.Loc (keys c) w w' c') : Vg.Loc M w0 w' (own ++ (c' ++ bk)) := by
  have h1 : Vg.Loc M w0 w (c ++ (own ++ bk)) := h.perm (by
    simp only [List.flatten_append]
    rw [← List.append_assoc, ← List.append_assoc]
    exact List.Perm.append_right _ List.perm_append_comm)
  exact (Loc.call (ci := c) (cr := own ++ bk) h1 hc).perm (by
    simp only [List.flatten_append]
    rw [← List.append_assoc, ← List.append_assoc]
    exact List.Perm.append_right _ List.perm_append_comm)
theorem Loc.tail_of {M : List Nat} {w0 w : World} {own c : List Chunk} (h : Vg.Loc M w0 w (own ++ c)) : Vg.Loc M w0 w c := h.sub (List.sublist_append_right _ _)
theorem Loc.mid_of {M : List Nat} {w0 w : World} {own c bk : List Chunk} (h : Vg.Loc M w0 w (own ++ (c ++ bk))) : Vg.Loc M w0 w c := h.sub ((List.sublist_append_left c bk).trans (List.sublist_append_right own _))
/-- An own block is none of the chunks behind. -/
theorem Loc.notin {M : List Nat} {w0 w : World} {own c : List Chunk} (h : Vg.Loc M w0 w (own ++ c)) {x : Nat} (hx : x ∈ keys own) : x ∉ keys c := fun hc => by
  have hnd := h.nd
  simp only [keys, List.flatten_append, List.map_append] at hnd
  exact (List.nodup_append.1 hnd).2.2 x hx x hc rfl

/-! ### A call of yield -/
section yield
variable {F : Fence} {m : Nat} {P : Program} {n : Sh} {a : Act} {E : List (Nat × Value)} {w : World} {Q : Exit → Act → World → Prop} {ops : Array Oper} {rest : List Oper} {d : Nat} {ty : TypeId} {pos : String} {af : Array Edge}
theorem RoundIn.any (hF : WF F) {l : Nat} {f : FuncId} {tmps : Array Value} {assign body : Code} {R : Ending → World → Prop} (h : RoundIn Fence.wide 0 P l f tmps assign body w R) : RoundIn F m P l f tmps assign body w R := by
  cases hF with
  | wide => exact ⟨trivial, fun c cs _ => h.2 c cs (room_wide _)⟩
  | round l => exact ⟨trivial, fun c cs _ => h.2 c cs (room_wide _)⟩
theorem w_yield (hT : Tm n a E) (hF : WF F) {f : Operand} {xs : List Operand} {ts : Array TypeId} {l : Nat} {vs : List Value} {R : Ending → World → Prop} {K : Act → World → Prop} {gd : Option (Nat × Bool)} (hf : evO E f = some (.func (.yield l) #[] #[])) (hx : evL E xs = some vs) (hlt : d < n.n)
    (hy : YieldAt Fence.wide 0 P l vs.toArray w R) (hR : ∀ e w', R e w' → ∃ v, e = .returned v ∧ ∀ a', Tm n a' ((d, v) :: E) → K a' w') :
    Oper.wpIn F m P ⟨some d, .call { callee := .value f, args := xs.toArray, argTypes := ts }, ty, pos, af, gd⟩ a w K Q := by
  obtain ⟨fn, tmps, assign, body, hr, hR'⟩ := hy
  unfold Oper.wpIn
  refine ⟨fun _ _ => hF.fn _, ?_⟩
  rw [Oper.semAt_eq _ _ _ (fun c h => by cases h)]
  have he : (execOp a.eval ⟨some d, .call { callee := .value f, args := xs.toArray, argTypes := ts }, ty, pos, af, gd⟩).run P w = .ok (.round l fn tmps assign body) w := by
    simp [execOp, resolve, Deferred.ofValue, invoke, hT.ev hf, hT.evL hx]
    exact hr
  rw [he]
  refine ⟨fun hh => absurd hh hF.deep, RoundIn.any hF (hR'.mono ?_)⟩
  intro e w' h
  obtain ⟨v, rfl, hk⟩ := hR e w' h
  exact hk _ (hT.put d hlt v)
end yield
end Go.Vg
end
