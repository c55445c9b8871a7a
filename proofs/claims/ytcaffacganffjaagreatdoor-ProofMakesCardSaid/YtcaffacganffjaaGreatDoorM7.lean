/- What a row's reading says of its arguments, and what a call that changes nothing old leaves. The row of leaves, opened. What the document's answer reckons, in plain functions. -/
import Derived.Test.YtcaffacganffjaaGreatDoorM6
import Derived.Test.YtcaffacganffjaaGreatDoorRows
import Derived.WalkKit
import Derived.ProofKit
import Derived.OpenShut
import Derived.WideKeyArgs
import Derived.Below
import Derived.Deep.Slices
import Derived.Deep.DeepHandedRow
import Derived.Lib.LaidTab
import Derived.Test.YtcaffacganffjaaGreatDoorM2

section
namespace Go.Vg
open Go Go.ChangeShapes Go.WideShapes Go.RowKit
section
variable {H : Type} {enc : TypeId × Value → H} {P : Program} {w : World} {base : Nat} {sp : Nat → Bool} {held : Bool}

theorem trod_dig {t e : TypeId} {fuel : Nat} {cs : List Value} {x : DataW H × List MemPlace} (ht : P.underlying t = some (.array 32 e)) (he : P.underlying e = some (.int .u8)) (ce : P.cellsOf e = 1) (ct : P.cellsOf t = 32)
    (h : DataW.trod enc P w base sp held fuel t cs = some x) : ∃ d : Dig, cs = digC d := by
  obtain ⟨xs, m, _, _, hl, hxl, hx⟩ := DataW.trod_array ht h
  rw [ct] at hl
  refine ⟨Dig.of fun i => match cs[i]? with | some (.int _ n) => UInt8.ofNat n.toNat | _ => 0, ?_⟩
  rw [digC_of]
  apply List.ext_getElem?
  intro i
  by_cases hi : i < 32
  · have h1 := hx i hi
    rw [ce, Nat.mul_one, List.getElem?_eq_getElem (by omega)] at h1
    obtain ⟨n, hn, _, hwf⟩ := DataW.trod_int he h1
    have hci : cs[i]? = some (.int .u8 n) := by
      have := congrArg (fun l => l[0]?) hn
      simpa using this
    rw [arr8_get _ hi, hci]
    simp only [Lit.wf, Bool.and_eq_true, decide_eq_true_eq, IntKind.min, IntKind.max, IntKind.signed, IntKind.bits] at hwf
    obtain ⟨h2, h3⟩ := hwf
    have h4 : 0 ≤ n := by simpa using h2
    have h5 : n < 256 := by have : n ≤ 255 := by simpa using h3
                            omega
    have h6 : ((UInt8.ofNat n.toNat).toNat : Int) = n := by
      simp only [UInt8.toNat_ofNat']
      omega
    simp only [v8, h6]
  · rw [List.getElem?_eq_none (by omega), List.getElem?_eq_none (by rw [arr8_len]; omega)]
theorem trod_leaf {t td e : TypeId} {f0 f1 : Field} {fuel : Nat} {cs : List Value} {x : DataW H × List MemPlace} (hs : P.underlying t = some (.struct #[f0, f1])) (o0 : f0.offset = 0) (o1 : f1.offset = 32) (t0 : f0.type = td) (t1 : f1.type = td)
    (ht : P.underlying td = some (.array 32 e)) (he : P.underlying e = some (.int .u8)) (ce : P.cellsOf e = 1) (ct : P.cellsOf td = 32) (cl : P.cellsOf t = 64) (h : DataW.trod enc P w base sp held fuel t cs = some x) : ∃ l : Leaf, cs = leafC l := by
  obtain ⟨xs, n, _, _, hl, hxl, hx⟩ := DataW.trod_struct hs h
  rw [cl] at hl
  have g0 := hx 0 f0 rfl
  have g1 := hx 1 f1 rfl
  rw [o0, t0, ct, List.getElem?_eq_getElem (by rw [hxl]; simp)] at g0
  rw [o1, t1, ct, List.getElem?_eq_getElem (by rw [hxl]; simp)] at g1
  obtain ⟨p, hp⟩ := trod_dig ht he ce ct g0
  obtain ⟨v, hv⟩ := trod_dig ht he ce ct g1
  refine ⟨⟨p, v⟩, ?_⟩
  unfold leafC
  rw [← hp, ← hv, List.drop_zero, List.take_of_length_le (l := cs.drop 32) (by rw [List.length_drop]; omega), List.take_append_drop]
theorem okWide_arr {W : World} {r : Reach} {b0 : Nat} {t e : TypeId} {n : Nat} {v : Value} (ht : P.underlying t = some (.array n e)) (h : Value.okWide P W r b0 t v) : ∃ cs, v = .agg cs := by
  unfold Value.okWide at h
  rw [ht] at h
  obtain ⟨cs, h1, _⟩ := h
  exact ⟨cs, h1⟩
theorem okWide_cell {W : World} {r : Reach} {b0 : Nat} {t e : TypeId} {v c : Value} (ht : P.underlying t = some (.slice e)) (h : Value.okWide P W r b0 t v) (hc : v.cells.toList = [c]) : v = c := by
  unfold Value.okWide at h
  rw [ht] at h
  cases v <;> first | (simp [Value.cells] at hc; exact hc) | (simp [Cell.okWide, Cell.ok, ht] at h)
theorem Rd.of_cells {a : Addr} {cs : List Value} (h0 : 0 < cs.length) (h : ∀ i, i < cs.length → w.cell? (a.add i) = cs[i]?) : ∃ b off, a = ⟨b, off, none⟩ ∧ Rd w b off cs := by
  obtain ⟨b, off, s⟩ := a
  have hadd : ∀ i, ∃ s', (⟨b, off, s⟩ : Addr).add i = ⟨b, off + i, s'⟩ ∧ (s' = none → s = none ∨ i ≠ 0) := by
    intro i
    unfold Addr.add
    split
    · rename_i hi; exact ⟨s, by rw [hi]; simp, fun e => .inl e⟩
    · rename_i hi; exact ⟨_, rfl, fun _ => .inr hi⟩
  have hz := h 0 h0
  rw [List.getElem?_eq_getElem h0] at hz
  have hz' : w.cell? ⟨b, off, s⟩ = some cs[0] := by simpa [Addr.add] using hz
  simp only [World.cell?] at hz'
  cases hh : w.heap[b]? with
  | none => rw [hh] at hz'; cases hz'
  | some o =>
    rw [hh] at hz'
    cases o with
    | cells c T fr =>
      simp only at hz'
      split at hz'
      · cases hz'
      · rename_i hs
        have hs' : s = none := by cases s <;> simp_all
        subst hs'
        refine ⟨b, off, rfl, c, T, fr, hh, fun i v hv => ?_⟩
        have hi : i < cs.length := (List.getElem?_eq_some_iff.1 hv).1
        have h1 := h i hi
        rw [hv] at h1
        have h2 : (⟨b, off, none⟩ : Addr).add i = ⟨b, off + i, none⟩ := by
          unfold Addr.add; split
          · rename_i h0; subst h0; rfl
          · rfl
        rw [h2] at h1
        simpa [World.cell?, hh] using h1
    | _ => cases hz'
theorem trodAll_stays {ts : List TypeId} (hl : laidOutB P = true) (hr : ∀ t ∈ ts, P.readableRec t = true ∧ t < P.types.size) : ∀ {vs : List Value} {ds : List (DataW H)} {ps : List MemPlace} {W W' : World} {sp' : Nat → Bool},
    DataW.TrodAll enc P W 0 (fun _ => true) true ts vs ds ps → (∀ p ∈ ps, W.sameAt W' p) → (∀ p ∈ ps, sp' p.block = true) → DataW.TrodAll enc P W' 0 sp' true ts vs ds ps := by
  induction ts with
  | nil =>
    intro vs ds ps W W' sp' h _ _
    match vs, ds, h with
    | [], [], h => exact h
  | cons t ts ih =>
    intro vs ds ps W W' sp' h hs hb
    match vs, ds, h with
    | v :: vs, d :: ds, ⟨p, q, h1, h2, e⟩ =>
      subst e
      exact ⟨p, q, Go.WideElems.Trod_stays hl (hr t (by simp)).1 (hr t (by simp)).2 h1 (fun x hx => hs x (by simp [hx])) (fun x hx => hb x (by simp [hx])), ih (fun t' ht' => hr t' (by simp [ht'])) h2 (fun x hx => hs x (by simp [hx])) (fun x hx => hb x (by simp [hx])), rfl⟩
/-- A law that hands back true, and changes nothing old. -/
theorem post_law {f : Func} {s : ChangeSpec} {W W' : World} {args : Array Value} {ds : List (DataW H)} {before : List MemPlace} {tb : TypeId} (hl : laidOutB P = true) (hr : ∀ t ∈ f.params.toList, P.readableRec t = true ∧ t < P.types.size)
    (hv : s.vars = []) (hW : DataW.Whole enc P f.params.toList s.vars false W args.toList ds [] before) (hres : f.resultTypes = #[tb]) (htb : P.underlying tb = some .bool) (hfn : s.fn H (ds ++ []) = { results := [.lit (.bool true)], args := ds })
    (hx : Ext W W') : s.post enc P f false true false false W args (.bool true) W' := by
  have hlt := hW.lt
  obtain ⟨p, q, hA, hV, hb, hz, hn⟩ := hW
  have hV' := hV
  rw [hv] at hV'
  have hq : q = [] := (trodVars_none hV').2
  subst hq
  have hbl := hx.below
  refine ⟨ds, [], before, [], p, [], ⟨p, [], hA, hV, hb, hz, hn⟩, ?_, ?_, ?_, hbl.frame _, fun h => by cases h⟩
  · rw [hfn, hres]
    exact trodAll_cons_mk (shut_bool htb true) trodAll_mk0
  · rw [hfn]
    refine trodAll_stays hl hr hA (fun x hx' => hbl.same (hlt x (by rw [hb]; simpa using hx'))) (fun x hx' => by simpa using hlt x (by rw [hb]; simpa using hx'))
  · rw [hfn, hv]; rfl
end
end Go.Vg
end

section
namespace Go.Proofs.YtcaffacganffjaaGreatDoor
open Go Go.Vg Go.ChangeShapes Go.WideShapes Go.RowKit

set_option maxRecDepth 100000
theorem own : ownKnob Tryz.prog.godebug = none := by kernel_rfl
theorem gTab : Tryz.prog.globalNamed "tabellion/sha.keys" = some 1 := by kernel_rfl
theorem gTabType : (Tryz.prog.globals[1]?).map (·.type) = some 235 := by kernel_rfl
theorem cKeys : Tryz.prog.cellsOf 235 = 64 := by kernel_rfl
theorem cKey : Tryz.prog.cellsOf 188 = 1 := by kernel_rfl
theorem cLeaf : Tryz.prog.cellsOf 85 = 64 := by kernel_rfl
theorem cDig : Tryz.prog.cellsOf 24 = 32 := by kernel_rfl
theorem cByte : Tryz.prog.cellsOf 5 = 1 := by kernel_rfl
theorem laidOut : laidOutB Tryz.prog = true := by kernel_rfl
def keysZ : List Int := (List.range 64).map fun i => ((keyF i).toNat : Int)
theorem keysZ_laid : (Rows.laid_tabellion_sha_keys : DataW Unit) = Lib.tabData .u32 keysZ := by kernel_rfl
theorem keysAt {W : World} {rest : List (String × DataW Unit)} (h : laidMet Tryz.prog (("tabellion/sha.keys", Rows.laid_tabellion_sha_keys) :: rest) W) : KeysAt W := by
  rw [keysZ_laid] at h
  have ht := Lib.tabIs_of_head gTab gTabType Tryz.underlying235 Tryz.underlying188 cKey cKeys h
  have hc : ∀ i, i < (arr32 64 keyF).length → W.cell? ((⟨1, 0, none⟩ : Addr).add i) = (arr32 64 keyF)[i]? := by
    intro i hi
    rw [arr32_len] at hi
    have h1 := ht.cell gTab i (by simpa [keysZ] using hi)
    have h2 : (⟨1, 0, none⟩ : Addr).add i = ⟨1, i, none⟩ := by
      unfold Addr.add; split
      · rename_i h0; subst h0; rfl
      · simp
    rw [h2, h1, arr32_get _ hi]
    simp [keysZ, List.getD_eq_getElem?_getD, hi, v32]
  obtain ⟨b, off, he, hr⟩ := Rd.of_cells (by rw [arr32_len]; decide) hc
  cases he
  exact hr

theorem open_dig {H : Type} {enc : TypeId × Value → H} {W : World} {base : Nat} {sp : Nat → Bool} {held : Bool} {v : Value} {d : DataW H} {ps : List MemPlace} {b0 : Nat} (hval : Value.okWide Tryz.prog W .any b0 24 v)
    (h : DataW.Trod enc Tryz.prog W base sp held 24 v d ps) : ∃ p : Dig, v = dv p := by
  obtain ⟨fuel, hf⟩ := h
  obtain ⟨p, hp⟩ := trod_dig Tryz.underlying24 Tryz.underlying5 cByte cDig hf
  obtain ⟨cs, rfl⟩ := okWide_arr Tryz.underlying24 hval
  refine ⟨p, ?_⟩
  have : cs.toList = digC p := by simpa [Value.cells] using hp
  rw [dv, ← this]
theorem open_leaves {H : Type} {enc : TypeId × Value → H} {W : World} {base : Nat} {sp : Nat → Bool} {held : Bool} {v : Value} {d : DataW H} {ps : List MemPlace} {b0 : Nat} (hval : Value.okWide Tryz.prog W .any b0 22 v)
    (h : DataW.Trod enc Tryz.prog W base sp held 22 v d ps) : ∃ (p : Option Addr) (len cap : Nat) (ls : List Leaf), v = .slice p len cap ∧ SlT W p len 64 leafC noLeaf ls := by
  obtain ⟨fuel, hf⟩ := h
  have hv : ∀ c, v.cells.toList = [c] → v = c := fun c hc => okWide_cell Tryz.underlying22 hval hc
  rcases Go.Deep.open_slice Tryz.underlying22 hf with ⟨hc, _⟩ | ⟨a, len, cap, m, n, D, Pl, hc, _, hlc, _, hm, _, hx⟩
  · exact ⟨none, 0, 0, [], hv _ hc, SlT.nil⟩
  · have hlm : len ≤ m := by rw [hm]; split <;> omega
    rw [cLeaf] at hx
    have each : ∀ i, i < len → ∃ l : Leaf, ∀ j, j < 64 → W.cell? ((a.add (i * 64)).add j) = (leafC l)[j]? := by
      intro i hi
      obtain ⟨cs', h1, h2⟩ := hx i (by omega)
      obtain ⟨_, hlen, hcell⟩ := World.cells?_some h1
      obtain ⟨l, rfl⟩ := trod_leaf Tryz.underlying85 rfl rfl rfl rfl Tryz.underlying24 Tryz.underlying5 cByte cDig cLeaf h2
      exact ⟨l, hcell⟩
    haveI : Inhabited Leaf := ⟨noLeaf⟩
    obtain ⟨f, hf'⟩ := Go.Deep.choose_lt (α := Leaf) each
    refine ⟨some a, len, cap, (List.range len).map f, hv _ hc, by simp, fun h0 => ?_⟩
    obtain ⟨b, off, hba, _⟩ := Rd.of_cells (w := W) (a := a.add (0 * 64)) (cs := leafC (f 0)) (by rw [leafC_len]; decide) (fun j hj => hf' 0 h0 j (by rwa [leafC_len] at hj))
    have ha : a = ⟨b, off, none⟩ := by simpa [Addr.add] using hba
    subst ha
    refine ⟨b, off, rfl, fun i hi => ?_⟩
    obtain ⟨b', off', hba', hr⟩ := Rd.of_cells (w := W) (a := (⟨b, off, none⟩ : Addr).add (i * 64)) (cs := leafC (f i)) (by rw [leafC_len]; decide) (fun j hj => hf' i hi j (by rwa [leafC_len] at hj))
    have hadd : (⟨b, off, none⟩ : Addr).add (i * 64) = ⟨b, off + i * 64, none⟩ := by
      unfold Addr.add; split
      · rename_i h0; rw [h0]; rfl
      · rfl
    rw [hadd] at hba'
    cases hba'
    simpa [List.getD_eq_getElem?_getD, hi] using hr
/-- A world that meets the row's condition. -/
noncomputable def laidWorld (os : Os) : World :=
  { World.holding Tryz.prog os ⟨#[], #[], []⟩ with heap := (World.holding Tryz.prog os ⟨#[], #[], []⟩).heap.modify 1 fun
      | .cells _ t frozen => .cells (arr32 64 keyF).toArray t frozen
      | o => o }
end Go.Proofs.YtcaffacganffjaaGreatDoor
end

section
namespace Go.Vg
open Go
theorem pow7 (t : Nat) : 0 < 2 ^ (7 - t) ∧ 2 ^ (7 - t) ≤ 128 := by
  refine ⟨Nat.two_pow_pos _, ?_⟩
  have : 2 ^ (7 - t) ≤ 2 ^ 7 := Nat.pow_le_pow_right (by omega) (by omega)
  simpa using this
theorem pow_half {t : Nat} (h : t < 7) : ((2 ^ (7 - t) : Nat) : Int) / 2 = ((2 ^ (7 - (t + 1)) : Nat) : Int) := by
  have e : 7 - t = (7 - (t + 1)) + 1 := by omega
  rw [e, Nat.pow_succ]
  omega
theorem bit_div (p : Dig) (i : Nat) : (((p.get (i / 8)).toNat : Int) / ((2 ^ (7 - i % 8) : Nat) : Int)) % 2 = if p.bit i then 1 else 0 := by
  have h1 : ((p.get (i / 8)).toNat : Int) / ((2 ^ (7 - i % 8) : Nat) : Int) = (((p.get (i / 8)).toNat / 2 ^ (7 - i % 8) : Nat) : Int) := rfl
  rw [h1]
  unfold Dig.bit
  rw [Nat.testBit_eq_decide_div_mod_eq]
  by_cases h : (p.get (i / 8)).toNat / 2 ^ (7 - i % 8) % 2 = 1
  · rw [if_pos (by simpa using h)]; omega
  · rw [if_neg (by simpa using h)]; omega
def halfL (ls : List Leaf) (n : Nat) (b : Bool) : List Leaf := ls.filter fun l => l.p.bit n == b
def bitI (b : Bool) : Int := if b then 1 else 0
theorem bitI_inj {x b : Bool} : (if x then (1 : Int) else 0) = bitI b ↔ x = b := by cases x <;> cases b <;> simp [bitI]
theorem halfL_yes {ls : List Leaf} {t n : Nat} {b : Bool} (h : t < ls.length) (hc : (if (ls.getD t noLeaf).p.bit n then (1 : Int) else 0) = bitI b) : halfL (ls.take (t + 1)) n b = halfL (ls.take t) n b ++ [ls.getD t noLeaf] := by
  rw [bitI_inj] at hc
  unfold halfL
  rw [List.take_succ_eq_append_getElem h, List.filter_append]
  simp only [List.getD_eq_getElem?_getD, List.getElem?_eq_getElem h, Option.getD_some] at hc ⊢
  simp [hc]
theorem halfL_no {ls : List Leaf} {t n : Nat} {b : Bool} (h : t < ls.length) (hc : ¬ (if (ls.getD t noLeaf).p.bit n then (1 : Int) else 0) = bitI b) : halfL (ls.take (t + 1)) n b = halfL (ls.take t) n b := by
  rw [bitI_inj] at hc
  unfold halfL
  rw [List.take_succ_eq_append_getElem h, List.filter_append]
  simp only [List.getD_eq_getElem?_getD, List.getElem?_eq_getElem h, Option.getD_some] at hc ⊢
  simp [hc]
def getL (ls : List Leaf) (p : Dig) : Dig × Bool := match ls.find? fun l => decide (l.p = p) with
  | some l => (l.v, true)
  | none => (Dig.zero, false)
theorem getL_no {ls : List Leaf} {p : Dig} (h : ∀ i, i < ls.length → (ls.getD i noLeaf).p ≠ p) : getL ls p = (Dig.zero, false) := by
  have : (ls.find? fun l => decide (l.p = p)) = none := by
    rw [List.find?_eq_none]
    intro x hx
    obtain ⟨i, hi, rfl⟩ := List.mem_iff_getElem.1 hx
    have := h i hi
    simpa [List.getD_eq_getElem?_getD, hi] using this
  unfold getL
  rw [this]
theorem getL_at {ls : List Leaf} {p : Dig} {t : Nat} (ht : t < ls.length) (h : ∀ i, i < t → (ls.getD i noLeaf).p ≠ p) (he : (ls.getD t noLeaf).p = p) : getL ls p = ((ls.getD t noLeaf).v, true) := by
  have e : ls.getD t noLeaf = ls[t] := by simp [List.getD_eq_getElem?_getD, ht]
  have : (ls.find? fun l => decide (l.p = p)) = some (ls.getD t noLeaf) := by
    rw [List.find?_eq_some_iff_getElem]
    refine ⟨by simpa using he, t, ht, e.symm, fun j hj => ?_⟩
    have := h j hj
    simpa [List.getD_eq_getElem?_getD, show j < ls.length by omega] using this
  unfold getL
  rw [this]
theorem twins_yes {ls : List Leaf} {i k : Nat} (hi : i < ls.length) (hk : k < i) (h : (ls.getD i noLeaf).p = (ls.getD k noLeaf).p) : twins ls = true := by
  unfold twins
  rw [Bool.not_eq_true', decide_eq_false_iff_not, List.pairwise_iff_getElem]
  intro hp
  refine hp k i (by omega) hi hk ?_
  simpa [List.getD_eq_getElem?_getD, hi, show k < ls.length by omega] using h.symm
theorem twins_no {ls : List Leaf} (h : ∀ i, i < ls.length → ∀ k, k < i → (ls.getD i noLeaf).p ≠ (ls.getD k noLeaf).p) : twins ls = false := by
  unfold twins
  rw [Bool.not_eq_false', decide_eq_true_eq, List.pairwise_iff_getElem]
  intro k i hk hi hki he
  refine h i hi k hki ?_
  simpa [List.getD_eq_getElem?_getD, hi, hk] using he.symm
theorem rotl_or (x : UInt32) (n : Nat) (h : n ≤ 32) : shr32 x n ||| shl32 x (32 - n) = rotl x (32 - n) := by
  unfold rotl
  rw [UInt32.or_comm, show 32 - (32 - n) = n from by omega]
end Go.Vg
end
