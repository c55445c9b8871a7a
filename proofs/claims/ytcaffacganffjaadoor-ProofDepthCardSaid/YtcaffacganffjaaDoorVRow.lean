/- What a row's reading says of its arguments, and what a call that changes nothing old leaves. -/
import Derived.Test.YtcaffacganffjaaDoorVLaw6
import Derived.Test.YtcaffacganffjaaDoorVTypes
import Derived.Test.YtcaffacganffjaaDoorRows
import Derived.WalkKit
import Derived.ProofKit
import Derived.OpenShut
import Derived.WideKeyArgs
import Derived.Below
import Derived.Deep.Slices
import Derived.Deep.DeepHandedRow
import Derived.Lib.LaidTab
namespace Go.Vg
open Go Go.ChangeShapes Go.WideShapes Go.RowKit
section
variable {H : Type} {enc : TypeId × Value → H} {P : Program} {w : World} {base : Nat} {sp : Nat → Bool} {held : Bool}

theorem trod_dig {t e : TypeId} {fuel : Nat} {cs : List Value} {x : DataW H × List MemPlace} (ht : P.underlying t = some (.array 32 e)) (he : P.underlying e = some (.int .u8)) (ce : P.cellsOf e = 1) (ct : P.cellsOf t = 32)
    (h : DataW.trod enc P w base sp held fuel t cs = some x) : ∃ d : Dig, cs = digC d := by
  obtain ⟨xs, m, _, _, hl, hxl, hx⟩ := DataW.trod_array ht h
  rw [ct] at hl
  refine ⟨Dig.of fun i => match cs[i]? with | some (.int _ n) => UInt8.ofNat n.toNat | _ => 0, ?_⟩
  rw [digC_of]
  apply List.ext_getElem?
  intro i
  by_cases hi : i < 32
  · have h1 := hx i hi
    rw [ce, Nat.mul_one, List.getElem?_eq_getElem (by omega)] at h1
    obtain ⟨n, hn, _, hwf⟩ := DataW.trod_int he h1
    have hci : cs[i]? = some (.int .u8 n) := by
      have := congrArg (fun l => l[0]?) hn
      simpa using this
    rw [arr8_get _ hi, hci]
    simp only [Lit.wf, Bool.and_eq_true, decide_eq_true_eq, IntKind.min, IntKind.max, IntKind.signed, IntKind.bits] at hwf
    obtain ⟨h2, h3⟩ := hwf
    have h4 : 0 ≤ n := by simpa using h2
    have h5 : n < 256 := by have : n ≤ 255 := by simpa using h3
                            omega
    have h6 : ((UInt8.ofNat n.toNat).toNat : Int) = n := by
      simp only [UInt8.toNat_ofNat']
      omega
    simp only [v8, h6]
  · rw [List.getElem?_eq_none (by omega), List.getElem?_eq_none (by rw [arr8_len]; omega)]
theorem trod_leaf {t td e : TypeId} {f0 f1 : Field} {fuel : Nat} {cs : List Value} {x : DataW H × List MemPlace} (hs : P.underlying t = some (.struct #[f0, f1])) (o0 : f0.offset = 0) (o1 : f1.offset = 32) (t0 : f0.type = td) (t1 : f1.type = td)
    (ht : P.underlying td = some (.array 32 e)) (he : P.underlying e = some (.int .u8)) (ce : P.cellsOf e = 1) (ct : P.cellsOf td = 32) (cl : P.cellsOf t = 64) (h : DataW.trod enc P w base sp held fuel t cs = some x) : ∃ l : Leaf, cs = leafC l := by
  obtain ⟨xs, n, _, _, hl, hxl, hx⟩ := DataW.trod_struct hs h
  rw [cl] at hl
  have g0 := hx 0 f0 rfl
  have g1 := hx 1 f1 rfl
  rw [o0, t0, ct, List.getElem?_eq_getElem (by rw [hxl]; simp)] at g0
  rw [o1, t1, ct, List.getElem?_eq_getElem (by rw [hxl]; simp)] at g1
  obtain ⟨p, hp⟩ := trod_dig ht he ce ct g0
  obtain ⟨v, hv⟩ := trod_dig ht he ce ct g1
  refine ⟨⟨p, v⟩, ?_⟩
  unfold leafC
  rw [← hp, ← hv, List.drop_zero, List.take_of_length_le (l := cs.drop 32) (by rw [List.length_drop]; omega), List.take_append_drop]
theorem okWide_arr {W : World} {r : Reach} {b0 : Nat} {t e : TypeId} {n : Nat} {v : Value} (ht : P.underlying t = some (.array n e)) (h : Value.okWide P W r b0 t v) : ∃ cs, v = .agg cs := by
  unfold Value.okWide at h
  rw [ht] at h
  obtain ⟨cs, h1, _⟩ := h
  exact ⟨cs, h1⟩
theorem okWide_cell {W : World} {r : Reach} {b0 : Nat} {t e : TypeId} {v c : Value} (ht : P.underlying t = some (.slice e)) (h : Value.okWide P W r b0 t v) (hc : v.cells.toList = [c]) : v = c := by
  unfold Value.okWide at h
  rw [ht] at h
  cases v <;> first | (simp [Value.cells] at hc; exact hc) | (simp [Cell.okWide, Cell.ok, ht] at h)
theorem Rd.of_cells {a : Addr} {cs : List Value} (h0 : 0 < cs.length) (h : ∀ i, i < cs.length → w.cell? (a.add i) = cs[i]?) : ∃ b off, a = ⟨b, off, none⟩ ∧ Rd w b off cs := by
  obtain ⟨b, off, s⟩ := a
  have hadd : ∀ i, ∃ s', (⟨b, off, s⟩ : Addr).add i = ⟨b, off + i, s'⟩ ∧ (s' = none → s = none ∨ i ≠ 0) := by
    intro i
    unfold Addr.add
    split
    · rename_i hi; exact ⟨s, by rw [hi]; simp, fun e => .inl e⟩
    · rename_i hi; exact ⟨_, rfl, fun _ => .inr hi⟩
  have hz := h 0 h0
  rw [List.getElem?_eq_getElem h0] at hz
  have hz' : w.cell? ⟨b, off, s⟩ = some cs[0] := by simpa [Addr.add] using hz
  simp only [World.cell?] at hz'
  cases hh : w.heap[b]? with
  | none => rw [hh] at hz'; cases hz'
  | some o =>
    rw [hh] at hz'
    cases o with
    | cells c T fr =>
      simp only at hz'
      split at hz'
      · cases hz'
      · rename_i hs
        have hs' : s = none := by cases s <;> simp_all
        subst hs'
        refine ⟨b, off, rfl, c, T, fr, hh, fun i v hv => ?_⟩
        have hi : i < cs.length := (List.getElem?_eq_some_iff.1 hv).1
        have h1 := h i hi
        rw [hv] at h1
        have h2 : (⟨b, off, none⟩ : Addr).add i = ⟨b, off + i, none⟩ := by
          unfold Addr.add; split
          · rename_i h0; subst h0; rfl
          · rfl
        rw [h2] at h1
        simpa [World.cell?, hh] using h1
    | _ => cases hz'
theorem trodAll_stays {ts : List TypeId} (hl : laidOutB P = true) (hr : ∀ t ∈ ts, P.readableRec t = true ∧ t < P.types.size) : ∀ {vs : List Value} {ds : List (DataW H)} {ps : List MemPlace} {W W' : World} {sp' : Nat → Bool},
    DataW.TrodAll enc P W 0 (fun _ => true) true ts vs ds ps → (∀ p ∈ ps, W.sameAt W' p) → (∀ p ∈ ps, sp' p.block = true) → DataW.TrodAll enc P W' 0 sp' true ts vs ds ps := by
  induction ts with
  | nil =>
    intro vs ds ps W W' sp' h _ _
    match vs, ds, h with
    | [], [], h => exact h
  | cons t ts ih =>
    intro vs ds ps W W' sp' h hs hb
    match vs, ds, h with
    | v :: vs, d :: ds, ⟨p, q, h1, h2, e⟩ =>
      subst e
      exact ⟨p, q, Go.WideElems.Trod_stays hl (hr t (by simp)).1 (hr t (by simp)).2 h1 (fun x hx => hs x (by simp [hx])) (fun x hx => hb x (by simp [hx])), ih (fun t' ht' => hr t' (by simp [ht'])) h2 (fun x hx => hs x (by simp [hx])) (fun x hx => hb x (by simp [hx])), rfl⟩
/-- A law that hands back true, and changes nothing old. -/
theorem post_law {f : Func} {s : ChangeSpec} {W W' : World} {args : Array Value} {ds : List (DataW H)} {before : List MemPlace} {tb : TypeId} (hl : laidOutB P = true) (hr : ∀ t ∈ f.params.toList, P.readableRec t = true ∧ t < P.types.size)
    (hv : s.vars = []) (hW : DataW.Whole enc P f.params.toList s.vars false W args.toList ds [] before) (hres : f.resultTypes = #[tb]) (htb : P.underlying tb = some .bool) (hfn : s.fn H (ds ++ []) = { results := [.lit (.bool true)], args := ds })
    (hx : Ext W W') : s.post enc P f false true false false W args (.bool true) W' := by
  have hlt := hW.lt
  obtain ⟨p, q, hA, hV, hb, hz, hn⟩ := hW
  have hV' := hV
  rw [hv] at hV'
  have hq : q = [] := (trodVars_none hV').2
  subst hq
  have hbl := hx.below
  refine ⟨ds, [], before, [], p, [], ⟨p, [], hA, hV, hb, hz, hn⟩, ?_, ?_, ?_, hbl.frame _, fun h => by cases h⟩
  · rw [hfn, hres]
    exact trodAll_cons_mk (shut_bool htb true) trodAll_mk0
  · rw [hfn]
    refine trodAll_stays hl hr hA (fun x hx' => hbl.same (hlt x (by rw [hb]; simpa using hx'))) (fun x hx' => by simpa using hlt x (by rw [hb]; simpa using hx'))
  · rw [hfn, hv]; rfl
end
end Go.Vg
