/- The row of leaves, opened. -/
import Derived.Test.YtcaffacganffjaaDoorVRow
import Derived.Test.YtcaffacganffjaaDoorVSha
namespace Go.Proofs.YtcaffacganffjaaDoor
open Go Go.Vg Go.ChangeShapes Go.WideShapes Go.RowKit

set_option maxRecDepth 100000
theorem own : ownKnob Tryd.prog.godebug = none := by kernel_rfl
theorem gTab : Tryd.prog.globalNamed "tabellion/sha.keys" = some 0 := by kernel_rfl
theorem gTabType : (Tryd.prog.globals[0]?).map (·.type) = some 119 := by kernel_rfl
theorem cKeys : Tryd.prog.cellsOf 119 = 64 := by kernel_rfl
theorem cKey : Tryd.prog.cellsOf 86 = 1 := by kernel_rfl
theorem cLeaf : Tryd.prog.cellsOf 36 = 64 := by kernel_rfl
theorem cDig : Tryd.prog.cellsOf 24 = 32 := by kernel_rfl
theorem cByte : Tryd.prog.cellsOf 5 = 1 := by kernel_rfl
theorem laidOut : laidOutB Tryd.prog = true := by kernel_rfl
def keysZ : List Int := (List.range 64).map fun i => ((keyF i).toNat : Int)
theorem keysZ_laid : (Rows.laid_tabellion_sha_keys : DataW Unit) = Lib.tabData .u32 keysZ := by kernel_rfl
theorem keysAt {W : World} {rest : List (String × DataW Unit)} (h : laidMet Tryd.prog (("tabellion/sha.keys", Rows.laid_tabellion_sha_keys) :: rest) W) : KeysAt W := by
  rw [keysZ_laid] at h
  have ht := Lib.tabIs_of_head gTab gTabType Tryd.underlying119 Tryd.underlying86 cKey cKeys h
  have hc : ∀ i, i < (arr32 64 keyF).length → W.cell? ((⟨0, 0, none⟩ : Addr).add i) = (arr32 64 keyF)[i]? := by
    intro i hi
    rw [arr32_len] at hi
    have h1 := ht.cell gTab i (by simpa [keysZ] using hi)
    have h2 : (⟨0, 0, none⟩ : Addr).add i = ⟨0, i, none⟩ := by
      unfold Addr.add; split
      · rename_i h0; subst h0; rfl
      · simp
    rw [h2, h1, arr32_get _ hi]
    simp [keysZ, List.getD_eq_getElem?_getD, hi, v32]
  obtain ⟨b, off, he, hr⟩ := Rd.of_cells (by rw [arr32_len]; decide) hc
  cases he
  exact hr

theorem open_dig {H : Type} {enc : TypeId × Value → H} {W : World} {base : Nat} {sp : Nat → Bool} {held : Bool} {v : Value} {d : DataW H} {ps : List MemPlace} {b0 : Nat} (hval : Value.okWide Tryd.prog W .any b0 24 v)
    (h : DataW.Trod enc Tryd.prog W base sp held 24 v d ps) : ∃ p : Dig, v = dv p := by
  obtain ⟨fuel, hf⟩ := h
  obtain ⟨p, hp⟩ := trod_dig Tryd.underlying24 Tryd.underlying5 cByte cDig hf
  obtain ⟨cs, rfl⟩ := okWide_arr Tryd.underlying24 hval
  refine ⟨p, ?_⟩
  have : cs.toList = digC p := by simpa [Value.cells] using hp
  rw [dv, ← this]
theorem open_leaves {H : Type} {enc : TypeId × Value → H} {W : World} {base : Nat} {sp : Nat → Bool} {held : Bool} {v : Value} {d : DataW H} {ps : List MemPlace} {b0 : Nat} (hval : Value.okWide Tryd.prog W .any b0 22 v)
    (h : DataW.Trod enc Tryd.prog W base sp held 22 v d ps) : ∃ (p : Option Addr) (len cap : Nat) (ls : List Leaf), v = .slice p len cap ∧ SlT W p len 64 leafC noLeaf ls := by
  obtain ⟨fuel, hf⟩ := h
  have hv : ∀ c, v.cells.toList = [c] → v = c := fun c hc => okWide_cell Tryd.underlying22 hval hc
  rcases Go.Deep.open_slice Tryd.underlying22 hf with ⟨hc, _⟩ | ⟨a, len, cap, m, n, D, Pl, hc, _, hlc, _, hm, _, hx⟩
  · exact ⟨none, 0, 0, [], hv _ hc, SlT.nil⟩
  · have hlm : len ≤ m := by rw [hm]; split <;> omega
    rw [cLeaf] at hx
    have each : ∀ i, i < len → ∃ l : Leaf, ∀ j, j < 64 → W.cell? ((a.add (i * 64)).add j) = (leafC l)[j]? := by
      intro i hi
      obtain ⟨cs', h1, h2⟩ := hx i (by omega)
      obtain ⟨_, hlen, hcell⟩ := World.cells?_some h1
      obtain ⟨l, rfl⟩ := trod_leaf Tryd.underlying36 rfl rfl rfl rfl Tryd.underlying24 Tryd.underlying5 cByte cDig cLeaf h2
      exact ⟨l, hcell⟩
    haveI : Inhabited Leaf := ⟨noLeaf⟩
    obtain ⟨f, hf'⟩ := Go.Deep.choose_lt (α := Leaf) each
    refine ⟨some a, len, cap, (List.range len).map f, hv _ hc, by simp, fun h0 => ?_⟩
    obtain ⟨b, off, hba, _⟩ := Rd.of_cells (w := W) (a := a.add (0 * 64)) (cs := leafC (f 0)) (by rw [leafC_len]; decide) (fun j hj => hf' 0 h0 j (by rwa [leafC_len] at hj))
    have ha : a = ⟨b, off, none⟩ := by simpa [Addr.add] using hba
    subst ha
    refine ⟨b, off, rfl, fun i hi => ?_⟩
    obtain ⟨b', off', hba', hr⟩ := Rd.of_cells (w := W) (a := (⟨b, off, none⟩ : Addr).add (i * 64)) (cs := leafC (f i)) (by rw [leafC_len]; decide) (fun j hj => hf' i hi j (by rwa [leafC_len] at hj))
    have hadd : (⟨b, off, none⟩ : Addr).add (i * 64) = ⟨b, off + i * 64, none⟩ := by
      unfold Addr.add; split
      · rename_i h0; rw [h0]; rfl
      · rfl
    rw [hadd] at hba'
    cases hba'
    simpa [List.getD_eq_getElem?_getD, hi] using hr
/-- A world that meets the row's condition. -/
noncomputable def laidWorld (os : Os) : World :=
  { World.holding Tryd.prog os ⟨#[], #[], []⟩ with heap := (World.holding Tryd.prog os ⟨#[], #[], []⟩).heap.modify 0 fun
      | .cells _ t frozen => .cells (arr32 64 keyF).toArray t frozen
      | o => o }
end Go.Proofs.YtcaffacganffjaaDoor
