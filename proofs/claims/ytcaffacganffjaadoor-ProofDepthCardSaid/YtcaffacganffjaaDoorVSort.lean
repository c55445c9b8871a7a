/- slices.SortFunc, laid; leaves sorted. -/
import Derived.Test.YtcaffacganffjaaDoorGClone
import Derived.Test.YtcaffacganffjaaDoorVLay
namespace Go.Vg
open Go Go.Sort
instance : Inhabited Leaf := ⟨noLeaf⟩

theorem ext_grow {w0 w' : World} (h : Ext w0 w') : ∃ q os', w' = grow (w0.drewN q) os' := by
  obtain ⟨hos, htape, hout, hdr, hsz, hold, _, _, _⟩ := h
  refine ⟨w'.drawn - w0.drawn, w'.heap.extract w0.heap.size w'.heap.size, ?_⟩
  rcases w' with ⟨hp, tp, dr, os, out⟩
  rcases w0 with ⟨hp0, tp0, dr0, os0, out0⟩
  simp only at hos htape hout hdr hsz hold
  subst hos; subst htape; subst hout
  simp only [grow, World.drewN, World.mk.injEq, true_and, and_true]
  refine ⟨?_, by omega⟩
  apply Array.ext_getElem?
  intro k
  rw [Array.getElem?_append]
  split
  · rename_i hk; exact hold k hk (by simp)
  · rename_i hk
    rw [Array.getElem?_extract]
    have hsz' : hp0.size ≤ hp.size := hsz
    by_cases hlt : k < hp.size
    · rw [if_pos (by omega), show hp0.size + (k - hp0.size) = k from by omega]
    · rw [if_neg (by omega), Array.getElem?_eq_none (by omega)]

theorem flat_get {α : Type} {k : Nat} {enc : α → List Value} {d0 : α} (hk : ∀ x, (enc x).length = k) : ∀ (l : List α) (j : Nat), j < l.length * k → (l.flatMap enc)[j]? = (enc (l.getD (j / k) d0))[j % k]?
  | [], j, h => by simp at h
  | x :: r, j, h => by
    have h0 : 0 < k := by rcases Nat.eq_zero_or_pos k with q | q; · subst q; simp at h
                          · exact q
    rw [List.flatMap_cons]
    by_cases hj : j < k
    · rw [List.getElem?_append_left (by rw [hk]; exact hj), Nat.div_eq_of_lt hj, Nat.mod_eq_of_lt hj]; rfl
    · rw [List.getElem?_append_right (by rw [hk]; omega), hk, flat_get hk r (j - k) (by rw [List.length_cons, Nat.add_mul] at h; omega)]
      have e1 : j / k = (j - k) / k + 1 := by rw [Nat.div_eq_sub_div h0 (by omega)]
      have e2 : (j - k) % k = j % k := by rw [Nat.mod_eq_sub_mod (show j ≥ k by omega)]
      rw [e1, e2]; rfl

theorem flatMap_len {α : Type} {k : Nat} {enc : α → List Value} (hk : ∀ x, (enc x).length = k) (l : List α) : (l.flatMap enc).length = l.length * k := by
  induction l with
  | nil => simp
  | cons x r ih => rw [List.flatMap_cons, List.length_append, hk, ih, List.length_cons, Nat.add_mul]; omega

theorem arr_getD (l : List Leaf) (i : Nat) : l.toArray[i]! = l.getD i noLeaf := by
  rw [List.getD_eq_getElem?_getD, getElem!_def]
  simp only [List.getElem?_toArray]
  cases l[i]? <;> rfl

theorem lt_leaf (x y : Leaf) : Go.Proofs.ltOf cmpLeaf x y = decide (leafN x < leafN y) := by
  unfold Go.Proofs.ltOf
  rw [cmpLeaf_val]
  by_cases h1 : leafN x < leafN y
  · simp [h1]
  · by_cases h2 : leafN y < leafN x <;> simp [h1, h2]
theorem swo_leaf : SWO (Go.Proofs.ltOf cmpLeaf) where
  irrefl x := by rw [lt_leaf]; simp
  trans x y z h1 h2 := by rw [lt_leaf] at *; simp at *; omega
  ntrans x y z h1 h2 := by rw [lt_leaf] at *; simp at *; omega

theorem holds_leaf {w : World} {g : Nat} {ls : List Leaf} {junk : List Value} {T : TypeId} (hh : w.heap[g]? = some (ob (ls.flatMap leafC ++ junk) T)) : HoldsK leafC 64 w g 0 ls.toArray := by
  intro j hj
  rw [size_flatK, List.size_toArray] at hj
  have hfl := flatMap_len leafC_len ls
  refine ⟨?_, by simp [World.frozen?, hh]⟩
  rw [get_flatK _ _ _ _ (by rw [List.size_toArray]; exact hj), arr_getD]
  have h1 : (ls.flatMap leafC ++ junk)[j]? = some ((leafC (ls.getD (j / 64) noLeaf))[j % 64]!) := by
    rw [List.getElem?_append_left (by omega), flat_get (d0 := noLeaf) leafC_len ls j hj]
    have : j % 64 < (leafC (ls.getD (j / 64) noLeaf)).length := by rw [leafC_len]; exact Nat.mod_lt _ (by decide)
    rw [List.getElem?_eq_getElem this]
    congr 1
    exact (getElem!_pos (leafC _) (j % 64) this).symm
  simp only [World.cell?, hh, Nat.zero_add]
  simpa using h1

theorem put_leaf (ls ms : List Leaf) (junk : List Value) (h : ms.length = ls.length) : putCells id 0 (flatK leafC 64 ms.toArray) (ls.flatMap leafC ++ junk).toArray = (ms.flatMap leafC ++ junk).toArray := by
  have h1 := flatMap_len leafC_len ls
  have h2 := flatMap_len leafC_len ms
  apply Array.ext_getElem?
  intro j
  simp only [putCells, Array.getElem?_mapIdx, List.getElem?_toArray, Nat.zero_le, true_and, Nat.zero_add, size_flatK, List.size_toArray, Nat.sub_zero, id]
  by_cases hj : j < ms.length * 64
  · rw [List.getElem?_append_left (by omega), List.getElem?_append_left (by omega)]
    have h3 : j < (ls.flatMap leafC).length := by omega
    rw [List.getElem?_eq_getElem h3]
    simp only [Option.map_some, hj, if_true]
    rw [get_flatK _ _ _ _ (by rw [List.size_toArray]; exact hj), arr_getD, flat_get (d0 := noLeaf) leafC_len ms j hj]
    have : j % 64 < (leafC (ms.getD (j / 64) noLeaf)).length := by rw [leafC_len]; exact Nat.mod_lt _ (by decide)
    rw [List.getElem?_eq_getElem this]
    congr 1
    exact getElem!_pos (leafC _) (j % 64) this
  · rw [List.getElem?_append_right (by omega), List.getElem?_append_right (by omega), h1, h2, h]
    cases junk[j - ls.length * 64]? with
    | none => rfl
    | some v => simp [show ¬ j < ls.length * 64 by omega]

/-- Sorted leaves: no later one is smaller. -/
def SortedL (ms : List Leaf) : Prop := ∀ i j, i < j → j < ms.length → leafN (ms.getD i noLeaf) ≤ leafN (ms.getD j noLeaf)
/-- What stands beside tells whether there are twins. -/
theorem twins_of_sorted {ls ms : List Leaf} (hp : ms.Perm ls) (hs : SortedL ms) : twins ls = true ↔ ∃ i, 0 < i ∧ i < ms.length ∧ (ms.getD i noLeaf).p = (ms.getD (i - 1) noLeaf).p := by
  have hpw : (ls.Pairwise fun x y => x.p ≠ y.p) ↔ (ms.Pairwise fun x y => x.p ≠ y.p) := hp.symm.pairwise_iff (fun h e => h e.symm)
  unfold twins
  rw [Bool.not_eq_true', decide_eq_false_iff_not, hpw]
  constructor
  · intro hn
    apply Classical.byContradiction
    intro hne
    apply hn
    rw [List.pairwise_iff_getElem]
    intro i j hi hj hij he
    have e1 : ms[i] = ms.getD i noLeaf := by simp [List.getD_eq_getElem?_getD, hi]
    have e2 : ms[j] = ms.getD j noLeaf := by simp [List.getD_eq_getElem?_getD, hj]
    rw [e1, e2] at he
    refine hne ⟨j, by omega, hj, ?_⟩
    by_cases hij1 : i = j - 1
    · rw [← hij1]; exact he.symm
    · have h1 := hs i (j - 1) (by omega) (by omega)
      have h2 := hs (j - 1) j (by omega) hj
      have h3 : leafN (ms.getD i noLeaf) = leafN (ms.getD j noLeaf) := by unfold leafN; rw [he]
      exact leafN_inj (by omega)
  · rintro ⟨i, h0, hi, he⟩ hpw
    rw [List.pairwise_iff_getElem] at hpw
    have := hpw (i - 1) i (by omega) hi (by omega)
    apply this
    have e1 : ms[i] = ms.getD i noLeaf := by simp [List.getD_eq_getElem?_getD, hi]
    have e2 : ms[i - 1]'(by omega) = ms.getD (i - 1) noLeaf := by simp [List.getD_eq_getElem?_getD, show i - 1 < ms.length by omega]
    rw [e1, e2, he]
end Go.Vg
namespace Go.Proofs.YtcaffacganffjaaDoor
open Go Go.Vg Go.Sort Go.Shelf

theorem sort_none (p : Option Addr) (cap : Nat) (fv : Value) (w0 : World) : Calls Tryd.prog 42 #[.slice p 0 cap, fv] w0 fun e w' => e = .returned (.tuple #[]) ∧ Ext w0 w' :=
  (Go.Proofs.AnyF.slices_SortFunc_none Tryd.sortL p cap fv w0).mono fun e w' ⟨h1, h2⟩ => ⟨h1, h2 ▸ Ext.refl _⟩

theorem sort_spec (ls : List Leaf) (g len cap : Nat) (junk : List Value) (w0 : World) (hlen : ls.length = len) (hc : len ≤ 4096) (hh : w0.heap[g]? = some (ob (ls.flatMap leafC ++ junk) 36)) :
    Calls Tryd.prog 42 #[.slice (some ⟨g, 0, none⟩) len cap, .func (.func 43) #[] #[]] w0 fun e w' =>
      ∃ ms, e = .returned (.tuple #[]) ∧ Vg.Loc [g] w0 w' [[(g, ob (ms.flatMap leafC ++ junk) 36)]] ∧ ms.Perm ls ∧ SortedL ms := by
  have hg : g < w0.heap.size := lt_of_heap hh
  have eg : ∀ args w, (callFunc 43 args).run Tryd.prog w = .ok (.enter 43 args) w := enters_of Tryd.func43 (by kernel_rfl) rfl
  have hcmp : Go.Proofs.CmpLays Tryd.prog 43 #[] leafC 64 cmpLeaf g 0 ls.toArray.size w0 := fun m os dk hs x y => (cmpLeaf_spec x y _).mono fun e w' ⟨he, hx⟩ => ⟨he, ext_grow hx⟩
  have hcon := Go.Proofs.AnyQ.slices_SortFunc Tryd.sortL 64 (Vg.run_isAgg Tryd.ty36) (Vg.run_sizeOf Tryd.ty36) leafC leafC_len (fun x v hv => oneCells_mem (leafC_one x) v hv) cmpLeaf swo_leaf 43 #[] g 0 cap ls.toArray w0 eg hcmp (holds_leaf hh) hg (by rw [List.size_toArray]; omega)
  rw [List.size_toArray, hlen] at hcon
  refine Calls.mono hcon ?_
  rintro e w' ⟨he, d', n, os, hp, hs, rfl⟩
  obtain ⟨ms, rfl⟩ : ∃ ms : List Leaf, d' = ms.toArray := ⟨d'.toList, by simp⟩
  obtain ⟨hsz, _, hperm⟩ := hp
  have hml : ms.length = ls.length := by simpa using hsz
  refine ⟨ms, he, ?_, ?_, ?_⟩
  · have hblk : (sortWorldK leafC 64 w0 g 0 n ms.toArray os).heap[g]? = some (ob (ms.flatMap leafC ++ junk) 36) := by
      have h1 := put_leaf ls ms junk hml
      have h2 : (putRowK leafC 64 (Sort.ahead w0 n) g 0 ms.toArray).heap[g]? = some (ob (ms.flatMap leafC ++ junk) 36) := by
        simp only [putRowK, putRow, mapBlock, Sort.ahead, Array.getElem?_modify, if_true, hh, Option.map_some, onCells]
        rw [h1]
      simp only [sortWorldK, grow]
      rw [Array.getElem?_append_left (by simpa [putRowK, putRow, mapBlock, Sort.ahead] using hg)]
      exact h2
    refine ⟨rfl, rfl, rfl, ?_, ?_, ?_, ?_, ?_, ?_⟩
    · simp [sortWorldK, grow, putRowK, putRow, mapBlock, Sort.ahead]
    · simp [sortWorldK, grow, putRowK, putRow, mapBlock, Sort.ahead]
    · intro b hb hm
      simp only [sortWorldK, grow]
      rw [Array.getElem?_append_left (by simpa [putRowK, putRow, mapBlock, Sort.ahead] using hb)]
      simp only [putRowK, putRow, mapBlock, Sort.ahead, Array.getElem?_modify]
      rw [if_neg (fun e => hm (by simp [e]))]
    · simp [keys]
    · intro b hb; exact .inr (by simpa [keys] using hb)
    · intro p hp
      simp only [List.flatten_cons, List.flatten_nil, List.append_nil, List.mem_singleton] at hp
      subst hp
      exact hblk
  · have h3 : ms.toArray.extract 0 len = ms.toArray := by
      have : len = ms.toArray.size := by rw [List.size_toArray]; omega
      rw [this]; simp
    have h4 : ls.toArray.extract 0 len = ls.toArray := by
      have : len = ls.toArray.size := by rw [List.size_toArray]; omega
      rw [this]; simp
    rw [h3, h4] at hperm
    simpa using hperm
  · intro i j hij hj
    have h5 := hs i j (by omega) hij (by rw [← hlen, ← hml]; exact hj)
    rw [arr_getD, arr_getD, lt_leaf] at h5
    have := of_decide_eq_false h5
    omega
end Go.Proofs.YtcaffacganffjaaDoor
