/- slices.SortFunc, laid; leaves sorted. The walks of a part of the program: GTwice. Printed by a program of the prover. The walks of a part of the program: GKnot. Printed by a program of the prover. -/
import Derived.Test.YtcaffacganffjaaDoorM14
import Derived.Test.YtcaffacganffjaaDoorM2
import Derived.Test.YtcaffacganffjaaDoorM6
import Derived.Test.YtcaffacganffjaaDoorM4
import Derived.Test.YtcaffacganffjaaDoorM11

section
namespace Go.Vg
open Go Go.Sort
instance : Inhabited Leaf := ⟨noLeaf⟩

theorem ext_grow {w0 w' : World} (h : Ext w0 w') : ∃ q os', w' = grow (w0.drewN q) os' := by
  obtain ⟨hos, htape, hout, hdr, hsz, hold, _, _, _⟩ := h
  refine ⟨w'.drawn - w0.drawn, w'.heap.extract w0.heap.size w'.heap.size, ?_⟩
  rcases w' with ⟨hp, tp, dr, os, out⟩
  rcases w0 with ⟨hp0, tp0, dr0, os0, out0⟩
  simp only at hos htape hout hdr hsz hold
  subst hos; subst htape; subst hout
  simp only [grow, World.drewN, World.mk.injEq, true_and, and_true]
  refine ⟨?_, by omega⟩
  apply Array.ext_getElem?
  intro k
  rw [Array.getElem?_append]
  split
  · rename_i hk; exact hold k hk (by simp)
  · rename_i hk
    rw [Array.getElem?_extract]
    have hsz' : hp0.size ≤ hp.size := hsz
    by_cases hlt : k < hp.size
    · rw [if_pos (by omega), show hp0.size + (k - hp0.size) = k from by omega]
    · rw [if_neg (by omega), Array.getElem?_eq_none (by omega)]

theorem flat_get {α : Type} {k : Nat} {enc : α → List Value} {d0 : α} (hk : ∀ x, (enc x).length = k) : ∀ (l : List α) (j : Nat), j < l.length * k → (l.flatMap enc)[j]? = (enc (l.getD (j / k) d0))[j % k]?
  | [], j, h => by simp at h
  | x :: r, j, h => by
    have h0 : 0 < k := by rcases Nat.eq_zero_or_pos k with q | q; · subst q; simp at h
                          · exact q
    rw [List.flatMap_cons]
    by_cases hj : j < k
    · rw [List.getElem?_append_left (by rw [hk]; exact hj), Nat.div_eq_of_lt hj, Nat.mod_eq_of_lt hj]; rfl
    · rw [List.getElem?_append_right (by rw [hk]; omega), hk, flat_get hk r (j - k) (by rw [List.length_cons, Nat.add_mul] at h; omega)]
      have e1 : j / k = (j - k) / k + 1 := by rw [Nat.div_eq_sub_div h0 (by omega)]
      have e2 : (j - k) % k = j % k := by rw [Nat.mod_eq_sub_mod (show j ≥ k by omega)]
      rw [e1, e2]; rfl

theorem flatMap_len {α : Type} {k : Nat} {enc : α → List Value} (hk : ∀ x, (enc x).length = k) (l : List α) : (l.flatMap enc).length = l.length * k := by
  induction l with
  | nil => simp
  | cons x r ih => rw [List.flatMap_cons, List.length_append, hk, ih, List.length_cons, Nat.add_mul]; omega

theorem arr_getD (l : List Leaf) (i : Nat) : l.toArray[i]! = l.getD i noLeaf := by
  rw [List.getD_eq_getElem?_getD, getElem!_def]
  simp only [List.getElem?_toArray]
  cases l[i]? <;> rfl

theorem lt_leaf (x y : Leaf) : Go.Proofs.ltOf cmpLeaf x y = decide (leafN x < leafN y) := by
  unfold Go.Proofs.ltOf
  rw [cmpLeaf_val]
  by_cases h1 : leafN x < leafN y
  · simp [h1]
  · by_cases h2 : leafN y < leafN x <;> simp [h1, h2]
theorem swo_leaf : SWO (Go.Proofs.ltOf cmpLeaf) where
  irrefl x := by rw [lt_leaf]; simp
  trans x y z h1 h2 := by rw [lt_leaf] at *; simp at *; omega
  ntrans x y z h1 h2 := by rw [lt_leaf] at *; simp at *; omega

theorem holds_leaf {w : World} {g : Nat} {ls : List Leaf} {junk : List Value} {T : TypeId} (hh : w.heap[g]? = some (ob (ls.flatMap leafC ++ junk) T)) : HoldsK leafC 64 w g 0 ls.toArray := by
  intro j hj
  rw [size_flatK, List.size_toArray] at hj
  have hfl := flatMap_len leafC_len ls
  refine ⟨?_, by simp [World.frozen?, hh]⟩
  rw [get_flatK _ _ _ _ (by rw [List.size_toArray]; exact hj), arr_getD]
  have h1 : (ls.flatMap leafC ++ junk)[j]? = some ((leafC (ls.getD (j / 64) noLeaf))[j % 64]!) := by
    rw [List.getElem?_append_left (by omega), flat_get (d0 := noLeaf) leafC_len ls j hj]
    have : j % 64 < (leafC (ls.getD (j / 64) noLeaf)).length := by rw [leafC_len]; exact Nat.mod_lt _ (by decide)
    rw [List.getElem?_eq_getElem this]
    congr 1
    exact (getElem!_pos (leafC _) (j % 64) this).symm
  simp only [World.cell?, hh, Nat.zero_add]
  simpa using h1

theorem put_leaf (ls ms : List Leaf) (junk : List Value) (h : ms.length = ls.length) : putCells id 0 (flatK leafC 64 ms.toArray) (ls.flatMap leafC ++ junk).toArray = (ms.flatMap leafC ++ junk).toArray := by
  have h1 := flatMap_len leafC_len ls
  have h2 := flatMap_len leafC_len ms
  apply Array.ext_getElem?
  intro j
  simp only [putCells, Array.getElem?_mapIdx, List.getElem?_toArray, Nat.zero_le, true_and, Nat.zero_add, size_flatK, List.size_toArray, Nat.sub_zero, id]
  by_cases hj : j < ms.length * 64
  · rw [List.getElem?_append_left (by omega), List.getElem?_append_left (by omega)]
    have h3 : j < (ls.flatMap leafC).length := by omega
    rw [List.getElem?_eq_getElem h3]
    simp only [Option.map_some, hj, if_true]
    rw [get_flatK _ _ _ _ (by rw [List.size_toArray]; exact hj), arr_getD, flat_get (d0 := noLeaf) leafC_len ms j hj]
    have : j % 64 < (leafC (ms.getD (j / 64) noLeaf)).length := by rw [leafC_len]; exact Nat.mod_lt _ (by decide)
    rw [List.getElem?_eq_getElem this]
    congr 1
    exact getElem!_pos (leafC _) (j % 64) this
  · rw [List.getElem?_append_right (by omega), List.getElem?_append_right (by omega), h1, h2, h]
    cases junk[j - ls.length * 64]? with
    | none => rfl
    | some v => simp [show ¬ j < ls.length * 64 by omega]

/-- Sorted leaves: no later one is smaller. -/
def SortedL (ms : List Leaf) : Prop := ∀ i j, i < j → j < ms.length → leafN (ms.getD i noLeaf) ≤ leafN (ms.getD j noLeaf)
/-- What stands beside tells whether there are twins. -/
theorem twins_of_sorted {ls ms : List Leaf} (hp : ms.Perm ls) (hs : SortedL ms) : twins ls = true ↔ ∃ i, 0 < i ∧ i < ms.length ∧ (ms.getD i noLeaf).p = (ms.getD (i - 1) noLeaf).p := by
  have hpw : (ls.Pairwise fun x y => x.p ≠ y.p) ↔ (ms.Pairwise fun x y => x.p ≠ y.p) := hp.symm.pairwise_iff (fun h e => h e.symm)
  unfold twins
  rw [Bool.not_eq_true', decide_eq_false_iff_not, hpw]
  constructor
  · intro hn
    apply Classical.byContradiction
    intro hne
    apply hn
    rw [List.pairwise_iff_getElem]
    intro i j hi hj hij he
    have e1 : ms[i] = ms.getD i noLeaf := by simp [List.getD_eq_getElem?_getD, hi]
    have e2 : ms[j] = ms.getD j noLeaf := by simp [List.getD_eq_getElem?_getD, hj]
    rw [e1, e2] at he
    refine hne ⟨j, by omega, hj, ?_⟩
    by_cases hij1 : i = j - 1
    · rw [← hij1]; exact he.symm
    · have h1 := hs i (j - 1) (by omega) (by omega)
      have h2 := hs (j - 1) j (by omega) hj
      have h3 : leafN (ms.getD i noLeaf) = leafN (ms.getD j noLeaf) := by unfold leafN; rw [he]
      exact leafN_inj (by omega)
  · rintro ⟨i, h0, hi, he⟩ hpw
    rw [List.pairwise_iff_getElem] at hpw
    have := hpw (i - 1) i (by omega) hi (by omega)
    apply this
    have e1 : ms[i] = ms.getD i noLeaf := by simp [List.getD_eq_getElem?_getD, hi]
    have e2 : ms[i - 1]'(by omega) = ms.getD (i - 1) noLeaf := by simp [List.getD_eq_getElem?_getD, show i - 1 < ms.length by omega]
    rw [e1, e2, he]
end Go.Vg
namespace Go.Proofs.YtcaffacganffjaaDoor
open Go Go.Vg Go.Sort Go.Shelf

theorem sort_none (p : Option Addr) (cap : Nat) (fv : Value) (w0 : World) : Calls Tryd.prog 42 #[.slice p 0 cap, fv] w0 fun e w' => e = .returned (.tuple #[]) ∧ Ext w0 w' :=
  (Go.Proofs.AnyF.slices_SortFunc_none Tryd.sortL p cap fv w0).mono fun e w' ⟨h1, h2⟩ => ⟨h1, h2 ▸ Ext.refl _⟩

theorem sort_spec (ls : List Leaf) (g len cap : Nat) (junk : List Value) (w0 : World) (hlen : ls.length = len) (hc : len ≤ 4096) (hh : w0.heap[g]? = some (ob (ls.flatMap leafC ++ junk) 36)) :
    Calls Tryd.prog 42 #[.slice (some ⟨g, 0, none⟩) len cap, .func (.func 43) #[] #[]] w0 fun e w' =>
      ∃ ms, e = .returned (.tuple #[]) ∧ Vg.Loc [g] w0 w' [[(g, ob (ms.flatMap leafC ++ junk) 36)]] ∧ ms.Perm ls ∧ SortedL ms := by
  have hg : g < w0.heap.size := lt_of_heap hh
  have eg : ∀ args w, (callFunc 43 args).run Tryd.prog w = .ok (.enter 43 args) w := enters_of Tryd.func43 (by kernel_rfl) rfl
  have hcmp : Go.Proofs.CmpLays Tryd.prog 43 #[] leafC 64 cmpLeaf g 0 ls.toArray.size w0 := fun m os dk hs x y => (cmpLeaf_spec x y _).mono fun e w' ⟨he, hx⟩ => ⟨he, ext_grow hx⟩
  have hcon := Go.Proofs.AnyQ.slices_SortFunc Tryd.sortL 64 (Vg.run_isAgg Tryd.ty36) (Vg.run_sizeOf Tryd.ty36) leafC leafC_len (fun x v hv => oneCells_mem (leafC_one x) v hv) cmpLeaf swo_leaf 43 #[] g 0 cap ls.toArray w0 eg hcmp (holds_leaf hh) hg (by rw [List.size_toArray]; omega)
  rw [List.size_toArray, hlen] at hcon
  refine Calls.mono hcon ?_
  rintro e w' ⟨he, d', n, os, hp, hs, rfl⟩
  obtain ⟨ms, rfl⟩ : ∃ ms : List Leaf, d' = ms.toArray := ⟨d'.toList, by simp⟩
  obtain ⟨hsz, _, hperm⟩ := hp
  have hml : ms.length = ls.length := by simpa using hsz
  refine ⟨ms, he, ?_, ?_, ?_⟩
  · have hblk : (sortWorldK leafC 64 w0 g 0 n ms.toArray os).heap[g]? = some (ob (ms.flatMap leafC ++ junk) 36) := by
      have h1 := put_leaf ls ms junk hml
      have h2 : (putRowK leafC 64 (Sort.ahead w0 n) g 0 ms.toArray).heap[g]? = some (ob (ms.flatMap leafC ++ junk) 36) := by
        simp only [putRowK, putRow, mapBlock, Sort.ahead, Array.getElem?_modify, if_true, hh, Option.map_some, onCells]
        rw [h1]
      simp only [sortWorldK, grow]
      rw [Array.getElem?_append_left (by simpa [putRowK, putRow, mapBlock, Sort.ahead] using hg)]
      exact h2
    refine ⟨rfl, rfl, rfl, ?_, ?_, ?_, ?_, ?_, ?_⟩
    · simp [sortWorldK, grow, putRowK, putRow, mapBlock, Sort.ahead]
    · simp [sortWorldK, grow, putRowK, putRow, mapBlock, Sort.ahead]
    · intro b hb hm
      simp only [sortWorldK, grow]
      rw [Array.getElem?_append_left (by simpa [putRowK, putRow, mapBlock, Sort.ahead] using hb)]
      simp only [putRowK, putRow, mapBlock, Sort.ahead, Array.getElem?_modify]
      rw [if_neg (fun e => hm (by simp [e]))]
    · simp [keys]
    · intro b hb; exact .inr (by simpa [keys] using hb)
    · intro p hp
      simp only [List.flatten_cons, List.flatten_nil, List.append_nil, List.mem_singleton] at hp
      subst hp
      exact hblk
  · have h3 : ms.toArray.extract 0 len = ms.toArray := by
      have : len = ms.toArray.size := by rw [List.size_toArray]; omega
      rw [this]; simp
    have h4 : ls.toArray.extract 0 len = ls.toArray := by
      have : len = ls.toArray.size := by rw [List.size_toArray]; omega
      rw [this]; simp
    rw [h3, h4] at hperm
    simpa using hperm
  · intro i j hij hj
    have h5 := hs i j (by omega) hij (by rw [← hlen, ← hml]; exact hj)
    rw [arr_getD, arr_getD, lt_leaf] at h5
    have := of_decide_eq_false h5
    omega
end Go.Proofs.YtcaffacganffjaaDoor
end

section
namespace Go.Proofs.YtcaffacganffjaaDoor
open Go Go.Vg


set_option maxRecDepth 20000 in
set_option maxHeartbeats 1000000 in
theorem twice_nil (p : Option Addr) (cap : Nat) (w0 : World) :
    Calls Tryd.prog 30 #[(Value.slice p 0 cap)] w0 fun e w' => e = .returned (.bool false) ∧ Ext w0 w' := by
  refine c_enter (n := 30) (args := [(Value.slice p 0 cap)]) Tryd.func30 rfl rfl (Nat.le_of_ble_eq_true rfl) rfl (fun a hT => ?_)
  simp only [List.zipIdx_cons, List.zipIdx_nil, List.map_cons, List.map_nil, Nat.reduceAdd] at hT
  have hL := Vg.Loc.refl [] w0
  refine c_seq ?_
  refine c_region ?_
  refine l_q hT (q_assign hT rfl) rfl rfl (by decide) ?_; clear hT; intro a hT
  refine l_end ?_
  refine then_norm ?_
  refine c_seq ?_
  refine c_region ?_
  refine l_q hT (q_move hT rfl) rfl rfl (by decide) ?_; clear hT; intro a hT
  refine l_do rfl ?_
  refine w_callT (xs := [.tmp 4]) hT rfl (vs := [(Value.slice p 0 cap)]) rfl (args := #[(Value.slice p 0 cap)]) rfl Tryd.func11 rfl rfl (by decide) ((Clone_none p cap _).mono ?_)
  rintro e w1 ⟨p1, cap1, rfl, hX⟩
  refine ⟨_, rfl, ?_⟩; clear hT; intro a hT; replace hT : Tm 30 a ((5, (Value.slice p1 0 cap1)) :: _) := hT
  replace hL := hL.ext hX
  refine l_q hT (q_assign hT rfl) rfl rfl (by decide) ?_; clear hT; intro a hT
  refine l_end ?_
  refine then_norm ?_
  refine c_seq ?_
  refine c_region ?_
  refine l_q hT (q_move hT rfl) rfl rfl (by decide) ?_; clear hT; intro a hT
  refine l_do rfl ?_
  refine w_callT (xs := [.tmp 6, .func 43]) hT rfl (vs := [(Value.slice p1 0 cap1), (Value.func (Fn.func 43) #[] #[])]) rfl (args := #[(Value.slice p1 0 cap1), (Value.func (Fn.func 43) #[] #[])]) rfl Tryd.func42 rfl rfl (by decide) ((sort_none p1 cap1 _ _).mono ?_)
  rintro e w2 ⟨rfl, hX⟩
  refine ⟨_, rfl, ?_⟩; clear hT; intro a hT; replace hT : Tm 30 a ((7, (Value.tuple #[])) :: _) := hT
  replace hL := hL.ext hX
  refine l_end ?_
  refine then_norm ?_
  refine c_seq ?_
  refine c_seq ?_
  refine c_region ?_
  refine l_q hT (q_move hT rfl) rfl rfl (by decide) ?_; clear hT; intro a hT
  refine l_q hT (q_len_slice hT rfl Tryd.underlying22) rfl rfl (by decide) ?_; clear hT; intro a hT
  refine l_q hT (q_move hT rfl) rfl rfl (by decide) ?_; clear hT; intro a hT
  refine l_end ?_
  refine then_norm ?_
  refine wp_block ?_
  refine c_loop (fun mz a wz => mz = 0 ∧ Tm 30 a [(2, (Value.bool false)), (9, (vI 0)), (10, (vI 0))] ∧ Vg.Loc [] w0 wz []) id 0 ?_ ?_
  · exact ⟨rfl, hT.keep [2, 9, 10] rfl, hL⟩
  clear hT hL
  rintro mz a w3 ⟨rfl, hT, hL⟩
  refine c_seq ?_
  refine c_region ?_
  refine l_q hT ((q_lss hT rfl rfl).b (b := false) rfl) rfl rfl (by decide) ?_; clear hT; intro a hT
  refine l_end ?_
  refine then_norm ?_
  refine c_seq ?_
  refine c_false hT rfl rfl ?_
  refine wp_exit ?_
  refine then_exit ?_
  refine then_exit ?_
  refine blk_exit ?_
  refine then_norm ?_
  refine c_seq ?_
  refine c_region ?_
  refine l_q hT (q_assign hT rfl) rfl rfl (by decide) ?_; clear hT; intro a hT
  refine l_end ?_
  refine then_norm ?_
  refine wp_ret ?_
  refine c_ret (vs := [(Value.bool false)]) (rs := [.tmp 2]) hT rfl (.tmp rfl .nil) ?_
  exact ⟨rfl, hL.drop⟩

set_option maxRecDepth 20000 in
set_option maxHeartbeats 1000000 in
theorem twice_some (ls : List Leaf) (ad : Addr) (len cap : Nat) (h0 : 0 < len) (hc : len ≤ 4096) (w0 : World) (hsl : SlT w0 (some ad) len 64 leafC noLeaf ls) :
    Calls Tryd.prog 30 #[(Value.slice (some ad) len cap)] w0 fun e w' => e = .returned (.bool (twins ls)) ∧ Ext w0 w' := by
  refine c_enter (n := 30) (args := [(Value.slice (some ad) len cap)]) Tryd.func30 rfl rfl (Nat.le_of_ble_eq_true rfl) rfl (fun a hT => ?_)
  simp only [List.zipIdx_cons, List.zipIdx_nil, List.map_cons, List.map_nil, Nat.reduceAdd] at hT
  have hL := Vg.Loc.refl [] w0
  have hlen : ls.length = len := hsl.1
  refine c_seq ?_
  refine c_region ?_
  refine l_q hT (q_assign hT rfl) rfl rfl (by decide) ?_; clear hT; intro a hT
  refine l_end ?_
  refine then_norm ?_
  refine c_seq ?_
  refine c_region ?_
  refine l_q hT (q_move hT rfl) rfl rfl (by decide) ?_; clear hT; intro a hT
  refine l_do rfl ?_
  refine w_callT (xs := [.tmp 4]) hT rfl (vs := [(Value.slice (some ad) len cap)]) rfl (args := #[(Value.slice (some ad) len cap)]) rfl Tryd.func11 rfl rfl (by decide) ((Clone_some ls ad len cap h0 hc _ (hsl.ext hL)).mono ?_)
  rintro e w1 ⟨g1, cap1, junk, rfl, hX, hlc⟩
  refine ⟨_, rfl, ?_⟩; clear hT; intro a hT; replace hT : Tm 30 a ((5, (Value.slice (some ⟨g1, 0, none⟩) len cap1)) :: _) := hT
  replace hL : Vg.Loc [] w0 w1 ([[(g1, ob (ls.flatMap leafC ++ (junk)) 36)]]) := hL.exts hX
  refine l_q hT (q_assign hT rfl) rfl rfl (by decide) ?_; clear hT; intro a hT
  refine l_end ?_
  refine then_norm ?_
  refine c_seq ?_
  refine c_region ?_
  refine l_q hT (q_move hT rfl) rfl rfl (by decide) ?_; clear hT; intro a hT
  refine l_do rfl ?_
  refine w_callT (xs := [.tmp 6, .func 43]) hT rfl (vs := [(Value.slice (some ⟨g1, 0, none⟩) len cap1), (Value.func (Fn.func 43) #[] #[])]) rfl (args := #[(Value.slice (some ⟨g1, 0, none⟩) len cap1), (Value.func (Fn.func 43) #[] #[])]) rfl Tryd.func42 rfl rfl (by decide) ((sort_spec ls g1 len cap1 junk _ hlen hc (hL.get 0 rfl)).mono ?_)
  rintro e w2 ⟨ms, rfl, hX, hperm, hsort⟩
  refine ⟨_, rfl, ?_⟩; clear hT; intro a hT; replace hT : Tm 30 a ((7, (Value.tuple #[])) :: _) := hT
  replace hL : Vg.Loc [] w0 w2 ([[(g1, ob (ms.flatMap leafC ++ (junk)) 36)]]) := Vg.Loc.call (ci := [[(g1, ob (ls.flatMap leafC ++ (junk)) 36)]]) (cr := []) hL hX
  refine l_end ?_
  refine then_norm ?_
  refine c_seq ?_
  refine c_seq ?_
  refine c_region ?_
  refine l_q hT (q_move hT rfl) rfl rfl (by decide) ?_; clear hT; intro a hT
  refine l_q hT (q_len_slice hT rfl Tryd.underlying22) rfl rfl (by decide) ?_; clear hT; intro a hT
  refine l_q hT (q_move hT rfl) rfl rfl (by decide) ?_; clear hT; intro a hT
  refine l_end ?_
  refine then_norm ?_
  refine wp_block ?_
  have hml : ms.length = len := by rw [hperm.length_eq, hlen]
  have htw := twins_of_sorted hperm hsort
  have hel : ∀ (w : World), Vg.Loc [] w0 w [[(g1, ob (ms.flatMap leafC ++ (junk)) 36)]] → ∀ i, i < len → Rd w g1 (0 + i * 64) (leafC (ms.getD i noLeaf)) := fun w h i hi => SlT.flat0 leafC_len ms g1 0 (h.rd 0 rfl 0 (by simp)) i (by omega)
  refine c_loop (fun mz a wz => ∃ t : Nat, mz = len - t ∧ t ≤ len ∧ (∀ i, 0 < i → i < t → (ms.getD i noLeaf).p ≠ (ms.getD (i - 1) noLeaf).p) ∧ Tm 30 a [(0, (Value.slice (some ⟨g1, 0, none⟩) len cap1)), (2, (Value.bool false)), (9, (vI (len : Int))), (10, (vI (t : Int)))] ∧ Vg.Loc [] w0 wz [[(g1, ob (ms.flatMap leafC ++ (junk)) 36)]]) id len ?_ ?_
  · exact ⟨0, rfl, by omega, fun i h1 h2 => by omega, hT.keep [0, 2, 9, 10] rfl, hL⟩
  clear hT hL
  rintro mz a w3 ⟨t, rfl, ht, hne, hT, hL⟩
  refine c_seq ?_
  refine c_region ?_
  refine l_q hT (q_lss hT rfl rfl) rfl rfl (by decide) ?_; clear hT; intro a hT
  refine l_end ?_
  refine then_norm ?_
  refine c_seq ?_
  refine c_if hT rfl (fun hc1 => ?_) (fun hc1 => ?_)
  · skip
    have hc1 := of_decide_eq_true hc1
    refine wp_skip ?_
    refine then_norm ?_
    refine c_seq ?_
    refine wp_block ?_
    refine c_seq ?_
    refine c_region ?_
    refine l_q hT (q_move hT rfl) rfl rfl (by decide) ?_; clear hT; intro a hT
    refine l_q hT (q_assign hT rfl) rfl rfl (by decide) ?_; clear hT; intro a hT
    refine l_end ?_
    refine then_norm ?_
    refine c_seq ?_
    refine d_start' hL #[false, false, false, false, false, false, false, false, false, false, false, false, false, false, false, false] [] rfl rfl rfl ?_; clear hL; intro w4 hL hE; have hR := hL; have hS := Ext.refl w4
    refine d_pure (i := 0) hT #[true, false, false, false, false, false, false, false, false, false, false, false, false, false, false, false] rfl (by kernel_rfl) rfl rfl (by decide) (fun _ _ _ h => h) (fun _ => q_move hT rfl) ?_; clear hT; intro a hT
    refine d_pure (i := 1) hT #[true, true, false, false, false, false, false, false, false, false, false, false, false, false, false, false] rfl (by kernel_rfl) rfl rfl (by decide) (fun _ _ _ h => h) (fun _ => q_gtr hT rfl rfl) ?_; clear hT; intro a hT
    refine d_pure (i := 2) hT #[true, true, true, false, false, false, false, false, false, false, false, false, false, false, false, false] rfl (by kernel_rfl) rfl rfl (by decide) (fun _ _ _ h => h) (fun _ => q_move hT rfl) ?_; clear hT; intro a hT
    rcases Bool.eq_false_or_eq_true (decide (0 < (t : Int))) with hc2 | hc2
    · rw [hc2] at hT
      have hc2 := of_decide_eq_true hc2
      refine d_pure (i := 3) hT #[true, true, true, true, false, false, false, false, false, false, false, false, false, false, false, false] rfl (by kernel_rfl) rfl rfl (by decide) (fun _ _ _ h => h) (fun _ => q_move hT rfl) ?_; clear hT; intro a hT
      refine d_pure (i := 4) hT #[true, true, true, true, true, false, false, false, false, false, false, false, false, false, false, false] rfl (by kernel_rfl) rfl rfl (by decide) (fun _ _ _ h => h) (fun _ => q_move hT rfl) ?_; clear hT; intro a hT
      refine d_pure (i := 5) hT #[true, true, true, true, true, true, false, false, false, false, false, false, false, false, false, false] rfl (by kernel_rfl) rfl rfl (by decide) (fun _ _ _ h => h) (fun _ => q_indexAddr hT rfl rfl Tryd.sli22 (by omega) (by omega)) ?_; clear hT; intro a hT
      refine d_pure (i := 6) hT #[true, true, true, true, true, true, true, false, false, false, false, false, false, false, false, false] rfl (by kernel_rfl) rfl rfl (by decide) (fun _ _ _ h => h) (fun _ => q_fieldAddr hT rfl Tryd.fld36_0 rfl) ?_; clear hT; intro a hT
      refine d_pure (i := 8) hT #[true, true, true, true, true, true, true, false, true, false, false, false, false, false, false, false] rfl (by kernel_rfl) rfl rfl (by decide) (fun _ _ _ h => h) (fun _ => q_move hT rfl) ?_; clear hT; intro a hT
      refine d_pure (i := 9) hT #[true, true, true, true, true, true, true, false, true, true, false, false, false, false, false, false] rfl (by kernel_rfl) rfl rfl (by decide) (fun _ _ _ h => h) (fun _ => q_move hT rfl) ?_; clear hT; intro a hT
      refine d_pure (i := 10) hT #[true, true, true, true, true, true, true, false, true, true, true, false, false, false, false, false] rfl (by kernel_rfl) rfl rfl (by decide) (fun _ _ _ h => h) (fun _ => (q_subI hT rfl rfl (r := (t : Int) - 1) rfl (by omega) (by omega)).v (v := vI ((t - 1 : Nat) : Int)) (by congr 1; omega)) ?_; clear hT; intro a hT
      refine d_pure (i := 11) hT #[true, true, true, true, true, true, true, false, true, true, true, true, false, false, false, false] rfl (by kernel_rfl) rfl rfl (by decide) (fun _ _ _ h => h) (fun _ => q_indexAddr hT rfl rfl Tryd.sli22 (by omega) (by omega)) ?_; clear hT; intro a hT
      refine d_pure (i := 12) hT #[true, true, true, true, true, true, true, false, true, true, true, true, true, false, false, false] rfl (by kernel_rfl) rfl rfl (by decide) (fun _ _ _ h => h) (fun _ => q_fieldAddr hT rfl Tryd.fld36_0 rfl) ?_; clear hT; intro a hT
      refine d_take (i := 7) hT #[true, true, true, true, true, true, true, true, true, true, true, true, true, false, false, false] rfl (by kernel_rfl) rfl rfl (by decide) (fun _ _ _ h => h) (fun _ hs => q_load_agg hT rfl Tryd.ty24 (Rd.ext ((hel _ hR t (by omega)).part 0 (ds := digC ((ms.getD t noLeaf).p)) rfl) hs) rfl) hS ?_; clear hT; intro a hT
      refine d_take (i := 13) hT #[true, true, true, true, true, true, true, true, true, true, true, true, true, true, false, false] rfl (by kernel_rfl) rfl rfl (by decide) (fun _ _ _ h => h) (fun _ hs => q_load_agg hT rfl Tryd.ty24 (Rd.ext ((hel _ hR (t - 1 : Nat) (by omega)).part 0 (ds := digC ((ms.getD (t - 1 : Nat) noLeaf).p)) rfl) hs) rfl) hS ?_; clear hT; intro a hT
      refine d_pure (i := 14) hT #[true, true, true, true, true, true, true, true, true, true, true, true, true, true, true, false] rfl (by kernel_rfl) rfl rfl (by decide) (fun _ _ _ h => h) (fun _ => q_eq_agg hT rfl rfl Tryd.eqg24 (EqR.dig Tryd.arr24 Tryd.underlying5 ((ms.getD t noLeaf).p) ((ms.getD (t - 1 : Nat) noLeaf).p)) (by decide)) ?_; clear hT; intro a hT
      refine d_pure (i := 15) hT #[true, true, true, true, true, true, true, true, true, true, true, true, true, true, true, true] rfl (by kernel_rfl) rfl rfl (by decide) (fun _ _ _ h => h) (fun _ => (q_pick hT rfl rfl rfl).v (v := (Value.bool (decide (((ms.getD t noLeaf).p) = ((ms.getD (t - 1 : Nat) noLeaf).p))))) rfl) ?_; clear hT; intro a hT
      refine d_done (by kernel_rfl) ?_; clear hR hS
      refine then_norm ?_
      refine c_if hT rfl (fun hc3 => ?_) (fun hc3 => ?_)
      · skip
        have hc3 := of_decide_eq_true hc3
        refine c_seq ?_
        refine c_region ?_
        refine l_q hT (q_assign hT rfl) rfl rfl (by decide) ?_; clear hT; intro a hT
        refine l_end ?_
        refine then_norm ?_
        refine wp_ret ?_
        refine blk_ret ?_
        refine then_ret ?_
        refine then_ret ?_
        refine blk_ret ?_
        refine then_ret ?_
        refine c_ret (vs := [(Value.bool true)]) (rs := [.tmp 2]) hT rfl (.tmp rfl .nil) ?_
        refine ⟨?_, hL.drop⟩; rw [htw.2 ⟨t, by omega, by omega, by simp_all⟩]; rfl
      · skip
        have hc3 := of_decide_eq_false hc3
        refine wp_skip ?_
        refine blk_norm ?_
        refine then_norm ?_
        refine c_region ?_
        refine l_q hT (q_addI hT rfl rfl (r := (t : Int) + 1) rfl (by omega) (by omega)) rfl rfl (by decide) ?_; clear hT; intro a hT
        refine l_q hT (q_move hT rfl) rfl rfl (by decide) ?_; clear hT; intro a hT
        refine l_end ?_
        refine then_norm ?_
        have hne2 : ∀ i, 0 < i → i < t + 1 → (ms.getD i noLeaf).p ≠ (ms.getD (i - 1) noLeaf).p := by
          intro i h1 h2
          rcases Nat.lt_or_ge i t with q | q
          · exact hne i h1 q
          · obtain rfl : i = t := by omega
            first | omega | simp_all
        exact ⟨_, ⟨t + 1, rfl, by omega, hne2, hT.keep [0, 2, 9, 10] rfl, hL⟩, by simp only [id]; omega⟩
    · rw [hc2] at hT
      have hc2 := of_decide_eq_false hc2
      refine d_off (i := 3) hT #[true, true, true, true, false, false, false, false, false, false, false, false, false, false, false, false] rfl (by kernel_rfl) rfl rfl (by decide) (fun _ _ _ h => h) ?_; clear hT; intro a hT
      refine d_off (i := 4) hT #[true, true, true, true, true, false, false, false, false, false, false, false, false, false, false, false] rfl (by kernel_rfl) rfl rfl (by decide) (fun _ _ _ h => h) ?_; clear hT; intro a hT
      refine d_off (i := 5) hT #[true, true, true, true, true, true, false, false, false, false, false, false, false, false, false, false] rfl (by kernel_rfl) rfl rfl (by decide) (fun _ _ _ h => h) ?_; clear hT; intro a hT
      refine d_off (i := 6) hT #[true, true, true, true, true, true, true, false, false, false, false, false, false, false, false, false] rfl (by kernel_rfl) rfl rfl (by decide) (fun _ _ _ h => h) ?_; clear hT; intro a hT
      refine d_off (i := 7) hT #[true, true, true, true, true, true, true, true, false, false, false, false, false, false, false, false] rfl (by kernel_rfl) rfl rfl (by decide) (fun _ _ _ h => h) ?_; clear hT; intro a hT
      refine d_off (i := 8) hT #[true, true, true, true, true, true, true, true, true, false, false, false, false, false, false, false] rfl (by kernel_rfl) rfl rfl (by decide) (fun _ _ _ h => h) ?_; clear hT; intro a hT
      refine d_off (i := 9) hT #[true, true, true, true, true, true, true, true, true, true, false, false, false, false, false, false] rfl (by kernel_rfl) rfl rfl (by decide) (fun _ _ _ h => h) ?_; clear hT; intro a hT
      refine d_off (i := 10) hT #[true, true, true, true, true, true, true, true, true, true, true, false, false, false, false, false] rfl (by kernel_rfl) rfl rfl (by decide) (fun _ _ _ h => h) ?_; clear hT; intro a hT
      refine d_off (i := 11) hT #[true, true, true, true, true, true, true, true, true, true, true, true, false, false, false, false] rfl (by kernel_rfl) rfl rfl (by decide) (fun _ _ _ h => h) ?_; clear hT; intro a hT
      refine d_off (i := 12) hT #[true, true, true, true, true, true, true, true, true, true, true, true, true, false, false, false] rfl (by kernel_rfl) rfl rfl (by decide) (fun _ _ _ h => h) ?_; clear hT; intro a hT
      refine d_off (i := 13) hT #[true, true, true, true, true, true, true, true, true, true, true, true, true, true, false, false] rfl (by kernel_rfl) rfl rfl (by decide) (fun _ _ _ h => h) ?_; clear hT; intro a hT
      refine d_off (i := 14) hT #[true, true, true, true, true, true, true, true, true, true, true, true, true, true, true, false] rfl (by kernel_rfl) rfl rfl (by decide) (fun _ _ _ h => h) ?_; clear hT; intro a hT
      refine d_pure (i := 15) hT #[true, true, true, true, true, true, true, true, true, true, true, true, true, true, true, true] rfl (by kernel_rfl) rfl rfl (by decide) (fun _ _ _ h => h) (fun _ => (q_pick hT rfl rfl rfl).v (v := (Value.bool false)) rfl) ?_; clear hT; intro a hT
      refine d_done (by kernel_rfl) ?_; clear hR hS
      refine then_norm ?_
      refine c_false hT rfl rfl ?_
      refine wp_skip ?_
      refine blk_norm ?_
      refine then_norm ?_
      refine c_region ?_
      refine l_q hT (q_addI hT rfl rfl (r := (t : Int) + 1) rfl (by omega) (by omega)) rfl rfl (by decide) ?_; clear hT; intro a hT
      refine l_q hT (q_move hT rfl) rfl rfl (by decide) ?_; clear hT; intro a hT
      refine l_end ?_
      refine then_norm ?_
      have hne2 : ∀ i, 0 < i → i < t + 1 → (ms.getD i noLeaf).p ≠ (ms.getD (i - 1) noLeaf).p := by
        intro i h1 h2
        rcases Nat.lt_or_ge i t with q | q
        · exact hne i h1 q
        · obtain rfl : i = t := by omega
          first | omega | simp_all
      exact ⟨_, ⟨t + 1, rfl, by omega, hne2, hT.keep [0, 2, 9, 10] rfl, hL⟩, by simp only [id]; omega⟩
  · skip
    have hc1 := of_decide_eq_false hc1
    refine wp_exit ?_
    refine then_exit ?_
    refine then_exit ?_
    refine blk_exit ?_
    refine then_norm ?_
    refine c_seq ?_
    refine c_region ?_
    refine l_q hT (q_assign hT rfl) rfl rfl (by decide) ?_; clear hT; intro a hT
    refine l_end ?_
    refine then_norm ?_
    refine wp_ret ?_
    refine c_ret (vs := [(Value.bool false)]) (rs := [.tmp 2]) hT rfl (.tmp rfl .nil) ?_
    refine ⟨?_, hL.drop⟩; rw [show twins ls = false from by
          rw [Bool.eq_false_iff]
          intro h
          obtain ⟨i, h1, h2, h3⟩ := htw.1 h
          exact hne i h1 (by omega) h3]; rfl

theorem twice_ok : TwiceOK Tryd.prog 30 := by
  intro ls p len cap w0 hsl hc
  rcases Nat.eq_zero_or_pos len with rfl | h0
  · have : ls = [] := List.eq_nil_of_length_eq_zero hsl.1
    subst this
    exact twice_nil p cap w0
  · obtain ⟨b, off, rfl, _⟩ := hsl.2 h0
    exact twice_some ls _ len cap h0 hc w0 hsl

end Go.Proofs.YtcaffacganffjaaDoor
end

section
namespace Go.Proofs.YtcaffacganffjaaDoor
open Go Go.Vg


set_option maxRecDepth 20000 in
set_option maxHeartbeats 1000000 in
theorem inner_nil  (w0 : World) :
    Calls Tryd.prog 45 #[(Value.pointer none)] w0 fun e w' => e = .returned (.bool false) ∧ Ext w0 w' := by
  refine c_enter (n := 19) (args := [(Value.pointer none)]) Tryd.func45 rfl rfl (Nat.le_of_ble_eq_true rfl) rfl (fun a hT => ?_)
  simp only [List.zipIdx_cons, List.zipIdx_nil, List.map_cons, List.map_nil, Nat.reduceAdd] at hT
  have hL := Vg.Loc.refl [] w0
  refine c_seq ?_
  refine c_region ?_
  refine l_q hT (q_assign hT rfl) rfl rfl (by decide) ?_; clear hT; intro a hT
  refine l_end ?_
  refine then_norm ?_
  refine c_seq ?_
  refine c_region ?_
  refine l_q hT (q_move hT rfl) rfl rfl (by decide) ?_; clear hT; intro a hT
  refine l_q hT ((q_ne_nil hT rfl rfl Tryd.underlying63).b (b := false) rfl) rfl rfl (by decide) ?_; clear hT; intro a hT
  refine l_q hT (q_move hT rfl) rfl rfl (by decide) ?_; clear hT; intro a hT
  refine l_off hT rfl rfl rfl rfl rfl (by decide) ?_; clear hT; intro a hT
  refine l_off hT rfl rfl rfl rfl rfl (by decide) ?_; clear hT; intro a hT
  refine l_off hT rfl rfl rfl rfl rfl (by decide) ?_; clear hT; intro a hT
  refine l_off hT rfl rfl rfl rfl rfl (by decide) ?_; clear hT; intro a hT
  refine l_off hT rfl rfl rfl rfl rfl (by decide) ?_; clear hT; intro a hT
  refine l_off hT rfl rfl rfl rfl rfl (by decide) ?_; clear hT; intro a hT
  refine l_off' hT rfl rfl rfl rfl rfl (by decide) ?_; clear hT; intro a hT
  refine l_off' hT rfl rfl rfl rfl rfl (by decide) ?_; clear hT; intro a hT
  refine l_off' hT rfl rfl rfl rfl rfl (by decide) ?_; clear hT; intro a hT
  refine l_off' hT rfl rfl rfl rfl rfl (by decide) ?_; clear hT; intro a hT
  refine l_off' hT rfl rfl rfl rfl rfl (by decide) ?_; clear hT; intro a hT
  refine l_off hT rfl rfl rfl rfl rfl (by decide) ?_; clear hT; intro a hT
  refine l_q hT ((q_pick hT rfl rfl rfl).v (v := (Value.bool false)) rfl) rfl rfl (by decide) ?_; clear hT; intro a hT
  refine l_q hT (q_assign hT rfl) rfl rfl (by decide) ?_; clear hT; intro a hT
  refine l_end ?_
  refine then_norm ?_
  refine wp_ret ?_
  refine c_ret (vs := [(Value.bool false)]) (rs := [.tmp 2]) hT rfl (.tmp rfl .nil) ?_
  exact ⟨rfl, hL.drop⟩

set_option maxRecDepth 20000 in
set_option maxHeartbeats 1000000 in
theorem inner_some (b : Nat) (p q : Option Addr) (w0 : World) (hk : Rd w0 b 99 [.pointer p, .pointer q]) :
    Calls Tryd.prog 45 #[(vp b 0)] w0 fun e w' => e = .returned (.bool (p.isSome || q.isSome)) ∧ Ext w0 w' := by
  refine c_enter (n := 19) (args := [(vp b 0)]) Tryd.func45 rfl rfl (Nat.le_of_ble_eq_true rfl) rfl (fun a hT => ?_)
  simp only [List.zipIdx_cons, List.zipIdx_nil, List.map_cons, List.map_nil, Nat.reduceAdd] at hT
  have hL := Vg.Loc.refl [] w0
  refine c_seq ?_
  refine c_region ?_
  refine l_q hT (q_assign hT rfl) rfl rfl (by decide) ?_; clear hT; intro a hT
  refine l_end ?_
  refine then_norm ?_
  refine c_seq ?_
  refine c_region ?_
  refine l_q hT (q_move hT rfl) rfl rfl (by decide) ?_; clear hT; intro a hT
  refine l_q hT ((q_ne_nil hT rfl rfl Tryd.underlying63).b (b := true) rfl) rfl rfl (by decide) ?_; clear hT; intro a hT
  refine l_q hT (q_move hT rfl) rfl rfl (by decide) ?_; clear hT; intro a hT
  refine l_on hT rfl rfl rfl rfl (w_q hT (q_move hT rfl) rfl (by decide) ?_); clear hT; intro a hT
  refine l_on hT rfl rfl rfl rfl (w_q hT (q_nilCheck hT rfl) rfl (by decide) ?_); clear hT; intro a hT
  refine l_on hT rfl rfl rfl rfl (w_q hT (q_fieldAddr hT rfl Tryd.fld98_2 rfl) rfl (by decide) ?_); clear hT; intro a hT
  refine l_on hT rfl rfl rfl rfl (w_q hT (q_load hT rfl Tryd.ty63 ((Rd.loc hk hL (by simp)).part 0 (ds := [(Value.pointer p)]) rfl)) rfl (by decide) ?_); clear hT; intro a hT
  refine l_on hT rfl rfl rfl rfl (w_q hT (q_ne_nil hT rfl rfl Tryd.underlying63) rfl (by decide) ?_); clear hT; intro a hT
  refine l_on hT rfl rfl rfl rfl (w_q hT (q_move hT rfl) rfl (by decide) ?_); clear hT; intro a hT
  rcases Bool.eq_false_or_eq_true (p.isSome) with hc1 | hc1
  · rw [hc1] at hT
    refine l_off hT rfl rfl rfl rfl rfl (by decide) ?_; clear hT; intro a hT
    refine l_off hT rfl rfl rfl rfl rfl (by decide) ?_; clear hT; intro a hT
    refine l_off hT rfl rfl rfl rfl rfl (by decide) ?_; clear hT; intro a hT
    refine l_off hT rfl rfl rfl rfl rfl (by decide) ?_; clear hT; intro a hT
    refine l_off hT rfl rfl rfl rfl rfl (by decide) ?_; clear hT; intro a hT
    refine l_on hT rfl rfl rfl rfl (w_q hT ((q_pick hT rfl rfl rfl).v (v := (Value.bool true)) rfl) rfl (by decide) ?_); clear hT; intro a hT
    refine l_q hT ((q_pick hT rfl rfl rfl).v (v := (Value.bool true)) rfl) rfl rfl (by decide) ?_; clear hT; intro a hT
    refine l_q hT (q_assign hT rfl) rfl rfl (by decide) ?_; clear hT; intro a hT
    refine l_end ?_
    refine then_norm ?_
    refine wp_ret ?_
    refine c_ret (vs := [(Value.bool true)]) (rs := [.tmp 2]) hT rfl (.tmp rfl .nil) ?_
    exact ⟨by simp_all [packed], hL.drop⟩
  · rw [hc1] at hT
    refine l_on hT rfl rfl rfl rfl (w_q hT (q_move hT rfl) rfl (by decide) ?_); clear hT; intro a hT
    refine l_on hT rfl rfl rfl rfl (w_q hT (q_nilCheck hT rfl) rfl (by decide) ?_); clear hT; intro a hT
    refine l_on hT rfl rfl rfl rfl (w_q hT (q_fieldAddr hT rfl Tryd.fld98_3 rfl) rfl (by decide) ?_); clear hT; intro a hT
    refine l_on hT rfl rfl rfl rfl (w_q hT (q_load hT rfl Tryd.ty63 ((Rd.loc hk hL (by simp)).part 1 (ds := [(Value.pointer q)]) rfl)) rfl (by decide) ?_); clear hT; intro a hT
    refine l_on hT rfl rfl rfl rfl (w_q hT (q_ne_nil hT rfl rfl Tryd.underlying63) rfl (by decide) ?_); clear hT; intro a hT
    refine l_on hT rfl rfl rfl rfl (w_q hT ((q_pick hT rfl rfl rfl).v (v := (Value.bool q.isSome)) rfl) rfl (by decide) ?_); clear hT; intro a hT
    refine l_q hT ((q_pick hT rfl rfl rfl).v (v := (Value.bool q.isSome)) rfl) rfl rfl (by decide) ?_; clear hT; intro a hT
    refine l_q hT (q_assign hT rfl) rfl rfl (by decide) ?_; clear hT; intro a hT
    refine l_end ?_
    refine then_norm ?_
    refine wp_ret ?_
    refine c_ret (vs := [(Value.bool q.isSome)]) (rs := [.tmp 2]) hT rfl (.tmp rfl .nil) ?_
    exact ⟨by simp_all [packed], hL.drop⟩

set_option maxRecDepth 20000 in
set_option maxHeartbeats 1000000 in
theorem with_nil (l : Leaf) (n : Int) (w0 : World) :
    Calls Tryd.prog 32 #[(Value.pointer none), (Value.agg (digC l.p ++ (digC l.v)).toArray), (vI n)] w0 fun e w' => ∃ b, e = .returned (vp b 0) ∧ Vg.Loc [] w0 w' [(KT.leaf b l).ents 98] := by
  refine c_enter (n := 98) (args := [(Value.pointer none), (Value.agg (digC l.p ++ (digC l.v)).toArray), (vI n)]) Tryd.func32 rfl rfl (Nat.le_of_ble_eq_true rfl) rfl (fun a hT => ?_)
  simp only [List.zipIdx_cons, List.zipIdx_nil, List.map_cons, List.map_nil, Nat.reduceAdd] at hT
  have hL := Vg.Loc.refl [] w0
  refine c_seq ?_
  refine c_region ?_
  refine l_do rfl ?_
  refine w_box hT hL (by decide) rfl (c := digC l.p ++ (digC l.v)) rfl ?_; clear hT hL; intro b1 a w1 hT hL hE hB
  refine l_q hT (q_assign hT rfl) rfl rfl (by decide) ?_; clear hT; intro a hT
  refine l_end ?_
  refine then_norm ?_
  refine c_seq ?_
  refine wp_block ?_
  refine c_seq ?_
  refine d_start' hL #[false, false, false, false, false, false, false, false, false, false, false, false, false, false, false, false, false, false] [] rfl rfl rfl ?_; clear hL; intro w2 hL hE; have hR := hL; have hS := Ext.refl w2
  refine d_pure (i := 0) hT #[true, false, false, false, false, false, false, false, false, false, false, false, false, false, false, false, false, false] rfl (by kernel_rfl) rfl rfl (by decide) (fun _ _ _ h => h) (fun _ => q_move hT rfl) ?_; clear hT; intro a hT
  refine d_pure (i := 1) hT #[true, true, false, false, false, false, false, false, false, false, false, false, false, false, false, false, false, false] rfl (by kernel_rfl) rfl rfl (by decide) (fun _ _ _ h => h) (fun _ => (q_eq_nil hT rfl rfl Tryd.underlying63).b (b := true) rfl) ?_; clear hT; intro a hT
  refine d_pure (i := 2) hT #[true, true, true, false, false, false, false, false, false, false, false, false, false, false, false, false, false, false] rfl (by kernel_rfl) rfl rfl (by decide) (fun _ _ _ h => h) (fun _ => q_move hT rfl) ?_; clear hT; intro a hT
  refine d_off (i := 3) hT #[true, true, true, true, false, false, false, false, false, false, false, false, false, false, false, false, false, false] rfl (by kernel_rfl) rfl rfl (by decide) (fun _ _ _ h => h) ?_; clear hT; intro a hT
  refine d_off (i := 4) hT #[true, true, true, true, true, false, false, false, false, false, false, false, false, false, false, false, false, false] rfl (by kernel_rfl) rfl rfl (by decide) (fun _ _ _ h => h) ?_; clear hT; intro a hT
  refine d_off (i := 5) hT #[true, true, true, true, true, true, false, false, false, false, false, false, false, false, false, false, false, false] rfl (by kernel_rfl) rfl rfl (by decide) (fun _ _ _ h => h) ?_; clear hT; intro a hT
  refine d_off (i := 6) hT #[true, true, true, true, true, true, true, false, false, false, false, false, false, false, false, false, false, false] rfl (by kernel_rfl) rfl rfl (by decide) (fun _ _ _ h => h) ?_; clear hT; intro a hT
  refine d_off (i := 7) hT #[true, true, true, true, true, true, true, true, false, false, false, false, false, false, false, false, false, false] rfl (by kernel_rfl) rfl rfl (by decide) (fun _ _ _ h => h) ?_; clear hT; intro a hT
  refine d_off (i := 8) hT #[true, true, true, true, true, true, true, true, true, false, false, false, false, false, false, false, false, false] rfl (by kernel_rfl) rfl rfl (by decide) (fun _ _ _ h => h) ?_; clear hT; intro a hT
  refine d_off (i := 9) hT #[true, true, true, true, true, true, true, true, true, true, false, false, false, false, false, false, false, false] rfl (by kernel_rfl) rfl rfl (by decide) (fun _ _ _ h => h) ?_; clear hT; intro a hT
  refine d_off (i := 10) hT #[true, true, true, true, true, true, true, true, true, true, true, false, false, false, false, false, false, false] rfl (by kernel_rfl) rfl rfl (by decide) (fun _ _ _ h => h) ?_; clear hT; intro a hT
  refine d_off (i := 11) hT #[true, true, true, true, true, true, true, true, true, true, true, true, false, false, false, false, false, false] rfl (by kernel_rfl) rfl rfl (by decide) (fun _ _ _ h => h) ?_; clear hT; intro a hT
  refine d_off (i := 12) hT #[true, true, true, true, true, true, true, true, true, true, true, true, true, false, false, false, false, false] rfl (by kernel_rfl) rfl rfl (by decide) (fun _ _ _ h => h) ?_; clear hT; intro a hT
  refine d_off (i := 13) hT #[true, true, true, true, true, true, true, true, true, true, true, true, true, true, false, false, false, false] rfl (by kernel_rfl) rfl rfl (by decide) (fun _ _ _ h => h) ?_; clear hT; intro a hT
  refine d_off (i := 14) hT #[true, true, true, true, true, true, true, true, true, true, true, true, true, true, true, false, false, false] rfl (by kernel_rfl) rfl rfl (by decide) (fun _ _ _ h => h) ?_; clear hT; intro a hT
  refine d_off (i := 15) hT #[true, true, true, true, true, true, true, true, true, true, true, true, true, true, true, true, false, false] rfl (by kernel_rfl) rfl rfl (by decide) (fun _ _ _ h => h) ?_; clear hT; intro a hT
  refine d_pure (i := 16) hT #[true, true, true, true, true, true, true, true, true, true, true, true, true, true, true, true, true, false] rfl (by kernel_rfl) rfl rfl (by decide) (fun _ _ _ h => h) (fun _ => (q_pick hT rfl rfl rfl).v (v := (Value.bool true)) rfl) ?_; clear hT; intro a hT
  refine d_pure (i := 17) hT #[true, true, true, true, true, true, true, true, true, true, true, true, true, true, true, true, true, true] rfl (by kernel_rfl) rfl rfl (by decide) (fun _ _ _ h => h) (fun _ => q_assign hT rfl) ?_; clear hT; intro a hT
  refine d_done (by kernel_rfl) ?_; clear hR hS
  refine then_norm ?_
  refine c_true hT rfl rfl ?_
  refine c_seq ?_
  refine c_region ?_
  refine l_q hT (q_load_agg hT rfl Tryd.ty36 (hL.rd 0 rfl 0 (ds := digC l.p ++ (digC l.v)) rfl) rfl) rfl rfl (by decide) ?_; clear hT; intro a hT
  refine l_q hT (q_build (ps := [(1, .tmp 27)]) (pv := [(1, (Value.agg (digC l.p ++ (digC l.v)).toArray))]) (v := .agg ([(v32 0), (Value.int .i32 0), (v32 0)] ++ (digC Dig.zero ++ (digC l.p ++ (digC l.v ++ ([(Value.pointer none), (Value.pointer none)]))))).toArray) hT rfl (fun _ => by kernel_rfl)) rfl rfl (by decide) ?_; clear hT; intro a hT
  refine l_do rfl ?_
  refine w_box hT hL (by decide) rfl (c := [(v32 0), (Value.int .i32 0), (v32 0)] ++ (digC Dig.zero ++ (digC l.p ++ (digC l.v ++ ([(Value.pointer none), (Value.pointer none)]))))) rfl ?_; clear hT hL; intro b2 a w3 hT hL hE hB
  refine l_q hT (q_assign hT rfl) rfl rfl (by decide) ?_; clear hT; intro a hT
  refine l_end ?_
  refine then_norm ?_
  refine wp_ret ?_
  refine blk_ret ?_
  refine then_ret ?_
  refine c_ret (vs := [(vp b2 0)]) (rs := [.tmp 6]) hT rfl (.tmp rfl .nil) ?_
  exact ⟨_, rfl, hL.sub (.cons_cons _ (.cons _ .slnil))⟩

set_option maxRecDepth 100000 in
set_option maxHeartbeats 4000000 in
theorem with_leaf (b : Nat) (old l : Leaf) (n : Nat) (hg : GoodL [l, old] n) (ih : WithOK Tryd.prog 32 98 (n + 1)) (w0 : World) (hL0 : Vg.Loc (keys [(KT.leaf b old).ents 98]) w0 w0 [(KT.leaf b old).ents 98]) :
    Calls Tryd.prog 32 #[(vp b 0), (Value.agg (digC l.p ++ (digC l.v)).toArray), (vI (n : Int))] w0 fun e w' => ∃ t', e = .returned (.pointer t'.ad) ∧ Vg.Loc (keys [(KT.leaf b old).ents 98]) w0 w' [t'.ents 98] ∧ Rep t' (l :: [old]) n := by
  refine c_enter (n := 98) (args := [(vp b 0), (Value.agg (digC l.p ++ (digC l.v)).toArray), (vI (n : Int))]) Tryd.func32 rfl rfl (Nat.le_of_ble_eq_true rfl) rfl (fun a hT => ?_)
  simp only [List.zipIdx_cons, List.zipIdx_nil, List.map_cons, List.map_nil, Nat.reduceAdd] at hT
  have hL : Vg.Loc (keys [(KT.leaf b old).ents 98]) w0 w0 [[(b, ob ([(v32 0), (Value.int .i32 0), (v32 0)] ++ (digC Dig.zero ++ (digC old.p ++ (digC old.v ++ ([(Value.pointer none), (Value.pointer none)]))))) 98)]] := hL0
  have hn : n < 256 := hg.lt (by simp)
  have hne : old.p ≠ l.p := fun e => (List.pairwise_cons.1 hg.apart).1 old (by simp) e.symm
  refine c_seq ?_
  refine c_region ?_
  refine l_do rfl ?_
  refine w_box hT hL (by decide) rfl (c := digC l.p ++ (digC l.v)) rfl ?_; clear hT hL; intro b1 a w1 hT hL hE hB
  refine l_q hT (q_assign hT rfl) rfl rfl (by decide) ?_; clear hT; intro a hT
  refine l_end ?_
  refine then_norm ?_
  refine c_seq ?_
  refine wp_block ?_
  refine c_seq ?_
  refine d_start' hL #[false, false, false, false, false, false, false, false, false, false, false, false, false, false, false, false, false, false] [] rfl rfl rfl ?_; clear hL; intro w2 hL hE; have hR := hL; have hS := Ext.refl w2
  refine d_pure (i := 0) hT #[true, false, false, false, false, false, false, false, false, false, false, false, false, false, false, false, false, false] rfl (by kernel_rfl) rfl rfl (by decide) (fun _ _ _ h => h) (fun _ => q_move hT rfl) ?_; clear hT; intro a hT
  refine d_pure (i := 1) hT #[true, true, false, false, false, false, false, false, false, false, false, false, false, false, false, false, false, false] rfl (by kernel_rfl) rfl rfl (by decide) (fun _ _ _ h => h) (fun _ => (q_eq_nil hT rfl rfl Tryd.underlying63).b (b := false) rfl) ?_; clear hT; intro a hT
  refine d_pure (i := 2) hT #[true, true, true, false, false, false, false, false, false, false, false, false, false, false, false, false, false, false] rfl (by kernel_rfl) rfl rfl (by decide) (fun _ _ _ h => h) (fun _ => q_move hT rfl) ?_; clear hT; intro a hT
  refine d_pure (i := 3) hT #[true, true, true, true, false, false, false, false, false, false, false, false, false, false, false, false, false, false] rfl (by kernel_rfl) rfl rfl (by decide) (fun _ _ _ h => h) (fun _ => q_move hT rfl) ?_; clear hT; intro a hT
  refine d_one (i := 4) hT #[true, true, true, true, true, false, false, false, false, false, false, false, false, false, false, false, false, false] rfl (by kernel_rfl) rfl ?_
  refine w_callT (xs := [.tmp 13]) hT rfl (vs := [(vp b 0)]) rfl (args := #[(vp b 0)]) rfl Tryd.func45 rfl rfl (by decide) ((inner_some b none none _ (hL.rd 1 rfl 99 rfl)).mono ?_)
  rintro e w3 ⟨rfl, hX⟩
  refine ⟨_, rfl, ?_⟩; clear hT; intro a hT; replace hT : Tm 98 a ((14, (Value.bool false)) :: _) := hT
  replace hL := hL.ext hX
  replace hS := Vg.Loc.ext hS hX; refine ⟨fun _ => hS, ?_⟩
  refine d_pure (i := 5) hT #[true, true, true, true, true, true, false, false, false, false, false, false, false, false, false, false, false, false] rfl (by kernel_rfl) rfl rfl (by decide) (fun _ _ _ h => h) (fun _ => (q_not hT rfl).b rfl) ?_; clear hT; intro a hT
  refine d_pure (i := 6) hT #[true, true, true, true, true, true, true, false, false, false, false, false, false, false, false, false, false, false] rfl (by kernel_rfl) rfl rfl (by decide) (fun _ _ _ h => h) (fun _ => q_move hT rfl) ?_; clear hT; intro a hT
  refine d_pure (i := 7) hT #[true, true, true, true, true, true, true, true, false, false, false, false, false, false, false, false, false, false] rfl (by kernel_rfl) rfl rfl (by decide) (fun _ _ _ h => h) (fun _ => q_move hT rfl) ?_; clear hT; intro a hT
  refine d_pure (i := 8) hT #[true, true, true, true, true, true, true, true, true, false, false, false, false, false, false, false, false, false] rfl (by kernel_rfl) rfl rfl (by decide) (fun _ _ _ h => h) (fun _ => q_nilCheck hT rfl) ?_; clear hT; intro a hT
  refine d_pure (i := 9) hT #[true, true, true, true, true, true, true, true, true, true, false, false, false, false, false, false, false, false] rfl (by kernel_rfl) rfl rfl (by decide) (fun _ _ _ h => h) (fun _ => q_fieldAddr hT rfl Tryd.fld98_1 rfl) ?_; clear hT; intro a hT
  refine d_pure (i := 10) hT #[true, true, true, true, true, true, true, true, true, true, true, false, false, false, false, false, false, false] rfl (by kernel_rfl) rfl rfl (by decide) (fun _ _ _ h => h) (fun _ => q_fieldAddr hT rfl Tryd.fld36_0 rfl) ?_; clear hT; intro a hT
  refine d_pure (i := 12) hT #[true, true, true, true, true, true, true, true, true, true, true, false, true, false, false, false, false, false] rfl (by kernel_rfl) rfl rfl (by decide) (fun _ _ _ h => h) (fun _ => q_fieldAddr hT rfl Tryd.fld36_0 rfl) ?_; clear hT; intro a hT
  refine d_take (i := 11) hT #[true, true, true, true, true, true, true, true, true, true, true, true, true, false, false, false, false, false] rfl (by kernel_rfl) rfl rfl (by decide) (fun _ _ _ h => h) (fun _ hs => q_load_agg hT rfl Tryd.ty24 (Rd.ext (hR.rd 1 rfl 35 (ds := digC old.p) rfl) hs) rfl) hS ?_; clear hT; intro a hT
  refine d_take (i := 13) hT #[true, true, true, true, true, true, true, true, true, true, true, true, true, true, false, false, false, false] rfl (by kernel_rfl) rfl rfl (by decide) (fun _ _ _ h => h) (fun _ hs => q_load_agg hT rfl Tryd.ty24 (Rd.ext (hR.rd 0 rfl 0 (ds := digC l.p) rfl) hs) rfl) hS ?_; clear hT; intro a hT
  refine d_pure (i := 14) hT #[true, true, true, true, true, true, true, true, true, true, true, true, true, true, true, false, false, false] rfl (by kernel_rfl) rfl rfl (by decide) (fun _ _ _ h => h) (fun _ => (q_eq_agg hT rfl rfl Tryd.eqg24 (EqR.dig Tryd.arr24 Tryd.underlying5 old.p l.p) (by decide)).b (c := decide (old.p = l.p)) (b := false) (by simp [hne])) ?_; clear hT; intro a hT
  refine d_pure (i := 15) hT #[true, true, true, true, true, true, true, true, true, true, true, true, true, true, true, true, false, false] rfl (by kernel_rfl) rfl rfl (by decide) (fun _ _ _ h => h) (fun _ => (q_pick hT rfl rfl rfl).v (v := (Value.bool false)) rfl) ?_; clear hT; intro a hT
  refine d_pure (i := 16) hT #[true, true, true, true, true, true, true, true, true, true, true, true, true, true, true, true, true, false] rfl (by kernel_rfl) rfl rfl (by decide) (fun _ _ _ h => h) (fun _ => (q_pick hT rfl rfl rfl).v (v := (Value.bool false)) rfl) ?_; clear hT; intro a hT
  refine d_pure (i := 17) hT #[true, true, true, true, true, true, true, true, true, true, true, true, true, true, true, true, true, true] rfl (by kernel_rfl) rfl rfl (by decide) (fun _ _ _ h => h) (fun _ => q_assign hT rfl) ?_; clear hT; intro a hT
  refine d_done (by kernel_rfl) ?_; clear hR hS
  refine then_norm ?_
  refine c_false hT rfl rfl ?_
  refine c_seq ?_
  refine c_region ?_
  refine l_q hT (q_move hT rfl) rfl rfl (by decide) ?_; clear hT; intro a hT
  refine l_do rfl ?_
  refine w_callT (xs := [.tmp 31]) hT rfl (vs := [(vp b 0)]) rfl (args := #[(vp b 0)]) rfl Tryd.func45 rfl rfl (by decide) ((inner_some b none none _ (hL.rd 1 rfl 99 rfl)).mono ?_)
  rintro e w4 ⟨rfl, hX⟩
  refine ⟨_, rfl, ?_⟩; clear hT; intro a hT; replace hT : Tm 98 a ((32, (Value.bool false)) :: _) := hT
  replace hL := hL.ext hX
  refine l_q hT ((q_not hT rfl).b rfl) rfl rfl (by decide) ?_; clear hT; intro a hT
  refine l_q hT (q_assign hT rfl) rfl rfl (by decide) ?_; clear hT; intro a hT
  refine l_end ?_
  refine then_norm ?_
  refine c_true hT rfl rfl ?_
  refine c_seq ?_
  refine c_region ?_
  refine l_q hT (q_move hT rfl) rfl rfl (by decide) ?_; clear hT; intro a hT
  refine l_q hT (q_nilCheck hT rfl) rfl rfl (by decide) ?_; clear hT; intro a hT
  refine l_q hT (q_fieldAddr hT rfl Tryd.fld98_1 rfl) rfl rfl (by decide) ?_; clear hT; intro a hT
  refine l_q hT (q_load_agg hT rfl Tryd.ty36 (hL.rd 1 rfl 35 (ds := digC old.p ++ (digC old.v)) rfl) rfl) rfl rfl (by decide) ?_; clear hT; intro a hT
  refine l_do rfl ?_
  refine w_alloc hT hL (by decide) Tryd.ty36 ?_; clear hT hL; intro b2 a w5 hT hL hE hB
  refine l_do rfl ?_
  refine w_store hT hL 0 (c := digC Dig.zero ++ (digC Dig.zero)) rfl rfl Tryd.ty36 rfl (vs := digC old.p ++ (digC old.v)) rfl rfl (by first | decide | (simp [arr32_len, arr8_len, digC_len]; done) | (simp [arr32_len, arr8_len, digC_len]; omega)) rfl (c' := digC old.p ++ (digC old.v)) rfl ?_; clear hL; intro w6 hL hE
  replace hL : Vg.Loc (keys [(KT.leaf b old).ents 98]) w0 w6 ([[(b2, ob (digC old.p ++ (digC old.v)) 36)], [(b1, ob (digC l.p ++ (digC l.v)) 36)], [(b, ob ([(v32 0), (Value.int .i32 0), (v32 0)] ++ (digC Dig.zero ++ (digC old.p ++ (digC old.v ++ ([(Value.pointer none), (Value.pointer none)]))))) 98)]]) := hL
  refine l_end ?_
  refine then_norm ?_
  refine c_seq ?_
  refine c_region ?_
  refine l_q hT (q_load_agg hT rfl Tryd.ty36 (hL.rd 0 rfl 0 (ds := digC old.p ++ (digC old.v)) rfl) rfl) rfl rfl (by decide) ?_; clear hT; intro a hT
  refine l_q hT (q_build (ps := [(1, .tmp 38)]) (pv := [(1, (Value.agg (digC old.p ++ (digC old.v)).toArray))]) (v := .agg ([(v32 0), (Value.int .i32 0), (v32 0)] ++ (digC Dig.zero ++ (digC old.p ++ (digC old.v ++ ([(Value.pointer none), (Value.pointer none)]))))).toArray) hT rfl (fun _ => by kernel_rfl)) rfl rfl (by decide) ?_; clear hT; intro a hT
  refine l_do rfl ?_
  refine w_box hT hL (by decide) rfl (c := [(v32 0), (Value.int .i32 0), (v32 0)] ++ (digC Dig.zero ++ (digC old.p ++ (digC old.v ++ ([(Value.pointer none), (Value.pointer none)]))))) rfl ?_; clear hT hL; intro b3 a w7 hT hL hE hB
  refine l_q hT (q_build (ps := [(2, .tmp 40)]) (pv := [(2, (vp b3 0))]) (v := .agg ([(v32 0), (Value.int .i32 0), (v32 0)] ++ (digC Dig.zero ++ (digC Dig.zero ++ (digC Dig.zero ++ ([(vp b3 0), (Value.pointer none)]))))).toArray) hT rfl (fun _ => by kernel_rfl)) rfl rfl (by decide) ?_; clear hT; intro a hT
  refine l_do rfl ?_
  refine w_box hT hL (by decide) rfl (c := [(v32 0), (Value.int .i32 0), (v32 0)] ++ (digC Dig.zero ++ (digC Dig.zero ++ (digC Dig.zero ++ ([(vp b3 0), (Value.pointer none)]))))) rfl ?_; clear hT hL; intro b4 a w8 hT hL hE hB
  refine l_q hT (q_assign hT rfl) rfl rfl (by decide) ?_; clear hT; intro a hT
  refine l_end ?_
  refine then_norm ?_
  refine c_seq ?_
  refine c_region ?_
  refine l_q hT (q_fieldAddr hT rfl Tryd.fld36_0 rfl) rfl rfl (by decide) ?_; clear hT; intro a hT
  refine l_q hT (q_load_agg hT rfl Tryd.ty24 (hL.rd 2 rfl 0 (ds := digC old.p) rfl) rfl) rfl rfl (by decide) ?_; clear hT; intro a hT
  refine l_q hT (q_move hT rfl) rfl rfl (by decide) ?_; clear hT; intro a hT
  refine l_do rfl ?_
  refine w_callT (xs := [.tmp 44, .tmp 45]) hT rfl (vs := [(Value.agg (digC old.p).toArray), (vI (n : Int))]) rfl (args := #[(Value.agg (digC old.p).toArray), (vI (n : Int))]) rfl Tryd.func46 rfl rfl (by decide) ((sright_spec old.p n (by omega) _).mono ?_)
  rintro e w9 ⟨rfl, hX⟩
  refine ⟨_, rfl, ?_⟩; clear hT; intro a hT; replace hT : Tm 98 a ((46, (Value.bool (old.p.bit n))) :: _) := hT
  replace hL := hL.ext hX
  refine l_end ?_
  refine then_norm ?_
  refine c_if hT rfl (fun hc1 => ?_) (fun hc1 => ?_)
  · skip
    refine d_start' hL #[false, false, false, false, false, false, false, false, false, false, false, false, false, false, false, false] [12, 15] rfl rfl rfl ?_; clear hL; intro w10 hL hE; have hR := hL; have hS := Ext.refl w10
    refine d_pure (i := 0) hT #[true, false, false, false, false, false, false, false, false, false, false, false, false, false, false, false] rfl (by kernel_rfl) rfl rfl (by decide) (fun _ _ _ h => h) (fun _ => q_move hT rfl) ?_; clear hT; intro a hT
    refine d_pure (i := 1) hT #[true, true, false, false, false, false, false, false, false, false, false, false, false, false, false, false] rfl (by kernel_rfl) rfl rfl (by decide) (fun _ _ _ h => h) (fun _ => q_move hT rfl) ?_; clear hT; intro a hT
    refine d_pure (i := 2) hT #[true, true, true, false, false, false, false, false, false, false, false, false, false, false, false, false] rfl (by kernel_rfl) rfl rfl (by decide) (fun _ _ _ h => h) (fun _ => q_move hT rfl) ?_; clear hT; intro a hT
    refine d_pure (i := 3) hT #[true, true, true, true, false, false, false, false, false, false, false, false, false, false, false, false] rfl (by kernel_rfl) rfl rfl (by decide) (fun _ _ _ h => h) (fun _ => q_nilCheck hT rfl) ?_; clear hT; intro a hT
    refine d_pure (i := 4) hT #[true, true, true, true, true, false, false, false, false, false, false, false, false, false, false, false] rfl (by kernel_rfl) rfl rfl (by decide) (fun _ _ _ h => h) (fun _ => q_fieldAddr hT rfl Tryd.fld98_3 rfl) ?_; clear hT; intro a hT
    refine d_pure (i := 6) hT #[true, true, true, true, true, false, true, false, false, false, false, false, false, false, false, false] rfl (by kernel_rfl) rfl rfl (by decide) (fun _ _ _ h => h) (fun _ => q_move hT rfl) ?_; clear hT; intro a hT
    refine d_pure (i := 7) hT #[true, true, true, true, true, false, true, true, false, false, false, false, false, false, false, false] rfl (by kernel_rfl) rfl rfl (by decide) (fun _ _ _ h => h) (fun _ => q_nilCheck hT rfl) ?_; clear hT; intro a hT
    refine d_pure (i := 8) hT #[true, true, true, true, true, false, true, true, true, false, false, false, false, false, false, false] rfl (by kernel_rfl) rfl rfl (by decide) (fun _ _ _ h => h) (fun _ => q_fieldAddr hT rfl Tryd.fld98_2 rfl) ?_; clear hT; intro a hT
    refine d_take (i := 5) hT #[true, true, true, true, true, true, true, true, true, false, false, false, false, false, false, false] rfl (by kernel_rfl) rfl rfl (by decide) (fun _ _ _ h => h) (fun _ hs => q_load hT rfl Tryd.ty63 (Rd.ext (hR.rd 0 rfl 100 (ds := [(Value.pointer none)]) rfl) hs)) hS ?_; clear hT; intro a hT
    refine d_take (i := 9) hT #[true, true, true, true, true, true, true, true, true, true, false, false, false, false, false, false] rfl (by kernel_rfl) rfl rfl (by decide) (fun _ _ _ h => h) (fun _ hs => q_load hT rfl Tryd.ty63 (Rd.ext (hR.rd 0 rfl 99 (ds := [(vp b3 0)]) rfl) hs)) hS ?_; clear hT; intro a hT
    refine d_pure (i := 10) hT #[true, true, true, true, true, true, true, true, true, true, true, false, false, false, false, false] rfl (by kernel_rfl) rfl rfl (by decide) (fun _ _ _ h => h) (fun _ => q_nilCheck hT rfl) ?_; clear hT; intro a hT
    refine d_pure (i := 11) hT #[true, true, true, true, true, true, true, true, true, true, true, true, false, false, false, false] rfl (by kernel_rfl) rfl rfl (by decide) (fun _ _ _ h => h) (fun _ => q_fieldAddr hT rfl Tryd.fld98_2 rfl) ?_; clear hT; intro a hT
    refine d_one (i := 12) hT #[true, true, true, true, true, true, true, true, true, true, true, true, true, false, false, false] rfl (by kernel_rfl) rfl ?_
    refine w_store hT hL 0 (c := [(v32 0), (Value.int .i32 0), (v32 0)] ++ (digC Dig.zero ++ (digC Dig.zero ++ (digC Dig.zero ++ ([(vp b3 0), (Value.pointer none)]))))) rfl rfl Tryd.ty63 rfl (vs := [(Value.pointer none)]) rfl rfl (by first | decide | (simp [arr32_len, arr8_len, digC_len]; done) | (simp [arr32_len, arr8_len, digC_len]; omega)) rfl (c' := [(v32 0), (Value.int .i32 0), (v32 0)] ++ (digC Dig.zero ++ (digC Dig.zero ++ (digC Dig.zero ++ ([(Value.pointer none), (Value.pointer none)]))))) rfl ?_; clear hL; intro w11 hL hE
    replace hL : Vg.Loc (keys [(KT.leaf b old).ents 98]) w0 w11 ([[(b4, ob ([(v32 0), (Value.int .i32 0), (v32 0)] ++ (digC Dig.zero ++ (digC Dig.zero ++ (digC Dig.zero ++ ([(Value.pointer none), (Value.pointer none)]))))) 98)], [(b3, ob ([(v32 0), (Value.int .i32 0), (v32 0)] ++ (digC Dig.zero ++ (digC old.p ++ (digC old.v ++ ([(Value.pointer none), (Value.pointer none)]))))) 98)], [(b2, ob (digC old.p ++ (digC old.v)) 36)], [(b1, ob (digC l.p ++ (digC l.v)) 36)], [(b, ob ([(v32 0), (Value.int .i32 0), (v32 0)] ++ (digC Dig.zero ++ (digC old.p ++ (digC old.v ++ ([(Value.pointer none), (Value.pointer none)]))))) 98)]]) := hL
    refine ⟨fun hn => absurd (by decide) hn, ?_⟩
    refine d_pure (i := 13) hT #[true, true, true, true, true, true, true, true, true, true, true, true, true, true, false, false] rfl (by kernel_rfl) rfl rfl (by decide) (fun _ _ _ h => h) (fun _ => q_nilCheck hT rfl) ?_; clear hT; intro a hT
    refine d_pure (i := 14) hT #[true, true, true, true, true, true, true, true, true, true, true, true, true, true, true, false] rfl (by kernel_rfl) rfl rfl (by decide) (fun _ _ _ h => h) (fun _ => q_fieldAddr hT rfl Tryd.fld98_3 rfl) ?_; clear hT; intro a hT
    refine d_one (i := 15) hT #[true, true, true, true, true, true, true, true, true, true, true, true, true, true, true, true] rfl (by kernel_rfl) rfl ?_
    refine w_store hT hL 0 (c := [(v32 0), (Value.int .i32 0), (v32 0)] ++ (digC Dig.zero ++ (digC Dig.zero ++ (digC Dig.zero ++ ([(Value.pointer none), (Value.pointer none)]))))) rfl rfl Tryd.ty63 rfl (vs := [(vp b3 0)]) rfl rfl (by first | decide | (simp [arr32_len, arr8_len, digC_len]; done) | (simp [arr32_len, arr8_len, digC_len]; omega)) rfl (c' := [(v32 0), (Value.int .i32 0), (v32 0)] ++ (digC Dig.zero ++ (digC Dig.zero ++ (digC Dig.zero ++ ([(Value.pointer none), (vp b3 0)]))))) rfl ?_; clear hL; intro w12 hL hE
    replace hL : Vg.Loc (keys [(KT.leaf b old).ents 98]) w0 w12 ([[(b4, ob ([(v32 0), (Value.int .i32 0), (v32 0)] ++ (digC Dig.zero ++ (digC Dig.zero ++ (digC Dig.zero ++ ([(Value.pointer none), (vp b3 0)]))))) 98)], [(b3, ob ([(v32 0), (Value.int .i32 0), (v32 0)] ++ (digC Dig.zero ++ (digC old.p ++ (digC old.v ++ ([(Value.pointer none), (Value.pointer none)]))))) 98)], [(b2, ob (digC old.p ++ (digC old.v)) 36)], [(b1, ob (digC l.p ++ (digC l.v)) 36)], [(b, ob ([(v32 0), (Value.int .i32 0), (v32 0)] ++ (digC Dig.zero ++ (digC old.p ++ (digC old.v ++ ([(Value.pointer none), (Value.pointer none)]))))) 98)]]) := hL
    refine ⟨fun hn => absurd (by decide) hn, ?_⟩
    refine d_done (by kernel_rfl) ?_; clear hR hS
    refine blk_norm ?_
    refine then_norm ?_
    refine c_seq ?_
    refine d_start' hL #[false, false, false, false, false, false, false, false, false, false, false] [] rfl rfl rfl ?_; clear hL; intro w13 hL hE; have hR := hL; have hS := Ext.refl w13
    refine d_pure (i := 0) hT #[true, false, false, false, false, false, false, false, false, false, false] rfl (by kernel_rfl) rfl rfl (by decide) (fun _ _ _ h => h) (fun _ => q_move hT rfl) ?_; clear hT; intro a hT
    refine d_pure (i := 1) hT #[true, true, false, false, false, false, false, false, false, false, false] rfl (by kernel_rfl) rfl rfl (by decide) (fun _ _ _ h => h) (fun _ => q_nilCheck hT rfl) ?_; clear hT; intro a hT
    refine d_pure (i := 2) hT #[true, true, true, false, false, false, false, false, false, false, false] rfl (by kernel_rfl) rfl rfl (by decide) (fun _ _ _ h => h) (fun _ => q_fieldAddr hT rfl Tryd.fld98_2 rfl) ?_; clear hT; intro a hT
    refine d_pure (i := 4) hT #[true, true, true, false, true, false, false, false, false, false, false] rfl (by kernel_rfl) rfl rfl (by decide) (fun _ _ _ h => h) (fun _ => q_move hT rfl) ?_; clear hT; intro a hT
    refine d_pure (i := 5) hT #[true, true, true, false, true, true, false, false, false, false, false] rfl (by kernel_rfl) rfl rfl (by decide) (fun _ _ _ h => h) (fun _ => q_nilCheck hT rfl) ?_; clear hT; intro a hT
    refine d_pure (i := 6) hT #[true, true, true, false, true, true, true, false, false, false, false] rfl (by kernel_rfl) rfl rfl (by decide) (fun _ _ _ h => h) (fun _ => q_fieldAddr hT rfl Tryd.fld98_3 rfl) ?_; clear hT; intro a hT
    refine d_take (i := 3) hT #[true, true, true, true, true, true, true, false, false, false, false] rfl (by kernel_rfl) rfl rfl (by decide) (fun _ _ _ h => h) (fun _ hs => q_load hT rfl Tryd.ty63 (Rd.ext (hR.rd 0 rfl 99 (ds := [(Value.pointer none)]) rfl) hs)) hS ?_; clear hT; intro a hT
    refine d_take (i := 7) hT #[true, true, true, true, true, true, true, true, false, false, false] rfl (by kernel_rfl) rfl rfl (by decide) (fun _ _ _ h => h) (fun _ hs => q_load hT rfl Tryd.ty63 (Rd.ext (hR.rd 0 rfl 100 (ds := [(vp b3 0)]) rfl) hs)) hS ?_; clear hT; intro a hT
    refine d_pure (i := 8) hT #[true, true, true, true, true, true, true, true, true, false, false] rfl (by kernel_rfl) rfl rfl (by decide) (fun _ _ _ h => h) (fun _ => q_build (ps := [(2, .tmp 64), (3, .tmp 68)]) (pv := [(2, (Value.pointer none)), (3, (vp b3 0))]) (v := .agg ([(v32 0), (Value.int .i32 0), (v32 0)] ++ (digC Dig.zero ++ (digC Dig.zero ++ (digC Dig.zero ++ ([(Value.pointer none), (vp b3 0)]))))).toArray) hT rfl (fun _ => by kernel_rfl)) ?_; clear hT; intro a hT
    refine d_one (i := 9) hT #[true, true, true, true, true, true, true, true, true, true, false] rfl (by kernel_rfl) rfl ?_
    refine w_box hT hL (by decide) rfl (c := [(v32 0), (Value.int .i32 0), (v32 0)] ++ (digC Dig.zero ++ (digC Dig.zero ++ (digC Dig.zero ++ ([(Value.pointer none), (vp b3 0)]))))) rfl ?_; clear hT hL; intro b5 a w14 hT hL hE hB
    replace hS := Vg.Loc.ext hS hE; refine ⟨fun _ => hS, ?_⟩
    refine d_pure (i := 10) hT #[true, true, true, true, true, true, true, true, true, true, true] rfl (by kernel_rfl) rfl rfl (by decide) (fun _ _ _ h => h) (fun _ => q_assign hT rfl) ?_; clear hT; intro a hT
    refine d_done (by kernel_rfl) ?_; clear hR hS
    refine then_norm ?_
    refine c_seq ?_
    refine c_seq ?_
    refine c_region ?_
    refine l_q hT (q_fieldAddr hT rfl Tryd.fld36_0 rfl) rfl rfl (by decide) ?_; clear hT; intro a hT
    refine l_q hT (q_load_agg hT rfl Tryd.ty24 (hL.rd 4 rfl 0 (ds := digC l.p) rfl) rfl) rfl rfl (by decide) ?_; clear hT; intro a hT
    refine l_q hT (q_move hT rfl) rfl rfl (by decide) ?_; clear hT; intro a hT
    refine l_do rfl ?_
    refine w_callT (xs := [.tmp 72, .tmp 73]) hT rfl (vs := [(Value.agg (digC l.p).toArray), (vI (n : Int))]) rfl (args := #[(Value.agg (digC l.p).toArray), (vI (n : Int))]) rfl Tryd.func46 rfl rfl (by decide) ((sright_spec l.p n (by omega) _).mono ?_)
    rintro e w15 ⟨rfl, hX⟩
    refine ⟨_, rfl, ?_⟩; clear hT; intro a hT; replace hT : Tm 98 a ((74, (Value.bool (l.p.bit n))) :: _) := hT
    replace hL := hL.ext hX
    refine l_end ?_
    refine then_norm ?_
    refine c_if hT rfl (fun hc2 => ?_) (fun hc2 => ?_)
    · skip
      refine d_start' hL #[false, false, false, false, false, false, false, false, false, false, false, false] [8, 11] rfl rfl rfl ?_; clear hL; intro w16 hL hE; have hR := hL; have hS := Ext.refl w16
      refine d_pure (i := 0) hT #[true, false, false, false, false, false, false, false, false, false, false, false] rfl (by kernel_rfl) rfl rfl (by decide) (fun _ _ _ h => h) (fun _ => q_move hT rfl) ?_; clear hT; intro a hT
      refine d_pure (i := 1) hT #[true, true, false, false, false, false, false, false, false, false, false, false] rfl (by kernel_rfl) rfl rfl (by decide) (fun _ _ _ h => h) (fun _ => q_move hT rfl) ?_; clear hT; intro a hT
      refine d_pure (i := 2) hT #[true, true, true, false, false, false, false, false, false, false, false, false] rfl (by kernel_rfl) rfl rfl (by decide) (fun _ _ _ h => h) (fun _ => q_nilCheck hT rfl) ?_; clear hT; intro a hT
      refine d_pure (i := 3) hT #[true, true, true, true, false, false, false, false, false, false, false, false] rfl (by kernel_rfl) rfl rfl (by decide) (fun _ _ _ h => h) (fun _ => q_fieldAddr hT rfl Tryd.fld98_3 rfl) ?_; clear hT; intro a hT
      refine d_pure (i := 6) hT #[true, true, true, true, false, false, true, false, false, false, false, false] rfl (by kernel_rfl) rfl rfl (by decide) (fun _ _ _ h => h) (fun _ => q_move hT rfl) ?_; clear hT; intro a hT
      refine d_pure (i := 7) hT #[true, true, true, true, false, false, true, true, false, false, false, false] rfl (by kernel_rfl) rfl rfl (by decide) (fun _ _ _ h => h) (fun _ => (q_addI hT rfl rfl (r := (n : Int) + 1) rfl (by omega) (by omega)).v (v := (vI ((n + 1 : Nat) : Int))) (rfl)) ?_; clear hT; intro a hT
      refine d_take (i := 4) hT #[true, true, true, true, true, false, true, true, false, false, false, false] rfl (by kernel_rfl) rfl rfl (by decide) (fun _ _ _ h => h) (fun _ hs => q_load hT rfl Tryd.ty63 (Rd.ext (hR.rd 0 rfl 100 (ds := [(vp b3 0)]) rfl) hs)) hS ?_; clear hT; intro a hT
      refine d_take (i := 5) hT #[true, true, true, true, true, true, true, true, false, false, false, false] rfl (by kernel_rfl) rfl rfl (by decide) (fun _ _ _ h => h) (fun _ hs => q_load_agg hT rfl Tryd.ty36 (Rd.ext (hR.rd 4 rfl 0 (ds := digC l.p ++ (digC l.v)) rfl) hs) rfl) hS ?_; clear hT; intro a hT
      refine d_one (i := 8) hT #[true, true, true, true, true, true, true, true, true, false, false, false] rfl (by kernel_rfl) rfl ?_
      replace hL : Vg.Loc (keys [(KT.leaf b old).ents 98]) w0 w16 ([[(b3, ob ([(v32 0), (Value.int .i32 0), (v32 0)] ++ (digC Dig.zero ++ (digC old.p ++ (digC old.v ++ ([(Value.pointer none), (Value.pointer none)]))))) 98)], [(b5, ob ([(v32 0), (Value.int .i32 0), (v32 0)] ++ (digC Dig.zero ++ (digC Dig.zero ++ (digC Dig.zero ++ ([(Value.pointer none), (vp b3 0)]))))) 98)], [(b4, ob ([(v32 0), (Value.int .i32 0), (v32 0)] ++ (digC Dig.zero ++ (digC Dig.zero ++ (digC Dig.zero ++ ([(Value.pointer none), (vp b3 0)]))))) 98)], [(b2, ob (digC old.p ++ (digC old.v)) 36)], [(b1, ob (digC l.p ++ (digC l.v)) 36)], [(b, ob ([(v32 0), (Value.int .i32 0), (v32 0)] ++ (digC Dig.zero ++ (digC old.p ++ (digC old.v ++ ([(Value.pointer none), (Value.pointer none)]))))) 98)]]) := hL.front 2 rfl rfl
      refine w_callT (xs := [.tmp 79, .tmp 80, .tmp 82]) hT rfl (vs := [(vp b3 0), (Value.agg (digC l.p ++ (digC l.v)).toArray), (vI ((n + 1 : Nat) : Int))]) rfl (args := #[(vp b3 0), (Value.agg (digC l.p ++ (digC l.v)).toArray), (vI ((n + 1 : Nat) : Int))]) rfl Tryd.func32 rfl rfl (by decide) ((ih (KT.leaf b3 old) l [old] _ (by simp [Rep]) (by have := hg.ones; simpa [onesL, *] using this) (Vg.Loc.self (cs := [(KT.leaf b3 old).ents 98]) hL)).mono ?_)
      rintro e w17 ⟨t1, rfl, hX, hrep1⟩
      refine ⟨_, rfl, ?_⟩; clear hT; intro a hT; replace hT : Tm 98 a ((83, (Value.pointer t1.ad)) :: _) := hT
      replace hL : Vg.Loc (keys [(KT.leaf b old).ents 98]) w0 w17 ([t1.ents 98, [(b5, ob ([(v32 0), (Value.int .i32 0), (v32 0)] ++ (digC Dig.zero ++ (digC Dig.zero ++ (digC Dig.zero ++ ([(Value.pointer none), (vp b3 0)]))))) 98)], [(b4, ob ([(v32 0), (Value.int .i32 0), (v32 0)] ++ (digC Dig.zero ++ (digC Dig.zero ++ (digC Dig.zero ++ ([(Value.pointer none), (vp b3 0)]))))) 98)], [(b2, ob (digC old.p ++ (digC old.v)) 36)], [(b1, ob (digC l.p ++ (digC l.v)) 36)], [(b, ob ([(v32 0), (Value.int .i32 0), (v32 0)] ++ (digC Dig.zero ++ (digC old.p ++ (digC old.v ++ ([(Value.pointer none), (Value.pointer none)]))))) 98)]]) := Vg.Loc.call (ci := [[(b3, ob ([(v32 0), (Value.int .i32 0), (v32 0)] ++ (digC Dig.zero ++ (digC old.p ++ (digC old.v ++ ([(Value.pointer none), (Value.pointer none)]))))) 98)]]) (cr := [[(b5, ob ([(v32 0), (Value.int .i32 0), (v32 0)] ++ (digC Dig.zero ++ (digC Dig.zero ++ (digC Dig.zero ++ ([(Value.pointer none), (vp b3 0)]))))) 98)], [(b4, ob ([(v32 0), (Value.int .i32 0), (v32 0)] ++ (digC Dig.zero ++ (digC Dig.zero ++ (digC Dig.zero ++ ([(Value.pointer none), (vp b3 0)]))))) 98)], [(b2, ob (digC old.p ++ (digC old.v)) 36)], [(b1, ob (digC l.p ++ (digC l.v)) 36)], [(b, ob ([(v32 0), (Value.int .i32 0), (v32 0)] ++ (digC Dig.zero ++ (digC old.p ++ (digC old.v ++ ([(Value.pointer none), (Value.pointer none)]))))) 98)]]) hL hX
      refine ⟨fun hn => absurd (by decide) hn, ?_⟩
      refine d_pure (i := 9) hT #[true, true, true, true, true, true, true, true, true, true, false, false] rfl (by kernel_rfl) rfl rfl (by decide) (fun _ _ _ h => h) (fun _ => q_nilCheck hT rfl) ?_; clear hT; intro a hT
      refine d_pure (i := 10) hT #[true, true, true, true, true, true, true, true, true, true, true, false] rfl (by kernel_rfl) rfl rfl (by decide) (fun _ _ _ h => h) (fun _ => q_fieldAddr hT rfl Tryd.fld98_3 rfl) ?_; clear hT; intro a hT
      refine d_one (i := 11) hT #[true, true, true, true, true, true, true, true, true, true, true, true] rfl (by kernel_rfl) rfl ?_
      refine w_store hT hL 1 (c := [(v32 0), (Value.int .i32 0), (v32 0)] ++ (digC Dig.zero ++ (digC Dig.zero ++ (digC Dig.zero ++ ([(Value.pointer none), (vp b3 0)]))))) rfl rfl Tryd.ty63 rfl (vs := [(Value.pointer t1.ad)]) rfl rfl (by first | decide | (simp [arr32_len, arr8_len, digC_len]; done) | (simp [arr32_len, arr8_len, digC_len]; omega)) rfl (c' := [(v32 0), (Value.int .i32 0), (v32 0)] ++ (digC Dig.zero ++ (digC Dig.zero ++ (digC Dig.zero ++ ([(Value.pointer none), (Value.pointer t1.ad)]))))) rfl ?_; clear hL; intro w18 hL hE
      replace hL : Vg.Loc (keys [(KT.leaf b old).ents 98]) w0 w18 ([t1.ents 98, [(b5, ob ([(v32 0), (Value.int .i32 0), (v32 0)] ++ (digC Dig.zero ++ (digC Dig.zero ++ (digC Dig.zero ++ ([(Value.pointer none), (Value.pointer t1.ad)]))))) 98)], [(b4, ob ([(v32 0), (Value.int .i32 0), (v32 0)] ++ (digC Dig.zero ++ (digC Dig.zero ++ (digC Dig.zero ++ ([(Value.pointer none), (vp b3 0)]))))) 98)], [(b2, ob (digC old.p ++ (digC old.v)) 36)], [(b1, ob (digC l.p ++ (digC l.v)) 36)], [(b, ob ([(v32 0), (Value.int .i32 0), (v32 0)] ++ (digC Dig.zero ++ (digC old.p ++ (digC old.v ++ ([(Value.pointer none), (Value.pointer none)]))))) 98)]]) := hL
      refine ⟨fun hn => absurd (by decide) hn, ?_⟩
      refine d_done (by kernel_rfl) ?_; clear hR hS
      refine then_norm ?_
      refine c_seq ?_
      refine c_region ?_
      refine l_q hT (q_move hT rfl) rfl rfl (by decide) ?_; clear hT; intro a hT
      refine l_q hT (q_assign hT rfl) rfl rfl (by decide) ?_; clear hT; intro a hT
      refine l_end ?_
      refine then_norm ?_
      refine wp_ret ?_
      refine c_ret (vs := [(vp b5 0)]) (rs := [.tmp 6]) hT rfl (.tmp rfl .nil) ?_
      replace hL : Vg.Loc (keys [(KT.leaf b old).ents 98]) w0 w18 ([[(b5, ob ([(v32 0), (Value.int .i32 0), (v32 0)] ++ (digC Dig.zero ++ (digC Dig.zero ++ (digC Dig.zero ++ ([(Value.pointer none), (Value.pointer t1.ad)]))))) 98)], t1.ents 98, [(b4, ob ([(v32 0), (Value.int .i32 0), (v32 0)] ++ (digC Dig.zero ++ (digC Dig.zero ++ (digC Dig.zero ++ ([(Value.pointer none), (vp b3 0)]))))) 98)], [(b2, ob (digC old.p ++ (digC old.v)) 36)], [(b1, ob (digC l.p ++ (digC l.v)) 36)], [(b, ob ([(v32 0), (Value.int .i32 0), (v32 0)] ++ (digC Dig.zero ++ (digC old.p ++ (digC old.v ++ ([(Value.pointer none), (Value.pointer none)]))))) 98)]]) := hL.front 1 rfl rfl
      replace hL : Vg.Loc (keys [(KT.leaf b old).ents 98]) w0 w18 ([[(b5, ob ([(v32 0), (Value.int .i32 0), (v32 0)] ++ (digC Dig.zero ++ (digC Dig.zero ++ (digC Dig.zero ++ ([(Value.pointer none), (Value.pointer t1.ad)]))))) 98)], t1.ents 98]) := hL.sub (.cons_cons _ (.cons_cons _ (.cons _ (.cons _ (.cons _ (.cons _ .slnil))))))
      refine ⟨(KT.node b5 KT.nil t1), rfl, hL.join (by simp [KT.ents, knotC, KT.ad, noLeaf]), ?_⟩
      simp_all [Rep, zerosL, onesL]
    · skip
      refine d_start' hL #[false, false, false, false, false, false, false, false, false, false, false, false] [8, 11] rfl rfl rfl ?_; clear hL; intro w19 hL hE; have hR := hL; have hS := Ext.refl w19
      refine d_pure (i := 0) hT #[true, false, false, false, false, false, false, false, false, false, false, false] rfl (by kernel_rfl) rfl rfl (by decide) (fun _ _ _ h => h) (fun _ => q_move hT rfl) ?_; clear hT; intro a hT
      refine d_pure (i := 1) hT #[true, true, false, false, false, false, false, false, false, false, false, false] rfl (by kernel_rfl) rfl rfl (by decide) (fun _ _ _ h => h) (fun _ => q_move hT rfl) ?_; clear hT; intro a hT
      refine d_pure (i := 2) hT #[true, true, true, false, false, false, false, false, false, false, false, false] rfl (by kernel_rfl) rfl rfl (by decide) (fun _ _ _ h => h) (fun _ => q_nilCheck hT rfl) ?_; clear hT; intro a hT
      refine d_pure (i := 3) hT #[true, true, true, true, false, false, false, false, false, false, false, false] rfl (by kernel_rfl) rfl rfl (by decide) (fun _ _ _ h => h) (fun _ => q_fieldAddr hT rfl Tryd.fld98_2 rfl) ?_; clear hT; intro a hT
      refine d_pure (i := 6) hT #[true, true, true, true, false, false, true, false, false, false, false, false] rfl (by kernel_rfl) rfl rfl (by decide) (fun _ _ _ h => h) (fun _ => q_move hT rfl) ?_; clear hT; intro a hT
      refine d_pure (i := 7) hT #[true, true, true, true, false, false, true, true, false, false, false, false] rfl (by kernel_rfl) rfl rfl (by decide) (fun _ _ _ h => h) (fun _ => (q_addI hT rfl rfl (r := (n : Int) + 1) rfl (by omega) (by omega)).v (v := (vI ((n + 1 : Nat) : Int))) (rfl)) ?_; clear hT; intro a hT
      refine d_take (i := 4) hT #[true, true, true, true, true, false, true, true, false, false, false, false] rfl (by kernel_rfl) rfl rfl (by decide) (fun _ _ _ h => h) (fun _ hs => q_load hT rfl Tryd.ty63 (Rd.ext (hR.rd 0 rfl 99 (ds := [(Value.pointer none)]) rfl) hs)) hS ?_; clear hT; intro a hT
      refine d_take (i := 5) hT #[true, true, true, true, true, true, true, true, false, false, false, false] rfl (by kernel_rfl) rfl rfl (by decide) (fun _ _ _ h => h) (fun _ hs => q_load_agg hT rfl Tryd.ty36 (Rd.ext (hR.rd 4 rfl 0 (ds := digC l.p ++ (digC l.v)) rfl) hs) rfl) hS ?_; clear hT; intro a hT
      refine d_one (i := 8) hT #[true, true, true, true, true, true, true, true, true, false, false, false] rfl (by kernel_rfl) rfl ?_
      refine w_callT (xs := [.tmp 90, .tmp 91, .tmp 93]) hT rfl (vs := [(Value.pointer none), (Value.agg (digC l.p ++ (digC l.v)).toArray), (vI ((n + 1 : Nat) : Int))]) rfl (args := #[(Value.pointer none), (Value.agg (digC l.p ++ (digC l.v)).toArray), (vI ((n + 1 : Nat) : Int))]) rfl Tryd.func32 rfl rfl (by decide) ((with_nil l ((n + 1 : Nat) : Int) _).mono ?_)
      rintro e w20 ⟨bl1, rfl, hX⟩
      refine ⟨_, rfl, ?_⟩; clear hT; intro a hT; replace hT : Tm 98 a ((94, (vp bl1 0)) :: _) := hT
      replace hL : Vg.Loc (keys [(KT.leaf b old).ents 98]) w0 w20 ([[(bl1, ob ([(v32 0), (Value.int .i32 0), (v32 0)] ++ (digC Dig.zero ++ (digC l.p ++ (digC l.v ++ ([(Value.pointer none), (Value.pointer none)]))))) 98)], [(b5, ob ([(v32 0), (Value.int .i32 0), (v32 0)] ++ (digC Dig.zero ++ (digC Dig.zero ++ (digC Dig.zero ++ ([(Value.pointer none), (vp b3 0)]))))) 98)], [(b4, ob ([(v32 0), (Value.int .i32 0), (v32 0)] ++ (digC Dig.zero ++ (digC Dig.zero ++ (digC Dig.zero ++ ([(Value.pointer none), (vp b3 0)]))))) 98)], [(b3, ob ([(v32 0), (Value.int .i32 0), (v32 0)] ++ (digC Dig.zero ++ (digC old.p ++ (digC old.v ++ ([(Value.pointer none), (Value.pointer none)]))))) 98)], [(b2, ob (digC old.p ++ (digC old.v)) 36)], [(b1, ob (digC l.p ++ (digC l.v)) 36)], [(b, ob ([(v32 0), (Value.int .i32 0), (v32 0)] ++ (digC Dig.zero ++ (digC old.p ++ (digC old.v ++ ([(Value.pointer none), (Value.pointer none)]))))) 98)]]) := hL.exts hX
      refine ⟨fun hn => absurd (by decide) hn, ?_⟩
      refine d_pure (i := 9) hT #[true, true, true, true, true, true, true, true, true, true, false, false] rfl (by kernel_rfl) rfl rfl (by decide) (fun _ _ _ h => h) (fun _ => q_nilCheck hT rfl) ?_; clear hT; intro a hT
      refine d_pure (i := 10) hT #[true, true, true, true, true, true, true, true, true, true, true, false] rfl (by kernel_rfl) rfl rfl (by decide) (fun _ _ _ h => h) (fun _ => q_fieldAddr hT rfl Tryd.fld98_2 rfl) ?_; clear hT; intro a hT
      refine d_one (i := 11) hT #[true, true, true, true, true, true, true, true, true, true, true, true] rfl (by kernel_rfl) rfl ?_
      refine w_store hT hL 1 (c := [(v32 0), (Value.int .i32 0), (v32 0)] ++ (digC Dig.zero ++ (digC Dig.zero ++ (digC Dig.zero ++ ([(Value.pointer none), (vp b3 0)]))))) rfl rfl Tryd.ty63 rfl (vs := [(vp bl1 0)]) rfl rfl (by first | decide | (simp [arr32_len, arr8_len, digC_len]; done) | (simp [arr32_len, arr8_len, digC_len]; omega)) rfl (c' := [(v32 0), (Value.int .i32 0), (v32 0)] ++ (digC Dig.zero ++ (digC Dig.zero ++ (digC Dig.zero ++ ([(vp bl1 0), (vp b3 0)]))))) rfl ?_; clear hL; intro w21 hL hE
      replace hL : Vg.Loc (keys [(KT.leaf b old).ents 98]) w0 w21 ([[(bl1, ob ([(v32 0), (Value.int .i32 0), (v32 0)] ++ (digC Dig.zero ++ (digC l.p ++ (digC l.v ++ ([(Value.pointer none), (Value.pointer none)]))))) 98)], [(b5, ob ([(v32 0), (Value.int .i32 0), (v32 0)] ++ (digC Dig.zero ++ (digC Dig.zero ++ (digC Dig.zero ++ ([(vp bl1 0), (vp b3 0)]))))) 98)], [(b4, ob ([(v32 0), (Value.int .i32 0), (v32 0)] ++ (digC Dig.zero ++ (digC Dig.zero ++ (digC Dig.zero ++ ([(Value.pointer none), (vp b3 0)]))))) 98)], [(b3, ob ([(v32 0), (Value.int .i32 0), (v32 0)] ++ (digC Dig.zero ++ (digC old.p ++ (digC old.v ++ ([(Value.pointer none), (Value.pointer none)]))))) 98)], [(b2, ob (digC old.p ++ (digC old.v)) 36)], [(b1, ob (digC l.p ++ (digC l.v)) 36)], [(b, ob ([(v32 0), (Value.int .i32 0), (v32 0)] ++ (digC Dig.zero ++ (digC old.p ++ (digC old.v ++ ([(Value.pointer none), (Value.pointer none)]))))) 98)]]) := hL
      refine ⟨fun hn => absurd (by decide) hn, ?_⟩
      refine d_done (by kernel_rfl) ?_; clear hR hS
      refine then_norm ?_
      refine c_seq ?_
      refine c_region ?_
      refine l_q hT (q_move hT rfl) rfl rfl (by decide) ?_; clear hT; intro a hT
      refine l_q hT (q_assign hT rfl) rfl rfl (by decide) ?_; clear hT; intro a hT
      refine l_end ?_
      refine then_norm ?_
      refine wp_ret ?_
      refine c_ret (vs := [(vp b5 0)]) (rs := [.tmp 6]) hT rfl (.tmp rfl .nil) ?_
      replace hL : Vg.Loc (keys [(KT.leaf b old).ents 98]) w0 w21 ([[(b3, ob ([(v32 0), (Value.int .i32 0), (v32 0)] ++ (digC Dig.zero ++ (digC old.p ++ (digC old.v ++ ([(Value.pointer none), (Value.pointer none)]))))) 98)], [(bl1, ob ([(v32 0), (Value.int .i32 0), (v32 0)] ++ (digC Dig.zero ++ (digC l.p ++ (digC l.v ++ ([(Value.pointer none), (Value.pointer none)]))))) 98)], [(b5, ob ([(v32 0), (Value.int .i32 0), (v32 0)] ++ (digC Dig.zero ++ (digC Dig.zero ++ (digC Dig.zero ++ ([(vp bl1 0), (vp b3 0)]))))) 98)], [(b4, ob ([(v32 0), (Value.int .i32 0), (v32 0)] ++ (digC Dig.zero ++ (digC Dig.zero ++ (digC Dig.zero ++ ([(Value.pointer none), (vp b3 0)]))))) 98)], [(b2, ob (digC old.p ++ (digC old.v)) 36)], [(b1, ob (digC l.p ++ (digC l.v)) 36)], [(b, ob ([(v32 0), (Value.int .i32 0), (v32 0)] ++ (digC Dig.zero ++ (digC old.p ++ (digC old.v ++ ([(Value.pointer none), (Value.pointer none)]))))) 98)]]) := hL.front 3 rfl rfl
      replace hL : Vg.Loc (keys [(KT.leaf b old).ents 98]) w0 w21 ([[(bl1, ob ([(v32 0), (Value.int .i32 0), (v32 0)] ++ (digC Dig.zero ++ (digC l.p ++ (digC l.v ++ ([(Value.pointer none), (Value.pointer none)]))))) 98)], [(b3, ob ([(v32 0), (Value.int .i32 0), (v32 0)] ++ (digC Dig.zero ++ (digC old.p ++ (digC old.v ++ ([(Value.pointer none), (Value.pointer none)]))))) 98)], [(b5, ob ([(v32 0), (Value.int .i32 0), (v32 0)] ++ (digC Dig.zero ++ (digC Dig.zero ++ (digC Dig.zero ++ ([(vp bl1 0), (vp b3 0)]))))) 98)], [(b4, ob ([(v32 0), (Value.int .i32 0), (v32 0)] ++ (digC Dig.zero ++ (digC Dig.zero ++ (digC Dig.zero ++ ([(Value.pointer none), (vp b3 0)]))))) 98)], [(b2, ob (digC old.p ++ (digC old.v)) 36)], [(b1, ob (digC l.p ++ (digC l.v)) 36)], [(b, ob ([(v32 0), (Value.int .i32 0), (v32 0)] ++ (digC Dig.zero ++ (digC old.p ++ (digC old.v ++ ([(Value.pointer none), (Value.pointer none)]))))) 98)]]) := hL.front 1 rfl rfl
      replace hL : Vg.Loc (keys [(KT.leaf b old).ents 98]) w0 w21 ([[(b5, ob ([(v32 0), (Value.int .i32 0), (v32 0)] ++ (digC Dig.zero ++ (digC Dig.zero ++ (digC Dig.zero ++ ([(vp bl1 0), (vp b3 0)]))))) 98)], [(bl1, ob ([(v32 0), (Value.int .i32 0), (v32 0)] ++ (digC Dig.zero ++ (digC l.p ++ (digC l.v ++ ([(Value.pointer none), (Value.pointer none)]))))) 98)], [(b3, ob ([(v32 0), (Value.int .i32 0), (v32 0)] ++ (digC Dig.zero ++ (digC old.p ++ (digC old.v ++ ([(Value.pointer none), (Value.pointer none)]))))) 98)], [(b4, ob ([(v32 0), (Value.int .i32 0), (v32 0)] ++ (digC Dig.zero ++ (digC Dig.zero ++ (digC Dig.zero ++ ([(Value.pointer none), (vp b3 0)]))))) 98)], [(b2, ob (digC old.p ++ (digC old.v)) 36)], [(b1, ob (digC l.p ++ (digC l.v)) 36)], [(b, ob ([(v32 0), (Value.int .i32 0), (v32 0)] ++ (digC Dig.zero ++ (digC old.p ++ (digC old.v ++ ([(Value.pointer none), (Value.pointer none)]))))) 98)]]) := hL.front 2 rfl rfl
      replace hL : Vg.Loc (keys [(KT.leaf b old).ents 98]) w0 w21 ([[(b5, ob ([(v32 0), (Value.int .i32 0), (v32 0)] ++ (digC Dig.zero ++ (digC Dig.zero ++ (digC Dig.zero ++ ([(vp bl1 0), (vp b3 0)]))))) 98)], [(bl1, ob ([(v32 0), (Value.int .i32 0), (v32 0)] ++ (digC Dig.zero ++ (digC l.p ++ (digC l.v ++ ([(Value.pointer none), (Value.pointer none)]))))) 98)], [(b3, ob ([(v32 0), (Value.int .i32 0), (v32 0)] ++ (digC Dig.zero ++ (digC old.p ++ (digC old.v ++ ([(Value.pointer none), (Value.pointer none)]))))) 98)]]) := hL.sub (.cons_cons _ (.cons_cons _ (.cons_cons _ (.cons _ (.cons _ (.cons _ (.cons _ .slnil)))))))
      refine ⟨(KT.node b5 (KT.leaf bl1 l) (KT.leaf b3 old)), rfl, hL.join (by simp [KT.ents, knotC, KT.ad, noLeaf]), ?_⟩
      simp_all [Rep, zerosL, onesL]
  · skip
    refine wp_skip ?_
    refine blk_norm ?_
    refine then_norm ?_
    refine c_seq ?_
    refine d_start' hL #[false, false, false, false, false, false, false, false, false, false, false] [] rfl rfl rfl ?_; clear hL; intro w22 hL hE; have hR := hL; have hS := Ext.refl w22
    refine d_pure (i := 0) hT #[true, false, false, false, false, false, false, false, false, false, false] rfl (by kernel_rfl) rfl rfl (by decide) (fun _ _ _ h => h) (fun _ => q_move hT rfl) ?_; clear hT; intro a hT
    refine d_pure (i := 1) hT #[true, true, false, false, false, false, false, false, false, false, false] rfl (by kernel_rfl) rfl rfl (by decide) (fun _ _ _ h => h) (fun _ => q_nilCheck hT rfl) ?_; clear hT; intro a hT
    refine d_pure (i := 2) hT #[true, true, true, false, false, false, false, false, false, false, false] rfl (by kernel_rfl) rfl rfl (by decide) (fun _ _ _ h => h) (fun _ => q_fieldAddr hT rfl Tryd.fld98_2 rfl) ?_; clear hT; intro a hT
    refine d_pure (i := 4) hT #[true, true, true, false, true, false, false, false, false, false, false] rfl (by kernel_rfl) rfl rfl (by decide) (fun _ _ _ h => h) (fun _ => q_move hT rfl) ?_; clear hT; intro a hT
    refine d_pure (i := 5) hT #[true, true, true, false, true, true, false, false, false, false, false] rfl (by kernel_rfl) rfl rfl (by decide) (fun _ _ _ h => h) (fun _ => q_nilCheck hT rfl) ?_; clear hT; intro a hT
    refine d_pure (i := 6) hT #[true, true, true, false, true, true, true, false, false, false, false] rfl (by kernel_rfl) rfl rfl (by decide) (fun _ _ _ h => h) (fun _ => q_fieldAddr hT rfl Tryd.fld98_3 rfl) ?_; clear hT; intro a hT
    refine d_take (i := 3) hT #[true, true, true, true, true, true, true, false, false, false, false] rfl (by kernel_rfl) rfl rfl (by decide) (fun _ _ _ h => h) (fun _ hs => q_load hT rfl Tryd.ty63 (Rd.ext (hR.rd 0 rfl 99 (ds := [(vp b3 0)]) rfl) hs)) hS ?_; clear hT; intro a hT
    refine d_take (i := 7) hT #[true, true, true, true, true, true, true, true, false, false, false] rfl (by kernel_rfl) rfl rfl (by decide) (fun _ _ _ h => h) (fun _ hs => q_load hT rfl Tryd.ty63 (Rd.ext (hR.rd 0 rfl 100 (ds := [(Value.pointer none)]) rfl) hs)) hS ?_; clear hT; intro a hT
    refine d_pure (i := 8) hT #[true, true, true, true, true, true, true, true, true, false, false] rfl (by kernel_rfl) rfl rfl (by decide) (fun _ _ _ h => h) (fun _ => q_build (ps := [(2, .tmp 64), (3, .tmp 68)]) (pv := [(2, (vp b3 0)), (3, (Value.pointer none))]) (v := .agg ([(v32 0), (Value.int .i32 0), (v32 0)] ++ (digC Dig.zero ++ (digC Dig.zero ++ (digC Dig.zero ++ ([(vp b3 0), (Value.pointer none)]))))).toArray) hT rfl (fun _ => by kernel_rfl)) ?_; clear hT; intro a hT
    refine d_one (i := 9) hT #[true, true, true, true, true, true, true, true, true, true, false] rfl (by kernel_rfl) rfl ?_
    refine w_box hT hL (by decide) rfl (c := [(v32 0), (Value.int .i32 0), (v32 0)] ++ (digC Dig.zero ++ (digC Dig.zero ++ (digC Dig.zero ++ ([(vp b3 0), (Value.pointer none)]))))) rfl ?_; clear hT hL; intro b6 a w23 hT hL hE hB
    replace hS := Vg.Loc.ext hS hE; refine ⟨fun _ => hS, ?_⟩
    refine d_pure (i := 10) hT #[true, true, true, true, true, true, true, true, true, true, true] rfl (by kernel_rfl) rfl rfl (by decide) (fun _ _ _ h => h) (fun _ => q_assign hT rfl) ?_; clear hT; intro a hT
    refine d_done (by kernel_rfl) ?_; clear hR hS
    refine then_norm ?_
    refine c_seq ?_
    refine c_seq ?_
    refine c_region ?_
    refine l_q hT (q_fieldAddr hT rfl Tryd.fld36_0 rfl) rfl rfl (by decide) ?_; clear hT; intro a hT
    refine l_q hT (q_load_agg hT rfl Tryd.ty24 (hL.rd 4 rfl 0 (ds := digC l.p) rfl) rfl) rfl rfl (by decide) ?_; clear hT; intro a hT
    refine l_q hT (q_move hT rfl) rfl rfl (by decide) ?_; clear hT; intro a hT
    refine l_do rfl ?_
    refine w_callT (xs := [.tmp 72, .tmp 73]) hT rfl (vs := [(Value.agg (digC l.p).toArray), (vI (n : Int))]) rfl (args := #[(Value.agg (digC l.p).toArray), (vI (n : Int))]) rfl Tryd.func46 rfl rfl (by decide) ((sright_spec l.p n (by omega) _).mono ?_)
    rintro e w24 ⟨rfl, hX⟩
    refine ⟨_, rfl, ?_⟩; clear hT; intro a hT; replace hT : Tm 98 a ((74, (Value.bool (l.p.bit n))) :: _) := hT
    replace hL := hL.ext hX
    refine l_end ?_
    refine then_norm ?_
    refine c_if hT rfl (fun hc3 => ?_) (fun hc3 => ?_)
    · skip
      refine d_start' hL #[false, false, false, false, false, false, false, false, false, false, false, false] [8, 11] rfl rfl rfl ?_; clear hL; intro w25 hL hE; have hR := hL; have hS := Ext.refl w25
      refine d_pure (i := 0) hT #[true, false, false, false, false, false, false, false, false, false, false, false] rfl (by kernel_rfl) rfl rfl (by decide) (fun _ _ _ h => h) (fun _ => q_move hT rfl) ?_; clear hT; intro a hT
      refine d_pure (i := 1) hT #[true, true, false, false, false, false, false, false, false, false, false, false] rfl (by kernel_rfl) rfl rfl (by decide) (fun _ _ _ h => h) (fun _ => q_move hT rfl) ?_; clear hT; intro a hT
      refine d_pure (i := 2) hT #[true, true, true, false, false, false, false, false, false, false, false, false] rfl (by kernel_rfl) rfl rfl (by decide) (fun _ _ _ h => h) (fun _ => q_nilCheck hT rfl) ?_; clear hT; intro a hT
      refine d_pure (i := 3) hT #[true, true, true, true, false, false, false, false, false, false, false, false] rfl (by kernel_rfl) rfl rfl (by decide) (fun _ _ _ h => h) (fun _ => q_fieldAddr hT rfl Tryd.fld98_3 rfl) ?_; clear hT; intro a hT
      refine d_pure (i := 6) hT #[true, true, true, true, false, false, true, false, false, false, false, false] rfl (by kernel_rfl) rfl rfl (by decide) (fun _ _ _ h => h) (fun _ => q_move hT rfl) ?_; clear hT; intro a hT
      refine d_pure (i := 7) hT #[true, true, true, true, false, false, true, true, false, false, false, false] rfl (by kernel_rfl) rfl rfl (by decide) (fun _ _ _ h => h) (fun _ => (q_addI hT rfl rfl (r := (n : Int) + 1) rfl (by omega) (by omega)).v (v := (vI ((n + 1 : Nat) : Int))) (rfl)) ?_; clear hT; intro a hT
      refine d_take (i := 4) hT #[true, true, true, true, true, false, true, true, false, false, false, false] rfl (by kernel_rfl) rfl rfl (by decide) (fun _ _ _ h => h) (fun _ hs => q_load hT rfl Tryd.ty63 (Rd.ext (hR.rd 0 rfl 100 (ds := [(Value.pointer none)]) rfl) hs)) hS ?_; clear hT; intro a hT
      refine d_take (i := 5) hT #[true, true, true, true, true, true, true, true, false, false, false, false] rfl (by kernel_rfl) rfl rfl (by decide) (fun _ _ _ h => h) (fun _ hs => q_load_agg hT rfl Tryd.ty36 (Rd.ext (hR.rd 4 rfl 0 (ds := digC l.p ++ (digC l.v)) rfl) hs) rfl) hS ?_; clear hT; intro a hT
      refine d_one (i := 8) hT #[true, true, true, true, true, true, true, true, true, false, false, false] rfl (by kernel_rfl) rfl ?_
      refine w_callT (xs := [.tmp 79, .tmp 80, .tmp 82]) hT rfl (vs := [(Value.pointer none), (Value.agg (digC l.p ++ (digC l.v)).toArray), (vI ((n + 1 : Nat) : Int))]) rfl (args := #[(Value.pointer none), (Value.agg (digC l.p ++ (digC l.v)).toArray), (vI ((n + 1 : Nat) : Int))]) rfl Tryd.func32 rfl rfl (by decide) ((with_nil l ((n + 1 : Nat) : Int) _).mono ?_)
      rintro e w26 ⟨bl2, rfl, hX⟩
      refine ⟨_, rfl, ?_⟩; clear hT; intro a hT; replace hT : Tm 98 a ((83, (vp bl2 0)) :: _) := hT
      replace hL : Vg.Loc (keys [(KT.leaf b old).ents 98]) w0 w26 ([[(bl2, ob ([(v32 0), (Value.int .i32 0), (v32 0)] ++ (digC Dig.zero ++ (digC l.p ++ (digC l.v ++ ([(Value.pointer none), (Value.pointer none)]))))) 98)], [(b6, ob ([(v32 0), (Value.int .i32 0), (v32 0)] ++ (digC Dig.zero ++ (digC Dig.zero ++ (digC Dig.zero ++ ([(vp b3 0), (Value.pointer none)]))))) 98)], [(b4, ob ([(v32 0), (Value.int .i32 0), (v32 0)] ++ (digC Dig.zero ++ (digC Dig.zero ++ (digC Dig.zero ++ ([(vp b3 0), (Value.pointer none)]))))) 98)], [(b3, ob ([(v32 0), (Value.int .i32 0), (v32 0)] ++ (digC Dig.zero ++ (digC old.p ++ (digC old.v ++ ([(Value.pointer none), (Value.pointer none)]))))) 98)], [(b2, ob (digC old.p ++ (digC old.v)) 36)], [(b1, ob (digC l.p ++ (digC l.v)) 36)], [(b, ob ([(v32 0), (Value.int .i32 0), (v32 0)] ++ (digC Dig.zero ++ (digC old.p ++ (digC old.v ++ ([(Value.pointer none), (Value.pointer none)]))))) 98)]]) := hL.exts hX
      refine ⟨fun hn => absurd (by decide) hn, ?_⟩
      refine d_pure (i := 9) hT #[true, true, true, true, true, true, true, true, true, true, false, false] rfl (by kernel_rfl) rfl rfl (by decide) (fun _ _ _ h => h) (fun _ => q_nilCheck hT rfl) ?_; clear hT; intro a hT
      refine d_pure (i := 10) hT #[true, true, true, true, true, true, true, true, true, true, true, false] rfl (by kernel_rfl) rfl rfl (by decide) (fun _ _ _ h => h) (fun _ => q_fieldAddr hT rfl Tryd.fld98_3 rfl) ?_; clear hT; intro a hT
      refine d_one (i := 11) hT #[true, true, true, true, true, true, true, true, true, true, true, true] rfl (by kernel_rfl) rfl ?_
      refine w_store hT hL 1 (c := [(v32 0), (Value.int .i32 0), (v32 0)] ++ (digC Dig.zero ++ (digC Dig.zero ++ (digC Dig.zero ++ ([(vp b3 0), (Value.pointer none)]))))) rfl rfl Tryd.ty63 rfl (vs := [(vp bl2 0)]) rfl rfl (by first | decide | (simp [arr32_len, arr8_len, digC_len]; done) | (simp [arr32_len, arr8_len, digC_len]; omega)) rfl (c' := [(v32 0), (Value.int .i32 0), (v32 0)] ++ (digC Dig.zero ++ (digC Dig.zero ++ (digC Dig.zero ++ ([(vp b3 0), (vp bl2 0)]))))) rfl ?_; clear hL; intro w27 hL hE
      replace hL : Vg.Loc (keys [(KT.leaf b old).ents 98]) w0 w27 ([[(bl2, ob ([(v32 0), (Value.int .i32 0), (v32 0)] ++ (digC Dig.zero ++ (digC l.p ++ (digC l.v ++ ([(Value.pointer none), (Value.pointer none)]))))) 98)], [(b6, ob ([(v32 0), (Value.int .i32 0), (v32 0)] ++ (digC Dig.zero ++ (digC Dig.zero ++ (digC Dig.zero ++ ([(vp b3 0), (vp bl2 0)]))))) 98)], [(b4, ob ([(v32 0), (Value.int .i32 0), (v32 0)] ++ (digC Dig.zero ++ (digC Dig.zero ++ (digC Dig.zero ++ ([(vp b3 0), (Value.pointer none)]))))) 98)], [(b3, ob ([(v32 0), (Value.int .i32 0), (v32 0)] ++ (digC Dig.zero ++ (digC old.p ++ (digC old.v ++ ([(Value.pointer none), (Value.pointer none)]))))) 98)], [(b2, ob (digC old.p ++ (digC old.v)) 36)], [(b1, ob (digC l.p ++ (digC l.v)) 36)], [(b, ob ([(v32 0), (Value.int .i32 0), (v32 0)] ++ (digC Dig.zero ++ (digC old.p ++ (digC old.v ++ ([(Value.pointer none), (Value.pointer none)]))))) 98)]]) := hL
      refine ⟨fun hn => absurd (by decide) hn, ?_⟩
      refine d_done (by kernel_rfl) ?_; clear hR hS
      refine then_norm ?_
      refine c_seq ?_
      refine c_region ?_
      refine l_q hT (q_move hT rfl) rfl rfl (by decide) ?_; clear hT; intro a hT
      refine l_q hT (q_assign hT rfl) rfl rfl (by decide) ?_; clear hT; intro a hT
      refine l_end ?_
      refine then_norm ?_
      refine wp_ret ?_
      refine c_ret (vs := [(vp b6 0)]) (rs := [.tmp 6]) hT rfl (.tmp rfl .nil) ?_
      replace hL : Vg.Loc (keys [(KT.leaf b old).ents 98]) w0 w27 ([[(b3, ob ([(v32 0), (Value.int .i32 0), (v32 0)] ++ (digC Dig.zero ++ (digC old.p ++ (digC old.v ++ ([(Value.pointer none), (Value.pointer none)]))))) 98)], [(bl2, ob ([(v32 0), (Value.int .i32 0), (v32 0)] ++ (digC Dig.zero ++ (digC l.p ++ (digC l.v ++ ([(Value.pointer none), (Value.pointer none)]))))) 98)], [(b6, ob ([(v32 0), (Value.int .i32 0), (v32 0)] ++ (digC Dig.zero ++ (digC Dig.zero ++ (digC Dig.zero ++ ([(vp b3 0), (vp bl2 0)]))))) 98)], [(b4, ob ([(v32 0), (Value.int .i32 0), (v32 0)] ++ (digC Dig.zero ++ (digC Dig.zero ++ (digC Dig.zero ++ ([(vp b3 0), (Value.pointer none)]))))) 98)], [(b2, ob (digC old.p ++ (digC old.v)) 36)], [(b1, ob (digC l.p ++ (digC l.v)) 36)], [(b, ob ([(v32 0), (Value.int .i32 0), (v32 0)] ++ (digC Dig.zero ++ (digC old.p ++ (digC old.v ++ ([(Value.pointer none), (Value.pointer none)]))))) 98)]]) := hL.front 3 rfl rfl
      replace hL : Vg.Loc (keys [(KT.leaf b old).ents 98]) w0 w27 ([[(b6, ob ([(v32 0), (Value.int .i32 0), (v32 0)] ++ (digC Dig.zero ++ (digC Dig.zero ++ (digC Dig.zero ++ ([(vp b3 0), (vp bl2 0)]))))) 98)], [(b3, ob ([(v32 0), (Value.int .i32 0), (v32 0)] ++ (digC Dig.zero ++ (digC old.p ++ (digC old.v ++ ([(Value.pointer none), (Value.pointer none)]))))) 98)], [(bl2, ob ([(v32 0), (Value.int .i32 0), (v32 0)] ++ (digC Dig.zero ++ (digC l.p ++ (digC l.v ++ ([(Value.pointer none), (Value.pointer none)]))))) 98)], [(b4, ob ([(v32 0), (Value.int .i32 0), (v32 0)] ++ (digC Dig.zero ++ (digC Dig.zero ++ (digC Dig.zero ++ ([(vp b3 0), (Value.pointer none)]))))) 98)], [(b2, ob (digC old.p ++ (digC old.v)) 36)], [(b1, ob (digC l.p ++ (digC l.v)) 36)], [(b, ob ([(v32 0), (Value.int .i32 0), (v32 0)] ++ (digC Dig.zero ++ (digC old.p ++ (digC old.v ++ ([(Value.pointer none), (Value.pointer none)]))))) 98)]]) := hL.front 2 rfl rfl
      replace hL : Vg.Loc (keys [(KT.leaf b old).ents 98]) w0 w27 ([[(b6, ob ([(v32 0), (Value.int .i32 0), (v32 0)] ++ (digC Dig.zero ++ (digC Dig.zero ++ (digC Dig.zero ++ ([(vp b3 0), (vp bl2 0)]))))) 98)], [(b3, ob ([(v32 0), (Value.int .i32 0), (v32 0)] ++ (digC Dig.zero ++ (digC old.p ++ (digC old.v ++ ([(Value.pointer none), (Value.pointer none)]))))) 98)], [(bl2, ob ([(v32 0), (Value.int .i32 0), (v32 0)] ++ (digC Dig.zero ++ (digC l.p ++ (digC l.v ++ ([(Value.pointer none), (Value.pointer none)]))))) 98)]]) := hL.sub (.cons_cons _ (.cons_cons _ (.cons_cons _ (.cons _ (.cons _ (.cons _ (.cons _ .slnil)))))))
      refine ⟨(KT.node b6 (KT.leaf b3 old) (KT.leaf bl2 l)), rfl, hL.join (by simp [KT.ents, knotC, KT.ad, noLeaf]), ?_⟩
      simp_all [Rep, zerosL, onesL]
    · skip
      refine d_start' hL #[false, false, false, false, false, false, false, false, false, false, false, false] [8, 11] rfl rfl rfl ?_; clear hL; intro w28 hL hE; have hR := hL; have hS := Ext.refl w28
      refine d_pure (i := 0) hT #[true, false, false, false, false, false, false, false, false, false, false, false] rfl (by kernel_rfl) rfl rfl (by decide) (fun _ _ _ h => h) (fun _ => q_move hT rfl) ?_; clear hT; intro a hT
      refine d_pure (i := 1) hT #[true, true, false, false, false, false, false, false, false, false, false, false] rfl (by kernel_rfl) rfl rfl (by decide) (fun _ _ _ h => h) (fun _ => q_move hT rfl) ?_; clear hT; intro a hT
      refine d_pure (i := 2) hT #[true, true, true, false, false, false, false, false, false, false, false, false] rfl (by kernel_rfl) rfl rfl (by decide) (fun _ _ _ h => h) (fun _ => q_nilCheck hT rfl) ?_; clear hT; intro a hT
      refine d_pure (i := 3) hT #[true, true, true, true, false, false, false, false, false, false, false, false] rfl (by kernel_rfl) rfl rfl (by decide) (fun _ _ _ h => h) (fun _ => q_fieldAddr hT rfl Tryd.fld98_2 rfl) ?_; clear hT; intro a hT
      refine d_pure (i := 6) hT #[true, true, true, true, false, false, true, false, false, false, false, false] rfl (by kernel_rfl) rfl rfl (by decide) (fun _ _ _ h => h) (fun _ => q_move hT rfl) ?_; clear hT; intro a hT
      refine d_pure (i := 7) hT #[true, true, true, true, false, false, true, true, false, false, false, false] rfl (by kernel_rfl) rfl rfl (by decide) (fun _ _ _ h => h) (fun _ => (q_addI hT rfl rfl (r := (n : Int) + 1) rfl (by omega) (by omega)).v (v := (vI ((n + 1 : Nat) : Int))) (rfl)) ?_; clear hT; intro a hT
      refine d_take (i := 4) hT #[true, true, true, true, true, false, true, true, false, false, false, false] rfl (by kernel_rfl) rfl rfl (by decide) (fun _ _ _ h => h) (fun _ hs => q_load hT rfl Tryd.ty63 (Rd.ext (hR.rd 0 rfl 99 (ds := [(vp b3 0)]) rfl) hs)) hS ?_; clear hT; intro a hT
      refine d_take (i := 5) hT #[true, true, true, true, true, true, true, true, false, false, false, false] rfl (by kernel_rfl) rfl rfl (by decide) (fun _ _ _ h => h) (fun _ hs => q_load_agg hT rfl Tryd.ty36 (Rd.ext (hR.rd 4 rfl 0 (ds := digC l.p ++ (digC l.v)) rfl) hs) rfl) hS ?_; clear hT; intro a hT
      refine d_one (i := 8) hT #[true, true, true, true, true, true, true, true, true, false, false, false] rfl (by kernel_rfl) rfl ?_
      replace hL : Vg.Loc (keys [(KT.leaf b old).ents 98]) w0 w28 ([[(b3, ob ([(v32 0), (Value.int .i32 0), (v32 0)] ++ (digC Dig.zero ++ (digC old.p ++ (digC old.v ++ ([(Value.pointer none), (Value.pointer none)]))))) 98)], [(b6, ob ([(v32 0), (Value.int .i32 0), (v32 0)] ++ (digC Dig.zero ++ (digC Dig.zero ++ (digC Dig.zero ++ ([(vp b3 0), (Value.pointer none)]))))) 98)], [(b4, ob ([(v32 0), (Value.int .i32 0), (v32 0)] ++ (digC Dig.zero ++ (digC Dig.zero ++ (digC Dig.zero ++ ([(vp b3 0), (Value.pointer none)]))))) 98)], [(b2, ob (digC old.p ++ (digC old.v)) 36)], [(b1, ob (digC l.p ++ (digC l.v)) 36)], [(b, ob ([(v32 0), (Value.int .i32 0), (v32 0)] ++ (digC Dig.zero ++ (digC old.p ++ (digC old.v ++ ([(Value.pointer none), (Value.pointer none)]))))) 98)]]) := hL.front 2 rfl rfl
      refine w_callT (xs := [.tmp 90, .tmp 91, .tmp 93]) hT rfl (vs := [(vp b3 0), (Value.agg (digC l.p ++ (digC l.v)).toArray), (vI ((n + 1 : Nat) : Int))]) rfl (args := #[(vp b3 0), (Value.agg (digC l.p ++ (digC l.v)).toArray), (vI ((n + 1 : Nat) : Int))]) rfl Tryd.func32 rfl rfl (by decide) ((ih (KT.leaf b3 old) l [old] _ (by simp [Rep]) (by have := hg.zeros; simpa [zerosL, *] using this) (Vg.Loc.self (cs := [(KT.leaf b3 old).ents 98]) hL)).mono ?_)
      rintro e w29 ⟨t2, rfl, hX, hrep2⟩
      refine ⟨_, rfl, ?_⟩; clear hT; intro a hT; replace hT : Tm 98 a ((94, (Value.pointer t2.ad)) :: _) := hT
      replace hL : Vg.Loc (keys [(KT.leaf b old).ents 98]) w0 w29 ([t2.ents 98, [(b6, ob ([(v32 0), (Value.int .i32 0), (v32 0)] ++ (digC Dig.zero ++ (digC Dig.zero ++ (digC Dig.zero ++ ([(vp b3 0), (Value.pointer none)]))))) 98)], [(b4, ob ([(v32 0), (Value.int .i32 0), (v32 0)] ++ (digC Dig.zero ++ (digC Dig.zero ++ (digC Dig.zero ++ ([(vp b3 0), (Value.pointer none)]))))) 98)], [(b2, ob (digC old.p ++ (digC old.v)) 36)], [(b1, ob (digC l.p ++ (digC l.v)) 36)], [(b, ob ([(v32 0), (Value.int .i32 0), (v32 0)] ++ (digC Dig.zero ++ (digC old.p ++ (digC old.v ++ ([(Value.pointer none), (Value.pointer none)]))))) 98)]]) := Vg.Loc.call (ci := [[(b3, ob ([(v32 0), (Value.int .i32 0), (v32 0)] ++ (digC Dig.zero ++ (digC old.p ++ (digC old.v ++ ([(Value.pointer none), (Value.pointer none)]))))) 98)]]) (cr := [[(b6, ob ([(v32 0), (Value.int .i32 0), (v32 0)] ++ (digC Dig.zero ++ (digC Dig.zero ++ (digC Dig.zero ++ ([(vp b3 0), (Value.pointer none)]))))) 98)], [(b4, ob ([(v32 0), (Value.int .i32 0), (v32 0)] ++ (digC Dig.zero ++ (digC Dig.zero ++ (digC Dig.zero ++ ([(vp b3 0), (Value.pointer none)]))))) 98)], [(b2, ob (digC old.p ++ (digC old.v)) 36)], [(b1, ob (digC l.p ++ (digC l.v)) 36)], [(b, ob ([(v32 0), (Value.int .i32 0), (v32 0)] ++ (digC Dig.zero ++ (digC old.p ++ (digC old.v ++ ([(Value.pointer none), (Value.pointer none)]))))) 98)]]) hL hX
      refine ⟨fun hn => absurd (by decide) hn, ?_⟩
      refine d_pure (i := 9) hT #[true, true, true, true, true, true, true, true, true, true, false, false] rfl (by kernel_rfl) rfl rfl (by decide) (fun _ _ _ h => h) (fun _ => q_nilCheck hT rfl) ?_; clear hT; intro a hT
      refine d_pure (i := 10) hT #[true, true, true, true, true, true, true, true, true, true, true, false] rfl (by kernel_rfl) rfl rfl (by decide) (fun _ _ _ h => h) (fun _ => q_fieldAddr hT rfl Tryd.fld98_2 rfl) ?_; clear hT; intro a hT
      refine d_one (i := 11) hT #[true, true, true, true, true, true, true, true, true, true, true, true] rfl (by kernel_rfl) rfl ?_
      refine w_store hT hL 1 (c := [(v32 0), (Value.int .i32 0), (v32 0)] ++ (digC Dig.zero ++ (digC Dig.zero ++ (digC Dig.zero ++ ([(vp b3 0), (Value.pointer none)]))))) rfl rfl Tryd.ty63 rfl (vs := [(Value.pointer t2.ad)]) rfl rfl (by first | decide | (simp [arr32_len, arr8_len, digC_len]; done) | (simp [arr32_len, arr8_len, digC_len]; omega)) rfl (c' := [(v32 0), (Value.int .i32 0), (v32 0)] ++ (digC Dig.zero ++ (digC Dig.zero ++ (digC Dig.zero ++ ([(Value.pointer t2.ad), (Value.pointer none)]))))) rfl ?_; clear hL; intro w30 hL hE
      replace hL : Vg.Loc (keys [(KT.leaf b old).ents 98]) w0 w30 ([t2.ents 98, [(b6, ob ([(v32 0), (Value.int .i32 0), (v32 0)] ++ (digC Dig.zero ++ (digC Dig.zero ++ (digC Dig.zero ++ ([(Value.pointer t2.ad), (Value.pointer none)]))))) 98)], [(b4, ob ([(v32 0), (Value.int .i32 0), (v32 0)] ++ (digC Dig.zero ++ (digC Dig.zero ++ (digC Dig.zero ++ ([(vp b3 0), (Value.pointer none)]))))) 98)], [(b2, ob (digC old.p ++ (digC old.v)) 36)], [(b1, ob (digC l.p ++ (digC l.v)) 36)], [(b, ob ([(v32 0), (Value.int .i32 0), (v32 0)] ++ (digC Dig.zero ++ (digC old.p ++ (digC old.v ++ ([(Value.pointer none), (Value.pointer none)]))))) 98)]]) := hL
      refine ⟨fun hn => absurd (by decide) hn, ?_⟩
      refine d_done (by kernel_rfl) ?_; clear hR hS
      refine then_norm ?_
      refine c_seq ?_
      refine c_region ?_
      refine l_q hT (q_move hT rfl) rfl rfl (by decide) ?_; clear hT; intro a hT
      refine l_q hT (q_assign hT rfl) rfl rfl (by decide) ?_; clear hT; intro a hT
      refine l_end ?_
      refine then_norm ?_
      refine wp_ret ?_
      refine c_ret (vs := [(vp b6 0)]) (rs := [.tmp 6]) hT rfl (.tmp rfl .nil) ?_
      replace hL : Vg.Loc (keys [(KT.leaf b old).ents 98]) w0 w30 ([[(b6, ob ([(v32 0), (Value.int .i32 0), (v32 0)] ++ (digC Dig.zero ++ (digC Dig.zero ++ (digC Dig.zero ++ ([(Value.pointer t2.ad), (Value.pointer none)]))))) 98)], t2.ents 98, [(b4, ob ([(v32 0), (Value.int .i32 0), (v32 0)] ++ (digC Dig.zero ++ (digC Dig.zero ++ (digC Dig.zero ++ ([(vp b3 0), (Value.pointer none)]))))) 98)], [(b2, ob (digC old.p ++ (digC old.v)) 36)], [(b1, ob (digC l.p ++ (digC l.v)) 36)], [(b, ob ([(v32 0), (Value.int .i32 0), (v32 0)] ++ (digC Dig.zero ++ (digC old.p ++ (digC old.v ++ ([(Value.pointer none), (Value.pointer none)]))))) 98)]]) := hL.front 1 rfl rfl
      replace hL : Vg.Loc (keys [(KT.leaf b old).ents 98]) w0 w30 ([[(b6, ob ([(v32 0), (Value.int .i32 0), (v32 0)] ++ (digC Dig.zero ++ (digC Dig.zero ++ (digC Dig.zero ++ ([(Value.pointer t2.ad), (Value.pointer none)]))))) 98)], t2.ents 98]) := hL.sub (.cons_cons _ (.cons_cons _ (.cons _ (.cons _ (.cons _ (.cons _ .slnil))))))
      refine ⟨(KT.node b6 t2 KT.nil), rfl, hL.join (by simp [KT.ents, knotC, KT.ad, noLeaf]), ?_⟩
      simp_all [Rep, zerosL, onesL]

set_option maxRecDepth 100000 in
set_option maxHeartbeats 4000000 in
theorem with_node (b : Nat) (x y : KT) (l : Leaf) (S : List Leaf) (n : Nat) (hr : Rep (KT.node b x y) S n) (hg : GoodL (l :: S) n) (ih : WithOK Tryd.prog 32 98 (n + 1)) (w0 : World) (hL0 : Vg.Loc (keys [(KT.node b x y).ents 98]) w0 w0 [(KT.node b x y).ents 98]) :
    Calls Tryd.prog 32 #[(vp b 0), (Value.agg (digC l.p ++ (digC l.v)).toArray), (vI (n : Int))] w0 fun e w' => ∃ t', e = .returned (.pointer t'.ad) ∧ Vg.Loc (keys [(KT.node b x y).ents 98]) w0 w' [t'.ents 98] ∧ Rep t' (l :: S) n := by
  refine c_enter (n := 98) (args := [(vp b 0), (Value.agg (digC l.p ++ (digC l.v)).toArray), (vI (n : Int))]) Tryd.func32 rfl rfl (Nat.le_of_ble_eq_true rfl) rfl (fun a hT => ?_)
  simp only [List.zipIdx_cons, List.zipIdx_nil, List.map_cons, List.map_nil, Nat.reduceAdd] at hT
  have hL : Vg.Loc (keys [(KT.node b x y).ents 98]) w0 w0 [[(b, ob ([(v32 0), (Value.int .i32 0), (v32 0)] ++ (digC Dig.zero ++ (digC Dig.zero ++ (digC Dig.zero ++ ([(Value.pointer x.ad), (Value.pointer y.ad)]))))) 98)], x.ents 98, y.ents 98] := hL0.regroup (by simp only [List.flatten_cons, List.flatten_nil, List.append_nil, List.cons_append, List.nil_append]; rfl)
  have hsome := hr.some
  obtain ⟨h2, hx, hy⟩ := hr
  have hn : n < 256 := (hg.sub (List.sublist_cons_self _ _)).lt h2
  refine c_seq ?_
  refine c_region ?_
  refine l_do rfl ?_
  refine w_box hT hL (by decide) rfl (c := digC l.p ++ (digC l.v)) rfl ?_; clear hT hL; intro b1 a w1 hT hL hE hB
  refine l_q hT (q_assign hT rfl) rfl rfl (by decide) ?_; clear hT; intro a hT
  refine l_end ?_
  refine then_norm ?_
  refine c_seq ?_
  refine wp_block ?_
  refine c_seq ?_
  refine d_start' hL #[false, false, false, false, false, false, false, false, false, false, false, false, false, false, false, false, false, false] [] rfl rfl rfl ?_; clear hL; intro w2 hL hE; have hR := hL; have hS := Ext.refl w2
  refine d_pure (i := 0) hT #[true, false, false, false, false, false, false, false, false, false, false, false, false, false, false, false, false, false] rfl (by kernel_rfl) rfl rfl (by decide) (fun _ _ _ h => h) (fun _ => q_move hT rfl) ?_; clear hT; intro a hT
  refine d_pure (i := 1) hT #[true, true, false, false, false, false, false, false, false, false, false, false, false, false, false, false, false, false] rfl (by kernel_rfl) rfl rfl (by decide) (fun _ _ _ h => h) (fun _ => (q_eq_nil hT rfl rfl Tryd.underlying63).b (b := false) rfl) ?_; clear hT; intro a hT
  refine d_pure (i := 2) hT #[true, true, true, false, false, false, false, false, false, false, false, false, false, false, false, false, false, false] rfl (by kernel_rfl) rfl rfl (by decide) (fun _ _ _ h => h) (fun _ => q_move hT rfl) ?_; clear hT; intro a hT
  refine d_pure (i := 3) hT #[true, true, true, true, false, false, false, false, false, false, false, false, false, false, false, false, false, false] rfl (by kernel_rfl) rfl rfl (by decide) (fun _ _ _ h => h) (fun _ => q_move hT rfl) ?_; clear hT; intro a hT
  refine d_one (i := 4) hT #[true, true, true, true, true, false, false, false, false, false, false, false, false, false, false, false, false, false] rfl (by kernel_rfl) rfl ?_
  refine w_callT (xs := [.tmp 13]) hT rfl (vs := [(vp b 0)]) rfl (args := #[(vp b 0)]) rfl Tryd.func45 rfl rfl (by decide) ((inner_some b x.ad y.ad _ (hL.rd 1 rfl 99 rfl)).mono ?_)
  rintro e w3 ⟨rfl, hX⟩
  refine ⟨_, rfl, ?_⟩; clear hT; intro a hT; replace hT : Tm 98 a ((14, (Value.bool (x.ad.isSome || y.ad.isSome))) :: _) := hT
  replace hL := hL.ext hX
  rw [hsome] at hT
  replace hS := Vg.Loc.ext hS hX; refine ⟨fun _ => hS, ?_⟩
  refine d_pure (i := 5) hT #[true, true, true, true, true, true, false, false, false, false, false, false, false, false, false, false, false, false] rfl (by kernel_rfl) rfl rfl (by decide) (fun _ _ _ h => h) (fun _ => (q_not hT rfl).b rfl) ?_; clear hT; intro a hT
  refine d_pure (i := 6) hT #[true, true, true, true, true, true, true, false, false, false, false, false, false, false, false, false, false, false] rfl (by kernel_rfl) rfl rfl (by decide) (fun _ _ _ h => h) (fun _ => q_move hT rfl) ?_; clear hT; intro a hT
  refine d_off (i := 7) hT #[true, true, true, true, true, true, true, true, false, false, false, false, false, false, false, false, false, false] rfl (by kernel_rfl) rfl rfl (by decide) (fun _ _ _ h => h) ?_; clear hT; intro a hT
  refine d_off (i := 8) hT #[true, true, true, true, true, true, true, true, true, false, false, false, false, false, false, false, false, false] rfl (by kernel_rfl) rfl rfl (by decide) (fun _ _ _ h => h) ?_; clear hT; intro a hT
  refine d_off (i := 9) hT #[true, true, true, true, true, true, true, true, true, true, false, false, false, false, false, false, false, false] rfl (by kernel_rfl) rfl rfl (by decide) (fun _ _ _ h => h) ?_; clear hT; intro a hT
  refine d_off (i := 10) hT #[true, true, true, true, true, true, true, true, true, true, true, false, false, false, false, false, false, false] rfl (by kernel_rfl) rfl rfl (by decide) (fun _ _ _ h => h) ?_; clear hT; intro a hT
  refine d_off (i := 11) hT #[true, true, true, true, true, true, true, true, true, true, true, true, false, false, false, false, false, false] rfl (by kernel_rfl) rfl rfl (by decide) (fun _ _ _ h => h) ?_; clear hT; intro a hT
  refine d_off (i := 12) hT #[true, true, true, true, true, true, true, true, true, true, true, true, true, false, false, false, false, false] rfl (by kernel_rfl) rfl rfl (by decide) (fun _ _ _ h => h) ?_; clear hT; intro a hT
  refine d_off (i := 13) hT #[true, true, true, true, true, true, true, true, true, true, true, true, true, true, false, false, false, false] rfl (by kernel_rfl) rfl rfl (by decide) (fun _ _ _ h => h) ?_; clear hT; intro a hT
  refine d_off (i := 14) hT #[true, true, true, true, true, true, true, true, true, true, true, true, true, true, true, false, false, false] rfl (by kernel_rfl) rfl rfl (by decide) (fun _ _ _ h => h) ?_; clear hT; intro a hT
  refine d_pure (i := 15) hT #[true, true, true, true, true, true, true, true, true, true, true, true, true, true, true, true, false, false] rfl (by kernel_rfl) rfl rfl (by decide) (fun _ _ _ h => h) (fun _ => (q_pick hT rfl rfl rfl).v (v := (Value.bool false)) rfl) ?_; clear hT; intro a hT
  refine d_pure (i := 16) hT #[true, true, true, true, true, true, true, true, true, true, true, true, true, true, true, true, true, false] rfl (by kernel_rfl) rfl rfl (by decide) (fun _ _ _ h => h) (fun _ => (q_pick hT rfl rfl rfl).v (v := (Value.bool false)) rfl) ?_; clear hT; intro a hT
  refine d_pure (i := 17) hT #[true, true, true, true, true, true, true, true, true, true, true, true, true, true, true, true, true, true] rfl (by kernel_rfl) rfl rfl (by decide) (fun _ _ _ h => h) (fun _ => q_assign hT rfl) ?_; clear hT; intro a hT
  refine d_done (by kernel_rfl) ?_; clear hR hS
  refine then_norm ?_
  refine c_false hT rfl rfl ?_
  refine c_seq ?_
  refine c_region ?_
  refine l_q hT (q_move hT rfl) rfl rfl (by decide) ?_; clear hT; intro a hT
  refine l_do rfl ?_
  refine w_callT (xs := [.tmp 31]) hT rfl (vs := [(vp b 0)]) rfl (args := #[(vp b 0)]) rfl Tryd.func45 rfl rfl (by decide) ((inner_some b x.ad y.ad _ (hL.rd 1 rfl 99 rfl)).mono ?_)
  rintro e w4 ⟨rfl, hX⟩
  refine ⟨_, rfl, ?_⟩; clear hT; intro a hT; replace hT : Tm 98 a ((32, (Value.bool (x.ad.isSome || y.ad.isSome))) :: _) := hT
  replace hL := hL.ext hX
  rw [hsome] at hT
  refine l_q hT ((q_not hT rfl).b rfl) rfl rfl (by decide) ?_; clear hT; intro a hT
  refine l_q hT (q_assign hT rfl) rfl rfl (by decide) ?_; clear hT; intro a hT
  refine l_end ?_
  refine then_norm ?_
  refine c_false hT rfl rfl ?_
  refine wp_skip ?_
  refine blk_norm ?_
  refine then_norm ?_
  refine c_seq ?_
  refine d_start' hL #[false, false, false, false, false, false, false, false, false, false, false] [] rfl rfl rfl ?_; clear hL; intro w5 hL hE; have hR := hL; have hS := Ext.refl w5
  refine d_pure (i := 0) hT #[true, false, false, false, false, false, false, false, false, false, false] rfl (by kernel_rfl) rfl rfl (by decide) (fun _ _ _ h => h) (fun _ => q_move hT rfl) ?_; clear hT; intro a hT
  refine d_pure (i := 1) hT #[true, true, false, false, false, false, false, false, false, false, false] rfl (by kernel_rfl) rfl rfl (by decide) (fun _ _ _ h => h) (fun _ => q_nilCheck hT rfl) ?_; clear hT; intro a hT
  refine d_pure (i := 2) hT #[true, true, true, false, false, false, false, false, false, false, false] rfl (by kernel_rfl) rfl rfl (by decide) (fun _ _ _ h => h) (fun _ => q_fieldAddr hT rfl Tryd.fld98_2 rfl) ?_; clear hT; intro a hT
  refine d_pure (i := 4) hT #[true, true, true, false, true, false, false, false, false, false, false] rfl (by kernel_rfl) rfl rfl (by decide) (fun _ _ _ h => h) (fun _ => q_move hT rfl) ?_; clear hT; intro a hT
  refine d_pure (i := 5) hT #[true, true, true, false, true, true, false, false, false, false, false] rfl (by kernel_rfl) rfl rfl (by decide) (fun _ _ _ h => h) (fun _ => q_nilCheck hT rfl) ?_; clear hT; intro a hT
  refine d_pure (i := 6) hT #[true, true, true, false, true, true, true, false, false, false, false] rfl (by kernel_rfl) rfl rfl (by decide) (fun _ _ _ h => h) (fun _ => q_fieldAddr hT rfl Tryd.fld98_3 rfl) ?_; clear hT; intro a hT
  refine d_take (i := 3) hT #[true, true, true, true, true, true, true, false, false, false, false] rfl (by kernel_rfl) rfl rfl (by decide) (fun _ _ _ h => h) (fun _ hs => q_load hT rfl Tryd.ty63 (Rd.ext (hR.rd 1 rfl 99 (ds := [(Value.pointer x.ad)]) rfl) hs)) hS ?_; clear hT; intro a hT
  refine d_take (i := 7) hT #[true, true, true, true, true, true, true, true, false, false, false] rfl (by kernel_rfl) rfl rfl (by decide) (fun _ _ _ h => h) (fun _ hs => q_load hT rfl Tryd.ty63 (Rd.ext (hR.rd 1 rfl 100 (ds := [(Value.pointer y.ad)]) rfl) hs)) hS ?_; clear hT; intro a hT
  refine d_pure (i := 8) hT #[true, true, true, true, true, true, true, true, true, false, false] rfl (by kernel_rfl) rfl rfl (by decide) (fun _ _ _ h => h) (fun _ => q_build (ps := [(2, .tmp 64), (3, .tmp 68)]) (pv := [(2, (Value.pointer x.ad)), (3, (Value.pointer y.ad))]) (v := .agg ([(v32 0), (Value.int .i32 0), (v32 0)] ++ (digC Dig.zero ++ (digC Dig.zero ++ (digC Dig.zero ++ ([(Value.pointer x.ad), (Value.pointer y.ad)]))))).toArray) hT rfl (fun _ => by kernel_rfl)) ?_; clear hT; intro a hT
  refine d_one (i := 9) hT #[true, true, true, true, true, true, true, true, true, true, false] rfl (by kernel_rfl) rfl ?_
  refine w_box hT hL (by decide) rfl (c := [(v32 0), (Value.int .i32 0), (v32 0)] ++ (digC Dig.zero ++ (digC Dig.zero ++ (digC Dig.zero ++ ([(Value.pointer x.ad), (Value.pointer y.ad)]))))) rfl ?_; clear hT hL; intro b2 a w6 hT hL hE hB
  replace hS := Vg.Loc.ext hS hE; refine ⟨fun _ => hS, ?_⟩
  refine d_pure (i := 10) hT #[true, true, true, true, true, true, true, true, true, true, true] rfl (by kernel_rfl) rfl rfl (by decide) (fun _ _ _ h => h) (fun _ => q_assign hT rfl) ?_; clear hT; intro a hT
  refine d_done (by kernel_rfl) ?_; clear hR hS
  refine then_norm ?_
  refine c_seq ?_
  refine c_seq ?_
  refine c_region ?_
  refine l_q hT (q_fieldAddr hT rfl Tryd.fld36_0 rfl) rfl rfl (by decide) ?_; clear hT; intro a hT
  refine l_q hT (q_load_agg hT rfl Tryd.ty24 (hL.rd 1 rfl 0 (ds := digC l.p) rfl) rfl) rfl rfl (by decide) ?_; clear hT; intro a hT
  refine l_q hT (q_move hT rfl) rfl rfl (by decide) ?_; clear hT; intro a hT
  refine l_do rfl ?_
  refine w_callT (xs := [.tmp 72, .tmp 73]) hT rfl (vs := [(Value.agg (digC l.p).toArray), (vI (n : Int))]) rfl (args := #[(Value.agg (digC l.p).toArray), (vI (n : Int))]) rfl Tryd.func46 rfl rfl (by decide) ((sright_spec l.p n (by omega) _).mono ?_)
  rintro e w7 ⟨rfl, hX⟩
  refine ⟨_, rfl, ?_⟩; clear hT; intro a hT; replace hT : Tm 98 a ((74, (Value.bool (l.p.bit n))) :: _) := hT
  replace hL := hL.ext hX
  refine l_end ?_
  refine then_norm ?_
  refine c_if hT rfl (fun hc1 => ?_) (fun hc1 => ?_)
  · skip
    refine d_start' hL #[false, false, false, false, false, false, false, false, false, false, false, false] [8, 11] rfl rfl rfl ?_; clear hL; intro w8 hL hE; have hR := hL; have hS := Ext.refl w8
    refine d_pure (i := 0) hT #[true, false, false, false, false, false, false, false, false, false, false, false] rfl (by kernel_rfl) rfl rfl (by decide) (fun _ _ _ h => h) (fun _ => q_move hT rfl) ?_; clear hT; intro a hT
    refine d_pure (i := 1) hT #[true, true, false, false, false, false, false, false, false, false, false, false] rfl (by kernel_rfl) rfl rfl (by decide) (fun _ _ _ h => h) (fun _ => q_move hT rfl) ?_; clear hT; intro a hT
    refine d_pure (i := 2) hT #[true, true, true, false, false, false, false, false, false, false, false, false] rfl (by kernel_rfl) rfl rfl (by decide) (fun _ _ _ h => h) (fun _ => q_nilCheck hT rfl) ?_; clear hT; intro a hT
    refine d_pure (i := 3) hT #[true, true, true, true, false, false, false, false, false, false, false, false] rfl (by kernel_rfl) rfl rfl (by decide) (fun _ _ _ h => h) (fun _ => q_fieldAddr hT rfl Tryd.fld98_3 rfl) ?_; clear hT; intro a hT
    refine d_pure (i := 6) hT #[true, true, true, true, false, false, true, false, false, false, false, false] rfl (by kernel_rfl) rfl rfl (by decide) (fun _ _ _ h => h) (fun _ => q_move hT rfl) ?_; clear hT; intro a hT
    refine d_pure (i := 7) hT #[true, true, true, true, false, false, true, true, false, false, false, false] rfl (by kernel_rfl) rfl rfl (by decide) (fun _ _ _ h => h) (fun _ => (q_addI hT rfl rfl (r := (n : Int) + 1) rfl (by omega) (by omega)).v (v := (vI ((n + 1 : Nat) : Int))) (rfl)) ?_; clear hT; intro a hT
    refine d_take (i := 4) hT #[true, true, true, true, true, false, true, true, false, false, false, false] rfl (by kernel_rfl) rfl rfl (by decide) (fun _ _ _ h => h) (fun _ hs => q_load hT rfl Tryd.ty63 (Rd.ext (hR.rd 0 rfl 100 (ds := [(Value.pointer y.ad)]) rfl) hs)) hS ?_; clear hT; intro a hT
    refine d_take (i := 5) hT #[true, true, true, true, true, true, true, true, false, false, false, false] rfl (by kernel_rfl) rfl rfl (by decide) (fun _ _ _ h => h) (fun _ hs => q_load_agg hT rfl Tryd.ty36 (Rd.ext (hR.rd 1 rfl 0 (ds := digC l.p ++ (digC l.v)) rfl) hs) rfl) hS ?_; clear hT; intro a hT
    refine d_one (i := 8) hT #[true, true, true, true, true, true, true, true, true, false, false, false] rfl (by kernel_rfl) rfl ?_
    replace hL : Vg.Loc (keys [(KT.node b x y).ents 98]) w0 w8 ([y.ents 98, [(b2, ob ([(v32 0), (Value.int .i32 0), (v32 0)] ++ (digC Dig.zero ++ (digC Dig.zero ++ (digC Dig.zero ++ ([(Value.pointer x.ad), (Value.pointer y.ad)]))))) 98)], [(b1, ob (digC l.p ++ (digC l.v)) 36)], [(b, ob ([(v32 0), (Value.int .i32 0), (v32 0)] ++ (digC Dig.zero ++ (digC Dig.zero ++ (digC Dig.zero ++ ([(Value.pointer x.ad), (Value.pointer y.ad)]))))) 98)], x.ents 98]) := hL.front 4 rfl rfl
    refine w_callT (xs := [.tmp 79, .tmp 80, .tmp 82]) hT rfl (vs := [(Value.pointer y.ad), (Value.agg (digC l.p ++ (digC l.v)).toArray), (vI ((n + 1 : Nat) : Int))]) rfl (args := #[(Value.pointer y.ad), (Value.agg (digC l.p ++ (digC l.v)).toArray), (vI ((n + 1 : Nat) : Int))]) rfl Tryd.func32 rfl rfl (by decide) ((ih y l (onesL S n) _ hy (hg.ones_cons hc1) (Vg.Loc.self (cs := [y.ents 98]) hL)).mono ?_)
    rintro e w9 ⟨t1, rfl, hX, hrep1⟩
    refine ⟨_, rfl, ?_⟩; clear hT; intro a hT; replace hT : Tm 98 a ((83, (Value.pointer t1.ad)) :: _) := hT
    replace hL : Vg.Loc (keys [(KT.node b x y).ents 98]) w0 w9 ([t1.ents 98, [(b2, ob ([(v32 0), (Value.int .i32 0), (v32 0)] ++ (digC Dig.zero ++ (digC Dig.zero ++ (digC Dig.zero ++ ([(Value.pointer x.ad), (Value.pointer y.ad)]))))) 98)], [(b1, ob (digC l.p ++ (digC l.v)) 36)], [(b, ob ([(v32 0), (Value.int .i32 0), (v32 0)] ++ (digC Dig.zero ++ (digC Dig.zero ++ (digC Dig.zero ++ ([(Value.pointer x.ad), (Value.pointer y.ad)]))))) 98)], x.ents 98]) := Vg.Loc.call (ci := [y.ents 98]) (cr := [[(b2, ob ([(v32 0), (Value.int .i32 0), (v32 0)] ++ (digC Dig.zero ++ (digC Dig.zero ++ (digC Dig.zero ++ ([(Value.pointer x.ad), (Value.pointer y.ad)]))))) 98)], [(b1, ob (digC l.p ++ (digC l.v)) 36)], [(b, ob ([(v32 0), (Value.int .i32 0), (v32 0)] ++ (digC Dig.zero ++ (digC Dig.zero ++ (digC Dig.zero ++ ([(Value.pointer x.ad), (Value.pointer y.ad)]))))) 98)], x.ents 98]) hL hX
    refine ⟨fun hn => absurd (by decide) hn, ?_⟩
    refine d_pure (i := 9) hT #[true, true, true, true, true, true, true, true, true, true, false, false] rfl (by kernel_rfl) rfl rfl (by decide) (fun _ _ _ h => h) (fun _ => q_nilCheck hT rfl) ?_; clear hT; intro a hT
    refine d_pure (i := 10) hT #[true, true, true, true, true, true, true, true, true, true, true, false] rfl (by kernel_rfl) rfl rfl (by decide) (fun _ _ _ h => h) (fun _ => q_fieldAddr hT rfl Tryd.fld98_3 rfl) ?_; clear hT; intro a hT
    refine d_one (i := 11) hT #[true, true, true, true, true, true, true, true, true, true, true, true] rfl (by kernel_rfl) rfl ?_
    refine w_store hT hL 1 (c := [(v32 0), (Value.int .i32 0), (v32 0)] ++ (digC Dig.zero ++ (digC Dig.zero ++ (digC Dig.zero ++ ([(Value.pointer x.ad), (Value.pointer y.ad)]))))) rfl rfl Tryd.ty63 rfl (vs := [(Value.pointer t1.ad)]) rfl rfl (by first | decide | (simp [arr32_len, arr8_len, digC_len]; done) | (simp [arr32_len, arr8_len, digC_len]; omega)) rfl (c' := [(v32 0), (Value.int .i32 0), (v32 0)] ++ (digC Dig.zero ++ (digC Dig.zero ++ (digC Dig.zero ++ ([(Value.pointer x.ad), (Value.pointer t1.ad)]))))) rfl ?_; clear hL; intro w10 hL hE
    replace hL : Vg.Loc (keys [(KT.node b x y).ents 98]) w0 w10 ([t1.ents 98, [(b2, ob ([(v32 0), (Value.int .i32 0), (v32 0)] ++ (digC Dig.zero ++ (digC Dig.zero ++ (digC Dig.zero ++ ([(Value.pointer x.ad), (Value.pointer t1.ad)]))))) 98)], [(b1, ob (digC l.p ++ (digC l.v)) 36)], [(b, ob ([(v32 0), (Value.int .i32 0), (v32 0)] ++ (digC Dig.zero ++ (digC Dig.zero ++ (digC Dig.zero ++ ([(Value.pointer x.ad), (Value.pointer y.ad)]))))) 98)], x.ents 98]) := hL
    refine ⟨fun hn => absurd (by decide) hn, ?_⟩
    refine d_done (by kernel_rfl) ?_; clear hR hS
    refine then_norm ?_
    refine c_seq ?_
    refine c_region ?_
    refine l_q hT (q_move hT rfl) rfl rfl (by decide) ?_; clear hT; intro a hT
    refine l_q hT (q_assign hT rfl) rfl rfl (by decide) ?_; clear hT; intro a hT
    refine l_end ?_
    refine then_norm ?_
    refine wp_ret ?_
    refine c_ret (vs := [(vp b2 0)]) (rs := [.tmp 6]) hT rfl (.tmp rfl .nil) ?_
    replace hL : Vg.Loc (keys [(KT.node b x y).ents 98]) w0 w10 ([x.ents 98, t1.ents 98, [(b2, ob ([(v32 0), (Value.int .i32 0), (v32 0)] ++ (digC Dig.zero ++ (digC Dig.zero ++ (digC Dig.zero ++ ([(Value.pointer x.ad), (Value.pointer t1.ad)]))))) 98)], [(b1, ob (digC l.p ++ (digC l.v)) 36)], [(b, ob ([(v32 0), (Value.int .i32 0), (v32 0)] ++ (digC Dig.zero ++ (digC Dig.zero ++ (digC Dig.zero ++ ([(Value.pointer x.ad), (Value.pointer y.ad)]))))) 98)]]) := hL.front 4 rfl rfl
    replace hL : Vg.Loc (keys [(KT.node b x y).ents 98]) w0 w10 ([[(b2, ob ([(v32 0), (Value.int .i32 0), (v32 0)] ++ (digC Dig.zero ++ (digC Dig.zero ++ (digC Dig.zero ++ ([(Value.pointer x.ad), (Value.pointer t1.ad)]))))) 98)], x.ents 98, t1.ents 98, [(b1, ob (digC l.p ++ (digC l.v)) 36)], [(b, ob ([(v32 0), (Value.int .i32 0), (v32 0)] ++ (digC Dig.zero ++ (digC Dig.zero ++ (digC Dig.zero ++ ([(Value.pointer x.ad), (Value.pointer y.ad)]))))) 98)]]) := hL.front 2 rfl rfl
    replace hL : Vg.Loc (keys [(KT.node b x y).ents 98]) w0 w10 ([[(b2, ob ([(v32 0), (Value.int .i32 0), (v32 0)] ++ (digC Dig.zero ++ (digC Dig.zero ++ (digC Dig.zero ++ ([(Value.pointer x.ad), (Value.pointer t1.ad)]))))) 98)], x.ents 98, t1.ents 98]) := hL.sub (.cons_cons _ (.cons_cons _ (.cons_cons _ (.cons _ (.cons _ .slnil)))))
    refine ⟨(KT.node b2 x t1), rfl, hL.join (by simp [KT.ents, knotC, KT.ad, noLeaf]), ?_⟩
    simp_all [Rep, zerosL, onesL] <;> omega
  · skip
    refine d_start' hL #[false, false, false, false, false, false, false, false, false, false, false, false] [8, 11] rfl rfl rfl ?_; clear hL; intro w11 hL hE; have hR := hL; have hS := Ext.refl w11
    refine d_pure (i := 0) hT #[true, false, false, false, false, false, false, false, false, false, false, false] rfl (by kernel_rfl) rfl rfl (by decide) (fun _ _ _ h => h) (fun _ => q_move hT rfl) ?_; clear hT; intro a hT
    refine d_pure (i := 1) hT #[true, true, false, false, false, false, false, false, false, false, false, false] rfl (by kernel_rfl) rfl rfl (by decide) (fun _ _ _ h => h) (fun _ => q_move hT rfl) ?_; clear hT; intro a hT
    refine d_pure (i := 2) hT #[true, true, true, false, false, false, false, false, false, false, false, false] rfl (by kernel_rfl) rfl rfl (by decide) (fun _ _ _ h => h) (fun _ => q_nilCheck hT rfl) ?_; clear hT; intro a hT
    refine d_pure (i := 3) hT #[true, true, true, true, false, false, false, false, false, false, false, false] rfl (by kernel_rfl) rfl rfl (by decide) (fun _ _ _ h => h) (fun _ => q_fieldAddr hT rfl Tryd.fld98_2 rfl) ?_; clear hT; intro a hT
    refine d_pure (i := 6) hT #[true, true, true, true, false, false, true, false, false, false, false, false] rfl (by kernel_rfl) rfl rfl (by decide) (fun _ _ _ h => h) (fun _ => q_move hT rfl) ?_; clear hT; intro a hT
    refine d_pure (i := 7) hT #[true, true, true, true, false, false, true, true, false, false, false, false] rfl (by kernel_rfl) rfl rfl (by decide) (fun _ _ _ h => h) (fun _ => (q_addI hT rfl rfl (r := (n : Int) + 1) rfl (by omega) (by omega)).v (v := (vI ((n + 1 : Nat) : Int))) (rfl)) ?_; clear hT; intro a hT
    refine d_take (i := 4) hT #[true, true, true, true, true, false, true, true, false, false, false, false] rfl (by kernel_rfl) rfl rfl (by decide) (fun _ _ _ h => h) (fun _ hs => q_load hT rfl Tryd.ty63 (Rd.ext (hR.rd 0 rfl 99 (ds := [(Value.pointer x.ad)]) rfl) hs)) hS ?_; clear hT; intro a hT
    refine d_take (i := 5) hT #[true, true, true, true, true, true, true, true, false, false, false, false] rfl (by kernel_rfl) rfl rfl (by decide) (fun _ _ _ h => h) (fun _ hs => q_load_agg hT rfl Tryd.ty36 (Rd.ext (hR.rd 1 rfl 0 (ds := digC l.p ++ (digC l.v)) rfl) hs) rfl) hS ?_; clear hT; intro a hT
    refine d_one (i := 8) hT #[true, true, true, true, true, true, true, true, true, false, false, false] rfl (by kernel_rfl) rfl ?_
    replace hL : Vg.Loc (keys [(KT.node b x y).ents 98]) w0 w11 ([x.ents 98, [(b2, ob ([(v32 0), (Value.int .i32 0), (v32 0)] ++ (digC Dig.zero ++ (digC Dig.zero ++ (digC Dig.zero ++ ([(Value.pointer x.ad), (Value.pointer y.ad)]))))) 98)], [(b1, ob (digC l.p ++ (digC l.v)) 36)], [(b, ob ([(v32 0), (Value.int .i32 0), (v32 0)] ++ (digC Dig.zero ++ (digC Dig.zero ++ (digC Dig.zero ++ ([(Value.pointer x.ad), (Value.pointer y.ad)]))))) 98)], y.ents 98]) := hL.front 3 rfl rfl
    refine w_callT (xs := [.tmp 90, .tmp 91, .tmp 93]) hT rfl (vs := [(Value.pointer x.ad), (Value.agg (digC l.p ++ (digC l.v)).toArray), (vI ((n + 1 : Nat) : Int))]) rfl (args := #[(Value.pointer x.ad), (Value.agg (digC l.p ++ (digC l.v)).toArray), (vI ((n + 1 : Nat) : Int))]) rfl Tryd.func32 rfl rfl (by decide) ((ih x l (zerosL S n) _ hx (hg.zeros_cons hc1) (Vg.Loc.self (cs := [x.ents 98]) hL)).mono ?_)
    rintro e w12 ⟨t2, rfl, hX, hrep2⟩
    refine ⟨_, rfl, ?_⟩; clear hT; intro a hT; replace hT : Tm 98 a ((94, (Value.pointer t2.ad)) :: _) := hT
    replace hL : Vg.Loc (keys [(KT.node b x y).ents 98]) w0 w12 ([t2.ents 98, [(b2, ob ([(v32 0), (Value.int .i32 0), (v32 0)] ++ (digC Dig.zero ++ (digC Dig.zero ++ (digC Dig.zero ++ ([(Value.pointer x.ad), (Value.pointer y.ad)]))))) 98)], [(b1, ob (digC l.p ++ (digC l.v)) 36)], [(b, ob ([(v32 0), (Value.int .i32 0), (v32 0)] ++ (digC Dig.zero ++ (digC Dig.zero ++ (digC Dig.zero ++ ([(Value.pointer x.ad), (Value.pointer y.ad)]))))) 98)], y.ents 98]) := Vg.Loc.call (ci := [x.ents 98]) (cr := [[(b2, ob ([(v32 0), (Value.int .i32 0), (v32 0)] ++ (digC Dig.zero ++ (digC Dig.zero ++ (digC Dig.zero ++ ([(Value.pointer x.ad), (Value.pointer y.ad)]))))) 98)], [(b1, ob (digC l.p ++ (digC l.v)) 36)], [(b, ob ([(v32 0), (Value.int .i32 0), (v32 0)] ++ (digC Dig.zero ++ (digC Dig.zero ++ (digC Dig.zero ++ ([(Value.pointer x.ad), (Value.pointer y.ad)]))))) 98)], y.ents 98]) hL hX
    refine ⟨fun hn => absurd (by decide) hn, ?_⟩
    refine d_pure (i := 9) hT #[true, true, true, true, true, true, true, true, true, true, false, false] rfl (by kernel_rfl) rfl rfl (by decide) (fun _ _ _ h => h) (fun _ => q_nilCheck hT rfl) ?_; clear hT; intro a hT
    refine d_pure (i := 10) hT #[true, true, true, true, true, true, true, true, true, true, true, false] rfl (by kernel_rfl) rfl rfl (by decide) (fun _ _ _ h => h) (fun _ => q_fieldAddr hT rfl Tryd.fld98_2 rfl) ?_; clear hT; intro a hT
    refine d_one (i := 11) hT #[true, true, true, true, true, true, true, true, true, true, true, true] rfl (by kernel_rfl) rfl ?_
    refine w_store hT hL 1 (c := [(v32 0), (Value.int .i32 0), (v32 0)] ++ (digC Dig.zero ++ (digC Dig.zero ++ (digC Dig.zero ++ ([(Value.pointer x.ad), (Value.pointer y.ad)]))))) rfl rfl Tryd.ty63 rfl (vs := [(Value.pointer t2.ad)]) rfl rfl (by first | decide | (simp [arr32_len, arr8_len, digC_len]; done) | (simp [arr32_len, arr8_len, digC_len]; omega)) rfl (c' := [(v32 0), (Value.int .i32 0), (v32 0)] ++ (digC Dig.zero ++ (digC Dig.zero ++ (digC Dig.zero ++ ([(Value.pointer t2.ad), (Value.pointer y.ad)]))))) rfl ?_; clear hL; intro w13 hL hE
    replace hL : Vg.Loc (keys [(KT.node b x y).ents 98]) w0 w13 ([t2.ents 98, [(b2, ob ([(v32 0), (Value.int .i32 0), (v32 0)] ++ (digC Dig.zero ++ (digC Dig.zero ++ (digC Dig.zero ++ ([(Value.pointer t2.ad), (Value.pointer y.ad)]))))) 98)], [(b1, ob (digC l.p ++ (digC l.v)) 36)], [(b, ob ([(v32 0), (Value.int .i32 0), (v32 0)] ++ (digC Dig.zero ++ (digC Dig.zero ++ (digC Dig.zero ++ ([(Value.pointer x.ad), (Value.pointer y.ad)]))))) 98)], y.ents 98]) := hL
    refine ⟨fun hn => absurd (by decide) hn, ?_⟩
    refine d_done (by kernel_rfl) ?_; clear hR hS
    refine then_norm ?_
    refine c_seq ?_
    refine c_region ?_
    refine l_q hT (q_move hT rfl) rfl rfl (by decide) ?_; clear hT; intro a hT
    refine l_q hT (q_assign hT rfl) rfl rfl (by decide) ?_; clear hT; intro a hT
    refine l_end ?_
    refine then_norm ?_
    refine wp_ret ?_
    refine c_ret (vs := [(vp b2 0)]) (rs := [.tmp 6]) hT rfl (.tmp rfl .nil) ?_
    replace hL : Vg.Loc (keys [(KT.node b x y).ents 98]) w0 w13 ([y.ents 98, t2.ents 98, [(b2, ob ([(v32 0), (Value.int .i32 0), (v32 0)] ++ (digC Dig.zero ++ (digC Dig.zero ++ (digC Dig.zero ++ ([(Value.pointer t2.ad), (Value.pointer y.ad)]))))) 98)], [(b1, ob (digC l.p ++ (digC l.v)) 36)], [(b, ob ([(v32 0), (Value.int .i32 0), (v32 0)] ++ (digC Dig.zero ++ (digC Dig.zero ++ (digC Dig.zero ++ ([(Value.pointer x.ad), (Value.pointer y.ad)]))))) 98)]]) := hL.front 4 rfl rfl
    replace hL : Vg.Loc (keys [(KT.node b x y).ents 98]) w0 w13 ([t2.ents 98, y.ents 98, [(b2, ob ([(v32 0), (Value.int .i32 0), (v32 0)] ++ (digC Dig.zero ++ (digC Dig.zero ++ (digC Dig.zero ++ ([(Value.pointer t2.ad), (Value.pointer y.ad)]))))) 98)], [(b1, ob (digC l.p ++ (digC l.v)) 36)], [(b, ob ([(v32 0), (Value.int .i32 0), (v32 0)] ++ (digC Dig.zero ++ (digC Dig.zero ++ (digC Dig.zero ++ ([(Value.pointer x.ad), (Value.pointer y.ad)]))))) 98)]]) := hL.front 1 rfl rfl
    replace hL : Vg.Loc (keys [(KT.node b x y).ents 98]) w0 w13 ([[(b2, ob ([(v32 0), (Value.int .i32 0), (v32 0)] ++ (digC Dig.zero ++ (digC Dig.zero ++ (digC Dig.zero ++ ([(Value.pointer t2.ad), (Value.pointer y.ad)]))))) 98)], t2.ents 98, y.ents 98, [(b1, ob (digC l.p ++ (digC l.v)) 36)], [(b, ob ([(v32 0), (Value.int .i32 0), (v32 0)] ++ (digC Dig.zero ++ (digC Dig.zero ++ (digC Dig.zero ++ ([(Value.pointer x.ad), (Value.pointer y.ad)]))))) 98)]]) := hL.front 2 rfl rfl
    replace hL : Vg.Loc (keys [(KT.node b x y).ents 98]) w0 w13 ([[(b2, ob ([(v32 0), (Value.int .i32 0), (v32 0)] ++ (digC Dig.zero ++ (digC Dig.zero ++ (digC Dig.zero ++ ([(Value.pointer t2.ad), (Value.pointer y.ad)]))))) 98)], t2.ents 98, y.ents 98]) := hL.sub (.cons_cons _ (.cons_cons _ (.cons_cons _ (.cons _ (.cons _ .slnil)))))
    refine ⟨(KT.node b2 t2 y), rfl, hL.join (by simp [KT.ents, knotC, KT.ad, noLeaf]), ?_⟩
    simp_all [Rep, zerosL, onesL] <;> omega

theorem with_ok : ∀ (k n : Nat), n + k = 256 → WithOK Tryd.prog 32 98 n := by
  intro k
  induction k with
  | zero =>
    intro n hn t l S w hr hg hL
    cases t with
    | nil =>
      cases hr
      refine (with_nil l n w).mono ?_
      rintro e w' ⟨b, rfl, h⟩
      exact ⟨KT.leaf b l, rfl, h, by simp [Rep]⟩
    | leaf b old =>
      cases hr
      have := hg.lt (by simp)
      omega
    | node b x y =>
      have := hg.lt (by have := hr.1; simp; omega)
      omega
  | succ k ih =>
    intro n hn t l S w hr hg hL
    cases t with
    | nil =>
      cases hr
      refine (with_nil l n w).mono ?_
      rintro e w' ⟨b, rfl, h⟩
      exact ⟨KT.leaf b l, rfl, h, by simp [Rep]⟩
    | leaf b old =>
      cases hr
      exact with_leaf b old l n hg (ih (n + 1) (by omega)) w hL
    | node b x y => exact with_node b x y l S n hr hg (ih (n + 1) (by omega)) w hL
end Go.Proofs.YtcaffacganffjaaDoor
end
