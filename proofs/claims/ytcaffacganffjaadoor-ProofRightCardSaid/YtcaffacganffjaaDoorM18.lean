/- The walks of a part of the program: GAt. Printed by a program of the prover. The walks of a part of the program: GClone2. Printed by a program of the prover. The walks of a part of the program: GMake. Printed by a program of the prover. -/
import Derived.Test.YtcaffacganffjaaDoorM2
import Derived.Test.YtcaffacganffjaaDoorM6
import Derived.Test.YtcaffacganffjaaDoorM15
import Derived.Test.YtcaffacganffjaaDoorM17
import Derived.Test.YtcaffacganffjaaDoorM5
import Derived.Test.YtcaffacganffjaaDoorM14

section
namespace Go.Proofs.YtcaffacganffjaaDoor
open Go Go.Vg


set_option maxRecDepth 20000 in
set_option maxHeartbeats 1000000 in
theorem at1_spec (x : Leaf) (nb n : Nat) (hn : n < 256) (w0 : World) (hnb : Rd w0 nb 0 [vI (n : Int)]) :
    Calls Tryd.prog 25 #[(Value.agg (digC x.p ++ (digC x.v)).toArray), (vp nb 0)] w0 fun e w' => e = .returned (.bool (x.p.bit n)) ∧ Ext w0 w' := by
  refine c_enter (n := 8) (args := [(Value.agg (digC x.p ++ (digC x.v)).toArray), (vp nb 0)]) Tryd.func25 rfl rfl (Nat.le_of_ble_eq_true rfl) rfl (fun a hT => ?_)
  simp only [List.zipIdx_cons, List.zipIdx_nil, List.map_cons, List.map_nil, Nat.reduceAdd] at hT
  have hL := Vg.Loc.refl [] w0
  refine c_seq ?_
  refine c_region ?_
  refine l_do rfl ?_
  refine w_box hT hL (by decide) rfl (c := digC x.p ++ (digC x.v)) rfl ?_; clear hT hL; intro b1 a w1 hT hL hE hB
  refine l_q hT (q_assign hT rfl) rfl rfl (by decide) ?_; clear hT; intro a hT
  refine l_end ?_
  refine then_norm ?_
  refine c_seq ?_
  refine c_region ?_
  refine l_q hT (q_fieldAddr hT rfl Tryd.fld36_0 rfl) rfl rfl (by decide) ?_; clear hT; intro a hT
  refine l_q hT (q_load_agg hT rfl Tryd.ty24 (hL.rd 0 rfl 0 (ds := digC x.p) rfl) rfl) rfl rfl (by decide) ?_; clear hT; intro a hT
  refine l_q hT (q_load hT rfl Tryd.ty3 (Rd.loc hnb hL (by simp))) rfl rfl (by decide) ?_; clear hT; intro a hT
  refine l_do rfl ?_
  refine w_callT (xs := [.tmp 5, .tmp 6]) hT rfl (vs := [(Value.agg (digC x.p).toArray), (vI (n : Int))]) rfl (args := #[(Value.agg (digC x.p).toArray), (vI (n : Int))]) rfl Tryd.func12 rfl rfl (by decide) ((pright_spec x.p n (by omega) _).mono ?_)
  rintro e w2 ⟨rfl, hX⟩
  refine ⟨_, rfl, ?_⟩; clear hT; intro a hT; replace hT : Tm 8 a ((7, (Value.bool (x.p.bit n))) :: _) := hT
  replace hL := hL.ext hX
  refine l_q hT (q_assign hT rfl) rfl rfl (by decide) ?_; clear hT; intro a hT
  refine l_end ?_
  refine then_norm ?_
  refine wp_ret ?_
  refine c_ret (vs := [(Value.bool (x.p.bit n))]) (rs := [.tmp 3]) hT rfl (.tmp rfl .nil) ?_
  exact ⟨rfl, hL.drop⟩

set_option maxRecDepth 20000 in
set_option maxHeartbeats 1000000 in
theorem indexF_spec (ls : List Leaf) (p : Option Addr) (len cap : Nat) (nb n : Nat) (hn : n < 256) (hc : len ≤ 4096) (w0 : World) (hnb : Rd w0 nb 0 [vI (n : Int)]) (hsl : SlT w0 p len 64 leafC noLeaf ls) :
    Calls Tryd.prog 24 #[(Value.slice p len cap), (Value.func (Fn.func 25) #[] #[(vp nb 0)])] w0 fun e w' => ∃ r : Int, e = .returned (vI r) ∧ Ext w0 w' ∧ (r < 0 ↔ ∀ x ∈ ls, x.p.bit n = false) := by
  refine c_enter (n := 19) (args := [(Value.slice p len cap), (Value.func (Fn.func 25) #[] #[(vp nb 0)])]) Tryd.func24 rfl rfl (Nat.le_of_ble_eq_true rfl) rfl (fun a hT => ?_)
  simp only [List.zipIdx_cons, List.zipIdx_nil, List.map_cons, List.map_nil, Nat.reduceAdd] at hT
  have hL := Vg.Loc.refl [] w0
  have hlen : ls.length = len := hsl.1
  refine c_seq ?_
  refine c_region ?_
  refine l_q hT (q_assign hT rfl) rfl rfl (by decide) ?_; clear hT; intro a hT
  refine l_end ?_
  refine then_norm ?_
  refine c_seq ?_
  refine c_seq ?_
  refine c_region ?_
  refine l_q hT (q_move hT rfl) rfl rfl (by decide) ?_; clear hT; intro a hT
  refine l_q hT (q_len_slice hT rfl Tryd.underlying22) rfl rfl (by decide) ?_; clear hT; intro a hT
  refine l_q hT (q_move hT rfl) rfl rfl (by decide) ?_; clear hT; intro a hT
  refine l_end ?_
  refine then_norm ?_
  refine wp_block ?_
  refine c_loop (fun mz a wz => ∃ t : Nat, mz = len - t ∧ t ≤ len ∧ (∀ i, i < t → (ls.getD i noLeaf).p.bit n = false) ∧ Tm 19 a [(0, (Value.slice p len cap)), (1, (Value.func (Fn.func 25) #[] #[(vp nb 0)])), (4, (vI 0)), (7, (vI (len : Int))), (8, (vI (t : Int)))] ∧ Vg.Loc [] w0 wz []) id len ?_ ?_
  · exact ⟨0, rfl, by omega, fun i h1 => by omega, hT.keep [0, 1, 4, 7, 8] rfl, hL⟩
  clear hT hL
  rintro mz a w1 ⟨t, rfl, ht, hne, hT, hL⟩
  refine c_seq ?_
  refine c_region ?_
  refine l_q hT (q_lss hT rfl rfl) rfl rfl (by decide) ?_; clear hT; intro a hT
  refine l_end ?_
  refine then_norm ?_
  refine c_seq ?_
  refine c_if hT rfl (fun hc1 => ?_) (fun hc1 => ?_)
  · skip
    have hc1 := of_decide_eq_true hc1
    refine wp_skip ?_
    refine then_norm ?_
    refine c_seq ?_
    refine wp_block ?_
    refine c_seq ?_
    refine c_region ?_
    refine l_q hT (q_move hT rfl) rfl rfl (by decide) ?_; clear hT; intro a hT
    refine l_q hT (q_assign hT rfl) rfl rfl (by decide) ?_; clear hT; intro a hT
    refine l_end ?_
    refine then_norm ?_
    refine c_seq ?_
    refine c_region ?_
    refine l_q hT (q_move hT rfl) rfl rfl (by decide) ?_; clear hT; intro a hT
    refine l_q hT (q_move hT rfl) rfl rfl (by decide) ?_; clear hT; intro a hT
    refine l_q hT (q_move hT rfl) rfl rfl (by decide) ?_; clear hT; intro a hT
    obtain ⟨sb1, so1, hp1, hrd1⟩ := (hsl).2 (by omega)
    refine l_q hT (q_indexAddr (b := sb1) (off := so1) (len := len) (cap := cap) hT (by rw [← hp1]; rfl) rfl Tryd.sli22 (by omega) (by omega)) rfl rfl (by decide) ?_; clear hT; intro a hT
    refine l_q hT (q_load_agg hT rfl Tryd.ty36 (Rd.loc (hrd1 t (by omega)) hL (by simp)) rfl) rfl rfl (by decide) ?_; clear hT; intro a hT
    refine l_do rfl ?_
    refine w_callT (xs := [.tmp 15]) hT rfl (vs := [(Value.agg (digC ((ls.getD t noLeaf).p) ++ (digC ((ls.getD t noLeaf).v))).toArray)]) rfl (args := #[(Value.agg (digC ((ls.getD t noLeaf).p) ++ (digC ((ls.getD t noLeaf).v))).toArray), (vp nb 0)]) rfl Tryd.func25 rfl rfl (by decide) ((at1_spec (ls.getD t noLeaf) nb n hn _ (Rd.ext hnb hL.drop)).mono ?_)
    rintro e w2 ⟨rfl, hX⟩
    refine ⟨_, rfl, ?_⟩; clear hT; intro a hT; replace hT : Tm 19 a ((16, (Value.bool ((ls.getD t noLeaf).p.bit n))) :: _) := hT
    replace hL := hL.ext hX
    refine l_end ?_
    refine then_norm ?_
    refine c_if hT rfl (fun hc2 => ?_) (fun hc2 => ?_)
    · skip
      refine c_seq ?_
      refine c_region ?_
      refine l_q hT (q_move hT rfl) rfl rfl (by decide) ?_; clear hT; intro a hT
      refine l_q hT (q_assign hT rfl) rfl rfl (by decide) ?_; clear hT; intro a hT
      refine l_end ?_
      refine then_norm ?_
      refine wp_ret ?_
      refine blk_ret ?_
      refine then_ret ?_
      refine then_ret ?_
      refine blk_ret ?_
      refine then_ret ?_
      refine c_ret (vs := [(vI (t : Int))]) (rs := [.tmp 4]) hT rfl (.tmp rfl .nil) ?_
      refine ⟨_, rfl, hL.drop, fun h => by omega, fun h => ?_⟩; have h1 := h (ls.getD t noLeaf) (by rw [List.getD_eq_getElem?_getD, List.getElem?_eq_getElem (by omega)]; exact List.getElem_mem _); simp_all
    · skip
      refine wp_skip ?_
      refine blk_norm ?_
      refine then_norm ?_
      refine c_region ?_
      refine l_q hT (q_addI hT rfl rfl (r := (t : Int) + 1) rfl (by omega) (by omega)) rfl rfl (by decide) ?_; clear hT; intro a hT
      refine l_q hT (q_move hT rfl) rfl rfl (by decide) ?_; clear hT; intro a hT
      refine l_end ?_
      refine then_norm ?_
      have hne2 : ∀ i, i < t + 1 → (ls.getD i noLeaf).p.bit n = false := by
        intro i h1
        rcases Nat.lt_or_ge i t with q | q
        · exact hne i q
        · obtain rfl : i = t := by omega
          assumption
      exact ⟨_, ⟨t + 1, rfl, by omega, hne2, hT.keep [0, 1, 4, 7, 8] rfl, hL⟩, by simp only [id]; omega⟩
  · skip
    have hc1 := of_decide_eq_false hc1
    refine wp_exit ?_
    refine then_exit ?_
    refine then_exit ?_
    refine blk_exit ?_
    refine then_norm ?_
    refine c_seq ?_
    refine c_region ?_
    refine l_q hT (q_assign hT rfl) rfl rfl (by decide) ?_; clear hT; intro a hT
    refine l_end ?_
    refine then_norm ?_
    refine wp_ret ?_
    refine c_ret (vs := [(vI (-1))]) (rs := [.tmp 4]) hT rfl (.tmp rfl .nil) ?_
    refine ⟨_, rfl, hL.drop, fun _ x hx => ?_, fun _ => by decide⟩; obtain ⟨i, hi, rfl⟩ := List.mem_iff_getElem.1 hx; have := hne i (by omega); simpa [List.getD_eq_getElem?_getD, hi] using this

set_option maxRecDepth 20000 in
set_option maxHeartbeats 1000000 in
theorem at_nil (w : Int) (p : Option Addr) (cap n : Nat) (w0 : World) (hK : KeysAt w0) :
    Calls Tryd.prog 13 #[(vI w), (Value.slice p 0 cap), (vI (n : Int))] w0 fun e w' => e = .returned (dv (emptyD w)) ∧ Ext w0 w' := by
  refine c_enter (n := 70) (args := [(vI w), (Value.slice p 0 cap), (vI (n : Int))]) Tryd.func13 rfl rfl (Nat.le_of_ble_eq_true rfl) rfl (fun a hT => ?_)
  simp only [List.zipIdx_cons, List.zipIdx_nil, List.map_cons, List.map_nil, Nat.reduceAdd] at hT
  have hL := Vg.Loc.refl [] w0
  refine c_seq ?_
  refine c_region ?_
  refine l_do rfl ?_
  refine w_box hT hL (by decide) rfl (c := [(vI (n : Int))]) rfl ?_; clear hT hL; intro b1 a w1 hT hL hE hB
  refine l_do rfl ?_
  refine w_alloc hT hL (by decide) Tryd.ty24 ?_; clear hT hL; intro b2 a w2 hT hL hE hB
  refine l_end ?_
  refine then_norm ?_
  refine c_seq ?_
  refine c_seq ?_
  refine c_region ?_
  refine l_q hT (q_move hT rfl) rfl rfl (by decide) ?_; clear hT; intro a hT
  refine l_q hT (q_len_slice hT rfl Tryd.underlying22) rfl rfl (by decide) ?_; clear hT; intro a hT
  refine l_end ?_
  refine then_norm ?_
  refine wp_block ?_
  refine c_seq ?_
  refine c_region ?_
  refine l_q hT ((q_eql hT rfl rfl).b (b := true) rfl) rfl rfl (by decide) ?_; clear hT; intro a hT
  refine l_q hT (q_assign hT rfl) rfl rfl (by decide) ?_; clear hT; intro a hT
  refine l_end ?_
  refine then_norm ?_
  refine c_true hT rfl rfl ?_
  refine c_seq ?_
  refine c_region ?_
  refine l_q hT (q_move hT rfl) rfl rfl (by decide) ?_; clear hT; intro a hT
  refine l_do rfl ?_
  refine w_callT (xs := [.tmp 16]) hT rfl (vs := [(vI w)]) rfl (args := #[(vI w)]) rfl Tryd.func21 rfl rfl (by decide) ((Empty_spec (w) _ (hK.of hL (by simp))).mono ?_)
  rintro e w3 ⟨rfl, hX⟩
  refine ⟨_, rfl, ?_⟩; clear hT; intro a hT; replace hT : Tm 70 a ((17, (Value.agg (digC (emptyD w)).toArray)) :: _) := hT
  replace hL := hL.ext hX
  refine l_do rfl ?_
  refine w_store hT hL 0 (c := digC Dig.zero) rfl rfl Tryd.ty24 rfl (vs := digC (emptyD w)) rfl rfl (by first | decide | (simp [arr32_len, arr8_len, digC_len]; done) | (simp [arr32_len, arr8_len, digC_len]; omega)) rfl (c' := digC (emptyD w)) rfl ?_; clear hL; intro w4 hL hE
  replace hL : Vg.Loc [] w0 w4 ([[(b2, ob (digC (emptyD w)) 24)], [(b1, ob [(vI (n : Int))] 3)]]) := hL
  refine l_end ?_
  refine then_norm ?_
  refine wp_ret ?_
  refine blk_ret ?_
  refine then_ret ?_
  refine c_ret (vs := [(Value.agg (digC (emptyD w)).toArray)]) (rs := [.cell 6 24]) hT rfl (.agg rfl Tryd.ty24 (hL.rd 0 rfl 0 (ds := digC (emptyD w)) rfl) rfl .nil) ?_
  exact ⟨rfl, hL.drop⟩

set_option maxRecDepth 20000 in
set_option maxHeartbeats 1000000 in
theorem at_one (w : Int) (x : Leaf) (p : Option Addr) (cap n : Nat) (w0 : World) (hK : KeysAt w0) (hsl : SlT w0 p 1 64 leafC noLeaf [x]) :
    Calls Tryd.prog 13 #[(vI w), (Value.slice p 1 cap), (vI (n : Int))] w0 fun e w' => e = .returned (dv (leafD w x)) ∧ Ext w0 w' := by
  refine c_enter (n := 70) (args := [(vI w), (Value.slice p 1 cap), (vI (n : Int))]) Tryd.func13 rfl rfl (Nat.le_of_ble_eq_true rfl) rfl (fun a hT => ?_)
  simp only [List.zipIdx_cons, List.zipIdx_nil, List.map_cons, List.map_nil, Nat.reduceAdd] at hT
  have hL := Vg.Loc.refl [] w0
  refine c_seq ?_
  refine c_region ?_
  refine l_do rfl ?_
  refine w_box hT hL (by decide) rfl (c := [(vI (n : Int))]) rfl ?_; clear hT hL; intro b1 a w1 hT hL hE hB
  refine l_do rfl ?_
  refine w_alloc hT hL (by decide) Tryd.ty24 ?_; clear hT hL; intro b2 a w2 hT hL hE hB
  refine l_end ?_
  refine then_norm ?_
  refine c_seq ?_
  refine c_seq ?_
  refine c_region ?_
  refine l_q hT (q_move hT rfl) rfl rfl (by decide) ?_; clear hT; intro a hT
  refine l_q hT (q_len_slice hT rfl Tryd.underlying22) rfl rfl (by decide) ?_; clear hT; intro a hT
  refine l_end ?_
  refine then_norm ?_
  refine wp_block ?_
  refine c_seq ?_
  refine c_region ?_
  refine l_q hT ((q_eql hT rfl rfl).b (b := false) rfl) rfl rfl (by decide) ?_; clear hT; intro a hT
  refine l_q hT (q_assign hT rfl) rfl rfl (by decide) ?_; clear hT; intro a hT
  refine l_end ?_
  refine then_norm ?_
  refine c_false hT rfl rfl ?_
  refine c_seq ?_
  refine c_region ?_
  refine l_q hT ((q_eql hT rfl rfl).b (b := true) rfl) rfl rfl (by decide) ?_; clear hT; intro a hT
  refine l_q hT (q_assign hT rfl) rfl rfl (by decide) ?_; clear hT; intro a hT
  refine l_end ?_
  refine then_norm ?_
  refine c_true hT rfl rfl ?_
  refine c_seq ?_
  refine c_region ?_
  refine l_q hT (q_move hT rfl) rfl rfl (by decide) ?_; clear hT; intro a hT
  refine l_q hT (q_move hT rfl) rfl rfl (by decide) ?_; clear hT; intro a hT
  obtain ⟨sb1, so1, hp1, hrd1⟩ := (hsl).2 (by omega)
  refine l_q hT (q_indexAddr (b := sb1) (off := so1) (len := 1) (cap := cap) hT (by rw [← hp1]; rfl) rfl Tryd.sli22 (by omega) (by omega)) rfl rfl (by decide) ?_; clear hT; intro a hT
  refine l_q hT (q_load_agg hT rfl Tryd.ty36 (Rd.loc (hrd1 0 (by omega)) hL (by simp)) rfl) rfl rfl (by decide) ?_; clear hT; intro a hT
  refine l_do rfl ?_
  refine w_callT (xs := [.tmp 20, .tmp 23]) hT rfl (vs := [(vI w), (Value.agg (digC x.p ++ (digC x.v)).toArray)]) rfl (args := #[(vI w), (Value.agg (digC x.p ++ (digC x.v)).toArray)]) rfl Tryd.func16 rfl rfl (by decide) ((Leaf_spec (w) x _ (hK.of hL (by simp))).mono ?_)
  rintro e w3 ⟨rfl, hX⟩
  refine ⟨_, rfl, ?_⟩; clear hT; intro a hT; replace hT : Tm 70 a ((24, (Value.agg (digC (leafD w x)).toArray)) :: _) := hT
  replace hL := hL.ext hX
  refine l_do rfl ?_
  refine w_store hT hL 0 (c := digC Dig.zero) rfl rfl Tryd.ty24 rfl (vs := digC (leafD w x)) rfl rfl (by first | decide | (simp [arr32_len, arr8_len, digC_len]; done) | (simp [arr32_len, arr8_len, digC_len]; omega)) rfl (c' := digC (leafD w x)) rfl ?_; clear hL; intro w4 hL hE
  replace hL : Vg.Loc [] w0 w4 ([[(b2, ob (digC (leafD w x)) 24)], [(b1, ob [(vI (n : Int))] 3)]]) := hL
  refine l_end ?_
  refine then_norm ?_
  refine wp_ret ?_
  refine blk_ret ?_
  refine then_ret ?_
  refine c_ret (vs := [(Value.agg (digC (leafD w x)).toArray)]) (rs := [.cell 6 24]) hT rfl (.agg rfl Tryd.ty24 (hL.rd 0 rfl 0 (ds := digC (leafD w x)) rfl) rfl .nil) ?_
  exact ⟨rfl, hL.drop⟩

set_option maxRecDepth 100000 in
set_option maxHeartbeats 4000000 in
theorem at_step (w : Int) (k : Nat) (ih : AtOK Tryd.prog 13 w k) (ls : List Leaf) (p : Option Addr) (len cap n : Nat) (hc : len ≤ 4096) (hln : 2 ≤ len) (hk : k + 1 + n = 257) (hgd : GoodL ls n) (w0 : World) (hK : KeysAt w0) (hsl : SlT w0 p len 64 leafC noLeaf ls) :
    Calls Tryd.prog 13 #[(vI w), (Value.slice p len cap), (vI (n : Int))] w0 fun e w' => e = .returned (dv (dg w (k + 1) ls n)) ∧ Ext w0 w' := by
  refine c_enter (n := 70) (args := [(vI w), (Value.slice p len cap), (vI (n : Int))]) Tryd.func13 rfl rfl (Nat.le_of_ble_eq_true rfl) rfl (fun a hT => ?_)
  simp only [List.zipIdx_cons, List.zipIdx_nil, List.map_cons, List.map_nil, Nat.reduceAdd] at hT
  have hL := Vg.Loc.refl [] w0
  have hlen : ls.length = len := hsl.1
  have h2 : 2 ≤ ls.length := by omega
  have hn : n < 256 := hgd.lt h2
  refine c_seq ?_
  refine c_region ?_
  refine l_do rfl ?_
  refine w_box hT hL (by decide) rfl (c := [(vI (n : Int))]) rfl ?_; clear hT hL; intro b1 a w1 hT hL hE hB
  refine l_do rfl ?_
  refine w_alloc hT hL (by decide) Tryd.ty24 ?_; clear hT hL; intro b2 a w2 hT hL hE hB
  refine l_end ?_
  refine then_norm ?_
  refine c_seq ?_
  refine c_seq ?_
  refine c_region ?_
  refine l_q hT (q_move hT rfl) rfl rfl (by decide) ?_; clear hT; intro a hT
  refine l_q hT (q_len_slice hT rfl Tryd.underlying22) rfl rfl (by decide) ?_; clear hT; intro a hT
  refine l_end ?_
  refine then_norm ?_
  refine wp_block ?_
  refine c_seq ?_
  refine c_region ?_
  refine l_q hT ((q_eql hT rfl rfl).b (c := decide ((len : Int) = 0)) (b := false) (decide_eq_false (by omega))) rfl rfl (by decide) ?_; clear hT; intro a hT
  refine l_q hT (q_assign hT rfl) rfl rfl (by decide) ?_; clear hT; intro a hT
  refine l_end ?_
  refine then_norm ?_
  refine c_false hT rfl rfl ?_
  refine c_seq ?_
  refine c_region ?_
  refine l_q hT ((q_eql hT rfl rfl).b (c := decide ((len : Int) = 1)) (b := false) (decide_eq_false (by omega))) rfl rfl (by decide) ?_; clear hT; intro a hT
  refine l_q hT (q_assign hT rfl) rfl rfl (by decide) ?_; clear hT; intro a hT
  refine l_end ?_
  refine then_norm ?_
  refine c_false hT rfl rfl ?_
  refine wp_skip ?_
  refine blk_norm ?_
  refine then_norm ?_
  refine c_seq ?_
  refine c_region ?_
  refine l_q hT (q_move hT rfl) rfl rfl (by decide) ?_; clear hT; intro a hT
  refine l_q hT (q_makeFunc (fs := []) (cs := [.tmp 5]) hT rfl rfl) rfl rfl (by decide) ?_; clear hT; intro a hT
  refine l_do rfl ?_
  refine w_callT (xs := [.tmp 25, .tmp 26]) hT rfl (vs := [(Value.slice p len cap), (Value.func (Fn.func 25) #[] #[(vp b1 0)])]) rfl (args := #[(Value.slice p len cap), (Value.func (Fn.func 25) #[] #[(vp b1 0)])]) rfl Tryd.func24 rfl rfl (by decide) ((indexF_spec ls p len cap b1 n (by omega) hc _ (hL.rd 1 rfl 0 rfl) (hsl.ext hL)).mono ?_)
  rintro e w3 ⟨r, rfl, hX, hix⟩
  refine ⟨_, rfl, ?_⟩; clear hT; intro a hT; replace hT : Tm 70 a ((27, (vI r)) :: _) := hT
  replace hL := hL.ext hX
  refine l_q hT (q_assign hT rfl) rfl rfl (by decide) ?_; clear hT; intro a hT
  refine l_end ?_
  refine then_norm ?_
  refine c_seq ?_
  refine c_seq ?_
  refine c_region ?_
  refine l_q hT (q_move hT rfl) rfl rfl (by decide) ?_; clear hT; intro a hT
  refine l_q hT (q_lss hT rfl rfl) rfl rfl (by decide) ?_; clear hT; intro a hT
  refine l_end ?_
  refine then_norm ?_
  refine c_if hT rfl (fun hc1 => ?_) (fun hc1 => ?_)
  · skip
    have hc1 := of_decide_eq_true hc1
    refine c_seq ?_
    refine c_region ?_
    refine l_q hT (q_move hT rfl) rfl rfl (by decide) ?_; clear hT; intro a hT
    refine l_q hT (q_move hT rfl) rfl rfl (by decide) ?_; clear hT; intro a hT
    refine l_q hT (q_move hT rfl) rfl rfl (by decide) ?_; clear hT; intro a hT
    refine l_q hT (q_load hT rfl Tryd.ty3 (hL.rd 1 rfl 0 (ds := [(vI (n : Int))]) rfl)) rfl rfl (by decide) ?_; clear hT; intro a hT
    refine l_q hT ((q_addI hT rfl rfl (r := (n : Int) + 1) rfl (by omega) (by omega)).v (v := (vI ((n + 1 : Nat) : Int))) (rfl)) rfl rfl (by decide) ?_; clear hT; intro a hT
    refine l_do rfl ?_
    refine w_callT (xs := [.tmp 31, .tmp 32, .tmp 34]) hT rfl (vs := [(vI w), (Value.slice p len cap), (vI ((n + 1 : Nat) : Int))]) rfl (args := #[(vI w), (Value.slice p len cap), (vI ((n + 1 : Nat) : Int))]) rfl Tryd.func13 rfl rfl (by decide) ((ih ls p len cap (n + 1) _ (hK.of hL (by simp)) (hsl.ext hL) (hgd.left (hix.1 (by omega))) (by omega) (by omega) hc).mono ?_)
    rintro e w4 ⟨rfl, hX⟩
    refine ⟨_, rfl, ?_⟩; clear hT; intro a hT; replace hT : Tm 70 a ((35, (Value.agg (digC (dg w k ls (n + 1))).toArray)) :: _) := hT
    replace hL := hL.ext hX
    refine l_q hT (q_move hT rfl) rfl rfl (by decide) ?_; clear hT; intro a hT
    refine l_do rfl ?_
    refine w_callT (xs := [.tmp 36]) hT rfl (vs := [(vI w)]) rfl (args := #[(vI w)]) rfl Tryd.func21 rfl rfl (by decide) ((Empty_spec (w) _ (hK.of hL (by simp))).mono ?_)
    rintro e w5 ⟨rfl, hX⟩
    refine ⟨_, rfl, ?_⟩; clear hT; intro a hT; replace hT : Tm 70 a ((37, (Value.agg (digC (emptyD w)).toArray)) :: _) := hT
    replace hL := hL.ext hX
    refine l_do rfl ?_
    refine w_callT (xs := [.tmp 30, .tmp 35, .tmp 37]) hT rfl (vs := [(vI w), (Value.agg (digC (dg w k ls (n + 1))).toArray), (Value.agg (digC (emptyD w)).toArray)]) rfl (args := #[(vI w), (Value.agg (digC (dg w k ls (n + 1))).toArray), (Value.agg (digC (emptyD w)).toArray)]) rfl Tryd.func26 rfl rfl (by decide) ((Node_spec (w) (dg w k ls (n + 1)) (emptyD w) _ (hK.of hL (by simp))).mono ?_)
    rintro e w6 ⟨rfl, hX⟩
    refine ⟨_, rfl, ?_⟩; clear hT; intro a hT; replace hT : Tm 70 a ((38, (Value.agg (digC (nodeD w (dg w k ls (n + 1)) (emptyD w))).toArray)) :: _) := hT
    replace hL := hL.ext hX
    refine l_do rfl ?_
    refine w_store hT hL 0 (c := digC Dig.zero) rfl rfl Tryd.ty24 rfl (vs := digC (nodeD w (dg w k ls (n + 1)) (emptyD w))) rfl rfl (by first | decide | (simp [arr32_len, arr8_len, digC_len]; done) | (simp [arr32_len, arr8_len, digC_len]; omega)) rfl (c' := digC (nodeD w (dg w k ls (n + 1)) (emptyD w))) rfl ?_; clear hL; intro w7 hL hE
    replace hL : Vg.Loc [] w0 w7 ([[(b2, ob (digC (nodeD w (dg w k ls (n + 1)) (emptyD w))) 24)], [(b1, ob [(vI (n : Int))] 3)]]) := hL
    refine l_end ?_
    refine then_norm ?_
    refine wp_ret ?_
    refine then_ret ?_
    refine c_ret (vs := [(Value.agg (digC (nodeD w (dg w k ls (n + 1)) (emptyD w))).toArray)]) (rs := [.cell 6 24]) hT rfl (.agg rfl Tryd.ty24 (hL.rd 0 rfl 0 (ds := digC (nodeD w (dg w k ls (n + 1)) (emptyD w))) rfl) rfl .nil) ?_
    exact ⟨by rw [dg_left h2 (hix.1 (by omega))]; rfl, hL.drop⟩
  · skip
    have hc1 := of_decide_eq_false hc1
    refine wp_skip ?_
    refine then_norm ?_
    refine c_seq ?_
    refine c_region ?_
    refine l_q hT (q_assign hT rfl) rfl rfl (by decide) ?_; clear hT; intro a hT
    refine l_q hT (q_assign hT rfl) rfl rfl (by decide) ?_; clear hT; intro a hT
    refine l_end ?_
    refine then_norm ?_
    refine c_seq ?_
    refine c_seq ?_
    refine c_region ?_
    refine l_q hT (q_move hT rfl) rfl rfl (by decide) ?_; clear hT; intro a hT
    refine l_q hT (q_len_slice hT rfl Tryd.underlying22) rfl rfl (by decide) ?_; clear hT; intro a hT
    refine l_q hT (q_move hT rfl) rfl rfl (by decide) ?_; clear hT; intro a hT
    refine l_end ?_
    refine then_norm ?_
    refine wp_block ?_
    refine c_loop (fun mz a wz => ∃ (t : Nat) (p0 p1 : Option Addr) (n0 n1 cp0 cp1 : Nat) (c0 c1 : Chunk), mz = len - t ∧ t ≤ len ∧ n0 + n1 = t ∧ OwnE leafC 64 36 p0 n0 cp0 (zerosL (ls.take t) n) c0 ∧ OwnE leafC 64 36 p1 n1 cp1 (onesL (ls.take t) n) c1 ∧ Tm 70 a [(0, (vI w)), (1, (Value.slice p len cap)), (5, (vp b1 0)), (6, (vp b2 0)), (8, (Value.slice p0 n0 cp0)), (9, (Value.slice p1 n1 cp1)), (39, (Value.slice p len cap)), (40, (vI (len : Int))), (41, (vI (t : Int)))] ∧ Vg.Loc [] w0 wz [[(b2, ob (digC Dig.zero) 24)], [(b1, ob [(vI (n : Int))] 3)], c0, c1]) id len ?_ ?_
    · exact ⟨0, none, none, 0, 0, 0, 0, [], [], rfl, by omega, rfl, by simpa [zerosL] using OwnE.nil, by simpa [onesL] using OwnE.nil, hT.keep [0, 1, 5, 6, 8, 9, 39, 40, 41] rfl, hL.regroup (by simp)⟩
    clear hT hL
    rintro mz a w8 ⟨t, p0, p1, n0, n1, cp0, cp1, c0, c1, rfl, ht, hn01, hz, ho, hT, hL⟩
    refine c_seq ?_
    refine c_region ?_
    refine l_q hT (q_lss hT rfl rfl) rfl rfl (by decide) ?_; clear hT; intro a hT
    refine l_end ?_
    refine then_norm ?_
    refine c_seq ?_
    refine c_if hT rfl (fun hc2 => ?_) (fun hc2 => ?_)
    · skip
      have hc2 := of_decide_eq_true hc2
      refine wp_skip ?_
      refine then_norm ?_
      refine c_seq ?_
      refine wp_block ?_
      refine c_seq ?_
      refine c_region ?_
      obtain ⟨sb1, so1, hp1, hrd1⟩ := (hsl).2 (by omega)
      refine l_q hT (q_indexAddr (b := sb1) (off := so1) (len := len) (cap := cap) hT (by rw [← hp1]; rfl) rfl Tryd.sli22 (by omega) (by omega)) rfl rfl (by decide) ?_; clear hT; intro a hT
      refine l_q hT (q_load_agg hT rfl Tryd.ty36 (Rd.loc (hrd1 t (by omega)) hL (by simp)) rfl) rfl rfl (by decide) ?_; clear hT; intro a hT
      refine l_do rfl ?_
      refine w_alloc hT hL (by decide) Tryd.ty36 ?_; clear hT hL; intro b3 a w9 hT hL hE hB
      refine l_do rfl ?_
      refine w_store hT hL 0 (c := digC Dig.zero ++ (digC Dig.zero)) rfl rfl Tryd.ty36 rfl (vs := digC ((ls.getD t noLeaf).p) ++ (digC ((ls.getD t noLeaf).v))) rfl rfl (by first | decide | (simp [arr32_len, arr8_len, digC_len]; done) | (simp [arr32_len, arr8_len, digC_len]; omega)) rfl (c' := digC ((ls.getD t noLeaf).p) ++ (digC ((ls.getD t noLeaf).v))) rfl ?_; clear hL; intro w10 hL hE
      replace hL : Vg.Loc [] w0 w10 ([[(b3, ob (digC ((ls.getD t noLeaf).p) ++ (digC ((ls.getD t noLeaf).v))) 36)], [(b2, ob (digC Dig.zero) 24)], [(b1, ob [(vI (n : Int))] 3)], c0, c1]) := hL
      refine l_end ?_
      refine then_norm ?_
      refine c_seq ?_
      refine c_region ?_
      refine l_q hT (q_fieldAddr hT rfl Tryd.fld36_0 rfl) rfl rfl (by decide) ?_; clear hT; intro a hT
      refine l_q hT (q_load_agg hT rfl Tryd.ty24 (hL.rd 0 rfl 0 (ds := digC ((ls.getD t noLeaf).p)) rfl) rfl) rfl rfl (by decide) ?_; clear hT; intro a hT
      refine l_q hT (q_load hT rfl Tryd.ty3 (hL.rd 2 rfl 0 (ds := [(vI (n : Int))]) rfl)) rfl rfl (by decide) ?_; clear hT; intro a hT
      refine l_do rfl ?_
      refine w_callT (xs := [.tmp 46, .tmp 47]) hT rfl (vs := [(Value.agg (digC ((ls.getD t noLeaf).p)).toArray), (vI (n : Int))]) rfl (args := #[(Value.agg (digC ((ls.getD t noLeaf).p)).toArray), (vI (n : Int))]) rfl Tryd.func12 rfl rfl (by decide) ((pright_spec ((ls.getD t noLeaf).p) n (by omega) _).mono ?_)
      rintro e w11 ⟨rfl, hX⟩
      refine ⟨_, rfl, ?_⟩; clear hT; intro a hT; replace hT : Tm 70 a ((48, (Value.bool (((ls.getD t noLeaf).p).bit n))) :: _) := hT
      replace hL := hL.ext hX
      refine l_end ?_
      refine then_norm ?_
      refine c_if hT rfl (fun hc3 => ?_) (fun hc3 => ?_)
      · skip
        refine c_region ?_
        refine l_q hT (q_move hT rfl) rfl rfl (by decide) ?_; clear hT; intro a hT
        refine l_q hT (q_load_agg hT rfl Tryd.ty36 (hL.rd 0 rfl 0 (ds := digC ((ls.getD t noLeaf).p) ++ (digC ((ls.getD t noLeaf).v))) rfl) rfl) rfl rfl (by decide) ?_; clear hT; intro a hT
        refine l_do rfl ?_
        refine w_buildSlice (e := 36) (ps := [(0, .tmp 50)]) (pv := [(0, (Value.agg (digC ((ls.getD t noLeaf).p) ++ (digC ((ls.getD t noLeaf).v))).toArray))]) (c := digC ((ls.getD t noLeaf).p) ++ (digC ((ls.getD t noLeaf).v))) hT hL (by decide) rfl (fun _ => by kernel_rfl) ?_; clear hT hL; intro b4 a w12 hT hL hE hB
        refine l_do rfl ?_
        refine w_append hT hL (by decide) 5 rfl rfl rfl Tryd.app22 (by decide) rfl ho.2 (Src.one (xs := digC ((ls.getD t noLeaf).p) ++ (digC ((ls.getD t noLeaf).v))) rfl (leafC_one (ls.getD t noLeaf)) (hL.rd 0 rfl 0 rfl)) (by omega) (by simp only [maxLen]; omega) ?_; clear hT hL; intro p1 cap1 ck1 a w13 how1 hT hL
        replace hL : Vg.Loc [] w0 w13 ([[(b4, ob (digC ((ls.getD t noLeaf).p) ++ (digC ((ls.getD t noLeaf).v))) 36)], [(b3, ob (digC ((ls.getD t noLeaf).p) ++ (digC ((ls.getD t noLeaf).v))) 36)], [(b2, ob (digC Dig.zero) 24)], [(b1, ob [(vI (n : Int))] 3)], c0, ck1]) := hL
        have hoe1 := OwnE.snoc (x := (ls.getD t noLeaf)) ho how1
        refine l_q hT (q_assign hT rfl) rfl rfl (by decide) ?_; clear hT; intro a hT
        refine l_end ?_
        refine blk_norm ?_
        refine then_norm ?_
        refine c_region ?_
        refine l_q hT (q_addI hT rfl rfl (r := (t : Int) + 1) rfl (by omega) (by omega)) rfl rfl (by decide) ?_; clear hT; intro a hT
        refine l_q hT (q_move hT rfl) rfl rfl (by decide) ?_; clear hT; intro a hT
        refine l_end ?_
        refine then_norm ?_
        replace hL : Vg.Loc [] w0 w13 ([ck1, [(b4, ob (digC ((ls.getD t noLeaf).p) ++ (digC ((ls.getD t noLeaf).v))) 36)], [(b3, ob (digC ((ls.getD t noLeaf).p) ++ (digC ((ls.getD t noLeaf).v))) 36)], [(b2, ob (digC Dig.zero) 24)], [(b1, ob [(vI (n : Int))] 3)], c0]) := hL.front 5 rfl rfl
        replace hL : Vg.Loc [] w0 w13 ([c0, ck1, [(b4, ob (digC ((ls.getD t noLeaf).p) ++ (digC ((ls.getD t noLeaf).v))) 36)], [(b3, ob (digC ((ls.getD t noLeaf).p) ++ (digC ((ls.getD t noLeaf).v))) 36)], [(b2, ob (digC Dig.zero) 24)], [(b1, ob [(vI (n : Int))] 3)]]) := hL.front 5 rfl rfl
        replace hL : Vg.Loc [] w0 w13 ([[(b1, ob [(vI (n : Int))] 3)], c0, ck1, [(b4, ob (digC ((ls.getD t noLeaf).p) ++ (digC ((ls.getD t noLeaf).v))) 36)], [(b3, ob (digC ((ls.getD t noLeaf).p) ++ (digC ((ls.getD t noLeaf).v))) 36)], [(b2, ob (digC Dig.zero) 24)]]) := hL.front 5 rfl rfl
        replace hL : Vg.Loc [] w0 w13 ([[(b2, ob (digC Dig.zero) 24)], [(b1, ob [(vI (n : Int))] 3)], c0, ck1, [(b4, ob (digC ((ls.getD t noLeaf).p) ++ (digC ((ls.getD t noLeaf).v))) 36)], [(b3, ob (digC ((ls.getD t noLeaf).p) ++ (digC ((ls.getD t noLeaf).v))) 36)]]) := hL.front 5 rfl rfl
        replace hL : Vg.Loc [] w0 w13 ([[(b2, ob (digC Dig.zero) 24)], [(b1, ob [(vI (n : Int))] 3)], c0, ck1]) := hL.sub (.cons_cons _ (.cons_cons _ (.cons_cons _ (.cons_cons _ (.cons _ (.cons _ .slnil))))))
        have hzz := zerosL_snoc (n := n) (show t < ls.length by omega); have hoo := onesL_snoc (n := n) (show t < ls.length by omega)
        simp only [hc3, if_true, if_false, Bool.false_eq_true] at hzz hoo
        exact ⟨_, ⟨t + 1, _, _, _, _, _, _, _, _, rfl, by omega, by omega, hzz ▸ hz, hoo ▸ hoe1, hT.keep [0, 1, 5, 6, 8, 9, 39, 40, 41] rfl, hL⟩, by simp only [id]; omega⟩
      · skip
        refine c_region ?_
        refine l_q hT (q_move hT rfl) rfl rfl (by decide) ?_; clear hT; intro a hT
        refine l_q hT (q_load_agg hT rfl Tryd.ty36 (hL.rd 0 rfl 0 (ds := digC ((ls.getD t noLeaf).p) ++ (digC ((ls.getD t noLeaf).v))) rfl) rfl) rfl rfl (by decide) ?_; clear hT; intro a hT
        refine l_do rfl ?_
        refine w_buildSlice (e := 36) (ps := [(0, .tmp 54)]) (pv := [(0, (Value.agg (digC ((ls.getD t noLeaf).p) ++ (digC ((ls.getD t noLeaf).v))).toArray))]) (c := digC ((ls.getD t noLeaf).p) ++ (digC ((ls.getD t noLeaf).v))) hT hL (by decide) rfl (fun _ => by kernel_rfl) ?_; clear hT hL; intro b5 a w14 hT hL hE hB
        refine l_do rfl ?_
        refine w_append hT hL (by decide) 4 rfl rfl rfl Tryd.app22 (by decide) rfl hz.2 (Src.one (xs := digC ((ls.getD t noLeaf).p) ++ (digC ((ls.getD t noLeaf).v))) rfl (leafC_one (ls.getD t noLeaf)) (hL.rd 0 rfl 0 rfl)) (by omega) (by simp only [maxLen]; omega) ?_; clear hT hL; intro p2 cap2 ck2 a w15 how2 hT hL
        replace hL : Vg.Loc [] w0 w15 ([[(b5, ob (digC ((ls.getD t noLeaf).p) ++ (digC ((ls.getD t noLeaf).v))) 36)], [(b3, ob (digC ((ls.getD t noLeaf).p) ++ (digC ((ls.getD t noLeaf).v))) 36)], [(b2, ob (digC Dig.zero) 24)], [(b1, ob [(vI (n : Int))] 3)], ck2, c1]) := hL
        have hoe2 := OwnE.snoc (x := (ls.getD t noLeaf)) hz how2
        refine l_q hT (q_assign hT rfl) rfl rfl (by decide) ?_; clear hT; intro a hT
        refine l_end ?_
        refine blk_norm ?_
        refine then_norm ?_
        refine c_region ?_
        refine l_q hT (q_addI hT rfl rfl (r := (t : Int) + 1) rfl (by omega) (by omega)) rfl rfl (by decide) ?_; clear hT; intro a hT
        refine l_q hT (q_move hT rfl) rfl rfl (by decide) ?_; clear hT; intro a hT
        refine l_end ?_
        refine then_norm ?_
        replace hL : Vg.Loc [] w0 w15 ([c1, [(b5, ob (digC ((ls.getD t noLeaf).p) ++ (digC ((ls.getD t noLeaf).v))) 36)], [(b3, ob (digC ((ls.getD t noLeaf).p) ++ (digC ((ls.getD t noLeaf).v))) 36)], [(b2, ob (digC Dig.zero) 24)], [(b1, ob [(vI (n : Int))] 3)], ck2]) := hL.front 5 rfl rfl
        replace hL : Vg.Loc [] w0 w15 ([ck2, c1, [(b5, ob (digC ((ls.getD t noLeaf).p) ++ (digC ((ls.getD t noLeaf).v))) 36)], [(b3, ob (digC ((ls.getD t noLeaf).p) ++ (digC ((ls.getD t noLeaf).v))) 36)], [(b2, ob (digC Dig.zero) 24)], [(b1, ob [(vI (n : Int))] 3)]]) := hL.front 5 rfl rfl
        replace hL : Vg.Loc [] w0 w15 ([[(b1, ob [(vI (n : Int))] 3)], ck2, c1, [(b5, ob (digC ((ls.getD t noLeaf).p) ++ (digC ((ls.getD t noLeaf).v))) 36)], [(b3, ob (digC ((ls.getD t noLeaf).p) ++ (digC ((ls.getD t noLeaf).v))) 36)], [(b2, ob (digC Dig.zero) 24)]]) := hL.front 5 rfl rfl
        replace hL : Vg.Loc [] w0 w15 ([[(b2, ob (digC Dig.zero) 24)], [(b1, ob [(vI (n : Int))] 3)], ck2, c1, [(b5, ob (digC ((ls.getD t noLeaf).p) ++ (digC ((ls.getD t noLeaf).v))) 36)], [(b3, ob (digC ((ls.getD t noLeaf).p) ++ (digC ((ls.getD t noLeaf).v))) 36)]]) := hL.front 5 rfl rfl
        replace hL : Vg.Loc [] w0 w15 ([[(b2, ob (digC Dig.zero) 24)], [(b1, ob [(vI (n : Int))] 3)], ck2, c1]) := hL.sub (.cons_cons _ (.cons_cons _ (.cons_cons _ (.cons_cons _ (.cons _ (.cons _ .slnil))))))
        have hzz := zerosL_snoc (n := n) (show t < ls.length by omega); have hoo := onesL_snoc (n := n) (show t < ls.length by omega)
        simp only [hc3, if_true, if_false, Bool.false_eq_true] at hzz hoo
        exact ⟨_, ⟨t + 1, _, _, _, _, _, _, _, _, rfl, by omega, by omega, hzz ▸ hoe2, hoo ▸ ho, hT.keep [0, 1, 5, 6, 8, 9, 39, 40, 41] rfl, hL⟩, by simp only [id]; omega⟩
    · skip
      have hc2 := of_decide_eq_false hc2
      obtain rfl : t = len := by omega
      have hf : ls.take t = ls := List.take_of_length_le (by omega)
      rw [hf] at hz ho
      refine wp_exit ?_
      refine then_exit ?_
      refine then_exit ?_
      refine blk_exit ?_
      refine then_norm ?_
      refine c_seq ?_
      refine d_start' hL #[false, false, false, false, false, false, false, false, false, false, false, false, false] [12] rfl rfl rfl ?_; clear hL; intro w16 hL hE; have hR := hL; have hS := Ext.refl w16
      refine d_pure (i := 0) hT #[true, false, false, false, false, false, false, false, false, false, false, false, false] rfl (by kernel_rfl) rfl rfl (by decide) (fun _ _ _ h => h) (fun _ => q_move hT rfl) ?_; clear hT; intro a hT
      refine d_pure (i := 1) hT #[true, true, false, false, false, false, false, false, false, false, false, false, false] rfl (by kernel_rfl) rfl rfl (by decide) (fun _ _ _ h => h) (fun _ => q_move hT rfl) ?_; clear hT; intro a hT
      refine d_pure (i := 2) hT #[true, true, true, false, false, false, false, false, false, false, false, false, false] rfl (by kernel_rfl) rfl rfl (by decide) (fun _ _ _ h => h) (fun _ => q_move hT rfl) ?_; clear hT; intro a hT
      refine d_pure (i := 6) hT #[true, true, true, false, false, false, true, false, false, false, false, false, false] rfl (by kernel_rfl) rfl rfl (by decide) (fun _ _ _ h => h) (fun _ => q_move hT rfl) ?_; clear hT; intro a hT
      refine d_pure (i := 7) hT #[true, true, true, false, false, false, true, true, false, false, false, false, false] rfl (by kernel_rfl) rfl rfl (by decide) (fun _ _ _ h => h) (fun _ => q_move hT rfl) ?_; clear hT; intro a hT
      refine d_take (i := 3) hT #[true, true, true, true, false, false, true, true, false, false, false, false, false] rfl (by kernel_rfl) rfl rfl (by decide) (fun _ _ _ h => h) (fun _ hs => q_load hT rfl Tryd.ty3 (Rd.ext (hR.rd 1 rfl 0 (ds := [(vI (n : Int))]) rfl) hs)) hS ?_; clear hT; intro a hT
      refine d_pure (i := 4) hT #[true, true, true, true, true, false, true, true, false, false, false, false, false] rfl (by kernel_rfl) rfl rfl (by decide) (fun _ _ _ h => h) (fun _ => (q_addI hT rfl rfl (r := (n : Int) + 1) rfl (by omega) (by omega)).v (v := (vI ((n + 1 : Nat) : Int))) (rfl)) ?_; clear hT; intro a hT
      refine d_take (i := 8) hT #[true, true, true, true, true, false, true, true, true, false, false, false, false] rfl (by kernel_rfl) rfl rfl (by decide) (fun _ _ _ h => h) (fun _ hs => q_load hT rfl Tryd.ty3 (Rd.ext (hR.rd 1 rfl 0 (ds := [(vI (n : Int))]) rfl) hs)) hS ?_; clear hT; intro a hT
      refine d_pure (i := 9) hT #[true, true, true, true, true, false, true, true, true, true, false, false, false] rfl (by kernel_rfl) rfl rfl (by decide) (fun _ _ _ h => h) (fun _ => (q_addI hT rfl rfl (r := (n : Int) + 1) rfl (by omega) (by omega)).v (v := (vI ((n + 1 : Nat) : Int))) (rfl)) ?_; clear hT; intro a hT
      refine d_one (i := 5) hT #[true, true, true, true, true, true, true, true, true, true, false, false, false] rfl (by kernel_rfl) rfl ?_
      refine w_callT (xs := [.tmp 59, .tmp 60, .tmp 62]) hT rfl (vs := [(vI w), (Value.slice p0 n0 cp0), (vI ((n + 1 : Nat) : Int))]) rfl (args := #[(vI w), (Value.slice p0 n0 cp0), (vI ((n + 1 : Nat) : Int))]) rfl Tryd.func13 rfl rfl (by decide) ((ih (zerosL ls n) p0 n0 cp0 (n + 1) _ (hK.of hL (by simp)) (hz.slt leafC_len hL (i := 2) rfl) hgd.zeros (by omega) (by omega) (by omega)).mono ?_)
      rintro e w17 ⟨rfl, hX⟩
      refine ⟨_, rfl, ?_⟩; clear hT; intro a hT; replace hT : Tm 70 a ((63, (Value.agg (digC (dg w k (zerosL ls n) (n + 1))).toArray)) :: _) := hT
      replace hL := hL.ext hX
      replace hS := Vg.Loc.ext hS hX; refine ⟨fun _ => hS, ?_⟩
      refine d_one (i := 10) hT #[true, true, true, true, true, true, true, true, true, true, true, false, false] rfl (by kernel_rfl) rfl ?_
      refine w_callT (xs := [.tmp 64, .tmp 65, .tmp 67]) hT rfl (vs := [(vI w), (Value.slice p1 n1 cp1), (vI ((n + 1 : Nat) : Int))]) rfl (args := #[(vI w), (Value.slice p1 n1 cp1), (vI ((n + 1 : Nat) : Int))]) rfl Tryd.func13 rfl rfl (by decide) ((ih (onesL ls n) p1 n1 cp1 (n + 1) _ (hK.of hL (by simp)) (ho.slt leafC_len hL (i := 3) rfl) hgd.ones (by omega) (by omega) (by omega)).mono ?_)
      rintro e w18 ⟨rfl, hX⟩
      refine ⟨_, rfl, ?_⟩; clear hT; intro a hT; replace hT : Tm 70 a ((68, (Value.agg (digC (dg w k (onesL ls n) (n + 1))).toArray)) :: _) := hT
      replace hL := hL.ext hX
      replace hS := Vg.Loc.ext hS hX; refine ⟨fun _ => hS, ?_⟩
      refine d_one (i := 11) hT #[true, true, true, true, true, true, true, true, true, true, true, true, false] rfl (by kernel_rfl) rfl ?_
      refine w_callT (xs := [.tmp 58, .tmp 63, .tmp 68]) hT rfl (vs := [(vI w), (Value.agg (digC (dg w k (zerosL ls n) (n + 1))).toArray), (Value.agg (digC (dg w k (onesL ls n) (n + 1))).toArray)]) rfl (args := #[(vI w), (Value.agg (digC (dg w k (zerosL ls n) (n + 1))).toArray), (Value.agg (digC (dg w k (onesL ls n) (n + 1))).toArray)]) rfl Tryd.func26 rfl rfl (by decide) ((Node_spec (w) (dg w k (zerosL ls n) (n + 1)) (dg w k (onesL ls n) (n + 1)) _ (hK.of hL (by simp))).mono ?_)
      rintro e w19 ⟨rfl, hX⟩
      refine ⟨_, rfl, ?_⟩; clear hT; intro a hT; replace hT : Tm 70 a ((69, (Value.agg (digC (nodeD w (dg w k (zerosL ls n) (n + 1)) (dg w k (onesL ls n) (n + 1)))).toArray)) :: _) := hT
      replace hL := hL.ext hX
      replace hS := Vg.Loc.ext hS hX; refine ⟨fun _ => hS, ?_⟩
      refine d_one (i := 12) hT #[true, true, true, true, true, true, true, true, true, true, true, true, true] rfl (by kernel_rfl) rfl ?_
      refine w_store hT hL 0 (c := digC Dig.zero) rfl rfl Tryd.ty24 rfl (vs := digC (nodeD w (dg w k (zerosL ls n) (n + 1)) (dg w k (onesL ls n) (n + 1)))) rfl rfl (by first | decide | (simp [arr32_len, arr8_len, digC_len]; done) | (simp [arr32_len, arr8_len, digC_len]; omega)) rfl (c' := digC (nodeD w (dg w k (zerosL ls n) (n + 1)) (dg w k (onesL ls n) (n + 1)))) rfl ?_; clear hL; intro w20 hL hE
      replace hL : Vg.Loc [] w0 w20 ([[(b2, ob (digC (nodeD w (dg w k (zerosL ls n) (n + 1)) (dg w k (onesL ls n) (n + 1)))) 24)], [(b1, ob [(vI (n : Int))] 3)], c0, c1]) := hL
      refine ⟨fun hn => absurd (by decide) hn, ?_⟩
      refine d_done (by kernel_rfl) ?_; clear hR hS
      refine then_norm ?_
      refine wp_ret ?_
      refine c_ret (vs := [(Value.agg (digC (nodeD w (dg w k (zerosL ls n) (n + 1)) (dg w k (onesL ls n) (n + 1)))).toArray)]) (rs := [.cell 6 24]) hT rfl (.agg rfl Tryd.ty24 (hL.rd 0 rfl 0 (ds := digC (nodeD w (dg w k (zerosL ls n) (n + 1)) (dg w k (onesL ls n) (n + 1)))) rfl) rfl .nil) ?_
      exact ⟨by rw [dg_two h2]; rfl, hL.drop⟩

theorem at_ok (w : Int) : ∀ k, AtOK Tryd.prog 13 w k
  | 0 => fun _ _ _ _ _ _ _ _ _ _ h => by omega
  | k + 1 => fun ls p len cap n w0 hK hsl hgd hk _ hc => by
    have hl := hsl.1
    match ls, hl with
    | [], hl => obtain rfl : len = 0 := hl.symm; exact at_nil w p cap n w0 hK
    | [x], hl => obtain rfl : len = 1 := hl.symm; exact at_one w x p cap n w0 hK hsl
    | x :: y :: r, hl => exact at_step w k (at_ok w k) _ p len cap n hc (by rw [← hl]; simp) hk hgd w0 hK hsl

end Go.Proofs.YtcaffacganffjaaDoor
end

section
namespace Go.Proofs.YtcaffacganffjaaDoor
open Go Go.Vg


set_option maxRecDepth 20000 in
set_option maxHeartbeats 1000000 in
theorem CloneE_some (ls : List Leaf) (ad : Addr) (len cap : Nat) (hc : len ≤ 4096) (w0 : World) (hsl : SlT w0 (some ad) len 64 leafC noLeaf ls) :
    Calls Tryd.prog 11 #[(Value.slice (some ad) len cap)] w0 fun e w' => ∃ p' cap' c, e = .returned (.slice p' len cap') ∧ Vg.Loc [] w0 w' [c] ∧ OwnE leafC 64 36 p' len cap' ls c := by
  refine c_enter (n := 8) (args := [(Value.slice (some ad) len cap)]) Tryd.func11 rfl rfl (Nat.le_of_ble_eq_true rfl) rfl (fun a hT => ?_)
  simp only [List.zipIdx_cons, List.zipIdx_nil, List.map_cons, List.map_nil, Nat.reduceAdd] at hT
  have hL := Vg.Loc.refl [] w0
  have hlen : ls.length = len := hsl.1
  refine c_seq ?_
  refine c_region ?_
  refine l_q hT (q_assign hT rfl) rfl rfl (by decide) ?_; clear hT; intro a hT
  refine l_end ?_
  refine then_norm ?_
  refine c_seq ?_
  refine c_seq ?_
  refine c_region ?_
  refine l_q hT (q_move hT rfl) rfl rfl (by decide) ?_; clear hT; intro a hT
  refine l_q hT ((q_eq_slnil hT rfl rfl Tryd.underlying22).b (b := false) rfl) rfl rfl (by decide) ?_; clear hT; intro a hT
  refine l_end ?_
  refine then_norm ?_
  refine c_false hT rfl rfl ?_
  refine wp_skip ?_
  refine then_norm ?_
  refine c_seq ?_
  refine c_region ?_
  refine l_do rfl ?_
  refine w_buildSlice (e := 36) (ps := []) (pv := []) (c := []) hT hL (by decide) rfl (fun _ => by kernel_rfl) ?_; clear hT hL; intro b1 a w1 hT hL hE hB
  refine l_q hT (q_move hT rfl) rfl rfl (by decide) ?_; clear hT; intro a hT
  refine l_do rfl ?_
  refine w_append hT hL (by decide) 0 rfl rfl rfl Tryd.app22 (by decide) rfl OwnC.empty (SlT.src leafC_len leafC_one (hsl.ext hL)) (by omega) (by simp only [maxLen]; omega) ?_; clear hT hL; intro p' cap' c' a w2 hown hT hL
  replace hL : Vg.Loc [] w0 w2 ([c']) := hL
  refine l_q hT (q_assign hT rfl) rfl rfl (by decide) ?_; clear hT; intro a hT
  refine l_end ?_
  refine then_norm ?_
  refine wp_ret ?_
  refine c_ret (vs := [(Value.slice p' (0 + len) cap')]) (rs := [.tmp 2]) hT rfl (.tmp rfl .nil) ?_
  exact ⟨p', cap', c', by simp [packed], by simpa using hL, hlen, by simpa using hown⟩

set_option maxRecDepth 20000 in
set_option maxHeartbeats 1000000 in
theorem CloneE_none (cap : Nat) (w0 : World) :
    Calls Tryd.prog 11 #[(Value.slice none 0 cap)] w0 fun e w' => e = .returned (.slice none 0 0) ∧ Ext w0 w' := by
  refine c_enter (n := 8) (args := [(Value.slice none 0 cap)]) Tryd.func11 rfl rfl (Nat.le_of_ble_eq_true rfl) rfl (fun a hT => ?_)
  simp only [List.zipIdx_cons, List.zipIdx_nil, List.map_cons, List.map_nil, Nat.reduceAdd] at hT
  have hL := Vg.Loc.refl [] w0
  refine c_seq ?_
  refine c_region ?_
  refine l_q hT (q_assign hT rfl) rfl rfl (by decide) ?_; clear hT; intro a hT
  refine l_end ?_
  refine then_norm ?_
  refine c_seq ?_
  refine c_seq ?_
  refine c_region ?_
  refine l_q hT (q_move hT rfl) rfl rfl (by decide) ?_; clear hT; intro a hT
  refine l_q hT ((q_eq_slnil hT rfl rfl Tryd.underlying22).b (b := true) rfl) rfl rfl (by decide) ?_; clear hT; intro a hT
  refine l_end ?_
  refine then_norm ?_
  refine c_true hT rfl rfl ?_
  refine c_seq ?_
  refine c_region ?_
  refine l_q hT (q_assign hT rfl) rfl rfl (by decide) ?_; clear hT; intro a hT
  refine l_end ?_
  refine then_norm ?_
  refine wp_ret ?_
  refine then_ret ?_
  refine c_ret (vs := [(Value.slice none 0 0)]) (rs := [.tmp 2]) hT rfl (.tmp rfl .nil) ?_
  exact ⟨rfl, hL.drop⟩

theorem CloneE_own (ls : List Leaf) (p : Option Addr) (len cap : Nat) (hc : len ≤ 4096) (w0 : World) (hsl : SlT w0 p len 64 leafC noLeaf ls) : Calls Tryd.prog 11 #[.slice p len cap] w0 fun e w' =>
    ∃ p' cap' c, e = .returned (.slice p' len cap') ∧ Vg.Loc [] w0 w' [c] ∧ OwnE leafC 64 36 p' len cap' ls c := by
  cases p with
  | some ad => exact CloneE_some ls ad len cap hc w0 hsl
  | none =>
    have h0 : len = 0 := by
      rcases Nat.eq_zero_or_pos len with h | h
      · exact h
      · obtain ⟨_, _, hp, _⟩ := hsl.2 h; cases hp
    subst h0
    have : ls = [] := List.eq_nil_of_length_eq_zero hsl.1
    subst this
    exact (CloneE_none cap w0).mono fun e w' ⟨h1, h2⟩ => ⟨none, 0, [], h1, h2.regroup (by simp), OwnE.nil⟩

end Go.Proofs.YtcaffacganffjaaDoor
end

section
namespace Go.Proofs.YtcaffacganffjaaDoor
open Go Go.Vg


set_option maxRecDepth 20000 in
set_option maxHeartbeats 1000000 in
theorem make_err (w : Int) (ls : List Leaf) (p : Option Addr) (len cap : Nat) (pt : Dig) (he : rootE w ls ≠ 0) (w0 : World) (hK : KeysAt w0) (hsl : SlT w0 p len 64 leafC noLeaf ls) :
    Calls Tryd.prog 5 #[(vI w), (Value.slice p len cap), (Value.agg (digC pt).toArray)] w0 fun e w' => e = .returned (.tuple #[.agg (claimC false Dig.zero).toArray, .agg (proofC (.slice none 0 0) false Dig.zero Dig.zero).toArray, vI (rootE w ls)]) ∧ Ext w0 w' := by
  refine c_enter (n := 98) (args := [(vI w), (Value.slice p len cap), (Value.agg (digC pt).toArray)]) Tryd.func5 rfl rfl (Nat.le_of_ble_eq_true rfl) rfl (fun a hT => ?_)
  simp only [List.zipIdx_cons, List.zipIdx_nil, List.map_cons, List.map_nil, Nat.reduceAdd] at hT
  have hL := Vg.Loc.refl [] w0
  refine c_seq ?_
  refine c_region ?_
  refine l_do rfl ?_
  refine w_box hT hL (by decide) rfl (c := digC pt) rfl ?_; clear hT hL; intro b1 a w1 hT hL hE hB
  refine l_do rfl ?_
  refine w_alloc hT hL (by decide) Tryd.ty26 ?_; clear hT hL; intro b2 a w2 hT hL hE hB
  refine l_do rfl ?_
  refine w_alloc hT hL (by decide) Tryd.ty29 ?_; clear hT hL; intro b3 a w3 hT hL hE hB
  refine l_q hT (q_assign hT rfl) rfl rfl (by decide) ?_; clear hT; intro a hT
  refine l_end ?_
  refine then_norm ?_
  refine c_seq ?_
  refine c_seq ?_
  refine c_region ?_
  refine l_q hT (q_move hT rfl) rfl rfl (by decide) ?_; clear hT; intro a hT
  refine l_q hT (q_move hT rfl) rfl rfl (by decide) ?_; clear hT; intro a hT
  refine l_do rfl ?_
  refine w_callT (xs := [.tmp 18, .tmp 19]) hT rfl (vs := [(vI w), (Value.slice p len cap)]) rfl (args := #[(vI w), (Value.slice p len cap)]) rfl Tryd.func8 rfl rfl (by decide) ((root_spec twice_ok w ls p len cap _ (KeysAt.of hK hL (by simp)) (hsl.ext hL)).mono ?_)
  rintro e w4 ⟨rfl, hX⟩
  refine ⟨_, rfl, ?_⟩; clear hT; intro a hT; replace hT : Tm 98 a ((20, (Value.tuple #[(Value.agg (digC (rootD w ls)).toArray), (vI (rootE w ls))])) :: _) := hT
  replace hL := hL.ext hX
  refine l_q hT (q_move hT rfl) rfl rfl (by decide) ?_; clear hT; intro a hT
  refine l_q hT (q_extract hT rfl rfl) rfl rfl (by decide) ?_; clear hT; intro a hT
  refine l_q hT (q_extract hT rfl rfl) rfl rfl (by decide) ?_; clear hT; intro a hT
  refine l_do rfl ?_
  refine w_alloc hT hL (by decide) Tryd.ty24 ?_; clear hT hL; intro b4 a w5 hT hL hE hB
  refine l_do rfl ?_
  refine w_store hT hL 0 (c := digC Dig.zero) rfl rfl Tryd.ty24 rfl (vs := digC (rootD w ls)) rfl rfl (by first | decide | (simp [arr32_len, arr8_len, digC_len]; done) | (simp [arr32_len, arr8_len, digC_len]; omega)) rfl (c' := digC (rootD w ls)) rfl ?_; clear hL; intro w6 hL hE
  replace hL : Vg.Loc [] w0 w6 ([[(b4, ob (digC (rootD w ls)) 24)], [(b3, ob ([(Value.slice none 0 0), (Value.bool false)] ++ (digC Dig.zero ++ (digC Dig.zero))) 29)], [(b2, ob ([(Value.bool false)] ++ (digC Dig.zero)) 26)], [(b1, ob (digC pt) 24)]]) := hL
  refine l_q hT (q_assign hT rfl) rfl rfl (by decide) ?_; clear hT; intro a hT
  refine l_end ?_
  refine then_norm ?_
  refine c_seq ?_
  refine c_region ?_
  refine l_q hT (q_move hT rfl) rfl rfl (by decide) ?_; clear hT; intro a hT
  refine l_q hT ((q_neq hT rfl rfl).b (c := decide ((rootE w ls) ≠ 0)) (b := true) (decide_eq_true he)) rfl rfl (by decide) ?_; clear hT; intro a hT
  refine l_end ?_
  refine then_norm ?_
  refine c_true hT rfl rfl ?_
  refine c_seq ?_
  refine c_region ?_
  refine l_q hT (q_build (ps := []) (pv := []) (v := .agg ([(Value.bool false)] ++ (digC Dig.zero)).toArray) hT rfl (fun _ => by kernel_rfl)) rfl rfl (by decide) ?_; clear hT; intro a hT
  refine l_q hT (q_build (ps := []) (pv := []) (v := .agg ([(Value.slice none 0 0), (Value.bool false)] ++ (digC Dig.zero ++ (digC Dig.zero))).toArray) hT rfl (fun _ => by kernel_rfl)) rfl rfl (by decide) ?_; clear hT; intro a hT
  refine l_q hT (q_move hT rfl) rfl rfl (by decide) ?_; clear hT; intro a hT
  refine l_do rfl ?_
  refine w_store hT hL 2 (c := [(Value.bool false)] ++ (digC Dig.zero)) rfl rfl Tryd.ty26 rfl (vs := [(Value.bool false)] ++ (digC Dig.zero)) rfl rfl (by first | decide | (simp [arr32_len, arr8_len, digC_len]; done) | (simp [arr32_len, arr8_len, digC_len]; omega)) rfl (c' := [(Value.bool false)] ++ (digC Dig.zero)) rfl ?_; clear hL; intro w7 hL hE
  replace hL : Vg.Loc [] w0 w7 ([[(b4, ob (digC (rootD w ls)) 24)], [(b3, ob ([(Value.slice none 0 0), (Value.bool false)] ++ (digC Dig.zero ++ (digC Dig.zero))) 29)], [(b2, ob ([(Value.bool false)] ++ (digC Dig.zero)) 26)], [(b1, ob (digC pt) 24)]]) := hL
  refine l_do rfl ?_
  refine w_store hT hL 1 (c := [(Value.slice none 0 0), (Value.bool false)] ++ (digC Dig.zero ++ (digC Dig.zero))) rfl rfl Tryd.ty29 rfl (vs := [(Value.slice none 0 0), (Value.bool false)] ++ (digC Dig.zero ++ (digC Dig.zero))) rfl rfl (by first | decide | (simp [arr32_len, arr8_len, digC_len]; done) | (simp [arr32_len, arr8_len, digC_len]; omega)) rfl (c' := [(Value.slice none 0 0), (Value.bool false)] ++ (digC Dig.zero ++ (digC Dig.zero))) rfl ?_; clear hL; intro w8 hL hE
  replace hL : Vg.Loc [] w0 w8 ([[(b4, ob (digC (rootD w ls)) 24)], [(b3, ob ([(Value.slice none 0 0), (Value.bool false)] ++ (digC Dig.zero ++ (digC Dig.zero))) 29)], [(b2, ob ([(Value.bool false)] ++ (digC Dig.zero)) 26)], [(b1, ob (digC pt) 24)]]) := hL
  refine l_q hT (q_assign hT rfl) rfl rfl (by decide) ?_; clear hT; intro a hT
  refine l_end ?_
  refine then_norm ?_
  refine wp_ret ?_
  refine then_ret ?_
  refine c_ret (vs := [(Value.agg ([(Value.bool false)] ++ (digC Dig.zero)).toArray), (Value.agg ([(Value.slice none 0 0), (Value.bool false)] ++ (digC Dig.zero ++ (digC Dig.zero))).toArray), (vI (rootE w ls))]) (rs := [.cell 6 26, .cell 7 29, .tmp 8]) hT rfl (.agg rfl Tryd.ty26 (hL.rd 2 rfl 0 (ds := [(Value.bool false)] ++ (digC Dig.zero)) rfl) rfl (.agg rfl Tryd.ty29 (hL.rd 1 rfl 0 (ds := [(Value.slice none 0 0), (Value.bool false)] ++ (digC Dig.zero ++ (digC Dig.zero))) rfl) rfl (.tmp rfl .nil))) ?_
  exact ⟨rfl, hL.drop⟩

set_option maxRecDepth 100000 in
set_option maxHeartbeats 4000000 in
theorem make_ok (w : Int) (ls : List Leaf) (p : Option Addr) (len cap : Nat) (pt : Dig) (hc : len ≤ 4096) (he : rootE w ls = 0) (w0 : World) (hK : KeysAt w0) (hsl : SlT w0 p len 64 leafC noLeaf ls) :
    Calls Tryd.prog 5 #[(vI w), (Value.slice p len cap), (Value.agg (digC pt).toArray)] w0 fun e w' => ∃ ps cps cs, e = .returned (.tuple #[.agg (claimC (saysL pt (goL w pt 257 ls 0).2).1 (saysL pt (goL w pt 257 ls 0).2).2.1).toArray, .agg (proofC (.slice ps (goL w pt 257 ls 0).1.length cps) (saysL pt (goL w pt 257 ls 0).2).2.2.1 (saysL pt (goL w pt 257 ls 0).2).2.2.2.1 (saysL pt (goL w pt 257 ls 0).2).2.2.2.2).toArray, vI 0]) ∧ Vg.Loc [] w0 w' [cs] ∧ OwnE digC 32 24 ps (goL w pt 257 ls 0).1.length cps (goL w pt 257 ls 0).1 cs := by
  refine c_enter (n := 98) (args := [(vI w), (Value.slice p len cap), (Value.agg (digC pt).toArray)]) Tryd.func5 rfl rfl (Nat.le_of_ble_eq_true rfl) rfl (fun a hT => ?_)
  simp only [List.zipIdx_cons, List.zipIdx_nil, List.map_cons, List.map_nil, Nat.reduceAdd] at hT
  have hL := Vg.Loc.refl [] w0
  have hlen : ls.length = len := hsl.1
  have hgd0 : GoodL ls 0 := rootE_good he
  refine c_seq ?_
  refine c_region ?_
  refine l_do rfl ?_
  refine w_box hT hL (by decide) rfl (c := digC pt) rfl ?_; clear hT hL; intro b1 a w1 hT hL hE hB
  refine l_do rfl ?_
  refine w_alloc hT hL (by decide) Tryd.ty26 ?_; clear hT hL; intro b2 a w2 hT hL hE hB
  refine l_do rfl ?_
  refine w_alloc hT hL (by decide) Tryd.ty29 ?_; clear hT hL; intro b3 a w3 hT hL hE hB
  refine l_q hT (q_assign hT rfl) rfl rfl (by decide) ?_; clear hT; intro a hT
  refine l_end ?_
  refine then_norm ?_
  refine c_seq ?_
  refine c_seq ?_
  refine c_region ?_
  refine l_q hT (q_move hT rfl) rfl rfl (by decide) ?_; clear hT; intro a hT
  refine l_q hT (q_move hT rfl) rfl rfl (by decide) ?_; clear hT; intro a hT
  refine l_do rfl ?_
  refine w_callT (xs := [.tmp 18, .tmp 19]) hT rfl (vs := [(vI w), (Value.slice p len cap)]) rfl (args := #[(vI w), (Value.slice p len cap)]) rfl Tryd.func8 rfl rfl (by decide) ((root_spec twice_ok w ls p len cap _ (KeysAt.of hK hL (by simp)) (hsl.ext hL)).mono ?_)
  rintro e w4 ⟨rfl, hX⟩
  refine ⟨_, rfl, ?_⟩; clear hT; intro a hT; replace hT : Tm 98 a ((20, (Value.tuple #[(Value.agg (digC (rootD w ls)).toArray), (vI (rootE w ls))])) :: _) := hT
  replace hL := hL.ext hX
  refine l_q hT (q_move hT rfl) rfl rfl (by decide) ?_; clear hT; intro a hT
  refine l_q hT (q_extract hT rfl rfl) rfl rfl (by decide) ?_; clear hT; intro a hT
  refine l_q hT (q_extract hT rfl rfl) rfl rfl (by decide) ?_; clear hT; intro a hT
  refine l_do rfl ?_
  refine w_alloc hT hL (by decide) Tryd.ty24 ?_; clear hT hL; intro b4 a w5 hT hL hE hB
  refine l_do rfl ?_
  refine w_store hT hL 0 (c := digC Dig.zero) rfl rfl Tryd.ty24 rfl (vs := digC (rootD w ls)) rfl rfl (by first | decide | (simp [arr32_len, arr8_len, digC_len]; done) | (simp [arr32_len, arr8_len, digC_len]; omega)) rfl (c' := digC (rootD w ls)) rfl ?_; clear hL; intro w6 hL hE
  replace hL : Vg.Loc [] w0 w6 ([[(b4, ob (digC (rootD w ls)) 24)], [(b3, ob ([(Value.slice none 0 0), (Value.bool false)] ++ (digC Dig.zero ++ (digC Dig.zero))) 29)], [(b2, ob ([(Value.bool false)] ++ (digC Dig.zero)) 26)], [(b1, ob (digC pt) 24)]]) := hL
  refine l_q hT (q_assign hT rfl) rfl rfl (by decide) ?_; clear hT; intro a hT
  refine l_end ?_
  refine then_norm ?_
  refine c_seq ?_
  refine c_region ?_
  refine l_q hT (q_move hT rfl) rfl rfl (by decide) ?_; clear hT; intro a hT
  refine l_q hT ((q_neq hT rfl rfl).b (c := decide ((rootE w ls) ≠ 0)) (b := false) (decide_eq_false (fun h => h he))) rfl rfl (by decide) ?_; clear hT; intro a hT
  refine l_end ?_
  refine then_norm ?_
  refine c_false hT rfl rfl ?_
  refine wp_skip ?_
  refine then_norm ?_
  refine c_seq ?_
  refine c_region ?_
  refine l_q hT (q_move hT rfl) rfl rfl (by decide) ?_; clear hT; intro a hT
  refine l_do rfl ?_
  refine w_callT (xs := [.tmp 28]) hT rfl (vs := [(Value.slice p len cap)]) rfl (args := #[(Value.slice p len cap)]) rfl Tryd.func11 rfl rfl (by decide) ((CloneE_own ls p len cap hc _ (hsl.ext hL)).mono ?_)
  rintro e w7 ⟨pc, cpc, cc, rfl, hX, hcl⟩
  refine ⟨_, rfl, ?_⟩; clear hT; intro a hT; replace hT : Tm 98 a ((29, (Value.slice pc len cpc)) :: _) := hT
  replace hL : Vg.Loc [] w0 w7 ([cc, [(b4, ob (digC (rootD w ls)) 24)], [(b3, ob ([(Value.slice none 0 0), (Value.bool false)] ++ (digC Dig.zero ++ (digC Dig.zero))) 29)], [(b2, ob ([(Value.bool false)] ++ (digC Dig.zero)) 26)], [(b1, ob (digC pt) 24)]]) := hL.exts hX
  refine l_q hT (q_assign hT rfl) rfl rfl (by decide) ?_; clear hT; intro a hT
  refine l_end ?_
  refine then_norm ?_
  refine c_seq ?_
  refine c_seq ?_
  refine c_region ?_
  refine l_q hT (q_assign hT rfl) rfl rfl (by decide) ?_; clear hT; intro a hT
  refine l_end ?_
  refine then_norm ?_
  refine wp_block ?_
  refine c_loop (fun mz a wz => ∃ (n : Nat) (nl : List Leaf) (sb : List Dig) (pn ps : Option Addr) (nn ns cpn cps : Nat) (cn cs : Chunk), mz = 257 - n ∧ n ≤ 256 ∧ nn ≤ 4096 ∧ ns = n ∧ GoodL nl n ∧ OwnE leafC 64 36 pn nn cpn nl cn ∧ OwnE digC 32 24 ps ns cps sb cs ∧ goL w pt 257 ls 0 = (sb ++ (goL w pt (257 - n) nl n).1, (goL w pt (257 - n) nl n).2) ∧ Tm 98 a [(0, (vI w)), (5, (vp b1 0)), (6, (vp b2 0)), (7, (vp b3 0)), (11, (Value.slice pn nn cpn)), (12, (vI (n : Int)))] ∧ Vg.Loc [] w0 wz [[(b1, ob (digC pt) 24)], [(b2, ob ([(Value.bool false)] ++ (digC Dig.zero)) 26)], [(b3, ob ([(Value.slice ps ns cps), (Value.bool false)] ++ (digC Dig.zero ++ (digC Dig.zero))) 29)], cn, cs]) id 257 ?_ ?_
  · exact ⟨0, ls, [], _, none, _, 0, _, 0, cc, [], rfl, by omega, hc, rfl, hgd0, hcl, OwnE.nil, rfl, hT.keep [0, 5, 6, 7, 11, 12] rfl, (Vg.Loc.regroup (cs := [[(b1, ob (digC pt) 24)], [(b2, ob ([(Value.bool false)] ++ (digC Dig.zero)) 26)], [(b3, ob ([(Value.slice none 0 0), (Value.bool false)] ++ (digC Dig.zero ++ (digC Dig.zero))) 29)], cc]) ((((hL.front 2 rfl rfl).front 3 rfl rfl).front 4 rfl rfl).sub (.cons_cons _ (.cons_cons _ (.cons_cons _ (.cons_cons _ (.cons _ .slnil)))))) (by simp))⟩
  clear hT hL
  rintro mz a w8 ⟨n, nl, sb, pn, ps, nn, ns, cpn, cps, cn, cs, rfl, hn6, hnn, hns, hgd, hnear, hsib, hgo, hT, hL⟩
  have hnl : nl.length = nn := hnear.len
  refine c_seq ?_
  refine c_seq ?_
  refine c_region ?_
  refine l_q hT (q_move hT rfl) rfl rfl (by decide) ?_; clear hT; intro a hT
  refine l_q hT (q_len_slice hT rfl Tryd.underlying22) rfl rfl (by decide) ?_; clear hT; intro a hT
  refine l_q hT (q_gtr hT rfl rfl) rfl rfl (by decide) ?_; clear hT; intro a hT
  refine l_end ?_
  refine then_norm ?_
  refine c_if hT rfl (fun hc1 => ?_) (fun hc1 => ?_)
  · skip
    have hc1 := of_decide_eq_true hc1
    have hn5 : n < 256 := hgd.lt (by omega)
    obtain ⟨gn, jn, rfl, rfl⟩ := hnear.some (by omega)
    refine wp_skip ?_
    refine then_norm ?_
    refine c_seq ?_
    refine wp_block ?_
    refine c_seq ?_
    refine c_region ?_
    refine l_q hT (q_assign hT rfl) rfl rfl (by decide) ?_; clear hT; intro a hT
    refine l_q hT (q_assign hT rfl) rfl rfl (by decide) ?_; clear hT; intro a hT
    refine l_end ?_
    refine then_norm ?_
    refine c_seq ?_
    refine c_seq ?_
    refine c_region ?_
    refine l_q hT (q_move hT rfl) rfl rfl (by decide) ?_; clear hT; intro a hT
    refine l_q hT (q_len_slice hT rfl Tryd.underlying22) rfl rfl (by decide) ?_; clear hT; intro a hT
    refine l_q hT (q_move hT rfl) rfl rfl (by decide) ?_; clear hT; intro a hT
    refine l_end ?_
    refine then_norm ?_
    refine wp_block ?_
    refine c_loop (fun mz a wz => ∃ (t : Nat) (p0 p1 : Option Addr) (n0 n1 cp0 cp1 : Nat) (c0 c1 : Chunk), mz = nn - t ∧ t ≤ nn ∧ n0 + n1 = t ∧ OwnE leafC 64 36 p0 n0 cp0 (diffL pt (nl.take t) n) c0 ∧ OwnE leafC 64 36 p1 n1 cp1 (sameL pt (nl.take t) n) c1 ∧ Tm 98 a [(0, (vI w)), (5, (vp b1 0)), (6, (vp b2 0)), (7, (vp b3 0)), (12, (vI (n : Int))), (13, (Value.slice p0 n0 cp0)), (14, (Value.slice p1 n1 cp1)), (35, (Value.slice (some ⟨gn, 0, none⟩) nn cpn)), (36, (vI (nn : Int))), (37, (vI (t : Int)))] ∧ Vg.Loc [] w0 wz [[(b1, ob (digC pt) 24)], [(b2, ob ([(Value.bool false)] ++ (digC Dig.zero)) 26)], [(b3, ob ([(Value.slice ps ns cps), (Value.bool false)] ++ (digC Dig.zero ++ (digC Dig.zero))) 29)], [(gn, ob (nl.flatMap leafC ++ (jn)) 36)], cs, c0, c1]) id nn ?_ ?_
    · exact ⟨0, none, none, 0, 0, 0, 0, [], [], rfl, by omega, rfl, by simpa [diffL] using OwnE.nil, by simpa [sameL] using OwnE.nil, hT.keep [0, 5, 6, 7, 12, 13, 14, 35, 36, 37] rfl, hL.regroup (by simp)⟩
    clear hT hL
    rintro mz a w9 ⟨t, p0, p1, n0, n1, cp0, cp1, c0, c1, rfl, ht, hn01, hz, ho, hT, hL⟩
    refine c_seq ?_
    refine c_region ?_
    refine l_q hT (q_lss hT rfl rfl) rfl rfl (by decide) ?_; clear hT; intro a hT
    refine l_end ?_
    refine then_norm ?_
    refine c_seq ?_
    refine c_if hT rfl (fun hc2 => ?_) (fun hc2 => ?_)
    · skip
      have hc2 := of_decide_eq_true hc2
      refine wp_skip ?_
      refine then_norm ?_
      refine c_seq ?_
      refine wp_block ?_
      refine c_seq ?_
      refine c_region ?_
      refine l_q hT (q_indexAddr hT rfl rfl Tryd.sli22 (by omega) (by omega)) rfl rfl (by decide) ?_; clear hT; intro a hT
      refine l_q hT (q_load_agg hT rfl Tryd.ty36 (SlT.flat0 (d0 := noLeaf) leafC_len nl gn 0 (hL.rd 3 rfl 0 (by simp)) t (by omega)) rfl) rfl rfl (by decide) ?_; clear hT; intro a hT
      refine l_do rfl ?_
      refine w_alloc hT hL (by decide) Tryd.ty36 ?_; clear hT hL; intro b5 a w10 hT hL hE hB
      refine l_do rfl ?_
      refine w_store hT hL 0 (c := digC Dig.zero ++ (digC Dig.zero)) rfl rfl Tryd.ty36 rfl (vs := digC ((nl.getD t noLeaf).p) ++ (digC ((nl.getD t noLeaf).v))) rfl rfl (by first | decide | (simp [arr32_len, arr8_len, digC_len]; done) | (simp [arr32_len, arr8_len, digC_len]; omega)) rfl (c' := digC ((nl.getD t noLeaf).p) ++ (digC ((nl.getD t noLeaf).v))) rfl ?_; clear hL; intro w11 hL hE
      replace hL : Vg.Loc [] w0 w11 ([[(b5, ob (digC ((nl.getD t noLeaf).p) ++ (digC ((nl.getD t noLeaf).v))) 36)], [(b1, ob (digC pt) 24)], [(b2, ob ([(Value.bool false)] ++ (digC Dig.zero)) 26)], [(b3, ob ([(Value.slice ps ns cps), (Value.bool false)] ++ (digC Dig.zero ++ (digC Dig.zero))) 29)], [(gn, ob (nl.flatMap leafC ++ (jn)) 36)], cs, c0, c1]) := hL
      refine l_end ?_
      refine then_norm ?_
      refine c_seq ?_
      refine d_start' hL #[false, false, false, false, false, false, false, false] [] rfl rfl rfl ?_; clear hL; intro w12 hL hE; have hR := hL; have hS := Ext.refl w12
      refine d_pure (i := 0) hT #[true, false, false, false, false, false, false, false] rfl (by kernel_rfl) rfl rfl (by decide) (fun _ _ _ h => h) (fun _ => q_fieldAddr hT rfl Tryd.fld36_0 rfl) ?_; clear hT; intro a hT
      refine d_pure (i := 2) hT #[true, false, true, false, false, false, false, false] rfl (by kernel_rfl) rfl rfl (by decide) (fun _ _ _ h => h) (fun _ => q_move hT rfl) ?_; clear hT; intro a hT
      refine d_pure (i := 5) hT #[true, false, true, false, false, true, false, false] rfl (by kernel_rfl) rfl rfl (by decide) (fun _ _ _ h => h) (fun _ => q_move hT rfl) ?_; clear hT; intro a hT
      refine d_take (i := 1) hT #[true, true, true, false, false, true, false, false] rfl (by kernel_rfl) rfl rfl (by decide) (fun _ _ _ h => h) (fun _ hs => q_load_agg hT rfl Tryd.ty24 (Rd.ext (hR.rd 0 rfl 0 (ds := digC ((nl.getD t noLeaf).p)) rfl) hs) rfl) hS ?_; clear hT; intro a hT
      refine d_take (i := 4) hT #[true, true, true, false, true, true, false, false] rfl (by kernel_rfl) rfl rfl (by decide) (fun _ _ _ h => h) (fun _ hs => q_load_agg hT rfl Tryd.ty24 (Rd.ext (hR.rd 1 rfl 0 (ds := digC pt) rfl) hs) rfl) hS ?_; clear hT; intro a hT
      refine d_one (i := 3) hT #[true, true, true, true, true, true, false, false] rfl (by kernel_rfl) rfl ?_
      refine w_callT (xs := [.tmp 42, .tmp 43]) hT rfl (vs := [(Value.agg (digC ((nl.getD t noLeaf).p)).toArray), (vI (n : Int))]) rfl (args := #[(Value.agg (digC ((nl.getD t noLeaf).p)).toArray), (vI (n : Int))]) rfl Tryd.func12 rfl rfl (by decide) ((pright_spec ((nl.getD t noLeaf).p) n (by omega) _).mono ?_)
      rintro e w13 ⟨rfl, hX⟩
      refine ⟨_, rfl, ?_⟩; clear hT; intro a hT; replace hT : Tm 98 a ((44, (Value.bool (((nl.getD t noLeaf).p).bit n))) :: _) := hT
      replace hL := hL.ext hX
      replace hS := Vg.Loc.ext hS hX; refine ⟨fun _ => hS, ?_⟩
      refine d_one (i := 6) hT #[true, true, true, true, true, true, true, false] rfl (by kernel_rfl) rfl ?_
      refine w_callT (xs := [.tmp 45, .tmp 46]) hT rfl (vs := [(Value.agg (digC pt).toArray), (vI (n : Int))]) rfl (args := #[(Value.agg (digC pt).toArray), (vI (n : Int))]) rfl Tryd.func12 rfl rfl (by decide) ((pright_spec pt n (by omega) _).mono ?_)
      rintro e w14 ⟨rfl, hX⟩
      refine ⟨_, rfl, ?_⟩; clear hT; intro a hT; replace hT : Tm 98 a ((47, (Value.bool (pt.bit n))) :: _) := hT
      replace hL := hL.ext hX
      replace hS := Vg.Loc.ext hS hX; refine ⟨fun _ => hS, ?_⟩
      refine d_pure (i := 7) hT #[true, true, true, true, true, true, true, true] rfl (by kernel_rfl) rfl rfl (by decide) (fun _ _ _ h => h) (fun _ => q_eq_bool hT rfl rfl Tryd.underlying4) ?_; clear hT; intro a hT
      refine d_done (by kernel_rfl) ?_; clear hR hS
      refine then_norm ?_
      refine c_if hT rfl (fun hc3 => ?_) (fun hc3 => ?_)
      · skip
        refine c_region ?_
        refine l_q hT (q_move hT rfl) rfl rfl (by decide) ?_; clear hT; intro a hT
        refine l_q hT (q_load_agg hT rfl Tryd.ty36 (hL.rd 0 rfl 0 (ds := digC ((nl.getD t noLeaf).p) ++ (digC ((nl.getD t noLeaf).v))) rfl) rfl) rfl rfl (by decide) ?_; clear hT; intro a hT
        refine l_do rfl ?_
        refine w_buildSlice (e := 36) (ps := [(0, .tmp 50)]) (pv := [(0, (Value.agg (digC ((nl.getD t noLeaf).p) ++ (digC ((nl.getD t noLeaf).v))).toArray))]) (c := digC ((nl.getD t noLeaf).p) ++ (digC ((nl.getD t noLeaf).v))) hT hL (by decide) rfl (fun _ => by kernel_rfl) ?_; clear hT hL; intro b6 a w15 hT hL hE hB
        refine l_do rfl ?_
        refine w_append hT hL (by decide) 8 rfl rfl rfl Tryd.app22 (by decide) rfl ho.2 (Src.one (xs := digC ((nl.getD t noLeaf).p) ++ (digC ((nl.getD t noLeaf).v))) rfl (leafC_one (nl.getD t noLeaf)) (hL.rd 0 rfl 0 rfl)) (by omega) (by simp only [maxLen]; omega) ?_; clear hT hL; intro p1 cap1 ck1 a w16 how1 hT hL
        replace hL : Vg.Loc [] w0 w16 ([[(b6, ob (digC ((nl.getD t noLeaf).p) ++ (digC ((nl.getD t noLeaf).v))) 36)], [(b5, ob (digC ((nl.getD t noLeaf).p) ++ (digC ((nl.getD t noLeaf).v))) 36)], [(b1, ob (digC pt) 24)], [(b2, ob ([(Value.bool false)] ++ (digC Dig.zero)) 26)], [(b3, ob ([(Value.slice ps ns cps), (Value.bool false)] ++ (digC Dig.zero ++ (digC Dig.zero))) 29)], [(gn, ob (nl.flatMap leafC ++ (jn)) 36)], cs, c0, ck1]) := hL
        have hoe1 := OwnE.snoc (x := (nl.getD t noLeaf)) ho how1
        refine l_q hT (q_assign hT rfl) rfl rfl (by decide) ?_; clear hT; intro a hT
        refine l_end ?_
        refine blk_norm ?_
        refine then_norm ?_
        refine c_region ?_
        refine l_q hT (q_addI hT rfl rfl (r := (t : Int) + 1) rfl (by omega) (by omega)) rfl rfl (by decide) ?_; clear hT; intro a hT
        refine l_q hT (q_move hT rfl) rfl rfl (by decide) ?_; clear hT; intro a hT
        refine l_end ?_
        refine then_norm ?_
        replace hL : Vg.Loc [] w0 w16 ([ck1, [(b6, ob (digC ((nl.getD t noLeaf).p) ++ (digC ((nl.getD t noLeaf).v))) 36)], [(b5, ob (digC ((nl.getD t noLeaf).p) ++ (digC ((nl.getD t noLeaf).v))) 36)], [(b1, ob (digC pt) 24)], [(b2, ob ([(Value.bool false)] ++ (digC Dig.zero)) 26)], [(b3, ob ([(Value.slice ps ns cps), (Value.bool false)] ++ (digC Dig.zero ++ (digC Dig.zero))) 29)], [(gn, ob (nl.flatMap leafC ++ (jn)) 36)], cs, c0]) := hL.front 8 rfl rfl
        replace hL : Vg.Loc [] w0 w16 ([c0, ck1, [(b6, ob (digC ((nl.getD t noLeaf).p) ++ (digC ((nl.getD t noLeaf).v))) 36)], [(b5, ob (digC ((nl.getD t noLeaf).p) ++ (digC ((nl.getD t noLeaf).v))) 36)], [(b1, ob (digC pt) 24)], [(b2, ob ([(Value.bool false)] ++ (digC Dig.zero)) 26)], [(b3, ob ([(Value.slice ps ns cps), (Value.bool false)] ++ (digC Dig.zero ++ (digC Dig.zero))) 29)], [(gn, ob (nl.flatMap leafC ++ (jn)) 36)], cs]) := hL.front 8 rfl rfl
        replace hL : Vg.Loc [] w0 w16 ([cs, c0, ck1, [(b6, ob (digC ((nl.getD t noLeaf).p) ++ (digC ((nl.getD t noLeaf).v))) 36)], [(b5, ob (digC ((nl.getD t noLeaf).p) ++ (digC ((nl.getD t noLeaf).v))) 36)], [(b1, ob (digC pt) 24)], [(b2, ob ([(Value.bool false)] ++ (digC Dig.zero)) 26)], [(b3, ob ([(Value.slice ps ns cps), (Value.bool false)] ++ (digC Dig.zero ++ (digC Dig.zero))) 29)], [(gn, ob (nl.flatMap leafC ++ (jn)) 36)]]) := hL.front 8 rfl rfl
        replace hL : Vg.Loc [] w0 w16 ([[(gn, ob (nl.flatMap leafC ++ (jn)) 36)], cs, c0, ck1, [(b6, ob (digC ((nl.getD t noLeaf).p) ++ (digC ((nl.getD t noLeaf).v))) 36)], [(b5, ob (digC ((nl.getD t noLeaf).p) ++ (digC ((nl.getD t noLeaf).v))) 36)], [(b1, ob (digC pt) 24)], [(b2, ob ([(Value.bool false)] ++ (digC Dig.zero)) 26)], [(b3, ob ([(Value.slice ps ns cps), (Value.bool false)] ++ (digC Dig.zero ++ (digC Dig.zero))) 29)]]) := hL.front 8 rfl rfl
        replace hL : Vg.Loc [] w0 w16 ([[(b3, ob ([(Value.slice ps ns cps), (Value.bool false)] ++ (digC Dig.zero ++ (digC Dig.zero))) 29)], [(gn, ob (nl.flatMap leafC ++ (jn)) 36)], cs, c0, ck1, [(b6, ob (digC ((nl.getD t noLeaf).p) ++ (digC ((nl.getD t noLeaf).v))) 36)], [(b5, ob (digC ((nl.getD t noLeaf).p) ++ (digC ((nl.getD t noLeaf).v))) 36)], [(b1, ob (digC pt) 24)], [(b2, ob ([(Value.bool false)] ++ (digC Dig.zero)) 26)]]) := hL.front 8 rfl rfl
        replace hL : Vg.Loc [] w0 w16 ([[(b2, ob ([(Value.bool false)] ++ (digC Dig.zero)) 26)], [(b3, ob ([(Value.slice ps ns cps), (Value.bool false)] ++ (digC Dig.zero ++ (digC Dig.zero))) 29)], [(gn, ob (nl.flatMap leafC ++ (jn)) 36)], cs, c0, ck1, [(b6, ob (digC ((nl.getD t noLeaf).p) ++ (digC ((nl.getD t noLeaf).v))) 36)], [(b5, ob (digC ((nl.getD t noLeaf).p) ++ (digC ((nl.getD t noLeaf).v))) 36)], [(b1, ob (digC pt) 24)]]) := hL.front 8 rfl rfl
        replace hL : Vg.Loc [] w0 w16 ([[(b1, ob (digC pt) 24)], [(b2, ob ([(Value.bool false)] ++ (digC Dig.zero)) 26)], [(b3, ob ([(Value.slice ps ns cps), (Value.bool false)] ++ (digC Dig.zero ++ (digC Dig.zero))) 29)], [(gn, ob (nl.flatMap leafC ++ (jn)) 36)], cs, c0, ck1, [(b6, ob (digC ((nl.getD t noLeaf).p) ++ (digC ((nl.getD t noLeaf).v))) 36)], [(b5, ob (digC ((nl.getD t noLeaf).p) ++ (digC ((nl.getD t noLeaf).v))) 36)]]) := hL.front 8 rfl rfl
        replace hL : Vg.Loc [] w0 w16 ([[(b1, ob (digC pt) 24)], [(b2, ob ([(Value.bool false)] ++ (digC Dig.zero)) 26)], [(b3, ob ([(Value.slice ps ns cps), (Value.bool false)] ++ (digC Dig.zero ++ (digC Dig.zero))) 29)], [(gn, ob (nl.flatMap leafC ++ (jn)) 36)], cs, c0, ck1]) := hL.sub (.cons_cons _ (.cons_cons _ (.cons_cons _ (.cons_cons _ (.cons_cons _ (.cons_cons _ (.cons_cons _ (.cons _ (.cons _ .slnil)))))))))
        have hzz := diffL_snoc (p := pt) (n := n) (show t < nl.length by omega); have hoo := sameL_snoc (p := pt) (n := n) (show t < nl.length by omega)
        simp only [hc3, if_true, if_false, Bool.false_eq_true] at hzz hoo
        exact ⟨_, ⟨t + 1, _, _, _, _, _, _, _, _, rfl, by omega, by omega, hzz ▸ hz, hoo ▸ hoe1, hT.keep [0, 5, 6, 7, 12, 13, 14, 35, 36, 37] rfl, hL⟩, by simp only [id]; omega⟩
      · skip
        refine c_region ?_
        refine l_q hT (q_move hT rfl) rfl rfl (by decide) ?_; clear hT; intro a hT
        refine l_q hT (q_load_agg hT rfl Tryd.ty36 (hL.rd 0 rfl 0 (ds := digC ((nl.getD t noLeaf).p) ++ (digC ((nl.getD t noLeaf).v))) rfl) rfl) rfl rfl (by decide) ?_; clear hT; intro a hT
        refine l_do rfl ?_
        refine w_buildSlice (e := 36) (ps := [(0, .tmp 54)]) (pv := [(0, (Value.agg (digC ((nl.getD t noLeaf).p) ++ (digC ((nl.getD t noLeaf).v))).toArray))]) (c := digC ((nl.getD t noLeaf).p) ++ (digC ((nl.getD t noLeaf).v))) hT hL (by decide) rfl (fun _ => by kernel_rfl) ?_; clear hT hL; intro b7 a w17 hT hL hE hB
        refine l_do rfl ?_
        refine w_append hT hL (by decide) 7 rfl rfl rfl Tryd.app22 (by decide) rfl hz.2 (Src.one (xs := digC ((nl.getD t noLeaf).p) ++ (digC ((nl.getD t noLeaf).v))) rfl (leafC_one (nl.getD t noLeaf)) (hL.rd 0 rfl 0 rfl)) (by omega) (by simp only [maxLen]; omega) ?_; clear hT hL; intro p2 cap2 ck2 a w18 how2 hT hL
        replace hL : Vg.Loc [] w0 w18 ([[(b7, ob (digC ((nl.getD t noLeaf).p) ++ (digC ((nl.getD t noLeaf).v))) 36)], [(b5, ob (digC ((nl.getD t noLeaf).p) ++ (digC ((nl.getD t noLeaf).v))) 36)], [(b1, ob (digC pt) 24)], [(b2, ob ([(Value.bool false)] ++ (digC Dig.zero)) 26)], [(b3, ob ([(Value.slice ps ns cps), (Value.bool false)] ++ (digC Dig.zero ++ (digC Dig.zero))) 29)], [(gn, ob (nl.flatMap leafC ++ (jn)) 36)], cs, ck2, c1]) := hL
        have hoe2 := OwnE.snoc (x := (nl.getD t noLeaf)) hz how2
        refine l_q hT (q_assign hT rfl) rfl rfl (by decide) ?_; clear hT; intro a hT
        refine l_end ?_
        refine blk_norm ?_
        refine then_norm ?_
        refine c_region ?_
        refine l_q hT (q_addI hT rfl rfl (r := (t : Int) + 1) rfl (by omega) (by omega)) rfl rfl (by decide) ?_; clear hT; intro a hT
        refine l_q hT (q_move hT rfl) rfl rfl (by decide) ?_; clear hT; intro a hT
        refine l_end ?_
        refine then_norm ?_
        replace hL : Vg.Loc [] w0 w18 ([c1, [(b7, ob (digC ((nl.getD t noLeaf).p) ++ (digC ((nl.getD t noLeaf).v))) 36)], [(b5, ob (digC ((nl.getD t noLeaf).p) ++ (digC ((nl.getD t noLeaf).v))) 36)], [(b1, ob (digC pt) 24)], [(b2, ob ([(Value.bool false)] ++ (digC Dig.zero)) 26)], [(b3, ob ([(Value.slice ps ns cps), (Value.bool false)] ++ (digC Dig.zero ++ (digC Dig.zero))) 29)], [(gn, ob (nl.flatMap leafC ++ (jn)) 36)], cs, ck2]) := hL.front 8 rfl rfl
        replace hL : Vg.Loc [] w0 w18 ([ck2, c1, [(b7, ob (digC ((nl.getD t noLeaf).p) ++ (digC ((nl.getD t noLeaf).v))) 36)], [(b5, ob (digC ((nl.getD t noLeaf).p) ++ (digC ((nl.getD t noLeaf).v))) 36)], [(b1, ob (digC pt) 24)], [(b2, ob ([(Value.bool false)] ++ (digC Dig.zero)) 26)], [(b3, ob ([(Value.slice ps ns cps), (Value.bool false)] ++ (digC Dig.zero ++ (digC Dig.zero))) 29)], [(gn, ob (nl.flatMap leafC ++ (jn)) 36)], cs]) := hL.front 8 rfl rfl
        replace hL : Vg.Loc [] w0 w18 ([cs, ck2, c1, [(b7, ob (digC ((nl.getD t noLeaf).p) ++ (digC ((nl.getD t noLeaf).v))) 36)], [(b5, ob (digC ((nl.getD t noLeaf).p) ++ (digC ((nl.getD t noLeaf).v))) 36)], [(b1, ob (digC pt) 24)], [(b2, ob ([(Value.bool false)] ++ (digC Dig.zero)) 26)], [(b3, ob ([(Value.slice ps ns cps), (Value.bool false)] ++ (digC Dig.zero ++ (digC Dig.zero))) 29)], [(gn, ob (nl.flatMap leafC ++ (jn)) 36)]]) := hL.front 8 rfl rfl
        replace hL : Vg.Loc [] w0 w18 ([[(gn, ob (nl.flatMap leafC ++ (jn)) 36)], cs, ck2, c1, [(b7, ob (digC ((nl.getD t noLeaf).p) ++ (digC ((nl.getD t noLeaf).v))) 36)], [(b5, ob (digC ((nl.getD t noLeaf).p) ++ (digC ((nl.getD t noLeaf).v))) 36)], [(b1, ob (digC pt) 24)], [(b2, ob ([(Value.bool false)] ++ (digC Dig.zero)) 26)], [(b3, ob ([(Value.slice ps ns cps), (Value.bool false)] ++ (digC Dig.zero ++ (digC Dig.zero))) 29)]]) := hL.front 8 rfl rfl
        replace hL : Vg.Loc [] w0 w18 ([[(b3, ob ([(Value.slice ps ns cps), (Value.bool false)] ++ (digC Dig.zero ++ (digC Dig.zero))) 29)], [(gn, ob (nl.flatMap leafC ++ (jn)) 36)], cs, ck2, c1, [(b7, ob (digC ((nl.getD t noLeaf).p) ++ (digC ((nl.getD t noLeaf).v))) 36)], [(b5, ob (digC ((nl.getD t noLeaf).p) ++ (digC ((nl.getD t noLeaf).v))) 36)], [(b1, ob (digC pt) 24)], [(b2, ob ([(Value.bool false)] ++ (digC Dig.zero)) 26)]]) := hL.front 8 rfl rfl
        replace hL : Vg.Loc [] w0 w18 ([[(b2, ob ([(Value.bool false)] ++ (digC Dig.zero)) 26)], [(b3, ob ([(Value.slice ps ns cps), (Value.bool false)] ++ (digC Dig.zero ++ (digC Dig.zero))) 29)], [(gn, ob (nl.flatMap leafC ++ (jn)) 36)], cs, ck2, c1, [(b7, ob (digC ((nl.getD t noLeaf).p) ++ (digC ((nl.getD t noLeaf).v))) 36)], [(b5, ob (digC ((nl.getD t noLeaf).p) ++ (digC ((nl.getD t noLeaf).v))) 36)], [(b1, ob (digC pt) 24)]]) := hL.front 8 rfl rfl
        replace hL : Vg.Loc [] w0 w18 ([[(b1, ob (digC pt) 24)], [(b2, ob ([(Value.bool false)] ++ (digC Dig.zero)) 26)], [(b3, ob ([(Value.slice ps ns cps), (Value.bool false)] ++ (digC Dig.zero ++ (digC Dig.zero))) 29)], [(gn, ob (nl.flatMap leafC ++ (jn)) 36)], cs, ck2, c1, [(b7, ob (digC ((nl.getD t noLeaf).p) ++ (digC ((nl.getD t noLeaf).v))) 36)], [(b5, ob (digC ((nl.getD t noLeaf).p) ++ (digC ((nl.getD t noLeaf).v))) 36)]]) := hL.front 8 rfl rfl
        replace hL : Vg.Loc [] w0 w18 ([[(b1, ob (digC pt) 24)], [(b2, ob ([(Value.bool false)] ++ (digC Dig.zero)) 26)], [(b3, ob ([(Value.slice ps ns cps), (Value.bool false)] ++ (digC Dig.zero ++ (digC Dig.zero))) 29)], [(gn, ob (nl.flatMap leafC ++ (jn)) 36)], cs, ck2, c1]) := hL.sub (.cons_cons _ (.cons_cons _ (.cons_cons _ (.cons_cons _ (.cons_cons _ (.cons_cons _ (.cons_cons _ (.cons _ (.cons _ .slnil)))))))))
        have hzz := diffL_snoc (p := pt) (n := n) (show t < nl.length by omega); have hoo := sameL_snoc (p := pt) (n := n) (show t < nl.length by omega)
        simp only [hc3, if_true, if_false, Bool.false_eq_true] at hzz hoo
        exact ⟨_, ⟨t + 1, _, _, _, _, _, _, _, _, rfl, by omega, by omega, hzz ▸ hoe2, hoo ▸ ho, hT.keep [0, 5, 6, 7, 12, 13, 14, 35, 36, 37] rfl, hL⟩, by simp only [id]; omega⟩
    · skip
      have hc2 := of_decide_eq_false hc2
      obtain rfl : t = nn := by omega
      have hf : nl.take t = nl := List.take_of_length_le (by omega)
      rw [hf] at hz ho
      refine wp_exit ?_
      refine then_exit ?_
      refine then_exit ?_
      refine blk_exit ?_
      refine then_norm ?_
      refine c_seq ?_
      refine d_start' hL #[false, false, false, false, false, false, false, false, false, false, false] [8, 10] rfl rfl rfl ?_; clear hL; intro w19 hL hE; have hR := hL; have hS := Ext.refl w19
      refine d_pure (i := 0) hT #[true, false, false, false, false, false, false, false, false, false, false] rfl (by kernel_rfl) rfl rfl (by decide) (fun _ _ _ h => h) (fun _ => q_fieldAddr hT rfl Tryd.fld29_0 rfl) ?_; clear hT; intro a hT
      refine d_pure (i := 2) hT #[true, false, true, false, false, false, false, false, false, false, false] rfl (by kernel_rfl) rfl rfl (by decide) (fun _ _ _ h => h) (fun _ => q_move hT rfl) ?_; clear hT; intro a hT
      refine d_pure (i := 3) hT #[true, false, true, true, false, false, false, false, false, false, false] rfl (by kernel_rfl) rfl rfl (by decide) (fun _ _ _ h => h) (fun _ => q_move hT rfl) ?_; clear hT; intro a hT
      refine d_pure (i := 4) hT #[true, false, true, true, true, false, false, false, false, false, false] rfl (by kernel_rfl) rfl rfl (by decide) (fun _ _ _ h => h) (fun _ => q_move hT rfl) ?_; clear hT; intro a hT
      refine d_pure (i := 5) hT #[true, false, true, true, true, true, false, false, false, false, false] rfl (by kernel_rfl) rfl rfl (by decide) (fun _ _ _ h => h) (fun _ => (q_addI hT rfl rfl (r := (n : Int) + 1) rfl (by omega) (by omega)).v (v := (vI ((n + 1 : Nat) : Int))) (rfl)) ?_; clear hT; intro a hT
      refine d_take (i := 1) hT #[true, true, true, true, true, true, false, false, false, false, false] rfl (by kernel_rfl) rfl rfl (by decide) (fun _ _ _ h => h) (fun _ hs => q_load hT rfl Tryd.ty27 (Rd.ext (hR.rd 2 rfl 0 (ds := [(Value.slice ps ns cps)]) rfl) hs)) hS ?_; clear hT; intro a hT
      refine d_one (i := 6) hT #[true, true, true, true, true, true, true, false, false, false, false] rfl (by kernel_rfl) rfl ?_
      refine w_callT (xs := [.tmp 60, .tmp 61, .tmp 63]) hT rfl (vs := [(vI w), (Value.slice p0 n0 cp0), (vI ((n + 1 : Nat) : Int))]) rfl (args := #[(vI w), (Value.slice p0 n0 cp0), (vI ((n + 1 : Nat) : Int))]) rfl Tryd.func13 rfl rfl (by decide) ((at_ok w (256 - n) (diffL pt nl n) p0 n0 cp0 (n + 1) _ (KeysAt.of hK hL (by simp)) (hz.slt leafC_len hL (i := 5) rfl) (hgd.diff pt) (by omega) (by omega) (by omega)).mono ?_)
      rintro e w20 ⟨rfl, hX⟩
      refine ⟨_, rfl, ?_⟩; clear hT; intro a hT; replace hT : Tm 98 a ((64, (Value.agg (digC (dg w (256 - n) (diffL pt nl n) (n + 1))).toArray)) :: _) := hT
      replace hL := hL.ext hX
      replace hS := Vg.Loc.ext hS hX; refine ⟨fun _ => hS, ?_⟩
      refine d_one (i := 7) hT #[true, true, true, true, true, true, true, true, false, false, false] rfl (by kernel_rfl) rfl ?_
      refine w_buildSlice (e := 24) (ps := [(0, .tmp 64)]) (pv := [(0, (Value.agg (digC (dg w (256 - n) (diffL pt nl n) (n + 1))).toArray))]) (c := digC (dg w (256 - n) (diffL pt nl n) (n + 1))) hT hL (by decide) rfl (fun _ => by kernel_rfl) ?_; clear hT hL; intro b8 a w21 hT hL hE hB
      replace hS := Vg.Loc.ext hS hE; refine ⟨fun _ => hS, ?_⟩
      refine d_one (i := 8) hT #[true, true, true, true, true, true, true, true, true, false, false] rfl (by kernel_rfl) rfl ?_
      refine w_append hT hL (by decide) 5 rfl rfl rfl Tryd.app27 (by decide) rfl hsib.2 (Src.one (xs := digC (dg w (256 - n) (diffL pt nl n) (n + 1))) rfl (oneCells_dig (dg w (256 - n) (diffL pt nl n) (n + 1))) (hL.rd 0 rfl 0 rfl)) (by omega) (by simp only [maxLen]; omega) ?_; clear hT hL; intro p3 cap3 ck3 a w22 how3 hT hL
      replace hL : Vg.Loc [] w0 w22 ([[(b8, ob (digC (dg w (256 - n) (diffL pt nl n) (n + 1))) 24)], [(b1, ob (digC pt) 24)], [(b2, ob ([(Value.bool false)] ++ (digC Dig.zero)) 26)], [(b3, ob ([(Value.slice ps ns cps), (Value.bool false)] ++ (digC Dig.zero ++ (digC Dig.zero))) 29)], [(gn, ob (nl.flatMap leafC ++ (jn)) 36)], ck3, c0, c1]) := hL
      have hoe3 := OwnE.snoc (x := dg w (256 - n) (diffL pt nl n) (n + 1)) hsib how3
      refine ⟨fun hn => absurd (by decide) hn, ?_⟩
      refine d_pure (i := 9) hT #[true, true, true, true, true, true, true, true, true, true, false] rfl (by kernel_rfl) rfl rfl (by decide) (fun _ _ _ h => h) (fun _ => q_fieldAddr hT rfl Tryd.fld29_0 rfl) ?_; clear hT; intro a hT
      refine d_one (i := 10) hT #[true, true, true, true, true, true, true, true, true, true, true] rfl (by kernel_rfl) rfl ?_
      refine w_store hT hL 3 (c := [(Value.slice ps ns cps), (Value.bool false)] ++ (digC Dig.zero ++ (digC Dig.zero))) rfl rfl Tryd.ty27 rfl (vs := [(Value.slice p3 (ns + 1) cap3)]) rfl rfl (by first | decide | (simp [arr32_len, arr8_len, digC_len]; done) | (simp [arr32_len, arr8_len, digC_len]; omega)) rfl (c' := [(Value.slice p3 (ns + 1) cap3), (Value.bool false)] ++ (digC Dig.zero ++ (digC Dig.zero))) rfl ?_; clear hL; intro w23 hL hE
      replace hL : Vg.Loc [] w0 w23 ([[(b8, ob (digC (dg w (256 - n) (diffL pt nl n) (n + 1))) 24)], [(b1, ob (digC pt) 24)], [(b2, ob ([(Value.bool false)] ++ (digC Dig.zero)) 26)], [(b3, ob ([(Value.slice p3 (ns + 1) cap3), (Value.bool false)] ++ (digC Dig.zero ++ (digC Dig.zero))) 29)], [(gn, ob (nl.flatMap leafC ++ (jn)) 36)], ck3, c0, c1]) := hL
      refine ⟨fun hn => absurd (by decide) hn, ?_⟩
      refine d_done (by kernel_rfl) ?_; clear hR hS
      refine then_norm ?_
      refine c_region ?_
      refine l_q hT (q_move hT rfl) rfl rfl (by decide) ?_; clear hT; intro a hT
      refine l_q hT (q_assign hT rfl) rfl rfl (by decide) ?_; clear hT; intro a hT
      refine l_end ?_
      refine blk_norm ?_
      refine then_norm ?_
      refine c_region ?_
      refine l_q hT (q_move hT rfl) rfl rfl (by decide) ?_; clear hT; intro a hT
      refine l_q hT ((q_addI hT rfl rfl (r := (n : Int) + 1) rfl (by omega) (by omega)).v (v := (vI ((n + 1 : Nat) : Int))) (rfl)) rfl rfl (by decide) ?_; clear hT; intro a hT
      refine l_q hT (q_assign hT rfl) rfl rfl (by decide) ?_; clear hT; intro a hT
      refine l_end ?_
      refine then_norm ?_
      replace hL : Vg.Loc [] w0 w23 ([ck3, [(b8, ob (digC (dg w (256 - n) (diffL pt nl n) (n + 1))) 24)], [(b1, ob (digC pt) 24)], [(b2, ob ([(Value.bool false)] ++ (digC Dig.zero)) 26)], [(b3, ob ([(Value.slice p3 (ns + 1) cap3), (Value.bool false)] ++ (digC Dig.zero ++ (digC Dig.zero))) 29)], [(gn, ob (nl.flatMap leafC ++ (jn)) 36)], c0, c1]) := hL.front 5 rfl rfl
      replace hL : Vg.Loc [] w0 w23 ([c1, ck3, [(b8, ob (digC (dg w (256 - n) (diffL pt nl n) (n + 1))) 24)], [(b1, ob (digC pt) 24)], [(b2, ob ([(Value.bool false)] ++ (digC Dig.zero)) 26)], [(b3, ob ([(Value.slice p3 (ns + 1) cap3), (Value.bool false)] ++ (digC Dig.zero ++ (digC Dig.zero))) 29)], [(gn, ob (nl.flatMap leafC ++ (jn)) 36)], c0]) := hL.front 7 rfl rfl
      replace hL : Vg.Loc [] w0 w23 ([[(b3, ob ([(Value.slice p3 (ns + 1) cap3), (Value.bool false)] ++ (digC Dig.zero ++ (digC Dig.zero))) 29)], c1, ck3, [(b8, ob (digC (dg w (256 - n) (diffL pt nl n) (n + 1))) 24)], [(b1, ob (digC pt) 24)], [(b2, ob ([(Value.bool false)] ++ (digC Dig.zero)) 26)], [(gn, ob (nl.flatMap leafC ++ (jn)) 36)], c0]) := hL.front 5 rfl rfl
      replace hL : Vg.Loc [] w0 w23 ([[(b2, ob ([(Value.bool false)] ++ (digC Dig.zero)) 26)], [(b3, ob ([(Value.slice p3 (ns + 1) cap3), (Value.bool false)] ++ (digC Dig.zero ++ (digC Dig.zero))) 29)], c1, ck3, [(b8, ob (digC (dg w (256 - n) (diffL pt nl n) (n + 1))) 24)], [(b1, ob (digC pt) 24)], [(gn, ob (nl.flatMap leafC ++ (jn)) 36)], c0]) := hL.front 5 rfl rfl
      replace hL : Vg.Loc [] w0 w23 ([[(b1, ob (digC pt) 24)], [(b2, ob ([(Value.bool false)] ++ (digC Dig.zero)) 26)], [(b3, ob ([(Value.slice p3 (ns + 1) cap3), (Value.bool false)] ++ (digC Dig.zero ++ (digC Dig.zero))) 29)], c1, ck3, [(b8, ob (digC (dg w (256 - n) (diffL pt nl n) (n + 1))) 24)], [(gn, ob (nl.flatMap leafC ++ (jn)) 36)], c0]) := hL.front 5 rfl rfl
      replace hL : Vg.Loc [] w0 w23 ([[(b1, ob (digC pt) 24)], [(b2, ob ([(Value.bool false)] ++ (digC Dig.zero)) 26)], [(b3, ob ([(Value.slice p3 (ns + 1) cap3), (Value.bool false)] ++ (digC Dig.zero ++ (digC Dig.zero))) 29)], c1, ck3]) := hL.sub (.cons_cons _ (.cons_cons _ (.cons_cons _ (.cons_cons _ (.cons_cons _ (.cons _ (.cons _ (.cons _ .slnil))))))))
      have hgo2 : goL w pt 257 ls 0 = ((sb ++ [dg w (256 - n) (diffL pt nl n) (n + 1)]) ++ (goL w pt (257 - (n + 1)) (sameL pt nl n) (n + 1)).1, (goL w pt (257 - (n + 1)) (sameL pt nl n) (n + 1)).2) := by
        rw [hgo, show 257 - n = (256 - n) + 1 from by omega, goL_step (by omega), show 257 - (n + 1) = 256 - n from by omega]
        simp
      exact ⟨_, ⟨n + 1, _, _, _, _, _, _, _, _, _, _, rfl, by omega, by omega, by omega, hgd.same pt, ho, hoe3, hgo2, hT.keep [0, 5, 6, 7, 11, 12] rfl, hL⟩, by simp only [id]; omega⟩
  · skip
    have hc1 := of_decide_eq_false hc1
    rw [goL_end (k := 257 - n) (n := n) (S := nl) (by omega)] at hgo
    refine wp_exit ?_
    refine then_exit ?_
    refine then_exit ?_
    refine blk_exit ?_
    refine then_norm ?_
    refine c_seq ?_
    refine wp_block ?_
    refine c_seq ?_
    refine c_region ?_
    refine l_q hT (q_move hT rfl) rfl rfl (by decide) ?_; clear hT; intro a hT
    refine l_q hT (q_len_slice hT rfl Tryd.underlying22) rfl rfl (by decide) ?_; clear hT; intro a hT
    refine l_q hT (q_eql hT rfl rfl) rfl rfl (by decide) ?_; clear hT; intro a hT
    refine l_q hT (q_assign hT rfl) rfl rfl (by decide) ?_; clear hT; intro a hT
    refine l_end ?_
    refine then_norm ?_
    refine c_if hT rfl (fun hc4 => ?_) (fun hc4 => ?_)
    · skip
      have hc4 := of_decide_eq_true hc4
      obtain rfl : nl = [] := List.eq_nil_of_length_eq_zero (by omega)
      refine wp_skip ?_
      refine blk_norm ?_
      refine then_norm ?_
      refine c_seq ?_
      refine d_startM hL [b2] #[false, false, false, false, false] [3] rfl rfl rfl ?_; clear hL; intro w24 hL hS; have hR := hL
      refine d_take (i := 1) hT #[false, true, false, false, false] rfl (by kernel_rfl) rfl rfl (by decide) (fun _ _ _ h => h) (fun _ hs => q_load_agg hT rfl Tryd.ty29 (Rd.loc (hR.rd 2 rfl 0 (ds := [(Value.slice ps ns cps), (Value.bool false)] ++ (digC Dig.zero ++ (digC Dig.zero))) rfl) hs (by simp only [List.mem_singleton]; exact fun e => hR.ne 1 2 (by decide) rfl rfl e.symm)) rfl) hS ?_; clear hT; intro a hT
      refine d_one (i := 0) hT #[true, true, false, false, false] rfl (by kernel_rfl) rfl ?_
      refine w_q hT (q_load_agg hT rfl Tryd.ty26 (hL.rd 1 rfl 0 (ds := [(Value.bool false)] ++ (digC Dig.zero)) rfl) rfl) rfl (by decide) ?_; clear hT; intro a hT
      refine ⟨fun _ => hS, ?_⟩
      refine d_one (i := 2) hT #[true, true, true, false, false] rfl (by kernel_rfl) rfl ?_
      refine w_store hT hL 1 (c := [(Value.bool false)] ++ (digC Dig.zero)) rfl rfl Tryd.ty26 rfl (vs := [(Value.bool false)] ++ (digC Dig.zero)) rfl rfl (by first | decide | (simp [arr32_len, arr8_len, digC_len]; done) | (simp [arr32_len, arr8_len, digC_len]; omega)) rfl (c' := [(Value.bool false)] ++ (digC Dig.zero)) rfl ?_; clear hL; intro w25 hL hE
      replace hL : Vg.Loc [] w0 w25 ([[(b1, ob (digC pt) 24)], [(b2, ob ([(Value.bool false)] ++ (digC Dig.zero)) 26)], [(b3, ob ([(Value.slice ps ns cps), (Value.bool false)] ++ (digC Dig.zero ++ (digC Dig.zero))) 29)], cn, cs]) := hL
      replace hS := Vg.Loc.turnedM hS hE (by simp); refine ⟨fun _ => hS, ?_⟩
      refine d_one (i := 3) hT #[true, true, true, true, false] rfl (by kernel_rfl) rfl ?_
      refine w_store hT hL 2 (c := [(Value.slice ps ns cps), (Value.bool false)] ++ (digC Dig.zero ++ (digC Dig.zero))) rfl rfl Tryd.ty29 rfl (vs := [(Value.slice ps ns cps), (Value.bool false)] ++ (digC Dig.zero ++ (digC Dig.zero))) rfl rfl (by first | decide | (simp [arr32_len, arr8_len, digC_len]; done) | (simp [arr32_len, arr8_len, digC_len]; omega)) rfl (c' := [(Value.slice ps ns cps), (Value.bool false)] ++ (digC Dig.zero ++ (digC Dig.zero))) rfl ?_; clear hL; intro w26 hL hE
      replace hL : Vg.Loc [] w0 w26 ([[(b1, ob (digC pt) 24)], [(b2, ob ([(Value.bool false)] ++ (digC Dig.zero)) 26)], [(b3, ob ([(Value.slice ps ns cps), (Value.bool false)] ++ (digC Dig.zero ++ (digC Dig.zero))) 29)], cn, cs]) := hL
      refine ⟨fun hn => absurd (by decide) hn, ?_⟩
      refine d_pure (i := 4) hT #[true, true, true, true, true] rfl (by kernel_rfl) rfl rfl (by decide) (fun _ _ _ h => h) (fun _ => q_assign hT rfl) ?_; clear hT; intro a hT
      refine d_done (by kernel_rfl) ?_; clear hR hS
      refine then_norm ?_
      refine wp_ret ?_
      refine c_ret (vs := [(Value.agg ([(Value.bool false)] ++ (digC Dig.zero)).toArray), (Value.agg ([(Value.slice ps ns cps), (Value.bool false)] ++ (digC Dig.zero ++ (digC Dig.zero))).toArray), (vI 0)]) (rs := [.cell 6 26, .cell 7 29, .tmp 8]) hT rfl (.agg rfl Tryd.ty26 (hL.rd 1 rfl 0 (ds := [(Value.bool false)] ++ (digC Dig.zero)) rfl) rfl (.agg rfl Tryd.ty29 (hL.rd 2 rfl 0 (ds := [(Value.slice ps ns cps), (Value.bool false)] ++ (digC Dig.zero ++ (digC Dig.zero))) rfl) rfl (.tmp rfl .nil))) ?_
      have hmk : goL w pt 257 ls 0 = (sb, []) := by rw [hgo]; simp
      rw [hmk]
      replace hL : Vg.Loc [] w0 w26 ([cs, [(b1, ob (digC pt) 24)], [(b2, ob ([(Value.bool false)] ++ (digC Dig.zero)) 26)], [(b3, ob ([(Value.slice ps ns cps), (Value.bool false)] ++ (digC Dig.zero ++ (digC Dig.zero))) 29)], cn]) := hL.front 4 rfl rfl
      replace hL : Vg.Loc [] w0 w26 ([cs]) := hL.sub (.cons_cons _ (.cons _ (.cons _ (.cons _ (.cons _ .slnil)))))
      refine ⟨ps, cps, cs, ?_, hL, by rw [hsib.len]; exact hsib⟩
      simp_all [packed, saysL, claimC, proofC, hsib.len]
    · skip
      have hc4 := of_decide_eq_false hc4
      obtain ⟨gn, jn, rfl, rfl⟩ := hnear.some (by omega)
      obtain ⟨x, rfl⟩ : ∃ x, nl = [x] := List.length_eq_one_iff.1 (by omega)
      refine c_seq ?_
      refine d_start' hL #[false, false, false, false, false, false, false] [] rfl rfl rfl ?_; clear hL; intro w27 hL hE; have hR := hL; have hS := Ext.refl w27
      refine d_pure (i := 0) hT #[true, false, false, false, false, false, false] rfl (by kernel_rfl) rfl rfl (by decide) (fun _ _ _ h => h) (fun _ => q_move hT rfl) ?_; clear hT; intro a hT
      refine d_pure (i := 1) hT #[true, true, false, false, false, false, false] rfl (by kernel_rfl) rfl rfl (by decide) (fun _ _ _ h => h) (fun _ => q_indexAddr hT rfl rfl Tryd.sli22 (by omega) (by omega)) ?_; clear hT; intro a hT
      refine d_pure (i := 2) hT #[true, true, true, false, false, false, false] rfl (by kernel_rfl) rfl rfl (by decide) (fun _ _ _ h => h) (fun _ => q_fieldAddr hT rfl Tryd.fld36_0 rfl) ?_; clear hT; intro a hT
      refine d_take (i := 3) hT #[true, true, true, true, false, false, false] rfl (by kernel_rfl) rfl rfl (by decide) (fun _ _ _ h => h) (fun _ hs => q_load_agg hT rfl Tryd.ty24 (Rd.ext ((SlT.flat0 (d0 := noLeaf) leafC_len [x] gn 0 (hR.rd 3 rfl 0 (by simp)) 0 (by omega)).part 0 (ds := digC (([x].getD 0 noLeaf).p)) rfl) hs) rfl) hS ?_; clear hT; intro a hT
      refine d_take (i := 4) hT #[true, true, true, true, true, false, false] rfl (by kernel_rfl) rfl rfl (by decide) (fun _ _ _ h => h) (fun _ hs => q_load_agg hT rfl Tryd.ty24 (Rd.ext (hR.rd 0 rfl 0 (ds := digC pt) rfl) hs) rfl) hS ?_; clear hT; intro a hT
      refine d_pure (i := 5) hT #[true, true, true, true, true, true, false] rfl (by kernel_rfl) rfl rfl (by decide) (fun _ _ _ h => h) (fun _ => q_eq_agg hT rfl rfl Tryd.eqg24 (EqR.dig Tryd.arr24 Tryd.underlying5 (([x].getD 0 noLeaf).p) pt) (by decide)) ?_; clear hT; intro a hT
      refine d_pure (i := 6) hT #[true, true, true, true, true, true, true] rfl (by kernel_rfl) rfl rfl (by decide) (fun _ _ _ h => h) (fun _ => q_assign hT rfl) ?_; clear hT; intro a hT
      refine d_done (by kernel_rfl) ?_; clear hR hS
      refine then_norm ?_
      refine c_if hT rfl (fun hc5 => ?_) (fun hc5 => ?_)
      · skip
        have hc5 := of_decide_eq_true hc5
        refine c_region ?_
        refine l_q hT (q_move hT rfl) rfl rfl (by decide) ?_; clear hT; intro a hT
        refine l_q hT (q_indexAddr hT rfl rfl Tryd.sli22 (by omega) (by omega)) rfl rfl (by decide) ?_; clear hT; intro a hT
        refine l_q hT (q_fieldAddr hT rfl Tryd.fld36_1 rfl) rfl rfl (by decide) ?_; clear hT; intro a hT
        refine l_q hT (q_load_agg hT rfl Tryd.ty24 ((SlT.flat0 (d0 := noLeaf) leafC_len [x] gn 0 (hL.rd 3 rfl 0 (by simp)) 0 (by omega)).part 32 (ds := digC (([x].getD 0 noLeaf).v)) rfl) rfl) rfl rfl (by decide) ?_; clear hT; intro a hT
        refine l_q hT (q_build (ps := [(0, .const (.bool true)), (1, .tmp 94)]) (pv := [(0, (Value.bool true)), (1, (Value.agg (digC (([x].getD 0 noLeaf).v)).toArray))]) (v := .agg ([(Value.bool true)] ++ (digC (([x].getD 0 noLeaf).v))).toArray) hT rfl (fun _ => by kernel_rfl)) rfl rfl (by decide) ?_; clear hT; intro a hT
        refine l_do rfl ?_
        refine w_store hT hL 1 (c := [(Value.bool false)] ++ (digC Dig.zero)) rfl rfl Tryd.ty26 rfl (vs := [(Value.bool true)] ++ (digC (([x].getD 0 noLeaf).v))) rfl rfl (by first | decide | (simp [arr32_len, arr8_len, digC_len]; done) | (simp [arr32_len, arr8_len, digC_len]; omega)) rfl (c' := [(Value.bool true)] ++ (digC (([x].getD 0 noLeaf).v))) rfl ?_; clear hL; intro w28 hL hE
        replace hL : Vg.Loc [] w0 w28 ([[(b1, ob (digC pt) 24)], [(b2, ob ([(Value.bool true)] ++ (digC (([x].getD 0 noLeaf).v))) 26)], [(b3, ob ([(Value.slice ps ns cps), (Value.bool false)] ++ (digC Dig.zero ++ (digC Dig.zero))) 29)], [(gn, ob ([x].flatMap leafC ++ (jn)) 36)], cs]) := hL
        refine l_end ?_
        refine blk_norm ?_
        refine then_norm ?_
        refine c_seq ?_
        refine d_startM hL [b2] #[false, false, false, false, false] [3] rfl rfl rfl ?_; clear hL; intro w29 hL hS; have hR := hL
        refine d_take (i := 1) hT #[false, true, false, false, false] rfl (by kernel_rfl) rfl rfl (by decide) (fun _ _ _ h => h) (fun _ hs => q_load_agg hT rfl Tryd.ty29 (Rd.loc (hR.rd 2 rfl 0 (ds := [(Value.slice ps ns cps), (Value.bool false)] ++ (digC Dig.zero ++ (digC Dig.zero))) rfl) hs (by simp only [List.mem_singleton]; exact fun e => hR.ne 1 2 (by decide) rfl rfl e.symm)) rfl) hS ?_; clear hT; intro a hT
        refine d_one (i := 0) hT #[true, true, false, false, false] rfl (by kernel_rfl) rfl ?_
        refine w_q hT (q_load_agg hT rfl Tryd.ty26 (hL.rd 1 rfl 0 (ds := [(Value.bool true)] ++ (digC (([x].getD 0 noLeaf).v))) rfl) rfl) rfl (by decide) ?_; clear hT; intro a hT
        refine ⟨fun _ => hS, ?_⟩
        refine d_one (i := 2) hT #[true, true, true, false, false] rfl (by kernel_rfl) rfl ?_
        refine w_store hT hL 1 (c := [(Value.bool true)] ++ (digC (([x].getD 0 noLeaf).v))) rfl rfl Tryd.ty26 rfl (vs := [(Value.bool true)] ++ (digC (([x].getD 0 noLeaf).v))) rfl rfl (by first | decide | (simp [arr32_len, arr8_len, digC_len]; done) | (simp [arr32_len, arr8_len, digC_len]; omega)) rfl (c' := [(Value.bool true)] ++ (digC (([x].getD 0 noLeaf).v))) rfl ?_; clear hL; intro w30 hL hE
        replace hL : Vg.Loc [] w0 w30 ([[(b1, ob (digC pt) 24)], [(b2, ob ([(Value.bool true)] ++ (digC (([x].getD 0 noLeaf).v))) 26)], [(b3, ob ([(Value.slice ps ns cps), (Value.bool false)] ++ (digC Dig.zero ++ (digC Dig.zero))) 29)], [(gn, ob ([x].flatMap leafC ++ (jn)) 36)], cs]) := hL
        replace hS := Vg.Loc.turnedM hS hE (by simp); refine ⟨fun _ => hS, ?_⟩
        refine d_one (i := 3) hT #[true, true, true, true, false] rfl (by kernel_rfl) rfl ?_
        refine w_store hT hL 2 (c := [(Value.slice ps ns cps), (Value.bool false)] ++ (digC Dig.zero ++ (digC Dig.zero))) rfl rfl Tryd.ty29 rfl (vs := [(Value.slice ps ns cps), (Value.bool false)] ++ (digC Dig.zero ++ (digC Dig.zero))) rfl rfl (by first | decide | (simp [arr32_len, arr8_len, digC_len]; done) | (simp [arr32_len, arr8_len, digC_len]; omega)) rfl (c' := [(Value.slice ps ns cps), (Value.bool false)] ++ (digC Dig.zero ++ (digC Dig.zero))) rfl ?_; clear hL; intro w31 hL hE
        replace hL : Vg.Loc [] w0 w31 ([[(b1, ob (digC pt) 24)], [(b2, ob ([(Value.bool true)] ++ (digC (([x].getD 0 noLeaf).v))) 26)], [(b3, ob ([(Value.slice ps ns cps), (Value.bool false)] ++ (digC Dig.zero ++ (digC Dig.zero))) 29)], [(gn, ob ([x].flatMap leafC ++ (jn)) 36)], cs]) := hL
        refine ⟨fun hn => absurd (by decide) hn, ?_⟩
        refine d_pure (i := 4) hT #[true, true, true, true, true] rfl (by kernel_rfl) rfl rfl (by decide) (fun _ _ _ h => h) (fun _ => q_assign hT rfl) ?_; clear hT; intro a hT
        refine d_done (by kernel_rfl) ?_; clear hR hS
        refine then_norm ?_
        refine wp_ret ?_
        refine c_ret (vs := [(Value.agg ([(Value.bool true)] ++ (digC (([x].getD 0 noLeaf).v))).toArray), (Value.agg ([(Value.slice ps ns cps), (Value.bool false)] ++ (digC Dig.zero ++ (digC Dig.zero))).toArray), (vI 0)]) (rs := [.cell 6 26, .cell 7 29, .tmp 8]) hT rfl (.agg rfl Tryd.ty26 (hL.rd 1 rfl 0 (ds := [(Value.bool true)] ++ (digC (([x].getD 0 noLeaf).v))) rfl) rfl (.agg rfl Tryd.ty29 (hL.rd 2 rfl 0 (ds := [(Value.slice ps ns cps), (Value.bool false)] ++ (digC Dig.zero ++ (digC Dig.zero))) rfl) rfl (.tmp rfl .nil))) ?_
        have hmk : goL w pt 257 ls 0 = (sb, [x]) := by rw [hgo]; simp
        rw [hmk]
        replace hL : Vg.Loc [] w0 w31 ([cs, [(b1, ob (digC pt) 24)], [(b2, ob ([(Value.bool true)] ++ (digC (([x].getD 0 noLeaf).v))) 26)], [(b3, ob ([(Value.slice ps ns cps), (Value.bool false)] ++ (digC Dig.zero ++ (digC Dig.zero))) 29)], [(gn, ob ([x].flatMap leafC ++ (jn)) 36)]]) := hL.front 4 rfl rfl
        replace hL : Vg.Loc [] w0 w31 ([cs]) := hL.sub (.cons_cons _ (.cons _ (.cons _ (.cons _ (.cons _ .slnil)))))
        refine ⟨ps, cps, cs, ?_, hL, by rw [hsib.len]; exact hsib⟩
        have hq : x.p = pt := hc5
        have hs : saysL pt [x] = (true, x.v, false, Dig.zero, Dig.zero) := by simp [saysL, hq]
        simp only [packed, hs, claimC, proofC, hsib.len]; rfl
      · skip
        have hc5 := of_decide_eq_false hc5
        refine d_startM hL [b3] #[false, false, false, false, false, false, false, false, false, false, false, false, false, false] [] rfl rfl rfl ?_; clear hL; intro w32 hL hS; have hR := hL
        refine d_pure (i := 0) hT #[true, false, false, false, false, false, false, false, false, false, false, false, false, false] rfl (by kernel_rfl) rfl rfl (by decide) (fun _ _ _ h => h) (fun _ => q_move hT rfl) ?_; clear hT; intro a hT
        refine d_pure (i := 1) hT #[true, true, false, false, false, false, false, false, false, false, false, false, false, false] rfl (by kernel_rfl) rfl rfl (by decide) (fun _ _ _ h => h) (fun _ => q_indexAddr hT rfl rfl Tryd.sli22 (by omega) (by omega)) ?_; clear hT; intro a hT
        refine d_pure (i := 2) hT #[true, true, true, false, false, false, false, false, false, false, false, false, false, false] rfl (by kernel_rfl) rfl rfl (by decide) (fun _ _ _ h => h) (fun _ => q_fieldAddr hT rfl Tryd.fld36_0 rfl) ?_; clear hT; intro a hT
        refine d_pure (i := 4) hT #[true, true, true, false, true, false, false, false, false, false, false, false, false, false] rfl (by kernel_rfl) rfl rfl (by decide) (fun _ _ _ h => h) (fun _ => q_move hT rfl) ?_; clear hT; intro a hT
        refine d_pure (i := 5) hT #[true, true, true, false, true, true, false, false, false, false, false, false, false, false] rfl (by kernel_rfl) rfl rfl (by decide) (fun _ _ _ h => h) (fun _ => q_indexAddr hT rfl rfl Tryd.sli22 (by omega) (by omega)) ?_; clear hT; intro a hT
        refine d_pure (i := 6) hT #[true, true, true, false, true, true, true, false, false, false, false, false, false, false] rfl (by kernel_rfl) rfl rfl (by decide) (fun _ _ _ h => h) (fun _ => q_fieldAddr hT rfl Tryd.fld36_1 rfl) ?_; clear hT; intro a hT
        refine d_pure (i := 8) hT #[true, true, true, false, true, true, true, false, true, false, false, false, false, false] rfl (by kernel_rfl) rfl rfl (by decide) (fun _ _ _ h => h) (fun _ => q_fieldAddr hT rfl Tryd.fld29_1 rfl) ?_; clear hT; intro a hT
        refine d_take (i := 3) hT #[true, true, true, true, true, true, true, false, true, false, false, false, false, false] rfl (by kernel_rfl) rfl rfl (by decide) (fun _ _ _ h => h) (fun _ hs => q_load_agg hT rfl Tryd.ty24 (Rd.loc ((SlT.flat0 (d0 := noLeaf) leafC_len [x] gn 0 (hR.rd 3 rfl 0 (by simp)) 0 (by omega)).part 0 (ds := digC (([x].getD 0 noLeaf).p)) rfl) hs (by simp only [List.mem_singleton]; exact fun e => hR.ne 2 3 (by decide) rfl rfl e.symm)) rfl) hS ?_; clear hT; intro a hT
        refine d_take (i := 7) hT #[true, true, true, true, true, true, true, true, true, false, false, false, false, false] rfl (by kernel_rfl) rfl rfl (by decide) (fun _ _ _ h => h) (fun _ hs => q_load_agg hT rfl Tryd.ty24 (Rd.loc ((SlT.flat0 (d0 := noLeaf) leafC_len [x] gn 0 (hR.rd 3 rfl 0 (by simp)) 0 (by omega)).part 32 (ds := digC (([x].getD 0 noLeaf).v)) rfl) hs (by simp only [List.mem_singleton]; exact fun e => hR.ne 2 3 (by decide) rfl rfl e.symm)) rfl) hS ?_; clear hT; intro a hT
        refine d_one (i := 9) hT #[true, true, true, true, true, true, true, true, true, true, false, false, false, false] rfl (by kernel_rfl) rfl ?_
        refine w_store hT hL 2 (c := [(Value.slice ps ns cps), (Value.bool false)] ++ (digC Dig.zero ++ (digC Dig.zero))) rfl rfl Tryd.ty4 rfl (vs := [(Value.bool true)]) rfl rfl (by first | decide | (simp [arr32_len, arr8_len, digC_len]; done) | (simp [arr32_len, arr8_len, digC_len]; omega)) rfl (c' := [(Value.slice ps ns cps), (Value.bool true)] ++ (digC Dig.zero ++ (digC Dig.zero))) rfl ?_; clear hL; intro w33 hL hE
        replace hL : Vg.Loc [] w0 w33 ([[(b1, ob (digC pt) 24)], [(b2, ob ([(Value.bool false)] ++ (digC Dig.zero)) 26)], [(b3, ob ([(Value.slice ps ns cps), (Value.bool true)] ++ (digC Dig.zero ++ (digC Dig.zero))) 29)], [(gn, ob ([x].flatMap leafC ++ (jn)) 36)], cs]) := hL
        replace hS := Vg.Loc.turnedM hS hE (by simp); refine ⟨fun _ => hS, ?_⟩
        refine d_pure (i := 10) hT #[true, true, true, true, true, true, true, true, true, true, true, false, false, false] rfl (by kernel_rfl) rfl rfl (by decide) (fun _ _ _ h => h) (fun _ => q_fieldAddr hT rfl Tryd.fld29_2 rfl) ?_; clear hT; intro a hT
        refine d_one (i := 11) hT #[true, true, true, true, true, true, true, true, true, true, true, true, false, false] rfl (by kernel_rfl) rfl ?_
        refine w_store hT hL 2 (c := [(Value.slice ps ns cps), (Value.bool true)] ++ (digC Dig.zero ++ (digC Dig.zero))) rfl rfl Tryd.ty24 rfl (vs := digC (([x].getD 0 noLeaf).p)) rfl rfl (by first | decide | (simp [arr32_len, arr8_len, digC_len]; done) | (simp [arr32_len, arr8_len, digC_len]; omega)) rfl (c' := [(Value.slice ps ns cps), (Value.bool true)] ++ (digC (([x].getD 0 noLeaf).p) ++ (digC Dig.zero))) rfl ?_; clear hL; intro w34 hL hE
        replace hL : Vg.Loc [] w0 w34 ([[(b1, ob (digC pt) 24)], [(b2, ob ([(Value.bool false)] ++ (digC Dig.zero)) 26)], [(b3, ob ([(Value.slice ps ns cps), (Value.bool true)] ++ (digC (([x].getD 0 noLeaf).p) ++ (digC Dig.zero))) 29)], [(gn, ob ([x].flatMap leafC ++ (jn)) 36)], cs]) := hL
        replace hS := Vg.Loc.turnedM hS hE (by simp); refine ⟨fun _ => hS, ?_⟩
        refine d_pure (i := 12) hT #[true, true, true, true, true, true, true, true, true, true, true, true, true, false] rfl (by kernel_rfl) rfl rfl (by decide) (fun _ _ _ h => h) (fun _ => q_fieldAddr hT rfl Tryd.fld29_3 rfl) ?_; clear hT; intro a hT
        refine d_one (i := 13) hT #[true, true, true, true, true, true, true, true, true, true, true, true, true, true] rfl (by kernel_rfl) rfl ?_
        refine w_store hT hL 2 (c := [(Value.slice ps ns cps), (Value.bool true)] ++ (digC (([x].getD 0 noLeaf).p) ++ (digC Dig.zero))) rfl rfl Tryd.ty24 rfl (vs := digC (([x].getD 0 noLeaf).v)) rfl rfl (by first | decide | (simp [arr32_len, arr8_len, digC_len]; done) | (simp [arr32_len, arr8_len, digC_len]; omega)) rfl (c' := [(Value.slice ps ns cps), (Value.bool true)] ++ (digC (([x].getD 0 noLeaf).p) ++ (digC (([x].getD 0 noLeaf).v)))) rfl ?_; clear hL; intro w35 hL hE
        replace hL : Vg.Loc [] w0 w35 ([[(b1, ob (digC pt) 24)], [(b2, ob ([(Value.bool false)] ++ (digC Dig.zero)) 26)], [(b3, ob ([(Value.slice ps ns cps), (Value.bool true)] ++ (digC (([x].getD 0 noLeaf).p) ++ (digC (([x].getD 0 noLeaf).v)))) 29)], [(gn, ob ([x].flatMap leafC ++ (jn)) 36)], cs]) := hL
        replace hS := Vg.Loc.turnedM hS hE (by simp); refine ⟨fun _ => hS, ?_⟩
        refine d_done (by kernel_rfl) ?_; clear hR hS
        refine blk_norm ?_
        refine then_norm ?_
        refine c_seq ?_
        refine d_startM hL [b2] #[false, false, false, false, false] [3] rfl rfl rfl ?_; clear hL; intro w36 hL hS; have hR := hL
        refine d_take (i := 1) hT #[false, true, false, false, false] rfl (by kernel_rfl) rfl rfl (by decide) (fun _ _ _ h => h) (fun _ hs => q_load_agg hT rfl Tryd.ty29 (Rd.loc (hR.rd 2 rfl 0 (ds := [(Value.slice ps ns cps), (Value.bool true)] ++ (digC (([x].getD 0 noLeaf).p) ++ (digC (([x].getD 0 noLeaf).v)))) rfl) hs (by simp only [List.mem_singleton]; exact fun e => hR.ne 1 2 (by decide) rfl rfl e.symm)) rfl) hS ?_; clear hT; intro a hT
        refine d_one (i := 0) hT #[true, true, false, false, false] rfl (by kernel_rfl) rfl ?_
        refine w_q hT (q_load_agg hT rfl Tryd.ty26 (hL.rd 1 rfl 0 (ds := [(Value.bool false)] ++ (digC Dig.zero)) rfl) rfl) rfl (by decide) ?_; clear hT; intro a hT
        refine ⟨fun _ => hS, ?_⟩
        refine d_one (i := 2) hT #[true, true, true, false, false] rfl (by kernel_rfl) rfl ?_
        refine w_store hT hL 1 (c := [(Value.bool false)] ++ (digC Dig.zero)) rfl rfl Tryd.ty26 rfl (vs := [(Value.bool false)] ++ (digC Dig.zero)) rfl rfl (by first | decide | (simp [arr32_len, arr8_len, digC_len]; done) | (simp [arr32_len, arr8_len, digC_len]; omega)) rfl (c' := [(Value.bool false)] ++ (digC Dig.zero)) rfl ?_; clear hL; intro w37 hL hE
        replace hL : Vg.Loc [] w0 w37 ([[(b1, ob (digC pt) 24)], [(b2, ob ([(Value.bool false)] ++ (digC Dig.zero)) 26)], [(b3, ob ([(Value.slice ps ns cps), (Value.bool true)] ++ (digC (([x].getD 0 noLeaf).p) ++ (digC (([x].getD 0 noLeaf).v)))) 29)], [(gn, ob ([x].flatMap leafC ++ (jn)) 36)], cs]) := hL
        replace hS := Vg.Loc.turnedM hS hE (by simp); refine ⟨fun _ => hS, ?_⟩
        refine d_one (i := 3) hT #[true, true, true, true, false] rfl (by kernel_rfl) rfl ?_
        refine w_store hT hL 2 (c := [(Value.slice ps ns cps), (Value.bool true)] ++ (digC (([x].getD 0 noLeaf).p) ++ (digC (([x].getD 0 noLeaf).v)))) rfl rfl Tryd.ty29 rfl (vs := [(Value.slice ps ns cps), (Value.bool true)] ++ (digC (([x].getD 0 noLeaf).p) ++ (digC (([x].getD 0 noLeaf).v)))) rfl rfl (by first | decide | (simp [arr32_len, arr8_len, digC_len]; done) | (simp [arr32_len, arr8_len, digC_len]; omega)) rfl (c' := [(Value.slice ps ns cps), (Value.bool true)] ++ (digC (([x].getD 0 noLeaf).p) ++ (digC (([x].getD 0 noLeaf).v)))) rfl ?_; clear hL; intro w38 hL hE
        replace hL : Vg.Loc [] w0 w38 ([[(b1, ob (digC pt) 24)], [(b2, ob ([(Value.bool false)] ++ (digC Dig.zero)) 26)], [(b3, ob ([(Value.slice ps ns cps), (Value.bool true)] ++ (digC (([x].getD 0 noLeaf).p) ++ (digC (([x].getD 0 noLeaf).v)))) 29)], [(gn, ob ([x].flatMap leafC ++ (jn)) 36)], cs]) := hL
        refine ⟨fun hn => absurd (by decide) hn, ?_⟩
        refine d_pure (i := 4) hT #[true, true, true, true, true] rfl (by kernel_rfl) rfl rfl (by decide) (fun _ _ _ h => h) (fun _ => q_assign hT rfl) ?_; clear hT; intro a hT
        refine d_done (by kernel_rfl) ?_; clear hR hS
        refine then_norm ?_
        refine wp_ret ?_
        refine c_ret (vs := [(Value.agg ([(Value.bool false)] ++ (digC Dig.zero)).toArray), (Value.agg ([(Value.slice ps ns cps), (Value.bool true)] ++ (digC (([x].getD 0 noLeaf).p) ++ (digC (([x].getD 0 noLeaf).v)))).toArray), (vI 0)]) (rs := [.cell 6 26, .cell 7 29, .tmp 8]) hT rfl (.agg rfl Tryd.ty26 (hL.rd 1 rfl 0 (ds := [(Value.bool false)] ++ (digC Dig.zero)) rfl) rfl (.agg rfl Tryd.ty29 (hL.rd 2 rfl 0 (ds := [(Value.slice ps ns cps), (Value.bool true)] ++ (digC (([x].getD 0 noLeaf).p) ++ (digC (([x].getD 0 noLeaf).v)))) rfl) rfl (.tmp rfl .nil))) ?_
        have hmk : goL w pt 257 ls 0 = (sb, [x]) := by rw [hgo]; simp
        rw [hmk]
        replace hL : Vg.Loc [] w0 w38 ([cs, [(b1, ob (digC pt) 24)], [(b2, ob ([(Value.bool false)] ++ (digC Dig.zero)) 26)], [(b3, ob ([(Value.slice ps ns cps), (Value.bool true)] ++ (digC (([x].getD 0 noLeaf).p) ++ (digC (([x].getD 0 noLeaf).v)))) 29)], [(gn, ob ([x].flatMap leafC ++ (jn)) 36)]]) := hL.front 4 rfl rfl
        replace hL : Vg.Loc [] w0 w38 ([cs]) := hL.sub (.cons_cons _ (.cons _ (.cons _ (.cons _ (.cons _ .slnil)))))
        refine ⟨ps, cps, cs, ?_, hL, by rw [hsib.len]; exact hsib⟩
        have hq : ¬ x.p = pt := hc5
        have hs : saysL pt [x] = (false, Dig.zero, true, x.p, x.v) := by simp [saysL, hq]
        simp only [packed, hs, claimC, proofC, hsib.len]; rfl
end Go.Proofs.YtcaffacganffjaaDoor
end
