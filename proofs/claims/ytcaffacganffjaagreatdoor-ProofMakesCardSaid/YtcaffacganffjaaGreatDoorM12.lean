/- The walks of a part of the program: GRef8. Printed by a program of the prover. The walks of a part of the program: GRef9. Printed by a program of the prover. The walks of a part of the program: GRef10. Printed by a program of the prover. -/
import Derived.Test.YtcaffacganffjaaGreatDoorM2
import Derived.Test.YtcaffacganffjaaGreatDoorM6
import Derived.Test.YtcaffacganffjaaGreatDoorM11

section
namespace Go.Proofs.YtcaffacganffjaaGreatDoor
open Go Go.Vg


set_option maxRecDepth 20000 in
set_option maxHeartbeats 1000000 in
theorem refDig_nil (w : Int) (p : Option Addr) (cap n : Nat) (w0 : World) (hK2 : Key2At w0) :
    Calls Tryz.prog 48 #[(vI w), (Value.slice p 0 cap), (vI (n : Int))] w0 fun e w' => e = .returned (dv (emptyD w)) ∧ Ext w0 w' := by
  refine c_enter (n := 40) (args := [(vI w), (Value.slice p 0 cap), (vI (n : Int))]) Tryz.func48 rfl rfl (Nat.le_of_ble_eq_true rfl) rfl (fun a hT => ?_)
  simp only [List.zipIdx_cons, List.zipIdx_nil, List.map_cons, List.map_nil, Nat.reduceAdd] at hT
  have hL := Vg.Loc.refl [] w0
  refine c_seq ?_
  refine c_region ?_
  refine l_do rfl ?_
  refine w_alloc hT hL (by decide) Tryz.ty24 ?_; clear hT hL; intro b1 a w1 hT hL hE hB
  refine l_end ?_
  refine then_norm ?_
  refine c_seq ?_
  refine c_seq ?_
  refine c_region ?_
  refine l_q hT (q_move hT rfl) rfl rfl (by decide) ?_; clear hT; intro a hT
  refine l_q hT (q_len_slice hT rfl Tryz.underlying22) rfl rfl (by decide) ?_; clear hT; intro a hT
  refine l_q hT ((q_eql hT rfl rfl).b (b := true) rfl) rfl rfl (by decide) ?_; clear hT; intro a hT
  refine l_end ?_
  refine then_norm ?_
  refine c_true hT rfl rfl ?_
  refine c_seq ?_
  refine c_region ?_
  refine l_q hT (q_move hT rfl) rfl rfl (by decide) ?_; clear hT; intro a hT
  refine l_do rfl ?_
  refine w_callT (xs := [.tmp 12]) hT rfl (vs := [(vI w)]) rfl (args := #[(vI w)]) rfl Tryz.func94 rfl rfl (by decide) ((refEmpty_spec (w) _ (hK2.of hL (by simp))).mono ?_)
  rintro e w2 ⟨rfl, hX⟩
  refine ⟨_, rfl, ?_⟩; clear hT; intro a hT; replace hT : Tm 40 a ((13, (Value.agg (digC (emptyD w)).toArray)) :: _) := hT
  replace hL := hL.ext hX
  refine l_do rfl ?_
  refine w_store hT hL 0 (c := digC Dig.zero) rfl rfl Tryz.ty24 rfl (vs := digC (emptyD w)) rfl rfl (by first | decide | (simp [arr32_len, arr8_len, digC_len]; done) | (simp [arr32_len, arr8_len, digC_len]; omega)) rfl (c' := digC (emptyD w)) rfl ?_; clear hL; intro w3 hL hE
  replace hL : Vg.Loc [] w0 w3 ([[(b1, ob (digC (emptyD w)) 24)]]) := hL
  refine l_end ?_
  refine then_norm ?_
  refine wp_ret ?_
  refine then_ret ?_
  refine c_ret (vs := [(Value.agg (digC (emptyD w)).toArray)]) (rs := [.cell 6 24]) hT rfl (.agg rfl Tryz.ty24 (hL.rd 0 rfl 0 (ds := digC (emptyD w)) rfl) rfl .nil) ?_
  exact ⟨rfl, hL.drop⟩

set_option maxRecDepth 20000 in
set_option maxHeartbeats 1000000 in
theorem refDig_one (w : Int) (x : Leaf) (p : Option Addr) (cap n : Nat) (w0 : World) (hK2 : Key2At w0) (hsl : SlT w0 p 1 64 leafC noLeaf [x]) :
    Calls Tryz.prog 48 #[(vI w), (Value.slice p 1 cap), (vI (n : Int))] w0 fun e w' => e = .returned (dv (leafD w x)) ∧ Ext w0 w' := by
  refine c_enter (n := 40) (args := [(vI w), (Value.slice p 1 cap), (vI (n : Int))]) Tryz.func48 rfl rfl (Nat.le_of_ble_eq_true rfl) rfl (fun a hT => ?_)
  simp only [List.zipIdx_cons, List.zipIdx_nil, List.map_cons, List.map_nil, Nat.reduceAdd] at hT
  have hL := Vg.Loc.refl [] w0
  refine c_seq ?_
  refine c_region ?_
  refine l_do rfl ?_
  refine w_alloc hT hL (by decide) Tryz.ty24 ?_; clear hT hL; intro b1 a w1 hT hL hE hB
  refine l_end ?_
  refine then_norm ?_
  refine c_seq ?_
  refine c_seq ?_
  refine c_region ?_
  refine l_q hT (q_move hT rfl) rfl rfl (by decide) ?_; clear hT; intro a hT
  refine l_q hT (q_len_slice hT rfl Tryz.underlying22) rfl rfl (by decide) ?_; clear hT; intro a hT
  refine l_q hT ((q_eql hT rfl rfl).b (b := false) rfl) rfl rfl (by decide) ?_; clear hT; intro a hT
  refine l_end ?_
  refine then_norm ?_
  refine c_false hT rfl rfl ?_
  refine wp_skip ?_
  refine then_norm ?_
  refine c_seq ?_
  refine c_seq ?_
  refine c_region ?_
  refine l_q hT (q_move hT rfl) rfl rfl (by decide) ?_; clear hT; intro a hT
  refine l_q hT (q_len_slice hT rfl Tryz.underlying22) rfl rfl (by decide) ?_; clear hT; intro a hT
  refine l_q hT ((q_eql hT rfl rfl).b (b := true) rfl) rfl rfl (by decide) ?_; clear hT; intro a hT
  refine l_end ?_
  refine then_norm ?_
  refine c_true hT rfl rfl ?_
  refine c_seq ?_
  refine c_region ?_
  refine l_q hT (q_move hT rfl) rfl rfl (by decide) ?_; clear hT; intro a hT
  refine l_q hT (q_move hT rfl) rfl rfl (by decide) ?_; clear hT; intro a hT
  obtain ⟨sb1, so1, hp1, hrd1⟩ := (hsl).2 (by omega)
  refine l_q hT (q_indexAddr (b := sb1) (off := so1) (len := 1) (cap := cap) hT (by rw [← hp1]; rfl) rfl Tryz.sli22 (by omega) (by omega)) rfl rfl (by decide) ?_; clear hT; intro a hT
  refine l_q hT (q_load_agg hT rfl Tryz.ty85 (Rd.loc (hrd1 0 (by omega)) hL (by simp)) rfl) rfl rfl (by decide) ?_; clear hT; intro a hT
  refine l_do rfl ?_
  refine w_callT (xs := [.tmp 17, .tmp 20]) hT rfl (vs := [(vI w), (Value.agg (digC x.p ++ (digC x.v)).toArray)]) rfl (args := #[(vI w), (Value.agg (digC x.p ++ (digC x.v)).toArray)]) rfl Tryz.func95 rfl rfl (by decide) ((refLeaf_spec (w) x _ (hK2.of hL (by simp))).mono ?_)
  rintro e w2 ⟨rfl, hX⟩
  refine ⟨_, rfl, ?_⟩; clear hT; intro a hT; replace hT : Tm 40 a ((21, (Value.agg (digC (leafD w x)).toArray)) :: _) := hT
  replace hL := hL.ext hX
  refine l_do rfl ?_
  refine w_store hT hL 0 (c := digC Dig.zero) rfl rfl Tryz.ty24 rfl (vs := digC (leafD w x)) rfl rfl (by first | decide | (simp [arr32_len, arr8_len, digC_len]; done) | (simp [arr32_len, arr8_len, digC_len]; omega)) rfl (c' := digC (leafD w x)) rfl ?_; clear hL; intro w3 hL hE
  replace hL : Vg.Loc [] w0 w3 ([[(b1, ob (digC (leafD w x)) 24)]]) := hL
  refine l_end ?_
  refine then_norm ?_
  refine wp_ret ?_
  refine then_ret ?_
  refine c_ret (vs := [(Value.agg (digC (leafD w x)).toArray)]) (rs := [.cell 6 24]) hT rfl (.agg rfl Tryz.ty24 (hL.rd 0 rfl 0 (ds := digC (leafD w x)) rfl) rfl .nil) ?_
  exact ⟨rfl, hL.drop⟩

set_option maxRecDepth 100000 in
set_option maxHeartbeats 4000000 in
theorem refDig_step (w : Int) (k : Nat) (ih : RefDigOK Tryz.prog 48 w k) (ls : List Leaf) (p : Option Addr) (len cap n : Nat) (hc : len ≤ 4096) (hln : 2 ≤ len) (hk : k + 1 + n = 257) (hgd : GoodL ls n) (w0 : World) (hK2 : Key2At w0) (hsl : SlT w0 p len 64 leafC noLeaf ls) :
    Calls Tryz.prog 48 #[(vI w), (Value.slice p len cap), (vI (n : Int))] w0 fun e w' => e = .returned (dv (dg w (k + 1) ls n)) ∧ Ext w0 w' := by
  refine c_enter (n := 40) (args := [(vI w), (Value.slice p len cap), (vI (n : Int))]) Tryz.func48 rfl rfl (Nat.le_of_ble_eq_true rfl) rfl (fun a hT => ?_)
  simp only [List.zipIdx_cons, List.zipIdx_nil, List.map_cons, List.map_nil, Nat.reduceAdd] at hT
  have hL := Vg.Loc.refl [] w0
  have hlen : ls.length = len := hsl.1
  have h2 : 2 ≤ ls.length := by omega
  have hn : n < 256 := hgd.lt h2
  refine c_seq ?_
  refine c_region ?_
  refine l_do rfl ?_
  refine w_alloc hT hL (by decide) Tryz.ty24 ?_; clear hT hL; intro b1 a w1 hT hL hE hB
  refine l_end ?_
  refine then_norm ?_
  refine c_seq ?_
  refine c_seq ?_
  refine c_region ?_
  refine l_q hT (q_move hT rfl) rfl rfl (by decide) ?_; clear hT; intro a hT
  refine l_q hT (q_len_slice hT rfl Tryz.underlying22) rfl rfl (by decide) ?_; clear hT; intro a hT
  refine l_q hT ((q_eql hT rfl rfl).b (c := decide ((len : Int) = 0)) (b := false) (decide_eq_false (by omega))) rfl rfl (by decide) ?_; clear hT; intro a hT
  refine l_end ?_
  refine then_norm ?_
  refine c_false hT rfl rfl ?_
  refine wp_skip ?_
  refine then_norm ?_
  refine c_seq ?_
  refine c_seq ?_
  refine c_region ?_
  refine l_q hT (q_move hT rfl) rfl rfl (by decide) ?_; clear hT; intro a hT
  refine l_q hT (q_len_slice hT rfl Tryz.underlying22) rfl rfl (by decide) ?_; clear hT; intro a hT
  refine l_q hT ((q_eql hT rfl rfl).b (c := decide ((len : Int) = 1)) (b := false) (decide_eq_false (by omega))) rfl rfl (by decide) ?_; clear hT; intro a hT
  refine l_end ?_
  refine then_norm ?_
  refine c_false hT rfl rfl ?_
  refine wp_skip ?_
  refine then_norm ?_
  refine c_seq ?_
  refine c_region ?_
  refine l_q hT (q_move hT rfl) rfl rfl (by decide) ?_; clear hT; intro a hT
  refine l_q hT (q_move hT rfl) rfl rfl (by decide) ?_; clear hT; intro a hT
  refine l_q hT (q_move hT rfl) rfl rfl (by decide) ?_; clear hT; intro a hT
  refine l_do rfl ?_
  refine w_callT (xs := [.tmp 23, .tmp 24, .const (.int .i64 0)]) hT rfl (vs := [(Value.slice p len cap), (vI (n : Int)), (vI 0)]) rfl (args := #[(Value.slice p len cap), (vI (n : Int)), (vI 0)]) rfl Tryz.func47 rfl rfl (by decide) ((half_spec ls p len cap n false (by omega) (by omega) _ (hsl.ext hL)).mono ?_)
  rintro e w2 ⟨ph1, nh1, cph1, ch1, rfl, hX, hh1⟩
  refine ⟨_, rfl, ?_⟩; clear hT; intro a hT; replace hT : Tm 40 a ((25, (Value.slice ph1 nh1 cph1)) :: _) := hT
  replace hL : Vg.Loc [] w0 w2 ([ch1, [(b1, ob (digC Dig.zero) 24)]]) := hL.exts hX
  have hn_hh1 := hh1.len
  have hm_hh1 := half_len ls n false
  refine l_q hT (q_move hT rfl) rfl rfl (by decide) ?_; clear hT; intro a hT
  refine l_q hT ((q_addI hT rfl rfl (r := (n : Int) + 1) rfl (by omega) (by omega)).v (v := (vI ((n + 1 : Nat) : Int))) (rfl)) rfl rfl (by decide) ?_; clear hT; intro a hT
  refine l_do rfl ?_
  refine w_callT (xs := [.tmp 22, .tmp 25, .tmp 27]) hT rfl (vs := [(vI w), (Value.slice ph1 nh1 cph1), (vI ((n + 1 : Nat) : Int))]) rfl (args := #[(vI w), (Value.slice ph1 nh1 cph1), (vI ((n + 1 : Nat) : Int))]) rfl Tryz.func48 rfl rfl (by decide) ((ih (halfL ls n false) ph1 nh1 cph1 (n + 1) _ (hK2.of hL (by simp)) (hh1.slt leafC_len hL (i := 0) rfl) (hgd.half false) (by omega) (by omega) (by omega)).mono ?_)
  rintro e w3 ⟨rfl, hX⟩
  refine ⟨_, rfl, ?_⟩; clear hT; intro a hT; replace hT : Tm 40 a ((28, (Value.agg (digC (dg w k (halfL ls n false) (n + 1))).toArray)) :: _) := hT
  replace hL := hL.ext hX
  refine l_do rfl ?_
  refine w_alloc hT hL (by decide) Tryz.ty24 ?_; clear hT hL; intro b2 a w4 hT hL hE hB
  refine l_do rfl ?_
  refine w_store hT hL 0 (c := digC Dig.zero) rfl rfl Tryz.ty24 rfl (vs := digC (dg w k (halfL ls n false) (n + 1))) rfl rfl (by first | decide | (simp [arr32_len, arr8_len, digC_len]; done) | (simp [arr32_len, arr8_len, digC_len]; omega)) rfl (c' := digC (dg w k (halfL ls n false) (n + 1))) rfl ?_; clear hL; intro w5 hL hE
  replace hL : Vg.Loc [] w0 w5 ([[(b2, ob (digC (dg w k (halfL ls n false) (n + 1))) 24)], ch1, [(b1, ob (digC Dig.zero) 24)]]) := hL
  refine l_end ?_
  refine then_norm ?_
  refine c_seq ?_
  refine c_region ?_
  refine l_q hT (q_move hT rfl) rfl rfl (by decide) ?_; clear hT; intro a hT
  refine l_q hT (q_move hT rfl) rfl rfl (by decide) ?_; clear hT; intro a hT
  refine l_q hT (q_move hT rfl) rfl rfl (by decide) ?_; clear hT; intro a hT
  refine l_do rfl ?_
  refine w_callT (xs := [.tmp 30, .tmp 31, .const (.int .i64 1)]) hT rfl (vs := [(Value.slice p len cap), (vI (n : Int)), (vI 1)]) rfl (args := #[(Value.slice p len cap), (vI (n : Int)), (vI 1)]) rfl Tryz.func47 rfl rfl (by decide) ((half_spec ls p len cap n true (by omega) (by omega) _ (hsl.ext hL)).mono ?_)
  rintro e w6 ⟨ph2, nh2, cph2, ch2, rfl, hX, hh2⟩
  refine ⟨_, rfl, ?_⟩; clear hT; intro a hT; replace hT : Tm 40 a ((32, (Value.slice ph2 nh2 cph2)) :: _) := hT
  replace hL : Vg.Loc [] w0 w6 ([ch2, [(b2, ob (digC (dg w k (halfL ls n false) (n + 1))) 24)], ch1, [(b1, ob (digC Dig.zero) 24)]]) := hL.exts hX
  have hn_hh2 := hh2.len
  have hm_hh2 := half_len ls n true
  refine l_q hT (q_move hT rfl) rfl rfl (by decide) ?_; clear hT; intro a hT
  refine l_q hT ((q_addI hT rfl rfl (r := (n : Int) + 1) rfl (by omega) (by omega)).v (v := (vI ((n + 1 : Nat) : Int))) (rfl)) rfl rfl (by decide) ?_; clear hT; intro a hT
  refine l_do rfl ?_
  refine w_callT (xs := [.tmp 29, .tmp 32, .tmp 34]) hT rfl (vs := [(vI w), (Value.slice ph2 nh2 cph2), (vI ((n + 1 : Nat) : Int))]) rfl (args := #[(vI w), (Value.slice ph2 nh2 cph2), (vI ((n + 1 : Nat) : Int))]) rfl Tryz.func48 rfl rfl (by decide) ((ih (halfL ls n true) ph2 nh2 cph2 (n + 1) _ (hK2.of hL (by simp)) (hh2.slt leafC_len hL (i := 0) rfl) (hgd.half true) (by omega) (by omega) (by omega)).mono ?_)
  rintro e w7 ⟨rfl, hX⟩
  refine ⟨_, rfl, ?_⟩; clear hT; intro a hT; replace hT : Tm 40 a ((35, (Value.agg (digC (dg w k (halfL ls n true) (n + 1))).toArray)) :: _) := hT
  replace hL := hL.ext hX
  refine l_do rfl ?_
  refine w_alloc hT hL (by decide) Tryz.ty24 ?_; clear hT hL; intro b3 a w8 hT hL hE hB
  refine l_do rfl ?_
  refine w_store hT hL 0 (c := digC Dig.zero) rfl rfl Tryz.ty24 rfl (vs := digC (dg w k (halfL ls n true) (n + 1))) rfl rfl (by first | decide | (simp [arr32_len, arr8_len, digC_len]; done) | (simp [arr32_len, arr8_len, digC_len]; omega)) rfl (c' := digC (dg w k (halfL ls n true) (n + 1))) rfl ?_; clear hL; intro w9 hL hE
  replace hL : Vg.Loc [] w0 w9 ([[(b3, ob (digC (dg w k (halfL ls n true) (n + 1))) 24)], ch2, [(b2, ob (digC (dg w k (halfL ls n false) (n + 1))) 24)], ch1, [(b1, ob (digC Dig.zero) 24)]]) := hL
  refine l_end ?_
  refine then_norm ?_
  refine c_seq ?_
  refine c_region ?_
  refine l_q hT (q_move hT rfl) rfl rfl (by decide) ?_; clear hT; intro a hT
  refine l_q hT (q_load_agg hT rfl Tryz.ty24 (hL.rd 2 rfl 0 (ds := digC (dg w k (halfL ls n false) (n + 1))) rfl) rfl) rfl rfl (by decide) ?_; clear hT; intro a hT
  refine l_q hT (q_load_agg hT rfl Tryz.ty24 (hL.rd 0 rfl 0 (ds := digC (dg w k (halfL ls n true) (n + 1))) rfl) rfl) rfl rfl (by decide) ?_; clear hT; intro a hT
  refine l_do rfl ?_
  refine w_callT (xs := [.tmp 36, .tmp 37, .tmp 38]) hT rfl (vs := [(vI w), (Value.agg (digC (dg w k (halfL ls n false) (n + 1))).toArray), (Value.agg (digC (dg w k (halfL ls n true) (n + 1))).toArray)]) rfl (args := #[(vI w), (Value.agg (digC (dg w k (halfL ls n false) (n + 1))).toArray), (Value.agg (digC (dg w k (halfL ls n true) (n + 1))).toArray)]) rfl Tryz.func96 rfl rfl (by decide) ((refNode_spec (w) (dg w k (halfL ls n false) (n + 1)) (dg w k (halfL ls n true) (n + 1)) _ (hK2.of hL (by simp))).mono ?_)
  rintro e w10 ⟨rfl, hX⟩
  refine ⟨_, rfl, ?_⟩; clear hT; intro a hT; replace hT : Tm 40 a ((39, (Value.agg (digC (nodeD w (dg w k (halfL ls n false) (n + 1)) (dg w k (halfL ls n true) (n + 1)))).toArray)) :: _) := hT
  replace hL := hL.ext hX
  refine l_do rfl ?_
  refine w_store hT hL 4 (c := digC Dig.zero) rfl rfl Tryz.ty24 rfl (vs := digC (nodeD w (dg w k (halfL ls n false) (n + 1)) (dg w k (halfL ls n true) (n + 1)))) rfl rfl (by first | decide | (simp [arr32_len, arr8_len, digC_len]; done) | (simp [arr32_len, arr8_len, digC_len]; omega)) rfl (c' := digC (nodeD w (dg w k (halfL ls n false) (n + 1)) (dg w k (halfL ls n true) (n + 1)))) rfl ?_; clear hL; intro w11 hL hE
  replace hL : Vg.Loc [] w0 w11 ([[(b3, ob (digC (dg w k (halfL ls n true) (n + 1))) 24)], ch2, [(b2, ob (digC (dg w k (halfL ls n false) (n + 1))) 24)], ch1, [(b1, ob (digC (nodeD w (dg w k (halfL ls n false) (n + 1)) (dg w k (halfL ls n true) (n + 1)))) 24)]]) := hL
  refine l_end ?_
  refine then_norm ?_
  refine wp_ret ?_
  refine c_ret (vs := [(Value.agg (digC (nodeD w (dg w k (halfL ls n false) (n + 1)) (dg w k (halfL ls n true) (n + 1)))).toArray)]) (rs := [.cell 6 24]) hT rfl (.agg rfl Tryz.ty24 (hL.rd 4 rfl 0 (ds := digC (nodeD w (dg w k (halfL ls n false) (n + 1)) (dg w k (halfL ls n true) (n + 1)))) rfl) rfl .nil) ?_
  exact ⟨by rw [dg_two h2, ← half_zeros, ← half_ones]; rfl, hL.drop⟩

theorem refDig_ok (w : Int) : ∀ k, RefDigOK Tryz.prog 48 w k
  | 0 => fun _ _ _ _ _ _ _ _ _ _ h => by omega
  | k + 1 => fun ls p len cap n w0 hK hsl hgd hk _ hc => by
    have hl := hsl.1
    match ls, hl with
    | [], hl => obtain rfl : len = 0 := hl.symm; exact refDig_nil w p cap n w0 hK
    | [x], hl => obtain rfl : len = 1 := hl.symm; exact refDig_one w x p cap n w0 hK hsl
    | x :: y :: r, hl => exact refDig_step w k (refDig_ok w k) _ p len cap n hc (by rw [← hl]; simp) hk hgd w0 hK hsl

end Go.Proofs.YtcaffacganffjaaGreatDoor
end

section
namespace Go.Proofs.YtcaffacganffjaaGreatDoor
open Go Go.Vg


set_option maxRecDepth 20000 in
set_option maxHeartbeats 1000000 in
theorem refRoot_arg (w : Int) (ls : List Leaf) (p : Option Addr) (len cap : Nat) (hw : widthB w = false) (w0 : World) (hK2 : Key2At w0) (hsl : SlT w0 p len 64 leafC noLeaf ls) :
    Calls Tryz.prog 44 #[(vI w), (Value.slice p len cap)] w0 fun e w' => e = .returned (.tuple #[dv Dig.zero, vI 1]) ∧ Ext w0 w' := by
  refine c_enter (n := 23) (args := [(vI w), (Value.slice p len cap)]) Tryz.func44 rfl rfl (Nat.le_of_ble_eq_true rfl) rfl (fun a hT => ?_)
  simp only [List.zipIdx_cons, List.zipIdx_nil, List.map_cons, List.map_nil, Nat.reduceAdd] at hT
  have hL := Vg.Loc.refl [] w0
  have hlen : ls.length = len := hsl.1
  refine c_seq ?_
  refine c_region ?_
  refine l_do rfl ?_
  refine w_alloc hT hL (by decide) Tryz.ty24 ?_; clear hT hL; intro b1 a w1 hT hL hE hB
  refine l_q hT (q_assign hT rfl) rfl rfl (by decide) ?_; clear hT; intro a hT
  refine l_end ?_
  refine then_norm ?_
  refine c_seq ?_
  refine wp_block ?_
  refine c_seq ?_
  refine c_region ?_
  refine l_q hT (q_move hT rfl) rfl rfl (by decide) ?_; clear hT; intro a hT
  refine l_do rfl ?_
  refine w_callT (xs := [.tmp 7]) hT rfl (vs := [(vI w)]) rfl (args := #[(vI w)]) rfl Tryz.func12 rfl rfl (by decide) ((refWidth_spec (w) _).mono ?_)
  rintro e w2 ⟨rfl, hX⟩
  refine ⟨_, rfl, ?_⟩; clear hT; intro a hT; replace hT : Tm 23 a ((8, (Value.bool (widthB w))) :: _) := hT
  replace hL := hL.ext hX
  rw [hw] at hT
  refine l_q hT ((q_not hT rfl).b rfl) rfl rfl (by decide) ?_; clear hT; intro a hT
  refine l_q hT (q_assign hT rfl) rfl rfl (by decide) ?_; clear hT; intro a hT
  refine l_end ?_
  refine then_norm ?_
  refine c_true hT rfl rfl ?_
  refine c_seq ?_
  refine c_region ?_
  refine l_q hT (q_build (ps := []) (pv := []) (v := .agg (digC Dig.zero).toArray) hT rfl (fun _ => by kernel_rfl)) rfl rfl (by decide) ?_; clear hT; intro a hT
  refine l_do rfl ?_
  refine w_store hT hL 0 (c := digC Dig.zero) rfl rfl Tryz.ty24 rfl (vs := digC Dig.zero) rfl rfl (by first | decide | (simp [arr32_len, arr8_len, digC_len]; done) | (simp [arr32_len, arr8_len, digC_len]; omega)) rfl (c' := digC Dig.zero) rfl ?_; clear hL; intro w3 hL hE
  replace hL : Vg.Loc [] w0 w3 ([[(b1, ob (digC Dig.zero) 24)]]) := hL
  refine l_q hT (q_assign hT rfl) rfl rfl (by decide) ?_; clear hT; intro a hT
  refine l_end ?_
  refine then_norm ?_
  refine wp_ret ?_
  refine blk_ret ?_
  refine then_ret ?_
  refine c_ret (vs := [(Value.agg (digC Dig.zero).toArray), (vI 1)]) (rs := [.cell 4 24, .tmp 5]) hT rfl (.agg rfl Tryz.ty24 (hL.rd 0 rfl 0 (ds := digC Dig.zero) rfl) rfl (.tmp rfl .nil)) ?_
  exact ⟨rfl, hL.drop⟩

set_option maxRecDepth 20000 in
set_option maxHeartbeats 1000000 in
theorem refRoot_limit (w : Int) (ls : List Leaf) (p : Option Addr) (len cap : Nat) (hw : widthB w = true) (hc : 4096 < len) (w0 : World) (hK2 : Key2At w0) (hsl : SlT w0 p len 64 leafC noLeaf ls) :
    Calls Tryz.prog 44 #[(vI w), (Value.slice p len cap)] w0 fun e w' => e = .returned (.tuple #[dv Dig.zero, vI 2]) ∧ Ext w0 w' := by
  refine c_enter (n := 23) (args := [(vI w), (Value.slice p len cap)]) Tryz.func44 rfl rfl (Nat.le_of_ble_eq_true rfl) rfl (fun a hT => ?_)
  simp only [List.zipIdx_cons, List.zipIdx_nil, List.map_cons, List.map_nil, Nat.reduceAdd] at hT
  have hL := Vg.Loc.refl [] w0
  have hlen : ls.length = len := hsl.1
  refine c_seq ?_
  refine c_region ?_
  refine l_do rfl ?_
  refine w_alloc hT hL (by decide) Tryz.ty24 ?_; clear hT hL; intro b1 a w1 hT hL hE hB
  refine l_q hT (q_assign hT rfl) rfl rfl (by decide) ?_; clear hT; intro a hT
  refine l_end ?_
  refine then_norm ?_
  refine c_seq ?_
  refine wp_block ?_
  refine c_seq ?_
  refine c_region ?_
  refine l_q hT (q_move hT rfl) rfl rfl (by decide) ?_; clear hT; intro a hT
  refine l_do rfl ?_
  refine w_callT (xs := [.tmp 7]) hT rfl (vs := [(vI w)]) rfl (args := #[(vI w)]) rfl Tryz.func12 rfl rfl (by decide) ((refWidth_spec (w) _).mono ?_)
  rintro e w2 ⟨rfl, hX⟩
  refine ⟨_, rfl, ?_⟩; clear hT; intro a hT; replace hT : Tm 23 a ((8, (Value.bool (widthB w))) :: _) := hT
  replace hL := hL.ext hX
  rw [hw] at hT
  refine l_q hT ((q_not hT rfl).b rfl) rfl rfl (by decide) ?_; clear hT; intro a hT
  refine l_q hT (q_assign hT rfl) rfl rfl (by decide) ?_; clear hT; intro a hT
  refine l_end ?_
  refine then_norm ?_
  refine c_false hT rfl rfl ?_
  refine c_seq ?_
  refine c_region ?_
  refine l_q hT (q_move hT rfl) rfl rfl (by decide) ?_; clear hT; intro a hT
  refine l_q hT (q_len_slice hT rfl Tryz.underlying22) rfl rfl (by decide) ?_; clear hT; intro a hT
  refine l_q hT ((q_gtr hT rfl rfl).b (c := decide (4096 < (len : Int))) (b := true) (decide_eq_true (by omega))) rfl rfl (by decide) ?_; clear hT; intro a hT
  refine l_q hT (q_assign hT rfl) rfl rfl (by decide) ?_; clear hT; intro a hT
  refine l_end ?_
  refine then_norm ?_
  refine c_true hT rfl rfl ?_
  refine c_seq ?_
  refine c_region ?_
  refine l_q hT (q_build (ps := []) (pv := []) (v := .agg (digC Dig.zero).toArray) hT rfl (fun _ => by kernel_rfl)) rfl rfl (by decide) ?_; clear hT; intro a hT
  refine l_do rfl ?_
  refine w_store hT hL 0 (c := digC Dig.zero) rfl rfl Tryz.ty24 rfl (vs := digC Dig.zero) rfl rfl (by first | decide | (simp [arr32_len, arr8_len, digC_len]; done) | (simp [arr32_len, arr8_len, digC_len]; omega)) rfl (c' := digC Dig.zero) rfl ?_; clear hL; intro w3 hL hE
  replace hL : Vg.Loc [] w0 w3 ([[(b1, ob (digC Dig.zero) 24)]]) := hL
  refine l_q hT (q_assign hT rfl) rfl rfl (by decide) ?_; clear hT; intro a hT
  refine l_end ?_
  refine then_norm ?_
  refine wp_ret ?_
  refine blk_ret ?_
  refine then_ret ?_
  refine c_ret (vs := [(Value.agg (digC Dig.zero).toArray), (vI 2)]) (rs := [.cell 4 24, .tmp 5]) hT rfl (.agg rfl Tryz.ty24 (hL.rd 0 rfl 0 (ds := digC Dig.zero) rfl) rfl (.tmp rfl .nil)) ?_
  exact ⟨rfl, hL.drop⟩

set_option maxRecDepth 20000 in
set_option maxHeartbeats 1000000 in
theorem refRoot_twice (w : Int) (ls : List Leaf) (p : Option Addr) (len cap : Nat) (hw : widthB w = true) (hc : len ≤ 4096) (htt : twins ls = true) (w0 : World) (hK2 : Key2At w0) (hsl : SlT w0 p len 64 leafC noLeaf ls) :
    Calls Tryz.prog 44 #[(vI w), (Value.slice p len cap)] w0 fun e w' => e = .returned (.tuple #[dv Dig.zero, vI 30]) ∧ Ext w0 w' := by
  refine c_enter (n := 23) (args := [(vI w), (Value.slice p len cap)]) Tryz.func44 rfl rfl (Nat.le_of_ble_eq_true rfl) rfl (fun a hT => ?_)
  simp only [List.zipIdx_cons, List.zipIdx_nil, List.map_cons, List.map_nil, Nat.reduceAdd] at hT
  have hL := Vg.Loc.refl [] w0
  have hlen : ls.length = len := hsl.1
  refine c_seq ?_
  refine c_region ?_
  refine l_do rfl ?_
  refine w_alloc hT hL (by decide) Tryz.ty24 ?_; clear hT hL; intro b1 a w1 hT hL hE hB
  refine l_q hT (q_assign hT rfl) rfl rfl (by decide) ?_; clear hT; intro a hT
  refine l_end ?_
  refine then_norm ?_
  refine c_seq ?_
  refine wp_block ?_
  refine c_seq ?_
  refine c_region ?_
  refine l_q hT (q_move hT rfl) rfl rfl (by decide) ?_; clear hT; intro a hT
  refine l_do rfl ?_
  refine w_callT (xs := [.tmp 7]) hT rfl (vs := [(vI w)]) rfl (args := #[(vI w)]) rfl Tryz.func12 rfl rfl (by decide) ((refWidth_spec (w) _).mono ?_)
  rintro e w2 ⟨rfl, hX⟩
  refine ⟨_, rfl, ?_⟩; clear hT; intro a hT; replace hT : Tm 23 a ((8, (Value.bool (widthB w))) :: _) := hT
  replace hL := hL.ext hX
  rw [hw] at hT
  refine l_q hT ((q_not hT rfl).b rfl) rfl rfl (by decide) ?_; clear hT; intro a hT
  refine l_q hT (q_assign hT rfl) rfl rfl (by decide) ?_; clear hT; intro a hT
  refine l_end ?_
  refine then_norm ?_
  refine c_false hT rfl rfl ?_
  refine c_seq ?_
  refine c_region ?_
  refine l_q hT (q_move hT rfl) rfl rfl (by decide) ?_; clear hT; intro a hT
  refine l_q hT (q_len_slice hT rfl Tryz.underlying22) rfl rfl (by decide) ?_; clear hT; intro a hT
  refine l_q hT ((q_gtr hT rfl rfl).b (c := decide (4096 < (len : Int))) (b := false) (decide_eq_false (by omega))) rfl rfl (by decide) ?_; clear hT; intro a hT
  refine l_q hT (q_assign hT rfl) rfl rfl (by decide) ?_; clear hT; intro a hT
  refine l_end ?_
  refine then_norm ?_
  refine c_false hT rfl rfl ?_
  refine c_seq ?_
  refine c_region ?_
  refine l_q hT (q_move hT rfl) rfl rfl (by decide) ?_; clear hT; intro a hT
  refine l_do rfl ?_
  refine w_callT (xs := [.tmp 17]) hT rfl (vs := [(Value.slice p len cap)]) rfl (args := #[(Value.slice p len cap)]) rfl Tryz.func13 rfl rfl (by decide) ((refTwice_spec ls p len cap (by omega) _ (hsl.ext hL)).mono ?_)
  rintro e w3 ⟨rfl, hX⟩
  refine ⟨_, rfl, ?_⟩; clear hT; intro a hT; replace hT : Tm 23 a ((18, (Value.bool (twins ls))) :: _) := hT
  replace hL := hL.ext hX
  rw [htt] at hT
  refine l_q hT (q_assign hT rfl) rfl rfl (by decide) ?_; clear hT; intro a hT
  refine l_end ?_
  refine then_norm ?_
  refine c_true hT rfl rfl ?_
  refine c_seq ?_
  refine c_region ?_
  refine l_q hT (q_build (ps := []) (pv := []) (v := .agg (digC Dig.zero).toArray) hT rfl (fun _ => by kernel_rfl)) rfl rfl (by decide) ?_; clear hT; intro a hT
  refine l_do rfl ?_
  refine w_store hT hL 0 (c := digC Dig.zero) rfl rfl Tryz.ty24 rfl (vs := digC Dig.zero) rfl rfl (by first | decide | (simp [arr32_len, arr8_len, digC_len]; done) | (simp [arr32_len, arr8_len, digC_len]; omega)) rfl (c' := digC Dig.zero) rfl ?_; clear hL; intro w4 hL hE
  replace hL : Vg.Loc [] w0 w4 ([[(b1, ob (digC Dig.zero) 24)]]) := hL
  refine l_q hT (q_assign hT rfl) rfl rfl (by decide) ?_; clear hT; intro a hT
  refine l_end ?_
  refine then_norm ?_
  refine wp_ret ?_
  refine blk_ret ?_
  refine then_ret ?_
  refine c_ret (vs := [(Value.agg (digC Dig.zero).toArray), (vI 30)]) (rs := [.cell 4 24, .tmp 5]) hT rfl (.agg rfl Tryz.ty24 (hL.rd 0 rfl 0 (ds := digC Dig.zero) rfl) rfl (.tmp rfl .nil)) ?_
  exact ⟨rfl, hL.drop⟩

set_option maxRecDepth 20000 in
set_option maxHeartbeats 1000000 in
theorem refRoot_ok (w : Int) (ls : List Leaf) (p : Option Addr) (len cap : Nat) (hw : widthB w = true) (hc : len ≤ 4096) (htt : twins ls = false) (w0 : World) (hK2 : Key2At w0) (hsl : SlT w0 p len 64 leafC noLeaf ls) :
    Calls Tryz.prog 44 #[(vI w), (Value.slice p len cap)] w0 fun e w' => e = .returned (.tuple #[dv (dg w 257 ls.reverse 0), vI 0]) ∧ Ext w0 w' := by
  refine c_enter (n := 23) (args := [(vI w), (Value.slice p len cap)]) Tryz.func44 rfl rfl (Nat.le_of_ble_eq_true rfl) rfl (fun a hT => ?_)
  simp only [List.zipIdx_cons, List.zipIdx_nil, List.map_cons, List.map_nil, Nat.reduceAdd] at hT
  have hL := Vg.Loc.refl [] w0
  have hlen : ls.length = len := hsl.1
  refine c_seq ?_
  refine c_region ?_
  refine l_do rfl ?_
  refine w_alloc hT hL (by decide) Tryz.ty24 ?_; clear hT hL; intro b1 a w1 hT hL hE hB
  refine l_q hT (q_assign hT rfl) rfl rfl (by decide) ?_; clear hT; intro a hT
  refine l_end ?_
  refine then_norm ?_
  refine c_seq ?_
  refine wp_block ?_
  refine c_seq ?_
  refine c_region ?_
  refine l_q hT (q_move hT rfl) rfl rfl (by decide) ?_; clear hT; intro a hT
  refine l_do rfl ?_
  refine w_callT (xs := [.tmp 7]) hT rfl (vs := [(vI w)]) rfl (args := #[(vI w)]) rfl Tryz.func12 rfl rfl (by decide) ((refWidth_spec (w) _).mono ?_)
  rintro e w2 ⟨rfl, hX⟩
  refine ⟨_, rfl, ?_⟩; clear hT; intro a hT; replace hT : Tm 23 a ((8, (Value.bool (widthB w))) :: _) := hT
  replace hL := hL.ext hX
  rw [hw] at hT
  refine l_q hT ((q_not hT rfl).b rfl) rfl rfl (by decide) ?_; clear hT; intro a hT
  refine l_q hT (q_assign hT rfl) rfl rfl (by decide) ?_; clear hT; intro a hT
  refine l_end ?_
  refine then_norm ?_
  refine c_false hT rfl rfl ?_
  refine c_seq ?_
  refine c_region ?_
  refine l_q hT (q_move hT rfl) rfl rfl (by decide) ?_; clear hT; intro a hT
  refine l_q hT (q_len_slice hT rfl Tryz.underlying22) rfl rfl (by decide) ?_; clear hT; intro a hT
  refine l_q hT ((q_gtr hT rfl rfl).b (c := decide (4096 < (len : Int))) (b := false) (decide_eq_false (by omega))) rfl rfl (by decide) ?_; clear hT; intro a hT
  refine l_q hT (q_assign hT rfl) rfl rfl (by decide) ?_; clear hT; intro a hT
  refine l_end ?_
  refine then_norm ?_
  refine c_false hT rfl rfl ?_
  refine c_seq ?_
  refine c_region ?_
  refine l_q hT (q_move hT rfl) rfl rfl (by decide) ?_; clear hT; intro a hT
  refine l_do rfl ?_
  refine w_callT (xs := [.tmp 17]) hT rfl (vs := [(Value.slice p len cap)]) rfl (args := #[(Value.slice p len cap)]) rfl Tryz.func13 rfl rfl (by decide) ((refTwice_spec ls p len cap (by omega) _ (hsl.ext hL)).mono ?_)
  rintro e w3 ⟨rfl, hX⟩
  refine ⟨_, rfl, ?_⟩; clear hT; intro a hT; replace hT : Tm 23 a ((18, (Value.bool (twins ls))) :: _) := hT
  replace hL := hL.ext hX
  rw [htt] at hT
  refine l_q hT (q_assign hT rfl) rfl rfl (by decide) ?_; clear hT; intro a hT
  refine l_end ?_
  refine then_norm ?_
  refine c_false hT rfl rfl ?_
  refine wp_skip ?_
  refine blk_norm ?_
  refine then_norm ?_
  refine c_seq ?_
  refine c_region ?_
  refine l_q hT (q_move hT rfl) rfl rfl (by decide) ?_; clear hT; intro a hT
  refine l_q hT (q_move hT rfl) rfl rfl (by decide) ?_; clear hT; intro a hT
  refine l_do rfl ?_
  refine w_callT (xs := [.tmp 20, .tmp 21, .const (.int .i64 0)]) hT rfl (vs := [(vI w), (Value.slice p len cap), (vI 0)]) rfl (args := #[(vI w), (Value.slice p len cap), (vI 0)]) rfl Tryz.func48 rfl rfl (by decide) ((refDig_ok w 257 ls p len cap 0 _ (hK2.of hL (by simp)) (hsl.ext hL) ⟨twins_false htt, fun _ _ _ _ i hi => by omega⟩ (by omega) (by omega) (by omega)).mono ?_)
  rintro e w4 ⟨rfl, hX⟩
  refine ⟨_, rfl, ?_⟩; clear hT; intro a hT; replace hT : Tm 23 a ((22, (Value.agg (digC (dg w 257 ls 0)).toArray)) :: _) := hT
  replace hL := hL.ext hX
  refine l_do rfl ?_
  refine w_store hT hL 0 (c := digC Dig.zero) rfl rfl Tryz.ty24 rfl (vs := digC (dg w 257 ls 0)) rfl rfl (by first | decide | (simp [arr32_len, arr8_len, digC_len]; done) | (simp [arr32_len, arr8_len, digC_len]; omega)) rfl (c' := digC (dg w 257 ls 0)) rfl ?_; clear hL; intro w5 hL hE
  replace hL : Vg.Loc [] w0 w5 ([[(b1, ob (digC (dg w 257 ls 0)) 24)]]) := hL
  refine l_q hT (q_assign hT rfl) rfl rfl (by decide) ?_; clear hT; intro a hT
  refine l_end ?_
  refine then_norm ?_
  refine wp_ret ?_
  refine c_ret (vs := [(Value.agg (digC (dg w 257 ls 0)).toArray), (vI 0)]) (rs := [.cell 4 24, .tmp 5]) hT rfl (.agg rfl Tryz.ty24 (hL.rd 0 rfl 0 (ds := digC (dg w 257 ls 0)) rfl) rfl (.tmp rfl .nil)) ?_
  exact ⟨by rw [dg_rev]; rfl, hL.drop⟩

theorem refRoot_spec (w : Int) (ls : List Leaf) (p : Option Addr) (len cap : Nat) (w0 : World) (hK2 : Key2At w0) (hsl : SlT w0 p len 64 leafC noLeaf ls) :
    Calls Tryz.prog 44 #[vI w, .slice p len cap] w0 fun e w' => e = .returned (.tuple #[dv (rootD w ls), vI (rootE w ls)]) ∧ Ext w0 w' := by
  have hlen : ls.length = len := hsl.1
  unfold rootD rootE
  rw [hlen]
  by_cases hw : widthB w = false
  · rw [if_pos hw, if_neg (by decide)]; exact refRoot_arg w ls p len cap hw w0 hK2 hsl
  · have hw1 : widthB w = true := by simpa using hw
    rw [if_neg hw]
    by_cases hc : 4096 < len
    · rw [if_pos hc, if_neg (by decide)]; exact refRoot_limit w ls p len cap hw1 hc w0 hK2 hsl
    · rw [if_neg hc]
      by_cases htt : twins ls = true
      · rw [if_pos htt, if_neg (by decide)]; exact refRoot_twice w ls p len cap hw1 (by omega) htt w0 hK2 hsl
      · rw [if_neg htt, if_pos rfl]; exact refRoot_ok w ls p len cap hw1 (by omega) (by simpa using htt) w0 hK2 hsl

end Go.Proofs.YtcaffacganffjaaGreatDoor
end

section
namespace Go.Proofs.YtcaffacganffjaaGreatDoor
open Go Go.Vg


set_option maxRecDepth 20000 in
set_option maxHeartbeats 1000000 in
theorem refMake_err (w : Int) (ls : List Leaf) (p : Option Addr) (len cap : Nat) (pt : Dig) (he : rootE w ls ≠ 0) (w0 : World) (hK2 : Key2At w0) (hsl : SlT w0 p len 64 leafC noLeaf ls) :
    Calls Tryz.prog 15 #[(vI w), (Value.slice p len cap), (Value.agg (digC pt).toArray)] w0 fun e w' => e = .returned (.tuple #[.agg (claimC false Dig.zero).toArray, .agg (proofC (.slice none 0 0) false Dig.zero Dig.zero).toArray, vI (rootE w ls)]) ∧ Ext w0 w' := by
  refine c_enter (n := 88) (args := [(vI w), (Value.slice p len cap), (Value.agg (digC pt).toArray)]) Tryz.func15 rfl rfl (Nat.le_of_ble_eq_true rfl) rfl (fun a hT => ?_)
  simp only [List.zipIdx_cons, List.zipIdx_nil, List.map_cons, List.map_nil, Nat.reduceAdd] at hT
  have hL := Vg.Loc.refl [] w0
  refine c_seq ?_
  refine c_region ?_
  refine l_do rfl ?_
  refine w_box hT hL (by decide) rfl (c := digC pt) rfl ?_; clear hT hL; intro b1 a w1 hT hL hE hB
  refine l_do rfl ?_
  refine w_alloc hT hL (by decide) Tryz.ty26 ?_; clear hT hL; intro b2 a w2 hT hL hE hB
  refine l_do rfl ?_
  refine w_alloc hT hL (by decide) Tryz.ty29 ?_; clear hT hL; intro b3 a w3 hT hL hE hB
  refine l_q hT (q_assign hT rfl) rfl rfl (by decide) ?_; clear hT; intro a hT
  refine l_end ?_
  refine then_norm ?_
  refine c_seq ?_
  refine c_region ?_
  refine l_q hT (q_move hT rfl) rfl rfl (by decide) ?_; clear hT; intro a hT
  refine l_q hT (q_move hT rfl) rfl rfl (by decide) ?_; clear hT; intro a hT
  refine l_do rfl ?_
  refine w_callT (xs := [.tmp 20, .tmp 21]) hT rfl (vs := [(vI w), (Value.slice p len cap)]) rfl (args := #[(vI w), (Value.slice p len cap)]) rfl Tryz.func44 rfl rfl (by decide) ((refRoot_spec w ls p len cap _ (hK2.of hL (by simp)) (hsl.ext hL)).mono ?_)
  rintro e w4 ⟨rfl, hX⟩
  refine ⟨_, rfl, ?_⟩; clear hT; intro a hT; replace hT : Tm 88 a ((22, (Value.tuple #[(Value.agg (digC (rootD w ls)).toArray), (vI (rootE w ls))])) :: _) := hT
  replace hL := hL.ext hX
  refine l_q hT (q_move hT rfl) rfl rfl (by decide) ?_; clear hT; intro a hT
  refine l_q hT (q_extract hT rfl rfl) rfl rfl (by decide) ?_; clear hT; intro a hT
  refine l_q hT (q_extract hT rfl rfl) rfl rfl (by decide) ?_; clear hT; intro a hT
  refine l_do rfl ?_
  refine w_alloc hT hL (by decide) Tryz.ty24 ?_; clear hT hL; intro b4 a w5 hT hL hE hB
  refine l_do rfl ?_
  refine w_store hT hL 0 (c := digC Dig.zero) rfl rfl Tryz.ty24 rfl (vs := digC (rootD w ls)) rfl rfl (by first | decide | (simp [arr32_len, arr8_len, digC_len]; done) | (simp [arr32_len, arr8_len, digC_len]; omega)) rfl (c' := digC (rootD w ls)) rfl ?_; clear hL; intro w6 hL hE
  replace hL : Vg.Loc [] w0 w6 ([[(b4, ob (digC (rootD w ls)) 24)], [(b3, ob ([(Value.slice none 0 0), (Value.bool false)] ++ (digC Dig.zero ++ (digC Dig.zero))) 29)], [(b2, ob ([(Value.bool false)] ++ (digC Dig.zero)) 26)], [(b1, ob (digC pt) 24)]]) := hL
  refine l_q hT (q_assign hT rfl) rfl rfl (by decide) ?_; clear hT; intro a hT
  refine l_end ?_
  refine then_norm ?_
  refine c_seq ?_
  refine c_seq ?_
  refine c_region ?_
  refine l_q hT (q_move hT rfl) rfl rfl (by decide) ?_; clear hT; intro a hT
  refine l_q hT ((q_neq hT rfl rfl).b (c := decide ((rootE w ls) ≠ 0)) (b := true) (decide_eq_true he)) rfl rfl (by decide) ?_; clear hT; intro a hT
  refine l_end ?_
  refine then_norm ?_
  refine c_true hT rfl rfl ?_
  refine c_seq ?_
  refine c_region ?_
  refine l_q hT (q_build (ps := []) (pv := []) (v := .agg ([(Value.bool false)] ++ (digC Dig.zero)).toArray) hT rfl (fun _ => by kernel_rfl)) rfl rfl (by decide) ?_; clear hT; intro a hT
  refine l_q hT (q_build (ps := []) (pv := []) (v := .agg ([(Value.slice none 0 0), (Value.bool false)] ++ (digC Dig.zero ++ (digC Dig.zero))).toArray) hT rfl (fun _ => by kernel_rfl)) rfl rfl (by decide) ?_; clear hT; intro a hT
  refine l_q hT (q_move hT rfl) rfl rfl (by decide) ?_; clear hT; intro a hT
  refine l_do rfl ?_
  refine w_store hT hL 2 (c := [(Value.bool false)] ++ (digC Dig.zero)) rfl rfl Tryz.ty26 rfl (vs := [(Value.bool false)] ++ (digC Dig.zero)) rfl rfl (by first | decide | (simp [arr32_len, arr8_len, digC_len]; done) | (simp [arr32_len, arr8_len, digC_len]; omega)) rfl (c' := [(Value.bool false)] ++ (digC Dig.zero)) rfl ?_; clear hL; intro w7 hL hE
  replace hL : Vg.Loc [] w0 w7 ([[(b4, ob (digC (rootD w ls)) 24)], [(b3, ob ([(Value.slice none 0 0), (Value.bool false)] ++ (digC Dig.zero ++ (digC Dig.zero))) 29)], [(b2, ob ([(Value.bool false)] ++ (digC Dig.zero)) 26)], [(b1, ob (digC pt) 24)]]) := hL
  refine l_do rfl ?_
  refine w_store hT hL 1 (c := [(Value.slice none 0 0), (Value.bool false)] ++ (digC Dig.zero ++ (digC Dig.zero))) rfl rfl Tryz.ty29 rfl (vs := [(Value.slice none 0 0), (Value.bool false)] ++ (digC Dig.zero ++ (digC Dig.zero))) rfl rfl (by first | decide | (simp [arr32_len, arr8_len, digC_len]; done) | (simp [arr32_len, arr8_len, digC_len]; omega)) rfl (c' := [(Value.slice none 0 0), (Value.bool false)] ++ (digC Dig.zero ++ (digC Dig.zero))) rfl ?_; clear hL; intro w8 hL hE
  replace hL : Vg.Loc [] w0 w8 ([[(b4, ob (digC (rootD w ls)) 24)], [(b3, ob ([(Value.slice none 0 0), (Value.bool false)] ++ (digC Dig.zero ++ (digC Dig.zero))) 29)], [(b2, ob ([(Value.bool false)] ++ (digC Dig.zero)) 26)], [(b1, ob (digC pt) 24)]]) := hL
  refine l_q hT (q_assign hT rfl) rfl rfl (by decide) ?_; clear hT; intro a hT
  refine l_end ?_
  refine then_norm ?_
  refine wp_ret ?_
  refine then_ret ?_
  refine c_ret (vs := [(Value.agg ([(Value.bool false)] ++ (digC Dig.zero)).toArray), (Value.agg ([(Value.slice none 0 0), (Value.bool false)] ++ (digC Dig.zero ++ (digC Dig.zero))).toArray), (vI (rootE w ls))]) (rs := [.cell 6 26, .cell 7 29, .tmp 8]) hT rfl (.agg rfl Tryz.ty26 (hL.rd 2 rfl 0 (ds := [(Value.bool false)] ++ (digC Dig.zero)) rfl) rfl (.agg rfl Tryz.ty29 (hL.rd 1 rfl 0 (ds := [(Value.slice none 0 0), (Value.bool false)] ++ (digC Dig.zero ++ (digC Dig.zero))) rfl) rfl (.tmp rfl .nil))) ?_
  exact ⟨rfl, hL.drop⟩

set_option maxRecDepth 100000 in
set_option maxHeartbeats 4000000 in
theorem refMake_ok (w : Int) (ls : List Leaf) (p : Option Addr) (len cap : Nat) (pt : Dig) (he : rootE w ls = 0) (w0 : World) (hK2 : Key2At w0) (hsl : SlT w0 p len 64 leafC noLeaf ls) :
    Calls Tryz.prog 15 #[(vI w), (Value.slice p len cap), (Value.agg (digC pt).toArray)] w0 fun e w' => ∃ ps cps cs, e = .returned (.tuple #[.agg (claimC (saysL pt (goL w pt 257 ls 0).2).1 (saysL pt (goL w pt 257 ls 0).2).2.1).toArray, .agg (proofC (.slice ps (goL w pt 257 ls 0).1.length cps) (saysL pt (goL w pt 257 ls 0).2).2.2.1 (saysL pt (goL w pt 257 ls 0).2).2.2.2.1 (saysL pt (goL w pt 257 ls 0).2).2.2.2.2).toArray, vI 0]) ∧ Vg.Loc [] w0 w' [cs] ∧ OwnE digC 32 24 ps (goL w pt 257 ls 0).1.length cps (goL w pt 257 ls 0).1 cs := by
  refine c_enter (n := 88) (args := [(vI w), (Value.slice p len cap), (Value.agg (digC pt).toArray)]) Tryz.func15 rfl rfl (Nat.le_of_ble_eq_true rfl) rfl (fun a hT => ?_)
  simp only [List.zipIdx_cons, List.zipIdx_nil, List.map_cons, List.map_nil, Nat.reduceAdd] at hT
  have hL := Vg.Loc.refl [] w0
  have hlen : ls.length = len := hsl.1
  have hgd0 : GoodL ls 0 := rootE_good he
  have hc : ls.length ≤ 4096 := rootE_le he
  refine c_seq ?_
  refine c_region ?_
  refine l_do rfl ?_
  refine w_box hT hL (by decide) rfl (c := digC pt) rfl ?_; clear hT hL; intro b1 a w1 hT hL hE hB
  refine l_do rfl ?_
  refine w_alloc hT hL (by decide) Tryz.ty26 ?_; clear hT hL; intro b2 a w2 hT hL hE hB
  refine l_do rfl ?_
  refine w_alloc hT hL (by decide) Tryz.ty29 ?_; clear hT hL; intro b3 a w3 hT hL hE hB
  refine l_q hT (q_assign hT rfl) rfl rfl (by decide) ?_; clear hT; intro a hT
  refine l_end ?_
  refine then_norm ?_
  refine c_seq ?_
  refine c_region ?_
  refine l_q hT (q_move hT rfl) rfl rfl (by decide) ?_; clear hT; intro a hT
  refine l_q hT (q_move hT rfl) rfl rfl (by decide) ?_; clear hT; intro a hT
  refine l_do rfl ?_
  refine w_callT (xs := [.tmp 20, .tmp 21]) hT rfl (vs := [(vI w), (Value.slice p len cap)]) rfl (args := #[(vI w), (Value.slice p len cap)]) rfl Tryz.func44 rfl rfl (by decide) ((refRoot_spec w ls p len cap _ (hK2.of hL (by simp)) (hsl.ext hL)).mono ?_)
  rintro e w4 ⟨rfl, hX⟩
  refine ⟨_, rfl, ?_⟩; clear hT; intro a hT; replace hT : Tm 88 a ((22, (Value.tuple #[(Value.agg (digC (rootD w ls)).toArray), (vI (rootE w ls))])) :: _) := hT
  replace hL := hL.ext hX
  refine l_q hT (q_move hT rfl) rfl rfl (by decide) ?_; clear hT; intro a hT
  refine l_q hT (q_extract hT rfl rfl) rfl rfl (by decide) ?_; clear hT; intro a hT
  refine l_q hT (q_extract hT rfl rfl) rfl rfl (by decide) ?_; clear hT; intro a hT
  refine l_do rfl ?_
  refine w_alloc hT hL (by decide) Tryz.ty24 ?_; clear hT hL; intro b4 a w5 hT hL hE hB
  refine l_do rfl ?_
  refine w_store hT hL 0 (c := digC Dig.zero) rfl rfl Tryz.ty24 rfl (vs := digC (rootD w ls)) rfl rfl (by first | decide | (simp [arr32_len, arr8_len, digC_len]; done) | (simp [arr32_len, arr8_len, digC_len]; omega)) rfl (c' := digC (rootD w ls)) rfl ?_; clear hL; intro w6 hL hE
  replace hL : Vg.Loc [] w0 w6 ([[(b4, ob (digC (rootD w ls)) 24)], [(b3, ob ([(Value.slice none 0 0), (Value.bool false)] ++ (digC Dig.zero ++ (digC Dig.zero))) 29)], [(b2, ob ([(Value.bool false)] ++ (digC Dig.zero)) 26)], [(b1, ob (digC pt) 24)]]) := hL
  refine l_q hT (q_assign hT rfl) rfl rfl (by decide) ?_; clear hT; intro a hT
  refine l_end ?_
  refine then_norm ?_
  refine c_seq ?_
  refine c_seq ?_
  refine c_region ?_
  refine l_q hT (q_move hT rfl) rfl rfl (by decide) ?_; clear hT; intro a hT
  refine l_q hT ((q_neq hT rfl rfl).b (c := decide ((rootE w ls) ≠ 0)) (b := false) (decide_eq_false (fun h => h he))) rfl rfl (by decide) ?_; clear hT; intro a hT
  refine l_end ?_
  refine then_norm ?_
  refine c_false hT rfl rfl ?_
  refine wp_skip ?_
  refine then_norm ?_
  refine c_seq ?_
  refine c_region ?_
  refine l_q hT (q_move hT rfl) rfl rfl (by decide) ?_; clear hT; intro a hT
  refine l_q hT (q_load_agg hT rfl Tryz.ty24 (hL.rd 3 rfl 0 (ds := digC pt) rfl) rfl) rfl rfl (by decide) ?_; clear hT; intro a hT
  refine l_do rfl ?_
  refine w_callT (xs := [.tmp 31, .tmp 32]) hT rfl (vs := [(Value.slice p len cap), (Value.agg (digC pt).toArray)]) rfl (args := #[(Value.slice p len cap), (Value.agg (digC pt).toArray)]) rfl Tryz.func45 rfl rfl (by decide) ((refGet_spec ls p len cap pt (by omega) _ (hsl.ext hL)).mono ?_)
  rintro e w7 ⟨rfl, hX⟩
  refine ⟨_, rfl, ?_⟩; clear hT; intro a hT; replace hT : Tm 88 a ((33, (Value.tuple #[(Value.agg (digC ((getL ls pt).1)).toArray), (Value.bool ((getL ls pt).2))])) :: _) := hT
  replace hL := hL.ext hX
  refine l_q hT (q_move hT rfl) rfl rfl (by decide) ?_; clear hT; intro a hT
  refine l_q hT (q_extract hT rfl rfl) rfl rfl (by decide) ?_; clear hT; intro a hT
  refine l_q hT (q_extract hT rfl rfl) rfl rfl (by decide) ?_; clear hT; intro a hT
  refine l_do rfl ?_
  refine w_alloc hT hL (by decide) Tryz.ty24 ?_; clear hT hL; intro b5 a w8 hT hL hE hB
  refine l_do rfl ?_
  refine w_store hT hL 0 (c := digC Dig.zero) rfl rfl Tryz.ty24 rfl (vs := digC ((getL ls pt).1)) rfl rfl (by first | decide | (simp [arr32_len, arr8_len, digC_len]; done) | (simp [arr32_len, arr8_len, digC_len]; omega)) rfl (c' := digC ((getL ls pt).1)) rfl ?_; clear hL; intro w9 hL hE
  replace hL : Vg.Loc [] w0 w9 ([[(b5, ob (digC ((getL ls pt).1)) 24)], [(b4, ob (digC (rootD w ls)) 24)], [(b3, ob ([(Value.slice none 0 0), (Value.bool false)] ++ (digC Dig.zero ++ (digC Dig.zero))) 29)], [(b2, ob ([(Value.bool false)] ++ (digC Dig.zero)) 26)], [(b1, ob (digC pt) 24)]]) := hL
  refine l_q hT (q_assign hT rfl) rfl rfl (by decide) ?_; clear hT; intro a hT
  refine l_end ?_
  refine then_norm ?_
  refine c_seq ?_
  refine c_region ?_
  refine l_q hT (q_move hT rfl) rfl rfl (by decide) ?_; clear hT; intro a hT
  refine l_q hT (q_load_agg hT rfl Tryz.ty24 (hL.rd 0 rfl 0 (ds := digC ((getL ls pt).1)) rfl) rfl) rfl rfl (by decide) ?_; clear hT; intro a hT
  refine l_q hT (q_build (ps := [(0, .tmp 36), (1, .tmp 37)]) (pv := [(0, (Value.bool ((getL ls pt).2))), (1, (Value.agg (digC ((getL ls pt).1)).toArray))]) (v := .agg ([(Value.bool ((getL ls pt).2))] ++ (digC ((getL ls pt).1))).toArray) hT rfl (fun _ => by kernel_rfl)) rfl rfl (by decide) ?_; clear hT; intro a hT
  refine l_do rfl ?_
  refine w_alloc hT hL (by decide) Tryz.ty26 ?_; clear hT hL; intro b6 a w10 hT hL hE hB
  refine l_do rfl ?_
  refine w_store hT hL 0 (c := [(Value.bool false)] ++ (digC Dig.zero)) rfl rfl Tryz.ty26 rfl (vs := [(Value.bool ((getL ls pt).2))] ++ (digC ((getL ls pt).1))) rfl rfl (by first | decide | (simp [arr32_len, arr8_len, digC_len]; done) | (simp [arr32_len, arr8_len, digC_len]; omega)) rfl (c' := [(Value.bool ((getL ls pt).2))] ++ (digC ((getL ls pt).1))) rfl ?_; clear hL; intro w11 hL hE
  replace hL : Vg.Loc [] w0 w11 ([[(b6, ob ([(Value.bool ((getL ls pt).2))] ++ (digC ((getL ls pt).1))) 26)], [(b5, ob (digC ((getL ls pt).1)) 24)], [(b4, ob (digC (rootD w ls)) 24)], [(b3, ob ([(Value.slice none 0 0), (Value.bool false)] ++ (digC Dig.zero ++ (digC Dig.zero))) 29)], [(b2, ob ([(Value.bool false)] ++ (digC Dig.zero)) 26)], [(b1, ob (digC pt) 24)]]) := hL
  refine l_end ?_
  refine then_norm ?_
  refine c_seq ?_
  refine c_region ?_
  refine l_q hT (q_build (ps := []) (pv := []) (v := .agg ([(Value.slice none 0 0), (Value.bool false)] ++ (digC Dig.zero ++ (digC Dig.zero))).toArray) hT rfl (fun _ => by kernel_rfl)) rfl rfl (by decide) ?_; clear hT; intro a hT
  refine l_do rfl ?_
  refine w_alloc hT hL (by decide) Tryz.ty29 ?_; clear hT hL; intro b7 a w12 hT hL hE hB
  refine l_do rfl ?_
  refine w_store hT hL 0 (c := [(Value.slice none 0 0), (Value.bool false)] ++ (digC Dig.zero ++ (digC Dig.zero))) rfl rfl Tryz.ty29 rfl (vs := [(Value.slice none 0 0), (Value.bool false)] ++ (digC Dig.zero ++ (digC Dig.zero))) rfl rfl (by first | decide | (simp [arr32_len, arr8_len, digC_len]; done) | (simp [arr32_len, arr8_len, digC_len]; omega)) rfl (c' := [(Value.slice none 0 0), (Value.bool false)] ++ (digC Dig.zero ++ (digC Dig.zero))) rfl ?_; clear hL; intro w13 hL hE
  replace hL : Vg.Loc [] w0 w13 ([[(b7, ob ([(Value.slice none 0 0), (Value.bool false)] ++ (digC Dig.zero ++ (digC Dig.zero))) 29)], [(b6, ob ([(Value.bool ((getL ls pt).2))] ++ (digC ((getL ls pt).1))) 26)], [(b5, ob (digC ((getL ls pt).1)) 24)], [(b4, ob (digC (rootD w ls)) 24)], [(b3, ob ([(Value.slice none 0 0), (Value.bool false)] ++ (digC Dig.zero ++ (digC Dig.zero))) 29)], [(b2, ob ([(Value.bool false)] ++ (digC Dig.zero)) 26)], [(b1, ob (digC pt) 24)]]) := hL
  refine l_end ?_
  refine then_norm ?_
  refine c_seq ?_
  refine c_region ?_
  refine l_q hT (q_move hT rfl) rfl rfl (by decide) ?_; clear hT; intro a hT
  refine l_q hT (q_assign hT rfl) rfl rfl (by decide) ?_; clear hT; intro a hT
  refine l_end ?_
  refine then_norm ?_
  refine c_seq ?_
  refine c_seq ?_
  refine c_region ?_
  refine l_q hT (q_assign hT rfl) rfl rfl (by decide) ?_; clear hT; intro a hT
  refine l_end ?_
  refine then_norm ?_
  refine wp_block ?_
  refine c_loop (fun mz a wz => ∃ (n : Nat) (nl : List Leaf) (sb : List Dig) (pn ps : Option Addr) (nn ns cpn cps : Nat) (cn cs : Chunk), mz = 257 - n ∧ n ≤ 256 ∧ nn ≤ 4096 ∧ ns = n ∧ GoodL nl n ∧ RowOf leafC 64 noLeaf w0 85 pn nn cpn nl cn ∧ OwnE digC 32 24 ps ns cps sb cs ∧ goL w pt 257 ls 0 = (sb ++ (goL w pt (257 - n) nl n).1, (goL w pt (257 - n) nl n).2) ∧ Tm 88 a [(0, (vI w)), (5, (vp b1 0)), (6, (vp b2 0)), (7, (vp b3 0)), (12, (Value.bool ((getL ls pt).2))), (13, (vp b6 0)), (14, (vp b7 0)), (15, (Value.slice pn nn cpn)), (16, (vI (n : Int)))] ∧ Vg.Loc [] w0 wz [[(b1, ob (digC pt) 24)], [(b2, ob ([(Value.bool false)] ++ (digC Dig.zero)) 26)], [(b3, ob ([(Value.slice none 0 0), (Value.bool false)] ++ (digC Dig.zero ++ (digC Dig.zero))) 29)], [(b6, ob ([(Value.bool ((getL ls pt).2))] ++ (digC ((getL ls pt).1))) 26)], [(b7, ob ([(Value.slice ps ns cps), (Value.bool false)] ++ (digC Dig.zero ++ (digC Dig.zero))) 29)], cn, cs]) id 257 ?_ ?_
  · exact ⟨0, ls, [], _, none, _, 0, _, 0, [], [], rfl, by omega, by omega, rfl, hgd0, .inl ⟨rfl, hsl⟩, OwnE.nil, rfl, hT.keep [0, 5, 6, 7, 12, 13, 14, 15, 16] rfl, (Vg.Loc.regroup (cs := [[(b1, ob (digC pt) 24)], [(b2, ob ([(Value.bool false)] ++ (digC Dig.zero)) 26)], [(b3, ob ([(Value.slice none 0 0), (Value.bool false)] ++ (digC Dig.zero ++ (digC Dig.zero))) 29)], [(b6, ob ([(Value.bool ((getL ls pt).2))] ++ (digC ((getL ls pt).1))) 26)], [(b7, ob ([(Value.slice none 0 0), (Value.bool false)] ++ (digC Dig.zero ++ (digC Dig.zero))) 29)]]) (((((hL.front 1 rfl rfl).front 4 rfl rfl).front 5 rfl rfl).front 6 rfl rfl).sub (.cons_cons _ (.cons_cons _ (.cons_cons _ (.cons_cons _ (.cons_cons _ (.cons _ (.cons _ .slnil)))))))) (by simp))⟩
  clear hT hL
  rintro mz a w14 ⟨n, nl, sb, pn, ps, nn, ns, cpn, cps, cn, cs, rfl, hn6, hnn, hns, hgd, hnear, hsib, hgo, hT, hL⟩
  have hnl : nl.length = nn := hnear.len
  refine c_seq ?_
  refine c_seq ?_
  refine c_region ?_
  refine l_q hT (q_move hT rfl) rfl rfl (by decide) ?_; clear hT; intro a hT
  refine l_q hT (q_len_slice hT rfl Tryz.underlying22) rfl rfl (by decide) ?_; clear hT; intro a hT
  refine l_q hT (q_geq hT rfl rfl) rfl rfl (by decide) ?_; clear hT; intro a hT
  refine l_end ?_
  refine then_norm ?_
  refine c_if hT rfl (fun hc1 => ?_) (fun hc1 => ?_)
  · skip
    have hc1 := of_decide_eq_true hc1
    have hn5 : n < 256 := hgd.lt (by omega)
    refine wp_skip ?_
    refine then_norm ?_
    refine c_seq ?_
    refine wp_block ?_
    refine c_seq ?_
    refine c_region ?_
    refine l_q hT (q_load_agg hT rfl Tryz.ty24 (hL.rd 0 rfl 0 (ds := digC pt) rfl) rfl) rfl rfl (by decide) ?_; clear hT; intro a hT
    refine l_q hT (q_move hT rfl) rfl rfl (by decide) ?_; clear hT; intro a hT
    refine l_do rfl ?_
    refine w_callT (xs := [.tmp 46, .tmp 47]) hT rfl (vs := [(Value.agg (digC pt).toArray), (vI (n : Int))]) rfl (args := #[(Value.agg (digC pt).toArray), (vI (n : Int))]) rfl Tryz.func46 rfl rfl (by decide) ((refAt_spec pt n (by omega) _).mono ?_)
    rintro e w15 ⟨rfl, hX⟩
    refine ⟨_, rfl, ?_⟩; clear hT; intro a hT; replace hT : Tm 88 a ((48, (vI (if pt.bit n then 1 else 0))) :: _) := hT
    replace hL := hL.ext hX
    refine l_q hT (q_assign hT rfl) rfl rfl (by decide) ?_; clear hT; intro a hT
    refine l_end ?_
    refine then_norm ?_
    refine c_seq ?_
    refine c_region ?_
    refine l_q hT (q_move hT rfl) rfl rfl (by decide) ?_; clear hT; intro a hT
    refine l_q hT (q_move hT rfl) rfl rfl (by decide) ?_; clear hT; intro a hT
    refine l_q hT (q_move hT rfl) rfl rfl (by decide) ?_; clear hT; intro a hT
    refine l_q hT ((q_subI hT rfl rfl (r := 1 - (if pt.bit n then 1 else 0)) rfl (by omega) (by omega)).v (v := (vI (bitI (!pt.bit n)))) (by cases pt.bit n <;> rfl)) rfl rfl (by decide) ?_; clear hT; intro a hT
    refine l_do rfl ?_
    refine w_callT (xs := [.tmp 49, .tmp 50, .tmp 52]) hT rfl (vs := [(Value.slice pn nn cpn), (vI (n : Int)), (vI (bitI (!pt.bit n)))]) rfl (args := #[(Value.slice pn nn cpn), (vI (n : Int)), (vI (bitI (!pt.bit n)))]) rfl Tryz.func47 rfl rfl (by decide) ((half_spec nl pn nn cpn n (!pt.bit n) (by omega) (by omega) _ (RowOf.slt hnear leafC_len hL (i := 5) rfl)).mono ?_)
    rintro e w16 ⟨ph1, nh1, cph1, ch1, rfl, hX, hh1⟩
    refine ⟨_, rfl, ?_⟩; clear hT; intro a hT; replace hT : Tm 88 a ((53, (Value.slice ph1 nh1 cph1)) :: _) := hT
    replace hL : Vg.Loc [] w0 w16 ([ch1, [(b1, ob (digC pt) 24)], [(b2, ob ([(Value.bool false)] ++ (digC Dig.zero)) 26)], [(b3, ob ([(Value.slice none 0 0), (Value.bool false)] ++ (digC Dig.zero ++ (digC Dig.zero))) 29)], [(b6, ob ([(Value.bool ((getL ls pt).2))] ++ (digC ((getL ls pt).1))) 26)], [(b7, ob ([(Value.slice ps ns cps), (Value.bool false)] ++ (digC Dig.zero ++ (digC Dig.zero))) 29)], cn, cs]) := hL.exts hX
    rw [half_diff] at hh1
    have hn_hh1 := hh1.len
    have hm_hh1 := half_len nl n (!pt.bit n); rw [half_diff] at hm_hh1
    refine l_q hT (q_assign hT rfl) rfl rfl (by decide) ?_; clear hT; intro a hT
    refine l_end ?_
    refine then_norm ?_
    refine c_seq ?_
    refine d_start' hL #[false, false, false, false, false, false, false, false, false, false, false] [8, 10] rfl rfl rfl ?_; clear hL; intro w17 hL hE; have hR := hL; have hS := Ext.refl w17
    refine d_pure (i := 0) hT #[true, false, false, false, false, false, false, false, false, false, false] rfl (by kernel_rfl) rfl rfl (by decide) (fun _ _ _ h => h) (fun _ => q_fieldAddr hT rfl Tryz.fld29_0 rfl) ?_; clear hT; intro a hT
    refine d_pure (i := 2) hT #[true, false, true, false, false, false, false, false, false, false, false] rfl (by kernel_rfl) rfl rfl (by decide) (fun _ _ _ h => h) (fun _ => q_move hT rfl) ?_; clear hT; intro a hT
    refine d_pure (i := 3) hT #[true, false, true, true, false, false, false, false, false, false, false] rfl (by kernel_rfl) rfl rfl (by decide) (fun _ _ _ h => h) (fun _ => q_move hT rfl) ?_; clear hT; intro a hT
    refine d_pure (i := 4) hT #[true, false, true, true, true, false, false, false, false, false, false] rfl (by kernel_rfl) rfl rfl (by decide) (fun _ _ _ h => h) (fun _ => q_move hT rfl) ?_; clear hT; intro a hT
    refine d_pure (i := 5) hT #[true, false, true, true, true, true, false, false, false, false, false] rfl (by kernel_rfl) rfl rfl (by decide) (fun _ _ _ h => h) (fun _ => (q_addI hT rfl rfl (r := (n : Int) + 1) rfl (by omega) (by omega)).v (v := (vI ((n + 1 : Nat) : Int))) (rfl)) ?_; clear hT; intro a hT
    refine d_take (i := 1) hT #[true, true, true, true, true, true, false, false, false, false, false] rfl (by kernel_rfl) rfl rfl (by decide) (fun _ _ _ h => h) (fun _ hs => q_load hT rfl Tryz.ty27 (Rd.ext (hR.rd 5 rfl 0 (ds := [(Value.slice ps ns cps)]) rfl) hs)) hS ?_; clear hT; intro a hT
    refine d_one (i := 6) hT #[true, true, true, true, true, true, true, false, false, false, false] rfl (by kernel_rfl) rfl ?_
    refine w_callT (xs := [.tmp 56, .tmp 57, .tmp 59]) hT rfl (vs := [(vI w), (Value.slice ph1 nh1 cph1), (vI ((n + 1 : Nat) : Int))]) rfl (args := #[(vI w), (Value.slice ph1 nh1 cph1), (vI ((n + 1 : Nat) : Int))]) rfl Tryz.func48 rfl rfl (by decide) ((refDig_ok w (256 - n) (diffL pt nl n) ph1 nh1 cph1 (n + 1) _ (hK2.of hL (by simp)) (hh1.slt leafC_len hL (i := 0) rfl) (hgd.diff pt) (by omega) (by omega) (by omega)).mono ?_)
    rintro e w18 ⟨rfl, hX⟩
    refine ⟨_, rfl, ?_⟩; clear hT; intro a hT; replace hT : Tm 88 a ((60, (Value.agg (digC (dg w (256 - n) (diffL pt nl n) (n + 1))).toArray)) :: _) := hT
    replace hL := hL.ext hX
    replace hS := Vg.Loc.ext hS hX; refine ⟨fun _ => hS, ?_⟩
    refine d_one (i := 7) hT #[true, true, true, true, true, true, true, true, false, false, false] rfl (by kernel_rfl) rfl ?_
    refine w_buildSlice (e := 24) (ps := [(0, .tmp 60)]) (pv := [(0, (Value.agg (digC (dg w (256 - n) (diffL pt nl n) (n + 1))).toArray))]) (c := digC (dg w (256 - n) (diffL pt nl n) (n + 1))) hT hL (by decide) rfl (fun _ => by kernel_rfl) ?_; clear hT hL; intro b8 a w19 hT hL hE hB
    replace hS := Vg.Loc.ext hS hE; refine ⟨fun _ => hS, ?_⟩
    refine d_one (i := 8) hT #[true, true, true, true, true, true, true, true, true, false, false] rfl (by kernel_rfl) rfl ?_
    refine w_append hT hL (by decide) 8 rfl rfl rfl Tryz.app27 (by decide) rfl hsib.2 (Src.one (xs := digC (dg w (256 - n) (diffL pt nl n) (n + 1))) rfl (oneCells_dig (dg w (256 - n) (diffL pt nl n) (n + 1))) (hL.rd 0 rfl 0 rfl)) (by omega) (by simp only [maxLen]; omega) ?_; clear hT hL; intro p1 cap1 ck1 a w20 how1 hT hL
    replace hL : Vg.Loc [] w0 w20 ([[(b8, ob (digC (dg w (256 - n) (diffL pt nl n) (n + 1))) 24)], ch1, [(b1, ob (digC pt) 24)], [(b2, ob ([(Value.bool false)] ++ (digC Dig.zero)) 26)], [(b3, ob ([(Value.slice none 0 0), (Value.bool false)] ++ (digC Dig.zero ++ (digC Dig.zero))) 29)], [(b6, ob ([(Value.bool ((getL ls pt).2))] ++ (digC ((getL ls pt).1))) 26)], [(b7, ob ([(Value.slice ps ns cps), (Value.bool false)] ++ (digC Dig.zero ++ (digC Dig.zero))) 29)], cn, ck1]) := hL
    have hoe1 := OwnE.snoc (x := dg w (256 - n) (diffL pt nl n) (n + 1)) hsib how1
    refine ⟨fun hn => absurd (by decide) hn, ?_⟩
    refine d_pure (i := 9) hT #[true, true, true, true, true, true, true, true, true, true, false] rfl (by kernel_rfl) rfl rfl (by decide) (fun _ _ _ h => h) (fun _ => q_fieldAddr hT rfl Tryz.fld29_0 rfl) ?_; clear hT; intro a hT
    refine d_one (i := 10) hT #[true, true, true, true, true, true, true, true, true, true, true] rfl (by kernel_rfl) rfl ?_
    refine w_store hT hL 6 (c := [(Value.slice ps ns cps), (Value.bool false)] ++ (digC Dig.zero ++ (digC Dig.zero))) rfl rfl Tryz.ty27 rfl (vs := [(Value.slice p1 (ns + 1) cap1)]) rfl rfl (by first | decide | (simp [arr32_len, arr8_len, digC_len]; done) | (simp [arr32_len, arr8_len, digC_len]; omega)) rfl (c' := [(Value.slice p1 (ns + 1) cap1), (Value.bool false)] ++ (digC Dig.zero ++ (digC Dig.zero))) rfl ?_; clear hL; intro w21 hL hE
    replace hL : Vg.Loc [] w0 w21 ([[(b8, ob (digC (dg w (256 - n) (diffL pt nl n) (n + 1))) 24)], ch1, [(b1, ob (digC pt) 24)], [(b2, ob ([(Value.bool false)] ++ (digC Dig.zero)) 26)], [(b3, ob ([(Value.slice none 0 0), (Value.bool false)] ++ (digC Dig.zero ++ (digC Dig.zero))) 29)], [(b6, ob ([(Value.bool ((getL ls pt).2))] ++ (digC ((getL ls pt).1))) 26)], [(b7, ob ([(Value.slice p1 (ns + 1) cap1), (Value.bool false)] ++ (digC Dig.zero ++ (digC Dig.zero))) 29)], cn, ck1]) := hL
    refine ⟨fun hn => absurd (by decide) hn, ?_⟩
    refine d_done (by kernel_rfl) ?_; clear hR hS
    refine then_norm ?_
    refine c_region ?_
    refine l_q hT (q_move hT rfl) rfl rfl (by decide) ?_; clear hT; intro a hT
    refine l_q hT (q_move hT rfl) rfl rfl (by decide) ?_; clear hT; intro a hT
    refine l_q hT (q_move hT rfl) rfl rfl (by decide) ?_; clear hT; intro a hT
    refine l_do rfl ?_
    refine w_callT (xs := [.tmp 64, .tmp 65, .tmp 66]) hT rfl (vs := [(Value.slice pn nn cpn), (vI (n : Int)), (vI (if pt.bit n then 1 else 0))]) rfl (args := #[(Value.slice pn nn cpn), (vI (n : Int)), (vI (if pt.bit n then 1 else 0))]) rfl Tryz.func47 rfl rfl (by decide) ((half_spec nl pn nn cpn n (pt.bit n) (by omega) (by omega) _ (RowOf.slt hnear leafC_len hL (i := 7) rfl)).mono ?_)
    rintro e w22 ⟨ph2, nh2, cph2, ch2, rfl, hX, hh2⟩
    refine ⟨_, rfl, ?_⟩; clear hT; intro a hT; replace hT : Tm 88 a ((67, (Value.slice ph2 nh2 cph2)) :: _) := hT
    replace hL : Vg.Loc [] w0 w22 ([ch2, [(b8, ob (digC (dg w (256 - n) (diffL pt nl n) (n + 1))) 24)], ch1, [(b1, ob (digC pt) 24)], [(b2, ob ([(Value.bool false)] ++ (digC Dig.zero)) 26)], [(b3, ob ([(Value.slice none 0 0), (Value.bool false)] ++ (digC Dig.zero ++ (digC Dig.zero))) 29)], [(b6, ob ([(Value.bool ((getL ls pt).2))] ++ (digC ((getL ls pt).1))) 26)], [(b7, ob ([(Value.slice p1 (ns + 1) cap1), (Value.bool false)] ++ (digC Dig.zero ++ (digC Dig.zero))) 29)], cn, ck1]) := hL.exts hX
    rw [half_same] at hh2
    have hn_hh2 := hh2.len
    have hm_hh2 := half_len nl n (pt.bit n); rw [half_same] at hm_hh2
    refine l_q hT (q_assign hT rfl) rfl rfl (by decide) ?_; clear hT; intro a hT
    refine l_end ?_
    refine blk_norm ?_
    refine then_norm ?_
    refine c_region ?_
    refine l_q hT (q_move hT rfl) rfl rfl (by decide) ?_; clear hT; intro a hT
    refine l_q hT ((q_addI hT rfl rfl (r := (n : Int) + 1) rfl (by omega) (by omega)).v (v := (vI ((n + 1 : Nat) : Int))) (rfl)) rfl rfl (by decide) ?_; clear hT; intro a hT
    refine l_q hT (q_assign hT rfl) rfl rfl (by decide) ?_; clear hT; intro a hT
    refine l_end ?_
    refine then_norm ?_
    replace hL : Vg.Loc [] w0 w22 ([ck1, ch2, [(b8, ob (digC (dg w (256 - n) (diffL pt nl n) (n + 1))) 24)], ch1, [(b1, ob (digC pt) 24)], [(b2, ob ([(Value.bool false)] ++ (digC Dig.zero)) 26)], [(b3, ob ([(Value.slice none 0 0), (Value.bool false)] ++ (digC Dig.zero ++ (digC Dig.zero))) 29)], [(b6, ob ([(Value.bool ((getL ls pt).2))] ++ (digC ((getL ls pt).1))) 26)], [(b7, ob ([(Value.slice p1 (ns + 1) cap1), (Value.bool false)] ++ (digC Dig.zero ++ (digC Dig.zero))) 29)], cn]) := hL.front 9 rfl rfl
    replace hL : Vg.Loc [] w0 w22 ([ch2, ck1, [(b8, ob (digC (dg w (256 - n) (diffL pt nl n) (n + 1))) 24)], ch1, [(b1, ob (digC pt) 24)], [(b2, ob ([(Value.bool false)] ++ (digC Dig.zero)) 26)], [(b3, ob ([(Value.slice none 0 0), (Value.bool false)] ++ (digC Dig.zero ++ (digC Dig.zero))) 29)], [(b6, ob ([(Value.bool ((getL ls pt).2))] ++ (digC ((getL ls pt).1))) 26)], [(b7, ob ([(Value.slice p1 (ns + 1) cap1), (Value.bool false)] ++ (digC Dig.zero ++ (digC Dig.zero))) 29)], cn]) := hL.front 1 rfl rfl
    replace hL : Vg.Loc [] w0 w22 ([[(b7, ob ([(Value.slice p1 (ns + 1) cap1), (Value.bool false)] ++ (digC Dig.zero ++ (digC Dig.zero))) 29)], ch2, ck1, [(b8, ob (digC (dg w (256 - n) (diffL pt nl n) (n + 1))) 24)], ch1, [(b1, ob (digC pt) 24)], [(b2, ob ([(Value.bool false)] ++ (digC Dig.zero)) 26)], [(b3, ob ([(Value.slice none 0 0), (Value.bool false)] ++ (digC Dig.zero ++ (digC Dig.zero))) 29)], [(b6, ob ([(Value.bool ((getL ls pt).2))] ++ (digC ((getL ls pt).1))) 26)], cn]) := hL.front 8 rfl rfl
    replace hL : Vg.Loc [] w0 w22 ([[(b6, ob ([(Value.bool ((getL ls pt).2))] ++ (digC ((getL ls pt).1))) 26)], [(b7, ob ([(Value.slice p1 (ns + 1) cap1), (Value.bool false)] ++ (digC Dig.zero ++ (digC Dig.zero))) 29)], ch2, ck1, [(b8, ob (digC (dg w (256 - n) (diffL pt nl n) (n + 1))) 24)], ch1, [(b1, ob (digC pt) 24)], [(b2, ob ([(Value.bool false)] ++ (digC Dig.zero)) 26)], [(b3, ob ([(Value.slice none 0 0), (Value.bool false)] ++ (digC Dig.zero ++ (digC Dig.zero))) 29)], cn]) := hL.front 8 rfl rfl
    replace hL : Vg.Loc [] w0 w22 ([[(b3, ob ([(Value.slice none 0 0), (Value.bool false)] ++ (digC Dig.zero ++ (digC Dig.zero))) 29)], [(b6, ob ([(Value.bool ((getL ls pt).2))] ++ (digC ((getL ls pt).1))) 26)], [(b7, ob ([(Value.slice p1 (ns + 1) cap1), (Value.bool false)] ++ (digC Dig.zero ++ (digC Dig.zero))) 29)], ch2, ck1, [(b8, ob (digC (dg w (256 - n) (diffL pt nl n) (n + 1))) 24)], ch1, [(b1, ob (digC pt) 24)], [(b2, ob ([(Value.bool false)] ++ (digC Dig.zero)) 26)], cn]) := hL.front 8 rfl rfl
    replace hL : Vg.Loc [] w0 w22 ([[(b2, ob ([(Value.bool false)] ++ (digC Dig.zero)) 26)], [(b3, ob ([(Value.slice none 0 0), (Value.bool false)] ++ (digC Dig.zero ++ (digC Dig.zero))) 29)], [(b6, ob ([(Value.bool ((getL ls pt).2))] ++ (digC ((getL ls pt).1))) 26)], [(b7, ob ([(Value.slice p1 (ns + 1) cap1), (Value.bool false)] ++ (digC Dig.zero ++ (digC Dig.zero))) 29)], ch2, ck1, [(b8, ob (digC (dg w (256 - n) (diffL pt nl n) (n + 1))) 24)], ch1, [(b1, ob (digC pt) 24)], cn]) := hL.front 8 rfl rfl
    replace hL : Vg.Loc [] w0 w22 ([[(b1, ob (digC pt) 24)], [(b2, ob ([(Value.bool false)] ++ (digC Dig.zero)) 26)], [(b3, ob ([(Value.slice none 0 0), (Value.bool false)] ++ (digC Dig.zero ++ (digC Dig.zero))) 29)], [(b6, ob ([(Value.bool ((getL ls pt).2))] ++ (digC ((getL ls pt).1))) 26)], [(b7, ob ([(Value.slice p1 (ns + 1) cap1), (Value.bool false)] ++ (digC Dig.zero ++ (digC Dig.zero))) 29)], ch2, ck1, [(b8, ob (digC (dg w (256 - n) (diffL pt nl n) (n + 1))) 24)], ch1, cn]) := hL.front 8 rfl rfl
    replace hL : Vg.Loc [] w0 w22 ([[(b1, ob (digC pt) 24)], [(b2, ob ([(Value.bool false)] ++ (digC Dig.zero)) 26)], [(b3, ob ([(Value.slice none 0 0), (Value.bool false)] ++ (digC Dig.zero ++ (digC Dig.zero))) 29)], [(b6, ob ([(Value.bool ((getL ls pt).2))] ++ (digC ((getL ls pt).1))) 26)], [(b7, ob ([(Value.slice p1 (ns + 1) cap1), (Value.bool false)] ++ (digC Dig.zero ++ (digC Dig.zero))) 29)], ch2, ck1]) := hL.sub (.cons_cons _ (.cons_cons _ (.cons_cons _ (.cons_cons _ (.cons_cons _ (.cons_cons _ (.cons_cons _ (.cons _ (.cons _ (.cons _ .slnil))))))))))
    have hgo2 : goL w pt 257 ls 0 = ((sb ++ [dg w (256 - n) (diffL pt nl n) (n + 1)]) ++ (goL w pt (257 - (n + 1)) (sameL pt nl n) (n + 1)).1, (goL w pt (257 - (n + 1)) (sameL pt nl n) (n + 1)).2) := by
      rw [hgo, show 257 - n = (256 - n) + 1 from by omega, goL_step (by omega), show 257 - (n + 1) = 256 - n from by omega]
      simp
    exact ⟨_, ⟨n + 1, _, _, _, _, _, _, _, _, _, _, rfl, by omega, by omega, by omega, hgd.same pt, .inr hh2, hoe1, hgo2, hT.keep [0, 5, 6, 7, 12, 13, 14, 15, 16] rfl, hL⟩, by simp only [id]; omega⟩
  · skip
    have hc1 := of_decide_eq_false hc1
    rw [goL_end (k := 257 - n) (n := n) (S := nl) (by omega)] at hgo
    have hget : getL ls pt = getL nl pt := by
      have := getL_go w pt 257 ls 0
      rw [hgo] at this
      exact this.symm
    refine wp_exit ?_
    refine then_exit ?_
    refine then_exit ?_
    refine blk_exit ?_
    refine then_norm ?_
    refine c_seq ?_
    refine c_seq ?_
    refine c_region ?_
    refine l_q hT (q_move hT rfl) rfl rfl (by decide) ?_; clear hT; intro a hT
    refine l_q hT (q_not hT rfl) rfl rfl (by decide) ?_; clear hT; intro a hT
    refine l_q hT (q_move hT rfl) rfl rfl (by decide) ?_; clear hT; intro a hT
    rcases Bool.eq_false_or_eq_true (!((getL ls pt).2)) with hc2 | hc2
    · rw [hc2] at hT
      simp only [Bool.not_eq_true', Bool.not_eq_false'] at hc2
      refine l_on hT rfl rfl rfl rfl (w_q hT (q_move hT rfl) rfl (by decide) ?_); clear hT; intro a hT
      refine l_on hT rfl rfl rfl rfl (w_q hT (q_len_slice hT rfl Tryz.underlying22) rfl (by decide) ?_); clear hT; intro a hT
      refine l_on hT rfl rfl rfl rfl (w_q hT (q_eql hT rfl rfl) rfl (by decide) ?_); clear hT; intro a hT
      refine l_q hT ((q_pick hT rfl rfl rfl).v (v := (Value.bool (decide ((nn : Int) = 1)))) rfl) rfl rfl (by decide) ?_; clear hT; intro a hT
      refine l_end ?_
      refine then_norm ?_
      refine c_if hT rfl (fun hc3 => ?_) (fun hc3 => ?_)
      · skip
        have hc3 := of_decide_eq_true hc3
        obtain ⟨x, rfl⟩ : ∃ x, nl = [x] := List.length_eq_one_iff.1 (by omega)
        refine c_seq ?_
        refine c_region ?_
        refine l_q hT (q_fieldAddr hT rfl Tryz.fld29_1 rfl) rfl rfl (by decide) ?_; clear hT; intro a hT
        refine l_do rfl ?_
        refine w_store hT hL 4 (c := [(Value.slice ps ns cps), (Value.bool false)] ++ (digC Dig.zero ++ (digC Dig.zero))) rfl rfl Tryz.ty4 rfl (vs := [(Value.bool true)]) rfl rfl (by first | decide | (simp [arr32_len, arr8_len, digC_len]; done) | (simp [arr32_len, arr8_len, digC_len]; omega)) rfl (c' := [(Value.slice ps ns cps), (Value.bool true)] ++ (digC Dig.zero ++ (digC Dig.zero))) rfl ?_; clear hL; intro w23 hL hE
        replace hL : Vg.Loc [] w0 w23 ([[(b1, ob (digC pt) 24)], [(b2, ob ([(Value.bool false)] ++ (digC Dig.zero)) 26)], [(b3, ob ([(Value.slice none 0 0), (Value.bool false)] ++ (digC Dig.zero ++ (digC Dig.zero))) 29)], [(b6, ob ([(Value.bool ((getL ls pt).2))] ++ (digC ((getL ls pt).1))) 26)], [(b7, ob ([(Value.slice ps ns cps), (Value.bool true)] ++ (digC Dig.zero ++ (digC Dig.zero))) 29)], cn, cs]) := hL
        refine l_end ?_
        refine then_norm ?_
        refine c_seq ?_
        refine c_region ?_
        refine l_q hT (q_move hT rfl) rfl rfl (by decide) ?_; clear hT; intro a hT
        obtain ⟨sb1, so1, hp1, hrd1⟩ := ((RowOf.slt hnear leafC_len hL (i := 5) rfl)).2 (by omega)
        refine l_q hT (q_indexAddr (b := sb1) (off := so1) (len := nn) (cap := cpn) hT (by rw [← hp1]; rfl) rfl Tryz.sli22 (by omega) (by omega)) rfl rfl (by decide) ?_; clear hT; intro a hT
        refine l_q hT (q_fieldAddr hT rfl Tryz.fld85_0 rfl) rfl rfl (by decide) ?_; clear hT; intro a hT
        refine l_q hT (q_load_agg hT rfl Tryz.ty24 ((hrd1 0 (by omega)).part 0 (ds := digC x.p) rfl) rfl) rfl rfl (by decide) ?_; clear hT; intro a hT
        refine l_q hT (q_fieldAddr hT rfl Tryz.fld29_2 rfl) rfl rfl (by decide) ?_; clear hT; intro a hT
        refine l_do rfl ?_
        refine w_store hT hL 4 (c := [(Value.slice ps ns cps), (Value.bool true)] ++ (digC Dig.zero ++ (digC Dig.zero))) rfl rfl Tryz.ty24 rfl (vs := digC x.p) rfl rfl (by first | decide | (simp [arr32_len, arr8_len, digC_len]; done) | (simp [arr32_len, arr8_len, digC_len]; omega)) rfl (c' := [(Value.slice ps ns cps), (Value.bool true)] ++ (digC x.p ++ (digC Dig.zero))) rfl ?_; clear hL; intro w24 hL hE
        replace hL : Vg.Loc [] w0 w24 ([[(b1, ob (digC pt) 24)], [(b2, ob ([(Value.bool false)] ++ (digC Dig.zero)) 26)], [(b3, ob ([(Value.slice none 0 0), (Value.bool false)] ++ (digC Dig.zero ++ (digC Dig.zero))) 29)], [(b6, ob ([(Value.bool ((getL ls pt).2))] ++ (digC ((getL ls pt).1))) 26)], [(b7, ob ([(Value.slice ps ns cps), (Value.bool true)] ++ (digC x.p ++ (digC Dig.zero))) 29)], cn, cs]) := hL
        refine l_end ?_
        refine then_norm ?_
        refine c_region ?_
        refine l_q hT (q_move hT rfl) rfl rfl (by decide) ?_; clear hT; intro a hT
        obtain ⟨sb2, so2, hp2, hrd2⟩ := ((RowOf.slt hnear leafC_len hL (i := 5) rfl)).2 (by omega)
        refine l_q hT (q_indexAddr (b := sb2) (off := so2) (len := nn) (cap := cpn) hT (by rw [← hp2]; rfl) rfl Tryz.sli22 (by omega) (by omega)) rfl rfl (by decide) ?_; clear hT; intro a hT
        refine l_q hT (q_fieldAddr hT rfl Tryz.fld85_1 rfl) rfl rfl (by decide) ?_; clear hT; intro a hT
        refine l_q hT (q_load_agg hT rfl Tryz.ty24 ((hrd2 0 (by omega)).part 32 (ds := digC x.v) rfl) rfl) rfl rfl (by decide) ?_; clear hT; intro a hT
        refine l_q hT (q_fieldAddr hT rfl Tryz.fld29_3 rfl) rfl rfl (by decide) ?_; clear hT; intro a hT
        refine l_do rfl ?_
        refine w_store hT hL 4 (c := [(Value.slice ps ns cps), (Value.bool true)] ++ (digC x.p ++ (digC Dig.zero))) rfl rfl Tryz.ty24 rfl (vs := digC x.v) rfl rfl (by first | decide | (simp [arr32_len, arr8_len, digC_len]; done) | (simp [arr32_len, arr8_len, digC_len]; omega)) rfl (c' := [(Value.slice ps ns cps), (Value.bool true)] ++ (digC x.p ++ (digC x.v))) rfl ?_; clear hL; intro w25 hL hE
        replace hL : Vg.Loc [] w0 w25 ([[(b1, ob (digC pt) 24)], [(b2, ob ([(Value.bool false)] ++ (digC Dig.zero)) 26)], [(b3, ob ([(Value.slice none 0 0), (Value.bool false)] ++ (digC Dig.zero ++ (digC Dig.zero))) 29)], [(b6, ob ([(Value.bool ((getL ls pt).2))] ++ (digC ((getL ls pt).1))) 26)], [(b7, ob ([(Value.slice ps ns cps), (Value.bool true)] ++ (digC x.p ++ (digC x.v))) 29)], cn, cs]) := hL
        refine l_end ?_
        refine then_norm ?_
        refine c_seq ?_
        refine d_startM hL [b2] #[false, false, false, false, false] [3] rfl rfl rfl ?_; clear hL; intro w26 hL hS; have hR := hL
        refine d_take (i := 0) hT #[true, false, false, false, false] rfl (by kernel_rfl) rfl rfl (by decide) (fun _ _ _ h => h) (fun _ hs => q_load_agg hT rfl Tryz.ty26 (Rd.loc (hR.rd 3 rfl 0 (ds := [(Value.bool ((getL ls pt).2))] ++ (digC ((getL ls pt).1))) rfl) hs (by simp only [List.mem_singleton]; exact fun e => hR.ne 1 3 (by decide) rfl rfl e.symm)) rfl) hS ?_; clear hT; intro a hT
        refine d_take (i := 1) hT #[true, true, false, false, false] rfl (by kernel_rfl) rfl rfl (by decide) (fun _ _ _ h => h) (fun _ hs => q_load_agg hT rfl Tryz.ty29 (Rd.loc (hR.rd 4 rfl 0 (ds := [(Value.slice ps ns cps), (Value.bool true)] ++ (digC x.p ++ (digC x.v))) rfl) hs (by simp only [List.mem_singleton]; exact fun e => hR.ne 1 4 (by decide) rfl rfl e.symm)) rfl) hS ?_; clear hT; intro a hT
        refine d_one (i := 2) hT #[true, true, true, false, false] rfl (by kernel_rfl) rfl ?_
        refine w_store hT hL 1 (c := [(Value.bool false)] ++ (digC Dig.zero)) rfl rfl Tryz.ty26 rfl (vs := [(Value.bool ((getL ls pt).2))] ++ (digC ((getL ls pt).1))) rfl rfl (by first | decide | (simp [arr32_len, arr8_len, digC_len]; done) | (simp [arr32_len, arr8_len, digC_len]; omega)) rfl (c' := [(Value.bool ((getL ls pt).2))] ++ (digC ((getL ls pt).1))) rfl ?_; clear hL; intro w27 hL hE
        replace hL : Vg.Loc [] w0 w27 ([[(b1, ob (digC pt) 24)], [(b2, ob ([(Value.bool ((getL ls pt).2))] ++ (digC ((getL ls pt).1))) 26)], [(b3, ob ([(Value.slice none 0 0), (Value.bool false)] ++ (digC Dig.zero ++ (digC Dig.zero))) 29)], [(b6, ob ([(Value.bool ((getL ls pt).2))] ++ (digC ((getL ls pt).1))) 26)], [(b7, ob ([(Value.slice ps ns cps), (Value.bool true)] ++ (digC x.p ++ (digC x.v))) 29)], cn, cs]) := hL
        replace hS := Vg.Loc.turnedM hS hE (by simp); refine ⟨fun _ => hS, ?_⟩
        refine d_one (i := 3) hT #[true, true, true, true, false] rfl (by kernel_rfl) rfl ?_
        refine w_store hT hL 2 (c := [(Value.slice none 0 0), (Value.bool false)] ++ (digC Dig.zero ++ (digC Dig.zero))) rfl rfl Tryz.ty29 rfl (vs := [(Value.slice ps ns cps), (Value.bool true)] ++ (digC x.p ++ (digC x.v))) rfl rfl (by first | decide | (simp [arr32_len, arr8_len, digC_len]; done) | (simp [arr32_len, arr8_len, digC_len]; omega)) rfl (c' := [(Value.slice ps ns cps), (Value.bool true)] ++ (digC x.p ++ (digC x.v))) rfl ?_; clear hL; intro w28 hL hE
        replace hL : Vg.Loc [] w0 w28 ([[(b1, ob (digC pt) 24)], [(b2, ob ([(Value.bool ((getL ls pt).2))] ++ (digC ((getL ls pt).1))) 26)], [(b3, ob ([(Value.slice ps ns cps), (Value.bool true)] ++ (digC x.p ++ (digC x.v))) 29)], [(b6, ob ([(Value.bool ((getL ls pt).2))] ++ (digC ((getL ls pt).1))) 26)], [(b7, ob ([(Value.slice ps ns cps), (Value.bool true)] ++ (digC x.p ++ (digC x.v))) 29)], cn, cs]) := hL
        refine ⟨fun hn => absurd (by decide) hn, ?_⟩
        refine d_pure (i := 4) hT #[true, true, true, true, true] rfl (by kernel_rfl) rfl rfl (by decide) (fun _ _ _ h => h) (fun _ => q_assign hT rfl) ?_; clear hT; intro a hT
        refine d_done (by kernel_rfl) ?_; clear hR hS
        refine then_norm ?_
        refine wp_ret ?_
        refine c_ret (vs := [(Value.agg ([(Value.bool ((getL ls pt).2))] ++ (digC ((getL ls pt).1))).toArray), (Value.agg ([(Value.slice ps ns cps), (Value.bool true)] ++ (digC x.p ++ (digC x.v))).toArray), (vI 0)]) (rs := [.cell 6 26, .cell 7 29, .tmp 8]) hT rfl (.agg rfl Tryz.ty26 (hL.rd 1 rfl 0 (ds := [(Value.bool ((getL ls pt).2))] ++ (digC ((getL ls pt).1))) rfl) rfl (.agg rfl Tryz.ty29 (hL.rd 2 rfl 0 (ds := [(Value.slice ps ns cps), (Value.bool true)] ++ (digC x.p ++ (digC x.v))) rfl) rfl (.tmp rfl .nil))) ?_
        rw [hget] at hc2
        have hmk : goL w pt 257 ls 0 = (sb, [x]) := by rw [hgo]; simp
        replace hL : Vg.Loc [] w0 w28 ([cs, [(b1, ob (digC pt) 24)], [(b2, ob ([(Value.bool ((getL ls pt).2))] ++ (digC ((getL ls pt).1))) 26)], [(b3, ob ([(Value.slice ps ns cps), (Value.bool true)] ++ (digC x.p ++ (digC x.v))) 29)], [(b6, ob ([(Value.bool ((getL ls pt).2))] ++ (digC ((getL ls pt).1))) 26)], [(b7, ob ([(Value.slice ps ns cps), (Value.bool true)] ++ (digC x.p ++ (digC x.v))) 29)], cn]) := hL.front 6 rfl rfl
        replace hL : Vg.Loc [] w0 w28 ([cs]) := hL.sub (.cons_cons _ (.cons _ (.cons _ (.cons _ (.cons _ (.cons _ (.cons _ .slnil)))))))
        obtain ⟨hs, hg2⟩ := says_other hc2
        rw [hmk]
        refine ⟨ps, cps, cs, ?_, hL, by rw [hsib.len]; exact hsib⟩
        simp only [packed, hs, hget, claimC, proofC, hsib.len, hg2]
      · skip
        have hc3 := of_decide_eq_false hc3
        obtain rfl : nl = [] := List.eq_nil_of_length_eq_zero (by omega)
        refine wp_skip ?_
        refine then_norm ?_
        refine c_seq ?_
        refine d_startM hL [b2] #[false, false, false, false, false] [3] rfl rfl rfl ?_; clear hL; intro w29 hL hS; have hR := hL
        refine d_take (i := 0) hT #[true, false, false, false, false] rfl (by kernel_rfl) rfl rfl (by decide) (fun _ _ _ h => h) (fun _ hs => q_load_agg hT rfl Tryz.ty26 (Rd.loc (hR.rd 3 rfl 0 (ds := [(Value.bool ((getL ls pt).2))] ++ (digC ((getL ls pt).1))) rfl) hs (by simp only [List.mem_singleton]; exact fun e => hR.ne 1 3 (by decide) rfl rfl e.symm)) rfl) hS ?_; clear hT; intro a hT
        refine d_take (i := 1) hT #[true, true, false, false, false] rfl (by kernel_rfl) rfl rfl (by decide) (fun _ _ _ h => h) (fun _ hs => q_load_agg hT rfl Tryz.ty29 (Rd.loc (hR.rd 4 rfl 0 (ds := [(Value.slice ps ns cps), (Value.bool false)] ++ (digC Dig.zero ++ (digC Dig.zero))) rfl) hs (by simp only [List.mem_singleton]; exact fun e => hR.ne 1 4 (by decide) rfl rfl e.symm)) rfl) hS ?_; clear hT; intro a hT
        refine d_one (i := 2) hT #[true, true, true, false, false] rfl (by kernel_rfl) rfl ?_
        refine w_store hT hL 1 (c := [(Value.bool false)] ++ (digC Dig.zero)) rfl rfl Tryz.ty26 rfl (vs := [(Value.bool ((getL ls pt).2))] ++ (digC ((getL ls pt).1))) rfl rfl (by first | decide | (simp [arr32_len, arr8_len, digC_len]; done) | (simp [arr32_len, arr8_len, digC_len]; omega)) rfl (c' := [(Value.bool ((getL ls pt).2))] ++ (digC ((getL ls pt).1))) rfl ?_; clear hL; intro w30 hL hE
        replace hL : Vg.Loc [] w0 w30 ([[(b1, ob (digC pt) 24)], [(b2, ob ([(Value.bool ((getL ls pt).2))] ++ (digC ((getL ls pt).1))) 26)], [(b3, ob ([(Value.slice none 0 0), (Value.bool false)] ++ (digC Dig.zero ++ (digC Dig.zero))) 29)], [(b6, ob ([(Value.bool ((getL ls pt).2))] ++ (digC ((getL ls pt).1))) 26)], [(b7, ob ([(Value.slice ps ns cps), (Value.bool false)] ++ (digC Dig.zero ++ (digC Dig.zero))) 29)], cn, cs]) := hL
        replace hS := Vg.Loc.turnedM hS hE (by simp); refine ⟨fun _ => hS, ?_⟩
        refine d_one (i := 3) hT #[true, true, true, true, false] rfl (by kernel_rfl) rfl ?_
        refine w_store hT hL 2 (c := [(Value.slice none 0 0), (Value.bool false)] ++ (digC Dig.zero ++ (digC Dig.zero))) rfl rfl Tryz.ty29 rfl (vs := [(Value.slice ps ns cps), (Value.bool false)] ++ (digC Dig.zero ++ (digC Dig.zero))) rfl rfl (by first | decide | (simp [arr32_len, arr8_len, digC_len]; done) | (simp [arr32_len, arr8_len, digC_len]; omega)) rfl (c' := [(Value.slice ps ns cps), (Value.bool false)] ++ (digC Dig.zero ++ (digC Dig.zero))) rfl ?_; clear hL; intro w31 hL hE
        replace hL : Vg.Loc [] w0 w31 ([[(b1, ob (digC pt) 24)], [(b2, ob ([(Value.bool ((getL ls pt).2))] ++ (digC ((getL ls pt).1))) 26)], [(b3, ob ([(Value.slice ps ns cps), (Value.bool false)] ++ (digC Dig.zero ++ (digC Dig.zero))) 29)], [(b6, ob ([(Value.bool ((getL ls pt).2))] ++ (digC ((getL ls pt).1))) 26)], [(b7, ob ([(Value.slice ps ns cps), (Value.bool false)] ++ (digC Dig.zero ++ (digC Dig.zero))) 29)], cn, cs]) := hL
        refine ⟨fun hn => absurd (by decide) hn, ?_⟩
        refine d_pure (i := 4) hT #[true, true, true, true, true] rfl (by kernel_rfl) rfl rfl (by decide) (fun _ _ _ h => h) (fun _ => q_assign hT rfl) ?_; clear hT; intro a hT
        refine d_done (by kernel_rfl) ?_; clear hR hS
        refine then_norm ?_
        refine wp_ret ?_
        refine c_ret (vs := [(Value.agg ([(Value.bool ((getL ls pt).2))] ++ (digC ((getL ls pt).1))).toArray), (Value.agg ([(Value.slice ps ns cps), (Value.bool false)] ++ (digC Dig.zero ++ (digC Dig.zero))).toArray), (vI 0)]) (rs := [.cell 6 26, .cell 7 29, .tmp 8]) hT rfl (.agg rfl Tryz.ty26 (hL.rd 1 rfl 0 (ds := [(Value.bool ((getL ls pt).2))] ++ (digC ((getL ls pt).1))) rfl) rfl (.agg rfl Tryz.ty29 (hL.rd 2 rfl 0 (ds := [(Value.slice ps ns cps), (Value.bool false)] ++ (digC Dig.zero ++ (digC Dig.zero))) rfl) rfl (.tmp rfl .nil))) ?_
        rw [hget] at hc2
        have hmk : goL w pt 257 ls 0 = (sb, []) := by rw [hgo]; simp
        replace hL : Vg.Loc [] w0 w31 ([cs, [(b1, ob (digC pt) 24)], [(b2, ob ([(Value.bool ((getL ls pt).2))] ++ (digC ((getL ls pt).1))) 26)], [(b3, ob ([(Value.slice ps ns cps), (Value.bool false)] ++ (digC Dig.zero ++ (digC Dig.zero))) 29)], [(b6, ob ([(Value.bool ((getL ls pt).2))] ++ (digC ((getL ls pt).1))) 26)], [(b7, ob ([(Value.slice ps ns cps), (Value.bool false)] ++ (digC Dig.zero ++ (digC Dig.zero))) 29)], cn]) := hL.front 6 rfl rfl
        replace hL : Vg.Loc [] w0 w31 ([cs]) := hL.sub (.cons_cons _ (.cons _ (.cons _ (.cons _ (.cons _ (.cons _ (.cons _ .slnil)))))))
        have hs : saysL pt [] = (false, Dig.zero, false, Dig.zero, Dig.zero) := rfl; have hg2 : getL [] pt = (Dig.zero, false) := rfl
        rw [hmk]
        refine ⟨ps, cps, cs, ?_, hL, by rw [hsib.len]; exact hsib⟩
        simp only [packed, hs, hget, claimC, proofC, hsib.len, hg2]
    · rw [hc2] at hT
      simp only [Bool.not_eq_true', Bool.not_eq_false'] at hc2
      refine l_off hT rfl rfl rfl rfl rfl (by decide) ?_; clear hT; intro a hT
      refine l_off hT rfl rfl rfl rfl rfl (by decide) ?_; clear hT; intro a hT
      refine l_off hT rfl rfl rfl rfl rfl (by decide) ?_; clear hT; intro a hT
      refine l_q hT ((q_pick hT rfl rfl rfl).v (v := (Value.bool false)) rfl) rfl rfl (by decide) ?_; clear hT; intro a hT
      refine l_end ?_
      refine then_norm ?_
      refine c_false hT rfl rfl ?_
      refine wp_skip ?_
      refine then_norm ?_
      refine c_seq ?_
      refine d_startM hL [b2] #[false, false, false, false, false] [3] rfl rfl rfl ?_; clear hL; intro w32 hL hS; have hR := hL
      refine d_take (i := 0) hT #[true, false, false, false, false] rfl (by kernel_rfl) rfl rfl (by decide) (fun _ _ _ h => h) (fun _ hs => q_load_agg hT rfl Tryz.ty26 (Rd.loc (hR.rd 3 rfl 0 (ds := [(Value.bool ((getL ls pt).2))] ++ (digC ((getL ls pt).1))) rfl) hs (by simp only [List.mem_singleton]; exact fun e => hR.ne 1 3 (by decide) rfl rfl e.symm)) rfl) hS ?_; clear hT; intro a hT
      refine d_take (i := 1) hT #[true, true, false, false, false] rfl (by kernel_rfl) rfl rfl (by decide) (fun _ _ _ h => h) (fun _ hs => q_load_agg hT rfl Tryz.ty29 (Rd.loc (hR.rd 4 rfl 0 (ds := [(Value.slice ps ns cps), (Value.bool false)] ++ (digC Dig.zero ++ (digC Dig.zero))) rfl) hs (by simp only [List.mem_singleton]; exact fun e => hR.ne 1 4 (by decide) rfl rfl e.symm)) rfl) hS ?_; clear hT; intro a hT
      refine d_one (i := 2) hT #[true, true, true, false, false] rfl (by kernel_rfl) rfl ?_
      refine w_store hT hL 1 (c := [(Value.bool false)] ++ (digC Dig.zero)) rfl rfl Tryz.ty26 rfl (vs := [(Value.bool ((getL ls pt).2))] ++ (digC ((getL ls pt).1))) rfl rfl (by first | decide | (simp [arr32_len, arr8_len, digC_len]; done) | (simp [arr32_len, arr8_len, digC_len]; omega)) rfl (c' := [(Value.bool ((getL ls pt).2))] ++ (digC ((getL ls pt).1))) rfl ?_; clear hL; intro w33 hL hE
      replace hL : Vg.Loc [] w0 w33 ([[(b1, ob (digC pt) 24)], [(b2, ob ([(Value.bool ((getL ls pt).2))] ++ (digC ((getL ls pt).1))) 26)], [(b3, ob ([(Value.slice none 0 0), (Value.bool false)] ++ (digC Dig.zero ++ (digC Dig.zero))) 29)], [(b6, ob ([(Value.bool ((getL ls pt).2))] ++ (digC ((getL ls pt).1))) 26)], [(b7, ob ([(Value.slice ps ns cps), (Value.bool false)] ++ (digC Dig.zero ++ (digC Dig.zero))) 29)], cn, cs]) := hL
      replace hS := Vg.Loc.turnedM hS hE (by simp); refine ⟨fun _ => hS, ?_⟩
      refine d_one (i := 3) hT #[true, true, true, true, false] rfl (by kernel_rfl) rfl ?_
      refine w_store hT hL 2 (c := [(Value.slice none 0 0), (Value.bool false)] ++ (digC Dig.zero ++ (digC Dig.zero))) rfl rfl Tryz.ty29 rfl (vs := [(Value.slice ps ns cps), (Value.bool false)] ++ (digC Dig.zero ++ (digC Dig.zero))) rfl rfl (by first | decide | (simp [arr32_len, arr8_len, digC_len]; done) | (simp [arr32_len, arr8_len, digC_len]; omega)) rfl (c' := [(Value.slice ps ns cps), (Value.bool false)] ++ (digC Dig.zero ++ (digC Dig.zero))) rfl ?_; clear hL; intro w34 hL hE
      replace hL : Vg.Loc [] w0 w34 ([[(b1, ob (digC pt) 24)], [(b2, ob ([(Value.bool ((getL ls pt).2))] ++ (digC ((getL ls pt).1))) 26)], [(b3, ob ([(Value.slice ps ns cps), (Value.bool false)] ++ (digC Dig.zero ++ (digC Dig.zero))) 29)], [(b6, ob ([(Value.bool ((getL ls pt).2))] ++ (digC ((getL ls pt).1))) 26)], [(b7, ob ([(Value.slice ps ns cps), (Value.bool false)] ++ (digC Dig.zero ++ (digC Dig.zero))) 29)], cn, cs]) := hL
      refine ⟨fun hn => absurd (by decide) hn, ?_⟩
      refine d_pure (i := 4) hT #[true, true, true, true, true] rfl (by kernel_rfl) rfl rfl (by decide) (fun _ _ _ h => h) (fun _ => q_assign hT rfl) ?_; clear hT; intro a hT
      refine d_done (by kernel_rfl) ?_; clear hR hS
      refine then_norm ?_
      refine wp_ret ?_
      refine c_ret (vs := [(Value.agg ([(Value.bool ((getL ls pt).2))] ++ (digC ((getL ls pt).1))).toArray), (Value.agg ([(Value.slice ps ns cps), (Value.bool false)] ++ (digC Dig.zero ++ (digC Dig.zero))).toArray), (vI 0)]) (rs := [.cell 6 26, .cell 7 29, .tmp 8]) hT rfl (.agg rfl Tryz.ty26 (hL.rd 1 rfl 0 (ds := [(Value.bool ((getL ls pt).2))] ++ (digC ((getL ls pt).1))) rfl) rfl (.agg rfl Tryz.ty29 (hL.rd 2 rfl 0 (ds := [(Value.slice ps ns cps), (Value.bool false)] ++ (digC Dig.zero ++ (digC Dig.zero))) rfl) rfl (.tmp rfl .nil))) ?_
      rw [hget] at hc2
      have hmk : goL w pt 257 ls 0 = (sb, nl) := by rw [hgo]; simp
      replace hL : Vg.Loc [] w0 w34 ([cs, [(b1, ob (digC pt) 24)], [(b2, ob ([(Value.bool ((getL ls pt).2))] ++ (digC ((getL ls pt).1))) 26)], [(b3, ob ([(Value.slice ps ns cps), (Value.bool false)] ++ (digC Dig.zero ++ (digC Dig.zero))) 29)], [(b6, ob ([(Value.bool ((getL ls pt).2))] ++ (digC ((getL ls pt).1))) 26)], [(b7, ob ([(Value.slice ps ns cps), (Value.bool false)] ++ (digC Dig.zero ++ (digC Dig.zero))) 29)], cn]) := hL.front 6 rfl rfl
      replace hL : Vg.Loc [] w0 w34 ([cs]) := hL.sub (.cons_cons _ (.cons _ (.cons _ (.cons _ (.cons _ (.cons _ (.cons _ .slnil)))))))
      have hs := says_there (pt := pt) (S := nl) (by omega) hc2
      rw [hmk]
      refine ⟨ps, cps, cs, ?_, hL, by rw [hsib.len]; exact hsib⟩
      simp only [packed, hs, hget, claimC, proofC, hsib.len, hc2]
end Go.Proofs.YtcaffacganffjaaGreatDoor
end
