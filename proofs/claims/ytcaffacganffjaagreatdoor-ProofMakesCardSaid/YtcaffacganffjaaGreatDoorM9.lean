/- The walks of a part of the program: GPath. Printed by a program of the prover. The walks of a part of the program: GRef1. Printed by a program of the prover. The walks of a part of the program: GRef2. Printed by a program of the prover. -/
import Derived.Test.YtcaffacganffjaaGreatDoorM2
import Derived.Test.YtcaffacganffjaaGreatDoorM6
import Derived.Test.YtcaffacganffjaaGreatDoorM7
import Derived.Test.YtcaffacganffjaaGreatDoorM5

section
namespace Go.Proofs.YtcaffacganffjaaGreatDoor
open Go Go.Vg


set_option maxRecDepth 20000 in
set_option maxHeartbeats 1000000 in
theorem mask_spec (i : Nat) (hi : i < 1000000) (w0 : World) :
    Calls Tryz.prog 131 #[(vI (i : Int))] w0 fun e w' => e = .returned (v8 (UInt8.ofNat (2 ^ (7 - i % 8)))) ∧ Ext w0 w' := by
  refine c_enter (n := 7) (args := [(vI (i : Int))]) Tryz.func131 rfl rfl (Nat.le_of_ble_eq_true rfl) rfl (fun a hT => ?_)
  simp only [List.zipIdx_cons, List.zipIdx_nil, List.map_cons, List.map_nil, Nat.reduceAdd] at hT
  have hL := Vg.Loc.refl [] w0
  have hm : (7 : Int) - (i : Int) % 8 = ((7 - i % 8 : Nat) : Int) := by omega
  refine c_seq ?_
  refine c_region ?_
  refine l_q hT (q_assign hT rfl) rfl rfl (by decide) ?_; clear hT; intro a hT
  refine l_end ?_
  refine then_norm ?_
  refine c_seq ?_
  refine c_region ?_
  refine l_q hT (q_move hT rfl) rfl rfl (by decide) ?_; clear hT; intro a hT
  refine l_q hT (q_remI hT rfl rfl (by omega) (by omega)) rfl rfl (by decide) ?_; clear hT; intro a hT
  refine l_q hT ((q_subI hT rfl rfl (r := 7 - ((i : Int) % 8)) rfl (by omega) (by omega)).v (v := (vI ((7 - i % 8 : Nat) : Int))) (by rw [hm])) rfl rfl (by decide) ?_; clear hT; intro a hT
  refine l_q hT (q_shl8 (u := 1) (s := (7 - i % 8 : Nat)) hT rfl rfl (by omega)) rfl rfl (by decide) ?_; clear hT; intro a hT
  refine l_q hT (q_assign hT rfl) rfl rfl (by decide) ?_; clear hT; intro a hT
  refine l_end ?_
  refine then_norm ?_
  refine wp_ret ?_
  refine c_ret (vs := [(v8 (shl8 1 (7 - i % 8 : Nat)))]) (rs := [.tmp 2]) hT rfl (.tmp rfl .nil) ?_
  exact ⟨by simp [packed, shl8, Nat.shiftLeft_eq], hL.drop⟩

set_option maxRecDepth 20000 in
set_option maxHeartbeats 1000000 in
theorem Bit_spec (p : Dig) (i : Nat) (hi : i < 256) (w0 : World) :
    Calls Tryz.prog 87 #[(Value.agg (digC p).toArray), (vI (i : Int))] w0 fun e w' => e = .returned (.tuple #[vI (if p.bit i then 1 else 0), vI 0]) ∧ Ext w0 w' := by
  refine c_enter (n := 20) (args := [(Value.agg (digC p).toArray), (vI (i : Int))]) Tryz.func87 rfl rfl (Nat.le_of_ble_eq_true rfl) rfl (fun a hT => ?_)
  simp only [List.zipIdx_cons, List.zipIdx_nil, List.map_cons, List.map_nil, Nat.reduceAdd] at hT
  have hL := Vg.Loc.refl [] w0
  have hb := bit_and (p.get (i / 8)) (7 - i % 8) (by omega)
  refine c_seq ?_
  refine c_region ?_
  refine l_do rfl ?_
  refine w_box hT hL (by decide) rfl (c := digC p) rfl ?_; clear hT hL; intro b1 a w1 hT hL hE hB
  refine l_q hT (q_assign hT rfl) rfl rfl (by decide) ?_; clear hT; intro a hT
  refine l_q hT (q_assign hT rfl) rfl rfl (by decide) ?_; clear hT; intro a hT
  refine l_end ?_
  refine then_norm ?_
  refine c_seq ?_
  refine c_seq ?_
  refine c_region ?_
  refine l_q hT (q_move hT rfl) rfl rfl (by decide) ?_; clear hT; intro a hT
  refine l_q hT ((q_lss hT rfl rfl).b (c := decide ((i : Int) < 0)) (b := false) (decide_eq_false (by omega))) rfl rfl (by decide) ?_; clear hT; intro a hT
  refine l_q hT (q_move hT rfl) rfl rfl (by decide) ?_; clear hT; intro a hT
  refine l_on hT rfl rfl rfl rfl (w_q hT (q_move hT rfl) rfl (by decide) ?_); clear hT; intro a hT
  refine l_on hT rfl rfl rfl rfl (w_q hT ((q_geq hT rfl rfl).b (c := decide (256 ≤ (i : Int))) (b := false) (decide_eq_false (by omega))) rfl (by decide) ?_); clear hT; intro a hT
  refine l_q hT ((q_pick hT rfl rfl rfl).v (v := (Value.bool false)) rfl) rfl rfl (by decide) ?_; clear hT; intro a hT
  refine l_end ?_
  refine then_norm ?_
  refine c_false hT rfl rfl ?_
  refine wp_skip ?_
  refine then_norm ?_
  refine c_seq ?_
  refine c_seq ?_
  refine d_start' hL #[false, false, false, false, false, false, false, false] [] rfl rfl rfl ?_; clear hL; intro w2 hL hE; have hR := hL; have hS := Ext.refl w2
  refine d_pure (i := 0) hT #[true, false, false, false, false, false, false, false] rfl (by kernel_rfl) rfl rfl (by decide) (fun _ _ _ h => h) (fun _ => q_move hT rfl) ?_; clear hT; intro a hT
  refine d_pure (i := 1) hT #[true, true, false, false, false, false, false, false] rfl (by kernel_rfl) rfl rfl (by decide) (fun _ _ _ h => h) (fun _ => (q_quoI hT rfl rfl (by omega) (by omega) (by omega)).v (v := (vI ((i / 8 : Nat) : Int))) (by simp)) ?_; clear hT; intro a hT
  refine d_pure (i := 2) hT #[true, true, true, false, false, false, false, false] rfl (by kernel_rfl) rfl rfl (by decide) (fun _ _ _ h => h) (fun _ => (q_indexAddr_arr hT rfl rfl Tryz.arr24 (by omega) (by omega)).v (v := vp b1 (0 + (i / 8 : Nat))) (by simp)) ?_; clear hT; intro a hT
  refine d_pure (i := 4) hT #[true, true, true, false, true, false, false, false] rfl (by kernel_rfl) rfl rfl (by decide) (fun _ _ _ h => h) (fun _ => q_move hT rfl) ?_; clear hT; intro a hT
  refine d_take (i := 3) hT #[true, true, true, true, true, false, false, false] rfl (by kernel_rfl) rfl rfl (by decide) (fun _ _ _ h => h) (fun _ hs => q_load hT rfl Tryz.ty5 (Rd.ext ((hR.rd 0 rfl 0 (ds := digC p) rfl).dig (i := (i / 8 : Nat)) (by omega)) hs)) hS ?_; clear hT; intro a hT
  refine d_one (i := 5) hT #[true, true, true, true, true, true, false, false] rfl (by kernel_rfl) rfl ?_
  refine w_callT (xs := [.tmp 16]) hT rfl (vs := [(vI (i : Int))]) rfl (args := #[(vI (i : Int))]) rfl Tryz.func131 rfl rfl (by decide) ((mask_spec i (by omega) _).mono ?_)
  rintro e w3 ⟨rfl, hX⟩
  refine ⟨_, rfl, ?_⟩; clear hT; intro a hT; replace hT : Tm 20 a ((17, (v8 (UInt8.ofNat (2 ^ (7 - i % 8))))) :: _) := hT
  replace hL := hL.ext hX
  replace hS := Vg.Loc.ext hS hX; refine ⟨fun _ => hS, ?_⟩
  refine d_pure (i := 6) hT #[true, true, true, true, true, true, true, false] rfl (by kernel_rfl) rfl rfl (by decide) (fun _ _ _ h => h) (fun _ => q_and8 (u := p.get (i / 8 : Nat)) (v := UInt8.ofNat (2 ^ (7 - i % 8))) hT rfl rfl) ?_; clear hT; intro a hT
  refine d_pure (i := 7) hT #[true, true, true, true, true, true, true, true] rfl (by kernel_rfl) rfl rfl (by decide) (fun _ _ _ h => h) (fun _ => q_ne8 (u := (p.get (i / 8 : Nat)) &&& (UInt8.ofNat (2 ^ (7 - i % 8)))) (v := 0) hT rfl rfl) ?_; clear hT; intro a hT
  refine d_done (by kernel_rfl) ?_; clear hR hS
  refine then_norm ?_
  refine c_if hT rfl (fun hc1 => ?_) (fun hc1 => ?_)
  · skip
    have hc1 := of_decide_eq_true hc1
    refine c_seq ?_
    refine c_region ?_
    refine l_q hT (q_assign hT rfl) rfl rfl (by decide) ?_; clear hT; intro a hT
    refine l_q hT (q_assign hT rfl) rfl rfl (by decide) ?_; clear hT; intro a hT
    refine l_end ?_
    refine then_norm ?_
    refine wp_ret ?_
    refine then_ret ?_
    refine c_ret (vs := [(vI 1), (vI 0)]) (rs := [.tmp 4, .tmp 5]) hT rfl (.tmp rfl (.tmp rfl .nil)) ?_
    have hq : p.bit i = true := by unfold Dig.bit; rw [← hb]; simpa using hc1
    exact ⟨by simp [packed, hq], hL.drop⟩
  · skip
    have hc1 := of_decide_eq_false hc1
    refine wp_skip ?_
    refine then_norm ?_
    refine c_seq ?_
    refine c_region ?_
    refine l_q hT (q_assign hT rfl) rfl rfl (by decide) ?_; clear hT; intro a hT
    refine l_q hT (q_assign hT rfl) rfl rfl (by decide) ?_; clear hT; intro a hT
    refine l_end ?_
    refine then_norm ?_
    refine wp_ret ?_
    refine c_ret (vs := [(vI 0), (vI 0)]) (rs := [.tmp 4, .tmp 5]) hT rfl (.tmp rfl (.tmp rfl .nil)) ?_
    have hq : p.bit i = false := by unfold Dig.bit; rw [← hb]; simpa using hc1
    exact ⟨by simp [packed, hq], hL.drop⟩

set_option maxRecDepth 20000 in
set_option maxHeartbeats 1000000 in
theorem sright_spec (p : Dig) (i : Nat) (hi : i < 256) (w0 : World) :
    Calls Tryz.prog 169 #[(Value.agg (digC p).toArray), (vI (i : Int))] w0 fun e w' => e = .returned (.bool (p.bit i)) ∧ Ext w0 w' := by
  refine c_enter (n := 15) (args := [(Value.agg (digC p).toArray), (vI (i : Int))]) Tryz.func169 rfl rfl (Nat.le_of_ble_eq_true rfl) rfl (fun a hT => ?_)
  simp only [List.zipIdx_cons, List.zipIdx_nil, List.map_cons, List.map_nil, Nat.reduceAdd] at hT
  have hL := Vg.Loc.refl [] w0
  refine c_seq ?_
  refine c_region ?_
  refine l_do rfl ?_
  refine w_box hT hL (by decide) rfl (c := digC p) rfl ?_; clear hT hL; intro b1 a w1 hT hL hE hB
  refine l_q hT (q_assign hT rfl) rfl rfl (by decide) ?_; clear hT; intro a hT
  refine l_end ?_
  refine then_norm ?_
  refine c_seq ?_
  refine c_region ?_
  refine l_q hT (q_load_agg hT rfl Tryz.ty24 (hL.rd 0 rfl 0 (ds := digC p) rfl) rfl) rfl rfl (by decide) ?_; clear hT; intro a hT
  refine l_q hT (q_move hT rfl) rfl rfl (by decide) ?_; clear hT; intro a hT
  refine l_do rfl ?_
  refine w_callT (xs := [.tmp 8, .tmp 9]) hT rfl (vs := [(Value.agg (digC p).toArray), (vI (i : Int))]) rfl (args := #[(Value.agg (digC p).toArray), (vI (i : Int))]) rfl Tryz.func87 rfl rfl (by decide) ((Bit_spec p i (by omega) _).mono ?_)
  rintro e w2 ⟨rfl, hX⟩
  refine ⟨_, rfl, ?_⟩; clear hT; intro a hT; replace hT : Tm 15 a ((10, (Value.tuple #[(vI (if p.bit i then 1 else 0)), (vI 0)])) :: _) := hT
  replace hL := hL.ext hX
  refine l_q hT (q_move hT rfl) rfl rfl (by decide) ?_; clear hT; intro a hT
  refine l_q hT (q_extract hT rfl rfl) rfl rfl (by decide) ?_; clear hT; intro a hT
  refine l_q hT (q_extract hT rfl rfl) rfl rfl (by decide) ?_; clear hT; intro a hT
  refine l_q hT (q_assign hT rfl) rfl rfl (by decide) ?_; clear hT; intro a hT
  refine l_q hT (q_assign hT rfl) rfl rfl (by decide) ?_; clear hT; intro a hT
  refine l_end ?_
  refine then_norm ?_
  refine c_seq ?_
  refine c_region ?_
  refine l_q hT (q_move hT rfl) rfl rfl (by decide) ?_; clear hT; intro a hT
  refine l_q hT (q_eql hT rfl rfl) rfl rfl (by decide) ?_; clear hT; intro a hT
  refine l_q hT (q_assign hT rfl) rfl rfl (by decide) ?_; clear hT; intro a hT
  refine l_end ?_
  refine then_norm ?_
  refine wp_ret ?_
  refine c_ret (vs := [(Value.bool (decide ((if p.bit i then 1 else 0) = 1)))]) (rs := [.tmp 4]) hT rfl (.tmp rfl .nil) ?_
  exact ⟨by cases p.bit i <;> simp [packed], hL.drop⟩

set_option maxRecDepth 20000 in
set_option maxHeartbeats 1000000 in
theorem pright_spec (p : Dig) (i : Nat) (hi : i < 256) (w0 : World) :
    Calls Tryz.prog 39 #[(Value.agg (digC p).toArray), (vI (i : Int))] w0 fun e w' => e = .returned (.bool (p.bit i)) ∧ Ext w0 w' := by
  refine c_enter (n := 15) (args := [(Value.agg (digC p).toArray), (vI (i : Int))]) Tryz.func39 rfl rfl (Nat.le_of_ble_eq_true rfl) rfl (fun a hT => ?_)
  simp only [List.zipIdx_cons, List.zipIdx_nil, List.map_cons, List.map_nil, Nat.reduceAdd] at hT
  have hL := Vg.Loc.refl [] w0
  refine c_seq ?_
  refine c_region ?_
  refine l_do rfl ?_
  refine w_box hT hL (by decide) rfl (c := digC p) rfl ?_; clear hT hL; intro b1 a w1 hT hL hE hB
  refine l_q hT (q_assign hT rfl) rfl rfl (by decide) ?_; clear hT; intro a hT
  refine l_end ?_
  refine then_norm ?_
  refine c_seq ?_
  refine c_region ?_
  refine l_q hT (q_load_agg hT rfl Tryz.ty24 (hL.rd 0 rfl 0 (ds := digC p) rfl) rfl) rfl rfl (by decide) ?_; clear hT; intro a hT
  refine l_q hT (q_move hT rfl) rfl rfl (by decide) ?_; clear hT; intro a hT
  refine l_do rfl ?_
  refine w_callT (xs := [.tmp 8, .tmp 9]) hT rfl (vs := [(Value.agg (digC p).toArray), (vI (i : Int))]) rfl (args := #[(Value.agg (digC p).toArray), (vI (i : Int))]) rfl Tryz.func87 rfl rfl (by decide) ((Bit_spec p i (by omega) _).mono ?_)
  rintro e w2 ⟨rfl, hX⟩
  refine ⟨_, rfl, ?_⟩; clear hT; intro a hT; replace hT : Tm 15 a ((10, (Value.tuple #[(vI (if p.bit i then 1 else 0)), (vI 0)])) :: _) := hT
  replace hL := hL.ext hX
  refine l_q hT (q_move hT rfl) rfl rfl (by decide) ?_; clear hT; intro a hT
  refine l_q hT (q_extract hT rfl rfl) rfl rfl (by decide) ?_; clear hT; intro a hT
  refine l_q hT (q_extract hT rfl rfl) rfl rfl (by decide) ?_; clear hT; intro a hT
  refine l_q hT (q_assign hT rfl) rfl rfl (by decide) ?_; clear hT; intro a hT
  refine l_q hT (q_assign hT rfl) rfl rfl (by decide) ?_; clear hT; intro a hT
  refine l_end ?_
  refine then_norm ?_
  refine c_seq ?_
  refine c_region ?_
  refine l_q hT (q_move hT rfl) rfl rfl (by decide) ?_; clear hT; intro a hT
  refine l_q hT (q_eql hT rfl rfl) rfl rfl (by decide) ?_; clear hT; intro a hT
  refine l_q hT (q_assign hT rfl) rfl rfl (by decide) ?_; clear hT; intro a hT
  refine l_end ?_
  refine then_norm ?_
  refine wp_ret ?_
  refine c_ret (vs := [(Value.bool (decide ((if p.bit i then 1 else 0) = 1)))]) (rs := [.tmp 4]) hT rfl (.tmp rfl .nil) ?_
  exact ⟨by cases p.bit i <;> simp [packed], hL.drop⟩
end Go.Proofs.YtcaffacganffjaaGreatDoor
end

section
namespace Go.Proofs.YtcaffacganffjaaGreatDoor
open Go Go.Vg


set_option maxRecDepth 20000 in
set_option maxHeartbeats 1000000 in
theorem weight_spec (i : Nat) (hi : i < 256) (w0 : World) :
    Calls Tryz.prog 93 #[(vI (i : Int))] w0 fun e w' => e = .returned (vI ((2 ^ (7 - i % 8) : Nat) : Int)) ∧ Ext w0 w' := by
  refine c_enter (n := 14) (args := [(vI (i : Int))]) Tryz.func93 rfl rfl (Nat.le_of_ble_eq_true rfl) rfl (fun a hT => ?_)
  simp only [List.zipIdx_cons, List.zipIdx_nil, List.map_cons, List.map_nil, Nat.reduceAdd] at hT
  have hL := Vg.Loc.refl [] w0
  refine c_seq ?_
  refine c_region ?_
  refine l_q hT (q_assign hT rfl) rfl rfl (by decide) ?_; clear hT; intro a hT
  refine l_end ?_
  refine then_norm ?_
  refine c_seq ?_
  refine c_region ?_
  refine l_q hT (q_assign hT rfl) rfl rfl (by decide) ?_; clear hT; intro a hT
  refine l_end ?_
  refine then_norm ?_
  refine c_seq ?_
  refine c_seq ?_
  refine c_region ?_
  refine l_q hT (q_assign hT rfl) rfl rfl (by decide) ?_; clear hT; intro a hT
  refine l_end ?_
  refine then_norm ?_
  refine wp_block ?_
  refine c_loop (fun mz a wz => ∃ t : Nat, mz = 8 - t ∧ t ≤ i % 8 ∧ Tm 14 a [(0, (vI (i : Int))), (2, (vI 0)), (3, (vI ((2 ^ (7 - t) : Nat) : Int))), (4, (vI (t : Int)))] ∧ Vg.Loc [] w0 wz []) id 8 ?_ ?_
  · exact ⟨0, rfl, by omega, hT.keep [0, 2, 3, 4] rfl, hL⟩
  clear hT hL
  rintro mz a w1 ⟨t, rfl, ht, hT, hL⟩
  have hpb := pow7 t
  refine c_seq ?_
  refine c_seq ?_
  refine c_region ?_
  refine l_q hT (q_move hT rfl) rfl rfl (by decide) ?_; clear hT; intro a hT
  refine l_q hT (q_move hT rfl) rfl rfl (by decide) ?_; clear hT; intro a hT
  refine l_q hT (q_remI hT rfl rfl (by omega) (by omega)) rfl rfl (by decide) ?_; clear hT; intro a hT
  refine l_q hT (q_lss hT rfl rfl) rfl rfl (by decide) ?_; clear hT; intro a hT
  refine l_end ?_
  refine then_norm ?_
  refine c_if hT rfl (fun hc1 => ?_) (fun hc1 => ?_)
  · skip
    have hc1 := of_decide_eq_true hc1
    refine wp_skip ?_
    refine then_norm ?_
    refine c_seq ?_
    refine wp_block ?_
    refine c_region ?_
    refine l_q hT (q_move hT rfl) rfl rfl (by decide) ?_; clear hT; intro a hT
    refine l_q hT ((q_quoI hT rfl rfl (by omega) (by omega) (by omega)).v (v := (vI ((2 ^ (7 - (t + 1)) : Nat) : Int))) (by rw [pow_half (by omega)])) rfl rfl (by decide) ?_; clear hT; intro a hT
    refine l_q hT (q_assign hT rfl) rfl rfl (by decide) ?_; clear hT; intro a hT
    refine l_end ?_
    refine blk_norm ?_
    refine then_norm ?_
    refine c_region ?_
    refine l_q hT (q_move hT rfl) rfl rfl (by decide) ?_; clear hT; intro a hT
    refine l_q hT (q_addI hT rfl rfl (r := (t : Int) + 1) rfl (by omega) (by omega)) rfl rfl (by decide) ?_; clear hT; intro a hT
    refine l_q hT (q_assign hT rfl) rfl rfl (by decide) ?_; clear hT; intro a hT
    refine l_end ?_
    refine then_norm ?_
    exact ⟨_, ⟨t + 1, rfl, by omega, hT.keep [0, 2, 3, 4] rfl, hL⟩, by simp only [id]; omega⟩
  · skip
    have hc1 := of_decide_eq_false hc1
    refine wp_exit ?_
    refine then_exit ?_
    refine then_exit ?_
    refine blk_exit ?_
    refine then_norm ?_
    refine c_seq ?_
    refine c_region ?_
    refine l_q hT (q_move hT rfl) rfl rfl (by decide) ?_; clear hT; intro a hT
    refine l_q hT (q_assign hT rfl) rfl rfl (by decide) ?_; clear hT; intro a hT
    refine l_end ?_
    refine then_norm ?_
    refine wp_ret ?_
    refine c_ret (vs := [(vI ((2 ^ (7 - t) : Nat) : Int))]) (rs := [.tmp 2]) hT rfl (.tmp rfl .nil) ?_
    obtain rfl : t = i % 8 := by omega
    exact ⟨rfl, hL.drop⟩

set_option maxRecDepth 20000 in
set_option maxHeartbeats 1000000 in
theorem refAt_spec (p : Dig) (i : Nat) (hi : i < 256) (w0 : World) :
    Calls Tryz.prog 46 #[(Value.agg (digC p).toArray), (vI (i : Int))] w0 fun e w' => e = .returned (vI (if p.bit i then 1 else 0)) ∧ Ext w0 w' := by
  refine c_enter (n := 14) (args := [(Value.agg (digC p).toArray), (vI (i : Int))]) Tryz.func46 rfl rfl (Nat.le_of_ble_eq_true rfl) rfl (fun a hT => ?_)
  simp only [List.zipIdx_cons, List.zipIdx_nil, List.map_cons, List.map_nil, Nat.reduceAdd] at hT
  have hL := Vg.Loc.refl [] w0
  have hpb := pow7 (i % 8)
  have hgb := (p.get (i / 8)).toNat_lt
  have hq : 0 ≤ ((p.get (i / 8)).toNat : Int) / ((2 ^ (7 - i % 8) : Nat) : Int) := Int.ediv_nonneg (by omega) (by omega)
  refine c_seq ?_
  refine c_region ?_
  refine l_do rfl ?_
  refine w_box hT hL (by decide) rfl (c := digC p) rfl ?_; clear hT hL; intro b1 a w1 hT hL hE hB
  refine l_q hT (q_assign hT rfl) rfl rfl (by decide) ?_; clear hT; intro a hT
  refine l_end ?_
  refine then_norm ?_
  refine c_seq ?_
  refine d_start' hL #[false, false, false, false, false, false, false, false, false, false] [] rfl rfl rfl ?_; clear hL; intro w2 hL hE; have hR := hL; have hS := Ext.refl w2
  refine d_pure (i := 0) hT #[true, false, false, false, false, false, false, false, false, false] rfl (by kernel_rfl) rfl rfl (by decide) (fun _ _ _ h => h) (fun _ => q_move hT rfl) ?_; clear hT; intro a hT
  refine d_pure (i := 1) hT #[true, true, false, false, false, false, false, false, false, false] rfl (by kernel_rfl) rfl rfl (by decide) (fun _ _ _ h => h) (fun _ => (q_quoI hT rfl rfl (by omega) (by omega) (by omega)).v (v := (vI ((i / 8 : Nat) : Int))) (by simp)) ?_; clear hT; intro a hT
  refine d_pure (i := 2) hT #[true, true, true, false, false, false, false, false, false, false] rfl (by kernel_rfl) rfl rfl (by decide) (fun _ _ _ h => h) (fun _ => (q_indexAddr_arr hT rfl rfl Tryz.arr24 (by omega) (by omega)).v (v := vp b1 (0 + (i / 8 : Nat))) (by simp)) ?_; clear hT; intro a hT
  refine d_pure (i := 5) hT #[true, true, true, false, false, true, false, false, false, false] rfl (by kernel_rfl) rfl rfl (by decide) (fun _ _ _ h => h) (fun _ => q_move hT rfl) ?_; clear hT; intro a hT
  refine d_take (i := 3) hT #[true, true, true, true, false, true, false, false, false, false] rfl (by kernel_rfl) rfl rfl (by decide) (fun _ _ _ h => h) (fun _ hs => q_load hT rfl Tryz.ty5 (Rd.ext ((hR.rd 0 rfl 0 (ds := digC p) rfl).dig (i := (i / 8 : Nat)) (by omega)) hs)) hS ?_; clear hT; intro a hT
  refine d_pure (i := 4) hT #[true, true, true, true, true, true, false, false, false, false] rfl (by kernel_rfl) rfl rfl (by decide) (fun _ _ _ h => h) (fun _ => q_conv_8_i hT rfl Tryz.underlying5 Tryz.underlying3) ?_; clear hT; intro a hT
  refine d_one (i := 6) hT #[true, true, true, true, true, true, true, false, false, false] rfl (by kernel_rfl) rfl ?_
  refine w_callT (xs := [.tmp 10]) hT rfl (vs := [(vI (i : Int))]) rfl (args := #[(vI (i : Int))]) rfl Tryz.func93 rfl rfl (by decide) ((weight_spec i (by omega) _).mono ?_)
  rintro e w3 ⟨rfl, hX⟩
  refine ⟨_, rfl, ?_⟩; clear hT; intro a hT; replace hT : Tm 14 a ((11, (vI ((2 ^ (7 - i % 8) : Nat) : Int))) :: _) := hT
  replace hL := hL.ext hX
  replace hS := Vg.Loc.ext hS hX; refine ⟨fun _ => hS, ?_⟩
  refine d_pure (i := 7) hT #[true, true, true, true, true, true, true, true, false, false] rfl (by kernel_rfl) rfl rfl (by decide) (fun _ _ _ h => h) (fun _ => q_quoI hT rfl rfl (by omega) (by omega) (by omega)) ?_; clear hT; intro a hT
  refine d_pure (i := 8) hT #[true, true, true, true, true, true, true, true, true, false] rfl (by kernel_rfl) rfl rfl (by decide) (fun _ _ _ h => h) (fun _ => q_remI hT rfl rfl (by omega) (by omega)) ?_; clear hT; intro a hT
  refine d_pure (i := 9) hT #[true, true, true, true, true, true, true, true, true, true] rfl (by kernel_rfl) rfl rfl (by decide) (fun _ _ _ h => h) (fun _ => q_assign hT rfl) ?_; clear hT; intro a hT
  refine d_done (by kernel_rfl) ?_; clear hR hS
  refine then_norm ?_
  refine wp_ret ?_
  refine c_ret (vs := [(vI ((((p.get (i / 8 : Nat)).toNat : Int) / ((2 ^ (7 - i % 8) : Nat) : Int)) % 2))]) (rs := [.tmp 4]) hT rfl (.tmp rfl .nil) ?_
  refine ⟨?_, hL.drop⟩; simp only [packed, bit_div]

set_option maxRecDepth 20000 in
set_option maxHeartbeats 1000000 in
theorem refWidth_spec (w : Int) (w0 : World) :
    Calls Tryz.prog 12 #[(vI w)] w0 fun e w' => e = .returned (.bool (widthB w)) ∧ Ext w0 w' := by
  refine c_enter (n := 9) (args := [(vI w)]) Tryz.func12 rfl rfl (Nat.le_of_ble_eq_true rfl) rfl (fun a hT => ?_)
  simp only [List.zipIdx_cons, List.zipIdx_nil, List.map_cons, List.map_nil, Nat.reduceAdd] at hT
  have hL := Vg.Loc.refl [] w0
  refine c_seq ?_
  refine c_region ?_
  refine l_q hT (q_assign hT rfl) rfl rfl (by decide) ?_; clear hT; intro a hT
  refine l_end ?_
  refine then_norm ?_
  refine c_seq ?_
  refine c_region ?_
  refine l_q hT (q_move hT rfl) rfl rfl (by decide) ?_; clear hT; intro a hT
  refine l_q hT (q_geq hT rfl rfl) rfl rfl (by decide) ?_; clear hT; intro a hT
  refine l_q hT (q_move hT rfl) rfl rfl (by decide) ?_; clear hT; intro a hT
  rcases Bool.eq_false_or_eq_true (decide (0 ≤ w)) with hc1 | hc1
  · rw [hc1] at hT
    have hc1 := of_decide_eq_true hc1
    refine l_on hT rfl rfl rfl rfl (w_q hT (q_move hT rfl) rfl (by decide) ?_); clear hT; intro a hT
    refine l_on hT rfl rfl rfl rfl (w_q hT (q_leq hT rfl rfl) rfl (by decide) ?_); clear hT; intro a hT
    refine l_q hT ((q_pick hT rfl rfl rfl).v (v := (Value.bool (decide (w ≤ 32)))) rfl) rfl rfl (by decide) ?_; clear hT; intro a hT
    refine l_q hT (q_assign hT rfl) rfl rfl (by decide) ?_; clear hT; intro a hT
    refine l_end ?_
    refine then_norm ?_
    refine wp_ret ?_
    refine c_ret (vs := [(Value.bool (decide (w ≤ 32)))]) (rs := [.tmp 2]) hT rfl (.tmp rfl .nil) ?_
    exact ⟨by simp [packed, widthB]; try omega, hL.drop⟩
  · rw [hc1] at hT
    have hc1 := of_decide_eq_false hc1
    refine l_off hT rfl rfl rfl rfl rfl (by decide) ?_; clear hT; intro a hT
    refine l_off hT rfl rfl rfl rfl rfl (by decide) ?_; clear hT; intro a hT
    refine l_q hT ((q_pick hT rfl rfl rfl).v (v := (Value.bool false)) rfl) rfl rfl (by decide) ?_; clear hT; intro a hT
    refine l_q hT (q_assign hT rfl) rfl rfl (by decide) ?_; clear hT; intro a hT
    refine l_end ?_
    refine then_norm ?_
    refine wp_ret ?_
    refine c_ret (vs := [(Value.bool false)]) (rs := [.tmp 2]) hT rfl (.tmp rfl .nil) ?_
    exact ⟨by simp [packed, widthB]; try omega, hL.drop⟩
end Go.Proofs.YtcaffacganffjaaGreatDoor
end

section
namespace Go.Proofs.YtcaffacganffjaaGreatDoor
open Go Go.Vg


set_option maxRecDepth 20000 in
set_option maxHeartbeats 1000000 in
theorem half_spec (ls : List Leaf) (p : Option Addr) (len cap n : Nat) (bb : Bool) (hc : len ≤ 4096) (hn : n < 256) (w0 : World) (hsl : SlT w0 p len 64 leafC noLeaf ls) :
    Calls Tryz.prog 47 #[(Value.slice p len cap), (vI (n : Int)), (vI (bitI bb))] w0 fun e w' => ∃ p' n' cap' c, e = .returned (.slice p' n' cap') ∧ Vg.Loc [] w0 w' [c] ∧ OwnE leafC 64 85 p' n' cap' (halfL ls n bb) c := by
  refine c_enter (n := 32) (args := [(Value.slice p len cap), (vI (n : Int)), (vI (bitI bb))]) Tryz.func47 rfl rfl (Nat.le_of_ble_eq_true rfl) rfl (fun a hT => ?_)
  simp only [List.zipIdx_cons, List.zipIdx_nil, List.map_cons, List.map_nil, Nat.reduceAdd] at hT
  have hL := Vg.Loc.refl [] w0
  have hlen : ls.length = len := hsl.1
  refine c_seq ?_
  refine c_region ?_
  refine l_q hT (q_assign hT rfl) rfl rfl (by decide) ?_; clear hT; intro a hT
  refine l_end ?_
  refine then_norm ?_
  refine c_seq ?_
  refine c_region ?_
  refine l_q hT (q_assign hT rfl) rfl rfl (by decide) ?_; clear hT; intro a hT
  refine l_end ?_
  refine then_norm ?_
  refine c_seq ?_
  refine c_seq ?_
  refine c_region ?_
  refine l_q hT (q_assign hT rfl) rfl rfl (by decide) ?_; clear hT; intro a hT
  refine l_end ?_
  refine then_norm ?_
  refine wp_block ?_
  refine c_loop (fun mz a wz => ∃ (t : Nat) (p0 : Option Addr) (n0 cp0 : Nat) (c0 : Chunk), mz = len - t ∧ t ≤ len ∧ n0 ≤ t ∧ OwnE leafC 64 85 p0 n0 cp0 (halfL (ls.take t) n bb) c0 ∧ Tm 32 a [(0, (Value.slice p len cap)), (1, (vI (n : Int))), (2, (vI (bitI bb))), (6, (Value.slice none 0 0)), (7, (Value.slice p0 n0 cp0)), (8, (vI (t : Int)))] ∧ Vg.Loc [] w0 wz [c0]) id len ?_ ?_
  · exact ⟨0, none, 0, 0, [], rfl, by omega, by omega, by simpa [halfL] using OwnE.nil, hT.keep [0, 1, 2, 6, 7, 8] rfl, hL.regroup (by simp)⟩
  clear hT hL
  rintro mz a w1 ⟨t, p0, n0, cp0, c0, rfl, ht, hn0, hz, hT, hL⟩
  refine c_seq ?_
  refine c_seq ?_
  refine c_region ?_
  refine l_q hT (q_move hT rfl) rfl rfl (by decide) ?_; clear hT; intro a hT
  refine l_q hT (q_move hT rfl) rfl rfl (by decide) ?_; clear hT; intro a hT
  refine l_q hT (q_len_slice hT rfl Tryz.underlying22) rfl rfl (by decide) ?_; clear hT; intro a hT
  refine l_q hT (q_lss hT rfl rfl) rfl rfl (by decide) ?_; clear hT; intro a hT
  refine l_end ?_
  refine then_norm ?_
  refine c_if hT rfl (fun hc1 => ?_) (fun hc1 => ?_)
  · skip
    have hc1 := of_decide_eq_true hc1
    refine wp_skip ?_
    refine then_norm ?_
    refine c_seq ?_
    refine wp_block ?_
    refine c_seq ?_
    refine c_region ?_
    refine l_q hT (q_move hT rfl) rfl rfl (by decide) ?_; clear hT; intro a hT
    refine l_q hT (q_move hT rfl) rfl rfl (by decide) ?_; clear hT; intro a hT
    obtain ⟨sb1, so1, hp1, hrd1⟩ := (hsl).2 (by omega)
    refine l_q hT (q_indexAddr (b := sb1) (off := so1) (len := len) (cap := cap) hT (by rw [← hp1]; rfl) rfl Tryz.sli22 (by omega) (by omega)) rfl rfl (by decide) ?_; clear hT; intro a hT
    refine l_q hT (q_fieldAddr hT rfl Tryz.fld85_0 rfl) rfl rfl (by decide) ?_; clear hT; intro a hT
    refine l_q hT (q_load_agg hT rfl Tryz.ty24 ((Rd.loc (hrd1 t (by omega)) hL (by simp)).part 0 (ds := digC ((ls.getD t noLeaf).p)) rfl) rfl) rfl rfl (by decide) ?_; clear hT; intro a hT
    refine l_q hT (q_move hT rfl) rfl rfl (by decide) ?_; clear hT; intro a hT
    refine l_do rfl ?_
    refine w_callT (xs := [.tmp 19, .tmp 20]) hT rfl (vs := [(Value.agg (digC ((ls.getD t noLeaf).p)).toArray), (vI (n : Int))]) rfl (args := #[(Value.agg (digC ((ls.getD t noLeaf).p)).toArray), (vI (n : Int))]) rfl Tryz.func46 rfl rfl (by decide) ((refAt_spec ((ls.getD t noLeaf).p) n (by omega) _).mono ?_)
    rintro e w2 ⟨rfl, hX⟩
    refine ⟨_, rfl, ?_⟩; clear hT; intro a hT; replace hT : Tm 32 a ((21, (vI (if ((ls.getD t noLeaf).p).bit n then 1 else 0))) :: _) := hT
    replace hL := hL.ext hX
    refine l_q hT (q_move hT rfl) rfl rfl (by decide) ?_; clear hT; intro a hT
    refine l_q hT (q_eql hT rfl rfl) rfl rfl (by decide) ?_; clear hT; intro a hT
    refine l_end ?_
    refine then_norm ?_
    refine c_if hT rfl (fun hc2 => ?_) (fun hc2 => ?_)
    · skip
      have hc2 := of_decide_eq_true hc2
      refine c_region ?_
      refine l_q hT (q_move hT rfl) rfl rfl (by decide) ?_; clear hT; intro a hT
      refine l_q hT (q_move hT rfl) rfl rfl (by decide) ?_; clear hT; intro a hT
      refine l_q hT (q_move hT rfl) rfl rfl (by decide) ?_; clear hT; intro a hT
      obtain ⟨sb2, so2, hp2, hrd2⟩ := (hsl).2 (by omega)
      refine l_q hT (q_indexAddr (b := sb2) (off := so2) (len := len) (cap := cap) hT (by rw [← hp2]; rfl) rfl Tryz.sli22 (by omega) (by omega)) rfl rfl (by decide) ?_; clear hT; intro a hT
      refine l_q hT (q_load_agg hT rfl Tryz.ty85 (Rd.loc (hrd2 t (by omega)) hL (by simp)) rfl) rfl rfl (by decide) ?_; clear hT; intro a hT
      refine l_do rfl ?_
      refine w_buildSlice (e := 85) (ps := [(0, .tmp 28)]) (pv := [(0, (Value.agg (digC ((ls.getD t noLeaf).p) ++ (digC ((ls.getD t noLeaf).v))).toArray))]) (c := digC ((ls.getD t noLeaf).p) ++ (digC ((ls.getD t noLeaf).v))) hT hL (by decide) rfl (fun _ => by kernel_rfl) ?_; clear hT hL; intro b1 a w3 hT hL hE hB
      refine l_do rfl ?_
      refine w_append hT hL (by decide) 1 rfl rfl rfl Tryz.app22 (by decide) rfl hz.2 (Src.one (xs := digC ((ls.getD t noLeaf).p) ++ (digC ((ls.getD t noLeaf).v))) rfl (leafC_one (ls.getD t noLeaf)) (hL.rd 0 rfl 0 rfl)) (by omega) (by simp only [maxLen]; omega) ?_; clear hT hL; intro p1 cap1 ck1 a w4 how1 hT hL
      replace hL : Vg.Loc [] w0 w4 ([[(b1, ob (digC ((ls.getD t noLeaf).p) ++ (digC ((ls.getD t noLeaf).v))) 85)], ck1]) := hL
      have hoe1 := OwnE.snoc (x := (ls.getD t noLeaf)) hz how1
      refine l_q hT (q_assign hT rfl) rfl rfl (by decide) ?_; clear hT; intro a hT
      refine l_end ?_
      refine blk_norm ?_
      refine then_norm ?_
      refine c_region ?_
      refine l_q hT (q_move hT rfl) rfl rfl (by decide) ?_; clear hT; intro a hT
      refine l_q hT (q_addI hT rfl rfl (r := (t : Int) + 1) rfl (by omega) (by omega)) rfl rfl (by decide) ?_; clear hT; intro a hT
      refine l_q hT (q_assign hT rfl) rfl rfl (by decide) ?_; clear hT; intro a hT
      refine l_end ?_
      refine then_norm ?_
      replace hL : Vg.Loc [] w0 w4 ([ck1, [(b1, ob (digC ((ls.getD t noLeaf).p) ++ (digC ((ls.getD t noLeaf).v))) 85)]]) := hL.front 1 rfl rfl
      replace hL : Vg.Loc [] w0 w4 ([ck1]) := hL.sub (.cons_cons _ (.cons _ .slnil))
      have hh := halfL_yes (show t < ls.length by omega) hc2
      exact ⟨_, ⟨t + 1, _, _, _, _, rfl, by omega, by omega, hh ▸ hoe1, hT.keep [0, 1, 2, 6, 7, 8] rfl, hL⟩, by simp only [id]; omega⟩
    · skip
      have hc2 := of_decide_eq_false hc2
      refine wp_skip ?_
      refine blk_norm ?_
      refine then_norm ?_
      refine c_region ?_
      refine l_q hT (q_move hT rfl) rfl rfl (by decide) ?_; clear hT; intro a hT
      refine l_q hT (q_addI hT rfl rfl (r := (t : Int) + 1) rfl (by omega) (by omega)) rfl rfl (by decide) ?_; clear hT; intro a hT
      refine l_q hT (q_assign hT rfl) rfl rfl (by decide) ?_; clear hT; intro a hT
      refine l_end ?_
      refine then_norm ?_
      have hh := halfL_no (show t < ls.length by omega) hc2
      exact ⟨_, ⟨t + 1, _, _, _, _, rfl, by omega, by omega, hh ▸ hz, hT.keep [0, 1, 2, 6, 7, 8] rfl, hL⟩, by simp only [id]; omega⟩
  · skip
    have hc1 := of_decide_eq_false hc1
    obtain rfl : t = len := by omega
    have hf : ls.take t = ls := List.take_of_length_le (by omega)
    rw [hf] at hz
    refine wp_exit ?_
    refine then_exit ?_
    refine then_exit ?_
    refine blk_exit ?_
    refine then_norm ?_
    refine c_seq ?_
    refine c_region ?_
    refine l_q hT (q_move hT rfl) rfl rfl (by decide) ?_; clear hT; intro a hT
    refine l_q hT (q_assign hT rfl) rfl rfl (by decide) ?_; clear hT; intro a hT
    refine l_end ?_
    refine then_norm ?_
    refine wp_ret ?_
    refine c_ret (vs := [(Value.slice p0 n0 cp0)]) (rs := [.tmp 6]) hT rfl (.tmp rfl .nil) ?_
    exact ⟨_, _, _, _, rfl, hL, hz⟩

set_option maxRecDepth 20000 in
set_option maxHeartbeats 1000000 in
theorem refGet_spec (ls : List Leaf) (p : Option Addr) (len cap : Nat) (pt : Dig) (hc : len ≤ 4096) (w0 : World) (hsl : SlT w0 p len 64 leafC noLeaf ls) :
    Calls Tryz.prog 45 #[(Value.slice p len cap), (Value.agg (digC pt).toArray)] w0 fun e w' => e = .returned (.tuple #[dv (getL ls pt).1, .bool (getL ls pt).2]) ∧ Ext w0 w' := by
  refine c_enter (n := 26) (args := [(Value.slice p len cap), (Value.agg (digC pt).toArray)]) Tryz.func45 rfl rfl (Nat.le_of_ble_eq_true rfl) rfl (fun a hT => ?_)
  simp only [List.zipIdx_cons, List.zipIdx_nil, List.map_cons, List.map_nil, Nat.reduceAdd] at hT
  have hL := Vg.Loc.refl [] w0
  have hlen : ls.length = len := hsl.1
  refine c_seq ?_
  refine c_region ?_
  refine l_do rfl ?_
  refine w_box hT hL (by decide) rfl (c := digC pt) rfl ?_; clear hT hL; intro b1 a w1 hT hL hE hB
  refine l_do rfl ?_
  refine w_alloc hT hL (by decide) Tryz.ty24 ?_; clear hT hL; intro b2 a w2 hT hL hE hB
  refine l_q hT (q_assign hT rfl) rfl rfl (by decide) ?_; clear hT; intro a hT
  refine l_end ?_
  refine then_norm ?_
  refine c_seq ?_
  refine c_seq ?_
  refine c_region ?_
  refine l_q hT (q_assign hT rfl) rfl rfl (by decide) ?_; clear hT; intro a hT
  refine l_end ?_
  refine then_norm ?_
  refine wp_block ?_
  refine c_loop (fun mz a wz => ∃ t : Nat, mz = len - t ∧ t ≤ len ∧ (∀ i, i < t → (ls.getD i noLeaf).p ≠ pt) ∧ Tm 26 a [(0, (Value.slice p len cap)), (3, (vp b1 0)), (4, (vp b2 0)), (5, (Value.bool false)), (6, (vI (t : Int)))] ∧ Vg.Loc [] w0 wz [[(b2, ob (digC Dig.zero) 24)], [(b1, ob (digC pt) 24)]]) id len ?_ ?_
  · exact ⟨0, rfl, by omega, fun i h => by omega, hT.keep [0, 3, 4, 5, 6] rfl, hL⟩
  clear hT hL
  rintro mz a w3 ⟨t, rfl, ht, hne, hT, hL⟩
  refine c_seq ?_
  refine c_seq ?_
  refine c_region ?_
  refine l_q hT (q_move hT rfl) rfl rfl (by decide) ?_; clear hT; intro a hT
  refine l_q hT (q_move hT rfl) rfl rfl (by decide) ?_; clear hT; intro a hT
  refine l_q hT (q_len_slice hT rfl Tryz.underlying22) rfl rfl (by decide) ?_; clear hT; intro a hT
  refine l_q hT (q_lss hT rfl rfl) rfl rfl (by decide) ?_; clear hT; intro a hT
  refine l_end ?_
  refine then_norm ?_
  refine c_if hT rfl (fun hc1 => ?_) (fun hc1 => ?_)
  · skip
    have hc1 := of_decide_eq_true hc1
    refine wp_skip ?_
    refine then_norm ?_
    refine c_seq ?_
    refine wp_block ?_
    refine c_seq ?_
    refine d_start' hL #[false, false, false, false, false, false, false] [] rfl rfl rfl ?_; clear hL; intro w4 hL hE; have hR := hL; have hS := Ext.refl w4
    refine d_pure (i := 0) hT #[true, false, false, false, false, false, false] rfl (by kernel_rfl) rfl rfl (by decide) (fun _ _ _ h => h) (fun _ => q_move hT rfl) ?_; clear hT; intro a hT
    refine d_pure (i := 1) hT #[true, true, false, false, false, false, false] rfl (by kernel_rfl) rfl rfl (by decide) (fun _ _ _ h => h) (fun _ => q_move hT rfl) ?_; clear hT; intro a hT
    obtain ⟨sb1, so1, hp1, hrd1⟩ := (hsl).2 (by omega)
    refine d_pure (i := 2) hT #[true, true, true, false, false, false, false] rfl (by kernel_rfl) rfl rfl (by decide) (fun _ _ _ h => h) (fun _ => q_indexAddr (b := sb1) (off := so1) (len := len) (cap := cap) hT (by rw [← hp1]; rfl) rfl Tryz.sli22 (by omega) (by omega)) ?_; clear hT; intro a hT
    refine d_pure (i := 3) hT #[true, true, true, true, false, false, false] rfl (by kernel_rfl) rfl rfl (by decide) (fun _ _ _ h => h) (fun _ => q_fieldAddr hT rfl Tryz.fld85_0 rfl) ?_; clear hT; intro a hT
    refine d_take (i := 4) hT #[true, true, true, true, true, false, false] rfl (by kernel_rfl) rfl rfl (by decide) (fun _ _ _ h => h) (fun _ hs => q_load_agg hT rfl Tryz.ty24 (Rd.ext ((Rd.loc (hrd1 t (by omega)) hR (by simp)).part 0 (ds := digC ((ls.getD t noLeaf).p)) rfl) hs) rfl) hS ?_; clear hT; intro a hT
    refine d_take (i := 5) hT #[true, true, true, true, true, true, false] rfl (by kernel_rfl) rfl rfl (by decide) (fun _ _ _ h => h) (fun _ hs => q_load_agg hT rfl Tryz.ty24 (Rd.ext (hR.rd 1 rfl 0 (ds := digC pt) rfl) hs) rfl) hS ?_; clear hT; intro a hT
    refine d_pure (i := 6) hT #[true, true, true, true, true, true, true] rfl (by kernel_rfl) rfl rfl (by decide) (fun _ _ _ h => h) (fun _ => q_eq_agg hT rfl rfl Tryz.eqg24 (EqR.dig Tryz.arr24 Tryz.underlying5 ((ls.getD t noLeaf).p) pt) (by decide)) ?_; clear hT; intro a hT
    refine d_done (by kernel_rfl) ?_; clear hR hS
    refine then_norm ?_
    refine c_if hT rfl (fun hc2 => ?_) (fun hc2 => ?_)
    · skip
      have hc2 := of_decide_eq_true hc2
      refine c_seq ?_
      refine c_region ?_
      refine l_q hT (q_move hT rfl) rfl rfl (by decide) ?_; clear hT; intro a hT
      refine l_q hT (q_move hT rfl) rfl rfl (by decide) ?_; clear hT; intro a hT
      obtain ⟨sb2, so2, hp2, hrd2⟩ := (hsl).2 (by omega)
      refine l_q hT (q_indexAddr (b := sb2) (off := so2) (len := len) (cap := cap) hT (by rw [← hp2]; rfl) rfl Tryz.sli22 (by omega) (by omega)) rfl rfl (by decide) ?_; clear hT; intro a hT
      refine l_q hT (q_fieldAddr hT rfl Tryz.fld85_1 rfl) rfl rfl (by decide) ?_; clear hT; intro a hT
      refine l_q hT (q_load_agg hT rfl Tryz.ty24 ((Rd.loc (hrd2 t (by omega)) hL (by simp)).part 32 (ds := digC ((ls.getD t noLeaf).v)) rfl) rfl) rfl rfl (by decide) ?_; clear hT; intro a hT
      refine l_do rfl ?_
      refine w_store hT hL 0 (c := digC Dig.zero) rfl rfl Tryz.ty24 rfl (vs := digC ((ls.getD t noLeaf).v)) rfl rfl (by first | decide | (simp [arr32_len, arr8_len, digC_len]; done) | (simp [arr32_len, arr8_len, digC_len]; omega)) rfl (c' := digC ((ls.getD t noLeaf).v)) rfl ?_; clear hL; intro w5 hL hE
      replace hL : Vg.Loc [] w0 w5 ([[(b2, ob (digC ((ls.getD t noLeaf).v)) 24)], [(b1, ob (digC pt) 24)]]) := hL
      refine l_q hT (q_assign hT rfl) rfl rfl (by decide) ?_; clear hT; intro a hT
      refine l_end ?_
      refine then_norm ?_
      refine wp_ret ?_
      refine blk_ret ?_
      refine then_ret ?_
      refine then_ret ?_
      refine blk_ret ?_
      refine then_ret ?_
      refine c_ret (vs := [(Value.agg (digC ((ls.getD t noLeaf).v)).toArray), (Value.bool true)]) (rs := [.cell 4 24, .tmp 5]) hT rfl (.agg rfl Tryz.ty24 (hL.rd 0 rfl 0 (ds := digC ((ls.getD t noLeaf).v)) rfl) rfl (.tmp rfl .nil)) ?_
      refine ⟨?_, hL.drop⟩; rw [getL_at (t := t) (by omega) hne (by assumption)]; rfl
    · skip
      have hc2 := of_decide_eq_false hc2
      refine wp_skip ?_
      refine blk_norm ?_
      refine then_norm ?_
      refine c_region ?_
      refine l_q hT (q_move hT rfl) rfl rfl (by decide) ?_; clear hT; intro a hT
      refine l_q hT (q_addI hT rfl rfl (r := (t : Int) + 1) rfl (by omega) (by omega)) rfl rfl (by decide) ?_; clear hT; intro a hT
      refine l_q hT (q_assign hT rfl) rfl rfl (by decide) ?_; clear hT; intro a hT
      refine l_end ?_
      refine then_norm ?_
      have hne2 : ∀ i, i < t + 1 → (ls.getD i noLeaf).p ≠ pt := by
        intro i h1
        rcases Nat.lt_or_ge i t with q | q
        · exact hne i q
        · obtain rfl : i = t := by omega
          assumption
      exact ⟨_, ⟨t + 1, rfl, by omega, hne2, hT.keep [0, 3, 4, 5, 6] rfl, hL⟩, by simp only [id]; omega⟩
  · skip
    have hc1 := of_decide_eq_false hc1
    refine wp_exit ?_
    refine then_exit ?_
    refine then_exit ?_
    refine blk_exit ?_
    refine then_norm ?_
    refine c_seq ?_
    refine c_region ?_
    refine l_q hT (q_build (ps := []) (pv := []) (v := .agg (digC Dig.zero).toArray) hT rfl (fun _ => by kernel_rfl)) rfl rfl (by decide) ?_; clear hT; intro a hT
    refine l_do rfl ?_
    refine w_store hT hL 0 (c := digC Dig.zero) rfl rfl Tryz.ty24 rfl (vs := digC Dig.zero) rfl rfl (by first | decide | (simp [arr32_len, arr8_len, digC_len]; done) | (simp [arr32_len, arr8_len, digC_len]; omega)) rfl (c' := digC Dig.zero) rfl ?_; clear hL; intro w6 hL hE
    replace hL : Vg.Loc [] w0 w6 ([[(b2, ob (digC Dig.zero) 24)], [(b1, ob (digC pt) 24)]]) := hL
    refine l_q hT (q_assign hT rfl) rfl rfl (by decide) ?_; clear hT; intro a hT
    refine l_end ?_
    refine then_norm ?_
    refine wp_ret ?_
    refine c_ret (vs := [(Value.agg (digC Dig.zero).toArray), (Value.bool false)]) (rs := [.cell 4 24, .tmp 5]) hT rfl (.agg rfl Tryz.ty24 (hL.rd 0 rfl 0 (ds := digC Dig.zero) rfl) rfl (.tmp rfl .nil)) ?_
    refine ⟨?_, hL.drop⟩; rw [getL_no (fun i hi => hne i (by omega))]; rfl

set_option maxRecDepth 20000 in
set_option maxHeartbeats 1000000 in
theorem refTwice_spec (ls : List Leaf) (p : Option Addr) (len cap : Nat) (hc : len ≤ 4096) (w0 : World) (hsl : SlT w0 p len 64 leafC noLeaf ls) :
    Calls Tryz.prog 13 #[(Value.slice p len cap)] w0 fun e w' => e = .returned (.bool (twins ls)) ∧ Ext w0 w' := by
  refine c_enter (n := 27) (args := [(Value.slice p len cap)]) Tryz.func13 rfl rfl (Nat.le_of_ble_eq_true rfl) rfl (fun a hT => ?_)
  simp only [List.zipIdx_cons, List.zipIdx_nil, List.map_cons, List.map_nil, Nat.reduceAdd] at hT
  have hL := Vg.Loc.refl [] w0
  have hlen : ls.length = len := hsl.1
  refine c_seq ?_
  refine c_region ?_
  refine l_q hT (q_assign hT rfl) rfl rfl (by decide) ?_; clear hT; intro a hT
  refine l_end ?_
  refine then_norm ?_
  refine c_seq ?_
  refine c_seq ?_
  refine c_region ?_
  refine l_q hT (q_assign hT rfl) rfl rfl (by decide) ?_; clear hT; intro a hT
  refine l_end ?_
  refine then_norm ?_
  refine wp_block ?_
  refine c_loop (fun mz a wz => ∃ t : Nat, mz = len - t ∧ t ≤ len ∧ (∀ i, i < t → ∀ k, k < i → (ls.getD i noLeaf).p ≠ (ls.getD k noLeaf).p) ∧ Tm 27 a [(0, (Value.slice p len cap)), (2, (Value.bool false)), (3, (vI (t : Int)))] ∧ Vg.Loc [] w0 wz []) id len ?_ ?_
  · exact ⟨0, rfl, by omega, fun i h => by omega, hT.keep [0, 2, 3] rfl, hL⟩
  clear hT hL
  rintro mz a w1 ⟨t, rfl, ht, hne, hT, hL⟩
  refine c_seq ?_
  refine c_seq ?_
  refine c_region ?_
  refine l_q hT (q_move hT rfl) rfl rfl (by decide) ?_; clear hT; intro a hT
  refine l_q hT (q_move hT rfl) rfl rfl (by decide) ?_; clear hT; intro a hT
  refine l_q hT (q_len_slice hT rfl Tryz.underlying22) rfl rfl (by decide) ?_; clear hT; intro a hT
  refine l_q hT (q_lss hT rfl rfl) rfl rfl (by decide) ?_; clear hT; intro a hT
  refine l_end ?_
  refine then_norm ?_
  refine c_if hT rfl (fun hc1 => ?_) (fun hc1 => ?_)
  · skip
    have hc1 := of_decide_eq_true hc1
    refine wp_skip ?_
    refine then_norm ?_
    refine c_seq ?_
    refine wp_block ?_
    refine c_seq ?_
    refine c_region ?_
    refine l_q hT (q_assign hT rfl) rfl rfl (by decide) ?_; clear hT; intro a hT
    refine l_end ?_
    refine then_norm ?_
    refine wp_block ?_
    refine c_loop (fun mz a wz => ∃ s : Nat, mz = t - s ∧ s ≤ t ∧ (∀ k, k < s → (ls.getD t noLeaf).p ≠ (ls.getD k noLeaf).p) ∧ Tm 27 a [(0, (Value.slice p len cap)), (2, (Value.bool false)), (3, (vI (t : Int))), (4, (vI (s : Int)))] ∧ Vg.Loc [] w0 wz []) id t ?_ ?_
    · exact ⟨0, rfl, by omega, fun i h => by omega, hT.keep [0, 2, 3, 4] rfl, hL⟩
    clear hT hL
    rintro mz a w2 ⟨s, rfl, hs, hnk, hT, hL⟩
    refine c_seq ?_
    refine c_seq ?_
    refine c_region ?_
    refine l_q hT (q_move hT rfl) rfl rfl (by decide) ?_; clear hT; intro a hT
    refine l_q hT (q_move hT rfl) rfl rfl (by decide) ?_; clear hT; intro a hT
    refine l_q hT (q_lss hT rfl rfl) rfl rfl (by decide) ?_; clear hT; intro a hT
    refine l_end ?_
    refine then_norm ?_
    refine c_if hT rfl (fun hc2 => ?_) (fun hc2 => ?_)
    · skip
      have hc2 := of_decide_eq_true hc2
      refine wp_skip ?_
      refine then_norm ?_
      refine c_seq ?_
      refine wp_block ?_
      refine c_seq ?_
      refine d_start' hL #[false, false, false, false, false, false, false, false, false, false, false] [] rfl rfl rfl ?_; clear hL; intro w3 hL hE; have hR := hL; have hS := Ext.refl w3
      refine d_pure (i := 0) hT #[true, false, false, false, false, false, false, false, false, false, false] rfl (by kernel_rfl) rfl rfl (by decide) (fun _ _ _ h => h) (fun _ => q_move hT rfl) ?_; clear hT; intro a hT
      refine d_pure (i := 1) hT #[true, true, false, false, false, false, false, false, false, false, false] rfl (by kernel_rfl) rfl rfl (by decide) (fun _ _ _ h => h) (fun _ => q_move hT rfl) ?_; clear hT; intro a hT
      obtain ⟨sb1, so1, hp1, hrd1⟩ := (hsl).2 (by omega)
      refine d_pure (i := 2) hT #[true, true, true, false, false, false, false, false, false, false, false] rfl (by kernel_rfl) rfl rfl (by decide) (fun _ _ _ h => h) (fun _ => q_indexAddr (b := sb1) (off := so1) (len := len) (cap := cap) hT (by rw [← hp1]; rfl) rfl Tryz.sli22 (by omega) (by omega)) ?_; clear hT; intro a hT
      refine d_pure (i := 3) hT #[true, true, true, true, false, false, false, false, false, false, false] rfl (by kernel_rfl) rfl rfl (by decide) (fun _ _ _ h => h) (fun _ => q_fieldAddr hT rfl Tryz.fld85_0 rfl) ?_; clear hT; intro a hT
      refine d_pure (i := 5) hT #[true, true, true, true, false, true, false, false, false, false, false] rfl (by kernel_rfl) rfl rfl (by decide) (fun _ _ _ h => h) (fun _ => q_move hT rfl) ?_; clear hT; intro a hT
      refine d_pure (i := 6) hT #[true, true, true, true, false, true, true, false, false, false, false] rfl (by kernel_rfl) rfl rfl (by decide) (fun _ _ _ h => h) (fun _ => q_move hT rfl) ?_; clear hT; intro a hT
      obtain ⟨sb2, so2, hp2, hrd2⟩ := (hsl).2 (by omega)
      refine d_pure (i := 7) hT #[true, true, true, true, false, true, true, true, false, false, false] rfl (by kernel_rfl) rfl rfl (by decide) (fun _ _ _ h => h) (fun _ => q_indexAddr (b := sb2) (off := so2) (len := len) (cap := cap) hT (by rw [← hp2]; rfl) rfl Tryz.sli22 (by omega) (by omega)) ?_; clear hT; intro a hT
      refine d_pure (i := 8) hT #[true, true, true, true, false, true, true, true, true, false, false] rfl (by kernel_rfl) rfl rfl (by decide) (fun _ _ _ h => h) (fun _ => q_fieldAddr hT rfl Tryz.fld85_0 rfl) ?_; clear hT; intro a hT
      refine d_take (i := 4) hT #[true, true, true, true, true, true, true, true, true, false, false] rfl (by kernel_rfl) rfl rfl (by decide) (fun _ _ _ h => h) (fun _ hs => q_load_agg hT rfl Tryz.ty24 (Rd.ext ((Rd.loc (hrd1 t (by omega)) hR (by simp)).part 0 (ds := digC ((ls.getD t noLeaf).p)) rfl) hs) rfl) hS ?_; clear hT; intro a hT
      refine d_take (i := 9) hT #[true, true, true, true, true, true, true, true, true, true, false] rfl (by kernel_rfl) rfl rfl (by decide) (fun _ _ _ h => h) (fun _ hs => q_load_agg hT rfl Tryz.ty24 (Rd.ext ((Rd.loc (hrd2 s (by omega)) hR (by simp)).part 0 (ds := digC ((ls.getD s noLeaf).p)) rfl) hs) rfl) hS ?_; clear hT; intro a hT
      refine d_pure (i := 10) hT #[true, true, true, true, true, true, true, true, true, true, true] rfl (by kernel_rfl) rfl rfl (by decide) (fun _ _ _ h => h) (fun _ => q_eq_agg hT rfl rfl Tryz.eqg24 (EqR.dig Tryz.arr24 Tryz.underlying5 ((ls.getD t noLeaf).p) ((ls.getD s noLeaf).p)) (by decide)) ?_; clear hT; intro a hT
      refine d_done (by kernel_rfl) ?_; clear hR hS
      refine then_norm ?_
      refine c_if hT rfl (fun hc3 => ?_) (fun hc3 => ?_)
      · skip
        have hc3 := of_decide_eq_true hc3
        refine c_seq ?_
        refine c_region ?_
        refine l_q hT (q_assign hT rfl) rfl rfl (by decide) ?_; clear hT; intro a hT
        refine l_end ?_
        refine then_norm ?_
        refine wp_ret ?_
        refine blk_ret ?_
        refine then_ret ?_
        refine then_ret ?_
        refine blk_ret ?_
        refine blk_ret ?_
        refine then_ret ?_
        refine then_ret ?_
        refine blk_ret ?_
        refine then_ret ?_
        refine c_ret (vs := [(Value.bool true)]) (rs := [.tmp 2]) hT rfl (.tmp rfl .nil) ?_
        refine ⟨?_, hL.drop⟩; rw [twins_yes (i := t) (k := s) (by omega) (by omega) (by assumption)]; rfl
      · skip
        have hc3 := of_decide_eq_false hc3
        refine wp_skip ?_
        refine blk_norm ?_
        refine then_norm ?_
        refine c_region ?_
        refine l_q hT (q_move hT rfl) rfl rfl (by decide) ?_; clear hT; intro a hT
        refine l_q hT (q_addI hT rfl rfl (r := (s : Int) + 1) rfl (by omega) (by omega)) rfl rfl (by decide) ?_; clear hT; intro a hT
        refine l_q hT (q_assign hT rfl) rfl rfl (by decide) ?_; clear hT; intro a hT
        refine l_end ?_
        refine then_norm ?_
        have hnk2 : ∀ k, k < s + 1 → (ls.getD t noLeaf).p ≠ (ls.getD k noLeaf).p := by
          intro k h1
          rcases Nat.lt_or_ge k s with q | q
          · exact hnk k q
          · obtain rfl : k = s := by omega
            assumption
        exact ⟨_, ⟨s + 1, rfl, by omega, hnk2, hT.keep [0, 2, 3, 4] rfl, hL⟩, by simp only [id]; omega⟩
    · skip
      have hc2 := of_decide_eq_false hc2
      refine wp_exit ?_
      refine then_exit ?_
      refine then_exit ?_
      refine blk_exit ?_
      refine blk_norm ?_
      refine then_norm ?_
      refine c_region ?_
      refine l_q hT (q_move hT rfl) rfl rfl (by decide) ?_; clear hT; intro a hT
      refine l_q hT (q_addI hT rfl rfl (r := (t : Int) + 1) rfl (by omega) (by omega)) rfl rfl (by decide) ?_; clear hT; intro a hT
      refine l_q hT (q_assign hT rfl) rfl rfl (by decide) ?_; clear hT; intro a hT
      refine l_end ?_
      refine then_norm ?_
      have hne2 : ∀ i, i < t + 1 → ∀ k, k < i → (ls.getD i noLeaf).p ≠ (ls.getD k noLeaf).p := by
        intro i h1 k h2
        rcases Nat.lt_or_ge i t with q | q
        · exact hne i q k h2
        · obtain rfl : i = t := by omega
          exact hnk k (by omega)
      exact ⟨_, ⟨t + 1, rfl, by omega, hne2, hT.keep [0, 2, 3] rfl, hL⟩, by simp only [id]; omega⟩
  · skip
    have hc1 := of_decide_eq_false hc1
    refine wp_exit ?_
    refine then_exit ?_
    refine then_exit ?_
    refine blk_exit ?_
    refine then_norm ?_
    refine c_seq ?_
    refine c_region ?_
    refine l_q hT (q_assign hT rfl) rfl rfl (by decide) ?_; clear hT; intro a hT
    refine l_end ?_
    refine then_norm ?_
    refine wp_ret ?_
    refine c_ret (vs := [(Value.bool false)]) (rs := [.tmp 2]) hT rfl (.tmp rfl .nil) ?_
    refine ⟨?_, hL.drop⟩; rw [twins_no (fun i hi => hne i (by omega))]; rfl
end Go.Proofs.YtcaffacganffjaaGreatDoor
end
