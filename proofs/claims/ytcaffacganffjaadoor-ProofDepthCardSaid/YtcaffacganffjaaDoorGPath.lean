/- The walks of a part of the program: GPath. Printed by a program of the prover. -/
import Derived.Test.YtcaffacganffjaaDoorVDig
import Derived.Test.YtcaffacganffjaaDoorVTypes
namespace Go.Proofs.YtcaffacganffjaaDoor
open Go Go.Vg


set_option maxRecDepth 20000 in
set_option maxHeartbeats 1000000 in
theorem mask_spec (i : Nat) (hi : i < 1000000) (w0 : World) :
    Calls Tryd.prog 37 #[(vI (i : Int))] w0 fun e w' => e = .returned (v8 (UInt8.ofNat (2 ^ (7 - i % 8)))) ∧ Ext w0 w' := by
  refine c_enter (n := 7) (args := [(vI (i : Int))]) Tryd.func37 rfl rfl (Nat.le_of_ble_eq_true rfl) rfl (fun a hT => ?_)
  simp only [List.zipIdx_cons, List.zipIdx_nil, List.map_cons, List.map_nil, Nat.reduceAdd] at hT
  have hL := Vg.Loc.refl [] w0
  have hm : (7 : Int) - (i : Int) % 8 = ((7 - i % 8 : Nat) : Int) := by omega
  refine c_seq ?_
  refine c_region ?_
  refine l_q hT (q_assign hT rfl) rfl rfl (by decide) ?_; clear hT; intro a hT
  refine l_end ?_
  refine then_norm ?_
  refine c_seq ?_
  refine c_region ?_
  refine l_q hT (q_move hT rfl) rfl rfl (by decide) ?_; clear hT; intro a hT
  refine l_q hT (q_remI hT rfl rfl (by omega) (by omega)) rfl rfl (by decide) ?_; clear hT; intro a hT
  refine l_q hT ((q_subI hT rfl rfl (r := 7 - ((i : Int) % 8)) rfl (by omega) (by omega)).v (v := (vI ((7 - i % 8 : Nat) : Int))) (by rw [hm])) rfl rfl (by decide) ?_; clear hT; intro a hT
  refine l_q hT (q_shl8 (u := 1) (s := (7 - i % 8 : Nat)) hT rfl rfl (by omega)) rfl rfl (by decide) ?_; clear hT; intro a hT
  refine l_q hT (q_assign hT rfl) rfl rfl (by decide) ?_; clear hT; intro a hT
  refine l_end ?_
  refine then_norm ?_
  refine wp_ret ?_
  refine c_ret (vs := [(v8 (shl8 1 (7 - i % 8 : Nat)))]) (rs := [.tmp 2]) hT rfl (.tmp rfl .nil) ?_
  exact ⟨by simp [packed, shl8, Nat.shiftLeft_eq], hL.drop⟩

set_option maxRecDepth 20000 in
set_option maxHeartbeats 1000000 in
theorem Bit_spec (p : Dig) (i : Nat) (hi : i < 256) (w0 : World) :
    Calls Tryd.prog 23 #[(Value.agg (digC p).toArray), (vI (i : Int))] w0 fun e w' => e = .returned (.tuple #[vI (if p.bit i then 1 else 0), vI 0]) ∧ Ext w0 w' := by
  refine c_enter (n := 20) (args := [(Value.agg (digC p).toArray), (vI (i : Int))]) Tryd.func23 rfl rfl (Nat.le_of_ble_eq_true rfl) rfl (fun a hT => ?_)
  simp only [List.zipIdx_cons, List.zipIdx_nil, List.map_cons, List.map_nil, Nat.reduceAdd] at hT
  have hL := Vg.Loc.refl [] w0
  have hb := bit_and (p.get (i / 8)) (7 - i % 8) (by omega)
  refine c_seq ?_
  refine c_region ?_
  refine l_do rfl ?_
  refine w_box hT hL (by decide) rfl (c := digC p) rfl ?_; clear hT hL; intro b1 a w1 hT hL hE hB
  refine l_q hT (q_assign hT rfl) rfl rfl (by decide) ?_; clear hT; intro a hT
  refine l_q hT (q_assign hT rfl) rfl rfl (by decide) ?_; clear hT; intro a hT
  refine l_end ?_
  refine then_norm ?_
  refine c_seq ?_
  refine c_seq ?_
  refine c_region ?_
  refine l_q hT (q_move hT rfl) rfl rfl (by decide) ?_; clear hT; intro a hT
  refine l_q hT ((q_lss hT rfl rfl).b (c := decide ((i : Int) < 0)) (b := false) (decide_eq_false (by omega))) rfl rfl (by decide) ?_; clear hT; intro a hT
  refine l_q hT (q_move hT rfl) rfl rfl (by decide) ?_; clear hT; intro a hT
  refine l_on hT rfl rfl rfl rfl (w_q hT (q_move hT rfl) rfl (by decide) ?_); clear hT; intro a hT
  refine l_on hT rfl rfl rfl rfl (w_q hT ((q_geq hT rfl rfl).b (c := decide (256 ≤ (i : Int))) (b := false) (decide_eq_false (by omega))) rfl (by decide) ?_); clear hT; intro a hT
  refine l_q hT ((q_pick hT rfl rfl rfl).v (v := (Value.bool false)) rfl) rfl rfl (by decide) ?_; clear hT; intro a hT
  refine l_end ?_
  refine then_norm ?_
  refine c_false hT rfl rfl ?_
  refine wp_skip ?_
  refine then_norm ?_
  refine c_seq ?_
  refine c_seq ?_
  refine d_start' hL #[false, false, false, false, false, false, false, false] [] rfl rfl rfl ?_; clear hL; intro w2 hL hE; have hR := hL; have hS := Ext.refl w2
  refine d_pure (i := 0) hT #[true, false, false, false, false, false, false, false] rfl (by kernel_rfl) rfl rfl (by decide) (fun _ _ _ h => h) (fun _ => q_move hT rfl) ?_; clear hT; intro a hT
  refine d_pure (i := 1) hT #[true, true, false, false, false, false, false, false] rfl (by kernel_rfl) rfl rfl (by decide) (fun _ _ _ h => h) (fun _ => (q_quoI hT rfl rfl (by omega) (by omega) (by omega)).v (v := (vI ((i / 8 : Nat) : Int))) (by simp)) ?_; clear hT; intro a hT
  refine d_pure (i := 2) hT #[true, true, true, false, false, false, false, false] rfl (by kernel_rfl) rfl rfl (by decide) (fun _ _ _ h => h) (fun _ => (q_indexAddr_arr hT rfl rfl Tryd.arr24 (by omega) (by omega)).v (v := vp b1 (0 + (i / 8 : Nat))) (by simp)) ?_; clear hT; intro a hT
  refine d_pure (i := 4) hT #[true, true, true, false, true, false, false, false] rfl (by kernel_rfl) rfl rfl (by decide) (fun _ _ _ h => h) (fun _ => q_move hT rfl) ?_; clear hT; intro a hT
  refine d_take (i := 3) hT #[true, true, true, true, true, false, false, false] rfl (by kernel_rfl) rfl rfl (by decide) (fun _ _ _ h => h) (fun _ hs => q_load hT rfl Tryd.ty5 (Rd.ext ((hR.rd 0 rfl 0 (ds := digC p) rfl).dig (i := (i / 8 : Nat)) (by omega)) hs)) hS ?_; clear hT; intro a hT
  refine d_one (i := 5) hT #[true, true, true, true, true, true, false, false] rfl (by kernel_rfl) rfl ?_
  refine w_callT (xs := [.tmp 16]) hT rfl (vs := [(vI (i : Int))]) rfl (args := #[(vI (i : Int))]) rfl Tryd.func37 rfl rfl (by decide) ((mask_spec i (by omega) _).mono ?_)
  rintro e w3 ⟨rfl, hX⟩
  refine ⟨_, rfl, ?_⟩; clear hT; intro a hT; replace hT : Tm 20 a ((17, (v8 (UInt8.ofNat (2 ^ (7 - i % 8))))) :: _) := hT
  replace hL := hL.ext hX
  replace hS := Vg.Loc.ext hS hX; refine ⟨fun _ => hS, ?_⟩
  refine d_pure (i := 6) hT #[true, true, true, true, true, true, true, false] rfl (by kernel_rfl) rfl rfl (by decide) (fun _ _ _ h => h) (fun _ => q_and8 (u := p.get (i / 8 : Nat)) (v := UInt8.ofNat (2 ^ (7 - i % 8))) hT rfl rfl) ?_; clear hT; intro a hT
  refine d_pure (i := 7) hT #[true, true, true, true, true, true, true, true] rfl (by kernel_rfl) rfl rfl (by decide) (fun _ _ _ h => h) (fun _ => q_ne8 (u := (p.get (i / 8 : Nat)) &&& (UInt8.ofNat (2 ^ (7 - i % 8)))) (v := 0) hT rfl rfl) ?_; clear hT; intro a hT
  refine d_done (by kernel_rfl) ?_; clear hR hS
  refine then_norm ?_
  refine c_if hT rfl (fun hc1 => ?_) (fun hc1 => ?_)
  · skip
    have hc1 := of_decide_eq_true hc1
    refine c_seq ?_
    refine c_region ?_
    refine l_q hT (q_assign hT rfl) rfl rfl (by decide) ?_; clear hT; intro a hT
    refine l_q hT (q_assign hT rfl) rfl rfl (by decide) ?_; clear hT; intro a hT
    refine l_end ?_
    refine then_norm ?_
    refine wp_ret ?_
    refine then_ret ?_
    refine c_ret (vs := [(vI 1), (vI 0)]) (rs := [.tmp 4, .tmp 5]) hT rfl (.tmp rfl (.tmp rfl .nil)) ?_
    have hq : p.bit i = true := by unfold Dig.bit; rw [← hb]; simpa using hc1
    exact ⟨by simp [packed, hq], hL.drop⟩
  · skip
    have hc1 := of_decide_eq_false hc1
    refine wp_skip ?_
    refine then_norm ?_
    refine c_seq ?_
    refine c_region ?_
    refine l_q hT (q_assign hT rfl) rfl rfl (by decide) ?_; clear hT; intro a hT
    refine l_q hT (q_assign hT rfl) rfl rfl (by decide) ?_; clear hT; intro a hT
    refine l_end ?_
    refine then_norm ?_
    refine wp_ret ?_
    refine c_ret (vs := [(vI 0), (vI 0)]) (rs := [.tmp 4, .tmp 5]) hT rfl (.tmp rfl (.tmp rfl .nil)) ?_
    have hq : p.bit i = false := by unfold Dig.bit; rw [← hb]; simpa using hc1
    exact ⟨by simp [packed, hq], hL.drop⟩

set_option maxRecDepth 20000 in
set_option maxHeartbeats 1000000 in
theorem sright_spec (p : Dig) (i : Nat) (hi : i < 256) (w0 : World) :
    Calls Tryd.prog 46 #[(Value.agg (digC p).toArray), (vI (i : Int))] w0 fun e w' => e = .returned (.bool (p.bit i)) ∧ Ext w0 w' := by
  refine c_enter (n := 15) (args := [(Value.agg (digC p).toArray), (vI (i : Int))]) Tryd.func46 rfl rfl (Nat.le_of_ble_eq_true rfl) rfl (fun a hT => ?_)
  simp only [List.zipIdx_cons, List.zipIdx_nil, List.map_cons, List.map_nil, Nat.reduceAdd] at hT
  have hL := Vg.Loc.refl [] w0
  refine c_seq ?_
  refine c_region ?_
  refine l_do rfl ?_
  refine w_box hT hL (by decide) rfl (c := digC p) rfl ?_; clear hT hL; intro b1 a w1 hT hL hE hB
  refine l_q hT (q_assign hT rfl) rfl rfl (by decide) ?_; clear hT; intro a hT
  refine l_end ?_
  refine then_norm ?_
  refine c_seq ?_
  refine c_region ?_
  refine l_q hT (q_load_agg hT rfl Tryd.ty24 (hL.rd 0 rfl 0 (ds := digC p) rfl) rfl) rfl rfl (by decide) ?_; clear hT; intro a hT
  refine l_q hT (q_move hT rfl) rfl rfl (by decide) ?_; clear hT; intro a hT
  refine l_do rfl ?_
  refine w_callT (xs := [.tmp 8, .tmp 9]) hT rfl (vs := [(Value.agg (digC p).toArray), (vI (i : Int))]) rfl (args := #[(Value.agg (digC p).toArray), (vI (i : Int))]) rfl Tryd.func23 rfl rfl (by decide) ((Bit_spec p i (by omega) _).mono ?_)
  rintro e w2 ⟨rfl, hX⟩
  refine ⟨_, rfl, ?_⟩; clear hT; intro a hT; replace hT : Tm 15 a ((10, (Value.tuple #[(vI (if p.bit i then 1 else 0)), (vI 0)])) :: _) := hT
  replace hL := hL.ext hX
  refine l_q hT (q_move hT rfl) rfl rfl (by decide) ?_; clear hT; intro a hT
  refine l_q hT (q_extract hT rfl rfl) rfl rfl (by decide) ?_; clear hT; intro a hT
  refine l_q hT (q_extract hT rfl rfl) rfl rfl (by decide) ?_; clear hT; intro a hT
  refine l_q hT (q_assign hT rfl) rfl rfl (by decide) ?_; clear hT; intro a hT
  refine l_q hT (q_assign hT rfl) rfl rfl (by decide) ?_; clear hT; intro a hT
  refine l_end ?_
  refine then_norm ?_
  refine c_seq ?_
  refine c_region ?_
  refine l_q hT (q_move hT rfl) rfl rfl (by decide) ?_; clear hT; intro a hT
  refine l_q hT (q_eql hT rfl rfl) rfl rfl (by decide) ?_; clear hT; intro a hT
  refine l_q hT (q_assign hT rfl) rfl rfl (by decide) ?_; clear hT; intro a hT
  refine l_end ?_
  refine then_norm ?_
  refine wp_ret ?_
  refine c_ret (vs := [(Value.bool (decide ((if p.bit i then 1 else 0) = 1)))]) (rs := [.tmp 4]) hT rfl (.tmp rfl .nil) ?_
  exact ⟨by cases p.bit i <;> simp [packed], hL.drop⟩

set_option maxRecDepth 20000 in
set_option maxHeartbeats 1000000 in
theorem pright_spec (p : Dig) (i : Nat) (hi : i < 256) (w0 : World) :
    Calls Tryd.prog 12 #[(Value.agg (digC p).toArray), (vI (i : Int))] w0 fun e w' => e = .returned (.bool (p.bit i)) ∧ Ext w0 w' := by
  refine c_enter (n := 15) (args := [(Value.agg (digC p).toArray), (vI (i : Int))]) Tryd.func12 rfl rfl (Nat.le_of_ble_eq_true rfl) rfl (fun a hT => ?_)
  simp only [List.zipIdx_cons, List.zipIdx_nil, List.map_cons, List.map_nil, Nat.reduceAdd] at hT
  have hL := Vg.Loc.refl [] w0
  refine c_seq ?_
  refine c_region ?_
  refine l_do rfl ?_
  refine w_box hT hL (by decide) rfl (c := digC p) rfl ?_; clear hT hL; intro b1 a w1 hT hL hE hB
  refine l_q hT (q_assign hT rfl) rfl rfl (by decide) ?_; clear hT; intro a hT
  refine l_end ?_
  refine then_norm ?_
  refine c_seq ?_
  refine c_region ?_
  refine l_q hT (q_load_agg hT rfl Tryd.ty24 (hL.rd 0 rfl 0 (ds := digC p) rfl) rfl) rfl rfl (by decide) ?_; clear hT; intro a hT
  refine l_q hT (q_move hT rfl) rfl rfl (by decide) ?_; clear hT; intro a hT
  refine l_do rfl ?_
  refine w_callT (xs := [.tmp 8, .tmp 9]) hT rfl (vs := [(Value.agg (digC p).toArray), (vI (i : Int))]) rfl (args := #[(Value.agg (digC p).toArray), (vI (i : Int))]) rfl Tryd.func23 rfl rfl (by decide) ((Bit_spec p i (by omega) _).mono ?_)
  rintro e w2 ⟨rfl, hX⟩
  refine ⟨_, rfl, ?_⟩; clear hT; intro a hT; replace hT : Tm 15 a ((10, (Value.tuple #[(vI (if p.bit i then 1 else 0)), (vI 0)])) :: _) := hT
  replace hL := hL.ext hX
  refine l_q hT (q_move hT rfl) rfl rfl (by decide) ?_; clear hT; intro a hT
  refine l_q hT (q_extract hT rfl rfl) rfl rfl (by decide) ?_; clear hT; intro a hT
  refine l_q hT (q_extract hT rfl rfl) rfl rfl (by decide) ?_; clear hT; intro a hT
  refine l_q hT (q_assign hT rfl) rfl rfl (by decide) ?_; clear hT; intro a hT
  refine l_q hT (q_assign hT rfl) rfl rfl (by decide) ?_; clear hT; intro a hT
  refine l_end ?_
  refine then_norm ?_
  refine c_seq ?_
  refine c_region ?_
  refine l_q hT (q_move hT rfl) rfl rfl (by decide) ?_; clear hT; intro a hT
  refine l_q hT (q_eql hT rfl rfl) rfl rfl (by decide) ?_; clear hT; intro a hT
  refine l_q hT (q_assign hT rfl) rfl rfl (by decide) ?_; clear hT; intro a hT
  refine l_end ?_
  refine then_norm ?_
  refine wp_ret ?_
  refine c_ret (vs := [(Value.bool (decide ((if p.bit i then 1 else 0) = 1)))]) (rs := [.tmp 4]) hT rfl (.tmp rfl .nil) ?_
  exact ⟨by cases p.bit i <;> simp [packed], hL.drop⟩
end Go.Proofs.YtcaffacganffjaaDoor
