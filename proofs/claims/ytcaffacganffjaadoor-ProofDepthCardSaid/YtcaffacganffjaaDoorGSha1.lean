/- The walks of a part of the program: GSha1. Printed by a program of the prover. -/
import Derived.Test.YtcaffacganffjaaDoorVDig
import Derived.Test.YtcaffacganffjaaDoorVTypes
import Derived.Test.YtcaffacganffjaaDoorVSha
namespace Go.Proofs.YtcaffacganffjaaDoor
open Go Go.Vg


set_option maxRecDepth 20000 in
set_option maxHeartbeats 1000000 in
theorem rotl_spec (x : UInt32) (k : Int) (s : Nat) (hk : k = (s : Int) - 32) (h0 : 0 < s) (h1 : s < 32) (w0 : World) :
    Calls Tryd.prog 61 #[(v32 x), (vI k)] w0 fun e w' => e = .returned (v32 (rotl x s)) ∧ Ext w0 w' := by
  have hand : s = (18446744073709551584 + s) &&& 31 := by
    rw [show (31 : Nat) = 2 ^ 5 - 1 from rfl, Nat.and_two_pow_sub_one_eq_mod]; omega
  refine c_enter (n := 17) (args := [(v32 x), (vI k)]) Tryd.func61 rfl rfl (Nat.le_of_ble_eq_true rfl) rfl (fun a hT => ?_)
  simp only [List.zipIdx_cons, List.zipIdx_nil, List.map_cons, List.map_nil, Nat.reduceAdd] at hT
  have hL := Vg.Loc.refl [] w0
  refine c_seq ?_
  refine c_region ?_
  refine l_q hT (q_assign hT rfl) rfl rfl (by decide) ?_; clear hT; intro a hT
  refine l_end ?_
  refine then_norm ?_
  refine c_seq ?_
  refine c_region ?_
  refine l_q hT (q_move hT rfl) rfl rfl (by decide) ?_; clear hT; intro a hT
  refine l_q hT ((q_conv_int hT rfl Tryd.underlying3 Tryd.underlying115).v (v := .int .u64 ((18446744073709551584 + s : Nat) : Int)) (by rw [wrap_u64]; congr 1; omega)) rfl rfl (by decide) ?_; clear hT; intro a hT
  refine l_q hT ((q_bits (u := 18446744073709551584 + s) (v := 31) hT rfl rfl rfl (by simp only [IntKind.bits]; omega) (by decide) (.inl ⟨rfl, hand⟩))) rfl rfl (by decide) ?_; clear hT; intro a hT
  refine l_q hT (q_assign hT rfl) rfl rfl (by decide) ?_; clear hT; intro a hT
  refine l_end ?_
  refine then_norm ?_
  refine c_seq ?_
  refine c_region ?_
  refine l_q hT (q_move hT rfl) rfl rfl (by decide) ?_; clear hT; intro a hT
  refine l_q hT (q_move hT rfl) rfl rfl (by decide) ?_; clear hT; intro a hT
  refine l_q hT (q_shl32 (u := x) (s := s) hT rfl rfl (by omega)) rfl rfl (by decide) ?_; clear hT; intro a hT
  refine l_q hT (q_move hT rfl) rfl rfl (by decide) ?_; clear hT; intro a hT
  refine l_q hT (q_move hT rfl) rfl rfl (by decide) ?_; clear hT; intro a hT
  refine l_q hT ((q_sub hT rfl rfl).v (v := .int .u64 ((32 - s : Nat) : Int)) (by rw [wrap_u64]; congr 1; omega)) rfl rfl (by decide) ?_; clear hT; intro a hT
  refine l_q hT (q_shr32 (u := x) (s := 32 - s) hT rfl rfl (by omega)) rfl rfl (by decide) ?_; clear hT; intro a hT
  refine l_q hT (q_or32 (u := shl32 x s) (v := shr32 x (32 - s)) hT rfl rfl) rfl rfl (by decide) ?_; clear hT; intro a hT
  refine l_q hT (q_assign hT rfl) rfl rfl (by decide) ?_; clear hT; intro a hT
  refine l_end ?_
  refine then_norm ?_
  refine wp_ret ?_
  refine c_ret (vs := [(v32 ((shl32 x s) ||| (shr32 x (32 - s))))]) (rs := [.tmp 4]) hT rfl (.tmp rfl .nil) ?_
  exact ⟨rfl, hL.drop⟩

set_option maxRecDepth 20000 in
set_option maxHeartbeats 1000000 in
theorem New_spec  (w0 : World) :
    Calls Tryd.prog 38 #[] w0 fun e w' => ∃ b, e = .returned (vp b 0) ∧ Vg.Loc [] w0 w' [[(b, ob (arr32 8 ivF ++ (arr8 64 (fun _ => 0) ++ ([(vI 0)]))) 110)]] := by
  refine c_enter (n := 4) (args := []) Tryd.func38 rfl rfl (Nat.le_of_ble_eq_true rfl) rfl (fun a hT => ?_)
  simp only [List.zipIdx_cons, List.zipIdx_nil, List.map_cons, List.map_nil, Nat.reduceAdd] at hT
  have hL := Vg.Loc.refl [] w0
  refine c_seq ?_
  refine c_region ?_
  refine l_q hT (q_assign hT rfl) rfl rfl (by decide) ?_; clear hT; intro a hT
  refine l_end ?_
  refine then_norm ?_
  refine c_seq ?_
  refine c_region ?_
  refine l_q hT (q_build (ps := [(0, .const (.int .u32 1779033703)), (1, .const (.int .u32 3144134277)), (2, .const (.int .u32 1013904242)), (3, .const (.int .u32 2773480762)), (4, .const (.int .u32 1359893119)), (5, .const (.int .u32 2600822924)), (6, .const (.int .u32 528734635)), (7, .const (.int .u32 1541459225))]) (pv := [(0, (v32 1779033703)), (1, (v32 3144134277)), (2, (v32 1013904242)), (3, (v32 2773480762)), (4, (v32 1359893119)), (5, (v32 2600822924)), (6, (v32 528734635)), (7, (v32 1541459225))]) (v := .agg [(v32 1779033703), (v32 3144134277), (v32 1013904242), (v32 2773480762), (v32 1359893119), (v32 2600822924), (v32 528734635), (v32 1541459225)].toArray) hT rfl (fun _ => by kernel_rfl)) rfl rfl (by decide) ?_; clear hT; intro a hT
  refine l_q hT (q_build (ps := [(0, .tmp 1)]) (pv := [(0, (Value.agg [(v32 1779033703), (v32 3144134277), (v32 1013904242), (v32 2773480762), (v32 1359893119), (v32 2600822924), (v32 528734635), (v32 1541459225)].toArray))]) (v := .agg ([(v32 1779033703), (v32 3144134277), (v32 1013904242), (v32 2773480762), (v32 1359893119), (v32 2600822924), (v32 528734635), (v32 1541459225)] ++ (arr8 64 (fun _ => 0) ++ ([(vI 0)]))).toArray) hT rfl (fun _ => by kernel_rfl)) rfl rfl (by decide) ?_; clear hT; intro a hT
  refine l_do rfl ?_
  refine w_box hT hL (by decide) rfl (c := [(v32 1779033703), (v32 3144134277), (v32 1013904242), (v32 2773480762), (v32 1359893119), (v32 2600822924), (v32 528734635), (v32 1541459225)] ++ (arr8 64 (fun _ => 0) ++ ([(vI 0)]))) rfl ?_; clear hT hL; intro b1 a w1 hT hL hE hB
  refine l_q hT (q_assign hT rfl) rfl rfl (by decide) ?_; clear hT; intro a hT
  refine l_end ?_
  refine then_norm ?_
  refine wp_ret ?_
  refine c_ret (vs := [(vp b1 0)]) (rs := [.tmp 0]) hT rfl (.tmp rfl .nil) ?_
  exact ⟨_, rfl, hL⟩
end Go.Proofs.YtcaffacganffjaaDoor
