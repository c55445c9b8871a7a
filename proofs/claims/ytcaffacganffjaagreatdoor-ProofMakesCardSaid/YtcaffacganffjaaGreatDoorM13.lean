/- The walks of a part of the program: GRef11. Printed by a program of the prover. The walks of a part of the program: GSha1. Printed by a program of the prover. The walks of a part of the program: GSha2. Printed by a program of the prover. -/
import Derived.Test.YtcaffacganffjaaGreatDoorM2
import Derived.Test.YtcaffacganffjaaGreatDoorM6
import Derived.Test.YtcaffacganffjaaGreatDoorM12
import Derived.Test.YtcaffacganffjaaGreatDoorM3

section
namespace Go.Proofs.YtcaffacganffjaaGreatDoor
open Go Go.Vg


set_option maxRecDepth 20000 in
set_option maxHeartbeats 1000000 in
theorem refSame_spec (sb : List Dig) (o : Bool) (x y : Dig) (p q : Option Addr) (n cp cq : Nat) (hn : n < 100000) (w0 : World) (hsp : SlT w0 p n 32 digC Dig.zero sb) (hsq : SlT w0 q n 32 digC Dig.zero sb) :
    Calls Tryz.prog 16 #[(Value.agg ([(Value.slice p n cp), (Value.bool o)] ++ (digC x ++ (digC y))).toArray), (Value.agg ([(Value.slice q n cq), (Value.bool o)] ++ (digC x ++ (digC y))).toArray)] w0 fun e w' => e = .returned (.bool true) ∧ Ext w0 w' := by
  refine c_enter (n := 52) (args := [(Value.agg ([(Value.slice p n cp), (Value.bool o)] ++ (digC x ++ (digC y))).toArray), (Value.agg ([(Value.slice q n cq), (Value.bool o)] ++ (digC x ++ (digC y))).toArray)]) Tryz.func16 rfl rfl (Nat.le_of_ble_eq_true rfl) rfl (fun a hT => ?_)
  simp only [List.zipIdx_cons, List.zipIdx_nil, List.map_cons, List.map_nil, Nat.reduceAdd] at hT
  have hL := Vg.Loc.refl [] w0
  refine c_seq ?_
  refine c_region ?_
  refine l_do rfl ?_
  refine w_box hT hL (by decide) rfl (c := [(Value.slice p n cp), (Value.bool o)] ++ (digC x ++ (digC y))) rfl ?_; clear hT hL; intro b1 a w1 hT hL hE hB
  refine l_do rfl ?_
  refine w_box hT hL (by decide) rfl (c := [(Value.slice q n cq), (Value.bool o)] ++ (digC x ++ (digC y))) rfl ?_; clear hT hL; intro b2 a w2 hT hL hE hB
  refine l_q hT (q_assign hT rfl) rfl rfl (by decide) ?_; clear hT; intro a hT
  refine l_end ?_
  refine then_norm ?_
  refine c_seq ?_
  refine c_seq ?_
  refine c_region ?_
  refine l_q hT (q_fieldAddr hT rfl Tryz.fld29_1 rfl) rfl rfl (by decide) ?_; clear hT; intro a hT
  refine l_q hT (q_load hT rfl Tryz.ty4 (hL.rd 1 rfl 1 (ds := [(Value.bool o)]) rfl)) rfl rfl (by decide) ?_; clear hT; intro a hT
  refine l_q hT (q_fieldAddr hT rfl Tryz.fld29_1 rfl) rfl rfl (by decide) ?_; clear hT; intro a hT
  refine l_q hT (q_load hT rfl Tryz.ty4 (hL.rd 0 rfl 1 (ds := [(Value.bool o)]) rfl)) rfl rfl (by decide) ?_; clear hT; intro a hT
  refine l_q hT ((q_ne_bool hT rfl rfl Tryz.underlying4).b (b := false) (by simp)) rfl rfl (by decide) ?_; clear hT; intro a hT
  refine l_q hT (q_move hT rfl) rfl rfl (by decide) ?_; clear hT; intro a hT
  refine l_on hT rfl rfl rfl rfl (w_q hT (q_fieldAddr hT rfl Tryz.fld29_2 rfl) rfl (by decide) ?_); clear hT; intro a hT
  refine l_on hT rfl rfl rfl rfl (w_q hT (q_load_agg hT rfl Tryz.ty24 (hL.rd 1 rfl 2 (ds := digC x) rfl) rfl) rfl (by decide) ?_); clear hT; intro a hT
  refine l_on hT rfl rfl rfl rfl (w_q hT (q_fieldAddr hT rfl Tryz.fld29_2 rfl) rfl (by decide) ?_); clear hT; intro a hT
  refine l_on hT rfl rfl rfl rfl (w_q hT (q_load_agg hT rfl Tryz.ty24 (hL.rd 0 rfl 2 (ds := digC x) rfl) rfl) rfl (by decide) ?_); clear hT; intro a hT
  refine l_on hT rfl rfl rfl rfl (w_q hT ((q_ne_agg hT rfl rfl Tryz.eqg24 (EqR.dig Tryz.arr24 Tryz.underlying5 x x) (by decide)).b (b := false) (by simp)) rfl (by decide) ?_); clear hT; intro a hT
  refine l_q hT ((q_pick hT rfl rfl rfl).v (v := (Value.bool false)) rfl) rfl rfl (by decide) ?_; clear hT; intro a hT
  refine l_q hT (q_move hT rfl) rfl rfl (by decide) ?_; clear hT; intro a hT
  refine l_on hT rfl rfl rfl rfl (w_q hT (q_fieldAddr hT rfl Tryz.fld29_3 rfl) rfl (by decide) ?_); clear hT; intro a hT
  refine l_on hT rfl rfl rfl rfl (w_q hT (q_load_agg hT rfl Tryz.ty24 (hL.rd 1 rfl 34 (ds := digC y) rfl) rfl) rfl (by decide) ?_); clear hT; intro a hT
  refine l_on hT rfl rfl rfl rfl (w_q hT (q_fieldAddr hT rfl Tryz.fld29_3 rfl) rfl (by decide) ?_); clear hT; intro a hT
  refine l_on hT rfl rfl rfl rfl (w_q hT (q_load_agg hT rfl Tryz.ty24 (hL.rd 0 rfl 34 (ds := digC y) rfl) rfl) rfl (by decide) ?_); clear hT; intro a hT
  refine l_on hT rfl rfl rfl rfl (w_q hT ((q_ne_agg hT rfl rfl Tryz.eqg24 (EqR.dig Tryz.arr24 Tryz.underlying5 y y) (by decide)).b (b := false) (by simp)) rfl (by decide) ?_); clear hT; intro a hT
  refine l_q hT ((q_pick hT rfl rfl rfl).v (v := (Value.bool false)) rfl) rfl rfl (by decide) ?_; clear hT; intro a hT
  refine l_q hT (q_move hT rfl) rfl rfl (by decide) ?_; clear hT; intro a hT
  refine l_on hT rfl rfl rfl rfl (w_q hT (q_fieldAddr hT rfl Tryz.fld29_0 rfl) rfl (by decide) ?_); clear hT; intro a hT
  refine l_on hT rfl rfl rfl rfl (w_q hT (q_load hT rfl Tryz.ty27 (hL.rd 1 rfl 0 (ds := [(Value.slice p n cp)]) rfl)) rfl (by decide) ?_); clear hT; intro a hT
  refine l_on hT rfl rfl rfl rfl (w_q hT (q_len_slice hT rfl Tryz.underlying27) rfl (by decide) ?_); clear hT; intro a hT
  refine l_on hT rfl rfl rfl rfl (w_q hT (q_fieldAddr hT rfl Tryz.fld29_0 rfl) rfl (by decide) ?_); clear hT; intro a hT
  refine l_on hT rfl rfl rfl rfl (w_q hT (q_load hT rfl Tryz.ty27 (hL.rd 0 rfl 0 (ds := [(Value.slice q n cq)]) rfl)) rfl (by decide) ?_); clear hT; intro a hT
  refine l_on hT rfl rfl rfl rfl (w_q hT (q_len_slice hT rfl Tryz.underlying27) rfl (by decide) ?_); clear hT; intro a hT
  refine l_on hT rfl rfl rfl rfl (w_q hT ((q_neq hT rfl rfl).b (c := decide ((n : Int) ≠ (n : Int))) (b := false) (by simp)) rfl (by decide) ?_); clear hT; intro a hT
  refine l_q hT ((q_pick hT rfl rfl rfl).v (v := (Value.bool false)) rfl) rfl rfl (by decide) ?_; clear hT; intro a hT
  refine l_end ?_
  refine then_norm ?_
  refine c_false hT rfl rfl ?_
  refine wp_skip ?_
  refine then_norm ?_
  refine c_seq ?_
  refine c_seq ?_
  refine c_region ?_
  refine l_q hT (q_assign hT rfl) rfl rfl (by decide) ?_; clear hT; intro a hT
  refine l_end ?_
  refine then_norm ?_
  refine wp_block ?_
  refine c_loop (fun mz a wz => ∃ t : Nat, mz = n - t ∧ t ≤ n ∧ Tm 52 a [(2, (vp b1 0)), (3, (vp b2 0)), (5, (vI (t : Int)))] ∧ Vg.Loc [] w0 wz [[(b2, ob ([(Value.slice q n cq), (Value.bool o)] ++ (digC x ++ (digC y))) 29)], [(b1, ob ([(Value.slice p n cp), (Value.bool o)] ++ (digC x ++ (digC y))) 29)]]) id (n - 0) ?_ ?_
  · exact ⟨0, rfl, by omega, hT.keep [2, 3, 5] rfl, hL⟩
  clear hT hL
  rintro mz a w3 ⟨t, rfl, ht, hT, hL⟩
  refine c_seq ?_
  refine c_seq ?_
  refine c_region ?_
  refine l_q hT (q_move hT rfl) rfl rfl (by decide) ?_; clear hT; intro a hT
  refine l_q hT (q_fieldAddr hT rfl Tryz.fld29_0 rfl) rfl rfl (by decide) ?_; clear hT; intro a hT
  refine l_q hT (q_load hT rfl Tryz.ty27 (hL.rd 1 rfl 0 (ds := [(Value.slice p n cp)]) rfl)) rfl rfl (by decide) ?_; clear hT; intro a hT
  refine l_q hT (q_len_slice hT rfl Tryz.underlying27) rfl rfl (by decide) ?_; clear hT; intro a hT
  refine l_q hT (q_lss hT rfl rfl) rfl rfl (by decide) ?_; clear hT; intro a hT
  refine l_end ?_
  refine then_norm ?_
  refine c_if hT rfl (fun hc1 => ?_) (fun hc1 => ?_)
  · skip
    have hc1 := of_decide_eq_true hc1
    refine wp_skip ?_
    refine then_norm ?_
    refine c_seq ?_
    refine wp_block ?_
    refine c_seq ?_
    refine d_start' hL #[false, false, false, false, false, false, false, false, false, false, false] [] rfl rfl rfl ?_; clear hL; intro w4 hL hE; have hR := hL; have hS := Ext.refl w4
    refine d_pure (i := 0) hT #[true, false, false, false, false, false, false, false, false, false, false] rfl (by kernel_rfl) rfl rfl (by decide) (fun _ _ _ h => h) (fun _ => q_fieldAddr hT rfl Tryz.fld29_0 rfl) ?_; clear hT; intro a hT
    refine d_pure (i := 2) hT #[true, false, true, false, false, false, false, false, false, false, false] rfl (by kernel_rfl) rfl rfl (by decide) (fun _ _ _ h => h) (fun _ => q_move hT rfl) ?_; clear hT; intro a hT
    refine d_pure (i := 5) hT #[true, false, true, false, false, true, false, false, false, false, false] rfl (by kernel_rfl) rfl rfl (by decide) (fun _ _ _ h => h) (fun _ => q_fieldAddr hT rfl Tryz.fld29_0 rfl) ?_; clear hT; intro a hT
    refine d_pure (i := 7) hT #[true, false, true, false, false, true, false, true, false, false, false] rfl (by kernel_rfl) rfl rfl (by decide) (fun _ _ _ h => h) (fun _ => q_move hT rfl) ?_; clear hT; intro a hT
    refine d_take (i := 1) hT #[true, true, true, false, false, true, false, true, false, false, false] rfl (by kernel_rfl) rfl rfl (by decide) (fun _ _ _ h => h) (fun _ hs => q_load hT rfl Tryz.ty27 (Rd.ext (hR.rd 1 rfl 0 (ds := [(Value.slice p n cp)]) rfl) hs)) hS ?_; clear hT; intro a hT
    obtain ⟨sb1, so1, hp1, hrd1⟩ := (hsp).2 (by omega)
    refine d_pure (i := 3) hT #[true, true, true, true, false, true, false, true, false, false, false] rfl (by kernel_rfl) rfl rfl (by decide) (fun _ _ _ h => h) (fun _ => q_indexAddr (b := sb1) (off := so1) (len := n) (cap := cp) hT (by rw [← hp1]; rfl) rfl Tryz.sli27 (by omega) (by omega)) ?_; clear hT; intro a hT
    refine d_take (i := 4) hT #[true, true, true, true, true, true, false, true, false, false, false] rfl (by kernel_rfl) rfl rfl (by decide) (fun _ _ _ h => h) (fun _ hs => q_load_agg hT rfl Tryz.ty24 (Rd.ext (Rd.loc (hrd1 t (by omega)) hR (by simp)) hs) rfl) hS ?_; clear hT; intro a hT
    refine d_take (i := 6) hT #[true, true, true, true, true, true, true, true, false, false, false] rfl (by kernel_rfl) rfl rfl (by decide) (fun _ _ _ h => h) (fun _ hs => q_load hT rfl Tryz.ty27 (Rd.ext (hR.rd 0 rfl 0 (ds := [(Value.slice q n cq)]) rfl) hs)) hS ?_; clear hT; intro a hT
    obtain ⟨sb2, so2, hp2, hrd2⟩ := (hsq).2 (by omega)
    refine d_pure (i := 8) hT #[true, true, true, true, true, true, true, true, true, false, false] rfl (by kernel_rfl) rfl rfl (by decide) (fun _ _ _ h => h) (fun _ => q_indexAddr (b := sb2) (off := so2) (len := n) (cap := cq) hT (by rw [← hp2]; rfl) rfl Tryz.sli27 (by omega) (by omega)) ?_; clear hT; intro a hT
    refine d_take (i := 9) hT #[true, true, true, true, true, true, true, true, true, true, false] rfl (by kernel_rfl) rfl rfl (by decide) (fun _ _ _ h => h) (fun _ hs => q_load_agg hT rfl Tryz.ty24 (Rd.ext (Rd.loc (hrd2 t (by omega)) hR (by simp)) hs) rfl) hS ?_; clear hT; intro a hT
    refine d_pure (i := 10) hT #[true, true, true, true, true, true, true, true, true, true, true] rfl (by kernel_rfl) rfl rfl (by decide) (fun _ _ _ h => h) (fun _ => (q_ne_agg hT rfl rfl Tryz.eqg24 (EqR.dig Tryz.arr24 Tryz.underlying5 (sb.getD t Dig.zero) (sb.getD t Dig.zero)) (by decide)).b (b := false) (by simp)) ?_; clear hT; intro a hT
    refine d_done (by kernel_rfl) ?_; clear hR hS
    refine then_norm ?_
    refine c_false hT rfl rfl ?_
    refine wp_skip ?_
    refine blk_norm ?_
    refine then_norm ?_
    refine c_region ?_
    refine l_q hT (q_move hT rfl) rfl rfl (by decide) ?_; clear hT; intro a hT
    refine l_q hT (q_addI hT rfl rfl (r := (t : Int) + 1) rfl (by omega) (by omega)) rfl rfl (by decide) ?_; clear hT; intro a hT
    refine l_q hT (q_assign hT rfl) rfl rfl (by decide) ?_; clear hT; intro a hT
    refine l_end ?_
    refine then_norm ?_
    exact ⟨_, ⟨t + 1, rfl, by omega, hT.keep [2, 3, 5] rfl, hL⟩, by simp only [id]; omega⟩
  · skip
    have hc1 := of_decide_eq_false hc1
    refine wp_exit ?_
    refine then_exit ?_
    refine then_exit ?_
    refine blk_exit ?_
    refine then_norm ?_
    refine c_seq ?_
    refine c_region ?_
    refine l_q hT (q_assign hT rfl) rfl rfl (by decide) ?_; clear hT; intro a hT
    refine l_end ?_
    refine then_norm ?_
    refine wp_ret ?_
    refine c_ret (vs := [(Value.bool true)]) (rs := [.tmp 4]) hT rfl (.tmp rfl .nil) ?_
    exact ⟨rfl, hL.drop⟩
end Go.Proofs.YtcaffacganffjaaGreatDoor
end

section
namespace Go.Proofs.YtcaffacganffjaaGreatDoor
open Go Go.Vg


set_option maxRecDepth 20000 in
set_option maxHeartbeats 1000000 in
theorem rotl_spec (x : UInt32) (k : Int) (s : Nat) (hk : k = (s : Int) - 32) (h0 : 0 < s) (h1 : s < 32) (w0 : World) :
    Calls Tryz.prog 189 #[(v32 x), (vI k)] w0 fun e w' => e = .returned (v32 (rotl x s)) ∧ Ext w0 w' := by
  have hand : s = (18446744073709551584 + s) &&& 31 := by
    rw [show (31 : Nat) = 2 ^ 5 - 1 from rfl, Nat.and_two_pow_sub_one_eq_mod]; omega
  refine c_enter (n := 17) (args := [(v32 x), (vI k)]) Tryz.func189 rfl rfl (Nat.le_of_ble_eq_true rfl) rfl (fun a hT => ?_)
  simp only [List.zipIdx_cons, List.zipIdx_nil, List.map_cons, List.map_nil, Nat.reduceAdd] at hT
  have hL := Vg.Loc.refl [] w0
  refine c_seq ?_
  refine c_region ?_
  refine l_q hT (q_assign hT rfl) rfl rfl (by decide) ?_; clear hT; intro a hT
  refine l_end ?_
  refine then_norm ?_
  refine c_seq ?_
  refine c_region ?_
  refine l_q hT (q_move hT rfl) rfl rfl (by decide) ?_; clear hT; intro a hT
  refine l_q hT ((q_conv_int hT rfl Tryz.underlying3 Tryz.underlying224).v (v := .int .u64 ((18446744073709551584 + s : Nat) : Int)) (by rw [wrap_u64]; congr 1; omega)) rfl rfl (by decide) ?_; clear hT; intro a hT
  refine l_q hT ((q_bits (u := 18446744073709551584 + s) (v := 31) hT rfl rfl rfl (by simp only [IntKind.bits]; omega) (by decide) (.inl ⟨rfl, hand⟩))) rfl rfl (by decide) ?_; clear hT; intro a hT
  refine l_q hT (q_assign hT rfl) rfl rfl (by decide) ?_; clear hT; intro a hT
  refine l_end ?_
  refine then_norm ?_
  refine c_seq ?_
  refine c_region ?_
  refine l_q hT (q_move hT rfl) rfl rfl (by decide) ?_; clear hT; intro a hT
  refine l_q hT (q_move hT rfl) rfl rfl (by decide) ?_; clear hT; intro a hT
  refine l_q hT (q_shl32 (u := x) (s := s) hT rfl rfl (by omega)) rfl rfl (by decide) ?_; clear hT; intro a hT
  refine l_q hT (q_move hT rfl) rfl rfl (by decide) ?_; clear hT; intro a hT
  refine l_q hT (q_move hT rfl) rfl rfl (by decide) ?_; clear hT; intro a hT
  refine l_q hT ((q_sub hT rfl rfl).v (v := .int .u64 ((32 - s : Nat) : Int)) (by rw [wrap_u64]; congr 1; omega)) rfl rfl (by decide) ?_; clear hT; intro a hT
  refine l_q hT (q_shr32 (u := x) (s := 32 - s) hT rfl rfl (by omega)) rfl rfl (by decide) ?_; clear hT; intro a hT
  refine l_q hT (q_or32 (u := shl32 x s) (v := shr32 x (32 - s)) hT rfl rfl) rfl rfl (by decide) ?_; clear hT; intro a hT
  refine l_q hT (q_assign hT rfl) rfl rfl (by decide) ?_; clear hT; intro a hT
  refine l_end ?_
  refine then_norm ?_
  refine wp_ret ?_
  refine c_ret (vs := [(v32 ((shl32 x s) ||| (shr32 x (32 - s))))]) (rs := [.tmp 4]) hT rfl (.tmp rfl .nil) ?_
  exact ⟨rfl, hL.drop⟩

set_option maxRecDepth 20000 in
set_option maxHeartbeats 1000000 in
theorem New_spec  (w0 : World) :
    Calls Tryz.prog 132 #[] w0 fun e w' => ∃ b, e = .returned (vp b 0) ∧ Vg.Loc [] w0 w' [[(b, ob (arr32 8 ivF ++ (arr8 64 (fun _ => 0) ++ ([(vI 0)]))) 221)]] := by
  refine c_enter (n := 4) (args := []) Tryz.func132 rfl rfl (Nat.le_of_ble_eq_true rfl) rfl (fun a hT => ?_)
  simp only [List.zipIdx_cons, List.zipIdx_nil, List.map_cons, List.map_nil, Nat.reduceAdd] at hT
  have hL := Vg.Loc.refl [] w0
  refine c_seq ?_
  refine c_region ?_
  refine l_q hT (q_assign hT rfl) rfl rfl (by decide) ?_; clear hT; intro a hT
  refine l_end ?_
  refine then_norm ?_
  refine c_seq ?_
  refine c_region ?_
  refine l_q hT (q_build (ps := [(0, .const (.int .u32 1779033703)), (1, .const (.int .u32 3144134277)), (2, .const (.int .u32 1013904242)), (3, .const (.int .u32 2773480762)), (4, .const (.int .u32 1359893119)), (5, .const (.int .u32 2600822924)), (6, .const (.int .u32 528734635)), (7, .const (.int .u32 1541459225))]) (pv := [(0, (v32 1779033703)), (1, (v32 3144134277)), (2, (v32 1013904242)), (3, (v32 2773480762)), (4, (v32 1359893119)), (5, (v32 2600822924)), (6, (v32 528734635)), (7, (v32 1541459225))]) (v := .agg [(v32 1779033703), (v32 3144134277), (v32 1013904242), (v32 2773480762), (v32 1359893119), (v32 2600822924), (v32 528734635), (v32 1541459225)].toArray) hT rfl (fun _ => by kernel_rfl)) rfl rfl (by decide) ?_; clear hT; intro a hT
  refine l_q hT (q_build (ps := [(0, .tmp 1)]) (pv := [(0, (Value.agg [(v32 1779033703), (v32 3144134277), (v32 1013904242), (v32 2773480762), (v32 1359893119), (v32 2600822924), (v32 528734635), (v32 1541459225)].toArray))]) (v := .agg ([(v32 1779033703), (v32 3144134277), (v32 1013904242), (v32 2773480762), (v32 1359893119), (v32 2600822924), (v32 528734635), (v32 1541459225)] ++ (arr8 64 (fun _ => 0) ++ ([(vI 0)]))).toArray) hT rfl (fun _ => by kernel_rfl)) rfl rfl (by decide) ?_; clear hT; intro a hT
  refine l_do rfl ?_
  refine w_box hT hL (by decide) rfl (c := [(v32 1779033703), (v32 3144134277), (v32 1013904242), (v32 2773480762), (v32 1359893119), (v32 2600822924), (v32 528734635), (v32 1541459225)] ++ (arr8 64 (fun _ => 0) ++ ([(vI 0)]))) rfl ?_; clear hT hL; intro b1 a w1 hT hL hE hB
  refine l_q hT (q_assign hT rfl) rfl rfl (by decide) ?_; clear hT; intro a hT
  refine l_end ?_
  refine then_norm ?_
  refine wp_ret ?_
  refine c_ret (vs := [(vp b1 0)]) (rs := [.tmp 0]) hT rfl (.tmp rfl .nil) ?_
  exact ⟨_, rfl, hL⟩
end Go.Proofs.YtcaffacganffjaaGreatDoor
end

section
namespace Go.Proofs.YtcaffacganffjaaGreatDoor
open Go Go.Vg


set_option maxRecDepth 100000 in
set_option maxHeartbeats 4000000 in
theorem mix_spec (b : Nat) (h : Nat → UInt32) (buf : Nat → UInt8) (n : Int) (w0 : World) (hK : KeysAt w0) (hb0 : 1 ∉ [b]) (hh : w0.heap[b]? = some (ob (arr32 8 h ++ (arr8 64 buf ++ ([(vI n)]))) 221)) :
    Calls Tryz.prog 172 #[(vp b 0)] w0 fun e w' => e = .returned (.tuple #[]) ∧ Vg.Loc [b] w0 w' [[(b, ob (arr32 8 (mixF h buf) ++ (arr8 64 buf ++ ([(vI n)]))) 221)]] := by
  refine c_enter (n := 227) (args := [(vp b 0)]) Tryz.func172 rfl rfl (Nat.le_of_ble_eq_true rfl) rfl (fun a hT => ?_)
  simp only [List.zipIdx_cons, List.zipIdx_nil, List.map_cons, List.map_nil, Nat.reduceAdd] at hT
  have hL := Vg.Loc.start1 hh
  refine c_seq ?_
  refine c_region ?_
  refine l_do rfl ?_
  refine w_alloc hT hL (by decide) Tryz.ty235 ?_; clear hT hL; intro b1 a w1 hT hL hE hB
  refine l_end ?_
  refine then_norm ?_
  refine c_seq ?_
  refine c_seq ?_
  refine c_region ?_
  refine l_q hT (q_move hT rfl) rfl rfl (by decide) ?_; clear hT; intro a hT
  refine l_end ?_
  refine then_norm ?_
  refine wp_block ?_
  refine c_loop (fun mz a wz => ∃ t : Nat, mz = 64 - t ∧ t ≤ 64 ∧ Tm 227 a [(25, (vI (t : Int))), (0, (vp b 0)), (2, (vp b1 0))] ∧ Vg.Loc [b] w0 wz [[(b1, ob (arr32 64 (sched buf t)) 235)], [(b, ob (arr32 8 h ++ (arr8 64 buf ++ ([(vI n)]))) 221)]]) id 64 ?_ ?_
  · exact ⟨0, rfl, by omega, hT.keep [25, 0, 2] rfl, hL⟩
  clear hT hL
  rintro mz a w2 ⟨t, rfl, ht, hT, hL⟩
  refine c_seq ?_
  refine c_region ?_
  refine l_q hT (q_lss hT rfl rfl) rfl rfl (by decide) ?_; clear hT; intro a hT
  refine l_end ?_
  refine then_norm ?_
  refine c_seq ?_
  refine c_if hT rfl (fun hc1 => ?_) (fun hc1 => ?_)
  · skip
    have hc1 := of_decide_eq_true hc1
    refine wp_skip ?_
    refine then_norm ?_
    refine c_seq ?_
    refine wp_block ?_
    refine c_seq ?_
    refine c_region ?_
    refine l_q hT (q_move hT rfl) rfl rfl (by decide) ?_; clear hT; intro a hT
    refine l_q hT (q_assign hT rfl) rfl rfl (by decide) ?_; clear hT; intro a hT
    refine l_end ?_
    refine then_norm ?_
    refine c_seq ?_
    refine c_seq ?_
    refine c_region ?_
    refine l_q hT (q_move hT rfl) rfl rfl (by decide) ?_; clear hT; intro a hT
    refine l_q hT (q_lss hT rfl rfl) rfl rfl (by decide) ?_; clear hT; intro a hT
    refine l_end ?_
    refine then_norm ?_
    refine c_if hT rfl (fun hc2 => ?_) (fun hc2 => ?_)
    · skip
      have hc2 := of_decide_eq_true hc2
      refine c_seq ?_
      refine c_region ?_
      refine l_q hT (q_move hT rfl) rfl rfl (by decide) ?_; clear hT; intro a hT
      refine l_q hT (q_nilCheck hT rfl) rfl rfl (by decide) ?_; clear hT; intro a hT
      refine l_q hT (q_fieldAddr hT rfl Tryz.fld221_1 rfl) rfl rfl (by decide) ?_; clear hT; intro a hT
      refine l_q hT (q_move hT rfl) rfl rfl (by decide) ?_; clear hT; intro a hT
      refine l_q hT ((q_mulI hT rfl rfl (r := 4 * (t : Int)) rfl (by omega) (by omega)).v (v := vI ((4 * t : Nat) : Int)) (by congr 1)) rfl rfl (by decide) ?_; clear hT; intro a hT
      refine l_q hT (q_slice_arr_lo (l := (4 * t : Nat)) hT rfl rfl Tryz.arr195 (by omega)) rfl rfl (by decide) ?_; clear hT; intro a hT
      refine l_q hT (q_assign hT rfl) rfl rfl (by decide) ?_; clear hT; intro a hT
      refine l_end ?_
      refine then_norm ?_
      refine c_seq ?_
      refine d_start' hL #[false, false, false, false, false, false, false, false, false, false, false, false, false, false, false, false, false, false, false, false, false, false, false, false, false] [24] rfl rfl rfl ?_; clear hL; intro w3 hL hE; have hR := hL; have hS := Ext.refl w3
      refine d_pure (i := 0) hT #[true, false, false, false, false, false, false, false, false, false, false, false, false, false, false, false, false, false, false, false, false, false, false, false, false] rfl (by kernel_rfl) rfl rfl (by decide) (fun _ _ _ h => h) (fun _ => q_move hT rfl) ?_; clear hT; intro a hT
      refine d_pure (i := 1) hT #[true, true, false, false, false, false, false, false, false, false, false, false, false, false, false, false, false, false, false, false, false, false, false, false, false] rfl (by kernel_rfl) rfl rfl (by decide) (fun _ _ _ h => h) (fun _ => q_move hT rfl) ?_; clear hT; intro a hT
      refine d_pure (i := 2) hT #[true, true, true, false, false, false, false, false, false, false, false, false, false, false, false, false, false, false, false, false, false, false, false, false, false] rfl (by kernel_rfl) rfl rfl (by decide) (fun _ _ _ h => h) (fun _ => (q_indexAddr hT rfl rfl Tryz.sli154 (by omega) (by omega)).v (v := vp b (8 + ((4 * t : Nat) + 0))) (by simp <;> omega)) ?_; clear hT; intro a hT
      refine d_pure (i := 6) hT #[true, true, true, false, false, false, true, false, false, false, false, false, false, false, false, false, false, false, false, false, false, false, false, false, false] rfl (by kernel_rfl) rfl rfl (by decide) (fun _ _ _ h => h) (fun _ => q_move hT rfl) ?_; clear hT; intro a hT
      refine d_pure (i := 7) hT #[true, true, true, false, false, false, true, true, false, false, false, false, false, false, false, false, false, false, false, false, false, false, false, false, false] rfl (by kernel_rfl) rfl rfl (by decide) (fun _ _ _ h => h) (fun _ => (q_indexAddr hT rfl rfl Tryz.sli154 (by omega) (by omega)).v (v := vp b (8 + ((4 * t : Nat) + 1))) (by simp <;> omega)) ?_; clear hT; intro a hT
      refine d_pure (i := 12) hT #[true, true, true, false, false, false, true, true, false, false, false, false, true, false, false, false, false, false, false, false, false, false, false, false, false] rfl (by kernel_rfl) rfl rfl (by decide) (fun _ _ _ h => h) (fun _ => q_move hT rfl) ?_; clear hT; intro a hT
      refine d_pure (i := 13) hT #[true, true, true, false, false, false, true, true, false, false, false, false, true, true, false, false, false, false, false, false, false, false, false, false, false] rfl (by kernel_rfl) rfl rfl (by decide) (fun _ _ _ h => h) (fun _ => (q_indexAddr hT rfl rfl Tryz.sli154 (by omega) (by omega)).v (v := vp b (8 + ((4 * t : Nat) + 2))) (by simp <;> omega)) ?_; clear hT; intro a hT
      refine d_pure (i := 18) hT #[true, true, true, false, false, false, true, true, false, false, false, false, true, true, false, false, false, false, true, false, false, false, false, false, false] rfl (by kernel_rfl) rfl rfl (by decide) (fun _ _ _ h => h) (fun _ => q_move hT rfl) ?_; clear hT; intro a hT
      refine d_pure (i := 19) hT #[true, true, true, false, false, false, true, true, false, false, false, false, true, true, false, false, false, false, true, true, false, false, false, false, false] rfl (by kernel_rfl) rfl rfl (by decide) (fun _ _ _ h => h) (fun _ => (q_indexAddr hT rfl rfl Tryz.sli154 (by omega) (by omega)).v (v := vp b (8 + ((4 * t : Nat) + 3))) (by simp <;> omega)) ?_; clear hT; intro a hT
      refine d_take (i := 3) hT #[true, true, true, true, false, false, true, true, false, false, false, false, true, true, false, false, false, false, true, true, false, false, false, false, false] rfl (by kernel_rfl) rfl rfl (by decide) (fun _ _ _ h => h) (fun _ hs => q_load hT rfl Tryz.ty5 (Rd.ext (Rd.at8 (hR.rd 1 rfl 8 (ds := arr8 64 buf) rfl) (i := ((4 * t : Nat) + 0)) (by omega)) hs)) hS ?_; clear hT; intro a hT
      refine d_pure (i := 4) hT #[true, true, true, true, true, false, true, true, false, false, false, false, true, true, false, false, false, false, true, true, false, false, false, false, false] rfl (by kernel_rfl) rfl rfl (by decide) (fun _ _ _ h => h) (fun _ => q_conv_8_32 hT rfl Tryz.underlying5 Tryz.underlying188) ?_; clear hT; intro a hT
      refine d_pure (i := 5) hT #[true, true, true, true, true, true, true, true, false, false, false, false, true, true, false, false, false, false, true, true, false, false, false, false, false] rfl (by kernel_rfl) rfl rfl (by decide) (fun _ _ _ h => h) (fun _ => q_shl32 (u := (buf ((4 * t : Nat) + 0)).toUInt32) (s := 24) hT rfl rfl (by omega)) ?_; clear hT; intro a hT
      refine d_take (i := 8) hT #[true, true, true, true, true, true, true, true, true, false, false, false, true, true, false, false, false, false, true, true, false, false, false, false, false] rfl (by kernel_rfl) rfl rfl (by decide) (fun _ _ _ h => h) (fun _ hs => q_load hT rfl Tryz.ty5 (Rd.ext (Rd.at8 (hR.rd 1 rfl 8 (ds := arr8 64 buf) rfl) (i := ((4 * t : Nat) + 1)) (by omega)) hs)) hS ?_; clear hT; intro a hT
      refine d_pure (i := 9) hT #[true, true, true, true, true, true, true, true, true, true, false, false, true, true, false, false, false, false, true, true, false, false, false, false, false] rfl (by kernel_rfl) rfl rfl (by decide) (fun _ _ _ h => h) (fun _ => q_conv_8_32 hT rfl Tryz.underlying5 Tryz.underlying188) ?_; clear hT; intro a hT
      refine d_pure (i := 10) hT #[true, true, true, true, true, true, true, true, true, true, true, false, true, true, false, false, false, false, true, true, false, false, false, false, false] rfl (by kernel_rfl) rfl rfl (by decide) (fun _ _ _ h => h) (fun _ => q_shl32 (u := (buf ((4 * t : Nat) + 1)).toUInt32) (s := 16) hT rfl rfl (by omega)) ?_; clear hT; intro a hT
      refine d_pure (i := 11) hT #[true, true, true, true, true, true, true, true, true, true, true, true, true, true, false, false, false, false, true, true, false, false, false, false, false] rfl (by kernel_rfl) rfl rfl (by decide) (fun _ _ _ h => h) (fun _ => q_or32 (u := shl32 ((buf ((4 * t : Nat) + 0)).toUInt32) 24) (v := shl32 ((buf ((4 * t : Nat) + 1)).toUInt32) 16) hT rfl rfl) ?_; clear hT; intro a hT
      refine d_take (i := 14) hT #[true, true, true, true, true, true, true, true, true, true, true, true, true, true, true, false, false, false, true, true, false, false, false, false, false] rfl (by kernel_rfl) rfl rfl (by decide) (fun _ _ _ h => h) (fun _ hs => q_load hT rfl Tryz.ty5 (Rd.ext (Rd.at8 (hR.rd 1 rfl 8 (ds := arr8 64 buf) rfl) (i := ((4 * t : Nat) + 2)) (by omega)) hs)) hS ?_; clear hT; intro a hT
      refine d_pure (i := 15) hT #[true, true, true, true, true, true, true, true, true, true, true, true, true, true, true, true, false, false, true, true, false, false, false, false, false] rfl (by kernel_rfl) rfl rfl (by decide) (fun _ _ _ h => h) (fun _ => q_conv_8_32 hT rfl Tryz.underlying5 Tryz.underlying188) ?_; clear hT; intro a hT
      refine d_pure (i := 16) hT #[true, true, true, true, true, true, true, true, true, true, true, true, true, true, true, true, true, false, true, true, false, false, false, false, false] rfl (by kernel_rfl) rfl rfl (by decide) (fun _ _ _ h => h) (fun _ => q_shl32 (u := (buf ((4 * t : Nat) + 2)).toUInt32) (s := 8) hT rfl rfl (by omega)) ?_; clear hT; intro a hT
      refine d_pure (i := 17) hT #[true, true, true, true, true, true, true, true, true, true, true, true, true, true, true, true, true, true, true, true, false, false, false, false, false] rfl (by kernel_rfl) rfl rfl (by decide) (fun _ _ _ h => h) (fun _ => q_or32 (u := (shl32 ((buf ((4 * t : Nat) + 0)).toUInt32) 24) ||| (shl32 ((buf ((4 * t : Nat) + 1)).toUInt32) 16)) (v := shl32 ((buf ((4 * t : Nat) + 2)).toUInt32) 8) hT rfl rfl) ?_; clear hT; intro a hT
      refine d_take (i := 20) hT #[true, true, true, true, true, true, true, true, true, true, true, true, true, true, true, true, true, true, true, true, true, false, false, false, false] rfl (by kernel_rfl) rfl rfl (by decide) (fun _ _ _ h => h) (fun _ hs => q_load hT rfl Tryz.ty5 (Rd.ext (Rd.at8 (hR.rd 1 rfl 8 (ds := arr8 64 buf) rfl) (i := ((4 * t : Nat) + 3)) (by omega)) hs)) hS ?_; clear hT; intro a hT
      refine d_pure (i := 21) hT #[true, true, true, true, true, true, true, true, true, true, true, true, true, true, true, true, true, true, true, true, true, true, false, false, false] rfl (by kernel_rfl) rfl rfl (by decide) (fun _ _ _ h => h) (fun _ => q_conv_8_32 hT rfl Tryz.underlying5 Tryz.underlying188) ?_; clear hT; intro a hT
      refine d_pure (i := 22) hT #[true, true, true, true, true, true, true, true, true, true, true, true, true, true, true, true, true, true, true, true, true, true, true, false, false] rfl (by kernel_rfl) rfl rfl (by decide) (fun _ _ _ h => h) (fun _ => q_or32 (u := ((shl32 ((buf ((4 * t : Nat) + 0)).toUInt32) 24) ||| (shl32 ((buf ((4 * t : Nat) + 1)).toUInt32) 16)) ||| (shl32 ((buf ((4 * t : Nat) + 2)).toUInt32) 8)) (v := (buf ((4 * t : Nat) + 3)).toUInt32) hT rfl rfl) ?_; clear hT; intro a hT
      refine d_pure (i := 23) hT #[true, true, true, true, true, true, true, true, true, true, true, true, true, true, true, true, true, true, true, true, true, true, true, true, false] rfl (by kernel_rfl) rfl rfl (by decide) (fun _ _ _ h => h) (fun _ => (q_indexAddr_arr hT rfl rfl Tryz.arr235 (by omega) (by omega)).v (v := vp b1 (0 + t)) (by simp)) ?_; clear hT; intro a hT
      refine d_one (i := 24) hT #[true, true, true, true, true, true, true, true, true, true, true, true, true, true, true, true, true, true, true, true, true, true, true, true, true] rfl (by kernel_rfl) rfl ?_
      refine w_store hT hL 0 (c := arr32 64 (sched buf t)) rfl rfl Tryz.ty188 rfl (vs := [(v32 ((((shl32 ((buf ((4 * t : Nat) + 0)).toUInt32) 24) ||| (shl32 ((buf ((4 * t : Nat) + 1)).toUInt32) 16)) ||| (shl32 ((buf ((4 * t : Nat) + 2)).toUInt32) 8)) ||| ((buf ((4 * t : Nat) + 3)).toUInt32)))]) rfl rfl (by simp [arr32_len, arr8_len, digC_len]; omega) rfl (c' := arr32 64 (upd (sched buf t) t ((((shl32 ((buf ((4 * t : Nat) + 0)).toUInt32) 24) ||| (shl32 ((buf ((4 * t : Nat) + 1)).toUInt32) 16)) ||| (shl32 ((buf ((4 * t : Nat) + 2)).toUInt32) 8)) ||| ((buf ((4 * t : Nat) + 3)).toUInt32)))) (lay_at (pre := []) (mid := arr32 64 (sched buf t)) (post := []) (i := t) (by simp [digC_arr]) (by simp [arr32_len, arr8_len, digC_len]) (by simp [arr32_len, arr8_len, digC_len]; omega) (lay_arr32 _ _ (by omega)) (by simp)) ?_; clear hL; intro w4 hL hE
      replace hL : Vg.Loc [b] w0 w4 ([[(b1, ob (arr32 64 (upd (sched buf t) t ((((shl32 ((buf ((4 * t : Nat) + 0)).toUInt32) 24) ||| (shl32 ((buf ((4 * t : Nat) + 1)).toUInt32) 16)) ||| (shl32 ((buf ((4 * t : Nat) + 2)).toUInt32) 8)) ||| ((buf ((4 * t : Nat) + 3)).toUInt32)))) 235)], [(b, ob (arr32 8 h ++ (arr8 64 buf ++ ([(vI n)]))) 221)]]) := hL
      refine ⟨fun hn => absurd (by decide) hn, ?_⟩
      refine d_done (by kernel_rfl) ?_; clear hR hS
      refine then_norm ?_
      refine wp_exit ?_
      refine then_exit ?_
      refine blk_exit ?_
      refine then_norm ?_
      refine c_region ?_
      refine l_q hT (q_addI hT rfl rfl (r := (t : Int) + 1) rfl (by omega) (by omega)) rfl rfl (by decide) ?_; clear hT; intro a hT
      refine l_q hT (q_move hT rfl) rfl rfl (by decide) ?_; clear hT; intro a hT
      refine l_end ?_
      refine then_norm ?_
      exact ⟨_, ⟨t + 1, rfl, by omega, hT.keep [25, 0, 2] rfl, by rw [← sched_lo buf t (by omega)]; exact hL⟩, by simp only [id]; omega⟩
    · skip
      have hc2 := of_decide_eq_false hc2
      refine wp_skip ?_
      refine then_norm ?_
      refine c_seq ?_
      refine d_start' hL #[false, false, false, false, false, false, false, false, false, false] [] rfl rfl rfl ?_; clear hL; intro w5 hL hE; have hR := hL; have hS := Ext.refl w5
      refine d_pure (i := 0) hT #[true, false, false, false, false, false, false, false, false, false] rfl (by kernel_rfl) rfl rfl (by decide) (fun _ _ _ h => h) (fun _ => q_move hT rfl) ?_; clear hT; intro a hT
      refine d_pure (i := 1) hT #[true, true, false, false, false, false, false, false, false, false] rfl (by kernel_rfl) rfl rfl (by decide) (fun _ _ _ h => h) (fun _ => (q_subI hT rfl rfl (r := (t : Int) - 15) rfl (by omega) (by omega)).v (v := vI ((t - 15 : Nat) : Int)) (by congr 1; omega)) ?_; clear hT; intro a hT
      refine d_pure (i := 2) hT #[true, true, true, false, false, false, false, false, false, false] rfl (by kernel_rfl) rfl rfl (by decide) (fun _ _ _ h => h) (fun _ => (q_indexAddr_arr hT rfl rfl Tryz.arr235 (by omega) (by omega)).v (v := vp b1 (0 + (t - 15 : Nat))) (by simp)) ?_; clear hT; intro a hT
      refine d_pure (i := 4) hT #[true, true, true, false, true, false, false, false, false, false] rfl (by kernel_rfl) rfl rfl (by decide) (fun _ _ _ h => h) (fun _ => q_move hT rfl) ?_; clear hT; intro a hT
      refine d_pure (i := 5) hT #[true, true, true, false, true, true, false, false, false, false] rfl (by kernel_rfl) rfl rfl (by decide) (fun _ _ _ h => h) (fun _ => (q_subI hT rfl rfl (r := (t : Int) - 2) rfl (by omega) (by omega)).v (v := vI ((t - 2 : Nat) : Int)) (by congr 1; omega)) ?_; clear hT; intro a hT
      refine d_pure (i := 6) hT #[true, true, true, false, true, true, true, false, false, false] rfl (by kernel_rfl) rfl rfl (by decide) (fun _ _ _ h => h) (fun _ => (q_indexAddr_arr hT rfl rfl Tryz.arr235 (by omega) (by omega)).v (v := vp b1 (0 + (t - 2 : Nat))) (by simp)) ?_; clear hT; intro a hT
      refine d_take (i := 3) hT #[true, true, true, true, true, true, true, false, false, false] rfl (by kernel_rfl) rfl rfl (by decide) (fun _ _ _ h => h) (fun _ hs => q_load hT rfl Tryz.ty188 (Rd.ext (Rd.at32 (hR.rd 0 rfl 0 (ds := arr32 64 (sched buf t)) rfl) (i := (t - 15 : Nat)) (by omega)) hs)) hS ?_; clear hT; intro a hT
      refine d_pure (i := 8) hT #[true, true, true, true, true, true, true, false, true, false] rfl (by kernel_rfl) rfl rfl (by decide) (fun _ _ _ h => h) (fun _ => q_assign hT rfl) ?_; clear hT; intro a hT
      refine d_take (i := 7) hT #[true, true, true, true, true, true, true, true, true, false] rfl (by kernel_rfl) rfl rfl (by decide) (fun _ _ _ h => h) (fun _ hs => q_load hT rfl Tryz.ty188 (Rd.ext (Rd.at32 (hR.rd 0 rfl 0 (ds := arr32 64 (sched buf t)) rfl) (i := (t - 2 : Nat)) (by omega)) hs)) hS ?_; clear hT; intro a hT
      refine d_pure (i := 9) hT #[true, true, true, true, true, true, true, true, true, true] rfl (by kernel_rfl) rfl rfl (by decide) (fun _ _ _ h => h) (fun _ => q_assign hT rfl) ?_; clear hT; intro a hT
      refine d_done (by kernel_rfl) ?_; clear hR hS
      refine then_norm ?_
      refine c_seq ?_
      refine c_region ?_
      refine l_q hT (q_move hT rfl) rfl rfl (by decide) ?_; clear hT; intro a hT
      refine l_do rfl ?_
      refine w_callT (xs := [.tmp 68, .const (.int .i64 (-7))]) hT rfl (vs := [(v32 ((sched buf t) (t - 15 : Nat))), (vI (-7))]) rfl (args := #[(v32 ((sched buf t) (t - 15 : Nat))), (vI (-7))]) rfl Tryz.func189 rfl rfl (by decide) ((rotl_spec ((sched buf t) (t - 15 : Nat)) (-7) 25 (by decide) (by decide) (by decide) _).mono ?_)
      rintro e w6 ⟨rfl, hX⟩
      refine ⟨_, rfl, ?_⟩; clear hT; intro a hT; replace hT : Tm 227 a ((69, (v32 (rotl ((sched buf t) (t - 15 : Nat)) 25))) :: _) := hT
      replace hL := hL.ext hX
      refine l_q hT (q_move hT rfl) rfl rfl (by decide) ?_; clear hT; intro a hT
      refine l_do rfl ?_
      refine w_callT (xs := [.tmp 70, .const (.int .i64 (-18))]) hT rfl (vs := [(v32 ((sched buf t) (t - 15 : Nat))), (vI (-18))]) rfl (args := #[(v32 ((sched buf t) (t - 15 : Nat))), (vI (-18))]) rfl Tryz.func189 rfl rfl (by decide) ((rotl_spec ((sched buf t) (t - 15 : Nat)) (-18) 14 (by decide) (by decide) (by decide) _).mono ?_)
      rintro e w7 ⟨rfl, hX⟩
      refine ⟨_, rfl, ?_⟩; clear hT; intro a hT; replace hT : Tm 227 a ((71, (v32 (rotl ((sched buf t) (t - 15 : Nat)) 14))) :: _) := hT
      replace hL := hL.ext hX
      refine l_q hT (q_xor32 (u := rotl ((sched buf t) (t - 15 : Nat)) 25) (v := rotl ((sched buf t) (t - 15 : Nat)) 14) hT rfl rfl) rfl rfl (by decide) ?_; clear hT; intro a hT
      refine l_q hT (q_move hT rfl) rfl rfl (by decide) ?_; clear hT; intro a hT
      refine l_q hT (q_shr32 (u := (sched buf t) (t - 15 : Nat)) (s := 3) hT rfl rfl (by omega)) rfl rfl (by decide) ?_; clear hT; intro a hT
      refine l_q hT (q_xor32 (u := (rotl ((sched buf t) (t - 15 : Nat)) 25) ^^^ (rotl ((sched buf t) (t - 15 : Nat)) 14)) (v := shr32 ((sched buf t) (t - 15 : Nat)) 3) hT rfl rfl) rfl rfl (by decide) ?_; clear hT; intro a hT
      refine l_q hT (q_assign hT rfl) rfl rfl (by decide) ?_; clear hT; intro a hT
      refine l_end ?_
      refine then_norm ?_
      refine c_seq ?_
      refine c_region ?_
      refine l_q hT (q_move hT rfl) rfl rfl (by decide) ?_; clear hT; intro a hT
      refine l_do rfl ?_
      refine w_callT (xs := [.tmp 76, .const (.int .i64 (-17))]) hT rfl (vs := [(v32 ((sched buf t) (t - 2 : Nat))), (vI (-17))]) rfl (args := #[(v32 ((sched buf t) (t - 2 : Nat))), (vI (-17))]) rfl Tryz.func189 rfl rfl (by decide) ((rotl_spec ((sched buf t) (t - 2 : Nat)) (-17) 15 (by decide) (by decide) (by decide) _).mono ?_)
      rintro e w8 ⟨rfl, hX⟩
      refine ⟨_, rfl, ?_⟩; clear hT; intro a hT; replace hT : Tm 227 a ((77, (v32 (rotl ((sched buf t) (t - 2 : Nat)) 15))) :: _) := hT
      replace hL := hL.ext hX
      refine l_q hT (q_move hT rfl) rfl rfl (by decide) ?_; clear hT; intro a hT
      refine l_do rfl ?_
      refine w_callT (xs := [.tmp 78, .const (.int .i64 (-19))]) hT rfl (vs := [(v32 ((sched buf t) (t - 2 : Nat))), (vI (-19))]) rfl (args := #[(v32 ((sched buf t) (t - 2 : Nat))), (vI (-19))]) rfl Tryz.func189 rfl rfl (by decide) ((rotl_spec ((sched buf t) (t - 2 : Nat)) (-19) 13 (by decide) (by decide) (by decide) _).mono ?_)
      rintro e w9 ⟨rfl, hX⟩
      refine ⟨_, rfl, ?_⟩; clear hT; intro a hT; replace hT : Tm 227 a ((79, (v32 (rotl ((sched buf t) (t - 2 : Nat)) 13))) :: _) := hT
      replace hL := hL.ext hX
      refine l_q hT (q_xor32 (u := rotl ((sched buf t) (t - 2 : Nat)) 15) (v := rotl ((sched buf t) (t - 2 : Nat)) 13) hT rfl rfl) rfl rfl (by decide) ?_; clear hT; intro a hT
      refine l_q hT (q_move hT rfl) rfl rfl (by decide) ?_; clear hT; intro a hT
      refine l_q hT (q_shr32 (u := (sched buf t) (t - 2 : Nat)) (s := 10) hT rfl rfl (by omega)) rfl rfl (by decide) ?_; clear hT; intro a hT
      refine l_q hT (q_xor32 (u := (rotl ((sched buf t) (t - 2 : Nat)) 15) ^^^ (rotl ((sched buf t) (t - 2 : Nat)) 13)) (v := shr32 ((sched buf t) (t - 2 : Nat)) 10) hT rfl rfl) rfl rfl (by decide) ?_; clear hT; intro a hT
      refine l_q hT (q_assign hT rfl) rfl rfl (by decide) ?_; clear hT; intro a hT
      refine l_end ?_
      refine then_norm ?_
      refine d_start' hL #[false, false, false, false, false, false, false, false, false, false, false, false, false, false, false, false] [15] rfl rfl rfl ?_; clear hL; intro w10 hL hE; have hR := hL; have hS := Ext.refl w10
      refine d_pure (i := 0) hT #[true, false, false, false, false, false, false, false, false, false, false, false, false, false, false, false] rfl (by kernel_rfl) rfl rfl (by decide) (fun _ _ _ h => h) (fun _ => q_move hT rfl) ?_; clear hT; intro a hT
      refine d_pure (i := 1) hT #[true, true, false, false, false, false, false, false, false, false, false, false, false, false, false, false] rfl (by kernel_rfl) rfl rfl (by decide) (fun _ _ _ h => h) (fun _ => q_move hT rfl) ?_; clear hT; intro a hT
      refine d_pure (i := 2) hT #[true, true, true, false, false, false, false, false, false, false, false, false, false, false, false, false] rfl (by kernel_rfl) rfl rfl (by decide) (fun _ _ _ h => h) (fun _ => (q_subI hT rfl rfl (r := (t : Int) - 16) rfl (by omega) (by omega)).v (v := vI ((t - 16 : Nat) : Int)) (by congr 1; omega)) ?_; clear hT; intro a hT
      refine d_pure (i := 3) hT #[true, true, true, true, false, false, false, false, false, false, false, false, false, false, false, false] rfl (by kernel_rfl) rfl rfl (by decide) (fun _ _ _ h => h) (fun _ => (q_indexAddr_arr hT rfl rfl Tryz.arr235 (by omega) (by omega)).v (v := vp b1 (0 + (t - 16 : Nat))) (by simp)) ?_; clear hT; intro a hT
      refine d_pure (i := 5) hT #[true, true, true, true, false, true, false, false, false, false, false, false, false, false, false, false] rfl (by kernel_rfl) rfl rfl (by decide) (fun _ _ _ h => h) (fun _ => q_move hT rfl) ?_; clear hT; intro a hT
      refine d_pure (i := 7) hT #[true, true, true, true, false, true, false, true, false, false, false, false, false, false, false, false] rfl (by kernel_rfl) rfl rfl (by decide) (fun _ _ _ h => h) (fun _ => q_move hT rfl) ?_; clear hT; intro a hT
      refine d_pure (i := 8) hT #[true, true, true, true, false, true, false, true, true, false, false, false, false, false, false, false] rfl (by kernel_rfl) rfl rfl (by decide) (fun _ _ _ h => h) (fun _ => (q_subI hT rfl rfl (r := (t : Int) - 7) rfl (by omega) (by omega)).v (v := vI ((t - 7 : Nat) : Int)) (by congr 1; omega)) ?_; clear hT; intro a hT
      refine d_pure (i := 9) hT #[true, true, true, true, false, true, false, true, true, true, false, false, false, false, false, false] rfl (by kernel_rfl) rfl rfl (by decide) (fun _ _ _ h => h) (fun _ => (q_indexAddr_arr hT rfl rfl Tryz.arr235 (by omega) (by omega)).v (v := vp b1 (0 + (t - 7 : Nat))) (by simp)) ?_; clear hT; intro a hT
      refine d_pure (i := 12) hT #[true, true, true, true, false, true, false, true, true, true, false, false, true, false, false, false] rfl (by kernel_rfl) rfl rfl (by decide) (fun _ _ _ h => h) (fun _ => q_move hT rfl) ?_; clear hT; intro a hT
      refine d_take (i := 4) hT #[true, true, true, true, true, true, false, true, true, true, false, false, true, false, false, false] rfl (by kernel_rfl) rfl rfl (by decide) (fun _ _ _ h => h) (fun _ hs => q_load hT rfl Tryz.ty188 (Rd.ext (Rd.at32 (hR.rd 0 rfl 0 (ds := arr32 64 (sched buf t)) rfl) (i := (t - 16 : Nat)) (by omega)) hs)) hS ?_; clear hT; intro a hT
      refine d_pure (i := 6) hT #[true, true, true, true, true, true, true, true, true, true, false, false, true, false, false, false] rfl (by kernel_rfl) rfl rfl (by decide) (fun _ _ _ h => h) (fun _ => q_add32 (u := (sched buf t) (t - 16 : Nat)) (v := ((rotl ((sched buf t) (t - 15 : Nat)) 25) ^^^ (rotl ((sched buf t) (t - 15 : Nat)) 14)) ^^^ (shr32 ((sched buf t) (t - 15 : Nat)) 3)) hT rfl rfl) ?_; clear hT; intro a hT
      refine d_take (i := 10) hT #[true, true, true, true, true, true, true, true, true, true, true, false, true, false, false, false] rfl (by kernel_rfl) rfl rfl (by decide) (fun _ _ _ h => h) (fun _ hs => q_load hT rfl Tryz.ty188 (Rd.ext (Rd.at32 (hR.rd 0 rfl 0 (ds := arr32 64 (sched buf t)) rfl) (i := (t - 7 : Nat)) (by omega)) hs)) hS ?_; clear hT; intro a hT
      refine d_pure (i := 11) hT #[true, true, true, true, true, true, true, true, true, true, true, true, true, false, false, false] rfl (by kernel_rfl) rfl rfl (by decide) (fun _ _ _ h => h) (fun _ => q_add32 (u := ((sched buf t) (t - 16 : Nat)) + (((rotl ((sched buf t) (t - 15 : Nat)) 25) ^^^ (rotl ((sched buf t) (t - 15 : Nat)) 14)) ^^^ (shr32 ((sched buf t) (t - 15 : Nat)) 3))) (v := (sched buf t) (t - 7 : Nat)) hT rfl rfl) ?_; clear hT; intro a hT
      refine d_pure (i := 13) hT #[true, true, true, true, true, true, true, true, true, true, true, true, true, true, false, false] rfl (by kernel_rfl) rfl rfl (by decide) (fun _ _ _ h => h) (fun _ => q_add32 (u := (((sched buf t) (t - 16 : Nat)) + (((rotl ((sched buf t) (t - 15 : Nat)) 25) ^^^ (rotl ((sched buf t) (t - 15 : Nat)) 14)) ^^^ (shr32 ((sched buf t) (t - 15 : Nat)) 3))) + ((sched buf t) (t - 7 : Nat))) (v := ((rotl ((sched buf t) (t - 2 : Nat)) 15) ^^^ (rotl ((sched buf t) (t - 2 : Nat)) 13)) ^^^ (shr32 ((sched buf t) (t - 2 : Nat)) 10)) hT rfl rfl) ?_; clear hT; intro a hT
      refine d_pure (i := 14) hT #[true, true, true, true, true, true, true, true, true, true, true, true, true, true, true, false] rfl (by kernel_rfl) rfl rfl (by decide) (fun _ _ _ h => h) (fun _ => (q_indexAddr_arr hT rfl rfl Tryz.arr235 (by omega) (by omega)).v (v := vp b1 (0 + t)) (by simp)) ?_; clear hT; intro a hT
      refine d_one (i := 15) hT #[true, true, true, true, true, true, true, true, true, true, true, true, true, true, true, true] rfl (by kernel_rfl) rfl ?_
      refine w_store hT hL 0 (c := arr32 64 (sched buf t)) rfl rfl Tryz.ty188 rfl (vs := [(v32 (((((sched buf t) (t - 16 : Nat)) + (((rotl ((sched buf t) (t - 15 : Nat)) 25) ^^^ (rotl ((sched buf t) (t - 15 : Nat)) 14)) ^^^ (shr32 ((sched buf t) (t - 15 : Nat)) 3))) + ((sched buf t) (t - 7 : Nat))) + (((rotl ((sched buf t) (t - 2 : Nat)) 15) ^^^ (rotl ((sched buf t) (t - 2 : Nat)) 13)) ^^^ (shr32 ((sched buf t) (t - 2 : Nat)) 10))))]) rfl rfl (by simp [arr32_len, arr8_len, digC_len]; omega) rfl (c' := arr32 64 (upd (sched buf t) t (((((sched buf t) (t - 16 : Nat)) + (((rotl ((sched buf t) (t - 15 : Nat)) 25) ^^^ (rotl ((sched buf t) (t - 15 : Nat)) 14)) ^^^ (shr32 ((sched buf t) (t - 15 : Nat)) 3))) + ((sched buf t) (t - 7 : Nat))) + (((rotl ((sched buf t) (t - 2 : Nat)) 15) ^^^ (rotl ((sched buf t) (t - 2 : Nat)) 13)) ^^^ (shr32 ((sched buf t) (t - 2 : Nat)) 10))))) (lay_at (pre := []) (mid := arr32 64 (sched buf t)) (post := []) (i := t) (by simp [digC_arr]) (by simp [arr32_len, arr8_len, digC_len]) (by simp [arr32_len, arr8_len, digC_len]; omega) (lay_arr32 _ _ (by omega)) (by simp)) ?_; clear hL; intro w11 hL hE
      replace hL : Vg.Loc [b] w0 w11 ([[(b1, ob (arr32 64 (upd (sched buf t) t (((((sched buf t) (t - 16 : Nat)) + (((rotl ((sched buf t) (t - 15 : Nat)) 25) ^^^ (rotl ((sched buf t) (t - 15 : Nat)) 14)) ^^^ (shr32 ((sched buf t) (t - 15 : Nat)) 3))) + ((sched buf t) (t - 7 : Nat))) + (((rotl ((sched buf t) (t - 2 : Nat)) 15) ^^^ (rotl ((sched buf t) (t - 2 : Nat)) 13)) ^^^ (shr32 ((sched buf t) (t - 2 : Nat)) 10))))) 235)], [(b, ob (arr32 8 h ++ (arr8 64 buf ++ ([(vI n)]))) 221)]]) := hL
      refine ⟨fun hn => absurd (by decide) hn, ?_⟩
      refine d_done (by kernel_rfl) ?_; clear hR hS
      refine blk_norm ?_
      refine then_norm ?_
      refine c_region ?_
      refine l_q hT (q_addI hT rfl rfl (r := (t : Int) + 1) rfl (by omega) (by omega)) rfl rfl (by decide) ?_; clear hT; intro a hT
      refine l_q hT (q_move hT rfl) rfl rfl (by decide) ?_; clear hT; intro a hT
      refine l_end ?_
      refine then_norm ?_
      exact ⟨_, ⟨t + 1, rfl, by omega, hT.keep [25, 0, 2] rfl, by rw [← sched_hi buf t (by omega)]; exact hL⟩, by simp only [id]; omega⟩
  · skip
    have hc1 := of_decide_eq_false hc1
    obtain rfl : t = 64 := by omega
    refine wp_exit ?_
    refine then_exit ?_
    refine then_exit ?_
    refine blk_exit ?_
    refine then_norm ?_
    refine c_seq ?_
    refine d_start' hL #[false, false, false, false, false, false, false, false, false, false, false, false, false, false, false, false, false, false, false, false, false, false, false, false, false, false, false, false, false, false, false, false, false, false, false, false, false, false, false, false, false, false, false, false, false, false, false, false] [] rfl rfl rfl ?_; clear hL; intro w12 hL hE; have hR := hL; have hS := Ext.refl w12
    refine d_pure (i := 0) hT #[true, false, false, false, false, false, false, false, false, false, false, false, false, false, false, false, false, false, false, false, false, false, false, false, false, false, false, false, false, false, false, false, false, false, false, false, false, false, false, false, false, false, false, false, false, false, false, false] rfl (by kernel_rfl) rfl rfl (by decide) (fun _ _ _ h => h) (fun _ => q_move hT rfl) ?_; clear hT; intro a hT
    refine d_pure (i := 1) hT #[true, true, false, false, false, false, false, false, false, false, false, false, false, false, false, false, false, false, false, false, false, false, false, false, false, false, false, false, false, false, false, false, false, false, false, false, false, false, false, false, false, false, false, false, false, false, false, false] rfl (by kernel_rfl) rfl rfl (by decide) (fun _ _ _ h => h) (fun _ => q_nilCheck hT rfl) ?_; clear hT; intro a hT
    refine d_pure (i := 2) hT #[true, true, true, false, false, false, false, false, false, false, false, false, false, false, false, false, false, false, false, false, false, false, false, false, false, false, false, false, false, false, false, false, false, false, false, false, false, false, false, false, false, false, false, false, false, false, false, false] rfl (by kernel_rfl) rfl rfl (by decide) (fun _ _ _ h => h) (fun _ => q_fieldAddr hT rfl Tryz.fld221_0 rfl) ?_; clear hT; intro a hT
    refine d_pure (i := 3) hT #[true, true, true, true, false, false, false, false, false, false, false, false, false, false, false, false, false, false, false, false, false, false, false, false, false, false, false, false, false, false, false, false, false, false, false, false, false, false, false, false, false, false, false, false, false, false, false, false] rfl (by kernel_rfl) rfl rfl (by decide) (fun _ _ _ h => h) (fun _ => (q_indexAddr_arr hT rfl rfl Tryz.arr189 (by omega) (by omega)).v (v := (vp b 0)) rfl) ?_; clear hT; intro a hT
    refine d_pure (i := 5) hT #[true, true, true, true, false, true, false, false, false, false, false, false, false, false, false, false, false, false, false, false, false, false, false, false, false, false, false, false, false, false, false, false, false, false, false, false, false, false, false, false, false, false, false, false, false, false, false, false] rfl (by kernel_rfl) rfl rfl (by decide) (fun _ _ _ h => h) (fun _ => q_move hT rfl) ?_; clear hT; intro a hT
    refine d_pure (i := 6) hT #[true, true, true, true, false, true, true, false, false, false, false, false, false, false, false, false, false, false, false, false, false, false, false, false, false, false, false, false, false, false, false, false, false, false, false, false, false, false, false, false, false, false, false, false, false, false, false, false] rfl (by kernel_rfl) rfl rfl (by decide) (fun _ _ _ h => h) (fun _ => q_nilCheck hT rfl) ?_; clear hT; intro a hT
    refine d_pure (i := 7) hT #[true, true, true, true, false, true, true, true, false, false, false, false, false, false, false, false, false, false, false, false, false, false, false, false, false, false, false, false, false, false, false, false, false, false, false, false, false, false, false, false, false, false, false, false, false, false, false, false] rfl (by kernel_rfl) rfl rfl (by decide) (fun _ _ _ h => h) (fun _ => q_fieldAddr hT rfl Tryz.fld221_0 rfl) ?_; clear hT; intro a hT
    refine d_pure (i := 8) hT #[true, true, true, true, false, true, true, true, true, false, false, false, false, false, false, false, false, false, false, false, false, false, false, false, false, false, false, false, false, false, false, false, false, false, false, false, false, false, false, false, false, false, false, false, false, false, false, false] rfl (by kernel_rfl) rfl rfl (by decide) (fun _ _ _ h => h) (fun _ => (q_indexAddr_arr hT rfl rfl Tryz.arr189 (by omega) (by omega)).v (v := (vp b 1)) rfl) ?_; clear hT; intro a hT
    refine d_pure (i := 10) hT #[true, true, true, true, false, true, true, true, true, false, true, false, false, false, false, false, false, false, false, false, false, false, false, false, false, false, false, false, false, false, false, false, false, false, false, false, false, false, false, false, false, false, false, false, false, false, false, false] rfl (by kernel_rfl) rfl rfl (by decide) (fun _ _ _ h => h) (fun _ => q_move hT rfl) ?_; clear hT; intro a hT
    refine d_pure (i := 11) hT #[true, true, true, true, false, true, true, true, true, false, true, true, false, false, false, false, false, false, false, false, false, false, false, false, false, false, false, false, false, false, false, false, false, false, false, false, false, false, false, false, false, false, false, false, false, false, false, false] rfl (by kernel_rfl) rfl rfl (by decide) (fun _ _ _ h => h) (fun _ => q_nilCheck hT rfl) ?_; clear hT; intro a hT
    refine d_pure (i := 12) hT #[true, true, true, true, false, true, true, true, true, false, true, true, true, false, false, false, false, false, false, false, false, false, false, false, false, false, false, false, false, false, false, false, false, false, false, false, false, false, false, false, false, false, false, false, false, false, false, false] rfl (by kernel_rfl) rfl rfl (by decide) (fun _ _ _ h => h) (fun _ => q_fieldAddr hT rfl Tryz.fld221_0 rfl) ?_; clear hT; intro a hT
    refine d_pure (i := 13) hT #[true, true, true, true, false, true, true, true, true, false, true, true, true, true, false, false, false, false, false, false, false, false, false, false, false, false, false, false, false, false, false, false, false, false, false, false, false, false, false, false, false, false, false, false, false, false, false, false] rfl (by kernel_rfl) rfl rfl (by decide) (fun _ _ _ h => h) (fun _ => (q_indexAddr_arr hT rfl rfl Tryz.arr189 (by omega) (by omega)).v (v := (vp b 2)) rfl) ?_; clear hT; intro a hT
    refine d_pure (i := 15) hT #[true, true, true, true, false, true, true, true, true, false, true, true, true, true, false, true, false, false, false, false, false, false, false, false, false, false, false, false, false, false, false, false, false, false, false, false, false, false, false, false, false, false, false, false, false, false, false, false] rfl (by kernel_rfl) rfl rfl (by decide) (fun _ _ _ h => h) (fun _ => q_move hT rfl) ?_; clear hT; intro a hT
    refine d_pure (i := 16) hT #[true, true, true, true, false, true, true, true, true, false, true, true, true, true, false, true, true, false, false, false, false, false, false, false, false, false, false, false, false, false, false, false, false, false, false, false, false, false, false, false, false, false, false, false, false, false, false, false] rfl (by kernel_rfl) rfl rfl (by decide) (fun _ _ _ h => h) (fun _ => q_nilCheck hT rfl) ?_; clear hT; intro a hT
    refine d_pure (i := 17) hT #[true, true, true, true, false, true, true, true, true, false, true, true, true, true, false, true, true, true, false, false, false, false, false, false, false, false, false, false, false, false, false, false, false, false, false, false, false, false, false, false, false, false, false, false, false, false, false, false] rfl (by kernel_rfl) rfl rfl (by decide) (fun _ _ _ h => h) (fun _ => q_fieldAddr hT rfl Tryz.fld221_0 rfl) ?_; clear hT; intro a hT
    refine d_pure (i := 18) hT #[true, true, true, true, false, true, true, true, true, false, true, true, true, true, false, true, true, true, true, false, false, false, false, false, false, false, false, false, false, false, false, false, false, false, false, false, false, false, false, false, false, false, false, false, false, false, false, false] rfl (by kernel_rfl) rfl rfl (by decide) (fun _ _ _ h => h) (fun _ => (q_indexAddr_arr hT rfl rfl Tryz.arr189 (by omega) (by omega)).v (v := (vp b 3)) rfl) ?_; clear hT; intro a hT
    refine d_pure (i := 20) hT #[true, true, true, true, false, true, true, true, true, false, true, true, true, true, false, true, true, true, true, false, true, false, false, false, false, false, false, false, false, false, false, false, false, false, false, false, false, false, false, false, false, false, false, false, false, false, false, false] rfl (by kernel_rfl) rfl rfl (by decide) (fun _ _ _ h => h) (fun _ => q_move hT rfl) ?_; clear hT; intro a hT
    refine d_pure (i := 21) hT #[true, true, true, true, false, true, true, true, true, false, true, true, true, true, false, true, true, true, true, false, true, true, false, false, false, false, false, false, false, false, false, false, false, false, false, false, false, false, false, false, false, false, false, false, false, false, false, false] rfl (by kernel_rfl) rfl rfl (by decide) (fun _ _ _ h => h) (fun _ => q_nilCheck hT rfl) ?_; clear hT; intro a hT
    refine d_pure (i := 22) hT #[true, true, true, true, false, true, true, true, true, false, true, true, true, true, false, true, true, true, true, false, true, true, true, false, false, false, false, false, false, false, false, false, false, false, false, false, false, false, false, false, false, false, false, false, false, false, false, false] rfl (by kernel_rfl) rfl rfl (by decide) (fun _ _ _ h => h) (fun _ => q_fieldAddr hT rfl Tryz.fld221_0 rfl) ?_; clear hT; intro a hT
    refine d_pure (i := 23) hT #[true, true, true, true, false, true, true, true, true, false, true, true, true, true, false, true, true, true, true, false, true, true, true, true, false, false, false, false, false, false, false, false, false, false, false, false, false, false, false, false, false, false, false, false, false, false, false, false] rfl (by kernel_rfl) rfl rfl (by decide) (fun _ _ _ h => h) (fun _ => (q_indexAddr_arr hT rfl rfl Tryz.arr189 (by omega) (by omega)).v (v := (vp b 4)) rfl) ?_; clear hT; intro a hT
    refine d_pure (i := 25) hT #[true, true, true, true, false, true, true, true, true, false, true, true, true, true, false, true, true, true, true, false, true, true, true, true, false, true, false, false, false, false, false, false, false, false, false, false, false, false, false, false, false, false, false, false, false, false, false, false] rfl (by kernel_rfl) rfl rfl (by decide) (fun _ _ _ h => h) (fun _ => q_move hT rfl) ?_; clear hT; intro a hT
    refine d_pure (i := 26) hT #[true, true, true, true, false, true, true, true, true, false, true, true, true, true, false, true, true, true, true, false, true, true, true, true, false, true, true, false, false, false, false, false, false, false, false, false, false, false, false, false, false, false, false, false, false, false, false, false] rfl (by kernel_rfl) rfl rfl (by decide) (fun _ _ _ h => h) (fun _ => q_nilCheck hT rfl) ?_; clear hT; intro a hT
    refine d_pure (i := 27) hT #[true, true, true, true, false, true, true, true, true, false, true, true, true, true, false, true, true, true, true, false, true, true, true, true, false, true, true, true, false, false, false, false, false, false, false, false, false, false, false, false, false, false, false, false, false, false, false, false] rfl (by kernel_rfl) rfl rfl (by decide) (fun _ _ _ h => h) (fun _ => q_fieldAddr hT rfl Tryz.fld221_0 rfl) ?_; clear hT; intro a hT
    refine d_pure (i := 28) hT #[true, true, true, true, false, true, true, true, true, false, true, true, true, true, false, true, true, true, true, false, true, true, true, true, false, true, true, true, true, false, false, false, false, false, false, false, false, false, false, false, false, false, false, false, false, false, false, false] rfl (by kernel_rfl) rfl rfl (by decide) (fun _ _ _ h => h) (fun _ => (q_indexAddr_arr hT rfl rfl Tryz.arr189 (by omega) (by omega)).v (v := (vp b 5)) rfl) ?_; clear hT; intro a hT
    refine d_pure (i := 30) hT #[true, true, true, true, false, true, true, true, true, false, true, true, true, true, false, true, true, true, true, false, true, true, true, true, false, true, true, true, true, false, true, false, false, false, false, false, false, false, false, false, false, false, false, false, false, false, false, false] rfl (by kernel_rfl) rfl rfl (by decide) (fun _ _ _ h => h) (fun _ => q_move hT rfl) ?_; clear hT; intro a hT
    refine d_pure (i := 31) hT #[true, true, true, true, false, true, true, true, true, false, true, true, true, true, false, true, true, true, true, false, true, true, true, true, false, true, true, true, true, false, true, true, false, false, false, false, false, false, false, false, false, false, false, false, false, false, false, false] rfl (by kernel_rfl) rfl rfl (by decide) (fun _ _ _ h => h) (fun _ => q_nilCheck hT rfl) ?_; clear hT; intro a hT
    refine d_pure (i := 32) hT #[true, true, true, true, false, true, true, true, true, false, true, true, true, true, false, true, true, true, true, false, true, true, true, true, false, true, true, true, true, false, true, true, true, false, false, false, false, false, false, false, false, false, false, false, false, false, false, false] rfl (by kernel_rfl) rfl rfl (by decide) (fun _ _ _ h => h) (fun _ => q_fieldAddr hT rfl Tryz.fld221_0 rfl) ?_; clear hT; intro a hT
    refine d_pure (i := 33) hT #[true, true, true, true, false, true, true, true, true, false, true, true, true, true, false, true, true, true, true, false, true, true, true, true, false, true, true, true, true, false, true, true, true, true, false, false, false, false, false, false, false, false, false, false, false, false, false, false] rfl (by kernel_rfl) rfl rfl (by decide) (fun _ _ _ h => h) (fun _ => (q_indexAddr_arr hT rfl rfl Tryz.arr189 (by omega) (by omega)).v (v := (vp b 6)) rfl) ?_; clear hT; intro a hT
    refine d_pure (i := 35) hT #[true, true, true, true, false, true, true, true, true, false, true, true, true, true, false, true, true, true, true, false, true, true, true, true, false, true, true, true, true, false, true, true, true, true, false, true, false, false, false, false, false, false, false, false, false, false, false, false] rfl (by kernel_rfl) rfl rfl (by decide) (fun _ _ _ h => h) (fun _ => q_move hT rfl) ?_; clear hT; intro a hT
    refine d_pure (i := 36) hT #[true, true, true, true, false, true, true, true, true, false, true, true, true, true, false, true, true, true, true, false, true, true, true, true, false, true, true, true, true, false, true, true, true, true, false, true, true, false, false, false, false, false, false, false, false, false, false, false] rfl (by kernel_rfl) rfl rfl (by decide) (fun _ _ _ h => h) (fun _ => q_nilCheck hT rfl) ?_; clear hT; intro a hT
    refine d_pure (i := 37) hT #[true, true, true, true, false, true, true, true, true, false, true, true, true, true, false, true, true, true, true, false, true, true, true, true, false, true, true, true, true, false, true, true, true, true, false, true, true, true, false, false, false, false, false, false, false, false, false, false] rfl (by kernel_rfl) rfl rfl (by decide) (fun _ _ _ h => h) (fun _ => q_fieldAddr hT rfl Tryz.fld221_0 rfl) ?_; clear hT; intro a hT
    refine d_pure (i := 38) hT #[true, true, true, true, false, true, true, true, true, false, true, true, true, true, false, true, true, true, true, false, true, true, true, true, false, true, true, true, true, false, true, true, true, true, false, true, true, true, true, false, false, false, false, false, false, false, false, false] rfl (by kernel_rfl) rfl rfl (by decide) (fun _ _ _ h => h) (fun _ => (q_indexAddr_arr hT rfl rfl Tryz.arr189 (by omega) (by omega)).v (v := (vp b 7)) rfl) ?_; clear hT; intro a hT
    refine d_take (i := 4) hT #[true, true, true, true, true, true, true, true, true, false, true, true, true, true, false, true, true, true, true, false, true, true, true, true, false, true, true, true, true, false, true, true, true, true, false, true, true, true, true, false, false, false, false, false, false, false, false, false] rfl (by kernel_rfl) rfl rfl (by decide) (fun _ _ _ h => h) (fun _ hs => q_load hT rfl Tryz.ty188 (Rd.ext (hR.rd 1 rfl 0 (ds := [(v32 (h 0))]) rfl) hs)) hS ?_; clear hT; intro a hT
    refine d_pure (i := 40) hT #[true, true, true, true, true, true, true, true, true, false, true, true, true, true, false, true, true, true, true, false, true, true, true, true, false, true, true, true, true, false, true, true, true, true, false, true, true, true, true, false, true, false, false, false, false, false, false, false] rfl (by kernel_rfl) rfl rfl (by decide) (fun _ _ _ h => h) (fun _ => q_assign hT rfl) ?_; clear hT; intro a hT
    refine d_take (i := 9) hT #[true, true, true, true, true, true, true, true, true, true, true, true, true, true, false, true, true, true, true, false, true, true, true, true, false, true, true, true, true, false, true, true, true, true, false, true, true, true, true, false, true, false, false, false, false, false, false, false] rfl (by kernel_rfl) rfl rfl (by decide) (fun _ _ _ h => h) (fun _ hs => q_load hT rfl Tryz.ty188 (Rd.ext (hR.rd 1 rfl 1 (ds := [(v32 (h 1))]) rfl) hs)) hS ?_; clear hT; intro a hT
    refine d_pure (i := 41) hT #[true, true, true, true, true, true, true, true, true, true, true, true, true, true, false, true, true, true, true, false, true, true, true, true, false, true, true, true, true, false, true, true, true, true, false, true, true, true, true, false, true, true, false, false, false, false, false, false] rfl (by kernel_rfl) rfl rfl (by decide) (fun _ _ _ h => h) (fun _ => q_assign hT rfl) ?_; clear hT; intro a hT
    refine d_take (i := 14) hT #[true, true, true, true, true, true, true, true, true, true, true, true, true, true, true, true, true, true, true, false, true, true, true, true, false, true, true, true, true, false, true, true, true, true, false, true, true, true, true, false, true, true, false, false, false, false, false, false] rfl (by kernel_rfl) rfl rfl (by decide) (fun _ _ _ h => h) (fun _ hs => q_load hT rfl Tryz.ty188 (Rd.ext (hR.rd 1 rfl 2 (ds := [(v32 (h 2))]) rfl) hs)) hS ?_; clear hT; intro a hT
    refine d_pure (i := 42) hT #[true, true, true, true, true, true, true, true, true, true, true, true, true, true, true, true, true, true, true, false, true, true, true, true, false, true, true, true, true, false, true, true, true, true, false, true, true, true, true, false, true, true, true, false, false, false, false, false] rfl (by kernel_rfl) rfl rfl (by decide) (fun _ _ _ h => h) (fun _ => q_assign hT rfl) ?_; clear hT; intro a hT
    refine d_take (i := 19) hT #[true, true, true, true, true, true, true, true, true, true, true, true, true, true, true, true, true, true, true, true, true, true, true, true, false, true, true, true, true, false, true, true, true, true, false, true, true, true, true, false, true, true, true, false, false, false, false, false] rfl (by kernel_rfl) rfl rfl (by decide) (fun _ _ _ h => h) (fun _ hs => q_load hT rfl Tryz.ty188 (Rd.ext (hR.rd 1 rfl 3 (ds := [(v32 (h 3))]) rfl) hs)) hS ?_; clear hT; intro a hT
    refine d_pure (i := 43) hT #[true, true, true, true, true, true, true, true, true, true, true, true, true, true, true, true, true, true, true, true, true, true, true, true, false, true, true, true, true, false, true, true, true, true, false, true, true, true, true, false, true, true, true, true, false, false, false, false] rfl (by kernel_rfl) rfl rfl (by decide) (fun _ _ _ h => h) (fun _ => q_assign hT rfl) ?_; clear hT; intro a hT
    refine d_take (i := 24) hT #[true, true, true, true, true, true, true, true, true, true, true, true, true, true, true, true, true, true, true, true, true, true, true, true, true, true, true, true, true, false, true, true, true, true, false, true, true, true, true, false, true, true, true, true, false, false, false, false] rfl (by kernel_rfl) rfl rfl (by decide) (fun _ _ _ h => h) (fun _ hs => q_load hT rfl Tryz.ty188 (Rd.ext (hR.rd 1 rfl 4 (ds := [(v32 (h 4))]) rfl) hs)) hS ?_; clear hT; intro a hT
    refine d_pure (i := 44) hT #[true, true, true, true, true, true, true, true, true, true, true, true, true, true, true, true, true, true, true, true, true, true, true, true, true, true, true, true, true, false, true, true, true, true, false, true, true, true, true, false, true, true, true, true, true, false, false, false] rfl (by kernel_rfl) rfl rfl (by decide) (fun _ _ _ h => h) (fun _ => q_assign hT rfl) ?_; clear hT; intro a hT
    refine d_take (i := 29) hT #[true, true, true, true, true, true, true, true, true, true, true, true, true, true, true, true, true, true, true, true, true, true, true, true, true, true, true, true, true, true, true, true, true, true, false, true, true, true, true, false, true, true, true, true, true, false, false, false] rfl (by kernel_rfl) rfl rfl (by decide) (fun _ _ _ h => h) (fun _ hs => q_load hT rfl Tryz.ty188 (Rd.ext (hR.rd 1 rfl 5 (ds := [(v32 (h 5))]) rfl) hs)) hS ?_; clear hT; intro a hT
    refine d_pure (i := 45) hT #[true, true, true, true, true, true, true, true, true, true, true, true, true, true, true, true, true, true, true, true, true, true, true, true, true, true, true, true, true, true, true, true, true, true, false, true, true, true, true, false, true, true, true, true, true, true, false, false] rfl (by kernel_rfl) rfl rfl (by decide) (fun _ _ _ h => h) (fun _ => q_assign hT rfl) ?_; clear hT; intro a hT
    refine d_take (i := 34) hT #[true, true, true, true, true, true, true, true, true, true, true, true, true, true, true, true, true, true, true, true, true, true, true, true, true, true, true, true, true, true, true, true, true, true, true, true, true, true, true, false, true, true, true, true, true, true, false, false] rfl (by kernel_rfl) rfl rfl (by decide) (fun _ _ _ h => h) (fun _ hs => q_load hT rfl Tryz.ty188 (Rd.ext (hR.rd 1 rfl 6 (ds := [(v32 (h 6))]) rfl) hs)) hS ?_; clear hT; intro a hT
    refine d_pure (i := 46) hT #[true, true, true, true, true, true, true, true, true, true, true, true, true, true, true, true, true, true, true, true, true, true, true, true, true, true, true, true, true, true, true, true, true, true, true, true, true, true, true, false, true, true, true, true, true, true, true, false] rfl (by kernel_rfl) rfl rfl (by decide) (fun _ _ _ h => h) (fun _ => q_assign hT rfl) ?_; clear hT; intro a hT
    refine d_take (i := 39) hT #[true, true, true, true, true, true, true, true, true, true, true, true, true, true, true, true, true, true, true, true, true, true, true, true, true, true, true, true, true, true, true, true, true, true, true, true, true, true, true, true, true, true, true, true, true, true, true, false] rfl (by kernel_rfl) rfl rfl (by decide) (fun _ _ _ h => h) (fun _ hs => q_load hT rfl Tryz.ty188 (Rd.ext (hR.rd 1 rfl 7 (ds := [(v32 (h 7))]) rfl) hs)) hS ?_; clear hT; intro a hT
    refine d_pure (i := 47) hT #[true, true, true, true, true, true, true, true, true, true, true, true, true, true, true, true, true, true, true, true, true, true, true, true, true, true, true, true, true, true, true, true, true, true, true, true, true, true, true, true, true, true, true, true, true, true, true, true] rfl (by kernel_rfl) rfl rfl (by decide) (fun _ _ _ h => h) (fun _ => q_assign hT rfl) ?_; clear hT; intro a hT
    refine d_done (by kernel_rfl) ?_; clear hR hS
    refine then_norm ?_
    refine c_seq ?_
    refine c_seq ?_
    refine c_region ?_
    refine l_q hT (q_load_agg hT rfl Tryz.ty235 (hL.rd 0 rfl 0 (ds := arr32 64 (sched buf 64)) rfl) rfl) rfl rfl (by decide) ?_; clear hT; intro a hT
    refine l_q hT (q_move hT rfl) rfl rfl (by decide) ?_; clear hT; intro a hT
    refine l_end ?_
    refine then_norm ?_
    refine wp_block ?_
    refine c_loop (fun mz a wz => ∃ t : Nat, mz = 64 - t ∧ t ≤ 64 ∧ Tm 227 a [(141, (vI (t : Int))), (0, (vp b 0)), (140, (Value.agg (arr32 64 (sched buf 64)).toArray)), (9, (v32 ((rounds h (sched buf 64) t).a))), (10, (v32 ((rounds h (sched buf 64) t).b))), (11, (v32 ((rounds h (sched buf 64) t).c))), (12, (v32 ((rounds h (sched buf 64) t).d))), (13, (v32 ((rounds h (sched buf 64) t).e))), (14, (v32 ((rounds h (sched buf 64) t).f))), (15, (v32 ((rounds h (sched buf 64) t).g))), (16, (v32 ((rounds h (sched buf 64) t).k)))] ∧ Vg.Loc [b] w0 wz [[(b1, ob (arr32 64 (sched buf 64)) 235)], [(b, ob (arr32 8 h ++ (arr8 64 buf ++ ([(vI n)]))) 221)]]) id 64 ?_ ?_
    · exact ⟨0, rfl, by omega, hT.keep [141, 0, 140, 9, 10, 11, 12, 13, 14, 15, 16] rfl, hL⟩
    clear hT hL
    rintro mz a w13 ⟨t, rfl, ht, hT, hL⟩
    refine c_seq ?_
    refine c_region ?_
    refine l_q hT (q_lss hT rfl rfl) rfl rfl (by decide) ?_; clear hT; intro a hT
    refine l_end ?_
    refine then_norm ?_
    refine c_seq ?_
    refine c_if hT rfl (fun hc3 => ?_) (fun hc3 => ?_)
    · skip
      have hc3 := of_decide_eq_true hc3
      refine wp_skip ?_
      refine then_norm ?_
      refine c_seq ?_
      refine wp_block ?_
      refine c_seq ?_
      refine c_region ?_
      refine l_q hT (q_move hT rfl) rfl rfl (by decide) ?_; clear hT; intro a hT
      refine l_q hT (q_index_arr (cs := arr32 64 (sched buf 64)) (v := (v32 ((sched buf 64) t))) hT rfl rfl Tryz.arr235 (by omega) (by omega) (by simpa using arr32_get (sched buf 64) (by omega))) rfl rfl (by decide) ?_; clear hT; intro a hT
      refine l_q hT (q_assign hT rfl) rfl rfl (by decide) ?_; clear hT; intro a hT
      refine l_q hT (q_assign hT rfl) rfl rfl (by decide) ?_; clear hT; intro a hT
      refine l_end ?_
      refine then_norm ?_
      refine c_seq ?_
      refine c_region ?_
      refine l_q hT (q_move hT rfl) rfl rfl (by decide) ?_; clear hT; intro a hT
      refine l_do rfl ?_
      refine w_callT (xs := [.tmp 145, .const (.int .i64 (-6))]) hT rfl (vs := [(v32 ((rounds h (sched buf 64) t).e)), (vI (-6))]) rfl (args := #[(v32 ((rounds h (sched buf 64) t).e)), (vI (-6))]) rfl Tryz.func189 rfl rfl (by decide) ((rotl_spec ((rounds h (sched buf 64) t).e) (-6) 26 (by decide) (by decide) (by decide) _).mono ?_)
      rintro e w14 ⟨rfl, hX⟩
      refine ⟨_, rfl, ?_⟩; clear hT; intro a hT; replace hT : Tm 227 a ((146, (v32 (rotl ((rounds h (sched buf 64) t).e) 26))) :: _) := hT
      replace hL := hL.ext hX
      refine l_q hT (q_move hT rfl) rfl rfl (by decide) ?_; clear hT; intro a hT
      refine l_do rfl ?_
      refine w_callT (xs := [.tmp 147, .const (.int .i64 (-11))]) hT rfl (vs := [(v32 ((rounds h (sched buf 64) t).e)), (vI (-11))]) rfl (args := #[(v32 ((rounds h (sched buf 64) t).e)), (vI (-11))]) rfl Tryz.func189 rfl rfl (by decide) ((rotl_spec ((rounds h (sched buf 64) t).e) (-11) 21 (by decide) (by decide) (by decide) _).mono ?_)
      rintro e w15 ⟨rfl, hX⟩
      refine ⟨_, rfl, ?_⟩; clear hT; intro a hT; replace hT : Tm 227 a ((148, (v32 (rotl ((rounds h (sched buf 64) t).e) 21))) :: _) := hT
      replace hL := hL.ext hX
      refine l_q hT (q_xor32 (u := rotl ((rounds h (sched buf 64) t).e) 26) (v := rotl ((rounds h (sched buf 64) t).e) 21) hT rfl rfl) rfl rfl (by decide) ?_; clear hT; intro a hT
      refine l_q hT (q_move hT rfl) rfl rfl (by decide) ?_; clear hT; intro a hT
      refine l_do rfl ?_
      refine w_callT (xs := [.tmp 150, .const (.int .i64 (-25))]) hT rfl (vs := [(v32 ((rounds h (sched buf 64) t).e)), (vI (-25))]) rfl (args := #[(v32 ((rounds h (sched buf 64) t).e)), (vI (-25))]) rfl Tryz.func189 rfl rfl (by decide) ((rotl_spec ((rounds h (sched buf 64) t).e) (-25) 7 (by decide) (by decide) (by decide) _).mono ?_)
      rintro e w16 ⟨rfl, hX⟩
      refine ⟨_, rfl, ?_⟩; clear hT; intro a hT; replace hT : Tm 227 a ((151, (v32 (rotl ((rounds h (sched buf 64) t).e) 7))) :: _) := hT
      replace hL := hL.ext hX
      refine l_q hT (q_xor32 (u := (rotl ((rounds h (sched buf 64) t).e) 26) ^^^ (rotl ((rounds h (sched buf 64) t).e) 21)) (v := rotl ((rounds h (sched buf 64) t).e) 7) hT rfl rfl) rfl rfl (by decide) ?_; clear hT; intro a hT
      refine l_q hT (q_assign hT rfl) rfl rfl (by decide) ?_; clear hT; intro a hT
      refine l_end ?_
      refine then_norm ?_
      refine c_seq ?_
      refine c_region ?_
      refine l_q hT (q_move hT rfl) rfl rfl (by decide) ?_; clear hT; intro a hT
      refine l_q hT (q_move hT rfl) rfl rfl (by decide) ?_; clear hT; intro a hT
      refine l_q hT (q_add32 (u := (rounds h (sched buf 64) t).k) (v := ((rotl ((rounds h (sched buf 64) t).e) 26) ^^^ (rotl ((rounds h (sched buf 64) t).e) 21)) ^^^ (rotl ((rounds h (sched buf 64) t).e) 7)) hT rfl rfl) rfl rfl (by decide) ?_; clear hT; intro a hT
      refine l_q hT (q_move hT rfl) rfl rfl (by decide) ?_; clear hT; intro a hT
      refine l_q hT (q_move hT rfl) rfl rfl (by decide) ?_; clear hT; intro a hT
      refine l_q hT (q_move hT rfl) rfl rfl (by decide) ?_; clear hT; intro a hT
      refine l_q hT (q_xor32 (u := (rounds h (sched buf 64) t).f) (v := (rounds h (sched buf 64) t).g) hT rfl rfl) rfl rfl (by decide) ?_; clear hT; intro a hT
      refine l_q hT (q_and32 (u := (rounds h (sched buf 64) t).e) (v := ((rounds h (sched buf 64) t).f) ^^^ ((rounds h (sched buf 64) t).g)) hT rfl rfl) rfl rfl (by decide) ?_; clear hT; intro a hT
      refine l_q hT (q_move hT rfl) rfl rfl (by decide) ?_; clear hT; intro a hT
      refine l_q hT (q_xor32 (u := ((rounds h (sched buf 64) t).e) &&& (((rounds h (sched buf 64) t).f) ^^^ ((rounds h (sched buf 64) t).g))) (v := (rounds h (sched buf 64) t).g) hT rfl rfl) rfl rfl (by decide) ?_; clear hT; intro a hT
      refine l_q hT (q_add32 (u := ((rounds h (sched buf 64) t).k) + (((rotl ((rounds h (sched buf 64) t).e) 26) ^^^ (rotl ((rounds h (sched buf 64) t).e) 21)) ^^^ (rotl ((rounds h (sched buf 64) t).e) 7))) (v := (((rounds h (sched buf 64) t).e) &&& (((rounds h (sched buf 64) t).f) ^^^ ((rounds h (sched buf 64) t).g))) ^^^ ((rounds h (sched buf 64) t).g)) hT rfl rfl) rfl rfl (by decide) ?_; clear hT; intro a hT
      refine l_q hT (q_move hT rfl) rfl rfl (by decide) ?_; clear hT; intro a hT
      refine l_q hT ((q_indexAddr_arr hT rfl rfl Tryz.arr235 (by omega) (by omega)).v (v := vp 1 (0 + t)) (by simp)) rfl rfl (by decide) ?_; clear hT; intro a hT
      refine l_q hT (q_load hT rfl Tryz.ty188 (Rd.at32 ((hK.of hL hb0)) (i := t) (by omega))) rfl rfl (by decide) ?_; clear hT; intro a hT
      refine l_q hT (q_add32 (u := (((rounds h (sched buf 64) t).k) + (((rotl ((rounds h (sched buf 64) t).e) 26) ^^^ (rotl ((rounds h (sched buf 64) t).e) 21)) ^^^ (rotl ((rounds h (sched buf 64) t).e) 7))) + ((((rounds h (sched buf 64) t).e) &&& (((rounds h (sched buf 64) t).f) ^^^ ((rounds h (sched buf 64) t).g))) ^^^ ((rounds h (sched buf 64) t).g))) (v := keyF t) hT rfl rfl) rfl rfl (by decide) ?_; clear hT; intro a hT
      refine l_q hT (q_move hT rfl) rfl rfl (by decide) ?_; clear hT; intro a hT
      refine l_q hT (q_add32 (u := ((((rounds h (sched buf 64) t).k) + (((rotl ((rounds h (sched buf 64) t).e) 26) ^^^ (rotl ((rounds h (sched buf 64) t).e) 21)) ^^^ (rotl ((rounds h (sched buf 64) t).e) 7))) + ((((rounds h (sched buf 64) t).e) &&& (((rounds h (sched buf 64) t).f) ^^^ ((rounds h (sched buf 64) t).g))) ^^^ ((rounds h (sched buf 64) t).g))) + (keyF t)) (v := (sched buf 64) t) hT rfl rfl) rfl rfl (by decide) ?_; clear hT; intro a hT
      refine l_q hT (q_assign hT rfl) rfl rfl (by decide) ?_; clear hT; intro a hT
      refine l_end ?_
      refine then_norm ?_
      refine c_seq ?_
      refine c_region ?_
      refine l_q hT (q_move hT rfl) rfl rfl (by decide) ?_; clear hT; intro a hT
      refine l_do rfl ?_
      refine w_callT (xs := [.tmp 170, .const (.int .i64 (-2))]) hT rfl (vs := [(v32 ((rounds h (sched buf 64) t).a)), (vI (-2))]) rfl (args := #[(v32 ((rounds h (sched buf 64) t).a)), (vI (-2))]) rfl Tryz.func189 rfl rfl (by decide) ((rotl_spec ((rounds h (sched buf 64) t).a) (-2) 30 (by decide) (by decide) (by decide) _).mono ?_)
      rintro e w17 ⟨rfl, hX⟩
      refine ⟨_, rfl, ?_⟩; clear hT; intro a hT; replace hT : Tm 227 a ((171, (v32 (rotl ((rounds h (sched buf 64) t).a) 30))) :: _) := hT
      replace hL := hL.ext hX
      refine l_q hT (q_move hT rfl) rfl rfl (by decide) ?_; clear hT; intro a hT
      refine l_do rfl ?_
      refine w_callT (xs := [.tmp 172, .const (.int .i64 (-13))]) hT rfl (vs := [(v32 ((rounds h (sched buf 64) t).a)), (vI (-13))]) rfl (args := #[(v32 ((rounds h (sched buf 64) t).a)), (vI (-13))]) rfl Tryz.func189 rfl rfl (by decide) ((rotl_spec ((rounds h (sched buf 64) t).a) (-13) 19 (by decide) (by decide) (by decide) _).mono ?_)
      rintro e w18 ⟨rfl, hX⟩
      refine ⟨_, rfl, ?_⟩; clear hT; intro a hT; replace hT : Tm 227 a ((173, (v32 (rotl ((rounds h (sched buf 64) t).a) 19))) :: _) := hT
      replace hL := hL.ext hX
      refine l_q hT (q_xor32 (u := rotl ((rounds h (sched buf 64) t).a) 30) (v := rotl ((rounds h (sched buf 64) t).a) 19) hT rfl rfl) rfl rfl (by decide) ?_; clear hT; intro a hT
      refine l_q hT (q_move hT rfl) rfl rfl (by decide) ?_; clear hT; intro a hT
      refine l_do rfl ?_
      refine w_callT (xs := [.tmp 175, .const (.int .i64 (-22))]) hT rfl (vs := [(v32 ((rounds h (sched buf 64) t).a)), (vI (-22))]) rfl (args := #[(v32 ((rounds h (sched buf 64) t).a)), (vI (-22))]) rfl Tryz.func189 rfl rfl (by decide) ((rotl_spec ((rounds h (sched buf 64) t).a) (-22) 10 (by decide) (by decide) (by decide) _).mono ?_)
      rintro e w19 ⟨rfl, hX⟩
      refine ⟨_, rfl, ?_⟩; clear hT; intro a hT; replace hT : Tm 227 a ((176, (v32 (rotl ((rounds h (sched buf 64) t).a) 10))) :: _) := hT
      replace hL := hL.ext hX
      refine l_q hT (q_xor32 (u := (rotl ((rounds h (sched buf 64) t).a) 30) ^^^ (rotl ((rounds h (sched buf 64) t).a) 19)) (v := rotl ((rounds h (sched buf 64) t).a) 10) hT rfl rfl) rfl rfl (by decide) ?_; clear hT; intro a hT
      refine l_q hT (q_assign hT rfl) rfl rfl (by decide) ?_; clear hT; intro a hT
      refine l_end ?_
      refine then_norm ?_
      refine c_seq ?_
      refine c_region ?_
      refine l_q hT (q_move hT rfl) rfl rfl (by decide) ?_; clear hT; intro a hT
      refine l_q hT (q_move hT rfl) rfl rfl (by decide) ?_; clear hT; intro a hT
      refine l_q hT (q_move hT rfl) rfl rfl (by decide) ?_; clear hT; intro a hT
      refine l_q hT (q_and32 (u := (rounds h (sched buf 64) t).a) (v := (rounds h (sched buf 64) t).b) hT rfl rfl) rfl rfl (by decide) ?_; clear hT; intro a hT
      refine l_q hT (q_move hT rfl) rfl rfl (by decide) ?_; clear hT; intro a hT
      refine l_q hT (q_move hT rfl) rfl rfl (by decide) ?_; clear hT; intro a hT
      refine l_q hT (q_move hT rfl) rfl rfl (by decide) ?_; clear hT; intro a hT
      refine l_q hT (q_or32 (u := (rounds h (sched buf 64) t).a) (v := (rounds h (sched buf 64) t).b) hT rfl rfl) rfl rfl (by decide) ?_; clear hT; intro a hT
      refine l_q hT (q_and32 (u := (rounds h (sched buf 64) t).c) (v := ((rounds h (sched buf 64) t).a) ||| ((rounds h (sched buf 64) t).b)) hT rfl rfl) rfl rfl (by decide) ?_; clear hT; intro a hT
      refine l_q hT (q_or32 (u := ((rounds h (sched buf 64) t).a) &&& ((rounds h (sched buf 64) t).b)) (v := ((rounds h (sched buf 64) t).c) &&& (((rounds h (sched buf 64) t).a) ||| ((rounds h (sched buf 64) t).b))) hT rfl rfl) rfl rfl (by decide) ?_; clear hT; intro a hT
      refine l_q hT (q_add32 (u := ((rotl ((rounds h (sched buf 64) t).a) 30) ^^^ (rotl ((rounds h (sched buf 64) t).a) 19)) ^^^ (rotl ((rounds h (sched buf 64) t).a) 10)) (v := (((rounds h (sched buf 64) t).a) &&& ((rounds h (sched buf 64) t).b)) ||| (((rounds h (sched buf 64) t).c) &&& (((rounds h (sched buf 64) t).a) ||| ((rounds h (sched buf 64) t).b)))) hT rfl rfl) rfl rfl (by decide) ?_; clear hT; intro a hT
      refine l_q hT (q_assign hT rfl) rfl rfl (by decide) ?_; clear hT; intro a hT
      refine l_end ?_
      refine then_norm ?_
      refine c_region ?_
      refine l_q hT (q_move hT rfl) rfl rfl (by decide) ?_; clear hT; intro a hT
      refine l_q hT (q_move hT rfl) rfl rfl (by decide) ?_; clear hT; intro a hT
      refine l_q hT (q_add32 (u := (((((rounds h (sched buf 64) t).k) + (((rotl ((rounds h (sched buf 64) t).e) 26) ^^^ (rotl ((rounds h (sched buf 64) t).e) 21)) ^^^ (rotl ((rounds h (sched buf 64) t).e) 7))) + ((((rounds h (sched buf 64) t).e) &&& (((rounds h (sched buf 64) t).f) ^^^ ((rounds h (sched buf 64) t).g))) ^^^ ((rounds h (sched buf 64) t).g))) + (keyF t)) + ((sched buf 64) t)) (v := (((rotl ((rounds h (sched buf 64) t).a) 30) ^^^ (rotl ((rounds h (sched buf 64) t).a) 19)) ^^^ (rotl ((rounds h (sched buf 64) t).a) 10)) + ((((rounds h (sched buf 64) t).a) &&& ((rounds h (sched buf 64) t).b)) ||| (((rounds h (sched buf 64) t).c) &&& (((rounds h (sched buf 64) t).a) ||| ((rounds h (sched buf 64) t).b))))) hT rfl rfl) rfl rfl (by decide) ?_; clear hT; intro a hT
      refine l_q hT (q_move hT rfl) rfl rfl (by decide) ?_; clear hT; intro a hT
      refine l_q hT (q_move hT rfl) rfl rfl (by decide) ?_; clear hT; intro a hT
      refine l_q hT (q_move hT rfl) rfl rfl (by decide) ?_; clear hT; intro a hT
      refine l_q hT (q_move hT rfl) rfl rfl (by decide) ?_; clear hT; intro a hT
      refine l_q hT (q_move hT rfl) rfl rfl (by decide) ?_; clear hT; intro a hT
      refine l_q hT (q_add32 (u := (rounds h (sched buf 64) t).d) (v := (((((rounds h (sched buf 64) t).k) + (((rotl ((rounds h (sched buf 64) t).e) 26) ^^^ (rotl ((rounds h (sched buf 64) t).e) 21)) ^^^ (rotl ((rounds h (sched buf 64) t).e) 7))) + ((((rounds h (sched buf 64) t).e) &&& (((rounds h (sched buf 64) t).f) ^^^ ((rounds h (sched buf 64) t).g))) ^^^ ((rounds h (sched buf 64) t).g))) + (keyF t)) + ((sched buf 64) t)) hT rfl rfl) rfl rfl (by decide) ?_; clear hT; intro a hT
      refine l_q hT (q_move hT rfl) rfl rfl (by decide) ?_; clear hT; intro a hT
      refine l_q hT (q_move hT rfl) rfl rfl (by decide) ?_; clear hT; intro a hT
      refine l_q hT (q_move hT rfl) rfl rfl (by decide) ?_; clear hT; intro a hT
      refine l_q hT (q_assign hT rfl) rfl rfl (by decide) ?_; clear hT; intro a hT
      refine l_q hT (q_assign hT rfl) rfl rfl (by decide) ?_; clear hT; intro a hT
      refine l_q hT (q_assign hT rfl) rfl rfl (by decide) ?_; clear hT; intro a hT
      refine l_q hT (q_assign hT rfl) rfl rfl (by decide) ?_; clear hT; intro a hT
      refine l_q hT (q_assign hT rfl) rfl rfl (by decide) ?_; clear hT; intro a hT
      refine l_q hT (q_assign hT rfl) rfl rfl (by decide) ?_; clear hT; intro a hT
      refine l_q hT (q_assign hT rfl) rfl rfl (by decide) ?_; clear hT; intro a hT
      refine l_q hT (q_assign hT rfl) rfl rfl (by decide) ?_; clear hT; intro a hT
      refine l_end ?_
      refine blk_norm ?_
      refine then_norm ?_
      refine c_region ?_
      refine l_q hT (q_addI hT rfl rfl (r := (t : Int) + 1) rfl (by omega) (by omega)) rfl rfl (by decide) ?_; clear hT; intro a hT
      refine l_q hT (q_move hT rfl) rfl rfl (by decide) ?_; clear hT; intro a hT
      refine l_end ?_
      refine then_norm ?_
      exact ⟨_, ⟨t + 1, rfl, by omega, hT.keep [141, 0, 140, 9, 10, 11, 12, 13, 14, 15, 16] rfl, hL⟩, by simp only [id]; omega⟩
    · skip
      have hc3 := of_decide_eq_false hc3
      obtain rfl : t = 64 := by omega
      refine wp_exit ?_
      refine then_exit ?_
      refine then_exit ?_
      refine blk_exit ?_
      refine then_norm ?_
      refine c_seq ?_
      refine c_region ?_
      refine l_q hT (q_move hT rfl) rfl rfl (by decide) ?_; clear hT; intro a hT
      refine l_q hT (q_move hT rfl) rfl rfl (by decide) ?_; clear hT; intro a hT
      refine l_q hT (q_move hT rfl) rfl rfl (by decide) ?_; clear hT; intro a hT
      refine l_q hT (q_move hT rfl) rfl rfl (by decide) ?_; clear hT; intro a hT
      refine l_q hT (q_move hT rfl) rfl rfl (by decide) ?_; clear hT; intro a hT
      refine l_q hT (q_move hT rfl) rfl rfl (by decide) ?_; clear hT; intro a hT
      refine l_q hT (q_move hT rfl) rfl rfl (by decide) ?_; clear hT; intro a hT
      refine l_q hT (q_move hT rfl) rfl rfl (by decide) ?_; clear hT; intro a hT
      refine l_q hT (q_build (ps := [(0, .tmp 202), (1, .tmp 203), (2, .tmp 204), (3, .tmp 205), (4, .tmp 206), (5, .tmp 207), (6, .tmp 208), (7, .tmp 209)]) (pv := [(0, (v32 ((rounds h (sched buf 64) 64).a))), (1, (v32 ((rounds h (sched buf 64) 64).b))), (2, (v32 ((rounds h (sched buf 64) 64).c))), (3, (v32 ((rounds h (sched buf 64) 64).d))), (4, (v32 ((rounds h (sched buf 64) 64).e))), (5, (v32 ((rounds h (sched buf 64) 64).f))), (6, (v32 ((rounds h (sched buf 64) 64).g))), (7, (v32 ((rounds h (sched buf 64) 64).k)))]) (v := .agg [(v32 ((rounds h (sched buf 64) 64).a)), (v32 ((rounds h (sched buf 64) 64).b)), (v32 ((rounds h (sched buf 64) 64).c)), (v32 ((rounds h (sched buf 64) 64).d)), (v32 ((rounds h (sched buf 64) 64).e)), (v32 ((rounds h (sched buf 64) 64).f)), (v32 ((rounds h (sched buf 64) 64).g)), (v32 ((rounds h (sched buf 64) 64).k))].toArray) hT rfl (fun _ => by kernel_rfl)) rfl rfl (by decide) ?_; clear hT; intro a hT
      refine l_q hT (q_move hT rfl) rfl rfl (by decide) ?_; clear hT; intro a hT
      refine l_end ?_
      refine then_norm ?_
      refine wp_block ?_
      refine c_loop (fun mz a wz => ∃ t : Nat, mz = 8 - t ∧ t ≤ 8 ∧ Tm 227 a [(211, (vI (t : Int))), (0, (vp b 0)), (210, (Value.agg (arr32 8 ((rounds h (sched buf 64) 64).at)).toArray))] ∧ Vg.Loc [b] w0 wz [[(b1, ob (arr32 64 (sched buf 64)) 235)], [(b, ob (arr32 8 (mixTo h (rounds h (sched buf 64) 64) t) ++ (arr8 64 buf ++ ([(vI n)]))) 221)]]) id 8 ?_ ?_
      · exact ⟨0, rfl, by omega, hT.keep [211, 0, 210] rfl, hL⟩
      clear hT hL
      rintro mz a w20 ⟨t, rfl, ht, hT, hL⟩
      refine c_seq ?_
      refine c_region ?_
      refine l_q hT (q_lss hT rfl rfl) rfl rfl (by decide) ?_; clear hT; intro a hT
      refine l_end ?_
      refine then_norm ?_
      refine c_seq ?_
      refine c_if hT rfl (fun hc4 => ?_) (fun hc4 => ?_)
      · skip
        have hc4 := of_decide_eq_true hc4
        refine wp_skip ?_
        refine then_norm ?_
        refine c_seq ?_
        refine wp_block ?_
        refine c_seq ?_
        refine c_region ?_
        refine l_q hT (q_move hT rfl) rfl rfl (by decide) ?_; clear hT; intro a hT
        refine l_q hT (q_index_arr (cs := arr32 8 ((rounds h (sched buf 64) 64).at)) (v := (v32 (((rounds h (sched buf 64) 64).at) t))) hT rfl rfl Tryz.arr189 (by omega) (by omega) (by simpa using arr32_get ((rounds h (sched buf 64) 64).at) (by omega))) rfl rfl (by decide) ?_; clear hT; intro a hT
        refine l_q hT (q_assign hT rfl) rfl rfl (by decide) ?_; clear hT; intro a hT
        refine l_q hT (q_assign hT rfl) rfl rfl (by decide) ?_; clear hT; intro a hT
        refine l_end ?_
        refine then_norm ?_
        refine d_start' hL #[false, false, false, false, false, false, false, false, false, false, false, false] [11] rfl rfl rfl ?_; clear hL; intro w21 hL hE; have hR := hL; have hS := Ext.refl w21
        refine d_pure (i := 0) hT #[true, false, false, false, false, false, false, false, false, false, false, false] rfl (by kernel_rfl) rfl rfl (by decide) (fun _ _ _ h => h) (fun _ => q_move hT rfl) ?_; clear hT; intro a hT
        refine d_pure (i := 1) hT #[true, true, false, false, false, false, false, false, false, false, false, false] rfl (by kernel_rfl) rfl rfl (by decide) (fun _ _ _ h => h) (fun _ => q_move hT rfl) ?_; clear hT; intro a hT
        refine d_pure (i := 2) hT #[true, true, true, false, false, false, false, false, false, false, false, false] rfl (by kernel_rfl) rfl rfl (by decide) (fun _ _ _ h => h) (fun _ => q_nilCheck hT rfl) ?_; clear hT; intro a hT
        refine d_pure (i := 3) hT #[true, true, true, true, false, false, false, false, false, false, false, false] rfl (by kernel_rfl) rfl rfl (by decide) (fun _ _ _ h => h) (fun _ => q_fieldAddr hT rfl Tryz.fld221_0 rfl) ?_; clear hT; intro a hT
        refine d_pure (i := 4) hT #[true, true, true, true, true, false, false, false, false, false, false, false] rfl (by kernel_rfl) rfl rfl (by decide) (fun _ _ _ h => h) (fun _ => (q_indexAddr_arr hT rfl rfl Tryz.arr189 (by omega) (by omega)).v (v := vp b (0 + t)) (by simp)) ?_; clear hT; intro a hT
        refine d_pure (i := 6) hT #[true, true, true, true, true, false, true, false, false, false, false, false] rfl (by kernel_rfl) rfl rfl (by decide) (fun _ _ _ h => h) (fun _ => q_move hT rfl) ?_; clear hT; intro a hT
        refine d_pure (i := 8) hT #[true, true, true, true, true, false, true, false, true, false, false, false] rfl (by kernel_rfl) rfl rfl (by decide) (fun _ _ _ h => h) (fun _ => q_nilCheck hT rfl) ?_; clear hT; intro a hT
        refine d_pure (i := 9) hT #[true, true, true, true, true, false, true, false, true, true, false, false] rfl (by kernel_rfl) rfl rfl (by decide) (fun _ _ _ h => h) (fun _ => q_fieldAddr hT rfl Tryz.fld221_0 rfl) ?_; clear hT; intro a hT
        refine d_take (i := 5) hT #[true, true, true, true, true, true, true, false, true, true, false, false] rfl (by kernel_rfl) rfl rfl (by decide) (fun _ _ _ h => h) (fun _ hs => q_load hT rfl Tryz.ty188 (Rd.ext (Rd.at32 (hR.rd 1 rfl 0 (ds := arr32 8 (mixTo h (rounds h (sched buf 64) 64) t)) rfl) (i := t) (by omega)) hs)) hS ?_; clear hT; intro a hT
        refine d_pure (i := 7) hT #[true, true, true, true, true, true, true, true, true, true, false, false] rfl (by kernel_rfl) rfl rfl (by decide) (fun _ _ _ h => h) (fun _ => q_add32 (u := (mixTo h (rounds h (sched buf 64) 64) t) t) (v := ((rounds h (sched buf 64) 64).at) t) hT rfl rfl) ?_; clear hT; intro a hT
        refine d_pure (i := 10) hT #[true, true, true, true, true, true, true, true, true, true, true, false] rfl (by kernel_rfl) rfl rfl (by decide) (fun _ _ _ h => h) (fun _ => (q_indexAddr_arr hT rfl rfl Tryz.arr189 (by omega) (by omega)).v (v := vp b (0 + t)) (by simp)) ?_; clear hT; intro a hT
        refine d_one (i := 11) hT #[true, true, true, true, true, true, true, true, true, true, true, true] rfl (by kernel_rfl) rfl ?_
        refine w_store hT hL 1 (c := arr32 8 (mixTo h (rounds h (sched buf 64) 64) t) ++ (arr8 64 buf ++ ([(vI n)]))) rfl rfl Tryz.ty188 rfl (vs := [(v32 (((mixTo h (rounds h (sched buf 64) 64) t) t) + (((rounds h (sched buf 64) 64).at) t)))]) rfl rfl (by simp [arr32_len, arr8_len, digC_len]; omega) rfl (c' := arr32 8 (upd (mixTo h (rounds h (sched buf 64) 64) t) t (((mixTo h (rounds h (sched buf 64) 64) t) t) + (((rounds h (sched buf 64) 64).at) t))) ++ (arr8 64 buf ++ ([(vI n)]))) (lay_at (pre := []) (mid := arr32 8 (mixTo h (rounds h (sched buf 64) 64) t)) (post := arr8 64 buf ++ ([(vI n)])) (i := t) (by simp [digC_arr]) (by simp [arr32_len, arr8_len, digC_len]) (by simp [arr32_len, arr8_len, digC_len]; omega) (lay_arr32 _ _ (by omega)) (by simp)) ?_; clear hL; intro w22 hL hE
        replace hL : Vg.Loc [b] w0 w22 ([[(b1, ob (arr32 64 (sched buf 64)) 235)], [(b, ob (arr32 8 (upd (mixTo h (rounds h (sched buf 64) 64) t) t (((mixTo h (rounds h (sched buf 64) 64) t) t) + (((rounds h (sched buf 64) 64).at) t))) ++ (arr8 64 buf ++ ([(vI n)]))) 221)]]) := hL
        refine ⟨fun hn => absurd (by decide) hn, ?_⟩
        refine d_done (by kernel_rfl) ?_; clear hR hS
        refine blk_norm ?_
        refine then_norm ?_
        refine c_region ?_
        refine l_q hT (q_addI hT rfl rfl (r := (t : Int) + 1) rfl (by omega) (by omega)) rfl rfl (by decide) ?_; clear hT; intro a hT
        refine l_q hT (q_move hT rfl) rfl rfl (by decide) ?_; clear hT; intro a hT
        refine l_end ?_
        refine then_norm ?_
        exact ⟨_, ⟨t + 1, rfl, by omega, hT.keep [211, 0, 210] rfl, by rw [mixTo_succ]; exact hL⟩, by simp only [id]; omega⟩
      · skip
        have hc4 := of_decide_eq_false hc4
        obtain rfl : t = 8 := by omega
        refine wp_exit ?_
        refine then_exit ?_
        refine then_exit ?_
        refine blk_exit ?_
        refine c_fall (vs := []) (rs := []) hT rfl .nil ?_
        exact ⟨rfl, mixTo_8 h buf ▸ hL.sub (.cons _ (.cons_cons _ .slnil))⟩
end Go.Proofs.YtcaffacganffjaaGreatDoor
end
