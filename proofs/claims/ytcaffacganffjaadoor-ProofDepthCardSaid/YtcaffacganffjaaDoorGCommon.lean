/- The walks of a part of the program: GCommon. Printed by a program of the prover. -/
import Derived.Test.YtcaffacganffjaaDoorVDig
import Derived.Test.YtcaffacganffjaaDoorVTypes
import Derived.Test.YtcaffacganffjaaDoorVCommon
import Derived.Test.YtcaffacganffjaaDoorGPath
namespace Go.Proofs.YtcaffacganffjaaDoor
open Go Go.Vg


set_option maxRecDepth 20000 in
set_option maxHeartbeats 1000000 in
theorem Len8_spec (x : UInt8) (w0 : World) :
    Calls Tryd.prog 28 #[(v8 x)] w0 fun e w' => e = .returned (vI ((lenN x.toNat : Nat) : Int)) ∧ Ext w0 w' := by
  refine c_enter (n := 6) (args := [(v8 x)]) Tryd.func28 rfl rfl (Nat.le_of_ble_eq_true rfl) rfl (fun a hT => ?_)
  simp only [List.zipIdx_cons, List.zipIdx_nil, List.map_cons, List.map_nil, Nat.reduceAdd] at hT
  have hL := Vg.Loc.refl [] w0
  refine c_seq ?_
  refine c_region ?_
  refine l_q hT (q_assign hT rfl) rfl rfl (by decide) ?_; clear hT; intro a hT
  refine l_end ?_
  refine then_norm ?_
  refine c_seq ?_
  refine c_region ?_
  refine l_q hT (q_move hT rfl) rfl rfl (by decide) ?_; clear hT; intro a hT
  refine l_q hT (q_index_str (s := lenTab) (u := UInt8.ofNat (lenN x.toNat)) hT rfl rfl Tryd.underlying9 (by omega) (by simpa using lenTab_get x)) rfl rfl (by decide) ?_; clear hT; intro a hT
  refine l_q hT ((q_conv_8_i hT rfl Tryd.underlying5 Tryd.underlying3).v (v := (vI ((lenN x.toNat : Nat) : Int))) (by rw [lenN_cast])) rfl rfl (by decide) ?_; clear hT; intro a hT
  refine l_q hT (q_assign hT rfl) rfl rfl (by decide) ?_; clear hT; intro a hT
  refine l_end ?_
  refine then_norm ?_
  refine wp_ret ?_
  refine c_ret (vs := [(vI ((lenN x.toNat : Nat) : Int))]) (rs := [.tmp 2]) hT rfl (.tmp rfl .nil) ?_
  exact ⟨rfl, hL.drop⟩

set_option maxRecDepth 20000 in
set_option maxHeartbeats 1000000 in
theorem Lz8_spec (x : UInt8) (w0 : World) :
    Calls Tryd.prog 17 #[(v8 x)] w0 fun e w' => e = .returned (vI ((8 - lenN x.toNat : Nat) : Int)) ∧ Ext w0 w' := by
  refine c_enter (n := 6) (args := [(v8 x)]) Tryd.func17 rfl rfl (Nat.le_of_ble_eq_true rfl) rfl (fun a hT => ?_)
  simp only [List.zipIdx_cons, List.zipIdx_nil, List.map_cons, List.map_nil, Nat.reduceAdd] at hT
  have hL := Vg.Loc.refl [] w0
  have hl := lenN_le x.toNat
  refine c_seq ?_
  refine c_region ?_
  refine l_q hT (q_assign hT rfl) rfl rfl (by decide) ?_; clear hT; intro a hT
  refine l_end ?_
  refine then_norm ?_
  refine c_seq ?_
  refine c_region ?_
  refine l_q hT (q_move hT rfl) rfl rfl (by decide) ?_; clear hT; intro a hT
  refine l_do rfl ?_
  refine w_callT (xs := [.tmp 3]) hT rfl (vs := [(v8 x)]) rfl (args := #[(v8 x)]) rfl Tryd.func28 rfl rfl (by decide) ((Len8_spec (x) _).mono ?_)
  rintro e w1 ⟨rfl, hX⟩
  refine ⟨_, rfl, ?_⟩; clear hT; intro a hT; replace hT : Tm 6 a ((4, (vI ((lenN (x).toNat : Nat) : Int))) :: _) := hT
  replace hL := hL.ext hX
  refine l_q hT ((q_subI hT rfl rfl (r := 8 - ((lenN (x).toNat : Nat) : Int)) rfl (by omega) (by omega)).v (v := (vI ((8 - lenN x.toNat : Nat) : Int))) (by congr 1; omega)) rfl rfl (by decide) ?_; clear hT; intro a hT
  refine l_q hT (q_assign hT rfl) rfl rfl (by decide) ?_; clear hT; intro a hT
  refine l_end ?_
  refine then_norm ?_
  refine wp_ret ?_
  refine c_ret (vs := [(vI ((8 - lenN x.toNat : Nat) : Int))]) (rs := [.tmp 2]) hT rfl (.tmp rfl .nil) ?_
  exact ⟨rfl, hL.drop⟩

set_option maxRecDepth 20000 in
set_option maxHeartbeats 1000000 in
theorem Common_spec (x y : Dig) (w0 : World) :
    Calls Tryd.prog 7 #[(Value.agg (digC x).toArray), (Value.agg (digC y).toArray)] w0 fun e w' => e = .returned (vI ((common x y : Nat) : Int)) ∧ Ext w0 w' := by
  refine c_enter (n := 25) (args := [(Value.agg (digC x).toArray), (Value.agg (digC y).toArray)]) Tryd.func7 rfl rfl (Nat.le_of_ble_eq_true rfl) rfl (fun a hT => ?_)
  simp only [List.zipIdx_cons, List.zipIdx_nil, List.map_cons, List.map_nil, Nat.reduceAdd] at hT
  have hL := Vg.Loc.refl [] w0
  refine c_seq ?_
  refine c_region ?_
  refine l_do rfl ?_
  refine w_box hT hL (by decide) rfl (c := digC x) rfl ?_; clear hT hL; intro b1 a w1 hT hL hE hB
  refine l_do rfl ?_
  refine w_box hT hL (by decide) rfl (c := digC y) rfl ?_; clear hT hL; intro b2 a w2 hT hL hE hB
  refine l_q hT (q_assign hT rfl) rfl rfl (by decide) ?_; clear hT; intro a hT
  refine l_end ?_
  refine then_norm ?_
  refine c_seq ?_
  refine c_seq ?_
  refine c_region ?_
  refine l_q hT (q_move hT rfl) rfl rfl (by decide) ?_; clear hT; intro a hT
  refine l_end ?_
  refine then_norm ?_
  refine wp_block ?_
  refine c_loop (fun mz ac wz => ∃ t : Nat, mz = 32 - t ∧ t ≤ 32 ∧ (∀ i, i < t → x.get i = y.get i) ∧ Tm 25 ac [(2, (vp b1 0)), (3, (vp b2 0)), (4, (vI 0)), (7, (vI (t : Int)))] ∧ Vg.Loc [] w0 wz [[(b2, ob (digC y) 24)], [(b1, ob (digC x) 24)]]) id 32 ?_ ?_
  · exact ⟨0, rfl, by omega, fun i h1 => by omega, hT.keep [2, 3, 4, 7] rfl, hL⟩
  clear hT hL
  rintro mz a w3 ⟨t, rfl, ht, heq, hT, hL⟩
  refine c_seq ?_
  refine c_region ?_
  refine l_q hT (q_lss hT rfl rfl) rfl rfl (by decide) ?_; clear hT; intro a hT
  refine l_end ?_
  refine then_norm ?_
  refine c_seq ?_
  refine c_if hT rfl (fun hc1 => ?_) (fun hc1 => ?_)
  · skip
    have hc1 := of_decide_eq_true hc1
    refine wp_skip ?_
    refine then_norm ?_
    refine c_seq ?_
    refine wp_block ?_
    refine c_seq ?_
    refine c_region ?_
    refine l_q hT (q_move hT rfl) rfl rfl (by decide) ?_; clear hT; intro a hT
    refine l_q hT (q_assign hT rfl) rfl rfl (by decide) ?_; clear hT; intro a hT
    refine l_end ?_
    refine then_norm ?_
    refine c_seq ?_
    refine d_start' hL #[false, false, false, false, false, false, false, false] [] rfl rfl rfl ?_; clear hL; intro w4 hL hE; have hR := hL; have hS := Ext.refl w4
    refine d_pure (i := 0) hT #[true, false, false, false, false, false, false, false] rfl (by kernel_rfl) rfl rfl (by decide) (fun _ _ _ h => h) (fun _ => q_move hT rfl) ?_; clear hT; intro a hT
    refine d_pure (i := 1) hT #[true, true, false, false, false, false, false, false] rfl (by kernel_rfl) rfl rfl (by decide) (fun _ _ _ h => h) (fun _ => (q_indexAddr_arr hT rfl rfl Tryd.arr24 (by omega) (by omega)).v (v := vp b1 (0 + t)) (by simp)) ?_; clear hT; intro a hT
    refine d_pure (i := 3) hT #[true, true, false, true, false, false, false, false] rfl (by kernel_rfl) rfl rfl (by decide) (fun _ _ _ h => h) (fun _ => q_move hT rfl) ?_; clear hT; intro a hT
    refine d_pure (i := 4) hT #[true, true, false, true, true, false, false, false] rfl (by kernel_rfl) rfl rfl (by decide) (fun _ _ _ h => h) (fun _ => (q_indexAddr_arr hT rfl rfl Tryd.arr24 (by omega) (by omega)).v (v := vp b2 (0 + t)) (by simp)) ?_; clear hT; intro a hT
    refine d_take (i := 2) hT #[true, true, true, true, true, false, false, false] rfl (by kernel_rfl) rfl rfl (by decide) (fun _ _ _ h => h) (fun _ hs => q_load hT rfl Tryd.ty5 (Rd.ext ((hR.rd 1 rfl 0 (ds := digC x) rfl).dig (i := t) (by omega)) hs)) hS ?_; clear hT; intro a hT
    refine d_take (i := 5) hT #[true, true, true, true, true, true, false, false] rfl (by kernel_rfl) rfl rfl (by decide) (fun _ _ _ h => h) (fun _ hs => q_load hT rfl Tryd.ty5 (Rd.ext ((hR.rd 0 rfl 0 (ds := digC y) rfl).dig (i := t) (by omega)) hs)) hS ?_; clear hT; intro a hT
    refine d_pure (i := 6) hT #[true, true, true, true, true, true, true, false] rfl (by kernel_rfl) rfl rfl (by decide) (fun _ _ _ h => h) (fun _ => q_xor8 (u := x.get t) (v := y.get t) hT rfl rfl) ?_; clear hT; intro a hT
    refine d_pure (i := 7) hT #[true, true, true, true, true, true, true, true] rfl (by kernel_rfl) rfl rfl (by decide) (fun _ _ _ h => h) (fun _ => q_assign hT rfl) ?_; clear hT; intro a hT
    refine d_done (by kernel_rfl) ?_; clear hR hS
    refine then_norm ?_
    refine c_seq ?_
    refine c_region ?_
    refine l_q hT (q_move hT rfl) rfl rfl (by decide) ?_; clear hT; intro a hT
    refine l_q hT (q_ne8 (u := (x.get t) ^^^ (y.get t)) (v := 0) hT rfl rfl) rfl rfl (by decide) ?_; clear hT; intro a hT
    refine l_end ?_
    refine then_norm ?_
    refine c_if hT rfl (fun hc2 => ?_) (fun hc2 => ?_)
    · skip
      have hc2 := of_decide_eq_true hc2
      have hl8 := lenN_le ((x.get t) ^^^ (y.get t)).toNat
      refine c_seq ?_
      refine c_region ?_
      refine l_q hT (q_move hT rfl) rfl rfl (by decide) ?_; clear hT; intro a hT
      refine l_q hT (q_mulI hT rfl rfl (r := 8 * (t : Int)) rfl (by omega) (by omega)) rfl rfl (by decide) ?_; clear hT; intro a hT
      refine l_q hT (q_move hT rfl) rfl rfl (by decide) ?_; clear hT; intro a hT
      refine l_do rfl ?_
      refine w_callT (xs := [.tmp 21]) hT rfl (vs := [(v8 ((x.get t) ^^^ (y.get t)))]) rfl (args := #[(v8 ((x.get t) ^^^ (y.get t)))]) rfl Tryd.func17 rfl rfl (by decide) ((Lz8_spec ((x.get t) ^^^ (y.get t)) _).mono ?_)
      rintro e w5 ⟨rfl, hX⟩
      refine ⟨_, rfl, ?_⟩; clear hT; intro a hT; replace hT : Tm 25 a ((22, (vI ((8 - lenN ((x.get t) ^^^ (y.get t)).toNat : Nat) : Int))) :: _) := hT
      replace hL := hL.ext hX
      refine l_q hT (q_addI hT rfl rfl (r := (8 * (t : Int)) + ((8 - lenN ((x.get t) ^^^ (y.get t)).toNat : Nat) : Int)) rfl (by omega) (by omega)) rfl rfl (by decide) ?_; clear hT; intro a hT
      refine l_q hT (q_assign hT rfl) rfl rfl (by decide) ?_; clear hT; intro a hT
      refine l_end ?_
      refine then_norm ?_
      refine wp_ret ?_
      refine blk_ret ?_
      refine then_ret ?_
      refine then_ret ?_
      refine blk_ret ?_
      refine then_ret ?_
      refine c_ret (vs := [(vI ((8 * (t : Int)) + ((8 - lenN ((x.get t) ^^^ (y.get t)).toNat : Nat) : Int)))]) (rs := [.tmp 4]) hT rfl (.tmp rfl .nil) ?_
      have hc := (common_byte (a := x) (b := y) (t := t) (by omega) heq (by assumption)).1.is; refine ⟨?_, hL.drop⟩; rw [hc]; simp only [packed]; congr 2
    · skip
      have hc2 := of_decide_eq_false hc2
      have hl8 := lenN_le ((x.get t) ^^^ (y.get t)).toNat
      refine wp_skip ?_
      refine blk_norm ?_
      refine then_norm ?_
      refine c_region ?_
      refine l_q hT (q_addI hT rfl rfl (r := (t : Int) + 1) rfl (by omega) (by omega)) rfl rfl (by decide) ?_; clear hT; intro a hT
      refine l_q hT (q_move hT rfl) rfl rfl (by decide) ?_; clear hT; intro a hT
      refine l_end ?_
      refine then_norm ?_
      have heq2 : ∀ i, i < t + 1 → x.get i = y.get i := by
        intro i h1
        rcases Nat.lt_or_ge i t with q | q
        · exact heq i q
        · obtain rfl : i = t := by omega
          exact xor_zero (Classical.not_not.1 (by assumption))
      exact ⟨_, ⟨t + 1, rfl, by omega, heq2, hT.keep [2, 3, 4, 7] rfl, hL⟩, by simp only [id]; omega⟩
  · skip
    have hc1 := of_decide_eq_false hc1
    refine wp_exit ?_
    refine then_exit ?_
    refine then_exit ?_
    refine blk_exit ?_
    refine then_norm ?_
    refine c_seq ?_
    refine c_region ?_
    refine l_q hT (q_assign hT rfl) rfl rfl (by decide) ?_; clear hT; intro a hT
    refine l_end ?_
    refine then_norm ?_
    refine wp_ret ?_
    refine c_ret (vs := [(vI 256)]) (rs := [.tmp 4]) hT rfl (.tmp rfl .nil) ?_
    have hc := (common_same (a := x) (b := y) (fun i hi => heq i (by omega))).is; refine ⟨?_, hL.drop⟩; rw [hc]; rfl
end Go.Proofs.YtcaffacganffjaaDoor
