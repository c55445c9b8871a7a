/- The walks of a part of the program: GSha2. Printed by a program of the prover. The walks of a part of the program: GSha3. Printed by a program of the prover. The walks of a part of the program: GSha4. Printed by a program of the prover. -/
import Derived.Test.YtcaffacganffjaaDoorM2
import Derived.Test.YtcaffacganffjaaDoorM6
import Derived.Test.YtcaffacganffjaaDoorM3
import Derived.Test.YtcaffacganffjaaDoorM9

section
namespace Go.Proofs.YtcaffacganffjaaDoor
open Go Go.Vg


set_option maxRecDepth 100000 in
set_option maxHeartbeats 4000000 in
theorem mix_spec (b : Nat) (h : Nat → UInt32) (buf : Nat → UInt8) (n : Int) (w0 : World) (hK : KeysAt w0) (hb0 : 0 ∉ [b]) (hh : w0.heap[b]? = some (ob (arr32 8 h ++ (arr8 64 buf ++ ([(vI n)]))) 110)) :
    Calls Tryd.prog 54 #[(vp b 0)] w0 fun e w' => e = .returned (.tuple #[]) ∧ Vg.Loc [b] w0 w' [[(b, ob (arr32 8 (mixF h buf) ++ (arr8 64 buf ++ ([(vI n)]))) 110)]] := by
  refine c_enter (n := 227) (args := [(vp b 0)]) Tryd.func54 rfl rfl (Nat.le_of_ble_eq_true rfl) rfl (fun a hT => ?_)
  simp only [List.zipIdx_cons, List.zipIdx_nil, List.map_cons, List.map_nil, Nat.reduceAdd] at hT
  have hL := Vg.Loc.start1 hh
  refine c_seq ?_
  refine c_region ?_
  refine l_do rfl ?_
  refine w_alloc hT hL (by decide) Tryd.ty119 ?_; clear hT hL; intro b1 a w1 hT hL hE hB
  refine l_end ?_
  refine then_norm ?_
  refine c_seq ?_
  refine c_seq ?_
  refine c_region ?_
  refine l_q hT (q_move hT rfl) rfl rfl (by decide) ?_; clear hT; intro a hT
  refine l_end ?_
  refine then_norm ?_
  refine wp_block ?_
  refine c_loop (fun mz a wz => ∃ t : Nat, mz = 64 - t ∧ t ≤ 64 ∧ Tm 227 a [(25, (vI (t : Int))), (0, (vp b 0)), (2, (vp b1 0))] ∧ Vg.Loc [b] w0 wz [[(b1, ob (arr32 64 (sched buf t)) 119)], [(b, ob (arr32 8 h ++ (arr8 64 buf ++ ([(vI n)]))) 110)]]) id 64 ?_ ?_
  · exact ⟨0, rfl, by omega, hT.keep [25, 0, 2] rfl, hL⟩
  clear hT hL
  rintro mz a w2 ⟨t, rfl, ht, hT, hL⟩
  refine c_seq ?_
  refine c_region ?_
  refine l_q hT (q_lss hT rfl rfl) rfl rfl (by decide) ?_; clear hT; intro a hT
  refine l_end ?_
  refine then_norm ?_
  refine c_seq ?_
  refine c_if hT rfl (fun hc1 => ?_) (fun hc1 => ?_)
  · skip
    have hc1 := of_decide_eq_true hc1
    refine wp_skip ?_
    refine then_norm ?_
    refine c_seq ?_
    refine wp_block ?_
    refine c_seq ?_
    refine c_region ?_
    refine l_q hT (q_move hT rfl) rfl rfl (by decide) ?_; clear hT; intro a hT
    refine l_q hT (q_assign hT rfl) rfl rfl (by decide) ?_; clear hT; intro a hT
    refine l_end ?_
    refine then_norm ?_
    refine c_seq ?_
    refine c_seq ?_
    refine c_region ?_
    refine l_q hT (q_move hT rfl) rfl rfl (by decide) ?_; clear hT; intro a hT
    refine l_q hT (q_lss hT rfl rfl) rfl rfl (by decide) ?_; clear hT; intro a hT
    refine l_end ?_
    refine then_norm ?_
    refine c_if hT rfl (fun hc2 => ?_) (fun hc2 => ?_)
    · skip
      have hc2 := of_decide_eq_true hc2
      refine c_seq ?_
      refine c_region ?_
      refine l_q hT (q_move hT rfl) rfl rfl (by decide) ?_; clear hT; intro a hT
      refine l_q hT (q_nilCheck hT rfl) rfl rfl (by decide) ?_; clear hT; intro a hT
      refine l_q hT (q_fieldAddr hT rfl Tryd.fld110_1 rfl) rfl rfl (by decide) ?_; clear hT; intro a hT
      refine l_q hT (q_move hT rfl) rfl rfl (by decide) ?_; clear hT; intro a hT
      refine l_q hT ((q_mulI hT rfl rfl (r := 4 * (t : Int)) rfl (by omega) (by omega)).v (v := vI ((4 * t : Nat) : Int)) (by congr 1)) rfl rfl (by decide) ?_; clear hT; intro a hT
      refine l_q hT (q_slice_arr_lo (l := (4 * t : Nat)) hT rfl rfl Tryd.arr108 (by omega)) rfl rfl (by decide) ?_; clear hT; intro a hT
      refine l_q hT (q_assign hT rfl) rfl rfl (by decide) ?_; clear hT; intro a hT
      refine l_end ?_
      refine then_norm ?_
      refine c_seq ?_
      refine d_start' hL #[false, false, false, false, false, false, false, false, false, false, false, false, false, false, false, false, false, false, false, false, false, false, false, false, false] [24] rfl rfl rfl ?_; clear hL; intro w3 hL hE; have hR := hL; have hS := Ext.refl w3
      refine d_pure (i := 0) hT #[true, false, false, false, false, false, false, false, false, false, false, false, false, false, false, false, false, false, false, false, false, false, false, false, false] rfl (by kernel_rfl) rfl rfl (by decide) (fun _ _ _ h => h) (fun _ => q_move hT rfl) ?_; clear hT; intro a hT
      refine d_pure (i := 1) hT #[true, true, false, false, false, false, false, false, false, false, false, false, false, false, false, false, false, false, false, false, false, false, false, false, false] rfl (by kernel_rfl) rfl rfl (by decide) (fun _ _ _ h => h) (fun _ => q_move hT rfl) ?_; clear hT; intro a hT
      refine d_pure (i := 2) hT #[true, true, true, false, false, false, false, false, false, false, false, false, false, false, false, false, false, false, false, false, false, false, false, false, false] rfl (by kernel_rfl) rfl rfl (by decide) (fun _ _ _ h => h) (fun _ => (q_indexAddr hT rfl rfl Tryd.sli73 (by omega) (by omega)).v (v := vp b (8 + ((4 * t : Nat) + 0))) (by simp <;> omega)) ?_; clear hT; intro a hT
      refine d_pure (i := 6) hT #[true, true, true, false, false, false, true, false, false, false, false, false, false, false, false, false, false, false, false, false, false, false, false, false, false] rfl (by kernel_rfl) rfl rfl (by decide) (fun _ _ _ h => h) (fun _ => q_move hT rfl) ?_; clear hT; intro a hT
      refine d_pure (i := 7) hT #[true, true, true, false, false, false, true, true, false, false, false, false, false, false, false, false, false, false, false, false, false, false, false, false, false] rfl (by kernel_rfl) rfl rfl (by decide) (fun _ _ _ h => h) (fun _ => (q_indexAddr hT rfl rfl Tryd.sli73 (by omega) (by omega)).v (v := vp b (8 + ((4 * t : Nat) + 1))) (by simp <;> omega)) ?_; clear hT; intro a hT
      refine d_pure (i := 12) hT #[true, true, true, false, false, false, true, true, false, false, false, false, true, false, false, false, false, false, false, false, false, false, false, false, false] rfl (by kernel_rfl) rfl rfl (by decide) (fun _ _ _ h => h) (fun _ => q_move hT rfl) ?_; clear hT; intro a hT
      refine d_pure (i := 13) hT #[true, true, true, false, false, false, true, true, false, false, false, false, true, true, false, false, false, false, false, false, false, false, false, false, false] rfl (by kernel_rfl) rfl rfl (by decide) (fun _ _ _ h => h) (fun _ => (q_indexAddr hT rfl rfl Tryd.sli73 (by omega) (by omega)).v (v := vp b (8 + ((4 * t : Nat) + 2))) (by simp <;> omega)) ?_; clear hT; intro a hT
      refine d_pure (i := 18) hT #[true, true, true, false, false, false, true, true, false, false, false, false, true, true, false, false, false, false, true, false, false, false, false, false, false] rfl (by kernel_rfl) rfl rfl (by decide) (fun _ _ _ h => h) (fun _ => q_move hT rfl) ?_; clear hT; intro a hT
      refine d_pure (i := 19) hT #[true, true, true, false, false, false, true, true, false, false, false, false, true, true, false, false, false, false, true, true, false, false, false, false, false] rfl (by kernel_rfl) rfl rfl (by decide) (fun _ _ _ h => h) (fun _ => (q_indexAddr hT rfl rfl Tryd.sli73 (by omega) (by omega)).v (v := vp b (8 + ((4 * t : Nat) + 3))) (by simp <;> omega)) ?_; clear hT; intro a hT
      refine d_take (i := 3) hT #[true, true, true, true, false, false, true, true, false, false, false, false, true, true, false, false, false, false, true, true, false, false, false, false, false] rfl (by kernel_rfl) rfl rfl (by decide) (fun _ _ _ h => h) (fun _ hs => q_load hT rfl Tryd.ty5 (Rd.ext (Rd.at8 (hR.rd 1 rfl 8 (ds := arr8 64 buf) rfl) (i := ((4 * t : Nat) + 0)) (by omega)) hs)) hS ?_; clear hT; intro a hT
      refine d_pure (i := 4) hT #[true, true, true, true, true, false, true, true, false, false, false, false, true, true, false, false, false, false, true, true, false, false, false, false, false] rfl (by kernel_rfl) rfl rfl (by decide) (fun _ _ _ h => h) (fun _ => q_conv_8_32 hT rfl Tryd.underlying5 Tryd.underlying86) ?_; clear hT; intro a hT
      refine d_pure (i := 5) hT #[true, true, true, true, true, true, true, true, false, false, false, false, true, true, false, false, false, false, true, true, false, false, false, false, false] rfl (by kernel_rfl) rfl rfl (by decide) (fun _ _ _ h => h) (fun _ => q_shl32 (u := (buf ((4 * t : Nat) + 0)).toUInt32) (s := 24) hT rfl rfl (by omega)) ?_; clear hT; intro a hT
      refine d_take (i := 8) hT #[true, true, true, true, true, true, true, true, true, false, false, false, true, true, false, false, false, false, true, true, false, false, false, false, false] rfl (by kernel_rfl) rfl rfl (by decide) (fun _ _ _ h => h) (fun _ hs => q_load hT rfl Tryd.ty5 (Rd.ext (Rd.at8 (hR.rd 1 rfl 8 (ds := arr8 64 buf) rfl) (i := ((4 * t : Nat) + 1)) (by omega)) hs)) hS ?_; clear hT; intro a hT
      refine d_pure (i := 9) hT #[true, true, true, true, true, true, true, true, true, true, false, false, true, true, false, false, false, false, true, true, false, false, false, false, false] rfl (by kernel_rfl) rfl rfl (by decide) (fun _ _ _ h => h) (fun _ => q_conv_8_32 hT rfl Tryd.underlying5 Tryd.underlying86) ?_; clear hT; intro a hT
      refine d_pure (i := 10) hT #[true, true, true, true, true, true, true, true, true, true, true, false, true, true, false, false, false, false, true, true, false, false, false, false, false] rfl (by kernel_rfl) rfl rfl (by decide) (fun _ _ _ h => h) (fun _ => q_shl32 (u := (buf ((4 * t : Nat) + 1)).toUInt32) (s := 16) hT rfl rfl (by omega)) ?_; clear hT; intro a hT
      refine d_pure (i := 11) hT #[true, true, true, true, true, true, true, true, true, true, true, true, true, true, false, false, false, false, true, true, false, false, false, false, false] rfl (by kernel_rfl) rfl rfl (by decide) (fun _ _ _ h => h) (fun _ => q_or32 (u := shl32 ((buf ((4 * t : Nat) + 0)).toUInt32) 24) (v := shl32 ((buf ((4 * t : Nat) + 1)).toUInt32) 16) hT rfl rfl) ?_; clear hT; intro a hT
      refine d_take (i := 14) hT #[true, true, true, true, true, true, true, true, true, true, true, true, true, true, true, false, false, false, true, true, false, false, false, false, false] rfl (by kernel_rfl) rfl rfl (by decide) (fun _ _ _ h => h) (fun _ hs => q_load hT rfl Tryd.ty5 (Rd.ext (Rd.at8 (hR.rd 1 rfl 8 (ds := arr8 64 buf) rfl) (i := ((4 * t : Nat) + 2)) (by omega)) hs)) hS ?_; clear hT; intro a hT
      refine d_pure (i := 15) hT #[true, true, true, true, true, true, true, true, true, true, true, true, true, true, true, true, false, false, true, true, false, false, false, false, false] rfl (by kernel_rfl) rfl rfl (by decide) (fun _ _ _ h => h) (fun _ => q_conv_8_32 hT rfl Tryd.underlying5 Tryd.underlying86) ?_; clear hT; intro a hT
      refine d_pure (i := 16) hT #[true, true, true, true, true, true, true, true, true, true, true, true, true, true, true, true, true, false, true, true, false, false, false, false, false] rfl (by kernel_rfl) rfl rfl (by decide) (fun _ _ _ h => h) (fun _ => q_shl32 (u := (buf ((4 * t : Nat) + 2)).toUInt32) (s := 8) hT rfl rfl (by omega)) ?_; clear hT; intro a hT
      refine d_pure (i := 17) hT #[true, true, true, true, true, true, true, true, true, true, true, true, true, true, true, true, true, true, true, true, false, false, false, false, false] rfl (by kernel_rfl) rfl rfl (by decide) (fun _ _ _ h => h) (fun _ => q_or32 (u := (shl32 ((buf ((4 * t : Nat) + 0)).toUInt32) 24) ||| (shl32 ((buf ((4 * t : Nat) + 1)).toUInt32) 16)) (v := shl32 ((buf ((4 * t : Nat) + 2)).toUInt32) 8) hT rfl rfl) ?_; clear hT; intro a hT
      refine d_take (i := 20) hT #[true, true, true, true, true, true, true, true, true, true, true, true, true, true, true, true, true, true, true, true, true, false, false, false, false] rfl (by kernel_rfl) rfl rfl (by decide) (fun _ _ _ h => h) (fun _ hs => q_load hT rfl Tryd.ty5 (Rd.ext (Rd.at8 (hR.rd 1 rfl 8 (ds := arr8 64 buf) rfl) (i := ((4 * t : Nat) + 3)) (by omega)) hs)) hS ?_; clear hT; intro a hT
      refine d_pure (i := 21) hT #[true, true, true, true, true, true, true, true, true, true, true, true, true, true, true, true, true, true, true, true, true, true, false, false, false] rfl (by kernel_rfl) rfl rfl (by decide) (fun _ _ _ h => h) (fun _ => q_conv_8_32 hT rfl Tryd.underlying5 Tryd.underlying86) ?_; clear hT; intro a hT
      refine d_pure (i := 22) hT #[true, true, true, true, true, true, true, true, true, true, true, true, true, true, true, true, true, true, true, true, true, true, true, false, false] rfl (by kernel_rfl) rfl rfl (by decide) (fun _ _ _ h => h) (fun _ => q_or32 (u := ((shl32 ((buf ((4 * t : Nat) + 0)).toUInt32) 24) ||| (shl32 ((buf ((4 * t : Nat) + 1)).toUInt32) 16)) ||| (shl32 ((buf ((4 * t : Nat) + 2)).toUInt32) 8)) (v := (buf ((4 * t : Nat) + 3)).toUInt32) hT rfl rfl) ?_; clear hT; intro a hT
      refine d_pure (i := 23) hT #[true, true, true, true, true, true, true, true, true, true, true, true, true, true, true, true, true, true, true, true, true, true, true, true, false] rfl (by kernel_rfl) rfl rfl (by decide) (fun _ _ _ h => h) (fun _ => (q_indexAddr_arr hT rfl rfl Tryd.arr119 (by omega) (by omega)).v (v := vp b1 (0 + t)) (by simp)) ?_; clear hT; intro a hT
      refine d_one (i := 24) hT #[true, true, true, true, true, true, true, true, true, true, true, true, true, true, true, true, true, true, true, true, true, true, true, true, true] rfl (by kernel_rfl) rfl ?_
      refine w_store hT hL 0 (c := arr32 64 (sched buf t)) rfl rfl Tryd.ty86 rfl (vs := [(v32 ((((shl32 ((buf ((4 * t : Nat) + 0)).toUInt32) 24) ||| (shl32 ((buf ((4 * t : Nat) + 1)).toUInt32) 16)) ||| (shl32 ((buf ((4 * t : Nat) + 2)).toUInt32) 8)) ||| ((buf ((4 * t : Nat) + 3)).toUInt32)))]) rfl rfl (by simp [arr32_len, arr8_len, digC_len]; omega) rfl (c' := arr32 64 (upd (sched buf t) t ((((shl32 ((buf ((4 * t : Nat) + 0)).toUInt32) 24) ||| (shl32 ((buf ((4 * t : Nat) + 1)).toUInt32) 16)) ||| (shl32 ((buf ((4 * t : Nat) + 2)).toUInt32) 8)) ||| ((buf ((4 * t : Nat) + 3)).toUInt32)))) (lay_at (pre := []) (mid := arr32 64 (sched buf t)) (post := []) (i := t) (by simp [digC_arr]) (by simp [arr32_len, arr8_len, digC_len]) (by simp [arr32_len, arr8_len, digC_len]; omega) (lay_arr32 _ _ (by omega)) (by simp)) ?_; clear hL; intro w4 hL hE
      replace hL : Vg.Loc [b] w0 w4 ([[(b1, ob (arr32 64 (upd (sched buf t) t ((((shl32 ((buf ((4 * t : Nat) + 0)).toUInt32) 24) ||| (shl32 ((buf ((4 * t : Nat) + 1)).toUInt32) 16)) ||| (shl32 ((buf ((4 * t : Nat) + 2)).toUInt32) 8)) ||| ((buf ((4 * t : Nat) + 3)).toUInt32)))) 119)], [(b, ob (arr32 8 h ++ (arr8 64 buf ++ ([(vI n)]))) 110)]]) := hL
      refine ⟨fun hn => absurd (by decide) hn, ?_⟩
      refine d_done (by kernel_rfl) ?_; clear hR hS
      refine then_norm ?_
      refine wp_exit ?_
      refine then_exit ?_
      refine blk_exit ?_
      refine then_norm ?_
      refine c_region ?_
      refine l_q hT (q_addI hT rfl rfl (r := (t : Int) + 1) rfl (by omega) (by omega)) rfl rfl (by decide) ?_; clear hT; intro a hT
      refine l_q hT (q_move hT rfl) rfl rfl (by decide) ?_; clear hT; intro a hT
      refine l_end ?_
      refine then_norm ?_
      exact ⟨_, ⟨t + 1, rfl, by omega, hT.keep [25, 0, 2] rfl, by rw [← sched_lo buf t (by omega)]; exact hL⟩, by simp only [id]; omega⟩
    · skip
      have hc2 := of_decide_eq_false hc2
      refine wp_skip ?_
      refine then_norm ?_
      refine c_seq ?_
      refine d_start' hL #[false, false, false, false, false, false, false, false, false, false] [] rfl rfl rfl ?_; clear hL; intro w5 hL hE; have hR := hL; have hS := Ext.refl w5
      refine d_pure (i := 0) hT #[true, false, false, false, false, false, false, false, false, false] rfl (by kernel_rfl) rfl rfl (by decide) (fun _ _ _ h => h) (fun _ => q_move hT rfl) ?_; clear hT; intro a hT
      refine d_pure (i := 1) hT #[true, true, false, false, false, false, false, false, false, false] rfl (by kernel_rfl) rfl rfl (by decide) (fun _ _ _ h => h) (fun _ => (q_subI hT rfl rfl (r := (t : Int) - 15) rfl (by omega) (by omega)).v (v := vI ((t - 15 : Nat) : Int)) (by congr 1; omega)) ?_; clear hT; intro a hT
      refine d_pure (i := 2) hT #[true, true, true, false, false, false, false, false, false, false] rfl (by kernel_rfl) rfl rfl (by decide) (fun _ _ _ h => h) (fun _ => (q_indexAddr_arr hT rfl rfl Tryd.arr119 (by omega) (by omega)).v (v := vp b1 (0 + (t - 15 : Nat))) (by simp)) ?_; clear hT; intro a hT
      refine d_pure (i := 4) hT #[true, true, true, false, true, false, false, false, false, false] rfl (by kernel_rfl) rfl rfl (by decide) (fun _ _ _ h => h) (fun _ => q_move hT rfl) ?_; clear hT; intro a hT
      refine d_pure (i := 5) hT #[true, true, true, false, true, true, false, false, false, false] rfl (by kernel_rfl) rfl rfl (by decide) (fun _ _ _ h => h) (fun _ => (q_subI hT rfl rfl (r := (t : Int) - 2) rfl (by omega) (by omega)).v (v := vI ((t - 2 : Nat) : Int)) (by congr 1; omega)) ?_; clear hT; intro a hT
      refine d_pure (i := 6) hT #[true, true, true, false, true, true, true, false, false, false] rfl (by kernel_rfl) rfl rfl (by decide) (fun _ _ _ h => h) (fun _ => (q_indexAddr_arr hT rfl rfl Tryd.arr119 (by omega) (by omega)).v (v := vp b1 (0 + (t - 2 : Nat))) (by simp)) ?_; clear hT; intro a hT
      refine d_take (i := 3) hT #[true, true, true, true, true, true, true, false, false, false] rfl (by kernel_rfl) rfl rfl (by decide) (fun _ _ _ h => h) (fun _ hs => q_load hT rfl Tryd.ty86 (Rd.ext (Rd.at32 (hR.rd 0 rfl 0 (ds := arr32 64 (sched buf t)) rfl) (i := (t - 15 : Nat)) (by omega)) hs)) hS ?_; clear hT; intro a hT
      refine d_pure (i := 8) hT #[true, true, true, true, true, true, true, false, true, false] rfl (by kernel_rfl) rfl rfl (by decide) (fun _ _ _ h => h) (fun _ => q_assign hT rfl) ?_; clear hT; intro a hT
      refine d_take (i := 7) hT #[true, true, true, true, true, true, true, true, true, false] rfl (by kernel_rfl) rfl rfl (by decide) (fun _ _ _ h => h) (fun _ hs => q_load hT rfl Tryd.ty86 (Rd.ext (Rd.at32 (hR.rd 0 rfl 0 (ds := arr32 64 (sched buf t)) rfl) (i := (t - 2 : Nat)) (by omega)) hs)) hS ?_; clear hT; intro a hT
      refine d_pure (i := 9) hT #[true, true, true, true, true, true, true, true, true, true] rfl (by kernel_rfl) rfl rfl (by decide) (fun _ _ _ h => h) (fun _ => q_assign hT rfl) ?_; clear hT; intro a hT
      refine d_done (by kernel_rfl) ?_; clear hR hS
      refine then_norm ?_
      refine c_seq ?_
      refine c_region ?_
      refine l_q hT (q_move hT rfl) rfl rfl (by decide) ?_; clear hT; intro a hT
      refine l_do rfl ?_
      refine w_callT (xs := [.tmp 68, .const (.int .i64 (-7))]) hT rfl (vs := [(v32 ((sched buf t) (t - 15 : Nat))), (vI (-7))]) rfl (args := #[(v32 ((sched buf t) (t - 15 : Nat))), (vI (-7))]) rfl Tryd.func61 rfl rfl (by decide) ((rotl_spec ((sched buf t) (t - 15 : Nat)) (-7) 25 (by decide) (by decide) (by decide) _).mono ?_)
      rintro e w6 ⟨rfl, hX⟩
      refine ⟨_, rfl, ?_⟩; clear hT; intro a hT; replace hT : Tm 227 a ((69, (v32 (rotl ((sched buf t) (t - 15 : Nat)) 25))) :: _) := hT
      replace hL := hL.ext hX
      refine l_q hT (q_move hT rfl) rfl rfl (by decide) ?_; clear hT; intro a hT
      refine l_do rfl ?_
      refine w_callT (xs := [.tmp 70, .const (.int .i64 (-18))]) hT rfl (vs := [(v32 ((sched buf t) (t - 15 : Nat))), (vI (-18))]) rfl (args := #[(v32 ((sched buf t) (t - 15 : Nat))), (vI (-18))]) rfl Tryd.func61 rfl rfl (by decide) ((rotl_spec ((sched buf t) (t - 15 : Nat)) (-18) 14 (by decide) (by decide) (by decide) _).mono ?_)
      rintro e w7 ⟨rfl, hX⟩
      refine ⟨_, rfl, ?_⟩; clear hT; intro a hT; replace hT : Tm 227 a ((71, (v32 (rotl ((sched buf t) (t - 15 : Nat)) 14))) :: _) := hT
      replace hL := hL.ext hX
      refine l_q hT (q_xor32 (u := rotl ((sched buf t) (t - 15 : Nat)) 25) (v := rotl ((sched buf t) (t - 15 : Nat)) 14) hT rfl rfl) rfl rfl (by decide) ?_; clear hT; intro a hT
      refine l_q hT (q_move hT rfl) rfl rfl (by decide) ?_; clear hT; intro a hT
      refine l_q hT (q_shr32 (u := (sched buf t) (t - 15 : Nat)) (s := 3) hT rfl rfl (by omega)) rfl rfl (by decide) ?_; clear hT; intro a hT
      refine l_q hT (q_xor32 (u := (rotl ((sched buf t) (t - 15 : Nat)) 25) ^^^ (rotl ((sched buf t) (t - 15 : Nat)) 14)) (v := shr32 ((sched buf t) (t - 15 : Nat)) 3) hT rfl rfl) rfl rfl (by decide) ?_; clear hT; intro a hT
      refine l_q hT (q_assign hT rfl) rfl rfl (by decide) ?_; clear hT; intro a hT
      refine l_end ?_
      refine then_norm ?_
      refine c_seq ?_
      refine c_region ?_
      refine l_q hT (q_move hT rfl) rfl rfl (by decide) ?_; clear hT; intro a hT
      refine l_do rfl ?_
      refine w_callT (xs := [.tmp 76, .const (.int .i64 (-17))]) hT rfl (vs := [(v32 ((sched buf t) (t - 2 : Nat))), (vI (-17))]) rfl (args := #[(v32 ((sched buf t) (t - 2 : Nat))), (vI (-17))]) rfl Tryd.func61 rfl rfl (by decide) ((rotl_spec ((sched buf t) (t - 2 : Nat)) (-17) 15 (by decide) (by decide) (by decide) _).mono ?_)
      rintro e w8 ⟨rfl, hX⟩
      refine ⟨_, rfl, ?_⟩; clear hT; intro a hT; replace hT : Tm 227 a ((77, (v32 (rotl ((sched buf t) (t - 2 : Nat)) 15))) :: _) := hT
      replace hL := hL.ext hX
      refine l_q hT (q_move hT rfl) rfl rfl (by decide) ?_; clear hT; intro a hT
      refine l_do rfl ?_
      refine w_callT (xs := [.tmp 78, .const (.int .i64 (-19))]) hT rfl (vs := [(v32 ((sched buf t) (t - 2 : Nat))), (vI (-19))]) rfl (args := #[(v32 ((sched buf t) (t - 2 : Nat))), (vI (-19))]) rfl Tryd.func61 rfl rfl (by decide) ((rotl_spec ((sched buf t) (t - 2 : Nat)) (-19) 13 (by decide) (by decide) (by decide) _).mono ?_)
      rintro e w9 ⟨rfl, hX⟩
      refine ⟨_, rfl, ?_⟩; clear hT; intro a hT; replace hT : Tm 227 a ((79, (v32 (rotl ((sched buf t) (t - 2 : Nat)) 13))) :: _) := hT
      replace hL := hL.ext hX
      refine l_q hT (q_xor32 (u := rotl ((sched buf t) (t - 2 : Nat)) 15) (v := rotl ((sched buf t) (t - 2 : Nat)) 13) hT rfl rfl) rfl rfl (by decide) ?_; clear hT; intro a hT
      refine l_q hT (q_move hT rfl) rfl rfl (by decide) ?_; clear hT; intro a hT
      refine l_q hT (q_shr32 (u := (sched buf t) (t - 2 : Nat)) (s := 10) hT rfl rfl (by omega)) rfl rfl (by decide) ?_; clear hT; intro a hT
      refine l_q hT (q_xor32 (u := (rotl ((sched buf t) (t - 2 : Nat)) 15) ^^^ (rotl ((sched buf t) (t - 2 : Nat)) 13)) (v := shr32 ((sched buf t) (t - 2 : Nat)) 10) hT rfl rfl) rfl rfl (by decide) ?_; clear hT; intro a hT
      refine l_q hT (q_assign hT rfl) rfl rfl (by decide) ?_; clear hT; intro a hT
      refine l_end ?_
      refine then_norm ?_
      refine d_start' hL #[false, false, false, false, false, false, false, false, false, false, false, false, false, false, false, false] [15] rfl rfl rfl ?_; clear hL; intro w10 hL hE; have hR := hL; have hS := Ext.refl w10
      refine d_pure (i := 0) hT #[true, false, false, false, false, false, false, false, false, false, false, false, false, false, false, false] rfl (by kernel_rfl) rfl rfl (by decide) (fun _ _ _ h => h) (fun _ => q_move hT rfl) ?_; clear hT; intro a hT
      refine d_pure (i := 1) hT #[true, true, false, false, false, false, false, false, false, false, false, false, false, false, false, false] rfl (by kernel_rfl) rfl rfl (by decide) (fun _ _ _ h => h) (fun _ => q_move hT rfl) ?_; clear hT; intro a hT
      refine d_pure (i := 2) hT #[true, true, true, false, false, false, false, false, false, false, false, false, false, false, false, false] rfl (by kernel_rfl) rfl rfl (by decide) (fun _ _ _ h => h) (fun _ => (q_subI hT rfl rfl (r := (t : Int) - 16) rfl (by omega) (by omega)).v (v := vI ((t - 16 : Nat) : Int)) (by congr 1; omega)) ?_; clear hT; intro a hT
      refine d_pure (i := 3) hT #[true, true, true, true, false, false, false, false, false, false, false, false, false, false, false, false] rfl (by kernel_rfl) rfl rfl (by decide) (fun _ _ _ h => h) (fun _ => (q_indexAddr_arr hT rfl rfl Tryd.arr119 (by omega) (by omega)).v (v := vp b1 (0 + (t - 16 : Nat))) (by simp)) ?_; clear hT; intro a hT
      refine d_pure (i := 5) hT #[true, true, true, true, false, true, false, false, false, false, false, false, false, false, false, false] rfl (by kernel_rfl) rfl rfl (by decide) (fun _ _ _ h => h) (fun _ => q_move hT rfl) ?_; clear hT; intro a hT
      refine d_pure (i := 7) hT #[true, true, true, true, false, true, false, true, false, false, false, false, false, false, false, false] rfl (by kernel_rfl) rfl rfl (by decide) (fun _ _ _ h => h) (fun _ => q_move hT rfl) ?_; clear hT; intro a hT
      refine d_pure (i := 8) hT #[true, true, true, true, false, true, false, true, true, false, false, false, false, false, false, false] rfl (by kernel_rfl) rfl rfl (by decide) (fun _ _ _ h => h) (fun _ => (q_subI hT rfl rfl (r := (t : Int) - 7) rfl (by omega) (by omega)).v (v := vI ((t - 7 : Nat) : Int)) (by congr 1; omega)) ?_; clear hT; intro a hT
      refine d_pure (i := 9) hT #[true, true, true, true, false, true, false, true, true, true, false, false, false, false, false, false] rfl (by kernel_rfl) rfl rfl (by decide) (fun _ _ _ h => h) (fun _ => (q_indexAddr_arr hT rfl rfl Tryd.arr119 (by omega) (by omega)).v (v := vp b1 (0 + (t - 7 : Nat))) (by simp)) ?_; clear hT; intro a hT
      refine d_pure (i := 12) hT #[true, true, true, true, false, true, false, true, true, true, false, false, true, false, false, false] rfl (by kernel_rfl) rfl rfl (by decide) (fun _ _ _ h => h) (fun _ => q_move hT rfl) ?_; clear hT; intro a hT
      refine d_take (i := 4) hT #[true, true, true, true, true, true, false, true, true, true, false, false, true, false, false, false] rfl (by kernel_rfl) rfl rfl (by decide) (fun _ _ _ h => h) (fun _ hs => q_load hT rfl Tryd.ty86 (Rd.ext (Rd.at32 (hR.rd 0 rfl 0 (ds := arr32 64 (sched buf t)) rfl) (i := (t - 16 : Nat)) (by omega)) hs)) hS ?_; clear hT; intro a hT
      refine d_pure (i := 6) hT #[true, true, true, true, true, true, true, true, true, true, false, false, true, false, false, false] rfl (by kernel_rfl) rfl rfl (by decide) (fun _ _ _ h => h) (fun _ => q_add32 (u := (sched buf t) (t - 16 : Nat)) (v := ((rotl ((sched buf t) (t - 15 : Nat)) 25) ^^^ (rotl ((sched buf t) (t - 15 : Nat)) 14)) ^^^ (shr32 ((sched buf t) (t - 15 : Nat)) 3)) hT rfl rfl) ?_; clear hT; intro a hT
      refine d_take (i := 10) hT #[true, true, true, true, true, true, true, true, true, true, true, false, true, false, false, false] rfl (by kernel_rfl) rfl rfl (by decide) (fun _ _ _ h => h) (fun _ hs => q_load hT rfl Tryd.ty86 (Rd.ext (Rd.at32 (hR.rd 0 rfl 0 (ds := arr32 64 (sched buf t)) rfl) (i := (t - 7 : Nat)) (by omega)) hs)) hS ?_; clear hT; intro a hT
      refine d_pure (i := 11) hT #[true, true, true, true, true, true, true, true, true, true, true, true, true, false, false, false] rfl (by kernel_rfl) rfl rfl (by decide) (fun _ _ _ h => h) (fun _ => q_add32 (u := ((sched buf t) (t - 16 : Nat)) + (((rotl ((sched buf t) (t - 15 : Nat)) 25) ^^^ (rotl ((sched buf t) (t - 15 : Nat)) 14)) ^^^ (shr32 ((sched buf t) (t - 15 : Nat)) 3))) (v := (sched buf t) (t - 7 : Nat)) hT rfl rfl) ?_; clear hT; intro a hT
      refine d_pure (i := 13) hT #[true, true, true, true, true, true, true, true, true, true, true, true, true, true, false, false] rfl (by kernel_rfl) rfl rfl (by decide) (fun _ _ _ h => h) (fun _ => q_add32 (u := (((sched buf t) (t - 16 : Nat)) + (((rotl ((sched buf t) (t - 15 : Nat)) 25) ^^^ (rotl ((sched buf t) (t - 15 : Nat)) 14)) ^^^ (shr32 ((sched buf t) (t - 15 : Nat)) 3))) + ((sched buf t) (t - 7 : Nat))) (v := ((rotl ((sched buf t) (t - 2 : Nat)) 15) ^^^ (rotl ((sched buf t) (t - 2 : Nat)) 13)) ^^^ (shr32 ((sched buf t) (t - 2 : Nat)) 10)) hT rfl rfl) ?_; clear hT; intro a hT
      refine d_pure (i := 14) hT #[true, true, true, true, true, true, true, true, true, true, true, true, true, true, true, false] rfl (by kernel_rfl) rfl rfl (by decide) (fun _ _ _ h => h) (fun _ => (q_indexAddr_arr hT rfl rfl Tryd.arr119 (by omega) (by omega)).v (v := vp b1 (0 + t)) (by simp)) ?_; clear hT; intro a hT
      refine d_one (i := 15) hT #[true, true, true, true, true, true, true, true, true, true, true, true, true, true, true, true] rfl (by kernel_rfl) rfl ?_
      refine w_store hT hL 0 (c := arr32 64 (sched buf t)) rfl rfl Tryd.ty86 rfl (vs := [(v32 (((((sched buf t) (t - 16 : Nat)) + (((rotl ((sched buf t) (t - 15 : Nat)) 25) ^^^ (rotl ((sched buf t) (t - 15 : Nat)) 14)) ^^^ (shr32 ((sched buf t) (t - 15 : Nat)) 3))) + ((sched buf t) (t - 7 : Nat))) + (((rotl ((sched buf t) (t - 2 : Nat)) 15) ^^^ (rotl ((sched buf t) (t - 2 : Nat)) 13)) ^^^ (shr32 ((sched buf t) (t - 2 : Nat)) 10))))]) rfl rfl (by simp [arr32_len, arr8_len, digC_len]; omega) rfl (c' := arr32 64 (upd (sched buf t) t (((((sched buf t) (t - 16 : Nat)) + (((rotl ((sched buf t) (t - 15 : Nat)) 25) ^^^ (rotl ((sched buf t) (t - 15 : Nat)) 14)) ^^^ (shr32 ((sched buf t) (t - 15 : Nat)) 3))) + ((sched buf t) (t - 7 : Nat))) + (((rotl ((sched buf t) (t - 2 : Nat)) 15) ^^^ (rotl ((sched buf t) (t - 2 : Nat)) 13)) ^^^ (shr32 ((sched buf t) (t - 2 : Nat)) 10))))) (lay_at (pre := []) (mid := arr32 64 (sched buf t)) (post := []) (i := t) (by simp [digC_arr]) (by simp [arr32_len, arr8_len, digC_len]) (by simp [arr32_len, arr8_len, digC_len]; omega) (lay_arr32 _ _ (by omega)) (by simp)) ?_; clear hL; intro w11 hL hE
      replace hL : Vg.Loc [b] w0 w11 ([[(b1, ob (arr32 64 (upd (sched buf t) t (((((sched buf t) (t - 16 : Nat)) + (((rotl ((sched buf t) (t - 15 : Nat)) 25) ^^^ (rotl ((sched buf t) (t - 15 : Nat)) 14)) ^^^ (shr32 ((sched buf t) (t - 15 : Nat)) 3))) + ((sched buf t) (t - 7 : Nat))) + (((rotl ((sched buf t) (t - 2 : Nat)) 15) ^^^ (rotl ((sched buf t) (t - 2 : Nat)) 13)) ^^^ (shr32 ((sched buf t) (t - 2 : Nat)) 10))))) 119)], [(b, ob (arr32 8 h ++ (arr8 64 buf ++ ([(vI n)]))) 110)]]) := hL
      refine ⟨fun hn => absurd (by decide) hn, ?_⟩
      refine d_done (by kernel_rfl) ?_; clear hR hS
      refine blk_norm ?_
      refine then_norm ?_
      refine c_region ?_
      refine l_q hT (q_addI hT rfl rfl (r := (t : Int) + 1) rfl (by omega) (by omega)) rfl rfl (by decide) ?_; clear hT; intro a hT
      refine l_q hT (q_move hT rfl) rfl rfl (by decide) ?_; clear hT; intro a hT
      refine l_end ?_
      refine then_norm ?_
      exact ⟨_, ⟨t + 1, rfl, by omega, hT.keep [25, 0, 2] rfl, by rw [← sched_hi buf t (by omega)]; exact hL⟩, by simp only [id]; omega⟩
  · skip
    have hc1 := of_decide_eq_false hc1
    obtain rfl : t = 64 := by omega
    refine wp_exit ?_
    refine then_exit ?_
    refine then_exit ?_
    refine blk_exit ?_
    refine then_norm ?_
    refine c_seq ?_
    refine d_start' hL #[false, false, false, false, false, false, false, false, false, false, false, false, false, false, false, false, false, false, false, false, false, false, false, false, false, false, false, false, false, false, false, false, false, false, false, false, false, false, false, false, false, false, false, false, false, false, false, false] [] rfl rfl rfl ?_; clear hL; intro w12 hL hE; have hR := hL; have hS := Ext.refl w12
    refine d_pure (i := 0) hT #[true, false, false, false, false, false, false, false, false, false, false, false, false, false, false, false, false, false, false, false, false, false, false, false, false, false, false, false, false, false, false, false, false, false, false, false, false, false, false, false, false, false, false, false, false, false, false, false] rfl (by kernel_rfl) rfl rfl (by decide) (fun _ _ _ h => h) (fun _ => q_move hT rfl) ?_; clear hT; intro a hT
    refine d_pure (i := 1) hT #[true, true, false, false, false, false, false, false, false, false, false, false, false, false, false, false, false, false, false, false, false, false, false, false, false, false, false, false, false, false, false, false, false, false, false, false, false, false, false, false, false, false, false, false, false, false, false, false] rfl (by kernel_rfl) rfl rfl (by decide) (fun _ _ _ h => h) (fun _ => q_nilCheck hT rfl) ?_; clear hT; intro a hT
    refine d_pure (i := 2) hT #[true, true, true, false, false, false, false, false, false, false, false, false, false, false, false, false, false, false, false, false, false, false, false, false, false, false, false, false, false, false, false, false, false, false, false, false, false, false, false, false, false, false, false, false, false, false, false, false] rfl (by kernel_rfl) rfl rfl (by decide) (fun _ _ _ h => h) (fun _ => q_fieldAddr hT rfl Tryd.fld110_0 rfl) ?_; clear hT; intro a hT
    refine d_pure (i := 3) hT #[true, true, true, true, false, false, false, false, false, false, false, false, false, false, false, false, false, false, false, false, false, false, false, false, false, false, false, false, false, false, false, false, false, false, false, false, false, false, false, false, false, false, false, false, false, false, false, false] rfl (by kernel_rfl) rfl rfl (by decide) (fun _ _ _ h => h) (fun _ => (q_indexAddr_arr hT rfl rfl Tryd.arr107 (by omega) (by omega)).v (v := (vp b 0)) rfl) ?_; clear hT; intro a hT
    refine d_pure (i := 5) hT #[true, true, true, true, false, true, false, false, false, false, false, false, false, false, false, false, false, false, false, false, false, false, false, false, false, false, false, false, false, false, false, false, false, false, false, false, false, false, false, false, false, false, false, false, false, false, false, false] rfl (by kernel_rfl) rfl rfl (by decide) (fun _ _ _ h => h) (fun _ => q_move hT rfl) ?_; clear hT; intro a hT
    refine d_pure (i := 6) hT #[true, true, true, true, false, true, true, false, false, false, false, false, false, false, false, false, false, false, false, false, false, false, false, false, false, false, false, false, false, false, false, false, false, false, false, false, false, false, false, false, false, false, false, false, false, false, false, false] rfl (by kernel_rfl) rfl rfl (by decide) (fun _ _ _ h => h) (fun _ => q_nilCheck hT rfl) ?_; clear hT; intro a hT
    refine d_pure (i := 7) hT #[true, true, true, true, false, true, true, true, false, false, false, false, false, false, false, false, false, false, false, false, false, false, false, false, false, false, false, false, false, false, false, false, false, false, false, false, false, false, false, false, false, false, false, false, false, false, false, false] rfl (by kernel_rfl) rfl rfl (by decide) (fun _ _ _ h => h) (fun _ => q_fieldAddr hT rfl Tryd.fld110_0 rfl) ?_; clear hT; intro a hT
    refine d_pure (i := 8) hT #[true, true, true, true, false, true, true, true, true, false, false, false, false, false, false, false, false, false, false, false, false, false, false, false, false, false, false, false, false, false, false, false, false, false, false, false, false, false, false, false, false, false, false, false, false, false, false, false] rfl (by kernel_rfl) rfl rfl (by decide) (fun _ _ _ h => h) (fun _ => (q_indexAddr_arr hT rfl rfl Tryd.arr107 (by omega) (by omega)).v (v := (vp b 1)) rfl) ?_; clear hT; intro a hT
    refine d_pure (i := 10) hT #[true, true, true, true, false, true, true, true, true, false, true, false, false, false, false, false, false, false, false, false, false, false, false, false, false, false, false, false, false, false, false, false, false, false, false, false, false, false, false, false, false, false, false, false, false, false, false, false] rfl (by kernel_rfl) rfl rfl (by decide) (fun _ _ _ h => h) (fun _ => q_move hT rfl) ?_; clear hT; intro a hT
    refine d_pure (i := 11) hT #[true, true, true, true, false, true, true, true, true, false, true, true, false, false, false, false, false, false, false, false, false, false, false, false, false, false, false, false, false, false, false, false, false, false, false, false, false, false, false, false, false, false, false, false, false, false, false, false] rfl (by kernel_rfl) rfl rfl (by decide) (fun _ _ _ h => h) (fun _ => q_nilCheck hT rfl) ?_; clear hT; intro a hT
    refine d_pure (i := 12) hT #[true, true, true, true, false, true, true, true, true, false, true, true, true, false, false, false, false, false, false, false, false, false, false, false, false, false, false, false, false, false, false, false, false, false, false, false, false, false, false, false, false, false, false, false, false, false, false, false] rfl (by kernel_rfl) rfl rfl (by decide) (fun _ _ _ h => h) (fun _ => q_fieldAddr hT rfl Tryd.fld110_0 rfl) ?_; clear hT; intro a hT
    refine d_pure (i := 13) hT #[true, true, true, true, false, true, true, true, true, false, true, true, true, true, false, false, false, false, false, false, false, false, false, false, false, false, false, false, false, false, false, false, false, false, false, false, false, false, false, false, false, false, false, false, false, false, false, false] rfl (by kernel_rfl) rfl rfl (by decide) (fun _ _ _ h => h) (fun _ => (q_indexAddr_arr hT rfl rfl Tryd.arr107 (by omega) (by omega)).v (v := (vp b 2)) rfl) ?_; clear hT; intro a hT
    refine d_pure (i := 15) hT #[true, true, true, true, false, true, true, true, true, false, true, true, true, true, false, true, false, false, false, false, false, false, false, false, false, false, false, false, false, false, false, false, false, false, false, false, false, false, false, false, false, false, false, false, false, false, false, false] rfl (by kernel_rfl) rfl rfl (by decide) (fun _ _ _ h => h) (fun _ => q_move hT rfl) ?_; clear hT; intro a hT
    refine d_pure (i := 16) hT #[true, true, true, true, false, true, true, true, true, false, true, true, true, true, false, true, true, false, false, false, false, false, false, false, false, false, false, false, false, false, false, false, false, false, false, false, false, false, false, false, false, false, false, false, false, false, false, false] rfl (by kernel_rfl) rfl rfl (by decide) (fun _ _ _ h => h) (fun _ => q_nilCheck hT rfl) ?_; clear hT; intro a hT
    refine d_pure (i := 17) hT #[true, true, true, true, false, true, true, true, true, false, true, true, true, true, false, true, true, true, false, false, false, false, false, false, false, false, false, false, false, false, false, false, false, false, false, false, false, false, false, false, false, false, false, false, false, false, false, false] rfl (by kernel_rfl) rfl rfl (by decide) (fun _ _ _ h => h) (fun _ => q_fieldAddr hT rfl Tryd.fld110_0 rfl) ?_; clear hT; intro a hT
    refine d_pure (i := 18) hT #[true, true, true, true, false, true, true, true, true, false, true, true, true, true, false, true, true, true, true, false, false, false, false, false, false, false, false, false, false, false, false, false, false, false, false, false, false, false, false, false, false, false, false, false, false, false, false, false] rfl (by kernel_rfl) rfl rfl (by decide) (fun _ _ _ h => h) (fun _ => (q_indexAddr_arr hT rfl rfl Tryd.arr107 (by omega) (by omega)).v (v := (vp b 3)) rfl) ?_; clear hT; intro a hT
    refine d_pure (i := 20) hT #[true, true, true, true, false, true, true, true, true, false, true, true, true, true, false, true, true, true, true, false, true, false, false, false, false, false, false, false, false, false, false, false, false, false, false, false, false, false, false, false, false, false, false, false, false, false, false, false] rfl (by kernel_rfl) rfl rfl (by decide) (fun _ _ _ h => h) (fun _ => q_move hT rfl) ?_; clear hT; intro a hT
    refine d_pure (i := 21) hT #[true, true, true, true, false, true, true, true, true, false, true, true, true, true, false, true, true, true, true, false, true, true, false, false, false, false, false, false, false, false, false, false, false, false, false, false, false, false, false, false, false, false, false, false, false, false, false, false] rfl (by kernel_rfl) rfl rfl (by decide) (fun _ _ _ h => h) (fun _ => q_nilCheck hT rfl) ?_; clear hT; intro a hT
    refine d_pure (i := 22) hT #[true, true, true, true, false, true, true, true, true, false, true, true, true, true, false, true, true, true, true, false, true, true, true, false, false, false, false, false, false, false, false, false, false, false, false, false, false, false, false, false, false, false, false, false, false, false, false, false] rfl (by kernel_rfl) rfl rfl (by decide) (fun _ _ _ h => h) (fun _ => q_fieldAddr hT rfl Tryd.fld110_0 rfl) ?_; clear hT; intro a hT
    refine d_pure (i := 23) hT #[true, true, true, true, false, true, true, true, true, false, true, true, true, true, false, true, true, true, true, false, true, true, true, true, false, false, false, false, false, false, false, false, false, false, false, false, false, false, false, false, false, false, false, false, false, false, false, false] rfl (by kernel_rfl) rfl rfl (by decide) (fun _ _ _ h => h) (fun _ => (q_indexAddr_arr hT rfl rfl Tryd.arr107 (by omega) (by omega)).v (v := (vp b 4)) rfl) ?_; clear hT; intro a hT
    refine d_pure (i := 25) hT #[true, true, true, true, false, true, true, true, true, false, true, true, true, true, false, true, true, true, true, false, true, true, true, true, false, true, false, false, false, false, false, false, false, false, false, false, false, false, false, false, false, false, false, false, false, false, false, false] rfl (by kernel_rfl) rfl rfl (by decide) (fun _ _ _ h => h) (fun _ => q_move hT rfl) ?_; clear hT; intro a hT
    refine d_pure (i := 26) hT #[true, true, true, true, false, true, true, true, true, false, true, true, true, true, false, true, true, true, true, false, true, true, true, true, false, true, true, false, false, false, false, false, false, false, false, false, false, false, false, false, false, false, false, false, false, false, false, false] rfl (by kernel_rfl) rfl rfl (by decide) (fun _ _ _ h => h) (fun _ => q_nilCheck hT rfl) ?_; clear hT; intro a hT
    refine d_pure (i := 27) hT #[true, true, true, true, false, true, true, true, true, false, true, true, true, true, false, true, true, true, true, false, true, true, true, true, false, true, true, true, false, false, false, false, false, false, false, false, false, false, false, false, false, false, false, false, false, false, false, false] rfl (by kernel_rfl) rfl rfl (by decide) (fun _ _ _ h => h) (fun _ => q_fieldAddr hT rfl Tryd.fld110_0 rfl) ?_; clear hT; intro a hT
    refine d_pure (i := 28) hT #[true, true, true, true, false, true, true, true, true, false, true, true, true, true, false, true, true, true, true, false, true, true, true, true, false, true, true, true, true, false, false, false, false, false, false, false, false, false, false, false, false, false, false, false, false, false, false, false] rfl (by kernel_rfl) rfl rfl (by decide) (fun _ _ _ h => h) (fun _ => (q_indexAddr_arr hT rfl rfl Tryd.arr107 (by omega) (by omega)).v (v := (vp b 5)) rfl) ?_; clear hT; intro a hT
    refine d_pure (i := 30) hT #[true, true, true, true, false, true, true, true, true, false, true, true, true, true, false, true, true, true, true, false, true, true, true, true, false, true, true, true, true, false, true, false, false, false, false, false, false, false, false, false, false, false, false, false, false, false, false, false] rfl (by kernel_rfl) rfl rfl (by decide) (fun _ _ _ h => h) (fun _ => q_move hT rfl) ?_; clear hT; intro a hT
    refine d_pure (i := 31) hT #[true, true, true, true, false, true, true, true, true, false, true, true, true, true, false, true, true, true, true, false, true, true, true, true, false, true, true, true, true, false, true, true, false, false, false, false, false, false, false, false, false, false, false, false, false, false, false, false] rfl (by kernel_rfl) rfl rfl (by decide) (fun _ _ _ h => h) (fun _ => q_nilCheck hT rfl) ?_; clear hT; intro a hT
    refine d_pure (i := 32) hT #[true, true, true, true, false, true, true, true, true, false, true, true, true, true, false, true, true, true, true, false, true, true, true, true, false, true, true, true, true, false, true, true, true, false, false, false, false, false, false, false, false, false, false, false, false, false, false, false] rfl (by kernel_rfl) rfl rfl (by decide) (fun _ _ _ h => h) (fun _ => q_fieldAddr hT rfl Tryd.fld110_0 rfl) ?_; clear hT; intro a hT
    refine d_pure (i := 33) hT #[true, true, true, true, false, true, true, true, true, false, true, true, true, true, false, true, true, true, true, false, true, true, true, true, false, true, true, true, true, false, true, true, true, true, false, false, false, false, false, false, false, false, false, false, false, false, false, false] rfl (by kernel_rfl) rfl rfl (by decide) (fun _ _ _ h => h) (fun _ => (q_indexAddr_arr hT rfl rfl Tryd.arr107 (by omega) (by omega)).v (v := (vp b 6)) rfl) ?_; clear hT; intro a hT
    refine d_pure (i := 35) hT #[true, true, true, true, false, true, true, true, true, false, true, true, true, true, false, true, true, true, true, false, true, true, true, true, false, true, true, true, true, false, true, true, true, true, false, true, false, false, false, false, false, false, false, false, false, false, false, false] rfl (by kernel_rfl) rfl rfl (by decide) (fun _ _ _ h => h) (fun _ => q_move hT rfl) ?_; clear hT; intro a hT
    refine d_pure (i := 36) hT #[true, true, true, true, false, true, true, true, true, false, true, true, true, true, false, true, true, true, true, false, true, true, true, true, false, true, true, true, true, false, true, true, true, true, false, true, true, false, false, false, false, false, false, false, false, false, false, false] rfl (by kernel_rfl) rfl rfl (by decide) (fun _ _ _ h => h) (fun _ => q_nilCheck hT rfl) ?_; clear hT; intro a hT
    refine d_pure (i := 37) hT #[true, true, true, true, false, true, true, true, true, false, true, true, true, true, false, true, true, true, true, false, true, true, true, true, false, true, true, true, true, false, true, true, true, true, false, true, true, true, false, false, false, false, false, false, false, false, false, false] rfl (by kernel_rfl) rfl rfl (by decide) (fun _ _ _ h => h) (fun _ => q_fieldAddr hT rfl Tryd.fld110_0 rfl) ?_; clear hT; intro a hT
    refine d_pure (i := 38) hT #[true, true, true, true, false, true, true, true, true, false, true, true, true, true, false, true, true, true, true, false, true, true, true, true, false, true, true, true, true, false, true, true, true, true, false, true, true, true, true, false, false, false, false, false, false, false, false, false] rfl (by kernel_rfl) rfl rfl (by decide) (fun _ _ _ h => h) (fun _ => (q_indexAddr_arr hT rfl rfl Tryd.arr107 (by omega) (by omega)).v (v := (vp b 7)) rfl) ?_; clear hT; intro a hT
    refine d_take (i := 4) hT #[true, true, true, true, true, true, true, true, true, false, true, true, true, true, false, true, true, true, true, false, true, true, true, true, false, true, true, true, true, false, true, true, true, true, false, true, true, true, true, false, false, false, false, false, false, false, false, false] rfl (by kernel_rfl) rfl rfl (by decide) (fun _ _ _ h => h) (fun _ hs => q_load hT rfl Tryd.ty86 (Rd.ext (hR.rd 1 rfl 0 (ds := [(v32 (h 0))]) rfl) hs)) hS ?_; clear hT; intro a hT
    refine d_pure (i := 40) hT #[true, true, true, true, true, true, true, true, true, false, true, true, true, true, false, true, true, true, true, false, true, true, true, true, false, true, true, true, true, false, true, true, true, true, false, true, true, true, true, false, true, false, false, false, false, false, false, false] rfl (by kernel_rfl) rfl rfl (by decide) (fun _ _ _ h => h) (fun _ => q_assign hT rfl) ?_; clear hT; intro a hT
    refine d_take (i := 9) hT #[true, true, true, true, true, true, true, true, true, true, true, true, true, true, false, true, true, true, true, false, true, true, true, true, false, true, true, true, true, false, true, true, true, true, false, true, true, true, true, false, true, false, false, false, false, false, false, false] rfl (by kernel_rfl) rfl rfl (by decide) (fun _ _ _ h => h) (fun _ hs => q_load hT rfl Tryd.ty86 (Rd.ext (hR.rd 1 rfl 1 (ds := [(v32 (h 1))]) rfl) hs)) hS ?_; clear hT; intro a hT
    refine d_pure (i := 41) hT #[true, true, true, true, true, true, true, true, true, true, true, true, true, true, false, true, true, true, true, false, true, true, true, true, false, true, true, true, true, false, true, true, true, true, false, true, true, true, true, false, true, true, false, false, false, false, false, false] rfl (by kernel_rfl) rfl rfl (by decide) (fun _ _ _ h => h) (fun _ => q_assign hT rfl) ?_; clear hT; intro a hT
    refine d_take (i := 14) hT #[true, true, true, true, true, true, true, true, true, true, true, true, true, true, true, true, true, true, true, false, true, true, true, true, false, true, true, true, true, false, true, true, true, true, false, true, true, true, true, false, true, true, false, false, false, false, false, false] rfl (by kernel_rfl) rfl rfl (by decide) (fun _ _ _ h => h) (fun _ hs => q_load hT rfl Tryd.ty86 (Rd.ext (hR.rd 1 rfl 2 (ds := [(v32 (h 2))]) rfl) hs)) hS ?_; clear hT; intro a hT
    refine d_pure (i := 42) hT #[true, true, true, true, true, true, true, true, true, true, true, true, true, true, true, true, true, true, true, false, true, true, true, true, false, true, true, true, true, false, true, true, true, true, false, true, true, true, true, false, true, true, true, false, false, false, false, false] rfl (by kernel_rfl) rfl rfl (by decide) (fun _ _ _ h => h) (fun _ => q_assign hT rfl) ?_; clear hT; intro a hT
    refine d_take (i := 19) hT #[true, true, true, true, true, true, true, true, true, true, true, true, true, true, true, true, true, true, true, true, true, true, true, true, false, true, true, true, true, false, true, true, true, true, false, true, true, true, true, false, true, true, true, false, false, false, false, false] rfl (by kernel_rfl) rfl rfl (by decide) (fun _ _ _ h => h) (fun _ hs => q_load hT rfl Tryd.ty86 (Rd.ext (hR.rd 1 rfl 3 (ds := [(v32 (h 3))]) rfl) hs)) hS ?_; clear hT; intro a hT
    refine d_pure (i := 43) hT #[true, true, true, true, true, true, true, true, true, true, true, true, true, true, true, true, true, true, true, true, true, true, true, true, false, true, true, true, true, false, true, true, true, true, false, true, true, true, true, false, true, true, true, true, false, false, false, false] rfl (by kernel_rfl) rfl rfl (by decide) (fun _ _ _ h => h) (fun _ => q_assign hT rfl) ?_; clear hT; intro a hT
    refine d_take (i := 24) hT #[true, true, true, true, true, true, true, true, true, true, true, true, true, true, true, true, true, true, true, true, true, true, true, true, true, true, true, true, true, false, true, true, true, true, false, true, true, true, true, false, true, true, true, true, false, false, false, false] rfl (by kernel_rfl) rfl rfl (by decide) (fun _ _ _ h => h) (fun _ hs => q_load hT rfl Tryd.ty86 (Rd.ext (hR.rd 1 rfl 4 (ds := [(v32 (h 4))]) rfl) hs)) hS ?_; clear hT; intro a hT
    refine d_pure (i := 44) hT #[true, true, true, true, true, true, true, true, true, true, true, true, true, true, true, true, true, true, true, true, true, true, true, true, true, true, true, true, true, false, true, true, true, true, false, true, true, true, true, false, true, true, true, true, true, false, false, false] rfl (by kernel_rfl) rfl rfl (by decide) (fun _ _ _ h => h) (fun _ => q_assign hT rfl) ?_; clear hT; intro a hT
    refine d_take (i := 29) hT #[true, true, true, true, true, true, true, true, true, true, true, true, true, true, true, true, true, true, true, true, true, true, true, true, true, true, true, true, true, true, true, true, true, true, false, true, true, true, true, false, true, true, true, true, true, false, false, false] rfl (by kernel_rfl) rfl rfl (by decide) (fun _ _ _ h => h) (fun _ hs => q_load hT rfl Tryd.ty86 (Rd.ext (hR.rd 1 rfl 5 (ds := [(v32 (h 5))]) rfl) hs)) hS ?_; clear hT; intro a hT
    refine d_pure (i := 45) hT #[true, true, true, true, true, true, true, true, true, true, true, true, true, true, true, true, true, true, true, true, true, true, true, true, true, true, true, true, true, true, true, true, true, true, false, true, true, true, true, false, true, true, true, true, true, true, false, false] rfl (by kernel_rfl) rfl rfl (by decide) (fun _ _ _ h => h) (fun _ => q_assign hT rfl) ?_; clear hT; intro a hT
    refine d_take (i := 34) hT #[true, true, true, true, true, true, true, true, true, true, true, true, true, true, true, true, true, true, true, true, true, true, true, true, true, true, true, true, true, true, true, true, true, true, true, true, true, true, true, false, true, true, true, true, true, true, false, false] rfl (by kernel_rfl) rfl rfl (by decide) (fun _ _ _ h => h) (fun _ hs => q_load hT rfl Tryd.ty86 (Rd.ext (hR.rd 1 rfl 6 (ds := [(v32 (h 6))]) rfl) hs)) hS ?_; clear hT; intro a hT
    refine d_pure (i := 46) hT #[true, true, true, true, true, true, true, true, true, true, true, true, true, true, true, true, true, true, true, true, true, true, true, true, true, true, true, true, true, true, true, true, true, true, true, true, true, true, true, false, true, true, true, true, true, true, true, false] rfl (by kernel_rfl) rfl rfl (by decide) (fun _ _ _ h => h) (fun _ => q_assign hT rfl) ?_; clear hT; intro a hT
    refine d_take (i := 39) hT #[true, true, true, true, true, true, true, true, true, true, true, true, true, true, true, true, true, true, true, true, true, true, true, true, true, true, true, true, true, true, true, true, true, true, true, true, true, true, true, true, true, true, true, true, true, true, true, false] rfl (by kernel_rfl) rfl rfl (by decide) (fun _ _ _ h => h) (fun _ hs => q_load hT rfl Tryd.ty86 (Rd.ext (hR.rd 1 rfl 7 (ds := [(v32 (h 7))]) rfl) hs)) hS ?_; clear hT; intro a hT
    refine d_pure (i := 47) hT #[true, true, true, true, true, true, true, true, true, true, true, true, true, true, true, true, true, true, true, true, true, true, true, true, true, true, true, true, true, true, true, true, true, true, true, true, true, true, true, true, true, true, true, true, true, true, true, true] rfl (by kernel_rfl) rfl rfl (by decide) (fun _ _ _ h => h) (fun _ => q_assign hT rfl) ?_; clear hT; intro a hT
    refine d_done (by kernel_rfl) ?_; clear hR hS
    refine then_norm ?_
    refine c_seq ?_
    refine c_seq ?_
    refine c_region ?_
    refine l_q hT (q_load_agg hT rfl Tryd.ty119 (hL.rd 0 rfl 0 (ds := arr32 64 (sched buf 64)) rfl) rfl) rfl rfl (by decide) ?_; clear hT; intro a hT
    refine l_q hT (q_move hT rfl) rfl rfl (by decide) ?_; clear hT; intro a hT
    refine l_end ?_
    refine then_norm ?_
    refine wp_block ?_
    refine c_loop (fun mz a wz => ∃ t : Nat, mz = 64 - t ∧ t ≤ 64 ∧ Tm 227 a [(141, (vI (t : Int))), (0, (vp b 0)), (140, (Value.agg (arr32 64 (sched buf 64)).toArray)), (9, (v32 ((rounds h (sched buf 64) t).a))), (10, (v32 ((rounds h (sched buf 64) t).b))), (11, (v32 ((rounds h (sched buf 64) t).c))), (12, (v32 ((rounds h (sched buf 64) t).d))), (13, (v32 ((rounds h (sched buf 64) t).e))), (14, (v32 ((rounds h (sched buf 64) t).f))), (15, (v32 ((rounds h (sched buf 64) t).g))), (16, (v32 ((rounds h (sched buf 64) t).k)))] ∧ Vg.Loc [b] w0 wz [[(b1, ob (arr32 64 (sched buf 64)) 119)], [(b, ob (arr32 8 h ++ (arr8 64 buf ++ ([(vI n)]))) 110)]]) id 64 ?_ ?_
    · exact ⟨0, rfl, by omega, hT.keep [141, 0, 140, 9, 10, 11, 12, 13, 14, 15, 16] rfl, hL⟩
    clear hT hL
    rintro mz a w13 ⟨t, rfl, ht, hT, hL⟩
    refine c_seq ?_
    refine c_region ?_
    refine l_q hT (q_lss hT rfl rfl) rfl rfl (by decide) ?_; clear hT; intro a hT
    refine l_end ?_
    refine then_norm ?_
    refine c_seq ?_
    refine c_if hT rfl (fun hc3 => ?_) (fun hc3 => ?_)
    · skip
      have hc3 := of_decide_eq_true hc3
      refine wp_skip ?_
      refine then_norm ?_
      refine c_seq ?_
      refine wp_block ?_
      refine c_seq ?_
      refine c_region ?_
      refine l_q hT (q_move hT rfl) rfl rfl (by decide) ?_; clear hT; intro a hT
      refine l_q hT (q_index_arr (cs := arr32 64 (sched buf 64)) (v := (v32 ((sched buf 64) t))) hT rfl rfl Tryd.arr119 (by omega) (by omega) (by simpa using arr32_get (sched buf 64) (by omega))) rfl rfl (by decide) ?_; clear hT; intro a hT
      refine l_q hT (q_assign hT rfl) rfl rfl (by decide) ?_; clear hT; intro a hT
      refine l_q hT (q_assign hT rfl) rfl rfl (by decide) ?_; clear hT; intro a hT
      refine l_end ?_
      refine then_norm ?_
      refine c_seq ?_
      refine c_region ?_
      refine l_q hT (q_move hT rfl) rfl rfl (by decide) ?_; clear hT; intro a hT
      refine l_do rfl ?_
      refine w_callT (xs := [.tmp 145, .const (.int .i64 (-6))]) hT rfl (vs := [(v32 ((rounds h (sched buf 64) t).e)), (vI (-6))]) rfl (args := #[(v32 ((rounds h (sched buf 64) t).e)), (vI (-6))]) rfl Tryd.func61 rfl rfl (by decide) ((rotl_spec ((rounds h (sched buf 64) t).e) (-6) 26 (by decide) (by decide) (by decide) _).mono ?_)
      rintro e w14 ⟨rfl, hX⟩
      refine ⟨_, rfl, ?_⟩; clear hT; intro a hT; replace hT : Tm 227 a ((146, (v32 (rotl ((rounds h (sched buf 64) t).e) 26))) :: _) := hT
      replace hL := hL.ext hX
      refine l_q hT (q_move hT rfl) rfl rfl (by decide) ?_; clear hT; intro a hT
      refine l_do rfl ?_
      refine w_callT (xs := [.tmp 147, .const (.int .i64 (-11))]) hT rfl (vs := [(v32 ((rounds h (sched buf 64) t).e)), (vI (-11))]) rfl (args := #[(v32 ((rounds h (sched buf 64) t).e)), (vI (-11))]) rfl Tryd.func61 rfl rfl (by decide) ((rotl_spec ((rounds h (sched buf 64) t).e) (-11) 21 (by decide) (by decide) (by decide) _).mono ?_)
      rintro e w15 ⟨rfl, hX⟩
      refine ⟨_, rfl, ?_⟩; clear hT; intro a hT; replace hT : Tm 227 a ((148, (v32 (rotl ((rounds h (sched buf 64) t).e) 21))) :: _) := hT
      replace hL := hL.ext hX
      refine l_q hT (q_xor32 (u := rotl ((rounds h (sched buf 64) t).e) 26) (v := rotl ((rounds h (sched buf 64) t).e) 21) hT rfl rfl) rfl rfl (by decide) ?_; clear hT; intro a hT
      refine l_q hT (q_move hT rfl) rfl rfl (by decide) ?_; clear hT; intro a hT
      refine l_do rfl ?_
      refine w_callT (xs := [.tmp 150, .const (.int .i64 (-25))]) hT rfl (vs := [(v32 ((rounds h (sched buf 64) t).e)), (vI (-25))]) rfl (args := #[(v32 ((rounds h (sched buf 64) t).e)), (vI (-25))]) rfl Tryd.func61 rfl rfl (by decide) ((rotl_spec ((rounds h (sched buf 64) t).e) (-25) 7 (by decide) (by decide) (by decide) _).mono ?_)
      rintro e w16 ⟨rfl, hX⟩
      refine ⟨_, rfl, ?_⟩; clear hT; intro a hT; replace hT : Tm 227 a ((151, (v32 (rotl ((rounds h (sched buf 64) t).e) 7))) :: _) := hT
      replace hL := hL.ext hX
      refine l_q hT (q_xor32 (u := (rotl ((rounds h (sched buf 64) t).e) 26) ^^^ (rotl ((rounds h (sched buf 64) t).e) 21)) (v := rotl ((rounds h (sched buf 64) t).e) 7) hT rfl rfl) rfl rfl (by decide) ?_; clear hT; intro a hT
      refine l_q hT (q_assign hT rfl) rfl rfl (by decide) ?_; clear hT; intro a hT
      refine l_end ?_
      refine then_norm ?_
      refine c_seq ?_
      refine c_region ?_
      refine l_q hT (q_move hT rfl) rfl rfl (by decide) ?_; clear hT; intro a hT
      refine l_q hT (q_move hT rfl) rfl rfl (by decide) ?_; clear hT; intro a hT
      refine l_q hT (q_add32 (u := (rounds h (sched buf 64) t).k) (v := ((rotl ((rounds h (sched buf 64) t).e) 26) ^^^ (rotl ((rounds h (sched buf 64) t).e) 21)) ^^^ (rotl ((rounds h (sched buf 64) t).e) 7)) hT rfl rfl) rfl rfl (by decide) ?_; clear hT; intro a hT
      refine l_q hT (q_move hT rfl) rfl rfl (by decide) ?_; clear hT; intro a hT
      refine l_q hT (q_move hT rfl) rfl rfl (by decide) ?_; clear hT; intro a hT
      refine l_q hT (q_move hT rfl) rfl rfl (by decide) ?_; clear hT; intro a hT
      refine l_q hT (q_xor32 (u := (rounds h (sched buf 64) t).f) (v := (rounds h (sched buf 64) t).g) hT rfl rfl) rfl rfl (by decide) ?_; clear hT; intro a hT
      refine l_q hT (q_and32 (u := (rounds h (sched buf 64) t).e) (v := ((rounds h (sched buf 64) t).f) ^^^ ((rounds h (sched buf 64) t).g)) hT rfl rfl) rfl rfl (by decide) ?_; clear hT; intro a hT
      refine l_q hT (q_move hT rfl) rfl rfl (by decide) ?_; clear hT; intro a hT
      refine l_q hT (q_xor32 (u := ((rounds h (sched buf 64) t).e) &&& (((rounds h (sched buf 64) t).f) ^^^ ((rounds h (sched buf 64) t).g))) (v := (rounds h (sched buf 64) t).g) hT rfl rfl) rfl rfl (by decide) ?_; clear hT; intro a hT
      refine l_q hT (q_add32 (u := ((rounds h (sched buf 64) t).k) + (((rotl ((rounds h (sched buf 64) t).e) 26) ^^^ (rotl ((rounds h (sched buf 64) t).e) 21)) ^^^ (rotl ((rounds h (sched buf 64) t).e) 7))) (v := (((rounds h (sched buf 64) t).e) &&& (((rounds h (sched buf 64) t).f) ^^^ ((rounds h (sched buf 64) t).g))) ^^^ ((rounds h (sched buf 64) t).g)) hT rfl rfl) rfl rfl (by decide) ?_; clear hT; intro a hT
      refine l_q hT (q_move hT rfl) rfl rfl (by decide) ?_; clear hT; intro a hT
      refine l_q hT ((q_indexAddr_arr hT rfl rfl Tryd.arr119 (by omega) (by omega)).v (v := vp 0 (0 + t)) (by simp)) rfl rfl (by decide) ?_; clear hT; intro a hT
      refine l_q hT (q_load hT rfl Tryd.ty86 (Rd.at32 ((hK.of hL hb0)) (i := t) (by omega))) rfl rfl (by decide) ?_; clear hT; intro a hT
      refine l_q hT (q_add32 (u := (((rounds h (sched buf 64) t).k) + (((rotl ((rounds h (sched buf 64) t).e) 26) ^^^ (rotl ((rounds h (sched buf 64) t).e) 21)) ^^^ (rotl ((rounds h (sched buf 64) t).e) 7))) + ((((rounds h (sched buf 64) t).e) &&& (((rounds h (sched buf 64) t).f) ^^^ ((rounds h (sched buf 64) t).g))) ^^^ ((rounds h (sched buf 64) t).g))) (v := keyF t) hT rfl rfl) rfl rfl (by decide) ?_; clear hT; intro a hT
      refine l_q hT (q_move hT rfl) rfl rfl (by decide) ?_; clear hT; intro a hT
      refine l_q hT (q_add32 (u := ((((rounds h (sched buf 64) t).k) + (((rotl ((rounds h (sched buf 64) t).e) 26) ^^^ (rotl ((rounds h (sched buf 64) t).e) 21)) ^^^ (rotl ((rounds h (sched buf 64) t).e) 7))) + ((((rounds h (sched buf 64) t).e) &&& (((rounds h (sched buf 64) t).f) ^^^ ((rounds h (sched buf 64) t).g))) ^^^ ((rounds h (sched buf 64) t).g))) + (keyF t)) (v := (sched buf 64) t) hT rfl rfl) rfl rfl (by decide) ?_; clear hT; intro a hT
      refine l_q hT (q_assign hT rfl) rfl rfl (by decide) ?_; clear hT; intro a hT
      refine l_end ?_
      refine then_norm ?_
      refine c_seq ?_
      refine c_region ?_
      refine l_q hT (q_move hT rfl) rfl rfl (by decide) ?_; clear hT; intro a hT
      refine l_do rfl ?_
      refine w_callT (xs := [.tmp 170, .const (.int .i64 (-2))]) hT rfl (vs := [(v32 ((rounds h (sched buf 64) t).a)), (vI (-2))]) rfl (args := #[(v32 ((rounds h (sched buf 64) t).a)), (vI (-2))]) rfl Tryd.func61 rfl rfl (by decide) ((rotl_spec ((rounds h (sched buf 64) t).a) (-2) 30 (by decide) (by decide) (by decide) _).mono ?_)
      rintro e w17 ⟨rfl, hX⟩
      refine ⟨_, rfl, ?_⟩; clear hT; intro a hT; replace hT : Tm 227 a ((171, (v32 (rotl ((rounds h (sched buf 64) t).a) 30))) :: _) := hT
      replace hL := hL.ext hX
      refine l_q hT (q_move hT rfl) rfl rfl (by decide) ?_; clear hT; intro a hT
      refine l_do rfl ?_
      refine w_callT (xs := [.tmp 172, .const (.int .i64 (-13))]) hT rfl (vs := [(v32 ((rounds h (sched buf 64) t).a)), (vI (-13))]) rfl (args := #[(v32 ((rounds h (sched buf 64) t).a)), (vI (-13))]) rfl Tryd.func61 rfl rfl (by decide) ((rotl_spec ((rounds h (sched buf 64) t).a) (-13) 19 (by decide) (by decide) (by decide) _).mono ?_)
      rintro e w18 ⟨rfl, hX⟩
      refine ⟨_, rfl, ?_⟩; clear hT; intro a hT; replace hT : Tm 227 a ((173, (v32 (rotl ((rounds h (sched buf 64) t).a) 19))) :: _) := hT
      replace hL := hL.ext hX
      refine l_q hT (q_xor32 (u := rotl ((rounds h (sched buf 64) t).a) 30) (v := rotl ((rounds h (sched buf 64) t).a) 19) hT rfl rfl) rfl rfl (by decide) ?_; clear hT; intro a hT
      refine l_q hT (q_move hT rfl) rfl rfl (by decide) ?_; clear hT; intro a hT
      refine l_do rfl ?_
      refine w_callT (xs := [.tmp 175, .const (.int .i64 (-22))]) hT rfl (vs := [(v32 ((rounds h (sched buf 64) t).a)), (vI (-22))]) rfl (args := #[(v32 ((rounds h (sched buf 64) t).a)), (vI (-22))]) rfl Tryd.func61 rfl rfl (by decide) ((rotl_spec ((rounds h (sched buf 64) t).a) (-22) 10 (by decide) (by decide) (by decide) _).mono ?_)
      rintro e w19 ⟨rfl, hX⟩
      refine ⟨_, rfl, ?_⟩; clear hT; intro a hT; replace hT : Tm 227 a ((176, (v32 (rotl ((rounds h (sched buf 64) t).a) 10))) :: _) := hT
      replace hL := hL.ext hX
      refine l_q hT (q_xor32 (u := (rotl ((rounds h (sched buf 64) t).a) 30) ^^^ (rotl ((rounds h (sched buf 64) t).a) 19)) (v := rotl ((rounds h (sched buf 64) t).a) 10) hT rfl rfl) rfl rfl (by decide) ?_; clear hT; intro a hT
      refine l_q hT (q_assign hT rfl) rfl rfl (by decide) ?_; clear hT; intro a hT
      refine l_end ?_
      refine then_norm ?_
      refine c_seq ?_
      refine c_region ?_
      refine l_q hT (q_move hT rfl) rfl rfl (by decide) ?_; clear hT; intro a hT
      refine l_q hT (q_move hT rfl) rfl rfl (by decide) ?_; clear hT; intro a hT
      refine l_q hT (q_move hT rfl) rfl rfl (by decide) ?_; clear hT; intro a hT
      refine l_q hT (q_and32 (u := (rounds h (sched buf 64) t).a) (v := (rounds h (sched buf 64) t).b) hT rfl rfl) rfl rfl (by decide) ?_; clear hT; intro a hT
      refine l_q hT (q_move hT rfl) rfl rfl (by decide) ?_; clear hT; intro a hT
      refine l_q hT (q_move hT rfl) rfl rfl (by decide) ?_; clear hT; intro a hT
      refine l_q hT (q_move hT rfl) rfl rfl (by decide) ?_; clear hT; intro a hT
      refine l_q hT (q_or32 (u := (rounds h (sched buf 64) t).a) (v := (rounds h (sched buf 64) t).b) hT rfl rfl) rfl rfl (by decide) ?_; clear hT; intro a hT
      refine l_q hT (q_and32 (u := (rounds h (sched buf 64) t).c) (v := ((rounds h (sched buf 64) t).a) ||| ((rounds h (sched buf 64) t).b)) hT rfl rfl) rfl rfl (by decide) ?_; clear hT; intro a hT
      refine l_q hT (q_or32 (u := ((rounds h (sched buf 64) t).a) &&& ((rounds h (sched buf 64) t).b)) (v := ((rounds h (sched buf 64) t).c) &&& (((rounds h (sched buf 64) t).a) ||| ((rounds h (sched buf 64) t).b))) hT rfl rfl) rfl rfl (by decide) ?_; clear hT; intro a hT
      refine l_q hT (q_add32 (u := ((rotl ((rounds h (sched buf 64) t).a) 30) ^^^ (rotl ((rounds h (sched buf 64) t).a) 19)) ^^^ (rotl ((rounds h (sched buf 64) t).a) 10)) (v := (((rounds h (sched buf 64) t).a) &&& ((rounds h (sched buf 64) t).b)) ||| (((rounds h (sched buf 64) t).c) &&& (((rounds h (sched buf 64) t).a) ||| ((rounds h (sched buf 64) t).b)))) hT rfl rfl) rfl rfl (by decide) ?_; clear hT; intro a hT
      refine l_q hT (q_assign hT rfl) rfl rfl (by decide) ?_; clear hT; intro a hT
      refine l_end ?_
      refine then_norm ?_
      refine c_region ?_
      refine l_q hT (q_move hT rfl) rfl rfl (by decide) ?_; clear hT; intro a hT
      refine l_q hT (q_move hT rfl) rfl rfl (by decide) ?_; clear hT; intro a hT
      refine l_q hT (q_add32 (u := (((((rounds h (sched buf 64) t).k) + (((rotl ((rounds h (sched buf 64) t).e) 26) ^^^ (rotl ((rounds h (sched buf 64) t).e) 21)) ^^^ (rotl ((rounds h (sched buf 64) t).e) 7))) + ((((rounds h (sched buf 64) t).e) &&& (((rounds h (sched buf 64) t).f) ^^^ ((rounds h (sched buf 64) t).g))) ^^^ ((rounds h (sched buf 64) t).g))) + (keyF t)) + ((sched buf 64) t)) (v := (((rotl ((rounds h (sched buf 64) t).a) 30) ^^^ (rotl ((rounds h (sched buf 64) t).a) 19)) ^^^ (rotl ((rounds h (sched buf 64) t).a) 10)) + ((((rounds h (sched buf 64) t).a) &&& ((rounds h (sched buf 64) t).b)) ||| (((rounds h (sched buf 64) t).c) &&& (((rounds h (sched buf 64) t).a) ||| ((rounds h (sched buf 64) t).b))))) hT rfl rfl) rfl rfl (by decide) ?_; clear hT; intro a hT
      refine l_q hT (q_move hT rfl) rfl rfl (by decide) ?_; clear hT; intro a hT
      refine l_q hT (q_move hT rfl) rfl rfl (by decide) ?_; clear hT; intro a hT
      refine l_q hT (q_move hT rfl) rfl rfl (by decide) ?_; clear hT; intro a hT
      refine l_q hT (q_move hT rfl) rfl rfl (by decide) ?_; clear hT; intro a hT
      refine l_q hT (q_move hT rfl) rfl rfl (by decide) ?_; clear hT; intro a hT
      refine l_q hT (q_add32 (u := (rounds h (sched buf 64) t).d) (v := (((((rounds h (sched buf 64) t).k) + (((rotl ((rounds h (sched buf 64) t).e) 26) ^^^ (rotl ((rounds h (sched buf 64) t).e) 21)) ^^^ (rotl ((rounds h (sched buf 64) t).e) 7))) + ((((rounds h (sched buf 64) t).e) &&& (((rounds h (sched buf 64) t).f) ^^^ ((rounds h (sched buf 64) t).g))) ^^^ ((rounds h (sched buf 64) t).g))) + (keyF t)) + ((sched buf 64) t)) hT rfl rfl) rfl rfl (by decide) ?_; clear hT; intro a hT
      refine l_q hT (q_move hT rfl) rfl rfl (by decide) ?_; clear hT; intro a hT
      refine l_q hT (q_move hT rfl) rfl rfl (by decide) ?_; clear hT; intro a hT
      refine l_q hT (q_move hT rfl) rfl rfl (by decide) ?_; clear hT; intro a hT
      refine l_q hT (q_assign hT rfl) rfl rfl (by decide) ?_; clear hT; intro a hT
      refine l_q hT (q_assign hT rfl) rfl rfl (by decide) ?_; clear hT; intro a hT
      refine l_q hT (q_assign hT rfl) rfl rfl (by decide) ?_; clear hT; intro a hT
      refine l_q hT (q_assign hT rfl) rfl rfl (by decide) ?_; clear hT; intro a hT
      refine l_q hT (q_assign hT rfl) rfl rfl (by decide) ?_; clear hT; intro a hT
      refine l_q hT (q_assign hT rfl) rfl rfl (by decide) ?_; clear hT; intro a hT
      refine l_q hT (q_assign hT rfl) rfl rfl (by decide) ?_; clear hT; intro a hT
      refine l_q hT (q_assign hT rfl) rfl rfl (by decide) ?_; clear hT; intro a hT
      refine l_end ?_
      refine blk_norm ?_
      refine then_norm ?_
      refine c_region ?_
      refine l_q hT (q_addI hT rfl rfl (r := (t : Int) + 1) rfl (by omega) (by omega)) rfl rfl (by decide) ?_; clear hT; intro a hT
      refine l_q hT (q_move hT rfl) rfl rfl (by decide) ?_; clear hT; intro a hT
      refine l_end ?_
      refine then_norm ?_
      exact ⟨_, ⟨t + 1, rfl, by omega, hT.keep [141, 0, 140, 9, 10, 11, 12, 13, 14, 15, 16] rfl, hL⟩, by simp only [id]; omega⟩
    · skip
      have hc3 := of_decide_eq_false hc3
      obtain rfl : t = 64 := by omega
      refine wp_exit ?_
      refine then_exit ?_
      refine then_exit ?_
      refine blk_exit ?_
      refine then_norm ?_
      refine c_seq ?_
      refine c_region ?_
      refine l_q hT (q_move hT rfl) rfl rfl (by decide) ?_; clear hT; intro a hT
      refine l_q hT (q_move hT rfl) rfl rfl (by decide) ?_; clear hT; intro a hT
      refine l_q hT (q_move hT rfl) rfl rfl (by decide) ?_; clear hT; intro a hT
      refine l_q hT (q_move hT rfl) rfl rfl (by decide) ?_; clear hT; intro a hT
      refine l_q hT (q_move hT rfl) rfl rfl (by decide) ?_; clear hT; intro a hT
      refine l_q hT (q_move hT rfl) rfl rfl (by decide) ?_; clear hT; intro a hT
      refine l_q hT (q_move hT rfl) rfl rfl (by decide) ?_; clear hT; intro a hT
      refine l_q hT (q_move hT rfl) rfl rfl (by decide) ?_; clear hT; intro a hT
      refine l_q hT (q_build (ps := [(0, .tmp 202), (1, .tmp 203), (2, .tmp 204), (3, .tmp 205), (4, .tmp 206), (5, .tmp 207), (6, .tmp 208), (7, .tmp 209)]) (pv := [(0, (v32 ((rounds h (sched buf 64) 64).a))), (1, (v32 ((rounds h (sched buf 64) 64).b))), (2, (v32 ((rounds h (sched buf 64) 64).c))), (3, (v32 ((rounds h (sched buf 64) 64).d))), (4, (v32 ((rounds h (sched buf 64) 64).e))), (5, (v32 ((rounds h (sched buf 64) 64).f))), (6, (v32 ((rounds h (sched buf 64) 64).g))), (7, (v32 ((rounds h (sched buf 64) 64).k)))]) (v := .agg [(v32 ((rounds h (sched buf 64) 64).a)), (v32 ((rounds h (sched buf 64) 64).b)), (v32 ((rounds h (sched buf 64) 64).c)), (v32 ((rounds h (sched buf 64) 64).d)), (v32 ((rounds h (sched buf 64) 64).e)), (v32 ((rounds h (sched buf 64) 64).f)), (v32 ((rounds h (sched buf 64) 64).g)), (v32 ((rounds h (sched buf 64) 64).k))].toArray) hT rfl (fun _ => by kernel_rfl)) rfl rfl (by decide) ?_; clear hT; intro a hT
      refine l_q hT (q_move hT rfl) rfl rfl (by decide) ?_; clear hT; intro a hT
      refine l_end ?_
      refine then_norm ?_
      refine wp_block ?_
      refine c_loop (fun mz a wz => ∃ t : Nat, mz = 8 - t ∧ t ≤ 8 ∧ Tm 227 a [(211, (vI (t : Int))), (0, (vp b 0)), (210, (Value.agg (arr32 8 ((rounds h (sched buf 64) 64).at)).toArray))] ∧ Vg.Loc [b] w0 wz [[(b1, ob (arr32 64 (sched buf 64)) 119)], [(b, ob (arr32 8 (mixTo h (rounds h (sched buf 64) 64) t) ++ (arr8 64 buf ++ ([(vI n)]))) 110)]]) id 8 ?_ ?_
      · exact ⟨0, rfl, by omega, hT.keep [211, 0, 210] rfl, hL⟩
      clear hT hL
      rintro mz a w20 ⟨t, rfl, ht, hT, hL⟩
      refine c_seq ?_
      refine c_region ?_
      refine l_q hT (q_lss hT rfl rfl) rfl rfl (by decide) ?_; clear hT; intro a hT
      refine l_end ?_
      refine then_norm ?_
      refine c_seq ?_
      refine c_if hT rfl (fun hc4 => ?_) (fun hc4 => ?_)
      · skip
        have hc4 := of_decide_eq_true hc4
        refine wp_skip ?_
        refine then_norm ?_
        refine c_seq ?_
        refine wp_block ?_
        refine c_seq ?_
        refine c_region ?_
        refine l_q hT (q_move hT rfl) rfl rfl (by decide) ?_; clear hT; intro a hT
        refine l_q hT (q_index_arr (cs := arr32 8 ((rounds h (sched buf 64) 64).at)) (v := (v32 (((rounds h (sched buf 64) 64).at) t))) hT rfl rfl Tryd.arr107 (by omega) (by omega) (by simpa using arr32_get ((rounds h (sched buf 64) 64).at) (by omega))) rfl rfl (by decide) ?_; clear hT; intro a hT
        refine l_q hT (q_assign hT rfl) rfl rfl (by decide) ?_; clear hT; intro a hT
        refine l_q hT (q_assign hT rfl) rfl rfl (by decide) ?_; clear hT; intro a hT
        refine l_end ?_
        refine then_norm ?_
        refine d_start' hL #[false, false, false, false, false, false, false, false, false, false, false, false] [11] rfl rfl rfl ?_; clear hL; intro w21 hL hE; have hR := hL; have hS := Ext.refl w21
        refine d_pure (i := 0) hT #[true, false, false, false, false, false, false, false, false, false, false, false] rfl (by kernel_rfl) rfl rfl (by decide) (fun _ _ _ h => h) (fun _ => q_move hT rfl) ?_; clear hT; intro a hT
        refine d_pure (i := 1) hT #[true, true, false, false, false, false, false, false, false, false, false, false] rfl (by kernel_rfl) rfl rfl (by decide) (fun _ _ _ h => h) (fun _ => q_move hT rfl) ?_; clear hT; intro a hT
        refine d_pure (i := 2) hT #[true, true, true, false, false, false, false, false, false, false, false, false] rfl (by kernel_rfl) rfl rfl (by decide) (fun _ _ _ h => h) (fun _ => q_nilCheck hT rfl) ?_; clear hT; intro a hT
        refine d_pure (i := 3) hT #[true, true, true, true, false, false, false, false, false, false, false, false] rfl (by kernel_rfl) rfl rfl (by decide) (fun _ _ _ h => h) (fun _ => q_fieldAddr hT rfl Tryd.fld110_0 rfl) ?_; clear hT; intro a hT
        refine d_pure (i := 4) hT #[true, true, true, true, true, false, false, false, false, false, false, false] rfl (by kernel_rfl) rfl rfl (by decide) (fun _ _ _ h => h) (fun _ => (q_indexAddr_arr hT rfl rfl Tryd.arr107 (by omega) (by omega)).v (v := vp b (0 + t)) (by simp)) ?_; clear hT; intro a hT
        refine d_pure (i := 6) hT #[true, true, true, true, true, false, true, false, false, false, false, false] rfl (by kernel_rfl) rfl rfl (by decide) (fun _ _ _ h => h) (fun _ => q_move hT rfl) ?_; clear hT; intro a hT
        refine d_pure (i := 8) hT #[true, true, true, true, true, false, true, false, true, false, false, false] rfl (by kernel_rfl) rfl rfl (by decide) (fun _ _ _ h => h) (fun _ => q_nilCheck hT rfl) ?_; clear hT; intro a hT
        refine d_pure (i := 9) hT #[true, true, true, true, true, false, true, false, true, true, false, false] rfl (by kernel_rfl) rfl rfl (by decide) (fun _ _ _ h => h) (fun _ => q_fieldAddr hT rfl Tryd.fld110_0 rfl) ?_; clear hT; intro a hT
        refine d_take (i := 5) hT #[true, true, true, true, true, true, true, false, true, true, false, false] rfl (by kernel_rfl) rfl rfl (by decide) (fun _ _ _ h => h) (fun _ hs => q_load hT rfl Tryd.ty86 (Rd.ext (Rd.at32 (hR.rd 1 rfl 0 (ds := arr32 8 (mixTo h (rounds h (sched buf 64) 64) t)) rfl) (i := t) (by omega)) hs)) hS ?_; clear hT; intro a hT
        refine d_pure (i := 7) hT #[true, true, true, true, true, true, true, true, true, true, false, false] rfl (by kernel_rfl) rfl rfl (by decide) (fun _ _ _ h => h) (fun _ => q_add32 (u := (mixTo h (rounds h (sched buf 64) 64) t) t) (v := ((rounds h (sched buf 64) 64).at) t) hT rfl rfl) ?_; clear hT; intro a hT
        refine d_pure (i := 10) hT #[true, true, true, true, true, true, true, true, true, true, true, false] rfl (by kernel_rfl) rfl rfl (by decide) (fun _ _ _ h => h) (fun _ => (q_indexAddr_arr hT rfl rfl Tryd.arr107 (by omega) (by omega)).v (v := vp b (0 + t)) (by simp)) ?_; clear hT; intro a hT
        refine d_one (i := 11) hT #[true, true, true, true, true, true, true, true, true, true, true, true] rfl (by kernel_rfl) rfl ?_
        refine w_store hT hL 1 (c := arr32 8 (mixTo h (rounds h (sched buf 64) 64) t) ++ (arr8 64 buf ++ ([(vI n)]))) rfl rfl Tryd.ty86 rfl (vs := [(v32 (((mixTo h (rounds h (sched buf 64) 64) t) t) + (((rounds h (sched buf 64) 64).at) t)))]) rfl rfl (by simp [arr32_len, arr8_len, digC_len]; omega) rfl (c' := arr32 8 (upd (mixTo h (rounds h (sched buf 64) 64) t) t (((mixTo h (rounds h (sched buf 64) 64) t) t) + (((rounds h (sched buf 64) 64).at) t))) ++ (arr8 64 buf ++ ([(vI n)]))) (lay_at (pre := []) (mid := arr32 8 (mixTo h (rounds h (sched buf 64) 64) t)) (post := arr8 64 buf ++ ([(vI n)])) (i := t) (by simp [digC_arr]) (by simp [arr32_len, arr8_len, digC_len]) (by simp [arr32_len, arr8_len, digC_len]; omega) (lay_arr32 _ _ (by omega)) (by simp)) ?_; clear hL; intro w22 hL hE
        replace hL : Vg.Loc [b] w0 w22 ([[(b1, ob (arr32 64 (sched buf 64)) 119)], [(b, ob (arr32 8 (upd (mixTo h (rounds h (sched buf 64) 64) t) t (((mixTo h (rounds h (sched buf 64) 64) t) t) + (((rounds h (sched buf 64) 64).at) t))) ++ (arr8 64 buf ++ ([(vI n)]))) 110)]]) := hL
        refine ⟨fun hn => absurd (by decide) hn, ?_⟩
        refine d_done (by kernel_rfl) ?_; clear hR hS
        refine blk_norm ?_
        refine then_norm ?_
        refine c_region ?_
        refine l_q hT (q_addI hT rfl rfl (r := (t : Int) + 1) rfl (by omega) (by omega)) rfl rfl (by decide) ?_; clear hT; intro a hT
        refine l_q hT (q_move hT rfl) rfl rfl (by decide) ?_; clear hT; intro a hT
        refine l_end ?_
        refine then_norm ?_
        exact ⟨_, ⟨t + 1, rfl, by omega, hT.keep [211, 0, 210] rfl, by rw [mixTo_succ]; exact hL⟩, by simp only [id]; omega⟩
      · skip
        have hc4 := of_decide_eq_false hc4
        obtain rfl : t = 8 := by omega
        refine wp_exit ?_
        refine then_exit ?_
        refine then_exit ?_
        refine blk_exit ?_
        refine c_fall (vs := []) (rs := []) hT rfl .nil ?_
        exact ⟨rfl, mixTo_8 h buf ▸ hL.sub (.cons _ (.cons_cons _ .slnil))⟩
end Go.Proofs.YtcaffacganffjaaDoor
end

section
namespace Go.Proofs.YtcaffacganffjaaDoor
open Go Go.Vg


set_option maxRecDepth 100000 in
set_option maxHeartbeats 4000000 in
theorem Write_spec (b : Nat) (h : Nat → UInt32) (buf : Nat → UInt8) (m bs : List UInt8) (p : Option Addr) (len cap : Nat) (w0 : World) (hK : KeysAt w0) (hb0 : 0 ∉ [b]) (hh : w0.heap[b]? = some (ob (arr32 8 h ++ (arr8 64 buf ++ ([(vI (m.length : Int))]))) 110)) (hok : HOk h buf m) (hsl : SlB w0 p len bs) (hds : 0 < len → ∀ ad : Addr, p = some ad → ad.block ∉ [b]) (hcl : len ≤ cap) (hbig : m.length + len < 4611686018427387904) :
    Calls Tryd.prog 39 #[(vp b 0), (Value.slice p len cap)] w0 fun e w' => ∃ h' buf', e = .returned (vI 0) ∧ Vg.Loc [b] w0 w' [[(b, ob (arr32 8 h' ++ (arr8 64 buf' ++ [vI ((m ++ bs).length : Int)])) 110)]] ∧ HOk h' buf' (m ++ bs) := by
  refine c_enter (n := 41) (args := [(vp b 0), (Value.slice p len cap)]) Tryd.func39 rfl rfl (Nat.le_of_ble_eq_true rfl) rfl (fun a hT => ?_)
  simp only [List.zipIdx_cons, List.zipIdx_nil, List.map_cons, List.map_nil, Nat.reduceAdd] at hT
  have hL := Vg.Loc.start1 hh
  have hlen : bs.length = len := hsl.1
  refine c_seq ?_
  refine c_region ?_
  refine l_q hT (q_assign hT rfl) rfl rfl (by decide) ?_; clear hT; intro a hT
  refine l_end ?_
  refine then_norm ?_
  refine c_seq ?_
  refine c_seq ?_
  refine c_region ?_
  refine l_q hT (q_move hT rfl) rfl rfl (by decide) ?_; clear hT; intro a hT
  refine l_q hT ((q_eq_nil hT rfl rfl Tryd.underlying76).b (b := false) rfl) rfl rfl (by decide) ?_; clear hT; intro a hT
  refine l_end ?_
  refine then_norm ?_
  refine c_false hT rfl rfl ?_
  refine wp_skip ?_
  refine then_norm ?_
  refine c_seq ?_
  refine wp_block ?_
  refine c_loop (fun mm a wz => ∃ (done : Nat) (h : Nat → UInt32) (buf : Nat → UInt8) (p' : Option Addr) (cap' : Nat), mm = bs.length - done ∧ done ≤ bs.length ∧ bs.length - done ≤ cap' ∧ HOk h buf (m ++ bs.take done) ∧ SlB w0 p' (bs.length - done) (bs.drop done) ∧ (0 < bs.length - done → ∀ ad : Addr, p' = some ad → ad.block ∉ [b]) ∧ Tm 41 a [(0, vp b 0), (1, .slice p' (bs.length - done) cap')] ∧ Vg.Loc [b] w0 wz [[(b, ob (arr32 8 h ++ (arr8 64 buf ++ ([(vI ((m.length + done : Nat) : Int))]))) 110)]]) id bs.length ?_ ?_
  · exact ⟨0, h, buf, p, cap, rfl, by omega, by omega, by simpa using hok, by simpa [hlen] using hsl, by simpa [hlen] using hds, by simpa [hlen] using hT.keep [0, 1] (E' := [(0, vp b 0), (1, .slice p len cap)]) rfl, by simpa using hL⟩
  clear hT hL
  rintro mz a w1 ⟨done, h, buf, p', cap', rfl, hdone, hcap, hok, hsl, hds, hT, hL⟩
  refine c_seq ?_
  refine c_seq ?_
  refine c_region ?_
  refine l_q hT (q_move hT rfl) rfl rfl (by decide) ?_; clear hT; intro a hT
  refine l_q hT (q_len_slice hT rfl Tryd.underlying73) rfl rfl (by decide) ?_; clear hT; intro a hT
  refine l_q hT (q_gtr hT rfl rfl) rfl rfl (by decide) ?_; clear hT; intro a hT
  refine l_end ?_
  refine then_norm ?_
  refine c_if hT rfl (fun hc1 => ?_) (fun hc1 => ?_)
  · skip
    have hc1 := of_decide_eq_true hc1
    refine wp_skip ?_
    refine then_norm ?_
    refine wp_block ?_
    refine c_seq ?_
    refine d_start' hL #[false, false, false, false, false, false, false, false, false, false, false, false] [10] rfl rfl rfl ?_; clear hL; intro w2 hL hE; have hR := hL; have hS := Ext.refl w2
    refine d_pure (i := 0) hT #[true, false, false, false, false, false, false, false, false, false, false, false] rfl (by kernel_rfl) rfl rfl (by decide) (fun _ _ _ h => h) (fun _ => q_move hT rfl) ?_; clear hT; intro a hT
    refine d_pure (i := 1) hT #[true, true, false, false, false, false, false, false, false, false, false, false] rfl (by kernel_rfl) rfl rfl (by decide) (fun _ _ _ h => h) (fun _ => q_nilCheck hT rfl) ?_; clear hT; intro a hT
    refine d_pure (i := 2) hT #[true, true, true, false, false, false, false, false, false, false, false, false] rfl (by kernel_rfl) rfl rfl (by decide) (fun _ _ _ h => h) (fun _ => q_fieldAddr hT rfl Tryd.fld110_1 rfl) ?_; clear hT; intro a hT
    refine d_pure (i := 3) hT #[true, true, true, true, false, false, false, false, false, false, false, false] rfl (by kernel_rfl) rfl rfl (by decide) (fun _ _ _ h => h) (fun _ => q_move hT rfl) ?_; clear hT; intro a hT
    refine d_pure (i := 4) hT #[true, true, true, true, true, false, false, false, false, false, false, false] rfl (by kernel_rfl) rfl rfl (by decide) (fun _ _ _ h => h) (fun _ => q_nilCheck hT rfl) ?_; clear hT; intro a hT
    refine d_pure (i := 5) hT #[true, true, true, true, true, true, false, false, false, false, false, false] rfl (by kernel_rfl) rfl rfl (by decide) (fun _ _ _ h => h) (fun _ => q_fieldAddr hT rfl Tryd.fld110_2 rfl) ?_; clear hT; intro a hT
    refine d_pure (i := 9) hT #[true, true, true, true, true, true, false, false, false, true, false, false] rfl (by kernel_rfl) rfl rfl (by decide) (fun _ _ _ h => h) (fun _ => q_move hT rfl) ?_; clear hT; intro a hT
    refine d_take (i := 6) hT #[true, true, true, true, true, true, true, false, false, true, false, false] rfl (by kernel_rfl) rfl rfl (by decide) (fun _ _ _ h => h) (fun _ hs => q_load hT rfl Tryd.ty3 (Rd.ext (hR.rd 0 rfl 72 (ds := [(vI ((m.length + done : Nat) : Int))]) rfl) hs)) hS ?_; clear hT; intro a hT
    refine d_pure (i := 7) hT #[true, true, true, true, true, true, true, true, false, true, false, false] rfl (by kernel_rfl) rfl rfl (by decide) (fun _ _ _ h => h) (fun _ => (q_remI hT rfl rfl (by omega) (by omega)).v (v := vI (((m.length + done) % 64 : Nat) : Int)) rfl) ?_; clear hT; intro a hT
    refine d_pure (i := 8) hT #[true, true, true, true, true, true, true, true, true, true, false, false] rfl (by kernel_rfl) rfl rfl (by decide) (fun _ _ _ h => h) (fun _ => q_slice_arr_lo (l := ((m.length + done) % 64 : Nat)) hT rfl rfl Tryd.arr108 (by omega)) ?_; clear hT; intro a hT
    refine d_one (i := 10) hT #[true, true, true, true, true, true, true, true, true, true, true, false] rfl (by kernel_rfl) rfl ?_
    obtain ⟨k1, hk1⟩ : ∃ k1, k1 = min (bs.length - done) (64 - ((m.length + done) % 64 : Nat)) := ⟨_, rfl⟩
    have hlk : ((bs.drop done).take k1).length = k1 := by rw [List.length_take, ((hsl.loc hL hds)).1]; omega
    refine w_copy (off := _) hT hL (by decide) 0 k1 (c := arr32 8 h ++ (arr8 64 buf ++ ([(vI ((m.length + done : Nat) : Int))]))) rfl rfl rfl Tryd.sli73 ((hsl.loc hL hds)) rfl hk1 (by simp [arr32_len, arr8_len, digC_len] <;> omega) (c' := arr32 8 h ++ (arr8 64 (over buf ((m.length + done) % 64 : Nat) ((bs.drop done).take k1)) ++ ([(vI ((m.length + done : Nat) : Int))]))) (lay_at (pre := arr32 8 h) (mid := arr8 64 buf) (post := [(vI ((m.length + done : Nat) : Int))]) (i := ((m.length + done) % 64 : Nat)) (by simp [digC_arr]) (by simp [arr32_len, arr8_len, digC_len]) (by simp [arr32_len, arr8_len, digC_len, byC] <;> omega) (lay_arr8 _ _ (by rw [hlk]; omega)) (by simp)) ?_; clear hT hL; intro a w3 hT hL hE
    replace hL : Vg.Loc [b] w0 w3 ([[(b, ob (arr32 8 h ++ (arr8 64 (over buf ((m.length + done) % 64 : Nat) ((bs.drop done).take k1)) ++ ([(vI ((m.length + done : Nat) : Int))]))) 110)]]) := hL
    refine ⟨fun hn => absurd (by decide) hn, ?_⟩
    refine d_pure (i := 11) hT #[true, true, true, true, true, true, true, true, true, true, true, true] rfl (by kernel_rfl) rfl rfl (by decide) (fun _ _ _ h => h) (fun _ => q_assign hT rfl) ?_; clear hT; intro a hT
    refine d_done (by kernel_rfl) ?_; clear hR hS
    refine then_norm ?_
    refine c_seq ?_
    refine c_region ?_
    refine l_q hT (q_move hT rfl) rfl rfl (by decide) ?_; clear hT; intro a hT
    refine l_q hT (q_nilCheck hT rfl) rfl rfl (by decide) ?_; clear hT; intro a hT
    refine l_q hT (q_fieldAddr hT rfl Tryd.fld110_2 rfl) rfl rfl (by decide) ?_; clear hT; intro a hT
    refine l_q hT (q_load hT rfl Tryd.ty3 (hL.rd 0 rfl 72 (ds := [(vI ((m.length + done : Nat) : Int))]) rfl)) rfl rfl (by decide) ?_; clear hT; intro a hT
    refine l_q hT (q_move hT rfl) rfl rfl (by decide) ?_; clear hT; intro a hT
    refine l_q hT ((q_addI hT rfl rfl (r := ((m.length + done : Nat) : Int) + (k1 : Int)) rfl (by omega) (by omega)).v (v := vI ((m.length + done + k1 : Nat) : Int)) (by congr 1)) rfl rfl (by decide) ?_; clear hT; intro a hT
    refine l_q hT (q_nilCheck hT rfl) rfl rfl (by decide) ?_; clear hT; intro a hT
    refine l_q hT (q_fieldAddr hT rfl Tryd.fld110_2 rfl) rfl rfl (by decide) ?_; clear hT; intro a hT
    refine l_do rfl ?_
    refine w_store hT hL 0 (c := arr32 8 h ++ (arr8 64 (over buf ((m.length + done) % 64 : Nat) ((bs.drop done).take k1)) ++ ([(vI ((m.length + done : Nat) : Int))]))) rfl rfl Tryd.ty3 rfl (vs := [(vI ((m.length + done + k1 : Nat) : Int))]) rfl rfl (by first | decide | (simp [arr32_len, arr8_len, digC_len]; done) | (simp [arr32_len, arr8_len, digC_len]; omega)) rfl (c' := arr32 8 h ++ (arr8 64 (over buf ((m.length + done) % 64 : Nat) ((bs.drop done).take k1)) ++ ([(vI ((m.length + done + k1 : Nat) : Int))]))) rfl ?_; clear hL; intro w4 hL hE
    replace hL : Vg.Loc [b] w0 w4 ([[(b, ob (arr32 8 h ++ (arr8 64 (over buf ((m.length + done) % 64 : Nat) ((bs.drop done).take k1)) ++ ([(vI ((m.length + done + k1 : Nat) : Int))]))) 110)]]) := hL
    refine l_end ?_
    refine then_norm ?_
    refine c_seq ?_
    refine c_region ?_
    refine l_q hT (q_move hT rfl) rfl rfl (by decide) ?_; clear hT; intro a hT
    refine l_q hT (q_move hT rfl) rfl rfl (by decide) ?_; clear hT; intro a hT
    refine l_q hT (q_slice_lo (l := k1) hT rfl rfl Tryd.sli73 (by omega)) rfl rfl (by decide) ?_; clear hT; intro a hT
    refine l_q hT (q_assign hT rfl) rfl rfl (by decide) ?_; clear hT; intro a hT
    refine l_end ?_
    refine then_norm ?_
    refine c_seq ?_
    refine c_region ?_
    refine l_q hT (q_move hT rfl) rfl rfl (by decide) ?_; clear hT; intro a hT
    refine l_q hT (q_nilCheck hT rfl) rfl rfl (by decide) ?_; clear hT; intro a hT
    refine l_q hT (q_fieldAddr hT rfl Tryd.fld110_2 rfl) rfl rfl (by decide) ?_; clear hT; intro a hT
    refine l_q hT (q_load hT rfl Tryd.ty3 (hL.rd 0 rfl 72 (ds := [(vI ((m.length + done + k1 : Nat) : Int))]) rfl)) rfl rfl (by decide) ?_; clear hT; intro a hT
    refine l_q hT ((q_remI hT rfl rfl (by omega) (by omega)).v (v := vI (((m.length + done + k1) % 64 : Nat) : Int)) rfl) rfl rfl (by decide) ?_; clear hT; intro a hT
    refine l_q hT (q_eql hT rfl rfl) rfl rfl (by decide) ?_; clear hT; intro a hT
    refine l_end ?_
    refine then_norm ?_
    refine c_if hT rfl (fun hc2 => ?_) (fun hc2 => ?_)
    · skip
      have hc2 := of_decide_eq_true hc2
      have htk : m ++ bs.take (done + k1) = (m ++ bs.take done) ++ (bs.drop done).take k1 := by rw [List.append_assoc, List.take_add]
      have hml : (m ++ bs.take done).length = m.length + done := by simp; omega
      have hrl : ((bs.drop done).take k1).length = k1 := hlk
      have hok := hok.full (l := (bs.drop done).take k1) (by omega) (by omega) (by omega)
      rw [hml] at hok
      have hds' : 0 < bs.length - done - k1 → ∀ ad : Addr, (if cap' = k1 then p' else p'.map (·.add (k1 * 1))) = some ad → ad.block ∉ [b] := SlB.lo_ne hds
      refine c_region ?_
      refine l_q hT (q_move hT rfl) rfl rfl (by decide) ?_; clear hT; intro a hT
      refine l_do rfl ?_
      refine w_callT (xs := [.tmp 39]) hT rfl (vs := [(vp b 0)]) rfl (args := #[(vp b 0)]) rfl Tryd.func54 rfl rfl (by decide) ((mix_spec b h (over buf ((m.length + done) % 64 : Nat) ((bs.drop done).take k1)) ((m.length + done + k1 : Nat) : Int) _ (hK.of hL hb0) hb0 (hL.get 0 rfl)).mono ?_)
      rintro e w5 ⟨rfl, hX⟩
      refine ⟨_, rfl, ?_⟩; clear hT; intro a hT; replace hT : Tm 41 a ((40, (Value.tuple #[])) :: _) := hT
      replace hL : Vg.Loc [b] w0 w5 ([[(b, ob (arr32 8 (mixF h (over buf ((m.length + done) % 64 : Nat) ((bs.drop done).take k1))) ++ (arr8 64 (over buf ((m.length + done) % 64 : Nat) ((bs.drop done).take k1)) ++ ([(vI ((m.length + done + k1 : Nat) : Int))]))) 110)]]) := Vg.Loc.call (ci := [[(b, ob (arr32 8 h ++ (arr8 64 (over buf ((m.length + done) % 64 : Nat) ((bs.drop done).take k1)) ++ ([(vI ((m.length + done + k1 : Nat) : Int))]))) 110)]]) (cr := []) hL hX
      refine l_end ?_
      refine blk_norm ?_
      refine then_norm ?_
      exact ⟨_, ⟨done + k1, _, _, _, (cap' - k1), rfl, by omega, by omega, by rw [htk]; exact hok, by simpa [Nat.sub_sub, List.drop_drop] using hsl.lo (l := k1) (by omega) hcap, by simpa [Nat.sub_sub] using hds', by simpa [Nat.sub_sub] using hT.keep [0, 1] (E' := [(0, vp b 0), (1, .slice (if cap' = k1 then p' else p'.map (·.add (k1 * 1))) (bs.length - done - k1) (cap' - k1))]) rfl, by simpa [Nat.add_assoc] using hL⟩, by simp only [id]; omega⟩
    · skip
      have hc2 := of_decide_eq_false hc2
      have htk : m ++ bs.take (done + k1) = (m ++ bs.take done) ++ (bs.drop done).take k1 := by rw [List.append_assoc, List.take_add]
      have hml : (m ++ bs.take done).length = m.length + done := by simp; omega
      have hrl : ((bs.drop done).take k1).length = k1 := hlk
      have hok := hok.more (l := (bs.drop done).take k1) (by omega) (by omega)
      rw [hml] at hok
      have hds' : 0 < bs.length - done - k1 → ∀ ad : Addr, (if cap' = k1 then p' else p'.map (·.add (k1 * 1))) = some ad → ad.block ∉ [b] := SlB.lo_ne hds
      refine wp_skip ?_
      refine blk_norm ?_
      refine then_norm ?_
      exact ⟨_, ⟨done + k1, _, _, _, (cap' - k1), rfl, by omega, by omega, by rw [htk]; exact hok, by simpa [Nat.sub_sub, List.drop_drop] using hsl.lo (l := k1) (by omega) hcap, by simpa [Nat.sub_sub] using hds', by simpa [Nat.sub_sub] using hT.keep [0, 1] (E' := [(0, vp b 0), (1, .slice (if cap' = k1 then p' else p'.map (·.add (k1 * 1))) (bs.length - done - k1) (cap' - k1))]) rfl, by simpa [Nat.add_assoc] using hL⟩, by simp only [id]; omega⟩
  · skip
    have hc1 := of_decide_eq_false hc1
    obtain rfl : done = bs.length := by omega
    refine wp_exit ?_
    refine then_exit ?_
    refine then_exit ?_
    refine blk_exit ?_
    refine then_norm ?_
    refine c_seq ?_
    refine c_region ?_
    refine l_q hT (q_assign hT rfl) rfl rfl (by decide) ?_; clear hT; intro a hT
    refine l_end ?_
    refine then_norm ?_
    refine wp_ret ?_
    refine c_ret (vs := [(vI 0)]) (rs := [.tmp 4]) hT rfl (.tmp rfl .nil) ?_
    exact ⟨_, _, rfl, by simpa using hL, by simpa using hok⟩
end Go.Proofs.YtcaffacganffjaaDoor
end

section
namespace Go.Proofs.YtcaffacganffjaaDoor
open Go Go.Vg


set_option maxRecDepth 100000 in
set_option maxHeartbeats 4000000 in
theorem Sum_spec (b : Nat) (h : Nat → UInt32) (buf : Nat → UInt8) (m : List UInt8) (w0 : World) (hK : KeysAt w0) (hh : w0.heap[b]? = some (ob (arr32 8 h ++ (arr8 64 buf ++ ([(vI (m.length : Int))]))) 110)) (hok : HOk h buf m) (hbig : m.length < 4611686018427380000) :
    Calls Tryd.prog 41 #[(vp b 0)] w0 fun e w' => e = .returned (dv (sha m)) ∧ Ext w0 w' := by
  refine c_enter (n := 63) (args := [(vp b 0)]) Tryd.func41 rfl rfl (Nat.le_of_ble_eq_true rfl) rfl (fun a hT => ?_)
  simp only [List.zipIdx_cons, List.zipIdx_nil, List.map_cons, List.map_nil, Nat.reduceAdd] at hT
  have hL := Vg.Loc.refl [] w0
  have hpl := padLen_lt m.length
  have hml : (m ++ [128]).length = m.length + 1 := by simp
  refine c_seq ?_
  refine c_region ?_
  refine l_do rfl ?_
  refine w_alloc hT hL (by decide) Tryd.ty24 ?_; clear hT hL; intro b1 a w1 hT hL hE hB
  refine l_end ?_
  refine then_norm ?_
  refine c_seq ?_
  refine c_region ?_
  refine l_do rfl ?_
  refine w_alloc hT hL (by decide) Tryd.ty24 ?_; clear hT hL; intro b2 a w2 hT hL hE hB
  refine l_end ?_
  refine then_norm ?_
  refine c_seq ?_
  refine c_seq ?_
  refine c_region ?_
  refine l_q hT (q_move hT rfl) rfl rfl (by decide) ?_; clear hT; intro a hT
  refine l_q hT ((q_eq_nil hT rfl rfl Tryd.underlying76).b (b := false) rfl) rfl rfl (by decide) ?_; clear hT; intro a hT
  refine l_end ?_
  refine then_norm ?_
  refine c_false hT rfl rfl ?_
  refine wp_skip ?_
  refine then_norm ?_
  refine c_seq ?_
  refine c_region ?_
  refine l_q hT (q_move hT rfl) rfl rfl (by decide) ?_; clear hT; intro a hT
  refine l_q hT (q_nilCheck hT rfl) rfl rfl (by decide) ?_; clear hT; intro a hT
  refine l_q hT (q_load_agg hT rfl Tryd.ty110 (Rd.mk (c := arr32 8 h ++ (arr8 64 buf ++ ([(vI (m.length : Int))]))) (cs := arr32 8 h ++ (arr8 64 buf ++ ([(vI (m.length : Int))]))) (hL.kept hh (by simp)) rfl) rfl) rfl rfl (by decide) ?_; clear hT; intro a hT
  refine l_do rfl ?_
  refine w_alloc hT hL (by decide) Tryd.ty110 ?_; clear hT hL; intro b3 a w3 hT hL hE hB
  refine l_do rfl ?_
  refine w_store hT hL 0 (c := arr32 8 (fun _ => 0) ++ (arr8 64 (fun _ => 0) ++ ([(vI 0)]))) rfl rfl Tryd.ty110 rfl (vs := arr32 8 h ++ (arr8 64 buf ++ ([(vI (m.length : Int))]))) rfl rfl (by first | decide | (simp [arr32_len, arr8_len, digC_len]; done) | (simp [arr32_len, arr8_len, digC_len]; omega)) rfl (c' := arr32 8 h ++ (arr8 64 buf ++ ([(vI (m.length : Int))]))) rfl ?_; clear hL; intro w4 hL hE
  replace hL : Vg.Loc [] w0 w4 ([[(b3, ob (arr32 8 h ++ (arr8 64 buf ++ ([(vI (m.length : Int))]))) 110)], [(b2, ob (digC Dig.zero) 24)], [(b1, ob (digC Dig.zero) 24)]]) := hL
  refine l_end ?_
  refine then_norm ?_
  refine c_seq ?_
  refine c_region ?_
  refine l_do rfl ?_
  refine w_buildSlice (e := 5) (ps := [(0, .const (.int .u8 128))]) (pv := [(0, (v8 128))]) (c := [(v8 128)]) hT hL (by decide) rfl (fun _ => by kernel_rfl) ?_; clear hT hL; intro b4 a w5 hT hL hE hB
  refine l_do rfl ?_
  replace hL : Vg.Loc [] w0 w5 ([[(b3, ob (arr32 8 h ++ (arr8 64 buf ++ ([(vI (m.length : Int))]))) 110)], [(b4, ob [(v8 128)] 5)], [(b2, ob (digC Dig.zero) 24)], [(b1, ob (digC Dig.zero) 24)]]) := hL.front 1 rfl rfl
  refine w_callT (xs := [.tmp 4, .tmp 15]) hT rfl (vs := [(vp b3 0), (Value.slice (some ⟨b4, 0, none⟩) 1 1)]) rfl (args := #[(vp b3 0), (Value.slice (some ⟨b4, 0, none⟩) 1 1)]) rfl Tryd.func39 rfl rfl (by decide) ((Write_spec b3 h buf (m) [128] (some ⟨b4, 0, none⟩) 1 1 _ (hK.of hL (by simp)) (by simp; have := hK.lt; have := hL.fresh 0 rfl; omega) (hL.get 0 rfl) hok (SlB.of (hL.rd 1 rfl 0 (ds := byC [128]) rfl)) (fun _ ad hp => by cases hp; have := hL.ne 0 1 (by decide) rfl rfl; simp; exact fun e => this e.symm) (by omega) (by first | omega | (simp; omega))).mono ?_)
  rintro e w6 ⟨hw1, fw1, rfl, hX, hok1⟩
  refine ⟨_, rfl, ?_⟩; clear hT; intro a hT; replace hT : Tm 63 a ((16, (vI 0)) :: _) := hT
  replace hL : Vg.Loc [] w0 w6 ([[(b3, ob (arr32 8 hw1 ++ (arr8 64 fw1 ++ ([(vI ((m ++ [128]).length : Int))]))) 110)], [(b4, ob [(v8 128)] 5)], [(b2, ob (digC Dig.zero) 24)], [(b1, ob (digC Dig.zero) 24)]]) := Vg.Loc.call (ci := [[(b3, ob (arr32 8 h ++ (arr8 64 buf ++ ([(vI (m.length : Int))]))) 110)]]) (cr := [[(b4, ob [(v8 128)] 5)], [(b2, ob (digC Dig.zero) 24)], [(b1, ob (digC Dig.zero) 24)]]) hL hX
  refine l_end ?_
  refine then_norm ?_
  refine c_seq ?_
  refine c_region ?_
  refine l_do rfl ?_
  refine w_alloc hT hL (by decide) Tryd.ty111 ?_; clear hT hL; intro b5 a w7 hT hL hE hB
  refine l_end ?_
  refine then_norm ?_
  refine c_seq ?_
  refine c_region ?_
  refine l_q hT (q_fieldAddr hT rfl Tryd.fld110_2 rfl) rfl rfl (by decide) ?_; clear hT; intro a hT
  refine l_q hT (q_load hT rfl Tryd.ty3 (hL.rd 1 rfl 72 (ds := [(vI ((m ++ [128]).length : Int))]) rfl)) rfl rfl (by decide) ?_; clear hT; intro a hT
  refine l_q hT ((q_remI hT rfl rfl (by omega) (by omega)).v (v := vI (((m ++ [128]).length % 64 : Nat) : Int)) rfl) rfl rfl (by decide) ?_; clear hT; intro a hT
  refine l_q hT ((q_subI hT rfl rfl (r := 120 - (((m ++ [128]).length % 64 : Nat) : Int)) rfl (by omega) (by omega)).v (v := vI ((120 - (m ++ [128]).length % 64 : Nat) : Int)) (by congr 1; omega)) rfl rfl (by decide) ?_; clear hT; intro a hT
  refine l_q hT ((q_remI hT rfl rfl (by omega) (by omega)).v (v := vI ((padLen m.length : Nat) : Int)) (by simp [padLen])) rfl rfl (by decide) ?_; clear hT; intro a hT
  refine l_q hT (q_assign hT rfl) rfl rfl (by decide) ?_; clear hT; intro a hT
  refine l_end ?_
  refine then_norm ?_
  refine c_seq ?_
  refine c_seq ?_
  refine c_region ?_
  refine l_q hT (q_move hT rfl) rfl rfl (by decide) ?_; clear hT; intro a hT
  refine l_end ?_
  refine then_norm ?_
  refine wp_block ?_
  refine c_loop (fun mz a wz => ∃ t : Nat, mz = 8 - t ∧ t ≤ 8 ∧ Tm 63 a [(22, (vI (t : Int))), (0, (vp b 0)), (2, (vp b1 0)), (3, (vp b2 0)), (4, (vp b3 0)), (5, (vp b5 0)), (6, (vI ((padLen m.length : Nat) : Int)))] ∧ Vg.Loc [] w0 wz [[(b5, ob (arr8 72 (tailTo m.length t)) 111)], [(b3, ob (arr32 8 hw1 ++ (arr8 64 fw1 ++ ([(vI ((m ++ [128]).length : Int))]))) 110)], [(b4, ob [(v8 128)] 5)], [(b2, ob (digC Dig.zero) 24)], [(b1, ob (digC Dig.zero) 24)]]) id 8 ?_ ?_
  · exact ⟨0, rfl, by omega, hT.keep [22, 0, 2, 3, 4, 5, 6] rfl, by rw [tailTo_zero]; exact hL⟩
  clear hT hL
  rintro mz a w8 ⟨t, rfl, ht, hT, hL⟩
  refine c_seq ?_
  refine c_region ?_
  refine l_q hT (q_lss hT rfl rfl) rfl rfl (by decide) ?_; clear hT; intro a hT
  refine l_end ?_
  refine then_norm ?_
  refine c_seq ?_
  refine c_if hT rfl (fun hc1 => ?_) (fun hc1 => ?_)
  · skip
    have hc1 := of_decide_eq_true hc1
    refine wp_skip ?_
    refine then_norm ?_
    refine c_seq ?_
    refine wp_block ?_
    refine c_seq ?_
    refine c_region ?_
    refine l_q hT (q_move hT rfl) rfl rfl (by decide) ?_; clear hT; intro a hT
    refine l_q hT (q_assign hT rfl) rfl rfl (by decide) ?_; clear hT; intro a hT
    refine l_end ?_
    refine then_norm ?_
    refine c_region ?_
    refine l_q hT (q_move hT rfl) rfl rfl (by decide) ?_; clear hT; intro a hT
    refine l_q hT (q_move hT rfl) rfl rfl (by decide) ?_; clear hT; intro a hT
    refine l_q hT ((q_addI hT rfl rfl (r := ((padLen m.length : Nat) : Int) + (t : Int)) rfl (by omega) (by omega)).v (v := vI ((padLen m.length + t : Nat) : Int)) (by congr 1)) rfl rfl (by decide) ?_; clear hT; intro a hT
    refine l_q hT (q_move hT rfl) rfl rfl (by decide) ?_; clear hT; intro a hT
    refine l_q hT (q_nilCheck hT rfl) rfl rfl (by decide) ?_; clear hT; intro a hT
    refine l_q hT (q_fieldAddr hT rfl Tryd.fld110_2 rfl) rfl rfl (by decide) ?_; clear hT; intro a hT
    refine l_q hT (q_load hT rfl Tryd.ty3 ((Rd.mk (c := arr32 8 h ++ (arr8 64 buf ++ ([(vI (m.length : Int))]))) (cs := arr32 8 h ++ (arr8 64 buf ++ ([(vI (m.length : Int))]))) (hL.kept hh (by simp)) rfl).part 72 (ds := [(vI (m.length : Int))]) rfl)) rfl rfl (by decide) ?_; clear hT; intro a hT
    refine l_q hT (q_conv_i_64 (u := m.length) hT rfl Tryd.underlying3 Tryd.underlying112) rfl rfl (by decide) ?_; clear hT; intro a hT
    refine l_q hT (q_mul64 (u := UInt64.ofNat m.length) (v := 8) hT rfl rfl) rfl rfl (by decide) ?_; clear hT; intro a hT
    refine l_q hT (q_move hT rfl) rfl rfl (by decide) ?_; clear hT; intro a hT
    refine l_q hT (q_mulI hT rfl rfl (r := 8 * (t : Int)) rfl (by omega) (by omega)) rfl rfl (by decide) ?_; clear hT; intro a hT
    refine l_q hT ((q_subI hT rfl rfl (r := 56 - 8 * (t : Int)) rfl (by omega) (by omega)).v (v := vI ((56 - 8 * t : Nat) : Int)) (by congr 1; omega)) rfl rfl (by decide) ?_; clear hT; intro a hT
    refine l_q hT (q_shr64 (u := (UInt64.ofNat m.length) * 8) (s := (56 - 8 * t : Nat)) hT rfl rfl (by omega)) rfl rfl (by decide) ?_; clear hT; intro a hT
    refine l_q hT (q_conv_64_8 hT rfl Tryd.underlying112 Tryd.underlying5) rfl rfl (by decide) ?_; clear hT; intro a hT
    refine l_q hT ((q_indexAddr_arr hT rfl rfl Tryd.arr111 (by omega) (by omega)).v (v := vp b5 (0 + (padLen m.length + t : Nat))) (by simp)) rfl rfl (by decide) ?_; clear hT; intro a hT
    refine l_do rfl ?_
    refine w_store hT hL 0 (c := arr8 72 (tailTo m.length t)) rfl rfl Tryd.ty5 rfl (vs := [(v8 ((shr64 ((UInt64.ofNat m.length) * 8) (56 - 8 * t : Nat)).toUInt8))]) rfl rfl (by simp [arr32_len, arr8_len, digC_len]; omega) rfl (c' := arr8 72 (upd (tailTo m.length t) (padLen m.length + t : Nat) ((shr64 ((UInt64.ofNat m.length) * 8) (56 - 8 * t : Nat)).toUInt8))) (lay_at (pre := []) (mid := arr8 72 (tailTo m.length t)) (post := []) (i := (padLen m.length + t : Nat)) (by simp [digC_arr]) (by simp [arr32_len, arr8_len, digC_len]) (by simp [arr32_len, arr8_len, digC_len]; omega) (lay_arr8_one _ _ (by omega)) (by simp)) ?_; clear hL; intro w9 hL hE
    replace hL : Vg.Loc [] w0 w9 ([[(b5, ob (arr8 72 (upd (tailTo m.length t) (padLen m.length + t : Nat) ((shr64 ((UInt64.ofNat m.length) * 8) (56 - 8 * t : Nat)).toUInt8))) 111)], [(b3, ob (arr32 8 hw1 ++ (arr8 64 fw1 ++ ([(vI ((m ++ [128]).length : Int))]))) 110)], [(b4, ob [(v8 128)] 5)], [(b2, ob (digC Dig.zero) 24)], [(b1, ob (digC Dig.zero) 24)]]) := hL
    refine l_end ?_
    refine blk_norm ?_
    refine then_norm ?_
    refine c_region ?_
    refine l_q hT (q_addI hT rfl rfl (r := (t : Int) + 1) rfl (by omega) (by omega)) rfl rfl (by decide) ?_; clear hT; intro a hT
    refine l_q hT (q_move hT rfl) rfl rfl (by decide) ?_; clear hT; intro a hT
    refine l_end ?_
    refine then_norm ?_
    exact ⟨_, ⟨t + 1, rfl, by omega, hT.keep [22, 0, 2, 3, 4, 5, 6] rfl, by rw [tailTo_succ]; exact hL⟩, by simp only [id]; omega⟩
  · skip
    have hc1 := of_decide_eq_false hc1
    obtain rfl : t = 8 := by omega
    refine wp_exit ?_
    refine then_exit ?_
    refine then_exit ?_
    refine blk_exit ?_
    refine then_norm ?_
    refine c_seq ?_
    refine c_region ?_
    refine l_q hT (q_move hT rfl) rfl rfl (by decide) ?_; clear hT; intro a hT
    refine l_q hT ((q_addI hT rfl rfl (r := ((padLen m.length : Nat) : Int) + 8) rfl (by omega) (by omega)).v (v := vI ((padLen m.length + 8 : Nat) : Int)) (by congr 1)) rfl rfl (by decide) ?_; clear hT; intro a hT
    refine l_q hT (q_slice_arr_hi (h := (padLen m.length + 8)) hT rfl rfl Tryd.arr111 (by omega) (by omega)) rfl rfl (by decide) ?_; clear hT; intro a hT
    refine l_do rfl ?_
    replace hL : Vg.Loc [] w0 w8 ([[(b3, ob (arr32 8 hw1 ++ (arr8 64 fw1 ++ ([(vI ((m ++ [128]).length : Int))]))) 110)], [(b5, ob (arr8 72 (tailTo m.length 8)) 111)], [(b4, ob [(v8 128)] 5)], [(b2, ob (digC Dig.zero) 24)], [(b1, ob (digC Dig.zero) 24)]]) := hL.front 1 rfl rfl
    refine w_callT (xs := [.tmp 4, .tmp 43]) hT rfl (vs := [(vp b3 0), (Value.slice (some ⟨b5, 0, none⟩) (padLen m.length + 8) 72)]) rfl (args := #[(vp b3 0), (Value.slice (some ⟨b5, 0, none⟩) (padLen m.length + 8) 72)]) rfl Tryd.func39 rfl rfl (by decide) ((Write_spec b3 hw1 fw1 (m ++ [128]) (List.replicate (padLen m.length) 0 ++ lenBytes m.length) (some ⟨b5, 0, none⟩) (padLen m.length + 8) 72 _ (hK.of hL (by simp)) (by simp; have := hK.lt; have := hL.fresh 0 rfl; omega) (hL.get 0 rfl) hok1 (tail_sl (hL.rd 1 rfl 0 (ds := arr8 72 (tailTo m.length 8)) rfl)) (fun _ ad hp => by cases hp; have := hL.ne 0 1 (by decide) rfl rfl; simp; exact fun e => this e.symm) (by omega) (by first | omega | (simp; omega))).mono ?_)
    rintro e w10 ⟨hw2, fw2, rfl, hX, hok2⟩
    refine ⟨_, rfl, ?_⟩; clear hT; intro a hT; replace hT : Tm 63 a ((44, (vI 0)) :: _) := hT
    replace hL : Vg.Loc [] w0 w10 ([[(b3, ob (arr32 8 hw2 ++ (arr8 64 fw2 ++ ([(vI ((m ++ [128] ++ (List.replicate (padLen m.length) 0 ++ lenBytes m.length)).length : Int))]))) 110)], [(b5, ob (arr8 72 (tailTo m.length 8)) 111)], [(b4, ob [(v8 128)] 5)], [(b2, ob (digC Dig.zero) 24)], [(b1, ob (digC Dig.zero) 24)]]) := Vg.Loc.call (ci := [[(b3, ob (arr32 8 hw1 ++ (arr8 64 fw1 ++ ([(vI ((m ++ [128]).length : Int))]))) 110)]]) (cr := [[(b5, ob (arr8 72 (tailTo m.length 8)) 111)], [(b4, ob [(v8 128)] 5)], [(b2, ob (digC Dig.zero) 24)], [(b1, ob (digC Dig.zero) 24)]]) hL hX
    refine l_end ?_
    refine then_norm ?_
    refine c_seq ?_
    refine c_seq ?_
    refine c_region ?_
    refine l_q hT (q_move hT rfl) rfl rfl (by decide) ?_; clear hT; intro a hT
    refine l_end ?_
    refine then_norm ?_
    refine wp_block ?_
    refine c_loop (fun mz a wz => ∃ t : Nat, mz = 32 - t ∧ t ≤ 32 ∧ Tm 63 a [(45, (vI (t : Int))), (2, (vp b1 0)), (3, (vp b2 0)), (4, (vp b3 0))] ∧ Vg.Loc [] w0 wz [[(b3, ob (arr32 8 hw2 ++ (arr8 64 fw2 ++ ([(vI ((m ++ [128] ++ (List.replicate (padLen m.length) 0 ++ lenBytes m.length)).length : Int))]))) 110)], [(b5, ob (arr8 72 (tailTo m.length 8)) 111)], [(b4, ob [(v8 128)] 5)], [(b2, ob (arr8 32 (digTo hw2 t)) 24)], [(b1, ob (digC Dig.zero) 24)]]) id 32 ?_ ?_
    · exact ⟨0, rfl, by omega, hT.keep [45, 2, 3, 4] rfl, by rw [← digTo_zero]; exact hL⟩
    clear hT hL
    rintro mz a w11 ⟨t, rfl, ht, hT, hL⟩
    refine c_seq ?_
    refine c_region ?_
    refine l_q hT (q_lss hT rfl rfl) rfl rfl (by decide) ?_; clear hT; intro a hT
    refine l_end ?_
    refine then_norm ?_
    refine c_seq ?_
    refine c_if hT rfl (fun hc2 => ?_) (fun hc2 => ?_)
    · skip
      have hc2 := of_decide_eq_true hc2
      refine wp_skip ?_
      refine then_norm ?_
      refine c_seq ?_
      refine wp_block ?_
      refine c_seq ?_
      refine c_region ?_
      refine l_q hT (q_move hT rfl) rfl rfl (by decide) ?_; clear hT; intro a hT
      refine l_q hT (q_assign hT rfl) rfl rfl (by decide) ?_; clear hT; intro a hT
      refine l_end ?_
      refine then_norm ?_
      refine c_region ?_
      refine l_q hT (q_move hT rfl) rfl rfl (by decide) ?_; clear hT; intro a hT
      refine l_q hT (q_move hT rfl) rfl rfl (by decide) ?_; clear hT; intro a hT
      refine l_q hT ((q_quoI hT rfl rfl (by omega) (by omega) (by omega)).v (v := vI ((t / 4 : Nat) : Int)) rfl) rfl rfl (by decide) ?_; clear hT; intro a hT
      refine l_q hT (q_fieldAddr hT rfl Tryd.fld110_0 rfl) rfl rfl (by decide) ?_; clear hT; intro a hT
      refine l_q hT ((q_indexAddr_arr hT rfl rfl Tryd.arr107 (by omega) (by omega)).v (v := vp b3 (0 + (t / 4 : Nat))) (by simp)) rfl rfl (by decide) ?_; clear hT; intro a hT
      refine l_q hT (q_load hT rfl Tryd.ty86 (Rd.at32 (hL.rd 0 rfl 0 (ds := arr32 8 hw2) rfl) (i := (t / 4 : Nat)) (by omega))) rfl rfl (by decide) ?_; clear hT; intro a hT
      refine l_q hT (q_move hT rfl) rfl rfl (by decide) ?_; clear hT; intro a hT
      refine l_q hT ((q_remI hT rfl rfl (by omega) (by omega)).v (v := vI ((t % 4 : Nat) : Int)) rfl) rfl rfl (by decide) ?_; clear hT; intro a hT
      refine l_q hT (q_mulI hT rfl rfl (r := 8 * ((t % 4 : Nat) : Int)) rfl (by omega) (by omega)) rfl rfl (by decide) ?_; clear hT; intro a hT
      refine l_q hT ((q_subI hT rfl rfl (r := 24 - 8 * ((t % 4 : Nat) : Int)) rfl (by omega) (by omega)).v (v := vI ((24 - 8 * (t % 4) : Nat) : Int)) (by congr 1; omega)) rfl rfl (by decide) ?_; clear hT; intro a hT
      refine l_q hT (q_shr32 (u := hw2 (t / 4 : Nat)) (s := (24 - 8 * (t % 4) : Nat)) hT rfl rfl (by omega)) rfl rfl (by decide) ?_; clear hT; intro a hT
      refine l_q hT (q_conv_32_8 hT rfl Tryd.underlying86 Tryd.underlying5) rfl rfl (by decide) ?_; clear hT; intro a hT
      refine l_q hT ((q_indexAddr_arr hT rfl rfl Tryd.arr24 (by omega) (by omega)).v (v := vp b2 (0 + t)) (by simp)) rfl rfl (by decide) ?_; clear hT; intro a hT
      refine l_do rfl ?_
      refine w_store hT hL 3 (c := arr8 32 (digTo hw2 t)) rfl rfl Tryd.ty5 rfl (vs := [(v8 ((shr32 (hw2 (t / 4 : Nat)) (24 - 8 * (t % 4) : Nat)).toUInt8))]) rfl rfl (by simp [arr32_len, arr8_len, digC_len]; omega) rfl (c' := arr8 32 (upd (digTo hw2 t) t ((shr32 (hw2 (t / 4 : Nat)) (24 - 8 * (t % 4) : Nat)).toUInt8))) (lay_at (pre := []) (mid := arr8 32 (digTo hw2 t)) (post := []) (i := t) (by simp [digC_arr]) (by simp [arr32_len, arr8_len, digC_len]) (by simp [arr32_len, arr8_len, digC_len]; omega) (lay_arr8_one _ _ (by omega)) (by simp)) ?_; clear hL; intro w12 hL hE
      replace hL : Vg.Loc [] w0 w12 ([[(b3, ob (arr32 8 hw2 ++ (arr8 64 fw2 ++ ([(vI ((m ++ [128] ++ (List.replicate (padLen m.length) 0 ++ lenBytes m.length)).length : Int))]))) 110)], [(b5, ob (arr8 72 (tailTo m.length 8)) 111)], [(b4, ob [(v8 128)] 5)], [(b2, ob (arr8 32 (upd (digTo hw2 t) t ((shr32 (hw2 (t / 4 : Nat)) (24 - 8 * (t % 4) : Nat)).toUInt8))) 24)], [(b1, ob (digC Dig.zero) 24)]]) := hL
      refine l_end ?_
      refine blk_norm ?_
      refine then_norm ?_
      refine c_region ?_
      refine l_q hT (q_addI hT rfl rfl (r := (t : Int) + 1) rfl (by omega) (by omega)) rfl rfl (by decide) ?_; clear hT; intro a hT
      refine l_q hT (q_move hT rfl) rfl rfl (by decide) ?_; clear hT; intro a hT
      refine l_end ?_
      refine then_norm ?_
      exact ⟨_, ⟨t + 1, rfl, by omega, hT.keep [45, 2, 3, 4] rfl, by rw [digTo_succ]; exact hL⟩, by simp only [id]; omega⟩
    · skip
      have hc2 := of_decide_eq_false hc2
      obtain rfl : t = 32 := by omega
      refine wp_exit ?_
      refine then_exit ?_
      refine then_exit ?_
      refine blk_exit ?_
      refine then_norm ?_
      refine c_seq ?_
      refine c_region ?_
      refine l_q hT (q_load_agg hT rfl Tryd.ty24 (hL.rd 3 rfl 0 (ds := arr8 32 (digTo hw2 32)) rfl) rfl) rfl rfl (by decide) ?_; clear hT; intro a hT
      refine l_do rfl ?_
      refine w_store hT hL 4 (c := digC Dig.zero) rfl rfl Tryd.ty24 rfl (vs := arr8 32 (digTo hw2 32)) rfl rfl (by first | decide | (simp [arr32_len, arr8_len, digC_len]; done) | (simp [arr32_len, arr8_len, digC_len]; omega)) rfl (c' := arr8 32 (digTo hw2 32)) rfl ?_; clear hL; intro w13 hL hE
      replace hL : Vg.Loc [] w0 w13 ([[(b3, ob (arr32 8 hw2 ++ (arr8 64 fw2 ++ ([(vI ((m ++ [128] ++ (List.replicate (padLen m.length) 0 ++ lenBytes m.length)).length : Int))]))) 110)], [(b5, ob (arr8 72 (tailTo m.length 8)) 111)], [(b4, ob [(v8 128)] 5)], [(b2, ob (arr8 32 (digTo hw2 32)) 24)], [(b1, ob (arr8 32 (digTo hw2 32)) 24)]]) := hL
      refine l_end ?_
      refine then_norm ?_
      refine wp_ret ?_
      refine c_ret (vs := [(Value.agg (arr8 32 (digTo hw2 32)).toArray)]) (rs := [.cell 2 24]) hT rfl (.agg rfl Tryd.ty24 (hL.rd 4 rfl 0 (ds := arr8 32 (digTo hw2 32)) rfl) rfl .nil) ?_
      refine ⟨?_, hL.drop⟩
      have hw := hok2.words
      simp only [packed]
      rw [digTo_all, hw]; rfl
end Go.Proofs.YtcaffacganffjaaDoor
end
