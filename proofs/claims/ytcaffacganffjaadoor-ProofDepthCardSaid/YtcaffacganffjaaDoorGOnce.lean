/- The walks of a part of the program: GOnce. Printed by a program of the prover. -/
import Derived.Test.YtcaffacganffjaaDoorVDig
import Derived.Test.YtcaffacganffjaaDoorVTypes
import Derived.Test.YtcaffacganffjaaDoorGKnot
import Derived.Laws.LoneSync
namespace Go.Proofs.YtcaffacganffjaaDoor
open Go Go.Vg


set_option maxRecDepth 20000 in
set_option maxHeartbeats 1000000 in
theorem ilock_spec (b : Nat) (d0 : UInt32) (d : Dig) (l : Leaf) (p q : Option Addr) (w0 : World) (hh : w0.heap[b]? = some (ob ([(v32 d0), (Value.int .i32 0), (v32 0)] ++ (digC d ++ (digC l.p ++ (digC l.v ++ ([(Value.pointer p), (Value.pointer q)]))))) 98)) :
    Calls Tryd.prog 82 #[(vp b 1)] w0 fun e w' => e = .returned (.tuple #[]) ∧ Vg.Loc [b] w0 w' [[(b, ob ([(v32 d0), (Value.int .i32 1), (v32 0)] ++ (digC d ++ (digC l.p ++ (digC l.v ++ ([(Value.pointer p), (Value.pointer q)]))))) 98)]] := by
  refine c_enter (n := 13) (args := [(vp b 1)]) Tryd.func82 rfl rfl (Nat.le_of_ble_eq_true rfl) rfl (fun a hT => ?_)
  simp only [List.zipIdx_cons, List.zipIdx_nil, List.map_cons, List.map_nil, Nat.reduceAdd] at hT
  have hL := Vg.Loc.start1 hh
  refine c_seq ?_
  refine c_region ?_
  refine l_q hT (q_ext (xs := []) hT rfl (vs := []) rfl (args := #[]) rfl (run_call_mark0 Tryd.func87 (by kernel_rfl) (by kernel_rfl) (by kernel_rfl) .disable (by kernel_rfl) _)) rfl rfl (by decide) ?_; clear hT; intro a hT
  refine l_end ?_
  refine then_norm ?_
  refine c_seq ?_
  refine c_seq ?_
  refine c_region ?_
  refine l_q hT (q_move hT rfl) rfl rfl (by decide) ?_; clear hT; intro a hT
  refine l_q hT (q_nilCheck hT rfl) rfl rfl (by decide) ?_; clear hT; intro a hT
  refine l_q hT (q_fieldAddr hT rfl Tryd.fld90_0 rfl) rfl rfl (by decide) ?_; clear hT; intro a hT
  refine l_do rfl ?_
  refine w_ext (xs := [.tmp 5, .const (.int .i32 0), .const (.int .i32 1)]) hT hL (by decide) 0 rfl (vs := [(vp b 1), (Value.int .i32 0), (Value.int .i32 1)]) rfl (args := #[(vp b 1), (Value.int .i32 0), (Value.int .i32 1)]) rfl rfl (c' := [(v32 d0), (Value.int .i32 1), (v32 0)] ++ (digC d ++ (digC l.p ++ (digC l.v ++ ([(Value.pointer p), (Value.pointer q)]))))) rfl (run_call_cas_hit Tryd.func88 (by kernel_rfl) (by kernel_rfl) (by kernel_rfl) .i32 (by kernel_rfl) (Rd.c0 (hL.rd 0 rfl 1 (ds := [(Value.int .i32 0)]) rfl)) (hL.warm 0 rfl)) ?_; clear hT hL; intro a w1 hT hL hE
  replace hL : Vg.Loc [b] w0 w1 ([[(b, ob ([(v32 d0), (Value.int .i32 1), (v32 0)] ++ (digC d ++ (digC l.p ++ (digC l.v ++ ([(Value.pointer p), (Value.pointer q)]))))) 98)]]) := hL
  refine l_end ?_
  refine then_norm ?_
  refine c_true hT rfl rfl ?_
  refine c_seq ?_
  refine c_true hT rfl rfl ?_
  refine c_seq ?_
  refine c_region ?_
  refine l_q hT (q_ext (xs := []) hT rfl (vs := []) rfl (args := #[]) rfl (run_call_mark0 Tryd.func89 (by kernel_rfl) (by kernel_rfl) (by kernel_rfl) .enable (by kernel_rfl) _)) rfl rfl (by decide) ?_; clear hT; intro a hT
  refine l_end ?_
  refine then_norm ?_
  refine c_region ?_
  refine l_q hT (q_move hT rfl) rfl rfl (by decide) ?_; clear hT; intro a hT
  refine l_q hT (q_conv_unsafe hT rfl Tryd.underlying148 Tryd.underlying152 (by kernel_rfl) (Rd.c0 (hL.rd 0 rfl 1 (ds := [(Value.int .i32 1)]) rfl))) rfl rfl (by decide) ?_; clear hT; intro a hT
  refine l_q hT (q_ext (xs := [.tmp 9]) hT rfl (vs := [(vp b 1)]) rfl (args := #[(vp b 1)]) rfl (run_call_marked Tryd.func90 (by kernel_rfl) (by kernel_rfl) (by kernel_rfl) .acquire (by kernel_rfl) _ _)) rfl rfl (by decide) ?_; clear hT; intro a hT
  refine l_end ?_
  refine then_norm ?_
  refine wp_ret ?_
  refine then_ret ?_
  refine c_ret (vs := []) (rs := []) hT rfl .nil ?_
  exact ⟨rfl, hL⟩

set_option maxRecDepth 20000 in
set_option maxHeartbeats 1000000 in
theorem lock_spec (b : Nat) (d0 : UInt32) (d : Dig) (l : Leaf) (p q : Option Addr) (w0 : World) (hh : w0.heap[b]? = some (ob ([(v32 d0), (Value.int .i32 0), (v32 0)] ++ (digC d ++ (digC l.p ++ (digC l.v ++ ([(Value.pointer p), (Value.pointer q)]))))) 98)) :
    Calls Tryd.prog 74 #[(vp b 1)] w0 fun e w' => e = .returned (.tuple #[]) ∧ Vg.Loc [b] w0 w' [[(b, ob ([(v32 d0), (Value.int .i32 1), (v32 0)] ++ (digC d ++ (digC l.p ++ (digC l.v ++ ([(Value.pointer p), (Value.pointer q)]))))) 98)]] := by
  refine c_enter (n := 6) (args := [(vp b 1)]) Tryd.func74 rfl rfl (Nat.le_of_ble_eq_true rfl) rfl (fun a hT => ?_)
  simp only [List.zipIdx_cons, List.zipIdx_nil, List.map_cons, List.map_nil, Nat.reduceAdd] at hT
  have hL := Vg.Loc.start1 hh
  refine c_region ?_
  refine l_q hT (q_move hT rfl) rfl rfl (by decide) ?_; clear hT; intro a hT
  refine l_q hT (q_nilCheck hT rfl) rfl rfl (by decide) ?_; clear hT; intro a hT
  refine l_q hT (q_fieldAddr hT rfl Tryd.fld92_1 rfl) rfl rfl (by decide) ?_; clear hT; intro a hT
  refine l_do rfl ?_
  refine w_callT (xs := [.tmp 4]) hT rfl (vs := [(vp b 1)]) rfl (args := #[(vp b 1)]) rfl Tryd.func82 rfl rfl (by decide) ((ilock_spec b d0 d l p q _ (hL.get 0 rfl)).mono ?_)
  rintro e w1 ⟨rfl, hX⟩
  refine ⟨_, rfl, ?_⟩; clear hT; intro a hT; replace hT : Tm 6 a ((5, (Value.tuple #[])) :: _) := hT
  replace hL : Vg.Loc [b] w0 w1 ([[(b, ob ([(v32 d0), (Value.int .i32 1), (v32 0)] ++ (digC d ++ (digC l.p ++ (digC l.v ++ ([(Value.pointer p), (Value.pointer q)]))))) 98)]]) := Vg.Loc.call (ci := [[(b, ob ([(v32 d0), (Value.int .i32 0), (v32 0)] ++ (digC d ++ (digC l.p ++ (digC l.v ++ ([(Value.pointer p), (Value.pointer q)]))))) 98)]]) (cr := []) hL hX
  refine l_end ?_
  refine c_fall (vs := []) (rs := []) hT rfl .nil ?_
  exact ⟨rfl, hL⟩

set_option maxRecDepth 20000 in
set_option maxHeartbeats 1000000 in
theorem iunlock_spec (b : Nat) (d0 : UInt32) (d : Dig) (l : Leaf) (p q : Option Addr) (w0 : World) (hh : w0.heap[b]? = some (ob ([(v32 d0), (Value.int .i32 1), (v32 0)] ++ (digC d ++ (digC l.p ++ (digC l.v ++ ([(Value.pointer p), (Value.pointer q)]))))) 98)) :
    Calls Tryd.prog 83 #[(vp b 1)] w0 fun e w' => e = .returned (.tuple #[]) ∧ Vg.Loc [b] w0 w' [[(b, ob ([(v32 d0), (Value.int .i32 0), (v32 0)] ++ (digC d ++ (digC l.p ++ (digC l.v ++ ([(Value.pointer p), (Value.pointer q)]))))) 98)]] := by
  refine c_enter (n := 21) (args := [(vp b 1)]) Tryd.func83 rfl rfl (Nat.le_of_ble_eq_true rfl) rfl (fun a hT => ?_)
  simp only [List.zipIdx_cons, List.zipIdx_nil, List.map_cons, List.map_nil, Nat.reduceAdd] at hT
  have hL := Vg.Loc.start1 hh
  refine c_seq ?_
  refine c_true hT rfl rfl ?_
  refine c_seq ?_
  refine c_region ?_
  refine l_q hT (q_move hT rfl) rfl rfl (by decide) ?_; clear hT; intro a hT
  refine l_q hT (q_nilCheck hT rfl) rfl rfl (by decide) ?_; clear hT; intro a hT
  refine l_q hT (q_fieldAddr hT rfl Tryd.fld90_0 rfl) rfl rfl (by decide) ?_; clear hT; intro a hT
  refine l_q hT (q_load hT rfl Tryd.ty21 (hL.rd 0 rfl 1 (ds := [(Value.int .i32 1)]) rfl)) rfl rfl (by decide) ?_; clear hT; intro a hT
  refine l_end ?_
  refine then_norm ?_
  refine c_seq ?_
  refine c_region ?_
  refine l_q hT (q_move hT rfl) rfl rfl (by decide) ?_; clear hT; intro a hT
  refine l_q hT (q_conv_unsafe hT rfl Tryd.underlying148 Tryd.underlying152 (by kernel_rfl) (Rd.c0 (hL.rd 0 rfl 1 (ds := [(Value.int .i32 1)]) rfl))) rfl rfl (by decide) ?_; clear hT; intro a hT
  refine l_q hT (q_ext (xs := [.tmp 8]) hT rfl (vs := [(vp b 1)]) rfl (args := #[(vp b 1)]) rfl (run_call_marked Tryd.func92 (by kernel_rfl) (by kernel_rfl) (by kernel_rfl) .releaseMerge (by kernel_rfl) _ _)) rfl rfl (by decide) ?_; clear hT; intro a hT
  refine l_end ?_
  refine then_norm ?_
  refine c_region ?_
  refine l_q hT (q_ext (xs := []) hT rfl (vs := []) rfl (args := #[]) rfl (run_call_mark0 Tryd.func87 (by kernel_rfl) (by kernel_rfl) (by kernel_rfl) .disable (by kernel_rfl) _)) rfl rfl (by decide) ?_; clear hT; intro a hT
  refine l_end ?_
  refine then_norm ?_
  refine c_seq ?_
  refine c_region ?_
  refine l_q hT (q_move hT rfl) rfl rfl (by decide) ?_; clear hT; intro a hT
  refine l_q hT (q_nilCheck hT rfl) rfl rfl (by decide) ?_; clear hT; intro a hT
  refine l_q hT (q_fieldAddr hT rfl Tryd.fld90_0 rfl) rfl rfl (by decide) ?_; clear hT; intro a hT
  refine l_do rfl ?_
  refine w_ext (xs := [.tmp 13, .const (.int .i32 (-1))]) hT hL (by decide) 0 rfl (vs := [(vp b 1), (Value.int .i32 (-1))]) rfl (args := #[(vp b 1), (Value.int .i32 (-1))]) rfl rfl (c' := [(v32 d0), (Value.int .i32 0), (v32 0)] ++ (digC d ++ (digC l.p ++ (digC l.v ++ ([(Value.pointer p), (Value.pointer q)]))))) rfl (run_call_add Tryd.func93 (by kernel_rfl) (by kernel_rfl) (by kernel_rfl) .i32 (by kernel_rfl) (s := 0) (Rd.c0 (hL.rd 0 rfl 1 (ds := [(Value.int .i32 1)]) rfl)) (hL.warm 0 rfl) (by simp [Op.intArith]; rfl)) ?_; clear hT hL; intro a w1 hT hL hE
  replace hL : Vg.Loc [b] w0 w1 ([[(b, ob ([(v32 d0), (Value.int .i32 0), (v32 0)] ++ (digC d ++ (digC l.p ++ (digC l.v ++ ([(Value.pointer p), (Value.pointer q)]))))) 98)]]) := hL
  refine l_q hT (q_assign hT rfl) rfl rfl (by decide) ?_; clear hT; intro a hT
  refine l_end ?_
  refine then_norm ?_
  refine c_seq ?_
  refine c_seq ?_
  refine c_region ?_
  refine l_q hT (q_move hT rfl) rfl rfl (by decide) ?_; clear hT; intro a hT
  refine l_q hT ((q_neq hT rfl rfl).b (b := false) rfl) rfl rfl (by decide) ?_; clear hT; intro a hT
  refine l_end ?_
  refine then_norm ?_
  refine c_false hT rfl rfl ?_
  refine wp_skip ?_
  refine then_norm ?_
  refine c_region ?_
  refine l_q hT (q_ext (xs := []) hT rfl (vs := []) rfl (args := #[]) rfl (run_call_mark0 Tryd.func89 (by kernel_rfl) (by kernel_rfl) (by kernel_rfl) .enable (by kernel_rfl) _)) rfl rfl (by decide) ?_; clear hT; intro a hT
  refine l_end ?_
  refine c_fall (vs := []) (rs := []) hT rfl .nil ?_
  exact ⟨rfl, hL⟩

set_option maxRecDepth 20000 in
set_option maxHeartbeats 1000000 in
theorem unlock_spec (b : Nat) (d0 : UInt32) (d : Dig) (l : Leaf) (p q : Option Addr) (u : FrameMode) (w0 : World) (hh : w0.heap[b]? = some (ob ([(v32 d0), (Value.int .i32 1), (v32 0)] ++ (digC d ++ (digC l.p ++ (digC l.v ++ ([(Value.pointer p), (Value.pointer q)]))))) 98)) :
    CallsD Tryd.prog 75 #[(vp b 1)] u w0 fun e u' w' => u' = u ∧ (e = .returned (.tuple #[]) ∧ Vg.Loc [b] w0 w' [[(b, ob ([(v32 d0), (Value.int .i32 0), (v32 0)] ++ (digC d ++ (digC l.p ++ (digC l.v ++ ([(Value.pointer p), (Value.pointer q)]))))) 98)]]) := by
  refine c_enterD (n := 6) (args := [(vp b 1)]) Tryd.func75 rfl rfl (Nat.le_of_ble_eq_true rfl) rfl (fun a hT => ?_)
  simp only [List.zipIdx_cons, List.zipIdx_nil, List.map_cons, List.map_nil, Nat.reduceAdd] at hT
  have hL := Vg.Loc.start1 hh
  refine c_region ?_
  refine l_q hT (q_move hT rfl) rfl rfl (by decide) ?_; clear hT; intro a hT
  refine l_q hT (q_nilCheck hT rfl) rfl rfl (by decide) ?_; clear hT; intro a hT
  refine l_q hT (q_fieldAddr hT rfl Tryd.fld92_1 rfl) rfl rfl (by decide) ?_; clear hT; intro a hT
  refine l_do rfl ?_
  refine w_callT (xs := [.tmp 4]) hT rfl (vs := [(vp b 1)]) rfl (args := #[(vp b 1)]) rfl Tryd.func83 rfl rfl (by decide) ((iunlock_spec b d0 d l p q _ (hL.get 0 rfl)).mono ?_)
  rintro e w1 ⟨rfl, hX⟩
  refine ⟨_, rfl, ?_⟩; clear hT; intro a hT; replace hT : Tm 6 a ((5, (Value.tuple #[])) :: _) := hT
  replace hL : Vg.Loc [b] w0 w1 ([[(b, ob ([(v32 d0), (Value.int .i32 0), (v32 0)] ++ (digC d ++ (digC l.p ++ (digC l.v ++ ([(Value.pointer p), (Value.pointer q)]))))) 98)]]) := Vg.Loc.call (ci := [[(b, ob ([(v32 d0), (Value.int .i32 1), (v32 0)] ++ (digC d ++ (digC l.p ++ (digC l.v ++ ([(Value.pointer p), (Value.pointer q)]))))) 98)]]) (cr := []) hL hX
  refine l_end ?_
  refine c_fall (vs := []) (rs := []) hT rfl .nil ?_
  exact ⟨rfl, hL⟩

set_option maxRecDepth 20000 in
set_option maxHeartbeats 1000000 in
theorem b32_spec  (w0 : World) :
    Calls Tryd.prog 85 #[(Value.bool true)] w0 fun e w' => e = .returned (v32 1) ∧ Ext w0 w' := by
  refine c_enter (n := 4) (args := [(Value.bool true)]) Tryd.func85 rfl rfl (Nat.le_of_ble_eq_true rfl) rfl (fun a hT => ?_)
  simp only [List.zipIdx_cons, List.zipIdx_nil, List.map_cons, List.map_nil, Nat.reduceAdd] at hT
  have hL := Vg.Loc.refl [] w0
  refine c_seq ?_
  refine c_region ?_
  refine l_q hT (q_assign hT rfl) rfl rfl (by decide) ?_; clear hT; intro a hT
  refine l_end ?_
  refine then_norm ?_
  refine c_seq ?_
  refine c_seq ?_
  refine c_region ?_
  refine l_q hT (q_move hT rfl) rfl rfl (by decide) ?_; clear hT; intro a hT
  refine l_end ?_
  refine then_norm ?_
  refine c_true hT rfl rfl ?_
  refine c_seq ?_
  refine c_region ?_
  refine l_q hT (q_assign hT rfl) rfl rfl (by decide) ?_; clear hT; intro a hT
  refine l_end ?_
  refine then_norm ?_
  refine wp_ret ?_
  refine then_ret ?_
  refine c_ret (vs := [(v32 1)]) (rs := [.tmp 2]) hT rfl (.tmp rfl .nil) ?_
  exact ⟨rfl, hL.drop⟩

set_option maxRecDepth 20000 in
set_option maxHeartbeats 1000000 in
theorem bstore_spec (b : Nat) (d0 : UInt32) (d : Dig) (l : Leaf) (p q : Option Addr) (u : FrameMode) (w0 : World) (hh : w0.heap[b]? = some (ob ([(v32 d0), (Value.int .i32 1), (v32 0)] ++ (digC d ++ (digC l.p ++ (digC l.v ++ ([(Value.pointer p), (Value.pointer q)]))))) 98)) :
    CallsD Tryd.prog 76 #[(vp b 0), (Value.bool true)] u w0 fun e u' w' => u' = u ∧ (e = .returned (.tuple #[]) ∧ Vg.Loc [b] w0 w' [[(b, ob ([(v32 1), (Value.int .i32 1), (v32 0)] ++ (digC d ++ (digC l.p ++ (digC l.v ++ ([(Value.pointer p), (Value.pointer q)]))))) 98)]]) := by
  refine c_enterD (n := 10) (args := [(vp b 0), (Value.bool true)]) Tryd.func76 rfl rfl (Nat.le_of_ble_eq_true rfl) rfl (fun a hT => ?_)
  simp only [List.zipIdx_cons, List.zipIdx_nil, List.map_cons, List.map_nil, Nat.reduceAdd] at hT
  have hL := Vg.Loc.start1 hh
  refine d_start' hL #[false, false, false, false, false, false] [5] rfl rfl rfl ?_; clear hL; intro w1 hL hE; have hR := hL; have hS := Ext.refl w1
  refine d_pure (i := 0) hT #[true, false, false, false, false, false] rfl (by kernel_rfl) rfl rfl (by decide) (fun _ _ _ h => h) (fun _ => q_move hT rfl) ?_; clear hT; intro a hT
  refine d_pure (i := 1) hT #[true, true, false, false, false, false] rfl (by kernel_rfl) rfl rfl (by decide) (fun _ _ _ h => h) (fun _ => q_nilCheck hT rfl) ?_; clear hT; intro a hT
  refine d_pure (i := 2) hT #[true, true, true, false, false, false] rfl (by kernel_rfl) rfl rfl (by decide) (fun _ _ _ h => h) (fun _ => q_fieldAddr hT rfl Tryd.fld88_1 rfl) ?_; clear hT; intro a hT
  refine d_pure (i := 3) hT #[true, true, true, true, false, false] rfl (by kernel_rfl) rfl rfl (by decide) (fun _ _ _ h => h) (fun _ => q_move hT rfl) ?_; clear hT; intro a hT
  refine d_one (i := 4) hT #[true, true, true, true, true, false] rfl (by kernel_rfl) rfl ?_
  refine w_callT (xs := [.tmp 7]) hT rfl (vs := [(Value.bool true)]) rfl (args := #[(Value.bool true)]) rfl Tryd.func85 rfl rfl (by decide) ((b32_spec _).mono ?_)
  rintro e w2 ⟨rfl, hX⟩
  refine ⟨_, rfl, ?_⟩; clear hT; intro a hT; replace hT : Tm 10 a ((8, (v32 1)) :: _) := hT
  replace hL := hL.ext hX
  replace hS := Vg.Loc.ext hS hX; refine ⟨fun _ => hS, ?_⟩
  refine d_one (i := 5) hT #[true, true, true, true, true, true] rfl (by kernel_rfl) rfl ?_
  refine w_ext (xs := [.tmp 6, .tmp 8]) hT hL (by decide) 0 rfl (vs := [(vp b 0), (v32 1)]) rfl (args := #[(vp b 0), (v32 1)]) rfl rfl (c' := [(v32 1), (Value.int .i32 1), (v32 0)] ++ (digC d ++ (digC l.p ++ (digC l.v ++ ([(Value.pointer p), (Value.pointer q)]))))) rfl (run_call_store Tryd.func84 (by kernel_rfl) (by kernel_rfl) (by kernel_rfl) (by kernel_rfl) (Rd.c0 (hL.rd 0 rfl 0 (ds := [(v32 d0)]) rfl)) (hL.warm 0 rfl)) ?_; clear hT hL; intro a w3 hT hL hE
  replace hL : Vg.Loc [b] w0 w3 ([[(b, ob ([(v32 1), (Value.int .i32 1), (v32 0)] ++ (digC d ++ (digC l.p ++ (digC l.v ++ ([(Value.pointer p), (Value.pointer q)]))))) 98)]]) := hL
  refine ⟨fun hn => absurd (by decide) hn, ?_⟩
  refine d_done (by kernel_rfl) ?_; clear hR hS
  refine c_fall (vs := []) (rs := []) hT rfl .nil ?_
  exact ⟨rfl, hL⟩

set_option maxRecDepth 20000 in
set_option maxHeartbeats 1000000 in
theorem bload_spec (b : Nat) (w0 : World) (hc : Rd w0 b 0 [v32 0]) :
    Calls Tryd.prog 58 #[(vp b 0)] w0 fun e w' => e = .returned (.bool false) ∧ Ext w0 w' := by
  refine c_enter (n := 8) (args := [(vp b 0)]) Tryd.func58 rfl rfl (Nat.le_of_ble_eq_true rfl) rfl (fun a hT => ?_)
  simp only [List.zipIdx_cons, List.zipIdx_nil, List.map_cons, List.map_nil, Nat.reduceAdd] at hT
  have hL := Vg.Loc.refl [] w0
  refine c_seq ?_
  refine c_region ?_
  refine l_q hT (q_assign hT rfl) rfl rfl (by decide) ?_; clear hT; intro a hT
  refine l_end ?_
  refine then_norm ?_
  refine c_seq ?_
  refine c_region ?_
  refine l_q hT (q_move hT rfl) rfl rfl (by decide) ?_; clear hT; intro a hT
  refine l_q hT (q_nilCheck hT rfl) rfl rfl (by decide) ?_; clear hT; intro a hT
  refine l_q hT (q_fieldAddr hT rfl Tryd.fld88_1 rfl) rfl rfl (by decide) ?_; clear hT; intro a hT
  refine l_q hT (q_ext (xs := [.tmp 5]) hT rfl (vs := [(vp b 0)]) rfl (args := #[(vp b 0)]) rfl (run_call_load Tryd.func73 (by kernel_rfl) (by kernel_rfl) (by kernel_rfl) .u32 (by kernel_rfl) (Rd.c0 (Rd.loc hc hL (by simp))))) rfl rfl (by decide) ?_; clear hT; intro a hT
  refine l_q hT ((q_neq hT rfl rfl).b (b := false) rfl) rfl rfl (by decide) ?_; clear hT; intro a hT
  refine l_q hT (q_assign hT rfl) rfl rfl (by decide) ?_; clear hT; intro a hT
  refine l_end ?_
  refine then_norm ?_
  refine wp_ret ?_
  refine c_ret (vs := [(Value.bool false)]) (rs := [.tmp 2]) hT rfl (.tmp rfl .nil) ?_
  exact ⟨rfl, hL.drop⟩
end Go.Proofs.YtcaffacganffjaaDoor
