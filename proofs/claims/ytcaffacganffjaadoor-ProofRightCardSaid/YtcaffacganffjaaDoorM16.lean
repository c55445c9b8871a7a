/- The walks of a part of the program: GOnce. Printed by a program of the prover. The walks of a part of the program: GOnce2. Printed by a program of the prover. The walks of a part of the program: GDig. Printed by a program of the prover. -/
import Derived.Test.YtcaffacganffjaaDoorM2
import Derived.Test.YtcaffacganffjaaDoorM6
import Derived.Test.YtcaffacganffjaaDoorM15
import Derived.Laws.LoneSync

section
namespace Go.Proofs.YtcaffacganffjaaDoor
open Go Go.Vg


set_option maxRecDepth 20000 in
set_option maxHeartbeats 1000000 in
theorem ilock_spec (b : Nat) (d0 : UInt32) (d : Dig) (l : Leaf) (p q : Option Addr) (w0 : World) (hh : w0.heap[b]? = some (ob ([(v32 d0), (Value.int .i32 0), (v32 0)] ++ (digC d ++ (digC l.p ++ (digC l.v ++ ([(Value.pointer p), (Value.pointer q)]))))) 98)) :
    Calls Tryd.prog 82 #[(vp b 1)] w0 fun e w' => e = .returned (.tuple #[]) ∧ Vg.Loc [b] w0 w' [[(b, ob ([(v32 d0), (Value.int .i32 1), (v32 0)] ++ (digC d ++ (digC l.p ++ (digC l.v ++ ([(Value.pointer p), (Value.pointer q)]))))) 98)]] := by
  refine c_enter (n := 13) (args := [(vp b 1)]) Tryd.func82 rfl rfl (Nat.le_of_ble_eq_true rfl) rfl (fun a hT => ?_)
  simp only [List.zipIdx_cons, List.zipIdx_nil, List.map_cons, List.map_nil, Nat.reduceAdd] at hT
  have hL := Vg.Loc.start1 hh
  refine c_seq ?_
  refine c_region ?_
  refine l_q hT (q_ext (xs := []) hT rfl (vs := []) rfl (args := #[]) rfl (run_call_mark0 Tryd.func87 (by kernel_rfl) (by kernel_rfl) (by kernel_rfl) .disable (by kernel_rfl) _)) rfl rfl (by decide) ?_; clear hT; intro a hT
  refine l_end ?_
  refine then_norm ?_
  refine c_seq ?_
  refine c_seq ?_
  refine c_region ?_
  refine l_q hT (q_move hT rfl) rfl rfl (by decide) ?_; clear hT; intro a hT
  refine l_q hT (q_nilCheck hT rfl) rfl rfl (by decide) ?_; clear hT; intro a hT
  refine l_q hT (q_fieldAddr hT rfl Tryd.fld90_0 rfl) rfl rfl (by decide) ?_; clear hT; intro a hT
  refine l_do rfl ?_
  refine w_ext (xs := [.tmp 5, .const (.int .i32 0), .const (.int .i32 1)]) hT hL (by decide) 0 rfl (vs := [(vp b 1), (Value.int .i32 0), (Value.int .i32 1)]) rfl (args := #[(vp b 1), (Value.int .i32 0), (Value.int .i32 1)]) rfl rfl (c' := [(v32 d0), (Value.int .i32 1), (v32 0)] ++ (digC d ++ (digC l.p ++ (digC l.v ++ ([(Value.pointer p), (Value.pointer q)]))))) rfl (run_call_cas_hit Tryd.func88 (by kernel_rfl) (by kernel_rfl) (by kernel_rfl) .i32 (by kernel_rfl) (Rd.c0 (hL.rd 0 rfl 1 (ds := [(Value.int .i32 0)]) rfl)) (hL.warm 0 rfl)) ?_; clear hT hL; intro a w1 hT hL hE
  replace hL : Vg.Loc [b] w0 w1 ([[(b, ob ([(v32 d0), (Value.int .i32 1), (v32 0)] ++ (digC d ++ (digC l.p ++ (digC l.v ++ ([(Value.pointer p), (Value.pointer q)]))))) 98)]]) := hL
  refine l_end ?_
  refine then_norm ?_
  refine c_true hT rfl rfl ?_
  refine c_seq ?_
  refine c_true hT rfl rfl ?_
  refine c_seq ?_
  refine c_region ?_
  refine l_q hT (q_ext (xs := []) hT rfl (vs := []) rfl (args := #[]) rfl (run_call_mark0 Tryd.func89 (by kernel_rfl) (by kernel_rfl) (by kernel_rfl) .enable (by kernel_rfl) _)) rfl rfl (by decide) ?_; clear hT; intro a hT
  refine l_end ?_
  refine then_norm ?_
  refine c_region ?_
  refine l_q hT (q_move hT rfl) rfl rfl (by decide) ?_; clear hT; intro a hT
  refine l_q hT (q_conv_unsafe hT rfl Tryd.underlying148 Tryd.underlying152 (by kernel_rfl) (Rd.c0 (hL.rd 0 rfl 1 (ds := [(Value.int .i32 1)]) rfl))) rfl rfl (by decide) ?_; clear hT; intro a hT
  refine l_q hT (q_ext (xs := [.tmp 9]) hT rfl (vs := [(vp b 1)]) rfl (args := #[(vp b 1)]) rfl (run_call_marked Tryd.func90 (by kernel_rfl) (by kernel_rfl) (by kernel_rfl) .acquire (by kernel_rfl) _ _)) rfl rfl (by decide) ?_; clear hT; intro a hT
  refine l_end ?_
  refine then_norm ?_
  refine wp_ret ?_
  refine then_ret ?_
  refine c_ret (vs := []) (rs := []) hT rfl .nil ?_
  exact ⟨rfl, hL⟩

set_option maxRecDepth 20000 in
set_option maxHeartbeats 1000000 in
theorem lock_spec (b : Nat) (d0 : UInt32) (d : Dig) (l : Leaf) (p q : Option Addr) (w0 : World) (hh : w0.heap[b]? = some (ob ([(v32 d0), (Value.int .i32 0), (v32 0)] ++ (digC d ++ (digC l.p ++ (digC l.v ++ ([(Value.pointer p), (Value.pointer q)]))))) 98)) :
    Calls Tryd.prog 74 #[(vp b 1)] w0 fun e w' => e = .returned (.tuple #[]) ∧ Vg.Loc [b] w0 w' [[(b, ob ([(v32 d0), (Value.int .i32 1), (v32 0)] ++ (digC d ++ (digC l.p ++ (digC l.v ++ ([(Value.pointer p), (Value.pointer q)]))))) 98)]] := by
  refine c_enter (n := 6) (args := [(vp b 1)]) Tryd.func74 rfl rfl (Nat.le_of_ble_eq_true rfl) rfl (fun a hT => ?_)
  simp only [List.zipIdx_cons, List.zipIdx_nil, List.map_cons, List.map_nil, Nat.reduceAdd] at hT
  have hL := Vg.Loc.start1 hh
  refine c_region ?_
  refine l_q hT (q_move hT rfl) rfl rfl (by decide) ?_; clear hT; intro a hT
  refine l_q hT (q_nilCheck hT rfl) rfl rfl (by decide) ?_; clear hT; intro a hT
  refine l_q hT (q_fieldAddr hT rfl Tryd.fld92_1 rfl) rfl rfl (by decide) ?_; clear hT; intro a hT
  refine l_do rfl ?_
  refine w_callT (xs := [.tmp 4]) hT rfl (vs := [(vp b 1)]) rfl (args := #[(vp b 1)]) rfl Tryd.func82 rfl rfl (by decide) ((ilock_spec b d0 d l p q _ (hL.get 0 rfl)).mono ?_)
  rintro e w1 ⟨rfl, hX⟩
  refine ⟨_, rfl, ?_⟩; clear hT; intro a hT; replace hT : Tm 6 a ((5, (Value.tuple #[])) :: _) := hT
  replace hL : Vg.Loc [b] w0 w1 ([[(b, ob ([(v32 d0), (Value.int .i32 1), (v32 0)] ++ (digC d ++ (digC l.p ++ (digC l.v ++ ([(Value.pointer p), (Value.pointer q)]))))) 98)]]) := Vg.Loc.call (ci := [[(b, ob ([(v32 d0), (Value.int .i32 0), (v32 0)] ++ (digC d ++ (digC l.p ++ (digC l.v ++ ([(Value.pointer p), (Value.pointer q)]))))) 98)]]) (cr := []) hL hX
  refine l_end ?_
  refine c_fall (vs := []) (rs := []) hT rfl .nil ?_
  exact ⟨rfl, hL⟩

set_option maxRecDepth 20000 in
set_option maxHeartbeats 1000000 in
theorem iunlock_spec (b : Nat) (d0 : UInt32) (d : Dig) (l : Leaf) (p q : Option Addr) (w0 : World) (hh : w0.heap[b]? = some (ob ([(v32 d0), (Value.int .i32 1), (v32 0)] ++ (digC d ++ (digC l.p ++ (digC l.v ++ ([(Value.pointer p), (Value.pointer q)]))))) 98)) :
    Calls Tryd.prog 83 #[(vp b 1)] w0 fun e w' => e = .returned (.tuple #[]) ∧ Vg.Loc [b] w0 w' [[(b, ob ([(v32 d0), (Value.int .i32 0), (v32 0)] ++ (digC d ++ (digC l.p ++ (digC l.v ++ ([(Value.pointer p), (Value.pointer q)]))))) 98)]] := by
  refine c_enter (n := 21) (args := [(vp b 1)]) Tryd.func83 rfl rfl (Nat.le_of_ble_eq_true rfl) rfl (fun a hT => ?_)
  simp only [List.zipIdx_cons, List.zipIdx_nil, List.map_cons, List.map_nil, Nat.reduceAdd] at hT
  have hL := Vg.Loc.start1 hh
  refine c_seq ?_
  refine c_true hT rfl rfl ?_
  refine c_seq ?_
  refine c_region ?_
  refine l_q hT (q_move hT rfl) rfl rfl (by decide) ?_; clear hT; intro a hT
  refine l_q hT (q_nilCheck hT rfl) rfl rfl (by decide) ?_; clear hT; intro a hT
  refine l_q hT (q_fieldAddr hT rfl Tryd.fld90_0 rfl) rfl rfl (by decide) ?_; clear hT; intro a hT
  refine l_q hT (q_load hT rfl Tryd.ty21 (hL.rd 0 rfl 1 (ds := [(Value.int .i32 1)]) rfl)) rfl rfl (by decide) ?_; clear hT; intro a hT
  refine l_end ?_
  refine then_norm ?_
  refine c_seq ?_
  refine c_region ?_
  refine l_q hT (q_move hT rfl) rfl rfl (by decide) ?_; clear hT; intro a hT
  refine l_q hT (q_conv_unsafe hT rfl Tryd.underlying148 Tryd.underlying152 (by kernel_rfl) (Rd.c0 (hL.rd 0 rfl 1 (ds := [(Value.int .i32 1)]) rfl))) rfl rfl (by decide) ?_; clear hT; intro a hT
  refine l_q hT (q_ext (xs := [.tmp 8]) hT rfl (vs := [(vp b 1)]) rfl (args := #[(vp b 1)]) rfl (run_call_marked Tryd.func92 (by kernel_rfl) (by kernel_rfl) (by kernel_rfl) .releaseMerge (by kernel_rfl) _ _)) rfl rfl (by decide) ?_; clear hT; intro a hT
  refine l_end ?_
  refine then_norm ?_
  refine c_region ?_
  refine l_q hT (q_ext (xs := []) hT rfl (vs := []) rfl (args := #[]) rfl (run_call_mark0 Tryd.func87 (by kernel_rfl) (by kernel_rfl) (by kernel_rfl) .disable (by kernel_rfl) _)) rfl rfl (by decide) ?_; clear hT; intro a hT
  refine l_end ?_
  refine then_norm ?_
  refine c_seq ?_
  refine c_region ?_
  refine l_q hT (q_move hT rfl) rfl rfl (by decide) ?_; clear hT; intro a hT
  refine l_q hT (q_nilCheck hT rfl) rfl rfl (by decide) ?_; clear hT; intro a hT
  refine l_q hT (q_fieldAddr hT rfl Tryd.fld90_0 rfl) rfl rfl (by decide) ?_; clear hT; intro a hT
  refine l_do rfl ?_
  refine w_ext (xs := [.tmp 13, .const (.int .i32 (-1))]) hT hL (by decide) 0 rfl (vs := [(vp b 1), (Value.int .i32 (-1))]) rfl (args := #[(vp b 1), (Value.int .i32 (-1))]) rfl rfl (c' := [(v32 d0), (Value.int .i32 0), (v32 0)] ++ (digC d ++ (digC l.p ++ (digC l.v ++ ([(Value.pointer p), (Value.pointer q)]))))) rfl (run_call_add Tryd.func93 (by kernel_rfl) (by kernel_rfl) (by kernel_rfl) .i32 (by kernel_rfl) (s := 0) (Rd.c0 (hL.rd 0 rfl 1 (ds := [(Value.int .i32 1)]) rfl)) (hL.warm 0 rfl) (by simp [Op.intArith]; rfl)) ?_; clear hT hL; intro a w1 hT hL hE
  replace hL : Vg.Loc [b] w0 w1 ([[(b, ob ([(v32 d0), (Value.int .i32 0), (v32 0)] ++ (digC d ++ (digC l.p ++ (digC l.v ++ ([(Value.pointer p), (Value.pointer q)]))))) 98)]]) := hL
  refine l_q hT (q_assign hT rfl) rfl rfl (by decide) ?_; clear hT; intro a hT
  refine l_end ?_
  refine then_norm ?_
  refine c_seq ?_
  refine c_seq ?_
  refine c_region ?_
  refine l_q hT (q_move hT rfl) rfl rfl (by decide) ?_; clear hT; intro a hT
  refine l_q hT ((q_neq hT rfl rfl).b (b := false) rfl) rfl rfl (by decide) ?_; clear hT; intro a hT
  refine l_end ?_
  refine then_norm ?_
  refine c_false hT rfl rfl ?_
  refine wp_skip ?_
  refine then_norm ?_
  refine c_region ?_
  refine l_q hT (q_ext (xs := []) hT rfl (vs := []) rfl (args := #[]) rfl (run_call_mark0 Tryd.func89 (by kernel_rfl) (by kernel_rfl) (by kernel_rfl) .enable (by kernel_rfl) _)) rfl rfl (by decide) ?_; clear hT; intro a hT
  refine l_end ?_
  refine c_fall (vs := []) (rs := []) hT rfl .nil ?_
  exact ⟨rfl, hL⟩

set_option maxRecDepth 20000 in
set_option maxHeartbeats 1000000 in
theorem unlock_spec (b : Nat) (d0 : UInt32) (d : Dig) (l : Leaf) (p q : Option Addr) (u : FrameMode) (w0 : World) (hh : w0.heap[b]? = some (ob ([(v32 d0), (Value.int .i32 1), (v32 0)] ++ (digC d ++ (digC l.p ++ (digC l.v ++ ([(Value.pointer p), (Value.pointer q)]))))) 98)) :
    CallsD Tryd.prog 75 #[(vp b 1)] u w0 fun e u' w' => u' = u ∧ (e = .returned (.tuple #[]) ∧ Vg.Loc [b] w0 w' [[(b, ob ([(v32 d0), (Value.int .i32 0), (v32 0)] ++ (digC d ++ (digC l.p ++ (digC l.v ++ ([(Value.pointer p), (Value.pointer q)]))))) 98)]]) := by
  refine c_enterD (n := 6) (args := [(vp b 1)]) Tryd.func75 rfl rfl (Nat.le_of_ble_eq_true rfl) rfl (fun a hT => ?_)
  simp only [List.zipIdx_cons, List.zipIdx_nil, List.map_cons, List.map_nil, Nat.reduceAdd] at hT
  have hL := Vg.Loc.start1 hh
  refine c_region ?_
  refine l_q hT (q_move hT rfl) rfl rfl (by decide) ?_; clear hT; intro a hT
  refine l_q hT (q_nilCheck hT rfl) rfl rfl (by decide) ?_; clear hT; intro a hT
  refine l_q hT (q_fieldAddr hT rfl Tryd.fld92_1 rfl) rfl rfl (by decide) ?_; clear hT; intro a hT
  refine l_do rfl ?_
  refine w_callT (xs := [.tmp 4]) hT rfl (vs := [(vp b 1)]) rfl (args := #[(vp b 1)]) rfl Tryd.func83 rfl rfl (by decide) ((iunlock_spec b d0 d l p q _ (hL.get 0 rfl)).mono ?_)
  rintro e w1 ⟨rfl, hX⟩
  refine ⟨_, rfl, ?_⟩; clear hT; intro a hT; replace hT : Tm 6 a ((5, (Value.tuple #[])) :: _) := hT
  replace hL : Vg.Loc [b] w0 w1 ([[(b, ob ([(v32 d0), (Value.int .i32 0), (v32 0)] ++ (digC d ++ (digC l.p ++ (digC l.v ++ ([(Value.pointer p), (Value.pointer q)]))))) 98)]]) := Vg.Loc.call (ci := [[(b, ob ([(v32 d0), (Value.int .i32 1), (v32 0)] ++ (digC d ++ (digC l.p ++ (digC l.v ++ ([(Value.pointer p), (Value.pointer q)]))))) 98)]]) (cr := []) hL hX
  refine l_end ?_
  refine c_fall (vs := []) (rs := []) hT rfl .nil ?_
  exact ⟨rfl, hL⟩

set_option maxRecDepth 20000 in
set_option maxHeartbeats 1000000 in
theorem b32_spec  (w0 : World) :
    Calls Tryd.prog 85 #[(Value.bool true)] w0 fun e w' => e = .returned (v32 1) ∧ Ext w0 w' := by
  refine c_enter (n := 4) (args := [(Value.bool true)]) Tryd.func85 rfl rfl (Nat.le_of_ble_eq_true rfl) rfl (fun a hT => ?_)
  simp only [List.zipIdx_cons, List.zipIdx_nil, List.map_cons, List.map_nil, Nat.reduceAdd] at hT
  have hL := Vg.Loc.refl [] w0
  refine c_seq ?_
  refine c_region ?_
  refine l_q hT (q_assign hT rfl) rfl rfl (by decide) ?_; clear hT; intro a hT
  refine l_end ?_
  refine then_norm ?_
  refine c_seq ?_
  refine c_seq ?_
  refine c_region ?_
  refine l_q hT (q_move hT rfl) rfl rfl (by decide) ?_; clear hT; intro a hT
  refine l_end ?_
  refine then_norm ?_
  refine c_true hT rfl rfl ?_
  refine c_seq ?_
  refine c_region ?_
  refine l_q hT (q_assign hT rfl) rfl rfl (by decide) ?_; clear hT; intro a hT
  refine l_end ?_
  refine then_norm ?_
  refine wp_ret ?_
  refine then_ret ?_
  refine c_ret (vs := [(v32 1)]) (rs := [.tmp 2]) hT rfl (.tmp rfl .nil) ?_
  exact ⟨rfl, hL.drop⟩

set_option maxRecDepth 20000 in
set_option maxHeartbeats 1000000 in
theorem bstore_spec (b : Nat) (d0 : UInt32) (d : Dig) (l : Leaf) (p q : Option Addr) (u : FrameMode) (w0 : World) (hh : w0.heap[b]? = some (ob ([(v32 d0), (Value.int .i32 1), (v32 0)] ++ (digC d ++ (digC l.p ++ (digC l.v ++ ([(Value.pointer p), (Value.pointer q)]))))) 98)) :
    CallsD Tryd.prog 76 #[(vp b 0), (Value.bool true)] u w0 fun e u' w' => u' = u ∧ (e = .returned (.tuple #[]) ∧ Vg.Loc [b] w0 w' [[(b, ob ([(v32 1), (Value.int .i32 1), (v32 0)] ++ (digC d ++ (digC l.p ++ (digC l.v ++ ([(Value.pointer p), (Value.pointer q)]))))) 98)]]) := by
  refine c_enterD (n := 10) (args := [(vp b 0), (Value.bool true)]) Tryd.func76 rfl rfl (Nat.le_of_ble_eq_true rfl) rfl (fun a hT => ?_)
  simp only [List.zipIdx_cons, List.zipIdx_nil, List.map_cons, List.map_nil, Nat.reduceAdd] at hT
  have hL := Vg.Loc.start1 hh
  refine d_start' hL #[false, false, false, false, false, false] [5] rfl rfl rfl ?_; clear hL; intro w1 hL hE; have hR := hL; have hS := Ext.refl w1
  refine d_pure (i := 0) hT #[true, false, false, false, false, false] rfl (by kernel_rfl) rfl rfl (by decide) (fun _ _ _ h => h) (fun _ => q_move hT rfl) ?_; clear hT; intro a hT
  refine d_pure (i := 1) hT #[true, true, false, false, false, false] rfl (by kernel_rfl) rfl rfl (by decide) (fun _ _ _ h => h) (fun _ => q_nilCheck hT rfl) ?_; clear hT; intro a hT
  refine d_pure (i := 2) hT #[true, true, true, false, false, false] rfl (by kernel_rfl) rfl rfl (by decide) (fun _ _ _ h => h) (fun _ => q_fieldAddr hT rfl Tryd.fld88_1 rfl) ?_; clear hT; intro a hT
  refine d_pure (i := 3) hT #[true, true, true, true, false, false] rfl (by kernel_rfl) rfl rfl (by decide) (fun _ _ _ h => h) (fun _ => q_move hT rfl) ?_; clear hT; intro a hT
  refine d_one (i := 4) hT #[true, true, true, true, true, false] rfl (by kernel_rfl) rfl ?_
  refine w_callT (xs := [.tmp 7]) hT rfl (vs := [(Value.bool true)]) rfl (args := #[(Value.bool true)]) rfl Tryd.func85 rfl rfl (by decide) ((b32_spec _).mono ?_)
  rintro e w2 ⟨rfl, hX⟩
  refine ⟨_, rfl, ?_⟩; clear hT; intro a hT; replace hT : Tm 10 a ((8, (v32 1)) :: _) := hT
  replace hL := hL.ext hX
  replace hS := Vg.Loc.ext hS hX; refine ⟨fun _ => hS, ?_⟩
  refine d_one (i := 5) hT #[true, true, true, true, true, true] rfl (by kernel_rfl) rfl ?_
  refine w_ext (xs := [.tmp 6, .tmp 8]) hT hL (by decide) 0 rfl (vs := [(vp b 0), (v32 1)]) rfl (args := #[(vp b 0), (v32 1)]) rfl rfl (c' := [(v32 1), (Value.int .i32 1), (v32 0)] ++ (digC d ++ (digC l.p ++ (digC l.v ++ ([(Value.pointer p), (Value.pointer q)]))))) rfl (run_call_store Tryd.func84 (by kernel_rfl) (by kernel_rfl) (by kernel_rfl) (by kernel_rfl) (Rd.c0 (hL.rd 0 rfl 0 (ds := [(v32 d0)]) rfl)) (hL.warm 0 rfl)) ?_; clear hT hL; intro a w3 hT hL hE
  replace hL : Vg.Loc [b] w0 w3 ([[(b, ob ([(v32 1), (Value.int .i32 1), (v32 0)] ++ (digC d ++ (digC l.p ++ (digC l.v ++ ([(Value.pointer p), (Value.pointer q)]))))) 98)]]) := hL
  refine ⟨fun hn => absurd (by decide) hn, ?_⟩
  refine d_done (by kernel_rfl) ?_; clear hR hS
  refine c_fall (vs := []) (rs := []) hT rfl .nil ?_
  exact ⟨rfl, hL⟩

set_option maxRecDepth 20000 in
set_option maxHeartbeats 1000000 in
theorem bload_spec (b : Nat) (w0 : World) (hc : Rd w0 b 0 [v32 0]) :
    Calls Tryd.prog 58 #[(vp b 0)] w0 fun e w' => e = .returned (.bool false) ∧ Ext w0 w' := by
  refine c_enter (n := 8) (args := [(vp b 0)]) Tryd.func58 rfl rfl (Nat.le_of_ble_eq_true rfl) rfl (fun a hT => ?_)
  simp only [List.zipIdx_cons, List.zipIdx_nil, List.map_cons, List.map_nil, Nat.reduceAdd] at hT
  have hL := Vg.Loc.refl [] w0
  refine c_seq ?_
  refine c_region ?_
  refine l_q hT (q_assign hT rfl) rfl rfl (by decide) ?_; clear hT; intro a hT
  refine l_end ?_
  refine then_norm ?_
  refine c_seq ?_
  refine c_region ?_
  refine l_q hT (q_move hT rfl) rfl rfl (by decide) ?_; clear hT; intro a hT
  refine l_q hT (q_nilCheck hT rfl) rfl rfl (by decide) ?_; clear hT; intro a hT
  refine l_q hT (q_fieldAddr hT rfl Tryd.fld88_1 rfl) rfl rfl (by decide) ?_; clear hT; intro a hT
  refine l_q hT (q_ext (xs := [.tmp 5]) hT rfl (vs := [(vp b 0)]) rfl (args := #[(vp b 0)]) rfl (run_call_load Tryd.func73 (by kernel_rfl) (by kernel_rfl) (by kernel_rfl) .u32 (by kernel_rfl) (Rd.c0 (Rd.loc hc hL (by simp))))) rfl rfl (by decide) ?_; clear hT; intro a hT
  refine l_q hT ((q_neq hT rfl rfl).b (b := false) rfl) rfl rfl (by decide) ?_; clear hT; intro a hT
  refine l_q hT (q_assign hT rfl) rfl rfl (by decide) ?_; clear hT; intro a hT
  refine l_end ?_
  refine then_norm ?_
  refine wp_ret ?_
  refine c_ret (vs := [(Value.bool false)]) (rs := [.tmp 2]) hT rfl (.tmp rfl .nil) ?_
  exact ⟨rfl, hL.drop⟩
end Go.Proofs.YtcaffacganffjaaDoor
end

section
namespace Go.Proofs.YtcaffacganffjaaDoor
open Go Go.Vg


set_option maxRecDepth 20000 in
set_option maxHeartbeats 1000000 in
theorem doSlow_spec (b kb wb : Nat) (d' : Dig) (l : Leaf) (p q : Option Addr) (cs cs' : List Chunk) (w0 : World) (hL0 : Vg.Loc (b :: keys cs) w0 w0 ([[(b, ob ([(v32 0), (Value.int .i32 0), (v32 0)] ++ (digC Dig.zero ++ (digC l.p ++ (digC l.v ++ ([(Value.pointer p), (Value.pointer q)]))))) 98)]] ++ cs)) (hf : ∀ w1, Vg.Loc (b :: keys cs) w0 w1 ([[(b, ob ([(v32 0), (Value.int .i32 1), (v32 0)] ++ (digC Dig.zero ++ (digC l.p ++ (digC l.v ++ ([(Value.pointer p), (Value.pointer q)]))))) 98)]] ++ cs) → Calls Tryd.prog 48 #[vp kb 0, vp wb 0] w1 fun e w2 => e = .returned (.tuple #[]) ∧ Vg.Loc (b :: keys cs) w1 w2 ([[(b, ob ([(v32 0), (Value.int .i32 1), (v32 0)] ++ (digC d' ++ (digC l.p ++ (digC l.v ++ ([(Value.pointer p), (Value.pointer q)]))))) 98)]] ++ cs')) :
    Calls Tryd.prog 59 #[(vp b 0), (Value.func (Fn.func 48) #[] #[(vp kb 0), (vp wb 0)])] w0 fun e w' => e = .returned (.tuple #[]) ∧ Vg.Loc (b :: keys cs) w0 w' ([[(b, ob ([(v32 1), (Value.int .i32 0), (v32 0)] ++ (digC d' ++ (digC l.p ++ (digC l.v ++ ([(Value.pointer p), (Value.pointer q)]))))) 98)]] ++ cs') := by
  refine c_enter_defers (n := 21) (args := [(vp b 0), (Value.func (Fn.func 48) #[] #[(vp kb 0), (vp wb 0)])]) Tryd.func59 rfl rfl (Nat.le_of_ble_eq_true rfl) rfl (fun a hT => ?_)
  simp only [List.zipIdx_cons, List.zipIdx_nil, List.map_cons, List.map_nil, Nat.reduceAdd] at hT
  have hL := hL0
  refine c_seq ?_
  refine c_region ?_
  refine l_q hT (q_move hT rfl) rfl rfl (by decide) ?_; clear hT; intro a hT
  refine l_q hT (q_nilCheck hT rfl) rfl rfl (by decide) ?_; clear hT; intro a hT
  refine l_q hT (q_fieldAddr hT rfl Tryd.fld94_2 rfl) rfl rfl (by decide) ?_; clear hT; intro a hT
  refine l_do rfl ?_
  refine w_callT (xs := [.tmp 6]) hT rfl (vs := [(vp b 1)]) rfl (args := #[(vp b 1)]) rfl Tryd.func74 rfl rfl (by decide) ((lock_spec b 0 Dig.zero l p q _ (hL.get 0 rfl)).mono ?_)
  rintro e w1 ⟨rfl, hX⟩
  refine ⟨_, rfl, ?_⟩; clear hT; intro a hT; replace hT : Tm 21 a ((7, (Value.tuple #[])) :: _) := hT
  replace hL : Vg.Loc (b :: keys cs) w0 w1 ([[(b, ob ([(v32 0), (Value.int .i32 1), (v32 0)] ++ (digC Dig.zero ++ (digC l.p ++ (digC l.v ++ ([(Value.pointer p), (Value.pointer q)]))))) 98)]] ++ cs) := Vg.Loc.call (ci := [[(b, ob ([(v32 0), (Value.int .i32 0), (v32 0)] ++ (digC Dig.zero ++ (digC l.p ++ (digC l.v ++ ([(Value.pointer p), (Value.pointer q)]))))) 98)]]) (cr := cs) hL hX
  refine l_end ?_
  refine then_norm ?_
  refine c_seq ?_
  refine c_region ?_
  refine l_q hT (q_move hT rfl) rfl rfl (by decide) ?_; clear hT; intro a hT
  refine l_q hT (q_nilCheck hT rfl) rfl rfl (by decide) ?_; clear hT; intro a hT
  refine l_q hT (q_fieldAddr hT rfl Tryd.fld94_2 rfl) rfl rfl (by decide) ?_; clear hT; intro a hT
  refine l_do rfl ?_
  refine w_defer (xs := [.tmp 10]) hT rfl (vs := [(vp b 1)]) rfl (args := #[(vp b 1)]) rfl ?_; clear hT; intro a hT
  refine l_end ?_
  refine then_norm ?_
  refine c_seq ?_
  refine c_region ?_
  refine l_q hT (q_move hT rfl) rfl rfl (Nat.le_of_ble_eq_true rfl) ?_; clear hT; intro a hT
  refine l_q hT (q_nilCheck hT rfl) rfl rfl (Nat.le_of_ble_eq_true rfl) ?_; clear hT; intro a hT
  refine l_q hT (q_fieldAddr hT rfl Tryd.fld94_1 rfl) rfl rfl (Nat.le_of_ble_eq_true rfl) ?_; clear hT; intro a hT
  refine l_do rfl ?_
  refine w_callT (xs := [.tmp 13]) hT rfl (vs := [(vp b 0)]) rfl (args := #[(vp b 0)]) rfl Tryd.func58 rfl rfl (Nat.le_of_ble_eq_true rfl) ((bload_spec b _ (hL.rd 0 rfl 0 rfl)).mono ?_)
  rintro e w2 ⟨rfl, hX⟩
  refine ⟨_, rfl, ?_⟩; clear hT; intro a hT; replace hT : Tm _ a ((14, (Value.bool false)) :: _) := hT
  replace hL := hL.ext hX
  refine l_q hT ((q_not hT rfl).b rfl) rfl rfl (Nat.le_of_ble_eq_true rfl) ?_; clear hT; intro a hT
  refine l_end ?_
  refine then_norm ?_
  refine c_true hT rfl rfl ?_
  refine c_seq ?_
  refine c_region ?_
  refine l_q hT (q_move hT rfl) rfl rfl (Nat.le_of_ble_eq_true rfl) ?_; clear hT; intro a hT
  refine l_q hT (q_nilCheck hT rfl) rfl rfl (Nat.le_of_ble_eq_true rfl) ?_; clear hT; intro a hT
  refine l_q hT (q_fieldAddr hT rfl Tryd.fld94_1 rfl) rfl rfl (Nat.le_of_ble_eq_true rfl) ?_; clear hT; intro a hT
  refine l_do rfl ?_
  refine w_defer (xs := [.tmp 18, .const (.bool true)]) hT rfl (vs := [(vp b 0), (Value.bool true)]) rfl (args := #[(vp b 0), (Value.bool true)]) rfl ?_; clear hT; intro a hT
  refine l_end ?_
  refine then_norm ?_
  refine c_region ?_
  refine l_q hT (q_move hT rfl) rfl rfl (Nat.le_of_ble_eq_true rfl) ?_; clear hT; intro a hT
  refine l_do rfl ?_
  refine w_callT (xs := []) hT rfl (vs := []) rfl (args := #[(vp kb 0), (vp wb 0)]) rfl Tryd.func48 rfl rfl (Nat.le_of_ble_eq_true rfl) ((hf _ hL).mono ?_)
  rintro e w3 ⟨rfl, hX⟩
  refine ⟨_, rfl, ?_⟩; clear hT; intro a hT; replace hT : Tm _ a ((20, (Value.tuple #[])) :: _) := hT
  replace hL := Vg.Loc.call_all hL hX
  replace hL : Vg.Loc (b :: keys cs) w0 w3 ([[(b, ob ([(v32 0), (Value.int .i32 1), (v32 0)] ++ (digC d' ++ (digC l.p ++ (digC l.v ++ ([(Value.pointer p), (Value.pointer q)]))))) 98)]] ++ cs') := hL
  refine l_end ?_
  refine c_door hT rfl (fun a hT => ?_)
  refine leaves_cons (f := 76) (args := #[vp b 0, .bool true]) (by simp) (by simp [go_sem]) ?_
  refine (bstore_spec b 0 d' l p q .returning _ (hL.get 0 rfl)).mono ?_
  rintro e u' w8 ⟨rfl, rfl, hX⟩
  replace hL : Vg.Loc (b :: keys cs) w0 w8 ([[(b, ob ([(v32 1), (Value.int .i32 1), (v32 0)] ++ (digC d' ++ (digC l.p ++ (digC l.v ++ ([(Value.pointer p), (Value.pointer q)]))))) 98)]] ++ cs') := Vg.Loc.call (ci := [[(b, ob ([(v32 0), (Value.int .i32 1), (v32 0)] ++ (digC d' ++ (digC l.p ++ (digC l.v ++ ([(Value.pointer p), (Value.pointer q)]))))) 98)]]) (cr := cs') hL hX
  refine leaves_cons (f := 75) (args := #[vp b 1]) (by simp [settle]) (by simp [go_sem]) ?_
  refine (unlock_spec b 1 d' l p q _ _ (hL.get 0 rfl)).mono ?_
  rintro e u' w9 ⟨rfl, rfl, hX⟩
  replace hL : Vg.Loc (b :: keys cs) w0 w9 ([[(b, ob ([(v32 1), (Value.int .i32 0), (v32 0)] ++ (digC d' ++ (digC l.p ++ (digC l.v ++ ([(Value.pointer p), (Value.pointer q)]))))) 98)]] ++ cs') := Vg.Loc.call (ci := [[(b, ob ([(v32 1), (Value.int .i32 1), (v32 0)] ++ (digC d' ++ (digC l.p ++ (digC l.v ++ ([(Value.pointer p), (Value.pointer q)]))))) 98)]]) (cr := cs') hL hX
  exact ⟨_, results_none rfl _ _ _, rfl, hL⟩

set_option maxRecDepth 20000 in
set_option maxHeartbeats 1000000 in
theorem Do_spec (b kb wb : Nat) (d' : Dig) (l : Leaf) (p q : Option Addr) (cs cs' : List Chunk) (w0 : World) (hL0 : Vg.Loc (b :: keys cs) w0 w0 ([[(b, ob ([(v32 0), (Value.int .i32 0), (v32 0)] ++ (digC Dig.zero ++ (digC l.p ++ (digC l.v ++ ([(Value.pointer p), (Value.pointer q)]))))) 98)]] ++ cs)) (hf : ∀ w1, Vg.Loc (b :: keys cs) w0 w1 ([[(b, ob ([(v32 0), (Value.int .i32 1), (v32 0)] ++ (digC Dig.zero ++ (digC l.p ++ (digC l.v ++ ([(Value.pointer p), (Value.pointer q)]))))) 98)]] ++ cs) → Calls Tryd.prog 48 #[vp kb 0, vp wb 0] w1 fun e w2 => e = .returned (.tuple #[]) ∧ Vg.Loc (b :: keys cs) w1 w2 ([[(b, ob ([(v32 0), (Value.int .i32 1), (v32 0)] ++ (digC d' ++ (digC l.p ++ (digC l.v ++ ([(Value.pointer p), (Value.pointer q)]))))) 98)]] ++ cs')) :
    Calls Tryd.prog 47 #[(vp b 0), (Value.func (Fn.func 48) #[] #[(vp kb 0), (vp wb 0)])] w0 fun e w' => e = .returned (.tuple #[]) ∧ Vg.Loc (b :: keys cs) w0 w' ([[(b, ob ([(v32 1), (Value.int .i32 0), (v32 0)] ++ (digC d' ++ (digC l.p ++ (digC l.v ++ ([(Value.pointer p), (Value.pointer q)]))))) 98)]] ++ cs') := by
  refine c_enter (n := 12) (args := [(vp b 0), (Value.func (Fn.func 48) #[] #[(vp kb 0), (vp wb 0)])]) Tryd.func47 rfl rfl (Nat.le_of_ble_eq_true rfl) rfl (fun a hT => ?_)
  simp only [List.zipIdx_cons, List.zipIdx_nil, List.map_cons, List.map_nil, Nat.reduceAdd] at hT
  have hL := hL0
  refine c_seq ?_
  refine c_region ?_
  refine l_q hT (q_move hT rfl) rfl rfl (by decide) ?_; clear hT; intro a hT
  refine l_q hT (q_nilCheck hT rfl) rfl rfl (by decide) ?_; clear hT; intro a hT
  refine l_q hT (q_fieldAddr hT rfl Tryd.fld94_1 rfl) rfl rfl (by decide) ?_; clear hT; intro a hT
  refine l_do rfl ?_
  refine w_callT (xs := [.tmp 6]) hT rfl (vs := [(vp b 0)]) rfl (args := #[(vp b 0)]) rfl Tryd.func58 rfl rfl (by decide) ((bload_spec b _ (hL.rd 0 rfl 0 rfl)).mono ?_)
  rintro e w1 ⟨rfl, hX⟩
  refine ⟨_, rfl, ?_⟩; clear hT; intro a hT; replace hT : Tm 12 a ((7, (Value.bool false)) :: _) := hT
  replace hL := hL.ext hX
  refine l_q hT ((q_not hT rfl).b rfl) rfl rfl (by decide) ?_; clear hT; intro a hT
  refine l_end ?_
  refine then_norm ?_
  refine c_true hT rfl rfl ?_
  refine c_region ?_
  refine l_q hT (q_move hT rfl) rfl rfl (by decide) ?_; clear hT; intro a hT
  refine l_q hT (q_move hT rfl) rfl rfl (by decide) ?_; clear hT; intro a hT
  refine l_do rfl ?_
  refine w_callT (xs := [.tmp 9, .tmp 10]) hT rfl (vs := [(vp b 0), (Value.func (Fn.func 48) #[] #[(vp kb 0), (vp wb 0)])]) rfl (args := #[(vp b 0), (Value.func (Fn.func 48) #[] #[(vp kb 0), (vp wb 0)])]) rfl Tryd.func59 rfl rfl (by decide) ((doSlow_spec b kb wb d' l p q cs cs' _ (Vg.Loc.self_all hL) (fun w2 h => hf w2 (Vg.Loc.call_all hL h))).mono ?_)
  rintro e w2 ⟨rfl, hX⟩
  refine ⟨_, rfl, ?_⟩; clear hT; intro a hT; replace hT : Tm 12 a ((11, (Value.tuple #[])) :: _) := hT
  replace hL := Vg.Loc.call_all hL hX
  replace hL : Vg.Loc (b :: keys cs) w0 w2 ([[(b, ob ([(v32 1), (Value.int .i32 0), (v32 0)] ++ (digC d' ++ (digC l.p ++ (digC l.v ++ ([(Value.pointer p), (Value.pointer q)]))))) 98)]] ++ cs') := hL
  refine l_end ?_
  refine c_fall (vs := []) (rs := []) hT rfl .nil ?_
  exact ⟨rfl, hL⟩
end Go.Proofs.YtcaffacganffjaaDoor
end

section
namespace Go.Proofs.YtcaffacganffjaaDoor
open Go Go.Vg

def DigAt (P : Program) (f : FuncId) (T : TypeId) (t : KT) (w : Int) : Prop := ∀ w0, KeysAt w0 → 0 ∉ keys [t.ents T] → Vg.Loc (keys [t.ents T]) w0 w0 [t.ents T] → Calls P f #[.pointer t.ad, vI w] w0 fun e w' => e = .returned (dv (t.dig w)) ∧ Vg.Loc (keys [t.ents T]) w0 w' []
theorem five {b kb wb : Nat} {o o1 o2 : Obj} {cx cy : Chunk} (h : (keys [[(b, o)], cx, cy, [(kb, o1)], [(wb, o2)]]).Nodup) : b ∉ keys [cx, cy] ∧ kb ∉ keys [cx, cy] ∧ wb ∉ keys [cx, cy] := by
  simp only [keys, List.flatten_cons, List.flatten_nil, List.append_nil, List.map_append, List.map_cons, List.map_nil, List.singleton_append, List.nodup_cons, List.nodup_append, List.mem_append, List.mem_cons, List.not_mem_nil, or_false] at h ⊢
  obtain ⟨h1, h2, h3, h4⟩ := h
  refine ⟨fun hb => h1 (hb.elim .inl fun q => .inr (.inl q)), fun hb => ?_, fun hb => ?_⟩
  · exact hb.elim (fun q => h4 kb q kb (.inr (.inl rfl)) rfl) (fun q => h3.2.2 kb q kb (.inl rfl) rfl)
  · exact hb.elim (fun q => h4 wb q wb (.inr (.inr rfl)) rfl) (fun q => h3.2.2 wb q wb (.inr rfl) rfl)

set_option maxRecDepth 100000 in
set_option maxHeartbeats 4000000 in
theorem clo_leaf (b kb wb : Nat) (w : Int) (l : Leaf) (w0 : World) (hK : KeysAt w0) (h0 : 0 ∉ (b :: keys [[(kb, ob [(vp b 0)] 63)], [(wb, ob [(vI w)] 3)]])) (hL0 : Vg.Loc (b :: keys [[(kb, ob [(vp b 0)] 63)], [(wb, ob [(vI w)] 3)]]) w0 w0 [[(b, ob ([(v32 0), (Value.int .i32 1), (v32 0)] ++ (digC Dig.zero ++ (digC l.p ++ (digC l.v ++ ([(Value.pointer none), (Value.pointer none)]))))) 98)], [(kb, ob [(vp b 0)] 63)], [(wb, ob [(vI w)] 3)]]) :
    Calls Tryd.prog 48 #[(vp kb 0), (vp wb 0)] w0 fun e w' => e = .returned (.tuple #[]) ∧ Vg.Loc (b :: keys [[(kb, ob [(vp b 0)] 63)], [(wb, ob [(vI w)] 3)]]) w0 w' [[(b, ob ([(v32 0), (Value.int .i32 1), (v32 0)] ++ (digC (leafD w l) ++ (digC l.p ++ (digC l.v ++ ([(Value.pointer none), (Value.pointer none)]))))) 98)], [(kb, ob [(vp b 0)] 63)], [(wb, ob [(vI w)] 3)]] := by
  refine c_enter (n := 32) (args := [(vp kb 0), (vp wb 0)]) Tryd.func48 rfl rfl (Nat.le_of_ble_eq_true rfl) rfl (fun a hT => ?_)
  simp only [List.zipIdx_cons, List.zipIdx_nil, List.map_cons, List.map_nil, Nat.reduceAdd] at hT
  have hL := hL0
  refine c_seq ?_
  refine c_region ?_
  refine l_q hT (q_load hT rfl Tryd.ty63 (hL.rd 1 rfl 0 (ds := [(vp b 0)]) rfl)) rfl rfl (by decide) ?_; clear hT; intro a hT
  refine l_do rfl ?_
  refine w_callT (xs := [.tmp 2]) hT rfl (vs := [(vp b 0)]) rfl (args := #[(vp b 0)]) rfl Tryd.func45 rfl rfl (by decide) ((inner_some b none none _ (hL.rd 0 rfl 99 rfl)).mono ?_)
  rintro e w1 ⟨rfl, hX⟩
  refine ⟨_, rfl, ?_⟩; clear hT; intro a hT; replace hT : Tm 32 a ((3, (Value.bool false)) :: _) := hT
  replace hL := hL.ext hX
  refine l_end ?_
  refine then_norm ?_
  refine c_false hT rfl rfl ?_
  refine d_start' hL #[false, false, false, false, false, false, false, false, false, false, false] [10] rfl rfl rfl ?_; clear hL; intro w2 hL hE; have hR := hL; have hS := Ext.refl w2
  refine d_take (i := 0) hT #[true, false, false, false, false, false, false, false, false, false, false] rfl (by kernel_rfl) rfl rfl (by decide) (fun _ _ _ h => h) (fun _ hs => q_load hT rfl Tryd.ty63 (Rd.ext (hR.rd 1 rfl 0 (ds := [(vp b 0)]) rfl) hs)) hS ?_; clear hT; intro a hT
  refine d_take (i := 1) hT #[true, true, false, false, false, false, false, false, false, false, false] rfl (by kernel_rfl) rfl rfl (by decide) (fun _ _ _ h => h) (fun _ hs => q_load hT rfl Tryd.ty3 (Rd.ext (hR.rd 2 rfl 0 (ds := [(vI w)]) rfl) hs)) hS ?_; clear hT; intro a hT
  refine d_take (i := 2) hT #[true, true, true, false, false, false, false, false, false, false, false] rfl (by kernel_rfl) rfl rfl (by decide) (fun _ _ _ h => h) (fun _ hs => q_load hT rfl Tryd.ty63 (Rd.ext (hR.rd 1 rfl 0 (ds := [(vp b 0)]) rfl) hs)) hS ?_; clear hT; intro a hT
  refine d_pure (i := 3) hT #[true, true, true, true, false, false, false, false, false, false, false] rfl (by kernel_rfl) rfl rfl (by decide) (fun _ _ _ h => h) (fun _ => q_nilCheck hT rfl) ?_; clear hT; intro a hT
  refine d_pure (i := 4) hT #[true, true, true, true, true, false, false, false, false, false, false] rfl (by kernel_rfl) rfl rfl (by decide) (fun _ _ _ h => h) (fun _ => q_fieldAddr hT rfl Tryd.fld98_1 rfl) ?_; clear hT; intro a hT
  refine d_take (i := 5) hT #[true, true, true, true, true, true, false, false, false, false, false] rfl (by kernel_rfl) rfl rfl (by decide) (fun _ _ _ h => h) (fun _ hs => q_load_agg hT rfl Tryd.ty36 (Rd.ext (hR.rd 0 rfl 35 (ds := digC l.p ++ (digC l.v)) rfl) hs) rfl) hS ?_; clear hT; intro a hT
  refine d_one (i := 6) hT #[true, true, true, true, true, true, true, false, false, false, false] rfl (by kernel_rfl) rfl ?_
  refine w_callT (xs := [.tmp 23, .tmp 27]) hT rfl (vs := [(vI w), (Value.agg (digC l.p ++ (digC l.v)).toArray)]) rfl (args := #[(vI w), (Value.agg (digC l.p ++ (digC l.v)).toArray)]) rfl Tryd.func16 rfl rfl (by decide) ((Leaf_spec (w) l _ (KeysAt.of hK hL h0)).mono ?_)
  rintro e w3 ⟨rfl, hX⟩
  refine ⟨_, rfl, ?_⟩; clear hT; intro a hT; replace hT : Tm 32 a ((28, (Value.agg (digC (leafD w l)).toArray)) :: _) := hT
  replace hL := hL.ext hX
  replace hS := Vg.Loc.ext hS hX; refine ⟨fun _ => hS, ?_⟩
  refine d_pure (i := 7) hT #[true, true, true, true, true, true, true, true, false, false, false] rfl (by kernel_rfl) rfl rfl (by decide) (fun _ _ _ h => h) (fun _ => q_nilCheck hT rfl) ?_; clear hT; intro a hT
  refine d_pure (i := 8) hT #[true, true, true, true, true, true, true, true, true, false, false] rfl (by kernel_rfl) rfl rfl (by decide) (fun _ _ _ h => h) (fun _ => q_fieldAddr hT rfl Tryd.fld98_0 rfl) ?_; clear hT; intro a hT
  refine d_pure (i := 9) hT #[true, true, true, true, true, true, true, true, true, true, false] rfl (by kernel_rfl) rfl rfl (by decide) (fun _ _ _ h => h) (fun _ => q_fieldAddr hT rfl Tryd.fld96_1 rfl) ?_; clear hT; intro a hT
  refine d_one (i := 10) hT #[true, true, true, true, true, true, true, true, true, true, true] rfl (by kernel_rfl) rfl ?_
  refine w_store hT hL 0 (c := [(v32 0), (Value.int .i32 1), (v32 0)] ++ (digC Dig.zero ++ (digC l.p ++ (digC l.v ++ ([(Value.pointer none), (Value.pointer none)]))))) rfl rfl Tryd.ty24 rfl (vs := digC (leafD w l)) rfl rfl (by first | decide | (simp [arr32_len, arr8_len, digC_len]; done) | (simp [arr32_len, arr8_len, digC_len]; omega)) rfl (c' := [(v32 0), (Value.int .i32 1), (v32 0)] ++ (digC (leafD w l) ++ (digC l.p ++ (digC l.v ++ ([(Value.pointer none), (Value.pointer none)]))))) rfl ?_; clear hL; intro w4 hL hE
  replace hL : Vg.Loc (b :: keys [[(kb, ob [(vp b 0)] 63)], [(wb, ob [(vI w)] 3)]]) w0 w4 ([[(b, ob ([(v32 0), (Value.int .i32 1), (v32 0)] ++ (digC (leafD w l) ++ (digC l.p ++ (digC l.v ++ ([(Value.pointer none), (Value.pointer none)]))))) 98)], [(kb, ob [(vp b 0)] 63)], [(wb, ob [(vI w)] 3)]]) := hL
  refine ⟨fun hn => absurd (by decide) hn, ?_⟩
  refine d_done (by kernel_rfl) ?_; clear hR hS
  refine c_fall (vs := []) (rs := []) hT rfl .nil ?_
  replace hL : Vg.Loc (b :: keys [[(kb, ob [(vp b 0)] 63)], [(wb, ob [(vI w)] 3)]]) w0 w4 ([[(wb, ob [(vI w)] 3)], [(b, ob ([(v32 0), (Value.int .i32 1), (v32 0)] ++ (digC (leafD w l) ++ (digC l.p ++ (digC l.v ++ ([(Value.pointer none), (Value.pointer none)]))))) 98)], [(kb, ob [(vp b 0)] 63)]]) := hL.front 2 rfl rfl
  replace hL : Vg.Loc (b :: keys [[(kb, ob [(vp b 0)] 63)], [(wb, ob [(vI w)] 3)]]) w0 w4 ([[(kb, ob [(vp b 0)] 63)], [(wb, ob [(vI w)] 3)], [(b, ob ([(v32 0), (Value.int .i32 1), (v32 0)] ++ (digC (leafD w l) ++ (digC l.p ++ (digC l.v ++ ([(Value.pointer none), (Value.pointer none)]))))) 98)]]) := hL.front 2 rfl rfl
  replace hL : Vg.Loc (b :: keys [[(kb, ob [(vp b 0)] 63)], [(wb, ob [(vI w)] 3)]]) w0 w4 ([[(b, ob ([(v32 0), (Value.int .i32 1), (v32 0)] ++ (digC (leafD w l) ++ (digC l.p ++ (digC l.v ++ ([(Value.pointer none), (Value.pointer none)]))))) 98)], [(kb, ob [(vp b 0)] 63)], [(wb, ob [(vI w)] 3)]]) := hL.front 2 rfl rfl
  exact ⟨rfl, hL⟩

set_option maxRecDepth 100000 in
set_option maxHeartbeats 4000000 in
theorem clo_node (b kb wb : Nat) (w : Int) (x y : KT) (hsome : (x.ad.isSome || y.ad.isSome) = true) (ihx : DigAt Tryd.prog 33 98 x w) (ihy : DigAt Tryd.prog 33 98 y w) (w0 : World) (hK : KeysAt w0) (h0 : 0 ∉ (b :: keys [(x.ents 98), (y.ents 98), [(kb, ob [(vp b 0)] 63)], [(wb, ob [(vI w)] 3)]])) (hL0 : Vg.Loc (b :: keys [(x.ents 98), (y.ents 98), [(kb, ob [(vp b 0)] 63)], [(wb, ob [(vI w)] 3)]]) w0 w0 [[(b, ob ([(v32 0), (Value.int .i32 1), (v32 0)] ++ (digC Dig.zero ++ (digC noLeaf.p ++ (digC noLeaf.v ++ ([(Value.pointer x.ad), (Value.pointer y.ad)]))))) 98)], (x.ents 98), (y.ents 98), [(kb, ob [(vp b 0)] 63)], [(wb, ob [(vI w)] 3)]]) :
    Calls Tryd.prog 48 #[(vp kb 0), (vp wb 0)] w0 fun e w' => e = .returned (.tuple #[]) ∧ Vg.Loc (b :: keys [(x.ents 98), (y.ents 98), [(kb, ob [(vp b 0)] 63)], [(wb, ob [(vI w)] 3)]]) w0 w' [[(b, ob ([(v32 0), (Value.int .i32 1), (v32 0)] ++ (digC (nodeD w (x.dig w) (y.dig w)) ++ (digC noLeaf.p ++ (digC noLeaf.v ++ ([(Value.pointer x.ad), (Value.pointer y.ad)]))))) 98)], [(kb, ob [(vp b 0)] 63)], [(wb, ob [(vI w)] 3)]] := by
  refine c_enter (n := 32) (args := [(vp kb 0), (vp wb 0)]) Tryd.func48 rfl rfl (Nat.le_of_ble_eq_true rfl) rfl (fun a hT => ?_)
  simp only [List.zipIdx_cons, List.zipIdx_nil, List.map_cons, List.map_nil, Nat.reduceAdd] at hT
  have hL := hL0
  have hx0 : 0 ∉ keys [(x.ents 98)] := fun h => h0 (by simp only [keys, List.flatten_cons, List.flatten_nil, List.append_nil, List.map_append, List.mem_append, List.mem_cons] at h ⊢; exact .inr (.inl h))
  have hy0 : 0 ∉ keys [(y.ents 98)] := fun h => h0 (by simp only [keys, List.flatten_cons, List.flatten_nil, List.append_nil, List.map_append, List.mem_append, List.mem_cons] at h ⊢; exact .inr (.inr (.inl h)))
  obtain ⟨hnb, hnk, hnw⟩ := five hL0.nd
  refine c_seq ?_
  refine c_region ?_
  refine l_q hT (q_load hT rfl Tryd.ty63 (hL.rd 3 rfl 0 (ds := [(vp b 0)]) rfl)) rfl rfl (by decide) ?_; clear hT; intro a hT
  refine l_do rfl ?_
  refine w_callT (xs := [.tmp 2]) hT rfl (vs := [(vp b 0)]) rfl (args := #[(vp b 0)]) rfl Tryd.func45 rfl rfl (by decide) ((inner_some b x.ad y.ad _ (hL.rd 0 rfl 99 rfl)).mono ?_)
  rintro e w1 ⟨rfl, hX⟩
  refine ⟨_, rfl, ?_⟩; clear hT; intro a hT; replace hT : Tm 32 a ((3, (Value.bool (x.ad.isSome || y.ad.isSome))) :: _) := hT
  replace hL := hL.ext hX
  rw [hsome] at hT
  refine l_end ?_
  refine then_norm ?_
  refine c_true hT rfl rfl ?_
  refine d_startM hL (keys [(x.ents 98), (y.ents 98)]) #[false, false, false, false, false, false, false, false, false, false, false, false, false, false, false, false, false, false, false] [18] rfl rfl rfl ?_; clear hL; intro w2 hL hS; have hR := hL
  refine d_take (i := 0) hT #[true, false, false, false, false, false, false, false, false, false, false, false, false, false, false, false, false, false, false] rfl (by kernel_rfl) rfl rfl (by decide) (fun _ _ _ h => h) (fun _ hs => q_load hT rfl Tryd.ty63 (Rd.loc (hR.rd 3 rfl 0 (ds := [(vp b 0)]) rfl) hs hnk)) hS ?_; clear hT; intro a hT
  refine d_take (i := 1) hT #[true, true, false, false, false, false, false, false, false, false, false, false, false, false, false, false, false, false, false] rfl (by kernel_rfl) rfl rfl (by decide) (fun _ _ _ h => h) (fun _ hs => q_load hT rfl Tryd.ty3 (Rd.loc (hR.rd 4 rfl 0 (ds := [(vI w)]) rfl) hs hnw)) hS ?_; clear hT; intro a hT
  refine d_take (i := 2) hT #[true, true, true, false, false, false, false, false, false, false, false, false, false, false, false, false, false, false, false] rfl (by kernel_rfl) rfl rfl (by decide) (fun _ _ _ h => h) (fun _ hs => q_load hT rfl Tryd.ty63 (Rd.loc (hR.rd 3 rfl 0 (ds := [(vp b 0)]) rfl) hs hnk)) hS ?_; clear hT; intro a hT
  refine d_pure (i := 3) hT #[true, true, true, true, false, false, false, false, false, false, false, false, false, false, false, false, false, false, false] rfl (by kernel_rfl) rfl rfl (by decide) (fun _ _ _ h => h) (fun _ => q_nilCheck hT rfl) ?_; clear hT; intro a hT
  refine d_pure (i := 4) hT #[true, true, true, true, true, false, false, false, false, false, false, false, false, false, false, false, false, false, false] rfl (by kernel_rfl) rfl rfl (by decide) (fun _ _ _ h => h) (fun _ => q_fieldAddr hT rfl Tryd.fld98_2 rfl) ?_; clear hT; intro a hT
  refine d_take (i := 5) hT #[true, true, true, true, true, true, false, false, false, false, false, false, false, false, false, false, false, false, false] rfl (by kernel_rfl) rfl rfl (by decide) (fun _ _ _ h => h) (fun _ hs => q_load hT rfl Tryd.ty63 (Rd.loc (hR.rd 0 rfl 99 (ds := [(Value.pointer x.ad)]) rfl) hs hnb)) hS ?_; clear hT; intro a hT
  refine d_take (i := 6) hT #[true, true, true, true, true, true, true, false, false, false, false, false, false, false, false, false, false, false, false] rfl (by kernel_rfl) rfl rfl (by decide) (fun _ _ _ h => h) (fun _ hs => q_load hT rfl Tryd.ty3 (Rd.loc (hR.rd 4 rfl 0 (ds := [(vI w)]) rfl) hs hnw)) hS ?_; clear hT; intro a hT
  refine d_take (i := 8) hT #[true, true, true, true, true, true, true, false, true, false, false, false, false, false, false, false, false, false, false] rfl (by kernel_rfl) rfl rfl (by decide) (fun _ _ _ h => h) (fun _ hs => q_load hT rfl Tryd.ty63 (Rd.loc (hR.rd 3 rfl 0 (ds := [(vp b 0)]) rfl) hs hnk)) hS ?_; clear hT; intro a hT
  refine d_pure (i := 9) hT #[true, true, true, true, true, true, true, false, true, true, false, false, false, false, false, false, false, false, false] rfl (by kernel_rfl) rfl rfl (by decide) (fun _ _ _ h => h) (fun _ => q_nilCheck hT rfl) ?_; clear hT; intro a hT
  refine d_pure (i := 10) hT #[true, true, true, true, true, true, true, false, true, true, true, false, false, false, false, false, false, false, false] rfl (by kernel_rfl) rfl rfl (by decide) (fun _ _ _ h => h) (fun _ => q_fieldAddr hT rfl Tryd.fld98_3 rfl) ?_; clear hT; intro a hT
  refine d_take (i := 11) hT #[true, true, true, true, true, true, true, false, true, true, true, true, false, false, false, false, false, false, false] rfl (by kernel_rfl) rfl rfl (by decide) (fun _ _ _ h => h) (fun _ hs => q_load hT rfl Tryd.ty63 (Rd.loc (hR.rd 0 rfl 100 (ds := [(Value.pointer y.ad)]) rfl) hs hnb)) hS ?_; clear hT; intro a hT
  refine d_take (i := 12) hT #[true, true, true, true, true, true, true, false, true, true, true, true, true, false, false, false, false, false, false] rfl (by kernel_rfl) rfl rfl (by decide) (fun _ _ _ h => h) (fun _ hs => q_load hT rfl Tryd.ty3 (Rd.loc (hR.rd 4 rfl 0 (ds := [(vI w)]) rfl) hs hnw)) hS ?_; clear hT; intro a hT
  refine d_one (i := 7) hT #[true, true, true, true, true, true, true, true, true, true, true, true, true, false, false, false, false, false, false] rfl (by kernel_rfl) rfl ?_
  replace hL : Vg.Loc (b :: keys [(x.ents 98), (y.ents 98), [(kb, ob [(vp b 0)] 63)], [(wb, ob [(vI w)] 3)]]) w0 w2 ([(x.ents 98), [(b, ob ([(v32 0), (Value.int .i32 1), (v32 0)] ++ (digC Dig.zero ++ (digC noLeaf.p ++ (digC noLeaf.v ++ ([(Value.pointer x.ad), (Value.pointer y.ad)]))))) 98)], (y.ents 98), [(kb, ob [(vp b 0)] 63)], [(wb, ob [(vI w)] 3)]]) := hL.front 1 rfl rfl
  refine w_callT (xs := [.tmp 9, .tmp 10]) hT rfl (vs := [(Value.pointer x.ad), (vI w)]) rfl (args := #[(Value.pointer x.ad), (vI w)]) rfl Tryd.func33 rfl rfl (by decide) ((ihx _ (KeysAt.of hK hL h0) hx0 (Vg.Loc.self (cs := [(x.ents 98)]) hL)).mono ?_)
  rintro e w3 ⟨rfl, hX⟩
  refine ⟨_, rfl, ?_⟩; clear hT; intro a hT; replace hT : Tm 32 a ((11, (Value.agg (digC (x.dig w)).toArray)) :: _) := hT
  replace hL : Vg.Loc (b :: keys [(x.ents 98), (y.ents 98), [(kb, ob [(vp b 0)] 63)], [(wb, ob [(vI w)] 3)]]) w0 w3 ([[(b, ob ([(v32 0), (Value.int .i32 1), (v32 0)] ++ (digC Dig.zero ++ (digC noLeaf.p ++ (digC noLeaf.v ++ ([(Value.pointer x.ad), (Value.pointer y.ad)]))))) 98)], (y.ents 98), [(kb, ob [(vp b 0)] 63)], [(wb, ob [(vI w)] 3)]]) := Vg.Loc.call (ci := [(x.ents 98)]) (cr := [[(b, ob ([(v32 0), (Value.int .i32 1), (v32 0)] ++ (digC Dig.zero ++ (digC noLeaf.p ++ (digC noLeaf.v ++ ([(Value.pointer x.ad), (Value.pointer y.ad)]))))) 98)], (y.ents 98), [(kb, ob [(vp b 0)] 63)], [(wb, ob [(vI w)] 3)]]) hL hX
  replace hS := Vg.Loc.frame hS hX (fun k hk => .inl (by simp only [keys, List.flatten_cons, List.flatten_nil, List.append_nil, List.map_append, List.mem_append] at hk ⊢; first | exact .inl hk | exact .inr hk)); refine ⟨fun _ => hS, ?_⟩
  refine d_one (i := 13) hT #[true, true, true, true, true, true, true, true, true, true, true, true, true, true, false, false, false, false, false] rfl (by kernel_rfl) rfl ?_
  replace hL : Vg.Loc (b :: keys [(x.ents 98), (y.ents 98), [(kb, ob [(vp b 0)] 63)], [(wb, ob [(vI w)] 3)]]) w0 w3 ([(y.ents 98), [(b, ob ([(v32 0), (Value.int .i32 1), (v32 0)] ++ (digC Dig.zero ++ (digC noLeaf.p ++ (digC noLeaf.v ++ ([(Value.pointer x.ad), (Value.pointer y.ad)]))))) 98)], [(kb, ob [(vp b 0)] 63)], [(wb, ob [(vI w)] 3)]]) := hL.front 1 rfl rfl
  refine w_callT (xs := [.tmp 15, .tmp 16]) hT rfl (vs := [(Value.pointer y.ad), (vI w)]) rfl (args := #[(Value.pointer y.ad), (vI w)]) rfl Tryd.func33 rfl rfl (by decide) ((ihy _ (KeysAt.of hK hL h0) hy0 (Vg.Loc.self (cs := [(y.ents 98)]) hL)).mono ?_)
  rintro e w4 ⟨rfl, hX⟩
  refine ⟨_, rfl, ?_⟩; clear hT; intro a hT; replace hT : Tm 32 a ((17, (Value.agg (digC (y.dig w)).toArray)) :: _) := hT
  replace hL : Vg.Loc (b :: keys [(x.ents 98), (y.ents 98), [(kb, ob [(vp b 0)] 63)], [(wb, ob [(vI w)] 3)]]) w0 w4 ([[(b, ob ([(v32 0), (Value.int .i32 1), (v32 0)] ++ (digC Dig.zero ++ (digC noLeaf.p ++ (digC noLeaf.v ++ ([(Value.pointer x.ad), (Value.pointer y.ad)]))))) 98)], [(kb, ob [(vp b 0)] 63)], [(wb, ob [(vI w)] 3)]]) := Vg.Loc.call (ci := [(y.ents 98)]) (cr := [[(b, ob ([(v32 0), (Value.int .i32 1), (v32 0)] ++ (digC Dig.zero ++ (digC noLeaf.p ++ (digC noLeaf.v ++ ([(Value.pointer x.ad), (Value.pointer y.ad)]))))) 98)], [(kb, ob [(vp b 0)] 63)], [(wb, ob [(vI w)] 3)]]) hL hX
  replace hS := Vg.Loc.frame hS hX (fun k hk => .inl (by simp only [keys, List.flatten_cons, List.flatten_nil, List.append_nil, List.map_append, List.mem_append] at hk ⊢; first | exact .inl hk | exact .inr hk)); refine ⟨fun _ => hS, ?_⟩
  refine d_one (i := 14) hT #[true, true, true, true, true, true, true, true, true, true, true, true, true, true, true, false, false, false, false] rfl (by kernel_rfl) rfl ?_
  refine w_callT (xs := [.tmp 5, .tmp 11, .tmp 17]) hT rfl (vs := [(vI w), (Value.agg (digC (x.dig w)).toArray), (Value.agg (digC (y.dig w)).toArray)]) rfl (args := #[(vI w), (Value.agg (digC (x.dig w)).toArray), (Value.agg (digC (y.dig w)).toArray)]) rfl Tryd.func26 rfl rfl (by decide) ((Node_spec (w) (x.dig w) (y.dig w) _ (KeysAt.of hK hL h0)).mono ?_)
  rintro e w5 ⟨rfl, hX⟩
  refine ⟨_, rfl, ?_⟩; clear hT; intro a hT; replace hT : Tm 32 a ((18, (Value.agg (digC (nodeD w (x.dig w) (y.dig w))).toArray)) :: _) := hT
  replace hL := hL.ext hX
  replace hS := Vg.Loc.ext hS hX; refine ⟨fun _ => hS, ?_⟩
  refine d_pure (i := 15) hT #[true, true, true, true, true, true, true, true, true, true, true, true, true, true, true, true, false, false, false] rfl (by kernel_rfl) rfl rfl (by decide) (fun _ _ _ h => h) (fun _ => q_nilCheck hT rfl) ?_; clear hT; intro a hT
  refine d_pure (i := 16) hT #[true, true, true, true, true, true, true, true, true, true, true, true, true, true, true, true, true, false, false] rfl (by kernel_rfl) rfl rfl (by decide) (fun _ _ _ h => h) (fun _ => q_fieldAddr hT rfl Tryd.fld98_0 rfl) ?_; clear hT; intro a hT
  refine d_pure (i := 17) hT #[true, true, true, true, true, true, true, true, true, true, true, true, true, true, true, true, true, true, false] rfl (by kernel_rfl) rfl rfl (by decide) (fun _ _ _ h => h) (fun _ => q_fieldAddr hT rfl Tryd.fld96_1 rfl) ?_; clear hT; intro a hT
  refine d_one (i := 18) hT #[true, true, true, true, true, true, true, true, true, true, true, true, true, true, true, true, true, true, true] rfl (by kernel_rfl) rfl ?_
  refine w_store hT hL 0 (c := [(v32 0), (Value.int .i32 1), (v32 0)] ++ (digC Dig.zero ++ (digC noLeaf.p ++ (digC noLeaf.v ++ ([(Value.pointer x.ad), (Value.pointer y.ad)]))))) rfl rfl Tryd.ty24 rfl (vs := digC (nodeD w (x.dig w) (y.dig w))) rfl rfl (by first | decide | (simp [arr32_len, arr8_len, digC_len]; done) | (simp [arr32_len, arr8_len, digC_len]; omega)) rfl (c' := [(v32 0), (Value.int .i32 1), (v32 0)] ++ (digC (nodeD w (x.dig w) (y.dig w)) ++ (digC noLeaf.p ++ (digC noLeaf.v ++ ([(Value.pointer x.ad), (Value.pointer y.ad)]))))) rfl ?_; clear hL; intro w6 hL hE
  replace hL : Vg.Loc (b :: keys [(x.ents 98), (y.ents 98), [(kb, ob [(vp b 0)] 63)], [(wb, ob [(vI w)] 3)]]) w0 w6 ([[(b, ob ([(v32 0), (Value.int .i32 1), (v32 0)] ++ (digC (nodeD w (x.dig w) (y.dig w)) ++ (digC noLeaf.p ++ (digC noLeaf.v ++ ([(Value.pointer x.ad), (Value.pointer y.ad)]))))) 98)], [(kb, ob [(vp b 0)] 63)], [(wb, ob [(vI w)] 3)]]) := hL
  refine ⟨fun hn => absurd (by decide) hn, ?_⟩
  refine d_done (by kernel_rfl) ?_; clear hR hS
  refine c_fall (vs := []) (rs := []) hT rfl .nil ?_
  replace hL : Vg.Loc (b :: keys [(x.ents 98), (y.ents 98), [(kb, ob [(vp b 0)] 63)], [(wb, ob [(vI w)] 3)]]) w0 w6 ([[(wb, ob [(vI w)] 3)], [(b, ob ([(v32 0), (Value.int .i32 1), (v32 0)] ++ (digC (nodeD w (x.dig w) (y.dig w)) ++ (digC noLeaf.p ++ (digC noLeaf.v ++ ([(Value.pointer x.ad), (Value.pointer y.ad)]))))) 98)], [(kb, ob [(vp b 0)] 63)]]) := hL.front 2 rfl rfl
  replace hL : Vg.Loc (b :: keys [(x.ents 98), (y.ents 98), [(kb, ob [(vp b 0)] 63)], [(wb, ob [(vI w)] 3)]]) w0 w6 ([[(kb, ob [(vp b 0)] 63)], [(wb, ob [(vI w)] 3)], [(b, ob ([(v32 0), (Value.int .i32 1), (v32 0)] ++ (digC (nodeD w (x.dig w) (y.dig w)) ++ (digC noLeaf.p ++ (digC noLeaf.v ++ ([(Value.pointer x.ad), (Value.pointer y.ad)]))))) 98)]]) := hL.front 2 rfl rfl
  replace hL : Vg.Loc (b :: keys [(x.ents 98), (y.ents 98), [(kb, ob [(vp b 0)] 63)], [(wb, ob [(vI w)] 3)]]) w0 w6 ([[(b, ob ([(v32 0), (Value.int .i32 1), (v32 0)] ++ (digC (nodeD w (x.dig w) (y.dig w)) ++ (digC noLeaf.p ++ (digC noLeaf.v ++ ([(Value.pointer x.ad), (Value.pointer y.ad)]))))) 98)], [(kb, ob [(vp b 0)] 63)], [(wb, ob [(vI w)] 3)]]) := hL.front 2 rfl rfl
  exact ⟨rfl, hL⟩
end Go.Proofs.YtcaffacganffjaaDoor
end
