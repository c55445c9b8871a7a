/- The walks of a part of the program: GOnce2. Printed by a program of the prover. -/
import Derived.Test.YtcaffacganffjaaDoorVDig
import Derived.Test.YtcaffacganffjaaDoorVTypes
import Derived.Test.YtcaffacganffjaaDoorGOnce
namespace Go.Proofs.YtcaffacganffjaaDoor
open Go Go.Vg


set_option maxRecDepth 20000 in
set_option maxHeartbeats 1000000 in
theorem doSlow_spec (b kb wb : Nat) (d' : Dig) (l : Leaf) (p q : Option Addr) (cs cs' : List Chunk) (w0 : World) (hL0 : Vg.Loc (b :: keys cs) w0 w0 ([[(b, ob ([(v32 0), (Value.int .i32 0), (v32 0)] ++ (digC Dig.zero ++ (digC l.p ++ (digC l.v ++ ([(Value.pointer p), (Value.pointer q)]))))) 98)]] ++ cs)) (hf : ∀ w1, Vg.Loc (b :: keys cs) w0 w1 ([[(b, ob ([(v32 0), (Value.int .i32 1), (v32 0)] ++ (digC Dig.zero ++ (digC l.p ++ (digC l.v ++ ([(Value.pointer p), (Value.pointer q)]))))) 98)]] ++ cs) → Calls Tryd.prog 48 #[vp kb 0, vp wb 0] w1 fun e w2 => e = .returned (.tuple #[]) ∧ Vg.Loc (b :: keys cs) w1 w2 ([[(b, ob ([(v32 0), (Value.int .i32 1), (v32 0)] ++ (digC d' ++ (digC l.p ++ (digC l.v ++ ([(Value.pointer p), (Value.pointer q)]))))) 98)]] ++ cs')) :
    Calls Tryd.prog 59 #[(vp b 0), (Value.func (Fn.func 48) #[] #[(vp kb 0), (vp wb 0)])] w0 fun e w' => e = .returned (.tuple #[]) ∧ Vg.Loc (b :: keys cs) w0 w' ([[(b, ob ([(v32 1), (Value.int .i32 0), (v32 0)] ++ (digC d' ++ (digC l.p ++ (digC l.v ++ ([(Value.pointer p), (Value.pointer q)]))))) 98)]] ++ cs') := by
  refine c_enter_defers (n := 21) (args := [(vp b 0), (Value.func (Fn.func 48) #[] #[(vp kb 0), (vp wb 0)])]) Tryd.func59 rfl rfl (Nat.le_of_ble_eq_true rfl) rfl (fun a hT => ?_)
  simp only [List.zipIdx_cons, List.zipIdx_nil, List.map_cons, List.map_nil, Nat.reduceAdd] at hT
  have hL := hL0
  refine c_seq ?_
  refine c_region ?_
  refine l_q hT (q_move hT rfl) rfl rfl (by decide) ?_; clear hT; intro a hT
  refine l_q hT (q_nilCheck hT rfl) rfl rfl (by decide) ?_; clear hT; intro a hT
  refine l_q hT (q_fieldAddr hT rfl Tryd.fld94_2 rfl) rfl rfl (by decide) ?_; clear hT; intro a hT
  refine l_do rfl ?_
  refine w_callT (xs := [.tmp 6]) hT rfl (vs := [(vp b 1)]) rfl (args := #[(vp b 1)]) rfl Tryd.func74 rfl rfl (by decide) ((lock_spec b 0 Dig.zero l p q _ (hL.get 0 rfl)).mono ?_)
  rintro e w1 ⟨rfl, hX⟩
  refine ⟨_, rfl, ?_⟩; clear hT; intro a hT; replace hT : Tm 21 a ((7, (Value.tuple #[])) :: _) := hT
  replace hL : Vg.Loc (b :: keys cs) w0 w1 ([[(b, ob ([(v32 0), (Value.int .i32 1), (v32 0)] ++ (digC Dig.zero ++ (digC l.p ++ (digC l.v ++ ([(Value.pointer p), (Value.pointer q)]))))) 98)]] ++ cs) := Vg.Loc.call (ci := [[(b, ob ([(v32 0), (Value.int .i32 0), (v32 0)] ++ (digC Dig.zero ++ (digC l.p ++ (digC l.v ++ ([(Value.pointer p), (Value.pointer q)]))))) 98)]]) (cr := cs) hL hX
  refine l_end ?_
  refine then_norm ?_
  refine c_seq ?_
  refine c_region ?_
  refine l_q hT (q_move hT rfl) rfl rfl (by decide) ?_; clear hT; intro a hT
  refine l_q hT (q_nilCheck hT rfl) rfl rfl (by decide) ?_; clear hT; intro a hT
  refine l_q hT (q_fieldAddr hT rfl Tryd.fld94_2 rfl) rfl rfl (by decide) ?_; clear hT; intro a hT
  refine l_do rfl ?_
  refine w_defer (xs := [.tmp 10]) hT rfl (vs := [(vp b 1)]) rfl (args := #[(vp b 1)]) rfl ?_; clear hT; intro a hT
  refine l_end ?_
  refine then_norm ?_
  refine c_seq ?_
  refine c_region ?_
  refine l_q hT (q_move hT rfl) rfl rfl (Nat.le_of_ble_eq_true rfl) ?_; clear hT; intro a hT
  refine l_q hT (q_nilCheck hT rfl) rfl rfl (Nat.le_of_ble_eq_true rfl) ?_; clear hT; intro a hT
  refine l_q hT (q_fieldAddr hT rfl Tryd.fld94_1 rfl) rfl rfl (Nat.le_of_ble_eq_true rfl) ?_; clear hT; intro a hT
  refine l_do rfl ?_
  refine w_callT (xs := [.tmp 13]) hT rfl (vs := [(vp b 0)]) rfl (args := #[(vp b 0)]) rfl Tryd.func58 rfl rfl (Nat.le_of_ble_eq_true rfl) ((bload_spec b _ (hL.rd 0 rfl 0 rfl)).mono ?_)
  rintro e w2 ⟨rfl, hX⟩
  refine ⟨_, rfl, ?_⟩; clear hT; intro a hT; replace hT : Tm _ a ((14, (Value.bool false)) :: _) := hT
  replace hL := hL.ext hX
  refine l_q hT ((q_not hT rfl).b rfl) rfl rfl (Nat.le_of_ble_eq_true rfl) ?_; clear hT; intro a hT
  refine l_end ?_
  refine then_norm ?_
  refine c_true hT rfl rfl ?_
  refine c_seq ?_
  refine c_region ?_
  refine l_q hT (q_move hT rfl) rfl rfl (Nat.le_of_ble_eq_true rfl) ?_; clear hT; intro a hT
  refine l_q hT (q_nilCheck hT rfl) rfl rfl (Nat.le_of_ble_eq_true rfl) ?_; clear hT; intro a hT
  refine l_q hT (q_fieldAddr hT rfl Tryd.fld94_1 rfl) rfl rfl (Nat.le_of_ble_eq_true rfl) ?_; clear hT; intro a hT
  refine l_do rfl ?_
  refine w_defer (xs := [.tmp 18, .const (.bool true)]) hT rfl (vs := [(vp b 0), (Value.bool true)]) rfl (args := #[(vp b 0), (Value.bool true)]) rfl ?_; clear hT; intro a hT
  refine l_end ?_
  refine then_norm ?_
  refine c_region ?_
  refine l_q hT (q_move hT rfl) rfl rfl (Nat.le_of_ble_eq_true rfl) ?_; clear hT; intro a hT
  refine l_do rfl ?_
  refine w_callT (xs := []) hT rfl (vs := []) rfl (args := #[(vp kb 0), (vp wb 0)]) rfl Tryd.func48 rfl rfl (Nat.le_of_ble_eq_true rfl) ((hf _ hL).mono ?_)
  rintro e w3 ⟨rfl, hX⟩
  refine ⟨_, rfl, ?_⟩; clear hT; intro a hT; replace hT : Tm _ a ((20, (Value.tuple #[])) :: _) := hT
  replace hL := Vg.Loc.call_all hL hX
  replace hL : Vg.Loc (b :: keys cs) w0 w3 ([[(b, ob ([(v32 0), (Value.int .i32 1), (v32 0)] ++ (digC d' ++ (digC l.p ++ (digC l.v ++ ([(Value.pointer p), (Value.pointer q)]))))) 98)]] ++ cs') := hL
  refine l_end ?_
  refine c_door hT rfl (fun a hT => ?_)
  refine leaves_cons (f := 76) (args := #[vp b 0, .bool true]) (by simp) (by simp [go_sem]) ?_
  refine (bstore_spec b 0 d' l p q .returning _ (hL.get 0 rfl)).mono ?_
  rintro e u' w8 ⟨rfl, rfl, hX⟩
  replace hL : Vg.Loc (b :: keys cs) w0 w8 ([[(b, ob ([(v32 1), (Value.int .i32 1), (v32 0)] ++ (digC d' ++ (digC l.p ++ (digC l.v ++ ([(Value.pointer p), (Value.pointer q)]))))) 98)]] ++ cs') := Vg.Loc.call (ci := [[(b, ob ([(v32 0), (Value.int .i32 1), (v32 0)] ++ (digC d' ++ (digC l.p ++ (digC l.v ++ ([(Value.pointer p), (Value.pointer q)]))))) 98)]]) (cr := cs') hL hX
  refine leaves_cons (f := 75) (args := #[vp b 1]) (by simp [settle]) (by simp [go_sem]) ?_
  refine (unlock_spec b 1 d' l p q _ _ (hL.get 0 rfl)).mono ?_
  rintro e u' w9 ⟨rfl, rfl, hX⟩
  replace hL : Vg.Loc (b :: keys cs) w0 w9 ([[(b, ob ([(v32 1), (Value.int .i32 0), (v32 0)] ++ (digC d' ++ (digC l.p ++ (digC l.v ++ ([(Value.pointer p), (Value.pointer q)]))))) 98)]] ++ cs') := Vg.Loc.call (ci := [[(b, ob ([(v32 1), (Value.int .i32 1), (v32 0)] ++ (digC d' ++ (digC l.p ++ (digC l.v ++ ([(Value.pointer p), (Value.pointer q)]))))) 98)]]) (cr := cs') hL hX
  exact ⟨_, results_none rfl _ _ _, rfl, hL⟩

set_option maxRecDepth 20000 in
set_option maxHeartbeats 1000000 in
theorem Do_spec (b kb wb : Nat) (d' : Dig) (l : Leaf) (p q : Option Addr) (cs cs' : List Chunk) (w0 : World) (hL0 : Vg.Loc (b :: keys cs) w0 w0 ([[(b, ob ([(v32 0), (Value.int .i32 0), (v32 0)] ++ (digC Dig.zero ++ (digC l.p ++ (digC l.v ++ ([(Value.pointer p), (Value.pointer q)]))))) 98)]] ++ cs)) (hf : ∀ w1, Vg.Loc (b :: keys cs) w0 w1 ([[(b, ob ([(v32 0), (Value.int .i32 1), (v32 0)] ++ (digC Dig.zero ++ (digC l.p ++ (digC l.v ++ ([(Value.pointer p), (Value.pointer q)]))))) 98)]] ++ cs) → Calls Tryd.prog 48 #[vp kb 0, vp wb 0] w1 fun e w2 => e = .returned (.tuple #[]) ∧ Vg.Loc (b :: keys cs) w1 w2 ([[(b, ob ([(v32 0), (Value.int .i32 1), (v32 0)] ++ (digC d' ++ (digC l.p ++ (digC l.v ++ ([(Value.pointer p), (Value.pointer q)]))))) 98)]] ++ cs')) :
    Calls Tryd.prog 47 #[(vp b 0), (Value.func (Fn.func 48) #[] #[(vp kb 0), (vp wb 0)])] w0 fun e w' => e = .returned (.tuple #[]) ∧ Vg.Loc (b :: keys cs) w0 w' ([[(b, ob ([(v32 1), (Value.int .i32 0), (v32 0)] ++ (digC d' ++ (digC l.p ++ (digC l.v ++ ([(Value.pointer p), (Value.pointer q)]))))) 98)]] ++ cs') := by
  refine c_enter (n := 12) (args := [(vp b 0), (Value.func (Fn.func 48) #[] #[(vp kb 0), (vp wb 0)])]) Tryd.func47 rfl rfl (Nat.le_of_ble_eq_true rfl) rfl (fun a hT => ?_)
  simp only [List.zipIdx_cons, List.zipIdx_nil, List.map_cons, List.map_nil, Nat.reduceAdd] at hT
  have hL := hL0
  refine c_seq ?_
  refine c_region ?_
  refine l_q hT (q_move hT rfl) rfl rfl (by decide) ?_; clear hT; intro a hT
  refine l_q hT (q_nilCheck hT rfl) rfl rfl (by decide) ?_; clear hT; intro a hT
  refine l_q hT (q_fieldAddr hT rfl Tryd.fld94_1 rfl) rfl rfl (by decide) ?_; clear hT; intro a hT
  refine l_do rfl ?_
  refine w_callT (xs := [.tmp 6]) hT rfl (vs := [(vp b 0)]) rfl (args := #[(vp b 0)]) rfl Tryd.func58 rfl rfl (by decide) ((bload_spec b _ (hL.rd 0 rfl 0 rfl)).mono ?_)
  rintro e w1 ⟨rfl, hX⟩
  refine ⟨_, rfl, ?_⟩; clear hT; intro a hT; replace hT : Tm 12 a ((7, (Value.bool false)) :: _) := hT
  replace hL := hL.ext hX
  refine l_q hT ((q_not hT rfl).b rfl) rfl rfl (by decide) ?_; clear hT; intro a hT
  refine l_end ?_
  refine then_norm ?_
  refine c_true hT rfl rfl ?_
  refine c_region ?_
  refine l_q hT (q_move hT rfl) rfl rfl (by decide) ?_; clear hT; intro a hT
  refine l_q hT (q_move hT rfl) rfl rfl (by decide) ?_; clear hT; intro a hT
  refine l_do rfl ?_
  refine w_callT (xs := [.tmp 9, .tmp 10]) hT rfl (vs := [(vp b 0), (Value.func (Fn.func 48) #[] #[(vp kb 0), (vp wb 0)])]) rfl (args := #[(vp b 0), (Value.func (Fn.func 48) #[] #[(vp kb 0), (vp wb 0)])]) rfl Tryd.func59 rfl rfl (by decide) ((doSlow_spec b kb wb d' l p q cs cs' _ (Vg.Loc.self_all hL) (fun w2 h => hf w2 (Vg.Loc.call_all hL h))).mono ?_)
  rintro e w2 ⟨rfl, hX⟩
  refine ⟨_, rfl, ?_⟩; clear hT; intro a hT; replace hT : Tm 12 a ((11, (Value.tuple #[])) :: _) := hT
  replace hL := Vg.Loc.call_all hL hX
  replace hL : Vg.Loc (b :: keys cs) w0 w2 ([[(b, ob ([(v32 1), (Value.int .i32 0), (v32 0)] ++ (digC d' ++ (digC l.p ++ (digC l.v ++ ([(Value.pointer p), (Value.pointer q)]))))) 98)]] ++ cs') := hL
  refine l_end ?_
  refine c_fall (vs := []) (rs := []) hT rfl .nil ?_
  exact ⟨rfl, hL⟩
end Go.Proofs.YtcaffacganffjaaDoor
