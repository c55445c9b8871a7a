/- The walks of a part of the program: GRoot. Printed by a program of the prover. -/
import Derived.Test.YtcaffacganffjaaDoorVDig
import Derived.Test.YtcaffacganffjaaDoorVTypes
import Derived.Test.YtcaffacganffjaaDoorGTop
namespace Go.Proofs.YtcaffacganffjaaDoor
open Go Go.Vg


set_option maxRecDepth 100000 in
set_option maxHeartbeats 4000000 in
theorem root_arg (htw : TwiceOK Tryd.prog 30) (w : Int) (ls : List Leaf) (p : Option Addr) (len cap : Nat) (hw : widthB w = false) (w0 : World) (hK : KeysAt w0) (hsl : SlT w0 p len 64 leafC noLeaf ls) :
    Calls Tryd.prog 8 #[(vI w), (Value.slice p len cap)] w0 fun e w' => e = .returned (.tuple #[dv Dig.zero, vI 1]) ∧ Ext w0 w' := by
  refine c_enter (n := 27) (args := [(vI w), (Value.slice p len cap)]) Tryd.func8 rfl rfl (Nat.le_of_ble_eq_true rfl) rfl (fun a hT => ?_)
  simp only [List.zipIdx_cons, List.zipIdx_nil, List.map_cons, List.map_nil, Nat.reduceAdd] at hT
  have hL := Vg.Loc.refl [] w0
  have hlen : ls.length = len := hsl.1
  refine c_seq ?_
  refine c_region ?_
  refine l_do rfl ?_
  refine w_alloc hT hL (by decide) Tryd.ty24 ?_; clear hT hL; intro b1 a w1 hT hL hE hB
  refine l_q hT (q_assign hT rfl) rfl rfl (by decide) ?_; clear hT; intro a hT
  refine l_end ?_
  refine then_norm ?_
  refine c_seq ?_
  refine c_region ?_
  refine l_q hT (q_move hT rfl) rfl rfl (by decide) ?_; clear hT; intro a hT
  refine l_do rfl ?_
  refine w_callT (xs := [.tmp 10]) hT rfl (vs := [(vI w)]) rfl (args := #[(vI w)]) rfl Tryd.func18 rfl rfl (by decide) ((tNew_bad w hw _).mono ?_)
  rintro e w2 ⟨rfl, hX⟩
  refine ⟨_, rfl, ?_⟩; clear hT; intro a hT; replace hT : Tm 27 a ((11, (Value.tuple #[(Value.pointer none), (vI 1)])) :: _) := hT
  replace hL := hL.ext hX
  refine l_q hT (q_move hT rfl) rfl rfl (by decide) ?_; clear hT; intro a hT
  refine l_q hT (q_extract hT rfl rfl) rfl rfl (by decide) ?_; clear hT; intro a hT
  refine l_q hT (q_extract hT rfl rfl) rfl rfl (by decide) ?_; clear hT; intro a hT
  refine l_q hT (q_assign hT rfl) rfl rfl (by decide) ?_; clear hT; intro a hT
  refine l_q hT (q_assign hT rfl) rfl rfl (by decide) ?_; clear hT; intro a hT
  refine l_end ?_
  refine then_norm ?_
  refine c_seq ?_
  refine c_seq ?_
  refine c_region ?_
  refine l_q hT (q_move hT rfl) rfl rfl (by decide) ?_; clear hT; intro a hT
  refine l_q hT ((q_neq hT rfl rfl).b (b := true) rfl) rfl rfl (by decide) ?_; clear hT; intro a hT
  refine l_end ?_
  refine then_norm ?_
  refine c_true hT rfl rfl ?_
  refine c_seq ?_
  refine c_region ?_
  refine l_q hT (q_build (ps := []) (pv := []) (v := .agg (digC Dig.zero).toArray) hT rfl (fun _ => by kernel_rfl)) rfl rfl (by decide) ?_; clear hT; intro a hT
  refine l_q hT (q_move hT rfl) rfl rfl (by decide) ?_; clear hT; intro a hT
  refine l_do rfl ?_
  refine w_store hT hL 0 (c := digC Dig.zero) rfl rfl Tryd.ty24 rfl (vs := digC Dig.zero) rfl rfl (by first | decide | (simp [arr32_len, arr8_len, digC_len]; done) | (simp [arr32_len, arr8_len, digC_len]; omega)) rfl (c' := digC Dig.zero) rfl ?_; clear hL; intro w3 hL hE
  replace hL : Vg.Loc [] w0 w3 ([[(b1, ob (digC Dig.zero) 24)]]) := hL
  refine l_q hT (q_assign hT rfl) rfl rfl (by decide) ?_; clear hT; intro a hT
  refine l_end ?_
  refine then_norm ?_
  refine wp_ret ?_
  refine then_ret ?_
  refine c_ret (vs := [(Value.agg (digC Dig.zero).toArray), (vI 1)]) (rs := [.cell 4 24, .tmp 5]) hT rfl (.agg rfl Tryd.ty24 (hL.rd 0 rfl 0 (ds := digC Dig.zero) rfl) rfl (.tmp rfl .nil)) ?_
  exact ⟨rfl, hL.drop⟩

set_option maxRecDepth 100000 in
set_option maxHeartbeats 4000000 in
theorem root_limit (htw : TwiceOK Tryd.prog 30) (w : Int) (ls : List Leaf) (p : Option Addr) (len cap : Nat) (hw : widthB w = true) (hc : 4096 < len) (w0 : World) (hK : KeysAt w0) (hsl : SlT w0 p len 64 leafC noLeaf ls) :
    Calls Tryd.prog 8 #[(vI w), (Value.slice p len cap)] w0 fun e w' => e = .returned (.tuple #[dv Dig.zero, vI 2]) ∧ Ext w0 w' := by
  refine c_enter (n := 27) (args := [(vI w), (Value.slice p len cap)]) Tryd.func8 rfl rfl (Nat.le_of_ble_eq_true rfl) rfl (fun a hT => ?_)
  simp only [List.zipIdx_cons, List.zipIdx_nil, List.map_cons, List.map_nil, Nat.reduceAdd] at hT
  have hL := Vg.Loc.refl [] w0
  have hlen : ls.length = len := hsl.1
  refine c_seq ?_
  refine c_region ?_
  refine l_do rfl ?_
  refine w_alloc hT hL (by decide) Tryd.ty24 ?_; clear hT hL; intro b1 a w1 hT hL hE hB
  refine l_q hT (q_assign hT rfl) rfl rfl (by decide) ?_; clear hT; intro a hT
  refine l_end ?_
  refine then_norm ?_
  refine c_seq ?_
  refine c_region ?_
  refine l_q hT (q_move hT rfl) rfl rfl (by decide) ?_; clear hT; intro a hT
  refine l_do rfl ?_
  refine w_callT (xs := [.tmp 10]) hT rfl (vs := [(vI w)]) rfl (args := #[(vI w)]) rfl Tryd.func18 rfl rfl (by decide) ((tNew_ok w hw _).mono ?_)
  rintro e w2 ⟨bt1, rfl, hX⟩
  refine ⟨_, rfl, ?_⟩; clear hT; intro a hT; replace hT : Tm 27 a ((11, (Value.tuple #[(vp bt1 0), (vI 0)])) :: _) := hT
  replace hL : Vg.Loc [] w0 w2 ([[(bt1, ob [(vI w), (vI 0), (Value.pointer none)] 65)], [(b1, ob (digC Dig.zero) 24)]]) := hL.exts hX
  refine l_q hT (q_move hT rfl) rfl rfl (by decide) ?_; clear hT; intro a hT
  refine l_q hT (q_extract hT rfl rfl) rfl rfl (by decide) ?_; clear hT; intro a hT
  refine l_q hT (q_extract hT rfl rfl) rfl rfl (by decide) ?_; clear hT; intro a hT
  refine l_q hT (q_assign hT rfl) rfl rfl (by decide) ?_; clear hT; intro a hT
  refine l_q hT (q_assign hT rfl) rfl rfl (by decide) ?_; clear hT; intro a hT
  refine l_end ?_
  refine then_norm ?_
  refine c_seq ?_
  refine c_seq ?_
  refine c_region ?_
  refine l_q hT (q_move hT rfl) rfl rfl (by decide) ?_; clear hT; intro a hT
  refine l_q hT ((q_neq hT rfl rfl).b (b := false) rfl) rfl rfl (by decide) ?_; clear hT; intro a hT
  refine l_end ?_
  refine then_norm ?_
  refine c_false hT rfl rfl ?_
  refine wp_skip ?_
  refine then_norm ?_
  refine c_seq ?_
  refine c_seq ?_
  refine c_region ?_
  refine l_q hT (q_move hT rfl) rfl rfl (by decide) ?_; clear hT; intro a hT
  refine l_q hT (q_move hT rfl) rfl rfl (by decide) ?_; clear hT; intro a hT
  refine l_do rfl ?_
  refine w_callT (xs := [.tmp 18, .tmp 19]) hT rfl (vs := [(vp bt1 0), (Value.slice p len cap)]) rfl (args := #[(vp bt1 0), (Value.slice p len cap)]) rfl Tryd.func19 rfl rfl (by decide) ((Set_limit htw bt1 w ls p len cap hc _ (hsl.ext hL) (fun h0 ad hp hm => by simp at hm; obtain ⟨b9, o9, hp9, hr9⟩ := hsl.2 h0; have h8 := (hr9 0 h0).lt; rw [hp] at hp9; cases hp9; have := hL.fresh 0 rfl; simp only at hm; omega) (hL.get 0 rfl)).mono ?_)
  rintro e w3 ⟨rfl, hX⟩
  refine ⟨_, rfl, ?_⟩; clear hT; intro a hT; replace hT : Tm 27 a ((20, (vI 2)) :: _) := hT
  replace hL : Vg.Loc [] w0 w3 ([[(b1, ob (digC Dig.zero) 24)]]) := Vg.Loc.call (ci := [[(bt1, ob [(vI w), (vI 0), (Value.pointer none)] 65)]]) (cr := [[(b1, ob (digC Dig.zero) 24)]]) hL hX
  refine l_q hT (q_assign hT rfl) rfl rfl (by decide) ?_; clear hT; intro a hT
  refine l_end ?_
  refine then_norm ?_
  refine c_seq ?_
  refine c_region ?_
  refine l_q hT (q_move hT rfl) rfl rfl (by decide) ?_; clear hT; intro a hT
  refine l_q hT ((q_neq hT rfl rfl).b (b := true) rfl) rfl rfl (by decide) ?_; clear hT; intro a hT
  refine l_end ?_
  refine then_norm ?_
  refine c_true hT rfl rfl ?_
  refine c_seq ?_
  refine c_region ?_
  refine l_q hT (q_build (ps := []) (pv := []) (v := .agg (digC Dig.zero).toArray) hT rfl (fun _ => by kernel_rfl)) rfl rfl (by decide) ?_; clear hT; intro a hT
  refine l_q hT (q_move hT rfl) rfl rfl (by decide) ?_; clear hT; intro a hT
  refine l_do rfl ?_
  refine w_store hT hL 0 (c := digC Dig.zero) rfl rfl Tryd.ty24 rfl (vs := digC Dig.zero) rfl rfl (by first | decide | (simp [arr32_len, arr8_len, digC_len]; done) | (simp [arr32_len, arr8_len, digC_len]; omega)) rfl (c' := digC Dig.zero) rfl ?_; clear hL; intro w4 hL hE
  replace hL : Vg.Loc [] w0 w4 ([[(b1, ob (digC Dig.zero) 24)]]) := hL
  refine l_q hT (q_assign hT rfl) rfl rfl (by decide) ?_; clear hT; intro a hT
  refine l_end ?_
  refine then_norm ?_
  refine wp_ret ?_
  refine then_ret ?_
  refine c_ret (vs := [(Value.agg (digC Dig.zero).toArray), (vI 2)]) (rs := [.cell 4 24, .tmp 5]) hT rfl (.agg rfl Tryd.ty24 (hL.rd 0 rfl 0 (ds := digC Dig.zero) rfl) rfl (.tmp rfl .nil)) ?_
  exact ⟨rfl, hL.drop⟩

set_option maxRecDepth 100000 in
set_option maxHeartbeats 4000000 in
theorem root_twice (htw : TwiceOK Tryd.prog 30) (w : Int) (ls : List Leaf) (p : Option Addr) (len cap : Nat) (hw : widthB w = true) (hc : len ≤ 4096) (htt : twins ls = true) (w0 : World) (hK : KeysAt w0) (hsl : SlT w0 p len 64 leafC noLeaf ls) :
    Calls Tryd.prog 8 #[(vI w), (Value.slice p len cap)] w0 fun e w' => e = .returned (.tuple #[dv Dig.zero, vI 30]) ∧ Ext w0 w' := by
  refine c_enter (n := 27) (args := [(vI w), (Value.slice p len cap)]) Tryd.func8 rfl rfl (Nat.le_of_ble_eq_true rfl) rfl (fun a hT => ?_)
  simp only [List.zipIdx_cons, List.zipIdx_nil, List.map_cons, List.map_nil, Nat.reduceAdd] at hT
  have hL := Vg.Loc.refl [] w0
  have hlen : ls.length = len := hsl.1
  refine c_seq ?_
  refine c_region ?_
  refine l_do rfl ?_
  refine w_alloc hT hL (by decide) Tryd.ty24 ?_; clear hT hL; intro b1 a w1 hT hL hE hB
  refine l_q hT (q_assign hT rfl) rfl rfl (by decide) ?_; clear hT; intro a hT
  refine l_end ?_
  refine then_norm ?_
  refine c_seq ?_
  refine c_region ?_
  refine l_q hT (q_move hT rfl) rfl rfl (by decide) ?_; clear hT; intro a hT
  refine l_do rfl ?_
  refine w_callT (xs := [.tmp 10]) hT rfl (vs := [(vI w)]) rfl (args := #[(vI w)]) rfl Tryd.func18 rfl rfl (by decide) ((tNew_ok w hw _).mono ?_)
  rintro e w2 ⟨bt1, rfl, hX⟩
  refine ⟨_, rfl, ?_⟩; clear hT; intro a hT; replace hT : Tm 27 a ((11, (Value.tuple #[(vp bt1 0), (vI 0)])) :: _) := hT
  replace hL : Vg.Loc [] w0 w2 ([[(bt1, ob [(vI w), (vI 0), (Value.pointer none)] 65)], [(b1, ob (digC Dig.zero) 24)]]) := hL.exts hX
  refine l_q hT (q_move hT rfl) rfl rfl (by decide) ?_; clear hT; intro a hT
  refine l_q hT (q_extract hT rfl rfl) rfl rfl (by decide) ?_; clear hT; intro a hT
  refine l_q hT (q_extract hT rfl rfl) rfl rfl (by decide) ?_; clear hT; intro a hT
  refine l_q hT (q_assign hT rfl) rfl rfl (by decide) ?_; clear hT; intro a hT
  refine l_q hT (q_assign hT rfl) rfl rfl (by decide) ?_; clear hT; intro a hT
  refine l_end ?_
  refine then_norm ?_
  refine c_seq ?_
  refine c_seq ?_
  refine c_region ?_
  refine l_q hT (q_move hT rfl) rfl rfl (by decide) ?_; clear hT; intro a hT
  refine l_q hT ((q_neq hT rfl rfl).b (b := false) rfl) rfl rfl (by decide) ?_; clear hT; intro a hT
  refine l_end ?_
  refine then_norm ?_
  refine c_false hT rfl rfl ?_
  refine wp_skip ?_
  refine then_norm ?_
  refine c_seq ?_
  refine c_seq ?_
  refine c_region ?_
  refine l_q hT (q_move hT rfl) rfl rfl (by decide) ?_; clear hT; intro a hT
  refine l_q hT (q_move hT rfl) rfl rfl (by decide) ?_; clear hT; intro a hT
  refine l_do rfl ?_
  refine w_callT (xs := [.tmp 18, .tmp 19]) hT rfl (vs := [(vp bt1 0), (Value.slice p len cap)]) rfl (args := #[(vp bt1 0), (Value.slice p len cap)]) rfl Tryd.func19 rfl rfl (by decide) ((Set_twice htw bt1 w ls p len cap hc htt _ (hsl.ext hL) (fun h0 ad hp hm => by simp at hm; obtain ⟨b9, o9, hp9, hr9⟩ := hsl.2 h0; have h8 := (hr9 0 h0).lt; rw [hp] at hp9; cases hp9; have := hL.fresh 0 rfl; simp only at hm; omega) (hL.get 0 rfl)).mono ?_)
  rintro e w3 ⟨rfl, hX⟩
  refine ⟨_, rfl, ?_⟩; clear hT; intro a hT; replace hT : Tm 27 a ((20, (vI 30)) :: _) := hT
  replace hL : Vg.Loc [] w0 w3 ([[(b1, ob (digC Dig.zero) 24)]]) := Vg.Loc.call (ci := [[(bt1, ob [(vI w), (vI 0), (Value.pointer none)] 65)]]) (cr := [[(b1, ob (digC Dig.zero) 24)]]) hL hX
  refine l_q hT (q_assign hT rfl) rfl rfl (by decide) ?_; clear hT; intro a hT
  refine l_end ?_
  refine then_norm ?_
  refine c_seq ?_
  refine c_region ?_
  refine l_q hT (q_move hT rfl) rfl rfl (by decide) ?_; clear hT; intro a hT
  refine l_q hT ((q_neq hT rfl rfl).b (b := true) rfl) rfl rfl (by decide) ?_; clear hT; intro a hT
  refine l_end ?_
  refine then_norm ?_
  refine c_true hT rfl rfl ?_
  refine c_seq ?_
  refine c_region ?_
  refine l_q hT (q_build (ps := []) (pv := []) (v := .agg (digC Dig.zero).toArray) hT rfl (fun _ => by kernel_rfl)) rfl rfl (by decide) ?_; clear hT; intro a hT
  refine l_q hT (q_move hT rfl) rfl rfl (by decide) ?_; clear hT; intro a hT
  refine l_do rfl ?_
  refine w_store hT hL 0 (c := digC Dig.zero) rfl rfl Tryd.ty24 rfl (vs := digC Dig.zero) rfl rfl (by first | decide | (simp [arr32_len, arr8_len, digC_len]; done) | (simp [arr32_len, arr8_len, digC_len]; omega)) rfl (c' := digC Dig.zero) rfl ?_; clear hL; intro w4 hL hE
  replace hL : Vg.Loc [] w0 w4 ([[(b1, ob (digC Dig.zero) 24)]]) := hL
  refine l_q hT (q_assign hT rfl) rfl rfl (by decide) ?_; clear hT; intro a hT
  refine l_end ?_
  refine then_norm ?_
  refine wp_ret ?_
  refine then_ret ?_
  refine c_ret (vs := [(Value.agg (digC Dig.zero).toArray), (vI 30)]) (rs := [.cell 4 24, .tmp 5]) hT rfl (.agg rfl Tryd.ty24 (hL.rd 0 rfl 0 (ds := digC Dig.zero) rfl) rfl (.tmp rfl .nil)) ?_
  exact ⟨rfl, hL.drop⟩

set_option maxRecDepth 100000 in
set_option maxHeartbeats 4000000 in
theorem root_ok (htw : TwiceOK Tryd.prog 30) (w : Int) (ls : List Leaf) (p : Option Addr) (len cap : Nat) (hw : widthB w = true) (hc : len ≤ 4096) (htt : twins ls = false) (w0 : World) (hK : KeysAt w0) (hsl : SlT w0 p len 64 leafC noLeaf ls) :
    Calls Tryd.prog 8 #[(vI w), (Value.slice p len cap)] w0 fun e w' => e = .returned (.tuple #[dv (dg w 257 ls.reverse 0), vI 0]) ∧ Ext w0 w' := by
  refine c_enter (n := 27) (args := [(vI w), (Value.slice p len cap)]) Tryd.func8 rfl rfl (Nat.le_of_ble_eq_true rfl) rfl (fun a hT => ?_)
  simp only [List.zipIdx_cons, List.zipIdx_nil, List.map_cons, List.map_nil, Nat.reduceAdd] at hT
  have hL := Vg.Loc.refl [] w0
  have hlen : ls.length = len := hsl.1
  refine c_seq ?_
  refine c_region ?_
  refine l_do rfl ?_
  refine w_alloc hT hL (by decide) Tryd.ty24 ?_; clear hT hL; intro b1 a w1 hT hL hE hB
  refine l_q hT (q_assign hT rfl) rfl rfl (by decide) ?_; clear hT; intro a hT
  refine l_end ?_
  refine then_norm ?_
  refine c_seq ?_
  refine c_region ?_
  refine l_q hT (q_move hT rfl) rfl rfl (by decide) ?_; clear hT; intro a hT
  refine l_do rfl ?_
  refine w_callT (xs := [.tmp 10]) hT rfl (vs := [(vI w)]) rfl (args := #[(vI w)]) rfl Tryd.func18 rfl rfl (by decide) ((tNew_ok w hw _).mono ?_)
  rintro e w2 ⟨bt1, rfl, hX⟩
  refine ⟨_, rfl, ?_⟩; clear hT; intro a hT; replace hT : Tm 27 a ((11, (Value.tuple #[(vp bt1 0), (vI 0)])) :: _) := hT
  replace hL : Vg.Loc [] w0 w2 ([[(bt1, ob [(vI w), (vI 0), (Value.pointer none)] 65)], [(b1, ob (digC Dig.zero) 24)]]) := hL.exts hX
  refine l_q hT (q_move hT rfl) rfl rfl (by decide) ?_; clear hT; intro a hT
  refine l_q hT (q_extract hT rfl rfl) rfl rfl (by decide) ?_; clear hT; intro a hT
  refine l_q hT (q_extract hT rfl rfl) rfl rfl (by decide) ?_; clear hT; intro a hT
  refine l_q hT (q_assign hT rfl) rfl rfl (by decide) ?_; clear hT; intro a hT
  refine l_q hT (q_assign hT rfl) rfl rfl (by decide) ?_; clear hT; intro a hT
  refine l_end ?_
  refine then_norm ?_
  refine c_seq ?_
  refine c_seq ?_
  refine c_region ?_
  refine l_q hT (q_move hT rfl) rfl rfl (by decide) ?_; clear hT; intro a hT
  refine l_q hT ((q_neq hT rfl rfl).b (b := false) rfl) rfl rfl (by decide) ?_; clear hT; intro a hT
  refine l_end ?_
  refine then_norm ?_
  refine c_false hT rfl rfl ?_
  refine wp_skip ?_
  refine then_norm ?_
  refine c_seq ?_
  refine c_seq ?_
  refine c_region ?_
  refine l_q hT (q_move hT rfl) rfl rfl (by decide) ?_; clear hT; intro a hT
  refine l_q hT (q_move hT rfl) rfl rfl (by decide) ?_; clear hT; intro a hT
  refine l_do rfl ?_
  refine w_callT (xs := [.tmp 18, .tmp 19]) hT rfl (vs := [(vp bt1 0), (Value.slice p len cap)]) rfl (args := #[(vp bt1 0), (Value.slice p len cap)]) rfl Tryd.func19 rfl rfl (by decide) ((Set_ok htw bt1 w ls p len cap hc htt _ (hsl.ext hL) (fun h0 ad hp hm => by simp at hm; obtain ⟨b9, o9, hp9, hr9⟩ := hsl.2 h0; have h8 := (hr9 0 h0).lt; rw [hp] at hp9; cases hp9; have := hL.fresh 0 rfl; simp only at hm; omega) (hL.get 0 rfl)).mono ?_)
  rintro e w3 ⟨t1, rfl, hX, hrep1⟩
  refine ⟨_, rfl, ?_⟩; clear hT; intro a hT; replace hT : Tm 27 a ((20, (vI 0)) :: _) := hT
  replace hL : Vg.Loc [] w0 w3 ([[(bt1, ob [(vI w), (vI (len : Int)), (Value.pointer t1.ad)] 65)], t1.ents 98, [(b1, ob (digC Dig.zero) 24)]]) := Vg.Loc.call (ci := [[(bt1, ob [(vI w), (vI 0), (Value.pointer none)] 65)]]) (cr := [[(b1, ob (digC Dig.zero) 24)]]) hL hX
  refine l_q hT (q_assign hT rfl) rfl rfl (by decide) ?_; clear hT; intro a hT
  refine l_end ?_
  refine then_norm ?_
  refine c_seq ?_
  refine c_region ?_
  refine l_q hT (q_move hT rfl) rfl rfl (by decide) ?_; clear hT; intro a hT
  refine l_q hT ((q_neq hT rfl rfl).b (b := false) rfl) rfl rfl (by decide) ?_; clear hT; intro a hT
  refine l_end ?_
  refine then_norm ?_
  refine c_false hT rfl rfl ?_
  refine wp_skip ?_
  refine then_norm ?_
  refine c_seq ?_
  refine c_region ?_
  refine l_q hT (q_move hT rfl) rfl rfl (by decide) ?_; clear hT; intro a hT
  refine l_do rfl ?_
  replace hL : Vg.Loc [] w0 w3 ([t1.ents 98, [(bt1, ob [(vI w), (vI (len : Int)), (Value.pointer t1.ad)] 65)], [(b1, ob (digC Dig.zero) 24)]]) := hL.front 1 rfl rfl
  refine w_callT (xs := [.tmp 25]) hT rfl (vs := [(vp bt1 0)]) rfl (args := #[(vp bt1 0)]) rfl Tryd.func20 rfl rfl (by decide) ((tRoot_spec bt1 w (len : Int) t1 (dig_ok w t1 _ _ hrep1) _ (KeysAt.of hK hL (by simp)) (hL.zero_app (ci := [t1.ents 98]) hK.lt (by simp)) (hL.rd 1 rfl 0 rfl) (hL.apart0 (i := 0) rfl) (Vg.Loc.self (cs := [t1.ents 98]) hL)).mono ?_)
  rintro e w4 ⟨rfl, hX⟩
  refine ⟨_, rfl, ?_⟩; clear hT; intro a hT; replace hT : Tm 27 a ((26, (Value.agg (digC (t1.dig w)).toArray)) :: _) := hT
  replace hL : Vg.Loc [] w0 w4 ([[(bt1, ob [(vI w), (vI (len : Int)), (Value.pointer t1.ad)] 65)], [(b1, ob (digC Dig.zero) 24)]]) := Vg.Loc.call (ci := [t1.ents 98]) (cr := [[(bt1, ob [(vI w), (vI (len : Int)), (Value.pointer t1.ad)] 65)], [(b1, ob (digC Dig.zero) 24)]]) hL hX
  refine l_do rfl ?_
  refine w_store hT hL 1 (c := digC Dig.zero) rfl rfl Tryd.ty24 rfl (vs := digC (t1.dig w)) rfl rfl (by first | decide | (simp [arr32_len, arr8_len, digC_len]; done) | (simp [arr32_len, arr8_len, digC_len]; omega)) rfl (c' := digC (t1.dig w)) rfl ?_; clear hL; intro w5 hL hE
  replace hL : Vg.Loc [] w0 w5 ([[(bt1, ob [(vI w), (vI (len : Int)), (Value.pointer t1.ad)] 65)], [(b1, ob (digC (t1.dig w)) 24)]]) := hL
  refine l_q hT (q_assign hT rfl) rfl rfl (by decide) ?_; clear hT; intro a hT
  refine l_end ?_
  refine then_norm ?_
  refine wp_ret ?_
  refine c_ret (vs := [(Value.agg (digC (t1.dig w)).toArray), (vI 0)]) (rs := [.cell 4 24, .tmp 5]) hT rfl (.agg rfl Tryd.ty24 (hL.rd 1 rfl 0 (ds := digC (t1.dig w)) rfl) rfl (.tmp rfl .nil)) ?_
  exact ⟨by simp only [packed, Rep.dig t1 _ _ 257 hrep1 (by have := twins_good htt len; rwa [List.take_of_length_le (by omega)] at this) (by omega) (by omega)], hL.drop⟩

theorem root_spec (htw : TwiceOK Tryd.prog 30) (w : Int) (ls : List Leaf) (p : Option Addr) (len cap : Nat) (w0 : World) (hK : KeysAt w0) (hsl : SlT w0 p len 64 leafC noLeaf ls) :
    Calls Tryd.prog 8 #[vI w, .slice p len cap] w0 fun e w' => e = .returned (.tuple #[dv (rootD w ls), vI (rootE w ls)]) ∧ Ext w0 w' := by
  have hlen : ls.length = len := hsl.1
  unfold rootD rootE
  rw [hlen]
  by_cases hw : widthB w = false
  · rw [if_pos hw, if_neg (by decide)]; exact root_arg htw w ls p len cap hw w0 hK hsl
  · have hw1 : widthB w = true := by simpa using hw
    rw [if_neg hw]
    by_cases hc : 4096 < len
    · rw [if_pos hc, if_neg (by decide)]; exact root_limit htw w ls p len cap hw1 hc w0 hK hsl
    · rw [if_neg hc]
      by_cases htt : twins ls = true
      · rw [if_pos htt, if_neg (by decide)]; exact root_twice htw w ls p len cap hw1 (by omega) htt w0 hK hsl
      · rw [if_neg htt, if_pos rfl]; exact root_ok htw w ls p len cap hw1 (by omega) (by simpa using htt) w0 hK hsl

end Go.Proofs.YtcaffacganffjaaDoor
