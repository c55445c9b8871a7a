/- The walks of a part of the program: GTop. Printed by a program of the prover. -/
import Derived.Test.YtcaffacganffjaaDoorVDig
import Derived.Test.YtcaffacganffjaaDoorVTypes
import Derived.Test.YtcaffacganffjaaDoorGDig2
import Derived.Test.YtcaffacganffjaaDoorVTree2
namespace Go.Proofs.YtcaffacganffjaaDoor
open Go Go.Vg


set_option maxRecDepth 20000 in
set_option maxHeartbeats 1000000 in
theorem Get_none (b : Nat) (w n : Int) (d : Dig) (w0 : World) (hb : Rd w0 b 0 [vI w, vI n, .pointer none]) :
    Calls Tryd.prog 31 #[(vp b 0), (Value.agg (digC d).toArray)] w0 fun e w' => e = .returned (.tuple #[dv Dig.zero, .bool false]) ∧ Ext w0 w' := by
  refine c_enter (n := 47) (args := [(vp b 0), (Value.agg (digC d).toArray)]) Tryd.func31 rfl rfl (Nat.le_of_ble_eq_true rfl) rfl (fun a hT => ?_)
  simp only [List.zipIdx_cons, List.zipIdx_nil, List.map_cons, List.map_nil, Nat.reduceAdd] at hT
  have hL := Vg.Loc.refl [] w0
  refine c_seq ?_
  refine c_region ?_
  refine l_do rfl ?_
  refine w_box hT hL (by decide) rfl (c := digC d) rfl ?_; clear hT hL; intro b1 a w1 hT hL hE hB
  refine l_do rfl ?_
  refine w_alloc hT hL (by decide) Tryd.ty24 ?_; clear hT hL; intro b2 a w2 hT hL hE hB
  refine l_q hT (q_assign hT rfl) rfl rfl (by decide) ?_; clear hT; intro a hT
  refine l_end ?_
  refine then_norm ?_
  refine c_seq ?_
  refine c_seq ?_
  refine c_region ?_
  refine l_q hT (q_move hT rfl) rfl rfl (by decide) ?_; clear hT; intro a hT
  refine l_q hT ((q_eq_nil hT rfl rfl Tryd.underlying47).b (b := false) rfl) rfl rfl (by decide) ?_; clear hT; intro a hT
  refine l_end ?_
  refine then_norm ?_
  refine c_false hT rfl rfl ?_
  refine wp_skip ?_
  refine then_norm ?_
  refine c_seq ?_
  refine c_region ?_
  refine l_q hT (q_move hT rfl) rfl rfl (by decide) ?_; clear hT; intro a hT
  refine l_q hT (q_nilCheck hT rfl) rfl rfl (by decide) ?_; clear hT; intro a hT
  refine l_q hT (q_fieldAddr hT rfl Tryd.fld65_2 rfl) rfl rfl (by decide) ?_; clear hT; intro a hT
  refine l_q hT (q_load hT rfl Tryd.ty63 ((Rd.loc hb hL (by simp)).part 2 (ds := [(Value.pointer none)]) rfl)) rfl rfl (by decide) ?_; clear hT; intro a hT
  refine l_q hT (q_assign hT rfl) rfl rfl (by decide) ?_; clear hT; intro a hT
  refine l_end ?_
  refine then_norm ?_
  refine c_seq ?_
  refine c_seq ?_
  refine c_region ?_
  refine l_q hT (q_assign hT rfl) rfl rfl (by decide) ?_; clear hT; intro a hT
  refine l_end ?_
  refine then_norm ?_
  refine wp_block ?_
  refine c_loop (fun mz a wz => mz = 0 ∧ Tm 47 a [(3, (vp b1 0)), (4, (vp b2 0)), (5, (Value.bool false)), (6, (Value.pointer none)), (7, (vI 0))] ∧ Vg.Loc [] w0 wz [[(b2, ob (digC Dig.zero) 24)], [(b1, ob (digC d) 24)]]) id 0 ?_ ?_
  · exact ⟨rfl, hT.keep [3, 4, 5, 6, 7] rfl, hL⟩
  clear hT hL
  rintro mz a w3 ⟨rfl, hT, hL⟩
  refine c_seq ?_
  refine c_seq ?_
  refine c_region ?_
  refine l_q hT (q_move hT rfl) rfl rfl (by decide) ?_; clear hT; intro a hT
  refine l_do rfl ?_
  refine w_callT (xs := [.tmp 15]) hT rfl (vs := [(Value.pointer none)]) rfl (args := #[(Value.pointer none)]) rfl Tryd.func45 rfl rfl (by decide) ((inner_nil _).mono ?_)
  rintro e w4 ⟨rfl, hX⟩
  refine ⟨_, rfl, ?_⟩; clear hT; intro a hT; replace hT : Tm 47 a ((16, (Value.bool false)) :: _) := hT
  replace hL := hL.ext hX
  refine l_end ?_
  refine then_norm ?_
  refine c_false hT rfl rfl ?_
  refine wp_exit ?_
  refine then_exit ?_
  refine then_exit ?_
  refine blk_exit ?_
  refine then_norm ?_
  refine c_seq ?_
  refine c_seq ?_
  refine d_start' hL #[false, false, false, false, false, false, false, false, false, false, false] [] rfl rfl rfl ?_; clear hL; intro w5 hL hE; have hR := hL; have hS := Ext.refl w5
  refine d_pure (i := 0) hT #[true, false, false, false, false, false, false, false, false, false, false] rfl (by kernel_rfl) rfl rfl (by decide) (fun _ _ _ h => h) (fun _ => q_move hT rfl) ?_; clear hT; intro a hT
  refine d_pure (i := 1) hT #[true, true, false, false, false, false, false, false, false, false, false] rfl (by kernel_rfl) rfl rfl (by decide) (fun _ _ _ h => h) (fun _ => (q_eq_nil hT rfl rfl Tryd.underlying63).b (b := true) rfl) ?_; clear hT; intro a hT
  refine d_pure (i := 2) hT #[true, true, true, false, false, false, false, false, false, false, false] rfl (by kernel_rfl) rfl rfl (by decide) (fun _ _ _ h => h) (fun _ => q_move hT rfl) ?_; clear hT; intro a hT
  refine d_off (i := 3) hT #[true, true, true, true, false, false, false, false, false, false, false] rfl (by kernel_rfl) rfl rfl (by decide) (fun _ _ _ h => h) ?_; clear hT; intro a hT
  refine d_off (i := 4) hT #[true, true, true, true, true, false, false, false, false, false, false] rfl (by kernel_rfl) rfl rfl (by decide) (fun _ _ _ h => h) ?_; clear hT; intro a hT
  refine d_off (i := 5) hT #[true, true, true, true, true, true, false, false, false, false, false] rfl (by kernel_rfl) rfl rfl (by decide) (fun _ _ _ h => h) ?_; clear hT; intro a hT
  refine d_off (i := 6) hT #[true, true, true, true, true, true, true, false, false, false, false] rfl (by kernel_rfl) rfl rfl (by decide) (fun _ _ _ h => h) ?_; clear hT; intro a hT
  refine d_off (i := 7) hT #[true, true, true, true, true, true, true, true, false, false, false] rfl (by kernel_rfl) rfl rfl (by decide) (fun _ _ _ h => h) ?_; clear hT; intro a hT
  refine d_off (i := 8) hT #[true, true, true, true, true, true, true, true, true, false, false] rfl (by kernel_rfl) rfl rfl (by decide) (fun _ _ _ h => h) ?_; clear hT; intro a hT
  refine d_off (i := 9) hT #[true, true, true, true, true, true, true, true, true, true, false] rfl (by kernel_rfl) rfl rfl (by decide) (fun _ _ _ h => h) ?_; clear hT; intro a hT
  refine d_pure (i := 10) hT #[true, true, true, true, true, true, true, true, true, true, true] rfl (by kernel_rfl) rfl rfl (by decide) (fun _ _ _ h => h) (fun _ => (q_pick hT rfl rfl rfl).v (v := (Value.bool true)) rfl) ?_; clear hT; intro a hT
  refine d_done (by kernel_rfl) ?_; clear hR hS
  refine then_norm ?_
  refine c_true hT rfl rfl ?_
  refine c_seq ?_
  refine c_region ?_
  refine l_q hT (q_build (ps := []) (pv := []) (v := .agg (digC Dig.zero).toArray) hT rfl (fun _ => by kernel_rfl)) rfl rfl (by decide) ?_; clear hT; intro a hT
  refine l_do rfl ?_
  refine w_store hT hL 0 (c := digC Dig.zero) rfl rfl Tryd.ty24 rfl (vs := digC Dig.zero) rfl rfl (by first | decide | (simp [arr32_len, arr8_len, digC_len]; done) | (simp [arr32_len, arr8_len, digC_len]; omega)) rfl (c' := digC Dig.zero) rfl ?_; clear hL; intro w6 hL hE
  replace hL : Vg.Loc [] w0 w6 ([[(b2, ob (digC Dig.zero) 24)], [(b1, ob (digC d) 24)]]) := hL
  refine l_q hT (q_assign hT rfl) rfl rfl (by decide) ?_; clear hT; intro a hT
  refine l_end ?_
  refine then_norm ?_
  refine wp_ret ?_
  refine then_ret ?_
  refine c_ret (vs := [(Value.agg (digC Dig.zero).toArray), (Value.bool false)]) (rs := [.cell 4 24, .tmp 5]) hT rfl (.agg rfl Tryd.ty24 (hL.rd 0 rfl 0 (ds := digC Dig.zero) rfl) rfl (.tmp rfl .nil)) ?_
  exact ⟨rfl, hL.drop⟩

set_option maxRecDepth 20000 in
set_option maxHeartbeats 1000000 in
theorem tNew_bad (w : Int) (hw : widthB w = false) (w0 : World) :
    Calls Tryd.prog 18 #[(vI w)] w0 fun e w' => e = .returned (.tuple #[.pointer none, vI 1]) ∧ Ext w0 w' := by
  refine c_enter (n := 10) (args := [(vI w)]) Tryd.func18 rfl rfl (Nat.le_of_ble_eq_true rfl) rfl (fun a hT => ?_)
  simp only [List.zipIdx_cons, List.zipIdx_nil, List.map_cons, List.map_nil, Nat.reduceAdd] at hT
  have hL := Vg.Loc.refl [] w0
  refine c_seq ?_
  refine c_region ?_
  refine l_q hT (q_assign hT rfl) rfl rfl (by decide) ?_; clear hT; intro a hT
  refine l_q hT (q_assign hT rfl) rfl rfl (by decide) ?_; clear hT; intro a hT
  refine l_end ?_
  refine then_norm ?_
  refine c_seq ?_
  refine c_seq ?_
  refine c_region ?_
  refine l_q hT (q_move hT rfl) rfl rfl (by decide) ?_; clear hT; intro a hT
  refine l_do rfl ?_
  refine w_callT (xs := [.tmp 4]) hT rfl (vs := [(vI w)]) rfl (args := #[(vI w)]) rfl Tryd.func29 rfl rfl (by decide) ((width_spec (w) _).mono ?_)
  rintro e w1 ⟨rfl, hX⟩
  refine ⟨_, rfl, ?_⟩; clear hT; intro a hT; replace hT : Tm 10 a ((5, (Value.bool (widthB w))) :: _) := hT
  replace hL := hL.ext hX
  rw [hw] at hT
  refine l_q hT ((q_not hT rfl).b rfl) rfl rfl (by decide) ?_; clear hT; intro a hT
  refine l_end ?_
  refine then_norm ?_
  refine c_true hT rfl rfl ?_
  refine c_seq ?_
  refine c_region ?_
  refine l_q hT (q_assign hT rfl) rfl rfl (by decide) ?_; clear hT; intro a hT
  refine l_q hT (q_assign hT rfl) rfl rfl (by decide) ?_; clear hT; intro a hT
  refine l_end ?_
  refine then_norm ?_
  refine wp_ret ?_
  refine then_ret ?_
  refine c_ret (vs := [(Value.pointer none), (vI 1)]) (rs := [.tmp 2, .tmp 3]) hT rfl (.tmp rfl (.tmp rfl .nil)) ?_
  exact ⟨rfl, hL.drop⟩

set_option maxRecDepth 20000 in
set_option maxHeartbeats 1000000 in
theorem tNew_ok (w : Int) (hw : widthB w = true) (w0 : World) :
    Calls Tryd.prog 18 #[(vI w)] w0 fun e w' => ∃ b, e = .returned (.tuple #[vp b 0, vI 0]) ∧ Vg.Loc [] w0 w' [[(b, ob [vI w, vI 0, .pointer none] 65)]] := by
  refine c_enter (n := 10) (args := [(vI w)]) Tryd.func18 rfl rfl (Nat.le_of_ble_eq_true rfl) rfl (fun a hT => ?_)
  simp only [List.zipIdx_cons, List.zipIdx_nil, List.map_cons, List.map_nil, Nat.reduceAdd] at hT
  have hL := Vg.Loc.refl [] w0
  refine c_seq ?_
  refine c_region ?_
  refine l_q hT (q_assign hT rfl) rfl rfl (by decide) ?_; clear hT; intro a hT
  refine l_q hT (q_assign hT rfl) rfl rfl (by decide) ?_; clear hT; intro a hT
  refine l_end ?_
  refine then_norm ?_
  refine c_seq ?_
  refine c_seq ?_
  refine c_region ?_
  refine l_q hT (q_move hT rfl) rfl rfl (by decide) ?_; clear hT; intro a hT
  refine l_do rfl ?_
  refine w_callT (xs := [.tmp 4]) hT rfl (vs := [(vI w)]) rfl (args := #[(vI w)]) rfl Tryd.func29 rfl rfl (by decide) ((width_spec (w) _).mono ?_)
  rintro e w1 ⟨rfl, hX⟩
  refine ⟨_, rfl, ?_⟩; clear hT; intro a hT; replace hT : Tm 10 a ((5, (Value.bool (widthB w))) :: _) := hT
  replace hL := hL.ext hX
  rw [hw] at hT
  refine l_q hT ((q_not hT rfl).b rfl) rfl rfl (by decide) ?_; clear hT; intro a hT
  refine l_end ?_
  refine then_norm ?_
  refine c_false hT rfl rfl ?_
  refine wp_skip ?_
  refine then_norm ?_
  refine c_seq ?_
  refine c_region ?_
  refine l_q hT (q_move hT rfl) rfl rfl (by decide) ?_; clear hT; intro a hT
  refine l_q hT (q_build (ps := [(0, .tmp 7)]) (pv := [(0, (vI w))]) (v := .agg [(vI w), (vI 0), (Value.pointer none)].toArray) hT rfl (fun _ => by kernel_rfl)) rfl rfl (by decide) ?_; clear hT; intro a hT
  refine l_do rfl ?_
  refine w_box hT hL (by decide) rfl (c := [(vI w), (vI 0), (Value.pointer none)]) rfl ?_; clear hT hL; intro b1 a w2 hT hL hE hB
  refine l_q hT (q_assign hT rfl) rfl rfl (by decide) ?_; clear hT; intro a hT
  refine l_q hT (q_assign hT rfl) rfl rfl (by decide) ?_; clear hT; intro a hT
  refine l_end ?_
  refine then_norm ?_
  refine wp_ret ?_
  refine c_ret (vs := [(vp b1 0), (vI 0)]) (rs := [.tmp 2, .tmp 3]) hT rfl (.tmp rfl (.tmp rfl .nil)) ?_
  exact ⟨_, rfl, hL⟩

set_option maxRecDepth 20000 in
set_option maxHeartbeats 1000000 in
theorem tRoot_spec (b : Nat) (w n : Int) (tt : KT) (hd : DigAt Tryd.prog 33 98 tt w) (w0 : World) (hK : KeysAt w0) (h0 : 0 ∉ (keys [tt.ents 98])) (hb : Rd w0 b 0 [vI w, vI n, .pointer tt.ad]) (hbn : b ∉ (keys [tt.ents 98])) (hL0 : Vg.Loc (keys [tt.ents 98]) w0 w0 [tt.ents 98]) :
    Calls Tryd.prog 20 #[(vp b 0)] w0 fun e w' => e = .returned (dv (tt.dig w)) ∧ Vg.Loc (keys [tt.ents 98]) w0 w' [] := by
  refine c_enter (n := 15) (args := [(vp b 0)]) Tryd.func20 rfl rfl (Nat.le_of_ble_eq_true rfl) rfl (fun a hT => ?_)
  simp only [List.zipIdx_cons, List.zipIdx_nil, List.map_cons, List.map_nil, Nat.reduceAdd] at hT
  have hL := hL0
  refine c_seq ?_
  refine c_region ?_
  refine l_do rfl ?_
  refine w_alloc hT hL (by decide) Tryd.ty24 ?_; clear hT hL; intro b1 a w1 hT hL hE hB
  refine l_end ?_
  refine then_norm ?_
  refine c_seq ?_
  refine c_seq ?_
  refine c_region ?_
  refine l_q hT (q_move hT rfl) rfl rfl (by decide) ?_; clear hT; intro a hT
  refine l_q hT ((q_eq_nil hT rfl rfl Tryd.underlying47).b (b := false) rfl) rfl rfl (by decide) ?_; clear hT; intro a hT
  refine l_end ?_
  refine then_norm ?_
  refine c_false hT rfl rfl ?_
  refine wp_skip ?_
  refine then_norm ?_
  refine c_seq ?_
  refine d_start' hL #[false, false, false, false, false, false, false, false, false, false] [8, 9] rfl rfl rfl ?_; clear hL; intro w2 hL hE; have hR := hL; have hS := Ext.refl w2
  refine d_pure (i := 0) hT #[true, false, false, false, false, false, false, false, false, false] rfl (by kernel_rfl) rfl rfl (by decide) (fun _ _ _ h => h) (fun _ => q_move hT rfl) ?_; clear hT; intro a hT
  refine d_pure (i := 1) hT #[true, true, false, false, false, false, false, false, false, false] rfl (by kernel_rfl) rfl rfl (by decide) (fun _ _ _ h => h) (fun _ => q_nilCheck hT rfl) ?_; clear hT; intro a hT
  refine d_pure (i := 2) hT #[true, true, true, false, false, false, false, false, false, false] rfl (by kernel_rfl) rfl rfl (by decide) (fun _ _ _ h => h) (fun _ => q_fieldAddr hT rfl Tryd.fld65_2 rfl) ?_; clear hT; intro a hT
  refine d_pure (i := 4) hT #[true, true, true, false, true, false, false, false, false, false] rfl (by kernel_rfl) rfl rfl (by decide) (fun _ _ _ h => h) (fun _ => q_move hT rfl) ?_; clear hT; intro a hT
  refine d_pure (i := 5) hT #[true, true, true, false, true, true, false, false, false, false] rfl (by kernel_rfl) rfl rfl (by decide) (fun _ _ _ h => h) (fun _ => q_nilCheck hT rfl) ?_; clear hT; intro a hT
  refine d_pure (i := 6) hT #[true, true, true, false, true, true, true, false, false, false] rfl (by kernel_rfl) rfl rfl (by decide) (fun _ _ _ h => h) (fun _ => q_fieldAddr hT rfl Tryd.fld65_0 rfl) ?_; clear hT; intro a hT
  refine d_take (i := 3) hT #[true, true, true, true, true, true, true, false, false, false] rfl (by kernel_rfl) rfl rfl (by decide) (fun _ _ _ h => h) (fun _ hs => q_load hT rfl Tryd.ty63 (Rd.ext ((Rd.loc hb hR hbn).part 2 (ds := [(Value.pointer tt.ad)]) rfl) hs)) hS ?_; clear hT; intro a hT
  refine d_take (i := 7) hT #[true, true, true, true, true, true, true, true, false, false] rfl (by kernel_rfl) rfl rfl (by decide) (fun _ _ _ h => h) (fun _ hs => q_load hT rfl Tryd.ty3 (Rd.ext ((Rd.loc hb hR hbn).part 0 (ds := [(vI w)]) rfl) hs)) hS ?_; clear hT; intro a hT
  refine d_one (i := 8) hT #[true, true, true, true, true, true, true, true, true, false] rfl (by kernel_rfl) rfl ?_
  replace hL : Vg.Loc (keys [tt.ents 98]) w0 w2 ([tt.ents 98, [(b1, ob (digC Dig.zero) 24)]]) := hL.front 1 rfl rfl
  refine w_callT (xs := [.tmp 9, .tmp 13]) hT rfl (vs := [(Value.pointer tt.ad), (vI w)]) rfl (args := #[(Value.pointer tt.ad), (vI w)]) rfl Tryd.func33 rfl rfl (by decide) ((hd _ (KeysAt.of hK hL h0) h0 (Vg.Loc.self (cs := [tt.ents 98]) hL)).mono ?_)
  rintro e w3 ⟨rfl, hX⟩
  refine ⟨_, rfl, ?_⟩; clear hT; intro a hT; replace hT : Tm 15 a ((14, (Value.agg (digC (tt.dig w)).toArray)) :: _) := hT
  replace hL : Vg.Loc (keys [tt.ents 98]) w0 w3 ([[(b1, ob (digC Dig.zero) 24)]]) := Vg.Loc.call (ci := [tt.ents 98]) (cr := [[(b1, ob (digC Dig.zero) 24)]]) hL hX
  refine ⟨fun hn => absurd (by decide) hn, ?_⟩
  refine d_one (i := 9) hT #[true, true, true, true, true, true, true, true, true, true] rfl (by kernel_rfl) rfl ?_
  refine w_store hT hL 0 (c := digC Dig.zero) rfl rfl Tryd.ty24 rfl (vs := digC (tt.dig w)) rfl rfl (by first | decide | (simp [arr32_len, arr8_len, digC_len]; done) | (simp [arr32_len, arr8_len, digC_len]; omega)) rfl (c' := digC (tt.dig w)) rfl ?_; clear hL; intro w4 hL hE
  replace hL : Vg.Loc (keys [tt.ents 98]) w0 w4 ([[(b1, ob (digC (tt.dig w)) 24)]]) := hL
  refine ⟨fun hn => absurd (by decide) hn, ?_⟩
  refine d_done (by kernel_rfl) ?_; clear hR hS
  refine then_norm ?_
  refine wp_ret ?_
  refine c_ret (vs := [(Value.agg (digC (tt.dig w)).toArray)]) (rs := [.cell 2 24]) hT rfl (.agg rfl Tryd.ty24 (hL.rd 0 rfl 0 (ds := digC (tt.dig w)) rfl) rfl .nil) ?_
  exact ⟨rfl, hL.drop⟩

set_option maxRecDepth 100000 in
set_option maxHeartbeats 4000000 in
theorem Set_limit (htw : TwiceOK Tryd.prog 30) (b : Nat) (w : Int) (ls : List Leaf) (p : Option Addr) (len cap : Nat) (hc : 4096 < len) (w0 : World) (hsl : SlT w0 p len 64 leafC noLeaf ls) (hds : 0 < len → ∀ ad : Addr, p = some ad → ad.block ∉ [b]) (hh : w0.heap[b]? = some (ob [vI w, vI 0, .pointer none] 65)) :
    Calls Tryd.prog 19 #[(vp b 0), (Value.slice p len cap)] w0 fun e w' => e = .returned (vI 2) ∧ Vg.Loc [b] w0 w' [] := by
  refine c_enter (n := 60) (args := [(vp b 0), (Value.slice p len cap)]) Tryd.func19 rfl rfl (Nat.le_of_ble_eq_true rfl) rfl (fun a hT => ?_)
  simp only [List.zipIdx_cons, List.zipIdx_nil, List.map_cons, List.map_nil, Nat.reduceAdd] at hT
  have hL := Vg.Loc.start1 hh
  have hlen : ls.length = len := hsl.1
  refine c_seq ?_
  refine c_region ?_
  refine l_q hT (q_assign hT rfl) rfl rfl (by decide) ?_; clear hT; intro a hT
  refine l_end ?_
  refine then_norm ?_
  refine c_seq ?_
  refine wp_block ?_
  refine c_seq ?_
  refine c_region ?_
  refine l_q hT (q_move hT rfl) rfl rfl (by decide) ?_; clear hT; intro a hT
  refine l_q hT ((q_eq_nil hT rfl rfl Tryd.underlying47).b (b := false) rfl) rfl rfl (by decide) ?_; clear hT; intro a hT
  refine l_q hT (q_assign hT rfl) rfl rfl (by decide) ?_; clear hT; intro a hT
  refine l_end ?_
  refine then_norm ?_
  refine c_false hT rfl rfl ?_
  refine c_seq ?_
  refine c_region ?_
  refine l_q hT (q_move hT rfl) rfl rfl (by decide) ?_; clear hT; intro a hT
  refine l_q hT (q_len_slice hT rfl Tryd.underlying22) rfl rfl (by decide) ?_; clear hT; intro a hT
  refine l_q hT ((q_gtr hT rfl rfl).b (c := decide (4096 < (len : Int))) (b := true) (by simp; omega)) rfl rfl (by decide) ?_; clear hT; intro a hT
  refine l_q hT (q_assign hT rfl) rfl rfl (by decide) ?_; clear hT; intro a hT
  refine l_end ?_
  refine then_norm ?_
  refine c_true hT rfl rfl ?_
  refine c_seq ?_
  refine c_region ?_
  refine l_q hT (q_assign hT rfl) rfl rfl (by decide) ?_; clear hT; intro a hT
  refine l_end ?_
  refine then_norm ?_
  refine wp_ret ?_
  refine blk_ret ?_
  refine then_ret ?_
  refine c_ret (vs := [(vI 2)]) (rs := [.tmp 4]) hT rfl (.tmp rfl .nil) ?_
  exact ⟨rfl, hL.drop⟩

set_option maxRecDepth 100000 in
set_option maxHeartbeats 4000000 in
theorem Set_twice (htw : TwiceOK Tryd.prog 30) (b : Nat) (w : Int) (ls : List Leaf) (p : Option Addr) (len cap : Nat) (hc : len ≤ 4096) (htt : twins ls = true) (w0 : World) (hsl : SlT w0 p len 64 leafC noLeaf ls) (hds : 0 < len → ∀ ad : Addr, p = some ad → ad.block ∉ [b]) (hh : w0.heap[b]? = some (ob [vI w, vI 0, .pointer none] 65)) :
    Calls Tryd.prog 19 #[(vp b 0), (Value.slice p len cap)] w0 fun e w' => e = .returned (vI 30) ∧ Vg.Loc [b] w0 w' [] := by
  refine c_enter (n := 60) (args := [(vp b 0), (Value.slice p len cap)]) Tryd.func19 rfl rfl (Nat.le_of_ble_eq_true rfl) rfl (fun a hT => ?_)
  simp only [List.zipIdx_cons, List.zipIdx_nil, List.map_cons, List.map_nil, Nat.reduceAdd] at hT
  have hL := Vg.Loc.start1 hh
  have hlen : ls.length = len := hsl.1
  refine c_seq ?_
  refine c_region ?_
  refine l_q hT (q_assign hT rfl) rfl rfl (by decide) ?_; clear hT; intro a hT
  refine l_end ?_
  refine then_norm ?_
  refine c_seq ?_
  refine wp_block ?_
  refine c_seq ?_
  refine c_region ?_
  refine l_q hT (q_move hT rfl) rfl rfl (by decide) ?_; clear hT; intro a hT
  refine l_q hT ((q_eq_nil hT rfl rfl Tryd.underlying47).b (b := false) rfl) rfl rfl (by decide) ?_; clear hT; intro a hT
  refine l_q hT (q_assign hT rfl) rfl rfl (by decide) ?_; clear hT; intro a hT
  refine l_end ?_
  refine then_norm ?_
  refine c_false hT rfl rfl ?_
  refine c_seq ?_
  refine c_region ?_
  refine l_q hT (q_move hT rfl) rfl rfl (by decide) ?_; clear hT; intro a hT
  refine l_q hT (q_len_slice hT rfl Tryd.underlying22) rfl rfl (by decide) ?_; clear hT; intro a hT
  refine l_q hT ((q_gtr hT rfl rfl).b (c := decide (4096 < (len : Int))) (b := false) (decide_eq_false (by omega))) rfl rfl (by decide) ?_; clear hT; intro a hT
  refine l_q hT (q_assign hT rfl) rfl rfl (by decide) ?_; clear hT; intro a hT
  refine l_end ?_
  refine then_norm ?_
  refine c_false hT rfl rfl ?_
  refine c_seq ?_
  refine c_region ?_
  refine l_q hT (q_move hT rfl) rfl rfl (by decide) ?_; clear hT; intro a hT
  refine l_do rfl ?_
  refine w_callT (xs := [.tmp 19]) hT rfl (vs := [(Value.slice p len cap)]) rfl (args := #[(Value.slice p len cap)]) rfl Tryd.func30 rfl rfl (by decide) ((htw ls p len cap _ (hsl.loc hL hds) hc).mono ?_)
  rintro e w1 ⟨rfl, hX⟩
  refine ⟨_, rfl, ?_⟩; clear hT; intro a hT; replace hT : Tm 60 a ((20, (Value.bool (twins ls))) :: _) := hT
  replace hL := hL.ext hX
  rw [htt] at hT
  refine l_q hT (q_assign hT rfl) rfl rfl (by decide) ?_; clear hT; intro a hT
  refine l_end ?_
  refine then_norm ?_
  refine c_true hT rfl rfl ?_
  refine c_seq ?_
  refine c_region ?_
  refine l_q hT (q_assign hT rfl) rfl rfl (by decide) ?_; clear hT; intro a hT
  refine l_end ?_
  refine then_norm ?_
  refine wp_ret ?_
  refine blk_ret ?_
  refine then_ret ?_
  refine c_ret (vs := [(vI 30)]) (rs := [.tmp 4]) hT rfl (.tmp rfl .nil) ?_
  exact ⟨rfl, hL.drop⟩

set_option maxRecDepth 100000 in
set_option maxHeartbeats 4000000 in
theorem Set_ok (htw : TwiceOK Tryd.prog 30) (b : Nat) (w : Int) (ls : List Leaf) (p : Option Addr) (len cap : Nat) (hc : len ≤ 4096) (htt : twins ls = false) (w0 : World) (hsl : SlT w0 p len 64 leafC noLeaf ls) (hds : 0 < len → ∀ ad : Addr, p = some ad → ad.block ∉ [b]) (hh : w0.heap[b]? = some (ob [vI w, vI 0, .pointer none] 65)) :
    Calls Tryd.prog 19 #[(vp b 0), (Value.slice p len cap)] w0 fun e w' => ∃ tt, e = .returned (vI 0) ∧ Vg.Loc [b] w0 w' [[(b, ob [vI w, vI (len : Int), .pointer tt.ad] 65)], tt.ents 98] ∧ Rep tt ls.reverse 0 := by
  refine c_enter (n := 60) (args := [(vp b 0), (Value.slice p len cap)]) Tryd.func19 rfl rfl (Nat.le_of_ble_eq_true rfl) rfl (fun a hT => ?_)
  simp only [List.zipIdx_cons, List.zipIdx_nil, List.map_cons, List.map_nil, Nat.reduceAdd] at hT
  have hL := Vg.Loc.start1 hh
  have hlen : ls.length = len := hsl.1
  refine c_seq ?_
  refine c_region ?_
  refine l_q hT (q_assign hT rfl) rfl rfl (by decide) ?_; clear hT; intro a hT
  refine l_end ?_
  refine then_norm ?_
  refine c_seq ?_
  refine wp_block ?_
  refine c_seq ?_
  refine c_region ?_
  refine l_q hT (q_move hT rfl) rfl rfl (by decide) ?_; clear hT; intro a hT
  refine l_q hT ((q_eq_nil hT rfl rfl Tryd.underlying47).b (b := false) rfl) rfl rfl (by decide) ?_; clear hT; intro a hT
  refine l_q hT (q_assign hT rfl) rfl rfl (by decide) ?_; clear hT; intro a hT
  refine l_end ?_
  refine then_norm ?_
  refine c_false hT rfl rfl ?_
  refine c_seq ?_
  refine c_region ?_
  refine l_q hT (q_move hT rfl) rfl rfl (by decide) ?_; clear hT; intro a hT
  refine l_q hT (q_len_slice hT rfl Tryd.underlying22) rfl rfl (by decide) ?_; clear hT; intro a hT
  refine l_q hT ((q_gtr hT rfl rfl).b (c := decide (4096 < (len : Int))) (b := false) (decide_eq_false (by omega))) rfl rfl (by decide) ?_; clear hT; intro a hT
  refine l_q hT (q_assign hT rfl) rfl rfl (by decide) ?_; clear hT; intro a hT
  refine l_end ?_
  refine then_norm ?_
  refine c_false hT rfl rfl ?_
  refine c_seq ?_
  refine c_region ?_
  refine l_q hT (q_move hT rfl) rfl rfl (by decide) ?_; clear hT; intro a hT
  refine l_do rfl ?_
  refine w_callT (xs := [.tmp 19]) hT rfl (vs := [(Value.slice p len cap)]) rfl (args := #[(Value.slice p len cap)]) rfl Tryd.func30 rfl rfl (by decide) ((htw ls p len cap _ (hsl.loc hL hds) hc).mono ?_)
  rintro e w1 ⟨rfl, hX⟩
  refine ⟨_, rfl, ?_⟩; clear hT; intro a hT; replace hT : Tm 60 a ((20, (Value.bool (twins ls))) :: _) := hT
  replace hL := hL.ext hX
  rw [htt] at hT
  refine l_q hT (q_assign hT rfl) rfl rfl (by decide) ?_; clear hT; intro a hT
  refine l_end ?_
  refine then_norm ?_
  refine c_false hT rfl rfl ?_
  refine wp_skip ?_
  refine blk_norm ?_
  refine then_norm ?_
  refine c_seq ?_
  refine d_start' hL #[false, false, false, false, false, false, false, false, false, false] [] rfl rfl rfl ?_; clear hL; intro w2 hL hE; have hR := hL; have hS := Ext.refl w2
  refine d_pure (i := 0) hT #[true, false, false, false, false, false, false, false, false, false] rfl (by kernel_rfl) rfl rfl (by decide) (fun _ _ _ h => h) (fun _ => q_move hT rfl) ?_; clear hT; intro a hT
  refine d_pure (i := 1) hT #[true, true, false, false, false, false, false, false, false, false] rfl (by kernel_rfl) rfl rfl (by decide) (fun _ _ _ h => h) (fun _ => q_nilCheck hT rfl) ?_; clear hT; intro a hT
  refine d_pure (i := 2) hT #[true, true, true, false, false, false, false, false, false, false] rfl (by kernel_rfl) rfl rfl (by decide) (fun _ _ _ h => h) (fun _ => q_fieldAddr hT rfl Tryd.fld65_2 rfl) ?_; clear hT; intro a hT
  refine d_pure (i := 4) hT #[true, true, true, false, true, false, false, false, false, false] rfl (by kernel_rfl) rfl rfl (by decide) (fun _ _ _ h => h) (fun _ => q_move hT rfl) ?_; clear hT; intro a hT
  refine d_pure (i := 5) hT #[true, true, true, false, true, true, false, false, false, false] rfl (by kernel_rfl) rfl rfl (by decide) (fun _ _ _ h => h) (fun _ => q_nilCheck hT rfl) ?_; clear hT; intro a hT
  refine d_pure (i := 6) hT #[true, true, true, false, true, true, true, false, false, false] rfl (by kernel_rfl) rfl rfl (by decide) (fun _ _ _ h => h) (fun _ => q_fieldAddr hT rfl Tryd.fld65_1 rfl) ?_; clear hT; intro a hT
  refine d_take (i := 3) hT #[true, true, true, true, true, true, true, false, false, false] rfl (by kernel_rfl) rfl rfl (by decide) (fun _ _ _ h => h) (fun _ hs => q_load hT rfl Tryd.ty63 (Rd.ext (hR.rd 0 rfl 2 (ds := [(Value.pointer none)]) rfl) hs)) hS ?_; clear hT; intro a hT
  refine d_pure (i := 8) hT #[true, true, true, true, true, true, true, false, true, false] rfl (by kernel_rfl) rfl rfl (by decide) (fun _ _ _ h => h) (fun _ => q_assign hT rfl) ?_; clear hT; intro a hT
  refine d_take (i := 7) hT #[true, true, true, true, true, true, true, true, true, false] rfl (by kernel_rfl) rfl rfl (by decide) (fun _ _ _ h => h) (fun _ hs => q_load hT rfl Tryd.ty3 (Rd.ext (hR.rd 0 rfl 1 (ds := [(vI 0)]) rfl) hs)) hS ?_; clear hT; intro a hT
  refine d_pure (i := 9) hT #[true, true, true, true, true, true, true, true, true, true] rfl (by kernel_rfl) rfl rfl (by decide) (fun _ _ _ h => h) (fun _ => q_assign hT rfl) ?_; clear hT; intro a hT
  refine d_done (by kernel_rfl) ?_; clear hR hS
  refine then_norm ?_
  refine c_seq ?_
  refine c_seq ?_
  refine c_region ?_
  refine l_q hT (q_move hT rfl) rfl rfl (by decide) ?_; clear hT; intro a hT
  refine l_q hT (q_len_slice hT rfl Tryd.underlying22) rfl rfl (by decide) ?_; clear hT; intro a hT
  refine l_q hT (q_move hT rfl) rfl rfl (by decide) ?_; clear hT; intro a hT
  refine l_end ?_
  refine then_norm ?_
  refine wp_block ?_
  refine c_loop (fun mz a wz => ∃ (t : Nat) (tt : KT), mz = len - t ∧ t ≤ len ∧ Rep tt (ls.take t).reverse 0 ∧ Tm 60 a [(0, (vp b 0)), (1, (Value.slice p len cap)), (4, (vI 0)), (5, (Value.pointer tt.ad)), (6, (vI (t : Int))), (29, (Value.slice p len cap)), (30, (vI (len : Int))), (31, (vI (t : Int)))] ∧ Vg.Loc [b] w0 wz [[(b, ob [(vI w), (vI 0), (Value.pointer none)] 65)], tt.ents 98]) id len ?_ ?_
  · exact ⟨0, KT.nil, rfl, by omega, by simp [Rep], hT.keep [0, 1, 4, 5, 6, 29, 30, 31] rfl, hL.regroup rfl⟩
  clear hT hL
  rintro mz a w3 ⟨t, tt, rfl, ht, hrep0, hT, hL⟩
  refine c_seq ?_
  refine c_region ?_
  refine l_q hT (q_lss hT rfl rfl) rfl rfl (by decide) ?_; clear hT; intro a hT
  refine l_end ?_
  refine then_norm ?_
  refine c_seq ?_
  refine c_if hT rfl (fun hc1 => ?_) (fun hc1 => ?_)
  · skip
    have hc1 := of_decide_eq_true hc1
    refine wp_skip ?_
    refine then_norm ?_
    refine c_seq ?_
    refine wp_block ?_
    refine c_seq ?_
    refine c_region ?_
    obtain ⟨sb1, so1, hp1, hrd1⟩ := (hsl).2 (by omega)
    refine l_q hT (q_indexAddr (b := sb1) (off := so1) (len := len) (cap := cap) hT (by rw [← hp1]; rfl) rfl Tryd.sli22 (by omega) (by omega)) rfl rfl (by decide) ?_; clear hT; intro a hT
    refine l_q hT (q_load_agg hT rfl Tryd.ty36 (Rd.loc (hrd1 t (by omega)) hL (hds (by omega) _ (by first | assumption | rfl))) rfl) rfl rfl (by decide) ?_; clear hT; intro a hT
    refine l_do rfl ?_
    refine w_alloc hT hL (by decide) Tryd.ty36 ?_; clear hT hL; intro b1 a w4 hT hL hE hB
    refine l_do rfl ?_
    refine w_store hT hL 0 (c := digC Dig.zero ++ (digC Dig.zero)) rfl rfl Tryd.ty36 rfl (vs := digC ((ls.getD t noLeaf).p) ++ (digC ((ls.getD t noLeaf).v))) rfl rfl (by first | decide | (simp [arr32_len, arr8_len, digC_len]; done) | (simp [arr32_len, arr8_len, digC_len]; omega)) rfl (c' := digC ((ls.getD t noLeaf).p) ++ (digC ((ls.getD t noLeaf).v))) rfl ?_; clear hL; intro w5 hL hE
    replace hL : Vg.Loc [b] w0 w5 ([[(b1, ob (digC ((ls.getD t noLeaf).p) ++ (digC ((ls.getD t noLeaf).v))) 36)], [(b, ob [(vI w), (vI 0), (Value.pointer none)] 65)], tt.ents 98]) := hL
    refine l_end ?_
    refine then_norm ?_
    refine c_seq ?_
    refine c_seq ?_
    refine c_region ?_
    refine l_q hT (q_move hT rfl) rfl rfl (by decide) ?_; clear hT; intro a hT
    refine l_q hT (q_fieldAddr hT rfl Tryd.fld36_0 rfl) rfl rfl (by decide) ?_; clear hT; intro a hT
    refine l_q hT (q_load_agg hT rfl Tryd.ty24 (hL.rd 0 rfl 0 (ds := digC ((ls.getD t noLeaf).p)) rfl) rfl) rfl rfl (by decide) ?_; clear hT; intro a hT
    refine l_do rfl ?_
    refine w_callT (xs := [.tmp 36, .tmp 38]) hT rfl (vs := [(vp b 0), (Value.agg (digC ((ls.getD t noLeaf).p)).toArray)]) rfl (args := #[(vp b 0), (Value.agg (digC ((ls.getD t noLeaf).p)).toArray)]) rfl Tryd.func31 rfl rfl (by decide) ((Get_none b w 0 ((ls.getD t noLeaf).p) _ (hL.rd 1 rfl 0 rfl)).mono ?_)
    rintro e w6 ⟨rfl, hX⟩
    refine ⟨_, rfl, ?_⟩; clear hT; intro a hT; replace hT : Tm 60 a ((39, (Value.tuple #[(Value.agg (digC Dig.zero).toArray), (Value.bool false)])) :: _) := hT
    replace hL := hL.ext hX
    refine l_q hT (q_move hT rfl) rfl rfl (by decide) ?_; clear hT; intro a hT
    refine l_q hT (q_extract hT rfl rfl) rfl rfl (by decide) ?_; clear hT; intro a hT
    refine l_q hT (q_extract hT rfl rfl) rfl rfl (by decide) ?_; clear hT; intro a hT
    refine l_do rfl ?_
    refine w_alloc hT hL (by decide) Tryd.ty24 ?_; clear hT hL; intro b2 a w7 hT hL hE hB
    refine l_do rfl ?_
    refine w_store hT hL 0 (c := digC Dig.zero) rfl rfl Tryd.ty24 rfl (vs := digC Dig.zero) rfl rfl (by first | decide | (simp [arr32_len, arr8_len, digC_len]; done) | (simp [arr32_len, arr8_len, digC_len]; omega)) rfl (c' := digC Dig.zero) rfl ?_; clear hL; intro w8 hL hE
    replace hL : Vg.Loc [b] w0 w8 ([[(b2, ob (digC Dig.zero) 24)], [(b1, ob (digC ((ls.getD t noLeaf).p) ++ (digC ((ls.getD t noLeaf).v))) 36)], [(b, ob [(vI w), (vI 0), (Value.pointer none)] 65)], tt.ents 98]) := hL
    refine l_q hT (q_assign hT rfl) rfl rfl (by decide) ?_; clear hT; intro a hT
    refine l_end ?_
    refine then_norm ?_
    refine c_seq ?_
    refine c_region ?_
    refine l_q hT (q_move hT rfl) rfl rfl (by decide) ?_; clear hT; intro a hT
    refine l_q hT ((q_not hT rfl).b rfl) rfl rfl (by decide) ?_; clear hT; intro a hT
    refine l_end ?_
    refine then_norm ?_
    refine c_true hT rfl rfl ?_
    refine c_region ?_
    refine l_q hT (q_move hT rfl) rfl rfl (by decide) ?_; clear hT; intro a hT
    refine l_q hT (q_addI hT rfl rfl (r := (t : Int) + 1) rfl (by omega) (by omega)) rfl rfl (by decide) ?_; clear hT; intro a hT
    refine l_q hT (q_assign hT rfl) rfl rfl (by decide) ?_; clear hT; intro a hT
    refine l_end ?_
    refine then_norm ?_
    refine c_region ?_
    refine l_q hT (q_move hT rfl) rfl rfl (by decide) ?_; clear hT; intro a hT
    refine l_q hT (q_load_agg hT rfl Tryd.ty36 (hL.rd 1 rfl 0 (ds := digC ((ls.getD t noLeaf).p) ++ (digC ((ls.getD t noLeaf).v))) rfl) rfl) rfl rfl (by decide) ?_; clear hT; intro a hT
    refine l_do rfl ?_
    replace hL : Vg.Loc [b] w0 w8 ([tt.ents 98, [(b2, ob (digC Dig.zero) 24)], [(b1, ob (digC ((ls.getD t noLeaf).p) ++ (digC ((ls.getD t noLeaf).v))) 36)], [(b, ob [(vI w), (vI 0), (Value.pointer none)] 65)]]) := hL.front 3 rfl rfl
    refine w_callT (xs := [.tmp 46, .tmp 47, .const (.int .i64 0)]) hT rfl (vs := [(Value.pointer tt.ad), (Value.agg (digC ((ls.getD t noLeaf).p) ++ (digC ((ls.getD t noLeaf).v))).toArray), (vI 0)]) rfl (args := #[(Value.pointer tt.ad), (Value.agg (digC ((ls.getD t noLeaf).p) ++ (digC ((ls.getD t noLeaf).v))).toArray), (vI 0)]) rfl Tryd.func32 rfl rfl (by decide) (((with_ok 256 0 rfl) tt (ls.getD t noLeaf) (ls.take t).reverse _ hrep0 (twins_good_cons htt (by omega)) (Vg.Loc.self (cs := [tt.ents 98]) hL)).mono ?_)
    rintro e w9 ⟨t1, rfl, hX, hrep1⟩
    refine ⟨_, rfl, ?_⟩; clear hT; intro a hT; replace hT : Tm 60 a ((48, (Value.pointer t1.ad)) :: _) := hT
    replace hL : Vg.Loc [b] w0 w9 ([t1.ents 98, [(b2, ob (digC Dig.zero) 24)], [(b1, ob (digC ((ls.getD t noLeaf).p) ++ (digC ((ls.getD t noLeaf).v))) 36)], [(b, ob [(vI w), (vI 0), (Value.pointer none)] 65)]]) := Vg.Loc.call (ci := [tt.ents 98]) (cr := [[(b2, ob (digC Dig.zero) 24)], [(b1, ob (digC ((ls.getD t noLeaf).p) ++ (digC ((ls.getD t noLeaf).v))) 36)], [(b, ob [(vI w), (vI 0), (Value.pointer none)] 65)]]) hL hX
    refine l_q hT (q_assign hT rfl) rfl rfl (by decide) ?_; clear hT; intro a hT
    refine l_end ?_
    refine blk_norm ?_
    refine then_norm ?_
    refine c_region ?_
    refine l_q hT (q_addI hT rfl rfl (r := (t : Int) + 1) rfl (by omega) (by omega)) rfl rfl (by decide) ?_; clear hT; intro a hT
    refine l_q hT (q_move hT rfl) rfl rfl (by decide) ?_; clear hT; intro a hT
    refine l_end ?_
    refine then_norm ?_
    replace hL : Vg.Loc [b] w0 w9 ([[(b, ob [(vI w), (vI 0), (Value.pointer none)] 65)], t1.ents 98, [(b2, ob (digC Dig.zero) 24)], [(b1, ob (digC ((ls.getD t noLeaf).p) ++ (digC ((ls.getD t noLeaf).v))) 36)]]) := hL.front 3 rfl rfl
    replace hL : Vg.Loc [b] w0 w9 ([[(b, ob [(vI w), (vI 0), (Value.pointer none)] 65)], t1.ents 98]) := hL.sub (.cons_cons _ (.cons_cons _ (.cons _ (.cons _ .slnil))))
    have hrep := hrep1; rw [← rev_take_succ ls t (by omega)] at hrep
    exact ⟨_, ⟨t + 1, _, rfl, by omega, hrep, hT.keep [0, 1, 4, 5, 6, 29, 30, 31] rfl, hL⟩, by simp only [id]; omega⟩
  · skip
    have hc1 := of_decide_eq_false hc1
    obtain rfl : t = len := by omega
    have hf : ls.take t = ls := List.take_of_length_le (by omega)
    rw [hf] at hrep0
    refine wp_exit ?_
    refine then_exit ?_
    refine then_exit ?_
    refine blk_exit ?_
    refine then_norm ?_
    refine c_seq ?_
    refine c_seq ?_
    refine c_region ?_
    refine l_q hT (q_move hT rfl) rfl rfl (by decide) ?_; clear hT; intro a hT
    refine l_q hT ((q_gtr hT rfl rfl).b (c := decide (4096 < (t : Int))) (b := false) (decide_eq_false (by omega))) rfl rfl (by decide) ?_; clear hT; intro a hT
    refine l_end ?_
    refine then_norm ?_
    refine c_false hT rfl rfl ?_
    refine wp_skip ?_
    refine then_norm ?_
    refine c_seq ?_
    refine c_region ?_
    refine l_q hT (q_move hT rfl) rfl rfl (by decide) ?_; clear hT; intro a hT
    refine l_q hT (q_move hT rfl) rfl rfl (by decide) ?_; clear hT; intro a hT
    refine l_q hT (q_move hT rfl) rfl rfl (by decide) ?_; clear hT; intro a hT
    refine l_q hT (q_move hT rfl) rfl rfl (by decide) ?_; clear hT; intro a hT
    refine l_q hT (q_nilCheck hT rfl) rfl rfl (by decide) ?_; clear hT; intro a hT
    refine l_q hT (q_fieldAddr hT rfl Tryd.fld65_2 rfl) rfl rfl (by decide) ?_; clear hT; intro a hT
    refine l_do rfl ?_
    refine w_store hT hL 0 (c := [(vI w), (vI 0), (Value.pointer none)]) rfl rfl Tryd.ty63 rfl (vs := [(Value.pointer tt.ad)]) rfl rfl (by first | decide | (simp [arr32_len, arr8_len, digC_len]; done) | (simp [arr32_len, arr8_len, digC_len]; omega)) rfl (c' := [(vI w), (vI 0), (Value.pointer tt.ad)]) rfl ?_; clear hL; intro w10 hL hE
    replace hL : Vg.Loc [b] w0 w10 ([[(b, ob [(vI w), (vI 0), (Value.pointer tt.ad)] 65)], tt.ents 98]) := hL
    refine l_q hT (q_nilCheck hT rfl) rfl rfl (by decide) ?_; clear hT; intro a hT
    refine l_q hT (q_fieldAddr hT rfl Tryd.fld65_1 rfl) rfl rfl (by decide) ?_; clear hT; intro a hT
    refine l_do rfl ?_
    refine w_store hT hL 0 (c := [(vI w), (vI 0), (Value.pointer tt.ad)]) rfl rfl Tryd.ty3 rfl (vs := [(vI (t : Int))]) rfl rfl (by first | decide | (simp [arr32_len, arr8_len, digC_len]; done) | (simp [arr32_len, arr8_len, digC_len]; omega)) rfl (c' := [(vI w), (vI (t : Int)), (Value.pointer tt.ad)]) rfl ?_; clear hL; intro w11 hL hE
    replace hL : Vg.Loc [b] w0 w11 ([[(b, ob [(vI w), (vI (t : Int)), (Value.pointer tt.ad)] 65)], tt.ents 98]) := hL
    refine l_end ?_
    refine then_norm ?_
    refine c_seq ?_
    refine c_region ?_
    refine l_q hT (q_assign hT rfl) rfl rfl (by decide) ?_; clear hT; intro a hT
    refine l_end ?_
    refine then_norm ?_
    refine wp_ret ?_
    refine c_ret (vs := [(vI 0)]) (rs := [.tmp 4]) hT rfl (.tmp rfl .nil) ?_
    exact ⟨tt, rfl, hL, hrep0⟩
end Go.Proofs.YtcaffacganffjaaDoor
